/- Big numbers by words of 32 bits: plain facts. Own work. -/
import Derived.Test.YtibdekobocpfdaaDoorAm29
set_option linter.all false
namespace Go.AM

/-- The words of a number, the least first. -/
def wdsF : Nat → Nat → List Nat
  | 0, _ => []
  | f + 1, n => if n = 0 then [] else (n % 4294967296) :: wdsF f (n / 4294967296)
def wds (n : Nat) : List Nat := wdsF n n
def wval : List Nat → Nat
  | [] => 0
  | w :: ws => w + 4294967296 * wval ws
def Small (ws : List Nat) : Prop := ∀ w ∈ ws, w < 4294967296

theorem wdsF_fuel : ∀ f g n, n ≤ f → n ≤ g → wdsF f n = wdsF g n
  | 0, 0, _, _, _ => rfl
  | 0, g + 1, n, h, _ => by have : n = 0 := by omega
                            subst this; rfl
  | f + 1, 0, n, _, h => by have : n = 0 := by omega
                            subst this; rfl
  | f + 1, g + 1, n, h, k => by
    simp only [wdsF]
    split
    · rfl
    · rw [wdsF_fuel f g (n / 4294967296) (by omega) (by omega)]
theorem wds_zero : wds 0 = [] := rfl
theorem wds_pos {n : Nat} (h : n ≠ 0) : wds n = (n % 4294967296) :: wds (n / 4294967296) := by
  unfold wds
  obtain ⟨m, rfl⟩ : ∃ m, n = m + 1 := ⟨n - 1, by omega⟩
  rw [wdsF, if_neg h, wdsF_fuel m ((m + 1) / 4294967296) _ (by omega) (Nat.le_refl _)]
theorem wval_wds (n : Nat) : wval (wds n) = n := by
  induction n using Nat.strongRecOn with
  | ind n ih =>
    by_cases h : n = 0
    · subst h; rfl
    · rw [wds_pos h, wval, ih _ (by omega)]; omega
theorem wds_small (n : Nat) : Small (wds n) := by
  induction n using Nat.strongRecOn with
  | ind n ih =>
    by_cases h : n = 0
    · subst h; intro w hw; cases hw
    · rw [wds_pos h]
      intro w hw
      rcases List.mem_cons.1 hw with rfl | hw
      · omega
      · exact ih _ (by omega) w hw
theorem wds_cons {w : Nat} {v : Nat} (hw : w < 4294967296) (h : w ≠ 0 ∨ v ≠ 0) : wds (w + 4294967296 * v) = w :: wds v := by
  rw [wds_pos (by omega)]
  have e1 : (w + 4294967296 * v) % 4294967296 = w := by omega
  have e2 : (w + 4294967296 * v) / 4294967296 = v := by omega
  rw [e1, e2]
/-- Noughts at the end alone are lost. -/
theorem wds_pad : ∀ ws : List Nat, Small ws → ∃ k, ws = wds (wval ws) ++ List.replicate k 0
  | [], _ => ⟨0, rfl⟩
  | w :: ws, h => by
    obtain ⟨k, hk⟩ := wds_pad ws fun x hx => h x (List.mem_cons_of_mem _ hx)
    have hw := h w (by simp)
    by_cases hz : w = 0 ∧ wval ws = 0
    · refine ⟨k + 1, ?_⟩
      rw [wval, hz.1, hz.2]
      rw [hz.2] at hk
      simp only [Nat.mul_zero, Nat.add_zero, wds_zero, List.nil_append] at hk ⊢
      rw [List.replicate_succ, ← hk]
    · refine ⟨k, ?_⟩
      rw [wval, wds_cons hw (by omega), List.cons_append, ← hk]
theorem wds_take {ws : List Nat} (h : Small ws) : (wds (wval ws)).length ≤ ws.length ∧ ws.take (wds (wval ws)).length = wds (wval ws) := by
  obtain ⟨k, hk⟩ := wds_pad ws h
  constructor
  · conv => rhs; rw [hk]
    simp
  · conv => lhs; rw [hk]
    have : wval (wds (wval ws) ++ List.replicate k 0) = wval ws := by rw [← hk]
    rw [this]
    simp
theorem wds_val {ws : List Nat} (h : Small ws) (hl : ∀ w, ws.getLast? = some w → w ≠ 0) : wds (wval ws) = ws := by
  obtain ⟨k, hk⟩ := wds_pad ws h
  cases k with
  | zero => rw [List.replicate_zero, List.append_nil] at hk; exact hk.symm
  | succ k =>
    exfalso
    refine hl 0 ?_ rfl
    rw [hk, List.replicate_succ', ← List.append_assoc, List.getLast?_append]
    simp
theorem wval_append : ∀ xs ys : List Nat, wval (xs ++ ys) = wval xs + 4294967296 ^ xs.length * wval ys
  | [], ys => by simp [wval]
  | x :: xs, ys => by
    simp only [List.cons_append, wval, wval_append xs ys, List.length_cons]
    rw [Nat.mul_add, ← Nat.mul_assoc, Nat.pow_succ, Nat.mul_comm (4294967296 ^ xs.length) 4294967296]
    omega
theorem wval_snoc (xs : List Nat) (y : Nat) : wval (xs ++ [y]) = wval xs + 4294967296 ^ xs.length * y := by
  rw [wval_append]; simp [wval]
theorem wval_take_succ {ws : List Nat} {i : Nat} (h : i < ws.length) : wval (ws.take (i + 1)) = wval (ws.take i) + 4294967296 ^ i * ws[i] := by
  rw [List.take_succ_eq_append_getElem h, wval_snoc, List.length_take, Nat.min_eq_left (by omega)]
theorem wval_lt : ∀ {ws : List Nat}, Small ws → wval ws < 4294967296 ^ ws.length
  | [], _ => by simp [wval]
  | w :: ws, h => by
    have h1 := h w (by simp)
    have h2 := wval_lt (ws := ws) fun x hx => h x (List.mem_cons_of_mem _ hx)
    simp only [wval, List.length_cons]
    rw [Nat.pow_succ, Nat.mul_comm (4294967296 ^ ws.length) 4294967296]
    omega
theorem wval_zeros (k : Nat) : wval (List.replicate k 0) = 0 := by
  induction k with
  | zero => rfl
  | succ k ih => rw [List.replicate_succ, wval, ih]
theorem wds_ge : ∀ (n : Nat), n ≠ 0 → 4294967296 ^ ((wds n).length - 1) ≤ n := by
  intro n
  induction n using Nat.strongRecOn with
  | ind n ih =>
    intro h
    rw [wds_pos h, List.length_cons, Nat.add_sub_cancel]
    by_cases h2 : n / 4294967296 = 0
    · rw [h2]; simp [wds_zero]; omega
    · have h3 := ih _ (by omega) h2
      have h4 : (wds (n / 4294967296)).length ≠ 0 := by rw [wds_pos h2]; simp
      obtain ⟨m, hm⟩ : ∃ m, (wds (n / 4294967296)).length = m + 1 := ⟨(wds (n / 4294967296)).length - 1, by omega⟩
      rw [hm] at h3 ⊢
      simp only [Nat.add_sub_cancel] at h3
      rw [Nat.pow_succ]
      omega
theorem wds_lt (n : Nat) : n < 4294967296 ^ (wds n).length := by
  have := wval_lt (wds_small n); rwa [wval_wds] at this
theorem wds_len_lt {a b : Nat} (h : (wds a).length < (wds b).length) : a < b := by
  have hb : b ≠ 0 := fun e => by subst e; simp [wds_zero] at h
  have h1 := wds_lt a
  have h2 := wds_ge b hb
  have h3 : 4294967296 ^ (wds a).length ≤ 4294967296 ^ ((wds b).length - 1) := Nat.pow_le_pow_right (by omega) (by omega)
  omega
theorem wds_len_mono {a b : Nat} (h : a ≤ b) : (wds a).length ≤ (wds b).length := by
  rcases Nat.lt_or_ge (wds b).length (wds a).length with h2 | h2
  · have := wds_len_lt h2; omega
  · exact h2
/-- What holds from above holds. -/
theorem cmp_top {xs ys : List Nat} (hx : Small xs) (hy : Small ys) (hl : xs.length = ys.length) {i : Nat} (hi : i < xs.length) (he : xs.drop (i + 1) = ys.drop (i + 1)) (hlt : xs[i] < ys[i]'(by omega)) : wval xs < wval ys := by
  have h1 : xs = xs.take i ++ xs[i] :: xs.drop (i + 1) := by rw [List.getElem_cons_drop, List.take_append_drop]
  have h2 : ys = ys.take i ++ ys[i]'(by omega) :: ys.drop (i + 1) := by rw [List.getElem_cons_drop, List.take_append_drop]
  have g1 : wval xs = wval (xs.take i) + 4294967296 ^ i * (xs[i] + 4294967296 * wval (xs.drop (i + 1))) := by
    conv => lhs; rw [h1]
    rw [wval_append, List.length_take, Nat.min_eq_left (by omega), wval]
  have g2 : wval ys = wval (ys.take i) + 4294967296 ^ i * (ys[i]'(by omega) + 4294967296 * wval (ys.drop (i + 1))) := by
    conv => lhs; rw [h2]
    rw [wval_append, List.length_take, Nat.min_eq_left (by omega), wval]
  have g3 : wval (xs.take i) < 4294967296 ^ i := by
    have := wval_lt (ws := xs.take i) fun w hw => hx w (List.mem_of_mem_take hw)
    rwa [List.length_take, Nat.min_eq_left (by omega)] at this
  rw [g1, g2, he]
  have g4 : 4294967296 ^ i * (xs[i] + 4294967296 * wval (ys.drop (i + 1)) + 1) ≤ 4294967296 ^ i * (ys[i]'(by omega) + 4294967296 * wval (ys.drop (i + 1))) := Nat.mul_le_mul_left _ (by omega)
  rw [Nat.mul_add, Nat.mul_one] at g4
  omega

/-- How many bits a number has. -/
def bitsF : Nat → Nat → Nat
  | 0, _ => 0
  | f + 1, n => if n = 0 then 0 else bitsF f (n / 2) + 1
def bits (n : Nat) : Nat := bitsF n n
theorem bitsF_fuel : ∀ f g n, n ≤ f → n ≤ g → bitsF f n = bitsF g n
  | 0, 0, _, _, _ => rfl
  | 0, g + 1, n, h, _ => by have : n = 0 := by omega
                            subst this; rfl
  | f + 1, 0, n, _, h => by have : n = 0 := by omega
                            subst this; rfl
  | f + 1, g + 1, n, h, k => by
    simp only [bitsF]
    split
    · rfl
    · rw [bitsF_fuel f g (n / 2) (by omega) (by omega)]
theorem bits_pos {n : Nat} (h : n ≠ 0) : bits n = bits (n / 2) + 1 := by
  unfold bits
  obtain ⟨m, rfl⟩ : ∃ m, n = m + 1 := ⟨n - 1, by omega⟩
  rw [bitsF, if_neg h, bitsF_fuel m ((m + 1) / 2) _ (by omega) (Nat.le_refl _)]
theorem bits_le (k : Nat) : ∀ n, bits n ≤ k ↔ n < 2 ^ k := by
  induction k with
  | zero =>
    intro n
    by_cases h : n = 0
    · subst h; simp [bits, bitsF]
    · rw [bits_pos h]; simp; omega
  | succ k ih =>
    intro n
    by_cases h : n = 0
    · subst h; simp [bits, bitsF]; exact Nat.two_pow_pos _
    · rw [bits_pos h, Nat.pow_succ]
      have := ih (n / 2)
      constructor
      · intro h2
        have := this.1 (by omega)
        omega
      · intro h2
        have := this.2 (by omega)
        omega
end Go.AM
