/- Plain facts on rows that are alike. Own work. -/
import Derived.Test.YtaijlknbeapnhaaDoorSrp
set_option linter.all false
namespace Go.AM
/-! ### Plain facts -/

theorem bytesLess_self : ∀ s : List UInt8, Op.bytesLess s s = false
  | [] => rfl
  | a :: x => by
    simp only [Op.bytesLess, bytesLess_self x, Bool.and_false, Bool.or_false, decide_eq_false_iff_not]
    exact UInt8.lt_irrefl a
theorem cmpI_zero {a b : Int} : cmpI a b = 0 ↔ a = b := by unfold cmpI; split <;> (try split) <;> omega
theorem cmpS_zero {a b : List UInt8} : cmpS a b = 0 ↔ a = b := by
  unfold cmpS
  constructor
  · intro h
    split at h
    · omega
    · split at h
      · omega
      · rename_i h1 h2
        simp only [Bool.not_eq_true, Bool.not_eq_false', Bool.or_eq_true, beq_iff_eq] at h1 h2
        rw [h1] at h2
        simpa using h2
  · intro h
    subst h
    rw [if_neg (by rw [bytesLess_self]; simp), if_neg (by simp)]
theorem cmpV_zero {a b : Val} : cmpV a b = 0 ↔ a = b := by
  unfold cmpV
  simp only [orI, bne_iff_ne, ne_eq]
  constructor
  · intro h
    split at h
    · rename_i h1; exact absurd h h1
    · rename_i h1
      split at h
      · rename_i h2; exact absurd h h2
      · rename_i h2
        split at h
        · rename_i h3; exact absurd h h3
        · rename_i h3
          have e1 := cmpI_zero.1 (Classical.not_not.1 h1)
          have e2 := cmpI_zero.1 (Classical.not_not.1 h2)
          have e3 := cmpS_zero.1 (Classical.not_not.1 h3)
          cases a; cases b; simp_all
  · intro h
    subst h
    simp [cmpI_zero.2 rfl, cmpS_zero.2 rfl]

theorem keyC_zero {a b : Row} {c : Int} : keyC a b ⟨c, false⟩ = 0 ↔ a.getD c.toNat default = b.getD c.toNat default := by
  unfold keyC
  simp only [Bool.false_eq_true, if_false]
  exact cmpV_zero
theorem cmpK_zero {a b : Row} : ∀ {cols : List Int}, cmpK a b (keysOf cols) = 0 ↔ ∀ c ∈ cols, a.getD c.toNat default = b.getD c.toNat default
  | [] => by simp [keysOf, cmpK]
  | c :: cols => by
    have ih := @cmpK_zero a b cols
    show cmpK a b (⟨c, false⟩ :: keysOf cols) = 0 ↔ _
    by_cases h : keyC a b ⟨c, false⟩ = 0
    · have e : cmpK a b (⟨c, false⟩ :: keysOf cols) = cmpK a b (keysOf cols) := by simp [cmpK, h]
      rw [e, ih]
      simp only [List.mem_cons, forall_eq_or_imp]
      exact ⟨fun h' => ⟨keyC_zero.1 h, h'⟩, fun h' => h'.2⟩
    · have e : cmpK a b (⟨c, false⟩ :: keysOf cols) = keyC a b ⟨c, false⟩ := by simp [cmpK, h]
      rw [e]
      simp only [List.mem_cons, forall_eq_or_imp]
      exact ⟨fun h' => absurd h' h, fun h' => keyC_zero.2 h'.1⟩

theorem same_iff {t : List Row} {cols : List Int} {k i : Nat} : same t (keysOf cols) k i = true ↔ ∀ c ∈ cols, (t.getD k []).getD c.toNat default = (t.getD i []).getD c.toNat default := by
  unfold same; rw [beq_iff_eq]; exact cmpK_zero
theorem same_trans {t : List Row} {cols : List Int} {a b c : Nat} (h1 : same t (keysOf cols) a b = true) (h2 : same t (keysOf cols) b c = true) : same t (keysOf cols) a c = true :=
  same_iff.2 fun x hx => (same_iff.1 h1 x hx).trans (same_iff.1 h2 x hx)
theorem same_symm {t : List Row} {cols : List Int} {a b : Nat} (h1 : same t (keysOf cols) a b = true) : same t (keysOf cols) b a = true :=
  same_iff.2 fun x hx => (same_iff.1 h1 x hx).symm

section
variable {t : List Row} {cols : List Int}
theorem ids_succ (i : Nat) : ids t (keysOf cols) (i + 1) = if ((ids t (keysOf cols) i).any fun k => same t (keysOf cols) k i) = true then ids t (keysOf cols) i else ids t (keysOf cols) i ++ [i] := rfl
theorem ids_old {k : Nat} : ∀ {i : Nat}, k < i → (k ∈ ids t (keysOf cols) i ↔ k ∈ ids t (keysOf cols) (k + 1))
  | 0, h => absurd h (Nat.not_lt_zero _)
  | i + 1, h => by
    by_cases e : k = i
    · subst e; exact Iff.rfl
    · have ih := @ids_old k i (by omega)
      rw [← ih]
      rw [ids_succ]
      split
      · exact Iff.rfl
      · simp [e]
theorem ids_step {k : Nat} : k ∈ ids t (keysOf cols) (k + 1) ↔ ((ids t (keysOf cols) k).any fun j => same t (keysOf cols) j k) = false := by
  rw [ids_succ]
  split
  · rename_i h
    constructor
    · intro h'; have := ids_lt t (keysOf cols) k k h'; omega
    · intro h'; rw [h] at h'; cases h'
  · rename_i h
    simp only [List.mem_append, List.mem_singleton, or_true, true_iff]
    simpa using h
/-- Who is like any one ahead is like one that is left. -/
theorem like_left : ∀ (k i : Nat), k < i → same t (keysOf cols) k i = true → ∃ j, j ∈ ids t (keysOf cols) i ∧ same t (keysOf cols) j i = true := by
  intro k
  induction k using Nat.strongRecOn with
  | ind k ih =>
    intro i hk hs
    by_cases h : k ∈ ids t (keysOf cols) i
    · exact ⟨k, h, hs⟩
    · rw [ids_old hk, ids_step] at h
      simp only [Bool.not_eq_false, List.any_eq_true] at h
      obtain ⟨j, hj, hjk⟩ := h
      have := ids_lt t _ k j hj
      exact ih j this i (by omega) (same_trans hjk hs)
/-- A row is left just where it is like none ahead. -/
theorem left_iff {i n : Nat} (h : i < n) : i ∈ ids t (keysOf cols) n ↔ ∀ k, k < i → same t (keysOf cols) k i = false := by
  rw [ids_old h, ids_step]
  constructor
  · intro h' k hk
    cases hs : same t (keysOf cols) k i with
    | false => rfl
    | true =>
      obtain ⟨j, hj, hjs⟩ := like_left k i hk hs
      rw [List.any_eq_false] at h'
      exact absurd hjs (h' j hj)
  · intro h'
    rw [List.any_eq_false]
    intro j hj
    rw [h' j (ids_lt t _ i j hj)]; simp
theorem ids_sorted : ∀ n, (ids t (keysOf cols) n).Pairwise (· < ·)
  | 0 => List.Pairwise.nil
  | n + 1 => by
    rw [ids_succ]
    split
    · exact ids_sorted n
    · rw [List.pairwise_append]
      exact ⟨ids_sorted n, List.pairwise_singleton _ _, fun a ha b hb => by simp at hb; subst hb; exact ids_lt t _ b a ha⟩
end

end Go.AM
