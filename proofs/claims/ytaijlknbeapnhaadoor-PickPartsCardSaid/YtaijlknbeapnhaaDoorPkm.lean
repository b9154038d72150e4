/- The merge in the law PickParts: plain facts. Own work. -/
import Derived.Test.YtaijlknbeapnhaaDoorPkw
set_option linter.all false
namespace Go.AM

/-- All that is left of a lies in b from k on. -/
def Left (a b : List Nat) (i k : Nat) : Prop := ∀ j x, i ≤ j → a[j]? = some x → ∃ p, k ≤ p ∧ b[p]? = some x

theorem rising {a : List Nat} (h : a.Pairwise (· < ·)) {i j x y : Nat} (hij : i ≤ j) (hi : a[i]? = some x) (hj : a[j]? = some y) : x ≤ y := by
  rcases Nat.lt_or_ge i j with h1 | h1
  · obtain ⟨h2, rfl⟩ := List.getElem?_eq_some_iff.1 hi
    obtain ⟨h3, rfl⟩ := List.getElem?_eq_some_iff.1 hj
    exact Nat.le_of_lt (List.pairwise_iff_getElem.1 h i j h2 h3 h1)
  · obtain rfl : i = j := by omega
    rw [hi] at hj; cases hj; exact Nat.le_refl _

theorem Left.next {a b : List Nat} (ha : a.Pairwise (· < ·)) {i k x y : Nat} (h : Left a b i k) (hx : a[i]? = some x) (hy : b[k]? = some y) (hlt : y < x) : Left a b i (k + 1) := by
  intro j z hj hz
  obtain ⟨p, hp, hb⟩ := h j z hj hz
  have := rising ha hj hx hz
  refine ⟨p, ?_, hb⟩
  rcases Nat.lt_or_ge k p with h1 | h1
  · omega
  · obtain rfl : p = k := by omega
    rw [hy] at hb; cases hb; omega

theorem Left.found {a b : List Nat} (hb : b.Pairwise (· < ·)) {i k x : Nat} (h : Left a b i k) (hx : a[i]? = some x) : k < b.length ∧ ∀ y, b[k]? = some y → ¬ y < x → y = x := by
  obtain ⟨p, hp, hbp⟩ := h i x (Nat.le_refl _) hx
  have hpl := (List.getElem?_eq_some_iff.1 hbp).1
  refine ⟨by omega, fun y hy hn => ?_⟩
  have := rising hb hp hy hbp
  omega

theorem Left.succ {a b : List Nat} {i k : Nat} (h : Left a b i k) : Left a b (i + 1) k := fun j x hj => h j x (by omega)

theorem left_start {a b : List Nat} (h : ∀ x ∈ a, x ∈ b) : Left a b 0 0 := fun j x _ hx => by
  obtain ⟨p, hp⟩ := List.getElem?_of_mem (h x (List.mem_of_getElem? hx))
  exact ⟨p, Nat.zero_le _, hp⟩
end Go.AM
