/- Rows and keys: plain facts under sort.Distinct and sort.Sort. Own work. -/
import Derived.Test.YtaijlknbeapnhaaDoorSrt
set_option linter.all false
namespace Go.AM

def keysOf (cols : List Int) : List Key := cols.map fun c => ⟨c, false⟩
def same (t : List Row) (ks : List Key) (k i : Nat) : Bool := cmpK (t.getD k []) (t.getD i []) ks == 0
def ids (t : List Row) (ks : List Key) : Nat → List Nat
  | 0 => []
  | i + 1 => if ((ids t ks i).any fun k => same t ks k i) = true then ids t ks i else ids t ks i ++ [i]
def natV (k : Nat) : AV := .int .i64 k
def distV (t : List Row) (cols : List Int) : AV :=
  if colErr t cols ≠ 0 then .tup [.lst (some true) 0 [], errN (colErr t cols)] else .tup [lstF 1 ((ids t (keysOf cols) t.length).map natV), .nili]

theorem ids_lt (t : List Row) (ks : List Key) : ∀ i, ∀ k ∈ ids t ks i, k < i
  | 0, k, h => by simp [ids] at h
  | i + 1, k, h => by
    unfold ids at h
    split at h
    · have := ids_lt t ks i k h; omega
    · rcases List.mem_append.1 h with h | h
      · have := ids_lt t ks i k h; omega
      · simp at h; omega
theorem ids_len (t : List Row) (ks : List Key) : ∀ i, (ids t ks i).length ≤ i
  | 0 => Nat.le_refl _
  | i + 1 => by
    have := ids_len t ks i
    unfold ids
    split
    · omega
    · simp; omega

/-- What a table and columns without fault are like. -/
theorem tab_ok {t : List Row} {cols : List Int} (h : colErr t cols = 0) : t.length ≤ 60 ∧ cols.length ≤ 12 ∧ (∀ (i : Nat) (r : Row), t[i]? = some r → r.length = wideT t ∧ r.length ≤ 12) ∧ (∀ (i : Nat) (r : Row), t[i]? = some r → ∀ c ∈ cols, 0 ≤ c ∧ c < (r.length : Int)) := by
  unfold colErr at h
  split at h
  · omega
  rename_i h1
  have h1 : tabErr t = 0 := by omega
  split at h
  · omega
  rename_i h2
  split at h
  · omega
  rename_i h3
  unfold tabErr at h1
  split at h1
  · omega
  rename_i h4
  split at h1
  · omega
  rename_i h5
  split at h1
  · omega
  rename_i h6
  have w : ∀ (i : Nat) (r : Row), t[i]? = some r → r.length = wideT t ∧ r.length ≤ 12 := by
    intro i r hr
    have hm := List.mem_of_getElem? hr
    simp only [List.any_eq_true, decide_eq_true_eq, not_exists, not_and, bne_iff_ne, ne_eq, Classical.not_not] at h5 h6
    refine ⟨?_, by have := h5 r hm; omega⟩
    rw [h6 r hm]
    cases t with
    | nil => simp at hm
    | cons a t => rfl
  refine ⟨by omega, by omega, w, fun i r hr c hc => ?_⟩
  simp only [List.any_eq_true, Bool.not_eq_true', not_exists, not_and, Bool.not_eq_false] at h3
  have := h3 c hc
  simp only [colOK, Bool.and_eq_true, decide_eq_true_eq] at this
  rw [(w i r hr).1]
  omega

theorem RowOf.one {x : AV} {r : Row} (h : RowOf x r) : x.cells = [x] ∧ x.one = true := by obtain ⟨q, k, rfl, _⟩ := h; exact ⟨rfl, rfl⟩

end Go.AM
