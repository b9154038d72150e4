/- What comes in as a table, as numbers. Own work. -/
import Derived.Test.YtniijfcjdlhfcaaDoorSrd
import Derived.Test.YtniijfcjdlhfcaaDoorAm24
set_option linter.all false
namespace Go.AM

theorem map_of {α : Type} {f : α → AV} : ∀ {ys : List AV}, (∀ y ∈ ys, ∃ v, y = f v) → ∃ vs : List α, ys = vs.map f
  | [], _ => ⟨[], rfl⟩
  | y :: ys, h => by
    obtain ⟨v, rfl⟩ := h y (by simp)
    obtain ⟨vs, rfl⟩ := map_of (ys := ys) fun z hz => h z (List.mem_cons_of_mem _ hz)
    exact ⟨v :: vs, rfl⟩

theorem fits_sl {ag : Bool} {es : List Sh} {x : AV} (h : Fits (.sl ag es) x) : ∃ q xs, x = .lst (some q) es.length xs ∧ (q = true → xs = []) ∧ xs.length ≤ maxLen ∧ (∀ y ∈ xs, y.cells.length = es.length ∧ formed ag y) ∧
    ∀ y ∈ xs, ∀ (i : Nat) (s : Sh) (c : AV), es[i]? = some s → y.cells[i]? = some c → Fits s c := by
  cases h with
  | sl ag es q xs hl hq h1 h2 => exact ⟨q, xs, rfl, hq, hl, h1, h2⟩
theorem fits_int {k : IntKind} {x : AV} (h : Fits (.int k) x) : ∃ n, x = .int k n ∧ (Lit.int k n).wf = true := by cases h with | int k n h => exact ⟨n, rfl, h⟩
theorem fits_str {x : AV} (h : Fits .str x) : ∃ s, x = .str s ∧ s.length ≤ maxLen := by cases h with | str s h => exact ⟨s, rfl, h⟩
theorem fits_bool {x : AV} (h : Fits .bool x) : ∃ b, x = .bool b := by cases h with | bool b => exact ⟨b, rfl⟩

/-- A slice of things of one cell. -/
theorem fits_one {s : Sh} {x : AV} (h : Fits (.sl false [s]) x) : ∃ q xs, x = .lst (some q) 1 xs ∧ xs.length ≤ maxLen ∧ ∀ y ∈ xs, Fits s y := by
  obtain ⟨q, xs, rfl, _, hl, h1, h2⟩ := fits_sl h
  refine ⟨q, xs, rfl, hl, fun y hy => ?_⟩
  have hc : y.cells = [y] := (h1 y hy).2
  exact h2 y hy 0 s y rfl (by rw [hc]; rfl)

def shVal : List Sh := [.int .i64, .int .i64, .str]
theorem fits_val {y : AV} (hl : y.cells.length = 3 ∧ formed true y) (h : ∀ (i : Nat) (s : Sh) (c : AV), shVal[i]? = some s → y.cells[i]? = some c → Fits s c) : ∃ v, y = valV v := by
  obtain ⟨hl, cs, rfl⟩ := hl
  match cs, hl with
  | [a, b, c], _ =>
    obtain ⟨n, rfl, _⟩ := fits_int (h 0 _ a rfl rfl)
    obtain ⟨m, rfl, _⟩ := fits_int (h 1 _ b rfl rfl)
    obtain ⟨s, rfl, _⟩ := fits_str (h 2 _ c rfl rfl)
    exact ⟨⟨n, m, s⟩, rfl⟩
theorem fits_row {x : AV} (h : Fits (.sl true shVal) x) : ∃ r, RowOf x r := by
  obtain ⟨q, xs, rfl, _, _, h1, h2⟩ := fits_sl h
  obtain ⟨r, rfl⟩ := map_of fun y hy => fits_val (h1 y hy) (h2 y hy)
  exact ⟨r, _, _, rfl, .inl rfl⟩

theorem rows_of : ∀ {xs : List AV}, (∀ y ∈ xs, ∃ r, RowOf y r) → ∃ t : List Row, xs.length = t.length ∧ ∀ (i : Nat) (r : Row), t[i]? = some r → ∃ x, xs[i]? = some x ∧ RowOf x r
  | [], _ => ⟨[], rfl, fun i r h => by simp at h⟩
  | y :: ys, h => by
    obtain ⟨r, hr⟩ := h y (by simp)
    obtain ⟨t, h1, h2⟩ := rows_of (xs := ys) fun z hz => h z (List.mem_cons_of_mem _ hz)
    refine ⟨r :: t, by simp [h1], fun i r' hi => ?_⟩
    cases i with
    | zero => simp at hi; subst hi; exact ⟨y, rfl, hr⟩
    | succ i => simp at hi; simpa using h2 i r' hi
theorem fits_tab {x : AV} (h : Fits (.sl false [.sl true shVal]) x) : ∃ t, ∀ H, TabOf H x t := by
  obtain ⟨q, xs, rfl, _, h1⟩ := fits_one h
  obtain ⟨t, h2, h3⟩ := rows_of fun y hy => fits_row (h1 y hy)
  exact ⟨t, fun H => ⟨xs, by simp [view], h2, h3⟩⟩
theorem fits_ints {x : AV} (h : Fits (.sl false [.int .i64]) x) : ∃ cols : List Int, LstOf x 1 (cols.map intV) := by
  obtain ⟨q, xs, rfl, _, h1⟩ := fits_one h
  obtain ⟨cols, rfl⟩ := map_of (f := intV) fun y hy => by obtain ⟨n, hn, _⟩ := fits_int (h1 y hy); exact ⟨n, hn⟩
  exact ⟨cols, _, _, rfl, .inl rfl⟩
end Go.AM
