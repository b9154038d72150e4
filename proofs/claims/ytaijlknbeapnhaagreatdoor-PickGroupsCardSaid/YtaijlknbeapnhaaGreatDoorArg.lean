/- What comes in as a table, as numbers. Own work. -/
import Derived.Test.YtaijlknbeapnhaaGreatDoorQD
import Derived.Test.YtaijlknbeapnhaaGreatDoorQC
set_option linter.all false
namespace Go.AM

theorem map_of {α : Type} {f : α → AV} : ∀ {ys : List AV}, (∀ y ∈ ys, ∃ v, y = f v) → ∃ vs : List α, ys = vs.map f
  | [], _ => ⟨[], rfl⟩
  | y :: ys, h => by
    obtain ⟨v, rfl⟩ := h y (by simp)
    obtain ⟨vs, rfl⟩ := map_of (ys := ys) fun z hz => h z (List.mem_cons_of_mem _ hz)
    exact ⟨v :: vs, rfl⟩

theorem fits_sl {ag : Bool} {es : List Sh} {x : AV} (h : Fits (.sl ag es) x) : ∃ q xs, x = .lst (some q) es.length xs ∧ (q = true → xs = []) ∧ xs.length ≤ maxLen ∧ (∀ y ∈ xs, y.cells.length = es.length ∧ formed ag y) ∧
    ∀ y ∈ xs, ∀ (i : Nat) (s : Sh) (c : AV), es[i]? = some s → y.cells[i]? = some c → Fits s c := by
  cases h with
  | sl ag es q xs hl hq h1 h2 => exact ⟨q, xs, rfl, hq, hl, h1, h2⟩
theorem fits_int {k : IntKind} {x : AV} (h : Fits (.int k) x) : ∃ n, x = .int k n ∧ (Lit.int k n).wf = true := by cases h with | int k n h => exact ⟨n, rfl, h⟩
theorem fits_str {x : AV} (h : Fits .str x) : ∃ s, x = .str s ∧ s.length ≤ maxLen := by cases h with | str s h => exact ⟨s, rfl, h⟩
theorem fits_bool {x : AV} (h : Fits .bool x) : ∃ b, x = .bool b := by cases h with | bool b => exact ⟨b, rfl⟩

/-- A slice of things of one cell. -/
theorem fits_one {s : Sh} {x : AV} (h : Fits (.sl false [s]) x) : ∃ q xs, x = .lst (some q) 1 xs ∧ xs.length ≤ maxLen ∧ ∀ y ∈ xs, Fits s y := by
  obtain ⟨q, xs, rfl, _, hl, h1, h2⟩ := fits_sl h
  refine ⟨q, xs, rfl, hl, fun y hy => ?_⟩
  have hc : y.cells = [y] := (h1 y hy).2
  exact h2 y hy 0 s y rfl (by rw [hc]; rfl)

def shVal : List Sh := [.int .i64, .int .i64, .str]
theorem fits_val {y : AV} (hl : y.cells.length = 3 ∧ formed true y) (h : ∀ (i : Nat) (s : Sh) (c : AV), shVal[i]? = some s → y.cells[i]? = some c → Fits s c) : ∃ v, y = valV v := by
  obtain ⟨hl, cs, rfl⟩ := hl
  match cs, hl with
  | [a, b, c], _ =>
    obtain ⟨n, rfl, _⟩ := fits_int (h 0 _ a rfl rfl)
    obtain ⟨m, rfl, _⟩ := fits_int (h 1 _ b rfl rfl)
    obtain ⟨s, rfl, _⟩ := fits_str (h 2 _ c rfl rfl)
    exact ⟨⟨n, m, s⟩, rfl⟩
theorem fits_row {x : AV} (h : Fits (.sl true shVal) x) : ∃ r, RowOf x r := by
  obtain ⟨q, xs, rfl, _, _, h1, h2⟩ := fits_sl h
  obtain ⟨r, rfl⟩ := map_of fun y hy => fits_val (h1 y hy) (h2 y hy)
  exact ⟨r, _, _, rfl, .inl rfl⟩

theorem rows_of : ∀ {xs : List AV}, (∀ y ∈ xs, ∃ r, RowOf y r) → ∃ t : List Row, xs.length = t.length ∧ ∀ (i : Nat) (r : Row), t[i]? = some r → ∃ x, xs[i]? = some x ∧ RowOf x r
  | [], _ => ⟨[], rfl, fun i r h => by simp at h⟩
  | y :: ys, h => by
    obtain ⟨r, hr⟩ := h y (by simp)
    obtain ⟨t, h1, h2⟩ := rows_of (xs := ys) fun z hz => h z (List.mem_cons_of_mem _ hz)
    refine ⟨r :: t, by simp [h1], fun i r' hi => ?_⟩
    cases i with
    | zero => simp at hi; subst hi; exact ⟨y, rfl, hr⟩
    | succ i => simp at hi; simpa using h2 i r' hi
theorem fits_tab {x : AV} (h : Fits (.sl false [.sl true shVal]) x) : ∃ t, ∀ H, TabOf H x t := by
  obtain ⟨q, xs, rfl, _, h1⟩ := fits_one h
  obtain ⟨t, h2, h3⟩ := rows_of fun y hy => fits_row (h1 y hy)
  exact ⟨t, fun H => ⟨xs, by simp [view], h2, h3⟩⟩
theorem fits_ints {x : AV} (h : Fits (.sl false [.int .i64]) x) : ∃ cols : List Int, LstOf x 1 (cols.map intV) := by
  obtain ⟨q, xs, rfl, _, h1⟩ := fits_one h
  obtain ⟨cols, rfl⟩ := map_of (f := intV) fun y hy => by obtain ⟨n, hn, _⟩ := fits_int (h1 y hy); exact ⟨n, hn⟩
  exact ⟨cols, _, _, rfl, .inl rfl⟩

/-! ### With what is known of the numbers -/

theorem wf_i64 {n : Int} (h : (Lit.int .i64 n).wf = true) : -9223372036854775808 ≤ n ∧ n ≤ 9223372036854775807 := by
  have h : IntKind.i64.min ≤ n ∧ n ≤ 9223372036854775807 := by simpa [Lit.wf] using h
  have e : IntKind.i64.min = -9223372036854775808 := rfl
  omega
/-- All numbers of a table are words. -/
def TabN (t : List Row) : Prop := ∀ r ∈ t, ∀ v ∈ r, -9223372036854775808 ≤ v.num ∧ v.num ≤ 9223372036854775807
theorem map_ofP {α : Type} {f : α → AV} {p : α → Prop} : ∀ {ys : List AV}, (∀ y ∈ ys, ∃ v, y = f v ∧ p v) → ∃ vs : List α, ys = vs.map f ∧ ∀ v ∈ vs, p v
  | [], _ => ⟨[], rfl, fun v h => by simp at h⟩
  | y :: ys, h => by
    obtain ⟨v, rfl, hv⟩ := h y (by simp)
    obtain ⟨vs, rfl, hvs⟩ := map_ofP (ys := ys) fun z hz => h z (List.mem_cons_of_mem _ hz)
    exact ⟨v :: vs, rfl, fun x hx => by rcases List.mem_cons.1 hx with rfl | hx; exact hv; exact hvs x hx⟩
theorem fits_valN {y : AV} (hl : y.cells.length = 3 ∧ formed true y) (h : ∀ (i : Nat) (s : Sh) (c : AV), shVal[i]? = some s → y.cells[i]? = some c → Fits s c) : ∃ v, y = valV v ∧ (-9223372036854775808 ≤ v.num ∧ v.num ≤ 9223372036854775807) := by
  obtain ⟨hl, cs, rfl⟩ := hl
  match cs, hl with
  | [a, b, c], _ =>
    obtain ⟨n, rfl, _⟩ := fits_int (h 0 _ a rfl rfl)
    obtain ⟨m, rfl, hm⟩ := fits_int (h 1 _ b rfl rfl)
    obtain ⟨s, rfl, _⟩ := fits_str (h 2 _ c rfl rfl)
    exact ⟨⟨n, m, s⟩, rfl, wf_i64 hm⟩
theorem fits_rowN {x : AV} (h : Fits (.sl true shVal) x) : ∃ r, RowOf x r ∧ ∀ v ∈ r, -9223372036854775808 ≤ v.num ∧ v.num ≤ 9223372036854775807 := by
  obtain ⟨q, xs, rfl, _, _, h1, h2⟩ := fits_sl h
  obtain ⟨r, rfl, hr⟩ := map_ofP fun y hy => fits_valN (h1 y hy) (h2 y hy)
  exact ⟨r, ⟨_, _, rfl, .inl rfl⟩, hr⟩
theorem rows_ofN : ∀ {xs : List AV}, (∀ y ∈ xs, ∃ r, RowOf y r ∧ ∀ v ∈ r, -9223372036854775808 ≤ v.num ∧ v.num ≤ 9223372036854775807) → ∃ t : List Row, TabN t ∧ xs.length = t.length ∧ ∀ (i : Nat) (r : Row), t[i]? = some r → ∃ x, xs[i]? = some x ∧ RowOf x r
  | [], _ => ⟨[], fun r h => by simp at h, rfl, fun i r h => by simp at h⟩
  | y :: ys, h => by
    obtain ⟨r, hr, hn⟩ := h y (by simp)
    obtain ⟨t, h0, h1, h2⟩ := rows_ofN (xs := ys) fun z hz => h z (List.mem_cons_of_mem _ hz)
    refine ⟨r :: t, fun r' hr' => ?_, by simp [h1], fun i r' hi => ?_⟩
    · rcases List.mem_cons.1 hr' with rfl | hr'
      · exact hn
      · exact h0 r' hr'
    · cases i with
      | zero => simp at hi; subst hi; exact ⟨y, rfl, hr⟩
      | succ i => simp at hi; simpa using h2 i r' hi
theorem fits_tabN {x : AV} (h : Fits (.sl false [.sl true shVal]) x) : ∃ t, TabN t ∧ ∀ H, TabOf H x t := by
  obtain ⟨q, xs, rfl, _, h1⟩ := fits_one h
  obtain ⟨t, h0, h2, h3⟩ := rows_ofN fun y hy => fits_rowN (h1 y hy)
  exact ⟨t, h0, fun H => ⟨xs, by simp [view], h2, h3⟩⟩
end Go.AM
