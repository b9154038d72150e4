/- More kinds of what comes in: keys; lists of whole numbers with their lengths. Own work. -/
import Derived.Test.YtniijfcjdlhfcaaDoorArg
import Derived.Test.YtniijfcjdlhfcaaDoorAm26
set_option linter.all false
namespace Go.AM

def shKey : List Sh := [.int .i64, .bool]
theorem fits_key {y : AV} (hl : y.cells.length = 2 ∧ formed true y) (h : ∀ (i : Nat) (s : Sh) (c : AV), shKey[i]? = some s → y.cells[i]? = some c → Fits s c) : ∃ v, y = keyV v := by
  obtain ⟨hl, cs, rfl⟩ := hl
  match cs, hl with
  | [a, b], _ =>
    obtain ⟨n, rfl, _⟩ := fits_int (h 0 _ a rfl rfl)
    obtain ⟨d, rfl⟩ := fits_bool (h 1 _ b rfl rfl)
    exact ⟨⟨n, d⟩, rfl⟩
theorem fits_keys {x : AV} (h : Fits (.sl true shKey) x) : ∃ (q : Option Bool) (ks : List Key), x = .lst q 2 (ks.map keyV) := by
  obtain ⟨q, xs, rfl, _, _, h1, h2⟩ := fits_sl h
  obtain ⟨ks, rfl⟩ := map_of fun y hy => fits_key (h1 y hy) (h2 y hy)
  exact ⟨some q, ks, rfl⟩
theorem fits_ints' {x : AV} (h : Fits (.sl false [.int .i64]) x) : ∃ (q : Option Bool) (l : List Int), x = .lst q 1 (l.map intV) ∧ l.length ≤ maxLen := by
  obtain ⟨q, xs, rfl, hl, h1⟩ := fits_one h
  obtain ⟨l, rfl⟩ := map_of (f := intV) fun y hy => by
    obtain ⟨n, rfl, _⟩ := fits_int (h1 y hy)
    exact ⟨n, rfl⟩
  exact ⟨some q, l, rfl, by rwa [List.length_map] at hl⟩
end Go.AM
