/- What comes in as wants. Own work. -/
import Derived.Test.YtaijlknbeapnhaaGreatDoorArg
import Derived.Test.YtaijlknbeapnhaaGreatDoorQE
set_option linter.all false
namespace Go.AM
def shWant : List Sh := [.int .i64, .int .i64, .int .i64, .int .i64, .str]
theorem fits_want {y : AV} (hl : y.cells.length = 5 ∧ formed true y) (h : ∀ (i : Nat) (s : Sh) (c : AV), shWant[i]? = some s → y.cells[i]? = some c → Fits s c) : ∃ w, y = wantV w := by
  obtain ⟨hl, cs, rfl⟩ := hl
  match cs, hl with
  | [a, b, c, d, e], _ =>
    obtain ⟨n0, rfl, _⟩ := fits_int (h 0 _ a rfl rfl)
    obtain ⟨n1, rfl, _⟩ := fits_int (h 1 _ b rfl rfl)
    obtain ⟨n2, rfl, _⟩ := fits_int (h 2 _ c rfl rfl)
    obtain ⟨n3, rfl, _⟩ := fits_int (h 3 _ d rfl rfl)
    obtain ⟨s, rfl, _⟩ := fits_str (h 4 _ e rfl rfl)
    exact ⟨⟨n0, n1, ⟨n2, n3, s⟩⟩, rfl⟩
theorem fits_wants {x : AV} (h : Fits (.sl true shWant) x) : ∃ l : List Want, LstOf x 5 (l.map wantV) := by
  obtain ⟨q, xs, rfl, _, _, h1, h2⟩ := fits_sl h
  obtain ⟨l, rfl⟩ := map_of fun y hy => fits_want (h1 y hy) (h2 y hy)
  exact ⟨l, _, _, rfl, .inl rfl⟩
end Go.AM
