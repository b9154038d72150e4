/- Whole numbers that come in. Own work. -/
import Derived.Test.YtibdekobocpfdaaDoorAm24
set_option linter.all false
namespace Go.AM
theorem fits_int {k : IntKind} {x : AV} (h : Fits (.int k) x) : ∃ n, x = .int k n ∧ (Lit.int k n).wf = true := by cases h with | int k n h => exact ⟨n, rfl, h⟩
theorem wf_i64 {n : Int} (h : (Lit.int .i64 n).wf = true) : -9223372036854775808 ≤ n ∧ n ≤ 9223372036854775807 := by
  have h : IntKind.i64.min ≤ n ∧ n ≤ 9223372036854775807 := by simpa [Lit.wf] using h
  have e : IntKind.i64.min = -9223372036854775808 := rfl
  omega
end Go.AM
