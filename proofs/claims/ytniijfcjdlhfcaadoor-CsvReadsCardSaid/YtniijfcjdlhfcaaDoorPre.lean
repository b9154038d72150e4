/- strings.HasPrefix. Own work. -/
import Derived.Test.YtniijfcjdlhfcaaDoorDac
set_option linter.all false
namespace Go.AM

theorem slice_to' (s : List UInt8) (n : Nat) (h : n ≤ s.length) : aSlice none (.str s) none (some (.int .i64 (n : Int))) = some (.str (s.take n)) := by
  simp only [aSlice, aBounds, aHi, aLo]
  rw [if_pos ⟨by omega, by omega⟩]
  simp
theorem isPrefix_take : ∀ (p s : List UInt8), p.isPrefixOf s = (decide (p.length ≤ s.length) && (s.take p.length == p))
  | [], s => by simp
  | a :: p, [] => by simp
  | a :: p, b :: s => by
    simp only [List.isPrefixOf, isPrefix_take p s, List.length_cons, List.take_succ_cons]
    rw [Bool.eq_iff_iff]
    simp only [Bool.and_eq_true, beq_iff_eq, decide_eq_true_eq, List.cons.injEq]
    constructor
    · rintro ⟨h1, h2, h3⟩; exact ⟨by omega, h1.symm, h3⟩
    · rintro ⟨h1, h2, h3⟩; exact ⟨h2.symm, by omega, h3⟩

section
variable {C : CSpec} {GT : Nat → Option AV}
theorem sl_prefix_ev (s p : List UInt8) (H : Heap) : EFun C GT a_stringslite_HasPrefix [.str s, .str p] H (.bool (p.isPrefixOf s)) H := by
  refine sCond (fun h => ?_) (fun h => ?_)
  · have h : p.length ≤ s.length := by
      have := of_decide_eq_true h
      omega
    have e : p.isPrefixOf s = (s.take p.length == p) := by rw [isPrefix_take, decide_eq_true h, Bool.true_and]
    rw [e]
    refine sOpt (slice_to' s p.length h) ?_
    refine sCondT ?_
    exact sRetV rfl rfl rfl rfl (Old.refl _)
  · have h : ¬ p.length ≤ s.length := by
      have := of_decide_eq_false h
      omega
    have e : p.isPrefixOf s = false := by rw [isPrefix_take, decide_eq_false h, Bool.false_and]
    rw [e]
    refine sCondF ?_
    exact sRetV rfl rfl rfl rfl (Old.refl _)
theorem prefix_ev (hS : ∀ s p H, C f_stringslite_HasPrefix [.str s, .str p] H (.bool (p.isPrefixOf s)) H) (s p : List UInt8) (H : Heap) : EFun C GT a_strings_HasPrefix [.str s, .str p] H (.bool (p.isPrefixOf s)) H := by
  refine sCall0 (hS s p H) ?_
  exact sRetV rfl rfl rfl rfl (Old.refl _)
end
end Go.AM
