/-
  THE GIVEN STATEMENT 'FindMasksSaid' IS PROVED: whatever the two texts, the law says true, and writes nothing that was there. No conditions.
-/
import Derived.Test.YtniijfcjdlhfcaaRows
import Derived.Test.YtniijfcjdlhfcaaMk
import Derived.Test.YtniijfcjdlhfcaaR1k
import Derived.Test.YtniijfcjdlhfcaaAm23
import Derived.WalkKit
import Derived.ProofKit
import Derived.OpenShut
import Derived.ShutString
import Derived.ChangeOld
import Derived.Below
import Derived.Carry
set_option linter.all false
namespace Go.Proofs.Ytniijfcjdlhfcaa.findMasks
open Go.AM Go.ChangeShapes Go.WideShapes Go.ChangeAt Go.RowKit
open Go.ChangeMaps (open_string shut_string)
set_option linter.unusedVariables false

theorem own : ownKnob Try.prog.godebug = none := by kernel_rfl
theorem laidOut : laidOutB Try.prog = true := by kernel_rfl
theorem mixed : Try.prog.follows .mixedOrders = true := by kernel_rfl

theorem like_good {GT : Nat → Option AV} (t m : List UInt8) (H : Heap) : Go.AM.Good Try.prog GT f_find_Like [.str t, .str m] H (likeV t m) H :=
  good_of_ev mixed k_find_Like (like_ev t m H)
theorem masks_good {GT : Nat → Option AV} (t o : List UInt8) (H : Heap) : Go.AM.Good Try.prog GT f_scclaw4_FindMasks [.str t, .str o] H (.bool true) H :=
  good_of_ev mixed k_scclaw4_FindMasks (masks_ev like_good t o H)

theorem law_walk (v0 v1 : Value) (W : World) {r : Reach} {b0 b1 base : Nat} {sp : Nat → Bool} {held : Bool} {H : Type} {enc : TypeId × Value → H} {d0 d1 : DataW H} {p0 p1 : List MemPlace}
    (o0 : Value.okWide Try.prog W r b0 9 v0) (h0 : DataW.Trod enc Try.prog W base sp held 9 v0 d0 p0) (o1 : Value.okWide Try.prog W r b1 9 v1) (h1 : DataW.Trod enc Try.prog W base sp held 9 v1 d1 p1) :
    Calls Try.prog 3 #[v0, v1] W fun e w' => e = .returned (.bool true) ∧ Below W.heap.size W w' := by
  obtain ⟨a0, rfl, rfl, rfl, w0⟩ := open_string Try.underlying9 o0 h0
  obtain ⟨a1, rfl, rfl, rfl, w1⟩ := open_string Try.underlying9 o1 h1
  exact law_of_good Try.func3 (by kernel_rfl) (by kernel_rfl) (masks_good a0.data.toList a1.data.toList []) (relL_cons (rel_str _ _ _ _ a0) (relL_cons (rel_str _ _ _ _ a1) (relL_nil _ _ _ _)))

/-! ### The row's step -/
set_option maxRecDepth 100000 in
theorem lifted (os : Os) (started : os.Started) (H : Type) (enc : TypeId × Value → H) :
    ReturnsInHanded {} Try.checked os 3 .any (Rows.findMasksSpec.pre6 enc Try.prog Try.f3 Rows.findMasksRow.domain false) (Rows.findMasksSpec.post enc Try.prog Try.f3 false true false false) := by
  refine returnsInHanded_of_change (C := Try.checked) own started (by kernel_rfl) Try.func3
    (ChangeSpec.witness6 (enc := enc) (C := Try.checked) false ⟨#[], #[.string ByteArray.empty, .string ByteArray.empty], []⟩ 8 (by kernel_rfl) (by kernel_rfl) (by kernel_rfl) (by kernel_rfl)) ?_
  intro W base args ds gs before hval0 hW hcnd _
  have hval : ∀ (j : Nat) t v, Try.f3.params[j]? = some t → args[j]? = some v → Value.okWide Try.prog W .any base t v := hval0
  have hW' := hW
  obtain ⟨p, q, hA0, hV, rfl, hfz, hnd⟩ := hW
  have hA : DataW.TrodAll enc Try.prog W 0 (fun _ => true) true Try.f3.params.toList args.toList ds p := hA0
  rw [Try.params3] at hA hval
  obtain ⟨v0, vs0, d0, ds0, p0, q0, hargs, rfl, rfl, h0, r0⟩ := trodAll_cons hA
  obtain ⟨v1, vs1, d1, ds1, p1, q1, rfl, rfl, rfl, h1, r1⟩ := trodAll_cons r0
  obtain ⟨rfl, rfl, rfl⟩ := trodAll_nil r1
  obtain rfl : args = #[v0, v1] := by cases args; simp_all
  obtain ⟨rfl, rfl⟩ := trodVars_none hV
  have lt0 : ∀ x ∈ p0, x.block < W.heap.size := by obtain ⟨m, hm⟩ := h0; exact DataW.trod_lt m _ _ _ hm
  have lt1 : ∀ x ∈ p1, x.block < W.heap.size := by obtain ⟨m, hm⟩ := h1; exact DataW.trod_lt m _ _ _ hm
  refine (law_walk v0 v1 W (hval 0 9 v0 rfl rfl) h0 (hval 1 9 v1 rfl rfl) h1).mono fun e W' ⟨he, bel⟩ => ?_
  subst he
  exact ⟨_, rfl, _, _, _, [], _, [], hW', trodAll_mk1 (shut_bool Try.underlying4 _), (trodAll_cons_mk (Below.trod laidOut (by kernel_rfl) (of_decide_eq_true (by kernel_rfl)) h0 bel lt0) (trodAll_cons_mk (Below.trod laidOut (by kernel_rfl) (of_decide_eq_true (by kernel_rfl)) h1 bel lt1) trodAll_mk0)), rfl, bel.frame _, fun h => by cases h⟩

theorem over : Rows.findMasksRow.holds Try.pinned (OpenSpec.ofChange Rows.findMasksSpec) :=
  OpenClaim.holds_of_wide 3 Try.f3 rfl rfl rfl rfl rfl rfl rfl ⟨rfl, rfl, rfl, rfl, rfl⟩ rfl rfl rfl rfl rfl (by kernel_rfl) Try.func3 (by kernel_rfl)
    (of_decide_eq_true (by kernel_rfl)) (by unfold Func.isWrapper; first | (rw [if_pos (by decide +kernel)]; kernel_rfl) | (rw [if_neg (by decide +kernel)]; exact ⟨rfl, rfl⟩))
    (fun os started H enc _ => lifted os started H enc)

/-- The given statement. -/
theorem proved : Rows.FindMasksSaid := over
#print axioms proved
end Go.Proofs.Ytniijfcjdlhfcaa.findMasks
