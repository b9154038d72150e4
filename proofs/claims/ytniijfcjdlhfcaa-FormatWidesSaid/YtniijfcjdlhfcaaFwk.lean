/-
  THE GIVEN STATEMENT 'FormatWidesSaid' IS PROVED: whatever the text, the width, the side and the two columns, the law says true, and writes nothing that was there. No conditions.
-/
import Derived.Test.YtniijfcjdlhfcaaRows
import Derived.Test.YtniijfcjdlhfcaaFwl
import Derived.Test.YtniijfcjdlhfcaaRep
import Derived.Test.YtniijfcjdlhfcaaR1k
import Derived.WalkKit
import Derived.ProofKit
import Derived.OpenShut
import Derived.ShutString
import Derived.ChangeOld
import Derived.Below
import Derived.Carry
set_option linter.all false
set_option maxRecDepth 100000
namespace Go.Proofs.Ytniijfcjdlhfcaa.formatWides
open Go.AM Go.ChangeShapes Go.WideShapes Go.ChangeAt Go.RowKit
open Go.ChangeMaps (open_string shut_string)

theorem own : ownKnob Try.prog.godebug = none := by kernel_rfl
theorem laidOut : laidOutB Try.prog = true := by kernel_rfl
theorem mixed : Try.prog.follows .mixedOrders = true := by kernel_rfl

section
variable {GT : Nat → Option AV}
theorem g_column (n : Int) (H : Heap) : Go.AM.Good Try.prog GT f_format_Column [.int .i64 n] H (columnV n) H := good_of_ev mixed k_format_Column (column_fmt_ev n H)
theorem g_number (s : List UInt8) (H : Heap) : Go.AM.Good Try.prog GT f_format_Number [.str s] H (numV s) H := good_of_ev mixed k_format_Number (number_fmt_ev s H)
theorem g_wide (t : List UInt8) (wide side : Int) (H : Heap) (ht : t.length ≤ 9223372036854775807) : Go.AM.Good Try.prog GT f_format_Wide [.str t, .int .i64 wide, .int .i64 side] H (wideV t wide side) H :=
  good_of_ev mixed k_format_Wide (wide_fmt_ev (fun s c H hc hl => Try.rep_good s c H hc hl) t wide side H ht)
theorem g_law (t : List UInt8) (wide side a b : Int) (H : Heap) (ht : t.length ≤ 9223372036854775807) : Go.AM.Good Try.prog GT f_scclaw4_FormatWides [.str t, .int .i64 wide, .int .i64 side, .int .i64 a, .int .i64 b] H (.bool true) H :=
  good_of_ev mixed k_scclaw4_FormatWides (wides_ev g_column g_number g_wide t wide side a b H ht)
end

theorem law_walk (v0 v1 v2 v3 v4 : Value) (W : World) {r : Reach} {b0 b1 b2 b3 b4 base : Nat} {sp : Nat → Bool} {held : Bool} {H : Type} {enc : TypeId × Value → H} {d0 d1 d2 d3 d4 : DataW H} {p0 p1 p2 p3 p4 : List MemPlace}
    (o0 : Value.okWide Try.prog W r b0 9 v0) (h0 : DataW.Trod enc Try.prog W base sp held 9 v0 d0 p0) (o1 : Value.okWide Try.prog W r b1 3 v1) (h1 : DataW.Trod enc Try.prog W base sp held 3 v1 d1 p1)
    (o2 : Value.okWide Try.prog W r b2 3 v2) (h2 : DataW.Trod enc Try.prog W base sp held 3 v2 d2 p2) (o3 : Value.okWide Try.prog W r b3 3 v3) (h3 : DataW.Trod enc Try.prog W base sp held 3 v3 d3 p3)
    (o4 : Value.okWide Try.prog W r b4 3 v4) (h4 : DataW.Trod enc Try.prog W base sp held 3 v4 d4 p4) :
    Calls Try.prog 5 #[v0, v1, v2, v3, v4] W fun e w' => e = .returned (.bool true) ∧ Below W.heap.size W w' := by
  obtain ⟨a0, rfl, rfl, rfl, w0⟩ := open_string Try.underlying9 o0 h0
  obtain ⟨a1, rfl, rfl, rfl, w1⟩ := open_int Try.underlying3 o1 h1
  obtain ⟨a2, rfl, rfl, rfl, w2⟩ := open_int Try.underlying3 o2 h2
  obtain ⟨a3, rfl, rfl, rfl, w3⟩ := open_int Try.underlying3 o3 h3
  obtain ⟨a4, rfl, rfl, rfl, w4⟩ := open_int Try.underlying3 o4 h4
  have hl : a0.data.toList.length ≤ 9223372036854775807 := by
    have h : a0.data.toList.length = a0.size := rfl
    have h' : maxLen ≤ 9223372036854775807 := by decide
    omega
  exact law_of_good Try.func5 (by kernel_rfl) (by kernel_rfl) (g_law a0.data.toList a1 a2 a3 a4 [] hl)
    (relL_cons (rel_str _ _ _ _ a0) (relL_cons (.int _ _) (relL_cons (.int _ _) (relL_cons (.int _ _) (relL_cons (.int _ _) (relL_nil _ _ _ _))))))

/-! ### The row's step -/
set_option maxRecDepth 100000 in
theorem lifted (os : Os) (started : os.Started) (H : Type) (enc : TypeId × Value → H) :
    ReturnsInHanded {} Try.checked os 5 .any (Rows.formatWidesSpec.pre6 enc Try.prog Try.f5 Rows.formatWidesRow.domain false) (Rows.formatWidesSpec.post enc Try.prog Try.f5 false true false false) := by
  refine returnsInHanded_of_change (C := Try.checked) own started (by kernel_rfl) Try.func5
    (ChangeSpec.witness6 (enc := enc) (C := Try.checked) false ⟨#[], #[.string ByteArray.empty, .int .i64 0, .int .i64 0, .int .i64 0, .int .i64 0], []⟩ 8 (by kernel_rfl) (by kernel_rfl) (by kernel_rfl) (by kernel_rfl)) ?_
  intro W base args ds gs before hval0 hW hcnd _
  have hval : ∀ (j : Nat) t v, Try.f5.params[j]? = some t → args[j]? = some v → Value.okWide Try.prog W .any base t v := hval0
  have hW' := hW
  obtain ⟨p, q, hA0, hV, rfl, hfz, hnd⟩ := hW
  have hA : DataW.TrodAll enc Try.prog W 0 (fun _ => true) true Try.f5.params.toList args.toList ds p := hA0
  rw [Try.params5] at hA hval
  obtain ⟨v0, vs0, d0, ds0, p0, q0, hargs, rfl, rfl, h0, r0⟩ := trodAll_cons hA
  obtain ⟨v1, vs1, d1, ds1, p1, q1, rfl, rfl, rfl, h1, r1⟩ := trodAll_cons r0
  obtain ⟨v2, vs2, d2, ds2, p2, q2, rfl, rfl, rfl, h2, r2⟩ := trodAll_cons r1
  obtain ⟨v3, vs3, d3, ds3, p3, q3, rfl, rfl, rfl, h3, r3⟩ := trodAll_cons r2
  obtain ⟨v4, vs4, d4, ds4, p4, q4, rfl, rfl, rfl, h4, r4⟩ := trodAll_cons r3
  obtain ⟨rfl, rfl, rfl⟩ := trodAll_nil r4
  obtain rfl : args = #[v0, v1, v2, v3, v4] := by cases args; simp_all
  obtain ⟨rfl, rfl⟩ := trodVars_none hV
  have lt0 : ∀ x ∈ p0, x.block < W.heap.size := by obtain ⟨m, hm⟩ := h0; exact DataW.trod_lt m _ _ _ hm
  have lt1 : ∀ x ∈ p1, x.block < W.heap.size := by obtain ⟨m, hm⟩ := h1; exact DataW.trod_lt m _ _ _ hm
  have lt2 : ∀ x ∈ p2, x.block < W.heap.size := by obtain ⟨m, hm⟩ := h2; exact DataW.trod_lt m _ _ _ hm
  have lt3 : ∀ x ∈ p3, x.block < W.heap.size := by obtain ⟨m, hm⟩ := h3; exact DataW.trod_lt m _ _ _ hm
  have lt4 : ∀ x ∈ p4, x.block < W.heap.size := by obtain ⟨m, hm⟩ := h4; exact DataW.trod_lt m _ _ _ hm
  refine (law_walk v0 v1 v2 v3 v4 W (hval 0 9 v0 rfl rfl) h0 (hval 1 3 v1 rfl rfl) h1 (hval 2 3 v2 rfl rfl) h2 (hval 3 3 v3 rfl rfl) h3 (hval 4 3 v4 rfl rfl) h4).mono fun e W' ⟨he, bel⟩ => ?_
  subst he
  exact ⟨_, rfl, _, _, _, [], _, [], hW', trodAll_mk1 (shut_bool Try.underlying4 _), (trodAll_cons_mk (Below.trod laidOut (by kernel_rfl) (of_decide_eq_true (by kernel_rfl)) h0 bel lt0) (trodAll_cons_mk (Below.trod laidOut (by kernel_rfl) (of_decide_eq_true (by kernel_rfl)) h1 bel lt1) (trodAll_cons_mk (Below.trod laidOut (by kernel_rfl) (of_decide_eq_true (by kernel_rfl)) h2 bel lt2) (trodAll_cons_mk (Below.trod laidOut (by kernel_rfl) (of_decide_eq_true (by kernel_rfl)) h3 bel lt3) (trodAll_cons_mk (Below.trod laidOut (by kernel_rfl) (of_decide_eq_true (by kernel_rfl)) h4 bel lt4) trodAll_mk0))))), rfl, bel.frame _, fun h => by cases h⟩

theorem over : Rows.formatWidesRow.holds Try.pinned (OpenSpec.ofChange Rows.formatWidesSpec) :=
  OpenClaim.holds_of_wide 5 Try.f5 rfl rfl rfl rfl rfl rfl rfl ⟨rfl, rfl, rfl, rfl, rfl⟩ rfl rfl rfl rfl rfl (by kernel_rfl) Try.func5 (by kernel_rfl)
    (of_decide_eq_true (by kernel_rfl)) (by unfold Func.isWrapper; first | (rw [if_pos (by decide +kernel)]; kernel_rfl) | (rw [if_neg (by decide +kernel)]; exact ⟨rfl, rfl⟩))
    (fun os started H enc _ => lifted os started H enc)

/-- The given statement. -/
theorem proved : Rows.FormatWidesSaid := over
#print axioms proved
end Go.Proofs.Ytniijfcjdlhfcaa.formatWides
