/-
  The step of the row PickRows: whatever the table and the wants, the law says true, and writes nothing that was there; the variables that are listed are tied to the program's text. No conditions.
-/
import Derived.Test.YtaijlknbeapnhaaGreatDoorGpk
import Derived.Test.YtaijlknbeapnhaaGreatDoorAw
import Derived.Test.YtaijlknbeapnhaaGreatDoorLdZ
import Derived.SevenTiedAt
set_option linter.all false
set_option maxRecDepth 100000
namespace Go.Proofs.YtaijlknbeapnhaaGreatDoor.pickRows
open Go.ChangeShapes Go.WideShapes Go.RowKit Go.AM
open Go.ChangeMaps (open_string shut_string)

theorem g_law (tv wv : AV) (t : List Row) (l : List Want) (H : Heap) (ht : TabOf H tv t) (hw : LstOf wv 5 (l.map wantV)) : G f_scclaw3_PickRows [tv, wv] H (.bool true) H :=
  good_of_ev mixed k_scclaw3_PickRows (rows_ev Gs.g_wants3 Gs.g_meets3 Gs.g_pick Gs.g_any g_error Gs.g_intsW tv wv t l H ht hw)

theorem law_walk (v0 v1 : Value) (W : World) (hg : W.cell? ⟨1, 0, none⟩ = some errTypeV) {r : Reach} {b0 b1 : Nat} {held : Bool} {H : Type} {enc : TypeId × Value → H} {d0 d1 : DataW H} {p0 p1 : List MemPlace}
    (o0 : Value.okWide Tryz.prog W r b0 38 v0) (h0 : DataW.Trod enc Tryz.prog W 0 (fun _ => true) held 38 v0 d0 p0) (o1 : Value.okWide Tryz.prog W r b1 39 v1) (h1 : DataW.Trod enc Tryz.prog W 0 (fun _ => true) held 39 v1 d1 p1) :
    Calls Tryz.prog 4 #[v0, v1] W fun e w' => e = .returned (.bool true) ∧ Below W.heap.size W w' := by
  obtain ⟨x0, e0, r0⟩ := arg_of_trod (m := 9) (s := .sl false [.sl true shVal]) (by kernel_rfl) o0 h0
  obtain ⟨x1, e1, r1⟩ := arg_of_trod (m := 9) (s := .sl true shWant) (by kernel_rfl) o1 h1
  obtain ⟨t, ht⟩ := fits_tab e0
  obtain ⟨l, hl⟩ := fits_wants e1
  exact law_of_good_err hg Tryz.func4 (by kernel_rfl) (by kernel_rfl) (g_law x0 x1 t l [] (ht []) hl) (relL_cons r0 (relL_cons r1 (relL_nil _ _ _ _)))

/-! ### The row's step -/
set_option maxRecDepth 100000 in
theorem lifted (os : Os) (started : os.Started) (H : Type) (enc : TypeId × Value → H) :
    ReturnsInHanded {} Tryz.checked os 4 .any (fun w args => (Rows.pickRowsSpec.pre enc Tryz.prog Tryz.f4 [] false w args ∧ laidMetH Tryz.prog Rows.pickRowsRow.laid w) ∧ sizedMet enc Tryz.prog Tryz.f4 (OpenSpec.ofChange Rows.pickRowsSpec) false w args)
      (Rows.pickRowsSpec.post enc Tryz.prog Tryz.f4 false true false false) := by
  refine returnsInHanded_of_change_and (C := Tryz.checked) (X := fun w _ => laidMetH Tryz.prog Rows.pickRowsRow.laid w) (fun _ _ _ hh h => h.of_heap hh) own started (by kernel_rfl) Tryz.func4
    (ChangeSpec.witness_at (enc := enc) (C := Tryz.checked) (os := os) (X := fun w _ => laidMetH Tryz.prog Rows.pickRowsRow.laid w) false (laidWorld os) #[.slice none 0 0, .slice none 0 0] 8 (laidWorld_os os) (by kernel_rfl) (by kernel_rfl) (by kernel_rfl) (by kernel_rfl) (by kernel_rfl) (laidWorld_met os _)) ?_
  intro W base args ds gs before hval0 hW _ _ hL _
  have hval : ∀ (j : Nat) t v, Tryz.f4.params[j]? = some t → args[j]? = some v → Value.okWide Tryz.prog W .any base t v := hval0
  have hW' := hW
  obtain ⟨p, q, hA0, hV, rfl, hfz, hnd⟩ := hW
  have hA : DataW.TrodAll enc Tryz.prog W 0 (fun _ => true) true Tryz.f4.params.toList args.toList ds p := hA0
  rw [Tryz.params4] at hA hval
  obtain ⟨v0, vs0, d0, ds0, p0, q0, hargs, rfl, rfl, h0, r0⟩ := trodAll_cons hA
  obtain ⟨v1, vs1, d1, ds1, p1, q1, rfl, rfl, rfl, h1, r1⟩ := trodAll_cons r0
  obtain ⟨rfl, rfl, rfl⟩ := trodAll_nil r1
  obtain rfl : args = #[v0, v1] := by cases args; simp_all
  obtain ⟨rfl, rfl⟩ := trodVars_none hV
  have lt0 : ∀ x ∈ p0, x.block < W.heap.size := by obtain ⟨m, hm⟩ := h0; exact DataW.trod_lt m _ _ _ hm
  have lt1 : ∀ x ∈ p1, x.block < W.heap.size := by obtain ⟨m, hm⟩ := h1; exact DataW.trod_lt m _ _ _ hm
  refine (law_walk v0 v1 W (handle_of_laid hL) (hval 0 38 v0 rfl rfl) h0 (hval 1 39 v1 rfl rfl) h1).mono fun e W' ⟨he, bel⟩ => ?_
  subst he
  exact ⟨_, rfl, _, _, _, [], _, [], hW', trodAll_mk1 (shut_bool Tryz.underlying4 _), (trodAll_cons_mk (Below.trod laidOut (by kernel_rfl) (of_decide_eq_true (by kernel_rfl)) h0 bel lt0) (trodAll_cons_mk (Below.trod laidOut (by kernel_rfl) (of_decide_eq_true (by kernel_rfl)) h1 bel lt1) trodAll_mk0)), rfl, bel.frame _, fun h => by cases h⟩

end Go.Proofs.YtaijlknbeapnhaaGreatDoor.pickRows
