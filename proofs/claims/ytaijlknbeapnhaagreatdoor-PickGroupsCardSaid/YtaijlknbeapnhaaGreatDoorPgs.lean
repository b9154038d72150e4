/-
  The step of the row PickGroups: whatever the table, the columns and the column, the law says true, and writes nothing that was there. No conditions.
-/
import Derived.Test.YtaijlknbeapnhaaGreatDoorGpg
import Derived.Test.YtaijlknbeapnhaaGreatDoorArg
import Derived.Test.YtaijlknbeapnhaaGreatDoorLdZ
import Derived.SevenTiedAt
set_option linter.all false
set_option maxRecDepth 100000
namespace Go.Proofs.YtaijlknbeapnhaaGreatDoor.pickGroups
open Go.ChangeShapes Go.WideShapes Go.RowKit Go.AM
open Go.ChangeMaps (open_string shut_string)

theorem g_law (tv cv : AV) (t : List Row) (cols : List Int) (col : Int) (H : Heap) (ht : TabOf H tv t) (hc : LstOf cv 1 (cols.map intV)) (hrg : ∀ (i : Nat) (r : Row), t[i]? = some r → ∀ v ∈ r, In64 v.num) : G f_scclaw3_PickGroups [tv, cv, intV col] H (.bool true) H :=
  good_of_ev mixed k_scclaw3_PickGroups (groups_ev Gs.g_columns3 Gs.g_column3 Gs.g_group3 Gs.g_group g_error Gs.g_values tv cv t cols col H ht hc hrg)

theorem law_walk (v0 v1 v2 : Value) (W : World) (hg : W.cell? ⟨1, 0, none⟩ = some errTypeV) {r : Reach} {b0 b1 b2 : Nat} {held : Bool} {H : Type} {enc : TypeId × Value → H} {d0 d1 d2 : DataW H} {p0 p1 p2 : List MemPlace}
    (o0 : Value.okWide Tryz.prog W r b0 38 v0) (h0 : DataW.Trod enc Tryz.prog W 0 (fun _ => true) held 38 v0 d0 p0) (o1 : Value.okWide Tryz.prog W r b1 41 v1) (h1 : DataW.Trod enc Tryz.prog W 0 (fun _ => true) held 41 v1 d1 p1)
    (o2 : Value.okWide Tryz.prog W r b2 3 v2) (h2 : DataW.Trod enc Tryz.prog W 0 (fun _ => true) held 3 v2 d2 p2) :
    Calls Tryz.prog 9 #[v0, v1, v2] W fun e w' => e = .returned (.bool true) ∧ Below W.heap.size W w' := by
  obtain ⟨x0, e0, r0⟩ := arg_of_trod (m := 9) (s := .sl false [.sl true shVal]) (by kernel_rfl) o0 h0
  obtain ⟨x1, e1, r1⟩ := arg_of_trod (m := 9) (s := .sl false [.int .i64]) (by kernel_rfl) o1 h1
  obtain ⟨x2, e2, r2⟩ := arg_of_trod (m := 9) (s := .int .i64) (by kernel_rfl) o2 h2
  obtain ⟨t, hn, ht⟩ := fits_tabN e0
  obtain ⟨cols, hc⟩ := fits_ints e1
  obtain ⟨col, rfl, _⟩ := fits_int e2
  exact law_of_good_err hg Tryz.func9 (by kernel_rfl) (by kernel_rfl) (g_law x0 x1 t cols col [] (ht []) hc (fun i r hr v hv => hn r (List.mem_of_getElem? hr) v hv)) (relL_cons r0 (relL_cons r1 (relL_cons r2 (relL_nil _ _ _ _))))

/-! ### The row's step -/
set_option maxRecDepth 100000 in
theorem lifted (os : Os) (started : os.Started) (H : Type) (enc : TypeId × Value → H) :
    ReturnsInHanded {} Tryz.checked os 9 .any (fun w args => (Rows.pickGroupsSpec.pre enc Tryz.prog Tryz.f9 [] false w args ∧ laidMetH Tryz.prog Rows.pickGroupsRow.laid w) ∧ sizedMet enc Tryz.prog Tryz.f9 (OpenSpec.ofChange Rows.pickGroupsSpec) false w args)
      (Rows.pickGroupsSpec.post enc Tryz.prog Tryz.f9 false true false false) := by
  refine returnsInHanded_of_change_and (C := Tryz.checked) (X := fun w _ => laidMetH Tryz.prog Rows.pickGroupsRow.laid w) (fun _ _ _ hh h => h.of_heap hh) own started (by kernel_rfl) Tryz.func9
    (ChangeSpec.witness_at (enc := enc) (C := Tryz.checked) (os := os) (X := fun w _ => laidMetH Tryz.prog Rows.pickGroupsRow.laid w) false (laidWorld os) #[.slice none 0 0, .slice none 0 0, .int .i64 0] 8 (laidWorld_os os) (by kernel_rfl) (by kernel_rfl) (by kernel_rfl) (by kernel_rfl) (by kernel_rfl) (laidWorld_met os _)) ?_
  intro W base args ds gs before hval0 hW _ _ hL _
  have hval : ∀ (j : Nat) t v, Tryz.f9.params[j]? = some t → args[j]? = some v → Value.okWide Tryz.prog W .any base t v := hval0
  have hW' := hW
  obtain ⟨p, q, hA0, hV, rfl, hfz, hnd⟩ := hW
  have hA : DataW.TrodAll enc Tryz.prog W 0 (fun _ => true) true Tryz.f9.params.toList args.toList ds p := hA0
  rw [Tryz.params9] at hA hval
  obtain ⟨v0, vs0, d0, ds0, p0, q0, hargs, rfl, rfl, h0, r0⟩ := trodAll_cons hA
  obtain ⟨v1, vs1, d1, ds1, p1, q1, rfl, rfl, rfl, h1, r1⟩ := trodAll_cons r0
  obtain ⟨v2, vs2, d2, ds2, p2, q2, rfl, rfl, rfl, h2, r2⟩ := trodAll_cons r1
  obtain ⟨rfl, rfl, rfl⟩ := trodAll_nil r2
  obtain rfl : args = #[v0, v1, v2] := by cases args; simp_all
  obtain ⟨rfl, rfl⟩ := trodVars_none hV
  have lt0 : ∀ x ∈ p0, x.block < W.heap.size := by obtain ⟨m, hm⟩ := h0; exact DataW.trod_lt m _ _ _ hm
  have lt1 : ∀ x ∈ p1, x.block < W.heap.size := by obtain ⟨m, hm⟩ := h1; exact DataW.trod_lt m _ _ _ hm
  have lt2 : ∀ x ∈ p2, x.block < W.heap.size := by obtain ⟨m, hm⟩ := h2; exact DataW.trod_lt m _ _ _ hm
  refine (law_walk v0 v1 v2 W (handle_of_laid hL) (hval 0 38 v0 rfl rfl) h0 (hval 1 41 v1 rfl rfl) h1 (hval 2 3 v2 rfl rfl) h2).mono fun e W' ⟨he, bel⟩ => ?_
  subst he
  exact ⟨_, rfl, _, _, _, [], _, [], hW', trodAll_mk1 (shut_bool Tryz.underlying4 _), (trodAll_cons_mk (Below.trod laidOut (by kernel_rfl) (of_decide_eq_true (by kernel_rfl)) h0 bel lt0) (trodAll_cons_mk (Below.trod laidOut (by kernel_rfl) (of_decide_eq_true (by kernel_rfl)) h1 bel lt1) (trodAll_cons_mk (Below.trod laidOut (by kernel_rfl) (of_decide_eq_true (by kernel_rfl)) h2 bel lt2) trodAll_mk0))), rfl, bel.frame _, fun h => by cases h⟩

end Go.Proofs.YtaijlknbeapnhaaGreatDoor.pickGroups
