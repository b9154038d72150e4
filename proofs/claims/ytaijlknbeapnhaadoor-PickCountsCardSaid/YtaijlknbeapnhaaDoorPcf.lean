/-
  THE GIVEN STATEMENT 'PickCountsCardSaid' IS PROVED: whatever the table, the columns and the column, the law says true, and writes nothing that was there; the variables that are listed are tied to the program's text. No conditions.
-/
import Derived.Test.YtaijlknbeapnhaaDoorPct
import Derived.Test.YtaijlknbeapnhaaDoorGst
import Derived.Test.YtaijlknbeapnhaaDoorArg
import Derived.Test.YtaijlknbeapnhaaDoorLdE
import Derived.Test.YtaijlknbeapnhaaDoorCards
import Derived.Test.YtaijlknbeapnhaaDoorTie
import Derived.SevenTiedAt
set_option linter.all false
set_option maxRecDepth 100000
namespace Go.Proofs.YtaijlknbeapnhaaDoor.pickCounts
open Go.ChangeShapes Go.WideShapes Go.RowKit Go.AM
open Go.ChangeMaps (open_string shut_string)

section
variable {GT : Nat → Option AV}
abbrev G (GT : Nat → Option AV) : CSpec := Go.AM.Good Tryd.prog GT
theorem g_num (n : Int) (H : Heap) : G GT f_sccref1_Num [intV n] H (valV ⟨1, n, []⟩) H := good_of_ev mixed k_sccref1_Num (num_ev n H)
theorem g_isBad (v : Val) (H : Heap) : G GT f_value_IsBad [valV v] H (.bool (v.kind == 4)) H := good_of_ev mixed k_value_IsBad (isBad_ev v H)
theorem g_vnum (n : Int) (H : Heap) : G GT f_value_Num [intV n] H (valV (nmV n)) H := good_of_ev mixed k_value_Num (vnum_ev n H)
theorem g_wrong (n : Int) (H : Heap) : G GT f_value_Wrong [intV n] H (valV (badV n)) H := good_of_ev mixed k_value_Wrong (wrong_ev n H)
theorem g_number (v : Val) (hk : NumK v) (H : Heap) : G GT f_value_Number [valV v] H (valV v) H := good_of_ev mixed k_value_Number (number_nk_ev v hk H)
theorem g_reckon (a b : Int) (H : Heap) : G GT f_value_reckon [intV 8, intV a, intV b] H (valV (plusV a b)) H := good_of_ev mixed k_value_reckon (reckon_add_ev g_vnum g_wrong a b H)
theorem g_two (a b : Val) (ka : NumK a) (kb : NumK b) (H : Heap) : G GT f_value_Two [intV 8, valV a, valV b] H (valV (addV a b)) H := good_of_ev mixed k_value_Two (two_add_ev g_isBad g_number g_reckon a b ka kb H)
theorem g_esum (nv : AV) (ns : List Int) (H : Heap) (hn : view H 1 nv = some (ns.map intV)) (hl : ns.length ≤ 1000000000000) : G GT f_eval_Sum [nv] H (valV (sumN ns)) H := good_of_ev mixed k_eval_Sum (esum_ev g_vnum g_two nv ns H hn hl)
theorem g_sum (lv : AV) (l : List Val) (H : Heap) (hv : view H 3 lv = some (l.map valV)) (hl : l.length ≤ 1000) : G GT f_pick_sum [lv] H (valV (sumL l)) H := good_of_ev mixed k_pick_sum (sum_ev g_esum lv l H hv hl)
theorem g_group (tv cv : AV) (t : List Row) (cols : List Int) (col : Int) (H : Heap) (ht : TabOf H tv t) (hc : view H 1 cv = some (cols.map intV)) : G GT f_pick_Group [tv, cv, intV col] H (groupV t cols col) H :=
  good_of_ev mixed k_pick_Group (group_ev Gs.g_cols Gs.g_col Gs.g_sort Gs.g_compare g_sum tv cv t cols col H ht hc)
theorem g_law (tv cv : AV) (t : List Row) (hr : TabR t) (cols : List Int) (col : Int) (H : Heap) (ht : TabOf H tv t) (hc : view H 1 cv = some (cols.map intV)) : G GT f_scclaw4_PickCounts [tv, cv, intV col] H (.bool true) H :=
  good_of_ev mixed k_scclaw4_PickCounts (counts_ev g_num Gs.g_cmpV g_two g_group tv cv t hr cols col H ht hc)
end

theorem law_walk (v0 v1 v2 : Value) (W : World) {r : Reach} {b0 b1 b2 : Nat} {held : Bool} {H : Type} {enc : TypeId × Value → H} {d0 d1 d2 : DataW H} {p0 p1 p2 : List MemPlace}
    (o0 : Value.okWide Tryd.prog W r b0 22 v0) (h0 : DataW.Trod enc Tryd.prog W 0 (fun _ => true) held 22 v0 d0 p0) (o1 : Value.okWide Tryd.prog W r b1 24 v1) (h1 : DataW.Trod enc Tryd.prog W 0 (fun _ => true) held 24 v1 d1 p1)
    (o2 : Value.okWide Tryd.prog W r b2 3 v2) (h2 : DataW.Trod enc Tryd.prog W 0 (fun _ => true) held 3 v2 d2 p2) :
    Calls Tryd.prog 6 #[v0, v1, v2] W fun e w' => e = .returned (.bool true) ∧ Below W.heap.size W w' := by
  obtain ⟨x0, e0, r0⟩ := arg_of_trod (m := 9) (s := .sl false [.sl true shVal]) (by kernel_rfl) o0 h0
  obtain ⟨x1, e1, r1⟩ := arg_of_trod (m := 9) (s := .sl false [.int .i64]) (by kernel_rfl) o1 h1
  obtain ⟨x2, e2, r2⟩ := arg_of_trod (m := 9) (s := .int .i64) (by kernel_rfl) o2 h2
  obtain ⟨t, hn, ht⟩ := fits_tabN e0
  obtain ⟨cols, hc⟩ := fits_ints e1
  obtain ⟨col, rfl, _⟩ := fits_int e2
  exact law_of_good Tryd.func6 (by kernel_rfl) (by kernel_rfl) (g_law x0 x1 t hn cols col [] (ht []) (hc.view [])) (relL_cons r0 (relL_cons r1 (relL_cons r2 (relL_nil _ _ _ _))))

/-! ### The row's step -/
set_option maxRecDepth 100000 in
theorem lifted (os : Os) (started : os.Started) (H : Type) (enc : TypeId × Value → H) :
    ReturnsInHanded {} Tryd.checked os 6 .any (fun w args => (Rows.pickCountsSpec.pre enc Tryd.prog Tryd.f6 [] false w args ∧ laidMetH Tryd.prog Rows.pickCountsRow.laid w) ∧ sizedMet enc Tryd.prog Tryd.f6 (OpenSpec.ofChange Rows.pickCountsSpec) false w args)
      (Rows.pickCountsSpec.post enc Tryd.prog Tryd.f6 false true false false) := by
  refine returnsInHanded_of_change_and (C := Tryd.checked) (X := fun w _ => laidMetH Tryd.prog Rows.pickCountsRow.laid w) (fun _ _ _ hh h => h.of_heap hh) own started (by kernel_rfl) Tryd.func6
    (ChangeSpec.witness_at (enc := enc) (C := Tryd.checked) (os := os) (X := fun w _ => laidMetH Tryd.prog Rows.pickCountsRow.laid w) false (laidWorld os) #[.slice none 0 0, .slice none 0 0, .int .i64 0] 8 (laidWorld_os os) (by kernel_rfl) (by kernel_rfl) (by kernel_rfl) (by kernel_rfl) (by kernel_rfl) (laidWorld_met os _)) ?_
  intro W base args ds gs before hval0 hW _ _ hL _
  have hval : ∀ (j : Nat) t v, Tryd.f6.params[j]? = some t → args[j]? = some v → Value.okWide Tryd.prog W .any base t v := hval0
  have hW' := hW
  obtain ⟨p, q, hA0, hV, rfl, hfz, hnd⟩ := hW
  have hA : DataW.TrodAll enc Tryd.prog W 0 (fun _ => true) true Tryd.f6.params.toList args.toList ds p := hA0
  rw [Tryd.params6] at hA hval
  obtain ⟨v0, vs0, d0, ds0, p0, q0, hargs, rfl, rfl, h0, r0⟩ := trodAll_cons hA
  obtain ⟨v1, vs1, d1, ds1, p1, q1, rfl, rfl, rfl, h1, r1⟩ := trodAll_cons r0
  obtain ⟨v2, vs2, d2, ds2, p2, q2, rfl, rfl, rfl, h2, r2⟩ := trodAll_cons r1
  obtain ⟨rfl, rfl, rfl⟩ := trodAll_nil r2
  obtain rfl : args = #[v0, v1, v2] := by cases args; simp_all
  obtain ⟨rfl, rfl⟩ := trodVars_none hV
  have lt0 : ∀ x ∈ p0, x.block < W.heap.size := by obtain ⟨m, hm⟩ := h0; exact DataW.trod_lt m _ _ _ hm
  have lt1 : ∀ x ∈ p1, x.block < W.heap.size := by obtain ⟨m, hm⟩ := h1; exact DataW.trod_lt m _ _ _ hm
  have lt2 : ∀ x ∈ p2, x.block < W.heap.size := by obtain ⟨m, hm⟩ := h2; exact DataW.trod_lt m _ _ _ hm
  refine (law_walk v0 v1 v2 W (hval 0 22 v0 rfl rfl) h0 (hval 1 24 v1 rfl rfl) h1 (hval 2 3 v2 rfl rfl) h2).mono fun e W' ⟨he, bel⟩ => ?_
  subst he
  exact ⟨_, rfl, _, _, _, [], _, [], hW', trodAll_mk1 (shut_bool Tryd.underlying4 _), (trodAll_cons_mk (Below.trod laidOut (by kernel_rfl) (of_decide_eq_true (by kernel_rfl)) h0 bel lt0) (trodAll_cons_mk (Below.trod laidOut (by kernel_rfl) (of_decide_eq_true (by kernel_rfl)) h1 bel lt1) (trodAll_cons_mk (Below.trod laidOut (by kernel_rfl) (of_decide_eq_true (by kernel_rfl)) h2 bel lt2) trodAll_mk0))), rfl, bel.frame _, fun h => by cases h⟩

theorem over : Rows.pickCountsRow.holds Tryd.pinned (OpenSpec.ofChange Rows.pickCountsSpec) :=
  OpenClaim.holds_of_wide 6 Tryd.f6 rfl rfl rfl rfl rfl rfl rfl ⟨rfl, rfl, rfl, rfl, rfl⟩ rfl rfl rfl rfl rfl (by kernel_rfl) Tryd.func6 (by kernel_rfl)
    (of_decide_eq_true (by kernel_rfl)) (by unfold Func.isWrapper; first | (rw [if_pos (by decide +kernel)]; kernel_rfl) | (rw [if_neg (by decide +kernel)]; exact ⟨rfl, rfl⟩))
    (fun os started H enc _ => lifted os started H enc)

/-- The given statement: the tied card. -/
theorem proved : Rows.PickCountsCardSaid :=
  Claim7.holds_tied_plain_at .later [] [.data, .data, .data, .data, .sentinel, .sentinel, .data, .pinned] true (true, "41423e91f8ff1f4f11c131d95abcf54bca6af1aa40cbd368eafe850b29465e1b") true
    over (fun _ h => by cases h) (by kernel_rfl) (fun _ h => by cases h) pickCounts_row_tie rfl ⟨rfl, rfl⟩ (by kernel_rfl) rfl
    (fun f fn hf hfn => by
      obtain rfl : f = 6 := Option.some.inj ((show Tryd.prog.funcNamed "sccsettle/scclaw4.PickCounts" = some 6 by kernel_rfl).symm.trans hf) |>.symm
      obtain rfl : fn = Tryd.f6 := (Option.some.inj (Tryd.func6.symm.trans hfn)).symm
      exact ⟨by kernel_rfl, fun j t ht => by
        rw [Tryd.params6] at ht
        have ht' : t ∈ [22, 24, 3] := List.mem_of_getElem? (by simpa using ht)
        simp only [List.mem_cons, List.mem_nil_iff, or_false] at ht'
        rcases ht' with rfl | rfl | rfl
        · exact (show Tryd.prog.wantsStandIn 22 = false by kernel_rfl)
        · exact (show Tryd.prog.wantsStandIn 24 = false by kernel_rfl)
        · exact (show Tryd.prog.wantsStandIn 3 = false by kernel_rfl)⟩)
    (by kernel_rfl)
#print axioms proved
end Go.Proofs.YtaijlknbeapnhaaDoor.pickCounts
