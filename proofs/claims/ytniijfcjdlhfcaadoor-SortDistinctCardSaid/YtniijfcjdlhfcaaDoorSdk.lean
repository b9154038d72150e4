/-
  THE GIVEN STATEMENT 'SortDistinctCardSaid' IS PROVED: whatever the table and the columns, the law says true, and writes nothing that was there; the one variable that is listed is tied to the program's text. No conditions.
-/
import Derived.Test.YtniijfcjdlhfcaaDoorSg
import Derived.Test.YtniijfcjdlhfcaaDoorSd
import Derived.Test.YtniijfcjdlhfcaaDoorArg
import Derived.Test.YtniijfcjdlhfcaaDoorCards
import Derived.Test.YtniijfcjdlhfcaaDoorTie
import Derived.SevenTiedAt
set_option linter.all false
set_option maxRecDepth 100000
namespace Go.Proofs.YtniijfcjdlhfcaaDoor.sortDistinct
open Go.ChangeShapes Go.WideShapes Go.RowKit Go.AM
open Go.ChangeMaps (open_string shut_string)

theorem g_is (v : Val) (H : Heap) : G f_sccref1_Is [valV v] H (.bool (valOK v)) H := good_of_ev mixed k_sccref1_Is (is3_ev v H)
theorem g_table3 (tv : AV) (t : List Row) (H : Heap) (ht : TabOf H tv t) : G f_sccref3_Table [tv] H (natV (tabErr t)) H := good_of_ev mixed k_sccref3_Table (table3_ev g_is tv t H ht)
theorem g_column3 (tv : AV) (t : List Row) (c : Int) (H : Heap) (ht : TabOf H tv t) : G f_sccref3_Column [tv, intV c] H (.bool (colOK t c)) H := good_of_ev mixed k_sccref3_Column (column3_ev tv t c H ht)
theorem g_columns3 (tv cv : AV) (t : List Row) (cols : List Int) (H : Heap) (ht : TabOf H tv t) (hc : view H 1 cv = some (cols.map intV)) : G f_sccref3_Columns [tv, cv] H (natV (colErr t cols)) H :=
  good_of_ev mixed k_sccref3_Columns (columns3_ev g_table3 g_column3 tv cv t cols H ht hc)
theorem g_alike3 (xa xb cv : AV) (a b : Row) (cols : List Int) (H : Heap) (ha : RowOf xa a) (hb : RowOf xb b) (hc : view H 1 cv = some (cols.map intV)) (hia : ∀ c ∈ cols, 0 ≤ c ∧ c < (a.length : Int)) (hib : ∀ c ∈ cols, 0 ≤ c ∧ c < (b.length : Int)) (hl : cols.length ≤ 1000000) :
    G f_sccref3_Alike [xa, xb, cv] H (.bool (alikeR a b cols)) H := good_of_ev mixed k_sccref3_Alike (alike3_ev xa xb cv a b cols H ha hb hc hia hib hl)
theorem g_distinct3 (tv cv : AV) (t : List Row) (cols : List Int) (H : Heap) (ht : TabOf H tv t) (hc : view H 1 cv = some (cols.map intV)) (he : colErr t cols = 0) : G f_sccref3_Distinct [tv, cv] H (lstF 1 ((ids t (keysOf cols) t.length).map natV)) H :=
  good_of_ev mixed k_sccref3_Distinct (distinct3_ev g_alike3 tv cv t cols H ht hc he)
theorem g_ints (va vb : AV) (xs ys : List Int) (H : Heap) (ha : LstOf va 1 (xs.map intV)) (hb : LstOf vb 1 (ys.map intV)) (hl : xs.length ≤ 1000000000) : G f_sccsame_Ints [va, vb] H (.bool (decide (xs = ys))) H :=
  good_of_ev mixed k_sccsame_Ints (ints_ev va vb xs ys H ha hb hl)
theorem g_law (tv cv : AV) (t : List Row) (cols : List Int) (H : Heap) (ht : TabOf H tv t) (hc : view H 1 cv = some (cols.map intV)) : G f_scclaw3_SortDistinct [tv, cv] H (.bool true) H :=
  good_of_ev mixed k_scclaw3_SortDistinct (sort_distinct_ev g_columns3 g_distinct3 g_distinct g_error g_ints tv cv t cols H ht hc)

theorem law_walk (v0 v1 : Value) (W : World) (hg : W.cell? ⟨0, 0, none⟩ = some errTypeV) {r : Reach} {b0 b1 : Nat} {held : Bool} {H : Type} {enc : TypeId × Value → H} {d0 d1 : DataW H} {p0 p1 : List MemPlace}
    (o0 : Value.okWide Tryd.prog W r b0 39 v0) (h0 : DataW.Trod enc Tryd.prog W 0 (fun _ => true) held 39 v0 d0 p0) (o1 : Value.okWide Tryd.prog W r b1 40 v1) (h1 : DataW.Trod enc Tryd.prog W 0 (fun _ => true) held 40 v1 d1 p1) :
    Calls Tryd.prog 5 #[v0, v1] W fun e w' => e = .returned (.bool true) ∧ Below W.heap.size W w' := by
  obtain ⟨x0, e0, r0⟩ := arg_of_trod (m := 9) (s := .sl false [.sl true shVal]) (by kernel_rfl) o0 h0
  obtain ⟨x1, e1, r1⟩ := arg_of_trod (m := 9) (s := .sl false [.int .i64]) (by kernel_rfl) o1 h1
  obtain ⟨t, ht⟩ := fits_tab e0
  obtain ⟨cols, hc⟩ := fits_ints e1
  exact law_of_good_err hg Tryd.func5 (by kernel_rfl) (by kernel_rfl) (g_law x0 x1 t cols [] (ht []) (hc.view [])) (relL_cons r0 (relL_cons r1 (relL_nil _ _ _ _)))

/-! ### The row's step -/
set_option maxRecDepth 100000 in
theorem lifted (os : Os) (started : os.Started) (H : Type) (enc : TypeId × Value → H) :
    ReturnsInHanded {} Tryd.checked os 5 .any (fun w args => (Rows.sortDistinctSpec.pre enc Tryd.prog Tryd.f5 [] false w args ∧ laidMetH Tryd.prog Rows.sortDistinctRow.laid w) ∧ sizedMet enc Tryd.prog Tryd.f5 (OpenSpec.ofChange Rows.sortDistinctSpec) false w args)
      (Rows.sortDistinctSpec.post enc Tryd.prog Tryd.f5 false true false false) := by
  refine returnsInHanded_of_change_and (C := Tryd.checked) (X := fun w _ => laidMetH Tryd.prog Rows.sortDistinctRow.laid w) (fun _ _ _ hh h => h.of_heap hh) own started (by kernel_rfl) Tryd.func5
    (ChangeSpec.witness_at (enc := enc) (C := Tryd.checked) (os := os) (X := fun w _ => laidMetH Tryd.prog Rows.sortDistinctRow.laid w) false (laidWorld os) #[.slice none 0 0, .slice none 0 0] 8 rfl (by kernel_rfl) (by kernel_rfl) (by kernel_rfl) (by kernel_rfl) (by kernel_rfl) (laidWorld_met os _)) ?_
  intro W base args ds gs before hval0 hW _ _ hL _
  have hval : ∀ (j : Nat) t v, Tryd.f5.params[j]? = some t → args[j]? = some v → Value.okWide Tryd.prog W .any base t v := hval0
  have hW' := hW
  obtain ⟨p, q, hA0, hV, rfl, hfz, hnd⟩ := hW
  have hA : DataW.TrodAll enc Tryd.prog W 0 (fun _ => true) true Tryd.f5.params.toList args.toList ds p := hA0
  rw [Tryd.params5] at hA hval
  obtain ⟨v0, vs0, d0, ds0, p0, q0, hargs, rfl, rfl, h0, r0⟩ := trodAll_cons hA
  obtain ⟨v1, vs1, d1, ds1, p1, q1, rfl, rfl, rfl, h1, r1⟩ := trodAll_cons r0
  obtain ⟨rfl, rfl, rfl⟩ := trodAll_nil r1
  obtain rfl : args = #[v0, v1] := by cases args; simp_all
  obtain ⟨rfl, rfl⟩ := trodVars_none hV
  have lt0 : ∀ x ∈ p0, x.block < W.heap.size := by obtain ⟨m, hm⟩ := h0; exact DataW.trod_lt m _ _ _ hm
  have lt1 : ∀ x ∈ p1, x.block < W.heap.size := by obtain ⟨m, hm⟩ := h1; exact DataW.trod_lt m _ _ _ hm
  refine (law_walk v0 v1 W (handle_of_laid hL) (hval 0 39 v0 rfl rfl) h0 (hval 1 40 v1 rfl rfl) h1).mono fun e W' ⟨he, bel⟩ => ?_
  subst he
  exact ⟨_, rfl, _, _, _, [], _, [], hW', trodAll_mk1 (shut_bool Tryd.underlying4 _), (trodAll_cons_mk (Below.trod laidOut (by kernel_rfl) (of_decide_eq_true (by kernel_rfl)) h0 bel lt0) (trodAll_cons_mk (Below.trod laidOut (by kernel_rfl) (of_decide_eq_true (by kernel_rfl)) h1 bel lt1) trodAll_mk0)), rfl, bel.frame _, fun h => by cases h⟩

theorem over : Rows.sortDistinctRow.holds Tryd.pinned (OpenSpec.ofChange Rows.sortDistinctSpec) :=
  OpenClaim.holds_of_wide 5 Tryd.f5 rfl rfl rfl rfl rfl rfl rfl ⟨rfl, rfl, rfl, rfl, rfl⟩ rfl rfl rfl rfl rfl (by kernel_rfl) Tryd.func5 (by kernel_rfl)
    (of_decide_eq_true (by kernel_rfl)) (by unfold Func.isWrapper; first | (rw [if_pos (by decide +kernel)]; kernel_rfl) | (rw [if_neg (by decide +kernel)]; exact ⟨rfl, rfl⟩))
    (fun os started H enc _ => lifted os started H enc)

/-- The given statement: the tied card. -/
theorem proved : Rows.SortDistinctCardSaid :=
  Claim7.holds_tied_plain_at .later [] [.handle] true (true, "3f949a449b5eb89893828e6ebdbad7aa46b0e61a91577b00d2b5ffddd5ee743f") true
    over (fun _ h => by cases h) (by kernel_rfl) (fun _ h => by cases h) sortDistinct_row_tie rfl ⟨rfl, rfl⟩ (by kernel_rfl) rfl
    (fun f fn hf hfn => by
      obtain rfl : f = 5 := Option.some.inj ((show Tryd.prog.funcNamed "sccsettle/scclaw3.SortDistinct" = some 5 by kernel_rfl).symm.trans hf) |>.symm
      obtain rfl : fn = Tryd.f5 := (Option.some.inj (Tryd.func5.symm.trans hfn)).symm
      exact ⟨by kernel_rfl, fun j t ht => by
        rw [Tryd.params5] at ht
        have ht' : t ∈ [39, 40] := List.mem_of_getElem? (by simpa using ht)
        simp only [List.mem_cons, List.mem_nil_iff, or_false] at ht'
        rcases ht' with rfl | rfl
        · exact (show Tryd.prog.wantsStandIn 39 = false by kernel_rfl)
        · exact (show Tryd.prog.wantsStandIn 40 = false by kernel_rfl)⟩)
    (by kernel_rfl)
#print axioms proved
end Go.Proofs.YtniijfcjdlhfcaaDoor.sortDistinct
