/-
  THE GIVEN STATEMENT 'SortRowsCardSaid' IS PROVED: whatever the table, the keys and the list, the law says true, and writes nothing that was there; the one variable that is listed is tied to the program's text. No conditions.
-/
import Derived.Test.YtniijfcjdlhfcaaDoorLd
import Derived.Test.YtniijfcjdlhfcaaDoorGst
import Derived.Test.YtniijfcjdlhfcaaDoorSr
import Derived.Test.YtniijfcjdlhfcaaDoorAr2
import Derived.Test.YtniijfcjdlhfcaaDoorCards
import Derived.Test.YtniijfcjdlhfcaaDoorTie
import Derived.SevenTiedAt
import Derived.SizedLaws
set_option linter.all false
set_option maxRecDepth 100000
namespace Go.Proofs.YtniijfcjdlhfcaaDoor.sortRows
open Go.ChangeShapes Go.WideShapes Go.RowKit Go.AM
open Go.ChangeMaps (open_string shut_string)

theorem g_is (v : Val) (H : Heap) : G f_sccref1_Is [valV v] H (.bool (valOK v)) H := good_of_ev mixed k_sccref1_Is (is3_ev v H)
theorem g_table3 (tv : AV) (t : List Row) (H : Heap) (ht : TabOf H tv t) : G f_sccref3_Table [tv] H (natV (tabErr t)) H := good_of_ev mixed k_sccref3_Table (table3_ev g_is tv t H ht)
theorem g_column3 (tv : AV) (t : List Row) (c : Int) (H : Heap) (ht : TabOf H tv t) : G f_sccref3_Column [tv, intV c] H (.bool (colOK t c)) H := good_of_ev mixed k_sccref3_Column (column3_ev tv t c H ht)
theorem g_columns3 (tv cv : AV) (t : List Row) (cols : List Int) (H : Heap) (ht : TabOf H tv t) (hc : view H 1 cv = some (cols.map intV)) : G f_sccref3_Columns [tv, cv] H (natV (colErr t cols)) H :=
  good_of_ev mixed k_sccref3_Columns (columns3_ev g_table3 g_column3 tv cv t cols H ht hc)
theorem g_ints (va vb : AV) (xs ys : List Int) (H : Heap) (ha : LstOf va 1 (xs.map intV)) (hb : LstOf vb 1 (ys.map intV)) (hl : xs.length ≤ 9223372036854775807) : G f_sccsame_Ints [va, vb] H (.bool (decide (xs = ys))) H :=
  good_of_ev mixed k_sccsame_Ints (ints_ev va vb xs ys H ha hb hl)
theorem g_less3 (a b : Val) (H : Heap) : G f_sccref1_less [valV a, valV b] H (.bool (lessR a b)) H := good_of_ev mixed k_sccref1_less (less3_ev a b H)
theorem g_compare3 (a b : Val) (H : Heap) : G f_sccref1_Compare [valV a, valV b] H (intV (cmpR a b)) H := good_of_ev mixed k_sccref1_Compare (compare3_ev g_less3 a b H)
theorem g_ahead3 (xa xb kv : AV) (a b : Row) (ks : List Key) (H : Heap) (ha : RowOf xa a) (hb : RowOf xb b) (hk : LstOf kv 2 (ks.map keyV)) (hia : ∀ k ∈ ks, KeyIn a k) (hib : ∀ k ∈ ks, KeyIn b k) (hva : ∀ v ∈ a, valOK v = true) (hvb : ∀ v ∈ b, valOK v = true) (hl : ks.length ≤ 1000000000000) :
    G f_sccref3_Ahead [xa, xb, kv] H (.bool (decide (cmpK a b ks < 0))) H := good_of_ev mixed k_sccref3_Ahead (ahead3_ev g_compare3 xa xb kv a b ks H ha hb hk hia hib hva hvb hl)
theorem g_cols3 (kv : AV) (ks : List Key) (H : Heap) (hk : LstOf kv 2 (ks.map keyV)) (hl : ks.length ≤ 8796093022208) : G f_sccref3_Cols [kv] H (lstF 1 ((colsOf ks).map intV)) H := good_of_ev mixed k_sccref3_Cols (cols3_ev kv ks H hk hl)
theorem g_sort3 (tv kv : AV) (t : List Row) (ks : List Key) (H : Heap) (ht : TabOf H tv t) (hk : LstOf kv 2 (ks.map keyV)) (he : colErr t (colsOf ks) = 0) : G f_sccref3_Sort [tv, kv] H (lstF 1 ((sortL t ks).map nV)) H :=
  good_of_ev mixed k_sccref3_Sort (sort3_ev g_ahead3 tv kv t ks H ht hk he)
theorem g_law (tv kv lv : AV) (t : List Row) (ks : List Key) (l : List Int) (H : Heap) (ht : TabOf H tv t) (hk : LstOf kv 2 (ks.map keyV)) (hkl : ks.length ≤ 8796093022208) (hl : LstOf lv 1 (l.map intV)) (hll : l.length ≤ 9223372036854775807) : G f_scclaw3_SortRows [tv, kv, lv] H (.bool true) H :=
  good_of_ev mixed k_scclaw3_SortRows (sort_rows_ev g_table3 Gs.g_chk g_error g_cols3 g_columns3 g_sort3 g_ints Gs.g_sort Gs.g_sorted tv kv lv t ks l H ht hk hkl hl hll)

theorem law_walk (v0 v1 v2 : Value) (W : World) (hg : W.cell? ⟨0, 0, none⟩ = some errTypeV) {r : Reach} {b0 b1 b2 : Nat} {held : Bool} {H : Type} {enc : TypeId × Value → H} {d0 d1 d2 : DataW H} {p0 p1 p2 : List MemPlace}
    (o0 : Value.okWide Tryd.prog W r b0 39 v0) (h0 : DataW.Trod enc Tryd.prog W 0 (fun _ => true) held 39 v0 d0 p0) (o1 : Value.okWide Tryd.prog W r b1 62 v1) (h1 : DataW.Trod enc Tryd.prog W 0 (fun _ => true) held 62 v1 d1 p1)
    (o2 : Value.okWide Tryd.prog W r b2 40 v2) (h2 : DataW.Trod enc Tryd.prog W 0 (fun _ => true) held 40 v2 d2 p2)
    (hsz : (DataW.weightsEach Tryd.prog (Tryd.f8.params.toList ++ Rows.sortRowsSpec.plain.varTypes Tryd.prog) ([d0, d1, d2] ++ [])).all (· ≤ reachBytes) = true) :
    Calls Tryd.prog 8 #[v0, v1, v2] W fun e w' => e = .returned (.bool true) ∧ Below W.heap.size W w' := by
  obtain ⟨x0, e0, r0⟩ := arg_of_trod (m := 9) (s := .sl false [.sl true shVal]) (by kernel_rfl) o0 h0
  obtain ⟨x1, e1, r1⟩ := arg_of_trod (m := 9) (s := .sl true shKey) (by kernel_rfl) o1 h1
  obtain ⟨x2, e2, r2⟩ := arg_of_trod (m := 9) (s := .sl false [.int .i64]) (by kernel_rfl) o2 h2
  obtain ⟨t, ht⟩ := fits_tab e0
  obtain ⟨q, ks, rfl⟩ := fits_keys e1
  obtain ⟨q2, l, rfl, hl⟩ := fits_ints' e2
  have hb : Tryd.prog.bytesOf 87 = 16 := by kernel_rfl
  have hs := sized_list (j := 1) (t := 62) hsz (by kernel_rfl) rfl Tryd.underlying62 h1 r1
  rw [hb, List.length_map] at hs
  have hm : maxLen ≤ 9223372036854775807 := by decide
  exact law_of_good_err hg Tryd.func8 (by kernel_rfl) (by kernel_rfl) (g_law x0 _ _ t ks l [] (ht []) ⟨q, 2, rfl, .inl rfl⟩ (by omega) ⟨q2, 1, rfl, .inl rfl⟩ (by omega)) (relL_cons r0 (relL_cons r1 (relL_cons r2 (relL_nil _ _ _ _))))

/-! ### The row's step -/
set_option maxRecDepth 100000 in
theorem lifted (os : Os) (started : os.Started) (H : Type) (enc : TypeId × Value → H) :
    ReturnsInHanded {} Tryd.checked os 8 .any (fun w args => (Rows.sortRowsSpec.pre enc Tryd.prog Tryd.f8 [] false w args ∧ laidMetH Tryd.prog Rows.sortRowsRow.laid w) ∧ sizedMet enc Tryd.prog Tryd.f8 (OpenSpec.ofChange Rows.sortRowsSpec) false w args)
      (Rows.sortRowsSpec.post enc Tryd.prog Tryd.f8 false true false false) := by
  refine returnsInHanded_of_change_and (C := Tryd.checked) (X := fun w _ => laidMetH Tryd.prog Rows.sortRowsRow.laid w) (fun _ _ _ hh h => h.of_heap hh) own started (by kernel_rfl) Tryd.func8
    (ChangeSpec.witness_at (enc := enc) (C := Tryd.checked) (os := os) (X := fun w _ => laidMetH Tryd.prog Rows.sortRowsRow.laid w) false (laidWorld os) #[.slice none 0 0, .slice none 0 0, .slice none 0 0] 8 rfl (by kernel_rfl) (by kernel_rfl) (by kernel_rfl) (by kernel_rfl) (by kernel_rfl) (laidWorld_met os _)) ?_
  intro W base args ds gs before hval0 hW _ hsz hL _
  have hval : ∀ (j : Nat) t v, Tryd.f8.params[j]? = some t → args[j]? = some v → Value.okWide Tryd.prog W .any base t v := hval0
  have hW' := hW
  obtain ⟨p, q, hA0, hV, rfl, hfz, hnd⟩ := hW
  have hA : DataW.TrodAll enc Tryd.prog W 0 (fun _ => true) true Tryd.f8.params.toList args.toList ds p := hA0
  rw [Tryd.params8] at hA hval
  obtain ⟨v0, vs0, d0, ds0, p0, q0, hargs, rfl, rfl, h0, r0⟩ := trodAll_cons hA
  obtain ⟨v1, vs1, d1, ds1, p1, q1, rfl, rfl, rfl, h1, r1⟩ := trodAll_cons r0
  obtain ⟨v2, vs2, d2, ds2, p2, q2, rfl, rfl, rfl, h2, r2⟩ := trodAll_cons r1
  obtain ⟨rfl, rfl, rfl⟩ := trodAll_nil r2
  obtain rfl : args = #[v0, v1, v2] := by cases args; simp_all
  obtain ⟨rfl, rfl⟩ := trodVars_none hV
  have lt0 : ∀ x ∈ p0, x.block < W.heap.size := by obtain ⟨m, hm⟩ := h0; exact DataW.trod_lt m _ _ _ hm
  have lt1 : ∀ x ∈ p1, x.block < W.heap.size := by obtain ⟨m, hm⟩ := h1; exact DataW.trod_lt m _ _ _ hm
  have lt2 : ∀ x ∈ p2, x.block < W.heap.size := by obtain ⟨m, hm⟩ := h2; exact DataW.trod_lt m _ _ _ hm
  refine (law_walk v0 v1 v2 W (handle_of_laid hL) (hval 0 39 v0 rfl rfl) h0 (hval 1 62 v1 rfl rfl) h1 (hval 2 40 v2 rfl rfl) h2 hsz).mono fun e W' ⟨he, bel⟩ => ?_
  subst he
  exact ⟨_, rfl, _, _, _, [], _, [], hW', trodAll_mk1 (shut_bool Tryd.underlying4 _), (trodAll_cons_mk (Below.trod laidOut (by kernel_rfl) (of_decide_eq_true (by kernel_rfl)) h0 bel lt0) (trodAll_cons_mk (Below.trod laidOut (by kernel_rfl) (of_decide_eq_true (by kernel_rfl)) h1 bel lt1) (trodAll_cons_mk (Below.trod laidOut (by kernel_rfl) (of_decide_eq_true (by kernel_rfl)) h2 bel lt2) trodAll_mk0))), rfl, bel.frame _, fun h => by cases h⟩

theorem over : Rows.sortRowsRow.holds Tryd.pinned (OpenSpec.ofChange Rows.sortRowsSpec) :=
  OpenClaim.holds_of_wide 8 Tryd.f8 rfl rfl rfl rfl rfl rfl rfl ⟨rfl, rfl, rfl, rfl, rfl⟩ rfl rfl rfl rfl rfl (by kernel_rfl) Tryd.func8 (by kernel_rfl)
    (of_decide_eq_true (by kernel_rfl)) (by unfold Func.isWrapper; first | (rw [if_pos (by decide +kernel)]; kernel_rfl) | (rw [if_neg (by decide +kernel)]; exact ⟨rfl, rfl⟩))
    (fun os started H enc _ => lifted os started H enc)

/-- The given statement: the tied card. -/
theorem proved : Rows.SortRowsCardSaid :=
  Claim7.holds_tied_plain_at .later [] [.handle] true (true, "3f949a449b5eb89893828e6ebdbad7aa46b0e61a91577b00d2b5ffddd5ee743f") true
    over (fun _ h => by cases h) (by kernel_rfl) (fun _ h => by cases h) sortRows_row_tie rfl ⟨rfl, rfl⟩ (by kernel_rfl) rfl
    (fun f fn hf hfn => by
      obtain rfl : f = 8 := Option.some.inj ((show Tryd.prog.funcNamed "sccsettle/scclaw3.SortRows" = some 8 by kernel_rfl).symm.trans hf) |>.symm
      obtain rfl : fn = Tryd.f8 := (Option.some.inj (Tryd.func8.symm.trans hfn)).symm
      exact ⟨by kernel_rfl, fun j t ht => by
        rw [Tryd.params8] at ht
        have ht' : t ∈ [39, 62, 40] := List.mem_of_getElem? (by simpa using ht)
        simp only [List.mem_cons, List.mem_nil_iff, or_false] at ht'
        rcases ht' with rfl | rfl | rfl
        · exact (show Tryd.prog.wantsStandIn 39 = false by kernel_rfl)
        · exact (show Tryd.prog.wantsStandIn 62 = false by kernel_rfl)
        · exact (show Tryd.prog.wantsStandIn 40 = false by kernel_rfl)⟩)
    (by kernel_rfl)
#print axioms proved
end Go.Proofs.YtniijfcjdlhfcaaDoor.sortRows
