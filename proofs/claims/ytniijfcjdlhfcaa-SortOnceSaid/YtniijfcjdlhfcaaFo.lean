/-
  THE GIVEN STATEMENT 'SortOnceSaid' IS PROVED: whatever the table and the columns, the law says true, and writes nothing that was there. No conditions.
-/
import Derived.Test.YtniijfcjdlhfcaaRows
import Derived.Test.YtniijfcjdlhfcaaSo
import Derived.Test.YtniijfcjdlhfcaaArg
import Derived.Test.YtniijfcjdlhfcaaR1sk
import Derived.WalkKit
import Derived.ProofKit
import Derived.OpenShut
import Derived.ShutString
import Derived.ChangeOld
import Derived.Below
import Derived.Carry
set_option linter.all false
namespace Go.Proofs.Ytniijfcjdlhfcaa.sortOnce
open Go.AM Go.ChangeShapes Go.WideShapes Go.ChangeAt Go.RowKit
open Go.ChangeMaps (open_string shut_string)

theorem own : ownKnob Try.prog.godebug = none := by kernel_rfl
theorem laidOut : laidOutB Try.prog = true := by kernel_rfl
theorem mixed : Try.prog.follows .mixedOrders = true := by kernel_rfl

section
variable {GT : Nat → Option AV}
abbrev G (GT : Nat → Option AV) : CSpec := Go.AM.Good Try.prog GT
theorem g_isNaN_int (x H) : G GT f_cmp_isNaN_int_ [intV x] H (.bool false) H := good_of_ev mixed k_cmp_isNaN_int_ (isNaN_int_ev x H)
theorem g_isNaN_str (x H) : G GT f_cmp_isNaN_string_ [.str x] H (.bool false) H := good_of_ev mixed k_cmp_isNaN_string_ (isNaN_str_ev x H)
theorem g_cmpInt (a b H) : G GT f_cmp_Compare_int_ [intV a, intV b] H (intV (cmpI a b)) H := good_of_ev mixed k_cmp_Compare_int_ (cmpInt_ev g_isNaN_int a b H)
theorem g_cmpStr (a b H) : G GT f_cmp_Compare_string_ [.str a, .str b] H (intV (cmpS a b)) H := good_of_ev mixed k_cmp_Compare_string_ (cmpStr_ev g_isNaN_str a b H)
theorem g_or (v) (xs : List Int) (H) (hv : view H 1 v = some (xs.map intV)) (hl : xs.length ≤ 1000000000000) : G GT f_cmp_Or_int_ [v] H (intV (orI xs)) H := good_of_ev mixed k_cmp_Or_int_ (orI_ev v xs H hv hl)
theorem g_cmpV (a b H) : G GT f_value_Compare [valV a, valV b] H (intV (cmpV a b)) H := good_of_ev mixed k_value_Compare (cmpV_ev g_cmpInt g_cmpStr g_or a b H)
theorem g_chkV (v H) : G GT f_value_Check [valV v] H (chkV v) H := good_of_ev mixed k_value_Check (chkV_ev v H)
theorem g_chk (tv t H) (ht : TabOf H tv t) : G GT f_sort_Check [tv] H (errN (tabErr t)) H := good_of_ev mixed k_sort_Check (chk_ev g_chkV tv t H ht)
theorem g_col (tv t c H) (ht : TabOf H tv t) : G GT f_sort_Column [tv, intV c] H (.bool (colOK t c)) H := good_of_ev mixed k_sort_Column (column_ev tv t c H ht)
theorem g_cols (tv cv) (t : List Row) (cols : List Int) (H) (ht : TabOf H tv t) (hc : view H 1 cv = some (cols.map intV)) : G GT f_sort_Columns [tv, cv] H (errN (colErr t cols)) H :=
  good_of_ev mixed k_sort_Columns (columns_ev g_chk g_col tv cv t cols H ht hc)
theorem g_compare (xa xb kv) (a b : Row) (ks : List Key) (H) (ha : RowOf xa a) (hb : RowOf xb b) (hk : view H 2 kv = some (ks.map keyV)) (hia : ∀ k ∈ ks, KeyIn a k) (hib : ∀ k ∈ ks, KeyIn b k) (hl : ks.length ≤ 1000000000000) :
    G GT f_sort_Compare [xa, xb, kv] H (intV (cmpK a b ks)) H := good_of_ev mixed k_sort_Compare (compare_ev g_cmpV xa xb kv a b ks H ha hb hk hia hib hl)
theorem g_index (v) (xs : List Int) (p f first caps H) (hv : view H 1 v = some (xs.map intV)) (hl : xs.length ≤ 1000000000000) (hp : ∀ x ∈ xs, G GT f (first ++ [intV x] ++ caps) H (.bool (p x)) H) :
    G GT f_slices_IndexFunc___int_int_ [v, .fn f first caps] H (intV (idxF p xs 0)) H := good_of_ev mixed k_slices_IndexFunc___int_int_ (indexFunc_ev v xs p f first caps H hv hl hp)
theorem g_contains (v) (xs : List Int) (p f first caps H) (hv : view H 1 v = some (xs.map intV)) (hl : xs.length ≤ 1000000000000) (hp : ∀ x ∈ xs, G GT f (first ++ [intV x] ++ caps) H (.bool (p x)) H) :
    G GT f_slices_ContainsFunc___int_int_ [v, .fn f first caps] H (.bool (xs.any p)) H := good_of_ev mixed k_slices_ContainsFunc___int_int_ (containsFunc_ev g_index v xs p f first caps H hv hl hp)
theorem g_closure (k : Nat) (t : List Row) (a r : Row) (ks : List Key) (tv rx kv : AV) (H : Heap) (bt br bk : Nat) (hbt : H[bt]? = some (.box [tv])) (hbr : H[br]? = some (.box [rx])) (hbk : H[bk]? = some (.box [kv]))
    (ht : TabOf H tv t) (hr : RowOf rx r) (hkv : view H 2 kv = some (ks.map keyV)) (hka : t[k]? = some a) (hia : ∀ k ∈ ks, KeyIn a k) (hib : ∀ k ∈ ks, KeyIn r k) (hl : ks.length ≤ 1000000000000) :
    G GT f_sort_Distinct_c1 [intV k, .ref bt 0 0 0, .ref br 0 0 0, .ref bk 0 0 0] H (.bool (cmpK a r ks == 0)) H :=
  good_of_ev mixed k_sort_Distinct_c1 (closure_ev g_compare k t a r ks tv rx kv H bt br bk hbt hbr hbk ht hr hkv hka hia hib hl)
theorem g_distinct (tv cv) (t : List Row) (cols : List Int) (H) (ht : TabOf H tv t) (hc : view H 1 cv = some (cols.map intV)) : G GT f_sort_Distinct [tv, cv] H (distV t cols) H :=
  good_of_ev mixed k_sort_Distinct (distinct_ev g_cols g_contains g_closure tv cv t cols H ht hc)
theorem g_num (n H) : G GT f_sccref1_Num [intV n] H (valV ⟨1, n, []⟩) H := good_of_ev mixed k_sccref1_Num (num_ev n H)
theorem g_once (tv cv) (t : List Row) (cols : List Int) (H) (ht : TabOf H tv t) (hc : view H 1 cv = some (cols.map intV)) : G GT f_scclaw4_SortOnce [tv, cv] H (.bool true) H :=
  good_of_ev mixed k_scclaw4_SortOnce (once_ev g_num g_distinct g_cmpV tv cv t cols H ht hc)
end

theorem law_walk (v0 v1 : Value) (W : World) {r : Reach} {b0 b1 : Nat} {held : Bool} {H : Type} {enc : TypeId × Value → H} {d0 d1 : DataW H} {p0 p1 : List MemPlace}
    (o0 : Value.okWide Try.prog W r b0 28 v0) (h0 : DataW.Trod enc Try.prog W 0 (fun _ => true) held 28 v0 d0 p0) (o1 : Value.okWide Try.prog W r b1 29 v1) (h1 : DataW.Trod enc Try.prog W 0 (fun _ => true) held 29 v1 d1 p1) :
    Calls Try.prog 4 #[v0, v1] W fun e w' => e = .returned (.bool true) ∧ Below W.heap.size W w' := by
  obtain ⟨x0, e0, r0⟩ := arg_of_trod (m := 9) (s := .sl false [.sl true shVal]) (by kernel_rfl) o0 h0
  obtain ⟨x1, e1, r1⟩ := arg_of_trod (m := 9) (s := .sl false [.int .i64]) (by kernel_rfl) o1 h1
  obtain ⟨t, ht⟩ := fits_tab e0
  obtain ⟨cols, hc⟩ := fits_ints e1
  exact law_of_good Try.func4 (by kernel_rfl) (by kernel_rfl) (g_once x0 x1 t cols [] (ht []) (hc.view [])) (relL_cons r0 (relL_cons r1 (relL_nil _ _ _ _)))

/-! ### The row's step -/
set_option maxRecDepth 100000 in
theorem lifted (os : Os) (started : os.Started) (H : Type) (enc : TypeId × Value → H) :
    ReturnsInHanded {} Try.checked os 4 .any (Rows.sortOnceSpec.pre6 enc Try.prog Try.f4 Rows.sortOnceRow.domain false) (Rows.sortOnceSpec.post enc Try.prog Try.f4 false true false false) := by
  refine returnsInHanded_of_change (C := Try.checked) own started (by kernel_rfl) Try.func4
    (ChangeSpec.witness6 (enc := enc) (C := Try.checked) false ⟨#[], #[.slice none 0 0, .slice none 0 0], []⟩ 8 (by kernel_rfl) (by kernel_rfl) (by kernel_rfl) (by kernel_rfl)) ?_
  intro W base args ds gs before hval0 hW hcnd _
  have hval : ∀ (j : Nat) t v, Try.f4.params[j]? = some t → args[j]? = some v → Value.okWide Try.prog W .any base t v := hval0
  have hW' := hW
  obtain ⟨p, q, hA0, hV, rfl, hfz, hnd⟩ := hW
  have hA : DataW.TrodAll enc Try.prog W 0 (fun _ => true) true Try.f4.params.toList args.toList ds p := hA0
  rw [Try.params4] at hA hval
  obtain ⟨v0, vs0, d0, ds0, p0, q0, hargs, rfl, rfl, h0, r0⟩ := trodAll_cons hA
  obtain ⟨v1, vs1, d1, ds1, p1, q1, rfl, rfl, rfl, h1, r1⟩ := trodAll_cons r0
  obtain ⟨rfl, rfl, rfl⟩ := trodAll_nil r1
  obtain rfl : args = #[v0, v1] := by cases args; simp_all
  obtain ⟨rfl, rfl⟩ := trodVars_none hV
  have lt0 : ∀ x ∈ p0, x.block < W.heap.size := by obtain ⟨m, hm⟩ := h0; exact DataW.trod_lt m _ _ _ hm
  have lt1 : ∀ x ∈ p1, x.block < W.heap.size := by obtain ⟨m, hm⟩ := h1; exact DataW.trod_lt m _ _ _ hm
  refine (law_walk v0 v1 W (hval 0 28 v0 rfl rfl) h0 (hval 1 29 v1 rfl rfl) h1).mono fun e W' ⟨he, bel⟩ => ?_
  subst he
  exact ⟨_, rfl, _, _, _, [], _, [], hW', trodAll_mk1 (shut_bool Try.underlying4 _), (trodAll_cons_mk (Below.trod laidOut (by kernel_rfl) (of_decide_eq_true (by kernel_rfl)) h0 bel lt0) (trodAll_cons_mk (Below.trod laidOut (by kernel_rfl) (of_decide_eq_true (by kernel_rfl)) h1 bel lt1) trodAll_mk0)), rfl, bel.frame _, fun h => by cases h⟩

theorem over : Rows.sortOnceRow.holds Try.pinned (OpenSpec.ofChange Rows.sortOnceSpec) :=
  OpenClaim.holds_of_wide 4 Try.f4 rfl rfl rfl rfl rfl rfl rfl ⟨rfl, rfl, rfl, rfl, rfl⟩ rfl rfl rfl rfl rfl (by kernel_rfl) Try.func4 (by kernel_rfl)
    (of_decide_eq_true (by kernel_rfl)) (by unfold Func.isWrapper; first | (rw [if_pos (by decide +kernel)]; kernel_rfl) | (rw [if_neg (by decide +kernel)]; exact ⟨rfl, rfl⟩))
    (fun os started H enc _ => lifted os started H enc)

/-- The given statement. -/
theorem proved : Rows.SortOnceSaid := over
#print axioms proved
end Go.Proofs.Ytniijfcjdlhfcaa.sortOnce
