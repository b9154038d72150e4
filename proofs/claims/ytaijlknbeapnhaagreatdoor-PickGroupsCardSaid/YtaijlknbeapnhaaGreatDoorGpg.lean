/- The contracts of package pick's groups, and of what the reference says of them, for this program. Own work. -/
import Derived.Test.YtaijlknbeapnhaaGreatDoorQF
import Derived.Test.YtaijlknbeapnhaaGreatDoorGst
import Derived.Test.YtaijlknbeapnhaaGreatDoorGpk
set_option linter.all false
set_option maxRecDepth 100000
namespace Go.AM.Gs
open Go.Proofs

section
variable {GT : Nat → Option AV}
theorem g_vnum (n : Int) (H : Heap) : G GT f_value_Num [intV n] H (valV (nmV n)) H := good_of_ev mixed k_value_Num (vnum_ev n H)
theorem g_wrong (n : Int) (H : Heap) : G GT f_value_Wrong [intV n] H (valV (badV n)) H := good_of_ev mixed k_value_Wrong (wrong_ev n H)
theorem g_number (v : Val) (hk : NumK v) (H : Heap) : G GT f_value_Number [valV v] H (valV v) H := good_of_ev mixed k_value_Number (number_nk_ev v hk H)
theorem g_reckon (a b : Int) (H : Heap) : G GT f_value_reckon [intV 8, intV a, intV b] H (valV (plusV a b)) H := good_of_ev mixed k_value_reckon (reckon_add_ev g_vnum g_wrong a b H)
theorem g_twoAdd (a b : Val) (ka : NumK a) (kb : NumK b) (H : Heap) : G GT f_value_Two [intV 8, valV a, valV b] H (valV (addV a b)) H := good_of_ev mixed k_value_Two (two_add_ev g_isBad g_number g_reckon a b ka kb H)
theorem g_esum (nv : AV) (ns : List Int) (H : Heap) (hn : view H 1 nv = some (ns.map intV)) (hl : ns.length ≤ 1000000000000) : G GT f_eval_Sum [nv] H (valV (sumN ns)) H := good_of_ev mixed k_eval_Sum (esum_ev g_vnum g_twoAdd nv ns H hn hl)
theorem g_sum (lv : AV) (l : List Val) (H : Heap) (hv : view H 3 lv = some (l.map valV)) (hl : l.length ≤ 1000) : G GT f_pick_sum [lv] H (valV (sumL l)) H := good_of_ev mixed k_pick_sum (sum_ev g_esum lv l H hv hl)
theorem g_group (tv cv : AV) (t : List Row) (cols : List Int) (col : Int) (H : Heap) (ht : TabOf H tv t) (hc : view H 1 cv = some (cols.map intV)) : G GT f_pick_Group [tv, cv, intV col] H (groupV t cols col) H :=
  good_of_ev mixed k_pick_Group (group_ev g_cols g_col g_sort g_compare g_sum tv cv t cols col H ht hc)
/-! Big numbers. -/
theorem g_trim (b m : Nat) (ws : List Nat) (H : Heap) (hm : ws.length = m) (hb : H[b]? = some (.row 1 (ws.map u32V))) (hw : Small ws) (hl : m ≤ 1000000) : G GT f_sccsettlebig_trim [.sl (some false) b 1 0 m] H (.sl (some false) b 1 0 (wds (wval ws)).length) H :=
  good_of_ev mixed k_sccsettlebig_trim (trim_ev b m ws H hm hb hw hl)
theorem g_words (x : Nat) (H : Heap) (hx : x < 18446744073709551616) : G GT f_sccsettlebig_words [u64V x] H (magV x) H := good_of_ev mixed k_sccsettlebig_words (words_ev g_trim x hx H)
theorem g_badd (av bv : AV) (x y : Nat) (H : Heap) (ha : Mag av x) (hb : Mag bv y) (h1 : (wds x).length ≤ 100000) (h2 : (wds y).length ≤ 100000) : G GT f_sccsettlebig_add [av, bv] H (magV (x + y)) H :=
  good_of_ev mixed k_sccsettlebig_add (add_ev g_trim av bv x y H ha hb h1 h2)
theorem g_bsub (av bv : AV) (x y : Nat) (H : Heap) (ha : Mag av x) (hb : Mag bv y) (h : y ≤ x) (h1 : (wds x).length ≤ 100000) : G GT f_sccsettlebig_sub [av, bv] H (magV (x - y)) H :=
  good_of_ev mixed k_sccsettlebig_sub (sub_ev g_trim av bv x y _ H ha hb h rfl h1)
theorem g_bcmp (av bv : AV) (x y : Nat) (H : Heap) (ha : Mag av x) (hb : Mag bv y) (h1 : (wds x).length ≤ 100000) (h2 : (wds y).length ≤ 100000) : G GT f_sccsettlebig_cmp [av, bv] H (intV (cmpN x y)) H :=
  good_of_ev mixed k_sccsettlebig_cmp (bcmp_ev av bv x y H ha hb h1 h2)
theorem g_bsum (av bv : AV) (xn yn : Bool) (x y : Nat) (H : Heap) (ha : Mag av x) (hb : Mag bv y) (h1 : (wds x).length ≤ 100000) (h2 : (wds y).length ≤ 100000) :
    G GT f_sccsettlebig_sum [.bool xn, av, .bool yn, bv] H (.tup [.bool (sumS xn x yn y).1, magV (sumS xn x yn y).2]) H := good_of_ev mixed k_sccsettlebig_sum (bsum_ev g_badd g_bsub g_bcmp av bv xn yn x y H ha hb h1 h2)
theorem g_bit (av : AV) (m i : Nat) (H : Heap) (ha : Mag av m) (hl : (wds m).length ≤ 100000) (hi : i ≤ 1000000) : G GT f_sccsettlebig_bit [av, intV i] H (u64V (m / 2 ^ i % 2)) H := good_of_ev mixed k_sccsettlebig_bit (bit_ev av m i H ha hl hi)
theorem g_tzb (b m n : Nat) (x av : AV) (H : Heap) (hb : H[b]? = some (.box [x, av])) (ha : Mag av m) (h0 : m ≠ 0) (hl : (wds m).length ≤ 100) (hn : n ≤ 10000) (h1 : m % 2 ^ n = 0) (h2 : m / 2 ^ n % 2 = 1) :
    G GT f_sccsettlebig_Int__TrailingZeroBits [.ref b 0 0 0] H (u64V n) H := good_of_ev mixed k_sccsettlebig_Int__TrailingZeroBits (tzb_ev g_bit b m n x av H hb ha h0 hl hn h1 h2)
theorem g_blen (av : AV) (m : Nat) (H : Heap) (ha : Mag av m) (hl : (wds m).length ≤ 1000) : G GT f_sccsettlebig_length [av] H (natV (bits m)) H := good_of_ev mixed k_sccsettlebig_length (length_ev av m H ha hl)
theorem g_uint64 (b m : Nat) (x av : AV) (H : Heap) (hb : H[b]? = some (.box [x, av])) (ha : Mag av m) (hm : m < 18446744073709551616) : G GT f_sccsettlebig_Int__Uint64 [.ref b 0 0 0] H (u64V m) H :=
  good_of_ev mixed k_sccsettlebig_Int__Uint64 (uint64_ev b m x av H hb ha hm)
theorem g_int64 (b : Nat) (v : Int) (H : Heap) (hb : H[b]? = some (.box (bigC v))) (hv : In64 v) : G GT f_sccsettlebig_Int__Int64 [.ref b 0 0 0] H (intV v) H := good_of_ev mixed k_sccsettlebig_Int__Int64 (int64_ev g_uint64 b v H hb hv)
theorem g_isInt64 (b : Nat) (v : Int) (H : Heap) (hb : H[b]? = some (.box (bigC v))) (hv : (wds v.natAbs).length ≤ 100) : G GT f_sccsettlebig_Int__IsInt64 [.ref b 0 0 0] H (.bool (decide (In64 v))) H :=
  good_of_ev mixed k_sccsettlebig_Int__IsInt64 (isInt64_ev g_blen g_tzb b v H hb hv)
theorem g_give (b n : Nat) (neg : Bool) (x0 x1 : AV) (H : Heap) (hb : H[b]? = some (.box [x0, x1])) : G GT f_sccsettlebig_Int__give [.ref b 0 0 0, .bool neg, magV n] H (.ref b 0 0 0) (H.set b (.box [.bool (neg && decide (0 < n)), magV n])) :=
  good_of_ev mixed k_sccsettlebig_Int__give (give_ev b n neg x0 x1 H hb)
theorem g_setInt64 (b : Nat) (v : Int) (x0 x1 : AV) (H : Heap) (hb : H[b]? = some (.box [x0, x1])) (hv : In64 v) : G GT f_sccsettlebig_Int__SetInt64 [.ref b 0 0 0, intV v] H (.ref b 0 0 0) (H.set b (.box (bigC v))) :=
  good_of_ev mixed k_sccsettlebig_Int__SetInt64 (setInt64_ev g_words g_give b v x0 x1 H hb hv)
theorem k_bigNew : chkF Tryz.prog f_sccsettlebig_NewInt a_bigNew = true := by kernel_rfl
theorem g_newInt (v : Int) (H : Heap) (hv : In64 v) : G GT f_sccsettlebig_NewInt [intV v] H (.ref H.length 0 0 0) (H ++ [.box (bigC v)]) := good_of_ev mixed k_bigNew (newInt_ev g_setInt64 v H hv)
theorem g_bigAdd (z x y : Nat) (a b : Int) (x0 x1 : AV) (H : Heap) (hz : H[z]? = some (.box [x0, x1])) (hx : H[x]? = some (.box (bigC a))) (hy : H[y]? = some (.box (bigC b))) (ha : (wds a.natAbs).length ≤ 1000) (hb : (wds b.natAbs).length ≤ 1000) :
    G GT f_sccsettlebig_Int__Add [.ref z 0 0 0, .ref x 0 0 0, .ref y 0 0 0] H (.ref z 0 0 0) (H.set z (.box (bigC (a + b)))) := good_of_ev mixed k_sccsettlebig_Int__Add (bigAdd_ev g_bsum g_give z x y a b x0 x1 H hz hx hy ha hb)
theorem g_fits (b : Nat) (v : Int) (H : Heap) (hb : H[b]? = some (.box (bigC v))) (hv : (wds v.natAbs).length ≤ 100) : G GT f_sccref1_Fits [.ref b 0 0 0] H (.bool (decide (In64 v))) H := good_of_ev mixed k_sccref1_Fits (fits_ev g_isInt64 b v H hb hv)
theorem g_bad3 (n : Int) (H : Heap) : G GT f_sccref1_Bad [intV n] H (valV ⟨4, n, []⟩) H := good_of_ev mixed k_sccref1_Bad (bad3_ev n H)
theorem g_reckon3 (a b : Int) (H : Heap) (ha : In64 a) (hb : In64 b) : G GT f_sccref1_Reckon [intV 8, intV a, intV b] H (valV (plusV a b)) H := good_of_ev mixed k_sccref1_Reckon (reckon3_add_ev g_newInt g_bigAdd g_fits g_int64 g_bad3 g_num a b H ha hb)
theorem g_number3 (v : Val) (hk : NumK v) (H : Heap) : G GT f_sccref1_Number [valV v] H (valV v) H := good_of_ev mixed k_sccref1_Number (number3_ev v hk H)
theorem g_two3Add (a b : Val) (ka : NumK a) (kb : NumK b) (ra : In64 a.num) (rb : In64 b.num) (H : Heap) : G GT f_sccref1_Two [intV 8, valV a, valV b] H (valV (addV a b)) H := good_of_ev mixed k_sccref1_Two (two3_add_ev g_number3 g_reckon3 a b ka kb ra rb H)
theorem g_sum2 (nv : AV) (ns : List Int) (H : Heap) (hn : view H 1 nv = some (ns.map intV)) (hl : ns.length ≤ 1000000000000) (hr : ∀ n ∈ ns, In64 n) : G GT f_sccref2_Sum [nv] H (valV (sumN ns)) H := good_of_ev mixed k_sccref2_Sum (sum2_ev g_num g_two3Add nv ns H hn hl hr)
theorem g_sum3s (b : Nat) (l : List Val) (H : Heap) (hv : H[b]? = some (.row 3 (l.map valV))) (hl : l.length ≤ 1000) (hr : ∀ v ∈ l, In64 v.num) : G GT f_sccref3_Sum [.sl (some true) b 3 0 l.length] H (valV (sumL l)) H := good_of_ev mixed k_sccref3_Sum (sum3s_ev g_sum2 b l H hv hl hr)
/-! The reference's groups. -/
theorem g_alike3 (xa xb cv : AV) (a b : Row) (cols : List Int) (H : Heap) (ha : RowOf xa a) (hb : RowOf xb b) (hc : view H 1 cv = some (cols.map intV)) (hia : ∀ c ∈ cols, 0 ≤ c ∧ c < (a.length : Int)) (hib : ∀ c ∈ cols, 0 ≤ c ∧ c < (b.length : Int)) (hl : cols.length ≤ 1000000) :
    G GT f_sccref3_Alike [xa, xb, cv] H (.bool (alikeR a b cols)) H := good_of_ev mixed k_sccref3_Alike (alike3_ev xa xb cv a b cols H ha hb hc hia hib hl)
theorem g_distinct3 (tv cv : AV) (t : List Row) (cols : List Int) (H : Heap) (ht : TabOf H tv t) (hc : view H 1 cv = some (cols.map intV)) (he : colErr t cols = 0) : G GT f_sccref3_Distinct [tv, cv] H (lstF 1 ((ids t (keysOf cols) t.length).map nV)) H :=
  good_of_ev mixed k_sccref3_Distinct (distinct3_ev g_alike3 tv cv t cols H ht hc he)
theorem g_ahead3 (xa xb kv : AV) (a b : Row) (ks : List Key) (H : Heap) (ha : RowOf xa a) (hb : RowOf xb b) (hk : KeysAt H kv ks) (hia : ∀ k ∈ ks, KeyIn a k) (hib : ∀ k ∈ ks, KeyIn b k) (hva : ∀ v ∈ a, valOK v = true) (hvb : ∀ v ∈ b, valOK v = true) (hl : ks.length ≤ 1000000000000) :
    G GT f_sccref3_Ahead [xa, xb, kv] H (.bool (decide (cmpK a b ks < 0))) H := by
  rcases hk with hk | ⟨kb, rfl, hk⟩
  · exact good_of_ev mixed k_sccref3_Ahead (ahead3_ev g_compare3 xa xb kv a b ks H ha hb hk hia hib hva hvb hl)
  · exact good_of_ev mixed k_sccref3_Ahead (ahead3s_ev g_compare3 xa xb kb a b ks H ha hb hk hia hib hva hvb hl)
theorem g_sort3 (tv kv : AV) (t : List Row) (ks : List Key) (H : Heap) (ht : TabOf H tv t) (hk : KeysAt H kv ks) (he : colErr t (colsOf ks) = 0) : G GT f_sccref3_Sort [tv, kv] H (lstF 1 ((sortL t ks).map nV)) H :=
  good_of_ev mixed k_sccref3_Sort (sort3p_ev (KP := KeysAt) (fun _ _ _ _ hO h => h.old hO) g_ahead3 tv kv t ks H ht hk he)
theorem g_group3 (tv cv : AV) (t : List Row) (cols : List Int) (col : Int) (H : Heap) (ht : TabOf H tv t) (hc : LstOf cv 1 (cols.map intV)) (he : colErr t cols = 0) (hok : colOK t col = true) (hrg : ∀ (i : Nat) (r : Row), t[i]? = some r → ∀ v ∈ r, In64 v.num) :
    G GT f_sccref3_Group [tv, cv, intV col] H (lstF 5 ((refGL t cols col (sortL t (keysOf cols))).map grpV)) H := good_of_ev mixed k_sccref3_Group (group3_ev g_alike3 g_sum3s g_sort3 g_distinct3 tv cv t cols col H ht hc he hok hrg)
theorem g_values (va vb : AV) (xs ys : List Val) (H : Heap) (ha : LstOf va 3 (xs.map valV)) (hb : LstOf vb 3 (ys.map valV)) (hl : xs.length ≤ 9223372036854775807) : G GT f_sccsame_Values [va, vb] H (.bool (decide (xs = ys))) H :=
  good_of_ev mixed k_sccsame_Values (values_ev va vb xs ys H ha hb hl)
end
end Go.AM.Gs
