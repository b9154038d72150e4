/- The contracts of what is under package sort, for this program. Own work. -/
import Derived.Test.YtaijlknbeapnhaaGreatDoorQD
import Derived.Test.YtaijlknbeapnhaaGreatDoorZk
set_option linter.all false
set_option maxRecDepth 100000
namespace Go.AM.Gs
open Go.Proofs

theorem mixed : Tryz.prog.follows .mixedOrders = true := by kernel_rfl

section
variable {GT : Nat → Option AV}
abbrev G (GT : Nat → Option AV) : CSpec := Go.AM.Good Tryz.prog GT
theorem g_isNaN_int (x H) : G GT f_cmp_isNaN_int_ [intV x] H (.bool false) H := good_of_ev mixed k_cmp_isNaN_int_ (isNaN_int_ev x H)
theorem g_isNaN_str (x H) : G GT f_cmp_isNaN_string_ [.str x] H (.bool false) H := good_of_ev mixed k_cmp_isNaN_string_ (isNaN_str_ev x H)
theorem g_cmpInt (a b H) : G GT f_cmp_Compare_int_ [intV a, intV b] H (intV (cmpI a b)) H := good_of_ev mixed k_cmp_Compare_int_ (cmpInt_ev g_isNaN_int a b H)
theorem g_cmpStr (a b H) : G GT f_cmp_Compare_string_ [.str a, .str b] H (intV (cmpS a b)) H := good_of_ev mixed k_cmp_Compare_string_ (cmpStr_ev g_isNaN_str a b H)
theorem g_or (v) (xs : List Int) (H) (hv : view H 1 v = some (xs.map intV)) (hl : xs.length ≤ 1000000000000) : G GT f_cmp_Or_int_ [v] H (intV (orI xs)) H := good_of_ev mixed k_cmp_Or_int_ (orI_ev v xs H hv hl)
theorem g_cmpV (a b H) : G GT f_value_Compare [valV a, valV b] H (intV (cmpV a b)) H := good_of_ev mixed k_value_Compare (cmpV_ev g_cmpInt g_cmpStr g_or a b H)
theorem g_chkV (v H) : G GT f_value_Check [valV v] H (chkV v) H := good_of_ev mixed k_value_Check (chkV_ev v H)
theorem g_chk (tv t H) (ht : TabOf H tv t) : G GT f_sort_Check [tv] H (errN (tabErr t)) H := good_of_ev mixed k_sort_Check (chk_ev g_chkV tv t H ht)
theorem g_col (tv t c H) (ht : TabOf H tv t) : G GT f_sort_Column [tv, intV c] H (.bool (colOK t c)) H := good_of_ev mixed k_sort_Column (column_ev tv t c H ht)
theorem g_cols (tv cv) (t : List Row) (cols : List Int) (H) (ht : TabOf H tv t) (hc : view H 1 cv = some (cols.map intV)) : G GT f_sort_Columns [tv, cv] H (errN (colErr t cols)) H :=
  good_of_ev mixed k_sort_Columns (columns_ev g_chk g_col tv cv t cols H ht hc)
theorem g_compare (xa xb kv) (a b : Row) (ks : List Key) (H) (ha : RowOf xa a) (hb : RowOf xb b) (hk : view H 2 kv = some (ks.map keyV)) (hia : ∀ k ∈ ks, KeyIn a k) (hib : ∀ k ∈ ks, KeyIn b k) (hl : ks.length ≤ 1000000000000) :
    G GT f_sort_Compare [xa, xb, kv] H (intV (cmpK a b ks)) H := good_of_ev mixed k_sort_Compare (compare_ev g_cmpV xa xb kv a b ks H ha hb hk hia hib hl)
end
end Go.AM.Gs
