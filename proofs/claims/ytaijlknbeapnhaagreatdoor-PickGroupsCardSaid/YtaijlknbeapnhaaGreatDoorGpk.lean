/- The contracts of package pick's rows, and of what the reference says of them, for this program. Own work. -/
import Derived.Test.YtaijlknbeapnhaaGreatDoorQE
import Derived.Test.YtaijlknbeapnhaaGreatDoorGsv
set_option linter.all false
set_option maxRecDepth 100000
namespace Go.AM.Gs
open Go.Proofs

section
variable {GT : Nat → Option AV}
theorem g_num (n : Int) (H : Heap) : G GT f_sccref1_Num [intV n] H (valV ⟨1, n, []⟩) H := good_of_ev mixed k_sccref1_Num (num_ev n H)
theorem g_isBad (v : Val) (H : Heap) : G GT f_value_IsBad [valV v] H (.bool (v.kind == 4)) H := good_of_ev mixed k_value_IsBad (isBad_ev v H)
theorem g_isTrue (v : Val) (H : Heap) : G GT f_value_IsTrue [valV v] H (.bool (v.kind == 3 && v.num == 1)) H := good_of_ev mixed k_value_IsTrue (isTrue_ev v H)
theorem g_vis (b : Bool) (H : Heap) : G GT f_value_Is [.bool b] H (valV (isV b)) H := good_of_ev mixed k_value_Is (is_ev b H)
theorem g_like (v o : Val) (H : Heap) : G GT f_value_like [valV v, valV o] H (valV (likeV v o)) H := good_of_ev mixed k_value_like (like_ev v o H)
theorem g_two (op : Int) (a b : Val) (H : Heap) (h1 : 1 ≤ op) (h6 : op ≤ 6) : G GT f_value_Two [intV op, valV a, valV b] H (valV (twoC op a b)) H := good_of_ev mixed k_value_Two (two_ev g_isBad g_vis g_like g_cmpV op h1 h6 a b H)
theorem g_check (tv wv : AV) (t : List Row) (l : List Want) (H : Heap) (ht : TabOf H tv t) (hw : view H 5 wv = some (l.map wantV)) : G GT f_pick_check [tv, wv] H (errN (wantErr t l)) H := good_of_ev mixed k_pick_check (pick_check_ev g_chk g_col g_chkV tv wv t l H ht hw)
theorem g_picked (tv wv : AV) (t : List Row) (l : List Want) (f : FuncId) (first caps : List AV) (en : Nat → Bool) (H : Heap) (ht : TabOf H tv t) (hw : view H 5 wv = some (l.map wantV)) (hF : ∀ n H', Old H H' → G GT f (first ++ [natV n] ++ caps) H' (.bool (en n)) H') :
    G GT f_pick_picked [tv, wv, .fn f first caps] H (pickV t l en) H := good_of_ev mixed k_pick_picked (picked_ev g_check g_two g_isTrue tv wv t l f first caps en H ht hw hF)
theorem g_pick_c1 (n b : Nat) (wv : AV) (l : List Want) (H : Heap) (hb : H[b]? = some (.box [wv])) (hw : view H 5 wv = some (l.map wantV)) : G GT f_pick_Pick_c1 [natV n, .ref b 0 0 0] H (.bool (enAll l n)) H := good_of_ev mixed k_pick_Pick_c1 (pick_c1_ev n b wv l H hb hw)
theorem g_any_c1 (n : Nat) (H : Heap) : G GT f_pick_Any_c1 [natV n] H (.bool (enAny n)) H := good_of_ev mixed k_pick_Any_c1 (any_c1_ev n H)
theorem g_pick (tv wv : AV) (t : List Row) (l : List Want) (H : Heap) (ht : TabOf H tv t) (hone : wv.cells = [wv] ∧ wv.one = true) (hw : view H 5 wv = some (l.map wantV)) : G GT f_pick_Pick [tv, wv] H (pickV t l (enAll l)) H :=
  good_of_ev mixed k_pick_Pick (pick_ev g_picked g_pick_c1 tv wv t l H ht hone hw)
theorem g_any (tv wv : AV) (t : List Row) (l : List Want) (H : Heap) (ht : TabOf H tv t) (hw : view H 5 wv = some (l.map wantV)) : G GT f_pick_Any [tv, wv] H (pickV t l enAny) H := good_of_ev mixed k_pick_Any (any_ev g_picked g_any_c1 tv wv t l H ht hw)
/-! The reference. -/
theorem g_is3 (v : Val) (H : Heap) : G GT f_sccref1_Is [valV v] H (.bool (valOK v)) H := good_of_ev mixed k_sccref1_Is (is3_ev v H)
theorem g_table3 (tv : AV) (t : List Row) (H : Heap) (ht : TabOf H tv t) : G GT f_sccref3_Table [tv] H (natV (tabErr t)) H := good_of_ev mixed k_sccref3_Table (table3_ev g_is3 tv t H ht)
theorem g_column3 (tv : AV) (t : List Row) (c : Int) (H : Heap) (ht : TabOf H tv t) : G GT f_sccref3_Column [tv, intV c] H (.bool (colOK t c)) H := good_of_ev mixed k_sccref3_Column (column3_ev tv t c H ht)
theorem g_columns3 (tv cv : AV) (t : List Row) (cols : List Int) (H : Heap) (ht : TabOf H tv t) (hc : view H 1 cv = some (cols.map intV)) : G GT f_sccref3_Columns [tv, cv] H (natV (colErr t cols)) H :=
  good_of_ev mixed k_sccref3_Columns (columns3_ev g_table3 g_column3 tv cv t cols H ht hc)
theorem g_less3 (a b : Val) (H : Heap) : G GT f_sccref1_less [valV a, valV b] H (.bool (lessR a b)) H := good_of_ev mixed k_sccref1_less (less3_ev a b H)
theorem g_compare3 (a b : Val) (H : Heap) : G GT f_sccref1_Compare [valV a, valV b] H (intV (cmpR a b)) H := good_of_ev mixed k_sccref1_Compare (compare3_ev g_less3 a b H)
theorem g_txt3 (s : List UInt8) (H : Heap) : G GT f_sccref1_Txt [.str s] H (valV ⟨2, 0, s⟩) H := good_of_ev mixed k_sccref1_Txt (txt3_ev s H)
theorem g_tru3 (b : Bool) (H : Heap) : G GT f_sccref1_Tru [.bool b] H (valV (isV b)) H := good_of_ev mixed k_sccref1_Tru (tru3_ev b H)
theorem g_beside3 (v o : Val) (H : Heap) : G GT f_sccref1_beside [valV v, valV o] H (valV (besR v o)) H := good_of_ev mixed k_sccref1_beside (beside3_ev g_num g_txt3 g_tru3 v o H)
theorem g_two3 (op : Int) (a b : Val) (H : Heap) (h1 : 1 ≤ op) (h6 : op ≤ 6) (ha : valOK a = true) (hb : valOK b = true) : G GT f_sccref1_Two [intV op, valV a, valV b] H (valV (twoC op a b)) H :=
  good_of_ev mixed k_sccref1_Two (two3_ev g_beside3 g_compare3 g_tru3 op h1 h6 a b ha hb H)
theorem g_wants3 (tv wv : AV) (t : List Row) (l : List Want) (H : Heap) (ht : TabOf H tv t) (hw : LstOf wv 5 (l.map wantV)) : G GT f_sccref3_Wants [tv, wv] H (natV (wantErr t l)) H :=
  good_of_ev mixed k_sccref3_Wants (wants3_ev g_table3 g_column3 g_is3 tv wv t l H ht hw)
theorem g_meets3 (x wv : AV) (r : Row) (l : List Want) (H : Heap) (hx : RowOf x r) (hw : LstOf wv 5 (l.map wantV)) (hin : ∀ w ∈ l, 0 ≤ w.col ∧ w.col < (r.length : Int) ∧ 1 ≤ w.op ∧ w.op ≤ 6 ∧ valOK w.val = true) (hok : ∀ v ∈ r, valOK v = true) (hl : l.length ≤ 12) :
    G GT f_sccref3_Meets [x, wv] H (natV (meetN r l)) H := good_of_ev mixed k_sccref3_Meets (meets3_ev (fun op a b H h1 h6 ha hb => g_two3 op a b H h1 h6 ha hb) x wv r l H hx hw hin hok hl)
theorem g_intsW (va vb : AV) (xs ys : List Int) (H : Heap) (ha : view H 1 va = some (xs.map intV)) (hb : view H 1 vb = some (ys.map intV)) (hl : xs.length ≤ 9223372036854775807) : G GT f_sccsame_Ints [va, vb] H (.bool (decide (xs = ys))) H :=
  good_of_ev mixed k_sccsame_Ints (intsW_ev va vb xs ys H ha hb hl)
end
end Go.AM.Gs
