/- The contracts of package sort, and of what is under it, for this program. Own work. -/
import Derived.Test.YtaijlknbeapnhaaGreatDoorQD
import Derived.Test.YtaijlknbeapnhaaGreatDoorGsv
set_option linter.all false
set_option maxRecDepth 100000
namespace Go.AM.Gs
open Go.Proofs

section
variable {GT : Nat → Option AV}
theorem g_columnsK (tv kv : AV) (t : List Row) (ks : List Key) (H : Heap) (ht : TabOf H tv t) (hk : view H 2 kv = some (ks.map keyV)) (hl : ks.length ≤ 8796093022208) : G GT f_sort_columns [tv, kv] H (errN (colErr t (colsOf ks))) H :=
  good_of_ev mixed k_sort_columns (columnsK_ev g_cols tv kv t ks H ht hk hl)
theorem g_sortC (x y : Nat) (t : List Row) (ks : List Key) (tv kv : AV) (H : Heap) (bt bk : Nat) (hbt : H[bt]? = some (.box [tv])) (hbk : H[bk]? = some (.box [kv])) (ht : TabOf H tv t) (hkv : view H 2 kv = some (ks.map keyV)) (hx : x < t.length) (hy : y < t.length)
    (hin : ∀ (i : Nat) (r : Row), t[i]? = some r → ∀ k ∈ ks, KeyIn r k) (hl : ks.length ≤ 1000000000000) : G GT f_sort_Sort_c1 [nV x, nV y, .ref bt 0 0 0, .ref bk 0 0 0] H (intV (rowC t ks x y)) H :=
  good_of_ev mixed k_sort_Sort_c1 (sortC_ev g_compare x y t ks tv kv H bt bk hbt hbk ht hkv hx hy hin hl)

/-! The stable sort. -/
theorem g_swap {F : Heap} {b n : Nat} {q : Option Bool} {fv : AV} (hb : b < F.length) (hn : n ≤ 1099511627776) (f : Nat → Nat) (a c k : Nat) (h1 : a + k ≤ c) (h2 : c + k ≤ n) :
    G GT f_slices_swapRangeCmpFunc_int_ [.sl q b 1 0 n, nV a, nV c, nV k, fv] (hpR F b n f) (.tup []) (hpR F b n (swpF f a c k)) := good_of_ev mixed k_slices_swapRangeCmpFunc_int_ (swapRange_ev hb hn h1 h2)
theorem g_rotate {F : Heap} {b n : Nat} {q : Option Bool} {fv : AV} (hb : b < F.length) (hn : n ≤ 1099511627776) (f : Nat → Nat) (a m e : Nat) (h1 : a < m) (h2 : m < e) (h3 : e ≤ n) :
    G GT f_slices_rotateCmpFunc_int_ [.sl q b 1 0 n, nV a, nV m, nV e, fv] (hpR F b n f) (.tup []) (hpR F b n (rotF f a m e)) := good_of_ev mixed k_slices_rotateCmpFunc_int_ (rotate_ev hb hn h1 h2 h3 (g_swap hb hn))
theorem g_env {F : Heap} {b n : Nat} {q : Option Bool} {g : FuncId} {caps : List AV} {cmp : Nat → Nat → Int} (hl : LtOK (ltOf cmp)) (hb : b < F.length) (hn : n ≤ 1099511627776) (hc : CmpOK (G GT) F b n g caps cmp) : MrgEnv (G GT) F b n q g caps cmp :=
  ⟨hl, hb, hn, hc, g_rotate hb hn⟩
theorem g_merge {F : Heap} {b n : Nat} {q : Option Bool} {g : FuncId} {caps : List AV} {cmp : Nat → Nat → Int} (E : MrgEnv (G GT) F b n q g caps cmp) : ∀ k, MrgIH (G GT) F b n q g caps cmp k
  | 0 => fun f a m e h _ => by omega
  | k + 1 => fun f a m e h M => good_of_evQ mixed k_slices_symMergeCmpFunc_int_ (sym_ev E (fun f' a' m' e' h' M' => g_merge E k f' a' m' e' (by omega) M') M)
theorem g_stbEnv {F : Heap} {b n : Nat} {q : Option Bool} {g : FuncId} {caps : List AV} {cmp : Nat → Nat → Int} (hl : LtOK (ltOf cmp)) (hb : b < F.length) (hn : n ≤ 1099511627776) (hc : CmpOK (G GT) F b n g caps cmp) : StbEnv (G GT) F b n q g caps cmp :=
  ⟨hl, hb, hn, fun f a e h1 h2 h3 h4 => good_of_evQ mixed k_slices_insertionSortCmpFunc_int_ (insertion_ev hl hb hn h1 h2 h3 h4 hc), fun f a m e M => g_merge (g_env hl hb hn hc) (e - a + 1) f a m e (by omega) M⟩
theorem g_sortEnv : SortEnv (G GT) := {
  nil := fun v fv H hv => good_of_ev mixed k_slices_SortStableFunc___int_int_ (sortStable_nil hv (good_of_ev mixed k_slices_stableCmpFunc_int_ (stable_nil (good_of_ev mixed k_slices_insertionSortCmpFunc_int_ (insertion_nil (by omega))))))
  srt := fun F b n q g caps cmp hl hb hn hc => by
    obtain ⟨v, H', ⟨rfl, f, rfl, hp, hs⟩, hg⟩ := good_of_evQ mixed k_slices_stableCmpFunc_int_ (stable_ev (GT := GT) (q := q) (g_stbEnv hl hb hn hc))
    exact ⟨f, hp, hs, good_of_ev mixed k_slices_SortStableFunc___int_int_ (sortStable_ev hg rfl)⟩ }
theorem g_sort (tv kv : AV) (t : List Row) (ks : List Key) (H : Heap) (ht : TabOf H tv t) (hk : view H 2 kv = some (ks.map keyV)) (hl : ks.length ≤ 8796093022208) : G GT f_sort_Sort [tv, kv] H (sortV t ks) H :=
  good_of_ev mixed k_sort_Sort (sort_ev g_sortEnv g_columnsK g_sortC tv kv t ks H ht hk hl)
end
end Go.AM.Gs
