/- The abstract machine, part 29: a few more steps: boxes written with what is told, lists that nobody writes cut. Own work. -/
import Derived.Test.YtibdekobocpfdaaDoorAm27
set_option linter.all false
namespace Go.AM

/-- A box is written: the cells told. -/
theorem sStoreE {b k s o : Nat} {v : AV} {cs : List AV} (cs' : List AV) {H : Heap} {K : AV → Heap → Prop} (h : H[b]? = some (.box cs)) (hl : v.cells.length = s) (h1 : v.cells.all AV.one = true) (ho : Nat.ble (o + s) cs.length = true) (he : splice cs o v.cells = cs')
    (q : K .undef (H.set b (.box cs'))) : actP (.store s) [.ref b k 0 o, v] H K :=
  sStoreBox h hl h1 (Nat.le_of_ble_eq_true ho) (by rw [he]; exact q)

theorem lst_take {v : AV} {k : Nat} {xs : List AV} (h : LstOf v k xs) {n : Nat} (hn : n ≤ xs.length) : ∃ v', aSlice (some k) v none (some (.int .i64 (n : Int))) = some v' ∧ LstOf v' k (xs.take n) := by
  obtain ⟨q, k', rfl, hk⟩ := h
  refine ⟨.lst (cutQL q 0 n) k' (xs.take n), ?_, _, _, rfl, hk.imp_right fun e => by rw [e]; simp⟩
  simp only [aSlice, aBounds, aHi, aLo]
  rw [if_pos (by rcases hk with h | h <;> simp [h])]
  have h1 : ¬ ((n : Int) < 0) := by omega
  have h2 : (n : Int).toNat = n := Int.toNat_natCast n
  simp [h1, h2, hn]
theorem lst_drop {v : AV} {k : Nat} {xs : List AV} (h : LstOf v k xs) {n : Nat} (hn : n ≤ xs.length) : ∃ v', aSlice (some k) v (some (.int .i64 (n : Int))) none = some v' ∧ LstOf v' k (xs.drop n) := by
  obtain ⟨q, k', rfl, hk⟩ := h
  refine ⟨.lst (cutQL q n xs.length) k' (xs.drop n), ?_, _, _, rfl, hk.imp_right fun e => by rw [e]; simp⟩
  simp only [aSlice, aBounds, aHi, aLo]
  rw [if_pos (by rcases hk with h | h <;> simp [h])]
  have h1 : ¬ ((n : Int) < 0) := by omega
  have h2 : (n : Int).toNat = n := Int.toNat_natCast n
  simp [h1, h2, hn]
theorem LstOf.one {v : AV} {k : Nat} {xs : List AV} (h : LstOf v k xs) : v.cells = [v] ∧ v.one = true := by obtain ⟨q, k', rfl, _⟩ := h; exact ⟨rfl, rfl⟩

/-- An aggregate whose first cell is a slice of one's own is handed over. -/
theorem frzL_own {H0 H : Heap} {v : AV} {xs : List AV} {k : Nat} {cs : List AV} (ho : Owns H0 H v k xs) (hcs : ∀ H, frzL 0 cs H = some (cs, H)) :
    ∃ H', frzL 0 [.agg (v :: cs)] H = some ([.agg (lstF k xs :: cs)], H') ∧ H'.length = H.length ∧ (∀ c y, v.blk ≠ some c → H[c]? = some y → H'[c]? = some y) ∧ (Old H0 H → Old H0 H') := by
  rcases ho with ⟨rfl, rfl⟩ | ⟨b, rfl, h1, h2, h3⟩
  · refine ⟨H, ?_, rfl, fun c y _ h => h, fun h => h⟩
    simp only [frzL, frzV, hcs, lstF]
  · refine ⟨H.set b (.frz k xs), ?_, List.length_set, fun c y hc hy => set_other (fun e => hc (by rw [e]; rfl)) hy, fun h => h.set h1 _⟩
    cases xs with
    | nil => exact absurd rfl h3
    | cons x xs =>
      simp only [frzL, frzV, Nat.not_lt_zero, if_false, h2]
      simp [lstF, frzQ, hcs]
theorem Owns.one {H0 H : Heap} {v : AV} {k : Nat} {xs : List AV} (h : Owns H0 H v k xs) : v.cells = [v] ∧ v.one = true := by
  rcases h with ⟨rfl, _⟩ | ⟨b', rfl, _⟩ <;> exact ⟨rfl, rfl⟩

/-- A result that lies in a variable. -/
theorem sRetCell {F : AF} {a s : Nat} {ag : Bool} {H H1 : Heap} {fr : Fr} {v : AV} {cs : List AV} {o : Nat} (hF : F.results = [.cell a s ag]) (hk : F.keep = false) (hp : ptrCells H1 (getF fr a) = some (cs, o)) (hpt : part cs o s ag = some v)
    (hf : frzV H.length v H1 = some (v, H1)) (hb : v.bel H.length = true) (ho : Old H H1) : retP F H fr H1 v H := by
  refine sRetV hk ?_ hf hb ho
  rw [getF_eq] at hp
  simp only [hF, resAll, resOf, hp, hpt, Option.map_some]
  rfl
end Go.AM
