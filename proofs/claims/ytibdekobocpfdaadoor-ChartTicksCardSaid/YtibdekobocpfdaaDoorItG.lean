/- strconv.Itoa, by the kit's shelf: its contract laid at this program; the table that it looks into. Own work. -/
import Derived.Test.YtibdekobocpfdaaDoorIt
import Derived.Test.YtibdekobocpfdaaDoorToldT
import Derived.Test.YtibdekobocpfdaaDoorTk0
import Derived.Lib.LaidTab
import Derived.KernelRfl
set_option linter.all false
set_option maxRecDepth 100000
namespace Go.Proofs
open Go.Shelf Go.RowKit Go.AM Go.Sort

theorem Tryd.itoa_number : Tryd.ownItoa_ren.f 171 = f_strconv_Itoa := by kernel_rfl
theorem pow_at {w : World} {M : AMap} {I : Nat → Prop} {H : Heap} (hS : Sim gtErr w M I H) : Lib.TabIs Tryd.prog w "internal/strconv.uint64pow10" .u64 Lib.pow10Tab := by
  have h0 := hS.glob 1 powV rfl
  obtain ⟨e, hs⟩ := hS.shp 1 powV rfl
  have hlen : powV.cells.length = 20 := by unfold powV; simp [AV.cells, Lib.pow10Tab]
  rw [hlen] at hs
  have hcell : ∀ i : Nat, i < 20 → w.cell? ⟨1, i, none⟩ = some (.int .u64 (Lib.pow10Tab.getD i 0)) := fun i hi => by
    have hc : powV.cells[0 + i]? = some (.int .u64 (Lib.pow10Tab.getD i 0)) := by
      unfold powV
      simp only [AV.cells, Nat.zero_add, List.getElem?_map]
      have : i < Lib.pow10Tab.length := by rw [Lib.pow10Tab_length]; exact hi
      rw [List.getElem?_eq_getElem this, List.getD_eq_getElem?_getD, List.getElem?_eq_getElem this]; rfl
    cases h0 with
    | lref _ _ _ _ V hI hx hvv hr =>
      have h1 := hvv i _ hc
      have h2 := hr i _ hc
      rw [Nat.zero_add] at h1
      rw [h1, rel_int' h2]
  have hg : Tryd.prog.globalNamed "internal/strconv.uint64pow10" = some 1 := by kernel_rfl
  unfold Lib.TabIs World.var?
  rw [hg, Option.bind_some]
  unfold World.shape? at hs
  unfold World.cell? at hcell
  split at hs
  · rename_i c el fz hheap
    simp only [Option.some.injEq, Prod.mk.injEq] at hs
    rw [hheap]
    simp only [Option.some.injEq]
    apply Array.ext'
    apply List.ext_getElem?
    intro i
    by_cases hi : i < 20
    · have := hcell i hi
      rw [hheap] at this
      simp only [Option.isSome_none, Bool.false_eq_true, if_false] at this
      have hp : i < Lib.pow10Tab.length := by rw [Lib.pow10Tab_length]; exact hi
      rw [Array.getElem?_toList, this]
      simp [List.getD_eq_getElem?_getD, List.getElem?_eq_getElem hp]
    · rw [List.getElem?_eq_none (by simp; omega), List.getElem?_eq_none (by simp [Lib.pow10Tab_length]; omega)]
  · cases hs

theorem below_gr (w : World) (k : Nat) (os : Array Obj) : RowKit.Below w.heap.size w (grow (w.drewN k) os) := by
  have hh : (w.drewN k).heap = w.heap := rfl
  exact ⟨rfl, rfl, rfl, by simp [grow, hh], fun c hc => by simp [grow, hh, Array.getElem?_append_left hc]⟩

theorem itoa_good (n : Int) (H : Heap) (hn : In64 n) : Go.AM.Good Tryd.prog gtErr f_strconv_Itoa [intV n] H (.str (digR n)) H :=
  good_of_calls Tryd.func10 (by kernel_rfl) (by kernel_rfl) fun w M I cargs hS hA => by
    obtain ⟨v, rfl, hv⟩ := relL_one hA
    obtain rfl := rel_int' hv
    have h := Any.strconv_Itoa Tryd.ownItoa n hn.1 hn.2 w (pow_at hS)
    rw [Tryd.itoa_number] at h
    refine h.mono ?_
    rintro e w' ⟨he, k, os, rfl⟩
    refine ⟨_, he, below_gr w k os, ?_⟩
    rw [itoa_is]
    exact .str _
end Go.Proofs
