/- The package-level variables of the row ChartTicks: a world that meets the row's condition; what they hold. Own work, after the guide's worked examples. -/
import Derived.Test.YtibdekobocpfdaaDoorRows
import Derived.Test.YtibdekobocpfdaaDoorToldT
import Derived.Test.YtibdekobocpfdaaDoorAm24
import Derived.WalkKit
import Derived.ProofKit
import Derived.OpenShut
import Derived.ShutString
import Derived.ChangeOld
import Derived.ChangeSame
import Derived.ChangeVars
import Derived.JoinedOf
import Derived.RowKit
import Derived.RowKitTokens
import Derived.LaidLaws
import Derived.LaidHandle
import Derived.LaidByTextLater
import Derived.Lib.LaidTab
import Derived.Stop.Joined
import Derived.Below
import Derived.Carry
set_option linter.all false
set_option maxRecDepth 100000
namespace Go.Proofs.YtibdekobocpfdaaDoor
open Go.ChangeShapes Go.WideShapes Go.RowKit Go.AM

theorem own : ownKnob Tryd.prog.godebug = none := by kernel_rfl
theorem laidOut : laidOutB Tryd.prog = true := by kernel_rfl
theorem mixed : Tryd.prog.follows .mixedOrders = true := by kernel_rfl
theorem et : Tryd.prog.globalNamed "errors.errorType" = some 0 := by kernel_rfl
theorem rt : (Tryd.prog.cutTypes.find? (·.1 == "internal/reflectlite.rtype")).map (·.2) = some 75 := by kernel_rfl
theorem oneRow : ((List.range 125).filter fun t => Tryd.prog.rowNamed t [101, 114, 114, 111, 114]) = [26] := by kernel_rfl
theorem size : Tryd.prog.types.size = 125 := by kernel_rfl

noncomputable def laidWorld (os : Os) : World :=
  let w0 := varsWorld Tryd.prog 86 (varsId Tryd.prog) os (fun _ _ => 0)
  { w0 with heap := w0.heap.modify 0 fun
      | .cells _ t frozen => .cells #[errTypeV] t frozen
      | o => o }
theorem laidWorld_os (os : Os) : (laidWorld os).os = os := by kernel_rfl
abbrev laidList : List (String × DataW Unit) := Rows.chartTicksRow.laid
abbrev plainList : List (String × DataW Unit) := laidList.filter fun x => x.2.handleName?.isNone
theorem laid1 (os : Os) (args : Array Value) : (DataW.laidRun Tryd.prog ((laidWorld os).forCall (fun _ _ => 0) ⟨#[], args, []⟩).memory 8 (plainList.map (·.1))).map (·.1) = some plainList := by kernel_rfl
theorem laid2 (os : Os) (args : Array Value) : (DataW.laidRun Tryd.prog ((laidWorld os).forCall (fun _ _ => 0) ⟨#[], args, []⟩).memory 8 (plainList.map (·.1))).map (fun x => decide x.2.Nodup && laidRowsB Tryd.prog ((laidWorld os).forCall (fun _ _ => 0) ⟨#[], args, []⟩).memory x.2) = some true := by kernel_rfl
theorem laidWorld_met (os : Os) (args : Array Value) : laidMetH Tryd.prog laidList ((laidWorld os).forCall (fun _ _ => 0) ⟨#[], args, []⟩).memory :=
  laidMetH_of_parts (laidMet_of_run' 8 (laid1 os args) (laid2 os args)) (by kernel_rfl)

theorem handle_of_laid {W : World} (h : laidMetH Tryd.prog laidList W) : W.var? Tryd.prog "errors.errorType" = some #[errTypeV] := by
  have h' : laidMet Tryd.prog plainList W ∧ handlesMet Tryd.prog [("errors.errorType", Rows.laid_errors_errorType)] W := h
  obtain ⟨name, u, ty, e1, e2, e3, e4, e5⟩ := h'.2 _ (List.mem_singleton.2 rfl)
  have en : name = [101, 114, 114, 111, 114] := (Option.some.inj e1).symm
  subst en
  obtain rfl := Option.some.inj (rt.symm.trans e2)
  have hm : ty ∈ (List.range 125).filter fun t => Tryd.prog.rowNamed t [101, 114, 114, 111, 114] := List.mem_filter.2 ⟨List.mem_range.2 (by rw [← size]; exact e3), e4⟩
  rw [oneRow] at hm
  obtain rfl := List.mem_singleton.1 hm
  have hh : typeHandle Tryd.prog 26 = .pointer (some ⟨4, 26, none⟩) := by kernel_rfl
  rw [hh] at e5
  exact e5
theorem pt : Tryd.prog.globalNamed "internal/strconv.uint64pow10" = some 1 := by kernel_rfl
theorem tab_of_laid {W : World} (h : laidMetH Tryd.prog laidList W) : W.var? Tryd.prog "internal/strconv.uint64pow10" = some (Lib.pow10Tab.map fun z => Value.int .u64 z).toArray := by
  have h' : laidMet Tryd.prog plainList W ∧ handlesMet Tryd.prog [("errors.errorType", Rows.laid_errors_errorType)] W := h
  obtain ⟨ps, hv, _⟩ := h'.1
  have hv' : DataW.LaidVars Tryd.prog W [("math/bits.deBruijn32tab", Rows.laid_math_bits_deBruijn32tab), ("math/bits.deBruijn64tab", Rows.laid_math_bits_deBruijn64tab), ("internal/strconv.uint64pow10", Rows.laid_internal_strconv_uint64pow10)] ps := hv
  obtain ⟨_, _, _, _, _, _, _, _, _, _, hv2, _⟩ := hv'
  obtain ⟨_, _, _, _, _, _, _, _, _, _, hv3, _⟩ := hv2
  obtain ⟨g, t, cs, fuel, p, q, hg, ht, hvar, hd, _, _⟩ := hv3
  obtain rfl := Option.some.inj (pt.symm.trans hg)
  have htt : (Tryd.prog.globals[1]?).map (·.type) = some 91 := by kernel_rfl
  obtain rfl := Option.some.inj (htt.symm.trans ht)
  have hdat : (Rows.laid_internal_strconv_uint64pow10 : DataW Unit) = Lib.tabData .u64 Lib.pow10Tab := by kernel_rfl
  rw [hdat] at hd
  rw [hvar, ← Lib.cells_of_tab (n := 20) (e := 61) Tryd.underlying91 Tryd.underlying61 (by kernel_rfl) (by kernel_rfl) hd]

theorem sim_err {w : World} (hg : w.var? Tryd.prog "errors.errorType" = some #[errTypeV]) (hp : w.var? Tryd.prog "internal/strconv.uint64pow10" = some (Lib.pow10Tab.map fun z => Value.int .u64 z).toArray) : Sim gtErr w (fun _ => none) (allOld w) [] where
  glob := fun g x h => by
    match g, h with
    | 0, h =>
      cases h
      have h0 := World.var?_cell et hg
      refine Rel.mk_lref (cell_lt (h0 0)).1 rfl fun j c hj => ?_
      cases j with
      | zero =>
        simp only [AV.cells, Nat.add_zero, List.getElem?_cons_zero, Option.some.injEq] at hj
        subst hj
        exact ⟨_, h0 0, .raw _⟩
      | succ j => simp [AV.cells] at hj
    | 1, h =>
      cases h
      have h0 := World.var?_cell pt hp
      have hc0 : w.cell? ⟨1, 0, none⟩ = some (.int .u64 1) := by rw [h0 0]; simp [Lib.pow10Tab]
      refine Rel.mk_lref (cell_lt hc0).1 rfl fun j c hj => ?_
      have hj' : (Lib.pow10Tab.map fun z => AV.int .u64 z)[j]? = some c := by simpa [powV, AV.cells] using hj
      rw [List.getElem?_map] at hj'
      obtain ⟨z, hz, rfl⟩ := Option.map_eq_some_iff.1 hj'
      refine ⟨.int .u64 z, ?_, .int _ _⟩
      rw [Nat.zero_add, h0 j]
      simp [hz]
    | g + 2, h => cases h
  idom := fun k h => h
  blk := fun b x h => by simp at h
  inj := fun b b' x x' g o o' h => by simp at h
  shp := fun g x h => by
    have of : ∀ {n : String} {g : Nat} {cs : Array Value}, Tryd.prog.globalNamed n = some g → w.var? Tryd.prog n = some cs → ∃ e, w.shape? g = some (e, cs.size) := fun {n g cs} hn hv => by
      simp only [World.var?, hn, Option.bind_some] at hv
      split at hv
      · rename_i c el fz hh
        cases hv
        exact ⟨el, by simp [World.shape?, hh]⟩
      · cases hv
    match g, h with
    | 0, h => cases h; exact of et hg
    | 1, h =>
      cases h
      obtain ⟨e, he⟩ := of pt hp
      refine ⟨e, ?_⟩
      rw [he]
      simp [powV, AV.cells]
    | g + 2, h => cases h

/-- A law that says true. -/
theorem law_of_good_err {w : World} {f : FuncId} {fn : Func} {args : List AV} {cargs : List Value} (hl : laidMetH Tryd.prog laidList w)
    (hf : Tryd.prog.funcs[f]? = some fn) (hname : (fn.name == "runtime.NumGoroutine") = false) (hb : fn.body.isSome = true) (hgd : Go.AM.Good Tryd.prog gtErr f args [] (.bool true) []) (hA : RelL w (fun _ => none) (allOld w) 0 args cargs) :
    Calls Tryd.prog f cargs.toArray w fun e w' => e = .returned (.bool true) ∧ Below w.heap.size w w' :=
  (calls_of_good hf hname hb hgd (sim_err (handle_of_laid hl) (tab_of_laid hl)) hA).mono fun e w' ⟨v', he, M', I', hG, _, hR⟩ => by
    cases hR
    exact ⟨he, below_of_grow hG⟩

abbrev G : CSpec := Go.AM.Good Tryd.prog gtErr
theorem g_told_nil (H : Heap) : G f_plain_Told [.nili] H (.int .i64 0) H := good_of_ev mixed k_plain_Told (told_nil_ev H)
theorem g_told_err (n : Int) (H : Heap) : G f_plain_Told [errV n] H (.int .i64 n) H := good_of_ev mixed k_plain_Told (told_err_ev (fun n old b H hb => as_good n old b H hb) n H)
theorem g_error (x : AV) (n e : Int) (H : Heap) (hx : ErrIs x n) : G f_sccsame_Error [x, .int .i64 e] H (.bool (n == e)) H := good_of_ev mixed k_sccsame_Error (same_ev g_told_nil g_told_err x n e hx H) (hn := by rcases hx with ⟨rfl, _⟩ | rfl <;> rfl)
end Go.Proofs.YtibdekobocpfdaaDoor
