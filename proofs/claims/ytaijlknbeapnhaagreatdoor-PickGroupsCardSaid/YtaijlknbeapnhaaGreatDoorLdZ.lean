/- The package-level variables of the rows of the great door: a world that meets the rows' condition; what errors.errorType holds. Own work, after the guide's worked examples. -/
import Derived.Test.YtaijlknbeapnhaaGreatDoorLdX
import Derived.Test.YtaijlknbeapnhaaGreatDoorQC
import Derived.WalkKit
import Derived.ProofKit
import Derived.OpenShut
import Derived.ShutString
import Derived.ChangeOld
import Derived.ChangeSame
import Derived.ChangeVars
import Derived.JoinedOf
import Derived.RowKit
import Derived.RowKitTokens
import Derived.LaidLaws
import Derived.LaidHandle
import Derived.LaidByTextLater
import Derived.Stop.Joined
import Derived.Below
import Derived.Carry
set_option linter.all false
set_option maxRecDepth 100000
namespace Go.Proofs.YtaijlknbeapnhaaGreatDoor
open Go.ChangeShapes Go.WideShapes Go.RowKit Go.AM

theorem laidWorld_met (os : Os) (args : Array Value) : laidMetH Tryz.prog laidList ((laidWorld os).forCall (fun _ _ => 0) ⟨#[], args, []⟩).memory :=
  laidMetH_of_parts (laidMet_of_run' 8 (laid1 os args) (laid2 os args)) (by kernel_rfl)

theorem handle_of_laid {W : World} (h : laidMetH Tryz.prog laidList W) : W.cell? ⟨1, 0, none⟩ = some errTypeV := by
  have h' : laidMet Tryz.prog plainList W ∧ handlesMet Tryz.prog [("errors.errorType", Rows.laid_errors_errorType)] W := h
  obtain ⟨name, u, ty, e1, e2, e3, e4, e5⟩ := h'.2 _ (List.mem_singleton.2 rfl)
  have en : name = [101, 114, 114, 111, 114] := (Option.some.inj e1).symm
  subst en
  obtain rfl := Option.some.inj (rt.symm.trans e2)
  have hm : ty ∈ (List.range 383).filter fun t => Tryz.prog.rowNamed t [101, 114, 114, 111, 114] := List.mem_filter.2 ⟨List.mem_range.2 (by rw [← size]; exact e3), e4⟩
  rw [oneRow] at hm
  obtain rfl := List.mem_singleton.1 hm
  have hh : typeHandle Tryz.prog 32 = .pointer (some ⟨11, 32, none⟩) := by kernel_rfl
  rw [hh] at e5
  have h0 := World.var?_cell et e5 0
  simpa [errTypeV] using h0

theorem sim_err {w : World} (hg : w.cell? ⟨1, 0, none⟩ = some errTypeV) : Sim gtErr w (fun _ => none) (allOld w) [] where
  glob := fun g x h => by
    match g, h with
    | 0, h => cases h
    | 1, h =>
      cases h
      refine Rel.mk_lref (cell_lt hg).1 rfl fun j c hj => ?_
      cases j with
      | zero =>
        simp only [AV.cells, Nat.add_zero, List.getElem?_cons_zero, Option.some.injEq] at hj
        subst hj
        exact ⟨_, hg, .raw _⟩
      | succ j => simp [AV.cells] at hj
    | g + 2, h => cases h
  idom := fun k h => h
  blk := fun b x h => by simp at h
  inj := fun b b' x x' g o o' h => by simp at h

/-- A law that says true. -/
theorem law_of_good_err {w : World} {f : FuncId} {fn : Func} {args : List AV} {cargs : List Value} (hg : w.cell? ⟨1, 0, none⟩ = some errTypeV)
    (hf : Tryz.prog.funcs[f]? = some fn) (hname : (fn.name == "runtime.NumGoroutine") = false) (hb : fn.body.isSome = true) (hgd : Go.AM.Good Tryz.prog gtErr f args [] (.bool true) []) (hA : RelL w (fun _ => none) (allOld w) 0 args cargs) :
    Calls Tryz.prog f cargs.toArray w fun e w' => e = .returned (.bool true) ∧ Below w.heap.size w w' :=
  (calls_of_good hf hname hb hgd (sim_err hg) hA).mono fun e w' ⟨v', he, M', I', hG, _, hR⟩ => by
    cases hR
    exact ⟨he, below_of_grow hG⟩

abbrev G : CSpec := Go.AM.Good Tryz.prog gtErr
theorem g_told_nil (H : Heap) : G f_plain_Told [.nili] H (.int .i64 0) H := good_of_ev mixed k_plain_Told (told_nil_ev H)
theorem g_told_err (n : Int) (H : Heap) : G f_plain_Told [errV n] H (.int .i64 n) H := good_of_ev mixed k_plain_Told (told_err_ev (fun n old b H hb => as_good n old b H hb) n H)
theorem g_error (x : AV) (n e : Int) (H : Heap) (hx : ErrIs x n) : G f_sccsame_Error [x, .int .i64 e] H (.bool (n == e)) H := good_of_ev mixed k_sccsame_Error (same_ev g_told_nil g_told_err x n e hx H) (hn := by rcases hx with ⟨rfl, _⟩ | rfl <;> rfl)

end Go.Proofs.YtaijlknbeapnhaaGreatDoor
