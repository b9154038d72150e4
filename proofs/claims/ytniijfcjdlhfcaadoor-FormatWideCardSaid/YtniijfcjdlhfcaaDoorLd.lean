/- The package-level variable errors.errorType, out of the row's condition; a world that meets it. The lines are turned from the guide's worked example (ToyasProofs). -/
import Derived.Test.YtniijfcjdlhfcaaDoorRows
import Derived.Test.YtniijfcjdlhfcaaDoorTold
import Derived.Test.YtniijfcjdlhfcaaDoorAm24
import Derived.WalkKit
import Derived.ProofKit
import Derived.OpenShut
import Derived.ShutString
import Derived.ChangeOld
import Derived.ChangeSame
import Derived.ChangeVars
import Derived.JoinedOf
import Derived.RowKit
import Derived.RowKitTokens
import Derived.LaidLaws
import Derived.LaidHandle
import Derived.Stop.Joined
import Derived.Below
import Derived.Carry
set_option linter.all false
set_option maxRecDepth 100000
namespace Go.Proofs.YtniijfcjdlhfcaaDoor
open Go.ChangeShapes Go.WideShapes Go.RowKit Go.AM

theorem own : ownKnob Tryd.prog.godebug = none := by kernel_rfl
theorem laidOut : laidOutB Tryd.prog = true := by kernel_rfl
theorem mixed : Tryd.prog.follows .mixedOrders = true := by kernel_rfl
theorem et : Tryd.prog.globalNamed "errors.errorType" = some 0 := by kernel_rfl
theorem rt : (Tryd.prog.cutTypes.find? (·.1 == "internal/reflectlite.rtype")).map (·.2) = some 164 := by kernel_rfl
theorem oneRow : ((List.range 226).filter fun t => Tryd.prog.rowNamed t [101, 114, 114, 111, 114]) = [27] := by kernel_rfl
theorem size : Tryd.prog.types.size = 226 := by kernel_rfl

abbrev laidErr : List (String × DataW Unit) := [("errors.errorType", Rows.laid_errors_errorType)]

theorem handle_of_laid {W : World} (h : laidMetH Tryd.prog laidErr W) : W.cell? ⟨0, 0, none⟩ = some errTypeV := by
  have h' : laidMet Tryd.prog [] W ∧ handlesMet Tryd.prog laidErr W := h
  obtain ⟨name, u, ty, e1, e2, e3, e4, e5⟩ := h'.2 _ (List.mem_singleton.2 rfl)
  have en : name = [101, 114, 114, 111, 114] := (Option.some.inj e1).symm
  subst en
  obtain rfl := Option.some.inj (rt.symm.trans e2)
  have hm : ty ∈ (List.range 226).filter fun t => Tryd.prog.rowNamed t [101, 114, 114, 111, 114] := List.mem_filter.2 ⟨List.mem_range.2 (by rw [← size]; exact e3), e4⟩
  rw [oneRow] at hm
  obtain rfl := List.mem_singleton.1 hm
  have hh : typeHandle Tryd.prog 27 = .pointer (some ⟨7, 27, none⟩) := by kernel_rfl
  rw [hh] at e5
  have h0 := World.var?_cell et e5 0
  simpa [errTypeV] using h0

/-- A world that meets the condition: the settled one, the variable's cell laid. -/
noncomputable def laidWorld (os : Os) : World :=
  let w0 := World.holding Tryd.prog os ⟨#[], #[], []⟩
  { w0 with heap := w0.heap.modify 0 fun
      | .cells _ t frozen => .cells #[errTypeV] t frozen
      | o => o }
theorem laidWorld_met (os : Os) (args : Array Value) : laidMetH Tryd.prog laidErr ((laidWorld os).forCall (fun _ _ => 0) ⟨#[], args, []⟩).memory :=
  laidMetH_of_parts (laidMet_nil _ _) (by kernel_rfl)

theorem sim_err {w : World} (hg : w.cell? ⟨0, 0, none⟩ = some errTypeV) : Sim gtErr w (fun _ => none) (allOld w) [] where
  glob := fun g x h => by
    match g, h with
    | 0, h =>
      cases h
      refine Rel.mk_lref (cell_lt hg).1 rfl fun j c hj => ?_
      cases j with
      | zero =>
        simp only [AV.cells, Nat.add_zero, List.getElem?_cons_zero, Option.some.injEq] at hj
        subst hj
        exact ⟨_, hg, .raw _⟩
      | succ j => simp [AV.cells] at hj
    | g + 1, h => cases h
  idom := fun k h => h
  blk := fun b x h => by simp at h
  inj := fun b b' x x' g o o' h => by simp at h

/-- A law that says true. -/
theorem law_of_good_err {w : World} {f : FuncId} {fn : Func} {args : List AV} {cargs : List Value} (hg : w.cell? ⟨0, 0, none⟩ = some errTypeV)
    (hf : Tryd.prog.funcs[f]? = some fn) (hname : (fn.name == "runtime.NumGoroutine") = false) (hb : fn.body.isSome = true) (hgd : Go.AM.Good Tryd.prog gtErr f args [] (.bool true) []) (hA : RelL w (fun _ => none) (allOld w) 0 args cargs) :
    Calls Tryd.prog f cargs.toArray w fun e w' => e = .returned (.bool true) ∧ Below w.heap.size w w' :=
  (calls_of_good hf hname hb hgd (sim_err hg) hA).mono fun e w' ⟨v', he, M', I', hG, _, hR⟩ => by
    cases hR
    exact ⟨he, below_of_grow hG⟩

abbrev G : CSpec := Go.AM.Good Tryd.prog gtErr
theorem g_told_nil (H : Heap) : G f_plain_Told [.nili] H (.int .i64 0) H := good_of_ev mixed k_plain_Told (told_nil_ev H)
theorem g_told_err (n : Int) (H : Heap) : G f_plain_Told [errV n] H (.int .i64 n) H := good_of_ev mixed k_plain_Told (told_err_ev (fun n old b H hb => as_good n old b H hb) n H)
theorem g_error (x : AV) (n e : Int) (H : Heap) (hx : ErrIs x n) : G f_sccsame_Error [x, .int .i64 e] H (.bool (n == e)) H := good_of_ev mixed k_sccsame_Error (same_ev g_told_nil g_told_err x n e hx H)

end Go.Proofs.YtniijfcjdlhfcaaDoor
