/- errors.As at *api.Errno, plain.Told and sccsame.Error as contracts. Own work. -/
import Derived.Test.YtibdekobocpfdaaDoorAsT
import Derived.Test.YtibdekobocpfdaaDoorTk
import Derived.Test.YtibdekobocpfdaaDoorAm23
import Derived.Test.YtibdekobocpfdaaDoorErr
import Derived.Lib.ItoaNum
set_option linter.all false
namespace Go.AM
open Go.RowKit Go.Proofs

/-- What the package-level variable errors.errorType holds. -/
def errTypeV : Value := .iface 75 (.agg #[.pointer (some ⟨4, 26, none⟩)])
/-- The powers of ten, as they lie. -/
def powV : AV := .agg (Lib.pow10Tab.map fun z => .int .u64 z)
def gtErr : Nat → Option AV
  | 0 => some (.raw errTypeV)
  | 1 => some powV
  | _ => none

set_option maxRecDepth 100000 in
theorem as_good (n old : Int) (b : Nat) (H : Heap) (hb : H[b]? = some (.box [.int .i64 old])) : Good Tryd.prog gtErr f_errors_As [.iface t_api_Errno (.int .i64 n), .iface t__api_Errno (.ref b 0 0 0)] H (.bool true) (H.set b (.box [.int .i64 n])) := by
  intro w M I cargs hS hA
  obtain ⟨v, u, rfl, hv, hu⟩ := relL_two hA
  cases hv with
  | iface _ _ v' hv' =>
  obtain rfl := rel_int' hv'
  cases hu with
  | iface _ _ u' hu' =>
  cases hu' with
  | ref _ _ _ _ g o hbn hM =>
  have h0 := hS.glob 0 (.raw errTypeV) rfl
  have hg : w.cell? ⟨0, 0, none⟩ = some errTypeV := by
    cases h0 with
    | lref _ _ _ _ V hI hx hvv hr =>
      have h1 := hvv 0 (.raw errTypeV) rfl
      have h2 := hr 0 (.raw errTypeV) rfl
      rw [h1, rel_raw' h2]
  obtain ⟨g', o', cur, h1, hC, h3, h4, h5⟩ := hS.blk b _ hb
  rw [hM] at h1
  simp only [Option.some.injEq, Prod.mk.injEq] at h1
  obtain ⟨rfl, rfl⟩ := h1
  obtain ⟨u0, e1, e2⟩ := h5 0 _ rfl
  obtain rfl := rel_int' e2
  rw [Nat.add_zero] at e1
  have ht0 : w.cell? ⟨g, o, none⟩ = some (.int .i64 old) := by rw [hC.cell?]; exact e1
  have hf0 : w.frozen? ⟨g, o, none⟩ = false := by
    obtain ⟨e, fz, hg', hfz⟩ := hC
    have hlt := (Array.getElem?_eq_some_iff.1 e1).1
    have := hfz o hlt
    simp only [World.frozen?, hg', Bool.and_eq_false_iff, decide_eq_false_iff_not]
    by_cases h : fz.1 ≤ o
    · exact .inr fun h' => this ⟨h, h'⟩
    · exact .inl h
  rw [run_enter Tryd.func15 (by kernel_rfl) (by kernel_rfl)]
  refine (Go.Proofs.YtibdekobocpfdaaDoor.As.as_hit n ⟨g, o, none⟩ (.int .i64 old) w hg ht0 hf0).mono ?_
  rintro e w' ⟨rfl, rfl⟩
  refine ⟨_, rfl, M, I, ?_⟩
  obtain ⟨G1, S1⟩ := grow_of_below hS (((((Below.refl w.heap.size w).alloc (Nat.le_refl _) (.cells #[.pointer (some ⟨g, o, none⟩)] 43)).alloc (by simp <;> omega) (.cells #[.pointer (some ⟨4, 43, none⟩), .pointer (some ⟨w.heap.size, 0, none⟩), .int .u64 150] 51)).alloc (by simp <;> omega) (.cells #[.pointer (some ⟨4, 43, none⟩), .pointer (some ⟨w.heap.size, 0, none⟩), .int .u64 150] 51)).alloc (by simp <;> omega) (.cells #[.int .i64 n] 35))
  obtain ⟨G2, S2⟩ := grow_setBox S1 hb hM (x := .int .i64 n) (v := .int .i64 n) (fun _ => .int _ _)
  exact ⟨G1.trans G2, S2, .bool true⟩

section
variable {C : CSpec} {GT : Nat → Option AV}

theorem told_nil_ev (H : Heap) : EFun C GT a_plain_Told [.nili] H (.int .i64 0) H := by
  refine sOpt rfl ?_
  refine sCondT ?_
  exact sRetV rfl rfl rfl rfl (Old.refl H)
theorem told_err_ev (hA : ∀ (n old : Int) (b : Nat) (H : Heap), H[b]? = some (.box [.int .i64 old]) → C f_errors_As [.iface t_api_Errno (.int .i64 n), .iface t__api_Errno (.ref b 0 0 0)] H (.bool true) (H.set b (.box [.int .i64 n])))
    (n : Int) (H : Heap) : EFun C GT a_plain_Told [errV n] H (.int .i64 n) H := by
  refine sOpt rfl ?_
  refine sCondF ?_
  have h := hA n 0 H.length (H ++ [ABlk.box [.int .i64 0]]) push_last
  refine sCall h (fun h => by cases h) ?_
  refine sCondT ?_
  refine sLoadBox (.int .i64 n) (set_at push_last) rfl ?_
  exact sRetV rfl rfl rfl rfl ((Old.refl H).pushSet _ _)
theorem same_ev (hT0 : ∀ H, C f_plain_Told [.nili] H (.int .i64 0) H) (hT : ∀ n H, C f_plain_Told [errV n] H (.int .i64 n) H) (x : AV) (n e : Int) (hx : ErrIs x n) (H : Heap) : EFun C GT a_sccsame_Error [x, .int .i64 e] H (.bool (n == e)) H := by
  rcases hx with ⟨rfl, rfl⟩ | rfl
  · refine sCall0 (hT0 H) ?_
    exact sRetV rfl rfl rfl rfl (Old.refl H)
  · refine sCall0 (hT n H) ?_
    exact sRetV rfl rfl rfl rfl (Old.refl H)
end
end Go.AM
