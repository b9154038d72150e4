/-
  THE GIVEN STATEMENT 'SortStandsSaid' IS PROVED: whatever the table and the keys, the law says true, and writes nothing that was there. No conditions.
-/
import Derived.Test.YtniijfcjdlhfcaaRows
import Derived.Test.YtniijfcjdlhfcaaGst
import Derived.Test.YtniijfcjdlhfcaaSo
import Derived.Test.YtniijfcjdlhfcaaArg
import Derived.Test.YtniijfcjdlhfcaaAm26
import Derived.WalkKit
import Derived.ProofKit
import Derived.OpenShut
import Derived.ShutString
import Derived.ChangeOld
import Derived.Below
import Derived.Carry
import Derived.SizedLaws
set_option linter.all false
namespace Go.Proofs.Ytniijfcjdlhfcaa.sortStands
open Go.AM Go.ChangeShapes Go.WideShapes Go.ChangeAt Go.RowKit
open Go.ChangeMaps (open_string shut_string)

theorem own : ownKnob Try.prog.godebug = none := by kernel_rfl
theorem laidOut : laidOutB Try.prog = true := by kernel_rfl
theorem mixed : Try.prog.follows .mixedOrders = true := by kernel_rfl

theorem g_num {GT : Nat → Option AV} (n H) : Go.AM.Good Try.prog GT f_sccref1_Num [intV n] H (valV ⟨1, n, []⟩) H := good_of_ev mixed k_sccref1_Num (num_ev n H)
theorem g_stands {GT : Nat → Option AV} (tv kv) (t : List Row) (ks : List Key) (H) (ht : TabOf H tv t) (hk : LstOf kv 2 (ks.map keyV)) (hl : ks.length ≤ 8796093022208) : Go.AM.Good Try.prog GT f_scclaw4_SortStands [tv, kv] H (.bool true) H :=
  good_of_ev mixed k_scclaw4_SortStands (stands_ev g_num Gs.g_sort Gs.g_sorted Gs.g_cmpV tv kv t ks H ht hk hl)

def shKey : List Sh := [.int .i64, .bool]
theorem fits_key {y : AV} (hl : y.cells.length = 2 ∧ formed true y) (h : ∀ (i : Nat) (s : Sh) (c : AV), shKey[i]? = some s → y.cells[i]? = some c → Fits s c) : ∃ v, y = keyV v := by
  obtain ⟨hl, cs, rfl⟩ := hl
  match cs, hl with
  | [a, b], _ =>
    obtain ⟨n, rfl, _⟩ := fits_int (h 0 _ a rfl rfl)
    obtain ⟨d, rfl⟩ := fits_bool (h 1 _ b rfl rfl)
    exact ⟨⟨n, d⟩, rfl⟩
theorem fits_keys {x : AV} (h : Fits (.sl true shKey) x) : ∃ (q : Option Bool) (ks : List Key), x = .lst q 2 (ks.map keyV) := by
  obtain ⟨q, xs, rfl, _, _, h1, h2⟩ := fits_sl h
  obtain ⟨ks, rfl⟩ := map_of fun y hy => fits_key (h1 y hy) (h2 y hy)
  exact ⟨some q, ks, rfl⟩

theorem law_walk (v0 v1 : Value) (W : World) {r : Reach} {b0 b1 : Nat} {held : Bool} {H : Type} {enc : TypeId × Value → H} {d0 d1 : DataW H} {p0 p1 : List MemPlace}
    (o0 : Value.okWide Try.prog W r b0 28 v0) (h0 : DataW.Trod enc Try.prog W 0 (fun _ => true) held 28 v0 d0 p0) (o1 : Value.okWide Try.prog W r b1 45 v1) (h1 : DataW.Trod enc Try.prog W 0 (fun _ => true) held 45 v1 d1 p1)
    (hsz : (DataW.weightsEach Try.prog (Try.f6.params.toList ++ Rows.sortStandsSpec.plain.varTypes Try.prog) ([d0, d1] ++ [])).all (· ≤ reachBytes) = true) :
    Calls Try.prog 6 #[v0, v1] W fun e w' => e = .returned (.bool true) ∧ Below W.heap.size W w' := by
  obtain ⟨x0, e0, r0⟩ := arg_of_trod (m := 9) (s := .sl false [.sl true shVal]) (by kernel_rfl) o0 h0
  obtain ⟨x1, e1, r1⟩ := arg_of_trod (m := 9) (s := .sl true shKey) (by kernel_rfl) o1 h1
  obtain ⟨t, ht⟩ := fits_tab e0
  obtain ⟨q, ks, rfl⟩ := fits_keys e1
  have hb : Try.prog.bytesOf 48 = 16 := by kernel_rfl
  have hs := sized_list (j := 1) (t := 45) hsz (by kernel_rfl) rfl Try.underlying45 h1 r1
  rw [hb, List.length_map] at hs
  exact law_of_good Try.func6 (by kernel_rfl) (by kernel_rfl) (g_stands x0 _ t ks [] (ht []) ⟨q, 2, rfl, .inl rfl⟩ (by omega)) (relL_cons r0 (relL_cons r1 (relL_nil _ _ _ _)))

/-! ### The row's step -/
set_option maxRecDepth 100000 in
theorem lifted (os : Os) (started : os.Started) (H : Type) (enc : TypeId × Value → H) :
    ReturnsInHanded {} Try.checked os 6 .any (Rows.sortStandsSpec.pre6 enc Try.prog Try.f6 Rows.sortStandsRow.domain false) (Rows.sortStandsSpec.post enc Try.prog Try.f6 false true false false) := by
  refine returnsInHanded_of_change_sized (C := Try.checked) own started (by kernel_rfl) Try.func6
    (ChangeSpec.witness6 (enc := enc) (C := Try.checked) false ⟨#[], #[.slice none 0 0, .slice none 0 0], []⟩ 8 (by kernel_rfl) (by kernel_rfl) (by kernel_rfl) (by kernel_rfl)) ?_
  intro W base args ds gs before hval0 hW hcnd hsz _
  have hval : ∀ (j : Nat) t v, Try.f6.params[j]? = some t → args[j]? = some v → Value.okWide Try.prog W .any base t v := hval0
  have hW' := hW
  obtain ⟨p, q, hA0, hV, rfl, hfz, hnd⟩ := hW
  have hA : DataW.TrodAll enc Try.prog W 0 (fun _ => true) true Try.f6.params.toList args.toList ds p := hA0
  rw [Try.params6] at hA hval
  obtain ⟨v0, vs0, d0, ds0, p0, q0, hargs, rfl, rfl, h0, r0⟩ := trodAll_cons hA
  obtain ⟨v1, vs1, d1, ds1, p1, q1, rfl, rfl, rfl, h1, r1⟩ := trodAll_cons r0
  obtain ⟨rfl, rfl, rfl⟩ := trodAll_nil r1
  obtain rfl : args = #[v0, v1] := by cases args; simp_all
  obtain ⟨rfl, rfl⟩ := trodVars_none hV
  have lt0 : ∀ x ∈ p0, x.block < W.heap.size := by obtain ⟨m, hm⟩ := h0; exact DataW.trod_lt m _ _ _ hm
  have lt1 : ∀ x ∈ p1, x.block < W.heap.size := by obtain ⟨m, hm⟩ := h1; exact DataW.trod_lt m _ _ _ hm
  refine (law_walk v0 v1 W (hval 0 28 v0 rfl rfl) h0 (hval 1 45 v1 rfl rfl) h1 hsz).mono fun e W' ⟨he, bel⟩ => ?_
  subst he
  exact ⟨_, rfl, _, _, _, [], _, [], hW', trodAll_mk1 (shut_bool Try.underlying4 _), (trodAll_cons_mk (Below.trod laidOut (by kernel_rfl) (of_decide_eq_true (by kernel_rfl)) h0 bel lt0) (trodAll_cons_mk (Below.trod laidOut (by kernel_rfl) (of_decide_eq_true (by kernel_rfl)) h1 bel lt1) trodAll_mk0)), rfl, bel.frame _, fun h => by cases h⟩

theorem over : Rows.sortStandsRow.holds Try.pinned (OpenSpec.ofChange Rows.sortStandsSpec) :=
  OpenClaim.holds_of_wide 6 Try.f6 rfl rfl rfl rfl rfl rfl rfl ⟨rfl, rfl, rfl, rfl, rfl⟩ rfl rfl rfl rfl rfl (by kernel_rfl) Try.func6 (by kernel_rfl)
    (of_decide_eq_true (by kernel_rfl)) (by unfold Func.isWrapper; first | (rw [if_pos (by decide +kernel)]; kernel_rfl) | (rw [if_neg (by decide +kernel)]; exact ⟨rfl, rfl⟩))
    (fun os started H enc _ => lifted os started H enc)

/-- The given statement. -/
theorem proved : Rows.SortStandsSaid := over
#print axioms proved
end Go.Proofs.Ytniijfcjdlhfcaa.sortStands
