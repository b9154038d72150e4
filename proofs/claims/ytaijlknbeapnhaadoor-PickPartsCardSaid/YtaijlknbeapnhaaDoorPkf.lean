/-
  THE GIVEN STATEMENT 'PickPartsCardSaid' IS PROVED: whatever the table and the wants, the law says true, and writes nothing that was there; the variables that are listed are tied to the program's text. No conditions.
-/
import Derived.Test.YtaijlknbeapnhaaDoorPkp
import Derived.Test.YtaijlknbeapnhaaDoorGsv
import Derived.Test.YtaijlknbeapnhaaDoorAw
import Derived.Test.YtaijlknbeapnhaaDoorLdE
import Derived.Test.YtaijlknbeapnhaaDoorCards
import Derived.Test.YtaijlknbeapnhaaDoorTie
import Derived.SevenTiedAt
set_option linter.all false
set_option maxRecDepth 100000
namespace Go.Proofs.YtaijlknbeapnhaaDoor.pickParts
open Go.ChangeShapes Go.WideShapes Go.RowKit Go.AM
open Go.ChangeMaps (open_string shut_string)

section
variable {GT : Nat → Option AV}
abbrev G (GT : Nat → Option AV) : CSpec := Go.AM.Good Tryd.prog GT
theorem g_num (n : Int) (H : Heap) : G GT f_sccref1_Num [intV n] H (valV ⟨1, n, []⟩) H := good_of_ev mixed k_sccref1_Num (num_ev n H)
theorem g_isBad (v : Val) (H : Heap) : G GT f_value_IsBad [valV v] H (.bool (v.kind == 4)) H := good_of_ev mixed k_value_IsBad (isBad_ev v H)
theorem g_isTrue (v : Val) (H : Heap) : G GT f_value_IsTrue [valV v] H (.bool (v.kind == 3 && v.num == 1)) H := good_of_ev mixed k_value_IsTrue (isTrue_ev v H)
theorem g_is (b : Bool) (H : Heap) : G GT f_value_Is [.bool b] H (valV (isV b)) H := good_of_ev mixed k_value_Is (is_ev b H)
theorem g_like (v o : Val) (H : Heap) : G GT f_value_like [valV v, valV o] H (valV (likeV v o)) H := good_of_ev mixed k_value_like (like_ev v o H)
theorem g_two (op : Int) (a b : Val) (H : Heap) (h1 : 1 ≤ op) (h6 : op ≤ 6) : G GT f_value_Two [intV op, valV a, valV b] H (valV (twoC op a b)) H := good_of_ev mixed k_value_Two (two_ev g_isBad g_is g_like Gs.g_cmpV op h1 h6 a b H)
theorem g_check (tv wv : AV) (t : List Row) (l : List Want) (H : Heap) (ht : TabOf H tv t) (hw : view H 5 wv = some (l.map wantV)) : G GT f_pick_check [tv, wv] H (errN (wantErr t l)) H := good_of_ev mixed k_pick_check (pick_check_ev Gs.g_chk Gs.g_col Gs.g_chkV tv wv t l H ht hw)
theorem g_picked (tv wv : AV) (t : List Row) (l : List Want) (f : FuncId) (first caps : List AV) (en : Nat → Bool) (H : Heap) (ht : TabOf H tv t) (hw : view H 5 wv = some (l.map wantV)) (hF : ∀ n H', Old H H' → G GT f (first ++ [natV n] ++ caps) H' (.bool (en n)) H') :
    G GT f_pick_picked [tv, wv, .fn f first caps] H (pickV t l en) H := good_of_ev mixed k_pick_picked (picked_ev g_check g_two g_isTrue tv wv t l f first caps en H ht hw hF)
theorem g_pick_c1 (n b : Nat) (wv : AV) (l : List Want) (H : Heap) (hb : H[b]? = some (.box [wv])) (hw : view H 5 wv = some (l.map wantV)) : G GT f_pick_Pick_c1 [natV n, .ref b 0 0 0] H (.bool (enAll l n)) H := good_of_ev mixed k_pick_Pick_c1 (pick_c1_ev n b wv l H hb hw)
theorem g_any_c1 (n : Nat) (H : Heap) : G GT f_pick_Any_c1 [natV n] H (.bool (enAny n)) H := good_of_ev mixed k_pick_Any_c1 (any_c1_ev n H)
theorem g_pick (tv wv : AV) (t : List Row) (l : List Want) (H : Heap) (ht : TabOf H tv t) (hone : wv.cells = [wv] ∧ wv.one = true) (hw : view H 5 wv = some (l.map wantV)) : G GT f_pick_Pick [tv, wv] H (pickV t l (enAll l)) H :=
  good_of_ev mixed k_pick_Pick (pick_ev g_picked g_pick_c1 tv wv t l H ht hone hw)
theorem g_any (tv wv : AV) (t : List Row) (l : List Want) (H : Heap) (ht : TabOf H tv t) (hw : view H 5 wv = some (l.map wantV)) : G GT f_pick_Any [tv, wv] H (pickV t l enAny) H := good_of_ev mixed k_pick_Any (any_ev g_picked g_any_c1 tv wv t l H ht hw)
theorem g_law (tv wv : AV) (t : List Row) (l : List Want) (H : Heap) (ht : TabOf H tv t) (hw : LstOf wv 5 (l.map wantV)) : G GT f_scclaw4_PickParts [tv, wv] H (.bool true) H := good_of_ev mixed k_scclaw4_PickParts (parts_ev g_num g_pick g_any tv wv t l H ht hw)
end

theorem law_walk (v0 v1 : Value) (W : World) {r : Reach} {b0 b1 : Nat} {held : Bool} {H : Type} {enc : TypeId × Value → H} {d0 d1 : DataW H} {p0 p1 : List MemPlace}
    (o0 : Value.okWide Tryd.prog W r b0 22 v0) (h0 : DataW.Trod enc Tryd.prog W 0 (fun _ => true) held 22 v0 d0 p0) (o1 : Value.okWide Tryd.prog W r b1 23 v1) (h1 : DataW.Trod enc Tryd.prog W 0 (fun _ => true) held 23 v1 d1 p1) :
    Calls Tryd.prog 3 #[v0, v1] W fun e w' => e = .returned (.bool true) ∧ Below W.heap.size W w' := by
  obtain ⟨x0, e0, r0⟩ := arg_of_trod (m := 9) (s := .sl false [.sl true shVal]) (by kernel_rfl) o0 h0
  obtain ⟨x1, e1, r1⟩ := arg_of_trod (m := 9) (s := .sl true shWant) (by kernel_rfl) o1 h1
  obtain ⟨t, ht⟩ := fits_tab e0
  obtain ⟨l, hl⟩ := fits_wants e1
  exact law_of_good Tryd.func3 (by kernel_rfl) (by kernel_rfl) (g_law x0 x1 t l [] (ht []) hl) (relL_cons r0 (relL_cons r1 (relL_nil _ _ _ _)))

/-! ### The row's step -/
set_option maxRecDepth 100000 in
theorem lifted (os : Os) (started : os.Started) (H : Type) (enc : TypeId × Value → H) :
    ReturnsInHanded {} Tryd.checked os 3 .any (fun w args => (Rows.pickPartsSpec.pre enc Tryd.prog Tryd.f3 [] false w args ∧ laidMetH Tryd.prog Rows.pickPartsRow.laid w) ∧ sizedMet enc Tryd.prog Tryd.f3 (OpenSpec.ofChange Rows.pickPartsSpec) false w args)
      (Rows.pickPartsSpec.post enc Tryd.prog Tryd.f3 false true false false) := by
  refine returnsInHanded_of_change_and (C := Tryd.checked) (X := fun w _ => laidMetH Tryd.prog Rows.pickPartsRow.laid w) (fun _ _ _ hh h => h.of_heap hh) own started (by kernel_rfl) Tryd.func3
    (ChangeSpec.witness_at (enc := enc) (C := Tryd.checked) (os := os) (X := fun w _ => laidMetH Tryd.prog Rows.pickPartsRow.laid w) false (laidWorld os) #[.slice none 0 0, .slice none 0 0] 8 (laidWorld_os os) (by kernel_rfl) (by kernel_rfl) (by kernel_rfl) (by kernel_rfl) (by kernel_rfl) (laidWorld_met os _)) ?_
  intro W base args ds gs before hval0 hW _ _ hL _
  have hval : ∀ (j : Nat) t v, Tryd.f3.params[j]? = some t → args[j]? = some v → Value.okWide Tryd.prog W .any base t v := hval0
  have hW' := hW
  obtain ⟨p, q, hA0, hV, rfl, hfz, hnd⟩ := hW
  have hA : DataW.TrodAll enc Tryd.prog W 0 (fun _ => true) true Tryd.f3.params.toList args.toList ds p := hA0
  rw [Tryd.params3] at hA hval
  obtain ⟨v0, vs0, d0, ds0, p0, q0, hargs, rfl, rfl, h0, r0⟩ := trodAll_cons hA
  obtain ⟨v1, vs1, d1, ds1, p1, q1, rfl, rfl, rfl, h1, r1⟩ := trodAll_cons r0
  obtain ⟨rfl, rfl, rfl⟩ := trodAll_nil r1
  obtain rfl : args = #[v0, v1] := by cases args; simp_all
  obtain ⟨rfl, rfl⟩ := trodVars_none hV
  have lt0 : ∀ x ∈ p0, x.block < W.heap.size := by obtain ⟨m, hm⟩ := h0; exact DataW.trod_lt m _ _ _ hm
  have lt1 : ∀ x ∈ p1, x.block < W.heap.size := by obtain ⟨m, hm⟩ := h1; exact DataW.trod_lt m _ _ _ hm
  refine (law_walk v0 v1 W (hval 0 22 v0 rfl rfl) h0 (hval 1 23 v1 rfl rfl) h1).mono fun e W' ⟨he, bel⟩ => ?_
  subst he
  exact ⟨_, rfl, _, _, _, [], _, [], hW', trodAll_mk1 (shut_bool Tryd.underlying4 _), (trodAll_cons_mk (Below.trod laidOut (by kernel_rfl) (of_decide_eq_true (by kernel_rfl)) h0 bel lt0) (trodAll_cons_mk (Below.trod laidOut (by kernel_rfl) (of_decide_eq_true (by kernel_rfl)) h1 bel lt1) trodAll_mk0)), rfl, bel.frame _, fun h => by cases h⟩

theorem over : Rows.pickPartsRow.holds Tryd.pinned (OpenSpec.ofChange Rows.pickPartsSpec) :=
  OpenClaim.holds_of_wide 3 Tryd.f3 rfl rfl rfl rfl rfl rfl rfl ⟨rfl, rfl, rfl, rfl, rfl⟩ rfl rfl rfl rfl rfl (by kernel_rfl) Tryd.func3 (by kernel_rfl)
    (of_decide_eq_true (by kernel_rfl)) (by unfold Func.isWrapper; first | (rw [if_pos (by decide +kernel)]; kernel_rfl) | (rw [if_neg (by decide +kernel)]; exact ⟨rfl, rfl⟩))
    (fun os started H enc _ => lifted os started H enc)

/-- The given statement: the tied card. -/
theorem proved : Rows.PickPartsCardSaid :=
  Claim7.holds_tied_plain_at .later [] [.data, .data, .data, .data, .sentinel, .sentinel, .data, .pinned] true (true, "41423e91f8ff1f4f11c131d95abcf54bca6af1aa40cbd368eafe850b29465e1b") true
    over (fun _ h => by cases h) (by kernel_rfl) (fun _ h => by cases h) pickParts_row_tie rfl ⟨rfl, rfl⟩ (by kernel_rfl) rfl
    (fun f fn hf hfn => by
      obtain rfl : f = 3 := Option.some.inj ((show Tryd.prog.funcNamed "sccsettle/scclaw4.PickParts" = some 3 by kernel_rfl).symm.trans hf) |>.symm
      obtain rfl : fn = Tryd.f3 := (Option.some.inj (Tryd.func3.symm.trans hfn)).symm
      exact ⟨by kernel_rfl, fun j t ht => by
        rw [Tryd.params3] at ht
        have ht' : t ∈ [22, 23] := List.mem_of_getElem? (by simpa using ht)
        simp only [List.mem_cons, List.mem_nil_iff, or_false] at ht'
        rcases ht' with rfl | rfl
        · exact (show Tryd.prog.wantsStandIn 22 = false by kernel_rfl)
        · exact (show Tryd.prog.wantsStandIn 23 = false by kernel_rfl)⟩)
    (by kernel_rfl)
#print axioms proved
end Go.Proofs.YtaijlknbeapnhaaDoor.pickParts
