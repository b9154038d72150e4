/-
  THE GIVEN STATEMENT 'ChartTicksCardSaid' IS PROVED: whatever the two numbers and the bound, the law says true, and writes nothing that was there; the variables that are listed are tied to the program's text. No conditions.
-/
import Derived.Test.YtibdekobocpfdaaDoorTk1
import Derived.Test.YtibdekobocpfdaaDoorItG
import Derived.Test.YtibdekobocpfdaaDoorAr0
import Derived.Test.YtibdekobocpfdaaDoorLdT
import Derived.Test.YtibdekobocpfdaaDoorCards
import Derived.Test.YtibdekobocpfdaaDoorTie
import Derived.SevenTiedAt
set_option linter.all false
set_option maxRecDepth 100000
namespace Go.Proofs.YtibdekobocpfdaaDoor.chartTicks
open Go.ChangeShapes Go.WideShapes Go.RowKit Go.AM
open Go.ChangeMaps (open_string shut_string)

theorem g_trim (b m : Nat) (ws : List Nat) (H : Heap) (hm : ws.length = m) (hb : H[b]? = some (.row 1 (ws.map u32V))) (hw : Small ws) (hl : m ≤ 1000000) : G f_sccsettlebig_trim [.sl (some false) b 1 0 m] H (.sl (some false) b 1 0 (wds (wval ws)).length) H :=
  good_of_ev mixed k_sccsettlebig_trim (trim_ev b m ws H hm hb hw hl)
theorem g_words (x : Nat) (H : Heap) (hx : x < 18446744073709551616) : G f_sccsettlebig_words [u64V x] H (magV x) H := good_of_ev mixed k_sccsettlebig_words (words_ev g_trim x hx H)
theorem g_give (b n : Nat) (neg : Bool) (x0 x1 : AV) (H : Heap) (hb : H[b]? = some (.box [x0, x1])) : G f_sccsettlebig_Int__give [.ref b 0 0 0, .bool neg, magV n] H (.ref b 0 0 0) (H.set b (.box [.bool (neg && decide (0 < n)), magV n])) :=
  good_of_ev mixed k_sccsettlebig_Int__give (give_ev b n neg x0 x1 H hb)
theorem g_setInt64 (b : Nat) (v : Int) (x0 x1 : AV) (H : Heap) (hb : H[b]? = some (.box [x0, x1])) (hv : In64 v) : G f_sccsettlebig_Int__SetInt64 [.ref b 0 0 0, intV v] H (.ref b 0 0 0) (H.set b (.box (bigC v))) :=
  good_of_ev mixed k_sccsettlebig_Int__SetInt64 (setInt64_ev g_words g_give b v x0 x1 H hb hv)
theorem k_bigNew : chkF Tryd.prog f_sccsettlebig_NewInt a_bigNew = true := by kernel_rfl
theorem g_newInt (v : Int) (H : Heap) (hv : In64 v) : G f_sccsettlebig_NewInt [intV v] H (.ref H.length 0 0 0) (H ++ [.box (bigC v)]) := good_of_ev mixed k_bigNew (newInt_ev g_setInt64 v H hv)
theorem g_twin (av : AV) (m : Nat) (H : Heap) (ha : Mag av m) (hm : m ≠ 0) (hl : (wds m).length ≤ 100000) : G f_sccsettlebig_twin [av] H (.lst (some false) 1 ((wds m).map u32V)) H := good_of_ev mixed k_sccsettlebig_twin (twin_ev av m H ha hm hl)
theorem g_small (av : AV) (a d : Nat) (H : Heap) (ha : Mag av a) (hl : (wds a).length ≤ 100000) (hd0 : 0 < d) (hd : d < 4294967296) : G f_sccsettlebig_small [av, u32V d] H (.tup [magV (a / d), u32V (a % d)]) H :=
  good_of_ev mixed k_sccsettlebig_small (small_ev g_trim av a d _ H ha rfl hl hd0 hd)
theorem g_text (b : Nat) (v : Int) (H : Heap) (hb : H[b]? = some (.box (bigC v))) (hv : v.natAbs < 10000000000000000000000) (hl : (wds v.natAbs).length ≤ 100) : G f_sccsettlebig_Int__Text [.ref b 0 0 0, intV 10] H (.str (digR v)) H :=
  good_of_ev mixed k_sccsettlebig_Int__Text (text_ev g_twin g_small b v H hb hv hl)
theorem g_string (b : Nat) (v : Int) (H : Heap) (hb : H[b]? = some (.box (bigC v))) (hv : v.natAbs < 10000000000000000000000) (hl : (wds v.natAbs).length ≤ 100) : G f_sccsettlebig_Int__String [.ref b 0 0 0] H (.str (digR v)) H :=
  good_of_ev mixed k_sccsettlebig_Int__String (string3_ev g_text b v H hb hv hl)
theorem g_digits (v : Int) (H : Heap) (hv : In64 v) : G f_sccref1_Digits [intV v] H (.str (digR v)) H := good_of_ev mixed k_sccref1_Digits (digits3_ev g_newInt g_string v H hv)
theorem g_near (x : Int) (H : Heap) : G f_chart_near [intV x] H (.bool (decide (-1000000000000000 ≤ x ∧ x ≤ 1000000000000000))) H := good_of_ev mixed k_chart_near (near_ev x H)
theorem g_floor (a b : Int) (H : Heap) (hb : 0 < b) (ha : a.natAbs ≤ 1000000000000000000) : G f_chart_floor [intV a, intV b] H (intV (a / b)) H := good_of_ev mixed k_chart_floor (floor_ev a b H hb ha)
theorem g_ticks3 (low high many : Int) (k : Nat) (H : Heap) (hs : Scale low high many) (hk : stopsAt low high many k) : G f_sccref3_Ticks [intV low, intV high, intV many] H (lstF 1 ((ticksL low high k).map intV)) H :=
  good_of_ev mixed k_sccref3_Ticks (ticks3_ev low high many k H hs hk)
theorem g_cticks (low high many : Int) (k : Nat) (H : Heap) (hk : Scale low high many → stopsAt low high many k) (hl : In64 low) (hh : In64 high) : G f_chart_Ticks [intV low, intV high, intV many] H (cticksV low high many k) H :=
  good_of_ev mixed k_chart_Ticks (cticks_ev g_near g_floor Go.Proofs.itoa_good low high many k H hk hl hh)
theorem g_law (low high many : Int) (H : Heap) (hl : In64 low) (hh : In64 high) : G f_scclaw3_ChartTicks [intV low, intV high, intV many] H (.bool true) H :=
  good_of_ev mixed k_scclaw3_ChartTicks (chart_ticks_ev g_ticks3 g_cticks g_error g_digits low high many H hl hh)

theorem law_walk (v0 v1 v2 : Value) (W : World) (hL : laidMetH Tryd.prog laidList W) {r : Reach} {b0 b1 b2 : Nat} {held : Bool} {H : Type} {enc : TypeId × Value → H} {d0 d1 d2 : DataW H} {p0 p1 p2 : List MemPlace}
    (o0 : Value.okWide Tryd.prog W r b0 3 v0) (h0 : DataW.Trod enc Tryd.prog W 0 (fun _ => true) held 3 v0 d0 p0) (o1 : Value.okWide Tryd.prog W r b1 3 v1) (h1 : DataW.Trod enc Tryd.prog W 0 (fun _ => true) held 3 v1 d1 p1)
    (o2 : Value.okWide Tryd.prog W r b2 3 v2) (h2 : DataW.Trod enc Tryd.prog W 0 (fun _ => true) held 3 v2 d2 p2) :
    Calls Tryd.prog 3 #[v0, v1, v2] W fun e w' => e = .returned (.bool true) ∧ Below W.heap.size W w' := by
  obtain ⟨x0, e0, r0⟩ := arg_of_trod (m := 9) (s := .int .i64) (by kernel_rfl) o0 h0
  obtain ⟨x1, e1, r1⟩ := arg_of_trod (m := 9) (s := .int .i64) (by kernel_rfl) o1 h1
  obtain ⟨x2, e2, r2⟩ := arg_of_trod (m := 9) (s := .int .i64) (by kernel_rfl) o2 h2
  obtain ⟨low, rfl, hl⟩ := fits_int e0
  obtain ⟨high, rfl, hh⟩ := fits_int e1
  obtain ⟨many, rfl, _⟩ := fits_int e2
  exact law_of_good_err hL Tryd.func3 (by kernel_rfl) (by kernel_rfl) (g_law low high many [] (wf_i64 hl) (wf_i64 hh)) (relL_cons r0 (relL_cons r1 (relL_cons r2 (relL_nil _ _ _ _))))

/-! ### The row's step -/
set_option maxRecDepth 100000 in
theorem lifted (os : Os) (started : os.Started) (H : Type) (enc : TypeId × Value → H) :
    ReturnsInHanded {} Tryd.checked os 3 .any (fun w args => (Rows.chartTicksSpec.pre enc Tryd.prog Tryd.f3 [] false w args ∧ laidMetH Tryd.prog Rows.chartTicksRow.laid w) ∧ sizedMet enc Tryd.prog Tryd.f3 (OpenSpec.ofChange Rows.chartTicksSpec) false w args)
      (Rows.chartTicksSpec.post enc Tryd.prog Tryd.f3 false true false false) := by
  refine returnsInHanded_of_change_and (C := Tryd.checked) (X := fun w _ => laidMetH Tryd.prog Rows.chartTicksRow.laid w) (fun _ _ _ hh h => h.of_heap hh) own started (by kernel_rfl) Tryd.func3
    (ChangeSpec.witness_at (enc := enc) (C := Tryd.checked) (os := os) (X := fun w _ => laidMetH Tryd.prog Rows.chartTicksRow.laid w) false (laidWorld os) #[.int .i64 0, .int .i64 0, .int .i64 0] 8 (laidWorld_os os) (by kernel_rfl) (by kernel_rfl) (by kernel_rfl) (by kernel_rfl) (by kernel_rfl) (laidWorld_met os _)) ?_
  intro W base args ds gs before hval0 hW _ _ hL _
  have hval : ∀ (j : Nat) t v, Tryd.f3.params[j]? = some t → args[j]? = some v → Value.okWide Tryd.prog W .any base t v := hval0
  have hW' := hW
  obtain ⟨p, q, hA0, hV, rfl, hfz, hnd⟩ := hW
  have hA : DataW.TrodAll enc Tryd.prog W 0 (fun _ => true) true Tryd.f3.params.toList args.toList ds p := hA0
  rw [Tryd.params3] at hA hval
  obtain ⟨v0, vs0, d0, ds0, p0, q0, hargs, rfl, rfl, h0, r0⟩ := trodAll_cons hA
  obtain ⟨v1, vs1, d1, ds1, p1, q1, rfl, rfl, rfl, h1, r1⟩ := trodAll_cons r0
  obtain ⟨v2, vs2, d2, ds2, p2, q2, rfl, rfl, rfl, h2, r2⟩ := trodAll_cons r1
  obtain ⟨rfl, rfl, rfl⟩ := trodAll_nil r2
  obtain rfl : args = #[v0, v1, v2] := by cases args; simp_all
  obtain ⟨rfl, rfl⟩ := trodVars_none hV
  have lt0 : ∀ x ∈ p0, x.block < W.heap.size := by obtain ⟨m, hm⟩ := h0; exact DataW.trod_lt m _ _ _ hm
  have lt1 : ∀ x ∈ p1, x.block < W.heap.size := by obtain ⟨m, hm⟩ := h1; exact DataW.trod_lt m _ _ _ hm
  have lt2 : ∀ x ∈ p2, x.block < W.heap.size := by obtain ⟨m, hm⟩ := h2; exact DataW.trod_lt m _ _ _ hm
  refine (law_walk v0 v1 v2 W hL (hval 0 3 v0 rfl rfl) h0 (hval 1 3 v1 rfl rfl) h1 (hval 2 3 v2 rfl rfl) h2).mono fun e W' ⟨he, bel⟩ => ?_
  subst he
  exact ⟨_, rfl, _, _, _, [], _, [], hW', trodAll_mk1 (shut_bool Tryd.underlying4 _), (trodAll_cons_mk (Below.trod laidOut (by kernel_rfl) (of_decide_eq_true (by kernel_rfl)) h0 bel lt0) (trodAll_cons_mk (Below.trod laidOut (by kernel_rfl) (of_decide_eq_true (by kernel_rfl)) h1 bel lt1) (trodAll_cons_mk (Below.trod laidOut (by kernel_rfl) (of_decide_eq_true (by kernel_rfl)) h2 bel lt2) trodAll_mk0))), rfl, bel.frame _, fun h => by cases h⟩

theorem over : Rows.chartTicksRow.holds Tryd.pinned (OpenSpec.ofChange Rows.chartTicksSpec) :=
  OpenClaim.holds_of_wide 3 Tryd.f3 rfl rfl rfl rfl rfl rfl rfl ⟨rfl, rfl, rfl, rfl, rfl⟩ rfl rfl rfl rfl rfl (by kernel_rfl) Tryd.func3 (by kernel_rfl)
    (of_decide_eq_true (by kernel_rfl)) (by unfold Func.isWrapper; first | (rw [if_pos (by decide +kernel)]; kernel_rfl) | (rw [if_neg (by decide +kernel)]; exact ⟨rfl, rfl⟩))
    (fun os started H enc _ => lifted os started H enc)

/-- The given statement: the tied card. -/
theorem proved : Rows.ChartTicksCardSaid :=
  Claim7.holds_tied_plain_at .later [] [.data, .data, .data, .handle] true (true, "b70edc28c0b674b6053f7ffa1a2a4275c004051eeae470f41fce480d8eff2436") true
    over (fun _ h => by cases h) (by kernel_rfl) (fun _ h => by cases h) chartTicks_row_tie rfl ⟨rfl, rfl⟩ (by kernel_rfl) rfl
    (fun f fn hf hfn => by
      obtain rfl : f = 3 := Option.some.inj ((show Tryd.prog.funcNamed "sccsettle/scclaw3.ChartTicks" = some 3 by kernel_rfl).symm.trans hf) |>.symm
      obtain rfl : fn = Tryd.f3 := (Option.some.inj (Tryd.func3.symm.trans hfn)).symm
      exact ⟨by kernel_rfl, fun j t ht => by
        rw [Tryd.params3] at ht
        have ht' : t ∈ [3, 3, 3] := List.mem_of_getElem? (by simpa using ht)
        simp only [List.mem_cons, List.mem_nil_iff, or_false] at ht'
        rcases ht' with rfl | rfl | rfl
        · exact (show Tryd.prog.wantsStandIn 3 = false by kernel_rfl)
        · exact (show Tryd.prog.wantsStandIn 3 = false by kernel_rfl)
        · exact (show Tryd.prog.wantsStandIn 3 = false by kernel_rfl)⟩)
    (by kernel_rfl)
#print axioms proved

end Go.Proofs.YtibdekobocpfdaaDoor.chartTicks
