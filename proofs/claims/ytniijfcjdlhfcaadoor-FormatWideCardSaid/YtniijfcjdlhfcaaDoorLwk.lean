/-
  THE GIVEN STATEMENT 'FormatWideCardSaid' IS PROVED: whatever the text, the width, the side and the column, the law says true, and writes nothing that was there; the one variable that is listed is tied to the program's text. No conditions.
-/
import Derived.Test.YtniijfcjdlhfcaaDoorLd
import Derived.Test.YtniijfcjdlhfcaaDoorLw
import Derived.Test.YtniijfcjdlhfcaaDoorRepD
import Derived.Test.YtniijfcjdlhfcaaDoorAm26
import Derived.Test.YtniijfcjdlhfcaaDoorDak
import Derived.Test.YtniijfcjdlhfcaaDoorCards
import Derived.Test.YtniijfcjdlhfcaaDoorTie
import Derived.SevenTiedAt
import Derived.SizedLaws
set_option linter.all false
set_option maxRecDepth 100000
namespace Go.Proofs.YtniijfcjdlhfcaaDoor.formatWide
open Go.ChangeShapes Go.WideShapes Go.ChangeAt Go.RowKit Go.AM
open Go.ChangeMaps (open_string shut_string)

theorem g_column (n : Int) (H : Heap) : G f_format_Column [.int .i64 n] H (columnV n) H := good_of_ev mixed k_format_Column (column_fmt_ev n H)
theorem g_number (s : List UInt8) (H : Heap) : G f_format_Number [.str s] H (numV s) H := good_of_ev mixed k_format_Number (number_fmt_ev s H)
theorem g_wide (t : List UInt8) (wide side : Int) (H : Heap) (ht : t.length ≤ 9223372036854775807) : G f_format_Wide [.str t, .int .i64 wide, .int .i64 side] H (wideV t wide side) H :=
  good_of_ev mixed k_format_Wide (wide_fmt_ev (fun s c H hc hl => Tryd.rep_good s c H hc hl) t wide side H ht)
theorem g_wide3 (t : List UInt8) (w : Nat) (side : Int) (H : Heap) (ht : t.length ≤ 140737488355328) (hw : w ≤ 200) (hs : side = 0 ∨ side = 1 ∨ side = 2) : G f_sccref3_Wide [.str t, .int .i64 w, .int .i64 side] H (.str (wideL t w side)) H :=
  good_of_ev mixed k_sccref3_Wide (wide3_ev t w side H ht hw hs)
theorem g_letters3 (N : Nat) (H : Heap) (hN : N ≤ 1000000) : G f_sccref3_Letters [.int .i64 N] H (.str (letters N)) H := good_of_ev mixed k_sccref3_Letters (letters3_ev N H hN)
theorem g_law (t : List UInt8) (wide side col : Int) (H : Heap) (ht : t.length ≤ 140737488355328) : G f_scclaw3_FormatWide [.str t, .int .i64 wide, .int .i64 side, .int .i64 col] H (.bool true) H :=
  good_of_ev mixed k_scclaw3_FormatWide (format_wide_ev g_wide g_wide3 g_column g_letters3 g_number g_error t wide side col H ht)

theorem law_walk (v0 v1 v2 v3 : Value) (W : World) (hg : W.cell? ⟨0, 0, none⟩ = some errTypeV) {r : Reach} {b0 b1 b2 b3 : Nat} {held : Bool} {H : Type} {enc : TypeId × Value → H} {d0 d1 d2 d3 : DataW H} {p0 p1 p2 p3 : List MemPlace}
    (o0 : Value.okWide Tryd.prog W r b0 9 v0) (h0 : DataW.Trod enc Tryd.prog W 0 (fun _ => true) held 9 v0 d0 p0) (o1 : Value.okWide Tryd.prog W r b1 3 v1) (h1 : DataW.Trod enc Tryd.prog W 0 (fun _ => true) held 3 v1 d1 p1)
    (o2 : Value.okWide Tryd.prog W r b2 3 v2) (h2 : DataW.Trod enc Tryd.prog W 0 (fun _ => true) held 3 v2 d2 p2) (o3 : Value.okWide Tryd.prog W r b3 3 v3) (h3 : DataW.Trod enc Tryd.prog W 0 (fun _ => true) held 3 v3 d3 p3)
    (hsz : (DataW.weightsEach Tryd.prog (Tryd.f6.params.toList ++ Rows.formatWideSpec.plain.varTypes Tryd.prog) ([d0, d1, d2, d3] ++ [])).all (· ≤ reachBytes) = true) :
    Calls Tryd.prog 6 #[v0, v1, v2, v3] W fun e w' => e = .returned (.bool true) ∧ Below W.heap.size W w' := by
  have h0' := h0
  obtain ⟨a0, rfl, rfl, rfl, w0⟩ := open_string Tryd.underlying9 o0 h0
  obtain ⟨a1, rfl, rfl, rfl, w1⟩ := open_int Tryd.underlying3 o1 h1
  obtain ⟨a2, rfl, rfl, rfl, w2⟩ := open_int Tryd.underlying3 o2 h2
  obtain ⟨a3, rfl, rfl, rfl, w3⟩ := open_int Tryd.underlying3 o3 h3
  have hl := sized_str (j := 0) (t := 9) hsz (by kernel_rfl) rfl Tryd.underlying9 h0' (rel_str (w := W) (M := fun _ => none) (I := fun _ => True) (n := 0) a0)
  exact law_of_good_err hg Tryd.func6 (by kernel_rfl) (by kernel_rfl) (g_law a0.data.toList a1 a2 a3 [] (by omega)) (relL_cons (rel_str _ _ _ _ a0) (relL_cons (.int _ _) (relL_cons (.int _ _) (relL_cons (.int _ _) (relL_nil _ _ _ _)))))

/-! ### The row's step -/
set_option maxRecDepth 100000 in
theorem lifted (os : Os) (started : os.Started) (H : Type) (enc : TypeId × Value → H) :
    ReturnsInHanded {} Tryd.checked os 6 .any (fun w args => (Rows.formatWideSpec.pre enc Tryd.prog Tryd.f6 [] false w args ∧ laidMetH Tryd.prog Rows.formatWideRow.laid w) ∧ sizedMet enc Tryd.prog Tryd.f6 (OpenSpec.ofChange Rows.formatWideSpec) false w args)
      (Rows.formatWideSpec.post enc Tryd.prog Tryd.f6 false true false false) := by
  refine returnsInHanded_of_change_and (C := Tryd.checked) (X := fun w _ => laidMetH Tryd.prog Rows.formatWideRow.laid w) (fun _ _ _ hh h => h.of_heap hh) own started (by kernel_rfl) Tryd.func6
    (ChangeSpec.witness_at (enc := enc) (C := Tryd.checked) (os := os) (X := fun w _ => laidMetH Tryd.prog Rows.formatWideRow.laid w) false (laidWorld os) #[.string ByteArray.empty, .int .i64 0, .int .i64 0, .int .i64 0] 8 rfl (by kernel_rfl) (by kernel_rfl) (by kernel_rfl) (by kernel_rfl) (by kernel_rfl) (laidWorld_met os _)) ?_
  intro W base args ds gs before hval0 hW _ hsz hL _
  have hval : ∀ (j : Nat) t v, Tryd.f6.params[j]? = some t → args[j]? = some v → Value.okWide Tryd.prog W .any base t v := hval0
  have hW' := hW
  obtain ⟨p, q, hA0, hV, rfl, hfz, hnd⟩ := hW
  have hA : DataW.TrodAll enc Tryd.prog W 0 (fun _ => true) true Tryd.f6.params.toList args.toList ds p := hA0
  rw [Tryd.params6] at hA hval
  obtain ⟨v0, vs0, d0, ds0, p0, q0, hargs, rfl, rfl, h0, r0⟩ := trodAll_cons hA
  obtain ⟨v1, vs1, d1, ds1, p1, q1, rfl, rfl, rfl, h1, r1⟩ := trodAll_cons r0
  obtain ⟨v2, vs2, d2, ds2, p2, q2, rfl, rfl, rfl, h2, r2⟩ := trodAll_cons r1
  obtain ⟨v3, vs3, d3, ds3, p3, q3, rfl, rfl, rfl, h3, r3⟩ := trodAll_cons r2
  obtain ⟨rfl, rfl, rfl⟩ := trodAll_nil r3
  obtain rfl : args = #[v0, v1, v2, v3] := by cases args; simp_all
  obtain ⟨rfl, rfl⟩ := trodVars_none hV
  have lt0 : ∀ x ∈ p0, x.block < W.heap.size := by obtain ⟨m, hm⟩ := h0; exact DataW.trod_lt m _ _ _ hm
  have lt1 : ∀ x ∈ p1, x.block < W.heap.size := by obtain ⟨m, hm⟩ := h1; exact DataW.trod_lt m _ _ _ hm
  have lt2 : ∀ x ∈ p2, x.block < W.heap.size := by obtain ⟨m, hm⟩ := h2; exact DataW.trod_lt m _ _ _ hm
  have lt3 : ∀ x ∈ p3, x.block < W.heap.size := by obtain ⟨m, hm⟩ := h3; exact DataW.trod_lt m _ _ _ hm
  refine (law_walk v0 v1 v2 v3 W (handle_of_laid hL) (hval 0 9 v0 rfl rfl) h0 (hval 1 3 v1 rfl rfl) h1 (hval 2 3 v2 rfl rfl) h2 (hval 3 3 v3 rfl rfl) h3 hsz).mono fun e W' ⟨he, bel⟩ => ?_
  subst he
  exact ⟨_, rfl, _, _, _, [], _, [], hW', trodAll_mk1 (shut_bool Tryd.underlying4 _), (trodAll_cons_mk (Below.trod laidOut (by kernel_rfl) (of_decide_eq_true (by kernel_rfl)) h0 bel lt0) (trodAll_cons_mk (Below.trod laidOut (by kernel_rfl) (of_decide_eq_true (by kernel_rfl)) h1 bel lt1) (trodAll_cons_mk (Below.trod laidOut (by kernel_rfl) (of_decide_eq_true (by kernel_rfl)) h2 bel lt2) (trodAll_cons_mk (Below.trod laidOut (by kernel_rfl) (of_decide_eq_true (by kernel_rfl)) h3 bel lt3) trodAll_mk0)))), rfl, bel.frame _, fun h => by cases h⟩

theorem over : Rows.formatWideRow.holds Tryd.pinned (OpenSpec.ofChange Rows.formatWideSpec) :=
  OpenClaim.holds_of_wide 6 Tryd.f6 rfl rfl rfl rfl rfl rfl rfl ⟨rfl, rfl, rfl, rfl, rfl⟩ rfl rfl rfl rfl rfl (by kernel_rfl) Tryd.func6 (by kernel_rfl)
    (of_decide_eq_true (by kernel_rfl)) (by unfold Func.isWrapper; first | (rw [if_pos (by decide +kernel)]; kernel_rfl) | (rw [if_neg (by decide +kernel)]; exact ⟨rfl, rfl⟩))
    (fun os started H enc _ => lifted os started H enc)

/-- The given statement: the tied card. -/
theorem proved : Rows.FormatWideCardSaid :=
  Claim7.holds_tied_plain_at .later [] [.handle] true (true, "3f949a449b5eb89893828e6ebdbad7aa46b0e61a91577b00d2b5ffddd5ee743f") true
    over (fun _ h => by cases h) (by kernel_rfl) (fun _ h => by cases h) formatWide_row_tie rfl ⟨rfl, rfl⟩ (by kernel_rfl) rfl
    (fun f fn hf hfn => by
      obtain rfl : f = 6 := Option.some.inj ((show Tryd.prog.funcNamed "sccsettle/scclaw3.FormatWide" = some 6 by kernel_rfl).symm.trans hf) |>.symm
      obtain rfl : fn = Tryd.f6 := (Option.some.inj (Tryd.func6.symm.trans hfn)).symm
      exact ⟨by kernel_rfl, fun j t ht => by
        rw [Tryd.params6] at ht
        have ht' : t ∈ [9, 3, 3, 3] := List.mem_of_getElem? (by simpa using ht)
        simp only [List.mem_cons, List.mem_nil_iff, or_false] at ht'
        rcases ht' with rfl | rfl | rfl | rfl
        · exact (show Tryd.prog.wantsStandIn 9 = false by kernel_rfl)
        · exact (show Tryd.prog.wantsStandIn 3 = false by kernel_rfl)
        · exact (show Tryd.prog.wantsStandIn 3 = false by kernel_rfl)
        · exact (show Tryd.prog.wantsStandIn 3 = false by kernel_rfl)⟩)
    (by kernel_rfl)
#print axioms proved
end Go.Proofs.YtniijfcjdlhfcaaDoor.formatWide
