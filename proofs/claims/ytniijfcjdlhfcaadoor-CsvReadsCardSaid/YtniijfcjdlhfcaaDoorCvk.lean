/-
  THE GIVEN STATEMENT 'CsvReadsCardSaid' IS PROVED: whatever the text, the law says true, and writes nothing that was there; the one variable that is listed is tied to the program's text. No conditions.
-/
import Derived.Test.YtniijfcjdlhfcaaDoorLd
import Derived.Test.YtniijfcjdlhfcaaDoorPre
import Derived.Test.YtniijfcjdlhfcaaDoorCvr
import Derived.Test.YtniijfcjdlhfcaaDoorCards
import Derived.Test.YtniijfcjdlhfcaaDoorTie
import Derived.SevenTiedAt
set_option linter.all false
set_option maxRecDepth 100000
namespace Go.Proofs.YtniijfcjdlhfcaaDoor.csvReads
open Go.ChangeShapes Go.WideShapes Go.RowKit Go.AM
open Go.ChangeMaps (open_string shut_string)

theorem g_slprefix (s p : List UInt8) (H : Heap) : G f_stringslite_HasPrefix [.str s, .str p] H (.bool (p.isPrefixOf s)) H := good_of_ev mixed k_stringslite_HasPrefix (sl_prefix_ev s p H)
theorem g_prefix (s p : List UInt8) (H : Heap) : G f_strings_HasPrefix [.str s, .str p] H (.bool (p.isPrefixOf s)) H := good_of_ev mixed k_strings_HasPrefix (prefix_ev g_slprefix s p H)
theorem g_ends (s : List UInt8) (H : Heap) (h : s ≠ []) : G f_csv_ends [.str s] H (.bool (endsL s)) H := good_of_ev mixed k_csv_ends (ends_ev g_prefix s H h)
theorem g_read (s : List UInt8) (H : Heap) : G f_csv_Read [.str s] H (readV s) H := good_of_ev mixed k_csv_Read (read_ev g_ends s H)
theorem g_rows3 (s : List UInt8) (H : Heap) : G f_sccref3_Rows [.str s] H (readV3 s) H := good_of_ev mixed k_sccref3_Rows (rows3_ev s H)
theorem g_same (va vb : AV) (t u : List (List Fld)) (H : Heap) (ha : RowsOf va t) (hb : RowsOf vb u) (hl : t.length ≤ 9223372036854775807) (hl2 : ∀ r ∈ t, r.length ≤ 9223372036854775807) : G f_sccsame_Rows [va, vb] H (.bool (decide (t = u))) H :=
  good_of_ev mixed k_sccsame_Rows (same_rows_ev va vb t u H ha hb hl hl2)
theorem g_law (s : List UInt8) (H : Heap) : G f_scclaw3_CsvReads [.str s] H (.bool true) H := good_of_ev mixed k_scclaw3_CsvReads (csv_reads_ev g_read g_rows3 g_error g_same s H)

theorem law_walk (v0 : Value) (W : World) (hg : W.cell? ⟨0, 0, none⟩ = some errTypeV) {r : Reach} {b0 base : Nat} {sp : Nat → Bool} {held : Bool} {H : Type} {enc : TypeId × Value → H} {d0 : DataW H} {p0 : List MemPlace}
    (o0 : Value.okWide Tryd.prog W r b0 9 v0) (h0 : DataW.Trod enc Tryd.prog W base sp held 9 v0 d0 p0) :
    Calls Tryd.prog 4 #[v0] W fun e w' => e = .returned (.bool true) ∧ Below W.heap.size W w' := by
  obtain ⟨a0, rfl, rfl, rfl, w0⟩ := open_string Tryd.underlying9 o0 h0
  exact law_of_good_err hg Tryd.func4 (by kernel_rfl) (by kernel_rfl) (g_law a0.data.toList []) (relL_cons (rel_str _ _ _ _ a0) (relL_nil _ _ _ _))

/-! ### The row's step -/
set_option maxRecDepth 100000 in
theorem lifted (os : Os) (started : os.Started) (H : Type) (enc : TypeId × Value → H) :
    ReturnsInHanded {} Tryd.checked os 4 .any (fun w args => (Rows.csvReadsSpec.pre enc Tryd.prog Tryd.f4 [] false w args ∧ laidMetH Tryd.prog Rows.csvReadsRow.laid w) ∧ sizedMet enc Tryd.prog Tryd.f4 (OpenSpec.ofChange Rows.csvReadsSpec) false w args)
      (Rows.csvReadsSpec.post enc Tryd.prog Tryd.f4 false true false false) := by
  refine returnsInHanded_of_change_and (C := Tryd.checked) (X := fun w _ => laidMetH Tryd.prog Rows.csvReadsRow.laid w) (fun _ _ _ hh h => h.of_heap hh) own started (by kernel_rfl) Tryd.func4
    (ChangeSpec.witness_at (enc := enc) (C := Tryd.checked) (os := os) (X := fun w _ => laidMetH Tryd.prog Rows.csvReadsRow.laid w) false (laidWorld os) #[.string ByteArray.empty] 8 rfl (by kernel_rfl) (by kernel_rfl) (by kernel_rfl) (by kernel_rfl) (by kernel_rfl) (laidWorld_met os _)) ?_
  intro W base args ds gs before hval0 hW _ _ hL _
  have hval : ∀ (j : Nat) t v, Tryd.f4.params[j]? = some t → args[j]? = some v → Value.okWide Tryd.prog W .any base t v := hval0
  have hW' := hW
  obtain ⟨p, q, hA0, hV, rfl, hfz, hnd⟩ := hW
  have hA : DataW.TrodAll enc Tryd.prog W 0 (fun _ => true) true Tryd.f4.params.toList args.toList ds p := hA0
  rw [Tryd.params4] at hA hval
  obtain ⟨v0, vs0, d0, ds0, p0, q0, hargs, rfl, rfl, h0, r0⟩ := trodAll_cons hA
  obtain ⟨rfl, rfl, rfl⟩ := trodAll_nil r0
  obtain rfl : args = #[v0] := by cases args; simp_all
  obtain ⟨rfl, rfl⟩ := trodVars_none hV
  have lt0 : ∀ x ∈ p0, x.block < W.heap.size := by obtain ⟨m, hm⟩ := h0; exact DataW.trod_lt m _ _ _ hm
  refine (law_walk v0 W (handle_of_laid hL) (hval 0 9 v0 rfl rfl) h0).mono fun e W' ⟨he, bel⟩ => ?_
  subst he
  exact ⟨_, rfl, _, _, _, [], _, [], hW', trodAll_mk1 (shut_bool Tryd.underlying4 _), (trodAll_cons_mk (Below.trod laidOut (by kernel_rfl) (of_decide_eq_true (by kernel_rfl)) h0 bel lt0) trodAll_mk0), rfl, bel.frame _, fun h => by cases h⟩

theorem over : Rows.csvReadsRow.holds Tryd.pinned (OpenSpec.ofChange Rows.csvReadsSpec) :=
  OpenClaim.holds_of_wide 4 Tryd.f4 rfl rfl rfl rfl rfl rfl rfl ⟨rfl, rfl, rfl, rfl, rfl⟩ rfl rfl rfl rfl rfl (by kernel_rfl) Tryd.func4 (by kernel_rfl)
    (of_decide_eq_true (by kernel_rfl)) (by unfold Func.isWrapper; first | (rw [if_pos (by decide +kernel)]; kernel_rfl) | (rw [if_neg (by decide +kernel)]; exact ⟨rfl, rfl⟩))
    (fun os started H enc _ => lifted os started H enc)

/-- The given statement: the tied card. -/
theorem proved : Rows.CsvReadsCardSaid :=
  Claim7.holds_tied_plain_at .later [] [.handle] true (true, "3f949a449b5eb89893828e6ebdbad7aa46b0e61a91577b00d2b5ffddd5ee743f") true
    over (fun _ h => by cases h) (by kernel_rfl) (fun _ h => by cases h) csvReads_row_tie rfl ⟨rfl, rfl⟩ (by kernel_rfl) rfl
    (fun f fn hf hfn => by
      obtain rfl : f = 4 := Option.some.inj ((show Tryd.prog.funcNamed "sccsettle/scclaw3.CsvReads" = some 4 by kernel_rfl).symm.trans hf) |>.symm
      obtain rfl : fn = Tryd.f4 := (Option.some.inj (Tryd.func4.symm.trans hfn)).symm
      exact ⟨by kernel_rfl, fun j t ht => by
        rw [Tryd.params4] at ht
        have ht' : t ∈ [9] := List.mem_of_getElem? (by simpa using ht)
        simp only [List.mem_cons, List.mem_nil_iff, or_false] at ht'
        rcases ht' with rfl
        · exact (show Tryd.prog.wantsStandIn 9 = false by kernel_rfl)⟩)
    (by kernel_rfl)
#print axioms proved
end Go.Proofs.YtniijfcjdlhfcaaDoor.csvReads
