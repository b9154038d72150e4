/-
  THE GIVEN STATEMENT 'FindLikeCardSaid' IS PROVED: whatever the text and the mask, the law says true, and writes nothing that was there; the one variable that is listed is tied to the program's text. No conditions.
-/
import Derived.Test.YtniijfcjdlhfcaaDoorLd
import Derived.Test.YtniijfcjdlhfcaaDoorFl
import Derived.Test.YtniijfcjdlhfcaaDoorCards
import Derived.Test.YtniijfcjdlhfcaaDoorTie
import Derived.SevenTiedAt
set_option linter.all false
set_option maxRecDepth 100000
namespace Go.Proofs.YtniijfcjdlhfcaaDoor.findLike
open Go.ChangeShapes Go.WideShapes Go.RowKit Go.AM
open Go.ChangeMaps (open_string shut_string)

theorem g_masks (m : List UInt8) (H : Heap) (hm : m.length ≤ 200) : G f_sccref3_Masks [.str m] H (masksV m) H := good_of_ev mixed k_sccref3_Masks (masks3_ev m H hm)
theorem g_like3 (t : List UInt8) (ms : List Mk) (v : AV) (H : Heap) (hv : LstOf v 2 (ms.map mkV)) (ht : t.length ≤ 200) (hm : ms.length ≤ 200) : G f_sccref3_Like [.str t, v] H (.bool (bw t ms 0)) H := good_of_ev mixed k_sccref3_Like (like3_ev t ms v H hv ht hm)
theorem g_like (t m : List UInt8) (H : Heap) : G f_find_Like [.str t, .str m] H (likeV t m) H := good_of_ev mixed k_find_Like (like_ev t m H)
theorem g_law (t m : List UInt8) (H : Heap) : G f_scclaw3_FindLike [.str t, .str m] H (.bool true) H := good_of_ev mixed k_scclaw3_FindLike (find_like_ev g_masks g_like3 g_like g_error t m H)

theorem law_walk (v0 v1 : Value) (W : World) (hg : W.cell? ⟨0, 0, none⟩ = some errTypeV) {r : Reach} {b0 b1 base : Nat} {sp : Nat → Bool} {held : Bool} {H : Type} {enc : TypeId × Value → H} {d0 d1 : DataW H} {p0 p1 : List MemPlace}
    (o0 : Value.okWide Tryd.prog W r b0 9 v0) (h0 : DataW.Trod enc Tryd.prog W base sp held 9 v0 d0 p0) (o1 : Value.okWide Tryd.prog W r b1 9 v1) (h1 : DataW.Trod enc Tryd.prog W base sp held 9 v1 d1 p1) :
    Calls Tryd.prog 3 #[v0, v1] W fun e w' => e = .returned (.bool true) ∧ Below W.heap.size W w' := by
  obtain ⟨a0, rfl, rfl, rfl, w0⟩ := open_string Tryd.underlying9 o0 h0
  obtain ⟨a1, rfl, rfl, rfl, w1⟩ := open_string Tryd.underlying9 o1 h1
  exact law_of_good_err hg Tryd.func3 (by kernel_rfl) (by kernel_rfl) (g_law a0.data.toList a1.data.toList []) (relL_cons (rel_str _ _ _ _ a0) (relL_cons (rel_str _ _ _ _ a1) (relL_nil _ _ _ _)))

/-! ### The row's step -/
set_option maxRecDepth 100000 in
theorem lifted (os : Os) (started : os.Started) (H : Type) (enc : TypeId × Value → H) :
    ReturnsInHanded {} Tryd.checked os 3 .any (fun w args => (Rows.findLikeSpec.pre enc Tryd.prog Tryd.f3 [] false w args ∧ laidMetH Tryd.prog Rows.findLikeRow.laid w) ∧ sizedMet enc Tryd.prog Tryd.f3 (OpenSpec.ofChange Rows.findLikeSpec) false w args)
      (Rows.findLikeSpec.post enc Tryd.prog Tryd.f3 false true false false) := by
  refine returnsInHanded_of_change_and (C := Tryd.checked) (X := fun w _ => laidMetH Tryd.prog Rows.findLikeRow.laid w) (fun _ _ _ hh h => h.of_heap hh) own started (by kernel_rfl) Tryd.func3
    (ChangeSpec.witness_at (enc := enc) (C := Tryd.checked) (os := os) (X := fun w _ => laidMetH Tryd.prog Rows.findLikeRow.laid w) false (laidWorld os) #[.string ByteArray.empty, .string ByteArray.empty] 8 rfl (by kernel_rfl) (by kernel_rfl) (by kernel_rfl) (by kernel_rfl) (by kernel_rfl) (laidWorld_met os _)) ?_
  intro W base args ds gs before hval0 hW _ _ hL _
  have hval : ∀ (j : Nat) t v, Tryd.f3.params[j]? = some t → args[j]? = some v → Value.okWide Tryd.prog W .any base t v := hval0
  have hW' := hW
  obtain ⟨p, q, hA0, hV, rfl, hfz, hnd⟩ := hW
  have hA : DataW.TrodAll enc Tryd.prog W 0 (fun _ => true) true Tryd.f3.params.toList args.toList ds p := hA0
  rw [Tryd.params3] at hA hval
  obtain ⟨v0, vs0, d0, ds0, p0, q0, hargs, rfl, rfl, h0, r0⟩ := trodAll_cons hA
  obtain ⟨v1, vs1, d1, ds1, p1, q1, rfl, rfl, rfl, h1, r1⟩ := trodAll_cons r0
  obtain ⟨rfl, rfl, rfl⟩ := trodAll_nil r1
  obtain rfl : args = #[v0, v1] := by cases args; simp_all
  obtain ⟨rfl, rfl⟩ := trodVars_none hV
  have lt0 : ∀ x ∈ p0, x.block < W.heap.size := by obtain ⟨m, hm⟩ := h0; exact DataW.trod_lt m _ _ _ hm
  have lt1 : ∀ x ∈ p1, x.block < W.heap.size := by obtain ⟨m, hm⟩ := h1; exact DataW.trod_lt m _ _ _ hm
  refine (law_walk v0 v1 W (handle_of_laid hL) (hval 0 9 v0 rfl rfl) h0 (hval 1 9 v1 rfl rfl) h1).mono fun e W' ⟨he, bel⟩ => ?_
  subst he
  exact ⟨_, rfl, _, _, _, [], _, [], hW', trodAll_mk1 (shut_bool Tryd.underlying4 _), (trodAll_cons_mk (Below.trod laidOut (by kernel_rfl) (of_decide_eq_true (by kernel_rfl)) h0 bel lt0) (trodAll_cons_mk (Below.trod laidOut (by kernel_rfl) (of_decide_eq_true (by kernel_rfl)) h1 bel lt1) trodAll_mk0)), rfl, bel.frame _, fun h => by cases h⟩

theorem over : Rows.findLikeRow.holds Tryd.pinned (OpenSpec.ofChange Rows.findLikeSpec) :=
  OpenClaim.holds_of_wide 3 Tryd.f3 rfl rfl rfl rfl rfl rfl rfl ⟨rfl, rfl, rfl, rfl, rfl⟩ rfl rfl rfl rfl rfl (by kernel_rfl) Tryd.func3 (by kernel_rfl)
    (of_decide_eq_true (by kernel_rfl)) (by unfold Func.isWrapper; first | (rw [if_pos (by decide +kernel)]; kernel_rfl) | (rw [if_neg (by decide +kernel)]; exact ⟨rfl, rfl⟩))
    (fun os started H enc _ => lifted os started H enc)

/-- The given statement: the tied card. -/
theorem proved : Rows.FindLikeCardSaid :=
  Claim7.holds_tied_plain_at .later [] [.handle] true (true, "3f949a449b5eb89893828e6ebdbad7aa46b0e61a91577b00d2b5ffddd5ee743f") true
    over (fun _ h => by cases h) (by kernel_rfl) (fun _ h => by cases h) findLike_row_tie rfl ⟨rfl, rfl⟩ (by kernel_rfl) rfl
    (fun f fn hf hfn => by
      obtain rfl : f = 3 := Option.some.inj ((show Tryd.prog.funcNamed "sccsettle/scclaw3.FindLike" = some 3 by kernel_rfl).symm.trans hf) |>.symm
      obtain rfl : fn = Tryd.f3 := (Option.some.inj (Tryd.func3.symm.trans hfn)).symm
      exact ⟨by kernel_rfl, fun j t ht => by
        rw [Tryd.params3] at ht
        have ht' : t ∈ [9, 9] := List.mem_of_getElem? (by simpa using ht)
        simp only [List.mem_cons, List.mem_nil_iff, or_false] at ht'
        rcases ht' with rfl | rfl
        · exact (show Tryd.prog.wantsStandIn 9 = false by kernel_rfl)
        · exact (show Tryd.prog.wantsStandIn 9 = false by kernel_rfl)⟩)
    (by kernel_rfl)
#print axioms proved
end Go.Proofs.YtniijfcjdlhfcaaDoor.findLike
