/- The abstract machine, part 17: code. Own work. -/
import Derived.Test.YtibdekobocpfdaaDoorAm28
import Derived.ScopeJumps
set_option linter.all false
namespace Go.AM

/-- How a code is left. -/
def Outs (w : World) (M : AMap) (I : Nat → Prop) (n : Nat) : AE → Exit → Prop
  | .normal, E => E = .normal
  | .exit id, E => E = .exit id
  | .ret, E => E = .ret
  | .goto l, E => E = .goto l
  | .pan x, E => ∃ xv, E = .panic [{ v := xv, recovered := false }] ∧ Rel w M I n x xv

/-- Abstract code against the program's. -/
def chkC (P : Program) (N : Nat) : Code → AC → Bool
  | .skip, .skip => true
  | .region _ ops draw, .reg _ draw' is => draw == draw' && chkAIs P N ops ops.toList is && (!draw || chkOrd [] [] ops.toList is)
  | .seq a b, .seq a' b' => chkC P N a a' && chkC P N b b'
  | .cond c a b, .cond c' a' b' => chkO c c' && chkC P N a a' && chkC P N b b'
  | .block id c, .block id' _ c' => id == id' && chkC P N c c'
  | .loop c, .loop _ c' => chkC P N c c'
  | .exit id, .exit id' => id == id'
  | .ret, .ret => true
  | _, .stuck => true
  | .region _ ops draw, .regt _ draw' is t => draw == draw' && chkAIs P N ops ops.toList is && chkRT ops is draw t
  | .label _, .label => true
  | .goto l, .goto l' => l == l'
  | .scope c, .scope _ l c' r' => chkC P N c c' && (match findLabel c l with
    | some rest => chkC P N rest r'
    | none => false)
  | _, _ => false

theorem get_learn {GT : Nat → Option AV} {fr : Fr} {c : Opd} {b : Bool} (h : ev GT fr c = .bool b) (t : Nat) : get (learn fr c b) t = get fr t := by
  cases c with
  | tmp d =>
    simp only [learn, get]
    split
    · rename_i e; subst e; exact h.symm
    · rfl
  | _ => rfl

/-- The least of the numbers that there are. -/
theorem least {p : Nat → Prop} (h : ∃ n, p n) : ∃ n, p n ∧ ∀ m, p m → n ≤ m := by
  obtain ⟨n, hn⟩ := h
  induction n using Nat.strongRecOn with
  | _ n ih =>
    by_cases h : ∃ m, m < n ∧ p m
    · obtain ⟨m, h1, h2⟩ := h; exact ih m h1 h2
    · exact ⟨n, hn, fun m hm => by
        rcases Nat.lt_or_ge m n with h1 | h1
        · exact absurd ⟨m, h1, hm⟩ h
        · exact h1⟩

/-- A loop, by the number of rounds that are left. -/
theorem wp_loop_rounds {P : Program} {c : Code} {Q : Exit → Act → World → Prop} {a : Act} {w : World} (J : Nat → Act → World → Prop) (h0 : ∃ m, J m a w)
    (round : ∀ m a w, J m a w → ∃ k, m = k + 1 ∧ c.wp P (Exit.then (fun a' w' => J k a' w') Q) a w) : (Code.loop c).wp P Q a w := by
  classical
  refine wp_loop (fun a w => ∃ m, J m a w) (fun a w => if h : ∃ m, J m a w then Classical.choose (least h) else 0) h0 fun a w hI => ?_
  have hμ : ∀ a w, (h : ∃ m, J m a w) → (if h : ∃ m, J m a w then Classical.choose (least h) else 0) = Classical.choose (least h) := fun a w h => dif_pos h
  obtain ⟨h1, _⟩ := Classical.choose_spec (least hI)
  obtain ⟨k, hk, hr⟩ := round _ a w h1
  refine wp_mono hr fun e a' w' hq => ?_
  cases e with
  | normal =>
    have hI' : ∃ m, J m a' w' := ⟨k, hq⟩
    refine ⟨hI', ?_⟩
    rw [hμ _ _ hI', hμ _ _ hI]
    have := (Classical.choose_spec (least hI')).2 k hq
    omega
  | _ => exact hq

/-- A scope with one label, by the number of jumps that are left. -/
theorem wp_scope_rounds {P : Program} {c rest : Code} {Q : Exit → Act → World → Prop} {a : Act} {w : World} (l : Nat) (J : Nat → Act → World → Prop) (hf : findLabel c l = some rest)
    (first : c.wp P (Exit.jump l (fun a' w' => ∃ m, J m a' w') Q) a w)
    (round : ∀ m a w, J m a w → ∃ k, m = k + 1 ∧ rest.wp P (Exit.jump l (fun a' w' => J k a' w') Q) a w) : (Code.scope c).wp P Q a w := by
  classical
  refine wp_scope_jumps l (fun a w => ∃ m, J m a w) (fun a w => if h : ∃ m, J m a w then Classical.choose (least h) else 0) hf first fun a w hI => ?_
  have hμ : ∀ a w, (h : ∃ m, J m a w) → (if h : ∃ m, J m a w then Classical.choose (least h) else 0) = Classical.choose (least h) := fun a w h => dif_pos h
  obtain ⟨h1, _⟩ := Classical.choose_spec (least hI)
  obtain ⟨k, hk, hr⟩ := round _ a w h1
  refine wp_mono hr fun e a' w' hq => ?_
  cases e with
  | goto l' =>
    obtain ⟨hl, hq⟩ := hq
    have hI' : ∃ m, J m a' w' := ⟨k, hq⟩
    refine ⟨hl, hI', ?_⟩
    rw [hμ _ _ hI', hμ _ _ hI]
    have := (Classical.choose_spec (least hI')).2 k hq
    omega
  | _ => exact hq

theorem ActOK.none {w : World} {M : AMap} {I : Nat → Prop} {n N : Nat} {g : GF} {a : Act} (hF : ActOK w M I n N g a) : ActOK w M I n N (get []) a :=
  ⟨fun t => .undef _, hF.size, hF.defers⟩

section
variable {P : Program} {GT : Nat → Option AV}

set_option maxHeartbeats 800000 in
theorem aw_sound {N : Nat} (hm : P.follows .mixedOrders = true) : ∀ (ac : AC) (c : Code) (K : Post) (Q : Exit → Act → World → Prop) (w : World) (M : AMap) (I : Nat → Prop) (H : Heap) (fr : Fr) (a : Act),
    chkC P N c ac = true → Sim GT w M I H → ActOK w M I H.length N (get fr) a → AW (Good P GT) GT ac K fr H →
    (∀ e E fr' H' a' w' M' I', Grow w M I H w' M' I' H' → Sim GT w' M' I' H' → ActOK w' M' I' H'.length N (get fr') a' → Outs w' M' I' H'.length e E → K e fr' H' → Q E a' w') → c.wp P Q a w := by
  intro ac
  induction ac with
  | stuck => intro c K Q w M I H fr a hc hS hF hA hQ; exact hA.elim
  | skip =>
    intro c K Q w M I H fr a hc hS hF hA hQ
    cases c <;> simp [chkC] at hc
    exact wp_skip (hQ .normal .normal fr H a w M I (Grow.refl ..) hS hF rfl hA)
  | label =>
    intro c K Q w M I H fr a hc hS hF hA hQ
    cases c <;> simp [chkC] at hc
    exact wp_label (hQ .normal .normal fr H a w M I (Grow.refl ..) hS hF rfl hA)
  | ret =>
    intro c K Q w M I H fr a hc hS hF hA hQ
    cases c <;> simp [chkC] at hc
    exact wp_ret (hQ .ret .ret fr H a w M I (Grow.refl ..) hS hF rfl hA)
  | exit id =>
    intro c K Q w M I H fr a hc hS hF hA hQ
    cases c <;> simp [chkC] at hc
    subst hc
    exact wp_exit (hQ (.exit _) (.exit _) fr H a w M I (Grow.refl ..) hS hF rfl hA)
  | goto l =>
    intro c K Q w M I H fr a hc hS hF hA hQ
    cases c <;> simp [chkC] at hc
    subst hc
    exact wp_goto (hQ (.goto _) (.goto _) fr H a w M I (Grow.refl ..) hS hF rfl hA)
  | reg L draw is =>
    intro c K Q w M I H fr a hc hS hF hA hQ
    cases c <;> simp only [chkC, Bool.false_eq_true, Bool.and_eq_true, beq_iff_eq, Bool.or_eq_true, Bool.not_eq_true'] at hc
    obtain ⟨⟨rfl, h1⟩, h2⟩ := hc
    rename_i id ops draw
    cases draw with
    | false => exact wp_region_list (ops_sound is ops.toList w M I H _ a hS (hF.restrict L) h1 hA fun fr' H' a' w' M' I' hG hS' hF' hK => hQ .normal .normal fr' H' a' w' M' I' hG hS' hF' rfl hK)
    | true =>
      exact draw_sound hm hS (hF.restrict L) h1 (h2.resolve_left (by simp)) hA fun fr' H' a' w' M' I' hG hS' hF' hK => hQ .normal .normal fr' H' a' w' M' I' hG hS' hF' rfl hK
  | regt L draw is t =>
    intro c K Q w M I H fr a hc hS hF hA hQ
    cases c <;> simp only [chkC, Bool.false_eq_true, Bool.and_eq_true, beq_iff_eq] at hc
    obtain ⟨⟨rfl, h1⟩, h2⟩ := hc
    exact regt_sound hm hS (hF.restrict L) h1 h2 hA (fun fr' H' a' w' M' I' hG hS' hF' hK => hQ .normal .normal fr' H' a' w' M' I' hG hS' hF' rfl hK)
      (fun x xv g' H' a' w' M' I' hG hS' hF' hr hK => hQ (.pan x) _ [] H' a' w' M' I' hG hS' hF'.none ⟨xv, rfl, hr⟩ hK)
  | seq x y ihx ihy =>
    intro c K Q w M I H fr a hc hS hF hA hQ
    cases c <;> simp only [chkC, Bool.false_eq_true, Bool.and_eq_true] at hc
    refine wp_seq (ihx _ _ _ w M I H fr a hc.1 hS hF hA fun e E fr' H' a' w' M' I' hG hS' hF' hE hK => ?_)
    cases e with
    | normal =>
      obtain rfl := hE
      exact ihy _ K Q w' M' I' H' fr' a' hc.2 hS' hF' hK fun e E fr2 H2 a2 w2 M2 I2 hG2 => hQ e E fr2 H2 a2 w2 M2 I2 (hG.trans hG2)
    | exit id => obtain rfl := hE; exact hQ (.exit id) _ fr' H' a' w' M' I' hG hS' hF' rfl hK
    | ret => obtain rfl := hE; exact hQ .ret _ fr' H' a' w' M' I' hG hS' hF' rfl hK
    | goto l => obtain rfl := hE; exact hQ (.goto l) _ fr' H' a' w' M' I' hG hS' hF' rfl hK
    | pan x => obtain ⟨xv, rfl, hr⟩ := hE; exact hQ (.pan x) _ fr' H' a' w' M' I' hG hS' hF' ⟨xv, rfl, hr⟩ hK
  | cond t x y ihx ihy =>
    intro c K Q w M I H fr a hc hS hF hA hQ
    cases c <;> simp only [chkC, Bool.false_eq_true, Bool.and_eq_true] at hc
    rename_i t' x' y'
    obtain ⟨⟨h1, h2⟩, h3⟩ := hc
    unfold AW at hA
    split at hA
    · rename_i b hb
      have hF' : ActOK w M I H.length N (get (learn fr t b)) a := ⟨fun s => by rw [get_learn hb s]; exact hF.rel s, hF.size, hF.defers⟩
      have hr := hF.ev hS _ _ h1
      rw [← ev_eq, hb] at hr
      have hv : a.eval t' = .bool b := by
        generalize a.eval t' = u at hr
        cases hr; rfl
      refine wp_cond hv ?_
      cases b with
      | true => simp only [if_true] at hA ⊢; exact ihx _ K Q w M I H _ a h2 hS hF' hA hQ
      | false => simp only [Bool.false_eq_true, if_false] at hA ⊢; exact ihy _ K Q w M I H _ a h3 hS hF' hA hQ
    · exact hA.elim
  | block id L x ih =>
    intro c K Q w M I H fr a hc hS hF hA hQ
    cases c <;> simp only [chkC, Bool.false_eq_true, Bool.and_eq_true, beq_iff_eq] at hc
    obtain ⟨rfl, hc⟩ := hc
    rename_i id x'
    refine wp_block (ih _ _ _ w M I H fr a hc hS hF hA fun e E fr' H' a' w' M' I' hG hS' hF' hE hK => ?_)
    cases e with
    | normal => obtain rfl := hE; exact hQ .normal _ _ H' a' w' M' I' hG hS' (hF'.restrict L) rfl hK
    | exit j =>
      obtain rfl := hE
      simp only [blockK] at hK
      simp only [Exit.inBlock]
      by_cases hj : j = id
      · rw [if_pos hj] at hK ⊢
        exact hQ .normal _ _ H' a' w' M' I' hG hS' (hF'.restrict L) rfl hK
      · rw [if_neg hj] at hK ⊢
        exact hQ (.exit j) _ fr' H' a' w' M' I' hG hS' hF' rfl hK
    | ret => obtain rfl := hE; exact hQ .ret _ fr' H' a' w' M' I' hG hS' hF' rfl hK
    | goto l => obtain rfl := hE; exact hQ (.goto l) _ fr' H' a' w' M' I' hG hS' hF' rfl hK
    | pan x => obtain ⟨xv, rfl, hr⟩ := hE; exact hQ (.pan x) _ fr' H' a' w' M' I' hG hS' hF' ⟨xv, rfl, hr⟩ hK
  | loop L x ih =>
    intro c K Q w M I H fr a hc hS hF hA hQ
    cases c <;> simp only [chkC, Bool.false_eq_true] at hc
    rename_i x'
    obtain ⟨m, hA⟩ := hA
    refine wp_loop_rounds (fun m a' w' => ∃ M' I' H' fr', Grow w M I H w' M' I' H' ∧ Sim GT w' M' I' H' ∧ ActOK w' M' I' H'.length N (get fr') a' ∧ loopW (AW (Good P GT) GT x) L K m fr' H')
      ⟨m, M, I, H, _, Grow.refl .., hS, hF.restrict L, hA⟩ ?_
    rintro m a1 w1 ⟨M1, I1, H1, fr1, hG1, hS1, hF1, hA1⟩
    cases m with
    | zero => exact hA1.elim
    | succ k =>
      refine ⟨k, rfl, ih _ _ _ w1 M1 I1 H1 fr1 a1 hc hS1 hF1 hA1 fun e E fr' H' a' w' M' I' hG hS' hF' hE hK => ?_⟩
      cases e with
      | normal => obtain rfl := hE; exact ⟨M', I', H', _, hG1.trans hG, hS', hF'.restrict L, hK⟩
      | exit j => obtain rfl := hE; exact hQ (.exit j) _ fr' H' a' w' M' I' (hG1.trans hG) hS' hF' rfl hK
      | ret => obtain rfl := hE; exact hQ .ret _ fr' H' a' w' M' I' (hG1.trans hG) hS' hF' rfl hK
      | goto l => obtain rfl := hE; exact hQ (.goto l) _ fr' H' a' w' M' I' (hG1.trans hG) hS' hF' rfl hK
      | pan x => obtain ⟨xv, rfl, hr⟩ := hE; exact hQ (.pan x) _ fr' H' a' w' M' I' (hG1.trans hG) hS' hF' ⟨xv, rfl, hr⟩ hK
  | scope L l x r ihx ihr =>
    intro c K Q w M I H fr a hc hS hF hA hQ
    cases c <;> simp only [chkC, Bool.false_eq_true, Bool.and_eq_true] at hc
    rename_i x'
    obtain ⟨hc1, hc2⟩ := hc
    split at hc2
    case h_2 => cases hc2
    rename_i rest hfl
    have go : ∀ (G : Fr → Heap → Prop) (J : Act → World → Prop) (w1 : World) (M1 : AMap) (I1 : Nat → Prop) (H1 : Heap), Grow w M I H w1 M1 I1 H1 →
        (∀ fr' H' a' w' M' I', Grow w1 M1 I1 H1 w' M' I' H' → Sim GT w' M' I' H' → ActOK w' M' I' H'.length N (get fr') a' → G fr' H' → J a' w') →
        ∀ e E fr' H' a' w' M' I', Grow w1 M1 I1 H1 w' M' I' H' → Sim GT w' M' I' H' → ActOK w' M' I' H'.length N (get fr') a' → Outs w' M' I' H'.length e E → jumpK l G K e fr' H' → Exit.jump l J Q E a' w' := by
      intro G J w1 M1 I1 H1 hG1 hJ e E fr' H' a' w' M' I' hG hS' hF' hE hK
      cases e with
      | normal => obtain rfl := hE; exact hQ .normal _ fr' H' a' w' M' I' (hG1.trans hG) hS' hF' rfl hK
      | exit j => obtain rfl := hE; exact hQ (.exit j) _ fr' H' a' w' M' I' (hG1.trans hG) hS' hF' rfl hK
      | ret => obtain rfl := hE; exact hQ .ret _ fr' H' a' w' M' I' (hG1.trans hG) hS' hF' rfl hK
      | goto l' => obtain rfl := hE; exact ⟨hK.1, hJ fr' H' a' w' M' I' hG hS' hF' hK.2⟩
      | pan x => obtain ⟨xv, rfl, hr⟩ := hE; exact hQ (.pan x) _ fr' H' a' w' M' I' (hG1.trans hG) hS' hF' ⟨xv, rfl, hr⟩ hK
    refine wp_scope_rounds l (fun m a' w' => ∃ M' I' H' fr', Grow w M I H w' M' I' H' ∧ Sim GT w' M' I' H' ∧ ActOK w' M' I' H'.length N (get fr') a' ∧ gotoW (AW (Good P GT) GT r) L l K m fr' H') hfl ?_ ?_
    · refine ihx _ _ _ w M I H fr a hc1 hS hF hA (go _ _ w M I H (Grow.refl ..) ?_)
      rintro fr' H' a' w' M' I' hG hS' hF' ⟨m, hm'⟩
      exact ⟨m, M', I', H', _, hG, hS', hF'.restrict L, hm'⟩
    · rintro m a1 w1 ⟨M1, I1, H1, fr1, hG1, hS1, hF1, hA1⟩
      cases m with
      | zero => exact hA1.elim
      | succ k =>
        refine ⟨k, rfl, ihr _ _ _ w1 M1 I1 H1 fr1 a1 hc2 hS1 hF1 hA1 (go _ _ w1 M1 I1 H1 hG1 ?_)⟩
        intro fr' H' a' w' M' I' hG hS' hF' hg
        exact ⟨M', I', H', _, hG1.trans hG, hS', hF'.restrict L, hg⟩

end
end Go.AM
