/- The abstract machine, part 28 (it lies between 16 and 17): regions in the order of a tree; calls that may panic. Own work. -/
import Derived.Test.YtibdekobocpfdaaDoorAm16
set_option linter.all false
namespace Go.AM

section
variable {C : CSpec} {GT : Nat → Option AV} {ops : Array Oper} {ais : List AI}

/-- What each order comes to, where a call may panic. -/
def AAnyP (C : CSpec) (GT : Nat → Option AV) (ops : Array Oper) (ais : List AI) (K : GF → Heap → Prop) (KP : AV → Heap → Prop) : Nat → Array Bool → GF → Heap → Prop
  | 0, listed, g, H => Region.ready .any ops listed = [] ∧ K g H
  | f + 1, listed, g, H => (Region.ready .any ops listed = [] → K g H) ∧
    ∀ i ∈ Region.ready .any ops listed, ∃ ai, ais[i]? = some ai ∧
      ((∃ v H', AYields C GT ai.plain g H v H' ∧ AAnyP C GT ops ais K KP f (listed.setIfInBounds i true) (putg g ai.dst v) H') ∨ (∃ x H', AYieldsP C GT ai g H x H' ∧ KP x H'))

theorem yieldsP_local {i : AI} {g g' : GF} (hg : ∀ t ∈ i.looks, g' t = g t) {H : Heap} {x : AV} {H' : Heap} (h : AYieldsP C GT i g H x H') : AYieldsP C GT i g' H x H' := by
  have hxs : i.xs.map (evg GT g') = i.xs.map (evg GT g) := List.map_congr_left fun x hx => by
    cases x with
    | tmp t => exact hg t (List.mem_append_left _ (List.mem_filterMap.2 ⟨.tmp t, hx, rfl⟩))
    | _ => rfl
  unfold AYieldsP at *
  cases hgd : i.g with
  | none => rw [hgd] at h; rw [hxs]; exact h
  | some sw =>
    obtain ⟨s, want⟩ := sw
    rw [hgd] at h
    exact ⟨by rw [hg s (by simp [AI.looks, hgd])]; exact h.1, by rw [hxs]; exact h.2⟩

def AK.isP : AK → Bool
  | .callp _ => true
  | .callvp => true
  | .panic => true
  | _ => false

theorem stepP_isP {k : AK} {vs : List AV} {H : Heap} {x : AV} {H' : Heap} (h : StepP C k vs H x H') : k.isP = true := by
  cases k <;> first | rfl | exact h.elim

theorem yieldsP_isP {i : AI} {g : GF} {H : Heap} {x : AV} {H' : Heap} (h : AYieldsP C GT i g H x H') : i.k.isP = true := by
  unfold AYieldsP at h
  split at h
  · exact stepP_isP h
  · exact stepP_isP h.2

theorem isP_cls {k : AK} (h : k.isP = true) : k.plainK.cls = 2 := by
  cases k <;> first | rfl | cases h

theorem isP_grows {k : AK} (h : k.isP = true) : k.plainK.grows = false := by
  cases k <;> first | rfl | cases h

theorem aanyP_first {K : GF → Heap → Prop} {KP : AV → Heap → Prop} {i : Nat} {ai : AI} (hi : ais[i]? = some ai) : ∀ (f : Nat) (listed : Array Bool) (g : GF) (H : Heap) (v : AV) (H1 : Heap), Closed ops listed →
    (∀ j aj, ais[j]? = some aj → j ≠ i → listed.getD j true = false → ai.plain.apart aj.plain = true ∨ Dep ops i j) → i ∈ Region.ready .any ops listed → AYields C GT ai.plain g H v H1 →
    AAnyP C GT ops ais K KP f (listed.setIfInBounds i true) (putg g ai.dst v) H1 → AAnyP C GT ops ais K KP (f + 1) listed g H := by
  intro f
  induction f with
  | zero =>
    intro listed g H v H1 hc hfree hr hy hA
    refine ⟨fun h => (by rw [h] at hr; cases hr), fun j hj => ?_⟩
    by_cases hji : j = i
    · subst hji; exact ⟨ai, hi, .inl ⟨v, H1, hy, hA⟩⟩
    · have := ready_mono hj hji
      rw [hA.1] at this
      cases this
  | succ f ih =>
    intro listed g H v H1 hc hfree hr hy hA
    refine ⟨fun h => (by rw [h] at hr; cases hr), fun j hj => ?_⟩
    by_cases hji : j = i
    · subst hji; exact ⟨ai, hi, .inl ⟨v, H1, hy, hA⟩⟩
    · obtain ⟨aj, haj, hout⟩ := hA.2 j (ready_mono hj hji)
      have hjun := (mem_ready.1 hj).1
      have hap : ai.plain.apart aj.plain = true := by
        rcases hfree j aj haj hji hjun with h | h
        · exact h
        · exact (not_both (mem_ready.1 hr).1 (h.ready hc hj)).elim
      refine ⟨aj, haj, ?_⟩
      rcases hout with ⟨u, H2, hyj, hA2⟩ | ⟨x, H2, hyj, hKP⟩
      · obtain ⟨H3, h1, h2, h3⟩ := yields_comm hap hy hyj
        refine .inl ⟨u, H3, h1, ih _ _ _ v H2 (hc.set hj) (fun k ak hk hki hun => hfree k ak hk hki ?_) (ready_mono hr (Ne.symm hji)) h2 ?_⟩
        · by_cases hjk : j = k
          · subst hjk; exact hjun
          · rw [getD_set_ne true hjk] at hun; exact hun
        · have h3' : putg (putg g ai.dst v) aj.dst u = putg (putg g aj.dst u) ai.dst v := h3
          show AAnyP C GT ops ais K KP f _ (putg (putg g aj.dst u) ai.dst v) H2
          rw [← h3', Array.setIfInBounds_comm _ _ hji]
          exact hA2
      · obtain ⟨h1, _, _, h4⟩ := AI.apart_spec hap
        have hcl := isP_cls (yieldsP_isP hyj)
        have h0 : ai.plain.k.cls = 0 := by
          rcases h4 with h | h | h | h
          · exact h
          · have : aj.k.plainK.cls = 0 := h
            rw [hcl] at this; cases this
          · have : aj.k.plainK.cls = 1 := h.2
            rw [hcl] at this; cases this
          · have : aj.k.plainK.grows = true := h.2
            rw [isP_grows (yieldsP_isP hyj)] at this; cases this
        obtain ⟨rfl, _⟩ := yields_pure h0 hy
        exact .inr ⟨x, H2, yieldsP_local (i := aj) (g := putg g ai.dst v) (fun t ht => (putg_other (g := g) (d := ai.dst) (v := v) (L := aj.looks) h1 t ht).symm) hyj, hKP⟩

/-! ### The check -/

def depthT : OT → Nat
  | .done => 0
  | .step _ t => depthT t + 1
  | .alt a b => max (depthT a) (depthT b)

def masksOf : List Oper → List Nat → List Nat
  | [], acc => acc
  | o :: os, acc => masksOf os (acc ++ [maskOf acc (edgesOf o)])

theorem masksOf_spec : ∀ (os : List Oper) (acc : List Nat), (∀ j, os[j]? = ops[acc.length + j]?) → (∀ (e m : Nat), acc[e]? = some m → ∀ i, m.testBit i = true → Dep ops i e) →
    ∀ (e m : Nat), (masksOf os acc)[e]? = some m → ∀ i, m.testBit i = true → Dep ops i e
  | [], acc, _, h, e, m, he, i, hi => h e m he i hi
  | o :: os, acc, hos, h, e, m, he, i, hi => by
    have ho : ops[acc.length]? = some o := by simpa using (hos 0).symm
    have hm := maskOf_spec ho h (edgesOf o) (fun _ h => h)
    refine masksOf_spec os (acc ++ [maskOf acc (edgesOf o)]) (fun j => by have := hos (j + 1); simpa [Nat.add_assoc, Nat.add_comm 1 j] using this) (fun e m hem i hi => ?_) e m he i hi
    by_cases hl : e < acc.length
    · rw [List.getElem?_append_left hl] at hem; exact h e m hem i hi
    · rw [List.getElem?_append_right (by omega)] at hem
      have hlt := (List.getElem?_eq_some_iff.1 hem).1
      simp at hlt
      obtain rfl : e = acc.length := by omega
      simp at hem
      subst hem
      exact hm i hi

def freeT (masks : List Nat) (listed : Array Bool) (j : Nat) (ai : AI) : Nat → List AI → Bool
  | _, [] => true
  | k, y :: ys => (k == j || listed.getD k true || ai.plain.apart y.plain || (masks.getD k 0).testBit j) && freeT masks listed j ai (k + 1) ys

theorem freeT_spec {masks : List Nat} {listed : Array Bool} {j : Nat} {ai : AI} : ∀ (ys : List AI) (k : Nat), freeT masks listed j ai k ys = true → ∀ n y, ys[n]? = some y → k + n ≠ j → listed.getD (k + n) true = false → ai.plain.apart y.plain = true ∨ (masks.getD (k + n) 0).testBit j = true
  | [], _, _, n, y, hy, _, _ => by simp at hy
  | z :: ys, k, h, n, y, hy, hne, hl => by
    simp only [freeT, Bool.and_eq_true, Bool.or_eq_true, beq_iff_eq, or_assoc] at h
    cases n with
    | zero =>
      simp at hy; subst hy
      rcases h.1 with h | h | h | h
      · exact absurd h hne
      · rw [show k + 0 = k from rfl, h] at hl; cases hl
      · exact .inl h
      · exact .inr h
    | succ n =>
      have := freeT_spec ys (k + 1) h.2 n y (by simpa using hy) (by omega) (by rw [show k + 1 + n = k + (n + 1) by omega]; exact hl)
      rwa [show k + 1 + n = k + (n + 1) by omega] at this

def hasB (i : Nat) : OT → Bool
  | .done => false
  | .step j _ => j == i
  | .alt a b => hasB i a || hasB i b

/-- A tree against a region's edges. 'br': it is one of several ways. -/
def chkT (ops : Array Oper) (ais : List AI) (masks : List Nat) : Bool → OT → Array Bool → Bool
  | br, .done, listed => !br && (Region.ready .any ops listed).isEmpty
  | br, .step j t, listed => (Region.ready .any ops listed).contains j &&
      (br || (Region.ready .any ops listed).all (· == j) || (match ais[j]? with
        | some ai => !ai.k.isP && freeT masks listed j ai 0 ais
        | none => false)) && chkT ops ais masks false t (listed.setIfInBounds j true)
  | br, .alt a b, listed => (br || (Region.ready .any ops listed).all fun i => hasB i (.alt a b)) && chkT ops ais masks true a listed && chkT ops ais masks true b listed

def Branch (C : CSpec) (GT : Nat → Option AV) (ops : Array Oper) (ais : List AI) (K : GF → Heap → Prop) (KP : AV → Heap → Prop) (f : Nat) (listed : Array Bool) (g : GF) (H : Heap) (i : Nat) : Prop :=
  ∃ ai, ais[i]? = some ai ∧ ((∃ v H', AYields C GT ai.plain g H v H' ∧ AAnyP C GT ops ais K KP f (listed.setIfInBounds i true) (putg g ai.dst v) H') ∨ (∃ x H', AYieldsP C GT ai g H x H' ∧ KP x H'))

theorem chkT_br {masks : List Nat} : ∀ (t : OT) (listed : Array Bool), chkT ops ais masks true t listed = true → 0 < depthT t ∧ Region.ready .any ops listed ≠ []
  | .done, listed, h => by simp [chkT] at h
  | .step j t, listed, h => by
    simp only [chkT, Bool.and_eq_true] at h
    refine ⟨by simp [depthT], fun e => ?_⟩
    rw [e] at h; simp at h
  | .alt a b, listed, h => by
    simp only [chkT, Bool.and_eq_true] at h
    obtain ⟨h1, h2⟩ := chkT_br a listed h.1.2
    exact ⟨by simp only [depthT]; omega, h2⟩

theorem tree_sound {K : Fr → Heap → Prop} {KP : AV → Heap → Prop} {masks : List Nat} (hm : ∀ (e m : Nat), masks[e]? = some m → ∀ i, m.testBit i = true → Dep ops i e) : ∀ (t : OT),
    (∀ f listed fr H, chkT ops ais masks false t listed = true → depthT t ≤ f → Closed ops listed → AWT C GT ais t fr H K KP → AAnyP C GT ops ais (fun g H' => ∃ fr', get fr' = g ∧ K fr' H') KP f listed (get fr) H) ∧
    (∀ f listed fr H, chkT ops ais masks true t listed = true → depthT t ≤ f + 1 → Closed ops listed → AWT C GT ais t fr H K KP → ∀ i, hasB i t = true → Branch C GT ops ais (fun g H' => ∃ fr', get fr' = g ∧ K fr' H') KP f listed (get fr) H i) := by
  intro t
  induction t with
  | done =>
    refine ⟨fun f listed fr H hc hd hcl hA => ?_, fun f listed fr H hc => by simp [chkT] at hc⟩
    have he : Region.ready .any ops listed = [] := by simpa [chkT] using hc
    cases f with
    | zero => exact ⟨he, fr, rfl, hA⟩
    | succ f => exact ⟨fun _ => ⟨fr, rfl, hA⟩, fun i hi => (by rw [he] at hi; cases hi)⟩
  | step j t ih =>
    have br : ∀ f listed fr H, j ∈ Region.ready .any ops listed → chkT ops ais masks false t (listed.setIfInBounds j true) = true → depthT t ≤ f → Closed ops listed → AWT C GT ais (.step j t) fr H K KP →
        Branch C GT ops ais (fun g H' => ∃ fr', get fr' = g ∧ K fr' H') KP f listed (get fr) H j := by
      intro f listed fr H hj hc hd hcl hA
      obtain ⟨ai, hai, hout⟩ := AWT_step hA
      refine ⟨ai, hai, ?_⟩
      rcases hout with ⟨v, H', hy, hA'⟩ | ⟨x, H', hy, hk⟩
      · refine .inl ⟨v, H', hy, ?_⟩
        have := ih.1 f _ _ H' hc hd (hcl.set hj) hA'
        rw [get_put] at this
        exact this
      · exact .inr ⟨x, H', hy, hk⟩
    refine ⟨fun f listed fr H hc hd hcl hA => ?_, fun f listed fr H hc hd hcl hA i hi => ?_⟩
    · simp only [chkT, Bool.and_eq_true, Bool.false_or, Bool.or_eq_true, List.contains_iff_mem] at hc
      obtain ⟨⟨hj, hfr⟩, hc⟩ := hc
      cases f with
      | zero => simp [depthT] at hd
      | succ f =>
        have hd' : depthT t ≤ f := by simp only [depthT] at hd; omega
        rcases hfr with hall | hfree
        · refine ⟨fun e => (by rw [e] at hj; cases hj), fun i hi => ?_⟩
          have hij : i = j := by simpa using List.all_eq_true.1 hall i hi
          subst hij
          exact br f listed fr H hj hc hd' hcl hA
        · split at hfree
          · rename_i ai hai
            simp only [Bool.and_eq_true, Bool.not_eq_true'] at hfree
            obtain ⟨ai', hai', hout⟩ := AWT_step hA
            rw [hai] at hai'
            cases hai'
            rcases hout with ⟨v, H', hy, hA'⟩ | ⟨x, H', hy, _⟩
            · have hin := ih.1 f _ _ H' hc hd' (hcl.set hj) hA'
              rw [get_put] at hin
              refine aanyP_first hai f listed (get fr) H v H' hcl (fun k ak hk hkj hun => ?_) hj hy hin
              have := freeT_spec ais 0 hfree.2 k ak hk (by omega) (by simpa using hun)
              rcases this with h | h
              · exact .inl h
              · right
                rw [Nat.zero_add, List.getD_eq_getElem?_getD] at h
                cases hmk : masks[k]? with
                | none => rw [hmk] at h; simp at h
                | some m => rw [hmk] at h; exact hm k m hmk j h
            · have := yieldsP_isP hy
              rw [hfree.1] at this; cases this
          · cases hfree
    · simp only [chkT, Bool.and_eq_true, Bool.true_or, List.contains_iff_mem, and_true] at hc
      have hij : j = i := by simpa [hasB] using hi
      subst hij
      exact br f listed fr H hc.1 hc.2 (by simp only [depthT] at hd; omega) hcl hA
  | alt a b iha ihb =>
    have br : ∀ f listed fr H, chkT ops ais masks true a listed = true → chkT ops ais masks true b listed = true → depthT (.alt a b) ≤ f + 1 → Closed ops listed → AWT C GT ais (.alt a b) fr H K KP → ∀ i, hasB i (.alt a b) = true →
        Branch C GT ops ais (fun g H' => ∃ fr', get fr' = g ∧ K fr' H') KP f listed (get fr) H i := by
      intro f listed fr H ha hb hd hcl hA i hi
      simp only [depthT] at hd
      simp only [hasB, Bool.or_eq_true] at hi
      rcases hi with hi | hi
      · exact iha.2 f listed fr H ha (by omega) hcl hA.1 i hi
      · exact ihb.2 f listed fr H hb (by omega) hcl hA.2 i hi
    refine ⟨fun f listed fr H hc hd hcl hA => ?_, fun f listed fr H hc hd hcl hA i hi => ?_⟩
    · simp only [chkT, Bool.and_eq_true, Bool.false_or] at hc
      obtain ⟨⟨hall, ha⟩, hb⟩ := hc
      obtain ⟨h1, h2⟩ := chkT_br a listed ha
      cases f with
      | zero => simp only [depthT] at hd; omega
      | succ f => exact ⟨fun e => absurd e h2, fun i hi => br f listed fr H ha hb hd hcl hA i (List.all_eq_true.1 hall i hi)⟩
    · simp only [chkT, Bool.and_eq_true, Bool.true_or, true_and] at hc
      exact br f listed fr H hc.1 hc.2 hd hcl hA i hi

/-- The text's own order. -/
def chkS : OT → Nat → Nat → Bool
  | .done, k, n => k == n
  | .step j t, k, n => j == k && chkS t (k + 1) n
  | .alt _ _, _, _ => false

/-! ### Against the program -/

variable {P : Program}

theorem any_soundP {N : Nat} {Q : Exit → Act → World → Prop} {K : GF → Heap → Prop} {KP : AV → Heap → Prop} (hc : chkAIs P N ops ops.toList ais = true) : ∀ (f : Nat) (listed : Array Bool) (w : World) (M : AMap) (I : Nat → Prop) (H : Heap) (g : GF) (a : Act),
    Sim GT w M I H → ActOK w M I H.length N g a → AAnyP (Good P GT) GT ops ais K KP f listed g H →
    (∀ g' H' a' w' M' I', Grow w M I H w' M' I' H' → Sim GT w' M' I' H' → ActOK w' M' I' H'.length N g' a' → K g' H' → Q .normal a' w') →
    (∀ x xv g' H' a' w' M' I', Grow w M I H w' M' I' H' → Sim GT w' M' I' H' → ActOK w' M' I' H'.length N g' a' → Rel w' M' I' H'.length x xv → KP x H' → Q (.panic [{ v := xv, recovered := false }]) a' w') → wpAny P .any ops Q f listed a w := by
  intro f
  induction f with
  | zero => intro listed w M I H g a hS hF hA hQ hP; exact ⟨hA.1, hQ g H a w M I (Grow.refl ..) hS hF hA.2⟩
  | succ f ih =>
    intro listed w M I H g a hS hF hA hQ hP
    refine ⟨fun h => hQ g H a w M I (Grow.refl ..) hS hF (hA.1 h), fun i hi => ?_⟩
    obtain ⟨ai, hai, hout⟩ := hA.2 i hi
    obtain ⟨_, o, ho, _⟩ := mem_ready.1 hi
    unfold wpOp
    simp only [ho]
    have hck := chkAIs_spec _ _ hc i o ai (by simpa using ho) hai
    rcases hout with ⟨v, H', hy, hA'⟩ | ⟨x, H', hy, hk⟩
    · exact op_sound hS hF (chkAI_plain hck) hy fun a' w' M' I' hG hS' hF' =>
        ih _ w' M' I' H' _ a' hS' hF' hA' (fun g2 H2 a2 w2 M2 I2 hG2 => hQ g2 H2 a2 w2 M2 I2 (hG.trans hG2)) (fun x xv g2 H2 a2 w2 M2 I2 hG2 => hP x xv g2 H2 a2 w2 M2 I2 (hG.trans hG2))
    · exact op_soundP hS hF hck hy fun xv w' M' I' hG hS' hr => hP x xv g H' a w' M' I' hG hS' (hF.grow hG hS) hr hk

theorem seq_soundP {N : Nat} {Q : Exit → Act → World → Prop} {K : Fr → Heap → Prop} {KP : AV → Heap → Prop} (hc : chkAIs P N ops ops.toList ais = true) : ∀ (t : OT) (k : Nat) (os : List Oper) (w : World) (M : AMap) (I : Nat → Prop) (H : Heap) (fr : Fr) (a : Act),
    (∀ j, os[j]? = ops.toList[k + j]?) → chkS t k (k + os.length) = true → Sim GT w M I H → ActOK w M I H.length N (get fr) a → AWT (Good P GT) GT ais t fr H K KP →
    (∀ fr' H' a' w' M' I', Grow w M I H w' M' I' H' → Sim GT w' M' I' H' → ActOK w' M' I' H'.length N (get fr') a' → K fr' H' → Q .normal a' w') →
    (∀ x xv g' H' a' w' M' I', Grow w M I H w' M' I' H' → Sim GT w' M' I' H' → ActOK w' M' I' H'.length N g' a' → Rel w' M' I' H'.length x xv → KP x H' → Q (.panic [{ v := xv, recovered := false }]) a' w') → wpList P ops Q os a w := by
  intro t
  induction t with
  | done =>
    intro k os w M I H fr a hos hck hS hF hA hQ hP
    cases os with
    | nil => exact hQ fr H a w M I (Grow.refl ..) hS hF hA
    | cons => simp [chkS] at hck
  | alt => intro k os w M I H fr a hos hck; simp [chkS] at hck
  | step j t ih =>
    intro k os w M I H fr a hos hck hS hF hA hQ hP
    simp only [chkS, Bool.and_eq_true, beq_iff_eq] at hck
    obtain ⟨rfl, hck⟩ := hck
    obtain ⟨ai, hai, hout⟩ := AWT_step hA
    have hlen : ∀ (os : List Oper) (is : List AI), chkAIs P N ops os is = true → os.length = is.length := by
      intro os
      induction os with
      | nil => intro is h; cases is <;> simp [chkAIs] at h ⊢
      | cons o os ih => intro is h; cases is with
        | nil => simp [chkAIs] at h
        | cons i is => simp only [chkAIs, Bool.and_eq_true] at h; simp [ih is h.2]
    cases os with
    | nil =>
      have h1 := hlen _ _ hc
      have h2 := (List.getElem?_eq_some_iff.1 hai).1
      have h3 := hos 0
      simp only [List.getElem?_nil, Nat.add_zero] at h3
      have := List.getElem?_eq_none_iff.1 h3.symm
      omega
    | cons o os =>
      have ho : ops.toList[j]? = some o := by simpa using (hos 0).symm
      have hckA := chkAIs_spec _ _ hc j o ai ho hai
      have hos' : ∀ m, os[m]? = ops.toList[j + 1 + m]? := fun m => by have := hos (m + 1); simpa [Nat.add_assoc, Nat.add_comm 1 m] using this
      unfold wpList
      rcases hout with ⟨v, H', hy, hA'⟩ | ⟨x, H', hy, hk⟩
      · exact op_sound hS hF (chkAI_plain hckA) hy fun a' w' M' I' hG hS' hF' =>
          ih (j + 1) os w' M' I' H' (put fr ai.dst v) a' hos' (by rw [show j + 1 + os.length = j + (o :: os).length by simp; omega]; exact hck) hS' (by rw [get_put]; exact hF') hA'
            (fun g2 H2 a2 w2 M2 I2 hG2 => hQ g2 H2 a2 w2 M2 I2 (hG.trans hG2)) (fun x xv g2 H2 a2 w2 M2 I2 hG2 => hP x xv g2 H2 a2 w2 M2 I2 (hG.trans hG2))
      · exact op_soundP hS hF hckA hy fun xv w' M' I' hG hS' hr => hP x xv _ H' a w' M' I' hG hS' (hF.grow hG hS) hr hk

/-- The check of a region with a tree. -/
def chkRT (ops : Array Oper) (ais : List AI) (draw : Bool) (t : OT) : Bool :=
  match draw with
  | false => chkS t 0 ops.size
  | true => chkT ops ais (masksOf ops.toList []) false t (Array.replicate ops.size false) && decide (depthT t ≤ ops.size)

theorem regt_sound {N id : Nat} {draw : Bool} {t : OT} {Q : Exit → Act → World → Prop} {K : Fr → Heap → Prop} {KP : AV → Heap → Prop} {w : World} {M : AMap} {I : Nat → Prop} {H : Heap} {fr : Fr} {a : Act} (hm : P.follows .mixedOrders = true)
    (hS : Sim GT w M I H) (hF : ActOK w M I H.length N (get fr) a) (hc : chkAIs P N ops ops.toList ais = true) (ht : chkRT ops ais draw t = true) (hA : AWT (Good P GT) GT ais t fr H K KP)
    (hQ : ∀ fr' H' a' w' M' I', Grow w M I H w' M' I' H' → Sim GT w' M' I' H' → ActOK w' M' I' H'.length N (get fr') a' → K fr' H' → Q .normal a' w')
    (hP : ∀ x xv g' H' a' w' M' I', Grow w M I H w' M' I' H' → Sim GT w' M' I' H' → ActOK w' M' I' H'.length N g' a' → Rel w' M' I' H'.length x xv → KP x H' → Q (.panic [{ v := xv, recovered := false }]) a' w') : (Code.region id ops draw).wp P Q a w := by
  cases draw with
  | false =>
    refine wp_region_list (seq_soundP hc t 0 ops.toList w M I H fr a (by simp) (by simpa [chkRT] using ht) hS hF hA hQ hP)
  | true =>
    refine wp_region_any hm ?_
    simp only [chkRT, Bool.and_eq_true, decide_eq_true_eq] at ht
    have hcl : Closed ops (Array.replicate ops.size false) := fun j o ho hl e he hb => by
      rw [Array.getD_eq_getD_getElem?] at hl
      by_cases hj : j < ops.size
      · simp [hj] at hl
      · simp [hj] at hl
    have h1 := (tree_sound (C := Good P GT) (GT := GT) (ais := ais) (K := K) (KP := KP) (masksOf_spec (ops := ops) ops.toList [] (by simp) (by simp)) t).1 ops.size _ fr H ht.1 ht.2 hcl hA
    have hG0 : Grow w M I H { w with drawn := w.drawn + 1 } M I H := Grow.same rfl rfl rfl rfl
    refine any_soundP hc ops.size _ _ M I H (get fr) a (hS.same rfl) (hF.grow hG0 hS) h1 ?_ ?_
    · rintro g' H' a' w' M' I' hG hS' hF' ⟨fr', rfl, hK⟩
      exact hQ fr' H' a' w' M' I' (hG0.trans hG) hS' hF' hK
    · exact fun x xv g' H' a' w' M' I' hG hS' hF' hr hk => hP x xv g' H' a' w' M' I' (hG0.trans hG) hS' hF' hr hk

end
end Go.AM
