/- The abstract machine, part 16: a region whose order is drawn, against the program's. Own work. -/
import Derived.Test.YtibdekobocpfdaaDoorAm15
set_option linter.all false
namespace Go.AM

def AText (C : CSpec) (GT : Nat → Option AV) : List AI → GF → Heap → (GF → Heap → Prop) → Prop
  | [], g, H, K => K g H
  | i :: is, g, H, K => ∃ v H', AYields C GT i g H v H' ∧ AText C GT is (putg g i.dst v) H' K

theorem text_of_ops {C : CSpec} {GT : Nat → Option AV} {K : Fr → Heap → Prop} : ∀ (is : List AI) (fr : Fr) (H : Heap), AWops C GT is fr H K → AText C GT is (get fr) H fun g H' => ∃ fr', get fr' = g ∧ K fr' H'
  | [], fr, H, h => ⟨fr, rfl, h⟩
  | i :: is, fr, H, h => by
    obtain ⟨v, H', h1, h2⟩ := AWops_cons h
    have := text_of_ops is _ _ h2
    rw [get_put] at this
    exact ⟨v, H', h1, this⟩

section
variable {ops : Array Oper} {ais : List AI}

/-- What the order needs of the region's edges. -/
structure Ordered (ops : Array Oper) (ais : List AI) : Prop where
  len : ais.length = ops.size
  back : ∀ j o, ops[j]? = some o → ∀ e ∈ o.after, Region.binds .any e = true → e.on < j
  pair : ∀ i j ai aj, i < j → ais[i]? = some ai → ais[j]? = some aj → ai.apart aj = true ∨ Dep ops i j

def Upto (listed : Array Bool) (k n : Nat) : Prop := listed.size = n ∧ ∀ j, j < n → listed[j]? = some (decide (j < k))

theorem Upto.getD {listed : Array Bool} {k n : Nat} (h : Upto listed k n) (j : Nat) (d : Bool) : listed.getD j d = if j < n then decide (j < k) else d := by
  by_cases hj : j < n
  · have := h.2 j hj
    rw [if_pos hj, Array.getD_eq_getD_getElem?, this]; rfl
  · rw [if_neg hj, Array.getD_eq_getD_getElem?, Array.getElem?_eq_none (by rw [h.1]; omega)]; rfl

theorem Upto.set {listed : Array Bool} {k n : Nat} (h : Upto listed k n) (hk : k < n) : Upto (listed.setIfInBounds k true) (k + 1) n := by
  refine ⟨by simp [h.1], fun j hj => ?_⟩
  by_cases hkj : k = j
  · subst hkj
    rw [Array.getElem?_setIfInBounds_self_of_lt (by rw [h.1]; exact hk)]
    simp
  · rw [Array.getElem?_setIfInBounds_ne hkj, h.2 j hj]
    congr 1
    simp only [decide_eq_decide]
    omega

theorem Upto.closed {listed : Array Bool} {k : Nat} (h : Upto listed k ops.size) (hO : Ordered ops ais) : Closed ops listed := by
  intro j o ho hl e he hb
  have hlt := hO.back j o ho e he hb
  have hj : j < ops.size := (Array.getElem?_eq_some_iff.1 ho).1
  rw [h.getD, if_pos hj] at hl
  rw [h.getD, if_pos (by omega)]
  simp only [decide_eq_true_eq] at *
  omega

theorem aany_text {C : CSpec} {GT : Nat → Option AV} (hO : Ordered ops ais) {K : GF → Heap → Prop} : ∀ (l : List AI) (k : Nat) (listed : Array Bool) (g : GF) (H : Heap), (∀ j, l[j]? = ais[k + j]?) → k + l.length = ops.size →
    Upto listed k ops.size → AText C GT l g H K → AAny C GT ops ais K l.length listed g H
  | [], k, listed, g, H, hl, hn, hu, h => by
    refine ⟨?_, h⟩
    apply List.eq_nil_iff_forall_not_mem.2
    intro j hj
    have h0 := (mem_ready.1 hj).1
    rw [hu.getD] at h0
    simp at hn
    split at h0
    · simp at h0; omega
    · cases h0
  | i :: is, k, listed, g, H, hl, hn, hu, h => by
    obtain ⟨v, H1, hy, h⟩ := h
    have hk : k < ops.size := by simp at hn; omega
    have hi : ais[k]? = some i := by simpa using (hl 0).symm
    refine aany_first hi is.length listed g H v H1 (hu.closed hO) (fun j aj haj hne hun => ?_) ?_ hy ?_
    · rw [hu.getD] at hun
      have hjlt : j < ops.size := by rw [← hO.len]; exact (List.getElem?_eq_some_iff.1 haj).1
      rw [if_pos hjlt] at hun
      simp only [decide_eq_false_iff_not] at hun
      exact hO.pair k j i aj (by omega) hi haj
    · rw [mem_ready]
      refine ⟨by rw [hu.getD, if_pos hk]; simp, ops[k], by simp [hk], fun e he hb => ?_⟩
      have := hO.back k ops[k] (by simp [hk]) e he hb
      rw [hu.getD, if_pos (by omega)]
      simpa using this
    · exact aany_text hO is (k + 1) _ _ _ (fun j => by have := hl (j + 1); simpa [Nat.add_assoc, Nat.add_comm 1 j] using this) (by simp at hn; omega) (hu.set hk) h

/-! ### The check -/

def maskOf (acc : List Nat) : List Nat → Nat
  | [] => 0
  | e :: es => (2 ^ e ||| acc.getD e 0) ||| maskOf acc es
def pairsOK (m : Nat) : Nat → List AI → AI → Bool
  | _, [], _ => true
  | i, x :: xs, y => (m.testBit i || x.apart y) && pairsOK m (i + 1) xs y
def edgesOf (o : Oper) : List Nat := (o.after.toList.filter (Region.binds .any)).map (·.on)
def chkOrd : List AI → List Nat → List Oper → List AI → Bool
  | _, _, [], [] => true
  | done, acc, o :: os, y :: ys => (edgesOf o).all (fun e => decide (e < acc.length)) && pairsOK (maskOf acc (edgesOf o)) 0 done y && chkOrd (done ++ [y]) (acc ++ [maskOf acc (edgesOf o)]) os ys
  | _, _, _, _ => false

theorem edgesOf_spec {o : Oper} {e : Nat} : e ∈ edgesOf o ↔ ∃ d ∈ o.after, Region.binds .any d = true ∧ d.on = e := by
  simp only [edgesOf, List.mem_map, List.mem_filter, Array.mem_toList_iff]
  constructor
  · rintro ⟨d, ⟨h1, h2⟩, h3⟩; exact ⟨d, h1, h2, h3⟩
  · rintro ⟨d, h1, h2, h3⟩; exact ⟨d, ⟨h1, h2⟩, h3⟩

theorem maskOf_spec {acc : List Nat} {j : Nat} {o : Oper} (ho : ops[j]? = some o) (hacc : ∀ (e m : Nat), acc[e]? = some m → ∀ i, m.testBit i = true → Dep ops i e) : ∀ (es : List Nat), (∀ e ∈ es, e ∈ edgesOf o) →
    ∀ i, (maskOf acc es).testBit i = true → Dep ops i j
  | [], _, i, h => by simp [maskOf] at h
  | e :: es, hes, i, h => by
    simp only [maskOf, Nat.testBit_or, Bool.or_eq_true, Nat.testBit_two_pow, decide_eq_true_eq] at h
    obtain ⟨d, h1, h2, h3⟩ := edgesOf_spec.1 (hes e (by simp))
    rcases h with (h | h) | h
    · subst h; subst h3; exact .base ho h1 h2
    · rw [List.getD_eq_getElem?_getD] at h
      cases ha : acc[e]? with
      | none => rw [ha] at h; simp at h
      | some m =>
        rw [ha] at h
        subst h3
        exact .tail (hacc _ m ha i h) ho h1 h2
    · exact maskOf_spec ho hacc es (fun e he => hes e (List.mem_cons_of_mem _ he)) i h

theorem pairsOK_spec {m : Nat} {y : AI} : ∀ (xs : List AI) (i : Nat), pairsOK m i xs y = true → ∀ j x, xs[j]? = some x → m.testBit (i + j) = true ∨ x.apart y = true
  | [], _, _, j, x, hx => by simp at hx
  | z :: xs, i, h, j, x, hx => by
    simp only [pairsOK, Bool.and_eq_true, Bool.or_eq_true] at h
    cases j with
    | zero => simp at hx; subst hx; exact h.1
    | succ j =>
      have := pairsOK_spec xs (i + 1) h.2 j x (by simpa using hx)
      rwa [show i + (j + 1) = i + 1 + j by omega]

theorem chkOrd_spec : ∀ (os : List Oper) (ys : List AI) (done : List AI) (acc : List Nat), chkOrd done acc os ys = true → done.length = acc.length → (∀ j, os[j]? = ops[acc.length + j]?) → acc.length + os.length = ops.size →
    (∀ j, ys[j]? = ais[acc.length + j]?) → (∀ j, j < done.length → done[j]? = ais[j]?) → (∀ (e m : Nat), acc[e]? = some m → ∀ i, m.testBit i = true → Dep ops i e) →
    ys.length = os.length ∧ ∀ j, acc.length ≤ j → (∀ o, ops[j]? = some o → ∀ e ∈ o.after, Region.binds .any e = true → e.on < j) ∧
      ∀ i ai aj, i < j → ais[i]? = some ai → ais[j]? = some aj → ai.apart aj = true ∨ Dep ops i j
  | [], [], done, acc, _, hd, hos, hn, hys, hdone, hacc => by
    refine ⟨rfl, fun j hj => ⟨fun o ho => ?_, fun i ai aj hij hi haj => ?_⟩⟩
    · have := hos (j - acc.length)
      rw [show acc.length + (j - acc.length) = j by omega, ho] at this
      simp at this
    · have := hys (j - acc.length)
      rw [show acc.length + (j - acc.length) = j by omega, haj] at this
      simp at this
  | [], _ :: _, _, _, h, _, _, _, _, _, _ => by simp [chkOrd] at h
  | _ :: _, [], _, _, h, _, _, _, _, _, _ => by simp [chkOrd] at h
  | o :: os, y :: ys, done, acc, h, hd, hos, hn, hys, hdone, hacc => by
    simp only [chkOrd, Bool.and_eq_true, List.all_eq_true, decide_eq_true_eq] at h
    obtain ⟨⟨h1, h2⟩, h3⟩ := h
    have ho : ops[acc.length]? = some o := by simpa using (hos 0).symm
    have hy : ais[acc.length]? = some y := by simpa using (hys 0).symm
    have hm := maskOf_spec ho hacc (edgesOf o) (fun _ h => h)
    have IH := chkOrd_spec os ys (done ++ [y]) (acc ++ [maskOf acc (edgesOf o)]) h3 (by simp [hd])
      (fun j => by have := hos (j + 1); simpa [Nat.add_assoc, Nat.add_comm 1 j] using this) (by simp at hn ⊢; omega)
      (fun j => by have := hys (j + 1); simpa [Nat.add_assoc, Nat.add_comm 1 j] using this)
      (fun j hj => by
        simp at hj
        by_cases hjd : j < done.length
        · rw [List.getElem?_append_left hjd]; exact hdone j hjd
        · have : j = acc.length := by omega
          subst this
          rw [List.getElem?_append_right (by omega), hy, hd]; simp)
      (fun e m hem i hi => by
        by_cases he : e < acc.length
        · rw [List.getElem?_append_left he] at hem; exact hacc e m hem i hi
        · rw [List.getElem?_append_right (by omega)] at hem
          have hlt := (List.getElem?_eq_some_iff.1 hem).1
          simp at hlt
          have : e = acc.length := by omega
          subst this
          simp at hem
          subst hem
          exact hm i hi)
    refine ⟨by simp [IH.1], fun j hj => ?_⟩
    by_cases hje : j = acc.length
    · subst hje
      refine ⟨fun o' ho' e he hb => ?_, fun i ai aj hij hi haj => ?_⟩
      · rw [ho] at ho'; cases ho'
        exact h1 _ (edgesOf_spec.2 ⟨e, he, hb, rfl⟩)
      · rw [hy] at haj; cases haj
        rcases pairsOK_spec done 0 h2 i ai (by rw [hdone i (by omega)]; exact hi) with h | h
        · exact .inr (hm i (by simpa using h))
        · exact .inl h
    · exact IH.2 j (by simp; omega)

theorem ordered_of (h : chkOrd [] [] ops.toList ais = true) : Ordered ops ais := by
  obtain ⟨h1, h2⟩ := chkOrd_spec (ops := ops) (ais := ais) ops.toList ais [] [] h rfl (by simp) (by simp) (by simp) (by simp) (by simp)
  exact ⟨by simpa using h1, fun j o ho e he hb => (h2 j (by simp)).1 o ho e he hb, fun i j ai aj hij hi hj => (h2 j (by simp)).2 i ai aj hij hi hj⟩

/-! ### Against the program -/

variable {P : Program} {GT : Nat → Option AV}

theorem chkAIs_spec {N : Nat} : ∀ (os : List Oper) (is : List AI), chkAIs P N ops os is = true → ∀ (j : Nat) o i, os[j]? = some o → is[j]? = some i → chkAI P N ops o i = true
  | [], [], _, j, o, i, ho, _ => by simp at ho
  | [], _ :: _, h, _, _, _, _, _ => by simp [chkAIs] at h
  | _ :: _, [], h, _, _, _, _, _ => by simp [chkAIs] at h
  | x :: os, y :: is, h, j, o, i, ho, hi => by
    simp only [chkAIs, Bool.and_eq_true] at h
    cases j with
    | zero => simp at ho hi; subst ho hi; exact h.1
    | succ j => exact chkAIs_spec os is h.2 j o i (by simpa using ho) (by simpa using hi)

theorem any_sound {N : Nat} {Q : Exit → Act → World → Prop} {K : GF → Heap → Prop} (hc : chkAIs P N ops ops.toList ais = true) : ∀ (f : Nat) (listed : Array Bool) (w : World) (M : AMap) (I : Nat → Prop) (H : Heap) (g : GF) (a : Act),
    Sim GT w M I H → ActOK w M I H.length N g a → AAny (Good P GT) GT ops ais K f listed g H →
    (∀ g' H' a' w' M' I', Grow w M I H w' M' I' H' → Sim GT w' M' I' H' → ActOK w' M' I' H'.length N g' a' → K g' H' → Q .normal a' w') → wpAny P .any ops Q f listed a w := by
  intro f
  induction f with
  | zero => intro listed w M I H g a hS hF hA hQ; exact ⟨hA.1, hQ g H a w M I (Grow.refl ..) hS hF hA.2⟩
  | succ f ih =>
    intro listed w M I H g a hS hF hA hQ
    refine ⟨fun h => absurd h hA.1, fun i hi => ?_⟩
    obtain ⟨ai, v, H', hai, hy, hA'⟩ := hA.2 i hi
    obtain ⟨_, o, ho, _⟩ := mem_ready.1 hi
    unfold wpOp
    simp only [ho]
    exact op_sound hS hF (chkAIs_spec _ _ hc i o ai (by simpa using ho) hai) hy fun a' w' M' I' hG hS' hF' =>
      ih _ w' M' I' H' _ a' hS' hF' hA' fun g2 H2 a2 w2 M2 I2 hG2 => hQ g2 H2 a2 w2 M2 I2 (hG.trans hG2)

/-- A region, in the order that its draw gives. -/
theorem draw_sound {N id : Nat} {is : List AI} {Q : Exit → Act → World → Prop} {K : Fr → Heap → Prop} {w : World} {M : AMap} {I : Nat → Prop} {H : Heap} {fr : Fr} {a : Act} (hm : P.follows .mixedOrders = true)
    (hS : Sim GT w M I H) (hF : ActOK w M I H.length N (get fr) a) (hc : chkAIs P N ops ops.toList is = true) (ho : chkOrd [] [] ops.toList is = true) (hA : AWops (Good P GT) GT is fr H K)
    (hQ : ∀ fr' H' a' w' M' I', Grow w M I H w' M' I' H' → Sim GT w' M' I' H' → ActOK w' M' I' H'.length N (get fr') a' → K fr' H' → Q .normal a' w') : (Code.region id ops true).wp P Q a w := by
  have hO := ordered_of ho
  refine wp_region_any hm ?_
  have h1 := text_of_ops is fr H hA
  have h2 := aany_text hO is 0 (Array.replicate ops.size false) (get fr) H (by simp) (by simpa using hO.len) ⟨by simp, fun j hj => by simp [hj]⟩ h1
  rw [hO.len] at h2
  have hG0 : Grow w M I H { w with drawn := w.drawn + 1 } M I H := Grow.same rfl rfl rfl rfl
  refine any_sound hc ops.size _ _ M I H (get fr) a (hS.same rfl) (hF.grow hG0 hS) h2 ?_
  rintro g' H' a' w' M' I' hG hS' hF' ⟨fr', rfl, hK⟩
  exact hQ fr' H' a' w' M' I' (hG0.trans hG) hS' hF' hK

end
end Go.AM
