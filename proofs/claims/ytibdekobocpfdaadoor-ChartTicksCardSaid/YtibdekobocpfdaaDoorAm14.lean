/- The abstract machine, part 14: an operation in its frame; regions, in the text's order and in any. Own work. -/
import Derived.Test.YtibdekobocpfdaaDoorAm13
import Derived.Orders
import Derived.Tactics
set_option linter.all false
namespace Go.AM

/-- A frame, looked at slot by slot. -/
abbrev GF := Nat → AV
def evg (GT : Nat → Option AV) (g : GF) : Opd → AV
  | .tmp t => g t
  | .const v => v
  | .glob g' => match GT g' with
    | some x => .lref x 0
    | none => .undef
  | .fn f => .fn f [] []
def putg (g : GF) : Option Nat → AV → GF
  | some d, v => fun t => if d = t then v else g t
  | none, _ => g

theorem ev_eq (GT : Nat → Option AV) (fr : Fr) : ev GT fr = evg GT (get fr) := by
  funext x; cases x <;> rfl
theorem get_put (fr : Fr) (d : Option Nat) (v : AV) : get (put fr d v) = putg (get fr) d v := by
  cases d with
  | none => rfl
  | some d => funext t; rfl

/-- What one operation, guarded or not, comes to. -/
def AYields (C : CSpec) (GT : Nat → Option AV) (i : AI) (g : GF) (H : Heap) (v : AV) (H' : Heap) : Prop :=
  match i.g with
  | none => StepK C i.k (i.xs.map (evg GT g)) H v H'
  | some (s, want) => ∃ b, gd want (g s) = some b ∧ if b = true then StepK C i.k (i.xs.map (evg GT g)) H v H' else v = .tup [] ∧ H' = H

theorem AWops_cons {C : CSpec} {GT : Nat → Option AV} {i : AI} {is : List AI} {fr : Fr} {H : Heap} {K : Fr → Heap → Prop} (h : AWops C GT (i :: is) fr H K) :
    ∃ v H', AYields C GT i (get fr) H v H' ∧ AWops C GT is (put fr i.dst v) H' K := by
  unfold AWops at h
  unfold AYields
  split at h
  · rename_i hg
    rw [hg]
    obtain ⟨v, H', h1, h2⟩ := stepK_of h
    exact ⟨v, H', by rw [← ev_eq]; exact h1, h2⟩
  · rename_i s want hg
    rw [hg]
    split at h
    · rename_i b hb
      split at h
      · rename_i hbw
        obtain ⟨v, H', h1, h2⟩ := stepK_of h
        exact ⟨v, H', ⟨b, hb, by rw [if_pos hbw, ← ev_eq]; exact h1⟩, h2⟩
      · rename_i hbw
        exact ⟨.tup [], H, ⟨b, hb, by rw [if_neg hbw]; exact ⟨rfl, rfl⟩⟩, h⟩
    · exact h.elim

section
variable {P : Program} {GT : Nat → Option AV} {w : World} {M : AMap} {I : Nat → Prop} {H : Heap}

/-- A frame of the model's that an abstract one stands for. -/
structure ActOK (w : World) (M : AMap) (I : Nat → Prop) (n N : Nat) (g : GF) (a : Act) : Prop where
  rel : ∀ t, Rel w M I n (g t) (a.tmps.getD t Go.undef)
  size : N ≤ a.tmps.size
  defers : a.defers = []

theorem ActOK.ev (hS : Sim GT w M I H) {N : Nat} {g : GF} {a : Act} (hF : ActOK w M I H.length N g a) : ∀ x x', chkO x x' = true → Rel w M I H.length (evg GT g x') (a.eval x) := by
  intro x x' h
  cases x <;> cases x' <;> simp only [chkO, beq_iff_eq] at h <;> first | (cases h; done) | skip
  · subst h; exact hF.rel _
  · exact const_rel h
  · subst h
    rename_i gl
    simp only [evg, Act.eval]
    cases hg : GT gl with
    | none => exact .undef _
    | some x => exact (hS.glob _ _ hg).free (hS.glob _ _ hg).bel
  · subst h; exact .fn _ [] [] [] [] rfl rfl (by simp) (by simp)

theorem ActOK.grow {w' : World} {M' : AMap} {I' : Nat → Prop} {H' : Heap} (hG : Grow w M I H w' M' I' H') (hS : Sim GT w M I H) {N : Nat} {g : GF} {a : Act} (hF : ActOK w M I H.length N g a) : ActOK w' M' I' H'.length N g a :=
  ⟨fun t => hG.rel hS (hF.rel t), hF.size, hF.defers⟩

theorem ActOK.put {n N : Nat} {g : GF} {a : Act} (hF : ActOK w M I n N g a) {d : Option Nat} {v : AV} {u : Value} (hd : ∀ e, d = some e → e < N) (hv : Rel w M I n v u) : ActOK w M I n N (putg g d v) (a.put d u) := by
  cases d with
  | none => exact hF
  | some d =>
    have hlt : d < a.tmps.size := Nat.lt_of_lt_of_le (hd d rfl) hF.size
    refine ⟨fun t => ?_, by simpa [Act.put] using hF.size, hF.defers⟩
    simp only [putg, Act.put]
    by_cases h : d = t
    · subst h; simpa [hlt] using hv
    · simpa [h, Array.getElem?_setIfInBounds_ne h] using hF.rel t

/-- An abstract operation against the program's. 'N': how many slots the frame has. -/
def chkAI (P : Program) (N : Nat) (ops : Array Oper) (o : Oper) (i : AI) : Bool :=
  decide (o.dst = i.dst) && (match i.dst with
    | some d => decide (d < N)
    | none => true) &&
  (match o.guard, i.g with
    | none, none => true
    | some (j, want), some (s, want') => decide (want = want') && decide ((ops[j]?).bind (·.dst) = some s) && decide (s < N)
    | _, _ => false) && chkOp P o.op i.k i.xs

theorem op_sound (hS : Sim GT w M I H) {N : Nat} {ops : Array Oper} {o : Oper} {i : AI} {g : GF} {a : Act} (hF : ActOK w M I H.length N g a) (hc : chkAI P N ops o i = true) {v : AV} {H' : Heap} (hy : AYields (Good P GT) GT i g H v H')
    {Q : Exit → Act → World → Prop} {K : Act → World → Prop} (hK : ∀ a' w' M' I', Grow w M I H w' M' I' H' → Sim GT w' M' I' H' → ActOK w' M' I' H'.length N (putg g i.dst v) a' → K a' w') :
    if Region.wanted o (yielded ops a.tmps) then o.wp P a w K Q ∨ (o.asks P a w ∧ LetsOut Q) else K (a.put o.dst Go.undef) w := by
  simp only [chkAI, Bool.and_eq_true, decide_eq_true_eq] at hc
  obtain ⟨⟨⟨h1, h2⟩, h3⟩, h4⟩ := hc
  have hd : ∀ e, i.dst = some e → e < N := by
    intro e he
    rw [he] at h2
    simpa using h2
  have doit : StepK (Good P GT) i.k (i.xs.map (evg GT g)) H v H' → o.wp P a w K Q := fun hst => by
    refine wp_of_done ((comes_sound hS h4 (hF.ev hS) (fun f => rfl) hst).mono ?_)
    rintro v' w' ⟨M', I', g1, g2, g3⟩
    rw [h1]
    exact hK _ _ M' I' g1 g2 ((hF.grow g1 hS).put hd g3)
  have dont : v = .tup [] → H' = H → K (a.put o.dst Go.undef) w := fun e1 e2 => by
    subst e1 e2
    rw [h1]
    exact hK _ _ M I (Grow.refl ..) hS (hF.put hd (.tup [] [] rfl (by simp)))
  unfold AYields at hy
  cases hg : i.g with
  | none =>
    rw [hg] at hy h3
    cases hog : o.guard with
    | none =>
      have : Region.wanted o (yielded ops a.tmps) = true := by simp [Region.wanted, hog]
      rw [if_pos this]
      exact .inl (doit hy)
    | some jw => rw [hog] at h3; simp at h3
  | some sw =>
    obtain ⟨s, want⟩ := sw
    rw [hg] at hy h3
    cases hog : o.guard with
    | none => rw [hog] at h3; simp at h3
    | some jw =>
      obtain ⟨j, want'⟩ := jw
      rw [hog] at h3
      simp only [Bool.and_eq_true, decide_eq_true_eq] at h3
      obtain ⟨⟨rfl, h3⟩, h3'⟩ := h3
      obtain ⟨b, hb, hy⟩ := hy
      have hr := hF.rel s
      have hlt : s < a.tmps.size := Nat.lt_of_lt_of_le h3' hF.size
      have hv : a.tmps[s]? = some (a.tmps.getD s Go.undef) := by simp [hlt]
      have : Region.wanted o (yielded ops a.tmps) = b := by
        simp only [Region.wanted, hog, yielded, h3, Option.bind_some, hv]
        generalize a.tmps.getD s Go.undef = u at hr
        generalize g s = x at hr hb
        unfold gd at hb
        split at hb
        · cases hr
          cases hb
          rename_i c
          cases c <;> cases want' <;> rfl
        · cases hr
          cases hb
          rfl
        · cases hb
      rw [this]
      cases b with
      | true =>
        simp only [if_true] at hy ⊢
        exact .inl (doit hy)
      | false =>
        simp only [Bool.false_eq_true, if_false] at hy ⊢
        exact dont hy.1 hy.2

/-! ### Where a call may panic -/

def AI.plain (i : AI) : AI := { i with k := i.k.plainK }

theorem chkAI_plain {N : Nat} {ops : Array Oper} {o : Oper} {i : AI} (h : chkAI P N ops o i = true) : chkAI P N ops o i.plain = true := by
  simp only [chkAI, Bool.and_eq_true] at h ⊢
  exact ⟨h.1, chk_plain h.2⟩

/-- The operation ends in a panic. -/
def AYieldsP (C : CSpec) (GT : Nat → Option AV) (i : AI) (g : GF) (H : Heap) (x : AV) (H' : Heap) : Prop :=
  match i.g with
  | none => StepP C i.k (i.xs.map (evg GT g)) H x H'
  | some (s, want) => gd want (g s) = some true ∧ StepP C i.k (i.xs.map (evg GT g)) H x H'

theorem AWT_step {C : CSpec} {GT : Nat → Option AV} {is : List AI} {j : Nat} {t : OT} {fr : Fr} {H : Heap} {K : Fr → Heap → Prop} {KP : AV → Heap → Prop} (h : AWT C GT is (.step j t) fr H K KP) :
    ∃ i, is[j]? = some i ∧ ((∃ v H', AYields C GT i.plain (get fr) H v H' ∧ AWT C GT is t (put fr i.dst v) H' K KP) ∨ (∃ x H', AYieldsP C GT i (get fr) H x H' ∧ KP x H')) := by
  unfold AWT at h
  split at h
  · exact h.elim
  · rename_i i hi
    refine ⟨i, hi, ?_⟩
    unfold AYields AYieldsP
    split at h
    · rename_i hg
      rcases stepKP_of h with ⟨v, H', h1, h2⟩ | ⟨x, H', h1, h2⟩
      · refine .inl ⟨v, H', ?_, h2⟩
        simp only [AI.plain, hg]; rw [← ev_eq]; exact h1
      · refine .inr ⟨x, H', ?_, h2⟩
        simp only [hg]; rw [← ev_eq]; exact h1
    · rename_i s want hg
      split at h
      · rename_i b hb
        split at h
        · rename_i hbt
          subst hbt
          rcases stepKP_of h with ⟨v, H', h1, h2⟩ | ⟨x, H', h1, h2⟩
          · refine .inl ⟨v, H', ?_, h2⟩
            simp only [AI.plain, hg]
            exact ⟨true, hb, by rw [if_pos rfl, ← ev_eq]; exact h1⟩
          · refine .inr ⟨x, H', ?_, h2⟩
            simp only [hg]
            exact ⟨hb, by rw [← ev_eq]; exact h1⟩
        · rename_i hbt
          refine .inl ⟨.tup [], H, ?_, h⟩
          simp only [AI.plain, hg]
          exact ⟨b, hb, by rw [if_neg hbt]; exact by simp⟩
      · exact h.elim

theorem op_soundP (hS : Sim GT w M I H) {N : Nat} {ops : Array Oper} {o : Oper} {i : AI} {g : GF} {a : Act} (hF : ActOK w M I H.length N g a) (hc : chkAI P N ops o i = true) {x : AV} {H' : Heap} (hy : AYieldsP (Good P GT) GT i g H x H')
    {Q : Exit → Act → World → Prop} {K : Act → World → Prop} (hQ : ∀ xv w' M' I', Grow w M I H w' M' I' H' → Sim GT w' M' I' H' → Rel w' M' I' H'.length x xv → Q (.panic [{ v := xv, recovered := false }]) a w') :
    if Region.wanted o (yielded ops a.tmps) then o.wp P a w K Q ∨ (o.asks P a w ∧ LetsOut Q) else K (a.put o.dst Go.undef) w := by
  simp only [chkAI, Bool.and_eq_true, decide_eq_true_eq] at hc
  obtain ⟨⟨⟨h1, h2⟩, h3⟩, h4⟩ := hc
  have doit : StepP (Good P GT) i.k (i.xs.map (evg GT g)) H x H' → o.wp P a w K Q := fun hst => by
    refine wp_of_pan ?_
    have hp := pan_sound hS h4 (hF.ev hS) (fun f => rfl) hst
    unfold PanDone at hp ⊢
    split at hp
    · exact hp.mono fun e w' ⟨v, he, M', I', g1, g2, g3⟩ => ⟨v, he, hQ v w' M' I' g1 g2 g3⟩
    · obtain ⟨M', I', g1, g2, g3⟩ := hp
      exact hQ _ _ M' I' g1 g2 g3
    · exact hp.elim
  unfold AYieldsP at hy
  cases hg : i.g with
  | none =>
    rw [hg] at hy h3
    cases hog : o.guard with
    | none =>
      have : Region.wanted o (yielded ops a.tmps) = true := by simp [Region.wanted, hog]
      rw [if_pos this]
      exact .inl (doit hy)
    | some jw => rw [hog] at h3; simp at h3
  | some sw =>
    obtain ⟨s, want⟩ := sw
    rw [hg] at hy h3
    cases hog : o.guard with
    | none => rw [hog] at h3; simp at h3
    | some jw =>
      obtain ⟨j, want'⟩ := jw
      rw [hog] at h3
      simp only [Bool.and_eq_true, decide_eq_true_eq] at h3
      obtain ⟨⟨rfl, h3⟩, h3'⟩ := h3
      obtain ⟨hb, hy⟩ := hy
      have hr := hF.rel s
      have hlt : s < a.tmps.size := Nat.lt_of_lt_of_le h3' hF.size
      have hv : a.tmps[s]? = some (a.tmps.getD s Go.undef) := by simp [hlt]
      have : Region.wanted o (yielded ops a.tmps) = true := by
        simp only [Region.wanted, hog, yielded, h3, Option.bind_some, hv]
        generalize a.tmps.getD s Go.undef = u at hr
        generalize g s = x at hr hb
        unfold gd at hb
        split at hb
        · cases hr
          rename_i c
          simp only [Option.some.injEq, beq_iff_eq] at hb
          subst hb
          cases c <;> rfl
        · cases hb
        · cases hb
      rw [if_pos this]
      exact .inl (doit hy)

/-- Abstract operations against a list of the program's. -/
def chkAIs (P : Program) (N : Nat) (ops : Array Oper) : List Oper → List AI → Bool
  | [], [] => true
  | o :: os, i :: is => chkAI P N ops o i && chkAIs P N ops os is
  | _, _ => false

theorem ops_sound {N : Nat} {ops : Array Oper} {Q : Exit → Act → World → Prop} {K : Fr → Heap → Prop} : ∀ (is : List AI) (os : List Oper) (w : World) (M : AMap) (I : Nat → Prop) (H : Heap) (fr : Fr) (a : Act),
    Sim GT w M I H → ActOK w M I H.length N (get fr) a → chkAIs P N ops os is = true → AWops (Good P GT) GT is fr H K →
    (∀ fr' H' a' w' M' I', Grow w M I H w' M' I' H' → Sim GT w' M' I' H' → ActOK w' M' I' H'.length N (get fr') a' → K fr' H' → Q .normal a' w') → wpList P ops Q os a w := by
  intro is
  induction is with
  | nil =>
    intro os w M I H fr a hS hF hc hA hQ
    cases os with
    | nil => exact hQ fr H a w M I (Grow.refl ..) hS hF hA
    | cons => simp [chkAIs] at hc
  | cons i is ih =>
    intro os w M I H fr a hS hF hc hA hQ
    cases os with
    | nil => simp [chkAIs] at hc
    | cons o os =>
      simp only [chkAIs, Bool.and_eq_true] at hc
      obtain ⟨v, H1, hy, hA⟩ := AWops_cons hA
      unfold wpList
      refine op_sound hS hF hc.1 hy fun a' w' M' I' hG hS' hF' => ?_
      exact ih os w' M' I' H1 (put fr i.dst v) a' hS' (by rw [get_put]; exact hF') hc.2 hA fun fr2 H2 a2 w2 M2 I2 hG2 => hQ fr2 H2 a2 w2 M2 I2 (hG.trans hG2)

theorem get_restrict (fr : Fr) (L : List Nat) (t : Nat) : get (restrict fr L) t = get fr t ∨ get (restrict fr L) t = .undef := by
  induction L with
  | nil => exact .inr rfl
  | cons l L ih =>
    simp only [restrict, List.map_cons, get]
    by_cases h : l = t
    · subst h; simp
    · simp only [h, if_false]; exact ih

theorem ActOK.restrict {n N : Nat} {fr : Fr} {a : Act} (hF : ActOK w M I n N (get fr) a) (L : List Nat) : ActOK w M I n N (get (restrict fr L)) a :=
  ⟨fun t => by
    rcases get_restrict fr L t with h | h
    · rw [h]; exact hF.rel t
    · rw [h]; exact .undef _, hF.size, hF.defers⟩

end
end Go.AM
