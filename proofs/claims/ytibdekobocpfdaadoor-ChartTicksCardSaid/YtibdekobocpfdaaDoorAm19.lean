/- The abstract machine, part 19: rules for proofs about abstract code. Own work. -/
import Derived.Test.YtibdekobocpfdaaDoorAm18
set_option linter.all false
namespace Go.AM

section
variable {C : CSpec} {GT : Nat → Option AV}

theorem stepK_iff {k : AK} {vs : List AV} {H : Heap} {K : AV → Heap → Prop} : stepK C k vs H K ↔ ∃ v H', StepK C k vs H v H' ∧ K v H' := by
  constructor
  · exact stepK_of
  · rintro ⟨v, H', h, hk⟩
    cases k
    case call f rd => exact ⟨v, H', h.1, h.2, hk⟩
    case callv rd =>
      simp only [StepK] at h
      split at h
      · exact ⟨v, H', h.1, h.2, hk⟩
      · exact h.elim
    all_goals
      simp only [StepK] at h
      simp only [stepK]
      rw [h]
      exact hk

theorem AWops_of_cons {i : AI} {is : List AI} {fr : Fr} {H : Heap} {K : Fr → Heap → Prop} {v : AV} {H' : Heap} (h : AYields C GT i (get fr) H v H') (h2 : AWops C GT is (put fr i.dst v) H' K) : AWops C GT (i :: is) fr H K := by
  unfold AYields at h
  unfold AWops
  split at h
  · rename_i hg
    rw [hg]
    exact stepK_iff.2 ⟨v, H', by rw [ev_eq]; exact h, h2⟩
  · rename_i s want hg
    rw [hg]
    obtain ⟨b, hb, h⟩ := h
    simp only [hb]
    split at h
    · rename_i hw
      rw [if_pos hw]
      exact stepK_iff.2 ⟨v, H', by rw [ev_eq]; exact h, h2⟩
    · rename_i hw
      rw [if_neg hw]
      obtain ⟨rfl, rfl⟩ := h
      exact h2

theorem stepKP_iff {k : AK} {vs : List AV} {H : Heap} {K KP : AV → Heap → Prop} : stepKP C k vs H K KP ↔ (∃ v H', StepK C k.plainK vs H v H' ∧ K v H') ∨ (∃ x H', StepP C k vs H x H' ∧ KP x H') := by
  constructor
  · exact stepKP_of
  · intro h
    cases k
    case callp f =>
      rcases h with ⟨v, H', h1, h2⟩ | ⟨x, H', h1, h2⟩
      · exact .inl ⟨v, H', h1.1, h2⟩
      · exact .inr ⟨x, H', h1, h2⟩
    case callvp =>
      rcases h with ⟨v, H', h1, h2⟩ | ⟨x, H', h1, h2⟩
      · simp only [AK.plainK, StepK] at h1
        simp only [stepKP]
        split at h1
        · exact .inl ⟨v, H', h1.1, h2⟩
        · exact h1.elim
      · simp only [StepP] at h1
        simp only [stepKP]
        split at h1
        · exact .inr ⟨x, H', h1, h2⟩
        · exact h1.elim
    case panic =>
      rcases h with ⟨v, H', h1, h2⟩ | ⟨x, H', h1, h2⟩
      · simp [AK.plainK, StepK, astep] at h1
      · obtain ⟨t, y, rfl, rfl, rfl⟩ := h1
        exact h2
    all_goals
      rcases h with ⟨v, H', h1, h2⟩ | ⟨x, H', h1, h2⟩
      · exact stepK_iff.2 ⟨v, H', h1, h2⟩
      · exact h1.elim

/-! ### A code has finitely many outcomes -/

def AllK (K : Post) (os : List (AE × Fr × Heap)) : Prop := ∀ o ∈ os, K o.1 o.2.1 o.2.2

def Fin' (F : Post → Fr → Heap → Prop) : Prop := ∀ K fr H, F K fr H → ∃ os, AllK K os ∧ ∀ K', AllK K' os → F K' fr H

theorem AllK.one {K : Post} {e : AE} {fr : Fr} {H : Heap} (h : K e fr H) : AllK K [(e, fr, H)] := by
  intro o ho
  obtain rfl := List.mem_singleton.1 ho
  exact h
theorem AllK.get {K : Post} {e : AE} {fr : Fr} {H : Heap} (h : AllK K [(e, fr, H)]) : K e fr H := h _ (List.mem_singleton.2 rfl)

theorem fin_bind {F : Post → Fr → Heap → Prop} (hF : Fin' F) {T : Post → Post} (hT : ∀ K e fr H, T K e fr H → ∃ l, AllK K l ∧ ∀ K', AllK K' l → T K' e fr H) : Fin' fun K fr H => F (T K) fr H := by
  classical
  intro K fr H h
  obtain ⟨os, h1, h2⟩ := hF _ fr H h
  have hc : ∀ o : AE × Fr × Heap, ∃ l : List (AE × Fr × Heap), o ∈ os → (AllK K l ∧ ∀ K', AllK K' l → T K' o.1 o.2.1 o.2.2) := fun o => by
    by_cases ho : o ∈ os
    · obtain ⟨l, a, b⟩ := hT K _ _ _ (h1 o ho)
      exact ⟨l, fun _ => ⟨a, b⟩⟩
    · exact ⟨[], fun h => absurd h ho⟩
  obtain ⟨f, hf⟩ := Classical.axiomOfChoice hc
  refine ⟨os.flatMap f, fun o ho => ?_, fun K' hK => h2 _ fun o ho => (hf o ho).2 K' fun o' ho' => hK o' (List.mem_flatMap.2 ⟨o, ho, ho'⟩)⟩
  obtain ⟨o1, ho1, ho2⟩ := List.mem_flatMap.1 ho
  exact (hf o1 ho1).1 o ho2

theorem fin_pass {K : Post} {e : AE} {fr : Fr} {H : Heap} {T : Post → Prop} (ht : ∀ K', T K' ↔ K' e fr H) (h : T K) : ∃ l, AllK K l ∧ ∀ K', AllK K' l → T K' :=
  ⟨[(e, fr, H)], .one ((ht K).1 h), fun K' hk => (ht K').2 hk.get⟩

theorem ops_fin : ∀ (is : List AI), Fin' fun K fr H => AWops C GT is fr H fun fr' H' => K .normal fr' H'
  | [] => fun K fr H h => ⟨[(.normal, fr, H)], .one h, fun K' hk => hk.get⟩
  | i :: is => fun K fr H h => by
    obtain ⟨v, H1, h1, h2⟩ := AWops_cons h
    obtain ⟨os, h3, h4⟩ := ops_fin is K _ _ h2
    exact ⟨os, h3, fun K' hk => AWops_of_cons h1 (h4 K' hk)⟩

theorem awt_of_step {is : List AI} {j : Nat} {t : OT} {fr : Fr} {H : Heap} {K : Fr → Heap → Prop} {KP : AV → Heap → Prop} {i : AI} (hi : is[j]? = some i)
    (h : (∃ v H', AYields C GT i.plain (get fr) H v H' ∧ AWT C GT is t (put fr i.dst v) H' K KP) ∨ (∃ x H', AYieldsP C GT i (get fr) H x H' ∧ KP x H')) : AWT C GT is (.step j t) fr H K KP := by
  unfold AWT
  simp only [hi]
  unfold AYields AYieldsP at h
  cases hg : i.g with
  | none =>
    simp only [AI.plain, hg] at h ⊢
    rw [← ev_eq] at h
    exact stepKP_iff.2 h
  | some sw =>
    obtain ⟨s, want⟩ := sw
    simp only [AI.plain, hg] at h ⊢
    rw [← ev_eq] at h
    rcases h with ⟨v, H', ⟨b, hb, h⟩, h2⟩ | ⟨x, H', ⟨hb, h⟩, h2⟩
    · simp only [hb]
      split at h
      · rename_i hbt
        rw [if_pos hbt]
        exact stepKP_iff.2 (.inl ⟨v, H', h, h2⟩)
      · rename_i hbt
        rw [if_neg hbt]
        obtain ⟨rfl, rfl⟩ := h
        exact h2
    · simp only [hb]
      rw [if_pos trivial]
      exact stepKP_iff.2 (.inr ⟨x, H', h, h2⟩)

theorem awt_fin (is : List AI) : ∀ (t : OT), Fin' fun K fr H => AWT C GT is t fr H (fun fr' H' => K .normal fr' H') (fun x H' => K (.pan x) [] H')
  | .done => fun K fr H h => ⟨[(.normal, fr, H)], .one h, fun K' hk => hk.get⟩
  | .step j t => fun K fr H h => by
    obtain ⟨i, hi, h1⟩ := AWT_step h
    rcases h1 with ⟨v, H', h1, h2⟩ | ⟨x, H', h1, h2⟩
    · obtain ⟨os, h3, h4⟩ := awt_fin is t K _ _ h2
      exact ⟨os, h3, fun K' hk => awt_of_step hi (.inl ⟨v, H', h1, h4 K' hk⟩)⟩
    · exact ⟨[(.pan x, [], H')], .one h2, fun K' hk => awt_of_step hi (.inr ⟨x, H', h1, hk.get⟩)⟩
  | .alt a b => fun K fr H h => by
    obtain ⟨o1, a1, a2⟩ := awt_fin is a K fr H h.1
    obtain ⟨o2, b1, b2⟩ := awt_fin is b K fr H h.2
    exact ⟨o1 ++ o2, fun o ho => (List.mem_append.1 ho).elim (a1 o) (b1 o), fun K' hk => ⟨a2 K' fun o ho => hk o (List.mem_append_left _ ho), b2 K' fun o ho => hk o (List.mem_append_right _ ho)⟩⟩

theorem loopW_fin {F : Post → Fr → Heap → Prop} (hF : Fin' F) (L : List Nat) : ∀ m, Fin' fun K fr H => loopW F L K m fr H
  | 0 => fun K fr H h => h.elim
  | m + 1 => fin_bind hF fun K e fr H h => by
    cases e with
    | normal => exact loopW_fin hF L m K _ _ h
    | _ => exact fin_pass (T := fun K' => K' _ fr H) (fun K' => Iff.rfl) h

theorem gotoW_fin {F : Post → Fr → Heap → Prop} (hF : Fin' F) (L : List Nat) (l : Nat) : ∀ m, Fin' fun K fr H => gotoW F L l K m fr H
  | 0 => fun K fr H h => h.elim
  | m + 1 => fin_bind hF fun K e fr H h => by
    cases e with
    | goto l' =>
      obtain ⟨os, h1, h2⟩ := gotoW_fin hF L l m K _ _ h.2
      exact ⟨os, h1, fun K' hk => ⟨h.1, h2 K' hk⟩⟩
    | _ => exact fin_pass (T := fun K' => K' _ fr H) (fun K' => Iff.rfl) h

theorem aw_fin : ∀ (ac : AC), Fin' (AW C GT ac) := by
  intro ac
  induction ac with
  | skip => exact fun K fr H h => ⟨[(.normal, fr, H)], .one h, fun K' hk => hk.get⟩
  | label => exact fun K fr H h => ⟨[(.normal, fr, H)], .one h, fun K' hk => hk.get⟩
  | ret => exact fun K fr H h => ⟨[(.ret, fr, H)], .one h, fun K' hk => hk.get⟩
  | exit id => exact fun K fr H h => ⟨[(.exit id, fr, H)], .one h, fun K' hk => hk.get⟩
  | goto l => exact fun K fr H h => ⟨[(.goto l, fr, H)], .one h, fun K' hk => hk.get⟩
  | stuck => exact fun K fr H h => h.elim
  | reg L d is => exact fun K fr H h => ops_fin is K _ H h
  | regt L d is t => exact fun K fr H h => awt_fin is t K _ H h
  | seq a b iha ihb =>
    exact fin_bind iha (T := fun K => seqK (AW C GT b K) K) fun K e fr H h => by
      cases e with
      | normal => exact ihb K fr H h
      | _ => exact fin_pass (T := fun K' => K' _ fr H) (fun K' => Iff.rfl) h
  | cond c a b iha ihb =>
    intro K fr H h
    unfold AW at h
    split at h
    · rename_i t ht
      have e : ∀ K', AW C GT (.cond c a b) K' fr H = if t = true then AW C GT a K' (learn fr c true) H else AW C GT b K' (learn fr c false) H := fun K' => by simp only [AW, ht]
      split at h
      · rename_i htt
        obtain ⟨os, h1, h2⟩ := iha _ _ _ h
        exact ⟨os, h1, fun K' hk => by rw [e, if_pos htt]; exact h2 K' hk⟩
      · rename_i htt
        obtain ⟨os, h1, h2⟩ := ihb _ _ _ h
        exact ⟨os, h1, fun K' hk => by rw [e, if_neg htt]; exact h2 K' hk⟩
    · exact h.elim
  | block id L c ih =>
    exact fin_bind ih (T := blockK id L) fun K e fr H h => by
      cases e with
      | normal => exact fin_pass (T := fun K' => K' .normal (restrict fr L) H) (fun K' => Iff.rfl) h
      | exit j =>
        simp only [blockK] at h ⊢
        by_cases hj : j = id
        · simp only [hj, if_true] at h ⊢
          exact fin_pass (T := fun K' => K' .normal (restrict fr L) H) (fun K' => Iff.rfl) h
        · simp only [hj, if_false] at h ⊢
          exact fin_pass (T := fun K' => K' (.exit j) fr H) (fun K' => Iff.rfl) h
      | _ => exact fin_pass (T := fun K' => K' _ fr H) (fun K' => Iff.rfl) h
  | loop L c ih =>
    intro K fr H h
    obtain ⟨m, h⟩ := h
    obtain ⟨os, h1, h2⟩ := loopW_fin ih L m K _ H h
    exact ⟨os, h1, fun K' hk => ⟨m, h2 K' hk⟩⟩
  | scope L l c r ihc ihr =>
    exact fin_bind ihc (T := fun K => jumpK l (fun fr' H' => ∃ m, gotoW (AW C GT r) L l K m (restrict fr' L) H') K) fun K e fr H h => by
      cases e with
      | goto l' =>
        obtain ⟨hl, m, hg⟩ := h
        obtain ⟨os, h1, h2⟩ := gotoW_fin ihr L l m K _ H hg
        exact ⟨os, h1, fun K' hk => ⟨hl, m, h2 K' hk⟩⟩
      | _ => exact fin_pass (T := fun K' => K' _ fr H) (fun K' => Iff.rfl) h

theorem aw_mono {ac : AC} {K K' : Post} {fr : Fr} {H : Heap} (h : AW C GT ac K fr H) (hk : ∀ e fr H, K e fr H → K' e fr H) : AW C GT ac K' fr H := by
  obtain ⟨os, h1, h2⟩ := aw_fin ac K fr H h
  exact h2 K' fun o ho => hk _ _ _ (h1 o ho)

/-! ### Where no order matters a code has one outcome -/

def detT : OT → Bool
  | .done => true
  | .step _ t => detT t
  | .alt _ _ => false
def det : AC → Bool
  | .seq a b => det a && det b
  | .cond _ a b => det a && det b
  | .block _ _ c => det c
  | .loop _ c => det c
  | .regt _ _ _ t => detT t
  | .scope _ _ c r => det c && det r
  | _ => true

def One (F : Post → Fr → Heap → Prop) : Prop := ∀ K fr H, F K fr H → ∃ e fr' H', K e fr' H' ∧ ∀ K' : Post, K' e fr' H' → F K' fr H

theorem one_bind {F : Post → Fr → Heap → Prop} (hF : One F) {T : Post → Post} (hT : ∀ K e fr H, T K e fr H → ∃ e' fr' H', K e' fr' H' ∧ ∀ K' : Post, K' e' fr' H' → T K' e fr H) : One fun K fr H => F (T K) fr H := by
  intro K fr H h
  obtain ⟨e, fr1, H1, h1, h2⟩ := hF _ fr H h
  obtain ⟨e', fr', H', h3, h4⟩ := hT K e fr1 H1 h1
  exact ⟨e', fr', H', h3, fun K' hk => h2 _ (h4 K' hk)⟩

theorem ops_one : ∀ (is : List AI), One fun K fr H => AWops C GT is fr H fun fr' H' => K .normal fr' H'
  | [] => fun K fr H h => ⟨.normal, fr, H, h, fun K' hk => hk⟩
  | i :: is => fun K fr H h => by
    obtain ⟨v, H1, h1, h2⟩ := AWops_cons h
    obtain ⟨e, fr', H', h3, h4⟩ := ops_one is K _ _ h2
    exact ⟨e, fr', H', h3, fun K' hk => AWops_of_cons h1 (h4 K' hk)⟩

theorem awt_one (is : List AI) : ∀ (t : OT), detT t = true → One fun K fr H => AWT C GT is t fr H (fun fr' H' => K .normal fr' H') (fun x H' => K (.pan x) [] H')
  | .done, _ => fun K fr H h => ⟨.normal, fr, H, h, fun K' hk => hk⟩
  | .step j t, hd => fun K fr H h => by
    obtain ⟨i, hi, h1⟩ := AWT_step h
    rcases h1 with ⟨v, H', h1, h2⟩ | ⟨x, H', h1, h2⟩
    · obtain ⟨e, fr', H2, h3, h4⟩ := awt_one is t hd K _ _ h2
      exact ⟨e, fr', H2, h3, fun K' hk => awt_of_step hi (.inl ⟨v, H', h1, h4 K' hk⟩)⟩
    · exact ⟨.pan x, [], H', h2, fun K' hk => awt_of_step hi (.inr ⟨x, H', h1, hk⟩)⟩
  | .alt _ _, hd => by simp [detT] at hd

theorem loopW_one {F : Post → Fr → Heap → Prop} (hF : One F) (L : List Nat) : ∀ m, One fun K fr H => loopW F L K m fr H
  | 0 => fun K fr H h => h.elim
  | m + 1 => one_bind hF fun K e fr H h => by
    cases e with
    | normal => exact loopW_one hF L m K _ _ h
    | _ => exact ⟨_, fr, H, h, fun K' hk => hk⟩

theorem gotoW_one {F : Post → Fr → Heap → Prop} (hF : One F) (L : List Nat) (l : Nat) : ∀ m, One fun K fr H => gotoW F L l K m fr H
  | 0 => fun K fr H h => h.elim
  | m + 1 => one_bind hF fun K e fr H h => by
    cases e with
    | goto l' =>
      obtain ⟨e, fr', H', h1, h2⟩ := gotoW_one hF L l m K _ _ h.2
      exact ⟨e, fr', H', h1, fun K' hk => ⟨h.1, h2 K' hk⟩⟩
    | _ => exact ⟨_, fr, H, h, fun K' hk => hk⟩

theorem aw_atomic : ∀ (ac : AC), det ac = true → One (AW C GT ac) := by
  intro ac
  induction ac with
  | skip => exact fun _ K fr H h => ⟨.normal, fr, H, h, fun K' hk => hk⟩
  | label => exact fun _ K fr H h => ⟨.normal, fr, H, h, fun K' hk => hk⟩
  | ret => exact fun _ K fr H h => ⟨.ret, fr, H, h, fun K' hk => hk⟩
  | exit id => exact fun _ K fr H h => ⟨.exit id, fr, H, h, fun K' hk => hk⟩
  | goto l => exact fun _ K fr H h => ⟨.goto l, fr, H, h, fun K' hk => hk⟩
  | stuck => exact fun _ K fr H h => h.elim
  | reg L d is => exact fun _ K fr H h => ops_one is K _ H h
  | regt L d is t => exact fun hd K fr H h => awt_one is t hd K _ H h
  | seq a b iha ihb =>
    intro hd
    simp only [det, Bool.and_eq_true] at hd
    exact one_bind (iha hd.1) (T := fun K => seqK (AW C GT b K) K) fun K e fr H h => by
      cases e with
      | normal => exact ihb hd.2 K fr H h
      | _ => exact ⟨_, fr, H, h, fun K' hk => hk⟩
  | cond c a b iha ihb =>
    intro hd K fr H h
    simp only [det, Bool.and_eq_true] at hd
    unfold AW at h
    split at h
    · rename_i t ht
      have e : ∀ K', AW C GT (.cond c a b) K' fr H = if t = true then AW C GT a K' (learn fr c true) H else AW C GT b K' (learn fr c false) H := fun K' => by simp only [AW, ht]
      split at h
      · rename_i htt
        obtain ⟨e1, fr', H', h1, h2⟩ := iha hd.1 _ _ _ h
        exact ⟨e1, fr', H', h1, fun K' hk => by rw [e, if_pos htt]; exact h2 K' hk⟩
      · rename_i htt
        obtain ⟨e1, fr', H', h1, h2⟩ := ihb hd.2 _ _ _ h
        exact ⟨e1, fr', H', h1, fun K' hk => by rw [e, if_neg htt]; exact h2 K' hk⟩
    · exact h.elim
  | block id L c ih =>
    intro hd
    exact one_bind (ih hd) (T := blockK id L) fun K e fr H h => by
      cases e with
      | normal => exact ⟨.normal, restrict fr L, H, h, fun K' hk => hk⟩
      | exit j =>
        simp only [blockK] at h ⊢
        by_cases hj : j = id
        · simp only [hj, if_true] at h ⊢
          exact ⟨.normal, restrict fr L, H, h, fun K' hk => hk⟩
        · simp only [hj, if_false] at h ⊢
          exact ⟨.exit j, fr, H, h, fun K' hk => hk⟩
      | _ => exact ⟨_, fr, H, h, fun K' hk => hk⟩
  | loop L c ih =>
    intro hd K fr H h
    obtain ⟨m, h⟩ := h
    obtain ⟨e, fr', H', h1, h2⟩ := loopW_one (ih hd) L m K _ H h
    exact ⟨e, fr', H', h1, fun K' hk => ⟨m, h2 K' hk⟩⟩
  | scope L l c r ihc ihr =>
    intro hd
    simp only [det, Bool.and_eq_true] at hd
    exact one_bind (ihc hd.1) (T := fun K => jumpK l (fun fr' H' => ∃ m, gotoW (AW C GT r) L l K m (restrict fr' L) H') K) fun K e fr H h => by
      cases e with
      | goto l' =>
        obtain ⟨hl, m, hg⟩ := h
        obtain ⟨e, fr', H', h1, h2⟩ := gotoW_one (ihr hd.2) L l m K _ H hg
        exact ⟨e, fr', H', h1, fun K' hk => ⟨hl, m, h2 K' hk⟩⟩
      | _ => exact ⟨_, fr, H, h, fun K' hk => hk⟩

/-- A loop, behind its cut of the frame. -/
def AWL (C : CSpec) (GT : Nat → Option AV) (L : List Nat) (c : AC) (K : Post) (fr : Fr) (H : Heap) : Prop := ∃ m, loopW (AW C GT c) L K m fr H

def loopK (F : Fr → Heap → Prop) (L : List Nat) (K : Post) : Post := fun e fr H => match e with
  | .normal => F (restrict fr L) H
  | e => K e fr H

theorem loopW_mono {L : List Nat} {c : AC} {K K' : Post} (hk : ∀ e fr H, K e fr H → K' e fr H) : ∀ (m n : Nat) (fr : Fr) (H : Heap), m ≤ n → loopW (AW C GT c) L K m fr H → loopW (AW C GT c) L K' n fr H
  | 0, _, _, _, _, h => h.elim
  | m + 1, 0, _, _, hl, _ => absurd hl (by omega)
  | m + 1, n + 1, fr, H, hl, h => aw_mono h fun e fr H h => by
    cases e with
    | normal => exact loopW_mono hk m n _ H (by omega) h
    | _ => exact hk _ _ _ h

theorem awl_step {L : List Nat} {c : AC} {K : Post} {fr : Fr} {H : Heap} (h : AW C GT c (loopK (AWL C GT L c K) L K) fr H) : AWL C GT L c K fr H := by
  obtain ⟨os, h1, h2⟩ := aw_fin c _ _ _ h
  have key : ∀ os : List (AE × Fr × Heap), AllK (loopK (AWL C GT L c K) L K) os → ∃ m, AllK (loopK (fun fr H => loopW (AW C GT c) L K m fr H) L K) os := by
    intro os
    induction os with
    | nil => intro _; exact ⟨0, fun o ho => by cases ho⟩
    | cons o os ih =>
      intro h
      obtain ⟨m, hm⟩ := ih fun o' ho' => h o' (List.mem_cons_of_mem _ ho')
      have ho := h o (by simp)
      obtain ⟨e, fr, H⟩ := o
      have up : ∀ (m n : Nat), m ≤ n → ∀ e fr H, loopK (fun fr H => loopW (AW C GT c) L K m fr H) L K e fr H → loopK (fun fr H => loopW (AW C GT c) L K n fr H) L K e fr H := by
        intro m n hmn e fr H h
        cases e with
        | normal => exact loopW_mono (fun _ _ _ h => h) m n _ _ hmn h
        | _ => exact h
      cases e with
      | normal =>
        obtain ⟨n, hn⟩ := ho
        refine ⟨max m n, fun o' ho' => ?_⟩
        rcases List.mem_cons.1 ho' with rfl | ho'
        · exact loopW_mono (fun _ _ _ h => h) n _ _ _ (by omega) hn
        · exact up m _ (by omega) _ _ _ (hm o' ho')
      | _ =>
        refine ⟨m, fun o' ho' => ?_⟩
        rcases List.mem_cons.1 ho' with rfl | ho'
        · exact ho
        · exact hm o' ho'
  obtain ⟨m, hm⟩ := key os h1
  refine ⟨m + 1, ?_⟩
  exact aw_mono (h2 _ hm) fun e fr H h => by
    cases e with
    | normal => exact h
    | _ => exact h

theorem awl_mono {L : List Nat} {c : AC} {K K' : Post} {fr : Fr} {H : Heap} (h : AWL C GT L c K fr H) (hk : ∀ e fr H, K e fr H → K' e fr H) : AWL C GT L c K' fr H := by
  obtain ⟨m, h⟩ := h
  exact ⟨m, loopW_mono hk m m _ _ (Nat.le_refl _) h⟩

/-! ### One step at a time, for simp -/

variable {K : Post} {fr : Fr} {H : Heap}

theorem AW_skip : AW C GT .skip K fr H = K .normal fr H := rfl
theorem AW_ret : AW C GT .ret K fr H = K .ret fr H := rfl
theorem AW_exit {id : Nat} : AW C GT (.exit id) K fr H = K (.exit id) fr H := rfl
theorem AW_seq {a b : AC} : AW C GT (.seq a b) K fr H = AW C GT a (seqK (AW C GT b K) K) fr H := rfl
theorem AW_reg {L : List Nat} {d : Bool} {is : List AI} : AW C GT (.reg L d is) K fr H = AWops C GT is (restrict fr L) H fun fr' H' => K .normal fr' H' := rfl
theorem AW_regt {L : List Nat} {d : Bool} {is : List AI} {t : OT} : AW C GT (.regt L d is t) K fr H = AWT C GT is t (restrict fr L) H (fun fr' H' => K .normal fr' H') (fun x H' => K (.pan x) [] H') := rfl
theorem AW_goto {l : Nat} : AW C GT (.goto l) K fr H = K (.goto l) fr H := rfl
theorem AW_label : AW C GT .label K fr H = K .normal fr H := rfl
theorem AW_scope {L : List Nat} {l : Nat} {c r : AC} : AW C GT (.scope L l c r) K fr H = AW C GT c (jumpK l (fun fr' H' => ∃ m, gotoW (AW C GT r) L l K m (restrict fr' L) H') K) fr H := rfl
theorem AW_block {id : Nat} {L : List Nat} {c : AC} : AW C GT (.block id L c) K fr H = AW C GT c (blockK id L K) fr H := rfl
theorem AW_loop {L : List Nat} {c : AC} : AW C GT (.loop L c) K fr H = AWL C GT L c K (restrict fr L) H := rfl
theorem AW_cond {c : Opd} {a b : AC} {t : Bool} (h : ev GT fr c = .bool t) : AW C GT (.cond c a b) K fr H = if t = true then AW C GT a K (learn fr c true) H else AW C GT b K (learn fr c false) H := by
  simp only [AW, h]

theorem AWops_nil {K : Fr → Heap → Prop} : AWops C GT [] fr H K = K fr H := rfl
theorem AWops_free {K : Fr → Heap → Prop} {d : Option Nat} {k : AK} {xs : List Opd} {is : List AI} :
    AWops C GT (⟨d, none, k, xs⟩ :: is) fr H K = stepK C k (xs.map (ev GT fr)) H fun v H' => AWops C GT is (put fr d v) H' K := rfl
theorem AWops_guard {K : Fr → Heap → Prop} {d : Option Nat} {k : AK} {xs : List Opd} {is : List AI} {s : Nat} {want b : Bool} (h : get fr s = .bool b) :
    AWops C GT (⟨d, some (s, want), k, xs⟩ :: is) fr H K = if (b == want) = true then stepK C k (xs.map (ev GT fr)) H fun v H' => AWops C GT is (put fr d v) H' K else AWops C GT is (put fr d (.tup [])) H K := by
  simp only [AWops, h, gd]

end

/-- What is to be checked of a function, in one. -/
def chkF (P : Program) (f : FuncId) (F : AF) : Bool :=
  match P.funcs[f]? with
  | some fn => !(fn.name == "runtime.NumGoroutine") && (match fn.body with
    | some c => chkC P fn.ntmps c F.body && chkR P fn.results.toList F.results
    | none => false)
  | none => false

theorem good_of_chk {P : Program} {GT : Nat → Option AV} (hm : P.follows .mixedOrders = true) {f : FuncId} {F : AF} (hc : chkF P f F = true) {args : List AV} {H : Heap} {v : AV} {H' : Heap} (h : AFun (Good P GT) GT F args H v H') (hn : noPan args = true) : Good P GT f args H v H' := by
  unfold chkF at hc
  split at hc
  · rename_i fn hf
    simp only [Bool.and_eq_true, Bool.not_eq_true'] at hc
    obtain ⟨h1, hc⟩ := hc
    split at hc
    · rename_i c hb
      simp only [Bool.and_eq_true] at hc
      exact good_of_af hm hf h1 hb hc.1 hc.2 hn h
    · cases hc
  · cases hc

theorem goodP_of_chk {P : Program} {GT : Nat → Option AV} (hm : P.follows .mixedOrders = true) {f : FuncId} {F : AF} (hc : chkF P f F = true) {args : List AV} {H : Heap} {x : AV} {H' : Heap} (h : AFunP (Good P GT) GT F args H x H') : Good P GT f (.pan .undef :: args) H x H' := by
  unfold chkF at hc
  split at hc
  · rename_i fn hf
    simp only [Bool.and_eq_true, Bool.not_eq_true'] at hc
    obtain ⟨h1, hc⟩ := hc
    split at hc
    · rename_i c hb
      simp only [Bool.and_eq_true] at hc
      exact goodP_of_af hm hf h1 hb hc.1 h
    · cases hc
  · cases hc

end Go.AM
