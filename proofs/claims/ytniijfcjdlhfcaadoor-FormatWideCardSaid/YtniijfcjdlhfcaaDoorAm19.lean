/- The abstract machine, part 19: rules for proofs about abstract code. Own work. -/
import Derived.Test.YtniijfcjdlhfcaaDoorAm18
set_option linter.all false
namespace Go.AM

section
variable {C : CSpec} {GT : Nat → Option AV}

theorem stepK_iff {k : AK} {vs : List AV} {H : Heap} {K : AV → Heap → Prop} : stepK C k vs H K ↔ ∃ v H', StepK C k vs H v H' ∧ K v H' := by
  constructor
  · exact stepK_of
  · rintro ⟨v, H', h, hk⟩
    cases k
    case call f rd => exact ⟨v, H', h.1, h.2, hk⟩
    case callv rd =>
      simp only [StepK] at h
      split at h
      · exact ⟨v, H', h.1, h.2, hk⟩
      · exact h.elim
    all_goals
      simp only [StepK] at h
      simp only [stepK]
      rw [h]
      exact hk

theorem AWops_of_cons {i : AI} {is : List AI} {fr : Fr} {H : Heap} {K : Fr → Heap → Prop} {v : AV} {H' : Heap} (h : AYields C GT i (get fr) H v H') (h2 : AWops C GT is (put fr i.dst v) H' K) : AWops C GT (i :: is) fr H K := by
  unfold AYields at h
  unfold AWops
  split at h
  · rename_i hg
    rw [hg]
    exact stepK_iff.2 ⟨v, H', by rw [ev_eq]; exact h, h2⟩
  · rename_i s want hg
    rw [hg]
    obtain ⟨b, hb, h⟩ := h
    simp only [hb]
    split at h
    · rename_i hw
      rw [if_pos hw]
      exact stepK_iff.2 ⟨v, H', by rw [ev_eq]; exact h, h2⟩
    · rename_i hw
      rw [if_neg hw]
      obtain ⟨rfl, rfl⟩ := h
      exact h2

/-- A step has one outcome. -/
theorem ops_atomic : ∀ (is : List AI) (fr : Fr) (H : Heap) (K : Fr → Heap → Prop), AWops C GT is fr H K → ∃ fr' H', K fr' H' ∧ ∀ K' : Fr → Heap → Prop, K' fr' H' → AWops C GT is fr H K'
  | [], fr, H, K, h => ⟨fr, H, h, fun _ h => h⟩
  | i :: is, fr, H, K, h => by
    obtain ⟨v, H1, h1, h2⟩ := AWops_cons h
    obtain ⟨fr', H', h3, h4⟩ := ops_atomic is _ _ K h2
    exact ⟨fr', H', h3, fun K' hk => AWops_of_cons h1 (h4 K' hk)⟩

theorem aw_atomic : ∀ (ac : AC) (K : Post) (fr : Fr) (H : Heap), AW C GT ac K fr H → ∃ e fr' H', K e fr' H' ∧ ∀ K' : Post, K' e fr' H' → AW C GT ac K' fr H := by
  intro ac
  induction ac with
  | skip => intro K fr H h; exact ⟨.normal, fr, H, h, fun _ h => h⟩
  | ret => intro K fr H h; exact ⟨.ret, fr, H, h, fun _ h => h⟩
  | stuck => intro K fr H h; exact h.elim
  | exit id => intro K fr H h; exact ⟨.exit id, fr, H, h, fun _ h => h⟩
  | reg L d is =>
    intro K fr H h
    obtain ⟨fr', H', h1, h2⟩ := ops_atomic is _ _ _ h
    exact ⟨.normal, fr', H', h1, fun K' hk => h2 _ hk⟩
  | seq a b iha ihb =>
    intro K fr H h
    obtain ⟨e, fr1, H1, h1, h2⟩ := iha _ _ _ h
    cases e with
    | normal =>
      obtain ⟨e, fr2, H2, h3, h4⟩ := ihb _ _ _ h1
      exact ⟨e, fr2, H2, h3, fun K' hk => h2 _ (h4 K' hk)⟩
    | exit id => exact ⟨_, fr1, H1, h1, fun K' hk => h2 _ hk⟩
    | ret => exact ⟨_, fr1, H1, h1, fun K' hk => h2 _ hk⟩
  | cond c a b iha ihb =>
    intro K fr H h
    unfold AW at h
    split at h
    · rename_i t ht
      have e : ∀ K', AW C GT (.cond c a b) K' fr H = if t = true then AW C GT a K' (erase fr c) H else AW C GT b K' (erase fr c) H := fun K' => by simp only [AW, ht]
      split at h
      · rename_i htt
        obtain ⟨e1, fr', H', h1, h2⟩ := iha _ _ _ h
        exact ⟨e1, fr', H', h1, fun K' hk => by rw [e, if_pos htt]; exact h2 K' hk⟩
      · rename_i htt
        obtain ⟨e1, fr', H', h1, h2⟩ := ihb _ _ _ h
        exact ⟨e1, fr', H', h1, fun K' hk => by rw [e, if_neg htt]; exact h2 K' hk⟩
    · exact h.elim
  | block id L c ih =>
    intro K fr H h
    obtain ⟨e, fr1, H1, h1, h2⟩ := ih _ _ _ h
    cases e with
    | normal => exact ⟨.normal, _, H1, h1, fun K' hk => h2 _ hk⟩
    | exit j =>
      simp only [blockK] at h1
      split at h1
      · rename_i hj
        exact ⟨.normal, _, H1, h1, fun K' hk => h2 _ (by simp only [blockK, hj, if_true]; exact hk)⟩
      · rename_i hj
        exact ⟨.exit j, _, H1, h1, fun K' hk => h2 _ (by simp only [blockK, hj, if_false]; exact hk)⟩
    | ret => exact ⟨_, fr1, H1, h1, fun K' hk => h2 _ hk⟩
  | loop L c ih =>
    intro K fr H h
    obtain ⟨m, h⟩ := h
    have key : ∀ m fr, ∀ H, loopW (AW C GT c) L K m fr H → ∃ e fr' H', K e fr' H' ∧ ∀ K' : Post, K' e fr' H' → loopW (AW C GT c) L K' m fr H := by
      intro m
      induction m with
      | zero => intro fr H h; exact h.elim
      | succ m ihm =>
        intro fr H h
        obtain ⟨e, fr1, H1, h1, h2⟩ := ih _ _ _ h
        cases e with
        | normal =>
          obtain ⟨e, fr2, H2, h3, h4⟩ := ihm _ _ h1
          exact ⟨e, fr2, H2, h3, fun K' hk => h2 _ (h4 K' hk)⟩
        | exit id => exact ⟨_, fr1, H1, h1, fun K' hk => h2 _ hk⟩
        | ret => exact ⟨_, fr1, H1, h1, fun K' hk => h2 _ hk⟩
    obtain ⟨e, fr', H', h1, h2⟩ := key m _ _ h
    exact ⟨e, fr', H', h1, fun K' hk => ⟨m, h2 K' hk⟩⟩

theorem aw_mono {ac : AC} {K K' : Post} {fr : Fr} {H : Heap} (h : AW C GT ac K fr H) (hk : ∀ e fr H, K e fr H → K' e fr H) : AW C GT ac K' fr H := by
  obtain ⟨e, fr', H', h1, h2⟩ := aw_atomic ac K fr H h
  exact h2 K' (hk _ _ _ h1)

/-- A loop, behind its cut of the frame. -/
def AWL (C : CSpec) (GT : Nat → Option AV) (L : List Nat) (c : AC) (K : Post) (fr : Fr) (H : Heap) : Prop := ∃ m, loopW (AW C GT c) L K m fr H

def loopK (F : Fr → Heap → Prop) (L : List Nat) (K : Post) : Post := fun e fr H => match e with
  | .normal => F (restrict fr L) H
  | e => K e fr H

theorem awl_step {L : List Nat} {c : AC} {K : Post} {fr : Fr} {H : Heap} (h : AW C GT c (loopK (AWL C GT L c K) L K) fr H) : AWL C GT L c K fr H := by
  obtain ⟨e, fr1, H1, h1, h2⟩ := aw_atomic c _ _ _ h
  cases e with
  | normal =>
    obtain ⟨m, h1⟩ := h1
    exact ⟨m + 1, h2 _ h1⟩
  | exit id => exact ⟨1, h2 _ h1⟩
  | ret => exact ⟨1, h2 _ h1⟩

theorem awl_mono {L : List Nat} {c : AC} {K K' : Post} {fr : Fr} {H : Heap} (h : AWL C GT L c K fr H) (hk : ∀ e fr H, K e fr H → K' e fr H) : AWL C GT L c K' fr H := by
  obtain ⟨m, h⟩ := h
  refine ⟨m, ?_⟩
  induction m generalizing fr H with
  | zero => exact h.elim
  | succ m ih =>
    exact aw_mono h fun e fr H h => by
      cases e with
      | normal => exact ih h
      | exit id => exact hk _ _ _ h
      | ret => exact hk _ _ _ h

/-! ### One step at a time, for simp -/

variable {K : Post} {fr : Fr} {H : Heap}

theorem AW_skip : AW C GT .skip K fr H = K .normal fr H := rfl
theorem AW_ret : AW C GT .ret K fr H = K .ret fr H := rfl
theorem AW_exit {id : Nat} : AW C GT (.exit id) K fr H = K (.exit id) fr H := rfl
theorem AW_seq {a b : AC} : AW C GT (.seq a b) K fr H = AW C GT a (seqK (AW C GT b K) K) fr H := rfl
theorem AW_reg {L : List Nat} {d : Bool} {is : List AI} : AW C GT (.reg L d is) K fr H = AWops C GT is (restrict fr L) H fun fr' H' => K .normal fr' H' := rfl
theorem AW_block {id : Nat} {L : List Nat} {c : AC} : AW C GT (.block id L c) K fr H = AW C GT c (blockK id L K) fr H := rfl
theorem AW_loop {L : List Nat} {c : AC} : AW C GT (.loop L c) K fr H = AWL C GT L c K (restrict fr L) H := rfl
theorem AW_cond {c : Opd} {a b : AC} {t : Bool} (h : ev GT fr c = .bool t) : AW C GT (.cond c a b) K fr H = if t = true then AW C GT a K (erase fr c) H else AW C GT b K (erase fr c) H := by
  simp only [AW, h]

theorem AWops_nil {K : Fr → Heap → Prop} : AWops C GT [] fr H K = K fr H := rfl
theorem AWops_free {K : Fr → Heap → Prop} {d : Option Nat} {k : AK} {xs : List Opd} {is : List AI} :
    AWops C GT (⟨d, none, k, xs⟩ :: is) fr H K = stepK C k (xs.map (ev GT fr)) H fun v H' => AWops C GT is (put fr d v) H' K := rfl
theorem AWops_guard {K : Fr → Heap → Prop} {d : Option Nat} {k : AK} {xs : List Opd} {is : List AI} {s : Nat} {want b : Bool} (h : get fr s = .bool b) :
    AWops C GT (⟨d, some (s, want), k, xs⟩ :: is) fr H K = if (b == want) = true then stepK C k (xs.map (ev GT fr)) H fun v H' => AWops C GT is (put fr d v) H' K else AWops C GT is (put fr d (.tup [])) H K := by
  simp only [AWops, h, gd]

end

/-- What is to be checked of a function, in one. -/
def chkF (P : Program) (f : FuncId) (F : AF) : Bool :=
  match P.funcs[f]? with
  | some fn => !(fn.name == "runtime.NumGoroutine") && (match fn.body with
    | some c => chkC P fn.ntmps c F.body && chkR P fn.results.toList F.results
    | none => false)
  | none => false

theorem good_of_chk {P : Program} {GT : Nat → Option AV} (hm : P.follows .mixedOrders = true) {f : FuncId} {F : AF} (hc : chkF P f F = true) {args : List AV} {H : Heap} {v : AV} {H' : Heap} (h : AFun (Good P GT) GT F args H v H') : Good P GT f args H v H' := by
  unfold chkF at hc
  split at hc
  · rename_i fn hf
    simp only [Bool.and_eq_true, Bool.not_eq_true'] at hc
    obtain ⟨h1, hc⟩ := hc
    split at hc
    · rename_i c hb
      simp only [Bool.and_eq_true] at hc
      exact good_of_af hm hf h1 hb hc.1 hc.2 h
    · cases hc
  · cases hc

end Go.AM
