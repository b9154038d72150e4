/- Values and rows are in an order: plain facts. Own work. -/
import Derived.Test.YtaijlknbeapnhaaDoorSo2
import Derived.Test.YtaijlknbeapnhaaDoorStb
set_option linter.all false
namespace Go.AM

/-- Numbers that hold things against each other. -/
structure CmpFn {α : Type} (c : α → α → Int) : Prop where
  anti : ∀ a b, c b a = - c a b
  trans : ∀ a b d, c a b ≤ 0 → c b d ≤ 0 → c a d ≤ 0

theorem cmpFn_pull {α β : Type} {c : α → α → Int} (h : CmpFn c) (f : β → α) : CmpFn fun a b => c (f a) (f b) := ⟨fun a b => h.anti _ _, fun a b d => h.trans _ _ _⟩
theorem cmpFn_neg {α : Type} {c : α → α → Int} (h : CmpFn c) : CmpFn fun a b => - c a b :=
  ⟨fun a b => by rw [h.anti], fun a b d h1 h2 => by
    have e1 := h.anti a b
    have e2 := h.anti b d
    have e3 := h.anti a d
    have := h.trans d b a (by omega) (by omega)
    omega⟩
theorem cmpFn_zero {α : Type} : CmpFn fun (a b : α) => (0 : Int) := ⟨fun _ _ => rfl, fun _ _ _ _ _ => Int.le_refl _⟩
theorem cmpFn_lex {α : Type} {c d : α → α → Int} (hc : CmpFn c) (hd : CmpFn d) : CmpFn fun a b => if (c a b != 0) = true then c a b else d a b := by
  refine ⟨fun a b => ?_, fun x y z h1 h2 => ?_⟩
  · have e := hc.anti a b
    have e' := hd.anti a b
    simp only [bne_iff_ne, ne_eq]
    split <;> split <;> omega
  · simp only [bne_iff_ne, ne_eq] at h1 h2 ⊢
    have a1 := hc.anti x y
    have a2 := hc.anti y z
    have a3 := hc.anti x z
    have t1 := hc.trans x y z
    have t2 := hc.trans z x y
    have t3 := hc.trans y z x
    have t4 := hd.trans x y z
    have t5 := hc.trans z y x
    have t6 := hc.trans x z y
    have t7 := hc.trans y x z
    split at h1 <;> split at h2 <;> split <;> omega

theorem cmpI_fn : CmpFn cmpI := by
  refine ⟨fun a b => ?_, fun a b d h1 h2 => ?_⟩
  · unfold cmpI; repeat' split
    all_goals omega
  · unfold cmpI at *
    repeat' split at h1
    all_goals repeat' split at h2
    all_goals repeat' split
    all_goals omega

theorem bytesLess_asym : ∀ s t : List UInt8, Op.bytesLess s t = true → Op.bytesLess t s = false
  | _, [], h => by simp [Op.bytesLess] at h
  | [], b :: t, _ => rfl
  | a :: s, b :: t, h => by
    simp only [Op.bytesLess, Bool.or_eq_true, Bool.and_eq_true, decide_eq_true_eq, beq_iff_eq] at h
    simp only [Op.bytesLess, Bool.or_eq_false_iff, Bool.and_eq_false_imp, decide_eq_false_iff_not, beq_iff_eq]
    rcases h with h | ⟨rfl, h⟩
    · refine ⟨fun h' => ?_, fun e => ?_⟩
      · rw [UInt8.lt_iff_toNat_lt] at h h'; omega
      · subst e; exact absurd h (UInt8.lt_irrefl _)
    · exact ⟨UInt8.lt_irrefl _, fun _ => bytesLess_asym s t h⟩
theorem bytesLess_total : ∀ s t : List UInt8, s ≠ t → Op.bytesLess s t = false → Op.bytesLess t s = true
  | [], [], h, _ => absurd rfl h
  | [], b :: t, _, h => by simp [Op.bytesLess] at h
  | a :: s, [], _, _ => rfl
  | a :: s, b :: t, hn, h => by
    simp only [Op.bytesLess, Bool.or_eq_false_iff, Bool.and_eq_false_imp, decide_eq_false_iff_not, beq_iff_eq] at h
    simp only [Op.bytesLess, Bool.or_eq_true, Bool.and_eq_true, decide_eq_true_eq, beq_iff_eq]
    by_cases e : a = b
    · subst e
      exact .inr ⟨rfl, bytesLess_total s t (fun e => hn (by rw [e])) (h.2 rfl)⟩
    · refine .inl ?_
      have h1 := h.1
      rw [UInt8.lt_iff_toNat_lt] at h1 ⊢
      have : a.toNat ≠ b.toNat := fun e' => e (UInt8.toNat_inj.1 e')
      omega
theorem bytesLess_trans : ∀ s t u : List UInt8, Op.bytesLess s t = true → Op.bytesLess t u = true → Op.bytesLess s u = true
  | _, [], _, h, _ => by simp [Op.bytesLess] at h
  | _, _ :: _, [], _, h => by simp [Op.bytesLess] at h
  | [], _ :: _, _ :: _, _, _ => rfl
  | a :: s, b :: t, c :: u, h, k => by
    simp only [Op.bytesLess, Bool.or_eq_true, Bool.and_eq_true, decide_eq_true_eq, beq_iff_eq] at h k ⊢
    rcases h with h | ⟨rfl, h⟩ <;> rcases k with k | ⟨rfl, k⟩
    · refine .inl ?_
      rw [UInt8.lt_iff_toNat_lt] at h k ⊢; omega
    · exact .inl h
    · exact .inl k
    · exact .inr ⟨rfl, bytesLess_trans s t u h k⟩
theorem cmpS_val (a b : List UInt8) : cmpS a b = if Op.bytesLess a b = true then -1 else if a = b then 0 else 1 := by
  unfold cmpS
  split
  · rfl
  · rename_i h
    have : Op.bytesLess a b = false := by simpa using h
    rw [this, Bool.false_or]
    by_cases e : a = b
    · rw [if_pos e, if_neg (by simp [e])]
    · rw [if_neg e, if_pos (by simp [e])]
theorem cmpS_fn : CmpFn cmpS := by
  have le : ∀ a b, cmpS a b ≤ 0 ↔ (Op.bytesLess a b = true ∨ a = b) := fun a b => by
    rw [cmpS_val]
    split
    · rename_i h; exact ⟨fun _ => .inl h, fun _ => by omega⟩
    · rename_i h
      split
      · rename_i e; exact ⟨fun _ => .inr e, fun _ => by omega⟩
      · rename_i e; exact ⟨fun x => by omega, fun x => by rcases x with x | x <;> contradiction⟩
  refine ⟨fun a b => ?_, fun a b d h1 h2 => ?_⟩
  · rw [cmpS_val, cmpS_val]
    by_cases e : a = b
    · subst e; rw [if_neg (by rw [bytesLess_self]; simp), if_pos rfl]; rfl
    · rw [if_neg (fun x => e x.symm) (c := b = a), if_neg e]
      cases h : Op.bytesLess a b with
      | true => rw [bytesLess_asym a b h]; rfl
      | false => rw [bytesLess_total a b e h]; rfl
  · rw [le] at h1 h2 ⊢
    rcases h1 with h1 | rfl
    · rcases h2 with h2 | rfl
      · exact .inl (bytesLess_trans _ _ _ h1 h2)
      · exact .inl h1
    · exact h2

theorem cmpV_fn : CmpFn cmpV :=
  cmpFn_lex (cmpFn_pull cmpI_fn Val.kind) (cmpFn_lex (cmpFn_pull cmpI_fn Val.num) (cmpFn_lex (cmpFn_pull cmpS_fn Val.text) cmpFn_zero))
theorem keyC_fn (k : Key) : CmpFn fun a b : Row => keyC a b k := by
  cases hd : k.down with
  | true =>
    have e : (fun a b : Row => keyC a b k) = fun a b => - cmpV (a.getD k.col.toNat default) (b.getD k.col.toNat default) := by
      funext a b; unfold keyC; rw [if_pos hd]
    rw [e]; exact cmpFn_neg (cmpFn_pull cmpV_fn _)
  | false =>
    have e : (fun a b : Row => keyC a b k) = fun a b => cmpV (a.getD k.col.toNat default) (b.getD k.col.toNat default) := by
      funext a b; unfold keyC; rw [if_neg (by rw [hd]; simp)]
    rw [e]; exact cmpFn_pull cmpV_fn _
theorem cmpK_fn : ∀ ks : List Key, CmpFn fun a b : Row => cmpK a b ks
  | [] => cmpFn_zero
  | k :: ks => cmpFn_lex (keyC_fn k) (cmpK_fn ks)

theorem ltOK_of {c : Nat → Nat → Int} (h : CmpFn c) : LtOK fun x y => decide (c x y < 0) := by
  refine ⟨fun x y h1 => ?_, fun x y z h1 h2 => ?_⟩
  · simp only [decide_eq_true_eq, decide_eq_false_iff_not] at *
    have := h.anti x y
    omega
  · simp only [decide_eq_false_iff_not] at *
    have e1 := h.anti x y
    have e2 := h.anti y z
    have e3 := h.anti x z
    have := h.trans x y z (by omega) (by omega)
    omega

/-- How two rows of a table stand to each other. -/
def rowC (t : List Row) (ks : List Key) (x y : Nat) : Int := cmpK (t.getD x []) (t.getD y []) ks
theorem rowC_fn (t : List Row) (ks : List Key) : CmpFn (rowC t ks) := cmpFn_pull (cmpK_fn ks) _

end Go.AM
