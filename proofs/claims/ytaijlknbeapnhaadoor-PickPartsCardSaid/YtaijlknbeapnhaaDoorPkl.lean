/- The plain law of PickParts. Own work. -/
import Derived.Test.YtaijlknbeapnhaaDoorPku
set_option linter.all false
namespace Go.AM

def ctr (op : Int) : Int := if op = 1 then 2 else if op = 2 then 1 else if op = 3 then 6 else if op = 4 then 5 else if op = 5 then 4 else if op = 6 then 3 else op

theorem opB_ctr {op c : Int} (h1 : 1 ≤ op) (h6 : op ≤ 6) : opB (ctr op) c = !opB op c := by
  have hop : op = 1 ∨ op = 2 ∨ op = 3 ∨ op = 4 ∨ op = 5 ∨ op = 6 := by omega
  have e1 : decide (c ≥ 0) = !decide (c < 0) := by by_cases h : c < 0 <;> simp [h] <;> omega
  have e2 : decide (c > 0) = !decide (c ≤ 0) := by by_cases h : c ≤ 0 <;> simp [h] <;> omega
  rcases hop with rfl | rfl | rfl | rfl | rfl | rfl
  · show (c != 0) = !(c == 0); rfl
  · show (c == 0) = !(c != 0); simp [bne]
  · show decide (c ≥ 0) = !decide (c < 0); exact e1
  · show decide (c > 0) = !decide (c ≤ 0); exact e2
  · show decide (c ≤ 0) = !decide (c > 0); rw [e2, Bool.not_not]
  · show decide (c < 0) = !decide (c ≥ 0); rw [e1, Bool.not_not]

theorem ctr_in {op : Int} (h1 : 1 ≤ op) (h6 : op ≤ 6) : 1 ≤ ctr op ∧ ctr op ≤ 6 := by
  have hop : op = 1 ∨ op = 2 ∨ op = 3 ∨ op = 4 ∨ op = 5 ∨ op = 6 := by omega
  rcases hop with rfl | rfl | rfl | rfl | rfl | rfl <;> decide

def badIn (r : Row) (w : Want) : Bool := (r.getD w.col.toNat default).kind == 4 || w.val.kind == 4

theorem meet_bad {r : Row} {w : Want} (h : badIn r w = true) : meet r w = false := by
  unfold badIn at h
  unfold meet twoC
  simp only [Bool.or_eq_true, beq_iff_eq] at h
  by_cases h1 : (r.getD w.col.toNat default).kind = 4
  · rw [if_pos h1, h1]; rfl
  · rw [if_neg h1]
    have h2 := h.resolve_left h1
    rw [if_pos h2, h2]; rfl

theorem meet_good {r : Row} {w : Want} (h : badIn r w = false) : meet r w = opB w.op (cmpV (likeV (r.getD w.col.toNat default) w.val) (likeV w.val (r.getD w.col.toNat default))) := by
  unfold badIn at h
  simp only [Bool.or_eq_false_iff, beq_eq_false_iff_ne] at h
  unfold meet twoC
  rw [if_neg h.1, if_neg h.2]
  cases opB w.op (cmpV (likeV (r.getD w.col.toNat default) w.val) (likeV w.val (r.getD w.col.toNat default))) <;> rfl

theorem meet_ctr {r : Row} {w : Want} (h1 : 1 ≤ w.op) (h6 : w.op ≤ 6) (h : badIn r w = false) : meet r { w with op := ctr w.op } = !meet r w := by
  rw [meet_good h, meet_good (w := { w with op := ctr w.op }) h]
  exact opB_ctr h1 h6

/-- One want: whoever meets all meets it. -/
theorem all_one (r : Row) (w : Want) : enAll [w] (meetN r [w]) = meet r w := by
  unfold enAll meetN
  cases h : meet r w <;> simp [h]

/-- A want and its contrary. -/
theorem parts_len (t : List Row) (w : Want) (h1 : 1 ≤ w.op) (h6 : w.op ≤ 6) : ∀ n, n ≤ t.length →
    (pickL t [w] (enAll [w]) n).length + (pickL t [{ w with op := ctr w.op }] (enAll [{ w with op := ctr w.op }]) n).length + ((List.range n).filter fun i => badIn (t.getD i []) w).length = n := by
  intro n
  induction n with
  | zero => intro _; rfl
  | succ n ih =>
    intro hn
    have := ih (by omega)
    rw [pickL_succ, pickL_succ, all_one, all_one, List.range_succ, List.filter_append, List.length_append]
    by_cases hb : badIn (t.getD n []) w = true
    · have hb2 : badIn (t.getD n []) { w with op := ctr w.op } = true := hb
      rw [meet_bad hb, meet_bad hb2]
      simp only [Bool.false_eq_true, if_false, List.filter_cons, hb, if_true, List.filter_nil, List.length_cons, List.length_nil]
      omega
    · have hb : badIn (t.getD n []) w = false := by simpa using hb
      rw [meet_ctr h1 h6 hb]
      simp only [List.filter_cons, hb, Bool.false_eq_true, if_false, List.filter_nil, List.length_nil]
      cases meet (t.getD n []) w <;> simp only [Bool.not_true, Bool.not_false, Bool.false_eq_true, if_false, if_true, List.length_append, List.length_cons, List.length_nil] <;> omega

/-- Whoever meets all of one want or more meets any. -/
theorem all_any {t : List Row} {l : List Want} (hl : l ≠ []) {n i : Nat} (h : i ∈ pickL t l (enAll l) n) : i ∈ pickL t l enAny n := by
  unfold pickL at h ⊢
  rw [List.mem_filter] at h ⊢
  refine ⟨h.1, ?_⟩
  have := h.2
  unfold enAll at this
  unfold enAny
  have hp : 0 < l.length := List.length_pos_iff.2 hl
  simp only [beq_iff_eq, decide_eq_true_eq] at this ⊢
  omega

theorem pickL_sorted (t : List Row) (l : List Want) (en : Nat → Bool) (n : Nat) : (pickL t l en n).Pairwise (· < ·) := List.Pairwise.filter _ List.pairwise_lt_range
end Go.AM
