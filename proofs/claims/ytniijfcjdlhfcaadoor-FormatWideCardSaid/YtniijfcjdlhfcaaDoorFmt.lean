/- The contracts of package format's Wide, Column and Number; the law FormatWides. Own work. -/
import Derived.Test.YtniijfcjdlhfcaaDoorErr
import Derived.Lib.Repeat
set_option linter.all false
namespace Go.AM
open Go.Lib (repeatL)

/-! ### What is computed -/

/-- A column's letters. -/
def lettersF : Nat → Nat → List UInt8
  | 0, _ => []
  | f + 1, n => if n = 0 then [] else lettersF f ((n - 1) / 26) ++ [UInt8.ofNat (65 + (n - 1) % 26)]
def letters (n : Nat) : List UInt8 := lettersF n n
def columnV (n : Int) : AV := if n < 1 ∨ n > 1000000 then .tup [.str [], errV 1] else .tup [.str (letters n.toNat), .nili]
def valF (s : List UInt8) : Nat := s.foldl (fun n c => n * 26 + (c.toNat - 64)) 0
def isLetter (c : UInt8) : Prop := 65 ≤ c.toNat ∧ c.toNat ≤ 90
def spaces (n : Nat) : List UInt8 := repeatL [32] n
def wideL (t : List UInt8) (wide : Nat) (side : Int) : List UInt8 :=
  if wide ≤ t.length then t.take wide
  else
    let n := wide - t.length
    let a := if side = 0 then 0 else if side = 1 then n / 2 else n
    spaces a ++ t ++ spaces (n - a)
def wideV (t : List UInt8) (wide side : Int) : AV :=
  if wide < 0 ∨ wide > 200 ∨ side < 0 ∨ side > 2 then .tup [.str [], errV 1] else .tup [.str (wideL t wide.toNat side), .nili]

/-! ### Plain facts -/

theorem letters_fuel : ∀ (f n : Nat), n ≤ f → lettersF f n = lettersF (f + 1) n := by
  intro f
  induction f with
  | zero => intro n h; have : n = 0 := by omega
            subst this; rfl
  | succ f ih =>
    intro n h
    show (if n = 0 then [] else _) = (if n = 0 then [] else _)
    by_cases e : n = 0
    · rw [if_pos e, if_pos e]
    · rw [if_neg e, if_neg e]
      rw [ih ((n - 1) / 26) (by omega)]
theorem letters_fuel2 : ∀ (d f n : Nat), n ≤ f → lettersF f n = lettersF (f + d) n
  | 0, f, n, h => rfl
  | d + 1, f, n, h => by rw [letters_fuel2 d f n h, letters_fuel (f + d) n (by omega)]; rfl
theorem letters_succ (n : Nat) : letters (n + 1) = letters (n / 26) ++ [UInt8.ofNat (65 + n % 26)] := by
  have h : letters (n + 1) = lettersF n (n / 26) ++ [UInt8.ofNat (65 + n % 26)] := by
    show (if n + 1 = 0 then [] else _) = _
    rw [if_neg (by omega)]; rfl
  rw [h]
  have e := letters_fuel2 (n - n / 26) (n / 26) (n / 26) (Nat.le_refl _)
  rw [show n / 26 + (n - n / 26) = n by omega] at e
  rw [← e]; rfl
theorem letter_toNat (k : Nat) (h : k < 26) : (UInt8.ofNat (65 + k)).toNat = 65 + k := by
  rw [UInt8.toNat_ofNat']; omega
theorem letters_are : ∀ (n : Nat), ∀ c ∈ letters n, isLetter c := by
  intro n
  induction n using Nat.strongRecOn with
  | ind n ih =>
    intro c hc
    cases n with
    | zero => simp [letters, lettersF] at hc
    | succ n =>
      rw [letters_succ] at hc
      rcases List.mem_append.1 hc with hc | hc
      · exact ih (n / 26) (by omega) c hc
      · simp only [List.mem_singleton] at hc
        subst hc
        unfold isLetter
        rw [letter_toNat _ (Nat.mod_lt _ (by omega))]
        omega
theorem valF_snoc (s : List UInt8) (c : UInt8) : valF (s ++ [c]) = valF s * 26 + (c.toNat - 64) := by
  simp [valF, List.foldl_append]
theorem valF_letters : ∀ (n : Nat), valF (letters n) = n := by
  intro n
  induction n using Nat.strongRecOn with
  | ind n ih =>
    cases n with
    | zero => rfl
    | succ n =>
      rw [letters_succ, valF_snoc, ih (n / 26) (by omega), letter_toNat _ (Nat.mod_lt _ (by omega))]
      omega

/-- 1, 11, 111 .. to base 26. -/
def rep1 : Nat → Nat
  | 0 => 0
  | k + 1 => rep1 k * 26 + 1
theorem snoc_ind {α : Type} {p : List α → Prop} (h0 : p []) (h1 : ∀ s c, p s → p (s ++ [c])) (s : List α) : p s := by
  have h : ∀ r : List α, p r.reverse := fun r => by
    induction r with
    | nil => exact h0
    | cons a r ih => rw [List.reverse_cons]; exact h1 _ _ ih
  have := h s.reverse
  rwa [List.reverse_reverse] at this
theorem valF_bounds (s : List UInt8) : (∀ c ∈ s, isLetter c) → rep1 s.length ≤ valF s ∧ valF s ≤ 26 * rep1 s.length := by
  refine snoc_ind (p := fun s => (∀ c ∈ s, isLetter c) → rep1 s.length ≤ valF s ∧ valF s ≤ 26 * rep1 s.length) (fun _ => ⟨Nat.le_refl _, Nat.le_refl _⟩) (fun s c ih h => ?_) s
  have hc : isLetter c := h c (by simp)
  obtain ⟨h1, h2⟩ := ih fun d hd => h d (by simp [hd])
  rw [valF_snoc, List.length_append]
  show rep1 (s.length + 1) ≤ _ ∧ _ ≤ 26 * rep1 (s.length + 1)
  unfold isLetter at hc
  simp only [rep1]
  omega
theorem rep1_mono : ∀ {a b : Nat}, a ≤ b → rep1 a ≤ rep1 b
  | a, 0, h => by have : a = 0 := by omega
                  subst this; exact Nat.le_refl _
  | a, b + 1, h => by
    by_cases e : a = b + 1
    · subst e; exact Nat.le_refl _
    · have := @rep1_mono a b (by omega)
      simp only [rep1]; omega
theorem pow_rep1 : ∀ k, 26 ^ k = 25 * rep1 k + 1
  | 0 => rfl
  | k + 1 => by rw [Nat.pow_succ, pow_rep1 k]; simp only [rep1]; omega
theorem foldl_val (s : List UInt8) : ∀ a, s.foldl (fun n c => n * 26 + (c.toNat - 64)) a = a * 26 ^ s.length + valF s := by
  induction s with
  | nil => intro a; simp [valF]
  | cons c s ih =>
    intro a
    have e : valF (c :: s) = (c.toNat - 64) * 26 ^ s.length + valF s := by
      show s.foldl _ (0 * 26 + (c.toNat - 64)) = _
      rw [ih, Nat.zero_mul, Nat.zero_add]
    rw [List.foldl_cons, ih, e, List.length_cons, Nat.pow_succ, Nat.add_mul, Nat.mul_assoc, Nat.mul_comm 26 (26 ^ s.length)]
    omega
theorem valF_cons (c : UInt8) (s : List UInt8) : valF (c :: s) = (c.toNat - 64) * 26 ^ s.length + valF s := by
  show s.foldl _ (0 * 26 + (c.toNat - 64)) = _
  rw [foldl_val, Nat.zero_mul, Nat.zero_add]
theorem val_len {s t : List UInt8} (hs : ∀ c ∈ s, isLetter c) (ht : ∀ c ∈ t, isLetter c) (h : s.length < t.length) : valF s < valF t := by
  have h1 := (valF_bounds s hs).2
  have h2 := (valF_bounds t ht).1
  have h3 := rep1_mono (show s.length + 1 ≤ t.length by omega)
  simp only [rep1] at h3
  omega
theorem val_head {a b : UInt8} {x y : List UInt8} (hx : ∀ c ∈ x, isLetter c) (hy : ∀ c ∈ y, isLetter c) (hl : x.length = y.length) (ha : isLetter a) (hb : isLetter b) (h : a.toNat < b.toNat) : valF (a :: x) < valF (b :: y) := by
  rw [valF_cons, valF_cons, hl]
  have h1 := (valF_bounds x hx).2
  have h2 := (valF_bounds y hy).1
  rw [hl] at h1
  have hp := pow_rep1 y.length
  unfold isLetter at ha hb
  have h3 : (a.toNat - 64 + 1) * 26 ^ y.length ≤ (b.toNat - 64) * 26 ^ y.length := Nat.mul_le_mul_right _ (by omega)
  rw [Nat.add_mul, Nat.one_mul] at h3
  omega
theorem val_lex : ∀ {s t : List UInt8}, (∀ c ∈ s, isLetter c) → (∀ c ∈ t, isLetter c) → s.length = t.length → (Op.bytesLess s t = true ↔ valF s < valF t)
  | [], [], _, _, _ => by simp [Op.bytesLess]
  | [], b :: y, _, _, h => by simp at h
  | a :: x, [], _, _, h => by simp at h
  | a :: x, b :: y, hs, ht, h => by
    have hl : x.length = y.length := by simpa using h
    have hx : ∀ c ∈ x, isLetter c := fun c hc => hs c (List.mem_cons_of_mem _ hc)
    have hy : ∀ c ∈ y, isLetter c := fun c hc => ht c (List.mem_cons_of_mem _ hc)
    have ha := hs a (List.mem_cons_self ..)
    have hb := ht b (List.mem_cons_self ..)
    have ih := val_lex hx hy hl
    simp only [Op.bytesLess, Bool.or_eq_true, Bool.and_eq_true, decide_eq_true_eq, beq_iff_eq]
    rcases Nat.lt_trichotomy a.toNat b.toNat with hab | hab | hab
    · exact ⟨fun _ => val_head hx hy hl ha hb hab, fun _ => .inl (UInt8.lt_iff_toNat_lt.2 hab)⟩
    · have e : a = b := UInt8.toNat_inj.1 hab
      subst e
      rw [valF_cons, valF_cons, hl]
      constructor
      · rintro (h1 | ⟨_, h1⟩)
        · exact absurd h1 (UInt8.lt_irrefl a)
        · have := ih.1 h1; omega
      · intro h1; exact .inr ⟨rfl, ih.2 (by omega)⟩
    · have h1 := val_head hy hx hl.symm hb ha hab
      constructor
      · rintro (h2 | ⟨h2, _⟩)
        · have := UInt8.lt_iff_toNat_lt.1 h2; omega
        · subst h2; omega
      · intro h2; omega

theorem letters_len {n : Nat} (h : n ≤ 1000000) : (letters n).length ≤ 5 := by
  rcases Nat.lt_or_ge 5 (letters n).length with h1 | h1
  · have h2 := (valF_bounds _ (letters_are n)).1
    rw [valF_letters] at h2
    have h3 := rep1_mono (show 6 ≤ (letters n).length by omega)
    have h4 : rep1 6 = 12356631 := by decide
    omega
  · exact h1

/-- The numbers of two columns and their letters stand in the same order. -/
theorem letters_less (a b : Nat) : (decide ((letters a).length < (letters b).length) || ((letters a).length == (letters b).length && Op.bytesLess (letters a) (letters b))) = decide (a < b) := by
  have ha := letters_are a
  have hb := letters_are b
  have va := valF_letters a
  have vb := valF_letters b
  rw [Bool.eq_iff_iff]
  simp only [Bool.or_eq_true, Bool.and_eq_true, decide_eq_true_eq, beq_iff_eq]
  rcases Nat.lt_trichotomy (letters a).length (letters b).length with h | h | h
  · have := val_len ha hb h
    exact ⟨fun _ => by omega, fun _ => .inl h⟩
  · have := val_lex ha hb h
    rw [va, vb] at this
    exact ⟨fun h1 => by rcases h1 with h1 | ⟨_, h1⟩
                        · omega
                        · exact this.1 h1, fun h1 => .inr ⟨h, this.2 h1⟩⟩
  · have := val_len hb ha h
    exact ⟨fun h1 => by rcases h1 with h1 | ⟨h1, _⟩ <;> omega, fun h1 => by omega⟩
end Go.AM
