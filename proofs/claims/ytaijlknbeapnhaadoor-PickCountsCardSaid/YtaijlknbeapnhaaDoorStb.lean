/- Stable sorting in place, by insertion and by merging with rotations: plain facts, no program in sight. Own work. -/
import Derived.Test.YtaijlknbeapnhaaDoorAm22
set_option linter.all false
namespace Go.AM

/-- An order in which things may be alike. -/
structure LtOK (lt : Nat → Nat → Bool) : Prop where
  asym : ∀ x y, lt x y = true → lt y x = false
  le : ∀ x y z, lt y x = false → lt z y = false → lt z x = false

/-- Ahead; of what is alike the lesser number is. -/
def Bef (lt : Nat → Nat → Bool) (x y : Nat) : Prop := lt x y = true ∨ (lt y x = false ∧ x < y)

section
variable {lt : Nat → Nat → Bool} (hl : LtOK lt)
include hl

theorem lt_irr (x : Nat) : lt x x = false := by
  cases h : lt x x with
  | false => rfl
  | true => have := hl.asym x x h; rw [h] at this; cases this
theorem lt_le {x y z : Nat} (h : lt x y = true) (k : lt z y = false) : lt x z = true := by
  cases e : lt x z with
  | true => rfl
  | false => have := hl.le y z x k e; rw [h] at this; cases this
theorem le_lt {x y z : Nat} (h : lt y x = false) (k : lt y z = true) : lt x z = true := by
  cases e : lt x z with
  | true => rfl
  | false => have := hl.le z x y e h; rw [k] at this; cases this
theorem Bef.trans {x y z : Nat} (h : Bef lt x y) (k : Bef lt y z) : Bef lt x z := by
  rcases h with h | ⟨h, h'⟩ <;> rcases k with k | ⟨k, k'⟩
  · exact .inl (lt_le hl h (hl.asym _ _ k))
  · exact .inl (lt_le hl h k)
  · exact .inl (le_lt hl h k)
  · exact .inr ⟨hl.le _ _ _ h k, by omega⟩
theorem Bef.ne {x y : Nat} (h : Bef lt x y) : x ≠ y := by
  intro e; subst e
  rcases h with h | ⟨_, h⟩
  · rw [lt_irr hl] at h; cases h
  · omega
theorem Bef.asymm {x y : Nat} (h : Bef lt x y) (k : Bef lt y x) : False := Bef.ne hl (Bef.trans hl h k) rfl
theorem Bef.total {x y : Nat} (h : x ≠ y) : Bef lt x y ∨ Bef lt y x := by
  cases e : lt x y with
  | true => exact .inl (.inl e)
  | false =>
    cases e' : lt y x with
    | true => exact .inr (.inl e')
    | false =>
      rcases Nat.lt_or_gt_of_ne h with h | h
      · exact .inl (.inr ⟨e', h⟩)
      · exact .inr (.inr ⟨e, h⟩)
end
theorem Bef.of_lt {lt : Nat → Nat → Bool} {x y : Nat} (h : lt x y = true) : Bef lt x y := .inl h
theorem Bef.of_not {lt : Nat → Nat → Bool} {x y : Nat} (h : lt y x = false) (k : x < y) : Bef lt x y := .inr ⟨h, k⟩

/-! ### Pieces of rows -/

def sg (f : Nat → Nat) (a b : Nat) : List Nat := (List.range' a (b - a)).map f
theorem sg_split (f : Nat → Nat) {a m b : Nat} (h : a ≤ m) (k : m ≤ b) : sg f a b = sg f a m ++ sg f m b := by
  unfold sg
  rw [← List.map_append]
  congr 1
  have e : List.range' a (m - a) ++ List.range' (a + 1 * (m - a)) (b - m) = List.range' a (m - a + (b - m)) := List.range'_append
  rw [show a + 1 * (m - a) = m by omega, show m - a + (b - m) = b - a by omega] at e
  exact e.symm
theorem sg_congr {f g : Nat → Nat} {a b : Nat} (h : ∀ i, a ≤ i → i < b → f i = g i) : sg f a b = sg g a b := by
  unfold sg
  apply List.map_congr_left
  intro i hi
  rw [List.mem_range'_1] at hi
  exact h i hi.1 (by omega)
theorem sg_shift {f g : Nat → Nat} {a b c d : Nat} (hn : b - a = d - c) (h : ∀ k, k < b - a → f (a + k) = g (c + k)) : sg f a b = sg g c d := by
  unfold sg
  apply List.ext_getElem
  · simp [hn]
  · intro i h1 h2
    simp only [List.length_map, List.length_range'] at h1
    simp only [List.getElem_map, List.getElem_range', Nat.one_mul]
    exact h i h1
theorem sg_mem {f : Nat → Nat} {a b x : Nat} : x ∈ sg f a b ↔ ∃ i, a ≤ i ∧ i < b ∧ f i = x := by
  unfold sg
  simp only [List.mem_map, List.mem_range'_1]
  constructor
  · rintro ⟨i, h1, h2⟩; exact ⟨i, h1.1, by omega, h2⟩
  · rintro ⟨i, h1, h2, h3⟩; exact ⟨i, ⟨h1, by omega⟩, h3⟩

/-- From a on up to b the same in another order; elsewhere the same. -/
def PermOn (f g : Nat → Nat) (a b : Nat) : Prop := (∀ k, ¬ (a ≤ k ∧ k < b) → g k = f k) ∧ (sg g a b).Perm (sg f a b)

theorem PermOn.refl (f : Nat → Nat) (a b : Nat) : PermOn f f a b := ⟨fun _ _ => rfl, List.Perm.refl _⟩
theorem PermOn.trans {f g h : Nat → Nat} {a b : Nat} (p : PermOn f g a b) (q : PermOn g h a b) : PermOn f h a b :=
  ⟨fun k hk => (q.1 k hk).trans (p.1 k hk), q.2.trans p.2⟩
theorem PermOn.wide {f g : Nat → Nat} {a b a' b' : Nat} (p : PermOn f g a b) (hab : a ≤ b) (h : a' ≤ a) (k : b ≤ b') : PermOn f g a' b' := by
  refine ⟨fun i hi => p.1 i (by omega), ?_⟩
  rw [sg_split g (a := a') (m := a) (b := b') h (by omega), sg_split g (a := a) (m := b) (b := b') hab k, sg_split f (a := a') (m := a) (b := b') h (by omega), sg_split f (a := a) (m := b) (b := b') hab k]
  rw [sg_congr (f := g) (g := f) (a := a') (b := a) (fun i _ hi => p.1 i (by omega)), sg_congr (f := g) (g := f) (a := b) (b := b') (fun i hi _ => p.1 i (by omega))]
  exact (p.2.append_right _).append_left _
theorem PermOn.mem {f g : Nat → Nat} {a b i : Nat} (p : PermOn f g a b) (h : a ≤ i) (k : i < b) : ∃ j, a ≤ j ∧ j < b ∧ f j = g i :=
  sg_mem.1 (p.2.mem_iff.1 (sg_mem.2 ⟨i, h, k, rfl⟩))

/-- [a, m) and [m, b) change places. -/
def rotF (f : Nat → Nat) (a m b : Nat) : Nat → Nat := fun k => if a ≤ k ∧ k < a + (b - m) then f (k + (m - a)) else if a + (b - m) ≤ k ∧ k < b then f (k - (b - m)) else f k

theorem rotF_lo {f : Nat → Nat} {a m b k : Nat} (h : a ≤ k) (h2 : k < a + (b - m)) : rotF f a m b k = f (k + (m - a)) := by unfold rotF; rw [if_pos ⟨h, h2⟩]
theorem rotF_hi {f : Nat → Nat} {a m b k : Nat} (h : a + (b - m) ≤ k) (h2 : k < b) : rotF f a m b k = f (k - (b - m)) := by unfold rotF; rw [if_neg (by omega), if_pos ⟨h, h2⟩]
theorem rotF_out {f : Nat → Nat} {a m b k : Nat} (ha : a ≤ m) (hb : m ≤ b) (h : ¬ (a ≤ k ∧ k < b)) : rotF f a m b k = f k := by unfold rotF; rw [if_neg (by omega), if_neg (by omega)]
theorem rotF_nil1 (f : Nat → Nat) (m b : Nat) : rotF f m m b = f := by
  funext k; unfold rotF
  split
  · congr 1; omega
  · split
    · omega
    · rfl
theorem rotF_nil2 (f : Nat → Nat) (a m : Nat) : rotF f a m m = f := by
  funext k; unfold rotF
  split
  · omega
  · split
    · congr 1; omega
    · rfl
theorem rotF_perm (f : Nat → Nat) {a m b : Nat} (ha : a ≤ m) (hb : m ≤ b) : PermOn f (rotF f a m b) a b := by
  refine ⟨fun k hk => rotF_out ha hb hk, ?_⟩
  rw [sg_split (rotF f a m b) (a := a) (m := a + (b - m)) (b := b) (by omega) (by omega), sg_split f (a := a) (m := m) (b := b) ha hb]
  rw [sg_shift (f := rotF f a m b) (g := f) (a := a) (b := a + (b - m)) (c := m) (d := b) (by omega) (fun k hk => by rw [rotF_lo (by omega) (by omega)]; congr 1; omega)]
  rw [sg_shift (f := rotF f a m b) (g := f) (a := a + (b - m)) (b := b) (c := a) (d := m) (by omega) (fun k hk => by rw [rotF_hi (by omega) (by omega)]; congr 1; omega)]
  exact List.perm_append_comm

/-- Two ranges as long change places. -/
def swpF (f : Nat → Nat) (a c n : Nat) : Nat → Nat := fun k => if a ≤ k ∧ k < a + n then f (k + (c - a)) else if c ≤ k ∧ k < c + n then f (k - (c - a)) else f k

theorem swpF_zero (f : Nat → Nat) (a c : Nat) : swpF f a c 0 = f := by
  funext k; unfold swpF; rw [if_neg (by omega), if_neg (by omega)]
theorem swpF_succ (f : Nat → Nat) {a c n : Nat} (h : a + n < c) : upd (upd (swpF f a c n) (a + n) (swpF f a c n (c + n))) (c + n) (swpF f a c n (a + n)) = swpF f a c (n + 1) := by
  funext k
  simp only [upd, swpF]
  repeat' split
  all_goals first
    | omega
    | (congr 1; omega)
    | rfl

/-- A rotation begun: [m - i, m) and [m, m + j) are still to change places. -/
theorem rot_left (f : Nat → Nat) {m i j : Nat} (hi : i ≤ m) (h : j < i) : rotF (swpF f (m - i) m j) (m - i + j) m (m + j) = rotF f (m - i) m (m + j) := by
  funext k
  simp only [rotF, swpF]
  repeat' split
  all_goals first
    | omega
    | (congr 1; omega)
    | rfl
theorem rot_right (f : Nat → Nat) {m i j : Nat} (hi : i ≤ m) (h : i < j) : rotF (swpF f (m - i) (m + j - i) i) (m - i) m (m + (j - i)) = rotF f (m - i) m (m + j) := by
  funext k
  simp only [rotF, swpF]
  repeat' split
  all_goals first
    | omega
    | (congr 1; omega)
    | rfl
theorem rot_same (f : Nat → Nat) {m i : Nat} (hi : i ≤ m) : swpF f (m - i) m i = rotF f (m - i) m (m + i) := by
  funext k
  simp only [rotF, swpF]
  repeat' split
  all_goals first
    | omega
    | (congr 1; omega)
    | rfl
/-- A neighbour is passed by what goes down. -/
theorem ins_down (f : Nat → Nat) {j i : Nat} (hj : 0 < j) (h : j ≤ i) : upd (upd (rotF f j i (i + 1)) j (rotF f j i (i + 1) (j - 1))) (j - 1) (rotF f j i (i + 1) j) = rotF f (j - 1) i (i + 1) := by
  funext k
  simp only [rotF, upd]
  repeat' split
  all_goals first
    | omega
    | (congr 1; omega)
    | rfl
/-- .. by what goes up. -/
theorem ins_up (f : Nat → Nat) {a k : Nat} (h : a ≤ k) : upd (upd (rotF f a (a + 1) (k + 1)) k (rotF f a (a + 1) (k + 1) (k + 1))) (k + 1) (rotF f a (a + 1) (k + 1) k) = rotF f a (a + 1) (k + 2) := by
  funext i
  simp only [rotF, upd]
  repeat' split
  all_goals first
    | omega
    | (congr 1; omega)
    | rfl

/-! ### Sorted pieces -/

def SrtOn (lt : Nat → Nat → Bool) (f : Nat → Nat) (a b : Nat) : Prop := ∀ i j, a ≤ i → i < j → j < b → Bef lt (f i) (f j)

theorem SrtOn.sub {lt : Nat → Nat → Bool} {f : Nat → Nat} {a b a' b' : Nat} (h : SrtOn lt f a b) (h1 : a ≤ a') (h2 : b' ≤ b) : SrtOn lt f a' b' := fun i j hi hij hj => h i j (by omega) hij (by omega)
theorem SrtOn.congr {lt : Nat → Nat → Bool} {f g : Nat → Nat} {a b : Nat} (h : SrtOn lt f a b) (hg : ∀ k, a ≤ k → k < b → g k = f k) : SrtOn lt g a b := fun i j hi hij hj => by
  rw [hg i hi (by omega), hg j (by omega) hj]; exact h i j hi hij hj

/-- One more comes in by insertion: at j all behind is behind it, and what is just ahead is ahead. -/
theorem ins_sorted {lt : Nat → Nat → Bool} (hl : LtOK lt) {f : Nat → Nat} {a i j : Nat} (hs : SrtOn lt f a i) (ha : a ≤ j) (hj : j ≤ i) (hb : ∀ k, j ≤ k → k < i → Bef lt (f i) (f k)) (hc : a < j → Bef lt (f (j - 1)) (f i)) : SrtOn lt (rotF f j i (i + 1)) a (i + 1) := by
  have below : ∀ p, a ≤ p → p < j → Bef lt (f p) (f i) := fun p h1 h2 => by
    by_cases e : p = j - 1
    · subst e; exact hc (by omega)
    · exact Bef.trans hl (hs p (j - 1) h1 (by omega) (by omega)) (hc (by omega))
  have val : ∀ p, rotF f j i (i + 1) p = if p = j then f i else if j < p ∧ p ≤ i then f (p - 1) else f p := fun p => by
    unfold rotF
    repeat' split
    all_goals first
      | omega
      | (congr 1; omega)
      | rfl
  intro p q hp hpq hq
  rw [val, val]
  repeat' split
  all_goals first
    | omega
    | (exact hb _ (by omega) (by omega))
    | (exact below _ (by omega) (by omega))
    | (exact hs _ _ (by omega) (by omega) (by omega))

/-- The first one goes in among the others. -/
theorem ins_first {lt : Nat → Nat → Bool} (hl : LtOK lt) {f : Nat → Nat} {a i e : Nat} (hs : SrtOn lt f (a + 1) e) (hi : a + 1 ≤ i) (hie : i ≤ e) (hlow : a + 1 < i → lt (f (i - 1)) (f a) = true) (hhigh : i < e → Bef lt (f a) (f i)) : SrtOn lt (rotF f a (a + 1) i) a e := by
  have below : ∀ p, a + 1 ≤ p → p < i → Bef lt (f p) (f a) := fun p h1 h2 => by
    by_cases e : p = i - 1
    · subst e; exact .inl (hlow (by omega))
    · exact Bef.trans hl (hs p (i - 1) h1 (by omega) (by omega)) (.inl (hlow (by omega)))
  have above : ∀ p, i ≤ p → p < e → Bef lt (f a) (f p) := fun p h1 h2 => by
    by_cases e : p = i
    · subst e; exact hhigh h2
    · exact Bef.trans hl (hhigh (by omega)) (hs i p (by omega) (by omega) h2)
  have val : ∀ p, rotF f a (a + 1) i p = if a ≤ p ∧ p < i - 1 then f (p + 1) else if p = i - 1 then f a else f p := fun p => by
    unfold rotF
    repeat' split
    all_goals first
      | omega
      | (congr 1; omega)
      | rfl
  intro p q hp hpq hq
  rw [val, val]
  repeat' split
  all_goals first
    | omega
    | (exact hs _ _ (by omega) (by omega) (by omega))
    | (exact below _ (by omega) (by omega))
    | (exact above _ (by omega) (by omega))

/-- What is cut at both middles and rotated: all of the left half is ahead of all of the right half. -/
structure CutOK (lt : Nat → Nat → Bool) (f : Nat → Nat) (a m b s : Nat) : Prop where
  lo : (a + b) / 2 + m - b ≤ s
  lo' : a ≤ s
  hi : s ≤ (a + b) / 2
  hi' : s ≤ m
  low : a < s → (a + b) / 2 + m - s < b → lt (f ((a + b) / 2 + m - s)) (f (s - 1)) = false
  high : s < m → s < (a + b) / 2 → lt (f ((a + b) / 2 + m - 1 - s)) (f s) = true

theorem cut_halves {lt : Nat → Nat → Bool} (hl : LtOK lt) {f : Nat → Nat} {a m b s : Nat} (ham : a < m) (hmb : m < b) (h1 : SrtOn lt f a m) (h2 : SrtOn lt f m b) (ht : ∀ i j, a ≤ i → i < m → m ≤ j → j < b → f i < f j) (hc : CutOK lt f a m b s) :
    ∀ i j, a ≤ i → i < (a + b) / 2 → (a + b) / 2 ≤ j → j < b → Bef lt (rotF f s m ((a + b) / 2 + m - s) i) (rotF f s m ((a + b) / 2 + m - s) j) := by
  obtain ⟨c1, c2, c3, c4, c5, c6⟩ := hc
  generalize hmid : (a + b) / 2 = mid at *
  have hm1 : a ≤ mid ∧ mid < b := by omega
  -- the least of the right high end; the greatest of the left low one
  have LL : ∀ p q, a ≤ p → p < s → s ≤ q → q < m → Bef lt (f p) (f q) := fun p q h3 h4 h5 h6 => h1 p q h3 (by omega) h6
  have RR : ∀ p q, m ≤ p → p < mid + m - s → mid + m - s ≤ q → q < b → Bef lt (f p) (f q) := fun p q h3 h4 h5 h6 => h2 p q h3 (by omega) h6
  have LR : ∀ p q, a ≤ p → p < s → mid + m - s ≤ q → q < b → Bef lt (f p) (f q) := fun p q h3 h4 h5 h6 => by
    have e : Bef lt (f (s - 1)) (f (mid + m - s)) := Bef.of_not (c5 (by omega) (by omega)) (ht _ _ (by omega) (by omega) (by omega) (by omega))
    have e1 : Bef lt (f p) (f (mid + m - s)) := by
      by_cases x : p = s - 1
      · rw [x]; exact e
      · exact Bef.trans hl (h1 p (s - 1) h3 (by omega) (by omega)) e
    by_cases x : q = mid + m - s
    · rw [x]; exact e1
    · exact Bef.trans hl e1 (h2 (mid + m - s) q (by omega) (by omega) h6)
  have RL : ∀ p q, m ≤ p → p < mid + m - s → s ≤ q → q < m → Bef lt (f p) (f q) := fun p q h3 h4 h5 h6 => by
    have e : Bef lt (f (mid + m - 1 - s)) (f s) := Bef.of_lt (c6 (by omega) (by omega))
    have e1 : Bef lt (f p) (f s) := by
      by_cases x : p = mid + m - 1 - s
      · rw [x]; exact e
      · exact Bef.trans hl (h2 p (mid + m - 1 - s) h3 (by omega) (by omega)) e
    by_cases x : q = s
    · rw [x]; exact e1
    · exact Bef.trans hl e1 (h1 s q (by omega) (by omega) h6)
  have vlo : ∀ i, a ≤ i → i < mid → rotF f s m (mid + m - s) i = if i < s then f i else f (i + (m - s)) := fun i h3 h4 => by
    unfold rotF
    repeat' split
    all_goals first
      | omega
      | (congr 1; omega)
      | rfl
  have vhi : ∀ j, mid ≤ j → j < b → rotF f s m (mid + m - s) j = if j < mid + m - s then f (j - (mid - s)) else f j := fun j h3 h4 => by
    unfold rotF
    repeat' split
    all_goals first
      | omega
      | (congr 1; omega)
      | rfl
  intro i j h3 h4 h5 h6
  rw [vlo i h3 h4, vhi j h5 h6]
  repeat' split
  · exact LL _ _ (by omega) (by omega) (by omega) (by omega)
  · exact LR _ _ (by omega) (by omega) (by omega) (by omega)
  · exact RL _ _ (by omega) (by omega) (by omega) (by omega)
  · exact RR _ _ (by omega) (by omega) (by omega) (by omega)

/-- What the halves are for the two merges. -/
theorem cut_parts {lt : Nat → Nat → Bool} {f : Nat → Nat} {a m b s : Nat} (ham : a < m) (hmb : m < b) (h1 : SrtOn lt f a m) (h2 : SrtOn lt f m b) (ht : ∀ i j, a ≤ i → i < m → m ≤ j → j < b → f i < f j)
    (c1 : (a + b) / 2 + m - b ≤ s) (c2 : a ≤ s) (c3 : s ≤ (a + b) / 2) (c4 : s ≤ m) :
    SrtOn lt (rotF f s m ((a + b) / 2 + m - s)) a s ∧ SrtOn lt (rotF f s m ((a + b) / 2 + m - s)) s ((a + b) / 2) ∧ SrtOn lt (rotF f s m ((a + b) / 2 + m - s)) ((a + b) / 2) ((a + b) / 2 + m - s) ∧ SrtOn lt (rotF f s m ((a + b) / 2 + m - s)) ((a + b) / 2 + m - s) b ∧
    (∀ i j, a ≤ i → i < s → s ≤ j → j < (a + b) / 2 → rotF f s m ((a + b) / 2 + m - s) i < rotF f s m ((a + b) / 2 + m - s) j) ∧
    (∀ i j, (a + b) / 2 ≤ i → i < (a + b) / 2 + m - s → (a + b) / 2 + m - s ≤ j → j < b → rotF f s m ((a + b) / 2 + m - s) i < rotF f s m ((a + b) / 2 + m - s) j) := by
  generalize hmid : (a + b) / 2 = mid at *
  have hm1 : a ≤ mid ∧ mid < b := by omega
  have v1 : ∀ i, i < s → rotF f s m (mid + m - s) i = f i := fun i h => rotF_out (by omega) (by omega) (by omega)
  have v2 : ∀ i, s ≤ i → i < mid → rotF f s m (mid + m - s) i = f (i + (m - s)) := fun i h k => rotF_lo h (by omega)
  have v3 : ∀ i, mid ≤ i → i < mid + m - s → rotF f s m (mid + m - s) i = f (i - (mid - s)) := fun i h k => by rw [rotF_hi (by omega) k]; congr 1; omega
  have v4 : ∀ i, mid + m - s ≤ i → rotF f s m (mid + m - s) i = f i := fun i h => rotF_out (by omega) (by omega) (by omega)
  refine ⟨fun i j hi hij hj => ?_, fun i j hi hij hj => ?_, fun i j hi hij hj => ?_, fun i j hi hij hj => ?_, fun i j hi hi2 hj hj2 => ?_, fun i j hi hi2 hj hj2 => ?_⟩
  · rw [v1 i (by omega), v1 j hj]; exact h1 i j hi hij (by omega)
  · rw [v2 i hi (by omega), v2 j (by omega) hj]; exact h2 _ _ (by omega) (by omega) (by omega)
  · rw [v3 i hi (by omega), v3 j (by omega) hj]; exact h1 _ _ (by omega) (by omega) (by omega)
  · rw [v4 i hi, v4 j (by omega)]; exact h2 i j (by omega) hij hj
  · rw [v1 i hi2, v2 j hj hj2]; exact ht _ _ (by omega) (by omega) (by omega) (by omega)
  · rw [v3 i hi hi2, v4 j hj]; exact ht _ _ (by omega) (by omega) (by omega) (by omega)

/-- Two halves, each put in order by itself. -/
theorem join_halves {lt : Nat → Nat → Bool} {f g : Nat → Nat} {a c b : Nat} (hac : a ≤ c) (hcb : c ≤ b) (hx : ∀ i j, a ≤ i → i < c → c ≤ j → j < b → Bef lt (f i) (f j)) (h1 : SrtOn lt g a c) (h2 : SrtOn lt g c b)
    (p1 : ∀ i, a ≤ i → i < c → ∃ k, a ≤ k ∧ k < c ∧ f k = g i) (p2 : ∀ i, c ≤ i → i < b → ∃ k, c ≤ k ∧ k < b ∧ f k = g i) : SrtOn lt g a b := by
  intro i j hi hij hj
  by_cases h3 : j < c
  · exact h1 i j hi hij h3
  by_cases h4 : c ≤ i
  · exact h2 i j h4 hij hj
  obtain ⟨k, k1, k2, k3⟩ := p1 i hi (by omega)
  obtain ⟨l, l1, l2, l3⟩ := p2 j (by omega) hj
  rw [← k3, ← l3]
  exact hx k l k1 k2 l1 l2

/-! ### Blocks -/

/-- Within each block of w places what stands there is in order. -/
def SrtBlk (lt : Nat → Nat → Bool) (w : Nat) (f : Nat → Nat) (a b : Nat) : Prop := ∀ i j, a ≤ i → i < j → j < b → i / w = j / w → Bef lt (f i) (f j)
theorem div_is {w q i : Nat} (h : q * w ≤ i) (k : i < q * w + w) : i / w = q := by
  apply Nat.div_eq_of_lt_le
  · exact h
  · rw [Nat.add_mul, Nat.one_mul]; exact k
theorem div_bounds {w i : Nat} (hw : 0 < w) : i / w * w ≤ i ∧ i < i / w * w + w := by
  have h1 := Nat.div_add_mod i w
  have h2 := Nat.mod_lt i hw
  rw [Nat.mul_comm] at h1
  omega
theorem div_two {w i j : Nat} (h : i / w = j / w) : i / (2 * w) = j / (2 * w) := by
  rw [Nat.mul_comm 2 w, ← Nat.div_div_eq_div_mul, ← Nat.div_div_eq_div_mul, h]

/-- Blocks of 2 w done up to a, blocks of w behind. -/
structure BlkSt (lt : Nat → Nat → Bool) (n w a : Nat) (f : Nat → Nat) : Prop where
  mul : ∃ k, a = k * (2 * w)
  done : SrtBlk lt (2 * w) f 0 a
  todo : SrtBlk lt w f a n
  perm : PermOn (fun i => i) f 0 n
  t1 : ∀ i, a ≤ i → i < n → f i / w = i / w
  t2 : ∀ i, i < n → f i / (2 * w) = i / (2 * w)

theorem blk_in {w k i : Nat} (h : k * (2 * w) ≤ i) (h2 : i < k * (2 * w) + 2 * w) : i / (2 * w) = k := div_is h h2
theorem blk_lo {w k i : Nat} (h : k * (2 * w) ≤ i) (h2 : i < k * (2 * w) + w) : i / w = 2 * k := by
  have e : k * (2 * w) = 2 * k * w := by rw [Nat.mul_comm 2 k, Nat.mul_assoc]
  rw [e] at h h2
  exact div_is h h2
theorem blk_hi {w k i : Nat} (h : k * (2 * w) + w ≤ i) (h2 : i < k * (2 * w) + 2 * w) : i / w = 2 * k + 1 := by
  have e : k * (2 * w) = 2 * k * w := by rw [Nat.mul_comm 2 k, Nat.mul_assoc]
  have e2 : (2 * k + 1) * w = 2 * k * w + w := by rw [Nat.add_mul, Nat.one_mul]
  rw [e] at h h2
  exact div_is (by omega) (by omega)
theorem BlkSt.mrg {lt : Nat → Nat → Bool} {n w a e : Nat} {f : Nat → Nat} (S : BlkSt lt n w a f) (he : e ≤ a + 2 * w) (hen : e ≤ n) (hae : a + w ≤ e) : SrtOn lt f a (a + w) ∧ SrtOn lt f (a + w) e ∧ ∀ i j, a ≤ i → i < a + w → a + w ≤ j → j < e → f i < f j := by
  obtain ⟨k, hk⟩ := S.mul
  refine ⟨fun i j hi hij hj => S.todo i j hi hij (by omega) ?_, fun i j hi hij hj => S.todo i j (by omega) hij (by omega) ?_, fun i j i1 i2 j1 j2 => ?_⟩
  · rw [blk_lo (w := w) (k := k) (i := i) (by omega) (by omega), blk_lo (w := w) (k := k) (i := j) (by omega) (by omega)]
  · rw [blk_hi (w := w) (k := k) (i := i) (by omega) (by omega), blk_hi (w := w) (k := k) (i := j) (by omega) (by omega)]
  · have e1 := S.t1 i i1 (by omega)
    have e2 := S.t1 j (by omega) (by omega)
    rw [blk_lo (w := w) (k := k) (i := i) (by omega) (by omega)] at e1
    rw [blk_hi (w := w) (k := k) (i := j) (by omega) (by omega)] at e2
    apply Nat.lt_of_not_le
    intro h
    have := Nat.div_le_div_right (c := w) h
    omega
theorem BlkSt.turn {lt : Nat → Nat → Bool} {n w a e : Nat} {f f' : Nat → Nat} (S : BlkSt lt n w a f) (he : e ≤ a + 2 * w) (hen : e ≤ n) (hae : a ≤ e) (p : PermOn f f' a e) (s : SrtOn lt f' a e) :
    SrtBlk lt (2 * w) f' 0 e ∧ PermOn (fun i => i) f' 0 n ∧ ∀ i, i < n → f' i / (2 * w) = i / (2 * w) := by
  obtain ⟨k, hk⟩ := S.mul
  refine ⟨fun i j hi hij hj hd => ?_, S.perm.trans (p.wide hae (by omega) hen), fun i hi => ?_⟩
  · by_cases h1 : j < a
    · rw [p.1 i (by omega), p.1 j (by omega)]; exact S.done i j hi hij h1 hd
    by_cases h2 : a ≤ i
    · exact s i j h2 hij hj
    rw [blk_in (k := k) (i := j) (by omega) (by omega)] at hd
    exfalso
    have : i / (2 * w) < k := Nat.div_lt_of_lt_mul (by rw [Nat.mul_comm]; omega)
    omega
  · by_cases h1 : a ≤ i ∧ i < e
    · obtain ⟨j, j1, j2, j3⟩ := p.mem h1.1 h1.2
      rw [← j3, S.t2 j (by omega), blk_in (k := k) (i := j) (by omega) (by omega), blk_in (k := k) (i := i) (by omega) (by omega)]
    · rw [p.1 i h1]; exact S.t2 i hi
theorem BlkSt.step {lt : Nat → Nat → Bool} {n w a : Nat} {f f' : Nat → Nat} (S : BlkSt lt n w a f) (hen : a + 2 * w ≤ n) (p : PermOn f f' a (a + 2 * w)) (s : SrtOn lt f' a (a + 2 * w)) : BlkSt lt n w (a + 2 * w) f' := by
  obtain ⟨h1, h2, h3⟩ := S.turn (Nat.le_refl _) hen (by omega) p s
  obtain ⟨k, hk⟩ := S.mul
  refine ⟨⟨k + 1, by rw [Nat.add_mul, Nat.one_mul, hk]⟩, h1, fun i j hi hij hj hd => ?_, h2, fun i hi hin => ?_, h3⟩
  · rw [p.1 i (by omega), p.1 j (by omega)]; exact S.todo i j (by omega) hij hj hd
  · rw [p.1 i (by omega)]; exact S.t1 i (by omega) hin
theorem BlkSt.short {lt : Nat → Nat → Bool} {n w a : Nat} {f : Nat → Nat} (S : BlkSt lt n w a f) (h : n ≤ a + w) : SrtOn lt f a n := by
  obtain ⟨k, hk⟩ := S.mul
  intro i j hi hij hj
  refine S.todo i j hi hij hj ?_
  rw [blk_lo (w := w) (k := k) (i := i) (by omega) (by omega), blk_lo (w := w) (k := k) (i := j) (by omega) (by omega)]

/-- The first blocks, of 20. -/
structure BlkIn (lt : Nat → Nat → Bool) (n a : Nat) (f : Nat → Nat) : Prop where
  mul : ∃ k, a = k * 20
  done : SrtBlk lt 20 f 0 a
  perm : PermOn (fun i => i) f 0 a
  t : ∀ i, i < n → f i / 20 = i / 20
theorem BlkIn.turn {lt : Nat → Nat → Bool} {n a e : Nat} {f f' : Nat → Nat} (S : BlkIn lt n a f) (he : e ≤ a + 20) (hen : e ≤ n) (hae : a ≤ e) (p : PermOn f f' a e) (s : SrtOn lt f' a e) :
    SrtBlk lt 20 f' 0 e ∧ PermOn (fun i => i) f' 0 e ∧ ∀ i, i < n → f' i / 20 = i / 20 := by
  obtain ⟨k, hk⟩ := S.mul
  refine ⟨fun i j hi hij hj hd => ?_, (S.perm.wide (by omega) (by omega) hae).trans (p.wide hae (by omega) (Nat.le_refl _)), fun i hi => ?_⟩
  · by_cases h1 : j < a
    · rw [p.1 i (by omega), p.1 j (by omega)]; exact S.done i j hi hij h1 hd
    by_cases h2 : a ≤ i
    · exact s i j h2 hij hj
    omega
  · by_cases h1 : a ≤ i ∧ i < e
    · obtain ⟨j, j1, j2, j3⟩ := p.mem h1.1 h1.2
      have := S.t j (by omega)
      rw [← j3]
      omega
    · rw [p.1 i h1]; exact S.t i hi
theorem BlkIn.tag {lt : Nat → Nat → Bool} {n a : Nat} {f : Nat → Nat} (S : BlkIn lt n a f) {i j : Nat} (hi : a ≤ i) (hij : i < j) : f i < f j := by
  rw [S.perm.1 i (by omega), S.perm.1 j (by omega)]; exact hij

/-! ### There is one order -/

/-- A row's numbers, in order: one comes behind all that are not behind it. -/
def insL (lt : Nat → Nat → Bool) (x : Nat) : List Nat → List Nat
  | [] => [x]
  | y :: l => if lt x y then x :: y :: l else y :: insL lt x l
def srtL (lt : Nat → Nat → Bool) : Nat → List Nat
  | 0 => []
  | n + 1 => insL lt n (srtL lt n)

theorem insL_perm (lt : Nat → Nat → Bool) (x : Nat) : ∀ l, (insL lt x l).Perm (x :: l)
  | [] => List.Perm.refl _
  | y :: l => by
    unfold insL
    split
    · exact List.Perm.refl _
    · exact ((insL_perm lt x l).cons y).trans (List.Perm.swap x y l)
theorem srtL_perm (lt : Nat → Nat → Bool) : ∀ n, (srtL lt n).Perm (List.range n)
  | 0 => List.Perm.refl _
  | n + 1 => by
    unfold srtL
    rw [List.range_succ]
    exact ((insL_perm lt n _).trans ((srtL_perm lt n).cons n)).trans (List.perm_append_comm (l₁ := [n]) (l₂ := List.range n))
theorem insL_sorted {lt : Nat → Nat → Bool} (hl : LtOK lt) (x : Nat) : ∀ l, l.Pairwise (Bef lt) → (∀ y ∈ l, y < x) → (insL lt x l).Pairwise (Bef lt)
  | [], _, _ => by simp [insL]
  | y :: l, h, hx => by
    obtain ⟨h1, h2⟩ := List.pairwise_cons.1 h
    unfold insL
    split
    · rename_i e
      refine List.pairwise_cons.2 ⟨fun z hz => ?_, h⟩
      rcases List.mem_cons.1 hz with rfl | hz
      · exact .inl e
      · exact Bef.trans hl (.inl e) (h1 z hz)
    · rename_i e
      refine List.pairwise_cons.2 ⟨fun z hz => ?_, insL_sorted hl x l h2 (fun z hz => hx z (List.mem_cons_of_mem _ hz))⟩
      rcases List.mem_cons.1 ((insL_perm lt x l).mem_iff.1 hz) with rfl | hz
      · exact .inr ⟨by simpa using e, hx y (List.mem_cons_self ..)⟩
      · exact h1 z hz
theorem srtL_sorted {lt : Nat → Nat → Bool} (hl : LtOK lt) : ∀ n, (srtL lt n).Pairwise (Bef lt)
  | 0 => List.Pairwise.nil
  | n + 1 => insL_sorted hl n _ (srtL_sorted hl n) fun y hy => List.mem_range.1 ((srtL_perm lt n).mem_iff.1 hy)
theorem srtL_len (lt : Nat → Nat → Bool) (n : Nat) : (srtL lt n).length = n := by rw [(srtL_perm lt n).length_eq, List.length_range]

theorem sorted_unique {lt : Nat → Nat → Bool} (hl : LtOK lt) {l l' : List Nat} (h : l.Pairwise (Bef lt)) (h' : l'.Pairwise (Bef lt)) (hp : l.Perm l') : l = l' :=
  List.Perm.eq_of_pairwise (fun a b _ _ x y => (Bef.asymm hl x y).elim) h h' hp

theorem srt_is {lt : Nat → Nat → Bool} (hl : LtOK lt) {f : Nat → Nat} {n : Nat} (hp : PermOn (fun i => i) f 0 n) (hs : SrtOn lt f 0 n) : (List.range n).map f = srtL lt n := by
  have e : sg f 0 n = (List.range n).map f := by unfold sg; rw [Nat.sub_zero, List.range_eq_range']
  have e' : sg (fun i => i) 0 n = List.range n := by unfold sg; rw [Nat.sub_zero, ← List.range_eq_range', List.map_id']
  refine sorted_unique hl ?_ (srtL_sorted hl n) ?_
  · rw [List.pairwise_map]
    rw [List.pairwise_iff_getElem]
    intro i j h1 h2 hij
    simp only [List.length_range] at h1 h2
    simp only [List.getElem_range]
    exact hs i j (Nat.zero_le _) hij h2
  · rw [← e]
    exact (hp.2.trans (by rw [e'])).trans (srtL_perm lt n).symm

end Go.AM
