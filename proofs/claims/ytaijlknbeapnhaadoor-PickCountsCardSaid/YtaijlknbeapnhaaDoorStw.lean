/- The walks of slices.SortStableFunc and what is under it. Own work. -/
import Derived.Test.YtaijlknbeapnhaaDoorEc
import Derived.Test.YtaijlknbeapnhaaDoorAm25
import Derived.Test.YtaijlknbeapnhaaDoorStb
set_option linter.all false
set_option maxRecDepth 20000
namespace Go.AM

/-- The values of a row are numbers below n. -/
def Below' (f : Nat → Nat) (n : Nat) : Prop := ∀ i, i < n → f i < n
theorem Below'.rot {f : Nat → Nat} {n a m b : Nat} (h : Below' f n) (ha : a ≤ m) (hm : m ≤ b) (hb : b ≤ n) : Below' (rotF f a m b) n := by
  intro i hi
  unfold rotF
  split
  · exact h _ (by omega)
  · split
    · exact h _ (by omega)
    · exact h _ hi
theorem Below'.perm {f g : Nat → Nat} {n a b : Nat} (h : Below' f n) (p : PermOn f g a b) (hb : b ≤ n) : Below' g n := by
  intro i hi
  by_cases e : a ≤ i ∧ i < b
  · obtain ⟨j, h1, h2, h3⟩ := p.mem e.1 e.2
    rw [← h3]; exact h _ (by omega)
  · rw [p.1 i e]; exact h _ hi

section
variable {C : CSpec} {GT : Nat → Option AV}

theorem swapRange_ev {G : Heap} {b n a c k : Nat} {q : Option Bool} {f : Nat → Nat} {fv : AV} (hb : b < G.length) (hn : n ≤ 1099511627776) (h1 : a + k ≤ c) (h2 : c + k ≤ n) :
    EFun C GT a_slices_swapRangeCmpFunc_int_ [.sl q b 1 0 n, nV a, nV c, nV k, fv] (hpR G b n f) (.tup []) (hpR G b n (swpF f a c k)) := by
  refine sLoop (σ := Nat) (fun i => [(10, nV i), (1, nV a), (0, .sl q b 1 0 n), (2, nV c), (3, nV k)]) (fun i H => i ≤ k ∧ H = hpR G b n (swpF f a c i)) (fun i => k - i) 0 rfl ⟨Nat.zero_le _, by rw [swpF_zero]⟩ (fun i H ⟨hi, hH⟩ => ?_)
  subst hH
  refine sCond (fun h => ?_) (fun h => ?_)
  · simp only [decide_eq_true_eq, Int.ofNat_lt] at h
    refine sW64n (r := a + i) rfl (by omega) ?_
    refine sW64n (r := c + i) rfl (by omega) ?_
    refine sW64n (r := c + i) rfl (by omega) ?_
    refine sIdxR (c + i) rfl (by omega) ?_
    refine sLoadR hb (by omega) ?_
    refine sW64n (r := a + i) rfl (by omega) ?_
    refine sIdxR (a + i) rfl (by omega) ?_
    refine sLoadR hb (by omega) ?_
    refine sIdxR (a + i) rfl (by omega) ?_
    refine sStoreR hb (by omega) ?_
    refine sIdxR (c + i) rfl (by omega) ?_
    refine sStoreR hb (by omega) ?_
    refine sW64n (r := i + 1) rfl (by omega) ?_
    refine sNext (i + 1) rfl ⟨by omega, ?_⟩ (by show _ < _; omega)
    rw [swpF_succ f (by omega)]
  · simp only [decide_eq_false_iff_not, Int.ofNat_lt] at h
    have e : i = k := by omega
    subst e
    exact sRetR rfl rfl

/-- What is asked of the function that tells what comes first. -/
def CmpOK (C : CSpec) (G : Heap) (b n : Nat) (g : FuncId) (caps : List AV) (cmp : Nat → Nat → Int) : Prop :=
  ∀ (f : Nat → Nat) (x y : Nat), x < n → y < n → C g ([nV x, nV y] ++ caps) (hpR G b n f) (.int .i64 (cmp x y)) (hpR G b n f)
def ltOf (cmp : Nat → Nat → Int) (x y : Nat) : Bool := decide (cmp x y < 0)

structure SR where
  i : Nat
  j : Nat
  f : Nat → Nat
theorem rotate_ev {G : Heap} {b n a m e : Nat} {q : Option Bool} {f : Nat → Nat} {fv : AV} (hb : b < G.length) (hn : n ≤ 1099511627776) (h1 : a < m) (h2 : m < e) (h3 : e ≤ n)
    (hS : ∀ (f : Nat → Nat) (a c k : Nat), a + k ≤ c → c + k ≤ n → C f_slices_swapRangeCmpFunc_int_ [.sl q b 1 0 n, nV a, nV c, nV k, fv] (hpR G b n f) (.tup []) (hpR G b n (swpF f a c k))) :
    EFun C GT a_slices_rotateCmpFunc_int_ [.sl q b 1 0 n, nV a, nV m, nV e, fv] (hpR G b n f) (.tup []) (hpR G b n (rotF f a m e)) := by
  refine sW64n (r := m - a) (by omega) (by omega) ?_
  refine sW64n (r := e - m) (by omega) (by omega) ?_
  refine sLoop (fun s : SR => [(11, nV s.j), (10, nV s.i), (4, fv), (2, nV m), (0, .sl q b 1 0 n)])
    (fun s H => 0 < s.i ∧ s.i ≤ m ∧ 0 < s.j ∧ m + s.j ≤ n ∧ H = hpR G b n s.f ∧ rotF s.f (m - s.i) m (m + s.j) = rotF f a m e) (fun s => s.i + s.j) ⟨m - a, e - m, f⟩ rfl
    ⟨by simp only; omega, by simp only; omega, by simp only; omega, by simp only; omega, rfl, by simp only; rw [show m - (m - a) = a by omega, show m + (e - m) = e by omega]⟩ (fun ⟨i, j, g⟩ H ⟨i1, i2, j1, j2, hH, hr⟩ => ?_)
  simp only at i1 i2 j1 j2 hH hr
  subst hH
  dsimp only
  refine sCond (fun h => ?_) (fun h => ?_)
  · have hne : i ≠ j := by
      intro e; subst e
      simp at h
    refine sCond (fun h' => ?_) (fun h' => ?_)
    · simp only [decide_eq_true_eq, gt_iff_lt, Int.ofNat_lt] at h'
      refine sW64n (r := m - i) (by omega) (by omega) ?_
      refine sCall (hS g (m - i) m j (by omega) (by omega)) (fun h => by cases h) ?_
      refine sW64n (r := i - j) (by omega) (by omega) ?_
      refine sNext (SR.mk (i - j) j (swpF g (m - i) m j)) rfl ⟨by simp only; omega, by simp only; omega, j1, j2, rfl, ?_⟩ (by simp only; omega)
      simp only
      rw [← hr, show m - (i - j) = m - i + j by omega, rot_left g i2 h']
    · simp only [decide_eq_false_iff_not, gt_iff_lt, Int.ofNat_lt] at h'
      refine sW64n (r := m - i) (by omega) (by omega) ?_
      refine sW64n (r := m + j) (by omega) (by omega) ?_
      refine sW64n (r := m + j - i) (by omega) (by omega) ?_
      refine sCall (hS g (m - i) (m + j - i) i (by omega) (by omega)) (fun h => by cases h) ?_
      refine sW64n (r := j - i) (by omega) (by omega) ?_
      refine sNext (SR.mk i (j - i) (swpF g (m - i) (m + j - i) i)) rfl ⟨i1, i2, by simp only; omega, by simp only; omega, rfl, ?_⟩ (by simp only; omega)
      simp only
      rw [← hr, rot_right g i2 (by omega)]
  · have he : i = j := by
      have : ((i : Int) == (j : Int)) = true := by simpa using h
      exact Int.ofNat.inj (by simpa using this)
    subst he
    refine sW64n (r := m - i) (by omega) (by omega) ?_
    refine sCall (hS g (m - i) m i (by omega) (by omega)) (fun h => by cases h) ?_
    rw [← hr, ← rot_same g i2]
    exact sRetR rfl rfl


/-- How what stands in the row is asked. -/
theorem cmp_step {G : Heap} {b n : Nat} {g : FuncId} {caps : List AV} {cmp : Nat → Nat → Int} (hc : CmpOK C G b n g caps cmp) {f : Nat → Nat} (hf : Below' f n) {i j : Nat} (hi : i < n) (hj : j < n) {rd : Bool} {K : AV → Heap → Prop}
    (k : K (.int .i64 (cmp (f i) (f j))) (hpR G b n f)) : callP C g ([] ++ [nV (f i), nV (f j)] ++ caps) rd (hpR G b n f) K := sCall0 (hc f _ _ (hf i hi) (hf j hj)) k

theorem insertion_ev {G : Heap} {b n a e : Nat} {q : Option Bool} {f : Nat → Nat} {g : FuncId} {caps : List AV} {cmp : Nat → Nat → Int} (hl : LtOK (ltOf cmp)) (hb : b < G.length) (hn : n ≤ 1099511627776) (h1 : a ≤ e) (h2 : e ≤ n) (hf : Below' f n)
    (ht : ∀ i j, a ≤ i → i < j → j < e → f i < f j) (hc : CmpOK C G b n g caps cmp) :
    EFunQ C GT a_slices_insertionSortCmpFunc_int_ [.sl q b 1 0 n, nV a, nV e, .fn g [] caps] (hpR G b n f) fun v H' => v = .tup [] ∧ ∃ f', H' = hpR G b n f' ∧ PermOn f f' a e ∧ SrtOn (ltOf cmp) f' a e := by
  refine sW64n (r := a + 1) rfl (by omega) ?_
  refine sLoop (σ := Nat × (Nat → Nat)) (fun s => [(0, .sl q b 1 0 n), (8, nV s.1), (3, .fn g [] caps), (1, nV a), (2, nV e)])
    (fun s H => H = hpR G b n s.2 ∧ a + 1 ≤ s.1 ∧ (s.1 ≤ e ∨ s.1 = a + 1) ∧ PermOn f s.2 a e ∧ (a < e → PermOn f s.2 a s.1) ∧ SrtOn (ltOf cmp) s.2 a s.1) (fun s => e - s.1) (a + 1, f) rfl
    ⟨rfl, Nat.le_refl _, .inr rfl, PermOn.refl _ _ _, fun _ => PermOn.refl _ _ _, fun i j hi hij hj => by simp only at hj; omega⟩ (fun ⟨i, f1⟩ H ⟨hH, hi, hi2, hp, hpi, hs⟩ => ?_)
  simp only at hH hi hi2 hp hpi hs
  subst hH
  dsimp only
  refine sCond (fun hlt => ?_) (fun hlt => ?_)
  · simp only [decide_eq_true_eq, Int.ofNat_lt] at hlt
    replace hpi := hpi (by omega)
    have hfi : f1 i = f i := hpi.1 i (by omega)
    have hbel : Below' f1 n := hf.perm hp h2
    have htag : ∀ k, a ≤ k → k < i → f1 k < f1 i := fun k h3 h4 => by
      obtain ⟨j, j1, j2, j3⟩ := hpi.mem h3 h4
      rw [← j3, hfi]; exact ht j i j1 j2 hlt
    refine sLoop (σ := Nat) (fun j => [(9, nV j), (0, .sl q b 1 0 n), (3, .fn g [] caps), (1, nV a), (2, nV e), (8, nV i)])
      (fun j H => H = hpR G b n (rotF f1 j i (i + 1)) ∧ a ≤ j ∧ j ≤ i ∧ ∀ k, j ≤ k → k < i → Bef (ltOf cmp) (f1 i) (f1 k)) (fun j => j) i rfl
      ⟨by rw [rotF_nil1], by omega, Nat.le_refl _, fun k h3 h4 => by omega⟩ (fun j H ⟨hH, ja, ji, hbef⟩ => ?_)
    subst hH
    have hbel2 : Below' (rotF f1 j i (i + 1)) n := hbel.rot ji (by omega) (by omega)
    have vj : rotF f1 j i (i + 1) j = f1 i := by rw [rotF_lo (Nat.le_refl _) (by omega)]; congr 1; omega
    -- out of the loop: the next one
    have out : ∀ K : Prop, (SrtOn (ltOf cmp) (rotF f1 j i (i + 1)) a (i + 1) → PermOn f (rotF f1 j i (i + 1)) a e → PermOn f (rotF f1 j i (i + 1)) a (i + 1) → K) → (a < j → ltOf cmp (f1 i) (f1 (j - 1)) = false) → K := fun K hK hno => by
      have pr : PermOn f1 (rotF f1 j i (i + 1)) j (i + 1) := rotF_perm f1 ji (by omega)
      refine hK (ins_sorted hl hs ja ji hbef fun haj => Bef.of_not (hno haj) (htag (j - 1) (by omega) (by omega))) (hp.trans (pr.wide (by omega) ja (by omega))) ?_
      exact (hpi.wide (by omega) (Nat.le_refl _) (by omega)).trans (pr.wide (by omega) ja (Nat.le_refl _))
    refine sCond (fun hgt => ?_) (fun hgt => ?_)
    · simp only [decide_eq_true_eq, gt_iff_lt, Int.ofNat_lt] at hgt
      refine sIdxR j rfl (by omega) ?_
      refine sLoadR hb (by omega) ?_
      refine sW64n (r := j - 1) (by omega) (by omega) ?_
      refine sIdxR (j - 1) rfl (by omega) ?_
      refine sLoadR hb (by omega) ?_
      refine cmp_step hc hbel2 (by omega) (by omega) ?_
      have vj1 : rotF f1 j i (i + 1) (j - 1) = f1 (j - 1) := rotF_out ji (by omega) (by omega)
      refine sCondT ?_
      refine sCond (fun hc1 => ?_) (fun hc1 => ?_)
      · refine sW64n (r := j - 1) (by omega) (by omega) ?_
        refine sW64n (r := j - 1) (by omega) (by omega) ?_
        refine sIdxR (j - 1) rfl (by omega) ?_
        refine sLoadR hb (by omega) ?_
        refine sIdxR j rfl (by omega) ?_
        refine sLoadR hb (by omega) ?_
        refine sIdxR j rfl (by omega) ?_
        refine sStoreR hb (by omega) ?_
        refine sIdxR (j - 1) rfl (by omega) ?_
        refine sStoreR hb (by omega) ?_
        refine sW64n (r := j - 1) (by omega) (by omega) ?_
        refine sNext (j - 1) rfl ⟨by rw [ins_down f1 (by omega) ji], by omega, by omega, fun k h3 h4 => ?_⟩ (by show _ < _; omega)
        by_cases ek : k = j - 1
        · subst ek
          rw [vj, vj1] at hc1
          exact .inl hc1
        · exact hbef k (by omega) h4
      · rw [vj, vj1] at hc1
        refine out _ (fun o1 o2 o3 => ?_) (fun _ => hc1)
        refine sW64n (r := i + 1) rfl (by omega) ?_
        exact sNext (i + 1, rotF f1 j i (i + 1)) rfl ⟨rfl, by simp only; omega, .inl (by simp only; omega), o2, fun _ => o3, o1⟩ (by simp only; omega)
    · simp only [decide_eq_false_iff_not, gt_iff_lt, Int.ofNat_lt] at hgt
      refine out _ (fun o1 o2 o3 => ?_) (fun h3 => by omega)
      refine sCondF ?_
      refine sCondF ?_
      refine sW64n (r := i + 1) rfl (by omega) ?_
      exact sNext (i + 1, rotF f1 j i (i + 1)) rfl ⟨rfl, by simp only; omega, .inl (by simp only; omega), o2, fun _ => o3, o1⟩ (by simp only; omega)
  · simp only [decide_eq_false_iff_not, Int.ofNat_lt] at hlt
    refine sRetQ (sRetR (g := f1) rfl rfl) ⟨rfl, f1, rfl, hp, ?_⟩
    exact hs.sub (Nat.le_refl _) (by omega)


/-! ### Merging -/

def mrgQ (G : Heap) (b n : Nat) (lt : Nat → Nat → Bool) (f : Nat → Nat) (a e : Nat) (v : AV) (H' : Heap) : Prop := v = .tup [] ∧ ∃ f', H' = hpR G b n f' ∧ PermOn f f' a e ∧ SrtOn lt f' a e

/-- What a merge wants. -/
structure MrgOK (n : Nat) (lt : Nat → Nat → Bool) (f : Nat → Nat) (a m e : Nat) : Prop where
  am : a < m
  me : m < e
  en : e ≤ n
  bel : Below' f n
  left : SrtOn lt f a m
  right : SrtOn lt f m e
  tag : ∀ i j, a ≤ i → i < m → m ≤ j → j < e → f i < f j

structure MrgEnv (C : CSpec) (G : Heap) (b n : Nat) (q : Option Bool) (g : FuncId) (caps : List AV) (cmp : Nat → Nat → Int) : Prop where
  ord : LtOK (ltOf cmp)
  hb : b < G.length
  hn : n ≤ 1099511627776
  cmpOK : CmpOK C G b n g caps cmp
  rot : ∀ (f : Nat → Nat) (a m e : Nat), a < m → m < e → e ≤ n → C f_slices_rotateCmpFunc_int_ [.sl q b 1 0 n, nV a, nV m, nV e, .fn g [] caps] (hpR G b n f) (.tup []) (hpR G b n (rotF f a m e))

/-- The merge of less. -/
def MrgIH (C : CSpec) (G : Heap) (b n : Nat) (q : Option Bool) (g : FuncId) (caps : List AV) (cmp : Nat → Nat → Int) (k : Nat) : Prop :=
  ∀ (f : Nat → Nat) (a m e : Nat), e - a < k → MrgOK n (ltOf cmp) f a m e → ∃ v H', mrgQ G b n (ltOf cmp) f a e v H' ∧ C f_slices_symMergeCmpFunc_int_ [.sl q b 1 0 n, nV a, nV m, nV e, .fn g [] caps] (hpR G b n f) v H'

/-- How far the halves have come: cut at s; h1: the left one is in order. -/
structure Half (n : Nat) (lt : Nat → Nat → Bool) (f : Nat → Nat) (a c e : Nat) : Prop where
  bel : Below' f n
  cross : ∀ i j, a ≤ i → i < c → c ≤ j → j < e → Bef lt (f i) (f j)

theorem Half.perm1 {n : Nat} {lt : Nat → Nat → Bool} {f f' : Nat → Nat} {a c e : Nat} (h : Half n lt f a c e) (p : PermOn f f' a c) (hn : c ≤ n) : Half n lt f' a c e :=
  ⟨h.bel.perm p hn, fun i j h1 h2 h3 h4 => by
    obtain ⟨k, k1, k2, k3⟩ := p.mem h1 h2
    rw [← k3, p.1 j (by omega)]
    exact h.cross k j k1 k2 h3 h4⟩
theorem Half.perm2 {n : Nat} {lt : Nat → Nat → Bool} {f f' : Nat → Nat} {a c e : Nat} (h : Half n lt f a c e) (p : PermOn f f' c e) (hn : e ≤ n) : Half n lt f' a c e :=
  ⟨h.bel.perm p hn, fun i j h1 h2 h3 h4 => by
    obtain ⟨k, k1, k2, k3⟩ := p.mem h3 h4
    rw [← k3, p.1 i (by omega)]
    exact h.cross i k h1 h2 k1 k2⟩
theorem Half.done {n : Nat} {lt : Nat → Nat → Bool} {f : Nat → Nat} {a c e : Nat} (h : Half n lt f a c e) (h1 : SrtOn lt f a c) (h2 : SrtOn lt f c e) : SrtOn lt f a e := by
  intro i j hi hij hj
  by_cases h3 : j < c
  · exact h1 i j hi hij h3
  by_cases h4 : c ≤ i
  · exact h2 i j h4 hij hj
  exact h.cross i j hi (by omega) (by omega) hj

theorem sym_tail3 {G : Heap} {b n : Nat} {q : Option Bool} {g : FuncId} {caps : List AV} {cmp : Nat → Nat → Int} (E : MrgEnv C G b n q g caps cmp) {f0 f : Nat → Nat} {a c x e : Nat} (ih : MrgIH C G b n q g caps cmp (e - a)) (hac : a < c) (hcx : c ≤ x) (hxe : x ≤ e) (hen : e ≤ n)
    (hH : Half n (ltOf cmp) f a c e) (hp : PermOn f0 f a e) (h1 : SrtOn (ltOf cmp) f a c) (h2 : SrtOn (ltOf cmp) f c x) (h3 : SrtOn (ltOf cmp) f x e) (ht : ∀ i j, c ≤ i → i < x → x ≤ j → j < e → f i < f j) :
    EW C GT (b_slices_symMergeCmpFunc_int_.behind 11) (finQ a_slices_symMergeCmpFunc_int_ (hpR G b n f0) (mrgQ G b n (ltOf cmp) f0 a e)) [(4, .fn g [] caps), (3, nV e), (24, nV x), (18, nV c), (0, .sl q b 1 0 n)] (hpR G b n f) := by
  have hn := E.hn
  have fin : ∀ f', PermOn f f' c e → SrtOn (ltOf cmp) f' c e → ∀ fr, retQ a_slices_symMergeCmpFunc_int_ (hpR G b n f0) fr (hpR G b n f') (mrgQ G b n (ltOf cmp) f0 a e) := fun f' p s fr =>
    sRetQ (sRetR rfl rfl) ⟨rfl, f', rfl, hp.trans (p.wide (by omega) (by omega) (Nat.le_refl _)), (hH.perm2 p hen).done (h1.congr fun k k1 k2 => p.1 k (by omega)) s⟩
  refine sCond (fun hlt => ?_) (fun hlt => ?_)
  · simp only [decide_eq_true_eq, Int.ofNat_lt] at hlt
    refine sCondT ?_
    refine sCond (fun hlt2 => ?_) (fun hlt2 => ?_)
    · simp only [decide_eq_true_eq, Int.ofNat_lt] at hlt2
      obtain ⟨v, H', ⟨rfl, f', rfl, p, s⟩, hC⟩ := ih f c x e (by omega) ⟨hlt, hlt2, hen, hH.bel, h2, h3, ht⟩
      refine sCall hC (fun h => by cases h) ?_
      exact fin f' p s _
    · simp only [decide_eq_false_iff_not, Int.ofNat_lt] at hlt2
      have ex : x = e := by omega
      subst ex
      exact fin f (PermOn.refl _ _ _) h2 _
  · simp only [decide_eq_false_iff_not, Int.ofNat_lt] at hlt
    have ex : x = c := by omega
    subst ex
    refine sCondF ?_
    refine sCondF ?_
    exact fin f (PermOn.refl _ _ _) h3 _

theorem sym_tail2 {G : Heap} {b n : Nat} {q : Option Bool} {g : FuncId} {caps : List AV} {cmp : Nat → Nat → Int} (E : MrgEnv C G b n q g caps cmp) {f0 f : Nat → Nat} {a s c x e : Nat} (ih : MrgIH C G b n q g caps cmp (e - a)) (has : a ≤ s) (hsc : s ≤ c) (hac : a < c) (hce : c < e) (hcx : c ≤ x) (hxe : x ≤ e) (hen : e ≤ n)
    (hH : Half n (ltOf cmp) f a c e) (hp : PermOn f0 f a e) (h0 : SrtOn (ltOf cmp) f a s) (h1 : SrtOn (ltOf cmp) f s c) (h2 : SrtOn (ltOf cmp) f c x) (h3 : SrtOn (ltOf cmp) f x e) (hl : ∀ i j, a ≤ i → i < s → s ≤ j → j < c → f i < f j) (ht : ∀ i j, c ≤ i → i < x → x ≤ j → j < e → f i < f j) :
    EW C GT (b_slices_symMergeCmpFunc_int_.behind 10) (finQ a_slices_symMergeCmpFunc_int_ (hpR G b n f0) (mrgQ G b n (ltOf cmp) f0 a e)) [(4, .fn g [] caps), (3, nV e), (24, nV x), (18, nV c), (0, .sl q b 1 0 n), (20, nV s), (1, nV a)] (hpR G b n f) := by
  have hn := E.hn
  have go : ∀ f', PermOn f f' a c → SrtOn (ltOf cmp) f' a c → EW C GT (b_slices_symMergeCmpFunc_int_.behind 11) (finQ a_slices_symMergeCmpFunc_int_ (hpR G b n f0) (mrgQ G b n (ltOf cmp) f0 a e)) [(4, .fn g [] caps), (3, nV e), (24, nV x), (18, nV c), (0, .sl q b 1 0 n)] (hpR G b n f') := fun f' p s =>
    have eq : ∀ k, c ≤ k → f' k = f k := fun k hk => p.1 k (by omega)
    sym_tail3 E ih hac hcx hxe hen (hH.perm1 p (by omega)) (hp.trans (p.wide (by omega) (Nat.le_refl _) (by omega))) s (h2.congr fun k k1 k2 => eq k k1) (h3.congr fun k k1 k2 => eq k (by omega)) (fun i j i1 i2 j1 j2 => by rw [eq i i1, eq j (by omega)]; exact ht i j i1 i2 j1 j2)
  refine sCond (fun hlt => ?_) (fun hlt => ?_)
  · simp only [decide_eq_true_eq, Int.ofNat_lt] at hlt
    refine sCondT ?_
    refine sCond (fun hlt2 => ?_) (fun hlt2 => ?_)
    · simp only [decide_eq_true_eq, Int.ofNat_lt] at hlt2
      obtain ⟨v, H', ⟨rfl, f', rfl, p, s⟩, hC⟩ := ih f a s c (by omega) ⟨hlt, hlt2, by omega, hH.bel, h0, h1, hl⟩
      refine sCall hC (fun h => by cases h) ?_
      exact go f' p s
    · simp only [decide_eq_false_iff_not, Int.ofNat_lt] at hlt2
      have ex : s = c := by omega
      subst ex
      exact go f (PermOn.refl _ _ _) h0
  · simp only [decide_eq_false_iff_not, Int.ofNat_lt] at hlt
    have ex : s = a := by omega
    subst ex
    refine sCondF ?_
    refine sCondF ?_
    exact go f (PermOn.refl _ _ _) h1


theorem sym_tail1 {G : Heap} {b n : Nat} {q : Option Bool} {g : FuncId} {caps : List AV} {cmp : Nat → Nat → Int} (E : MrgEnv C G b n q g caps cmp) {f : Nat → Nat} {a m e s : Nat} (ih : MrgIH C G b n q g caps cmp (e - a)) (M : MrgOK n (ltOf cmp) f a m e) (hc : CutOK (ltOf cmp) f a m e s) :
    EW C GT (b_slices_symMergeCmpFunc_int_.behind 9) (finQ a_slices_symMergeCmpFunc_int_ (hpR G b n f) (mrgQ G b n (ltOf cmp) f a e)) [(4, .fn g [] caps), (3, nV e), (24, nV ((a + e) / 2 + m - s)), (18, nV ((a + e) / 2)), (0, .sl q b 1 0 n), (20, nV s), (1, nV a), (2, nV m)] (hpR G b n f) := by
  have hn := E.hn
  obtain ⟨am, me, en, bel, left, right, tag⟩ := M
  obtain ⟨p0, p1, p2, p3, p4, p5⟩ := cut_parts am me left right tag hc.lo hc.lo' hc.hi hc.hi'
  have hx := cut_halves E.ord am me left right tag hc
  have ge : ∀ f', f' = rotF f s m ((a + e) / 2 + m - s) → EW C GT (b_slices_symMergeCmpFunc_int_.behind 10) (finQ a_slices_symMergeCmpFunc_int_ (hpR G b n f) (mrgQ G b n (ltOf cmp) f a e)) [(4, .fn g [] caps), (3, nV e), (24, nV ((a + e) / 2 + m - s)), (18, nV ((a + e) / 2)), (0, .sl q b 1 0 n), (20, nV s), (1, nV a)] (hpR G b n f') := fun f' ef => by
    have c1 := hc.lo
    have c2 := hc.lo'
    have c3 := hc.hi
    have c4 := hc.hi'
    subst ef
    exact sym_tail2 E ih hc.lo' hc.hi (by omega) (by omega) (by omega) (by omega) en ⟨bel.rot c4 (by omega) (by omega), hx⟩ ((rotF_perm f c4 (by omega)).wide (by omega) c2 (by omega)) p0 p1 p2 p3 p4 p5
  have c1 := hc.lo
  have c2 := hc.lo'
  have c3 := hc.hi
  have c4 := hc.hi'
  refine sCond (fun hlt => ?_) (fun hlt => ?_)
  · simp only [decide_eq_true_eq, Int.ofNat_lt] at hlt
    refine sCondT ?_
    refine sCond (fun hlt2 => ?_) (fun hlt2 => ?_)
    · simp only [decide_eq_true_eq, Int.ofNat_lt] at hlt2
      refine sCall (E.rot f s m ((a + e) / 2 + m - s) hlt hlt2 (by omega)) (fun h => by cases h) ?_
      exact ge _ rfl
    · simp only [decide_eq_false_iff_not, Int.ofNat_lt] at hlt2
      have ex : (a + e) / 2 + m - s = m := by omega
      refine ge f ?_
      rw [ex, rotF_nil2]
  · simp only [decide_eq_false_iff_not, Int.ofNat_lt] at hlt
    have ex : s = m := by omega
    refine sCondF ?_
    refine sCondF ?_
    refine ge f ?_
    rw [ex, rotF_nil1]

def CutLo (lt : Nat → Nat → Bool) (f : Nat → Nat) (a c e s : Nat) : Prop := a < s → c - s < e → lt (f (c - s)) (f (s - 1)) = false
def CutHi (lt : Nat → Nat → Bool) (f : Nat → Nat) (c m d r : Nat) : Prop := r < m → r < d → lt (f (c - 1 - r)) (f r) = true
theorem sym_tail0 {G : Heap} {b n : Nat} {q : Option Bool} {g : FuncId} {caps : List AV} {cmp : Nat → Nat → Int} (E : MrgEnv C G b n q g caps cmp) {f : Nat → Nat} {a m e s0 r0 : Nat} (ih : MrgIH C G b n q g caps cmp (e - a)) (M : MrgOK n (ltOf cmp) f a m e)
    (h1 : (a + e) / 2 + m - e ≤ s0) (h2 : a ≤ s0) (h3 : s0 ≤ r0) (h4 : r0 ≤ (a + e) / 2) (h5 : r0 ≤ m) (h6 : CutLo (ltOf cmp) f a ((a + e) / 2 + m) e s0) (h7 : CutHi (ltOf cmp) f ((a + e) / 2 + m) m ((a + e) / 2) r0) :
    EW C GT (b_slices_symMergeCmpFunc_int_.behind 6) (finQ a_slices_symMergeCmpFunc_int_ (hpR G b n f) (mrgQ G b n (ltOf cmp) f a e)) [(0, .sl q b 1 0 n), (4, .fn g [] caps), (21, nV r0), (20, nV s0), (3, nV e), (18, nV ((a + e) / 2)), (1, nV a), (2, nV m), (19, nV ((a + e) / 2 + m))] (hpR G b n f) := by
  have hn := E.hn
  have hb := E.hb
  have M' := M
  obtain ⟨am, me, en, bel, left, right, tag⟩ := M
  refine sW64n (r := (a + e) / 2 + m - 1) (by omega) (by omega) ?_
  refine sLoop (σ := Nat × Nat) (fun s => [(0, .sl q b 1 0 n), (22, nV ((a + e) / 2 + m - 1)), (4, .fn g [] caps), (21, nV s.2), (20, nV s.1), (3, nV e), (18, nV ((a + e) / 2)), (1, nV a), (2, nV m), (19, nV ((a + e) / 2 + m))])
    (fun s H => H = hpR G b n f ∧ (a + e) / 2 + m - e ≤ s.1 ∧ a ≤ s.1 ∧ s.1 ≤ s.2 ∧ s.2 ≤ (a + e) / 2 ∧ s.2 ≤ m ∧ CutLo (ltOf cmp) f a ((a + e) / 2 + m) e s.1 ∧ CutHi (ltOf cmp) f ((a + e) / 2 + m) m ((a + e) / 2) s.2)
    (fun s => s.2 - s.1) (s0, r0) rfl ⟨rfl, h1, h2, h3, h4, h5, h6, h7⟩ (fun ⟨s, r⟩ H ⟨hH, k1, k2, k3, k4, k5, k6, k7⟩ => ?_)
  simp only at hH k1 k2 k3 k4 k5 k6 k7
  subst hH
  dsimp only
  refine sCond (fun hlt => ?_) (fun hlt => ?_)
  · simp only [decide_eq_true_eq, Int.ofNat_lt] at hlt
    refine sW64n (r := s + r) rfl (by omega) ?_
    refine sWu64n (r := s + r) rfl (by omega) ?_
    refine sOpt (shr1 _) ?_
    refine sW64n (r := (s + r) / 2) rfl (by omega) ?_
    refine sW64n (r := (a + e) / 2 + m - 1 - (s + r) / 2) (by omega) (by omega) ?_
    refine sIdxR ((a + e) / 2 + m - 1 - (s + r) / 2) rfl (by omega) ?_
    refine sLoadR hb (by omega) ?_
    refine sIdxR ((s + r) / 2) rfl (by omega) ?_
    refine sLoadR hb (by omega) ?_
    refine cmp_step E.cmpOK bel (by omega) (by omega) ?_
    refine sCond (fun hc => ?_) (fun hc => ?_)
    · have hc' : ltOf cmp (f ((a + e) / 2 + m - 1 - (s + r) / 2)) (f ((s + r) / 2)) = false := by unfold ltOf; simpa using hc
      refine sW64n (r := (s + r) / 2 + 1) rfl (by omega) ?_
      refine sNext ((s + r) / 2 + 1, r) rfl ⟨rfl, by simp only; omega, by simp only; omega, by simp only; omega, k4, k5, fun _ _ => ?_, k7⟩ (by simp only; omega)
      show ltOf cmp (f ((a + e) / 2 + m - ((s + r) / 2 + 1))) (f ((s + r) / 2 + 1 - 1)) = false
      rw [show (a + e) / 2 + m - ((s + r) / 2 + 1) = (a + e) / 2 + m - 1 - (s + r) / 2 by omega, show (s + r) / 2 + 1 - 1 = (s + r) / 2 by omega]
      exact hc'
    · have hc' : ltOf cmp (f ((a + e) / 2 + m - 1 - (s + r) / 2)) (f ((s + r) / 2)) = true := by unfold ltOf; simpa using hc
      exact sNext (s, (s + r) / 2) rfl ⟨rfl, k1, k2, by simp only; omega, by simp only; omega, by simp only; omega, k6, fun _ _ => hc'⟩ (by simp only; omega)
  · simp only [decide_eq_false_iff_not, Int.ofNat_lt] at hlt
    have er : s = r := by omega
    subst er
    refine sW64n (r := (a + e) / 2 + m - s) (by omega) (by omega) ?_
    exact sym_tail1 E ih M' ⟨k1, k2, k4, k5, k6, k7⟩

theorem sym_ev {G : Heap} {b n : Nat} {q : Option Bool} {g : FuncId} {caps : List AV} {cmp : Nat → Nat → Int} (E : MrgEnv C G b n q g caps cmp) {f : Nat → Nat} {a m e : Nat} (ih : MrgIH C G b n q g caps cmp (e - a)) (M : MrgOK n (ltOf cmp) f a m e) :
    EFunQ C GT a_slices_symMergeCmpFunc_int_ [.sl q b 1 0 n, nV a, nV m, nV e, .fn g [] caps] (hpR G b n f) (mrgQ G b n (ltOf cmp) f a e) := by
  have hn := E.hn
  have hb := E.hb
  have M' := M
  obtain ⟨am, me, en, bel, left, right, tag⟩ := M
  refine sW64n (r := m - a) (by omega) (by omega) ?_
  refine sCond (fun h1 => ?_) (fun h1 => ?_)
  · have hma : m = a + 1 := by
      have : (((m - a : Nat) : Int) == 1) = true := h1
      rw [beq_iff_eq] at this
      omega
    subst hma
    refine sLoop (σ := Nat × Nat) (fun s => [(1, nV a), (0, .sl q b 1 0 n), (4, .fn g [] caps), (11, nV s.2), (10, nV s.1)])
      (fun s H => H = hpR G b n f ∧ a + 1 ≤ s.1 ∧ s.1 ≤ s.2 ∧ s.2 ≤ e ∧ (a + 1 < s.1 → ltOf cmp (f (s.1 - 1)) (f a) = true) ∧ (s.2 < e → ltOf cmp (f s.2) (f a) = false))
      (fun s => s.2 - s.1) (a + 1, e) rfl ⟨rfl, Nat.le_refl _, by simp only; omega, Nat.le_refl _, fun h => by simp only at h; omega, fun h => by simp only at h; omega⟩ (fun ⟨i, j⟩ H ⟨hH, k1, k2, k3, k4, k5⟩ => ?_)
    simp only at hH k1 k2 k3 k4 k5
    subst hH
    dsimp only
    refine sCond (fun hlt => ?_) (fun hlt => ?_)
    · simp only [decide_eq_true_eq, Int.ofNat_lt] at hlt
      refine sW64n (r := i + j) rfl (by omega) ?_
      refine sWu64n (r := i + j) rfl (by omega) ?_
      refine sOpt (shr1 _) ?_
      refine sW64n (r := (i + j) / 2) rfl (by omega) ?_
      refine sIdxR ((i + j) / 2) rfl (by omega) ?_
      refine sLoadR hb (by omega) ?_
      refine sIdxR a rfl (by omega) ?_
      refine sLoadR hb (by omega) ?_
      refine cmp_step E.cmpOK bel (by omega) (by omega) ?_
      refine sCond (fun hc => ?_) (fun hc => ?_)
      · refine sW64n (r := (i + j) / 2 + 1) rfl (by omega) ?_
        exact sNext ((i + j) / 2 + 1, j) rfl ⟨rfl, by simp only; omega, by simp only; omega, k3, fun _ => hc, k5⟩ (by simp only; omega)
      · exact sNext (i, (i + j) / 2) rfl ⟨rfl, k1, by simp only; omega, by simp only; omega, k4, fun _ => hc⟩ (by simp only; omega)
    · simp only [decide_eq_false_iff_not, Int.ofNat_lt] at hlt
      have ei : i = j := by omega
      subst ei
      refine sLoop (σ := Nat) (fun k => [(13, nV k), (0, .sl q b 1 0 n), (10, nV i)]) (fun k H => H = hpR G b n (rotF f a (a + 1) (k + 1)) ∧ a ≤ k ∧ k ≤ i - 1) (fun k => i - k) a rfl ⟨by rw [rotF_nil2], Nat.le_refl _, by omega⟩ (fun k H ⟨hH, l1, l2⟩ => ?_)
      subst hH
      refine sW64n (r := i - 1) (by omega) (by omega) ?_
      refine sCond (fun hlk => ?_) (fun hlk => ?_)
      · simp only [decide_eq_true_eq, Int.ofNat_lt] at hlk
        refine sW64n (r := k + 1) rfl (by omega) ?_
        refine sW64n (r := k + 1) rfl (by omega) ?_
        refine sIdxR (k + 1) rfl (by omega) ?_
        refine sLoadR hb (by omega) ?_
        refine sIdxR k rfl (by omega) ?_
        refine sLoadR hb (by omega) ?_
        refine sIdxR k rfl (by omega) ?_
        refine sStoreR hb (by omega) ?_
        refine sIdxR (k + 1) rfl (by omega) ?_
        refine sStoreR hb (by omega) ?_
        refine sW64n (r := k + 1) rfl (by omega) ?_
        refine sNext (k + 1) rfl ⟨by rw [ins_up f l1], by omega, by omega⟩ (by show _ < _; omega)
      · simp only [decide_eq_false_iff_not, Int.ofNat_lt] at hlk
        have ek : k + 1 = i := by omega
        rw [ek]
        refine sRetQ (sRetR rfl rfl) ⟨rfl, _, rfl, (rotF_perm f (by omega) k1).wide (by omega) (Nat.le_refl _) k3, ?_⟩
        exact ins_first E.ord right k1 k3 k4 fun hie => Bef.of_not (k5 hie) (tag a i (Nat.le_refl _) (by omega) k1 hie)
  have hma : ¬ m = a + 1 := by
    intro h
    have : (((m - a : Nat) : Int) == 1) = false := h1
    rw [beq_eq_false_iff_ne] at this
    omega
  refine sW64n (r := e - m) (by omega) (by omega) ?_
  refine sCond (fun h2 => ?_) (fun h2 => ?_)
  · have hem : e = m + 1 := by
      have : (((e - m : Nat) : Int) == 1) = true := h2
      rw [beq_iff_eq] at this
      omega
    subst hem
    refine sLoop (σ := Nat × Nat) (fun s => [(0, .sl q b 1 0 n), (2, nV m), (4, .fn g [] caps), (15, nV s.2), (14, nV s.1)])
      (fun s H => H = hpR G b n f ∧ a ≤ s.1 ∧ s.1 ≤ s.2 ∧ s.2 ≤ m ∧ (a < s.1 → ltOf cmp (f m) (f (s.1 - 1)) = false) ∧ (s.2 < m → ltOf cmp (f m) (f s.2) = true))
      (fun s => s.2 - s.1) (a, m) rfl ⟨rfl, Nat.le_refl _, by simp only; omega, Nat.le_refl _, fun h => by simp only at h; omega, fun h => by simp only at h; omega⟩ (fun ⟨i, j⟩ H ⟨hH, k1, k2, k3, k4, k5⟩ => ?_)
    simp only at hH k1 k2 k3 k4 k5
    subst hH
    dsimp only
    refine sCond (fun hlt => ?_) (fun hlt => ?_)
    · simp only [decide_eq_true_eq, Int.ofNat_lt] at hlt
      refine sW64n (r := i + j) rfl (by omega) ?_
      refine sWu64n (r := i + j) rfl (by omega) ?_
      refine sOpt (shr1 _) ?_
      refine sW64n (r := (i + j) / 2) rfl (by omega) ?_
      refine sIdxR m rfl (by omega) ?_
      refine sLoadR hb (by omega) ?_
      refine sIdxR ((i + j) / 2) rfl (by omega) ?_
      refine sLoadR hb (by omega) ?_
      refine cmp_step E.cmpOK bel (by omega) (by omega) ?_
      refine sCond (fun hc => ?_) (fun hc => ?_)
      · have hc' : ltOf cmp (f m) (f ((i + j) / 2)) = false := by unfold ltOf; simpa using hc
        refine sW64n (r := (i + j) / 2 + 1) rfl (by omega) ?_
        exact sNext ((i + j) / 2 + 1, j) rfl ⟨rfl, by simp only; omega, by simp only; omega, k3, fun _ => hc', k5⟩ (by simp only; omega)
      · have hc' : ltOf cmp (f m) (f ((i + j) / 2)) = true := by unfold ltOf; simpa using hc
        exact sNext (i, (i + j) / 2) rfl ⟨rfl, k1, by simp only; omega, by simp only; omega, k4, fun _ => hc'⟩ (by simp only; omega)
    · simp only [decide_eq_false_iff_not, Int.ofNat_lt] at hlt
      have ei : i = j := by omega
      subst ei
      refine sLoop (σ := Nat) (fun k => [(17, nV k), (0, .sl q b 1 0 n), (14, nV i)]) (fun k H => H = hpR G b n (rotF f k m (m + 1)) ∧ i ≤ k ∧ k ≤ m) (fun k => k) m rfl ⟨by rw [rotF_nil1], by omega, Nat.le_refl _⟩ (fun k H ⟨hH, l1, l2⟩ => ?_)
      subst hH
      refine sCond (fun hlk => ?_) (fun hlk => ?_)
      · simp only [decide_eq_true_eq, gt_iff_lt, Int.ofNat_lt] at hlk
        refine sW64n (r := k - 1) (by omega) (by omega) ?_
        refine sW64n (r := k - 1) (by omega) (by omega) ?_
        refine sIdxR (k - 1) rfl (by omega) ?_
        refine sLoadR hb (by omega) ?_
        refine sIdxR k rfl (by omega) ?_
        refine sLoadR hb (by omega) ?_
        refine sIdxR k rfl (by omega) ?_
        refine sStoreR hb (by omega) ?_
        refine sIdxR (k - 1) rfl (by omega) ?_
        refine sStoreR hb (by omega) ?_
        refine sW64n (r := k - 1) (by omega) (by omega) ?_
        refine sNext (k - 1) rfl ⟨by rw [ins_down f (by omega) l2], by omega, by omega⟩ (by show _ < _; omega)
      · simp only [decide_eq_false_iff_not, gt_iff_lt, Int.ofNat_lt] at hlk
        have ek : k = i := by omega
        rw [ek]
        refine sRetQ (sRetR rfl rfl) ⟨rfl, _, rfl, (rotF_perm f k3 (by omega)).wide (by omega) k1 (Nat.le_refl _), ?_⟩
        refine ins_sorted E.ord left k1 k3 (fun k y1 y2 => ?_) fun hai => Bef.of_not (k4 hai) (tag (i - 1) m (by omega) (by omega) (Nat.le_refl _) (by omega))
        have e1 : Bef (ltOf cmp) (f m) (f i) := .inl (k5 (by omega))
        by_cases ek : k = i
        · rw [ek]; exact e1
        · exact Bef.trans E.ord e1 (left i k k1 (by omega) y2)
  refine sW64n (r := a + e) rfl (by omega) ?_
  refine sWu64n (r := a + e) rfl (by omega) ?_
  refine sOpt (shr1 _) ?_
  refine sW64n (r := (a + e) / 2) rfl (by omega) ?_
  refine sW64n (r := (a + e) / 2 + m) rfl (by omega) ?_
  refine sCond (fun h3 => ?_) (fun h3 => ?_)
  · simp only [decide_eq_true_eq, gt_iff_lt, Int.ofNat_lt] at h3
    refine sW64n (r := (a + e) / 2 + m - e) (by omega) (by omega) ?_
    exact sym_tail0 E ih M' (Nat.le_refl _) (by omega) (by omega) (Nat.le_refl _) (by omega) (fun _ _ => by omega) (fun _ _ => by omega)
  · simp only [decide_eq_false_iff_not, gt_iff_lt, Int.ofNat_lt] at h3
    exact sym_tail0 E ih M' (by omega) (Nat.le_refl _) (by omega) (by omega) (Nat.le_refl _) (fun h => by omega) (fun _ _ => by omega)


def srtQ (G : Heap) (b n : Nat) (lt : Nat → Nat → Bool) (v : AV) (H' : Heap) : Prop := v = .tup [] ∧ ∃ f, H' = hpR G b n f ∧ PermOn (fun i => i) f 0 n ∧ SrtOn lt f 0 n

theorem below_id (n : Nat) : Below' (fun i => i) n := fun i hi => hi

structure StbEnv (C : CSpec) (G : Heap) (b n : Nat) (q : Option Bool) (g : FuncId) (caps : List AV) (cmp : Nat → Nat → Int) : Prop where
  ord : LtOK (ltOf cmp)
  hb : b < G.length
  hn : n ≤ 1099511627776
  ins : ∀ (f : Nat → Nat) (a e : Nat), a ≤ e → e ≤ n → Below' f n → (∀ i j, a ≤ i → i < j → j < e → f i < f j) → ∃ v H', mrgQ G b n (ltOf cmp) f a e v H' ∧ C f_slices_insertionSortCmpFunc_int_ [.sl q b 1 0 n, nV a, nV e, .fn g [] caps] (hpR G b n f) v H'
  mrg : ∀ (f : Nat → Nat) (a m e : Nat), MrgOK n (ltOf cmp) f a m e → ∃ v H', mrgQ G b n (ltOf cmp) f a e v H' ∧ C f_slices_symMergeCmpFunc_int_ [.sl q b 1 0 n, nV a, nV m, nV e, .fn g [] caps] (hpR G b n f) v H'

/-- The blocks are there: merges. -/
theorem stable_tail {G : Heap} {b n : Nat} {q : Option Bool} {g : FuncId} {caps : List AV} {cmp : Nat → Nat → Int} (E : StbEnv C G b n q g caps cmp) {f : Nat → Nat} (h1 : SrtBlk (ltOf cmp) 20 f 0 n) (h2 : PermOn (fun i => i) f 0 n) (h3 : ∀ i, i < n → f i / 20 = i / 20) :
    EW C GT ((b_slices_stableCmpFunc_int_.behind 3).rest) (finQ a_slices_stableCmpFunc_int_ (hpR G b n fun i => i) (srtQ G b n (ltOf cmp))) [(6, nV 20), (2, .fn g [] caps), (0, .sl q b 1 0 n), (1, nV n)] (hpR G b n f) := by
  have hn := E.hn
  have hb := E.hb
  refine sLoop (σ := Nat × (Nat → Nat)) (fun s => [(6, nV s.1), (2, .fn g [] caps), (0, .sl q b 1 0 n), (1, nV n)])
    (fun s H => H = hpR G b n s.2 ∧ 0 < s.1 ∧ s.1 ≤ 2199023255552 ∧ SrtBlk (ltOf cmp) s.1 s.2 0 n ∧ PermOn (fun i => i) s.2 0 n ∧ ∀ i, i < n → s.2 i / s.1 = i / s.1) (fun s => n - s.1) (20, f) rfl ⟨rfl, by simp only; omega, by simp only; omega, h1, h2, h3⟩ (fun ⟨w, f⟩ H ⟨hH, w0, w1, k1, k2, k3⟩ => ?_)
  clear h1 h2 h3
  simp only at hH w0 w1 k1 k2 k3
  subst hH
  dsimp only
  refine sCond (fun hlt => ?_) (fun hlt => ?_)
  · simp only [decide_eq_true_eq, Int.ofNat_lt] at hlt
    have S0 : BlkSt (ltOf cmp) n w 0 f := ⟨⟨0, by omega⟩, fun i j h1 h2 h3 => by omega, k1, k2, fun i _ hi => k3 i hi, fun i hi => div_two (k3 i hi)⟩
    clear k1 k2 k3
    refine sW64n (r := 2 * w) (by omega) (by omega) ?_
    refine sLoop (σ := Nat × (Nat → Nat)) (fun s => [(6, nV w), (8, nV (s.1 + 2 * w)), (2, .fn g [] caps), (7, nV s.1), (0, .sl q b 1 0 n), (1, nV n)])
      (fun s H => H = hpR G b n s.2 ∧ s.1 ≤ n ∧ BlkSt (ltOf cmp) n w s.1 s.2) (fun s => n - s.1) (0, f) (by simp only [Nat.zero_add]; rfl) ⟨rfl, Nat.zero_le _, S0⟩ (fun ⟨a, f⟩ H ⟨hH, a1, S⟩ => ?_)
    simp only at hH a1 S
    subst hH
    dsimp only
    have bel : Below' f n := (below_id n).perm S.perm (Nat.le_refl _)
    refine sCond (fun hle => ?_) (fun hle => ?_)
    · simp only [decide_eq_true_eq, Int.ofNat_le] at hle
      refine sW64n (r := a + w) rfl (by omega) ?_
      obtain ⟨m1, m2, m3⟩ := S.mrg (e := a + 2 * w) (Nat.le_refl _) hle (by omega)
      obtain ⟨v, H', ⟨rfl, f', rfl, p, s⟩, hC⟩ := E.mrg f a (a + w) (a + 2 * w) ⟨by omega, by omega, hle, bel, m1, m2, m3⟩
      refine sCall hC (fun h => by cases h) ?_
      refine sW64n (r := 2 * w) (by omega) (by omega) ?_
      refine sW64n (r := a + 2 * w + 2 * w) rfl (by omega) ?_
      exact sNext (a + 2 * w, f') rfl ⟨rfl, hle, S.step hle p s⟩ (by simp only; omega)
    · simp only [decide_eq_false_iff_not, Int.ofNat_le] at hle
      have fin : ∀ (f' : Nat → Nat), PermOn f f' a n → SrtOn (ltOf cmp) f' a n → 0 < 2 * w ∧ 2 * w ≤ 2199023255552 ∧ SrtBlk (ltOf cmp) (2 * w) f' 0 n ∧ PermOn (fun i => i) f' 0 n ∧ ∀ i, i < n → f' i / (2 * w) = i / (2 * w) := fun f' p s =>
        ⟨by omega, by omega, S.turn (by omega) (Nat.le_refl _) a1 p s⟩
      refine sW64n (r := a + w) rfl (by omega) ?_
      refine sCond (fun hm => ?_) (fun hm => ?_)
      · simp only [decide_eq_true_eq, Int.ofNat_lt] at hm
        obtain ⟨m1, m2, m3⟩ := S.mrg (e := n) (by omega) (Nat.le_refl _) (by omega)
        obtain ⟨v, H', ⟨rfl, f', rfl, p, s⟩, hC⟩ := E.mrg f a (a + w) n ⟨by omega, hm, Nat.le_refl _, bel, m1, m2, m3⟩
        refine sCall hC (fun h => by cases h) ?_
        refine sW64n (r := 2 * w) (by omega) (by omega) ?_
        exact sNext (2 * w, f') rfl ⟨rfl, fin f' p s⟩ (by simp only; omega)
      · simp only [decide_eq_false_iff_not, Int.ofNat_lt] at hm
        refine sW64n (r := 2 * w) (by omega) (by omega) ?_
        exact sNext (2 * w, f) rfl ⟨rfl, fin f (PermOn.refl _ _ _) (S.short (by omega))⟩ (by simp only; omega)
  · simp only [decide_eq_false_iff_not, Int.ofNat_lt] at hlt
    refine sRetQ (sRetR rfl rfl) ⟨rfl, f, rfl, k2, fun i j hi hij hj => k1 i j hi hij hj ?_⟩
    rw [Nat.div_eq_of_lt (by omega), Nat.div_eq_of_lt (by omega)]

theorem stable_ev {G : Heap} {b n : Nat} {q : Option Bool} {g : FuncId} {caps : List AV} {cmp : Nat → Nat → Int} (E : StbEnv C G b n q g caps cmp) :
    EFunQ C GT a_slices_stableCmpFunc_int_ [.sl q b 1 0 n, nV n, .fn g [] caps] (hpR G b n fun i => i) (srtQ G b n (ltOf cmp)) := by
  have hn := E.hn
  have hb := E.hb
  refine sLoop (σ := Nat × (Nat → Nat)) (fun s => [(6, nV 20), (8, nV (s.1 + 20)), (2, .fn g [] caps), (7, nV s.1), (0, .sl q b 1 0 n), (1, nV n)])
    (fun s H => H = hpR G b n s.2 ∧ s.1 ≤ n ∧ BlkIn (ltOf cmp) n s.1 s.2) (fun s => n - s.1) (0, fun i => i) rfl ⟨rfl, Nat.zero_le _, ⟨0, rfl⟩, fun i j h1 h2 h3 => by omega, PermOn.refl _ _ _, fun _ _ => rfl⟩ (fun ⟨a, f⟩ H ⟨hH, a1, S⟩ => ?_)
  simp only at hH a1 S
  subst hH
  dsimp only
  have bel : Below' f n := (below_id n).perm S.perm a1
  refine sCond (fun hle => ?_) (fun hle => ?_)
  · simp only [decide_eq_true_eq, Int.ofNat_le] at hle
    have hle' : a + 20 ≤ n := hle
    obtain ⟨v, H', ⟨rfl, f', rfl, p, s⟩, hC⟩ := E.ins f a (a + 20) (by omega) hle' bel (fun i j h1 h2 _ => S.tag h1 h2)
    refine sCall hC (fun h => by cases h) ?_
    refine sW64n (r := a + 20 + 20) rfl (by omega) ?_
    obtain ⟨t1, t2, t3⟩ := S.turn (Nat.le_refl _) hle' (by omega) p s
    obtain ⟨k, hk⟩ := S.mul
    exact sNext (a + 20, f') rfl ⟨rfl, hle', ⟨k + 1, by omega⟩, t1, t2, t3⟩ (by simp only; omega)
  · simp only [decide_eq_false_iff_not, Int.ofNat_le] at hle
    have hle' : ¬ a + 20 ≤ n := hle
    obtain ⟨v, H', ⟨rfl, f', rfl, p, s⟩, hC⟩ := E.ins f a n a1 (Nat.le_refl _) bel (fun i j h1 h2 _ => S.tag h1 h2)
    refine sCall hC (fun h => by cases h) ?_
    obtain ⟨t1, t2, t3⟩ := S.turn (by omega) (Nat.le_refl _) a1 p s
    exact stable_tail E t1 t2 t3

/-- No row at all. -/
theorem insertion_nil {v : AV} {a : Nat} {fv : AV} {H : Heap} (ha : a ≤ 1) : EFun C GT a_slices_insertionSortCmpFunc_int_ [v, nV 0, nV a, fv] H (.tup []) H := by
  refine sW64n (r := 1) rfl (by omega) ?_
  refine sLoop (σ := Unit) (fun s => [(0, v), (8, nV 1), (3, fv), (1, nV 0), (2, nV a)]) (fun s H' => H' = H) (fun s => 0) () rfl rfl (fun s H' hH => ?_)
  subst hH
  refine sCond (fun h => ?_) (fun h => ?_)
  · have h' : ((1 : Nat) : Int) < ((a : Nat) : Int) := by simpa using h
    omega
  · exact sRetV rfl rfl rfl rfl (Old.refl _)
theorem stable_nil {v fv : AV} {H : Heap} (hI : C f_slices_insertionSortCmpFunc_int_ [v, nV 0, nV 0, fv] H (.tup []) H) : EFun C GT a_slices_stableCmpFunc_int_ [v, nV 0, fv] H (.tup []) H := by
  refine sLoop (σ := Unit) (fun s => [(6, nV 20), (8, nV 20), (2, fv), (7, nV 0), (0, v), (1, nV 0)]) (fun s H' => H' = H) (fun s => 0) () rfl rfl (fun s H' hH => ?_)
  subst hH
  refine sCondF ?_
  refine sCall0 hI ?_
  refine sLoop (σ := Unit) (fun s => [(6, nV 20), (2, fv), (0, v), (1, nV 0)]) (fun s H1 => H1 = H') (fun s => 0) () rfl rfl (fun s H1 hH => ?_)
  subst hH
  refine sCondF ?_
  exact sRetV rfl rfl rfl rfl (Old.refl _)

theorem sortStable_nil {v fv : AV} {H : Heap} (hv : view H 1 v = some []) (hS : C f_slices_stableCmpFunc_int_ [v, nV 0, fv] H (.tup []) H) : EFun C GT a_slices_SortStableFunc___int_int_ [v, fv] H (.tup []) H := by
  refine sLenN 0 hv rfl ?_
  refine sCall0 hS ?_
  exact sRetV rfl rfl rfl rfl (Old.refl _)
theorem sortStable_ev {G : Heap} {b n : Nat} {q : Option Bool} {f : Nat → Nat} {fv : AV} {H0 : Heap} (hS : C f_slices_stableCmpFunc_int_ [.sl q b 1 0 n, nV n, fv] H0 (.tup []) (hpR G b n f)) (h0 : H0 = hpR G b n fun i => i) :
    EFun C GT a_slices_SortStableFunc___int_int_ [.sl q b 1 0 n, fv] H0 (.tup []) (hpR G b n f) := by
  subst h0
  refine sLenSl ?_
  refine sCall hS (fun h => by cases h) ?_
  exact sRetR rfl rfl

end
end Go.AM
