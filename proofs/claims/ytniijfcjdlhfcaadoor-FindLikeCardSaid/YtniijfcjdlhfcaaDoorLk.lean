/- The contract of find.Like, plain part and walk. Own work. -/
import Derived.Test.YtniijfcjdlhfcaaDoorDac
set_option linter.all false
namespace Go.AM

/-! ### What it computes -/

def anyTo (f : Nat → Bool) : Nat → Bool
  | 0 => false
  | i + 1 => anyTo f i || f i
def dpStar (f : Nat → Bool) : Nat → Bool := fun i => anyTo f (i + 1)
def dpChar (t : List UInt8) (any : Bool) (c : UInt8) (f : Nat → Bool) : Nat → Bool
  | 0 => false
  | i + 1 => f i && (any || t[i]? == some c)
/-- 'esc': a tilde stands ahead. -/
def lkE (t : List UInt8) : Bool → List UInt8 → (Nat → Bool) → Option Bool
  | esc, [], f => if esc = true then none else some (f t.length)
  | true, c :: m, f => lkE t false m (dpChar t false c f)
  | false, c :: m, f => if c = 42 then lkE t false m (dpStar f) else if c = 126 then lkE t true m f else lkE t false m (dpChar t (c == 63) c f)
def lk (t m : List UInt8) (f : Nat → Bool) : Option Bool := lkE t false m f
theorem lk_nil (t : List UInt8) (f : Nat → Bool) : lk t [] f = some (f t.length) := rfl
theorem lk_cons (t : List UInt8) (c : UInt8) (m : List UInt8) (f : Nat → Bool) : lk t (c :: m) f = if c = 42 then lk t m (dpStar f) else if c = 126 then lkE t true m f else lk t m (dpChar t (c == 63) c f) := rfl
theorem lk_tilde_nil (t : List UInt8) (f : Nat → Bool) : lk t [126] f = none := rfl
theorem lk_tilde (t : List UInt8) (d : UInt8) (m : List UInt8) (f : Nat → Bool) : lk t (126 :: d :: m) f = lk t m (dpChar t false d f) := rfl
theorem lk_at_star (t m : List UInt8) (f : Nat → Bool) : lk t (42 :: m) f = lk t m (dpStar f) := by rw [lk_cons, if_pos rfl]
theorem lk_other {t : List UInt8} {c : UInt8} {m : List UInt8} {f : Nat → Bool} (h1 : ¬ c = 42) (h2 : ¬ c = 126) : lk t (c :: m) f = lk t m (dpChar t (c == 63) c f) := by
  rw [lk_cons, if_neg h1, if_neg h2]
def errV (n : Int) : AV := .iface t_api_Errno (.int .i64 n)
def likeV (t m : List UInt8) : AV :=
  if t.length > 200 ∨ m.length > 200 then .tup [.bool false, errV 4]
  else match lk t m (fun i => i == 0) with
    | some b => .tup [.bool b, .nili]
    | none => .tup [.bool false, errV 2]

/-! ### The loop at a star -/

structure S0 where
  i : Nat
  any : Bool
  g : Nat → Bool
def mk70 (t m : List UInt8) (b b' n j : Nat) (s : S0) : Fr := [(45, .int .i64 s.i), (8, .sl (some false) b' 1 0 n), (6, .sl (some false) b 1 0 n), (10, .bool s.any), (0, .str t), (1, .str m), (7, .int .i64 j), (44, .int .i64 n)]
def inv70 (H0 : Heap) (b b' n : Nat) (f : Nat → Bool) (s : S0) (H : Heap) : Prop :=
  s.i ≤ n ∧ s.any = anyTo f s.i ∧ (∀ j, j < s.i → s.g j = anyTo f (j + 1)) ∧ H[b']? = some (.row 1 (rowF n (fB s.g))) ∧ H[b]? = some (.row 1 (rowF n (fB f))) ∧ Old H0 H

section
variable {C : CSpec} {GT : Nat → Option AV}

theorem star_round {H0 H : Heap} {K : Post} {t m : List UInt8} {b b' n j : Nat} {f : Nat → Bool} (hn : n < 1000) (hbb : H0.length ≤ b') (hne : b' ≠ b) {s : S0} (hi : inv70 H0 b b' n f s H)
    (hK : ∀ fr H' g, (∀ j, j < n → g j = anyTo f (j + 1)) → H'[b']? = some (.row 1 (rowF n (fB g))) → Old H0 H' →
      restrictF fr [0, 1, 7, 8] = [(0, .str t), (1, .str m), (7, .int .i64 j), (8, .sl (some false) b' 1 0 n)] → K (.exit 2) fr H') :
    EW C GT b_find_Like_0 (roundK [45, 8, 6, 10, 0, 1, 7, 44] (mk70 t m b b' n j) (inv70 H0 b b' n f) (fun s => n - s.i) s K) (mk70 t m b b' n j s) H := by
  obtain ⟨i, any, g⟩ := s
  obtain ⟨h1, h2, h3, h4, h5, h6⟩ := hi
  simp only at h1 h2 h3 h4
  dsimp only [mk70]
  refine sCond (fun h => ?_) (fun h => ?_)
  · simp only [decide_eq_true_eq, Int.ofNat_lt] at h
    have fin : ∀ v, v = anyTo f (i + 1) → inv70 H0 b b' n f ⟨i + 1, v, upd g i v⟩ (H.set b' (.row 1 (rowF n (fB (upd g i v))))) := by
      intro v hv
      refine ⟨by simp only; omega, hv, ?_, set_at h4, set_other hne h5, h6.set hbb _⟩
      intro j hj
      simp only [upd] at hj ⊢
      split
      · rename_i e; subst e; exact hv
      · exact h3 j (by omega)
    refine sCond (fun hc => ?_) (fun hc => ?_)
    · refine sCondT ?_
      refine sAt ?_ ?_
      · omega
      refine sStoreB i true (Nat.zero_add _) h h4 ?_
      refine sW64n (r := i + 1) rfl (by omega) ?_
      have hv : true = anyTo f (i + 1) := by simp only [anyTo, ← h2, hc, Bool.true_or]
      exact sNext (S0.mk (i + 1) true (upd g i true)) rfl (fin _ hv) (by simp only; omega)
    · refine sAt ?_ ?_
      · omega
      refine sLoadB i (Nat.zero_add _) h h5 ?_
      refine sCondF ?_
      refine sAt ?_ ?_
      · omega
      refine sStoreB i (f i) (Nat.zero_add _) h h4 ?_
      refine sW64n (r := i + 1) rfl (by omega) ?_
      have hv : f i = anyTo f (i + 1) := by simp only [anyTo, ← h2, hc, Bool.false_or]
      exact sNext (S0.mk (i + 1) (f i) (upd g i (f i))) rfl (fin _ hv) (by simp only; omega)
  · simp only [decide_eq_false_iff_not, Int.ofNat_lt] at h
    have : i = n := by omega
    subst this
    exact hK _ _ g h3 h4 h6 rfl

/-! ### The loop at another byte -/

structure S1 where
  i : Nat
  g : Nat → Bool
def mk71 (t m : List UInt8) (b b' j : Nat) (any : Bool) (c : UInt8) (s : S1) : Fr := [(77, .int .i64 s.i), (9, byteAV c), (0, .str t), (12, .bool any), (6, .sl (some false) b 1 0 (t.length + 1)), (8, .sl (some false) b' 1 0 (t.length + 1)), (1, .str m), (7, .int .i64 j), (76, .int .i64 t.length)]
def inv71 (H0 : Heap) (t : List UInt8) (b b' : Nat) (any : Bool) (c : UInt8) (f : Nat → Bool) (s : S1) (H : Heap) : Prop :=
  s.i ≤ t.length ∧ (∀ k, k ≤ s.i → s.g k = dpChar t any c f k) ∧ H[b']? = some (.row 1 (rowF (t.length + 1) (fB s.g))) ∧ H[b]? = some (.row 1 (rowF (t.length + 1) (fB f))) ∧ Old H0 H

theorem char_round {H0 H : Heap} {K : Post} {t m : List UInt8} {b b' j : Nat} {any : Bool} {c : UInt8} {f : Nat → Bool} (hn : t.length ≤ 200) (hbb : H0.length ≤ b') (hne : b' ≠ b) {s : S1} (hi : inv71 H0 t b b' any c f s H)
    (hK : ∀ fr H' g, (∀ k, k < t.length + 1 → g k = dpChar t any c f k) → H'[b']? = some (.row 1 (rowF (t.length + 1) (fB g))) → Old H0 H' →
      restrictF fr [0, 1, 7, 8] = [(0, .str t), (1, .str m), (7, .int .i64 j), (8, .sl (some false) b' 1 0 (t.length + 1))] → K (.exit 4) fr H') :
    EW C GT b_find_Like_1 (roundK [77, 9, 0, 12, 6, 8, 1, 7, 76] (mk71 t m b b' j any c) (inv71 H0 t b b' any c f) (fun s => t.length - s.i) s K) (mk71 t m b b' j any c s) H := by
  obtain ⟨i, g⟩ := s
  obtain ⟨h1, h3, h4, h5, h6⟩ := hi
  simp only at h1 h3 h4
  dsimp only [mk71]
  refine sCond (fun h => ?_) (fun h => ?_)
  · simp only [decide_eq_true_eq, Int.ofNat_lt] at h
    have fin : ∀ v, v = dpChar t any c f (i + 1) → inv71 H0 t b b' any c f ⟨i + 1, upd g (i + 1) v⟩ (H.set b' (.row 1 (rowF (t.length + 1) (fB (upd g (i + 1) v))))) := by
      intro v hv
      refine ⟨by simp only; omega, ?_, set_at h4, set_other hne h5, h6.set hbb _⟩
      intro j hj
      simp only [upd] at hj ⊢
      split
      · rename_i e; subst e; exact hv
      · exact h3 j (by omega)
    refine sW64n (r := i + 1) rfl (by omega) ?_
    refine sAt ?_ ?_
    · omega
    refine sLoadB i (Nat.zero_add _) (by omega) h5 ?_
    refine sCond (fun hf => ?_) (fun hf => ?_)
    · refine sCond (fun ha => ?_) (fun ha => ?_)
      · refine sCondT ?_
        refine sCondT ?_
        refine sAt ?_ ?_
        · omega
        refine sStoreB (i + 1) true (Nat.zero_add _) (by omega) h4 ?_
        refine sW64n (r := i + 1) rfl (by omega) ?_
        exact sNext (S1.mk (i + 1) (upd g (i + 1) true)) rfl (fin _ (by simp only [dpChar, hf, ha, Bool.true_or, Bool.and_true])) (by simp only; omega)
      · refine sChr (i := i) rfl (List.getElem?_eq_getElem h) ?_
        refine sCondF ?_
        refine sCondT ?_
        refine sAt ?_ ?_
        · omega
        refine sStoreB (i + 1) ((t[i].toNat : Int) == (c.toNat : Int)) (Nat.zero_add _) (by omega) h4 ?_
        refine sW64n (r := i + 1) rfl (by omega) ?_
        refine sNext (S1.mk (i + 1) (upd g (i + 1) ((t[i].toNat : Int) == (c.toNat : Int)))) rfl (fin _ ?_) (by simp only; omega)
        rw [byteIs]
        simp only [dpChar, hf, ha, Bool.false_or, Bool.true_and, List.getElem?_eq_getElem h]
        rfl
    · refine sCondF ?_
      refine sAt ?_ ?_
      · omega
      refine sStoreB (i + 1) false (Nat.zero_add _) (by omega) h4 ?_
      refine sW64n (r := i + 1) rfl (by omega) ?_
      exact sNext (S1.mk (i + 1) (upd g (i + 1) false)) rfl (fin _ (by simp only [dpChar, hf, Bool.false_and])) (by simp only; omega)
  · simp only [decide_eq_false_iff_not, Int.ofNat_lt] at h
    have : i = t.length := by omega
    subst this
    exact hK _ _ g (fun k hk => h3 k (by omega)) h4 h6 rfl

/-! ### The loop over the mask -/

structure S2 where
  b : Nat
  j : Nat
  f : Nat → Bool
def mk72 (t m : List UInt8) (s : S2) : Fr := [(6, .sl (some false) s.b 1 0 (t.length + 1)), (7, .int .i64 s.j), (0, .str t), (1, .str m)]
def inv72 (H0 : Heap) (t m : List UInt8) (f0 : Nat → Bool) (s : S2) (H : Heap) : Prop :=
  H0.length ≤ s.b ∧ s.j ≤ m.length ∧ lk t (m.drop s.j) s.f = lk t m f0 ∧ H[s.b]? = some (.row 1 (rowF (t.length + 1) (fB s.f))) ∧ Old H0 H

theorem mask_round {H0 H : Heap} {K : Post} {t m : List UInt8} {f0 : Nat → Bool} (hn : t.length ≤ 200) (hm : m.length ≤ 200) {s : S2} (hi : inv72 H0 t m f0 s H)
    (hK : ∀ fr H' f b, lk t m f0 = some (f t.length) → H'[b]? = some (.row 1 (rowF (t.length + 1) (fB f))) → Old H0 H' →
      restrictF fr [0, 6] = [(0, .str t), (6, .sl (some false) b 1 0 (t.length + 1))] → K (.exit 0) fr H')
    (hR : ∀ fr H', lk t m f0 = none → Old H0 H' → get fr 4 = .bool false → get fr 5 = errV 2 → K .ret fr H') :
    EW C GT b_find_Like_2 (roundK [6, 7, 0, 1] (mk72 t m) (inv72 H0 t m f0) (fun s => m.length - s.j) s K) (mk72 t m s) H := by
  obtain ⟨b, j, f⟩ := s
  obtain ⟨hb, hj, hlk, hrow, hold⟩ := hi
  simp only at hb hj hlk hrow
  dsimp only [mk72]
  have hbl : b < H.length := (List.getElem?_eq_some_iff.1 hrow).1
  refine sCond (fun h => ?_) (fun h => ?_)
  · simp only [decide_eq_true_eq, Int.ofNat_lt] at h
    refine sLenSl ?_
    refine sMakeB (n := t.length + 1) rfl rfl (by omega) (by omega) ?_
    obtain ⟨c, hc⟩ : ∃ c, m[j]? = some c := ⟨_, List.getElem?_eq_getElem h⟩
    refine sChr (i := j) rfl hc ?_
    rw [drop_of_get hc] at hlk
    have hnew : H0.length ≤ H.length := hold.1
    have hne : H.length ≠ b := by omega
    refine sCond (fun h42 => ?_) (fun h42 => ?_)
    · have h42' : c = 42 := by
        have : (c == 42) = true := (byteIs c 42) ▸ h42
        simpa using this
      subst h42'
      rw [lk_at_star] at hlk
      refine sLenSl ?_
      refine sLoop (mk70 t m b H.length (t.length + 1) j) (inv70 H0 b H.length (t.length + 1) f) (fun s => t.length + 1 - s.i) ⟨0, false, fun _ => false⟩ rfl
        ⟨Nat.zero_le _, rfl, fun j hj => absurd hj (Nat.not_lt_zero _), push_last, push_old hrow, hold.push _⟩ (fun s H1 hi => star_round (by omega) hnew hne hi ?_)
      intro fr H' g hg hrow' hold' hfr
      refine sBlk hfr ?_
      refine sW64n (r := j + 1) rfl (by omega) ?_
      refine sNext (S2.mk H.length (j + 1) (dpStar f)) rfl ⟨hnew, by simp only; omega, hlk, ?_, hold'⟩ (by simp only; omega)
      rw [hrow']
      exact congrArg (fun r => some (ABlk.row 1 r)) (rowF_congr fun i hi => by simp only [fB, dpStar, hg i hi])
    · have h42' : ¬ c = 42 := by
        have : (c == 42) = false := (byteIs c 42) ▸ h42
        simpa using this
      refine sCond (fun h126 => ?_) (fun h126 => ?_)
      · have h126' : c = 126 := by
          have : (c == 126) = true := (byteIs c 126) ▸ h126
          simpa using this
        subst h126'
        refine sW64n (r := j + 1) rfl (by omega) ?_
        refine sCond (fun he => ?_) (fun he => ?_)
        · have he' : j + 1 = m.length := by
            simp only [beq_iff_eq] at he
            omega
          have hdn : m.drop (j + 1) = [] := by rw [List.drop_eq_nil_iff]; omega
          rw [hdn] at hlk
          rw [lk_tilde_nil] at hlk
          exact hR _ _ hlk.symm (hold.push _) rfl rfl
        · have he' : j + 1 < m.length := by
            simp only [beq_eq_false_iff_ne, ne_eq] at he
            omega
          obtain ⟨d, hd⟩ : ∃ d, m[j + 1]? = some d := ⟨_, List.getElem?_eq_getElem he'⟩
          refine sChr (i := j + 1) rfl hd ?_
          rw [drop_of_get hd] at hlk
          rw [lk_tilde] at hlk
          have hlk' : lk t (m.drop (j + 2)) (dpChar t false d f) = lk t m f0 := hlk
          refine sLoop (mk71 t m b H.length (j + 1) false d) (inv71 H0 t b H.length false d f) (fun s => t.length - s.i) ⟨0, fun _ => false⟩ rfl
            ⟨Nat.zero_le _, fun k hk => by rw [Nat.le_zero.1 hk]; rfl, push_last, push_old hrow, hold.push _⟩ (fun s H1 hi => char_round hn hnew hne hi ?_)
          intro fr H' g hg hrow' hold' hfr
          refine sBlk hfr ?_
          refine sW64n (r := j + 2) rfl (by omega) ?_
          refine sNext (S2.mk H.length (j + 2) (dpChar t false d f)) rfl ⟨hnew, by simp only; omega, hlk', ?_, hold'⟩ (by simp only; omega)
          rw [hrow']
          exact congrArg (fun r => some (ABlk.row 1 r)) (rowF_congr fun i hi => by simp only [fB, hg i hi])
      · have h126' : ¬ c = 126 := by
          have : (c == 126) = false := (byteIs c 126) ▸ h126
          simpa using this
        have hlk' : lk t (m.drop (j + 1)) (dpChar t (c == 63) c f) = lk t m f0 := by
          rw [lk_other h42' h126'] at hlk
          exact hlk
        refine sLoop (mk71 t m b H.length j ((c.toNat : Int) == ((63 : UInt8).toNat : Int)) c) (inv71 H0 t b H.length ((c.toNat : Int) == ((63 : UInt8).toNat : Int)) c f) (fun s => t.length - s.i) ⟨0, fun _ => false⟩ rfl
          ⟨Nat.zero_le _, fun k hk => by rw [Nat.le_zero.1 hk]; rfl, push_last, push_old hrow, hold.push _⟩ (fun s H1 hi => char_round hn hnew hne hi ?_)
        intro fr H' g hg hrow' hold' hfr
        refine sBlk hfr ?_
        refine sW64n (r := j + 1) rfl (by omega) ?_
        refine sNext (S2.mk H.length (j + 1) (dpChar t (c == 63) c f)) rfl ⟨hnew, by simp only; omega, hlk', ?_, hold'⟩ (by simp only; omega)
        rw [hrow']
        exact congrArg (fun r => some (ABlk.row 1 r)) (rowF_congr fun i hi => by simp only [fB, hg i hi, byteIs])
  · simp only [decide_eq_false_iff_not, Int.ofNat_lt] at h
    have : j = m.length := by omega
    subst this
    rw [List.drop_length] at hlk
    exact hK _ _ f b hlk.symm hrow hold rfl

theorem like_ev (t m : List UInt8) (H : Heap) : EFun C GT a_find_Like [.str t, .str m] H (likeV t m) H := by
  refine sCond (fun h => ?_) (fun h => ?_)
  · simp only [decide_eq_true_eq] at h
    have hv : likeV t m = .tup [.bool false, errV 4] := by unfold likeV; rw [if_pos (.inl (by omega))]
    rw [hv]
    refine sCondT ?_
    refine sCondT ?_
    exact sRetV rfl rfl rfl rfl (Old.refl H)
  · simp only [decide_eq_false_iff_not] at h
    refine sCondF ?_
    refine sCond (fun h' => ?_) (fun h' => ?_)
    · simp only [decide_eq_true_eq] at h'
      have hv : likeV t m = .tup [.bool false, errV 4] := by unfold likeV; rw [if_pos (.inr (by omega))]
      rw [hv]
      exact sRetV rfl rfl rfl rfl (Old.refl H)
    · simp only [decide_eq_false_iff_not] at h'
      have hn : t.length ≤ 200 := by omega
      have hm : m.length ≤ 200 := by omega
      refine sW64n (r := t.length + 1) rfl (by omega) ?_
      refine sMakeB (n := t.length + 1) rfl rfl (by omega) (by omega) ?_
      refine sAt ?_ ?_
      · omega
      refine sStoreB 0 true rfl (by omega) push_last ?_
      refine sLoop (mk72 t m) (inv72 H t m (fun i => i == 0)) (fun s => m.length - s.j) ⟨H.length, 0, fun i => i == 0⟩ rfl ⟨Nat.le_refl _, Nat.zero_le _, rfl, ?_, ((Old.refl H).push _).set (Nat.le_refl _) _⟩ (fun s H1 hi => mask_round hn hm hi ?_ ?_)
      · rw [set_at push_last]
        refine congrArg (fun r => some (ABlk.row 1 r)) (rowF_congr fun i hi => ?_)
        cases i <;> rfl
      · intro fr H' f b hv hrow hold hfr
        have hv' : likeV t m = .tup [.bool (f t.length), .nili] := by unfold likeV; rw [if_neg (by omega), hv]
        rw [hv']
        refine sBlk hfr ?_
        refine sAt ?_ ?_
        · omega
        refine sLoadB t.length (Nat.zero_add _) (by omega) hrow ?_
        exact sRetV rfl rfl rfl rfl hold
      · intro fr H' hv hold h4 h5
        have hv' : likeV t m = .tup [.bool false, errV 2] := by unfold likeV; rw [if_neg (by omega), hv]
        rw [hv']
        refine sRetV rfl ?_ rfl rfl hold
        simp only [a_find_Like, resAll, resOf, h4, h5]
        rfl

end
end Go.AM
