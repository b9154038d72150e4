/- The reference's likeness, from behind. Own work. -/
import Derived.Test.YtniijfcjdlhfcaaDoorL3
set_option linter.all false
namespace Go.AM

def predI : Nat → Int
  | 0 => -1
  | p + 1 => (p : Int)
theorem pred_wrap (p : Nat) (h : p ≤ 1000000) : IntKind.wrap .i64 ((p : Int) - 1) = predI p := by
  rw [IntWalk.i64_in _ (by omega)]
  cases p with
  | zero => rfl
  | succ p => show ((p + 1 : Nat) : Int) - 1 = (p : Int); omega

theorem star_step (t : List UInt8) (ms : List Mk) (i : Nat) (h : i ≤ t.length) : bw t (.star :: ms) i = (bw t ms i || (decide (i < t.length) && bw t (.star :: ms) (i + 1))) := by
  rw [Bool.eq_iff_iff]
  simp only [bw, Bool.or_eq_true, Bool.and_eq_true, decide_eq_true_eq, List.any_eq_true, List.mem_range]
  constructor
  · rintro ⟨d, hd, hb⟩
    cases d with
    | zero => exact .inl hb
    | succ d => exact .inr ⟨by omega, d, by omega, by rw [show i + 1 + d = i + (d + 1) by omega]; exact hb⟩
  · rintro (hb | ⟨hi, d, hd, hb⟩)
    · exact ⟨0, by omega, hb⟩
    · exact ⟨d + 1, by omega, by rw [show i + (d + 1) = i + 1 + d by omega]; exact hb⟩

section
variable {C : CSpec} {GT : Nat → Option AV}

structure SB where
  j : Nat
  b : Nat
  f : Nat → Bool
structure SI where
  p : Nat
  g : Nat → Bool

def mkIn (t : List UInt8) (b b' k : Nat) (v : AV) (s : SI) : Fr := [(8, .int .i64 (predI s.p)), (7, .sl (some false) b' 1 0 (t.length + 1)), (0, .str t), (5, .sl (some false) b 1 0 (t.length + 1)), (6, .int .i64 k), (1, v)]
def invIn (H : Heap) (t : List UInt8) (ms' : List Mk) (b b' : Nat) (f : Nat → Bool) (s : SI) (H' : Heap) : Prop :=
  s.p ≤ t.length + 1 ∧ (∀ q, q < s.p → s.g q = false) ∧ (∀ q, s.p ≤ q → q ≤ t.length → s.g q = bw t ms' q) ∧ H'[b']? = some (.row 1 (rowF (t.length + 1) (fB s.g))) ∧ H'[b]? = some (.row 1 (rowF (t.length + 1) (fB f))) ∧ Old H H'

theorem in_round {H H1 : Heap} {K : Post} {t : List UInt8} {ms : List Mk} {b b' k : Nat} {v : AV} {f : Nat → Bool} (hv : LstOf v 2 (ms.map mkV)) (ht : t.length ≤ 200) (hm : ms.length ≤ 200) {x : Mk} (hk : ms[k]? = some x) (hbb : H.length ≤ b') (hne : b' ≠ b)
    (hf : ∀ i, i ≤ t.length → f i = bw t (ms.drop (k + 1)) i) {s : SI} (hi : invIn H t (x :: ms.drop (k + 1)) b b' f s H1)
    (hK : ∀ fr H' g, (∀ q, q ≤ t.length → g q = bw t (x :: ms.drop (k + 1)) q) → H'[b']? = some (.row 1 (rowF (t.length + 1) (fB g))) → Old H H' →
      restrictF fr [0, 1, 6, 7] = [(0, .str t), (1, v), (6, .int .i64 k), (7, .sl (some false) b' 1 0 (t.length + 1))] → K (.exit 2) fr H') :
    EW C GT b_sccref3_Like_0 (roundK [8, 7, 0, 5, 6, 1] (mkIn t b b' k v) (invIn H t (x :: ms.drop (k + 1)) b b' f) (fun s => s.p) s K) (mkIn t b b' k v s) H1 := by
  obtain ⟨p, g⟩ := s
  obtain ⟨hp, hg0, hg1, hrow, hrowb, hO⟩ := hi
  simp only at hp hg0 hg1 hrow
  dsimp only [mkIn]
  have hkl := (List.getElem?_eq_some_iff.1 hk).1
  have hkm : (ms.map mkV)[k]? = some (mkV x) := by rw [List.getElem?_map, hk]; rfl
  cases p with
  | zero =>
    refine sCond (fun h => absurd h (by simp [predI])) (fun _ => ?_)
    exact hK _ _ g (fun q hq => hg1 q (Nat.zero_le _) hq) hrow hO rfl
  | succ i =>
    have hin : i ≤ t.length := by omega
    dsimp only [predI]
    refine sCond (fun _ => ?_) (fun h => absurd h (by simp))
    have fin : ∀ r, r = bw t (x :: ms.drop (k + 1)) i → invIn H t (x :: ms.drop (k + 1)) b b' f ⟨i, upd g i r⟩ (H1.set b' (.row 1 (rowF (t.length + 1) (fB (upd g i r))))) := by
      intro r hr
      refine ⟨by simp only; omega, fun q hq => ?_, fun q hq1 hq2 => ?_, set_at hrow, set_other hne hrowb, hO.set hbb _⟩
      · simp only [upd] at hq ⊢
        rw [if_neg (by omega)]; exact hg0 q (by omega)
      · simp only [upd] at hq1 ⊢
        split
        · rename_i e; subst e; exact hr
        · exact hg1 q (by omega) hq2
    have stay : false = bw t (x :: ms.drop (k + 1)) i → invIn H t (x :: ms.drop (k + 1)) b b' f ⟨i, g⟩ H1 := by
      intro hr
      refine ⟨by simp only; omega, fun q hq => hg0 q (by simp only at hq; omega), fun q hq1 hq2 => ?_, hrow, hrowb, hO⟩
      by_cases e : q = i
      · subst e; rw [← hr]; exact hg0 q (by omega)
      · exact hg1 q (by simp only at hq1; omega) hq2
    refine sIdxO k (mkV x) hv rfl hkm ?_
    cases x with
    | star =>
      refine sLoadL (.int .i64 1) rfl ?_
      refine sCondT ?_
      refine sAt ?_ ?_
      · omega
      refine sLoadB i (Nat.zero_add _) (by omega) hrowb ?_
      have hst := star_step t (ms.drop (k + 1)) i hin
      refine sCond (fun hfi => ?_) (fun hfi => ?_)
      · refine sCondT ?_
        refine sAt ?_ ?_
        · omega
        refine sStoreB i true (Nat.zero_add _) (by omega) hrow ?_
        refine sVal (pred_wrap i (by omega)) ?_
        exact sNext (SI.mk i (upd g i true)) rfl (fin true (by rw [hst, ← hf i hin, hfi, Bool.true_or])) (by simp only; omega)
      · refine sCond (fun hl => ?_) (fun hl => ?_)
        · simp only [decide_eq_true_eq, Int.ofNat_lt] at hl
          refine sW64n (r := i + 1) rfl (by omega) ?_
          refine sAt ?_ ?_
          · omega
          refine sLoadB (i + 1) (Nat.zero_add _) (by omega) hrow ?_
          refine sCondT ?_
          refine sCondF ?_
          refine sAt ?_ ?_
          · omega
          refine sStoreB i (g (i + 1)) (Nat.zero_add _) (by omega) hrow ?_
          refine sVal (pred_wrap i (by omega)) ?_
          exact sNext (SI.mk i (upd g i (g (i + 1)))) rfl (fin _ (by rw [hst, ← hf i hin, hfi, Bool.false_or, hg1 (i + 1) (Nat.le_refl _) (by omega), decide_eq_true hl, Bool.true_and])) (by simp only; omega)
        · simp only [decide_eq_false_iff_not, Int.ofNat_lt] at hl
          refine sCondF ?_
          refine sCondF ?_
          refine sAt ?_ ?_
          · omega
          refine sStoreB i false (Nat.zero_add _) (by omega) hrow ?_
          refine sVal (pred_wrap i (by omega)) ?_
          exact sNext (SI.mk i (upd g i false)) rfl (fin _ (by rw [hst, ← hf i hin, hfi, Bool.false_or, decide_eq_false hl, Bool.false_and])) (by simp only; omega)
    | any =>
      refine sLoadL (.int .i64 2) rfl ?_
      refine sCondF ?_
      refine sCond (fun hl => ?_) (fun hl => ?_)
      · simp only [decide_eq_true_eq, Int.ofNat_lt] at hl
        refine sIdxO k (mkV .any) hv rfl hkm ?_
        refine sLoadL (.int .i64 2) rfl ?_
        refine sCondT ?_
        refine sCondT ?_
        refine sCondT ?_
        refine sCondT ?_
        refine sW64n (r := i + 1) rfl (by omega) ?_
        refine sAt ?_ ?_
        · omega
        refine sLoadB (i + 1) (Nat.zero_add _) (by omega) hrowb ?_
        refine sAt ?_ ?_
        · omega
        refine sStoreB i (f (i + 1)) (Nat.zero_add _) (by omega) hrow ?_
        refine sVal (pred_wrap i (by omega)) ?_
        exact sNext (SI.mk i (upd g i (f (i + 1)))) rfl (fin _ (by rw [hf (i + 1) (by omega)]; simp only [bw, decide_eq_true hl, Bool.true_and])) (by simp only; omega)
      · simp only [decide_eq_false_iff_not, Int.ofNat_lt] at hl
        refine sCondF ?_
        refine sCondF ?_
        refine sVal (pred_wrap i (by omega)) ?_
        exact sNext (SI.mk i g) rfl (stay (by simp only [bw, decide_eq_false hl, Bool.false_and])) (by simp only; omega)
    | chr c =>
      refine sLoadL (.int .i64 0) rfl ?_
      refine sCondF ?_
      refine sCond (fun hl => ?_) (fun hl => ?_)
      · simp only [decide_eq_true_eq, Int.ofNat_lt] at hl
        have hti : t[i]? = some t[i] := List.getElem?_eq_getElem hl
        refine sIdxO k (mkV (.chr c)) hv rfl hkm ?_
        refine sLoadL (.int .i64 0) rfl ?_
        refine sCondF ?_
        refine sIdxO k (mkV (.chr c)) hv rfl hkm ?_
        refine sLoadL (byteAV c) rfl ?_
        refine sChr (i := i) rfl hti ?_
        refine sCondF ?_
        refine sCondT ?_
        refine sCond (fun he => ?_) (fun he => ?_)
        · have he' : c = t[i] := by
            have : (c == t[i]) = true := (byteIs c t[i]) ▸ he
            simpa using this
          refine sW64n (r := i + 1) rfl (by omega) ?_
          refine sAt ?_ ?_
          · omega
          refine sLoadB (i + 1) (Nat.zero_add _) (by omega) hrowb ?_
          refine sAt ?_ ?_
          · omega
          refine sStoreB i (f (i + 1)) (Nat.zero_add _) (by omega) hrow ?_
          refine sVal (pred_wrap i (by omega)) ?_
          exact sNext (SI.mk i (upd g i (f (i + 1)))) rfl (fin _ (by rw [hf (i + 1) (by omega)]; simp [bw, hti, he'])) (by simp only; omega)
        · have he' : ¬ c = t[i] := by
            have : (c == t[i]) = false := (byteIs c t[i]) ▸ he
            simpa using this
          refine sVal (pred_wrap i (by omega)) ?_
          exact sNext (SI.mk i g) rfl (stay (by
            have : (t[i]? == some c) = false := by rw [hti, beq_eq_false_iff_ne]; intro e; exact he' (Option.some.inj e).symm
            simp only [bw, this, Bool.false_and])) (by simp only; omega)
      · simp only [decide_eq_false_iff_not, Int.ofNat_lt] at hl
        refine sCondF ?_
        refine sCondF ?_
        refine sVal (pred_wrap i (by omega)) ?_
        exact sNext (SI.mk i g) rfl (stay (by
          have : t[i]? = none := List.getElem?_eq_none (by omega)
          simp [bw, this])) (by simp only; omega)

theorem like3_ev (t : List UInt8) (ms : List Mk) (v : AV) (H : Heap) (hv : LstOf v 2 (ms.map mkV)) (ht : t.length ≤ 200) (hm : ms.length ≤ 200) : EFun C GT a_sccref3_Like [.str t, v] H (.bool (bw t ms 0)) H := by
  refine sW64n (r := t.length + 1) rfl (by omega) ?_
  refine sMakeB (n := t.length + 1) rfl rfl (by omega) (by omega) ?_
  refine sAt ?_ ?_
  · omega
  refine sStoreB t.length true (Nat.zero_add _) (by omega) push_last ?_
  refine sLenO ms.length hv (by simp) ?_
  refine sVal (pred_wrap ms.length (by omega)) ?_
  refine sLoop (fun s : SB => [(0, .str t), (5, .sl (some false) s.b 1 0 (t.length + 1)), (6, .int .i64 (predI s.j)), (1, v)])
    (fun s H' => H.length ≤ s.b ∧ s.j ≤ ms.length ∧ H'[s.b]? = some (.row 1 (rowF (t.length + 1) (fB s.f))) ∧ (∀ i, i ≤ t.length → s.f i = bw t (ms.drop s.j) i) ∧ Old H H') (fun s => s.j) ⟨ms.length, H.length, upd (fun _ => false) t.length true⟩ rfl
    ⟨Nat.le_refl _, Nat.le_refl _, set_at push_last, fun i hi => ?_, ((Old.refl H).push _).set (Nat.le_refl _) _⟩ (fun ⟨j, b, f⟩ H1 ⟨hb, hj, hrow, hf, hO⟩ => ?_)
  · rw [List.drop_length]
    simp only [upd, bw]
    by_cases e : i = t.length
    · rw [if_pos e, e]; simp
    · rw [if_neg e]; simp [e]
  simp only at hb hj hrow hf
  dsimp only
  have hbl : b < H1.length := (List.getElem?_eq_some_iff.1 hrow).1
  cases j with
  | zero =>
    refine sCond (fun h => absurd h (by simp [predI])) (fun _ => ?_)
    refine sAt ?_ ?_
    · omega
    refine sLoadB 0 (Nat.zero_add _) (by omega) hrow ?_
    have e : bw t ms 0 = f 0 := by rw [hf 0 (Nat.zero_le _)]; rfl
    rw [e]
    exact sRetV rfl rfl rfl rfl hO
  | succ k =>
    dsimp only [predI]
    refine sCond (fun _ => ?_) (fun h => absurd h (by simp))
    have hk : ms[k]? = some ms[k] := List.getElem?_eq_getElem (by omega)
    have hdk : ms.drop k = ms[k] :: ms.drop (k + 1) := drop_of_get hk
    refine sW64n (r := t.length + 1) rfl (by omega) ?_
    refine sMakeB (n := t.length + 1) rfl rfl (by omega) (by omega) ?_
    refine sLoop (mkIn t b H1.length k v) (invIn H t (ms[k] :: ms.drop (k + 1)) b H1.length f) (fun s => s.p) ⟨t.length + 1, fun _ => false⟩ rfl
      ⟨Nat.le_refl _, fun _ _ => rfl, fun q h1 h2 => by simp only at h1; omega, push_last, push_old hrow, hO.push _⟩ (fun s H2 hi => in_round hv ht hm hk hO.1 (by omega) hf hi ?_)
    intro fr H' g hg hrow' hO' hfr
    refine sBlk hfr ?_
    refine sVal (pred_wrap k (by omega)) ?_
    exact sNext (SB.mk k H1.length g) rfl ⟨hO.1, by simp only; omega, hrow', by simp only [hdk]; exact hg, hO'⟩ (by simp only; omega)
end
end Go.AM
