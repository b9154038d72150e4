/- The walk of pick.picked. Own work. -/
import Derived.Test.YtaijlknbeapnhaaDoorPck
set_option linter.all false
namespace Go.AM

def meet (r : Row) (w : Want) : Bool := (twoC w.op (r.getD w.col.toNat default) w.val).kind == 3 && (twoC w.op (r.getD w.col.toNat default) w.val).num == 1
def meetN (r : Row) (l : List Want) : Nat := (l.filter (meet r)).length
def pickL (t : List Row) (l : List Want) (en : Nat → Bool) (n : Nat) : List Nat := (List.range n).filter fun i => en (meetN (t.getD i []) l)
def pickV (t : List Row) (l : List Want) (en : Nat → Bool) : AV :=
  if wantErr t l ≠ 0 then .tup [.lst (some true) 0 [], errN (wantErr t l)] else .tup [lstF 1 ((pickL t l en t.length).map natV), .nili]

theorem want_ok {t : List Row} {l : List Want} (h : wantErr t l = 0) : t.length ≤ 60 ∧ l.length ≤ 12 ∧ ∀ (i : Nat) (r : Row), t[i]? = some r → ∀ w ∈ l, 0 ≤ w.col ∧ w.col < (r.length : Int) ∧ 1 ≤ w.op ∧ w.op ≤ 6 := by
  unfold wantErr at h
  split at h
  · omega
  rename_i h1
  split at h
  · cases h
  rename_i h2
  split at h
  · cases h
  rename_i h3
  have hall : ∀ w ∈ l, wantOK t w = true := by
    intro w hw
    by_cases hb : wantOK t w = true
    · exact hb
    · exact absurd (List.any_eq_true.2 ⟨w, hw, by simpa using hb⟩) h3
  have hc : colErr t (l.map (·.col)) = 0 := by
    unfold colErr
    rw [if_neg h1, if_neg (by rw [List.length_map]; exact h2), if_neg]
    intro hx
    obtain ⟨c, hcm, hcb⟩ := List.any_eq_true.1 hx
    obtain ⟨w, hw, rfl⟩ := List.mem_map.1 hcm
    have := hall w hw
    unfold wantOK at this
    simp only [Bool.and_eq_true] at this
    rw [this.1.1.1] at hcb; cases hcb
  obtain ⟨a1, a2, a3, a4⟩ := tab_ok hc
  refine ⟨a1, by omega, fun i r hr w hw => ?_⟩
  obtain ⟨b1, b2⟩ := a4 i r hr w.col (List.mem_map.2 ⟨w, hw, rfl⟩)
  have := hall w hw
  unfold wantOK at this
  simp only [Bool.and_eq_true, decide_eq_true_eq] at this
  exact ⟨b1, b2, this.1.1.2, this.1.2⟩

theorem pickL_succ (t : List Row) (l : List Want) (en : Nat → Bool) (n : Nat) : pickL t l en (n + 1) = if en (meetN (t.getD n []) l) = true then pickL t l en n ++ [n] else pickL t l en n := by
  unfold pickL
  rw [List.range_succ, List.filter_append]
  simp only [List.filter_cons, List.filter_nil]
  split <;> simp

section
variable {C : CSpec} {GT : Nat → Option AV}

structure SPi where
  k : Nat
  n : Nat
structure SPo where
  i : Nat
  v : AV

set_option maxHeartbeats 1000000 in
theorem picked_ev (hK : ∀ tv wv t l H, TabOf H tv t → view H 5 wv = some (l.map wantV) → C f_pick_check [tv, wv] H (errN (wantErr t l)) H)
    (hTwo : ∀ op a b H, 1 ≤ op → op ≤ 6 → C f_value_Two [intV op, valV a, valV b] H (valV (twoC op a b)) H) (hT : ∀ v H, C f_value_IsTrue [valV v] H (.bool (v.kind == 3 && v.num == 1)) H)
    (tv wv : AV) (t : List Row) (l : List Want) (f : FuncId) (first caps : List AV) (en : Nat → Bool) (H : Heap) (ht : TabOf H tv t) (hw : view H 5 wv = some (l.map wantV))
    (hF : ∀ n H', Old H H' → C f (first ++ [natV n] ++ caps) H' (.bool (en n)) H') : EFun C GT a_pick_picked [tv, wv, .fn f first caps] H (pickV t l en) H := by
  have hk := hK tv wv t l H ht hw
  by_cases he : wantErr t l = 0
  case neg =>
    obtain ⟨n, hn⟩ : ∃ n, wantErr t l = n + 1 := ⟨wantErr t l - 1, by omega⟩
    rw [hn] at hk
    have e : pickV t l en = .tup [.lst (some true) 0 [], errN (n + 1)] := by unfold pickV; rw [if_pos (by omega), hn]
    rw [e]
    refine sCall0 hk ?_
    refine sOpt rfl ?_
    refine sCondT ?_
    exact sRetV rfl rfl rfl rfl (Old.refl _)
  obtain ⟨w1, w2, w3⟩ := want_ok he
  rw [he] at hk
  refine sCall0 hk ?_
  refine sOpt rfl ?_
  refine sCondF ?_
  obtain ⟨rows, hrv, hrl, hrg⟩ := ht
  refine sLenN t.length hrv hrl ?_
  refine sLoop (fun s : SPo => [(23, .int .i64 s.i), (9, s.v), (2, .fn f first caps), (1, wv), (21, tv), (22, .int .i64 t.length)]) (fun s H1 => Owns H H1 s.v 1 ((pickL t l en s.i).map natV) ∧ Old H H1 ∧ s.i ≤ t.length) (fun s => t.length - s.i) ⟨0, .lst (some true) 0 []⟩ rfl ⟨.inl ⟨rfl, rfl⟩, Old.refl H, Nat.zero_le _⟩ (fun ⟨i, v⟩ H1 ⟨ho, hO, hi⟩ => ?_)
  simp only at ho hi
  dsimp only
  refine sCond (fun hlt => ?_) (fun hlt => ?_)
  · have hlt : i < t.length := by have := of_decide_eq_true hlt; omega
    have hti : t[i]? = some t[i] := List.getElem?_eq_getElem hlt
    obtain ⟨r, hr⟩ : ∃ r, t[i] = r := ⟨_, rfl⟩
    rw [hr] at hti
    obtain ⟨x, hx, hxr⟩ := hrg i r hti
    refine sIdxV i x (view_old hO hrv) rfl hx (fun p hp => ?_)
    refine sLoadP x hp (by obtain ⟨q, k, rfl, _⟩ := hxr; rfl) ?_
    refine sLenN l.length (view_old hO hw) (by simp) ?_
    refine sLoop (fun s : SPi => [(30, .int .i64 s.k), (12, .int .i64 s.n), (11, x), (28, wv), (2, .fn f first caps), (1, wv), (21, tv), (22, .int .i64 t.length), (23, .int .i64 i), (10, .int .i64 i), (9, v), (29, .int .i64 l.length)])
      (fun s H2 => Owns H H2 v 1 ((pickL t l en i).map natV) ∧ Old H H2 ∧ s.k ≤ l.length ∧ s.n = meetN r (l.take s.k)) (fun s => l.length - s.k) ⟨0, 0⟩ rfl ⟨ho, hO, Nat.zero_le _, rfl⟩ (fun ⟨k, n⟩ H2 ⟨ho2, hO2, hk2, hn2⟩ => ?_)
    simp only at hk2 hn2
    dsimp only
    have hnb : n ≤ l.length := by
      rw [hn2]; unfold meetN
      exact Nat.le_trans (List.length_filter_le _ _) (by rw [List.length_take]; omega)
    refine sCond (fun hlk => ?_) (fun hlk => ?_)
    · have hlk : k < l.length := by have := of_decide_eq_true hlk; omega
      have hlw : l[k]? = some l[k] := List.getElem?_eq_getElem hlk
      obtain ⟨w, hwd⟩ : ∃ w, l[k] = w := ⟨_, rfl⟩
      rw [hwd] at hlw
      obtain ⟨c0, c1, o1, o6⟩ := w3 i r hti w (List.mem_of_getElem? hlw)
      refine sIdxV k (wantV w) (view_old hO2 hw) rfl (by rw [List.getElem?_map, hlw]; rfl) (fun p hp => ?_)
      refine sLoadP (wantV w) hp rfl ?_
      have hne : v.blk ≠ some H2.length := fun e => by have := ho2.lt e; omega
      refine sStoreBox push_last rfl rfl (by simp) ?_
      have hO3 := (hO2.push [ABlk.box [.int .i64 0, .int .i64 0, .int .i64 0, .int .i64 0, .str []]]).set hO2.1 (.box (splice [.int .i64 0, .int .i64 0, .int .i64 0, .int .i64 0, .str []] (0 + 0) (wantV w).cells))
      have ho3 := (ho2.push (ABlk.box [.int .i64 0, .int .i64 0, .int .i64 0, .int .i64 0, .str []])).set hne (.box (splice [.int .i64 0, .int .i64 0, .int .i64 0, .int .i64 0, .str []] (0 + 0) (wantV w).cells))
      refine sLoadBox (intV w.op) (set_at push_last) rfl ?_
      refine sLoadBox (intV w.col) (set_at push_last) rfl ?_
      obtain ⟨j, hj⟩ : ∃ j : Nat, w.col = j := ⟨w.col.toNat, by omega⟩
      have hjl : j < r.length := by omega
      have hrj : r[j]? = some r[j] := List.getElem?_eq_getElem hjl
      refine sIdxV j (valV r[j]) (hxr.get ((H2 ++ [ABlk.box [.int .i64 0, .int .i64 0, .int .i64 0, .int .i64 0, .str []]]).set H2.length (.box (splice [.int .i64 0, .int .i64 0, .int .i64 0, .int .i64 0, .str []] (0 + 0) (wantV w).cells))) hrj).1 hj (hxr.get [] hrj).2 (fun p hp => ?_)
      refine sLoadP (valV r[j]) hp rfl ?_
      refine sLoadBox (valV w.val) (set_at push_last) rfl ?_
      refine sCall0 (hTwo w.op r[j] w.val _ o1 o6) ?_
      refine sCall0 (hT _ _) ?_
      have hm : meet r w = ((twoC w.op r[j] w.val).kind == 3 && (twoC w.op r[j] w.val).num == 1) := by
        unfold meet
        have : r.getD w.col.toNat default = r[j] := by rw [hj]; simp [hjl]
        rw [this]
      have hstep : meetN r (l.take (k + 1)) = meetN r (l.take k) + if meet r w = true then 1 else 0 := by
        unfold meetN
        rw [List.take_succ_eq_append_getElem hlk, hwd, List.filter_append, List.length_append]
        simp only [List.filter_cons, List.filter_nil]
        split <;> simp
      refine sCond (fun hb => ?_) (fun hb => ?_)
      · refine sW64n (r := n + 1) rfl (by omega) ?_
        refine sW64n (r := k + 1) rfl (by omega) ?_
        exact sNext (SPi.mk (k + 1) (n + 1)) rfl ⟨ho3, hO3, by simp only; omega, by simp only; rw [hstep, hm, hb, hn2]; rfl⟩ (by simp only; omega)
      · refine sW64n (r := k + 1) rfl (by omega) ?_
        exact sNext (SPi.mk (k + 1) n) rfl ⟨ho3, hO3, by simp only; omega, by simp only; rw [hstep, hm, hb, hn2]; rfl⟩ (by simp only; omega)
    · have hge : k = l.length := by have := of_decide_eq_false hlk; omega
      subst hge
      rw [List.take_length] at hn2
      have hti' : t.getD i [] = r := by rw [List.getD_eq_getElem?_getD, hti]; rfl
      refine sCall0 (hF n H2 hO2) ?_
      have hsucc := pickL_succ t l en i
      rw [hti', ← hn2] at hsucc
      refine sCond (fun hb => ?_) (fun hb => ?_)
      · rw [if_pos hb] at hsucc
        have hpl : (pickL t l en i).length ≤ i := by unfold pickL; exact Nat.le_trans (List.length_filter_le _ _) (by simp)
        refine sPush (natV i) ho2 hO2 rfl rfl (by omega) (by rw [List.length_map]; omega) (fun s0 H3 v' H4 ho4 hO4 _ _ => ?_)
        refine sW64n (r := i + 1) rfl (by omega) ?_
        exact sNext (SPo.mk (i + 1) v') rfl ⟨by simp only; rw [hsucc, List.map_append]; exact ho4, hO4, by simp only; omega⟩ (by simp only; omega)
      · rw [if_neg (by rw [hb]; simp)] at hsucc
        refine sW64n (r := i + 1) rfl (by omega) ?_
        exact sNext (SPo.mk (i + 1) v) rfl ⟨by simp only; rw [hsucc]; exact ho2, hO2, by simp only; omega⟩ (by simp only; omega)
  · have hge : i = t.length := by have := of_decide_eq_false hlt; omega
    subst hge
    have e : pickV t l en = .tup [lstF 1 ((pickL t l en t.length).map natV), .nili] := by unfold pickV; rw [if_neg (by omega)]
    rw [e]
    obtain ⟨H', hf, hO', _⟩ := ho.frz hO
    exact sRetF (v0 := .tup [v, .nili]) rfl rfl (by simp only [frzV, frzL, hf]) (by simp [AV.bel, AV.belL, lstF_bel]) hO'
end
end Go.AM
