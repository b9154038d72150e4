/- The walks of package format's Wide, Column and Number, and of the law FormatWides. Own work. -/
import Derived.Test.YtniijfcjdlhfcaaDoorFmt
set_option linter.all false
namespace Go.AM
open Go.Lib (repeatL repeatL_length)

def numV (s : List UInt8) : AV :=
  if s = [] ∨ s.length > 5 then .tup [.int .i64 0, errV 2]
  else if (s.any fun c => decide ((c.toNat : Int) < 65) || decide ((c.toNat : Int) > 90)) = true then .tup [.int .i64 0, errV 2]
  else if valF s > 1000000 then .tup [.int .i64 0, errV 2] else .tup [.int .i64 (valF s), .nili]

section
variable {C : CSpec} {GT : Nat → Option AV}

theorem enc_letter (k : Nat) (h : k < 26) : (Utf8.encode ((65 + k : Nat) : Int)).data.toList = [UInt8.ofNat (65 + k)] := by
  have hv : Utf8.valid ((65 + k : Nat) : Int) = true := by
    simp [Utf8.valid]; omega
  unfold Utf8.encode
  simp only [hv, if_true, Int.toNat_natCast]
  rw [if_pos (by omega)]

theorem letters_len' (n : Nat) : (letters n).length ≤ n := by
  induction n using Nat.strongRecOn with
  | ind n ih =>
    cases n with
    | zero => simp [letters, lettersF]
    | succ n =>
      rw [letters_succ, List.length_append]
      have := ih (n / 26) (by omega)
      simp only [List.length_cons, List.length_nil]; omega

structure SC where
  m : Nat
  s : List UInt8

theorem column_fmt_ev (n : Int) (H : Heap) : EFun C GT a_format_Column [.int .i64 n] H (columnV n) H := by
  refine sCond (fun h => ?_) (fun h => ?_)
  · have e : columnV n = .tup [.str [], errV 1] := by simp only [decide_eq_true_eq] at h; unfold columnV; rw [if_pos (.inl h)]
    refine sCondT ?_
    refine sCondT ?_
    exact sRetE e rfl rfl rfl rfl (Old.refl H)
  refine sCondF ?_
  refine sCond (fun h' => ?_) (fun h' => ?_)
  · have e : columnV n = .tup [.str [], errV 1] := by simp only [decide_eq_true_eq] at h'; unfold columnV; rw [if_pos (.inr h')]
    exact sRetE e rfl rfl rfl rfl (Old.refl H)
  simp only [decide_eq_false_iff_not] at h h'
  obtain ⟨N, rfl⟩ : ∃ N : Nat, n = N := ⟨n.toNat, by omega⟩
  have e : columnV (N : Int) = .tup [.str (letters N), .nili] := by unfold columnV; rw [if_neg (by omega)]; rfl
  refine sLoop (fun s : SC => [(0, .int .i64 s.m), (4, .str s.s)]) (fun s H1 => H1 = H ∧ s.m ≤ N ∧ letters N = letters s.m ++ s.s) (fun s => s.m) ⟨N, []⟩ rfl ⟨rfl, Nat.le_refl _, by simp⟩ (fun ⟨m, s⟩ H1 ⟨e1, hm, hl⟩ => ?_)
  subst e1
  simp only at hm hl
  dsimp only
  have hsl : s.length ≤ 1000000 := by
    have h1 := letters_len' N
    rw [hl, List.length_append] at h1
    omega
  cases m with
  | zero =>
    refine sCond (fun h => absurd h (by simp)) (fun _ => ?_)
    have e2 : letters N = s := by rw [hl]; rfl
    exact sRetE (e.trans (congrArg (fun x => AV.tup [.str x, .nili]) e2)) rfl rfl rfl rfl (Old.refl _)
  | succ k =>
    refine sCond (fun _ => ?_) (fun h => absurd h (by simp))
    have hmod : k % 26 < 26 := Nat.mod_lt _ (by omega)
    refine sVal (r := (k : Int)) (by rw [IntWalk.i64_in _ (by omega)]; omega) ?_
    refine sNeed (by decide) ?_
    refine sVal (r := ((k % 26 : Nat) : Int)) (by rw [Int.tmod_eq_emod_of_nonneg (by omega)]; omega) ?_
    refine sVal (r := ((65 + k % 26 : Nat) : Int)) (by rw [IntWalk.i64_in _ (by omega)]; omega) ?_
    refine sVal (r := ((65 + k % 26 : Nat) : Int)) (IntWalk.i32_in _ (by omega)) ?_
    refine sNeed ?_ ?_
    · rw [enc_letter _ hmod]; simp only [List.length_cons, List.length_nil]; omega
    rw [enc_letter _ hmod]
    refine sVal (r := (k : Int)) (by rw [IntWalk.i64_in _ (by omega)]; omega) ?_
    refine sNeed (by decide) ?_
    refine sVal (r := ((k / 26 : Nat) : Int)) (by rw [Int.tdiv_eq_ediv_of_nonneg (by omega), IntWalk.i64_in _ (by omega)]; omega) ?_
    refine sNext (SC.mk (k / 26) ([UInt8.ofNat (65 + k % 26)] ++ s)) rfl ⟨rfl, by simp only; omega, ?_⟩ (by simp only; omega)
    simp only
    rw [hl, letters_succ, List.append_assoc]

theorem sStrBytes {s : List UInt8} {H : Heap} {K : AV → Heap → Prop} (h : s.length ≤ 140737488355328) (q : K (.sl (some false) H.length 1 0 s.length) (H ++ [.row 1 (s.map byteAV)])) : actP .strToBytes [.str s] H K :=
  sAct (by simp only [astep]; rw [if_pos h]) q

structure SN where
  i : Nat
  n : Nat
theorem number_fmt_ev (s : List UInt8) (H : Heap) : EFun C GT a_format_Number [.str s] H (numV s) H := by
  refine sCond (fun h => ?_) (fun h => ?_)
  · have e : numV s = .tup [.int .i64 0, errV 2] := by unfold numV; rw [if_pos (.inl (by simpa using h))]
    refine sCondT ?_
    refine sCondT ?_
    exact sRetE e rfl rfl rfl rfl (Old.refl H)
  refine sCondF ?_
  refine sCond (fun h' => ?_) (fun h' => ?_)
  · have e : numV s = .tup [.int .i64 0, errV 2] := by simp only [decide_eq_true_eq] at h'; unfold numV; rw [if_pos (.inr (by omega))]
    exact sRetE e rfl rfl rfl rfl (Old.refl H)
  have hne : ¬ s = [] := by simpa using h
  simp only [decide_eq_false_iff_not] at h'
  have h5 : s.length ≤ 5 := by omega
  refine sStrBytes (by omega) ?_
  refine sLenSl ?_
  have hO : Old H (H ++ [ABlk.row 1 (s.map byteAV)]) := (Old.refl H).push _
  refine sLoop (fun x : SN => [(18, .int .i64 x.i), (4, .int .i64 x.n), (16, .sl (some false) H.length 1 0 s.length), (17, .int .i64 s.length)])
    (fun x H1 => H1 = H ++ [ABlk.row 1 (s.map byteAV)] ∧ x.i ≤ s.length ∧ x.n = valF (s.take x.i) ∧ ∀ k c, k < x.i → s[k]? = some c → isLetter c) (fun x => s.length - x.i) ⟨0, 0⟩ rfl
    ⟨rfl, Nat.zero_le _, rfl, fun k c h => absurd h (Nat.not_lt_zero _)⟩ (fun ⟨i, n⟩ H1 ⟨e1, hi, hn, hok⟩ => ?_)
  subst e1
  simp only at hi hn hok
  dsimp only
  have hlet : ∀ c ∈ s.take i, isLetter c := fun c hc => by
    obtain ⟨k, hk⟩ := List.getElem?_of_mem hc
    rw [List.getElem?_take] at hk
    split at hk
    · rename_i hki; exact hok k c hki hk
    · cases hk
  have hnb : n ≤ 12356630 := by
    have h1 := (valF_bounds _ hlet).2
    have h2 := rep1_mono (show (s.take i).length ≤ 5 by rw [List.length_take]; omega)
    have h3 : rep1 5 = 475255 := by decide
    omega
  refine sCond (fun hlt => ?_) (fun hlt => ?_)
  · simp only [decide_eq_true_eq, Int.ofNat_lt] at hlt
    have hsi : s[i]? = some s[i] := List.getElem?_eq_getElem hlt
    refine sAt ?_ ?_
    · omega
    refine sLoadRow i (byteAV s[i]) (byteAV s[i]) (Nat.zero_add _) push_last (by rw [List.getElem?_map, hsi]; rfl) rfl ?_
    have bad : (decide ((s[i].toNat : Int) < 65) || decide ((s[i].toNat : Int) > 90)) = true → numV s = .tup [.int .i64 0, errV 2] := fun hb => by
      unfold numV; rw [if_neg (fun h => h.elim hne (fun h => by omega)), if_pos (List.any_eq_true.2 ⟨_, List.mem_of_getElem? hsi, hb⟩)]
    refine sCond (fun hc => ?_) (fun hc => ?_)
    · refine sCondT ?_
      refine sCondT ?_
      exact sRetE (bad (by rw [hc]; rfl)) rfl rfl rfl rfl hO
    refine sCondF ?_
    refine sCond (fun hc' => ?_) (fun hc' => ?_)
    · exact sRetE (bad (by rw [hc', Bool.or_true])) rfl rfl rfl rfl hO
    simp only [decide_eq_false_iff_not] at hc hc'
    have hil : isLetter s[i] := by unfold isLetter; omega
    refine sW64n (r := n * 26) (by omega) (by omega) ?_
    refine sVal (r := ((s[i].toNat - 65 : Nat) : Int)) (by rw [IntWalk.u8_in _ (by omega)]; omega) ?_
    refine sW64n (r := s[i].toNat - 65) rfl (by omega) ?_
    refine sW64n (r := n * 26 + (s[i].toNat - 65)) (by omega) (by omega) ?_
    refine sW64n (r := n * 26 + (s[i].toNat - 64)) (by omega) (by omega) ?_
    refine sW64n (r := i + 1) rfl (by omega) ?_
    refine sNext (SN.mk (i + 1) (n * 26 + (s[i].toNat - 64))) rfl ⟨rfl, by simp only; omega, ?_, fun k c hk hkc => ?_⟩ (by simp only; omega)
    · simp only
      rw [List.take_succ_eq_append_getElem hlt, valF_snoc, hn]
    · by_cases e : k = i
      · subst e; rw [hsi] at hkc; cases hkc; exact hil
      · exact hok k c (by simp only at hk; omega) hkc
  · simp only [decide_eq_false_iff_not, Int.ofNat_lt] at hlt
    have ei : i = s.length := by omega
    subst ei
    rw [List.take_length] at hn
    have hno : (s.any fun c => decide ((c.toNat : Int) < 65) || decide ((c.toNat : Int) > 90)) = false := by
      rw [List.any_eq_false]
      intro c hc
      obtain ⟨k, hk⟩ := List.getElem?_of_mem hc
      have := hok k c (List.getElem?_eq_some_iff.1 hk).1 hk
      unfold isLetter at this
      simp only [Bool.or_eq_true, decide_eq_true_eq]
      omega
    refine sCond (fun hb => ?_) (fun hb => ?_)
    · simp only [decide_eq_true_eq] at hb
      have e : numV s = .tup [.int .i64 0, errV 2] := by
        unfold numV; rw [if_neg (fun h => h.elim hne (fun h => by omega)), if_neg (by rw [hno]; simp), if_pos (by omega)]
      exact sRetE e rfl rfl rfl rfl hO
    · simp only [decide_eq_false_iff_not] at hb
      have e : numV s = .tup [.int .i64 n, .nili] := by
        unfold numV; rw [if_neg (fun h => h.elim hne (fun h => by omega)), if_neg (by rw [hno]; simp), if_neg (by omega), hn]
      exact sRetE e rfl rfl rfl rfl hO

theorem spaces_len (n : Nat) : (spaces n).length = n := by unfold spaces; rw [repeatL_length]; simp

theorem wide_fmt_ev (hR : ∀ (s : List UInt8) (c : Nat) (H : Heap), c ≤ 1000 → s.length ≤ 1000 → C f_strings_Repeat [.str s, .int .i64 c] H (.str (repeatL s c)) H) (t : List UInt8) (wide side : Int) (H : Heap) (ht : t.length ≤ 9223372036854775807) :
    EFun C GT a_format_Wide [.str t, .int .i64 wide, .int .i64 side] H (wideV t wide side) H := by
  have bad : wide < 0 ∨ wide > 200 ∨ side < 0 ∨ side > 2 → wideV t wide side = .tup [.str [], errV 1] := fun h => by unfold wideV; rw [if_pos h]
  refine sCond (fun h1 => ?_) (fun h1 => ?_)
  · simp only [decide_eq_true_eq] at h1
    refine sCondT ?_
    refine sCondT ?_
    refine sCondT ?_
    refine sCondT ?_
    refine sCondT ?_
    refine sCondT ?_
    exact sRetE (bad (.inl h1)) rfl rfl rfl rfl (Old.refl H)
  refine sCondF ?_
  refine sCond (fun h2 => ?_) (fun h2 => ?_)
  · simp only [decide_eq_true_eq] at h2
    refine sCondT ?_
    refine sCondT ?_
    refine sCondT ?_
    refine sCondT ?_
    exact sRetE (bad (.inr (.inl h2))) rfl rfl rfl rfl (Old.refl H)
  refine sCondF ?_
  refine sCond (fun h3 => ?_) (fun h3 => ?_)
  · simp only [decide_eq_true_eq] at h3
    refine sCondT ?_
    refine sCondT ?_
    exact sRetE (bad (.inr (.inr (.inl h3)))) rfl rfl rfl rfl (Old.refl H)
  refine sCondF ?_
  refine sCond (fun h4 => ?_) (fun h4 => ?_)
  · simp only [decide_eq_true_eq] at h4
    exact sRetE (bad (.inr (.inr (.inr h4)))) rfl rfl rfl rfl (Old.refl H)
  simp only [decide_eq_false_iff_not] at h1 h2 h3 h4
  have hside : side = 0 ∨ side = 1 ∨ side = 2 := by omega
  obtain ⟨w, rfl⟩ : ∃ w : Nat, wide = w := ⟨wide.toNat, by omega⟩
  have e : wideV t (w : Int) side = .tup [.str (wideL t w side), .nili] := by unfold wideV; rw [if_neg (by omega)]; rfl
  by_cases hw : w ≤ t.length
  · refine sW64 (by omega) ?_
    refine sCond (fun _ => ?_) (fun h => absurd h (by simp only [decide_eq_false_iff_not]; omega))
    have e2 : wideL t w side = t.take w := by unfold wideL; rw [if_pos hw]
    have hs : aSlice none (.str t) none (some (.int .i64 (w : Int))) = some (.str (t.take w)) := by
      simp only [aSlice, aBounds, aHi, aLo]
      rw [if_pos (by omega)]
      simp
    refine sOpt hs ?_
    exact sRetE (e.trans (congrArg (fun x => AV.tup [.str x, .nili]) e2)) rfl rfl rfl rfl (Old.refl H)
  · obtain ⟨n, hn⟩ : ∃ n, n = w - t.length := ⟨_, rfl⟩
    refine sW64n (r := n) (by omega) (by omega) ?_
    refine sCond (fun h => absurd h (by simp only [decide_eq_true_eq]; omega)) (fun _ => ?_)
    refine sNeed (by decide) ?_
    refine sVal (r := ((n / 2 : Nat) : Int)) (by rw [Int.tdiv_eq_ediv_of_nonneg (by omega), IntWalk.i64_in _ (by omega)]; omega) ?_
    refine sOpt (v := [.int .i64 0, .int .i64 ((n / 2 : Nat) : Int), .int .i64 (n : Int)]) rfl ?_
    refine sNeed ?_ ?_
    · omega
    have go : ∀ a : Nat, a ≤ n → (if side = 0 then 0 else if side = 1 then n / 2 else n) = a → wideL t w side = spaces a ++ t ++ spaces (n - a) := fun a ha h => by
      unfold wideL; rw [if_neg hw]; simp only [← hn, h]
    have hsp := spaces_len
    rcases hside with h0 | h0 | h0
    · have e2 := go 0 (by omega) (by rw [h0]; rfl)
      have hp : part [.int .i64 0, .int .i64 ((n / 2 : Nat) : Int), .int .i64 (n : Int)] (side.toNat * 1) 1 false = some (.int .i64 ((0 : Nat) : Int)) := by rw [h0]; rfl
      refine sOpt hp ?_
      refine sCall0 (hR [32] 0 H (by omega) (by simp)) ?_
      refine sNeed ?_ ?_
      · have := hsp 0; unfold spaces at this; omega
      refine sW64n (r := n - 0) (by omega) (by omega) ?_
      refine sCall0 (hR [32] (n - 0) H (by omega) (by simp)) ?_
      refine sNeed ?_ ?_
      · have := hsp 0; have := hsp (n - 0); unfold spaces at *; simp only [List.length_append]; omega
      exact sRetE (e.trans (congrArg (fun x => AV.tup [.str x, .nili]) e2)) rfl rfl rfl rfl (Old.refl H)
    · have e2 := go (n / 2) (by omega) (by rw [h0]; rfl)
      have hp : part [.int .i64 0, .int .i64 ((n / 2 : Nat) : Int), .int .i64 (n : Int)] (side.toNat * 1) 1 false = some (.int .i64 ((n / 2 : Nat) : Int)) := by rw [h0]; rfl
      refine sOpt hp ?_
      refine sCall0 (hR [32] (n / 2) H (by omega) (by simp)) ?_
      refine sNeed ?_ ?_
      · have := hsp (n / 2); unfold spaces at this; omega
      refine sW64n (r := n - n / 2) (by omega) (by omega) ?_
      refine sCall0 (hR [32] (n - n / 2) H (by omega) (by simp)) ?_
      refine sNeed ?_ ?_
      · have := hsp (n / 2); have := hsp (n - n / 2); unfold spaces at *; simp only [List.length_append]; omega
      exact sRetE (e.trans (congrArg (fun x => AV.tup [.str x, .nili]) e2)) rfl rfl rfl rfl (Old.refl H)
    · have e2 := go n (by omega) (by rw [h0]; rfl)
      have hp : part [.int .i64 0, .int .i64 ((n / 2 : Nat) : Int), .int .i64 (n : Int)] (side.toNat * 1) 1 false = some (.int .i64 (n : Int)) := by rw [h0]; rfl
      refine sOpt hp ?_
      refine sCall0 (hR [32] n H (by omega) (by simp)) ?_
      refine sNeed ?_ ?_
      · have := hsp n; unfold spaces at this; omega
      refine sW64n (r := n - n) (by omega) (by omega) ?_
      refine sCall0 (hR [32] (n - n) H (by omega) (by simp)) ?_
      refine sNeed ?_ ?_
      · have := hsp n; have := hsp (n - n); unfold spaces at *; simp only [List.length_append]; omega
      exact sRetE (e.trans (congrArg (fun x => AV.tup [.str x, .nili]) e2)) rfl rfl rfl rfl (Old.refl H)
end
end Go.AM
