/- The walk of csv.Read. Own work. -/
import Derived.Test.YtniijfcjdlhfcaaDoorCv
import Derived.Test.YtniijfcjdlhfcaaDoorAm27
set_option linter.all false
set_option maxRecDepth 20000
namespace Go.AM

section
variable {C : CSpec} {GT : Nat → Option AV}

theorem u8_eq {c : UInt8} {n : Nat} (hn : n < 256) : ((c.toNat : Int) == (n : Int)) = (c == UInt8.ofNat n) := by
  rw [Bool.eq_iff_iff, beq_iff_eq, beq_iff_eq]
  constructor
  · intro h
    have : c.toNat = n := by omega
    rw [← this]; simp
  · intro h
    subst h
    rw [UInt8.toNat_ofNat']; omega

theorem u8_t {c : UInt8} (n : Nat) (hn : n < 256) (h : ((c.toNat : Int) == (n : Int)) = true) : c = UInt8.ofNat n := by rw [u8_eq hn, beq_iff_eq] at h; exact h
theorem u8_f {c : UInt8} (n : Nat) (hn : n < 256) (h : ((c.toNat : Int) == (n : Int)) = false) : c ≠ UInt8.ofNat n := by rw [u8_eq hn, beq_eq_false_iff_ne] at h; exact h

theorem prefix2 (a b : UInt8) (c : UInt8) (s : List UInt8) : [a, b].isPrefixOf (c :: s) = (c == a && s.head? == some b) := by
  cases s with
  | nil => simp [List.isPrefixOf]
  | cons d s =>
    simp only [List.isPrefixOf, List.head?_cons, Bool.and_true]
    rw [Bool.eq_iff_iff]
    simp only [Bool.and_eq_true, beq_iff_eq, Option.some.injEq]
    exact ⟨fun h => ⟨h.1.symm, h.2.symm⟩, fun h => ⟨h.1.symm, h.2.symm⟩⟩

theorem ends_ev (hP : ∀ s p H, C f_strings_HasPrefix [.str s, .str p] H (.bool (p.isPrefixOf s)) H) (s : List UInt8) (H : Heap) (hs : s ≠ []) : EFun C GT a_csv_ends [.str s] H (.bool (endsL s)) H := by
  cases s with
  | nil => exact absurd rfl hs
  | cons c s =>
    refine sChr (i := 0) rfl rfl ?_
    refine sCond (fun h => ?_) (fun h => ?_)
    · have hc : (c == 44) = true := by rw [← h]; exact (u8_eq (n := 44) (by omega)).symm
      have e : endsL (c :: s) = true := by show (c == 44 || _) = true; rw [hc]; rfl
      rw [e]
      refine sCondT ?_
      refine sCondT ?_
      refine sCondT ?_
      exact sRetV rfl rfl rfl rfl (Old.refl _)
    · have hc : (c == 44) = false := by rw [← h]; exact (u8_eq (n := 44) (by omega)).symm
      refine sChr (i := 0) rfl rfl ?_
      refine sCondF ?_
      refine sCond (fun h2 => ?_) (fun h2 => ?_)
      · have hc2 : (c == 10) = true := by rw [← h2]; exact (u8_eq (n := 10) (by omega)).symm
        have e : endsL (c :: s) = true := by show (c == 44 || (c == 10 || _)) = true; rw [hc2]; simp
        rw [e]
        refine sCondT ?_
        exact sRetV rfl rfl rfl rfl (Old.refl _)
      · have hc2 : (c == 10) = false := by rw [← h2]; exact (u8_eq (n := 10) (by omega)).symm
        refine sCall0 (hP _ _ _) ?_
        refine sCondF ?_
        have e : endsL (c :: s) = [13, 10].isPrefixOf (c :: s) := by
          show (c == 44 || (c == 10 || (c == 13 && s.head? == some 10))) = _
          rw [hc, hc2, prefix2]; rfl
        rw [e]
        exact sRetV rfl rfl rfl rfl (Old.refl _)

structure SRd where
  i : Nat
  rv : AV
  row : List Fld
  ov : AV
  out : List (List Fld)
def mkRd (s : List UInt8) (st : SRd) : Fr := [(5, st.ov), (0, .str s), (6, st.rv), (7, nV st.i)]
def headR (s : List UInt8) (i : Nat) (row : List Fld) (out : List (List Fld)) : CR := if s = [] ∧ row ≠ [] then .ok (out ++ [row]) else mach s i 0 [] row out
structure InvRd (H0 : Heap) (s : List UInt8) (M : CR) (st : SRd) (H : Heap) : Prop where
  le : st.i ≤ s.length
  row : Owns H0 H st.rv 1 (st.row.map AV.str)
  out : Owns H0 H st.ov 1 (st.out.map fldsV)
  old : Old H0 H
  m : headR (s.drop st.i) st.i st.row st.out = M
  nr : st.row.length ≤ st.i + 1
  nr2 : st.i < s.length → st.row.length ≤ st.i
  no : st.out.length ≤ st.i

theorem apart_rb {H0 H : Heap} {v w : AV} {r : List Fld} {u : List UInt8} (h : Owns H0 H v 1 (u.map byteAV)) (g : Owns H0 H w 1 (r.map AV.str)) : ∀ b, w.blk = some b → v.blk ≠ some b := fun b hb =>
  h.apart g (fun x y hx hy e => by
    obtain ⟨c, _, rfl⟩ := List.mem_map.1 hx
    obtain ⟨t, _, rfl⟩ := List.mem_map.1 hy
    cases e) hb
theorem apart_ob {H0 H : Heap} {v w : AV} {r : List (List Fld)} {u : List UInt8} (h : Owns H0 H v 1 (u.map byteAV)) (g : Owns H0 H w 1 (r.map fldsV)) : ∀ b, w.blk = some b → v.blk ≠ some b := fun b hb =>
  h.apart g (fun x y hx hy e => by
    obtain ⟨c, _, rfl⟩ := List.mem_map.1 hx
    obtain ⟨t, _, rfl⟩ := List.mem_map.1 hy
    unfold fldsV byteAV at e
    cases t <;> cases e) hb
theorem apart_or {H0 H : Heap} {v w : AV} {r : List (List Fld)} {u : List Fld} (h : Owns H0 H v 1 (u.map AV.str)) (g : Owns H0 H w 1 (r.map fldsV)) : ∀ b, w.blk = some b → v.blk ≠ some b := fun b hb =>
  h.apart g (fun x y hx hy e => by
    obtain ⟨c, _, rfl⟩ := List.mem_map.1 hx
    obtain ⟨t, _, rfl⟩ := List.mem_map.1 hy
    unfold fldsV at e
    cases t <;> cases e) hb

theorem slice_from (s : List UInt8) (n : Nat) (h : n ≤ s.length) : aSlice none (.str s) (some (.int .i64 (n : Int))) none = some (.str (s.drop n)) := by
  simp only [aSlice, aBounds, aHi, aLo]
  rw [if_pos ⟨by omega, by omega⟩]
  simp

theorem drop_ne {s : List UInt8} {i : Nat} (h : i < s.length) : s.drop i ≠ [] := by
  intro e
  rw [List.drop_eq_nil_iff] at e
  omega

/-- A field has been read: what follows. -/
theorem read_tail (hN : ∀ s H, s ≠ [] → C f_csv_ends [.str s] H (.bool (endsL s)) H) {K : Post} {H0 H : Heap} {s : List UInt8} {M : CR} {i st : Nat} {f : Fld} {row : List Fld} {out : List (List Fld)} {fv rv ov : AV}
    (h4 : s.length ≤ 4000) (hi : i ≤ s.length) (hf : Owns H0 H fv 1 (f.map byteAV)) (hr : Owns H0 H rv 1 (row.map AV.str)) (ho : Owns H0 H ov 1 (out.map fldsV)) (hO : Old H0 H) (hnr : row.length ≤ i + 1) (hno : out.length ≤ i) (hnr2 : i < s.length → row.length ≤ i) (hno2 : i = s.length → out.length + 1 ≤ i)
    (hM : mach (s.drop i) i st f row out = M) (h2 : st ≠ 2) (hend : i = s.length → st ≠ 0) (hfin : st ≠ 3 → i = s.length ∨ endsL (s.drop i) = true)
    (hret : ∀ fr' H', M = .bad i → get fr' 2 = .lst (some true) 0 [] → get fr' 3 = nV i → get fr' 4 = errV 2 → Old H0 H' → K .ret fr' H')
    (hnext : ∀ e fr' H' st', (e = .normal ∨ e = .exit 1) → restrictF fr' [5, 0, 6, 7] = mkRd s st' → (i < st'.i ∨ (st'.i = i ∧ i = s.length)) → InvRd H0 s M st' H' → K e fr' H') :
    EW C GT (b_csv_Read_2.rest.body.behind 2) K [(0, .str s), (7, nV i), (5, ov), (8, fv), (6, rv)] H := by
  refine sBytesStr hf ?_
  refine sPush (.str f) hr hO rfl rfl (by omega) (by simp only [List.length_map]; omega) (fun s0 H1 rv2 H2 hr2 hO2 _ hfr => ?_)
  have ho2 : Owns H0 H2 ov 1 (out.map fldsV) := ho.after (apart_or hr ho) hfr
  rw [show row.map AV.str ++ [AV.str f] = (row ++ [f]).map AV.str by simp] at hr2
  clear hfr hr ho hf
  have hwr : (row ++ [f]) ≠ [] := by simp
  refine sCond (fun he => ?_) (fun he => ?_)
  · have he : i = s.length := by
      have : ((i : Int) == (s.length : Int)) = true := he
      rw [beq_iff_eq] at this; omega
    have h0 := hend he
    rw [mach_end (by omega), if_neg h2, if_neg (fun h => h0 h.1)] at hM
    refine sPushS (H0 := H0) ho2 hr2 (by simp) (fun b hb => apart_or hr2 ho2 b hb) hO2 (by omega) (by simp only [List.length_map]; omega) (fun s3 H3 ov3 H4 ho4 hO4 _ => ?_)
    refine hnext .normal _ H4 ⟨i, .lst (some true) 0 [], [], ov3, out ++ [row ++ [f]]⟩ (.inl rfl) rfl (.inr ⟨rfl, he⟩) ⟨hi, Owns.nil _ _ _, ?_, hO4, ?_, by simp, by simp, ?_⟩
    · simp only [List.map_append, List.map_cons, List.map_nil]
      exact ho4
    · simp only
      unfold headR
      rw [if_neg (by simp)]
      exact (by rw [mach_end (by omega), if_neg (by omega), if_pos ⟨rfl, rfl⟩]; exact hM)
    · simp only [List.length_append, List.length_cons, List.length_nil]
      omega
  · have he : i < s.length := by
      have : ((i : Int) == (s.length : Int)) = false := he
      rw [beq_eq_false_iff_ne] at this; omega
    obtain ⟨c, hc⟩ : ∃ c, s[i]? = some c := ⟨s[i], List.getElem?_eq_getElem he⟩
    rw [mach_at hc, if_neg h2] at hM
    refine sChr (i := i) rfl hc ?_
    refine sCond (fun h => ?_) (fun h => ?_)
    · have h : c = 44 := u8_t 44 (by omega) h
      rw [if_neg (by rw [h]; decide), if_neg (fun x => by rw [h] at x; exact absurd x.1 (by decide)), if_pos h] at hM
      refine sW64n (r := i + 1) rfl (by omega) ?_
      refine sCond (fun he2 => ?_) (fun he2 => ?_)
      · have he2 : i + 1 = s.length := by
          have : (((i + 1 : Nat) : Int) == (s.length : Int)) = true := he2
          rw [beq_iff_eq] at this; omega
        refine sPush (.str []) hr2 hO2 rfl rfl (by omega) (by simp only [List.length_map, List.length_append, List.length_cons, List.length_nil]; omega) (fun s3 H3 rv4 H4 hr4 hO4 _ hfr4 => ?_)
        refine hnext (.exit 1) _ H4 ⟨i + 1, rv4, row ++ [f] ++ [[]], ov, out⟩ (.inr rfl) rfl (.inl (by simp only; omega)) ⟨by simp only; omega, ?_, ho2.after (apart_or hr2 ho2) hfr4, hO4, ?_, ?_, fun x => by simp only at x; omega, ?_⟩
        · simp only [List.map_append, List.map_cons, List.map_nil] at hr4 ⊢
          exact hr4
        · simp only
          unfold headR
          rw [if_pos ⟨List.drop_eq_nil_of_le (by omega), by simp⟩]
          rw [mach_end (by omega), if_neg (by omega), if_neg (fun x => hwr x.2)] at hM
          exact hM
        · simp only [List.length_append, List.length_cons, List.length_nil]
          have := hnr2 he; omega
        · simp only; omega
      · have he2 : i + 1 < s.length := by
          have : (((i + 1 : Nat) : Int) == (s.length : Int)) = false := he2
          rw [beq_eq_false_iff_ne] at this; omega
        refine hnext (.exit 1) _ H2 ⟨i + 1, rv2, row ++ [f], ov, out⟩ (.inr rfl) rfl (.inl (by simp only; omega)) ⟨by simp only; omega, hr2, ho2, hO2, ?_, ?_, ?_, ?_⟩
        · simp only
          unfold headR
          rw [if_neg (fun x => drop_ne he2 x.1)]
          exact hM
        · simp only [List.length_append, List.length_cons, List.length_nil]
          have := hnr2 he; omega
        · intro _
          simp only [List.length_append, List.length_cons, List.length_nil]
          have := hnr2 he; omega
        · simp only; omega
    · have h : c ≠ 44 := u8_f 44 (by omega) h
      refine sOpt (slice_from s i hi) ?_
      refine sCall0 (hN (s.drop i) _ (drop_ne he)) ?_
      have hea := ends_at hc
      refine sCond (fun hb => ?_) (fun hb => ?_)
      · have hb : endsL (s.drop i) = false := by
          have : (!endsL (s.drop i)) = true := hb
          simpa using this
        rw [hea] at hb
        simp only [Bool.or_eq_false_iff, Bool.and_eq_false_imp, beq_eq_false_iff_ne, beq_iff_eq] at hb
        have h3 : st = 3 := by
          apply Classical.not_not.1
          intro x
          rcases hfin x with y | y
          · omega
          · rw [hea] at y
            simp only [Bool.or_eq_true, Bool.and_eq_true, beq_iff_eq] at y
            rcases y with y | y | y
            · exact h y
            · exact hb.2.1 y
            · exact hb.2.2 y.1 y.2
        rw [if_neg hb.2.1, if_neg (fun x => hb.2.2 x.1 x.2), if_neg h, if_pos (.inl h3)] at hM
        exact hret _ _ hM.symm rfl rfl rfl hO2
      · have hb : endsL (s.drop i) = true := by
          have : (!endsL (s.drop i)) = false := hb
          simpa using this
        rw [hea] at hb
        simp only [Bool.or_eq_true, Bool.and_eq_true, beq_iff_eq] at hb
        refine sChr (i := i) rfl hc ?_
        refine sCond (fun h13 => ?_) (fun h13 => ?_)
        · have h13 : c = 13 := u8_t 13 (by omega) h13
          have hnx : s[i + 1]? = some 10 := by
            rcases hb with x | x | x
            · exact absurd x h
            · rw [h13] at x; exact absurd x (by decide)
            · exact x.2
          have hlt2 := (List.getElem?_eq_some_iff.1 hnx).1
          rw [if_neg (by rw [h13]; decide), if_pos ⟨h13, hnx⟩] at hM
          refine sW64n (r := i + 2) rfl (by omega) ?_
          refine sPushS (H0 := H0) ho2 hr2 (by simp) (fun b hb => apart_or hr2 ho2 b hb) hO2 (by omega) (by simp only [List.length_map]; omega) (fun s3 H3 ov3 H4 ho4 hO4 _ => ?_)
          refine hnext .normal _ H4 ⟨i + 2, .lst (some true) 0 [], [], ov3, out ++ [row ++ [f]]⟩ (.inl rfl) rfl (.inl (by simp only; omega)) ⟨by simp only; omega, Owns.nil _ _ _, ?_, hO4, ?_, by simp, by simp, ?_⟩
          · simp only [List.map_append, List.map_cons, List.map_nil]
            exact ho4
          · simp only
            unfold headR
            rw [if_neg (by simp)]
            exact hM
          · simp only [List.length_append, List.length_cons, List.length_nil]
            omega
        · have h13 : c ≠ 13 := u8_f 13 (by omega) h13
          have h10 : c = 10 := by
            rcases hb with x | x | x
            · exact absurd x h
            · exact x
            · exact absurd x.1 h13
          rw [if_pos h10] at hM
          refine sW64n (r := i + 1) rfl (by omega) ?_
          refine sPushS (H0 := H0) ho2 hr2 (by simp) (fun b hb => apart_or hr2 ho2 b hb) hO2 (by omega) (by simp only [List.length_map]; omega) (fun s3 H3 ov3 H4 ho4 hO4 _ => ?_)
          refine hnext .normal _ H4 ⟨i + 1, .lst (some true) 0 [], [], ov3, out ++ [row ++ [f]]⟩ (.inl rfl) rfl (.inl (by simp only; omega)) ⟨by simp only; omega, Owns.nil _ _ _, ?_, hO4, ?_, by simp, by simp, ?_⟩
          · simp only [List.map_append, List.map_cons, List.map_nil]
            exact ho4
          · simp only
            unfold headR
            rw [if_neg (by simp)]
            exact hM
          · simp only [List.length_append, List.length_cons, List.length_nil]
            omega


structure SF where
  i : Nat
  fv : AV
  f : Fld

def stU (f : Fld) : Nat := if f = [] then 0 else 1

/-- What is known while a field is read. -/
structure InvF (H0 : Heap) (s : List UInt8) (M : CR) (i0 : Nat) (row : List Fld) (out : List (List Fld)) (rv ov : AV) (x : SF) (H : Heap) : Prop where
  ge : i0 ≤ x.i
  le : x.i ≤ s.length
  f : Owns H0 H x.fv 1 (x.f.map byteAV)
  row : Owns H0 H rv 1 (row.map AV.str)
  out : Owns H0 H ov 1 (out.map fldsV)
  old : Old H0 H
  nf : x.f.length ≤ x.i

theorem InvF.push {H0 : Heap} {s : List UInt8} {M : CR} {i0 : Nat} {row : List Fld} {out : List (List Fld)} {rv ov : AV} {x : SF} {H H' : Heap} (h : InvF H0 s M i0 row out rv ov x H) {v' : AV} {c : UInt8} {j : Nat} (hv : Owns H0 H' v' 1 (x.f.map byteAV ++ [byteAV c])) (hO : Old H0 H') (hfr : ∀ c y, x.fv.blk ≠ some c → H[c]? = some y → H'[c]? = some y) (h1 : x.i < j) (h2 : j ≤ s.length) :
    InvF H0 s M i0 row out rv ov ⟨j, v', x.f ++ [c]⟩ H' :=
  ⟨Nat.le_trans h.ge (Nat.le_of_lt h1), h2, by simpa using hv, h.row.after (apart_rb h.f h.row) hfr, h.out.after (apart_ob h.f h.out) hfr, hO, by simp only [List.length_append, List.length_cons, List.length_nil]; have := h.nf; omega⟩

theorem read_round (hN : ∀ s H, s ≠ [] → C f_csv_ends [.str s] H (.bool (endsL s)) H) {K : Post} {H0 H : Heap} {s : List UInt8} {M : CR} {x : SRd} (h4 : s.length ≤ 4000) (hi : InvRd H0 s M x H)
    (hbad : ∀ fr' H' p, M = .bad p → get fr' 2 = .lst (some true) 0 [] → get fr' 3 = nV p → get fr' 4 = errV 2 → Old H0 H' → K .ret fr' H')
    (hdone : ∀ fr' H' x', M = (if x'.row = [] then .ok x'.out else .ok (x'.out ++ [x'.row])) → InvRd H0 s M x' H' → restrictF fr' [6, 5] = [(6, x'.rv), (5, x'.ov)] → K (.exit 0) fr' H') :
    EW C GT b_csv_Read_2 (roundK [5, 0, 6, 7] (mkRd s) (InvRd H0 s M) (fun y => s.length - y.i) x K) (mkRd s x) H := by
  have hi' := hi
  obtain ⟨i, rv, row, ov, out⟩ := x
  obtain ⟨hle, hr, ho, hO, hm, hnr, hnr2, hno⟩ := hi
  simp only at hle hr ho hm hnr hnr2 hno
  dsimp only [mkRd]
  refine sCond (fun hlt => ?_) (fun hlt => ?_)
  · simp only [decide_eq_true_eq, Int.ofNat_lt] at hlt
    obtain ⟨c, hc⟩ : ∃ c, s[i]? = some c := ⟨s[i], List.getElem?_eq_getElem hlt⟩
    have hm0 : mach (s.drop i) i 0 [] row out = M := by
      unfold headR at hm
      rwa [if_neg (fun x => drop_ne hlt x.1)] at hm
    have tail : ∀ (j st : Nat) (f : Fld) (fv : AV) (H2 : Heap), InvF H0 s M i row out rv ov ⟨j, fv, f⟩ H2 → (i < j ∨ j < s.length) → mach (s.drop j) j st f row out = M → st ≠ 2 → (j = s.length → st ≠ 0) → (st ≠ 3 → j = s.length ∨ endsL (s.drop j) = true) →
        EW C GT (b_csv_Read_2.rest.body.behind 2) (blockF 1 [5, 0, 6, 7] (roundK [5, 0, 6, 7] (mkRd s) (InvRd H0 s M) (fun y => s.length - y.i) ⟨i, rv, row, ov, out⟩ K)) [(0, .str s), (7, nV j), (5, ov), (8, fv), (6, rv)] H2 := fun j st f fv H2 I hj hM h2 hend hfin => by
      have hge := I.ge
      have hle2 := I.le
      simp only at hge hle2
      refine read_tail hN h4 hle2 I.f I.row I.out I.old (by omega) (by omega) (fun h => by have := hnr2 hlt; omega) (fun h => by omega) hM h2 hend hfin (fun fr' H' hb g2 g3 g4 hO' => hbad fr' H' j hb g2 g3 g4 hO') (fun e fr' H' st' he hfr hl hinv => ?_)
      have fin : nextP [5, 0, 6, 7] (mkRd s) (InvRd H0 s M) (fun y => s.length - y.i) ⟨i, rv, row, ov, out⟩ (restrictF fr' [5, 0, 6, 7]) H' := by
        rw [hfr]
        refine sNext st' rfl hinv ?_
        have := hinv.le
        simp only
        omega
      rcases he with rfl | rfl
      · exact fin
      · exact fin
    refine sChr (i := i) rfl hc ?_
    refine sCond (fun hq => ?_) (fun hq => ?_)
    · have hq : c = 34 := u8_t 34 (by omega) hq
      rw [mach_at hc, if_neg (by omega), if_neg (by rw [hq]; decide), if_neg (fun x => by rw [hq] at x; exact absurd x.1 (by decide)), if_neg (by rw [hq]; decide), if_neg (by omega), if_pos hq] at hm0
      refine sW64n (r := i + 1) rfl (by omega) ?_
      refine sLoop (fun y : SF => [(7, nV y.i), (0, .str s), (5, ov), (8, y.fv), (6, rv)]) (fun y H' => InvF H0 s M i row out rv ov y H' ∧ i < y.i ∧ mach (s.drop y.i) y.i 2 y.f row out = M) (fun y => s.length - y.i) ⟨i + 1, .lst (some true) 0 [], []⟩ rfl
        ⟨⟨by simp only; omega, by simp only; omega, Owns.nil _ _ _, hr, ho, hO, by simp⟩, by simp only; omega, hm0⟩ (fun ⟨j, fv, f⟩ H1 ⟨I, hij, hM⟩ => ?_)
      have hjle := I.le
      have hfo := I.f
      have hHo := I.old
      have hnf := I.nf
      simp only at hjle hij hM hfo hnf
      dsimp only
      refine sCond (fun he => ?_) (fun he => ?_)
      · have he : j = s.length := by
          have : ((j : Int) == (s.length : Int)) = true := he
          rw [beq_iff_eq] at this; omega
        rw [mach_end (by omega), if_pos rfl] at hM
        exact hbad _ _ j hM.symm rfl rfl rfl hHo
      · have he : j < s.length := by
          have : ((j : Int) == (s.length : Int)) = false := he
          rw [beq_eq_false_iff_ne] at this; omega
        obtain ⟨d, hd⟩ : ∃ d, s[j]? = some d := ⟨s[j], List.getElem?_eq_getElem he⟩
        rw [mach_at hd, if_pos rfl] at hM
        refine sChr (i := j) rfl hd ?_
        refine sCond (fun hq2 => ?_) (fun hq2 => ?_)
        · have hq2 : d = 34 := u8_t 34 (by omega) hq2
          rw [if_pos hq2] at hM
          have I2 : InvF H0 s M i row out rv ov ⟨j + 1, fv, f⟩ H1 := ⟨by simp only; omega, by simp only; omega, I.f, I.row, I.out, I.old, by simp only; omega⟩
          refine sW64n (r := j + 1) rfl (by omega) ?_
          refine sCond (fun he2 => ?_) (fun he2 => ?_)
          · have he2 : j + 1 = s.length := by
              have : (((j + 1 : Nat) : Int) == (s.length : Int)) = true := he2
              rw [beq_iff_eq] at this; omega
            rw [if_neg (by rw [List.getElem?_eq_none (by omega)]; simp)] at hM
            refine sCondT ?_
            refine sCondT ?_
            exact tail (j + 1) 3 f fv H1 I2 (.inl (by omega)) hM (by omega) (fun _ => by omega) (fun h => absurd rfl h)
          · have he2 : j + 1 < s.length := by
              have : (((j + 1 : Nat) : Int) == (s.length : Int)) = false := he2
              rw [beq_eq_false_iff_ne] at this; omega
            obtain ⟨d2, hd2⟩ : ∃ d2, s[j + 1]? = some d2 := ⟨s[j + 1], List.getElem?_eq_getElem he2⟩
            refine sChr (i := j + 1) rfl hd2 ?_
            refine sCondF ?_
            refine sCond (fun hq3 => ?_) (fun hq3 => ?_)
            · have hq3 : d2 ≠ 34 := by
                intro e; subst e; exact absurd hq3 (by decide)
              rw [if_neg (by rw [hd2]; simpa using hq3)] at hM
              exact tail (j + 1) 3 f fv H1 I2 (.inl (by omega)) hM (by omega) (fun _ => by omega) (fun h => absurd rfl h)
            · have hq3 : d2 = 34 := by
                have h : ((d2.toNat : Int) == (34 : Int)) = true := by
                  have : ((d2.toNat : Int) != (34 : Int)) = false := hq3
                  simpa using this
                exact u8_t 34 (by omega) h
              rw [if_pos (by rw [hd2, hq3])] at hM
              refine sChr (i := j + 1) rfl hd2 ?_
              refine sPush (byteAV d2) hfo hHo rfl rfl (by omega) (by simp only [List.length_map]; omega) (fun s3 H3 fv2 H4 hf4 hO4 _ hfr4 => ?_)
              refine sW64n (r := j + 2) rfl (by omega) ?_
              refine sNext (SF.mk (j + 2) fv2 (f ++ [d2])) rfl ⟨I.push hf4 hO4 hfr4 (by simp only; omega) (by omega), by simp only; omega, ?_⟩ (by simp only; omega)
              simp only
              rw [hq3]; exact hM
        · have hq2 : d ≠ 34 := u8_f 34 (by omega) hq2
          rw [if_neg hq2] at hM
          refine sChr (i := j) rfl hd ?_
          refine sPush (byteAV d) hfo hHo rfl rfl (by omega) (by simp only [List.length_map]; omega) (fun s3 H3 fv2 H4 hf4 hO4 _ hfr4 => ?_)
          refine sW64n (r := j + 1) rfl (by omega) ?_
          exact sNext (SF.mk (j + 1) fv2 (f ++ [d])) rfl ⟨I.push hf4 hO4 hfr4 (by simp only; omega) (by omega), by simp only; omega, hM⟩ (by simp only; omega)
    · have hq : c ≠ 34 := u8_f 34 (by omega) hq
      refine sLoop (fun y : SF => [(7, nV y.i), (0, .str s), (8, y.fv), (5, ov), (6, rv)]) (fun y H' => InvF H0 s M i row out rv ov y H' ∧ (y.f = [] → y.i = i) ∧ mach (s.drop y.i) y.i (stU y.f) y.f row out = M) (fun y => s.length - y.i) ⟨i, .lst (some true) 0 [], []⟩ rfl
        ⟨⟨Nat.le_refl _, hle, Owns.nil _ _ _, hr, ho, hO, by simp⟩, fun _ => rfl, hm0⟩ (fun ⟨j, fv, f⟩ H1 ⟨I, hfi, hM⟩ => ?_)
      have hjle := I.le
      have hjge := I.ge
      have hfo := I.f
      have hHo := I.old
      have hnf := I.nf
      simp only at hjle hjge hfi hM hfo hnf
      dsimp only
      have hst2 : stU f ≠ 2 := by unfold stU; split <;> omega
      have hst3 : stU f ≠ 3 := by unfold stU; split <;> omega
      refine sCond (fun he => ?_) (fun he => ?_)
      · simp only [decide_eq_true_eq, Int.ofNat_lt] at he
        obtain ⟨d, hd⟩ : ∃ d, s[j]? = some d := ⟨s[j], List.getElem?_eq_getElem he⟩
        have hea := ends_at hd
        refine sOpt (slice_from s j hjle) ?_
        refine sCall0 (hN (s.drop j) _ (drop_ne he)) ?_
        refine sCondT ?_
        refine sCond (fun hb => ?_) (fun hb => ?_)
        · have hb : endsL (s.drop j) = false := by
            have : (!endsL (s.drop j)) = true := hb
            simpa using this
          rw [hea] at hb
          simp only [Bool.or_eq_false_iff, Bool.and_eq_false_imp, beq_eq_false_iff_ne, beq_iff_eq] at hb
          rw [mach_at hd, if_neg hst2, if_neg hb.2.1, if_neg (fun x => hb.2.2 x.1 x.2), if_neg hb.1] at hM
          refine sChr (i := j) rfl hd ?_
          refine sCond (fun hq2 => ?_) (fun hq2 => ?_)
          · have hq2 : d = 34 := u8_t 34 (by omega) hq2
            have hfne : f ≠ [] := by
              intro e
              have := hfi e
              subst this
              rw [hc] at hd; cases hd
              exact hq hq2
            rw [if_pos (.inr ⟨by unfold stU; rw [if_neg hfne], hq2⟩)] at hM
            exact hbad _ _ j hM.symm rfl rfl rfl hHo
          · have hq2 : d ≠ 34 := u8_f 34 (by omega) hq2
            rw [if_neg (by rintro (x | x); exact hst3 x; exact hq2 x.2), if_neg hq2] at hM
            refine sChr (i := j) rfl hd ?_
            refine sPush (byteAV d) hfo hHo rfl rfl (by omega) (by simp only [List.length_map]; omega) (fun s3 H3 fv2 H4 hf4 hO4 _ hfr4 => ?_)
            refine sW64n (r := j + 1) rfl (by omega) ?_
            refine sNext (SF.mk (j + 1) fv2 (f ++ [d])) rfl ⟨I.push hf4 hO4 hfr4 (by simp only; omega) (by omega), fun h => by simp at h, ?_⟩ (by simp only; omega)
            simp only
            have : stU (f ++ [d]) = 1 := by unfold stU; rw [if_neg (by simp)]
            rw [this]; exact hM
        · have hb : endsL (s.drop j) = true := by
            have : (!endsL (s.drop j)) = false := hb
            simpa using this
          exact tail j (stU f) f fv H1 I (.inr he) hM hst2 (fun h => by omega) (fun _ => .inr hb)
      · simp only [decide_eq_false_iff_not, Int.ofNat_lt] at he
        have ej : j = s.length := by omega
        refine sCondF ?_
        refine sCondF ?_
        exact tail j (stU f) f fv H1 I (.inl (by omega)) hM hst2 (fun _ => by
          unfold stU
          split
          · rename_i e; have := hfi e; omega
          · omega) (fun _ => .inl ej)
  · simp only [decide_eq_false_iff_not, Int.ofNat_lt] at hlt
    have ei : i = s.length := by omega
    refine hdone _ H ⟨i, rv, row, ov, out⟩ ?_ hi' rfl
    simp only
    unfold headR at hm
    by_cases e : row = []
    · rw [if_pos e]
      rw [if_neg (fun x => x.2 e), mach_end (by omega), if_neg (by omega), if_pos ⟨rfl, e⟩] at hm
      exact hm.symm
    · rw [if_neg e]
      rw [if_pos ⟨List.drop_eq_nil_of_le (by omega), e⟩] at hm
      exact hm.symm


theorem owns_nilness {H0 H : Heap} {v : AV} {k : Nat} {xs : List AV} (h : Owns H0 H v k xs) : eqNil .sl true v (.lst (some true) 0 []) = some (decide (xs = [])) := by
  rcases h with ⟨rfl, rfl⟩ | ⟨b, rfl, _, _, h3⟩
  · rfl
  · have : xs.length ≠ 0 := fun e => h3 (List.eq_nil_of_length_eq_zero e)
    simp only [eqNil, nilness]
    rw [decide_eq_false h3]
    simp [this]

theorem read_ev (hN : ∀ s H, s ≠ [] → C f_csv_ends [.str s] H (.bool (endsL s)) H) (s : List UInt8) (H : Heap) : EFun C GT a_csv_Read [.str s] H (readV s) H := by
  refine sCond (fun h => ?_) (fun h => ?_)
  · simp only [decide_eq_true_eq, gt_iff_lt] at h
    have e : readV s = .tup [.lst (some true) 0 [], .int .i64 0, errV 4] := by unfold readV; rw [if_pos (by omega)]
    rw [e]
    exact sRetV rfl rfl rfl rfl (Old.refl _)
  · simp only [decide_eq_false_iff_not, gt_iff_lt] at h
    have h4 : s.length ≤ 4000 := by omega
    have e : readV s = csvV (csvP s) := by unfold readV; rw [if_neg (by omega)]
    rw [e]
    refine sLoop (mkRd s) (InvRd H s (csvP s)) (fun y => s.length - y.i) ⟨0, .lst (some true) 0 [], [], .lst (some true) 0 [], []⟩ rfl ⟨Nat.zero_le _, Owns.nil _ _ _, Owns.nil _ _ _, Old.refl _, ?_, by simp, by simp, by simp⟩ (fun x H1 hi => ?_)
    · simp only
      unfold headR csvP
      rw [if_neg (by simp), List.drop_zero]
    refine read_round hN h4 hi (fun fr' H' p hp g2 g3 g4 hO => ?_) (fun fr' H' x' hM hi' hfr => ?_)
    · have e2 : csvV (csvP s) = .tup [.lst (some true) 0 [], nV p, errV 2] := by rw [hp]; rfl
      rw [e2]
      refine sRetV rfl ?_ rfl rfl hO
      simp only [a_csv_Read, resAll, resOf, g2, g3, g4]
      rfl
    · refine sBlk hfr ?_
      obtain ⟨hle, hr, ho, hO, hm, hnr, hnr2, hno⟩ := hi'
      refine sOpt (owns_nilness hr) ?_
      refine sCond (fun hn => ?_) (fun hn => ?_)
      · have hn : x'.row ≠ [] := by
          intro e3
          have : negB true (decide (x'.row.map AV.str = [])) = true := hn
          rw [e3] at this
          simp [negB] at this
        have e2 : csvV (csvP s) = .tup [rowsV (x'.out ++ [x'.row]), .int .i64 0, .nili] := by rw [hM, if_neg hn]; rfl
        rw [e2]
        refine sPushS (H0 := H) ho hr (by simpa using hn) (fun b hb => apart_or hr ho b hb) hO (by omega) (by simp only [List.length_map]; omega) (fun s3 H3 ov3 H4 ho4 hO4 _ => ?_)
        have e3 : x'.out.map fldsV ++ [lstF 1 (x'.row.map AV.str)] = (x'.out ++ [x'.row]).map fldsV := by simp [fldsV]
        rw [e3] at ho4
        obtain ⟨H5, hf5, hO5, _⟩ := ho4.frz hO4
        refine sRetF (v0 := .tup [ov3, .int .i64 0, .nili]) rfl rfl (by simp only [frzV, frzL, hf5]; rfl) (by simp [AV.bel, AV.belL, lstF_bel, rowsV]) hO5
      · have hn : x'.row = [] := by
          apply Classical.not_not.1
          intro e3
          have : negB true (decide (x'.row.map AV.str = [])) = false := hn
          rw [decide_eq_false (by simpa using e3)] at this
          simp [negB] at this
        have e2 : csvV (csvP s) = .tup [rowsV x'.out, .int .i64 0, .nili] := by rw [hM, if_pos hn]; rfl
        rw [e2]
        obtain ⟨H5, hf5, hO5, _⟩ := ho.frz hO
        refine sRetF (v0 := .tup [x'.ov, .int .i64 0, .nili]) rfl rfl (by simp only [frzV, frzL, hf5]; rfl) (by simp [AV.bel, AV.belL, lstF_bel, rowsV]) hO5

end
end Go.AM
