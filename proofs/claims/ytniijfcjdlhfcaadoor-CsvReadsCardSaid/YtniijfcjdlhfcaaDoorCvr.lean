/- The walk of the reference's Rows; the law CsvReads. Own work. -/
import Derived.Test.YtniijfcjdlhfcaaDoorCvw
set_option linter.all false
set_option maxRecDepth 20000
namespace Go.AM

section
variable {C : CSpec} {GT : Nat → Option AV}

structure SRf where
  i : Nat
  fv : AV
  f : Fld
  rv : AV
  row : List Fld
  ov : AV
  out : List (List Fld)
  st : Nat
def frR (st : Nat) (row : List Fld) : Bool := decide (st = 0 ∧ row = [])
def mkRf (s : List UInt8) (x : SRf) : Fr := [(10, nV x.i), (7, x.fv), (0, .str s), (5, x.ov), (6, x.rv), (8, nV x.st), (9, .bool (frR x.st x.row))]
/-- At a place of the text; 'j': that place, or the one ahead of the step. -/
structure InvRf (H0 : Heap) (s : List UInt8) (M : CR) (j : Nat) (x : SRf) (H : Heap) : Prop where
  le : j ≤ s.length
  f : Owns H0 H x.fv 1 (x.f.map byteAV)
  row : Owns H0 H x.rv 1 (x.row.map AV.str)
  out : Owns H0 H x.ov 1 (x.out.map fldsV)
  old : Old H0 H
  m : mach (s.drop j) j x.st x.f x.row x.out = M
  nf : x.f.length ≤ j
  nr : x.row.length ≤ j
  no : x.out.length ≤ j
  st3 : x.st ≤ 3

def rowsBody : AC := b_sccref3_Rows_0.rest.first.body

theorem rows_end {K : Post} {H0 H : Heap} {s : List UInt8} {M : CR} {x : SRf} {c : UInt8} (h4 : s.length ≤ 4000) (hi : InvRf H0 s M x.i x H) (hc : s[x.i]? = some c) (hst : x.st ≠ 2) (he : c = 10 ∨ (c = 13 ∧ s[x.i + 1]? = some 10)) {b : Bool} (hb : b = true)
    (hnext : ∀ fr' H' x', restrictF fr' [7, 0, 5, 6, 8, 9, 10] = [(7, x'.fv), (0, .str s), (5, x'.ov), (6, x'.rv), (8, nV x'.st), (9, .bool (frR x'.st x'.row)), (10, nV x'.i)] → x.i ≤ x'.i → InvRf H0 s M (x'.i + 1) x' H' → K (.exit 1) fr' H') :
    EW C GT (rowsBody.behind 3) K [(0, .str s), (10, nV x.i), (11, byteAV c), (5, x.ov), (7, x.fv), (6, x.rv), (8, nV x.st), (12, .bool b)] H := by
  obtain ⟨hle, hf, hr, ho, hO, hm, hnf, hnr, hno, hs3⟩ := hi
  have hil := (List.getElem?_eq_some_iff.1 hc).1
  rw [mach_at hc, if_neg hst] at hm
  refine sCond (fun _ => ?_) (fun y => by rw [hb] at y; cases y)
  refine sBytesStr hf ?_
  refine sPush (.str x.f) hr hO rfl rfl (by omega) (by simp only [List.length_map]; omega) (fun s0 H1 rv2 H2 hr2 hO2 _ hfr => ?_)
  have ho2 : Owns H0 H2 x.ov 1 (x.out.map fldsV) := ho.after (apart_or hr ho) hfr
  rw [show x.row.map AV.str ++ [AV.str x.f] = (x.row ++ [x.f]).map AV.str by simp] at hr2
  refine sPushS (H0 := H0) ho2 hr2 (by simp) (fun b hb => apart_or hr2 ho2 b hb) hO2 (by omega) (by simp only [List.length_map]; omega) (fun s3 H3 ov3 H4 ho4 hO4 _ => ?_)
  have e3 : x.out.map fldsV ++ [lstF 1 ((x.row ++ [x.f]).map AV.str)] = (x.out ++ [x.row ++ [x.f]]).map fldsV := by simp [fldsV]
  rw [e3] at ho4
  refine sCond (fun h13 => ?_) (fun h13 => ?_)
  · have h13 : c = 13 := u8_t 13 (by omega) h13
    have hd : s[x.i + 1]? = some 10 := by
      rcases he with e | e
      · rw [h13] at e; exact absurd e (by decide)
      · exact e.2
    have := (List.getElem?_eq_some_iff.1 hd).1
    rw [if_neg (by rw [h13]; decide), if_pos ⟨h13, hd⟩] at hm
    refine sW64n (r := x.i + 1) rfl (by omega) ?_
    refine hnext _ H4 ⟨x.i + 1, .lst (some true) 0 [], [], .lst (some true) 0 [], [], ov3, x.out ++ [x.row ++ [x.f]], 0⟩ rfl (by simp only; omega) ⟨by simp only; omega, Owns.nil _ _ _, Owns.nil _ _ _, ho4, hO4, hm, by simp, by simp, by simp only [List.length_append, List.length_cons, List.length_nil]; omega, by simp only; omega⟩
  · have h13 : c ≠ 13 := u8_f 13 (by omega) h13
    have h10 : c = 10 := by
      rcases he with e | e
      · exact e
      · exact absurd e.1 h13
    rw [if_pos h10] at hm
    refine hnext _ H4 ⟨x.i, .lst (some true) 0 [], [], .lst (some true) 0 [], [], ov3, x.out ++ [x.row ++ [x.f]], 0⟩ rfl (Nat.le_refl _) ⟨by simp only; omega, Owns.nil _ _ _, Owns.nil _ _ _, ho4, hO4, hm, by simp, by simp, by simp only [List.length_append, List.length_cons, List.length_nil]; omega, by simp only; omega⟩

theorem rows_go {K : Post} {H0 H : Heap} {s : List UInt8} {M : CR} {x : SRf} {c : UInt8} (h4 : s.length ≤ 4000) (hi : InvRf H0 s M x.i x H) (hc : s[x.i]? = some c) (hst : x.st ≠ 2) (h10 : c ≠ 10) (he : ¬ (c = 13 ∧ s[x.i + 1]? = some 10)) {b : Bool} (hb : b = false)
    (hbad : ∀ fr' H', M = .bad x.i → get fr' 2 = .lst (some true) 0 [] → get fr' 3 = nV x.i → get fr' 4 = .int .i64 2 → Old H0 H' → K .ret fr' H')
    (hnext : ∀ e fr' H' x', (e = .normal ∨ e = .exit 1) → restrictF fr' [7, 0, 5, 6, 8, 9, 10] = [(7, x'.fv), (0, .str s), (5, x'.ov), (6, x'.rv), (8, nV x'.st), (9, .bool (frR x'.st x'.row)), (10, nV x'.i)] → x'.i = x.i → InvRf H0 s M (x'.i + 1) x' H' → K e fr' H') :
    EW C GT (rowsBody.behind 3) K [(0, .str s), (10, nV x.i), (11, byteAV c), (5, x.ov), (7, x.fv), (6, x.rv), (8, nV x.st), (12, .bool b)] H := by
  obtain ⟨hle, hf, hr, ho, hO, hm, hnf, hnr, hno, hs3⟩ := hi
  have hil := (List.getElem?_eq_some_iff.1 hc).1
  rw [mach_at hc, if_neg hst, if_neg h10, if_neg he] at hm
  refine sCond (fun y => by rw [hb] at y; cases y) (fun _ => ?_)
  refine sCond (fun h => ?_) (fun h => ?_)
  · have h : c = 44 := u8_t 44 (by omega) h
    rw [if_pos h] at hm
    refine sBytesStr hf ?_
    refine sPush (.str x.f) hr hO rfl rfl (by omega) (by simp only [List.length_map]; omega) (fun s0 H1 rv2 H2 hr2 hO2 _ hfr => ?_)
    have ho2 : Owns H0 H2 x.ov 1 (x.out.map fldsV) := ho.after (apart_or hr ho) hfr
    rw [show x.row.map AV.str ++ [AV.str x.f] = (x.row ++ [x.f]).map AV.str by simp] at hr2
    have ef : (false : Bool) = frR 0 (x.row ++ [x.f]) := by unfold frR; simp
    refine hnext (.exit 1) _ H2 ⟨x.i, .lst (some true) 0 [], [], rv2, x.row ++ [x.f], x.ov, x.out, 0⟩ (.inr rfl) (by simp only [← ef]; rfl) rfl ⟨by simp only; omega, Owns.nil _ _ _, hr2, ho2, hO2, hm, by simp, by simp only [List.length_append, List.length_cons, List.length_nil]; omega, by simp only; omega, by simp only; omega⟩
  · have h : c ≠ 44 := u8_f 44 (by omega) h
    rw [if_neg h] at hm
    refine sCond (fun h3 => ?_) (fun h3 => ?_)
    · have h3 : x.st = 3 := by
        have : ((x.st : Int) == (3 : Int)) = true := h3
        rw [beq_iff_eq] at this; omega
      rw [if_pos (.inl h3)] at hm
      refine sCondT ?_
      refine sCondT ?_
      exact hbad _ _ hm.symm rfl rfl rfl hO
    · have h3 : x.st ≠ 3 := by
        have : ((x.st : Int) == (3 : Int)) = false := h3
        rw [beq_eq_false_iff_ne] at this; omega
      refine sCond (fun h1 => ?_) (fun h1 => ?_)
      · have h1 : x.st = 1 := by
          have : ((x.st : Int) == (1 : Int)) = true := h1
          rw [beq_iff_eq] at this; omega
        refine sCondT ?_
        refine sCondF ?_
        refine sCond (fun hq => ?_) (fun hq => ?_)
        · have hq : c = 34 := u8_t 34 (by omega) hq
          rw [if_pos (.inr ⟨h1, hq⟩)] at hm
          exact hbad _ _ hm.symm rfl rfl rfl hO
        · have hq' : c ≠ 34 := u8_f 34 (by omega) hq
          rw [if_neg (by rintro (y | y); exact h3 y; exact hq' y.2), if_neg hq'] at hm
          refine sCond (fun y => absurd (u8_t 34 (by omega) y) hq') (fun _ => ?_)
          refine sPush (byteAV c) hf hO rfl rfl (by omega) (by simp only [List.length_map]; omega) (fun s0 H1 fv2 H2 hf2 hO2 _ hfr => ?_)
          refine hnext .normal _ H2 ⟨x.i, fv2, x.f ++ [c], x.rv, x.row, x.ov, x.out, 1⟩ (.inl rfl) rfl rfl ⟨by simp only; omega, by simpa using hf2, hr.after (apart_rb hf hr) hfr, ho.after (apart_ob hf ho) hfr, hO2, hm, by simp only [List.length_append, List.length_cons, List.length_nil]; omega, by simp only; omega, by simp only; omega, by simp only; omega⟩
      · have h1 : x.st ≠ 1 := by
          have : ((x.st : Int) == (1 : Int)) = false := h1
          rw [beq_eq_false_iff_ne] at this; omega
        rw [if_neg (by rintro (y | y); exact h3 y; exact h1 y.1)] at hm
        refine sCondF ?_
        refine sCondF ?_
        refine sCondF ?_
        refine sCond (fun hq => ?_) (fun hq => ?_)
        · have hq : c = 34 := u8_t 34 (by omega) hq
          rw [if_pos hq] at hm
          exact hnext .normal _ H ⟨x.i, x.fv, x.f, x.rv, x.row, x.ov, x.out, 2⟩ (.inl rfl) rfl rfl ⟨by simp only; omega, hf, hr, ho, hO, hm, by simp only; omega, by simp only; omega, by simp only; omega, by simp only; omega⟩
        · have hq' : c ≠ 34 := u8_f 34 (by omega) hq
          rw [if_neg hq'] at hm
          refine sPush (byteAV c) hf hO rfl rfl (by omega) (by simp only [List.length_map]; omega) (fun s0 H1 fv2 H2 hf2 hO2 _ hfr => ?_)
          refine hnext .normal _ H2 ⟨x.i, fv2, x.f ++ [c], x.rv, x.row, x.ov, x.out, 1⟩ (.inl rfl) rfl rfl ⟨by simp only; omega, by simpa using hf2, hr.after (apart_rb hf hr) hfr, ho.after (apart_ob hf ho) hfr, hO2, hm, by simp only [List.length_append, List.length_cons, List.length_nil]; omega, by simp only; omega, by simp only; omega, by simp only; omega⟩

/-- One byte. -/
theorem rows_step {K : Post} {H0 H : Heap} {s : List UInt8} {M : CR} {x : SRf} (h4 : s.length ≤ 4000) (hi : InvRf H0 s M x.i x H) (hlt : x.i < s.length)
    (hbad : ∀ fr' H' p, M = .bad p → get fr' 2 = .lst (some true) 0 [] → get fr' 3 = nV p → get fr' 4 = .int .i64 2 → Old H0 H' → K .ret fr' H')
    (hnext : ∀ (e : AE) (fr' : Fr) (H' : Heap) (x' : SRf), (e = .normal ∨ e = .exit 1) → restrictF fr' [7, 0, 5, 6, 8, 9, 10] = [(7, x'.fv), (0, .str s), (5, x'.ov), (6, x'.rv), (8, nV x'.st), (9, .bool (frR x'.st x'.row)), (10, nV x'.i)] → x.i ≤ x'.i → InvRf H0 s M (x'.i + 1) x' H' → K e fr' H') :
    EW C GT rowsBody K (mkRf s x) H := by
  have hi' := hi
  obtain ⟨hle, hf, hr, ho, hO, hm, hnf, hnr, hno, hs3⟩ := hi
  obtain ⟨c, hc⟩ : ∃ c, s[x.i]? = some c := ⟨s[x.i], List.getElem?_eq_getElem hlt⟩
  refine sChr (i := x.i) rfl hc ?_
  refine sCond (fun h2 => ?_) (fun h2 => ?_)
  · have h2 : x.st = 2 := by
      have : ((x.st : Int) == (2 : Int)) = true := h2
      rw [beq_iff_eq] at this; omega
    rw [mach_at hc, if_pos h2] at hm
    have hfr2 : ∀ (row : List Fld), frR x.st row = false := fun row => by unfold frR; exact decide_eq_false (fun y => by omega)
    refine sCond (fun hq => ?_) (fun hq => ?_)
    · have hq' : c = 34 := u8_t 34 (by omega) hq
      rw [if_pos hq'] at hm
      have close : s[x.i + 1]? ≠ some 34 → InvRf H0 s M (x.i + 1) ⟨x.i, x.fv, x.f, x.rv, x.row, x.ov, x.out, 3⟩ H := fun hn => by
        rw [if_neg hn] at hm
        exact ⟨by omega, hf, hr, ho, hO, hm, by simp only; omega, by simp only; omega, by simp only; omega, by simp only; omega⟩
      have hfr3 : frR x.st x.row = frR 3 x.row := by rw [hfr2]; unfold frR; simp
      refine sW64n (r := x.i + 1) rfl (by omega) ?_
      refine sCondT ?_
      refine sCond (fun hl2 => ?_) (fun hl2 => ?_)
      · have hl2 : x.i + 1 < s.length := by
          have : decide (((x.i + 1 : Nat) : Int) < (s.length : Int)) = true := hl2
          have := of_decide_eq_true this; omega
        obtain ⟨d, hd⟩ : ∃ d, s[x.i + 1]? = some d := ⟨s[x.i + 1], List.getElem?_eq_getElem hl2⟩
        refine sW64n (r := x.i + 1) rfl (by omega) ?_
        refine sChr (i := x.i + 1) rfl hd ?_
        refine sCondT ?_
        refine sCond (fun hq2 => ?_) (fun hq2 => ?_)
        · have hq2 : d = 34 := u8_t 34 (by omega) hq2
          rw [if_pos (by rw [hd, hq2])] at hm
          refine sPush (byteAV 34) hf hO rfl rfl (by omega) (by simp only [List.length_map]; omega) (fun s0 H1 fv2 H2 hf2 hO2 _ hfr => ?_)
          refine sW64n (r := x.i + 1) rfl (by omega) ?_
          refine hnext (.exit 1) _ H2 ⟨x.i + 1, fv2, x.f ++ [34], x.rv, x.row, x.ov, x.out, x.st⟩ (.inr rfl) rfl (by simp only; omega) ⟨by simp only; omega, by simpa using hf2, hr.after (apart_rb hf hr) hfr, ho.after (apart_ob hf ho) hfr, hO2, by simp only [h2]; exact hm, by simp only [List.length_append, List.length_cons, List.length_nil]; omega, by simp only; omega, by simp only; omega, hs3⟩
        · have hq2 : d ≠ 34 := u8_f 34 (by omega) hq2
          refine sCond (fun _ => ?_) (fun y => absurd hq' (u8_f 34 (by omega) y))
          refine hnext (.exit 1) _ H ⟨x.i, x.fv, x.f, x.rv, x.row, x.ov, x.out, 3⟩ (.inr rfl) (by simp only [← hfr3]; rfl) (Nat.le_refl _) (close (by rw [hd]; simpa using hq2))
      · have hl2 : ¬ x.i + 1 < s.length := by
          have : decide (((x.i + 1 : Nat) : Int) < (s.length : Int)) = false := hl2
          have := of_decide_eq_false this; omega
        refine sCondF ?_
        refine sCondF ?_
        refine sCond (fun _ => ?_) (fun y => absurd hq' (u8_f 34 (by omega) y))
        refine hnext (.exit 1) _ H ⟨x.i, x.fv, x.f, x.rv, x.row, x.ov, x.out, 3⟩ (.inr rfl) (by simp only [← hfr3]; rfl) (Nat.le_refl _) (close (by rw [List.getElem?_eq_none (by omega)]; simp))
    · have hq' : c ≠ 34 := u8_f 34 (by omega) hq
      rw [if_neg hq'] at hm
      refine sCondF ?_
      refine sCondF ?_
      refine sCondF ?_
      refine sCondF ?_
      refine sCond (fun y => absurd (u8_t 34 (by omega) y) hq') (fun _ => ?_)
      refine sPush (byteAV c) hf hO rfl rfl (by omega) (by simp only [List.length_map]; omega) (fun s0 H1 fv2 H2 hf2 hO2 _ hfr => ?_)
      refine hnext (.exit 1) _ H2 ⟨x.i, fv2, x.f ++ [c], x.rv, x.row, x.ov, x.out, x.st⟩ (.inr rfl) rfl (Nat.le_refl _) ⟨by simp only; omega, by simpa using hf2, hr.after (apart_rb hf hr) hfr, ho.after (apart_ob hf ho) hfr, hO2, by simp only [h2]; exact hm, by simp only [List.length_append, List.length_cons, List.length_nil]; omega, by simp only; omega, by simp only; omega, hs3⟩
  · have h2 : x.st ≠ 2 := by
      have : ((x.st : Int) == (2 : Int)) = false := h2
      rw [beq_eq_false_iff_ne] at this; omega
    have tend := fun (b : Bool) (hb : b = true) (he : c = 10 ∨ (c = 13 ∧ s[x.i + 1]? = some 10)) => rows_end (C := C) (GT := GT) (K := K) h4 hi' hc h2 he hb (fun fr' H' x' h5 h6 h7 => hnext (.exit 1) fr' H' x' (.inr rfl) h5 h6 h7)
    have tgo := fun (b : Bool) (hb : b = false) (h10 : c ≠ 10) (he : ¬ (c = 13 ∧ s[x.i + 1]? = some 10)) => rows_go (C := C) (GT := GT) (K := K) h4 hi' hc h2 h10 he hb
      (fun fr' H' a b c d e => hbad fr' H' x.i a b c d e) (fun e fr' H' x' h5 h6 h7 h8 => hnext e fr' H' x' h5 h6 (by omega) h8)
    refine sCond (fun h10 => ?_) (fun h10 => ?_)
    · have h10 : c = 10 := u8_t 10 (by omega) h10
      refine sCondT ?_
      exact tend true rfl (.inl h10)
    · have h10 : c ≠ 10 := u8_f 10 (by omega) h10
      refine sCond (fun h13 => ?_) (fun h13 => ?_)
      · have h13 : c = 13 := u8_t 13 (by omega) h13
        refine sW64n (r := x.i + 1) rfl (by omega) ?_
        refine sCondT ?_
        refine sCond (fun hl2 => ?_) (fun hl2 => ?_)
        · have hl2 : x.i + 1 < s.length := by
            have : decide (((x.i + 1 : Nat) : Int) < (s.length : Int)) = true := hl2
            have := of_decide_eq_true this; omega
          obtain ⟨d, hd⟩ : ∃ d, s[x.i + 1]? = some d := ⟨s[x.i + 1], List.getElem?_eq_getElem hl2⟩
          refine sW64n (r := x.i + 1) rfl (by omega) ?_
          refine sChr (i := x.i + 1) rfl hd ?_
          refine sCondT ?_
          refine sCondF ?_
          by_cases hdd : ((d.toNat : Int) == (10 : Int)) = true
          · have hd10 : d = 10 := u8_t 10 (by omega) hdd
            exact tend ((d.toNat : Int) == (10 : Int)) hdd (.inr ⟨h13, by rw [hd, hd10]⟩)
          · have hdd : ((d.toNat : Int) == (10 : Int)) = false := by simpa using hdd
            have hd10 : d ≠ 10 := u8_f 10 (by omega) hdd
            exact tgo ((d.toNat : Int) == (10 : Int)) hdd h10 (fun y => by rw [hd] at y; exact hd10 (Option.some.inj y.2))
        · have hl2 : ¬ x.i + 1 < s.length := by
            have : decide (((x.i + 1 : Nat) : Int) < (s.length : Int)) = false := hl2
            have := of_decide_eq_false this; omega
          refine sCondF ?_
          refine sCondF ?_
          exact tgo false rfl h10 (fun y => by rw [List.getElem?_eq_none (by omega)] at y; cases y.2)
      · have h13 : c ≠ 13 := u8_f 13 (by omega) h13
        refine sCondF ?_
        refine sCondF ?_
        refine sCondF ?_
        refine sCondF ?_
        exact tgo false rfl h10 (fun y => h13 y.1)
theorem rows_round {K : Post} {H0 H : Heap} {s : List UInt8} {M : CR} {x : SRf} (h4 : s.length ≤ 4000) (hi : InvRf H0 s M x.i x H)
    (hbad : ∀ fr' H' p, M = .bad p → get fr' 2 = .lst (some true) 0 [] → get fr' 3 = nV p → get fr' 4 = .int .i64 2 → Old H0 H' → K .ret fr' H')
    (hdone : ∀ fr' H' x', x'.i = s.length → InvRf H0 s M x'.i x' H' → restrictF fr' [0, 5, 7, 6, 9, 8] = [(0, .str s), (5, x'.ov), (7, x'.fv), (6, x'.rv), (9, .bool (frR x'.st x'.row)), (8, nV x'.st)] → K (.exit 0) fr' H') :
    EW C GT b_sccref3_Rows_0 (roundK [10, 7, 0, 5, 6, 8, 9] (mkRf s) (fun y H' => InvRf H0 s M y.i y H') (fun y => s.length - y.i) x K) (mkRf s x) H := by
  have hi' := hi
  obtain ⟨hle, hf, hr, ho, hO, hm, hnf, hnr, hno, hs3⟩ := hi
  refine sCond (fun hlt => ?_) (fun hlt => ?_)
  · simp only [decide_eq_true_eq, Int.ofNat_lt] at hlt
    refine rows_step h4 hi' hlt hbad (fun e fr' H' x' he hfr hge hinv => ?_)
    have key : EW C GT (b_sccref3_Rows_0.behind 2) (roundK [10, 7, 0, 5, 6, 8, 9] (mkRf s) (fun y H' => InvRf H0 s M y.i y H') (fun y => s.length - y.i) x K) (restrictF fr' [7, 0, 5, 6, 8, 9, 10]) H' := by
      rw [hfr]
      have hl := hinv.le
      refine sW64n (r := x'.i + 1) rfl (by omega) ?_
      exact sNext ⟨x'.i + 1, x'.fv, x'.f, x'.rv, x'.row, x'.ov, x'.out, x'.st⟩ rfl ⟨hinv.le, hinv.f, hinv.row, hinv.out, hinv.old, hinv.m, hinv.nf, hinv.nr, hinv.no, hinv.st3⟩ (by simp only; omega)
    rcases he with rfl | rfl
    · exact key
    · exact key
  · simp only [decide_eq_false_iff_not, Int.ofNat_lt] at hlt
    exact hdone _ H x (by omega) hi' rfl


theorem rows3_ev (s : List UInt8) (H : Heap) : EFun C GT a_sccref3_Rows [.str s] H (readV3 s) H := by
  refine sCond (fun h => ?_) (fun h => ?_)
  · simp only [decide_eq_true_eq, gt_iff_lt] at h
    have e : readV3 s = .tup [.lst (some true) 0 [], .int .i64 0, .int .i64 4] := by unfold readV3; rw [if_pos (by omega)]
    rw [e]
    exact sRetV rfl rfl rfl rfl (Old.refl _)
  · simp only [decide_eq_false_iff_not, gt_iff_lt] at h
    have h4 : s.length ≤ 4000 := by omega
    have e : readV3 s = csvV3 (csvP s) := by unfold readV3; rw [if_neg (by omega)]
    rw [e]
    have e0 : (true : Bool) = frR 0 [] := by unfold frR; simp
    refine sLoop (mkRf s) (fun y H' => InvRf H s (csvP s) y.i y H') (fun y => s.length - y.i) ⟨0, .lst (some true) 0 [], [], .lst (some true) 0 [], [], .lst (some true) 0 [], [], 0⟩ (by simp only [mkRf, ← e0]; rfl)
      ⟨Nat.zero_le _, Owns.nil _ _ _, Owns.nil _ _ _, Owns.nil _ _ _, Old.refl _, by simp only [List.drop_zero]; rfl, by simp, by simp, by simp, by simp⟩ (fun x H1 hi => ?_)
    refine rows_round h4 hi (fun fr' H' p hp g2 g3 g4 hO => ?_) (fun fr' H' x' hx' hi' hfr => ?_)
    · have e2 : csvV3 (csvP s) = .tup [.lst (some true) 0 [], nV p, .int .i64 2] := by rw [hp]; rfl
      rw [e2]
      refine sRetV rfl ?_ rfl rfl hO
      simp only [a_sccref3_Rows, resAll, resOf, g2, g3, g4]
      rfl
    · refine sBlk hfr ?_
      obtain ⟨hle, hf, hr, ho, hO, hm, hnf, hnr, hno, hs3⟩ := hi'
      rw [mach_end (by omega)] at hm
      refine sCond (fun h2 => ?_) (fun h2 => ?_)
      · have h2 : x'.st = 2 := by
          have : ((x'.st : Int) == (2 : Int)) = true := h2
          rw [beq_iff_eq] at this; omega
        rw [if_pos h2] at hm
        have e2 : csvV3 (csvP s) = .tup [.lst (some true) 0 [], nV s.length, .int .i64 2] := by rw [← hm, hx']; rfl
        rw [e2]
        exact sRetV rfl rfl rfl rfl hO
      · have h2 : x'.st ≠ 2 := by
          have : ((x'.st : Int) == (2 : Int)) = false := h2
          rw [beq_eq_false_iff_ne] at this; omega
        rw [if_neg h2] at hm
        refine sCond (fun hn => ?_) (fun hn => ?_)
        · have hn : ¬ (x'.st = 0 ∧ x'.row = []) := by
            have : (!(frR x'.st x'.row)) = true := hn
            unfold frR at this
            intro y
            rw [decide_eq_true y] at this; cases this
          rw [if_neg hn] at hm
          have e2 : csvV3 (csvP s) = .tup [rowsV (x'.out ++ [x'.row ++ [x'.f]]), .int .i64 0, .int .i64 0] := by rw [← hm]; rfl
          rw [e2]
          refine sBytesStr hf ?_
          refine sPush (.str x'.f) hr hO rfl rfl (by omega) (by simp only [List.length_map]; omega) (fun s0 H1 rv2 H2 hr2 hO2 _ hfr2 => ?_)
          have ho2 : Owns H H2 x'.ov 1 (x'.out.map fldsV) := ho.after (apart_or hr ho) hfr2
          rw [show x'.row.map AV.str ++ [AV.str x'.f] = (x'.row ++ [x'.f]).map AV.str by simp] at hr2
          refine sPushS (H0 := H) ho2 hr2 (by simp) (fun b hb => apart_or hr2 ho2 b hb) hO2 (by omega) (by simp only [List.length_map]; omega) (fun s3 H3 ov3 H4 ho4 hO4 _ => ?_)
          have e3 : x'.out.map fldsV ++ [lstF 1 ((x'.row ++ [x'.f]).map AV.str)] = (x'.out ++ [x'.row ++ [x'.f]]).map fldsV := by simp [fldsV]
          rw [e3] at ho4
          obtain ⟨H5, hf5, hO5, _⟩ := ho4.frz hO4
          refine sRetF (v0 := .tup [ov3, .int .i64 0, .int .i64 0]) rfl rfl (by simp only [frzV, frzL, hf5]; rfl) (by simp [AV.bel, AV.belL, lstF_bel, rowsV]) hO5
        · have hn : x'.st = 0 ∧ x'.row = [] := by
            have : (!(frR x'.st x'.row)) = false := hn
            unfold frR at this
            simpa using this
          rw [if_pos hn] at hm
          have e2 : csvV3 (csvP s) = .tup [rowsV x'.out, .int .i64 0, .int .i64 0] := by rw [← hm]; rfl
          rw [e2]
          obtain ⟨H5, hf5, hO5, _⟩ := ho.frz hO
          refine sRetF (v0 := .tup [x'.ov, .int .i64 0, .int .i64 0]) rfl rfl (by simp only [frzV, frzL, hf5]; rfl) (by simp [AV.bel, AV.belL, lstF_bel, rowsV]) hO5

/-! ### Are rows the same? -/

theorem list_ext_to {α : Type} {xs ys : List α} (hl : xs.length = ys.length) (h : ∀ k, k < xs.length → xs[k]? = ys[k]?) : xs = ys := by
  apply List.ext_getElem?
  intro k
  by_cases hk : k < xs.length
  · exact h k hk
  · rw [List.getElem?_eq_none (by omega), List.getElem?_eq_none (by omega)]

theorem same_rows_ev (va vb : AV) (t u : List (List Fld)) (H : Heap) (ha : RowsOf va t) (hb : RowsOf vb u) (hl : t.length ≤ 9223372036854775807) (hl2 : ∀ r ∈ t, r.length ≤ 9223372036854775807) : EFun C GT a_sccsame_Rows [va, vb] H (.bool (decide (t = u))) H := by
  obtain ⟨xs, ha, hxl, hxr⟩ := ha
  obtain ⟨ys, hb, hyl, hyr⟩ := hb
  refine sLenO t.length ha hxl ?_
  refine sLenO u.length hb hyl ?_
  refine sCond (fun h => ?_) (fun h => ?_)
  · have e : ¬ t = u := by intro e; subst e; simp at h
    rw [decide_eq_false e]; exact sRetV rfl rfl rfl rfl (Old.refl _)
  have hlen : t.length = u.length := by simp only [bne_eq_false_iff_eq] at h; omega
  refine sLoop (σ := Nat) (fun i => [(5, nV i), (1, vb), (0, va)]) (fun i H1 => H1 = H ∧ i ≤ t.length ∧ ∀ k, k < i → t[k]? = u[k]?) (fun i => t.length - i) 0 rfl ⟨rfl, Nat.zero_le _, fun k h => absurd h (Nat.not_lt_zero _)⟩ (fun i H1 ⟨e, hi, hok⟩ => ?_)
  subst e
  refine sLenO t.length ha hxl ?_
  refine sCond (fun hlt => ?_) (fun hlt => ?_)
  · simp only [decide_eq_true_eq, Int.ofNat_lt] at hlt
    obtain ⟨r, hr⟩ : ∃ r, t[i]? = some r := ⟨t[i], List.getElem?_eq_getElem hlt⟩
    obtain ⟨q, hq⟩ : ∃ q, u[i]? = some q := ⟨u[i]'(by omega), List.getElem?_eq_getElem (by omega)⟩
    obtain ⟨x, hx, hxo⟩ := hxr i r hr
    obtain ⟨y, hy, hyo⟩ := hyr i q hq
    have hrl := hl2 r (List.mem_of_getElem? hr)
    have no : r ≠ q → decide (t = u) = false := fun hne => decide_eq_false fun e => by
      subst e; rw [hr] at hq; cases hq; exact hne rfl
    refine sIdxO i x ha rfl hx ?_
    refine sLoadL x (by rw [hxo.cells]; rfl) ?_
    refine sLenO r.length hxo (by simp) ?_
    refine sIdxO i y hb rfl hy ?_
    refine sLoadL y (by rw [hyo.cells]; rfl) ?_
    refine sLenO q.length hyo (by simp) ?_
    refine sCond (fun hne => ?_) (fun hne => ?_)
    · rw [no (fun e => by subst e; simp at hne)]
      exact sRetV rfl rfl rfl rfl (Old.refl _)
    have hrq : r.length = q.length := by simp only [bne_eq_false_iff_eq] at hne; omega
    refine sLoop (σ := Nat) (fun k => [(6, nV k), (5, nV i), (1, vb), (0, va)]) (fun k H2 => H2 = H1 ∧ k ≤ r.length ∧ ∀ m, m < k → r[m]? = q[m]?) (fun k => r.length - k) 0 rfl ⟨rfl, Nat.zero_le _, fun k h => absurd h (Nat.not_lt_zero _)⟩ (fun k H2 ⟨e, hk, hok2⟩ => ?_)
    subst e
    refine sIdxO i x ha rfl hx ?_
    refine sLoadL x (by rw [hxo.cells]; rfl) ?_
    refine sLenO r.length hxo (by simp) ?_
    refine sCond (fun hlt2 => ?_) (fun hlt2 => ?_)
    · simp only [decide_eq_true_eq, Int.ofNat_lt] at hlt2
      obtain ⟨f, hf⟩ : ∃ f, r[k]? = some f := ⟨r[k], List.getElem?_eq_getElem hlt2⟩
      obtain ⟨g, hg⟩ : ∃ g, q[k]? = some g := ⟨q[k]'(by omega), List.getElem?_eq_getElem (by omega)⟩
      refine sIdxO i x ha rfl hx ?_
      refine sLoadL x (by rw [hxo.cells]; rfl) ?_
      refine sIdxO k (.str f) hxo rfl (by rw [List.getElem?_map, hf]; rfl) ?_
      refine sLoadL (.str f) rfl ?_
      refine sIdxO i y hb rfl hy ?_
      refine sLoadL y (by rw [hyo.cells]; rfl) ?_
      refine sIdxO k (.str g) hyo rfl (by rw [List.getElem?_map, hg]; rfl) ?_
      refine sLoadL (.str g) rfl ?_
      refine sCond (fun hne2 => ?_) (fun hne2 => ?_)
      · rw [no (fun e => by subst e; rw [hf] at hg; cases hg; simp at hne2)]
        exact sRetV rfl rfl rfl rfl (Old.refl _)
      · have hfg : f = g := by simpa using hne2
        refine sW64n (r := k + 1) rfl (by omega) ?_
        refine sNext (k + 1) rfl ⟨rfl, by omega, fun m hm => ?_⟩ (by show _ < _; omega)
        by_cases e : m = k
        · subst e; rw [hf, hg, hfg]
        · exact hok2 m (by omega)
    · simp only [decide_eq_false_iff_not, Int.ofNat_lt] at hlt2
      have erq : r = q := list_ext_to hrq fun m hm => hok2 m (by omega)
      refine sW64n (r := i + 1) rfl (by omega) ?_
      refine sNext (i + 1) rfl ⟨rfl, by omega, fun m hm => ?_⟩ (by show _ < _; omega)
      by_cases e : m = i
      · subst e; rw [hr, hq, erq]
      · exact hok m (by omega)
  · simp only [decide_eq_false_iff_not, Int.ofNat_lt] at hlt
    have e : t = u := list_ext_to hlen fun k hk => hok k (by omega)
    rw [decide_eq_true e]; exact sRetV rfl rfl rfl rfl (Old.refl _)

/-! ### The law -/

theorem csv_len (s : List UInt8) : ∀ (st i : Nat) (f : Fld) (row : List Fld) (out : List (List Fld)) (t : List (List Fld)), s.length + s.length + i ≤ 1000000 → row.length ≤ 2 * i → out.length ≤ i → (∀ r ∈ out, r.length ≤ 1000000000) → mach s i st f row out = .ok t → t.length ≤ 1000000000 ∧ ∀ r ∈ t, r.length ≤ 1000000000 := by
  generalize hn : s.length = n
  induction n using Nat.strongRecOn generalizing s with
  | ind n ih =>
    intro st i f row out t h1 h2 h3 h4 hm
    have app : ∀ r ∈ out ++ [row ++ [f]], r.length ≤ 1000000000 := fun r hr => by
      rcases List.mem_append.1 hr with hr | hr
      · exact h4 r hr
      · simp only [List.mem_singleton] at hr
        subst hr
        simp only [List.length_append, List.length_cons, List.length_nil]; omega
    cases s with
    | nil =>
      rw [mach_nil] at hm
      split at hm
      · cases hm
      · split at hm
        · cases hm; exact ⟨by omega, h4⟩
        · cases hm
          exact ⟨by simp only [List.length_append, List.length_cons, List.length_nil]; omega, app⟩
    | cons c s =>
      simp only [List.length_cons] at hn
      have tl := List.length_tail (l := s)
      rw [mach_cons] at hm
      split at hm
      · split at hm
        · split at hm
          · exact ih s.tail.length (by omega) s.tail rfl _ _ _ _ _ _ (by omega) (by omega) (by omega) h4 hm
          · exact ih s.length (by omega) s rfl _ _ _ _ _ _ (by omega) (by omega) (by omega) h4 hm
        · exact ih s.length (by omega) s rfl _ _ _ _ _ _ (by omega) (by omega) (by omega) h4 hm
      · split at hm
        · exact ih s.length (by omega) s rfl _ _ _ _ _ _ (by omega) (by simp) (by simp only [List.length_append, List.length_cons, List.length_nil]; omega) app hm
        · split at hm
          · exact ih s.tail.length (by omega) s.tail rfl _ _ _ _ _ _ (by omega) (by simp) (by simp only [List.length_append, List.length_cons, List.length_nil]; omega) app hm
          · split at hm
            · exact ih s.length (by omega) s rfl _ _ _ _ _ _ (by omega) (by simp only [List.length_append, List.length_cons, List.length_nil]; omega) (by omega) h4 hm
            · split at hm
              · cases hm
              · split at hm
                · exact ih s.length (by omega) s rfl _ _ _ _ _ _ (by omega) (by omega) (by omega) h4 hm
                · exact ih s.length (by omega) s rfl _ _ _ _ _ _ (by omega) (by omega) (by omega) h4 hm

theorem csv_reads_ev (hR : ∀ s H, C f_csv_Read [.str s] H (readV s) H) (hR3 : ∀ s H, C f_sccref3_Rows [.str s] H (readV3 s) H) (hE : ∀ x n e H, ErrIs x n → C f_sccsame_Error [x, .int .i64 e] H (.bool (n == e)) H)
    (hS : ∀ va vb t u H, RowsOf va t → RowsOf vb u → t.length ≤ 9223372036854775807 → (∀ r ∈ t, r.length ≤ 9223372036854775807) → C f_sccsame_Rows [va, vb] H (.bool (decide (t = u))) H) (s : List UInt8) (H : Heap) :
    EFun C GT a_scclaw3_CsvReads [.str s] H (.bool true) H := by
  have fin : ∀ (tv : AV) (t : List (List Fld)) (p n : Nat) (ev : AV), readV s = .tup [tv, nV p, ev] → readV3 s = .tup [tv, nV p, nV n] → ErrIs ev n → RowsOf tv t → t.length ≤ 1000000000 → (∀ r ∈ t, r.length ≤ 1000000000) → EFun C GT a_scclaw3_CsvReads [.str s] H (.bool true) H := fun tv t p n ev h1 h2 h3 h4 h5 h6 => by
    have r1 := hR s H
    have r2 := hR3 s H
    rw [h1] at r1
    rw [h2] at r2
    have r3 := hE ev n n H h3
    rw [beq_self_eq_true] at r3
    have r4 := hS tv tv t t H h4 h4 (by omega) (fun r hr => by have := h6 r hr; omega)
    rw [decide_eq_true rfl] at r4
    refine sCall0 r2 ?_
    refine sOpt rfl ?_
    refine sOpt rfl ?_
    refine sOpt rfl ?_
    refine sCall0 r1 ?_
    refine sOpt rfl ?_
    refine sOpt rfl ?_
    refine sOpt rfl ?_
    refine sCall0 r3 ?_
    refine sCall0 r4 ?_
    refine sCondT ?_
    refine sCondT ?_
    refine sCondT ?_
    refine sCondT ?_
    exact sRetE (v0 := .bool ((p : Int) == p)) (by simp) rfl rfl rfl rfl (Old.refl _)
  by_cases h4 : 4000 < s.length
  · exact fin (.lst (some true) 0 []) [] 0 4 (errV 4) (by unfold readV; rw [if_pos h4]; rfl) (by unfold readV3; rw [if_pos h4]; rfl) (.inr rfl) (rowsV_of []) (by simp) (by simp)
  · have e1 : readV s = csvV (csvP s) := by unfold readV; rw [if_neg h4]
    have e2 : readV3 s = csvV3 (csvP s) := by unfold readV3; rw [if_neg h4]
    cases hm : csvP s with
    | ok t =>
      rw [hm] at e1 e2
      obtain ⟨l1, l2⟩ := csv_len s 0 0 [] [] [] t (by omega) (by simp) (by simp) (by simp) hm
      exact fin (rowsV t) t 0 0 .nili e1 e2 (.inl ⟨rfl, rfl⟩) (rowsV_of t) l1 l2
    | bad p =>
      rw [hm] at e1 e2
      exact fin (.lst (some true) 0 []) [] p 2 (errV 2) e1 e2 (.inr rfl) (rowsV_of []) (by simp) (by simp)

end
end Go.AM
