/- The abstract machine, part 21: the events' precondition is at least as strong as the abstract machine's. Own work. -/
import Derived.Test.YtibdekobocpfdaaDoorAm20
set_option linter.all false
namespace Go.AM

theorem condP_iff {b : Bool} {A B : Prop} : condP b A B ↔ (if b = true then A else B) := by rw [condP_def]; unfold condPW; cases b <;> simp
theorem optP_iff {α : Type} {o : Option α} {K : α → Prop} : optP o K ↔ ∃ v, o = some v ∧ K v := by rw [optP_def]; unfold optPW; exact Iff.rfl
theorem needP_iff {p K : Prop} : needP p K ↔ p ∧ K := by rw [needP_def]; unfold needPW; exact Iff.rfl
theorem valP_iff {x : Int} {K : Int → Prop} : valP x K ↔ K x := by rw [valP_def]; unfold valPW; exact Iff.rfl
theorem actP_iff {k : AK} {vs : List AV} {H : Heap} {K : AV → Heap → Prop} : actP k vs H K ↔ ∃ v H', astep k vs H = some (v, H') ∧ K v H' := by rw [actP_def]; unfold actPW; exact Iff.rfl
theorem callP_iff {C : CSpec} {f : FuncId} {vs : List AV} {rd : Bool} {H : Heap} {K : AV → Heap → Prop} : callP C f vs rd H K ↔ ∃ v H', C f vs H v H' ∧ (rd = true → H' = H) ∧ K v H' := by rw [callP_def]; unfold callPW; exact Iff.rfl
theorem idxP_iff {xs : List AV} {n : Int} {K : AV → Prop} : idxP xs n K ↔ ∃ x, 0 ≤ n ∧ xs[n.toNat]? = some x ∧ K x := by rw [idxP_def]; unfold idxPW; exact Iff.rfl
theorem chrP_iff {s : List UInt8} {n : Int} {K : UInt8 → Prop} : chrP s n K ↔ ∃ c, 0 ≤ n ∧ s[n.toNat]? = some c ∧ K c := by rw [chrP_def]; unfold chrPW; exact Iff.rfl
theorem retP_iff {F : AF} {H H1 H' : Heap} {fr : Fr} {v : AV} : retP F H fr H1 v H' ↔ retF F H fr H1 v H' := by rw [retP_def]; unfold retPW; exact Iff.rfl
theorem loopP_iff {C : CSpec} {GT : Nat → Option AV} {c : AC} {L : List Nat} {K : Post} {fr : Fr} {H : Heap} : loopP C GT L c K fr H ↔ AWL C GT L c (closeK K) fr H := by rw [loopP_def]; unfold loopPW; exact Iff.rfl

theorem boolN_iff {x : AV} {K : Bool → Prop} : boolN x K ↔ ∃ b, x = .bool b ∧ K b := by
  unfold boolN; cases x <;> simp
theorem guardN_iff {x : AV} {S : Prop} {K : Bool → Prop} : guardN x S K ↔ (x = .tup [] ∧ S) ∨ ∃ b, x = .bool b ∧ K b := by
  unfold guardN
  cases x with
  | tup vs => cases vs <;> simp
  | _ => simp
theorem toInt_iff {x : AV} {K : Int → Prop} : toInt x K ↔ ∃ k n, x = .int k n ∧ K n := by
  unfold toInt; cases x <;> simp
  exact ⟨fun h => ⟨_, _, ⟨rfl, rfl⟩, h⟩, fun ⟨_, _, ⟨_, h1⟩, h2⟩ => h1 ▸ h2⟩
theorem strOf_iff {x : AV} {K : List UInt8 → Prop} : strOf x K ↔ ∃ s, x = .str s ∧ K s := by
  unfold strOf; cases x <;> simp
theorem aggN_iff {x : AV} {K : List AV → Prop} : aggN x K ↔ ∃ s, x = .agg s ∧ K s := by
  unfold aggN; cases x <;> simp

theorem act_of {k : AK} {vs : List AV} {H H' : Heap} {K : AV → Heap → Prop} {v : AV} (h : astep k vs H = some (v, H')) (hk : K v H') : actP k vs H K := sAct h hk

theorem intN_sound {op : BinOp} {k : IntKind} {a b : Int} {K : AV → Prop} (h : intN op k a b K) : ∃ v, intBin op k a b = some v ∧ K v := by
  unfold intN at h
  unfold intBin
  cases op <;> simp only [valP_iff, needP_iff, optP_iff] at h ⊢
  all_goals first
    | exact ⟨_, rfl, h⟩
    | (obtain ⟨h1, h2⟩ := h; rw [if_neg h1]; exact ⟨_, rfl, h2⟩)
    | exact h

theorem strN_sound {op : BinOp} {a b : List UInt8} {K : AV → Prop} (h : strN op a b K) : ∃ v, strBin op a b = some v ∧ K v := by
  unfold strN at h
  cases op <;> simp only [needP_iff, optP_iff] at h
  all_goals first
    | exact h
    | exact ⟨_, rfl, h⟩
    | (obtain ⟨h1, h2⟩ := h; exact ⟨_, by simp only [strBin]; rw [if_pos h1], h2⟩)

theorem binN_sound {op : BinOp} {x y : AV} {K : AV → Prop} (h : binN op x y K) : ∃ v, aBin op x y = some v ∧ K v := by
  unfold binN at h
  cases x <;> try exact h.elim
  case int k a =>
    cases y <;> try exact h.elim
    rename_i k' b
    simp only at h
    simp only [aBin]
    have hs : isShift op = true ↔ op = .shl ∨ op = .shr := by cases op <;> simp [isShift]
    cases hsh : isShift op with
    | true =>
      rw [hsh] at h
      rw [if_pos (hs.1 hsh)]
      exact optP_iff.1 h
    | false =>
      rw [hsh] at h
      rw [if_neg (fun e => by rw [hs.2 e] at hsh; cases hsh)]
      simp only [sameKind] at h
      by_cases hk : k = k'
      · rw [if_pos hk]
        simp only [hk, decide_true] at h
        rw [hk]
        exact intN_sound h
      · simp [hk] at h
  case str a =>
    cases y <;> try exact h.elim
    exact strN_sound h

theorem neg_eq (neg b : Bool) : negB neg b = if neg then !b else b := by cases neg <;> rfl

theorem lenN_sound {s : Bool} {x : AV} {K : Int → Prop} (h : lenN s x K) : ∃ n : Nat, aLen s x = some n ∧ K (n : Int) := by
  unfold lenN at h
  cases s
  · simp only at h
    rw [lenP_def] at h; unfold lenPW at h
    cases x <;> first | exact h.elim | exact ⟨_, rfl, h⟩
  · cases x <;> first | exact h.elim | exact ⟨_, rfl, h⟩

theorem slcN_sound {k : Option Nat} {lo hi : Bool} {vs : List AV} {H : Heap} {K : AV → Heap → Prop} (h : slcN k lo hi vs fun v => K v H) : actP (.slc k lo hi) vs H K := by
  unfold slcN at h
  cases vs with
  | nil => exact h.elim
  | cons x ys =>
    cases lo <;> cases hi <;> simp only at h <;> split at h
    all_goals first
      | exact h.elim
      | (obtain ⟨v, h1, h2⟩ := optP_iff.1 h; exact act_of (by simp only [astep, h1, Option.map_some]) h2)

theorem offN_sound {o : Nat} {x : AV} {K : AV → Prop} (h : offN o x K) : (∃ b k i oo, x = .ref b k i oo ∧ K (.ref b k i (oo + o))) ∨ ∃ y oo, x = .lref y oo ∧ K (.lref y (oo + o)) := by
  unfold offN at h
  cases x <;> first | exact h.elim | exact .inl ⟨_, _, _, _, rfl, h⟩ | exact .inr ⟨_, _, rfl, h⟩

theorem idxN_sound {k : Nat} {x : AV} {n : Int} {kk : IntKind} {H : Heap} {K : AV → Heap → Prop} (h : idxN k x n fun v => K v H) : actP (.idxAddr k) [x, .int kk n] H K := by
  rw [idxN_def] at h; unfold idxNW at h
  cases x <;> try exact h.elim
  case lst q k' xs =>
    simp only [needP_iff, idxP_iff] at h
    obtain ⟨hk, x, h0, h1, h2⟩ := h
    exact act_of (by simp only [astep]; rw [if_neg (by omega), h1]; simp only; rw [if_pos hk]) h2
  case sl q b k' off len =>
    simp only [needP_iff] at h
    obtain ⟨⟨hk, h0, h1⟩, h2⟩ := h
    exact act_of (by simp only [astep]; rw [if_neg (by omega), if_pos ⟨h1, hk⟩]) h2

theorem stepN_sound {C : CSpec} {k : AK} {vs : List AV} {H : Heap} {K : AV → Heap → Prop} (h : stepN C k vs H K) : stepK C k vs H K := by
  have fin : ∀ {k}, (∀ f rd, k ≠ .call f rd) → (∀ rd, k ≠ .callv rd) → actP k vs H K → stepK C k vs H K := by
    intro k h1 h2 ha
    obtain ⟨v, H', hs, hk⟩ := actP_iff.1 ha
    refine stepK_iff.2 ⟨v, H', ?_, hk⟩
    cases k <;> first | exact hs | exact absurd rfl (h1 _ _) | exact absurd rfl (h2 _)
  unfold stepN at h
  cases k
  case call f rd => exact callP_iff.1 h
  case callv rd =>
    simp only at h
    split at h
    · exact h.elim
    · split at h
      · exact callP_iff.1 h
      · exact h.elim
  case append => exact fin (by simp) (by simp) h
  case appendS => exact fin (by simp) (by simp) h
  case stuck => exact False.elim h
  case callp => exact fin (by simp) (by simp) h
  case callvp => exact fin (by simp) (by simp) h
  case panic => exact fin (by simp) (by simp) h
  case bytesToStr => exact fin (by simp) (by simp) h
  case strToBytes => exact fin (by simp) (by simp) h
  case store => exact fin (by simp) (by simp) h
  case box => exact fin (by simp) (by simp) h
  case bslice => exact fin (by simp) (by simp) h
  case make => exact fin (by simp) (by simp) h
  case copy => exact fin (by simp) (by simp) h
  case slc => exact fin (by simp) (by simp) (slcN_sound h)
  case mkFn => exact fin (by simp) (by simp) (act_of rfl h)
  case build =>
    obtain ⟨v, h1, h2⟩ := optP_iff.1 h
    exact fin (by simp) (by simp) (act_of (by simp only [astep, h1, Option.map_some]) h2)
  all_goals
    refine fin (by simp) (by simp) ?_
    clear fin
    simp only at h
    (rcases vs with _ | ⟨v1, _ | ⟨v2, _ | ⟨v3, _ | ⟨v4, vs⟩⟩⟩⟩ <;> try exact h.elim)
    try simp only at h
  case mv => exact act_of rfl h
  case pick =>
    replace h := boolN_iff.1 h; obtain ⟨c, rfl, h⟩ := h
    rw [condP_iff] at h
    cases c
    · exact act_of rfl h
    · exact act_of rfl h
  case bin =>
    obtain ⟨v, h1, h2⟩ := binN_sound h
    exact act_of (by simp only [astep, h1, Option.map_some]) h2
  case eqs =>
    unfold eqsN at h
    cases v1 <;> try exact h.elim
    cases v2 <;> try exact h.elim
    obtain ⟨v, h1, h2⟩ := optP_iff.1 h
    exact act_of (by simp only [astep, h1, Option.map_some, ← neg_eq]) h2
  case eqb =>
    replace h := boolN_iff.1 h; obtain ⟨a, rfl, h⟩ := h
    replace h := boolN_iff.1 h; obtain ⟨b, rfl, h⟩ := h
    exact act_of (by simp only [astep, ← neg_eq]) h
  case eqn =>
    obtain ⟨v, h1, h2⟩ := optP_iff.1 h
    exact act_of (by simp only [astep, h1, Option.map_some, ← neg_eq]) h2
  case un =>
    unfold unN at h
    split at h
    · split at h
      · exact act_of rfl h
      · exact h.elim
    · obtain ⟨v, h1, h2⟩ := optP_iff.1 h
      exact act_of (by simp only [astep, h1, Option.map_some]) h2
  case convInt =>
    replace h := toInt_iff.1 h; obtain ⟨k, n, rfl, h⟩ := h
    exact act_of rfl (valP_iff.1 h)
  case convRune =>
    replace h := toInt_iff.1 h; obtain ⟨k, n, rfl, h⟩ := h
    exact act_of rfl h
  case convId =>
    replace h := strOf_iff.1 h; obtain ⟨s, rfl, h⟩ := h
    exact act_of rfl h
  case mkIface => exact act_of rfl h
  case len =>
    obtain ⟨n, h1, h2⟩ := lenN_sound h
    exact act_of (by simp only [astep, h1, Option.map_some]) h2
  case fieldAddr =>
    rcases offN_sound h with ⟨b, k, i, oo, rfl, h⟩ | ⟨y, oo, rfl, h⟩ <;> exact act_of rfl h
  case field =>
    unfold fieldN at h
    split at h
    · obtain ⟨v, h1, h2⟩ := optP_iff.1 h
      exact act_of (by simp only [astep, h1, Option.map_some]) h2
    · exact h.elim
  case idxAddr =>
    replace h := toInt_iff.1 h; obtain ⟨kk, n, rfl, h⟩ := h
    exact idxN_sound h
  case idxArr =>
    replace h := toInt_iff.1 h; obtain ⟨kk, n, rfl, h⟩ := h
    obtain ⟨hn, h⟩ := needP_iff.1 h
    rcases offN_sound h with ⟨b, k, i, oo, rfl, h⟩ | ⟨y, oo, rfl, h⟩ <;> exact act_of (by simp only [astep]; rw [if_pos hn]) h
  case idxStr =>
    replace h := strOf_iff.1 h; obtain ⟨s, rfl, h⟩ := h
    replace h := toInt_iff.1 h; obtain ⟨kk, n, rfl, h⟩ := h
    obtain ⟨c, h0, h1, h2⟩ := chrP_iff.1 h
    exact act_of (by simp only [astep]; rw [if_neg (by omega), h1]) h2
  case idxAgg =>
    replace h := aggN_iff.1 h; obtain ⟨cs, rfl, h⟩ := h
    replace h := toInt_iff.1 h; obtain ⟨kk, n, rfl, h⟩ := h
    obtain ⟨hn, h⟩ := needP_iff.1 h
    obtain ⟨v, h1, h2⟩ := optP_iff.1 h
    exact act_of (by simp only [astep]; rw [if_pos hn, h1]; rfl) h2
  case nilchk =>
    unfold chkN at h
    split at h <;> first | exact h.elim | exact act_of rfl h
  case extract =>
    unfold extN at h
    split at h
    · obtain ⟨v, h1, h2⟩ := optP_iff.1 h
      exact act_of (by simp only [astep, h1, Option.map_some]) h2
    · exact h.elim
  case load =>
    rw [loadN_def] at h; unfold loadNW at h
    split at h
    · obtain ⟨v, h1, h2⟩ := optP_iff.1 h
      exact act_of (by simp only [astep, ptrCells, h1, Option.map_some]) h2
    · obtain ⟨⟨cs, o⟩, h0, h⟩ := optP_iff.1 h
      obtain ⟨v, h1, h2⟩ := optP_iff.1 h
      exact act_of (by simp only [astep, h0]; simp only at h1; simp only [h1, Option.map_some]) h2
  case alloc => exact act_of rfl h
  case min =>
    unfold mmN at h
    split at h
    · split at h
      · simp only [sameKind] at h
        split at h
        · rename_i hk
          simp only [decide_eq_true_eq] at hk
          subst hk
          exact act_of (by simp only [astep, if_true]) (valP_iff.1 h)
        · exact h.elim
      · exact h.elim
    · exact h.elim
  case max =>
    unfold mmN at h
    split at h
    · split at h
      · simp only [sameKind] at h
        split at h
        · rename_i hk
          simp only [decide_eq_true_eq] at hk
          subst hk
          exact act_of (by simp only [astep, if_true]) (valP_iff.1 h)
        · exact h.elim
      · exact h.elim
    · exact h.elim

theorem stepK_mono {C : CSpec} {k : AK} {vs : List AV} {H : Heap} {K K' : AV → Heap → Prop} (h : stepK C k vs H K) (hk : ∀ v H, K v H → K' v H) : stepK C k vs H K' := by
  obtain ⟨v, H', h1, h2⟩ := stepK_iff.1 h
  exact stepK_iff.2 ⟨v, H', h1, hk _ _ h2⟩

section
variable {C : CSpec} {GT : Nat → Option AV}

theorem get_put_congr {fr fr' : Fr} (h : get fr = get fr') (d : Option Nat) (v : AV) : get (put fr d v) = get (put fr' d v) := by
  rw [get_put, get_put, h]

theorem get_same {fr : Fr} {s : Nat} {b : Bool} (h : get fr s = .bool b) : get ((s, .bool b) :: fr) = get fr := by
  funext t
  simp only [get]
  split
  · rename_i e; subst e; exact h.symm
  · rfl

theorem decOf_undec {dec : List (Nat × Option Bool)} {d : Option Nat} {s : Nat} {b : Bool} (h : decOf (undec dec d) s = some b) : decOf dec s = some b ∧ d ≠ some s := by
  cases d with
  | none => exact ⟨h, by simp⟩
  | some d =>
    simp only [undec, decOf] at h
    split at h
    · cases h
    · rename_i e
      refine ⟨h, fun e' => ?_⟩
      cases e'
      simp at e

theorem dec_put {dec : List (Nat × Option Bool)} {fr : Fr} (h : ∀ s b, decOf dec s = some b → get fr s = .bool b) (d : Option Nat) (v : AV) : ∀ s b, decOf (undec dec d) s = some b → get (put fr d v) s = .bool b := by
  intro s b hs
  obtain ⟨h1, h2⟩ := decOf_undec hs
  cases d with
  | none => exact h s b h1
  | some d =>
    simp only [put, get]
    rw [if_neg (fun e => h2 (by rw [e]))]
    exact h s b h1

theorem dec_cons {dec : List (Nat × Option Bool)} {fr : Fr} (h : ∀ s b, decOf dec s = some b → get fr s = .bool b) {s : Nat} {b : Bool} (hs : get fr s = .bool b) : ∀ t c, decOf ((s, some b) :: dec) t = some c → get fr t = .bool c := by
  intro t c ht
  simp only [decOf] at ht
  split at ht
  · rename_i e
    have : s = t := Nat.eq_of_beq_eq_true e
    subst this
    cases ht; exact hs
  · exact h t c ht

theorem getF_eq : ∀ fr, getF fr = get fr
  | [] => rfl
  | p :: r => by
    funext i
    simp only [getF, get, getF_eq r]
    cases h : Nat.beq p.1 i with
    | true => simp only; rw [if_pos (Nat.eq_of_beq_eq_true h)]
    | false => simp only; rw [if_neg (fun e => by rw [e] at h; simp at h)]
theorem restrictF_eq (fr : Fr) : ∀ L, restrictF fr L = restrict fr L
  | [] => rfl
  | i :: L => by
    simp only [restrictF, restrictF_eq fr L, getF_eq]; rfl
theorem evF_eq (GT : Nat → Option AV) (fr : Fr) : evF GT fr = ev GT fr := by
  funext x
  cases x with
  | tmp t => simp only [evF, ev, getF_eq]
  | const v => rfl
  | glob g => simp only [evF, ev]; cases GT g <;> rfl
  | fn f => rfl
theorem argsF_eq (GT : Nat → Option AV) (fr : Fr) : ∀ xs, argsF GT fr xs = xs.map (ev GT fr)
  | [] => rfl
  | x :: xs => by simp only [argsF, argsF_eq GT fr xs, evF_eq, List.map_cons]
theorem blockF_eq (id : Nat) (L : List Nat) (K : Post) : blockF id L K = blockK id L K := by
  funext e fr H
  cases e with
  | exit j =>
    simp only [blockF, blockK, restrictF_eq]
    cases h : Nat.beq j id with
    | true => simp only; rw [if_pos (Nat.eq_of_beq_eq_true h)]
    | false => simp only; rw [if_neg (fun e => by rw [e] at h; simp at h)]
  | _ => simp only [blockF, blockK, restrictF_eq]

theorem ops_ew : ∀ (is : List AI) (dec : List (Nat × Option Bool)) (fr fr' : Fr) (H : Heap) (K K' : Fr → Heap → Prop), get fr = get fr' → (∀ s b, decOf dec s = some b → get fr s = .bool b) →
    (∀ f f' H, get f = get f' → K f H → K' f' H) → EWops C GT is dec fr H K → AWops C GT is fr' H K'
  | [], _, fr, fr', H, K, K', hf, _, hk, h => hk _ _ _ hf h
  | i :: is, dec, fr, fr', H, K, K', hf, hd, hk, h => by
    have hev : ev GT fr = ev GT fr' := by rw [ev_eq, ev_eq, hf]
    have go : ∀ (dec : List (Nat × Option Bool)) (fr : Fr), get fr = get fr' → (∀ s b, decOf dec s = some b → get fr s = .bool b) → ev GT fr = ev GT fr' →
        stepN C i.k (i.xs.map (ev GT fr')) H (fun v H' => EWops C GT is (undec dec i.dst) (put fr i.dst v) H' K) → stepK C i.k (i.xs.map (ev GT fr')) H fun v H' => AWops C GT is (put fr' i.dst v) H' K' := by
      intro dec fr hf hd hev h
      exact stepK_mono (stepN_sound h) fun v H' h => ops_ew is _ _ _ H' K K' (get_put_congr hf _ _) (dec_put hd _ _) hk h
    have no : ∀ (dec : List (Nat × Option Bool)) (fr : Fr), get fr = get fr' → (∀ s b, decOf dec s = some b → get fr s = .bool b) → EWops C GT is (undec dec i.dst) (put fr i.dst (.tup [])) H K → AWops C GT is (put fr' i.dst (.tup [])) H K' :=
      fun dec fr hf hd h => ops_ew is _ _ _ H K K' (get_put_congr hf _ _) (dec_put hd _ _) hk h
    rw [EWops_cons] at h
    unfold opStep at h
    simp only [argsF_eq, getF_eq] at h
    unfold AWops
    split at h
    · rename_i hg
      rw [hg]
      rw [hev] at h
      exact go dec fr hf hd hev h
    · rename_i s want hg
      rw [hg]
      simp only
      split at h
      · rename_i b hb
        have hs : get fr' s = .bool b := by rw [← hf]; exact hd s b hb
        rw [hs]
        simp only [gd]
        split at h
        · rename_i e
          rw [if_pos e]
          rw [hev] at h
          exact go dec fr hf hd hev h
        · rename_i e
          rw [if_neg (by simp [e])]
          exact no dec fr hf hd h
      · rcases guardN_iff.1 h with ⟨hb, h⟩ | ⟨b, hb, h⟩
        · have hs : get fr' s = .tup [] := by rw [← hf]; exact hb
          rw [hs]
          simp only [gd]
          rw [if_neg (by simp)]
          exact no dec fr hf hd h
        have hs : get fr' s = .bool b := by rw [← hf]; exact hb
        rw [hs]
        simp only [gd]
        have hf2 : get ((s, AV.bool b) :: fr) = get fr' := by rw [get_same hb, hf]
        have hev2 : ev GT ((s, AV.bool b) :: fr) = ev GT fr' := by rw [ev_eq, ev_eq, hf2]
        have hd2 : ∀ t c, decOf ((s, some b) :: dec) t = some c → get ((s, AV.bool b) :: fr) t = .bool c := by
          rw [get_same hb]; exact dec_cons hd hb
        cases want <;> cases b <;> simp only [condP_iff, if_true, Bool.false_eq_true, if_false] at h
        · rw [if_pos (by rfl)]
          rw [hev] at h
          exact go _ _ hf2 hd2 hev2 h
        · rw [if_neg (by simp)]
          exact no _ _ hf2 hd2 h
        · rw [if_neg (by simp)]
          exact no _ _ hf2 hd2 h
        · rw [if_pos (by rfl)]
          rw [hev] at h
          exact go _ _ hf2 hd2 hev2 h

theorem callPP_iff {C : CSpec} {f : FuncId} {vs : List AV} {H : Heap} {K KP : AV → Heap → Prop} : callPP C f vs H K KP ↔ ((∃ v H', C f vs H v H' ∧ K v H') ∨ (∃ x H', C f (.pan .undef :: vs) H x H' ∧ KP x H')) := by rw [callPP_def]; exact Iff.rfl
theorem altP_iff {A B : Prop} : altP A B ↔ A ∧ B := by rw [altP_def]; exact Iff.rfl

theorem stepNP_sound {k : AK} {vs : List AV} {H : Heap} {K KP : AV → Heap → Prop} (h : stepNP C k vs H K KP) : stepKP C k vs H K KP := by
  cases k
  case callp f => exact callPP_iff.1 h
  case callvp =>
    simp only [stepNP] at h
    simp only [stepKP]
    split at h
    · exact h.elim
    · split at h
      · exact callPP_iff.1 h
      · exact h.elim
  case panic =>
    simp only [stepNP] at h
    simp only [stepKP]
    split at h
    · split at h
      · exact h
      · exact h.elim
    · exact h.elim
  all_goals
    simp only [stepNP] at h
    exact stepN_sound h

theorem stepKP_mono {k : AK} {vs : List AV} {H : Heap} {K K' KP KP' : AV → Heap → Prop} (h : stepKP C k vs H K KP) (hk : ∀ v H, K v H → K' v H) (hp : ∀ x H, KP x H → KP' x H) : stepKP C k vs H K' KP' := by
  rcases stepKP_iff.1 h with ⟨v, H', h1, h2⟩ | ⟨x, H', h1, h2⟩
  · exact stepKP_iff.2 (.inl ⟨v, H', h1, hk _ _ h2⟩)
  · exact stepKP_iff.2 (.inr ⟨x, H', h1, hp _ _ h2⟩)

theorem nthAI_eq : ∀ (is : List AI) (j : Nat), nthAI is j = is[j]?
  | [], j => by simp [nthAI]
  | i :: is, 0 => by simp [nthAI]
  | i :: is, j + 1 => by simp [nthAI, nthAI_eq is j]

theorem ewt_sound (is : List AI) : ∀ (t : OT) (dec : List (Nat × Option Bool)) (fr fr' : Fr) (H : Heap) (K K' : Fr → Heap → Prop) (KP KP' : AV → Heap → Prop), get fr = get fr' → (∀ s b, decOf dec s = some b → get fr s = .bool b) →
    (∀ f f' H, get f = get f' → K f H → K' f' H) → (∀ x H, KP x H → KP' x H) → EWT C GT is t dec fr H K KP → AWT C GT is t fr' H K' KP'
  | .done, _, fr, fr', H, K, K', KP, KP', hf, _, hk, hp, h => hk _ _ _ hf h
  | .alt a b, dec, fr, fr', H, K, K', KP, KP', hf, hd, hk, hp, h => by
    replace h : altP (EWT C GT is a dec fr H K KP) (EWT C GT is b dec fr H K KP) := h
    have h := altP_iff.1 h
    exact ⟨ewt_sound is a dec fr fr' H K K' KP KP' hf hd hk hp h.1, ewt_sound is b dec fr fr' H K K' KP KP' hf hd hk hp h.2⟩
  | .step j t, dec, fr, fr', H, K, K', KP, KP', hf, hd, hk, hp, h => by
    replace h : (match nthAI is j with
      | none => False
      | some i => opStepT C GT i (EWT C GT is t) dec fr H K KP) := h
    rw [nthAI_eq] at h
    unfold AWT
    split at h
    · exact h.elim
    rename_i i hi
    simp only [hi]
    have hev : ev GT fr = ev GT fr' := by rw [ev_eq, ev_eq, hf]
    have go : ∀ (dec : List (Nat × Option Bool)) (fr : Fr), get fr = get fr' → (∀ s b, decOf dec s = some b → get fr s = .bool b) → ev GT fr = ev GT fr' →
        stepNP C i.k (i.xs.map (ev GT fr')) H (fun v H' => EWT C GT is t (undec dec i.dst) (put fr i.dst v) H' K KP) KP → stepKP C i.k (i.xs.map (ev GT fr')) H (fun v H' => AWT C GT is t (put fr' i.dst v) H' K' KP') KP' := by
      intro dec fr hf hd hev h
      exact stepKP_mono (stepNP_sound h) (fun v H' h => ewt_sound is t _ _ _ H' K K' KP KP' (get_put_congr hf _ _) (dec_put hd _ _) hk hp h) hp
    have no : ∀ (dec : List (Nat × Option Bool)) (fr : Fr), get fr = get fr' → (∀ s b, decOf dec s = some b → get fr s = .bool b) → EWT C GT is t (undec dec i.dst) (put fr i.dst (.tup [])) H K KP → AWT C GT is t (put fr' i.dst (.tup [])) H K' KP' :=
      fun dec fr hf hd h => ewt_sound is t _ _ _ H K K' KP KP' (get_put_congr hf _ _) (dec_put hd _ _) hk hp h
    unfold opStepT at h
    simp only [argsF_eq, getF_eq] at h
    split at h
    · rename_i hg
      rw [hg]
      rw [hev] at h
      exact go dec fr hf hd hev h
    · rename_i s want hg
      rw [hg]
      simp only
      split at h
      · rename_i b hb
        have hs : get fr' s = .bool b := by rw [← hf]; exact hd s b hb
        rw [hs]
        simp only [gd]
        split at h
        · rename_i e
          rw [if_pos e]
          rw [hev] at h
          exact go dec fr hf hd hev h
        · rename_i e
          rw [if_neg (by simp [e])]
          exact no dec fr hf hd h
      · rcases guardN_iff.1 h with ⟨hb, h⟩ | ⟨b, hb, h⟩
        · have hs : get fr' s = .tup [] := by rw [← hf]; exact hb
          rw [hs]
          simp only [gd]
          rw [if_neg (by simp)]
          exact no dec fr hf hd h
        have hs : get fr' s = .bool b := by rw [← hf]; exact hb
        rw [hs]
        simp only [gd]
        have hf2 : get ((s, AV.bool b) :: fr) = get fr' := by rw [get_same hb, hf]
        have hev2 : ev GT ((s, AV.bool b) :: fr) = ev GT fr' := by rw [ev_eq, ev_eq, hf2]
        have hd2 : ∀ t c, decOf ((s, some b) :: dec) t = some c → get ((s, AV.bool b) :: fr) t = .bool c := by
          rw [get_same hb]; exact dec_cons hd hb
        cases want <;> cases b <;> simp only [condP_iff, if_true, Bool.false_eq_true, if_false] at h
        · rw [if_pos (by rfl)]
          rw [hev] at h
          exact go _ _ hf2 hd2 hev2 h
        · rw [if_neg (by simp)]
          exact no _ _ hf2 hd2 h
        · rw [if_neg (by simp)]
          exact no _ _ hf2 hd2 h
        · rw [if_pos (by rfl)]
          rw [hev] at h
          exact go _ _ hf2 hd2 hev2 h

theorem gotoP_iff {L : List Nat} {l : Nat} {r : AC} {K : Post} {fr : Fr} {H : Heap} : gotoP C GT L l r K fr H ↔ ∃ m, gotoW (AW C GT r) L l (closeK K) m fr H := by rw [gotoP_def]; exact Iff.rfl

theorem gotoW_mono {L : List Nat} {l : Nat} {r : AC} {K K' : Post} (hk : ∀ e fr H, K e fr H → K' e fr H) : ∀ (m : Nat) (fr : Fr) (H : Heap), gotoW (AW C GT r) L l K m fr H → gotoW (AW C GT r) L l K' m fr H
  | 0, _, _, h => h.elim
  | m + 1, fr, H, h => aw_mono h fun e fr H h => by
    cases e with
    | goto l' => exact ⟨h.1, gotoW_mono hk m _ H h.2⟩
    | _ => exact hk _ _ _ h

def PostLe (K K' : Post) : Prop := ∀ e f f' H, get f = get f' → K e f H → K' e f' H

theorem restrict_congr {fr fr' : Fr} (h : get fr = get fr') (L : List Nat) : restrict fr L = restrict fr' L := by
  unfold restrict; rw [h]

theorem ew_sound : ∀ (ac : AC) (K K' : Post) (fr fr' : Fr) (H : Heap), get fr = get fr' → PostLe K K' → EW C GT ac K fr H → AW C GT ac K' fr' H := by
  intro ac
  induction ac with
  | skip => intro K K' fr fr' H hf hk h; exact hk _ _ _ _ hf h
  | ret => intro K K' fr fr' H hf hk h; exact hk _ _ _ _ hf h
  | stuck => intro K K' fr fr' H hf hk h; exact False.elim h
  | label => intro K K' fr fr' H hf hk h; exact hk _ _ _ _ hf h
  | goto l => intro K K' fr fr' H hf hk h; exact hk _ _ _ _ hf h
  | regt L d is t =>
    intro K K' fr fr' H hf hk h
    rw [AW_regt]
    replace h : EWT C GT is t [] (restrictF fr L) H (fun fr' H' => K .normal fr' H') (fun x H' => K (.pan x) [] H') := h
    rw [restrictF_eq, restrict_congr hf] at h
    exact ewt_sound is t _ _ _ H _ _ _ _ rfl (fun s b h => by simp [decOf] at h) (fun f f' H hf h => hk _ _ _ _ hf h) (fun x H h => hk _ _ _ _ rfl h) h
  | scope L l c r ihc ihr =>
    intro K K' fr fr' H hf hk h
    replace h : EW C GT c (jumpK l (fun fr' H' => gotoP C GT L l r K (restrictF fr' L) H') K) fr H := h
    rw [AW_scope]
    refine ihc _ _ _ _ H hf (fun e f f' H hf h => ?_) h
    cases e with
    | goto l' =>
      obtain ⟨hl, hg⟩ := h
      obtain ⟨m, hg⟩ := gotoP_iff.1 hg
      rw [restrictF_eq, restrict_congr hf] at hg
      exact ⟨hl, m, gotoW_mono (fun e f H ⟨f', h1, h2⟩ => hk _ _ _ _ h1 h2) m _ _ hg⟩
    | _ => exact hk _ _ _ _ hf h
  | exit id => intro K K' fr fr' H hf hk h; exact hk _ _ _ _ hf h
  | reg L d is =>
    intro K K' fr fr' H hf hk h
    rw [AW_reg]
    replace h : EWops C GT is [] (restrictF fr L) H (fun fr' H' => K .normal fr' H') := h
    rw [restrictF_eq, restrict_congr hf] at h
    exact ops_ew is _ _ _ H _ _ rfl (fun s b h => by simp [decOf] at h) (fun f f' H hf h => hk _ _ _ _ hf h) h
  | seq a b iha ihb =>
    intro K K' fr fr' H hf hk h
    replace h : EW C GT a (seqK (EW C GT b K) K) fr H := h
    rw [AW_seq]
    refine iha _ _ _ _ H hf (fun e f f' H hf h => ?_) h
    cases e with
    | normal => exact ihb _ _ _ _ _ hf hk h
    | _ => exact hk _ _ _ _ hf h
  | cond c a b iha ihb =>
    intro K K' fr fr' H hf hk h
    replace h : boolN (evF GT fr c) (fun t => condP t (EW C GT a K (learn fr c true) H) (EW C GT b K (learn fr c false) H)) := h
    rw [evF_eq] at h
    obtain ⟨t, ht, h⟩ := boolN_iff.1 h
    rw [ev_eq, hf, ← ev_eq] at ht
    rw [AW_cond ht]
    have he : ∀ b, get (learn fr c b) = get (learn fr' c b) := by
      intro b; cases c <;> simp only [learn] <;> first | exact hf | (funext t; simp only [get, hf])
    rw [condP_iff] at h
    cases t
    · simp only [Bool.false_eq_true, if_false] at h ⊢; exact ihb _ _ _ _ H (he _) hk h
    · simp only [if_true] at h ⊢; exact iha _ _ _ _ H (he _) hk h
  | block id L c ih =>
    intro K K' fr fr' H hf hk h
    replace h : EW C GT c (blockF id L K) fr H := h
    rw [blockF_eq] at h
    rw [AW_block]
    refine ih _ _ _ _ H hf (fun e f f' H hf h => ?_) h
    cases e with
    | normal => exact hk _ _ _ _ (by rw [restrict_congr hf]) h
    | exit j =>
      simp only [blockK] at h ⊢
      split at h
      · rename_i e; rw [if_pos e]; exact hk _ _ _ _ (by rw [restrict_congr hf]) h
      · rename_i e; rw [if_neg e]; exact hk _ _ _ _ hf h
    | _ => exact hk _ _ _ _ hf h
  | loop L c ih =>
    intro K K' fr fr' H hf hk h
    replace h : loopP C GT L c K (restrictF fr L) H := h
    rw [AW_loop]
    have h := loopP_iff.1 h
    rw [restrictF_eq, restrict_congr hf] at h
    exact awl_mono h fun e f H ⟨f', h1, h2⟩ => hk _ _ _ _ h1 h2

theorem resOf_congr {fr fr' : Fr} (h : get fr = get fr') (H : Heap) : ∀ r, resOf fr H r = resOf fr' H r := by
  intro r; cases r <;> simp only [resOf, h]
theorem resAll_congr {fr fr' : Fr} (h : get fr = get fr') (H : Heap) : ∀ rs, resAll fr H rs = resAll fr' H rs
  | [] => rfl
  | r :: rs => by simp only [resAll, resOf_congr h, resAll_congr h H rs]

/-- What is to be shown of a function, by events. -/
def EFun (C : CSpec) (GT : Nat → Option AV) (F : AF) (args : List AV) (H : Heap) (v : AV) (H' : Heap) : Prop :=
  EW C GT F.body (fun e fr H1 => match e with
    | .normal => retP F H fr H1 v H'
    | .ret => retP F H fr H1 v H'
    | _ => False) (argFr 0 args) H

theorem afun_of_efun {F : AF} {args : List AV} {H : Heap} {v : AV} {H' : Heap} (h : EFun C GT F args H v H') : AFun C GT F args H v H' := by
  unfold EFun at h
  unfold AFun
  refine ew_sound _ _ _ _ _ H rfl (fun e f f' H1 hf h => ?_) h
  have : retP F H f H1 v H' → retF F H f' H1 v H' := fun h => by
    have := retP_iff.1 h
    unfold retF at this ⊢
    rw [← resAll_congr hf]; exact this
  cases e with
  | normal => exact this h
  | ret => exact this h
  | _ => exact h

/-- What is to be shown of a function that panics, by events. -/
def EFunX (C : CSpec) (GT : Nat → Option AV) (F : AF) (args : List AV) (H : Heap) (x : AV) (H' : Heap) : Prop :=
  EW C GT F.body (fun e _ H1 => match e with
    | .pan x0 => panF F H x0 H1 x H'
    | _ => False) (argFr 0 args) H

theorem afunP_of_efunX {F : AF} {args : List AV} {H : Heap} {x : AV} {H' : Heap} (h : EFunX C GT F args H x H') : AFunP C GT F args H x H' := by
  unfold EFunX at h
  unfold AFunP
  refine ew_sound _ _ _ _ _ H rfl (fun e f f' H1 hf h => ?_) h
  cases e with
  | pan x0 => exact h
  | _ => exact h

end

/-- A first argument that can be read is no panic. -/
theorem noPan_view {H : Heap} {k : Nat} {v : AV} {xs r : List AV} (h : view H k v = some xs) : noPan (v :: r) = true := by cases v <;> first | rfl | simp [view] at h
theorem noPan_tab {H : Heap} {k : Nat} {v : AV} {r : List AV} {p : List AV → Prop} (h : ∃ xs, view H k v = some xs ∧ p xs) : noPan (v :: r) = true := by obtain ⟨_, h, _⟩ := h; exact noPan_view h
theorem noPan_lst {k : Nat} {v : AV} {xs r : List AV} (h : ∃ q k', v = .lst q k' xs ∧ (k' = k ∨ xs = [])) : noPan (v :: r) = true := by obtain ⟨_, _, rfl, _⟩ := h; rfl
theorem good_of_ev {P : Program} {GT : Nat → Option AV} (hm : P.follows .mixedOrders = true) {f : FuncId} {F : AF} (hc : chkF P f F = true) {args : List AV} {H : Heap} {v : AV} {H' : Heap} (h : EFun (Good P GT) GT F args H v H')
    (hn : noPan args = true := by first | rfl | exact Go.AM.noPan_view (by assumption) | exact Go.AM.noPan_tab (by assumption) | exact Go.AM.noPan_lst (by assumption)) : Good P GT f args H v H' :=
  good_of_chk hm hc (afun_of_efun h) hn
theorem good_of_evX {P : Program} {GT : Nat → Option AV} (hm : P.follows .mixedOrders = true) {f : FuncId} {F : AF} (hc : chkF P f F = true) {args : List AV} {H : Heap} {x : AV} {H' : Heap} (h : EFunX (Good P GT) GT F args H x H') : Good P GT f (.pan .undef :: args) H x H' :=
  goodP_of_chk hm hc (afunP_of_efunX h)

/-! ### Loops -/

section
variable {C : CSpec} {GT : Nat → Option AV} {L : List Nat} {c : AC} {K : Post}

/-- At a loop's head again, with less to do. -/
def nextPW {σ : Type} (L : List Nat) (mk : σ → Fr) (inv : σ → Heap → Prop) (μ : σ → Nat) (s : σ) (fr : Fr) (H : Heap) : Prop := ∃ s', restrictF fr L = mk s' ∧ inv s' H ∧ μ s' < μ s
structure nextP {σ : Type} (L : List Nat) (mk : σ → Fr) (inv : σ → Heap → Prop) (μ : σ → Nat) (s : σ) (fr : Fr) (H : Heap) : Prop where
  h : nextPW L mk inv μ s fr H
theorem nextP_def {σ : Type} (L : List Nat) (mk : σ → Fr) (inv : σ → Heap → Prop) (μ : σ → Nat) (s : σ) (fr : Fr) (H : Heap) : nextP L mk inv μ s fr H = nextPW L mk inv μ s fr H := propext ⟨fun x => x.h, fun x => ⟨x⟩⟩
theorem nextP_iff {σ : Type} {L : List Nat} {mk : σ → Fr} {inv : σ → Heap → Prop} {μ : σ → Nat} {s : σ} {fr : Fr} {H : Heap} : nextP L mk inv μ s fr H ↔ ∃ s', restrictF fr L = mk s' ∧ inv s' H ∧ μ s' < μ s := by rw [nextP_def]; unfold nextPW; exact Iff.rfl
theorem sNext {σ : Type} {L : List Nat} {mk : σ → Fr} {inv : σ → Heap → Prop} {μ : σ → Nat} {s : σ} {fr : Fr} {H : Heap} (s' : σ) (h1 : restrictF fr L = mk s') (h2 : inv s' H) (h3 : μ s' < μ s) : nextP L mk inv μ s fr H := nextP_iff.2 ⟨s', h1, h2, h3⟩

/-- What a round of a loop is asked: at the head again, with less to do, or out. -/
def roundK {σ : Type} (L : List Nat) (mk : σ → Fr) (inv : σ → Heap → Prop) (μ : σ → Nat) (s : σ) (K : Post) : Post := fun e fr' H' => match e with
  | .normal => nextP L mk inv μ s fr' H'
  | .exit j => K (.exit j) fr' H'
  | .ret => K .ret fr' H'
  | .goto l => K (.goto l) fr' H'
  | .pan x => K (.pan x) fr' H'

/-- A loop, by what holds at its head. 'σ': the states; 'mk': the frame of one; 'inv'; 'μ': falls. -/
theorem sLoop {σ : Type} (mk : σ → Fr) (inv : σ → Heap → Prop) (μ : σ → Nat) (s0 : σ) {fr : Fr} {H : Heap} (hf : fr = mk s0) (h0 : inv s0 H)
    (step : ∀ s H, inv s H → EW C GT c (roundK L mk inv μ s K) (mk s) H) : loopP C GT L c K fr H := by
  subst hf
  rw [loopP_iff]
  refine ⟨μ s0 + 1, ?_⟩
  have key : ∀ n s H, μ s < n → inv s H → loopW (AW C GT c) L (closeK K) n (mk s) H := by
    intro n
    induction n with
    | zero => intro s H h; exact absurd h (Nat.not_lt_zero _)
    | succ n ih =>
      intro s H hn hi
      refine ew_sound c _ _ _ _ H rfl (fun e f f' H' hf h => ?_) (step s H hi)
      cases e with
      | normal =>
        obtain ⟨s', h1, h2, h3⟩ := nextP_iff.1 h
        simp only
        rw [← restrict_congr hf, ← restrictF_eq, h1]
        exact ih s' H' (by omega) h2
      | _ => exact ⟨f, hf, h⟩
  exact key _ s0 H (Nat.lt_succ_self _) h0

/-- What a round from a label on is asked: at the label again, with less to do, or out. -/
def labelK {σ : Type} (L : List Nat) (l : Nat) (mk : σ → Fr) (inv : σ → Heap → Prop) (μ : σ → Nat) (s : σ) (K : Post) : Post := fun e fr' H' => match e with
  | .normal => K .normal fr' H'
  | .exit j => K (.exit j) fr' H'
  | .ret => K .ret fr' H'
  | .goto l' => l' = l ∧ nextP L mk inv μ s fr' H'
  | .pan x => K (.pan x) fr' H'

/-- From a label on, by what holds there. -/
theorem sGoto {σ : Type} {l : Nat} {r : AC} (mk : σ → Fr) (inv : σ → Heap → Prop) (μ : σ → Nat) (s0 : σ) {fr : Fr} {H : Heap} (hf : fr = mk s0) (h0 : inv s0 H)
    (step : ∀ s H, inv s H → EW C GT r (labelK L l mk inv μ s K) (mk s) H) : gotoP C GT L l r K fr H := by
  subst hf
  rw [gotoP_iff]
  refine ⟨μ s0 + 1, ?_⟩
  have key : ∀ n s H, μ s < n → inv s H → gotoW (AW C GT r) L l (closeK K) n (mk s) H := by
    intro n
    induction n with
    | zero => intro s H h; exact absurd h (Nat.not_lt_zero _)
    | succ n ih =>
      intro s H hn hi
      refine ew_sound r _ _ _ _ H rfl (fun e f f' H' hf h => ?_) (step s H hi)
      cases e with
      | goto l' =>
        obtain ⟨hl, h⟩ := h
        obtain ⟨s', h1, h2, h3⟩ := nextP_iff.1 h
        refine ⟨hl, ?_⟩
        show gotoW (AW C GT r) L l (closeK K) n (restrict f' L) H'
        rw [← restrict_congr hf, ← restrictF_eq, h1]
        exact ih s' H' (by omega) h2
      | _ => exact ⟨f, hf, h⟩
  exact key _ s0 H (Nat.lt_succ_self _) h0

end

end Go.AM
