/- The abstract machine, part 27: an element behind a slice of one's own, in one step; slices beside each other. Own work. -/
import Derived.Test.YtibdekobocpfdaaDoorAm25
set_option linter.all false
namespace Go.AM

/-- 'append(v, x)'. -/
theorem sPush (x : AV) {H0 H : Heap} {v : AV} {k bytes : Nat} {xs : List AV} {K : AV → Heap → AV → Heap → Prop} (ho : Owns H0 H v k xs) (hH : Old H0 H) (hx : x.plain = true) (he : x.elem k = true) (hb : bytes ≤ 1024) (hl : xs.length + 1 ≤ 137438953472)
    (q : ∀ s H1 v' H', Owns H0 H' v' k (xs ++ [x]) → Old H0 H' → (∀ b, v'.blk = some b → H.length ≤ b) → (∀ c y, v.blk ≠ some c → H[c]? = some y → H'[c]? = some y) → K s H1 v' H') :
    actP (.bslice k) [x] H fun s H1 => actP (.append k bytes) [v, s] H1 (K s H1) := by
  refine sBslice (vs' := [x]) (by simp only [frzL, frz_plain hx]) (by simp [he]) ?_
  refine sAppend (H0 := H0) (ho.push _) (hH.push _) view_new hb (by simpa using hl) (by simp) fun v' H' ho' hH' hb' hf => ?_
  exact q _ _ v' H' ho' hH' (fun b e => by rw [hb'] at e; cases e; simp) fun c y hc hy => hf c y hc (push_old hy)

/-- Slices of unlike things are two. -/
theorem Owns.apart {H0 H : Heap} {v w : AV} {k k' : Nat} {xs ys : List AV} (h : Owns H0 H v k xs) (g : Owns H0 H w k' ys) (hne : ∀ x y, x ∈ xs → y ∈ ys → x ≠ y) {b : Nat} (hb : w.blk = some b) : v.blk ≠ some b := by
  intro e
  rcases h with ⟨rfl, _⟩ | ⟨b1, rfl, _, h2, h3⟩
  · cases e
  · rcases g with ⟨rfl, _⟩ | ⟨b2, rfl, _, g2, g3⟩
    · cases hb
    · simp only [AV.blk, Option.some.injEq] at e hb
      subst e; subst hb
      rw [h2] at g2
      simp only [Option.some.injEq, ABlk.row.injEq] at g2
      obtain ⟨_, rfl⟩ := g2
      cases xs with
      | nil => exact h3 rfl
      | cons x xs => exact hne x x (by simp) (by simp) rfl
theorem Owns.after {H0 H H' : Heap} {v w : AV} {k : Nat} {ys : List AV} (hw : Owns H0 H w k ys) (hap : ∀ b, w.blk = some b → v.blk ≠ some b) (hfr : ∀ c x, v.blk ≠ some c → H[c]? = some x → H'[c]? = some x) : Owns H0 H' w k ys :=
  hw.keep fun b x hb hx => hfr b x (hap b hb) hx

/-- 'append(v, w)' where w is a slice of one's own too: it is handed over. -/
theorem sPushS {H0 H : Heap} {v w : AV} {k bytes : Nat} {xs ys : List AV} {K : AV → Heap → AV → Heap → Prop} (ho : Owns H0 H v 1 xs) (hw : Owns H0 H w k ys) (hy : ys ≠ []) (hap : ∀ b, v.blk = some b → w.blk ≠ some b) (hH : Old H0 H) (hb : bytes ≤ 1024) (hl : xs.length + 1 ≤ 137438953472)
    (q : ∀ s H1 v' H', Owns H0 H' v' 1 (xs ++ [lstF k ys]) → Old H0 H' → (∀ c y, v.blk ≠ some c → w.blk ≠ some c → H[c]? = some y → H'[c]? = some y) → K s H1 v' H') :
    actP (.bslice 1) [w] H fun s H1 => actP (.append 1 bytes) [v, s] H1 (K s H1) := by
  obtain ⟨b, hwb, hf, hlb⟩ : ∃ b, w.blk = some b ∧ frzV 0 w H = some (lstF k ys, H.set b (.frz k ys)) ∧ H0.length ≤ b := by
    rcases hw with ⟨_, rfl⟩ | ⟨b, rfl, h1, h2, h3⟩
    · exact absurd rfl hy
    · refine ⟨b, rfl, ?_, h1⟩
      cases ys with
      | nil => exact absurd rfl hy
      | cons x xs =>
        simp only [frzV, Nat.not_lt_zero, if_false, h2]
        simp [lstF, frzQ]
  have hel : (lstF k ys).elem 1 = true := by cases ys <;> rfl
  refine sBsliceF [lstF k ys] (H.set b (.frz k ys)) (by simp only [frzL, hf]) (by simp [hel]) ?_
  have ho2 : Owns H0 (H.set b (.frz k ys)) v 1 xs := ho.set (fun e => hap b e hwb) _
  refine sAppend (H0 := H0) (ho2.push _) ((hH.set hlb _).push _) view_new hb (by simpa using hl) (by simp) fun v' H' ho' hH' hb' hf' => ?_
  refine q _ _ v' H' ho' hH' fun c y hc hc2 hy' => hf' c y hc (push_old (set_other (fun e => hc2 (by rw [hwb, e])) hy'))

/-- 'append(v, s...)' for a string s. -/
theorem sAppStr {H0 H : Heap} {v : AV} {xs : List AV} {s : List UInt8} {K : AV → Heap → Prop} (ho : Owns H0 H v 1 xs) (hH : Old H0 H) (hl : xs.length + s.length ≤ 140737488355328)
    (q : ∀ v' H', Owns H0 H' v' 1 (xs ++ s.map byteAV) → Old H0 H' → (∀ c y, v.blk ≠ some c → H[c]? = some y → H'[c]? = some y) → K v' H') : actP .appendS [v, .str s] H K := by
  by_cases he : s = []
  · subst he
    refine sAct (v := v) (H' := H) ?_ (q v H (by simpa using ho) hH fun c y _ h => h)
    rcases ho with ⟨rfl, rfl⟩ | ⟨b, rfl, _⟩ <;> simp [astep]
  have hne : s.isEmpty = false := by simpa using he
  have h0 : s.map byteAV ≠ [] := by simpa using he
  rcases ho with ⟨rfl, rfl⟩ | ⟨b, rfl, h1, h2, _⟩
  · simp only [List.length_nil, Nat.zero_add] at hl
    refine sAct (v := .sl (some true) H.length 1 0 s.length) (H' := H ++ [.row 1 (s.map byteAV)]) ?_ ?_
    · simp only [astep, hne]
      rw [if_neg (by simp), if_pos hl]
    · have e : s.length = (s.map byteAV).length := by simp
      rw [e]
      exact q _ _ (.inr ⟨_, rfl, hH.1, push_last, h0⟩) (hH.push _) fun _ _ _ hx => push_old hx
  · refine sAct (v := .sl (some true) H.length 1 0 (xs.length + s.length)) (H' := H.set b .dead ++ [.row 1 (xs ++ s.map byteAV)]) ?_ ?_
    · simp only [astep, hne, h2]
      rw [if_neg (by simp), if_pos ⟨trivial, trivial, by omega, by omega⟩]
      simp
    · refine q _ _ (.inr ⟨_, by rw [List.length_append, List.length_map], hH.1, ?_, by simp [h0]⟩) ((hH.set h1 _).push _) fun c x hc hx => ?_
      · have : (H.set b .dead).length = H.length := List.length_set
        rw [← this]; exact push_last
      · exact push_old (set_other (fun e => hc (by rw [e]; rfl)) hx)

/-! ### Going on with a tail that is a theorem of its own -/

/-- What a code looks at first. -/
def headL : AC → Option (List Nat)
  | .reg L _ _ => some L
  | .seq a _ => headL a
  | .block _ _ c => headL c
  | .loop L _ => some L
  | .regt L _ _ _ => some L
  | .scope _ _ c _ => headL c
  | _ => none

theorem ew_head {C : CSpec} {GT : Nat → Option AV} {fr F : Fr} {H : Heap} {L : List Nat} (hr : restrictF fr L = restrictF F L) : ∀ (c : AC) (K : Post), headL c = some L → EW C GT c K F H → EW C GT c K fr H := by
  intro c
  induction c with
  | reg L' d ops =>
    intro K h g
    simp only [headL, Option.some.injEq] at h
    subst h
    replace g : EWops C GT ops [] (restrictF F L') H (fun fr' H' => K .normal fr' H') := g
    rw [← hr] at g
    exact g
  | seq a b iha ihb => intro K h g; exact iha (seqK (EW C GT b K) K) h g
  | block id L' c ih => intro K h g; exact ih (blockF id L' K) h g
  | loop L' c ih =>
    intro K h g
    simp only [headL, Option.some.injEq] at h
    subst h
    replace g : loopP C GT L' c K (restrictF F L') H := g
    rw [← hr] at g
    exact g
  | regt L' d ops t =>
    intro K h g
    simp only [headL, Option.some.injEq] at h
    subst h
    replace g : EWT C GT ops t [] (restrictF F L') H (fun fr' H' => K .normal fr' H') (fun x H' => K (.pan x) [] H') := g
    rw [← hr] at g
    exact g
  | scope L' l c r ihc ihr => intro K h g; exact ihc (jumpK l (fun fr' H' => gotoP C GT L' l r K (restrictF fr' L') H') K) h g
  | label => intro K h; cases h
  | goto => intro K h; cases h
  | skip => intro K h; cases h
  | cond => intro K h; cases h
  | exit => intro K h; cases h
  | ret => intro K h; cases h
  | stuck => intro K h; cases h

/-- Out of a block at its end. -/
theorem sBlkN {id : Nat} {L : List Nat} {K : Post} {fr : Fr} {H : Heap} (k : K .normal (restrictF fr L) H) : blockF id L K .normal fr H := k

theorem sTail {C : CSpec} {GT : Nat → Option AV} {c : AC} {K : Post} {L : List Nat} {fr F : Fr} {H : Heap} (hc : headL c = some L) (g : EW C GT c K F H) (hr : restrictF fr L = restrictF F L) : seqK (EW C GT c K) K .normal fr H :=
  ew_head hr c K hc g

end Go.AM
