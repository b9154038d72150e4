/- The abstract machine, part 27: an element behind a slice of one's own, in one step; slices beside each other. Own work. -/
import Derived.Test.YtniijfcjdlhfcaaDoorAm25
set_option linter.all false
namespace Go.AM

/-- 'append(v, x)'. -/
theorem sPush (x : AV) {H0 H : Heap} {v : AV} {k bytes : Nat} {xs : List AV} {K : AV → Heap → AV → Heap → Prop} (ho : Owns H0 H v k xs) (hH : Old H0 H) (hx : x.plain = true) (he : x.elem k = true) (hb : bytes ≤ 1024) (hl : xs.length + 1 ≤ 137438953472)
    (q : ∀ s H1 v' H', Owns H0 H' v' k (xs ++ [x]) → Old H0 H' → (∀ b, v'.blk = some b → H.length ≤ b) → (∀ c y, v.blk ≠ some c → H[c]? = some y → H'[c]? = some y) → K s H1 v' H') :
    actP (.bslice k) [x] H fun s H1 => actP (.append k bytes) [v, s] H1 (K s H1) := by
  refine sBslice (vs' := [x]) (by simp only [frzL, frz_plain hx]) (by simp [he]) ?_
  refine sAppend (H0 := H0) (ho.push _) (hH.push _) view_new hb (by simpa using hl) (by simp) fun v' H' ho' hH' hb' hf => ?_
  exact q _ _ v' H' ho' hH' (fun b e => by rw [hb'] at e; cases e; simp) fun c y hc hy => hf c y hc (push_old hy)

/-- Slices of unlike things are two. -/
theorem Owns.apart {H0 H : Heap} {v w : AV} {k k' : Nat} {xs ys : List AV} (h : Owns H0 H v k xs) (g : Owns H0 H w k' ys) (hne : ∀ x y, x ∈ xs → y ∈ ys → x ≠ y) {b : Nat} (hb : w.blk = some b) : v.blk ≠ some b := by
  intro e
  rcases h with ⟨rfl, _⟩ | ⟨b1, rfl, _, h2, h3⟩
  · cases e
  · rcases g with ⟨rfl, _⟩ | ⟨b2, rfl, _, g2, g3⟩
    · cases hb
    · simp only [AV.blk, Option.some.injEq] at e hb
      subst e; subst hb
      rw [h2] at g2
      simp only [Option.some.injEq, ABlk.row.injEq] at g2
      obtain ⟨_, rfl⟩ := g2
      cases xs with
      | nil => exact h3 rfl
      | cons x xs => exact hne x x (by simp) (by simp) rfl
theorem Owns.after {H0 H H' : Heap} {v w : AV} {k : Nat} {ys : List AV} (hw : Owns H0 H w k ys) (hap : ∀ b, w.blk = some b → v.blk ≠ some b) (hfr : ∀ c x, v.blk ≠ some c → H[c]? = some x → H'[c]? = some x) : Owns H0 H' w k ys :=
  hw.keep fun b x hb hx => hfr b x (hap b hb) hx

/-- 'append(v, w)' where w is a slice of one's own too: it is handed over. -/
theorem sPushS {H0 H : Heap} {v w : AV} {k bytes : Nat} {xs ys : List AV} {K : AV → Heap → AV → Heap → Prop} (ho : Owns H0 H v 1 xs) (hw : Owns H0 H w k ys) (hy : ys ≠ []) (hap : ∀ b, v.blk = some b → w.blk ≠ some b) (hH : Old H0 H) (hb : bytes ≤ 1024) (hl : xs.length + 1 ≤ 137438953472)
    (q : ∀ s H1 v' H', Owns H0 H' v' 1 (xs ++ [lstF k ys]) → Old H0 H' → (∀ c y, v.blk ≠ some c → w.blk ≠ some c → H[c]? = some y → H'[c]? = some y) → K s H1 v' H') :
    actP (.bslice 1) [w] H fun s H1 => actP (.append 1 bytes) [v, s] H1 (K s H1) := by
  obtain ⟨b, hwb, hf, hlb⟩ : ∃ b, w.blk = some b ∧ frzV 0 w H = some (lstF k ys, H.set b (.frz k ys)) ∧ H0.length ≤ b := by
    rcases hw with ⟨_, rfl⟩ | ⟨b, rfl, h1, h2, h3⟩
    · exact absurd rfl hy
    · refine ⟨b, rfl, ?_, h1⟩
      cases ys with
      | nil => exact absurd rfl hy
      | cons x xs =>
        simp only [frzV, Nat.not_lt_zero, if_false, h2]
        simp [lstF, frzQ]
  have hel : (lstF k ys).elem 1 = true := by cases ys <;> rfl
  refine sBsliceF [lstF k ys] (H.set b (.frz k ys)) (by simp only [frzL, hf]) (by simp [hel]) ?_
  have ho2 : Owns H0 (H.set b (.frz k ys)) v 1 xs := ho.set (fun e => hap b e hwb) _
  refine sAppend (H0 := H0) (ho2.push _) ((hH.set hlb _).push _) view_new hb (by simpa using hl) (by simp) fun v' H' ho' hH' hb' hf' => ?_
  refine q _ _ v' H' ho' hH' fun c y hc hc2 hy' => hf' c y hc (push_old (set_other (fun e => hc2 (by rw [hwb, e])) hy'))

end Go.AM
