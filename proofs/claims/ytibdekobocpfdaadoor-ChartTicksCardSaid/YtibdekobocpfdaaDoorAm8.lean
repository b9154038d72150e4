/- The abstract machine, part 8: every abstract step is what the model does. Own work. -/
import Derived.Test.YtibdekobocpfdaaDoorAm7
set_option linter.all false
namespace Go.AM

section
variable {P : Program} {GT : Nat → Option AV} {w : World} {M : AMap} {I : Nat → Prop} {H : Heap}

theorem aBounds_sound {l : Nat} {lo hi : Option AV} {vlo vhi : Option Value} (hlo : ∀ a v, lo = some a → vlo = some v → Rel w M I H.length a v) (hhi : ∀ a v, hi = some a → vhi = some v → Rel w M I H.length a v)
    (h1 : lo.isSome = vlo.isSome) (h2 : hi.isSome = vhi.isSome) {a b : Nat} (h : aBounds l lo hi = some (a, b)) (isSlice : Bool) (cap : Nat) (hc : l ≤ cap) :
    (Instr.sliceBounds isSlice l cap vlo vhi none).run P w = .ok (a, b, cap) w ∧ a ≤ b ∧ b ≤ l := by
  have hB : ∀ k (i : Int) (y : Nat) (code : BoundsCode), 0 ≤ i → i ≤ y → (Instr.sliceBound (.int k i) y code).run P w = .ok i.toNat w := fun k i y code a b => run_sliceBound w k i y code a b
  obtain ⟨hh0, hl0⟩ : aHi l hi = some b ∧ aLo b lo = some a := by
    unfold aBounds at h
    split at h
    · cases h
    · split at h
      · cases h
      · simp only [Option.some.injEq, Prod.mk.injEq] at h
        obtain ⟨rfl, rfl⟩ := h
        exact ⟨‹_›, ‹_›⟩
  have hh : (vhi = none ∧ b = l) ∨ ∃ k n, vhi = some (.int k n) ∧ 0 ≤ n ∧ n ≤ (l : Int) ∧ b = n.toNat := by
    cases hi with
    | none =>
      simp only [aHi, Option.some.injEq] at hh0
      left; exact ⟨by cases vhi <;> simp at h2 ⊢, hh0.symm⟩
    | some x =>
      cases hv : vhi with
      | none => rw [hv] at h2; simp at h2
      | some v =>
        have hr := hhi x v rfl hv
        right
        cases x <;> simp only [aHi, reduceCtorEq] at hh0
        split at hh0
        · rename_i hn
          simp only [Option.some.injEq] at hh0
          cases hr
          exact ⟨_, _, rfl, hn.1, hn.2, hh0.symm⟩
        · cases hh0
  have hbl : b ≤ l := by rcases hh with ⟨_, rfl⟩ | ⟨_, n, _, _, _, rfl⟩ <;> omega
  have hlo2 : (vlo = none ∧ a = 0) ∨ ∃ k n, vlo = some (.int k n) ∧ 0 ≤ n ∧ n ≤ (b : Int) ∧ a = n.toNat := by
    cases lo with
    | none =>
      simp only [aLo, Option.some.injEq] at hl0
      left; exact ⟨by cases vlo <;> simp at h1 ⊢, hl0.symm⟩
    | some x =>
      cases hv : vlo with
      | none => rw [hv] at h1; simp at h1
      | some v =>
        have hr := hlo x v rfl hv
        right
        cases x <;> simp only [aLo, reduceCtorEq] at hl0
        split at hl0
        · rename_i hn
          simp only [Option.some.injEq] at hl0
          cases hr
          exact ⟨_, _, rfl, hn.1, hn.2, hl0.symm⟩
        · cases hl0
  refine ⟨?_, ?_, hbl⟩
  · unfold Instr.sliceBounds
    rcases hh with ⟨rfl, rfl⟩ | ⟨k, n, rfl, n0, n1, rfl⟩
    · rcases hlo2 with ⟨rfl, rfl⟩ | ⟨k', n', rfl, m0, m1, rfl⟩
      · simp
      · simp [hB k' n' b .sliceB m0 m1]
    · have hb1 := hB k n cap (if isSlice then .sliceAcap else .sliceAlen) n0 (by omega)
      rcases hlo2 with ⟨rfl, rfl⟩ | ⟨k', n', rfl, m0, m1, rfl⟩
      · simp [hb1]
      · have hb2 := hB k' n' n.toNat .sliceB m0 (by omega)
        simp [hb1, hb2]
  · rcases hlo2 with ⟨_, rfl⟩ | ⟨_, n', _, _, m1, rfl⟩ <;> omega

theorem cut_str {s : List UInt8} {l h : Nat} : (⟨s.toArray⟩ : ByteArray).extract l h = ⟨((s.take h).drop l).toArray⟩ := by
  apply ByteArray.ext
  simp [ByteArray.data_extract, List.extract_toArray, List.extract_eq_take_drop, List.drop_take]

def slcOK (P : Program) (t : TypeId) : Option Nat → Prop
  | none => isStr P t = true
  | some k => isSliceOf P t k = true

theorem slice_sound (hS : Sim GT w M I H) {t : TypeId} {k : Option Nat} {x v : AV} {xv : Value} {lo hi : Option AV} {vlo vhi : Option Value} (hx : Rel w M I H.length x xv)
    (hlo : ∀ a v, lo = some a → vlo = some v → Rel w M I H.length a v) (hhi : ∀ a v, hi = some a → vhi = some v → Rel w M I H.length a v) (h1 : lo.isSome = vlo.isSome) (h2 : hi.isSome = vhi.isSome)
    (hk : slcOK P t k) (h : aSlice k x lo hi = some v) : RunsTo P GT w M I H (Instr.sliceAt t xv vlo vhi none) v H := by
  unfold aSlice at h
  split at h
  · -- a string
    rename_i s
    obtain ⟨⟨a, b⟩, hb, rfl⟩ := Option.map_eq_some_iff.1 h
    cases hx
    have ht : P.underlying t = some .string := by
      simp only [slcOK, isStr] at hk
      split at hk
      · assumption
      · cases hk
    obtain ⟨r, hab, hbl⟩ := aBounds_sound (P := P) hlo hhi h1 h2 hb false s.length (Nat.le_refl _)
    refine RunsTo.pure hS (v' := .string ⟨((s.take b).drop a).toArray⟩) ?_ (.str _)
    simp only [Instr.sliceAt, Sem.run_bind, run_underlying ht, Result.andThen_ok]
    simp [Instr.slice, run_underlying ht, sizeB', r, cut_str]
  · -- an immutable slice
    rename_i k q k' xs
    split at h
    · rename_i hkk
      obtain ⟨⟨a, b⟩, hb, rfl⟩ := Option.map_eq_some_iff.1 h
      obtain ⟨e, ht, hse⟩ : ∃ e, P.underlying t = some (.slice e) ∧ sizeB P e = some k := by
        simp only [slcOK, isSliceOf] at hk
        split at hk
        · rename_i e he; exact ⟨e, he, by simpa using hk⟩
        · cases hk
      cases hx with
      | lnil _ _ hq =>
        obtain ⟨r, hab, hbl⟩ := aBounds_sound (P := P) hlo hhi h1 h2 hb true 0 (Nat.le_refl _)
        simp at hbl
        obtain rfl : b = 0 := by omega
        obtain rfl : a = 0 := by omega
        refine RunsTo.pure hS (v' := .slice none 0 0) ?_ ?_
        · simp only [Instr.sliceAt, Sem.run_bind, run_underlying ht, Result.andThen_ok]
          simp at r
          simp [Instr.slice, run_underlying ht, r, sizeOf_run hse]
        · simp only [List.take_nil, List.drop_nil]
          refine .lnil _ _ ?_
          unfold cutQL; split <;> simp_all
      | lemp _ _ ad hq =>
        obtain ⟨r, hab, hbl⟩ := aBounds_sound (P := P) hlo hhi h1 h2 hb true 0 (Nat.le_refl _)
        simp at hbl
        obtain rfl : b = 0 := by omega
        obtain rfl : a = 0 := by omega
        refine RunsTo.pure hS (v' := .slice (some ad) 0 0) ?_ ?_
        · simp only [Instr.sliceAt, Sem.run_bind, run_underlying ht, Result.andThen_ok]
          simp at r
          simp [Instr.slice, run_underlying ht, r, sizeOf_run hse]
        · simp only [List.take_nil, List.drop_nil]
          refine .lemp _ _ _ ?_
          unfold cutQL; split <;> simp_all
      | lst _ _ _ g o cap V hq hc hm hI he hv hr =>
        obtain ⟨r, hab, hbl⟩ := aBounds_sound (P := P) hlo hhi h1 h2 hb true cap hc
        have hlen : ((xs.take b).drop a).length = b - a := by simp; omega
        have hrow : RowAt w M I H.length g o k' xs := fun i j x c hi hj => ⟨_, hv i j x c hi hj, hr i j x c hi hj⟩
        have hcq : cutQL q a b ≠ some true := by unfold cutQL; split <;> simp_all
        have hrun : ∀ p, (if cap = a then (⟨g, o, none⟩ : Addr) else ⟨g, o + a * k, none⟩) = ⟨g, p, none⟩ → (Instr.sliceAt t (.slice (some ⟨g, o, none⟩) xs.length cap) vlo vhi none).run P w = .ok (.slice (some ⟨g, p, none⟩) (b - a) (cap - a)) w := fun p hp => by
          simp only [Instr.sliceAt, Sem.run_bind, run_underlying ht, Result.andThen_ok]
          simp only [Instr.slice, Sem.run_bind, run_underlying ht, Result.andThen_ok, r, sizeOf_run hse, Sem.run_pure, Option.map_some, Addr.add_lit]
          split at hp
          · rename_i hca; rw [if_pos hca]; congr 2; rw [← hp]
          · rename_i hca; rw [if_neg hca]; congr 2; rw [← hp]
        have hrel : ∀ p, (a = b ∨ p = o + a * k') → Rel w M I H.length (.lst (cutQL q a b) k' ((xs.take b).drop a)) (.slice (some ⟨g, p, none⟩) (b - a) (cap - a)) := fun p hp => by
          have := Rel.mk_lst (w := w) (M := M) (I := I) (n := H.length) (q := cutQL q a b) (xs := (xs.take b).drop a) (g := g) (o := p) (cap := cap - a) (k := k') hcq (by omega) (Nat.le_trans (Nat.sub_le _ _) hm) hI
            (fun x hx => he x (List.mem_of_mem_take (List.mem_of_mem_drop hx))) (fun i j x c hi hj => by
              have hil := (List.getElem?_eq_some_iff.1 hi).1
              rcases hp with hp | rfl
              · omega
              · rw [List.getElem?_drop, List.getElem?_take, if_pos (by omega)] at hi
                obtain ⟨u, e1, e2⟩ := hrow _ j x c hi hj
                exact ⟨u, by rw [← e1, Nat.add_mul]; congr 2; omega, e2⟩)
          rwa [hlen] at this
        by_cases hca : cap = a
        · exact RunsTo.pure hS (hrun o (by rw [if_pos hca])) (hrel o (.inl (by omega)))
        · refine RunsTo.pure hS (hrun (o + a * k) (by rw [if_neg hca])) (hrel _ ?_)
          rcases hkk with rfl | hemp
          · exact .inr rfl
          · simp at hemp; subst hemp; left; simp at hbl; omega
    · cases h
  · -- a row of one's own
    rename_i k q b0 k' off len
    split at h
    · rename_i hkk; subst hkk
      obtain ⟨⟨a, b⟩, hb, rfl⟩ := Option.map_eq_some_iff.1 h
      obtain ⟨e, ht, hse⟩ : ∃ e, P.underlying t = some (.slice e) ∧ sizeB P e = some k' := by
        simp only [slcOK, isSliceOf] at hk
        split at hk
        · rename_i e he; exact ⟨e, he, by simpa using hk⟩
        · cases hk
      cases hx with
      | sln _ _ _ _ hbn hM hq =>
        obtain ⟨r, hab, hbl⟩ := aBounds_sound (P := P) hlo hhi h1 h2 hb true 0 (Nat.le_refl _)
        obtain rfl : b = 0 := by omega
        obtain rfl : a = 0 := by omega
        refine RunsTo.pure hS (v' := .slice none 0 0) ?_ (.sln _ _ _ _ hbn hM ?_)
        · simp only [Instr.sliceAt, Sem.run_bind, run_underlying ht, Result.andThen_ok]
          simp [Instr.slice, run_underlying ht, r, sizeOf_run hse]
        · unfold cutQ; split <;> simp_all
      | sl _ _ _ _ _ g o p cap hbn hM hc hm hq ha =>
        obtain ⟨r, hab, hbl⟩ := aBounds_sound (P := P) hlo hhi h1 h2 hb true cap hc
        have hrun : ∀ p', (if cap = a then (⟨g, p, none⟩ : Addr) else ⟨g, p + a * k', none⟩) = ⟨g, p', none⟩ → (Instr.sliceAt t (.slice (some ⟨g, p, none⟩) len cap) vlo vhi none).run P w = .ok (.slice (some ⟨g, p', none⟩) (b - a) (cap - a)) w := fun p' hp => by
          simp only [Instr.sliceAt, Sem.run_bind, run_underlying ht, Result.andThen_ok]
          simp only [Instr.slice, Sem.run_bind, run_underlying ht, Result.andThen_ok, r, sizeOf_run hse, Sem.run_pure, Option.map_some, Addr.add_lit]
          split at hp
          · rename_i hca; rw [if_pos hca]; congr 2; rw [← hp]
          · rename_i hca; rw [if_neg hca]; congr 2; rw [← hp]
        have hcq : cutQ q a b = some true → 0 < b - a := by
          unfold cutQ
          split
          · simp
          · split
            · intro _; omega
            · simp
          · simp
        by_cases hca : cap = a
        · refine RunsTo.pure hS (hrun p (by rw [if_pos hca])) (.sl _ _ _ _ _ g o p (cap - a) hbn hM (by omega) (Nat.le_trans (Nat.sub_le _ _) hm) hcq (fun h0 => by omega))
        · refine RunsTo.pure hS (hrun (p + a * k') (by rw [if_neg hca])) (.sl _ _ _ _ _ g o _ (cap - a) hbn hM (by omega) (Nat.le_trans (Nat.sub_le _ _) hm) hcq (fun h0 => ?_))
          have hac : off + a + (cap - a) = off + cap := by omega
          have h00 : 0 < cap := by omega
          obtain ⟨hp, e1, sz, hsh, hsz⟩ := ha h00
          exact ⟨by rw [Nat.add_mul, hp]; omega, e1, sz, hsh, by rw [hac]; exact hsz⟩
    · cases h
  · cases h

end
end Go.AM
