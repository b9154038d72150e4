/- The abstract machine, part 26: how long what comes in may be. Own work. -/
import Derived.Test.YtniijfcjdlhfcaaDoorAm24
import Derived.SizedLaws
set_option linter.all false
namespace Go.AM

section
variable {H : Type} {enc : TypeId × Value → H} {P : Program} {w : World} {held : Bool} {base : Nat} {sp : Nat → Bool}

theorem len_of_trod {t e : TypeId} {v : Value} {d : DataW H} {ps : List MemPlace} {M : AMap} {I : Nat → Prop} {n : Nat} {q : Option Bool} {k : Nat} {xs : List AV} (hu : P.underlying t = some (.slice e)) (h : DataW.Trod enc P w base sp held t v d ps) (hr : Rel w M I n (.lst q k xs) v) :
    xs = [] ∨ ∃ elems spare, d = .slice elems spare ∧ elems.length = xs.length := by
  obtain ⟨fuel, h⟩ := h
  cases fuel with
  | zero => simp [DataW.trod] at h
  | succ fuel =>
  cases hr with
  | lnil => exact .inl rfl
  | lemp => exact .inl rfl
  | lst q k xs g o cap V hq hc hm hI he hv hr =>
    refine .inr ?_
    have hcs : (Value.slice (some ⟨g, o, none⟩) xs.length cap).cells.toList = [Value.slice (some ⟨g, o, none⟩) xs.length cap] := rfl
    rw [hcs] at h
    simp only [DataW.trod, hu] at h
    split at h
    · obtain ⟨elems, he, h⟩ := Option.bind_eq_some_iff.1 h
      obtain ⟨rest, _, h⟩ := Option.map_eq_some_iff.1 h
      obtain ⟨h1, _⟩ := mapM_some he
      rw [List.length_range] at h1
      simp only [Prod.mk.injEq] at h
      exact ⟨_, _, h.1.symm, by rw [List.length_map, h1]⟩
    · cases h

/-- A list's bytes are within reach. -/
theorem sized_list {t e : TypeId} {v : Value} {d : DataW H} {ps : List MemPlace} {M : AMap} {I : Nat → Prop} {n : Nat} {q : Option Bool} {k : Nat} {xs : List AV} {ts : List TypeId} {ds : List (DataW H)} {j : Nat}
    (hsz : (DataW.weightsEach P ts ds).all (· ≤ reachBytes) = true) (ht : ts[j]? = some t) (hd : ds[j]? = some d) (hu : P.underlying t = some (.slice e)) (h : DataW.Trod enc P w base sp held t v d ps) (hr : Rel w M I n (.lst q k xs) v) :
    xs.length * P.bytesOf e < 140737488355328 := by
  have hb : reachBytes < 140737488355328 := reachBytes_lt
  rcases len_of_trod hu h hr with rfl | ⟨elems, spare, rfl, hl⟩
  · simp
  · have := sized_slice hsz ht hd hu
    rw [Nat.add_mul] at this
    rw [← hl]
    omega
theorem sized_str {t : TypeId} {v : Value} {d : DataW H} {ps : List MemPlace} {M : AMap} {I : Nat → Prop} {n : Nat} {s : List UInt8} {ts : List TypeId} {ds : List (DataW H)} {j : Nat}
    (hsz : (DataW.weightsEach P ts ds).all (· ≤ reachBytes) = true) (ht : ts[j]? = some t) (hd : ds[j]? = some d) (hu : P.underlying t = some .string) (h : DataW.Trod enc P w base sp held t v d ps) (hr : Rel w M I n (.str s) v) : s.length < 140737488355328 := by
  have hb : reachBytes < 140737488355328 := reachBytes_lt
  obtain rfl := rel_str' hr
  obtain ⟨fuel, h⟩ := h
  cases fuel with
  | zero => simp [DataW.trod] at h
  | succ fuel =>
  have hcs : (Value.string ⟨s.toArray⟩).cells.toList = [Value.string ⟨s.toArray⟩] := rfl
  rw [hcs] at h
  simp only [DataW.trod, hu] at h
  split at h
  · simp only [Option.some.injEq, Prod.mk.injEq] at h
    have := sized_string hsz ht (hd.trans (by rw [← h.1]))
    exact Nat.lt_of_le_of_lt this hb
  · cases h
end
end Go.AM
