/- The abstract machine, part 6: views on slices, stores, appends, cuts. Own work. -/
import Derived.Test.YtibdekobocpfdaaDoorAm5
import Derived.Lib.ConvBytes
import Derived.Laws.BytesString
import Derived.Laws.IdiomStrings
import Derived.Laws.Slices
set_option linter.all false
namespace Go.AM

section
variable {P : Program} {GT : Nat → Option AV} {w : World} {M : AMap} {I : Nat → Prop} {H : Heap}

/-! ### What a slice shows -/

/-- The cells of a slice's elements lie one behind the other. -/
def RowAt (w : World) (M : AMap) (I : Nat → Prop) (n g p k : Nat) (ys : List AV) : Prop :=
  ∀ i j x c, ys[i]? = some x → x.cells[j]? = some c → ∃ u, w.cell? ⟨g, p + i * k + j, none⟩ = some u ∧ Rel w M I n c u

theorem RowAt.cut {n g p k : Nat} {xs : List AV} (h : RowAt w M I n g p k xs) (o l : Nat) : RowAt w M I n g (p + o * k) k ((xs.drop o).take l) := fun i j x c hi hj => by
  have hi' : i < l := by
    have := (List.getElem?_eq_some_iff.1 hi).1
    simp at this; omega
  rw [List.getElem?_take, if_pos hi', List.getElem?_drop] at hi
  obtain ⟨u, a, b⟩ := h _ j x c hi hj
  exact ⟨u, by rw [← a, Nat.add_mul]; congr 2; omega, b⟩

theorem view_sound (hS : Sim GT w M I H) {k : Nat} {y : AV} {v : Value} (hy : Rel w M I H.length y v) {ys : List AV} (h : view H k y = some ys) :
    Elems k ys ∧ (((v = .slice none 0 0 ∨ ∃ a, v = .slice (some a) 0 0) ∧ ys = []) ∨ ∃ g p cap, v = .slice (some ⟨g, p, none⟩) ys.length cap ∧ ys.length ≤ cap ∧ cap ≤ maxLen ∧ RowAt w M I H.length g p k ys) := by
  cases hy with
  | lnil q k' hq =>
    simp only [view, List.isEmpty_nil, if_true, ite_self, Option.some.injEq] at h; subst h
    exact ⟨fun _ hx => absurd hx (by simp), .inl ⟨.inl rfl, rfl⟩⟩
  | lemp q k' a hq =>
    simp only [view, List.isEmpty_nil, if_true, ite_self, Option.some.injEq] at h; subst h
    exact ⟨fun _ hx => absurd hx (by simp), .inl ⟨.inr ⟨a, rfl⟩, rfl⟩⟩
  | lst q k' xs g o cap V hq hc hm hI he hv hr =>
    simp only [view] at h
    split at h
    · rename_i hk; subst hk
      simp only [Option.some.injEq] at h; subst h
      exact ⟨he, .inr ⟨g, o, cap, rfl, hc, hm, fun i j x c hi hj => ⟨_, hv i j x c hi hj, hr i j x c hi hj⟩⟩⟩
    · split at h
      · rename_i hemp
        simp only [List.isEmpty_iff] at hemp
        subst hemp
        simp only [Option.some.injEq] at h; subst h
        exact ⟨fun _ hx => absurd hx (by simp), .inr ⟨g, o, cap, rfl, hc, hm, fun i j x c hi => by simp at hi⟩⟩
      · cases h
  | sln q b k' off hb hM hq =>
    simp only [view] at h
    split at h
    · have hnil : ys = [] := by
        split at h
        · split at h
          · simp at h; exact h
          · cases h
        · split at h
          · simp at h; exact h
          · cases h
        · cases h
      subst hnil
      exact ⟨fun _ hx => absurd hx (by simp), .inl ⟨.inl rfl, rfl⟩⟩
    · cases h
  | sl q b k' off len g o p cap hb hM hc hm hq ha =>
    simp only [view] at h
    split at h
    · rename_i hk; subst hk
      have key : ∀ xs, Elems k' xs → off + len ≤ xs.length → RowAt w M I H.length g o k' xs → ys = (xs.drop off).take len →
          Elems k' ys ∧ (((Value.slice (some ⟨g, p, none⟩) len cap = .slice none 0 0 ∨ ∃ a, Value.slice (some ⟨g, p, none⟩) len cap = .slice (some a) 0 0) ∧ ys = []) ∨ ∃ g' p' cap', Value.slice (some ⟨g, p, none⟩) len cap = .slice (some ⟨g', p', none⟩) ys.length cap' ∧ ys.length ≤ cap' ∧ cap' ≤ maxLen ∧ RowAt w M I H.length g' p' k' ys) := by
        intro xs he hle hrow e
        have hlen : ys.length = len := by rw [e]; simp; omega
        subst e
        refine ⟨elems_cut he off len, .inr ⟨g, p, cap, by rw [hlen], by omega, hm, ?_⟩⟩
        by_cases h0 : 0 < cap
        · obtain ⟨rfl, _⟩ := ha h0
          exact hrow.cut off len
        · intro i j x c hi
          have := (List.getElem?_eq_some_iff.1 hi).1
          omega
      split at h
      · rename_i k xs hx
        split at h
        · rename_i hk
          obtain ⟨rfl, hle⟩ := hk
          simp only [Option.some.injEq] at h
          obtain ⟨he, ⟨h1, _⟩ | ⟨g', o', cur, h1, h2, h3, h4, h5⟩⟩ := hS.blk b _ hx
          · rw [hM] at h1; cases h1
          · rw [hM] at h1; simp only [Option.some.injEq, Prod.mk.injEq] at h1; obtain ⟨rfl, rfl⟩ := h1
            exact key xs he hle (fun i j x c hi hj => let ⟨u, a, b⟩ := h5 i j x c hi hj; ⟨u, by rw [h2.cell?]; exact a, b⟩) h.symm
        · cases h
      · rename_i k xs hx
        split at h
        · rename_i hk
          obtain ⟨rfl, hle⟩ := hk
          simp only [Option.some.injEq] at h
          obtain ⟨he, ⟨h1, _⟩ | ⟨g', o', h1, h3, h5⟩⟩ := hS.blk b _ hx
          · rw [hM] at h1; cases h1
          · rw [hM] at h1; simp only [Option.some.injEq, Prod.mk.injEq] at h1; obtain ⟨rfl, rfl⟩ := h1
            exact key xs he hle h5 h.symm
        · cases h
      · cases h
    · cases h
  | _ => simp [view] at h

/-- The cells of a slice's elements, in one list. -/
theorem RowAt.flat {n g p k : Nat} {ys : List AV} (h : RowAt w M I n g p k ys) (he : Elems k ys) : ∃ news : List Value, news.length = ys.length * k ∧ (∀ j u, news[j]? = some u → w.cell? ⟨g, p + j, none⟩ = some u) ∧
    (∀ u ∈ news, u.oneCell' = true) ∧ ∀ i j x c, ys[i]? = some x → x.cells[j]? = some c → ∃ u, news[i * k + j]? = some u ∧ Rel w M I n c u := by
  let f : Nat → Value := fun t => (w.cell? ⟨g, p + t, none⟩).getD Go.undef
  have hf : ∀ t, t < ys.length * k → ∃ u, w.cell? ⟨g, p + t, none⟩ = some u ∧ u.oneCell' = true := fun t ht => by
    have hk : 0 < k := by rcases Nat.eq_zero_or_pos k with rfl | h; simp at ht; exact h
    have hi : t / k < ys.length := Nat.div_lt_of_lt_mul (by rw [Nat.mul_comm]; exact ht)
    have hx : ys[t / k]? = some ys[t / k] := List.getElem?_eq_getElem hi
    have hel := AV.elem_iff.1 (he _ (List.getElem_mem hi))
    have hj : t % k < ys[t / k].cells.length := by rw [hel.1]; exact Nat.mod_lt _ hk
    obtain ⟨u, a, b⟩ := h (t / k) (t % k) _ _ hx (List.getElem?_eq_getElem hj)
    refine ⟨u, ?_, b.oneCell (hel.2.2 _ (List.getElem_mem hj))⟩
    rw [← a]
    congr 2
    have := Nat.div_add_mod t k
    rw [Nat.mul_comm] at this
    omega
  refine ⟨(List.range (ys.length * k)).map f, by simp, fun j u hu => ?_, fun u hu => ?_, fun i j x c hi hj => ?_⟩
  · have hj : j < ys.length * k := by have := (List.getElem?_eq_some_iff.1 hu).1; simpa using this
    obtain ⟨u', h1, _⟩ := hf j hj
    simp [hj, f, h1] at hu
    rw [h1, hu]
  · obtain ⟨t, ht, rfl⟩ := List.mem_map.1 hu
    obtain ⟨u', h1, h2⟩ := hf t (List.mem_range.1 ht)
    simp [f, h1, h2]
  · obtain ⟨u, a, b⟩ := h i j x c hi hj
    refine ⟨u, ?_, b⟩
    have hil := (List.getElem?_eq_some_iff.1 hi).1
    have hjl := (List.getElem?_eq_some_iff.1 hj).1
    have hel := AV.elem_iff.1 (he x (List.mem_of_getElem? hi))
    rw [hel.1] at hjl
    have hlt : i * k + j < ys.length * k := by
      have : (i + 1) * k ≤ ys.length * k := Nat.mul_le_mul_right _ hil
      rw [Nat.add_mul] at this; omega
    have h1 : w.cell? ⟨g, p + (i * k + j), none⟩ = some u := by rw [← a]; congr 2; omega
    rw [List.getElem?_map, List.getElem?_range hlt]
    simp [f, h1]

/-! ### Stores -/

theorem heap_setCell {g j : Nat} {cur : Array Value} {e : TypeId} {fz : Nat × Nat} (hg : w.heap[g]? = some (.cells cur e fz)) (v : Value) :
    (w.setCell ⟨g, j, none⟩ v).heap = w.heap.setIfInBounds g (.cells (cur.setIfInBounds j v) e fz) := by
  obtain ⟨hlt, hge⟩ := Array.getElem?_eq_some_iff.1 hg
  apply Array.ext_getElem?
  intro k
  simp only [World.setCell, Array.getElem?_modify, Array.getElem?_setIfInBounds]
  by_cases hk : g = k
  · subst hk; simp [hlt, hge]
  · simp [hk]

theorem storeCells_free (g o : Nat) (e : TypeId) (fz : Nat × Nat) : ∀ (vs : List Value) (i : Nat) (cur : Array Value) (w : World), w.heap[g]? = some (.cells cur e fz) → (∀ j, j < cur.size → ¬ (fz.1 ≤ j ∧ j < fz.2)) →
    o + i + vs.length ≤ cur.size → (∀ v ∈ vs, v.oneCell' = true) → ∃ cur' w', (storeCells ⟨g, o, none⟩ vs i).run P w = .ok () w' ∧ w'.heap = w.heap.setIfInBounds g (.cells cur' e fz) ∧ w'.os = w.os ∧ w'.tape = w.tape ∧ w'.output = w.output ∧
      cur'.size = cur.size ∧ (∀ j, j < vs.length → cur'[o + i + j]? = vs[j]?) ∧ (∀ j, (j < o + i ∨ o + i + vs.length ≤ j) → cur'[j]? = cur[j]?)
  | [], i, cur, w, hg, _, _, _ => by
    refine ⟨cur, w, by simp [storeCells], ?_, rfl, rfl, rfl, rfl, by simp, fun _ _ => rfl⟩
    apply Array.ext_getElem?
    intro k
    rw [Array.getElem?_setIfInBounds]
    by_cases hk : g = k
    · subst hk
      obtain ⟨hlt, hge⟩ := Array.getElem?_eq_some_iff.1 hg
      simp [hlt, hge]
    · simp [hk]
  | v :: vs, i, cur, w, hg, hfz, hl, h1 => by
    simp only [List.length_cons] at hl
    have hlt := (Array.getElem?_eq_some_iff.1 hg).1
    have hcell : w.cell? ⟨g, o + i, none⟩ = some (cur[o + i]'(by omega)) := by simp [World.cell?, hg, show o + i < cur.size by omega]
    have hfrz : w.frozen? ⟨g, o + i, none⟩ = false := by
      have := hfz (o + i) (by omega)
      simp only [World.frozen?, hg]
      rcases Nat.lt_or_ge (o + i) fz.1 with h | h
      · simp; omega
      · simp; omega
    have hheap := heap_setCell (w := w) (j := o + i) hg v
    have hg' : (w.setCell ⟨g, o + i, none⟩ v).heap[g]? = some (.cells (cur.setIfInBounds (o + i) v) e fz) := by rw [hheap, Array.getElem?_setIfInBounds, if_pos rfl, if_pos hlt]
    obtain ⟨cur', w', r1, r2, r3, r4, r5, r6, r7, r8⟩ := storeCells_free g o e fz vs (i + 1) (cur.setIfInBounds (o + i) v) (w.setCell ⟨g, o + i, none⟩ v) hg' (by simpa using hfz) (by simp; omega) (fun u hu => h1 u (by simp [hu]))
    refine ⟨cur', w', ?_, ?_, r3, r4, r5, by simpa using r6, fun j hj => ?_, fun j hj => ?_⟩
    · simp only [storeCells, Addr.add_lit, Sem.run_bind, run_store P w _ v _ (h1 v (by simp)), hcell, hfrz, Bool.false_eq_true, if_false, Result.andThen_ok]
      exact r1
    · rw [r2, hheap]
      apply Array.ext_getElem?
      intro k
      simp only [Array.getElem?_setIfInBounds, Array.size_setIfInBounds]
      by_cases hk : g = k <;> simp [hk]
    · cases j with
      | zero =>
        rw [r8 _ (by omega)]
        simp [show o + i < cur.size by omega]
      | succ j =>
        have := r7 j (by simp at hj; omega)
        rw [show o + i + (j + 1) = o + (i + 1) + j by omega, this]
        simp
    · rw [r8 j (by simp at hj; omega), Array.getElem?_setIfInBounds, if_neg (by simp at hj; omega)]

/-! ### Storing into an abstract block -/

theorem one_ne {x : AV} (h : x.cells.all AV.one = true) : x ≠ .undef ∧ ∀ u, x ≠ .raw u := by
  refine ⟨?_, fun u => ?_⟩ <;> (rintro rfl; simp [AV.cells, AV.one] at h)

theorem rel_cells {n : Nat} {x : AV} {v : Value} (h : Rel w M I n x v) (hx : x ≠ .undef ∧ ∀ u, x ≠ .raw u) : RelL w M I n x.cells v.cells.toList := by
  cases h with
  | raw v => exact absurd rfl (hx.2 v)
  | agg cs vs hl h => exact ⟨by simpa [Value.cells, AV.cells] using hl, by simpa [Value.cells, AV.cells] using h⟩
  | undef v => exact absurd rfl hx.1
  | _ =>
    refine ⟨by simp [AV.cells, Value.cells], fun i c u hc hu => ?_⟩
    simp only [AV.cells, Value.cells] at hc hu
    cases i with
    | zero => simp at hc hu; subst hc hu; first | exact .bool _ | exact .int _ _ | exact .str _ | exact .tup _ _ ‹_› ‹_› | exact .lnil _ _ ‹_› | exact .lemp _ _ _ ‹_› | exact .lst _ _ _ _ _ _ _ ‹_› ‹_› ‹_› ‹_› ‹_› ‹_› ‹_› | exact .lref _ _ _ _ _ ‹_› ‹_› ‹_› ‹_› | exact .ref _ _ _ _ _ _ ‹_› ‹_› | exact .sln _ _ _ _ ‹_› ‹_› ‹_› | exact .sl _ _ _ _ _ _ _ _ _ ‹_› ‹_› ‹_› ‹_› ‹_› ‹_› | exact .nilp | exact .nilf | exact .nili | exact .nilm | exact .fn _ _ _ _ _ ‹_› ‹_› ‹_› ‹_› | exact .iface _ _ _ ‹_›
    | succ i => simp at hc

theorem splice_get {cs vs : List AV} {o : Nat} (hl : o + vs.length ≤ cs.length) (j : Nat) : (splice cs o vs)[j]? = if o ≤ j ∧ j < o + vs.length then vs[j - o]? else cs[j]? := by
  unfold splice
  have ho : (cs.take o).length = o := by simp; omega
  rw [List.append_assoc, List.getElem?_append, ho]
  split
  · rw [if_neg (by omega), List.getElem?_take, if_pos ‹_›]
  · rw [List.getElem?_append]
    split
    · rw [if_pos (by omega)]
    · rw [if_neg (by omega), List.getElem?_drop]
      congr 1; omega

theorem splice_len {cs vs : List AV} {o : Nat} (hl : o + vs.length ≤ cs.length) : (splice cs o vs).length = cs.length := by unfold splice; simp; omega

/-- A struct, or one cell of it, stored into a variable. -/
theorem store_box (hS : Sim GT w M I H) {t : TypeId} {b k o s : Nat} {x : AV} {v p : Value} {cs : List AV} (hsz : sizeB P t = some s) (hp : Rel w M I H.length (.ref b k 0 o) p) (hv : Rel w M I H.length x v) (hxl : x.cells.length = s)
    (hx1 : x.cells.all AV.one = true) (hb : H[b]? = some (.box cs)) (hle : o + s ≤ cs.length) :
    ∃ w', (Instr.storeAt t p v).run P w = .ok () w' ∧ Grow w M I H w' M I (H.set b (.box (splice cs o x.cells))) ∧ Sim GT w' M I (H.set b (.box (splice cs o x.cells))) := by
  cases hp with
  | ref _ _ _ _ g o' hbn hM =>
  obtain ⟨g', o'', cur, h1, h2, h3, h4, h5⟩ := hS.blk b _ hb
  rw [hM] at h1; simp only [Option.some.injEq, Prod.mk.injEq] at h1; obtain ⟨rfl, rfl⟩ := h1
  have hrl := rel_cells hv (one_ne hx1)
  have hvl : v.cells.toList.length = s := by rw [← hrl.1, hxl]
  have hv1 : ∀ u ∈ v.cells.toList, u.oneCell' = true := fun u hu => by
    obtain ⟨j, hj⟩ := List.getElem?_of_mem hu
    have hjl := (List.getElem?_eq_some_iff.1 hj).1
    have hc : x.cells[j]? = some x.cells[j] := List.getElem?_eq_getElem (by omega)
    exact (hrl.2 j _ _ hc hj).oneCell ((List.all_eq_true.1 hx1) _ (List.getElem_mem _))
  obtain ⟨e, fz, hg, hfz⟩ := h2
  obtain ⟨cur', w', r1, r2, r3, r4, r5, r6, r7, r8⟩ := storeCells_free (P := P) g (o' + o) e fz v.cells.toList 0 cur w hg hfz (by rw [hvl]; omega) hv1
  have hlt := (Array.getElem?_eq_some_iff.1 hg).1
  refine ⟨w', ?_, ?_⟩
  · have : v.cells.size = s := by simpa using hvl
    simp only [Instr.storeAt, Instr.sureAddr, storeVar, Sem.run_bind, Sem.run_pure, Result.andThen_ok, sizeOf_run hsz, this, ne_eq, not_true_eq_false, if_false, Nat.zero_mul, Nat.add_zero]
    exact r1
  · have hW := Sim.write (w' := w') (y := .dead) hS hb rfl hM hg r6 r2 r3 r4 r5 trivial
    refine Sim.write (w' := w') hS hb rfl hM hg r6 r2 r3 r4 r5 ⟨g, o', cur', hM, ⟨e, fz, ?_, ?_⟩, h3, ?_, fun j c hj => ?_⟩
    · rw [r2, Array.getElem?_setIfInBounds, if_pos rfl, if_pos hlt]
    · rw [r6]; exact hfz
    · rw [splice_len (by omega), r6]; exact h4
    · have R : ∀ {c v}, Rel w M I H.length c v → Rel w' M I H.length c v := fun h => by have := hW.1.rel hS h; simpa using this
      rw [splice_get (by omega)] at hj
      split at hj
      · rename_i hjj
        obtain ⟨u, hu, hr⟩ := get_rel_list hrl hj
        refine ⟨u, ?_, R hr⟩
        have := r7 (j - o) (by omega)
        rw [show o' + o + 0 + (j - o) = o' + j by omega] at this
        rw [this]; exact hu
      · rename_i hjj
        obtain ⟨u, hu, hr⟩ := h5 j c hj
        exact ⟨u, by rw [r8 _ (by omega)]; exact hu, R hr⟩

theorem updElem_cells {k o s : Nat} {x v : AV} (hx : x.elem k = true) (hv : v.elem s = true) (h0 : 0 < s) (hle : o + s ≤ k) : (updElem x o v).cells = splice x.cells o v.cells ∧ (updElem x o v).elem k = true := by
  obtain ⟨x1, x2, x3⟩ := AV.elem_iff.1 hx
  obtain ⟨v1, v2, v3⟩ := AV.elem_iff.1 hv
  have main : ∀ y : AV, y.cells = splice x.cells o v.cells → y.noRef = true → y.elem k = true := fun y hy hn => by
    refine AV.elem_iff.2 ⟨by rw [hy, splice_len (by omega)]; exact x1, hn, fun c hc => ?_⟩
    rw [hy] at hc
    simp only [splice, List.mem_append] at hc
    rcases hc with (hc | hc) | hc
    · exact x3 c (List.mem_of_mem_take hc)
    · exact v3 c hc
    · exact x3 c (List.mem_of_mem_drop hc)
  cases x with
  | agg cs =>
    refine ⟨rfl, main _ rfl ?_⟩
    simp only [updElem, AV.noRef, AV.bel, AV.belL_iff]
    intro c hc
    simp only [splice, List.mem_append] at hc
    rcases hc with (hc | hc) | hc
    · simp only [AV.noRef, AV.bel, AV.belL_iff] at x2; exact x2 c (List.mem_of_mem_take hc)
    · obtain ⟨j, hj⟩ := List.getElem?_of_mem hc; exact AV.noRef_cells v2 hj
    · simp only [AV.noRef, AV.bel, AV.belL_iff] at x2; exact x2 c (List.mem_of_mem_drop hc)
  | _ =>
    simp only [AV.cells, List.length_singleton] at x1
    have e : o = 0 := by omega
    subst e
    have hh : ∀ z : AV, v.cells = splice [z] 0 v.cells := fun z => by unfold splice; simp; omega
    exact ⟨hh _, main _ (hh _) v2⟩

/-- Stored into an element of a row. -/
theorem store_row (hS : Sim GT w M I H) {t : TypeId} {b k i o s : Nat} {x y : AV} {v p : Value} {xs : List AV} (hsz : sizeB P t = some s) (hp : Rel w M I H.length (.ref b k i o) p) (hv : Rel w M I H.length x v) (hx : x.elem s = true)
    (h0 : 0 < s) (hb : H[b]? = some (.row k xs)) (hy : xs[i]? = some y) (hle : o + s ≤ k) :
    ∃ w', (Instr.storeAt t p v).run P w = .ok () w' ∧ Grow w M I H w' M I (H.set b (.row k (xs.set i (updElem y o x)))) ∧ Sim GT w' M I (H.set b (.row k (xs.set i (updElem y o x)))) := by
  cases hp with
  | ref _ _ _ _ g o' hbn hM =>
  obtain ⟨he, ⟨h1, _⟩ | ⟨g', o'', cur, h1, h2, h3, h4, h5⟩⟩ := hS.blk b _ hb
  · rw [hM] at h1; cases h1
  rw [hM] at h1; simp only [Option.some.injEq, Prod.mk.injEq] at h1; obtain ⟨rfl, rfl⟩ := h1
  obtain ⟨x1, x2, x3⟩ := AV.elem_iff.1 hx
  have hye := he y (List.mem_of_getElem? hy)
  have hyl := (AV.elem_iff.1 hye).1
  obtain ⟨u1, u2⟩ := updElem_cells hye hx h0 hle
  have hil := (List.getElem?_eq_some_iff.1 hy).1
  have hrl := rel_cells hv (one_ne (List.all_eq_true.2 x3))
  have hvl : v.cells.toList.length = s := by rw [← hrl.1, x1]
  have hv1 : ∀ u ∈ v.cells.toList, u.oneCell' = true := fun u hu => by
    obtain ⟨j, hj⟩ := List.getElem?_of_mem hu
    have hjl := (List.getElem?_eq_some_iff.1 hj).1
    have hc : x.cells[j]? = some x.cells[j] := List.getElem?_eq_getElem (by omega)
    exact (hrl.2 j _ _ hc hj).oneCell (x3 _ (List.getElem_mem _))
  obtain ⟨e, fz, hg, hfz⟩ := h2
  have hin : (i + 1) * k ≤ xs.length * k := Nat.mul_le_mul_right _ hil
  rw [Nat.add_mul] at hin
  obtain ⟨cur', w', r1, r2, r3, r4, r5, r6, r7, r8⟩ := storeCells_free (P := P) g (o' + i * k + o) e fz v.cells.toList 0 cur w hg hfz (by rw [hvl]; omega) hv1
  have hlt := (Array.getElem?_eq_some_iff.1 hg).1
  refine ⟨w', ?_, ?_⟩
  · have : v.cells.size = s := by simpa using hvl
    simp only [Instr.storeAt, Instr.sureAddr, storeVar, Sem.run_bind, Sem.run_pure, Result.andThen_ok, sizeOf_run hsz, this, ne_eq, not_true_eq_false, if_false]
    exact r1
  · have hW := Sim.write (w' := w') (y := .dead) hS hb rfl hM hg r6 r2 r3 r4 r5 trivial
    have R : ∀ {c v}, Rel w M I H.length c v → Rel w' M I H.length c v := fun h => by have := hW.1.rel hS h; simpa using this
    have hel' : Elems k (xs.set i (updElem y o x)) := fun z hz => by
      rcases List.mem_or_eq_of_mem_set hz with hz | rfl
      · exact he z hz
      · exact u2
    refine Sim.write (w' := w') hS hb rfl hM hg r6 r2 r3 r4 r5 ⟨hel', .inr ⟨g, o', cur', hM, ⟨e, fz, ?_, ?_⟩, h3, ?_, fun i' j z c hz hj => ?_⟩⟩
    · rw [r2, Array.getElem?_setIfInBounds, if_pos rfl, if_pos hlt]
    · rw [r6]; exact hfz
    · rw [List.length_set, r6]; exact h4
    · by_cases hi : i' = i
      · subst hi
        rw [List.getElem?_set_self hil] at hz
        obtain rfl := Option.some.inj hz
        rw [u1, splice_get (by omega)] at hj
        split at hj
        · rename_i hjj
          obtain ⟨u, hu, hr⟩ := get_rel_list hrl hj
          refine ⟨u, ?_, R hr⟩
          have := r7 (j - o) (by omega)
          rw [show o' + i' * k + o + 0 + (j - o) = o' + i' * k + j by omega] at this
          rw [this]; exact hu
        · obtain ⟨u, hu, hr⟩ := h5 i' j y c hy hj
          exact ⟨u, by rw [r8 _ (by omega)]; exact hu, R hr⟩
      · rw [List.getElem?_set_ne (Ne.symm hi)] at hz
        obtain ⟨u, hu, hr⟩ := h5 i' j z c hz hj
        refine ⟨u, ?_, R hr⟩
        have hjl := (List.getElem?_eq_some_iff.1 hj).1
        rw [(AV.elem_iff.1 (he z (List.mem_of_getElem? hz))).1] at hjl
        rw [r8 _ ?_]; exact hu
        rcases Nat.lt_or_gt_of_ne hi with hlt' | hgt
        · have : (i' + 1) * k ≤ i * k := Nat.mul_le_mul_right _ hlt'
          rw [Nat.add_mul] at this; omega
        · have : (i + 1) * k ≤ i' * k := Nat.mul_le_mul_right _ hgt
          rw [Nat.add_mul] at this; omega

end
end Go.AM
