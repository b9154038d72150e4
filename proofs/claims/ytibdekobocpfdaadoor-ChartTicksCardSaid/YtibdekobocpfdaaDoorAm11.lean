/- The abstract machine, part 11: slice literals; every abstract step but a call, in one theorem. Own work. -/
import Derived.Test.YtibdekobocpfdaaDoorAm10
set_option linter.all false
namespace Go.AM

section
variable {P : Program} {GT : Nat → Option AV} {w : World} {M : AMap} {I : Nat → Prop} {H : Heap}

theorem fillAll_seq (k : Nat) : ∀ (vs : List AV) (a : Nat) (pre : List AV), pre.length = a * k → (∀ v ∈ vs, v.elem k = true) →
    fillAll (pre ++ List.replicate (vs.length * k) .undef) ((List.range' a vs.length).map fun i => (i * k, k)) vs = some (pre ++ vs.flatMap AV.cells)
  | [], a, pre, _, _ => by simp [fillAll]
  | v :: vs, a, pre, hp, hv => by
    obtain ⟨h1, h2, h3⟩ := AV.elem_iff.1 (hv v (by simp))
    have hone : v.cells.all AV.one = true := List.all_eq_true.2 h3
    simp only [List.length_cons, List.range'_succ, List.map_cons, fillAll]
    rw [if_pos ⟨h1, by simp [Nat.add_mul]; omega, hone⟩]
    have hs : splice (pre ++ List.replicate ((vs.length + 1) * k) AV.undef) (a * k) v.cells = (pre ++ v.cells) ++ List.replicate (vs.length * k) AV.undef := by
      unfold splice
      rw [h1, ← hp, List.take_left', List.drop_append]
      · simp [List.drop_replicate, Nat.add_mul]
      · rfl
    rw [hs, fillAll_seq k vs (a + 1) (pre ++ v.cells) (by simp [h1, hp, Nat.add_mul]) (fun x hx => hv x (by simp [hx]))]
    simp

theorem flat_get {k : Nat} : ∀ {xs : List AV} {i j : Nat} {x c : AV}, Elems k xs → xs[i]? = some x → x.cells[j]? = some c → (xs.flatMap AV.cells)[i * k + j]? = some c
  | [], _, _, _, _, _, h, _ => by simp at h
  | y :: xs, i, j, x, c, he, hx, hj => by
    have hy := (AV.elem_iff.1 (he y (by simp))).1
    cases i with
    | zero =>
      simp at hx; subst hx
      rw [List.flatMap_cons, Nat.zero_mul, Nat.zero_add, List.getElem?_append_left (List.getElem?_eq_some_iff.1 hj).1]
      exact hj
    | succ i =>
      rw [List.flatMap_cons, List.getElem?_append_right (by rw [hy, Nat.add_mul]; omega), hy]
      have := flat_get (xs := xs) (fun z hz => he z (by simp [hz])) (by simpa using hx) hj
      rw [← this]; congr 1
      rw [Nat.add_mul]; omega

theorem flat_len {k : Nat} : ∀ {xs : List AV}, Elems k xs → (xs.flatMap AV.cells).length = xs.length * k
  | [], _ => by simp
  | y :: xs, he => by
    have hy := (AV.elem_iff.1 (he y (by simp))).1
    have := flat_len (xs := xs) (k := k) (fun z hz => he z (by simp [hz]))
    simp [hy, this, Nat.add_mul]; omega

theorem bslice_sound (hS : Sim GT w M I H) {t : TypeId} {len k : Nat} {parts : Array (Nat × Value)} {vs vs' : List AV} {H1 : Heap} (hsl : isSliceOf P t k = true) (hz : (match P.underlying t with
      | some (.slice e) => (match P.info? e with
        | some i => i.zero.isSome
        | none => false)
      | _ => false) = true) (hlim : len * k ≤ 16777216) (hlim' : len ≤ 16777216) (hidx : parts.toList.map (·.1) = List.range len)
    (hv : RelL w M I H.length vs (parts.toList.map (·.2))) (hf : frzL 0 vs H = some (vs', H1)) (hel : vs'.all (fun v => v.elem k) = true) :
    RunsTo P GT w M I H (Instr.buildSlice t len parts) (.sl (some false) H1.length k 0 vs'.length) (H1 ++ [.row k vs']) := by
  obtain ⟨e, ht, hse⟩ := isSliceOf_eq hsl
  rw [ht] at hz
  simp only at hz
  split at hz
  case h_2 => cases hz
  rename_i i hi
  obtain ⟨zv, hzv⟩ := Option.isSome_iff_exists.1 hz
  have hagg := Rel.agg (w := w) (M := M) (I := I) (n := H.length) vs (parts.toList.map (·.2)) hv.1 hv.2
  obtain ⟨I', G1, S1, R1, hlen, _⟩ := frz_sound 0 (.agg vs) hS hagg (x' := .agg vs') (H' := H1) (by simp [frzV, hf])
  have hr : RelL w M I' H1.length vs' (parts.toList.map (·.2)) := by
    generalize hus : parts.toList.map (·.2) = us at R1
    cases R1 with
    | agg _ _ hl h => exact ⟨hl, h⟩
  have hvl : vs'.length = len := by have h1 := hr.1; have h2 := congrArg List.length hidx; simp at h1 h2; omega
  have hE : Elems k vs' := fun x hx => List.all_eq_true.1 hel x hx
  subst hvl
  have hseq := fillAll_seq k vs' 0 [] (by simp) hE
  simp only [List.nil_append] at hseq
  let base : Array Value := (Array.range (vs'.length * k)).map (fun j => (if vs'.length * k = 0 then (#[] : Array Value) else zv.cells)[j % (if vs'.length * k = 0 then (#[] : Array Value) else zv.cells).size]!)
  have hbase : RelL w M I' H1.length (List.replicate (vs'.length * k) AV.undef) base.toList := by
    refine ⟨by simp [base], fun a c v hc _ => ?_⟩
    rw [List.getElem?_replicate] at hc
    split at hc
    · rw [← Option.some.inj hc]; exact .undef _
    · cases hc
  obtain ⟨cells', f1, f2⟩ := fill_sound (w := w) (M := M) (I := I') (n := H1.length) (fun i => some (i * k, k)) parts.toList _ vs' base _ _ (by
    have : parts.toList.map (fun p => some (p.1 * k, k)) = (parts.toList.map (·.1)).map (fun i => some (i * k, k)) := by simp
    rw [this, hidx, List.range_eq_range']
    simp) hr hbase hseq
  have hcl : cells'.toList.length = vs'.length * k := by rw [← f2.1, flat_len hE]
  have hrun : (Instr.buildSlice t vs'.length parts).run P w = .ok (.slice (some ⟨w.heap.size, 0, none⟩) vs'.length vs'.length) (w.alloc (.cells cells' e)) := by
    have hno : ¬ (vs'.length * k > 2 ^ 24) := by omega
    have hzr : ∀ w : World, (zeroValue e).run P w = .ok zv w := fun w => by simp [zeroValue, typeInfo, hi, hzv]
    have f1' : Instr.fill (fun i => some (i * k, k)) ((Array.range (vs'.length * k)).map (fun j => (if vs'.length * k = 0 then (#[] : Array Value) else zv.cells)[j % (if vs'.length * k = 0 then (#[] : Array Value) else zv.cells).size]!)) parts.toList = some cells' := f1
    unfold Instr.buildSlice
    by_cases h0 : vs'.length * k = 0
    · simp only [if_pos h0] at f1'
      simp only [Sem.run_bind, run_underlying ht, Result.andThen_ok, sizeOf_run hse, if_neg hno, if_pos h0, Sem.run_pure, f1']
      simp [newRow]
    · simp only [if_neg h0] at f1'
      simp only [Sem.run_bind, run_underlying ht, Result.andThen_ok, sizeOf_run hse, if_neg hno, if_neg h0, hzr, Sem.run_pure, f1']
      simp [newRow]
  have hheap : (w.alloc (.cells cells' e)).heap = w.heap.push (.cells cells' e) := rfl
  obtain ⟨G, S⟩ := S1.push (blk := .row k vs') hheap rfl rfl rfl (rowOK_new (cells := cells'.toList) (o := 0) hE more_new ⟨e, (0, 0), by rw [hheap, Array.getElem?_push, if_pos rfl], fun j _ h => absurd h.2 (Nat.not_lt_zero _)⟩
    (fun h => absurd (S1.idom _ h) (Nat.lt_irrefl _)) (by have := hcl; simp at this; omega) (fun j hj => by rw [Nat.zero_add]; simp) hcl (fun a j x c hx hj => by
      obtain ⟨u, hu, hru⟩ := get_rel_list f2 (flat_get hE hx hj)
      refine ⟨u, hu, ?_⟩
      have := (Sim.push (blk := .dead) S1 hheap rfl rfl rfl trivial).1.rel S1 hru
      simpa using this))
  refine ⟨_, _, _, I', hrun, G1.trans G, S, ?_⟩
  refine .sl _ _ _ _ _ w.heap.size 0 0 _ (by simp) more_new (Nat.le_refl _) ?_ (by simp) (fun _ => ⟨by simp, e, _, by simp [World.shape?, hheap]; rfl, by have := hcl; simp at this; simp; omega⟩)
  simp only [maxLen]; omega

end
end Go.AM
