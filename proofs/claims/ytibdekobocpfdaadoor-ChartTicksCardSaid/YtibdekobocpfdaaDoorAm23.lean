/- The abstract machine, part 23: from a contract to a call in the world. Own work. -/
import Derived.Test.YtibdekobocpfdaaDoorAm22
import Derived.Below
set_option linter.all false
namespace Go.AM
open Go.RowKit

theorem calls_of_good {P : Program} {GT : Nat → Option AV} {w : World} {M : AMap} {I : Nat → Prop} {H H' : Heap} {f : FuncId} {fn : Func} {args : List AV} {cargs : List Value} {v : AV}
    (hf : P.funcs[f]? = some fn) (hname : (fn.name == "runtime.NumGoroutine") = false) (hb : fn.body.isSome = true) (hg : Good P GT f args H v H') (hS : Sim GT w M I H) (hA : RelL w M I H.length args cargs) :
    Calls P f cargs.toArray w fun e w' => ∃ v', e = .returned v' ∧ ∃ M' I', Grow w M I H w' M' I' H' ∧ Sim GT w' M' I' H' ∧ Rel w' M' I' H'.length v v' := by
  have h1 : fn.name ≠ "runtime.NumGoroutine" := by simpa using hname
  obtain ⟨c, hb⟩ := Option.isSome_iff_exists.1 hb
  have hrun : (callFunc f cargs.toArray).run P w = .ok (.enter f cargs.toArray) w := by simp [callFunc, hf, h1, hb]
  have h := hg.n hA w M I cargs hS hA
  rw [hrun] at h
  exact h

/-- All that lies in the world is shut. -/
def allOld (w : World) : Nat → Prop := fun k => k < w.heap.size

theorem sim_empty (w : World) : Sim (fun _ => none) w (fun _ => none) (allOld w) [] where
  glob := fun g x h => by cases h
  idom := fun k h => h
  blk := fun b x h => by simp at h
  inj := fun b b' x x' g o o' h => by simp at h
  shp := fun g x h => by cases h

theorem below_of_grow {w w' : World} {M M' : AMap} {I I' : Nat → Prop} {H' : Heap} (h : Grow w M I [] w' M' I' H') : Below w.heap.size w w' :=
  ⟨h.os, h.tape, h.output, h.size, fun k hk => h.frame k hk (by rintro ⟨b, x, o, hb, _⟩; simp at hb)⟩

/-- A law that says true. -/
theorem law_of_good {P : Program} {w : World} {f : FuncId} {fn : Func} {args : List AV} {cargs : List Value}
    (hf : P.funcs[f]? = some fn) (hname : (fn.name == "runtime.NumGoroutine") = false) (hb : fn.body.isSome = true) (hg : Good P (fun _ => none) f args [] (.bool true) []) (hA : RelL w (fun _ => none) (allOld w) 0 args cargs) :
    Calls P f cargs.toArray w fun e w' => e = .returned (.bool true) ∧ Below w.heap.size w w' :=
  (calls_of_good hf hname hb hg (sim_empty w) hA).mono fun e w' ⟨v', he, M', I', hG, _, hR⟩ => by
    cases hR
    exact ⟨he, below_of_grow hG⟩

theorem relL_nil (w : World) (M : AMap) (I : Nat → Prop) (n : Nat) : RelL w M I n [] [] := ⟨rfl, fun i c v h => by simp at h⟩
theorem relL_cons {w : World} {M : AMap} {I : Nat → Prop} {n : Nat} {x : AV} {v : Value} {xs : List AV} {vs : List Value} (h : Rel w M I n x v) (hs : RelL w M I n xs vs) : RelL w M I n (x :: xs) (v :: vs) :=
  ⟨by rw [List.length_cons, List.length_cons, hs.1], fun i c u hc hu => by
    cases i with
    | zero => simp only [List.getElem?_cons_zero, Option.some.injEq] at hc hu; subst hc; subst hu; exact h
    | succ i => simp only [List.getElem?_cons_succ] at hc hu; exact hs.2 i c u hc hu⟩
theorem rel_str (w : World) (M : AMap) (I : Nat → Prop) (n : Nat) (s : ByteArray) : Rel w M I n (.str s.data.toList) (.string s) := .str s.data.toList

theorem rel_str' {w : World} {M : AMap} {I : Nat → Prop} {n : Nat} {s : List UInt8} {v : Value} (h : Rel w M I n (.str s) v) : v = .string ⟨s.toArray⟩ := by cases h; rfl
theorem rel_int' {w : World} {M : AMap} {I : Nat → Prop} {n : Nat} {k : IntKind} {m : Int} {v : Value} (h : Rel w M I n (.int k m) v) : v = .int k m := by cases h; rfl
theorem relL_one {w : World} {M : AMap} {I : Nat → Prop} {n : Nat} {x : AV} {vs : List Value} (h : RelL w M I n [x] vs) : ∃ v, vs = [v] ∧ Rel w M I n x v := by
  obtain ⟨hl, h⟩ := h
  obtain ⟨v, rfl⟩ := List.length_eq_one_iff.1 hl.symm
  exact ⟨v, rfl, h 0 x v rfl rfl⟩
theorem relL_two {w : World} {M : AMap} {I : Nat → Prop} {n : Nat} {x y : AV} {vs : List Value} (h : RelL w M I n [x, y] vs) : ∃ v u, vs = [v, u] ∧ Rel w M I n x v ∧ Rel w M I n y u := by
  obtain ⟨hl, h⟩ := h
  match vs, hl with
  | [v, u], _ => exact ⟨v, u, rfl, h 0 x v rfl rfl, h 1 y u rfl rfl⟩

/-- A call that leaves all that was there turns nothing of what is known. -/
theorem grow_of_below {GT : Nat → Option AV} {w w' : World} {M : AMap} {I : Nat → Prop} {H : Heap} (hS : Sim GT w M I H) (h : Below w.heap.size w w') : Grow w M I H w' M I H ∧ Sim GT w' M I H := by
  have hb : ∀ k, k < w.heap.size → w'.heap[k]? = w.heap[k]? := fun k hk => h.block k hk
  have hs : ∀ g s, w.shape? g = some s → w'.shape? g = some s := fun g s hg => by
    have hlt : g < w.heap.size := by
      unfold World.shape? at hg
      split at hg
      · rename_i e; exact (Array.getElem?_eq_some_iff.1 e).1
      · cases hg
    rw [shape?_of_heap (hb g hlt)]; exact hg
  refine ⟨⟨h.os, h.tape, h.output, h.size, fun _ _ => rfl, fun _ h => h, fun _ h _ => .inl h, fun k hk _ => hb k hk, fun _ _ h => h, hs, Nat.le_refl _⟩, ?_⟩
  refine ⟨fun g x hg => (hS.glob g x hg).mono (fun _ h => h) (fun k hk => hb k (hS.idom k hk)) (fun _ _ => rfl) (Nat.le_refl _) hs, fun k hk => Nat.lt_of_lt_of_le (hS.idom k hk) h.size, fun b x hx => ?_, hS.inj, fun g x hg => (hS.shp g x hg).imp fun e h => hs g _ h⟩
  exact (hS.blk b x hx).mono (List.getElem?_eq_some_iff.1 hx).1 (fun _ h => h) (fun k hk => hb k (hS.idom k hk)) (fun _ _ => rfl) (Nat.le_refl _) hs (fun g o hM hm => hb g (hS.live_lt ⟨b, x, o, hx, hm, hM⟩)) (fun _ _ _ _ h => h)

/-- A contract out of a theorem of the kit's on a call that leaves all that was there. -/
theorem good_of_calls {P : Program} {GT : Nat → Option AV} {f : FuncId} {fn : Func} {args : List AV} {H : Heap} {v : AV} (hf : P.funcs[f]? = some fn) (hname : (fn.name == "runtime.NumGoroutine") = false) (hb : fn.body.isSome = true)
    (h : ∀ (w : World) (M : AMap) (I : Nat → Prop) (cargs : List Value), Sim GT w M I H → RelL w M I H.length args cargs → Calls P f cargs.toArray w fun e w' => ∃ v', e = .returned v' ∧ Below w.heap.size w w' ∧ Rel w' M I H.length v v') (hn : noPan args = true := by first | rfl | exact Go.AM.noPan_view (by assumption) | exact Go.AM.noPan_tab (by assumption) | exact Go.AM.noPan_lst (by assumption)) : Good P GT f args H v H := by
  refine good_of_n hn ?_
  intro w M I cargs hS hA
  have h1 : fn.name ≠ "runtime.NumGoroutine" := by simpa using hname
  obtain ⟨c, hb⟩ := Option.isSome_iff_exists.1 hb
  have hrun : (callFunc f cargs.toArray).run P w = .ok (.enter f cargs.toArray) w := by simp [callFunc, hf, h1, hb]
  rw [hrun]
  exact (h w M I cargs hS hA).mono fun e w' ⟨v', he, hB, hR⟩ => ⟨v', he, M, I, (grow_of_below hS hB).1, (grow_of_below hS hB).2, hR⟩

theorem rel_raw' {w : World} {M : AMap} {I : Nat → Prop} {n : Nat} {a v : Value} (h : Rel w M I n (.raw a) v) : v = a := by cases h; rfl
theorem run_enter {P : Program} {f : FuncId} {fn : Func} {args : Array Value} {w : World} (hf : P.funcs[f]? = some fn) (hname : (fn.name == "runtime.NumGoroutine") = false) (hb : fn.body.isSome = true) : (callFunc f args).run P w = .ok (.enter f args) w := by
  have h1 : fn.name ≠ "runtime.NumGoroutine" := by simpa using hname
  obtain ⟨c, hb⟩ := Option.isSome_iff_exists.1 hb
  simp [callFunc, hf, h1, hb]

/-- A variable of one cell is written. -/
theorem grow_setBox {GT : Nat → Option AV} {w : World} {M : AMap} {I : Nat → Prop} {H : Heap} (hS : Sim GT w M I H) {b g o : Nat} {c x : AV} {v : Value} (hb : H[b]? = some (.box [c])) (hM : M b = some (g, o)) (hr : ∀ w, Rel w M I H.length x v) :
    Grow w M I H (w.setCell ⟨g, o, none⟩ v) M I (H.set b (.box [x])) ∧ Sim GT (w.setCell ⟨g, o, none⟩ v) M I (H.set b (.box [x])) := by
  obtain ⟨g', o', cur, h1, ⟨e, fz, hg, hfz⟩, h3, h4, h5⟩ := hS.blk b _ hb
  rw [hM] at h1
  simp only [Option.some.injEq, Prod.mk.injEq] at h1
  obtain ⟨rfl, rfl⟩ := h1
  have hlt := (Array.getElem?_eq_some_iff.1 hg).1
  have hh : (w.setCell ⟨g, o, none⟩ v).heap = w.heap.setIfInBounds g (.cells (cur.setIfInBounds o v) e fz) := by
    apply Array.ext_getElem?
    intro i
    simp only [World.setCell, Array.getElem?_modify, Array.getElem?_setIfInBounds]
    by_cases hi : g = i
    · subst hi
      have hg' : w.heap[g] = .cells cur e fz := (Array.getElem?_eq_some_iff.1 hg).2
      simp [hlt, hg']
    · simp [hi]
  refine Sim.write hS hb rfl hM hg (by simp) hh rfl rfl rfl ⟨g, o, cur.setIfInBounds o v, hM, ⟨e, fz, ?_, ?_⟩, h3, ?_, fun j c' hj => ?_⟩
  · rw [hh, Array.getElem?_setIfInBounds, if_pos rfl, if_pos hlt]
  · simpa using hfz
  · simpa using h4
  · cases j with
    | zero =>
      simp only [List.getElem?_cons_zero, Option.some.injEq] at hj
      subst hj
      refine ⟨v, ?_, hr _⟩
      simp only [List.length_cons, List.length_nil] at h4
      rw [Nat.add_zero, Array.getElem?_setIfInBounds, if_pos rfl, if_pos (by omega)]
    | succ j => simp at hj

end Go.AM
