/- The abstract machine, part 3: what becomes of the abstract heap where the world is written. Own work. -/
import Derived.Test.YtibdekobocpfdaaDoorAm2
set_option linter.all false
namespace Go.AM

variable {GT : Nat → Option AV} {w w' : World} {M : AMap} {I : Nat → Prop} {H : Heap}

theorem Cells.lt {g : Nat} {cur : Array Value} (h : Cells w g cur) : g < w.heap.size := by
  obtain ⟨e, fz, h1, _⟩ := h
  exact (Array.getElem?_eq_some_iff.1 h1).1

theorem Sim.live_lt (hS : Sim GT w M I H) {k : Nat} (h : LiveAt H M k) : k < w.heap.size := by
  obtain ⟨b, x, o, hb, hm, hM⟩ := h
  have hB := hS.blk b x hb
  cases x with
  | dead => simp [ABlk.mut] at hm
  | frz => simp [ABlk.mut] at hm
  | box cs =>
    obtain ⟨g, o', cur, h1, h2, _⟩ := hB
    rw [hM] at h1; simp at h1; obtain ⟨rfl, _⟩ := h1; exact h2.lt
  | row k' xs =>
    obtain ⟨_, ⟨h1, _⟩ | ⟨g, o', cur, h1, h2, _⟩⟩ := hB
    · rw [hM] at h1; cases h1
    · rw [hM] at h1; simp at h1; obtain ⟨rfl, _⟩ := h1; exact h2.lt

theorem Sim.glob' {n : Nat} {M' : AMap} (hS : Sim GT w M I H) (_ : ∀ c, c < n → M' c = M c) : ∀ g x, GT g = some x → Rel w M' I 0 (.lref x 0) (.pointer (some ⟨g, 0, none⟩)) :=
  fun g x hg => (hS.glob g x hg).free (by simp [AV.noRef, AV.bel])

/-- The map with one block more. -/
def more (M : AMap) (n : Nat) (p : Option (Nat × Nat)) : AMap := fun b => if b = n then p else M b

theorem more_old {M : AMap} {n : Nat} {p : Option (Nat × Nat)} {b : Nat} (h : b < n) : more M n p b = M b := by simp [more, Nat.ne_of_lt h]
theorem more_new {M : AMap} {n : Nat} {p : Option (Nat × Nat)} : more M n p n = p := by simp [more]

/-- The world turns only in draws. -/
theorem Grow.same (hh : w'.heap = w.heap) (ho : w'.os = w.os) (ht : w'.tape = w.tape) (hq : w'.output = w.output) : Grow w M I H w' M I H :=
  ⟨ho, ht, hq, by rw [hh]; exact Nat.le_refl _, fun _ _ => rfl, fun _ h => h, fun _ h _ => .inl h, fun _ _ _ => by rw [hh], fun _ _ h => h, fun g s h => by rw [shape?_of_heap (w := w) (by rw [hh])]; exact h, Nat.le_refl _⟩

theorem Sim.same (hS : Sim GT w M I H) (hh : w'.heap = w.heap) : Sim GT w' M I H := by
  have hb : ∀ k : Nat, w'.heap[k]? = w.heap[k]? := fun k => by rw [hh]
  refine ⟨fun g x hg => (hS.glob g x hg).mono (fun _ h => h) (fun k _ => hb k) (fun _ _ => rfl) (Nat.le_refl _) (fun g s h => by rw [shape?_of_heap (hb g)]; exact h), fun k hk => by rw [hh]; exact hS.idom k hk, fun b x hx => ?_, hS.inj, fun g x hg => (hS.shp g x hg).imp fun e h => by rw [shape?_of_heap (hb g)]; exact h⟩
  exact (hS.blk b x hx).mono (List.getElem?_eq_some_iff.1 hx).1 (fun _ h => h) (fun k _ => hb k) (fun _ _ => rfl) (Nat.le_refl _) (fun g s h => by rw [shape?_of_heap (hb g)]; exact h) (fun g _ _ _ => hb g) (fun _ _ _ _ h => h)

/-- One abstract block more, which lies nowhere (a nil slice that is appended to). -/
theorem Sim.pushNone (hS : Sim GT w M I H) {blk : ABlk} (hblk : blk.mut = true → BlkOK w (more M H.length none) I (H.length + 1) H.length blk) (hm : blk = .dead ∨ blk.mut = true) :
    Grow w M I H w (more M H.length none) I (H ++ [blk]) ∧ Sim GT w (more M H.length none) I (H ++ [blk]) := by
  have hold : ∀ b, b < H.length → more M H.length none b = M b := fun b hb => more_old hb
  refine ⟨⟨rfl, rfl, rfl, Nat.le_refl _, hold, fun _ h => h, fun _ h _ => .inl h, fun _ _ _ => rfl, fun k hk hl => ?_, fun _ _ h => h, by simp⟩, ⟨?_, hS.idom, fun b x hx => ?_, fun b b' x x' g o o' h1 h2 h3 h4 h5 h6 => ?_, hS.shp⟩⟩
  · obtain ⟨b, x, o, h1, h2, h3⟩ := hl
    by_cases hb : b < H.length
    · exact ⟨b, x, o, by rwa [List.getElem?_append_left hb] at h1, h2, by rwa [hold b hb] at h3⟩
    · have hlt := (List.getElem?_eq_some_iff.1 h1).1
      simp at hlt
      obtain rfl : b = H.length := by omega
      rw [more_new] at h3; cases h3
  · exact fun g x hg => (hS.glob g x hg).free (by simp [AV.noRef, AV.bel])
  · by_cases hb : b < H.length
    · rw [List.getElem?_append_left hb] at hx
      exact (hS.blk b x hx).mono hb (fun _ h => h) (fun _ _ => rfl) hold (by simp) (fun _ _ h => h) (fun _ _ _ _ => rfl) (fun _ _ _ _ h => h)
    · have hlt := (List.getElem?_eq_some_iff.1 hx).1
      simp at hlt
      obtain rfl : b = H.length := by omega
      simp at hx
      subst hx
      rcases hm with rfl | hm
      · trivial
      · simpa using hblk hm
  · by_cases hb : b < H.length
    · by_cases hb' : b' < H.length
      · rw [List.getElem?_append_left hb] at h1
        rw [List.getElem?_append_left hb'] at h3
        exact hS.inj b b' x x' g o o' h1 h2 h3 h4 (by rwa [hold b hb] at h5) (by rwa [hold b' hb'] at h6)
      · have hlt := (List.getElem?_eq_some_iff.1 h3).1
        simp at hlt
        obtain rfl : b' = H.length := by omega
        rw [more_new] at h6; cases h6
    · have hlt := (List.getElem?_eq_some_iff.1 h1).1
      simp at hlt
      obtain rfl : b = H.length := by omega
      rw [more_new] at h5; cases h5

/-- One block more, in the world and in the abstract heap. -/
theorem Sim.push (hS : Sim GT w M I H) {obj : Obj} (hh : w'.heap = w.heap.push obj) (ho : w'.os = w.os) (ht : w'.tape = w.tape) (hq : w'.output = w.output) {blk : ABlk}
    (hblk : BlkOK w' (more M H.length (some (w.heap.size, 0))) I (H.length + 1) H.length blk) :
    Grow w M I H w' (more M H.length (some (w.heap.size, 0))) I (H ++ [blk]) ∧ Sim GT w' (more M H.length (some (w.heap.size, 0))) I (H ++ [blk]) := by
  have hold : ∀ b, b < H.length → more M H.length (some (w.heap.size, 0)) b = M b := fun b hb => more_old hb
  have hb : ∀ k, k < w.heap.size → w'.heap[k]? = w.heap[k]? := fun k hk => by rw [hh, Array.getElem?_push, if_neg (by omega)]
  have hsh : ∀ g s, w.shape? g = some s → w'.shape? g = some s := fun g s h => by
    have hlt : g < w.heap.size := by
      unfold World.shape? at h
      split at h
      · exact (Array.getElem?_eq_some_iff.1 ‹_›).1
      · cases h
    rw [shape?_of_heap (hb g hlt)]; exact h
  refine ⟨⟨ho, ht, hq, by rw [hh]; simp, hold, fun _ h => h, fun _ h _ => .inl h, fun k hk _ => hb k hk, fun k hk hl => ?_, hsh, by simp⟩, ⟨?_, fun k hk => ?_, fun b x hx => ?_, fun b b' x x' g o o' h1 h2 h3 h4 h5 h6 => ?_, fun g x hg => (hS.shp g x hg).imp fun e h => hsh g _ h⟩⟩
  · obtain ⟨b, x, o, h1, h2, h3⟩ := hl
    by_cases hbl : b < H.length
    · exact ⟨b, x, o, by rwa [List.getElem?_append_left hbl] at h1, h2, by rwa [hold b hbl] at h3⟩
    · have hlt := (List.getElem?_eq_some_iff.1 h1).1
      simp at hlt
      obtain rfl : b = H.length := by omega
      rw [more_new] at h3
      simp at h3
      omega
  · exact fun g x hg => ((hS.glob g x hg).free (by simp [AV.noRef, AV.bel])).mono (M := M) (n := 0) (fun _ h => h) (fun k hk => hb k (hS.idom k hk)) (fun _ h => absurd h (Nat.not_lt_zero _)) (Nat.zero_le _) hsh
  · have := hS.idom k hk; rw [hh]; simp; omega
  · by_cases hbl : b < H.length
    · rw [List.getElem?_append_left hbl] at hx
      refine (hS.blk b x hx).mono hbl (fun _ h => h) (fun k hk => hb k (hS.idom k hk)) hold (by simp) hsh (fun g o hM hm => hb g (hS.live_lt ⟨b, x, o, hx, hm, hM⟩)) (fun _ _ _ _ h => h)
    · have hlt := (List.getElem?_eq_some_iff.1 hx).1
      simp at hlt
      obtain rfl : b = H.length := by omega
      simp at hx
      subst hx
      simpa using hblk
  · by_cases hbl : b < H.length
    · rw [List.getElem?_append_left hbl] at h1
      rw [hold b hbl] at h5
      by_cases hbl' : b' < H.length
      · rw [List.getElem?_append_left hbl'] at h3
        exact hS.inj b b' x x' g o o' h1 h2 h3 h4 h5 (by rwa [hold b' hbl'] at h6)
      · have hlt := (List.getElem?_eq_some_iff.1 h3).1
        simp at hlt
        obtain rfl : b' = H.length := by omega
        rw [more_new] at h6
        simp at h6
        have := hS.live_lt ⟨b, x, o, h1, h2, h5⟩
        omega
    · have hlt := (List.getElem?_eq_some_iff.1 h1).1
      simp at hlt
      obtain rfl : b = H.length := by omega
      rw [more_new] at h5
      simp at h5
      by_cases hbl' : b' < H.length
      · rw [List.getElem?_append_left hbl'] at h3
        rw [hold b' hbl'] at h6
        have := hS.live_lt ⟨b', x', o', h3, h4, h6⟩
        omega
      · have hlt' := (List.getElem?_eq_some_iff.1 h3).1
        simp at hlt'
        omega

/-- A block that may be written is written: 'cur' becomes 'cur'', of the same size. -/
theorem Sim.write (hS : Sim GT w M I H) {b g o : Nat} {x y : ABlk} (hx : H[b]? = some x) (hxm : x.mut = true) (hM : M b = some (g, o)) {cur cur' : Array Value} {e : TypeId} {fz : Nat × Nat}
    (hg : w.heap[g]? = some (.cells cur e fz)) (hsz : cur'.size = cur.size) (hh : w'.heap = w.heap.setIfInBounds g (.cells cur' e fz)) (ho : w'.os = w.os) (ht : w'.tape = w.tape) (hq : w'.output = w.output)
    (hy : BlkOK w' M I H.length b y) : Grow w M I H w' M I (H.set b y) ∧ Sim GT w' M I (H.set b y) := by
  have hlive : LiveAt H M g := ⟨b, x, o, hx, hxm, hM⟩
  have hnI : ¬ I g := fun h => hS.notLive h hlive
  have hlt := hS.live_lt hlive
  have hb : ∀ k, k ≠ g → w'.heap[k]? = w.heap[k]? := fun k hk => by rw [hh, Array.getElem?_setIfInBounds_ne (Ne.symm hk)]
  have hgg : w'.heap[g]? = some (.cells cur' e fz) := by rw [hh, Array.getElem?_setIfInBounds, if_pos rfl, if_pos hlt]
  have hsh : ∀ k s, w.shape? k = some s → w'.shape? k = some s := fun k s h => by
    by_cases hk : k = g
    · subst hk
      simp [World.shape?, hg] at h
      simp [World.shape?, hgg, hsz, h]
    · rw [shape?_of_heap (hb k hk)]; exact h
  have hIb : ∀ k, I k → w'.heap[k]? = w.heap[k]? := fun k hk => hb k (fun e => hnI (e ▸ hk))
  have hbl : b < H.length := (List.getElem?_eq_some_iff.1 hx).1
  have hset : ∀ c z, (H.set b y)[c]? = some z → (c = b ∧ z = y) ∨ (c ≠ b ∧ H[c]? = some z) := fun c z hz => by
    by_cases hc : c = b
    · subst hc; rw [List.getElem?_set_self hbl] at hz; exact .inl ⟨rfl, (Option.some.inj hz).symm⟩
    · rw [List.getElem?_set_ne (Ne.symm hc)] at hz; exact .inr ⟨hc, hz⟩
  refine ⟨⟨ho, ht, hq, by rw [hh]; simp, fun _ _ => rfl, fun _ h => h, fun _ h _ => .inl h, fun k hk hn => hb k (fun e => hn (e ▸ hlive)), fun k hk hl => ?_, hsh, by simp⟩, ⟨?_, fun k hk => ?_, fun c z hz => ?_, fun c c' z z' g' p p' h1 h2 h3 h4 h5 h6 => ?_, fun g x hg => (hS.shp g x hg).imp fun e h => hsh g _ h⟩⟩
  · obtain ⟨c, z, p, h1, h2, h3⟩ := hl
    rcases hset c z h1 with ⟨rfl, rfl⟩ | ⟨hc, h1⟩
    · exact ⟨c, x, p, hx, hxm, h3⟩
    · exact ⟨c, z, p, h1, h2, h3⟩
  · exact fun g' x' hg' => (hS.glob g' x' hg').mono (fun _ h => h) hIb (fun _ _ => rfl) (Nat.le_refl _) hsh
  · have := hS.idom k hk; rw [hh]; simpa using this
  · rcases hset c z hz with ⟨rfl, rfl⟩ | ⟨hc, h1⟩
    · simpa using hy
    · rw [List.length_set]
      refine (hS.blk c z h1).mono (List.getElem?_eq_some_iff.1 h1).1 (fun _ h => h) hIb (fun _ _ => rfl) (Nat.le_refl _) hsh (fun g' o' hM' hm' => hb g' (fun e => ?_)) (fun _ _ _ _ h => h)
      subst e
      exact hc (hS.inj c b z x g' o' o h1 hm' hx hxm hM' hM)
  · have key : ∀ c z p, (H.set b y)[c]? = some z → z.mut = true → M c = some (g', p) → ∃ z0, H[c]? = some z0 ∧ z0.mut = true := fun c z p h1 h2 h3 => by
      rcases hset c z h1 with ⟨rfl, rfl⟩ | ⟨_, h1⟩
      · exact ⟨x, hx, hxm⟩
      · exact ⟨z, h1, h2⟩
    obtain ⟨z0, a1, a2⟩ := key c z p h1 h2 h5
    obtain ⟨z0', a1', a2'⟩ := key c' z' p' h3 h4 h6
    exact hS.inj c c' z0 z0' g' p p' a1 a2 a1' a2' h5 h6

/-- A block is given up; what lies there is as it was. -/
theorem Sim.kill (hS : Sim GT w M I H) (b : Nat) : Grow w M I H w M I (H.set b .dead) ∧ Sim GT w M I (H.set b .dead) := by
  have hset : ∀ (c : Nat) (z : ABlk), (H.set b .dead)[c]? = some z → z = ABlk.dead ∨ H[c]? = some z := fun c z hz => by
    by_cases hc : b = c
    · subst hc
      have hbl : b < H.length := by have := (List.getElem?_eq_some_iff.1 hz).1; simpa using this
      rw [List.getElem?_set_self hbl] at hz; exact .inl (Option.some.inj hz).symm
    · rw [List.getElem?_set_ne hc] at hz; exact .inr hz
  refine ⟨⟨rfl, rfl, rfl, Nat.le_refl _, fun _ _ => rfl, fun _ h => h, fun _ h _ => .inl h, fun _ _ _ => rfl, fun k hk hl => ?_, fun _ _ h => h, by simp⟩, ⟨hS.glob, hS.idom, fun c z hz => ?_, fun c c' z z' g' p p' h1 h2 h3 h4 h5 h6 => ?_, hS.shp⟩⟩
  · obtain ⟨c, z, p, h1, h2, h3⟩ := hl
    rcases hset c z h1 with rfl | h1
    · simp [ABlk.mut] at h2
    · exact ⟨c, z, p, h1, h2, h3⟩
  · rcases hset c z hz with rfl | h1
    · trivial
    · rw [List.length_set]; exact hS.blk c z h1
  · rcases hset c z h1 with rfl | h1
    · simp [ABlk.mut] at h2
    · rcases hset c' z' h3 with rfl | h3
      · simp [ABlk.mut] at h4
      · exact hS.inj c c' z z' g' p p' h1 h2 h3 h4 h5 h6

/-- Only the first blocks are kept: none of what is kept names a block that goes. -/
theorem Sim.take (hS : Sim GT w M I H) (n : Nat) (hn : n ≤ H.length) (hbel : ∀ b cs, b < n → H[b]? = some (.box cs) → ∀ c ∈ cs, c.bel n = true) : Sim GT w M I (H.take n) := by
  have hget : ∀ c z, (H.take n)[c]? = some z → c < n ∧ H[c]? = some z := fun c z hz => by
    rw [List.getElem?_take] at hz
    split at hz
    · exact ⟨‹_›, hz⟩
    · cases hz
  refine ⟨hS.glob, hS.idom, fun c z hz => ?_, fun c c' z z' g' p p' h1 h2 h3 h4 h5 h6 => hS.inj c c' z z' g' p p' (hget c z h1).2 h2 (hget c' z' h3).2 h4 h5 h6, hS.shp⟩
  obtain ⟨hc, hz⟩ := hget c z hz
  have hB := hS.blk c z hz
  have hlen : (H.take n).length = n := by simp; omega
  rw [hlen]
  have F : ∀ {k : Nat} {xs : List AV} {i j : Nat} {x c : AV} {v : Value}, Elems k xs → xs[i]? = some x → x.cells[j]? = some c → Rel w M I H.length c v → Rel w M I n c v :=
    fun he hx hj h => h.free (AV.noRef_cells (AV.elem_iff.1 (he _ (List.mem_of_getElem? hx))).2.1 hj)
  cases z with
  | dead => trivial
  | box cs =>
    obtain ⟨g, o, cur, h1, h2, h3, h4, h5⟩ := hB
    exact ⟨g, o, cur, h1, h2, h3, h4, fun j c' hj => let ⟨v, a, b⟩ := h5 j c' hj; ⟨v, a, b.cut (fun _ _ => rfl) (hbel c cs hc hz c' (List.mem_of_getElem? hj))⟩⟩
  | row k xs =>
    obtain ⟨he, h | ⟨g, o, cur, h1, h2, h3, h4, h5⟩⟩ := hB
    · exact ⟨he, .inl h⟩
    · exact ⟨he, .inr ⟨g, o, cur, h1, h2, h3, h4, fun i j x c' hx hj => let ⟨v, a, b⟩ := h5 i j x c' hx hj; ⟨v, a, F he hx hj b⟩⟩⟩
  | frz k xs =>
    obtain ⟨he, h | ⟨g, o, h1, h3, h5⟩⟩ := hB
    · exact ⟨he, .inl h⟩
    · exact ⟨he, .inr ⟨g, o, h1, h3, fun i j x c' hx hj => let ⟨v, a, b⟩ := h5 i j x c' hx hj; ⟨v, a, F he hx hj b⟩⟩⟩

theorem Grow.take {H' : Heap} {M' : AMap} {I' : Nat → Prop} (h : Grow w M I H w' M' I' H') : Grow w M I H w' M' I' (H'.take H.length) :=
  { h with
    live := fun k hk hl => h.live k hk (by
      obtain ⟨b, x, o, h1, h2, h3⟩ := hl
      rw [List.getElem?_take] at h1
      split at h1
      · exact ⟨b, x, o, h1, h2, h3⟩
      · cases h1)
    len := by have := h.len; simp; omega }

theorem Cells.cell? {g : Nat} {cur : Array Value} (h : Cells w g cur) (j : Nat) : w.cell? ⟨g, j, none⟩ = cur[j]? := by
  obtain ⟨e, fz, h1, _⟩ := h
  simp [World.cell?, h1]

/-- A row is shut: from now on nobody writes it. -/
theorem Sim.shut (hS : Sim GT w M I H) {b k : Nat} {xs : List AV} (hx : H[b]? = some (.row k xs)) :
    ∃ I', Grow w M I H w M I' (H.set b (.frz k xs)) ∧ Sim GT w M I' (H.set b (.frz k xs)) ∧ ∀ g o, M b = some (g, o) → I' g := by
  have hbl : b < H.length := (List.getElem?_eq_some_iff.1 hx).1
  have hset : ∀ c z, (H.set b (.frz k xs))[c]? = some z → (c = b ∧ z = .frz k xs) ∨ (c ≠ b ∧ H[c]? = some z) := fun c z hz => by
    by_cases hc : c = b
    · subst hc; rw [List.getElem?_set_self hbl] at hz; exact .inl ⟨rfl, (Option.some.inj hz).symm⟩
    · rw [List.getElem?_set_ne (Ne.symm hc)] at hz; exact .inr ⟨hc, hz⟩
  have hB := hS.blk b _ hx
  have hII : ∀ k', I k' → I k' ∨ ∃ o, M b = some (k', o) := fun _ h => .inl h
  refine ⟨fun k' => I k' ∨ ∃ o, M b = some (k', o), ⟨rfl, rfl, rfl, Nat.le_refl _, fun _ _ => rfl, hII, fun k' h hlt => ?_, fun _ _ _ => rfl, fun k' hk hl => ?_, fun _ _ h => h, by simp⟩, ⟨?_, ?_, fun c z hz => ?_, fun c c' z z' g' p p' h1 h2 h3 h4 h5 h6 => ?_, hS.shp⟩, fun g o h => .inr ⟨o, h⟩⟩
  · rcases h with h | ⟨o, h⟩
    · exact .inl h
    · exact .inr ⟨b, _, o, hx, rfl, h⟩
  · obtain ⟨c, z, p, h1, h2, h3⟩ := hl
    rcases hset c z h1 with ⟨rfl, rfl⟩ | ⟨_, h1⟩
    · simp [ABlk.mut] at h2
    · exact ⟨c, z, p, h1, h2, h3⟩
  · exact fun g x hg => (hS.glob g x hg).mono hII (fun _ _ => rfl) (fun _ _ => rfl) (Nat.le_refl _) (fun _ _ h => h)
  · rintro k' (h | ⟨o, h⟩)
    · exact hS.idom k' h
    · exact hS.live_lt ⟨b, _, o, hx, rfl, h⟩
  · rw [List.length_set]
    rcases hset c z hz with ⟨rfl, rfl⟩ | ⟨hc, h1⟩
    · obtain ⟨he, h | ⟨g, o, cur, h1, h2, h3, h4, h5⟩⟩ := hB
      · exact ⟨he, .inl h⟩
      · exact ⟨he, .inr ⟨g, o, h1, .inr ⟨o, h1⟩, fun i j x c' hx' hj => let ⟨v, a, b⟩ := h5 i j x c' hx' hj; ⟨v, by rw [h2.cell?]; exact a, b.mono hII (fun _ _ => rfl) (fun _ _ => rfl) (Nat.le_refl _) (fun _ _ h => h)⟩⟩⟩
    · refine (hS.blk c z h1).mono (List.getElem?_eq_some_iff.1 h1).1 hII (fun _ _ => rfl) (fun _ _ => rfl) (Nat.le_refl _) (fun _ _ h => h) (fun _ _ _ _ => rfl) (fun g' o' hM' hm' hn => ?_)
      rintro (h | ⟨o, h⟩)
      · exact hn h
      · exact hc (hS.inj c b z _ g' o' o h1 hm' hx rfl hM' h)
  · rcases hset c z h1 with ⟨rfl, rfl⟩ | ⟨_, h1⟩
    · simp [ABlk.mut] at h2
    · rcases hset c' z' h3 with ⟨rfl, rfl⟩ | ⟨_, h3⟩
      · simp [ABlk.mut] at h4
      · exact hS.inj c c' z z' g' p p' h1 h2 h3 h4 h5 h6

/-! ### Shutting a value -/

theorem elems_cut {k : Nat} {xs : List AV} (h : Elems k xs) (o l : Nat) : Elems k ((xs.drop o).take l) := fun x hx => h x (List.mem_of_mem_drop (List.mem_of_mem_take hx))

/-- A slice over a shut row stands for the list of its elements. -/
theorem rel_of_frz (hS : Sim GT w M I H) {q : Option Bool} {b k off len : Nat} {xs : List AV} {v : Value} (hx : H[b]? = some (.frz k xs)) (hle : off + len ≤ xs.length) (h : Rel w M I H.length (.sl q b k off len) v) :
    Rel w M I H.length (.lst (frzQ q ((xs.drop off).take len)) k ((xs.drop off).take len)) v := by
  obtain ⟨he, hB⟩ := hS.blk b _ hx
  have hlen : ((xs.drop off).take len).length = len := by simp; omega
  cases h with
  | sln q b k off hb hM hq =>
    simp only [List.take_zero]
    refine .lnil _ _ ?_
    unfold frzQ
    split
    · exact absurd rfl hq
    · simp
    · simp
  | sl q b k off len g o p cap hb hM hc hm hq ha =>
    rcases hB with ⟨h1, rfl⟩ | ⟨g', o', h1, hI, h5⟩
    · rw [hM] at h1; cases h1
    · rw [hM] at h1
      simp only [Option.some.injEq, Prod.mk.injEq] at h1
      obtain ⟨rfl, rfl⟩ := h1
      have hqq : frzQ q ((xs.drop off).take len) ≠ some true := by
        unfold frzQ
        split
        · simp
        · have := hq rfl
          simp only [ne_eq, Option.some.injEq, List.isEmpty_iff]
          intro e; rw [e] at hlen; simp at hlen; omega
        · simp
      have := Rel.mk_lst (w := w) (M := M) (n := H.length) (q := frzQ q ((xs.drop off).take len)) (xs := (xs.drop off).take len) (g := g) (o := p) (cap := cap) (k := k) (I := I) hqq (by omega) hm hI (elems_cut he off len) (fun i j x c hi hj => by
        have hi' : i < len := by have := (List.getElem?_eq_some_iff.1 hi).1; omega
        rw [List.getElem?_take, if_pos hi', List.getElem?_drop] at hi
        obtain ⟨hp, _⟩ := ha (by omega)
        obtain ⟨v, a, b⟩ := h5 (off + i) j x c hi hj
        refine ⟨v, ?_, b⟩
        rw [hp, show o + off * k + i * k + j = o + (off + i) * k + j by rw [Nat.add_mul]; omega]
        exact a)
      rwa [hlen] at this

theorem frz_sound (n0 : Nat) : ∀ (x : AV) {w : World} {M : AMap} {I : Nat → Prop} {H : Heap} {v : Value} {x' : AV} {H' : Heap}, Sim GT w M I H → Rel w M I H.length x v → frzV n0 x H = some (x', H') →
    ∃ I', Grow w M I H w M I' H' ∧ Sim GT w M I' H' ∧ Rel w M I' H'.length x' v ∧ H'.length = H.length ∧ (∀ (b : Nat) (cs : List AV), H'[b]? = some (ABlk.box cs) → H[b]? = some (ABlk.box cs)) := by
  intro x
  refine AV.rec (motive_1 := fun x => ∀ {w : World} {M : AMap} {I : Nat → Prop} {H : Heap} {v : Value} {x' : AV} {H' : Heap}, Sim GT w M I H → Rel w M I H.length x v → frzV n0 x H = some (x', H') →
      ∃ I', Grow w M I H w M I' H' ∧ Sim GT w M I' H' ∧ Rel w M I' H'.length x' v ∧ H'.length = H.length ∧ (∀ (b : Nat) (cs : List AV), H'[b]? = some (ABlk.box cs) → H[b]? = some (ABlk.box cs)))
    (motive_2 := fun xs => ∀ {w : World} {M : AMap} {I : Nat → Prop} {H : Heap} {vs : List Value} {xs' : List AV} {H' : Heap}, Sim GT w M I H → RelL w M I H.length xs vs → frzL n0 xs H = some (xs', H') →
      ∃ I', Grow w M I H w M I' H' ∧ Sim GT w M I' H' ∧ RelL w M I' H'.length xs' vs ∧ H'.length = H.length ∧ (∀ (b : Nat) (cs : List AV), H'[b]? = some (ABlk.box cs) → H[b]? = some (ABlk.box cs)))
    ?undef ?bool ?int ?str ?agg ?tup ?lst ?lref ?ref ?sl ?nilp ?nilf ?nili ?nilm ?fn ?iface ?raw ?pan ?nil ?cons x
  case sl =>
    intro q b k off len w M I H v x' H' hS hx hf
    simp only [frzV] at hf
    split at hf
    · simp only [Option.some.injEq, Prod.mk.injEq] at hf; obtain ⟨rfl, rfl⟩ := hf
      exact ⟨I, Grow.refl .., hS, hx, rfl, fun _ _ h => h⟩
    · split at hf
      · rename_i k' xs hb
        split at hf
        · rename_i hc
          obtain ⟨rfl, hle⟩ := hc
          simp only [Option.some.injEq, Prod.mk.injEq] at hf; obtain ⟨rfl, rfl⟩ := hf
          obtain ⟨I', hG, hS', _⟩ := hS.shut hb
          have hbl : b < H.length := (List.getElem?_eq_some_iff.1 hb).1
          refine ⟨I', hG, hS', rel_of_frz hS' (List.getElem?_set_self hbl) hle (hG.rel hS hx), by simp, fun c cs h => ?_⟩
          by_cases hc : b = c
          · subst hc; rw [List.getElem?_set_self hbl] at h; cases h
          · rwa [List.getElem?_set_ne hc] at h
        · cases hf
      · rename_i k' xs hb
        split at hf
        · rename_i hc
          obtain ⟨rfl, hle⟩ := hc
          simp only [Option.some.injEq, Prod.mk.injEq] at hf; obtain ⟨rfl, rfl⟩ := hf
          exact ⟨I, Grow.refl .., hS, rel_of_frz hS hb hle hx, rfl, fun _ _ h => h⟩
        · cases hf
      · cases hf
  case agg =>
    intro cs ih w M I H v x' H' hS hx hf
    simp only [frzV] at hf
    split at hf
    · rename_i cs' H1 h1
      simp only [Option.some.injEq, Prod.mk.injEq] at hf; obtain ⟨rfl, rfl⟩ := hf
      cases hx with
      | agg cs vs hl h =>
        obtain ⟨I', a, b, c, d, e⟩ := ih hS ⟨hl, h⟩ h1
        exact ⟨I', a, b, .agg _ _ c.1 c.2, d, e⟩
    · cases hf
  case tup =>
    intro cs ih w M I H v x' H' hS hx hf
    simp only [frzV] at hf
    split at hf
    · rename_i cs' H1 h1
      simp only [Option.some.injEq, Prod.mk.injEq] at hf; obtain ⟨rfl, rfl⟩ := hf
      cases hx with
      | tup cs vs hl h =>
        obtain ⟨I', a, b, c, d, e⟩ := ih hS ⟨hl, h⟩ h1
        exact ⟨I', a, b, .tup _ _ c.1 c.2, d, e⟩
    · cases hf
  case iface =>
    intro t y ih w M I H v x' H' hS hx hf
    simp only [frzV] at hf
    split at hf
    · rename_i y' H1 h1
      simp only [Option.some.injEq, Prod.mk.injEq] at hf; obtain ⟨rfl, rfl⟩ := hf
      cases hx with
      | iface t y u h =>
        obtain ⟨I', a, b, c, d, e⟩ := ih hS h h1
        exact ⟨I', a, b, .iface _ _ _ c, d, e⟩
    · cases hf
  case nil =>
    intro w M I H vs xs' H' hS hx hf
    simp only [frzL, Option.some.injEq, Prod.mk.injEq] at hf; obtain ⟨rfl, rfl⟩ := hf
    exact ⟨I, Grow.refl .., hS, hx, rfl, fun _ _ h => h⟩
  case cons =>
    intro x r ihx ihr w M I H vs xs' H' hS hx hf
    simp only [frzL] at hf
    split at hf
    · rename_i x1 H1 h1
      split at hf
      · rename_i r1 H2 h2
        simp only [Option.some.injEq, Prod.mk.injEq] at hf; obtain ⟨rfl, rfl⟩ := hf
        obtain ⟨hl, hr⟩ := hx
        match vs, hl with
        | v :: us, hl =>
          obtain ⟨I1, a1, b1, c1, d1, e1⟩ := ihx hS (hr 0 x v rfl rfl) h1
          have hr1 : RelL w M I1 H1.length r us := ⟨by simpa using hl, fun i c v hc hv => a1.rel hS (hr (i + 1) c v (by simpa using hc) (by simpa using hv))⟩
          obtain ⟨I2, a2, b2, c2, d2, e2⟩ := ihr b1 hr1 h2
          refine ⟨I2, a1.trans a2, b2, ⟨by simpa using c2.1, fun i c v hc hv => ?_⟩, d2.trans d1, fun b cs h => e1 b cs (e2 b cs h)⟩
          cases i with
          | zero =>
            simp at hc hv; subst hc hv
            exact a2.rel b1 c1
          | succ i => exact c2.2 i c v (by simpa using hc) (by simpa using hv)
      · cases hf
    · cases hf
  all_goals
    intros
    rename_i hS hx hf
    simp only [frzV, Option.some.injEq, Prod.mk.injEq] at hf; obtain ⟨rfl, rfl⟩ := hf
    exact ⟨_, Grow.refl .., hS, hx, rfl, fun _ _ h => h⟩

end Go.AM
