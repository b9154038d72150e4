/- The abstract machine, part 7: appends, new rows. Own work. -/
import Derived.Test.YtibdekobocpfdaaDoorAm6
set_option linter.all false
namespace Go.AM

section
variable {P : Program} {GT : Nat → Option AV} {w : World} {M : AMap} {I : Nat → Prop} {H : Heap}

/-- A row that is given up lives on, written, under a new number. -/
theorem Sim.regrow {w' : World} (hS : Sim GT w M I H) {b g o o2 : Nat} {x y : ABlk} (hx : H[b]? = some x) (hxm : x.mut = true) (hM : M b = some (g, o)) {cur cur' : Array Value} {e : TypeId} {fz : Nat × Nat}
    (hg : w.heap[g]? = some (.cells cur e fz)) (hsz : cur'.size = cur.size) (hh : w'.heap = w.heap.setIfInBounds g (.cells cur' e fz)) (ho : w'.os = w.os) (ht : w'.tape = w.tape) (hq : w'.output = w.output)
    (hy : BlkOK w' (more M H.length (some (g, o2))) I (H.length + 1) H.length y) :
    Grow w M I H w' (more M H.length (some (g, o2))) I (H.set b .dead ++ [y]) ∧ Sim GT w' (more M H.length (some (g, o2))) I (H.set b .dead ++ [y]) := by
  obtain ⟨G, S⟩ := Sim.write (y := .dead) hS hx hxm hM hg hsz hh ho ht hq trivial
  have hlive : LiveAt H M g := ⟨b, x, o, hx, hxm, hM⟩
  have hnI : ¬ I g := fun h => hS.notLive h hlive
  have hlen : (H.set b .dead).length = H.length := by simp
  have hold : ∀ c, c < H.length → more M H.length (some (g, o2)) c = M c := fun c hc => more_old hc
  have hnone : ¬ LiveAt (H.set b .dead) M g := by
    rintro ⟨c, z, p, h1, h2, h3⟩
    by_cases hc : b = c
    · subst hc
      have hbl := (List.getElem?_eq_some_iff.1 hx).1
      rw [List.getElem?_set_self hbl] at h1
      obtain rfl := Option.some.inj h1
      simp [ABlk.mut] at h2
    · rw [List.getElem?_set_ne hc] at h1
      exact hc (hS.inj c b z x g p o h1 h2 hx hxm h3 hM).symm
  have hget : ∀ c z, (H.set b .dead ++ [y])[c]? = some z → (c < H.length ∧ (H.set b .dead)[c]? = some z) ∨ (c = H.length ∧ z = y) := fun c z hz => by
    by_cases hc : c < H.length
    · rw [List.getElem?_append_left (by simpa using hc)] at hz; exact .inl ⟨hc, hz⟩
    · have hlt := (List.getElem?_eq_some_iff.1 hz).1
      simp at hlt
      obtain rfl : c = H.length := by omega
      rw [← hlen] at hz
      simp at hz
      exact .inr ⟨rfl, hz.symm⟩
  refine ⟨⟨G.os, G.tape, G.output, G.size, hold, G.imm, G.imm', G.frame, fun k hk hl => ?_, G.shape, by simp⟩, ⟨S.glob' hold, S.idom, fun c z hz => ?_, fun c c' z z' g' p p' h1 h2 h3 h4 h5 h6 => ?_, S.shp⟩⟩
  · obtain ⟨c, z, p, h1, h2, h3⟩ := hl
    rcases hget c z h1 with ⟨hc, h1⟩ | ⟨rfl, rfl⟩
    · exact G.live k hk ⟨c, z, p, h1, h2, by rwa [hold c hc] at h3⟩
    · rw [more_new] at h3
      simp only [Option.some.injEq, Prod.mk.injEq] at h3
      obtain ⟨rfl, _⟩ := h3
      exact hlive
  · rcases hget c z hz with ⟨hc, h1⟩ | ⟨rfl, rfl⟩
    · refine (S.blk c z h1).mono (by simpa using hc) (fun _ h => h) (fun _ _ => rfl) (fun b hb => hold b (by simpa using hb)) (by simp) (fun _ _ h => h) (fun _ _ _ _ => rfl) (fun _ _ _ _ h => h)
    · simpa using hy
  · rcases hget c z h1 with ⟨hc, k1⟩ | ⟨rfl, rfl⟩
    · rw [hold c hc] at h5
      rcases hget c' z' h3 with ⟨hc', k3⟩ | ⟨rfl, rfl⟩
      · rw [hold c' hc'] at h6
        exact S.inj c c' z z' g' p p' k1 h2 k3 h4 h5 h6
      · rw [more_new] at h6
        simp only [Option.some.injEq, Prod.mk.injEq] at h6
        obtain ⟨rfl, _⟩ := h6
        exact absurd ⟨c, z, p, k1, h2, h5⟩ hnone
    · rw [more_new] at h5
      simp only [Option.some.injEq, Prod.mk.injEq] at h5
      obtain ⟨rfl, _⟩ := h5
      rcases hget c' z' h3 with ⟨hc', k3⟩ | ⟨rfl, rfl⟩
      · rw [hold c' hc'] at h6
        exact absurd ⟨c', z', p', k3, h4, h6⟩ hnone
      · rfl

theorem append_firsts {k m : Nat} {yv : Value} {news : List Value} {w' : World} (hw : ∀ a, w'.cell? a = w.cell? a)
    (hy : ((yv = .slice none 0 0 ∨ ∃ a, yv = .slice (some a) 0 0) ∧ m = 0 ∧ news = []) ∨ ∃ g p cap, yv = .slice (some ⟨g, p, none⟩) m cap ∧ news.length = m * k ∧ ∀ j u, news[j]? = some u → w.cell? ⟨g, p + j, none⟩ = some u) :
    (Builtin.firstCells k m yv).run P w' = .ok news.toArray w' ∧ (Builtin.lenOf yv).run P w' = .ok m w' := by
  rcases hy with ⟨rfl | ⟨a, rfl⟩, rfl, rfl⟩ | ⟨g, p, cap, rfl, hl, hc⟩
  · exact ⟨by simp [Builtin.firstCells], by simp [Builtin.lenOf]⟩
  · exact ⟨by simp [Builtin.firstCells, loadCells, loadCellsFrom], by simp [Builtin.lenOf]⟩
  · exact ⟨run_firstCells_some w' k m _ m cap news hl (fun j u hu => by rw [hw, Addr.add_lit]; exact hc j u hu), by simp [Builtin.lenOf]⟩

/-- What is appended: a slice's cells, or a string's bytes. -/
structure Src (P : Program) (w : World) (k m : Nat) (u : TypeId) (yv : Value) (news : List Value) : Prop where
  ty : (∃ e, P.underlying u = some (.slice e)) ∨ P.underlying u = some .string
  len : ∀ w' : World, (∀ a, w'.cell? a = w.cell? a) → (Builtin.lenOf yv).run P w' = .ok m w'
  first : ∀ w' : World, (∀ a, w'.cell? a = w.cell? a) → (Builtin.firstCells k m yv).run P w' = .ok news.toArray w'

theorem Src.of_slice {k m : Nat} {u e : TypeId} {yv : Value} {news : List Value} (hu : P.underlying u = some (.slice e))
    (hy : ((yv = .slice none 0 0 ∨ ∃ a, yv = .slice (some a) 0 0) ∧ m = 0 ∧ news = []) ∨ ∃ g p cap, yv = .slice (some ⟨g, p, none⟩) m cap ∧ news.length = m * k ∧ ∀ j u, news[j]? = some u → w.cell? ⟨g, p + j, none⟩ = some u) :
    Src P w k m u yv news := by
  refine ⟨.inl ⟨e, hu⟩, fun w' hw => (append_firsts hw hy).2, fun w' hw => (append_firsts hw hy).1⟩

theorem Src.of_str {u : TypeId} (hu : P.underlying u = some .string) (s : List UInt8) : Src P w 1 s.length u (.string ⟨s.toArray⟩) (s.map fun b => .int .u8 b.toNat) := by
  have hz : (⟨s.toArray⟩ : ByteArray).size = s.length := by simp [ByteArray.size]
  refine ⟨.inr hu, fun w' _ => by simp [Builtin.lenOf, hz], fun w' _ => ?_⟩
  have he : (⟨s.toArray⟩ : ByteArray).extract 0 s.length = ⟨s.toArray⟩ := by
    rw [← hz]; exact ByteArray.extract_zero_size
  simp only [Builtin.firstCells, he, Sem.run_pure]
  congr 1
  simp

theorem run_append_nil_src {t u ty e : TypeId} {i : TypeInfo} {z : Value} (ht : P.underlying t = some (.slice e)) (hi : P.info? e = some i) (hz : i.zero = some z) {m : Nat} {yv : Value} {news : List Value}
    (hs : Src P w i.size m u yv news) (h0 : 0 < m) (h63 : (m : Int) ≤ 9223372036854775807) (h48 : m * i.bytes ≤ 281474976710656) :
    (Builtin.append_ #[t, u] ty #[.slice none 0 0, yv]).run P w =
      .ok (.slice (some ⟨w.heap.size, 0, none⟩) m (grownCap w m 0 e)) (w.drew.alloc (.cells (news.toArray ++ Builtin.zeroCells z.cells (grownCap w m 0 e - m)) e)) := by
  have hn : m ≠ 0 := by omega
  have h63' : ¬ (9223372036854775807 < (m : Int)) := by omega
  have h48' : ¬ (281474976710656 < Builtin.nextslicecap m 0 * i.bytes) := by rw [nextslicecap_zero h0]; omega
  have hl := hs.len w (fun _ => rfl)
  have hf := hs.first w.drew (fun _ => rfl)
  rcases hs.ty with ⟨e', hu⟩ | hu
  · simp [Builtin.append_, run_underlying ht, run_underlying hu, sizeOf, typeInfo, zeroValue, hi, hz, hl, hn, h63', h48', Question.forced, run_firstCells_none, hf, newRow, grownCap]
  · simp [Builtin.append_, run_underlying ht, run_underlying hu, sizeOf, typeInfo, zeroValue, hi, hz, hl, hn, h63', h48', Question.forced, run_firstCells_none, hf, newRow, grownCap]

theorem run_append_none_src {t u ty e : TypeId} {i : TypeInfo} (ht : P.underlying t = some (.slice e)) (hi : P.info? e = some i) {yv : Value}
    (hs : Src P w i.size 0 u yv []) : (Builtin.append_ #[t, u] ty #[.slice none 0 0, yv]).run P w = .ok (.slice none 0 0) w := by
  have hl := hs.len w (fun _ => rfl)
  have hf := hs.first w (fun _ => rfl)
  rcases hs.ty with ⟨e', hu⟩ | hu
  · simp [Builtin.append_, run_underlying ht, run_underlying hu, sizeOf, typeInfo, hi, hl, hf]
  · simp [Builtin.append_, run_underlying ht, run_underlying hu, sizeOf, typeInfo, hi, hl, hf]

theorem run_append_none_src' {t u ty e : TypeId} {i : TypeInfo} (ht : P.underlying t = some (.slice e)) (hi : P.info? e = some i) {yv : Value} {a : Addr} {n c : Nat} (hc : n ≤ c)
    (hs : Src P w i.size 0 u yv []) : (Builtin.append_ #[t, u] ty #[.slice (some a) n c, yv]).run P w = .ok (.slice (some a) n c) w := by
  have hl := hs.len w (fun _ => rfl)
  have hf := hs.first w (fun _ => rfl)
  rcases hs.ty with ⟨e', hu⟩ | hu
  · simp [Builtin.append_, run_underlying ht, run_underlying hu, sizeOf, typeInfo, hi, hl, hf, hc, storeCells]
  · simp [Builtin.append_, run_underlying ht, run_underlying hu, sizeOf, typeInfo, hi, hl, hf, hc, storeCells]

theorem run_append_grow_src {t u ty e : TypeId} {i : TypeInfo} {z : Value} (ht : P.underlying t = some (.slice e)) (hi : P.info? e = some i) (hz : i.zero = some z)
    (b : Addr) (sLen sCap : Nat) (olds : List Value) (hlo : olds.length = sLen * i.size) (holds : ∀ j v, olds[j]? = some v → w.cell? (b.add j) = some v)
    {n : Nat} {yv : Value} {news : List Value} (hs : Src P w i.size n u yv news)
    (hg : sCap < sLen + n) (h63 : ((sLen + n : Nat) : Int) ≤ 9223372036854775807) (hfit : Builtin.nextslicecap (sLen + n) sCap * i.bytes ≤ 281474976710656) :
    (Builtin.append_ #[t, u] ty #[.slice (some b) sLen sCap, yv]).run P w =
      .ok (.slice (some ⟨w.heap.size, 0, none⟩) (sLen + n) (grownCap w (sLen + n) sCap e))
        (w.drew.alloc (.cells (olds.toArray ++ news.toArray ++ Builtin.zeroCells z.cells (grownCap w (sLen + n) sCap e - (sLen + n))) e)) := by
  have hn : ¬ (sLen + n ≤ sCap) := by omega
  have h63' : ¬ (9223372036854775807 < ((sLen : Int) + (n : Int))) := by omega
  have h48' : ¬ (281474976710656 < Builtin.nextslicecap (sLen + n) sCap * i.bytes) := by omega
  have hl := hs.len w (fun _ => rfl)
  have hf := hs.first w.drew (fun _ => rfl)
  have hfo := run_firstCells_some (P := P) w.drew i.size sLen b sLen sCap olds hlo (by simpa using holds)
  rcases hs.ty with ⟨e', hu⟩ | hu
  · simp [Builtin.append_, run_underlying ht, run_underlying hu, sizeOf, typeInfo, zeroValue, hi, hz, hl, hn, h63', h48', Question.forced, hf, hfo, newRow, grownCap]
    congr 2
    apply Array.ext'
    simp [List.append_assoc]
  · simp [Builtin.append_, run_underlying ht, run_underlying hu, sizeOf, typeInfo, zeroValue, hi, hz, hl, hn, h63', h48', Question.forced, hf, hfo, newRow, grownCap]
    congr 2
    apply Array.ext'
    simp [List.append_assoc]

/-- New rows: what was there, what comes, and room. -/
theorem rowOK_new {w' : World} {M' : AMap} {n b k g o : Nat} {cur : Array Value} {ys : List AV} {cells : List Value} (he : Elems k ys) (hM : M' b = some (g, o)) (hC : Cells w' g cur) (hI : ¬ I g) (hlen : o + ys.length * k ≤ cur.size)
    (hcur : ∀ j, j < ys.length * k → cur[o + j]? = cells[j]?) (hcl : cells.length = ys.length * k) (hr : ∀ i j x c, ys[i]? = some x → x.cells[j]? = some c → ∃ u, cells[i * k + j]? = some u ∧ Rel w' M' I n c u) : BlkOK w' M' I n b (.row k ys) := by
  refine ⟨he, .inr ⟨g, o, cur, hM, hC, hI, hlen, fun i j x c hi hj => ?_⟩⟩
  obtain ⟨u, hu, hru⟩ := hr i j x c hi hj
  have := (List.getElem?_eq_some_iff.1 hu).1
  exact ⟨u, by rw [Nat.add_assoc, hcur _ (by omega)]; exact hu, hru⟩

theorem Sim.glob_more (hS : Sim GT w M I H) (p : Option (Nat × Nat)) : ∀ g x, GT g = some x → Rel w (more M H.length p) I 0 (.lref x 0) (.pointer (some ⟨g, 0, none⟩)) :=
  fun g x hg => (hS.glob g x hg).free (by simp [AV.noRef, AV.bel])

/-- What 'append' comes to where nothing was there. -/
theorem append_nil_src (hS : Sim GT w M I H) {t u ty e : TypeId} {i : TypeInfo} {z : Value} {k bytes : Nat} (ht : P.underlying t = some (.slice e)) (hi : P.info? e = some i) (hk : i.size = k) (hb : i.bytes = bytes) (hz : i.zero = some z) (hzc : z.cells.size = k) (hk0 : 0 < k)
    {yv : Value} {ys : List AV} {news : List Value} (he : Elems k ys) (hsrc : Src P w k ys.length u yv news) (n1 : news.length = ys.length * k) (n4 : ∀ i j x c, ys[i]? = some x → x.cells[j]? = some c → ∃ u, news[i * k + j]? = some u ∧ Rel w M I H.length c u)
    (h1 : ys.length ≤ 9223372036854775807) (h2 : ys.length * bytes ≤ 140737488355328) (q : Option Bool) (hq : q ≠ some false) :
    RunsTo P GT w M I H (Builtin.append_ #[t, u] ty #[.slice none 0 0, yv]) (.sl q H.length k 0 ys.length) (H ++ [.row k ys]) := by
  by_cases hemp : ys = []
  · subst hemp
    obtain rfl : news = [] := List.eq_nil_of_length_eq_zero (by simpa using n1)
    subst hk
    have hrun := run_append_none_src (ty := ty) ht hi hsrc
    obtain ⟨G, S⟩ := hS.pushNone (blk := .row i.size []) (fun _ => ⟨fun _ h => absurd h (by simp), .inl ⟨more_new, rfl⟩⟩) (.inr rfl)
    exact ⟨_, w, _, I, hrun, G, S, .sln q H.length _ 0 (by simp) more_new hq⟩
  · have hpos : 0 < ys.length := List.length_pos_iff.2 hemp
    subst hk hb
    have hr := run_append_nil_src (ty := ty) ht hi hz hsrc hpos (by omega) (by omega)
    have hge := grownCap_ge w ys.length 0 e
    have hcm' : grownCap w ys.length 0 e ≤ maxLen := grownCap_le_maxLen w ys.length 0 e (by simp only [maxLen]; omega)
    have hsize : (news.toArray ++ Builtin.zeroCells z.cells (grownCap w ys.length 0 e - ys.length)).size = grownCap w ys.length 0 e * i.size := by
      simp only [Array.size_append, List.size_toArray, size_zeroCells, hzc, n1, ← Nat.add_mul]
      congr 1; omega
    have hheap : (w.drew.alloc (.cells (news.toArray ++ Builtin.zeroCells z.cells (grownCap w ys.length 0 e - ys.length)) e)).heap = w.heap.push (.cells (news.toArray ++ Builtin.zeroCells z.cells (grownCap w ys.length 0 e - ys.length)) e) := rfl
    have R : ∀ {c v}, Rel w M I H.length c v → c.noRef = true → Rel (w.drew.alloc (.cells (news.toArray ++ Builtin.zeroCells z.cells (grownCap w ys.length 0 e - ys.length)) e)) (more M H.length (some (w.heap.size, 0))) I (H.length + 1) c v := fun h hn => by
      have := (Sim.push (blk := .dead) hS hheap rfl rfl rfl trivial).1.rel hS h
      simpa using this
    obtain ⟨G, S⟩ := hS.push (blk := .row i.size ys) hheap rfl rfl rfl (rowOK_new (cells := news) (o := 0) he more_new ⟨e, (0, 0), by rw [hheap, Array.getElem?_push, if_pos rfl], fun j _ h => absurd h.2 (Nat.not_lt_zero _)⟩
      (fun h => absurd (hS.idom _ h) (Nat.lt_irrefl _)) (by rw [hsize]; simpa using Nat.mul_le_mul_right _ hge)
      (fun j hj => by rw [Nat.zero_add, Array.getElem?_append_left (by simp; omega)]; simp) n1 (fun a j x c hx hj => by
        obtain ⟨u, h1, h2⟩ := n4 a j x c hx hj
        exact ⟨u, h1, R h2 (AV.noRef_cells (AV.elem_iff.1 (he x (List.mem_of_getElem? hx))).2.1 hj)⟩))
    refine ⟨_, _, _, I, hr, G, S, ?_⟩
    exact .sl q H.length i.size 0 ys.length w.heap.size 0 0 _ (by simp) more_new hge hcm' (fun _ => hpos) (fun _ => ⟨by simp, e, _, by simp [World.shape?, hheap]; rfl, by have h := hsize; rw [Array.size_append, List.size_toArray] at h; simp only [Nat.zero_add]; omega⟩)

/-- The cells of a slice that is appended. -/
theorem src_of_view (hS : Sim GT w M I H) {u e : TypeId} (hu : P.underlying u = some (.slice e)) {k : Nat} {yv : Value} {y : AV} (hy : Rel w M I H.length y yv) {ys : List AV} (hv : view H k y = some ys) :
    Elems k ys ∧ ∃ news : List Value, Src P w k ys.length u yv news ∧ news.length = ys.length * k ∧ (∀ u ∈ news, u.oneCell' = true) ∧ ∀ i j x c, ys[i]? = some x → x.cells[j]? = some c → ∃ u, news[i * k + j]? = some u ∧ Rel w M I H.length c u := by
  obtain ⟨he, hyv⟩ := view_sound hS hy hv
  refine ⟨he, ?_⟩
  rcases hyv with ⟨hyv, rfl⟩ | ⟨g1, p1, cap1, rfl, _, _, hr1⟩
  · exact ⟨[], .of_slice hu (.inl ⟨hyv, rfl, rfl⟩), by simp, by simp, by simp⟩
  · obtain ⟨news, n1, n2, n3, n4⟩ := hr1.flat he
    exact ⟨news, .of_slice hu (.inr ⟨g1, p1, cap1, rfl, n1, n2⟩), n1, n3, n4⟩

theorem append_nil_sound (hS : Sim GT w M I H) {t ty e : TypeId} {i : TypeInfo} {z : Value} {k bytes : Nat} (ht : P.underlying t = some (.slice e)) (hi : P.info? e = some i) (hk : i.size = k) (hb : i.bytes = bytes) (hz : i.zero = some z) (hzc : z.cells.size = k) (hk0 : 0 < k)
    {yv : Value} {y : AV} (hy : Rel w M I H.length y yv) {ys : List AV} (hv : view H k y = some ys) (h1 : ys.length ≤ 9223372036854775807) (h2 : ys.length * bytes ≤ 140737488355328) (q : Option Bool) (hq : q ≠ some false) :
    RunsTo P GT w M I H (Builtin.append_ #[t, t] ty #[.slice none 0 0, yv]) (.sl q H.length k 0 ys.length) (H ++ [.row k ys]) := by
  obtain ⟨he, news, hs, n1, _, n4⟩ := src_of_view hS ht hy hv
  exact append_nil_src hS ht hi hk hb hz hzc hk0 he hs n1 n4 h1 h2 q hq

/-- 'append' to a row of one's own. -/
theorem append_row_src (hS : Sim GT w M I H) {t u ty e : TypeId} {i : TypeInfo} {z : Value} {k bytes : Nat} (ht : P.underlying t = some (.slice e)) (hi : P.info? e = some i) (hk : i.size = k) (hb : i.bytes = bytes) (hz : i.zero = some z) (hzc : z.cells.size = k) (hk0 : 0 < k)
    {yv s : Value} {ys xs : List AV} {news : List Value} (he : Elems k ys) (hsrc : Src P w k ys.length u yv news) (n1 : news.length = ys.length * k) (n3 : ∀ u ∈ news, u.oneCell' = true) (n4 : ∀ i j x c, ys[i]? = some x → x.cells[j]? = some c → ∃ u, news[i * k + j]? = some u ∧ Rel w M I H.length c u) {q : Option Bool} {b off len : Nat} (hs : Rel w M I H.length (.sl q b k off len) s) (hx : H[b]? = some (.row k xs)) (hle : off + len ≤ xs.length)
    (h1 : len + ys.length ≤ 9223372036854775807) (h2 : (len + ys.length) * bytes ≤ 140737488355328) :
    RunsTo P GT w M I H (Builtin.append_ #[t, u] ty #[s, yv]) (.sl q H.length k 0 (len + ys.length)) (H.set b .dead ++ [.row k ((xs.drop off).take len ++ ys)]) := by
  have hbl : b < H.length := (List.getElem?_eq_some_iff.1 hx).1
  cases hs with
  | sln _ _ _ _ hbn hM hq =>
    obtain ⟨Gk, Sk⟩ := hS.kill b
    simp only [List.take_zero, List.nil_append, Nat.zero_add]
    rw [show H.length = (H.set b .dead).length by simp]
    obtain ⟨v', w', M', I', r, G, S, R⟩ := append_nil_src (P := P) (ty := ty) Sk ht hi hk hb hz hzc hk0 he hsrc n1 (fun i j x c hi hj => let ⟨u, a, b⟩ := n4 i j x c hi hj; ⟨u, a, by simpa using b⟩) (by simpa using h1) (by simpa using h2) q hq
    exact ⟨v', w', M', I', r, Gk.trans G, S, R⟩
  | sl _ _ _ _ _ g o p cap hbn hM hc hm hq ha =>
    obtain ⟨hex, ⟨h1', _⟩ | ⟨g', o', cur, h1', h2', h3, h4, h5⟩⟩ := hS.blk b _ hx
    · rw [hM] at h1'; cases h1'
    rw [hM] at h1'; simp only [Option.some.injEq, Prod.mk.injEq] at h1'; obtain ⟨rfl, rfl⟩ := h1'
    have hrow : RowAt w M I H.length g o k xs := fun i j x c hi hj => let ⟨u, a, b⟩ := h5 i j x c hi hj; ⟨u, by rw [h2'.cell?]; exact a, b⟩
    have hcut := hrow.cut off len
    have hec := elems_cut hex off len
    have hlen : ((xs.drop off).take len).length = len := by simp; omega
    obtain ⟨olds, o1, o2, o3, o4⟩ := hcut.flat hec
    rw [hlen] at o1
    have hall : ∀ (cells : List Value), cells = olds ++ news → ∀ i j x c, ((xs.drop off).take len ++ ys)[i]? = some x → x.cells[j]? = some c → ∃ u, cells[i * k + j]? = some u ∧ Rel w M I H.length c u ∧ c.noRef = true := by
      rintro cells rfl i j x c hi hj
      by_cases hil : i < len
      · rw [List.getElem?_append_left (by omega)] at hi
        obtain ⟨u, a, r⟩ := o4 i j x c hi hj
        have := (List.getElem?_eq_some_iff.1 a).1
        exact ⟨u, by rw [List.getElem?_append_left this]; exact a, r, AV.noRef_cells (AV.elem_iff.1 (hec x (List.mem_of_getElem? hi))).2.1 hj⟩
      · rw [List.getElem?_append_right (by omega), hlen] at hi
        obtain ⟨u, a, r⟩ := n4 _ j x c hi hj
        refine ⟨u, ?_, r, AV.noRef_cells (AV.elem_iff.1 (he x (List.mem_of_getElem? hi))).2.1 hj⟩
        have hik : len * k ≤ i * k := Nat.mul_le_mul_right _ (by omega)
        rw [List.getElem?_append_right (by omega), o1, ← a]
        congr 1
        rw [Nat.sub_mul]; omega
    have heall : Elems k ((xs.drop off).take len ++ ys) := fun x hx => by
      rcases List.mem_append.1 hx with hx | hx
      · exact hec x hx
      · exact he x hx
    have hcl : (olds ++ news).length = ((xs.drop off).take len ++ ys).length * k := by rw [List.length_append, List.length_append, o1, n1, hlen, Nat.add_mul]
    have hall' : ((xs.drop off).take len ++ ys).length = len + ys.length := by rw [List.length_append, hlen]
    by_cases hroom : len + ys.length ≤ cap
    · -- there is room
      obtain ⟨e', fz, hg, hfz⟩ := h2'
      have hf : (Builtin.firstCells k ys.length yv).run P w = .ok news.toArray w ∧ (Builtin.lenOf yv).run P w = .ok ys.length w := ⟨hsrc.first w (fun _ => rfl), hsrc.len w (fun _ => rfl)⟩
      have hlt := (Array.getElem?_eq_some_iff.1 hg).1
      have hfit : o + off * k + len * k + news.length ≤ cur.size ∨ news = [] := by
        rcases Nat.eq_zero_or_pos cap with h0 | h0
        · right
          exact List.eq_nil_of_length_eq_zero (by rw [n1, show ys.length = 0 by omega, Nat.zero_mul])
        · left
          obtain ⟨_, e1, sz, hsh, hsz⟩ := ha h0
          simp only [World.shape?, hg, Option.some.injEq, Prod.mk.injEq] at hsh
          obtain ⟨_, rfl⟩ := hsh
          have : (off + (len + ys.length)) * k ≤ (off + cap) * k := Nat.mul_le_mul_right _ (by omega)
          rw [Nat.add_mul, Nat.add_mul] at this
          rw [n1]; omega
      have hbase : o + off * k + len * k ≤ cur.size := by
        have : (off + len) * k ≤ xs.length * k := Nat.mul_le_mul_right _ hle
        rw [Nat.add_mul] at this; omega
      obtain ⟨cur', w', r1, r2, r3, r4, r5, r6, r7, r8⟩ : ∃ (cur' : Array Value) (w' : World), (storeCells ⟨g, p + len * k, none⟩ news 0).run P w = .ok () w' ∧ w'.heap = w.heap.setIfInBounds g (.cells cur' e' fz) ∧ w'.os = w.os ∧ w'.tape = w.tape ∧ w'.output = w.output ∧
          cur'.size = cur.size ∧ (∀ j, j < news.length → cur'[o + off * k + len * k + j]? = news[j]?) ∧ (∀ j, (j < o + off * k + len * k ∨ o + off * k + len * k + news.length ≤ j) → cur'[j]? = cur[j]?) := by
        rcases hfit with hfit | rfl
        · rcases Nat.eq_zero_or_pos cap with h0 | h0
          · obtain rfl : news = [] := List.eq_nil_of_length_eq_zero (by rw [n1, show ys.length = 0 by omega, Nat.zero_mul])
            obtain ⟨cur', w', r1, r2, r3, r4, r5, r6, r7, r8⟩ := storeCells_free (P := P) g (o + off * k + len * k) e' fz [] 0 cur w hg hfz (by simpa using hbase) (by simp)
            exact ⟨cur', w', by simpa [storeCells] using r1, r2, r3, r4, r5, r6, by simp, fun j hj => r8 j (by simpa using hj)⟩
          · obtain ⟨rfl, _⟩ := ha h0
            obtain ⟨cur', w', r1, r2, r3, r4, r5, r6, r7, r8⟩ := storeCells_free (P := P) g (o + off * k + len * k) e' fz news 0 cur w hg hfz (by omega) n3
            exact ⟨cur', w', r1, r2, r3, r4, r5, r6, fun j hj => by simpa using r7 j hj, fun j hj => r8 j (by simpa using hj)⟩
        · obtain ⟨cur', w', r1, r2, r3, r4, r5, r6, r7, r8⟩ := storeCells_free (P := P) g (o + off * k + len * k) e' fz [] 0 cur w hg hfz (by simpa using hbase) (by simp)
          exact ⟨cur', w', by simpa [storeCells] using r1, r2, r3, r4, r5, r6, by simp, fun j hj => r8 j (by simpa using hj)⟩
      have hrun : (Builtin.append_ #[t, u] ty #[.slice (some ⟨g, p, none⟩) len cap, yv]).run P w = .ok (.slice (some ⟨g, p, none⟩) (len + ys.length) cap) w' := by
        have hp : (⟨g, p, none⟩ : Addr).add (len * k) = ⟨g, p + len * k, none⟩ := Addr.add_lit _ _ _
        subst hk
        rcases hsrc.ty with ⟨e', hu⟩ | hu
        · simp [Builtin.append_, run_underlying ht, run_underlying hu, sizeOf, typeInfo, hi, hf.1, hf.2, hroom, hp, r1]
        · simp [Builtin.append_, run_underlying ht, run_underlying hu, sizeOf, typeInfo, hi, hf.1, hf.2, hroom, hp, r1]
      have hlt' : w'.heap[g]? = some (.cells cur' e' fz) := by rw [r2, Array.getElem?_setIfInBounds, if_pos rfl, if_pos hlt]
      obtain ⟨G0, S0⟩ := Sim.write (w' := w') (y := .dead) hS hx rfl hM hg r6 r2 r3 r4 r5 trivial
      have R : ∀ {c v}, Rel w M I H.length c v → c.noRef = true → Rel w' (more M H.length (some (g, o + off * k))) I (H.length + 1) c v := fun h hn => (G0.rel hS h).free hn
      obtain ⟨G, S⟩ := Sim.regrow (w' := w') (o2 := o + off * k) (y := .row k ((xs.drop off).take len ++ ys)) hS hx rfl hM hg r6 r2 r3 r4 r5
        (rowOK_new (cells := olds ++ news) heall more_new ⟨e', fz, hlt', by rw [r6]; exact hfz⟩ h3 (by
          rw [hall', Nat.add_mul, r6]
          rcases hfit with h | h
          · omega
          · rw [h] at n1; simp at n1; rw [← n1]; omega) (fun j hj => by
          rw [hall', Nat.add_mul] at hj
          by_cases hjl : j < len * k
          · rw [r8 _ (by omega), List.getElem?_append_left (by omega)]
            obtain ⟨u, hu⟩ : ∃ u, olds[j]? = some u := ⟨_, List.getElem?_eq_getElem (by omega)⟩
            have := o2 j u hu
            rw [hu, ← this]
            simp [World.cell?, hg]
          · rw [List.getElem?_append_right (by omega), o1]
            have := r7 (j - len * k) (by omega)
            rw [← this]; congr 1; omega) hcl (fun a j x c hx hj => by
          obtain ⟨u, h1, h2, h3⟩ := hall _ rfl a j x c hx hj
          exact ⟨u, h1, R h2 h3⟩))
      refine ⟨_, w', _, I, hrun, G, S, .sl q H.length k 0 _ g (o + off * k) p cap (by simp) more_new hroom hm (fun h => by have := hq h; omega) (fun h0 => ?_)⟩
      obtain ⟨rfl, e1, sz, hsh, hsz⟩ := ha h0
      refine ⟨by simp, e', cur'.size, by simp [World.shape?, hlt'], ?_⟩
      simp only [World.shape?, hg, Option.some.injEq, Prod.mk.injEq] at hsh
      obtain ⟨_, rfl⟩ := hsh
      rw [r6, Nat.zero_add, Nat.add_assoc, ← Nat.add_mul]
      exact hsz
    · -- it grows
      have hpos : 0 < ys.length := by omega
      have hpo : len = 0 ∨ p = o + off * k := by
        rcases Nat.eq_zero_or_pos cap with h0 | h0
        · left; omega
        · exact .inr (ha h0).1
      subst hk hb
      have hr := run_append_grow_src (P := P) (ty := ty) ht hi hz ⟨g, p, none⟩ len cap olds o1 (fun j u hu => by
          rw [Addr.add_lit]
          rcases hpo with h0 | rfl
          · have := (List.getElem?_eq_some_iff.1 hu).1
            rw [o1, h0] at this; simp at this
          · exact o2 j u hu) hsrc (by omega) (by omega) (growslice_fits (by omega) h2)
      have hge := grownCap_ge w (len + ys.length) cap e
      have hcm' : grownCap w (len + ys.length) cap e ≤ maxLen := grownCap_le_maxLen w _ cap e (by simp only [maxLen]; omega)
      generalize hgc : grownCap w (len + ys.length) cap e = gc at hr hge hcm'
      have hsize : (olds.toArray ++ news.toArray ++ Builtin.zeroCells z.cells (gc - (len + ys.length))).size = gc * i.size := by
        simp only [Array.size_append, List.size_toArray, size_zeroCells, hzc, n1, o1, ← Nat.add_mul]
        congr 1; omega
      generalize hcur' : olds.toArray ++ news.toArray ++ Builtin.zeroCells z.cells (gc - (len + ys.length)) = cur1 at hr hsize
      have hheap : (w.drew.alloc (.cells cur1 e)).heap = w.heap.push (.cells cur1 e) := rfl
      obtain ⟨Gk, Sk⟩ := hS.kill b
      have hlk : (H.set b .dead).length = H.length := by simp
      have R : ∀ {c v}, Rel w M I H.length c v → c.noRef = true → Rel (w.drew.alloc (.cells cur1 e)) (more M (H.set b .dead).length (some (w.heap.size, 0))) I ((H.set b .dead).length + 1) c v := fun h hn => by
        have := (Sim.push (blk := .dead) Sk hheap rfl rfl rfl trivial).1.rel Sk (by simpa using h)
        simpa using this
      obtain ⟨G, S⟩ := Sk.push (blk := .row i.size ((xs.drop off).take len ++ ys)) hheap rfl rfl rfl (rowOK_new (cells := olds ++ news) (o := 0) heall more_new ⟨e, (0, 0), by rw [hheap, Array.getElem?_push, if_pos rfl], fun j _ h => absurd h.2 (Nat.not_lt_zero _)⟩
        (fun h => absurd (hS.idom _ h) (Nat.lt_irrefl _)) (by rw [hsize, hall']; simpa using Nat.mul_le_mul_right _ hge)
        (fun j hj => by
          rw [← hcl] at hj
          rw [Nat.zero_add, ← hcur', Array.getElem?_append_left (by simpa using hj)]
          simp) hcl (fun a j x c hx hj => by
          obtain ⟨u, h1, h2, h3⟩ := hall _ rfl a j x c hx hj
          exact ⟨u, h1, R h2 h3⟩))
      refine ⟨_, _, _, I, hr, Gk.trans G, S, ?_⟩
      exact .sl q H.length i.size 0 _ w.heap.size 0 0 gc (by simp) (by rw [hlk]; exact more_new) hge hcm' (fun h => by have := hq h; omega) (fun _ => ⟨by simp, e, cur1.size, by simp [World.shape?, hheap], by rw [hsize]; simp⟩)

theorem append_row_sound (hS : Sim GT w M I H) {t ty e : TypeId} {i : TypeInfo} {z : Value} {k bytes : Nat} (ht : P.underlying t = some (.slice e)) (hi : P.info? e = some i) (hk : i.size = k) (hb : i.bytes = bytes) (hz : i.zero = some z) (hzc : z.cells.size = k) (hk0 : 0 < k)
    {yv s : Value} {y : AV} (hy : Rel w M I H.length y yv) {ys xs : List AV} (hv : view H k y = some ys) {q : Option Bool} {b off len : Nat} (hs : Rel w M I H.length (.sl q b k off len) s) (hx : H[b]? = some (.row k xs)) (hle : off + len ≤ xs.length)
    (h1 : len + ys.length ≤ 9223372036854775807) (h2 : (len + ys.length) * bytes ≤ 140737488355328) :
    RunsTo P GT w M I H (Builtin.append_ #[t, t] ty #[s, yv]) (.sl q H.length k 0 (len + ys.length)) (H.set b .dead ++ [.row k ((xs.drop off).take len ++ ys)]) := by
  obtain ⟨he, news, hsrc, n1, n3, n4⟩ := src_of_view hS ht hy hv
  exact append_row_src hS ht hi hk hb hz hzc hk0 he hsrc n1 n3 n4 hs hx hle h1 h2

end
end Go.AM
