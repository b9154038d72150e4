/- The abstract machine, part 22: small steps for proofs by events. Own work. -/
import Derived.Test.YtibdekobocpfdaaDoorAm21
import Derived.IntWalk
set_option linter.all false
namespace Go.AM

/-! ### Numbers -/

theorem sW64 {x : Int} {K : Int → Prop} (h : -9223372036854775808 ≤ x ∧ x ≤ 9223372036854775807) (k : K x) : valP (IntKind.wrap .i64 x) K :=
  sVal (IntWalk.i64_in x h) k
theorem sW64n {x : Int} {r : Nat} {K : Int → Prop} (h : x = r) (hr : r ≤ 9223372036854775807) (k : K (r : Int)) : valP (IntKind.wrap .i64 x) K :=
  sVal (by rw [IntWalk.i64_in x (by omega), h]) k
theorem sWu8 {x : Int} {K : Int → Prop} (h : 0 ≤ x ∧ x ≤ 255) (k : K x) : valP (IntKind.wrap .u8 x) K :=
  sVal (IntWalk.u8_in x h) k

/-! ### Rows -/

/-- Values that are themselves when frozen. -/
def AV.plain : AV → Bool
  | .sl .. => false
  | .agg _ => false
  | .tup _ => false
  | .iface _ _ => false
  | _ => true

theorem frz_plain {n : Nat} {v : AV} {H : Heap} (h : v.plain = true) : frzV n v H = some (v, H) := by
  cases v <;> first | rfl | (simp [AV.plain] at h)

theorem sLoadP {p : AV} {H : Heap} {s o : Nat} {ag : Bool} {cs : List AV} {K : AV → Prop} (r : AV) (hp : ptrCells H p = some (cs, o)) (hr : part cs o s ag = some r) (q : K r) : loadN s ag p H K := by
  rw [loadN_def]; unfold loadNW
  split
  · simp only [ptrCells, Option.some.injEq, Prod.mk.injEq] at hp
    obtain ⟨rfl, rfl⟩ := hp
    exact sOpt hr q
  · exact sOpt hp (sOpt hr q)
theorem sLoadL {x : AV} {H : Heap} {s o : Nat} {ag : Bool} {K : AV → Prop} (r : AV) (hr : part x.cells o s ag = some r) (q : K r) : loadN s ag (.lref x o) H K := sLoadP r rfl hr q
theorem ptr_row {b k i o : Nat} {H : Heap} {xs : List AV} {x : AV} (h : H[b]? = some (.row k xs)) (hx : xs[i]? = some x) : ptrCells H (.ref b k i o) = some (x.cells, o) := by
  simp only [ptrCells, h, if_true, hx, Option.map_some]
theorem ptr_box {b k o : Nat} {H : Heap} {cs : List AV} (h : H[b]? = some (.box cs)) : ptrCells H (.ref b k 0 o) = some (cs, o) := by
  simp only [ptrCells, h, if_true]
theorem sLoadRow {b k i o s : Nat} {ag : Bool} (j : Nat) {H : Heap} {xs : List AV} (x r : AV) {K : AV → Prop} (hi : i = j) (h : H[b]? = some (.row k xs)) (hx : xs[j]? = some x) (hr : part x.cells o s ag = some r) (q : K r) : loadN s ag (.ref b k i o) H K :=
  sLoadP r (ptr_row h (by rw [hi]; exact hx)) hr q
theorem sLoadBox {b k o s : Nat} {ag : Bool} {H : Heap} {cs : List AV} (r : AV) {K : AV → Prop} (h : H[b]? = some (.box cs)) (hr : part cs o s ag = some r) (q : K r) : loadN s ag (.ref b k 0 o) H K :=
  sLoadP r (ptr_box h) hr q

theorem sLenSl {q : Option Bool} {b k off n : Nat} {K : Int → Prop} (h : K (n : Int)) : lenP (.sl q b k off n) K := by rw [lenP_def]; unfold lenPW; exact h
theorem sLenL {q : Option Bool} {k : Nat} {xs : List AV} {K : Int → Prop} (h : K (xs.length : Int)) : lenP (.lst q k xs) K := by rw [lenP_def]; unfold lenPW; exact h
theorem sLenV {v : AV} {H : Heap} {k : Nat} {xs : List AV} {K : Int → Prop} (hv : view H k v = some xs) (q : K (xs.length : Int)) : lenP v K := by
  unfold view at hv
  split at hv
  · refine sLenL ?_
    split at hv
    · cases hv; exact q
    · split at hv
      · rename_i h
        simp only [List.isEmpty_iff] at h
        cases hv; rw [h]; exact q
      · cases hv
  · refine sLenSl ?_
    split at hv
    · split at hv
      · split at hv
        · rename_i hc
          cases hv
          rw [List.length_take, List.length_drop] at q
          rwa [Nat.min_eq_left (by omega)] at q
        · cases hv
      · split at hv
        · rename_i hc
          cases hv
          rw [List.length_take, List.length_drop] at q
          rwa [Nat.min_eq_left (by omega)] at q
        · cases hv
      · cases hv
    · cases hv
  · cases hv

theorem sLenN {v : AV} {H : Heap} {k : Nat} {xs : List AV} {K : Int → Prop} (n : Nat) (hv : view H k v = some xs) (hn : xs.length = n) (q : K (n : Int)) : lenP v K := sLenV hv (by rw [hn]; exact q)

/-- An index of a list. -/
theorem sIdx {q' : Option Bool} {k i : Nat} {xs : List AV} {n : Int} {x : AV} {K : AV → Prop} (hn : n = (i : Int)) (hx : xs[i]? = some x) (q : K (.lref x 0)) : idxN k (.lst q' k xs) n K := by
  rw [idxN_def]; unfold idxNW
  exact sNeed rfl (sIdxP hn hx q)
/-- An index of a slice of whatever make. -/
theorem sIdxV {v : AV} {H : Heap} {k : Nat} {xs : List AV} {n : Int} {K : AV → Prop} (i : Nat) (x : AV) (hv : view H k v = some xs) (hn : n = (i : Int)) (hx : xs[i]? = some x) (q : ∀ p, ptrCells H p = some (x.cells, 0) → K p) : idxN k v n K := by
  have hlt := (List.getElem?_eq_some_iff.1 hx).1
  unfold view at hv
  split at hv
  · split at hv
    · rename_i hk
      cases hv; subst hk
      exact sIdx hn hx (q _ rfl)
    · split at hv
      · cases hv; simp at hlt
      · cases hv
  · rw [idxN_def]; unfold idxNW
    simp only
    split at hv
    · rename_i hk
      subst hk
      split at hv
      · rename_i hb
        split at hv
        · rename_i hc
          cases hv
          rw [List.length_take, List.length_drop] at hlt
          rw [List.getElem?_take, if_pos (by omega), List.getElem?_drop] at hx
          subst hn
          rw [hc.1] at hb
          refine sNeed ⟨rfl, by omega, by omega⟩ (q _ (ptr_row hb hx))
        · cases hv
      · rename_i hb
        split at hv
        · rename_i hc
          cases hv
          rw [List.length_take, List.length_drop] at hlt
          rw [List.getElem?_take, if_pos (by omega), List.getElem?_drop] at hx
          subst hn
          rw [hc.1] at hb
          refine sNeed ⟨rfl, by omega, by omega⟩ (q _ ?_)
          show ptrCells H (.ref _ _ _ _) = _
          simp only [ptrCells, hb, if_true, Int.toNat_natCast, hx, Option.map_some]
        · cases hv
      · cases hv
    · cases hv
  · cases hv

/-- An index within a slice that is a view on a row. -/
theorem sAt {q' : Option Bool} {b k off len : Nat} {n : Int} {K : AV → Prop} (h : 0 ≤ n ∧ n < (len : Int)) (q : K (.ref b k (off + n.toNat) 0)) : idxN k (.sl q' b k off len) n K := by
  rw [idxN_def]; unfold idxNW
  exact sNeed ⟨rfl, h⟩ q

/-- A whole element is written that names no block. -/
theorem sStore {b k i : Nat} (j : Nat) (v : AV) {x : AV} {H : Heap} {xs : List AV} {K : AV → Heap → Prop} (hi : i = j) (h : H[b]? = some (.row k xs)) (hx : xs[j]? = some x) (hp : v.plain = true) (h0 : 0 < k) (he : v.elem k = true) (hn : ∀ cs, x ≠ .agg cs)
    (q : K .undef (H.set b (.row k (xs.set j v)))) : actP (.store k) [.ref b k i 0, v] H K := by
  subst hi
  refine sAct ?_ q
  have hc : v.cells.length = k ∧ v.cells.all AV.one = true := by
    simp only [AV.elem, Bool.and_eq_true, beq_iff_eq] at he
    exact ⟨he.1.1, he.2⟩
  have hu : updElem x 0 v = v := by cases x <;> first | rfl | exact absurd rfl (hn _)
  simp only [astep, if_pos hc, h, frz_plain hp, hx]
  rw [if_pos ⟨trivial, by omega, h0, he⟩, hu]

theorem sMake {k bytes : Nat} {z : AV} {l c : Int} {n : Nat} {k1 k2 : IntKind} {H : Heap} {K : AV → Heap → Prop} (hl : l = n) (hlc : l ≤ c) (hb : (bytes : Int) * c ≤ 281474976710656 ∧ c ≤ 9223372036854775807) (hz : z.elem k = true)
    (q : K (.sl (some false) H.length k 0 n) (H ++ [.row k (List.replicate n z)])) : actP (.make k bytes z) [.int k1 l, .int k2 c] H K := by
  refine sAct ?_ q
  subst hl
  simp only [astep]
  rw [if_pos ⟨by omega, hlc, hb.1, hb.2, hz⟩]
  rfl

/-! ### Rows as functions -/

def rowF (n : Nat) (f : Nat → AV) : List AV := (List.range n).map f
def upd {α : Type} (f : Nat → α) (i : Nat) (v : α) : Nat → α := fun j => if j = i then v else f j

theorem rowF_len (n : Nat) (f : Nat → AV) : (rowF n f).length = n := by simp [rowF]
theorem rowF_get {n i : Nat} {f : Nat → AV} (h : i < n) : (rowF n f)[i]? = some (f i) := by simp [rowF, h]
theorem rowF_set {n i : Nat} {f : Nat → AV} {v : AV} : (rowF n f).set i v = rowF n (upd f i v) := by
  apply List.ext_getElem?
  intro j
  simp only [rowF, List.getElem?_set, List.getElem?_map, List.length_map, List.length_range]
  by_cases hj : j < n
  · rw [List.getElem?_range hj]
    by_cases e : i = j
    · subst e; simp [hj, upd]
    · simp [e, upd, Ne.symm e]
  · rw [List.getElem?_eq_none (l := List.range n) (by simpa using hj)]
    simp only [Option.map_none, ite_eq_right_iff]
    intro e; subst e; simp [hj]
theorem rowF_replicate (n : Nat) (z : AV) : List.replicate n z = rowF n (fun _ => z) := by
  apply List.ext_getElem <;> simp [rowF]
theorem rowF_congr {n : Nat} {f g : Nat → AV} (h : ∀ i, i < n → f i = g i) : rowF n f = rowF n g := by
  unfold rowF
  exact List.map_congr_left fun i hi => h i (List.mem_range.1 hi)


/-- Rows of truth values. -/
def fB (f : Nat → Bool) : Nat → AV := fun j => .bool (f j)
theorem fB_upd (f : Nat → Bool) (i : Nat) (v : Bool) : upd (fB f) i (.bool v) = fB (upd f i v) := by
  funext j; unfold fB upd; split <;> rfl
theorem sStoreB {b i n : Nat} (j : Nat) (v : Bool) {g : Nat → Bool} {H : Heap} {K : AV → Heap → Prop} (hi : i = j) (hj : j < n) (h : H[b]? = some (.row 1 (rowF n (fB g))))
    (q : K .undef (H.set b (.row 1 (rowF n (fB (upd g j v)))))) : actP (.store 1) [.ref b 1 i 0, .bool v] H K :=
  sStore j (.bool v) hi h (rowF_get hj) rfl (by omega) rfl (by simp [fB]) (by rw [rowF_set, fB_upd]; exact q)
theorem sLoadB {b i n : Nat} (j : Nat) {f : Nat → Bool} {H : Heap} {K : AV → Prop} (hi : i = j) (hj : j < n) (h : H[b]? = some (.row 1 (rowF n (fB f))))
    (q : K (.bool (f j))) : loadN 1 false (.ref b 1 i 0) H K :=
  sLoadRow j (.bool (f j)) _ hi h (rowF_get hj) rfl q

theorem sMakeB {bytes : Nat} {l c : Int} {n : Nat} {k1 k2 : IntKind} {H : Heap} {K : AV → Heap → Prop} (hl : l = n) (hc : c = n) (hb : bytes ≤ 8) (hn : n ≤ 35184372088832)
    (q : K (.sl (some false) H.length 1 0 n) (H ++ [.row 1 (rowF n (fB fun _ => false))])) : actP (.make 1 bytes (.bool false)) [.int k1 l, .int k2 c] H K := by
  subst hl hc
  refine sMake rfl (Int.le_refl _) ⟨?_, by omega⟩ rfl (by rw [rowF_replicate]; exact q)
  have : bytes * n ≤ 8 * 35184372088832 := Nat.mul_le_mul hb hn
  have h2 : ((bytes * n : Nat) : Int) ≤ 281474976710656 := by omega
  simpa using h2

/-! ### Bytes -/

theorem byteIs (c d : UInt8) : ((c.toNat : Int) == (d.toNat : Int)) = (c == d) := by
  rw [Bool.eq_iff_iff, beq_iff_eq, beq_iff_eq]
  exact ⟨fun h => UInt8.toNat_inj.1 (by omega), fun h => by rw [h]⟩
theorem drop_of_get {α : Type} {l : List α} {i : Nat} {x : α} (h : l[i]? = some x) : l.drop i = x :: l.drop (i + 1) := by
  obtain ⟨hi, he⟩ := List.getElem?_eq_some_iff.1 h
  rw [List.drop_eq_getElem_cons hi, he]
theorem bytesOf_map : ∀ u : List UInt8, bytesOf (u.map byteAV) = some u
  | [] => rfl
  | c :: u => by simp [bytesOf, byteAV, bytesOf_map u]

/-! ### Heaps: what was there is there -/

/-- The first blocks are as they were. -/
def Old (H0 H : Heap) : Prop := H0.length ≤ H.length ∧ ∀ c, c < H0.length → H[c]? = H0[c]?

theorem Old.refl (H : Heap) : Old H H := ⟨Nat.le_refl _, fun _ _ => rfl⟩
theorem Old.push {H0 H : Heap} (h : Old H0 H) (x : List ABlk) : Old H0 (H ++ x) :=
  ⟨by rw [List.length_append]; have := h.1; omega, fun c hc => by rw [List.getElem?_append_left (Nat.lt_of_lt_of_le hc h.1)]; exact h.2 c hc⟩
theorem Old.set {H0 H : Heap} (h : Old H0 H) {b : Nat} (hb : H0.length ≤ b) (x : ABlk) : Old H0 (H.set b x) :=
  ⟨by rw [List.length_set]; exact h.1, fun c hc => by rw [List.getElem?_set_ne (by omega)]; exact h.2 c hc⟩
theorem Old.trans {H0 H1 H2 : Heap} (h : Old H0 H1) (k : Old H1 H2) : Old H0 H2 :=
  ⟨Nat.le_trans h.1 k.1, fun c hc => (k.2 c (Nat.lt_of_lt_of_le hc h.1)).trans (h.2 c hc)⟩
theorem Old.take {H0 H : Heap} (h : Old H0 H) : H.take H0.length = H0 := by
  apply List.ext_getElem?
  intro i
  rw [List.getElem?_take]
  split
  · rename_i hi; exact h.2 i hi
  · rename_i hi; rw [List.getElem?_eq_none (by omega)]
theorem Old.ok {H0 H : Heap} (h : Old H0 H) : OldOK H0 H := fun b hb => .inl (h.2 b hb)

theorem push_last {H : Heap} {x : ABlk} : (H ++ [x])[H.length]? = some x := by simp
theorem push_old {H : Heap} {x : ABlk} {b : Nat} {y : ABlk} (h : H[b]? = some y) : (H ++ [x])[b]? = some y := by
  rw [List.getElem?_append_left (List.getElem?_eq_some_iff.1 h).1]; exact h
theorem set_at {H : Heap} {b : Nat} {x y : ABlk} (h : H[b]? = some y) : (H.set b x)[b]? = some x := by
  rw [List.getElem?_set_self (List.getElem?_eq_some_iff.1 h).1]
theorem set_other {H : Heap} {b c : Nat} {x y : ABlk} (hn : b ≠ c) (h : H[c]? = some y) : (H.set b x)[c]? = some y := by
  rw [List.getElem?_set_ne hn]; exact h

/-- Out of a block. -/
theorem sBlk {id : Nat} {L : List Nat} {K : Post} {fr F : Fr} {H : Heap} (h : restrictF fr L = F) (k : K .normal F H) : blockF id L K (.exit id) fr H := by
  rw [blockF_eq]; simp only [blockK, if_true, ← restrictF_eq, h]; exact k

/-! ### Slices that grow -/

def AV.blk : AV → Option Nat
  | .sl _ b _ _ _ => some b
  | _ => none

/-- 'v' is a slice of the function's own (nil, or a row that nobody else has) with the elements 'xs'. -/
def Owns (H0 H : Heap) (v : AV) (k : Nat) (xs : List AV) : Prop :=
  (v = .lst (some true) 0 [] ∧ xs = []) ∨ ∃ b, v = .sl (some true) b k 0 xs.length ∧ H0.length ≤ b ∧ H[b]? = some (.row k xs) ∧ xs ≠ []

theorem Owns.nil (H0 H : Heap) (k : Nat) : Owns H0 H (.lst (some true) 0 []) k [] := .inl ⟨rfl, rfl⟩

theorem Owns.lt {H0 H : Heap} {v : AV} {k : Nat} {xs : List AV} (h : Owns H0 H v k xs) {b : Nat} (hb : v.blk = some b) : H0.length ≤ b ∧ b < H.length := by
  rcases h with ⟨rfl, _⟩ | ⟨b', rfl, h1, h2, _⟩
  · cases hb
  · simp only [AV.blk, Option.some.injEq] at hb
    subst hb
    exact ⟨h1, (List.getElem?_eq_some_iff.1 h2).1⟩

/-- It stays where its row stays. -/
theorem Owns.keep {H0 H H' : Heap} {v : AV} {k : Nat} {xs : List AV} (h : Owns H0 H v k xs) (hk : ∀ b x, v.blk = some b → H[b]? = some x → H'[b]? = some x) : Owns H0 H' v k xs := by
  rcases h with h | ⟨b, rfl, h1, h2, h3⟩
  · exact .inl h
  · exact .inr ⟨b, rfl, h1, hk b _ rfl h2, h3⟩

theorem Owns.push {H0 H : Heap} {v : AV} {k : Nat} {xs : List AV} (h : Owns H0 H v k xs) (x : ABlk) : Owns H0 (H ++ [x]) v k xs :=
  h.keep fun _ _ _ hx => push_old hx

theorem Owns.view {H0 H : Heap} {v : AV} {k : Nat} {xs : List AV} (h : Owns H0 H v k xs) : view H k v = some xs := by
  rcases h with ⟨rfl, rfl⟩ | ⟨b, rfl, _, h2, _⟩
  · simp [Go.AM.view]
  · simp [Go.AM.view, h2]

theorem view_new {H : Heap} {k : Nat} {q : Option Bool} {xs : List AV} : view (H ++ [.row k xs]) k (.sl q H.length k 0 xs.length) = some xs := by
  simp [Go.AM.view]

theorem sBslice {k : Nat} {vs vs' : List AV} {H : Heap} {K : AV → Heap → Prop} (hf : frzL 0 vs H = some (vs', H)) (he : vs'.all (fun v => v.elem k) = true)
    (q : K (.sl (some false) H.length k 0 vs'.length) (H ++ [.row k vs'])) : actP (.bslice k) vs H K :=
  sAct (by simp only [astep, hf]; rw [if_pos he]) q

theorem frzL_cons {n : Nat} {a a' : AV} {r r' : List AV} {H H1 H2 : Heap} (h1 : frzV n a H = some (a', H1)) (h2 : frzL n r H1 = some (r', H2)) : frzL n (a :: r) H = some (a' :: r', H2) := by
  simp only [frzL, h1, h2]
theorem sBsliceF {k : Nat} {vs : List AV} (vs' : List AV) {H : Heap} (H' : Heap) {K : AV → Heap → Prop} (hf : frzL 0 vs H = some (vs', H')) (he : vs'.all (fun v => v.elem k) = true)
    (q : K (.sl (some false) H'.length k 0 vs'.length) (H' ++ [.row k vs'])) : actP (.bslice k) vs H K :=
  sAct (by simp only [astep, hf]; rw [if_pos he]) q
theorem frz_sl {b k n : Nat} {xs : List AV} {H : Heap} (h : H[b]? = some (.row k xs)) (hn : xs.length = n) : frzV 0 (.sl (some false) b k 0 n) H = some (.lst (some false) k xs, H.set b (.frz k xs)) := by
  subst hn
  simp only [frzV, Nat.not_lt_zero, if_false, h]
  simp [frzQ]

theorem sAppend {H0 H : Heap} {v y : AV} {k bytes : Nat} {xs ys : List AV} {K : AV → Heap → Prop} (ho : Owns H0 H v k xs) (hH : Old H0 H) (hy : view H k y = some ys) (hb : bytes ≤ 1024) (hl : xs.length + ys.length ≤ 137438953472) (h0 : ys ≠ [])
    (q : ∀ v' H', Owns H0 H' v' k (xs ++ ys) → Old H0 H' → v'.blk = some H.length → (∀ c x, v.blk ≠ some c → H[c]? = some x → H'[c]? = some x) → K v' H') : actP (.append k bytes) [v, y] H K := by
  have hm : (xs.length + ys.length) * bytes ≤ 137438953472 * 1024 := Nat.mul_le_mul hl hb
  rcases ho with ⟨rfl, rfl⟩ | ⟨b, rfl, h1, h2, _⟩
  · simp only [List.length_nil, Nat.zero_add] at hl hm
    refine sAct (v := .sl (some true) H.length k 0 ys.length) (H' := H ++ [.row k ys]) ?_ ?_
    · simp only [astep, hy]
      rw [if_pos ⟨by omega, by omega⟩]
    · exact q _ _ (.inr ⟨_, rfl, hH.1, push_last, h0⟩) (hH.push _) rfl fun _ _ _ hx => push_old hx
  · refine sAct (v := .sl (some true) H.length k 0 (xs.length + ys.length)) (H' := H.set b .dead ++ [.row k (xs ++ ys)]) ?_ ?_
    · simp only [astep, hy, h2]
      rw [if_pos ⟨trivial, trivial, by omega, by omega, by omega⟩]
      simp
    · refine q _ _ (.inr ⟨_, by rw [List.length_append], hH.1, ?_, by simp [h0]⟩) ((hH.set h1 _).push _) rfl fun c x hc hx => ?_
      · have : (H.set b .dead).length = H.length := List.length_set
        rw [← this]; exact push_last
      · exact push_old (set_other (fun e => hc (by rw [e]; rfl)) hx)

theorem sBytesStr {H0 H : Heap} {v : AV} {u : List UInt8} {K : AV → Heap → Prop} (ho : Owns H0 H v 1 (u.map byteAV)) (q : K (.str u) H) : actP .bytesToStr [v] H K :=
  sAct (by simp only [astep, ho.view, bytesOf_map, Option.map_some]) q

/-- A list that nobody writes. -/
def LstOf (x : AV) (k : Nat) (xs : List AV) : Prop := ∃ q k', x = .lst q k' xs ∧ (k' = k ∨ xs = [])
theorem LstOf.view {x : AV} {k : Nat} {xs : List AV} (h : LstOf x k xs) (H : Heap) : view H k x = some xs := by
  obtain ⟨q, k', rfl, rfl | rfl⟩ := h
  · simp [Go.AM.view]
  · simp [Go.AM.view]
theorem LstOf.cells {x : AV} {k : Nat} {xs : List AV} (h : LstOf x k xs) : x.cells = [x] := by obtain ⟨q, k', rfl, _⟩ := h; rfl

/-- What is read stays so as long as the old blocks stay. -/
theorem view_old {H H' : Heap} (hO : Old H H') {k : Nat} {v : AV} {xs : List AV} (h : view H k v = some xs) : view H' k v = some xs := by
  unfold view at h ⊢
  split at h
  · exact h
  · split at h
    · rename_i hk
      rw [if_pos hk]
      have : ∀ x, H[‹Nat›]? = some x → True := fun _ _ => trivial
      split at h
      · rename_i hb
        rw [hO.2 _ (List.getElem?_eq_some_iff.1 hb).1, hb]; exact h
      · rename_i hb
        rw [hO.2 _ (List.getElem?_eq_some_iff.1 hb).1, hb]; exact h
      · cases h
    · cases h
  · cases h
theorem view_one {H : Heap} {k : Nat} {v : AV} {xs : List AV} (h : view H k v = some xs) : v.cells = [v] ∧ v.one = true := by
  unfold view at h
  split at h
  · exact ⟨rfl, rfl⟩
  · exact ⟨rfl, rfl⟩
  · cases h
theorem old_get {H H' : Heap} (hO : Old H H') {b : Nat} {x : ABlk} (h : H[b]? = some x) : H'[b]? = some x := by
  rw [hO.2 _ (List.getElem?_eq_some_iff.1 h).1]; exact h

/-- An index of a list that nobody writes. -/
theorem sIdxO {v : AV} {k : Nat} {xs : List AV} {n : Int} {K : AV → Prop} (i : Nat) (x : AV) (hv : LstOf v k xs) (hn : n = (i : Int)) (hx : xs[i]? = some x) (q : K (.lref x 0)) : idxN k v n K := by
  obtain ⟨qq, k', rfl, rfl | rfl⟩ := hv
  · exact sIdx hn hx q
  · simp at hx
theorem sLenO {v : AV} {k : Nat} {xs : List AV} {K : Int → Prop} (n : Nat) (hv : LstOf v k xs) (hn : xs.length = n) (q : K (n : Int)) : lenP v K := sLenN n (hv.view []) hn q

/-! ### Boxes -/

theorem sBox {x : AV} {H : Heap} {K : AV → Heap → Prop} (h : x.cells.all AV.one = true) (q : K (.ref H.length 0 0 0) (H ++ [.box x.cells])) : actP .box [x] H K :=
  sAct (by simp only [astep]; rw [if_pos h]) q
theorem sStoreBox {b k s o : Nat} {v : AV} {cs : List AV} {H : Heap} {K : AV → Heap → Prop} (h : H[b]? = some (.box cs)) (hl : v.cells.length = s) (h1 : v.cells.all AV.one = true) (ho : o + s ≤ cs.length)
    (q : K .undef (H.set b (.box (splice cs o v.cells)))) : actP (.store s) [.ref b k 0 o, v] H K := by
  refine sAct ?_ q
  simp only [astep]
  rw [if_pos ⟨hl, h1⟩, h]
  simp only
  rw [if_pos ⟨trivial, ho⟩]

theorem sBox1 {x : AV} {H : Heap} {K : AV → Heap → Prop} (hc : x.cells = [x] ∧ x.one = true) (q : K (.ref H.length 0 0 0) (H ++ [.box [x]])) : actP .box [x] H K :=
  sBox (by rw [hc.1]; simp [hc.2]) (by rw [hc.1]; exact q)
theorem sStoreBox1 {b k : Nat} {v x : AV} {H : Heap} {K : AV → Heap → Prop} (h : H[b]? = some (.box [x])) (hc : v.cells = [v] ∧ v.one = true)
    (q : K .undef (H.set b (.box [v]))) : actP (.store 1) [.ref b k 0 0, v] H K :=
  sStoreBox h (by rw [hc.1]; rfl) (by rw [hc.1]; simp [hc.2]) (by simp) (by rw [hc.1]; exact q)
theorem Owns.ne_box {H0 H : Heap} {v : AV} {k : Nat} {xs : List AV} (h : Owns H0 H v k xs) {c : Nat} {cs : List AV} (hb : H[c]? = some (.box cs)) : v.blk ≠ some c := by
  rcases h with ⟨rfl, _⟩ | ⟨b, rfl, h1, h2, h3⟩
  · simp [AV.blk]
  · intro e
    simp only [AV.blk, Option.some.injEq] at e
    subst e
    rw [h2] at hb; cases hb

theorem Owns.weaken {H0 H1 H : Heap} {v : AV} {k : Nat} {xs : List AV} (h : Owns H1 H v k xs) (hl : H0.length ≤ H1.length) : Owns H0 H v k xs := by
  rcases h with h | ⟨b, rfl, h1, h2, h3⟩
  · exact .inl h
  · exact .inr ⟨b, rfl, Nat.le_trans hl h1, h2, h3⟩
/-- It stays where another block is written. -/
theorem Owns.set {H0 H : Heap} {v : AV} {k : Nat} {xs : List AV} (h : Owns H0 H v k xs) {c : Nat} (hc : v.blk ≠ some c) (x : ABlk) : Owns H0 (H.set c x) v k xs :=
  h.keep fun b _ hb hx => set_other (fun e => hc (by rw [e]; exact hb)) hx
/-- The heap with a new box that is written at once. -/
theorem Owns.pushSet {H0 H : Heap} {v : AV} {k : Nat} {xs : List AV} (h : Owns H0 H v k xs) (x y : ABlk) : Owns H0 ((H ++ [x]).set H.length y) v k xs :=
  (h.push x).set (fun e => by have := (h.lt e).2; omega) y
theorem Old.pushSet {H0 H : Heap} (h : Old H0 H) (x y : ABlk) : Old H0 ((H ++ [x]).set H.length y) := (h.push [x]).set h.1 y

/-- A list as what is handed back of a slice of one's own. -/
def lstF (k : Nat) : List AV → AV
  | [] => .lst (some true) 0 []
  | x :: xs => .lst (some false) k (x :: xs)
theorem lstF_of (k : Nat) (xs : List AV) : LstOf (lstF k xs) k xs := by
  cases xs
  · exact ⟨_, _, rfl, .inr rfl⟩
  · exact ⟨_, _, rfl, .inl rfl⟩
theorem lstF_bel (n k : Nat) (xs : List AV) : (lstF k xs).bel n = true := by cases xs <;> rfl
theorem lstF_plain (k : Nat) (xs : List AV) : (lstF k xs).plain = true := by cases xs <;> rfl

theorem Owns.frz {H0 H : Heap} {v : AV} {k : Nat} {xs : List AV} (h : Owns H0 H v k xs) (hO : Old H0 H) : ∃ H', frzV H0.length v H = some (lstF k xs, H') ∧ Old H0 H' ∧ ∀ c x, v.blk ≠ some c → H[c]? = some x → H'[c]? = some x := by
  rcases h with ⟨rfl, rfl⟩ | ⟨b, rfl, h1, h2, h3⟩
  · exact ⟨H, rfl, hO, fun _ _ _ h => h⟩
  · refine ⟨H.set b (.frz k xs), ?_, hO.set h1 _, fun c x hc hx => set_other (fun e => hc (by rw [e]; rfl)) hx⟩
    cases xs with
    | nil => exact absurd rfl h3
    | cons x xs =>
      simp only [frzV]
      rw [if_neg (by omega), h2]
      simp [lstF, frzQ]

/-! ### Results -/

theorem sRetF {F : AF} {H H1 H2 : Heap} {fr : Fr} {v0 v : AV} (hk : F.keep = false) (hr : (resAll fr H1 F.results).map tupled = some v0) (hf : frzV H.length v0 H1 = some (v, H2)) (hb : v.bel H.length = true) (ho : Old H H2) : retP F H fr H1 v H := by
  refine sRet ?_
  unfold retF
  cases hs : resAll fr H1 F.results with
  | none => rw [hs] at hr; cases hr
  | some vs =>
    rw [hs] at hr
    simp only [Option.map_some, Option.some.injEq] at hr
    subst hr
    simp only [hk, hf, Bool.false_eq_true, if_false]
    exact ⟨hb, ho.ok, trivial, ho.take.symm⟩

/-- A result without slices of the function's own. -/
theorem sRetV {F : AF} {H H1 : Heap} {fr : Fr} {v : AV} (hk : F.keep = false) (hr : (resAll fr H1 F.results).map tupled = some v) (hf : frzV H.length v H1 = some (v, H1)) (hb : v.bel H.length = true) (ho : Old H H1) : retP F H fr H1 v H := by
  refine sRet ?_
  unfold retF
  cases hs : resAll fr H1 F.results with
  | none => rw [hs] at hr; cases hr
  | some vs =>
    rw [hs] at hr
    simp only [Option.map_some, Option.some.injEq] at hr
    subst hr
    simp only [hk, hf, Bool.false_eq_true, if_false]
    exact ⟨hb, ho.ok, trivial, ho.take.symm⟩

/-- The same, the result by an equation ('rw' in a goal that holds frames visits shared parts again and again). -/
theorem sRetE {F : AF} {H H1 : Heap} {fr : Fr} {v v0 : AV} (he : v = v0) (hk : F.keep = false) (hr : (resAll fr H1 F.results).map tupled = some v0) (hf : frzV H.length v0 H1 = some (v0, H1)) (hb : v0.bel H.length = true) (ho : Old H H1) : retP F H fr H1 v H := by
  subst he; exact sRetV hk hr hf hb ho

end Go.AM
