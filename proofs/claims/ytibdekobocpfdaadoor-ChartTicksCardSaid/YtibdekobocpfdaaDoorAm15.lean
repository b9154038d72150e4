/- The abstract machine, part 15: a region whose order is drawn. Own work. -/
import Derived.Test.YtibdekobocpfdaaDoorAm14
set_option linter.all false
namespace Go.AM

/-- 0: it neither reads nor turns the heap; 1: it reads it; 2: it turns it. -/
def AK.cls : AK → Nat
  | .mv | .pick | .bin _ | .eqs _ _ | .eqb _ | .eqn _ _ _ | .un _ | .convInt _ | .convRune | .convId | .mkIface _ | .mkFn _ _ | .len _ | .slc _ _ _ | .fieldAddr _ | .field _ _ _ | .idxAddr _
  | .idxArr _ _ | .idxStr | .idxAgg _ _ _ | .nilchk | .extract _ | .build _ _ | .min | .max => 0
  | .bytesToStr | .load _ _ | .call _ true | .callv true => 1
  | _ => 2

/-- It only looks at blocks. -/
def AK.reads : AK → Bool
  | .bytesToStr | .load _ _ => true
  | _ => false
/-- It lays a new block, and does nothing else. -/
def AK.grows : AK → Bool
  | .alloc _ | .box => true
  | _ => false

theorem get_more {H : Heap} {b : ABlk} {i : Nat} {x : ABlk} (h : H[i]? = some x) : (H ++ [b])[i]? = some x := by
  rw [List.getElem?_append_left (List.getElem?_eq_some_iff.1 h).1]; exact h
theorem view_more {H : Heap} {b : ABlk} {k : Nat} {v : AV} {xs : List AV} (h : view H k v = some xs) : view (H ++ [b]) k v = some xs := by
  unfold view at h ⊢
  split at h
  · exact h
  · split at h
    · rename_i hk
      rw [if_pos hk]
      split at h
      · rename_i hb; rw [get_more hb]; exact h
      · rename_i hb; rw [get_more hb]; exact h
      · cases h
    · cases h
  · cases h
theorem ptr_more {H : Heap} {b : ABlk} {p : AV} {co : List AV × Nat} (h : ptrCells H p = some co) : ptrCells (H ++ [b]) p = some co := by
  unfold ptrCells at h ⊢
  split at h
  · exact h
  · split at h
    · rename_i hb; rw [get_more hb]; exact h
    · rename_i hb; rw [get_more hb]; exact h
    · rename_i hb; rw [get_more hb]; exact h
    · cases h
  · cases h
theorem grows_is {k : AK} (hk : k.grows = true) {vs : List AV} {H H' : Heap} {v : AV} (h : astep k vs H = some (v, H')) : ∃ b, H' = H ++ [b] := by
  cases k <;> simp [AK.grows] at hk
  case alloc z =>
    cases vs with
    | nil => simp only [astep, Option.some.injEq, Prod.mk.injEq] at h; exact ⟨_, h.2.symm⟩
    | cons => simp [astep] at h
  case box =>
    rcases vs with _ | ⟨x, _ | ⟨y, vs⟩⟩
    · simp [astep] at h
    · simp only [astep] at h
      split at h
      · simp only [Option.some.injEq, Prod.mk.injEq] at h; exact ⟨_, h.2.symm⟩
      · cases h
    · simp [astep] at h
theorem reads_more {k : AK} (hk : k.reads = true) {vs : List AV} {H : Heap} {v : AV} (h : astep k vs H = some (v, H)) (b : ABlk) : astep k vs (H ++ [b]) = some (v, H ++ [b]) := by
  cases k <;> simp [AK.reads] at hk
  case bytesToStr =>
    rcases vs with _ | ⟨x, _ | ⟨y, vs⟩⟩
    · simp [astep] at h
    · simp only [astep] at h ⊢
      split at h
      · rename_i xs hv
        rw [view_more hv]
        simp only
        cases hb : bytesOf xs with
        | none => rw [hb] at h; cases h
        | some u => rw [hb] at h; simp only [Option.map_some, Option.some.injEq, Prod.mk.injEq] at h ⊢; exact ⟨h.1, trivial⟩
      · cases h
    · simp [astep] at h
  case load s ag =>
    rcases vs with _ | ⟨x, _ | ⟨y, vs⟩⟩
    · simp [astep] at h
    · simp only [astep] at h ⊢
      split at h
      · rename_i cs o hp
        rw [ptr_more hp]
        simp only
        cases hb : part cs o s ag with
        | none => rw [hb] at h; cases h
        | some u => rw [hb] at h; simp only [Option.map_some, Option.some.injEq, Prod.mk.injEq] at h ⊢; exact ⟨h.1, trivial⟩
      · cases h
    · simp [astep] at h

theorem kill_map {α : Type} {o : Option α} {f : α → AV} {H H' : Heap} {v : AV} (h : o.map (fun x => (f x, H)) = some (v, H')) : H' = H ∧ ∀ H2 : Heap, o.map (fun x => (f x, H2)) = some (v, H2) := by
  cases o with
  | none => cases h
  | some x => simp at h ⊢; exact ⟨h.2.symm, h.1⟩

theorem pureO {o : Option AV} {H H' : Heap} {v : AV} (h : o.map (·, H) = some (v, H')) : H' = H ∧ ∀ H2 : Heap, o.map (·, H2) = some (v, H2) := kill_map h

set_option maxHeartbeats 1000000 in
theorem astep_pure {k : AK} (hk : k.cls = 0) {vs : List AV} {H H' : Heap} {v : AV} (h : astep k vs H = some (v, H')) : H' = H ∧ ∀ H2, astep k vs H2 = some (v, H2) := by
  unfold astep at h
  split at h
  all_goals try (simp [AK.cls] at hk; done)
  all_goals first
    | (obtain ⟨h1, h2⟩ := pureO h; exact ⟨h1, fun H2 => by simpa [astep] using h2 H2⟩)
    | (obtain ⟨h1, h2⟩ := kill_map h; exact ⟨h1, fun H2 => by simpa [astep] using h2 H2⟩)
    | (injection h with h; injection h with h1 h2; subst h1 h2; exact ⟨rfl, fun H2 => by simp [astep]⟩)
    | skip
  all_goals (repeat' split at h)
  all_goals first
    | (cases h; done)
    | (obtain ⟨h1, h2⟩ := pureO h; exact ⟨h1, fun H2 => by simpa [astep, *] using h2 H2⟩)
    | (obtain ⟨h1, h2⟩ := kill_map h; exact ⟨h1, fun H2 => by simpa [astep, *] using h2 H2⟩)
    | (injection h with h; injection h with h1 h2; subst h1 h2; exact ⟨rfl, fun H2 => by simp [astep, *]⟩)

theorem astep_read {k : AK} (hk : k.cls = 1) {vs : List AV} {H H' : Heap} {v : AV} (h : astep k vs H = some (v, H')) : H' = H := by
  unfold astep at h
  split at h
  all_goals try (simp [AK.cls] at hk; done)
  all_goals (repeat' split at h)
  all_goals first
    | (cases h; done)
    | exact (pureO h).1
    | exact (kill_map h).1

theorem stepK_pure {C : CSpec} {k : AK} (hk : k.cls = 0) {vs : List AV} {H H' : Heap} {v : AV} (h : StepK C k vs H v H') : H' = H ∧ ∀ H2, StepK C k vs H2 v H2 := by
  cases k
  case call f rd => cases rd <;> simp [AK.cls] at hk
  case callv rd => cases rd <;> simp [AK.cls] at hk
  all_goals exact astep_pure hk h

theorem stepK_read {C : CSpec} {k : AK} (hk : k.cls = 1) {vs : List AV} {H H' : Heap} {v : AV} (h : StepK C k vs H v H') : H' = H := by
  cases k
  case call f rd => cases rd <;> simp [AK.cls] at hk; exact h.2 rfl
  case callv rd =>
    cases rd <;> simp [AK.cls] at hk
    unfold StepK at h
    dsimp only at h
    split at h
    · exact h.2 rfl
    · exact h.elim
  all_goals exact astep_read hk h

def AI.looks (i : AI) : List Nat :=
  (i.xs.filterMap fun | .tmp t => some t | _ => none) ++ (match i.g with
    | some (s, _) => [s]
    | none => [])

/-- Two operations that may change places. -/
def AI.apart (x y : AI) : Bool :=
  (match x.dst with
    | some d => !y.looks.contains d && decide (y.dst ≠ some d)
    | none => true) &&
  (match y.dst with
    | some d => !x.looks.contains d
    | none => true) && (x.k.cls == 0 || y.k.cls == 0 || (x.k.cls == 1 && y.k.cls == 1) || (x.k.reads && y.k.grows))

theorem AI.apart_spec {x y : AI} (h : x.apart y = true) :
    (∀ d, x.dst = some d → d ∉ y.looks) ∧ (∀ d, x.dst = some d → y.dst ≠ some d) ∧ (∀ d, y.dst = some d → d ∉ x.looks) ∧ (x.k.cls = 0 ∨ y.k.cls = 0 ∨ (x.k.cls = 1 ∧ y.k.cls = 1) ∨ (x.k.reads = true ∧ y.k.grows = true)) := by
  simp only [AI.apart, Bool.and_eq_true, Bool.or_eq_true, beq_iff_eq, or_assoc] at h
  obtain ⟨⟨h1, h2⟩, h3⟩ := h
  refine ⟨fun d hd => ?_, fun d hd => ?_, fun d hd => ?_, h3⟩
  · rw [hd] at h1; simp at h1; exact h1.1
  · rw [hd] at h1; simp at h1; exact h1.2
  · rw [hd] at h2; simpa using h2

section
variable {C : CSpec} {GT : Nat → Option AV}

theorem yields_local {i : AI} {g g' : GF} (hg : ∀ t ∈ i.looks, g' t = g t) {H : Heap} {v : AV} {H' : Heap} (h : AYields C GT i g H v H') : AYields C GT i g' H v H' := by
  have hxs : i.xs.map (evg GT g') = i.xs.map (evg GT g) := List.map_congr_left fun x hx => by
    cases x with
    | tmp t => exact hg t (List.mem_append_left _ (List.mem_filterMap.2 ⟨.tmp t, hx, rfl⟩))
    | _ => rfl
  unfold AYields at *
  cases hgd : i.g with
  | none => rw [hgd] at h; rw [hxs]; exact h
  | some sw =>
    obtain ⟨s, want⟩ := sw
    rw [hgd] at h
    obtain ⟨b, hb, h⟩ := h
    exact ⟨b, by rw [hg s (by simp [AI.looks, hgd])]; exact hb, by rw [hxs]; exact h⟩

theorem putg_other {g : GF} {d : Option Nat} {v : AV} {L : List Nat} (h : ∀ e, d = some e → e ∉ L) : ∀ t ∈ L, putg g d v t = g t := by
  intro t ht
  cases d with
  | none => rfl
  | some e =>
    have : e ≠ t := fun he => h e rfl (he ▸ ht)
    simp [putg, this]

theorem putg_comm (g : GF) {d e : Option Nat} (v u : AV) (h : ∀ x, d = some x → e ≠ some x) : putg (putg g d v) e u = putg (putg g e u) d v := by
  cases d with
  | none => rfl
  | some d =>
    cases e with
    | none => rfl
    | some e =>
      have : d ≠ e := fun he => h d rfl (he ▸ rfl)
      funext t
      simp only [putg]
      by_cases h1 : e = t
      · subst h1; simp [this]
      · simp [h1]

theorem yields_pure {i : AI} (hi : i.k.cls = 0) {g : GF} {H : Heap} {v : AV} {H' : Heap} (h : AYields C GT i g H v H') : H' = H ∧ ∀ H2, AYields C GT i g H2 v H2 := by
  unfold AYields at *
  cases hgd : i.g with
  | none => rw [hgd] at h; exact stepK_pure hi h
  | some sw =>
    obtain ⟨s, want⟩ := sw
    rw [hgd] at h
    obtain ⟨b, hb, h⟩ := h
    split at h
    · rename_i hw
      obtain ⟨h1, h2⟩ := stepK_pure hi h
      exact ⟨h1, fun H2 => ⟨b, hb, by rw [if_pos hw]; exact h2 H2⟩⟩
    · rename_i hw
      exact ⟨h.2, fun H2 => ⟨b, hb, by rw [if_neg hw]; exact ⟨h.1, rfl⟩⟩⟩

theorem yields_read {i : AI} (hi : i.k.cls = 1) {g : GF} {H : Heap} {v : AV} {H' : Heap} (h : AYields C GT i g H v H') : H' = H := by
  unfold AYields at *
  cases hgd : i.g with
  | none => rw [hgd] at h; exact stepK_read hi h
  | some sw =>
    obtain ⟨s, want⟩ := sw
    rw [hgd] at h
    obtain ⟨b, hb, h⟩ := h
    split at h
    · exact stepK_read hi h
    · exact h.2

theorem yields_more {i : AI} (hi : i.k.reads = true) {g : GF} {H : Heap} {v : AV} (h : AYields C GT i g H v H) (b : ABlk) : AYields C GT i g (H ++ [b]) v (H ++ [b]) := by
  have st : ∀ {vs}, StepK C i.k vs H v H → StepK C i.k vs (H ++ [b]) v (H ++ [b]) := fun {vs} h => by
    cases hk : i.k <;> rw [hk] at hi h <;> first
      | exact reads_more hi h b
      | simp [AK.reads] at hi
  unfold AYields at *
  cases hgd : i.g with
  | none => rw [hgd] at h; exact st h
  | some sw =>
    obtain ⟨s, want⟩ := sw
    rw [hgd] at h
    obtain ⟨c, hc, h⟩ := h
    refine ⟨c, hc, ?_⟩
    split at h
    · rename_i hw; rw [if_pos hw]; exact st h
    · rename_i hw; rw [if_neg hw]; exact ⟨h.1, rfl⟩
theorem yields_grows {i : AI} (hi : i.k.grows = true) {g : GF} {H H' : Heap} {v : AV} (h : AYields C GT i g H v H') : H' = H ∨ ∃ b, H' = H ++ [b] := by
  have st : ∀ {vs}, StepK C i.k vs H v H' → ∃ b, H' = H ++ [b] := fun {vs} h => by
    cases hk : i.k <;> rw [hk] at hi h <;> first
      | exact grows_is hi h
      | simp [AK.grows] at hi
  unfold AYields at *
  cases hgd : i.g with
  | none => rw [hgd] at h; exact .inr (st h)
  | some sw =>
    obtain ⟨s, want⟩ := sw
    rw [hgd] at h
    obtain ⟨c, hc, h⟩ := h
    split at h
    · exact .inr (st h)
    · exact .inl h.2
theorem reads_cls {k : AK} (h : k.reads = true) : k.cls = 1 := by cases k <;> simp [AK.reads] at h <;> rfl

theorem yields_comm {x y : AI} (hap : x.apart y = true) {g : GF} {H H1 H2 : Heap} {v u : AV} (hx : AYields C GT x g H v H1) (hy : AYields C GT y (putg g x.dst v) H1 u H2) :
    ∃ H3, AYields C GT y g H u H3 ∧ AYields C GT x (putg g y.dst u) H3 v H2 ∧ putg (putg g x.dst v) y.dst u = putg (putg g y.dst u) x.dst v := by
  obtain ⟨h1, h2, h3, h4⟩ := AI.apart_spec hap
  have hx' := yields_local (putg_other (g := g) (v := u) h3) hx
  have hy' : AYields C GT y g H1 u H2 := yields_local (fun t ht => (putg_other (g := g) (v := v) h1 t ht).symm) hy
  refine (?_ : ∃ H3, AYields C GT y g H u H3 ∧ AYields C GT x (putg g y.dst u) H3 v H2).imp fun H3 h => ⟨h.1, h.2, putg_comm g v u h2⟩
  rcases h4 with h4 | h4 | ⟨h4, h5⟩ | ⟨h4, h5⟩
  · obtain ⟨e1, e2⟩ := yields_pure h4 hx'
    subst e1
    exact ⟨H2, hy', e2 H2⟩
  · obtain ⟨e1, e2⟩ := yields_pure h4 hy'
    subst e1
    exact ⟨H, e2 H, hx'⟩
  · have e1 := yields_read h4 hx'
    subst e1
    have e2 := yields_read h5 hy'
    subst e2
    exact ⟨_, hy', hx'⟩
  · have e1 := yields_read (reads_cls h4) hx'
    subst e1
    rcases yields_grows h5 hy' with e2 | ⟨b, e2⟩
    · subst e2; exact ⟨_, hy', hx'⟩
    · subst e2; exact ⟨_, hy', yields_more h4 hx' b⟩

/-! ### Any order -/

variable {ops : Array Oper} {ais : List AI}

/-- What each order comes to. -/
def AAny (C : CSpec) (GT : Nat → Option AV) (ops : Array Oper) (ais : List AI) (K : GF → Heap → Prop) : Nat → Array Bool → GF → Heap → Prop
  | 0, listed, g, H => Region.ready .any ops listed = [] ∧ K g H
  | f + 1, listed, g, H => Region.ready .any ops listed ≠ [] ∧
    ∀ i ∈ Region.ready .any ops listed, ∃ ai v H', ais[i]? = some ai ∧ AYields C GT ai g H v H' ∧ AAny C GT ops ais K f (listed.setIfInBounds i true) (putg g ai.dst v) H'

/-- j waits for i, by edges of the region's. -/
inductive Dep (ops : Array Oper) : Nat → Nat → Prop where
  | base {j : Nat} {o : Oper} {e : Edge} (ho : ops[j]? = some o) (he : e ∈ o.after) (hb : Region.binds .any e = true) : Dep ops e.on j
  | tail {i j : Nat} {o : Oper} {e : Edge} (h : Dep ops i e.on) (ho : ops[j]? = some o) (he : e ∈ o.after) (hb : Region.binds .any e = true) : Dep ops i j

def Closed (ops : Array Oper) (listed : Array Bool) : Prop :=
  ∀ j o, ops[j]? = some o → listed.getD j false = true → ∀ e ∈ o.after, Region.binds .any e = true → listed.getD e.on false = true

theorem Dep.listed {listed : Array Bool} (hc : Closed ops listed) {i j : Nat} (h : Dep ops i j) (hj : listed.getD j false = true) : listed.getD i false = true := by
  induction h with
  | base ho he hb => exact hc _ _ ho hj _ he hb
  | tail _ ho he hb ih => exact ih (hc _ _ ho hj _ he hb)

theorem Dep.ready {listed : Array Bool} (hc : Closed ops listed) {i j : Nat} (h : Dep ops i j) (hj : j ∈ Region.ready .any ops listed) : listed.getD i false = true := by
  obtain ⟨_, o', ho', hall⟩ := mem_ready.1 hj
  cases h with
  | base ho he hb => rw [ho'] at ho; cases ho; exact hall _ he hb
  | tail h ho he hb => rw [ho'] at ho; cases ho; exact h.listed hc (hall _ he hb)

theorem Closed.set {listed : Array Bool} (hc : Closed ops listed) {i : Nat} (hi : i ∈ Region.ready .any ops listed) : Closed ops (listed.setIfInBounds i true) := by
  obtain ⟨_, o', ho', hall⟩ := mem_ready.1 hi
  intro j o ho hl e he hb
  by_cases hij : i = j
  · subst hij
    rw [ho'] at ho; cases ho
    exact getD_set_true (hall e he hb)
  · rw [getD_set_ne false hij] at hl
    exact getD_set_true (hc j o ho hl e he hb)

theorem not_both {listed : Array Bool} {i : Nat} (h : listed.getD i true = false) (h' : listed.getD i false = true) : False := by
  rcases Nat.lt_or_ge i listed.size with h1 | h1
  · simp [h1] at h h'; rw [h] at h'; cases h'
  · simp [Array.getElem?_eq_none h1] at h

theorem aany_first {K : GF → Heap → Prop} {i : Nat} {ai : AI} (hi : ais[i]? = some ai) : ∀ (f : Nat) (listed : Array Bool) (g : GF) (H : Heap) (v : AV) (H1 : Heap), Closed ops listed →
    (∀ j aj, ais[j]? = some aj → j ≠ i → listed.getD j true = false → ai.apart aj = true ∨ Dep ops i j) → i ∈ Region.ready .any ops listed → AYields C GT ai g H v H1 →
    AAny C GT ops ais K f (listed.setIfInBounds i true) (putg g ai.dst v) H1 → AAny C GT ops ais K (f + 1) listed g H := by
  intro f
  induction f with
  | zero =>
    intro listed g H v H1 hc hfree hr hy hA
    refine ⟨fun h => (by rw [h] at hr; cases hr), fun j hj => ?_⟩
    by_cases hji : j = i
    · subst hji; exact ⟨ai, v, H1, hi, hy, hA⟩
    · have := ready_mono hj hji
      rw [hA.1] at this
      cases this
  | succ f ih =>
    intro listed g H v H1 hc hfree hr hy hA
    refine ⟨fun h => (by rw [h] at hr; cases hr), fun j hj => ?_⟩
    by_cases hji : j = i
    · subst hji; exact ⟨ai, v, H1, hi, hy, hA⟩
    · obtain ⟨aj, u, H2, haj, hyj, hA2⟩ := hA.2 j (ready_mono hj hji)
      have hjun := (mem_ready.1 hj).1
      have hap : ai.apart aj = true := by
        rcases hfree j aj haj hji hjun with h | h
        · exact h
        · exact (not_both (mem_ready.1 hr).1 (h.ready hc hj)).elim
      obtain ⟨H3, h1, h2, h3⟩ := yields_comm hap hy hyj
      refine ⟨aj, u, H3, haj, h1, ih _ _ _ v H2 (hc.set hj) (fun k ak hk hki hun => hfree k ak hk hki ?_) (ready_mono hr (Ne.symm hji)) h2 ?_⟩
      · by_cases hjk : j = k
        · subst hjk; exact hjun
        · rw [getD_set_ne true hjk] at hun; exact hun
      · rw [← h3, Array.setIfInBounds_comm _ _ hji]
        exact hA2

end
end Go.AM
