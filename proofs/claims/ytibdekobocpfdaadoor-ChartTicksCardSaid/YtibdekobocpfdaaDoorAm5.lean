/- The abstract machine, part 5: each abstract step is what the model does. Own work. -/
import Derived.Test.YtibdekobocpfdaaDoorAm4
set_option linter.all false
namespace Go.AM

section
variable {P : Program} {GT : Nat → Option AV} {w : World} {M : AMap} {I : Nat → Prop} {H : Heap}

/-- The end of one operation of the model. -/
def OpTo (P : Program) (GT : Nat → Option AV) (w : World) (M : AMap) (I : Nat → Prop) (H : Heap) (s : Sem Next) (v : AV) (H' : Heap) : Prop :=
  ∃ v' w' M' I', (s.run P w = .ok (.value v') w' ∨ s.run P w = .ok .skip w' ∧ v' = Go.undef) ∧ Grow w M I H w' M' I' H' ∧ Sim GT w' M' I' H' ∧ Rel w' M' I' H'.length v v'

theorem OpTo.of_runs {s : Sem Value} {v : AV} {H' : Heap} (h : RunsTo P GT w M I H s v H') : OpTo P GT w M I H (do pure (.value (← s))) v H' := by
  obtain ⟨v', w', M', I', h1, h2, h3, h4⟩ := h
  exact ⟨v', w', M', I', .inl (by simp [h1]), h2, h3, h4⟩

theorem OpTo.val (hS : Sim GT w M I H) {v : AV} {v' : Value} (h : Rel w M I H.length v v') : OpTo P GT w M I H (Pure.pure (.value v')) v H :=
  ⟨v', w, M, I, .inl rfl, Grow.refl .., hS, h⟩

theorem toListB (s : List UInt8) : (⟨s.toArray⟩ : ByteArray).toList = s := by rw [ByteArray.toList_eq]
theorem sizeB' (s : List UInt8) : (⟨s.toArray⟩ : ByteArray).size = s.length := by simp [ByteArray.size]

theorem intBin_run {op : BinOp} {k : IntKind} {a b : Int} {v : AV} (t : TypeId) (h : intBin op k a b = some v) : ∃ v', (binOp op t (.int k a) (.int k b)).run P w = .ok v' w ∧ ∀ n, Rel w M I n v v' := by
  cases op <;> simp only [intBin, Option.some.injEq, reduceCtorEq] at h <;> simp only [binOp, ne_eq, not_true_eq_false, if_false, Op.intArith, Op.intCmp, Op.intBits, Op.intDiv, Sem.run_ite, Sem.run_pure]
  all_goals first
    | (subst h; exact ⟨_, rfl, fun n => .int _ _⟩)
    | (subst h; exact ⟨_, rfl, fun n => .bool _⟩)
    | (split at h
       · cases h
       · rename_i h0
         simp only [Option.some.injEq] at h
         subst h
         rw [if_neg h0]
         exact ⟨_, rfl, fun n => .int _ _⟩)

theorem shift_run {op : BinOp} {k k' : IntKind} {a b : Int} {v : AV} (t : TypeId) (hop : op = .shl ∨ op = .shr) (h : shiftBin op k a b = some v) : ∃ v', (binOp op t (.int k a) (.int k' b)).run P w = .ok v' w ∧ ∀ n, Rel w M I n v v' := by
  rcases hop with rfl | rfl <;> simp [shiftBin] at h <;> obtain ⟨h0, rfl⟩ := h
  all_goals
    have h0' : ¬ b < 0 := by omega
    exact ⟨_, by simp only [binOp, Op.shift, if_neg h0', Sem.run_pure], fun n => .int _ _⟩

theorem str_run {op : BinOp} {a b : List UInt8} {v : AV} (t : TypeId) (h : strBin op a b = some v) : ∃ v', (binOp op t (.string ⟨a.toArray⟩) (.string ⟨b.toArray⟩)).run P w = .ok v' w ∧ ∀ n, Rel w M I n v v' := by
  cases op <;> simp [strBin] at h <;> simp only [binOp, Op.stringOp, toListB, sizeB', Sem.run_ite, Sem.run_pure]
  all_goals first
    | (subst h; exact ⟨_, rfl, fun n => .bool _⟩)
    | (subst h; exact ⟨_, rfl, fun n => by rw [Bool.not_or]; exact .bool _⟩)
    | skip
  obtain ⟨h0, rfl⟩ := h
  refine ⟨.string ⟨(a ++ b).toArray⟩, ?_, fun n => .str _⟩
  rw [if_neg (by rw [IntKind.max_i64]; omega)]
  congr 2

theorem eqGuard_plain {op : BinOp} {t : TypeId} {x y : Operand} {a b : Value} (h : ∀ vs us, ¬ (a = .agg vs ∧ b = .agg us)) (h' : ¬ (a = .nilIface ∧ b = .nilIface)) : (eqGuard op t x y a b).run P w = .ok () w := by
  unfold eqGuard
  split
  all_goals first
    | rfl
    | (simp only [Bool.not_true, Bool.false_eq_true, if_false]
       split
       · exact absurd ⟨rfl, rfl⟩ h'
       · exact absurd ⟨rfl, rfl⟩ (h _ _)
       · rfl)

/-! ### '==' on structs -/

/-- A type's value, out of its cells. -/
def IsVal (P : Program) (t : TypeId) (vs : List Value) (v : Value) : Prop := (aggB P t = some true ∧ v = .agg vs.toArray) ∨ (aggB P t = some false ∧ vs = [v])

theorem cellsEq_append : ∀ (s r : List Sc) (xs ys : List AV) (b : Bool), cellsEq (s ++ r) xs ys = some b →
    ∃ p q, cellsEq s (xs.take s.length) (ys.take s.length) = some p ∧ cellsEq r (xs.drop s.length) (ys.drop s.length) = some q ∧ b = (p && q)
  | [], r, xs, ys, b, h => ⟨true, b, by simp [cellsEq], by simpa using h, by simp⟩
  | c :: s, r, [], ys, b, h => by simp [cellsEq] at h
  | c :: s, r, x :: xs, [], b, h => by simp [cellsEq] at h
  | c :: s, r, x :: xs, y :: ys, b, h => by
    simp only [List.cons_append, cellsEq] at h
    split at h
    · rename_i p q h1 h2
      obtain ⟨p', q', e1, e2, rfl⟩ := cellsEq_append s r xs ys q h2
      simp only [Option.some.injEq] at h
      subst h
      exact ⟨p && p', q', by simp [cellsEq, h1, e1], by simpa using e2, by cases p <;> cases p' <;> simp⟩
    · cases h

theorem cellsEq_len : ∀ (s : List Sc) (xs ys : List AV) (b : Bool), cellsEq s xs ys = some b → xs.length = s.length ∧ ys.length = s.length
  | [], [], [], _, _ => ⟨rfl, rfl⟩
  | [], _ :: _, _, _, h => by simp [cellsEq] at h
  | [], [], _ :: _, _, h => by simp [cellsEq] at h
  | _ :: _, [], _, _, h => by simp [cellsEq] at h
  | _ :: _, _ :: _, [], _, h => by simp [cellsEq] at h
  | c :: s, x :: xs, y :: ys, b, h => by
    simp only [cellsEq] at h
    split at h
    · rename_i p q h1 h2
      have := cellsEq_len s xs ys q h2
      simp [this.1, this.2]
    · cases h

theorem RelL.drop {n : Nat} {xs : List AV} {vs : List Value} (h : RelL w M I n xs vs) (k : Nat) : RelL w M I n (xs.drop k) (vs.drop k) :=
  ⟨by have := h.1; simp; omega, fun i c v hc hv => by rw [List.getElem?_drop] at hc hv; exact h.2 _ c v hc hv⟩
theorem RelL.take {n : Nat} {xs : List AV} {vs : List Value} (h : RelL w M I n xs vs) (k : Nat) : RelL w M I n (xs.take k) (vs.take k) :=
  ⟨by have := h.1; simp; omega, fun i c v hc hv => by
    rw [List.getElem?_take] at hc hv
    split at hc
    · rw [if_pos ‹_›] at hv; exact h.2 _ c v hc hv
    · cases hc⟩

theorem partVal {t : TypeId} {s o : Nat} {vs : List Value} (hs : sizeB P t = some s) (ha : (aggB P t).isSome = true) (h1 : aggB P t = some false → s = 1) (hl : o + s ≤ vs.length) :
    ∃ v, (Go.part t vs.toArray o).run P w = .ok v w ∧ IsVal P t ((vs.drop o).take s) v := by
  unfold Go.part
  cases hb : aggB P t with
  | none => simp [hb] at ha
  | some b =>
    cases b with
    | true =>
      refine ⟨.agg ((vs.drop o).take s).toArray, ?_, .inl ⟨hb, rfl⟩⟩
      simp only [Sem.run_bind, isAgg_run hb, Result.andThen_ok, if_true, sizeOf_run hs, Sem.run_pure]
      congr 2
      simp [List.extract_toArray, List.extract_eq_take_drop]
    | false =>
      obtain rfl := h1 hb
      refine ⟨vs[o]'(by omega), ?_, .inr ⟨hb, ?_⟩⟩
      · simp only [Sem.run_bind, isAgg_run hb, Result.andThen_ok, Bool.false_eq_true, if_false]
        simp [List.getElem?_eq_getElem (show o < vs.length by omega)]
      · rw [List.drop_eq_getElem_cons (by omega)]; rfl

theorem fields_sound {S : TypeId → Option (List Sc)} {D : Nat}
    (ih : ∀ t sh, S t = some sh → (aggB P t).isSome = true ∧ (aggB P t = some false → sh.length = 1) ∧ ∀ (xs ys : List AV) (vs us : List Value) (b : Bool) (v u : Value) (n : Nat), RelL w M I n xs vs → RelL w M I n ys us → cellsEq sh xs ys = some b → IsVal P t vs v → IsVal P t us u → (Op.equalIn D t v u).run P w = .ok b w) :
    ∀ (fs : List Field) (o : Nat) (sh : List Sc), shapeFs P S o fs = some sh → ∀ (xs ys : List AV) (vs us : List Value) (b : Bool) (n : Nat), RelL w M I n xs vs → RelL w M I n ys us → cellsEq sh (xs.drop o) (ys.drop o) = some b →
      (Op.eqFields D vs.toArray us.toArray fs).run P w = .ok b w
  | [], o, sh, h, xs, ys, vs, us, b, n, hx, hy, hc => by
    simp only [shapeFs, Option.some.injEq] at h; subst h
    have : b = true := by
      cases hd : xs.drop o <;> cases he : ys.drop o <;> simp [hd, he, cellsEq] at hc
      exact hc
    subst this
    simp [Op.eqFields]
  | f :: fs, o, sh, h, xs, ys, vs, us, b, n, hx, hy, hc => by
    simp only [shapeFs] at h
    split at h
    · rename_i hn
      obtain ⟨hname, hoff⟩ := hn
      split at h
      · rename_i s hS
        split at h
        · rename_i hsz
          obtain ⟨hsz, hpos⟩ := hsz
          obtain ⟨r, hr, rfl⟩ := Option.map_eq_some_iff.1 h
          obtain ⟨p, q, e1, e2, rfl⟩ := cellsEq_append s r _ _ _ hc
          obtain ⟨a1, a2, a3⟩ := ih _ _ hS
          have hlx := cellsEq_len _ _ _ _ e1
          have hv : o + s.length ≤ vs.length := by have := hx.1; have := hlx.1; simp at this; omega
          have hu : o + s.length ≤ us.length := by have := hy.1; have := hlx.2; simp at this; omega
          obtain ⟨v, rv, iv⟩ := partVal (P := P) (w := w) (o := o) hsz a1 a2 hv
          obtain ⟨u, ru, iu⟩ := partVal (P := P) (w := w) (o := o) hsz a1 a2 hu
          have he := a3 _ _ _ _ p v u n ((hx.drop o).take s.length) ((hy.drop o).take s.length) e1 iv iu
          rw [List.drop_drop, List.drop_drop] at e2
          have hrest := fields_sound ih fs (o + s.length) r hr xs ys vs us q n hx hy e2
          simp only [Op.eqFields, hname, ne_eq, not_false_eq_true, if_true, hoff, Sem.run_bind, rv, ru, Result.andThen_ok, he, Sem.run_ite, Sem.run_pure, hrest]
          cases p <;> simp
        · cases h
      · cases h
    · cases h

theorem eq_sound : ∀ (d D : Nat) (t : TypeId) (sh : List Sc), shapeOf P d t = some sh → d ≤ D →
    (aggB P t).isSome = true ∧ (aggB P t = some false → sh.length = 1) ∧ ∀ (xs ys : List AV) (vs us : List Value) (b : Bool) (v u : Value) (n : Nat), RelL w M I n xs vs → RelL w M I n ys us → cellsEq sh xs ys = some b → IsVal P t vs v → IsVal P t us u → (Op.equalIn D t v u).run P w = .ok b w
  | 0, _, _, _, h, _ => by simp [shapeOf] at h
  | d + 1, 0, _, _, _, h => absurd h (by omega)
  | d + 1, D + 1, t, sh, h, hd => by
    have one : ∀ {c : Sc} {xs ys : List AV} {b : Bool}, cellsEq [c] xs ys = some b → ∃ x y, xs = [x] ∧ ys = [y] ∧ cellEq c x y = some b := by
      intro c xs ys b h
      have hl := cellsEq_len _ _ _ _ h
      match xs, ys, hl with
      | [x], [y], _ =>
        simp only [cellsEq] at h
        split at h
        · rename_i p q h1 h2
          simp at h h2; subst h2; simp at h; subst h
          exact ⟨x, y, rfl, rfl, h1⟩
        · cases h
    have sing : ∀ {vs : List Value} {v : Value} {x : AV} {n : Nat}, aggB P t = some false → RelL w M I n [x] vs → IsVal P t vs v → Rel w M I n x v := by
      intro vs v x n ha hr hv
      rcases hv with ⟨h1, _⟩ | ⟨_, rfl⟩
      · rw [ha] at h1; cases h1
      · exact hr.2 0 x v rfl rfl
    simp only [shapeOf] at h
    split at h
    · rename_i k ht
      simp only [Option.some.injEq] at h; subst h
      have ha : aggB P t = some false := by simp [aggB, ht]
      refine ⟨by simp [ha], fun _ => rfl, fun xs ys vs us b v u n hx hy hc hv hu => ?_⟩
      obtain ⟨x, y, rfl, rfl, he⟩ := one hc
      have rx := sing ha hx hv
      have ry := sing ha hy hu
      unfold cellEq at he
      split at he
      · rename_i hs
        cases hs
        cases rx; cases ry
        split at he
        · rename_i hk
          obtain ⟨rfl, rfl⟩ := hk
          simp only [Option.some.injEq] at he; subst he
          exact run_equalIn_int w D t _ _ _ _ ht
        · cases he
      · rename_i hs; cases hs
      · rename_i hs; cases hs
      · cases he
    · rename_i ht
      simp only [Option.some.injEq] at h; subst h
      have ha : aggB P t = some false := by simp [aggB, ht]
      refine ⟨by simp [ha], fun _ => rfl, fun xs ys vs us b v u n hx hy hc hv hu => ?_⟩
      obtain ⟨x, y, rfl, rfl, he⟩ := one hc
      have rx := sing ha hx hv
      have ry := sing ha hy hu
      unfold cellEq at he
      split at he
      · rename_i hs; cases hs
      · cases rx; cases ry
        simp only [Option.some.injEq] at he; subst he
        exact run_equalIn_bool' w D t _ _ ht
      · rename_i hs; cases hs
      · cases he
    · rename_i ht
      simp only [Option.some.injEq] at h; subst h
      have ha : aggB P t = some false := by simp [aggB, ht]
      refine ⟨by simp [ha], fun _ => rfl, fun xs ys vs us b v u n hx hy hc hv hu => ?_⟩
      obtain ⟨x, y, rfl, rfl, he⟩ := one hc
      have rx := sing ha hx hv
      have ry := sing ha hy hu
      unfold cellEq at he
      split at he
      · rename_i hs; cases hs
      · rename_i hs; cases hs
      · cases rx; cases ry
        simp only [Option.some.injEq] at he; subst he
        rw [run_equalIn_string w D t _ _ ht, toListB, toListB]
      · cases he
    · rename_i fs ht
      have ha : aggB P t = some true := by simp [aggB, ht]
      split at h
      · cases h
      · rename_i hp
        have hf : P.fieldsOf t = fs := by simp [Program.fieldsOf, ht]
        refine ⟨by simp [ha], fun h => (by rw [ha] at h; cases h), fun xs ys vs us b v u n hx hy hc hv hu => ?_⟩
        rcases hv with ⟨_, rfl⟩ | ⟨h1, _⟩
        · rcases hu with ⟨_, rfl⟩ | ⟨h1, _⟩
          · rw [run_equalIn_struct w D t _ _ (by rw [hf]; exact ht) (by simpa using hp), hf]
            exact fields_sound (fun t sh hsh => eq_sound d D t sh hsh (by omega)) fs.toList 0 sh h xs ys vs us b n hx hy (by simpa using hc)
          · rw [ha] at h1; cases h1
        · rw [ha] at h1; cases h1
    · cases h

end
end Go.AM
