/- The abstract machine, part 9: every abstract step but a call is what the model does. Own work. -/
import Derived.Test.YtibdekobocpfdaaDoorAm8
set_option linter.all false
namespace Go.AM

section
variable {P : Program} {GT : Nat → Option AV} {w : World} {M : AMap} {I : Nat → Prop} {H : Heap}

theorem isStr_eq {t : TypeId} (h : isStr P t = true) : P.underlying t = some .string := by
  simp only [isStr] at h; split at h
  · assumption
  · cases h
theorem isInt_eq {t : TypeId} {k : IntKind} (h : isInt P t k = true) : P.underlying t = some (.int k) := by
  simp only [isInt] at h; split at h
  · rename_i k' hk; simp at h; subst h; exact hk
  · cases h
theorem isU8s_eq {t : TypeId} (h : isU8s P t = true) : ∃ e, P.underlying t = some (.slice e) ∧ P.underlying e = some (.int .u8) := by
  simp only [isU8s] at h; split at h
  · rename_i e he; exact ⟨e, he, isInt_eq h⟩
  · cases h
theorem isSliceOf_eq {t : TypeId} {k : Nat} (h : isSliceOf P t k = true) : ∃ e, P.underlying t = some (.slice e) ∧ sizeB P e = some k := by
  simp only [isSliceOf] at h; split at h
  · rename_i e he; exact ⟨e, he, by simpa using h⟩
  · cases h
theorem isArrOf_eq {t : TypeId} {n k : Nat} (h : isArrOf P t n k = true) : ∃ e, P.underlying t = some (.array n e) ∧ sizeB P e = some k := by
  simp only [isArrOf] at h; split at h
  · rename_i m e he
    simp at h; obtain ⟨rfl, h⟩ := h; exact ⟨e, he, h⟩
  · cases h

theorem bin_sound (hS : Sim GT w M I H) {op : BinOp} {t : TypeId} {X Y : Operand} {x y v : AV} {a b : Value} (hx : Rel w M I H.length x a) (hy : Rel w M I H.length y b) (h : aBin op x y = some v) :
    RunsTo P GT w M I H (do eqGuard op t X Y a b; binOp op t a b) v H := by
  have GI : ∀ (k k' : IntKind) (m m' : Int), (eqGuard op t X Y (.int k m) (.int k' m')).run P w = .ok () w := fun _ _ _ _ => eqGuard_plain (by simp) (by simp)
  have GS : ∀ (s s' : ByteArray), (eqGuard op t X Y (.string s) (.string s')).run P w = .ok () w := fun _ _ => eqGuard_plain (by simp) (by simp)
  unfold aBin at h
  split at h
  · rename_i k a k' b
    cases hx; cases hy
    split at h
    · rename_i hs
      obtain ⟨v', r, R⟩ := shift_run (P := P) (w := w) (M := M) (I := I) (k' := k') t hs h
      exact RunsTo.pure hS (by rw [Sem.run_bind, GI]; exact r) (R _)
    · split at h
      · rename_i hk; subst hk
        obtain ⟨v', r, R⟩ := intBin_run (P := P) (w := w) (M := M) (I := I) t h
        exact RunsTo.pure hS (by rw [Sem.run_bind, GI]; exact r) (R _)
      · cases h
  · cases hx; cases hy
    obtain ⟨v', r, R⟩ := str_run (P := P) (w := w) (M := M) (I := I) t h
    exact RunsTo.pure hS (by rw [Sem.run_bind, GS]; exact r) (R _)
  · cases h

theorem eqs_sound (hS : Sim GT w M I H) {neg : Bool} {sh : List Sc} {t : TypeId} {X Y : Operand} {x y : List AV} {a b : Value} {r : Bool} (hx : Rel w M I H.length (.agg x) a) (hy : Rel w M I H.length (.agg y) b)
    (hsh : shapeOf P 30 t = some sh) (hg : P.eqGuardType P.depth t = false) (hag : aggB P t = some true) (h : cellsEq sh x y = some r) :
    RunsTo P GT w M I H (do eqGuard (if neg then .neq else .eql) t X Y a b; binOp (if neg then .neq else .eql) t a b) (.bool (if neg then !r else r)) H := by
  cases hx with
  | agg _ vs hl hr =>
  cases hy with
  | agg _ us hl' hr' =>
  have he := (eq_sound (P := P) (w := w) (M := M) (I := I) 30 10000 t sh hsh (by omega)).2.2 x y vs us r (.agg vs.toArray) (.agg us.toArray) H.length ⟨hl, hr⟩ ⟨hl', hr'⟩ h (.inl ⟨hag, rfl⟩) (.inl ⟨hag, rfl⟩)
  refine RunsTo.pure hS (v' := .bool (if neg then !r else r)) ?_ (.bool _)
  cases neg
  · simp only [Bool.false_eq_true, if_false, Sem.run_bind, run_eqGuard_agg w _ t X Y _ _ hg, Result.andThen_ok, run_eql_struct, he]
  · simp only [if_true, Sem.run_bind, run_eqGuard_agg w _ t X Y _ _ hg, Result.andThen_ok, run_neq_struct, he]

theorem nilness_sound {n : Nat} {x : AV} {v : Value} (h : Rel w M I n x v) {b : Bool} (hb : nilness x = some b) : ∃ a l c, v = .slice a l c ∧ a.isNone = b := by
  cases h with
  | lnil q k hq => simp only [nilness] at hb; refine ⟨none, 0, 0, rfl, ?_⟩; cases b <;> simp_all
  | lemp q k a hq => simp only [nilness] at hb; refine ⟨_, _, _, rfl, ?_⟩; cases b <;> simp_all
  | lst q k xs g o cap V hq => simp only [nilness] at hb; refine ⟨_, _, _, rfl, ?_⟩; cases b <;> simp_all
  | sln q b' k off hbn hM hq => unfold nilness at hb; split at hb <;> simp_all
  | sl q b' k off len g o p cap hbn hM hc hm hq ha =>
    refine ⟨_, _, _, rfl, ?_⟩
    unfold nilness at hb
    split at hb
    · simp_all
    · simp_all
    · rename_i heq
      simp only [AV.sl.injEq] at heq
      obtain ⟨rfl, rfl, rfl, rfl, rfl⟩ := heq
      have := hq rfl
      simp only [Option.some.injEq] at hb
      rw [← hb]; simp; omega
    · cases hb
  | _ => simp [nilness] at hb

theorem eqn_sound (hS : Sim GT w M I H) {neg lit : Bool} {e : EK} {t : TypeId} {X Y : Operand} {x y : AV} {a b : Value} {r : Bool} (hx : Rel w M I H.length x a) (hy : Rel w M I H.length y b)
    (hek : ekOK P t e = true) (hlit : lit = true → isConst X = true ∨ isConst Y = true) (h : eqNil e lit x y = some r) :
    RunsTo P GT w M I H (do eqGuard (if neg then .neq else .eql) t X Y a b; binOp (if neg then .neq else .eql) t a b) (.bool (if neg then !r else r)) H := by
  refine RunsTo.pure hS (v' := .bool (if neg then !r else r)) ?_ (.bool _)
  have fin : (∀ d, (Op.equalIn (d + 1) t a b).run P w = .ok r w) → (eqGuard (if neg then .neq else .eql) t X Y a b).run P w = .ok () w → (∀ op, (op = .eql ∨ op = .neq) → binOp op t a b = (if op = .eql then (do pure (.bool (← Op.equal t a b))) else do pure (.bool (!(← Op.equal t a b))))) →
      Sem.run P (do eqGuard (if neg then .neq else .eql) t X Y a b; binOp (if neg then .neq else .eql) t a b) w = .ok (.bool (if neg then !r else r)) w := fun h0 h2 h3 => by
    have h1 : (Op.equal t a b).run P w = .ok r w := h0 9999
    cases neg
    · simp only [Bool.false_eq_true, if_false] at h2 ⊢
      simp only [Sem.run_bind, h2, Result.andThen_ok, h3 .eql (.inl rfl), if_true, h1, Sem.run_pure]
    · simp only [if_true] at h2 ⊢
      simp only [Sem.run_bind, h2, Result.andThen_ok, h3 .neq (.inr rfl), reduceCtorEq, if_false, h1, Sem.run_pure]
  have sl : ∀ {a b}, (∃ o l c, a = Value.slice o l c) → (∃ o l c, b = Value.slice o l c) → ∀ op, (op = .eql ∨ op = .neq) → binOp op t a b = (if op = .eql then (do pure (.bool (← Op.equal t a b))) else do pure (.bool (!(← Op.equal t a b)))) := by
    rintro _ _ ⟨o, l, c, rfl⟩ ⟨o', l', c', rfl⟩ op (rfl | rfl) <;> rfl
  unfold eqNil at h
  split at h
  · -- nil, nil
    cases hx; cases hy
    split at h
    · rename_i hl
      simp only [Option.some.injEq] at h; subst h
      obtain ⟨ms, ht⟩ : ∃ ms, P.underlying t = some (.interface ms) := by simp only [ekOK] at hek; split at hek <;> simp_all
      refine fin (fun d => by simp [Op.equalIn, run_underlying ht]) ?_ (by rintro op (rfl | rfl) <;> rfl)
      have hc : ((match X with | .const _ => true | _ => false) || (match Y with | .const _ => true | _ => false)) = true := by
        rcases hlit hl with h | h
        · cases X <;> simp_all [isConst]
        · cases Y <;> simp_all [isConst]
      cases neg <;> simp only [Bool.false_eq_true, if_false, if_true, eqGuard]
      · show Sem.run P (if ((match X with | .const _ => true | _ => false) || (match Y with | .const _ => true | _ => false)) = true then _ else _) w = _
        rw [if_pos hc]; rfl
      · show Sem.run P (if ((match X with | .const _ => true | _ => false) || (match Y with | .const _ => true | _ => false)) = true then _ else _) w = _
        rw [if_pos hc]; rfl
    · cases h
  all_goals first
    | (cases hx; cases hy
       simp only [Option.some.injEq] at h; subst h
       simp only [ekOK] at hek
       split at hek
       · rename_i ht
         exact fin (fun d => by simp [Op.equalIn, run_underlying ht]) (eqGuard_plain (by simp) (by simp)) (by rintro op (rfl | rfl) <;> rfl)
       · cases hek)
    | skip
  · -- nil on the left
    obtain ⟨e, ht⟩ : ∃ e, P.underlying t = some (.slice e) := by simp only [ekOK] at hek; split at hek <;> simp_all
    obtain ⟨o, l, c, rfl, ho⟩ := nilness_sound hy h
    obtain ⟨o', l', c', rfl, ho'⟩ := nilness_sound hx (b := true) rfl
    simp only [Option.isNone_iff_eq_none] at ho'; subst ho'
    exact fin (fun d => by simp [Op.equalIn, run_underlying ht, ho]) (eqGuard_plain (by simp) (by simp)) (sl ⟨_, _, _, rfl⟩ ⟨_, _, _, rfl⟩)
  · obtain ⟨e, ht⟩ : ∃ e, P.underlying t = some (.slice e) := by simp only [ekOK] at hek; split at hek <;> simp_all
    obtain ⟨o, l, c, rfl, ho⟩ := nilness_sound hx h
    obtain ⟨o', l', c', rfl, ho'⟩ := nilness_sound hy (b := true) rfl
    simp only [Option.isNone_iff_eq_none] at ho'; subst ho'
    refine fin (fun d => ?_) (eqGuard_plain (by simp) (by simp)) (sl ⟨_, _, _, rfl⟩ ⟨_, _, _, rfl⟩)
    cases o <;> simp at ho <;> subst ho <;> simp [Op.equalIn, run_underlying ht]
  · cases h

end
end Go.AM
