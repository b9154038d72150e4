/- The abstract machine, part 13: calls; one operation; a region in the text's order. Own work. -/
import Derived.Test.YtibdekobocpfdaaDoorAm12
set_option linter.all false
namespace Go.AM

section
variable {P : Program} {GT : Nat → Option AV} {w : World} {M : AMap} {I : Nat → Prop} {H : Heap}

/-- What is asked once an operation has ended. -/
def OpDone (P : Program) (r : Result Next) (next : Value → World → Prop) : Prop :=
  match r with
  | .ok (.value v) w' => next v w'
  | .ok .skip w' => next Go.undef w'
  | .ok (.enter f args) w' => Calls P f args w' fun e w'' => ∃ v, e = .returned v ∧ next v w''
  | _ => False

theorem OpDone.mono {r : Result Next} {next next' : Value → World → Prop} (h : OpDone P r next) (hn : ∀ v w, next v w → next' v w) : OpDone P r next' := by
  unfold OpDone at *
  split at h
  · exact hn _ _ h
  · exact hn _ _ h
  · exact h.mono fun e w' ⟨v, he, hv⟩ => ⟨v, he, hn _ _ hv⟩
  · exact h.elim

theorem wp_of_done {o : Oper} {a : Act} {K : Act → World → Prop} {Q : Exit → Act → World → Prop} (h : OpDone P ((execOp a.eval o).run P w) fun v w' => K (a.put o.dst v) w') : o.wp P a w K Q := by
  unfold Oper.wp
  unfold OpDone at h
  split at h
  · rename_i hr; rw [hr]; exact h
  · rename_i hr; rw [hr]; exact h
  · rename_i hr; rw [hr]
    exact h.mono fun e w' ⟨v, he, hv⟩ => by subst he; exact hv
  · exact h.elim

/-- What is asked once an operation has ended in a panic. -/
def PanDone (P : Program) (r : Result Next) (pn : Value → World → Prop) : Prop :=
  match r with
  | .ok (.enter f args) w' => Calls P f args w' fun e w'' => ∃ v, e = .panicked [{ v, recovered := false }] ∧ pn v w''
  | .halt (.panic v) w' => pn v w'
  | _ => False

theorem wp_of_pan {o : Oper} {a : Act} {K : Act → World → Prop} {Q : Exit → Act → World → Prop} (h : PanDone P ((execOp a.eval o).run P w) fun v w' => Q (.panic [{ v, recovered := false }]) a w') : o.wp P a w K Q := by
  unfold Oper.wp
  unfold PanDone at h
  split at h
  · rename_i hr; rw [hr]
    exact h.mono fun e w' ⟨v, he, hv⟩ => by subst he; exact hv
  · rename_i hr; rw [hr]; exact h
  · exact h.elim

/-- A call that returns. -/
def GoodN (P : Program) (GT : Nat → Option AV) : CSpec := fun f args H v H' =>
  ∀ (w : World) (M : AMap) (I : Nat → Prop) (cargs : List Value), Sim GT w M I H → RelL w M I H.length args cargs →
    OpDone P ((callFunc f cargs.toArray).run P w) fun v' w' => ∃ M' I', Grow w M I H w' M' I' H' ∧ Sim GT w' M' I' H' ∧ Rel w' M' I' H'.length v v'
/-- A call that ends in a panic with what x stands for. -/
def GoodP (P : Program) (GT : Nat → Option AV) : CSpec := fun f args H x H' =>
  ∀ (w : World) (M : AMap) (I : Nat → Prop) (cargs : List Value), Sim GT w M I H → RelL w M I H.length args cargs →
    PanDone P ((callFunc f cargs.toArray).run P w) fun v' w' => ∃ M' I', Grow w M I H w' M' I' H' ∧ Sim GT w' M' I' H' ∧ Rel w' M' I' H'.length x v'

/-- What the abstract machine knows of a call, and that it is so. A list of arguments that begins with '.pan' speaks of a call that panics. -/
def Good (P : Program) (GT : Nat → Option AV) : CSpec := fun f args H v H' =>
  match args with
  | .pan _ :: args' => GoodP P GT f args' H v H'
  | args => GoodN P GT f args H v H'

def noPan : List AV → Bool
  | .pan _ :: _ => false
  | _ => true

theorem not_pan {n : Nat} {x : AV} {v : Value} (h : Rel w M I n (.pan x) v) : False := by cases h

theorem Good.n {f : FuncId} {args : List AV} {v : AV} {H' : Heap} {n : Nat} {cargs : List Value} (h : Good P GT f args H v H') (ha : RelL w M I n args cargs) : GoodN P GT f args H v H' := by
  unfold Good at h
  split at h
  · rename_i x args'
    match cargs, ha with
    | [], ha => exact absurd ha.1 (by simp)
    | c :: cs, ha => exact (not_pan (ha.2 0 _ c rfl rfl)).elim
  · exact h

theorem good_of_n {f : FuncId} {args : List AV} {v : AV} {H' : Heap} (hn : noPan args = true) (h : GoodN P GT f args H v H') : Good P GT f args H v H' := by
  unfold Good
  split
  · simp [noPan] at hn
  · exact h

/-- One operation, call or not. -/
def StepK (C : CSpec) (k : AK) (vs : List AV) (H : Heap) (v : AV) (H' : Heap) : Prop :=
  match k with
  | .call f rd => C f vs H v H' ∧ (rd = true → H' = H)
  | .callv rd => match vs with
    | .fn f first caps :: args => C f (first ++ args ++ caps) H v H' ∧ (rd = true → H' = H)
    | _ => False
  | k => astep k vs H = some (v, H')

theorem stepK_of {C : CSpec} {k : AK} {vs : List AV} {H : Heap} {K : AV → Heap → Prop} (h : stepK C k vs H K) : ∃ v H', StepK C k vs H v H' ∧ K v H' := by
  cases k
  case call f rd => obtain ⟨v, H', h1, h2, h3⟩ := h; exact ⟨v, H', ⟨h1, h2⟩, h3⟩
  case callv rd =>
    simp only [stepK] at h
    split at h
    · obtain ⟨v, H', h1, h2, h3⟩ := h; exact ⟨v, H', ⟨h1, h2⟩, h3⟩
    · exact h.elim
  all_goals
    simp only [stepK] at h
    split at h
    · rename_i v H' hs
      exact ⟨v, H', hs, h⟩
    · exact h.elim

theorem chk_call' {op : Op} {k : AK} {f : FuncId} {rd : Bool} {xs : List Opd} (h : chkOp P op k xs = true) (hk : k = .call f rd) : ∃ args at_, op = .call { callee := .value (.func f), args := args, argTypes := at_ } ∧ chkOs args.toList xs = true := by
  replace h : chkOp0 P op k xs = true := by subst hk; exact h
  unfold chkOp0 at h
  split at h
  all_goals first
    | (injection hk; done)
    | (injection hk with e1 e2; subst e1; simp only [Bool.and_eq_true, beq_iff_eq] at h; obtain ⟨rfl, h⟩ := h; exact ⟨_, _, rfl, h⟩)
    | cases h

theorem chk_call {op : Op} {f : FuncId} {rd : Bool} {xs : List Opd} (h : chkOp P op (.call f rd) xs = true) : ∃ args at_, op = .call { callee := .value (.func f), args := args, argTypes := at_ } ∧ chkOs args.toList xs = true := chk_call' h rfl

theorem chk_callv' {op : Op} {k : AK} {rd : Bool} {xs : List Opd} (h : chkOp P op k xs = true) (hk : k = .callv rd) : ∃ x args at_, op = .call { callee := .value x, args := args, argTypes := at_ } ∧ chkOs (x :: args.toList) xs = true := by
  replace h : chkOp0 P op k xs = true := by subst hk; exact h
  unfold chkOp0 at h
  split at h
  all_goals first
    | (injection hk; done)
    | exact ⟨_, _, _, rfl, h⟩
    | cases h

theorem chk_callv {op : Op} {rd : Bool} {xs : List Opd} (h : chkOp P op (.callv rd) xs = true) : ∃ x args at_, op = .call { callee := .value x, args := args, argTypes := at_ } ∧ chkOs (x :: args.toList) xs = true := chk_callv' h rfl

/-- An operation comes to what the abstract one says. -/
def Comes1 (P : Program) (GT : Nat → Option AV) (w : World) (M : AMap) (I : Nat → Prop) (H : Heap) (s : Sem Next) (v : AV) (H' : Heap) : Prop :=
  OpDone P (s.run P w) fun v' w' => ∃ M' I', Grow w M I H w' M' I' H' ∧ Sim GT w' M' I' H' ∧ Rel w' M' I' H'.length v v'

theorem comes_sound (hS : Sim GT w M I H) {o : Oper} {k : AK} {xs : List Opd} (hchk : chkOp P o.op k xs = true) {ρ : Operand → Value} {e : Opd → AV} (hev : ∀ x x', chkO x x' = true → Rel w M I H.length (e x') (ρ x))
    (hfn : ∀ f, ρ (.func f) = .func (.func f) #[] #[]) {v : AV} {H' : Heap} (hst : StepK (Good P GT) k (xs.map e) H v H') : Comes1 P GT w M I H (execOp ρ o) v H' := by
  have hevs : ∀ {as : List Operand} {bs : List Opd}, chkOs as bs = true → RelL w M I H.length (bs.map e) (as.map ρ) := by
    intro as
    induction as with
    | nil => intro bs h; cases bs with
      | nil => exact ⟨rfl, by simp⟩
      | cons => simp [chkOs] at h
    | cons a as ih => intro bs h; cases bs with
      | nil => simp [chkOs] at h
      | cons b bs =>
        simp only [chkOs, Bool.and_eq_true] at h
        have := ih h.2
        refine ⟨by simpa using this.1, fun i c v hc hv => ?_⟩
        cases i with
        | zero => simp at hc hv; subst hc hv; exact hev _ _ h.1
        | succ i => exact this.2 i c v (by simpa using hc) (by simpa using hv)
  have plain : astep k (xs.map e) H = some (v, H') → Comes1 P GT w M I H (execOp ρ o) v H' := fun hs => by
    obtain ⟨v', w', M', I', h1, h2, h3, h4⟩ := step_sound hS hchk hev hs
    unfold Comes1 OpDone
    rcases h1 with h1 | ⟨h1, rfl⟩
    · rw [h1]; exact ⟨M', I', h2, h3, h4⟩
    · rw [h1]; exact ⟨M', I', h2, h3, h4⟩
  cases k <;> try exact plain hst
  case call f rd =>
    obtain ⟨dst, op, ty, pos, after, guard⟩ := o
    obtain ⟨args, at_, rfl, h1⟩ := chk_call hchk
    have := hst.1.n (hevs h1) w M I _ hS (hevs h1)
    have hrun : (execOp ρ ⟨dst, .call { callee := .value (.func f), args := args, argTypes := at_ }, ty, pos, after, guard⟩).run P w = (callFunc f (args.toList.map ρ).toArray).run P w := by
      have hf := hfn f
      show Sem.run P (do let d ← resolve ρ _ ty; invoke d.target d.args) w = _
      simp only [resolve, Deferred.ofValue, hf, invoke, Sem.run_bind, Sem.run_pure, Result.andThen_ok]
      congr 2
      apply Array.ext'
      simp
    unfold Comes1
    rw [hrun]; exact this
  case callv rd =>
    obtain ⟨dst, op, ty, pos, after, guard⟩ := o
    obtain ⟨x, args, at_, rfl, h1⟩ := chk_callv hchk
    cases xs with
    | nil => simp [chkOs] at h1
    | cons x' xs' =>
      simp only [chkOs, Bool.and_eq_true] at h1
      simp only [StepK, List.map_cons] at hst
      split at hst
      case h_2 => exact hst.elim
      rename_i f fst caps vs heq
      simp only [List.cons.injEq] at heq
      obtain ⟨hx, rfl⟩ := heq
      have r1 := hev _ _ h1.1
      rw [hx] at r1
      have r2 := hevs h1.2
      generalize hxv : ρ x = vx at r1
      cases r1 with
      | fn _ _ _ vs us hl hl' hr hr' =>
        have hargs : RelL w M I H.length (fst ++ xs'.map e ++ caps) (vs ++ args.toList.map ρ ++ us) := by
          have app : ∀ {a b : List AV} {c d : List Value}, RelL w M I H.length a c → RelL w M I H.length b d → RelL w M I H.length (a ++ b) (c ++ d) := by
            intro a b c d h k
            refine ⟨by simp [h.1, k.1], fun i x v hx hv => ?_⟩
            have := h.1
            by_cases hi : i < a.length
            · rw [List.getElem?_append_left hi] at hx
              rw [List.getElem?_append_left (by omega)] at hv
              exact h.2 i x v hx hv
            · rw [List.getElem?_append_right (by omega)] at hx
              rw [List.getElem?_append_right (by omega)] at hv
              rw [this] at hx
              exact k.2 _ x v hx hv
          exact app (app ⟨hl, hr⟩ r2) ⟨hl', hr'⟩
        have := hst.1.n hargs w M I _ hS hargs
        have hrun : (execOp ρ ⟨dst, .call { callee := .value x, args := args, argTypes := at_ }, ty, pos, after, guard⟩).run P w = (callFunc f (vs ++ args.toList.map ρ ++ us).toArray).run P w := by
          show Sem.run P (do let d ← resolve ρ _ ty; invoke d.target d.args) w = _
          simp only [resolve, Deferred.ofValue, hxv, invoke, Sem.run_bind, Sem.run_pure, Result.andThen_ok]
          congr 2
          apply Array.ext'
          simp
        unfold Comes1
        rw [hrun]; exact this

/-! ### Calls that panic -/

/-- As a call that returns. -/
def AK.plainK : AK → AK
  | .callp f => .call f false
  | .callvp => .callv false
  | k => k

/-- One operation ends in a panic. -/
def StepP (C : CSpec) (k : AK) (vs : List AV) (H : Heap) (x : AV) (H' : Heap) : Prop :=
  match k with
  | .callp f => C f (.pan .undef :: vs) H x H'
  | .callvp => match vs with
    | .fn f first caps :: args => C f (.pan .undef :: (first ++ args ++ caps)) H x H'
    | _ => False
  | .panic => ∃ t y, vs = [x] ∧ x = .iface t y ∧ H' = H
  | _ => False

theorem stepKP_of {C : CSpec} {k : AK} {vs : List AV} {H : Heap} {K KP : AV → Heap → Prop} (h : stepKP C k vs H K KP) : (∃ v H', StepK C k.plainK vs H v H' ∧ K v H') ∨ (∃ x H', StepP C k vs H x H' ∧ KP x H') := by
  cases k
  case callp f =>
    rcases h with ⟨v, H', h1, h2⟩ | ⟨x, H', h1, h2⟩
    · exact .inl ⟨v, H', ⟨h1, by simp⟩, h2⟩
    · exact .inr ⟨x, H', h1, h2⟩
  case callvp =>
    simp only [stepKP] at h
    split at h
    · rcases h with ⟨v, H', h1, h2⟩ | ⟨x, H', h1, h2⟩
      · exact .inl ⟨v, H', ⟨h1, by simp⟩, h2⟩
      · exact .inr ⟨x, H', h1, h2⟩
    · exact h.elim
  case panic =>
    simp only [stepKP] at h
    split at h
    · exact .inr ⟨_, _, ⟨_, _, rfl, rfl, rfl⟩, h⟩
    · exact h.elim
  all_goals exact .inl (stepK_of h)

theorem chk_plain {op : Op} {k : AK} {xs : List Opd} (h : chkOp P op k xs = true) : chkOp P op k.plainK xs = true := by
  cases k <;> exact h

theorem relL_app {n : Nat} {a b : List AV} {c d : List Value} (h : RelL w M I n a c) (k : RelL w M I n b d) : RelL w M I n (a ++ b) (c ++ d) := by
  refine ⟨by simp [h.1, k.1], fun i x v hx hv => ?_⟩
  have := h.1
  by_cases hi : i < a.length
  · rw [List.getElem?_append_left hi] at hx
    rw [List.getElem?_append_left (by omega)] at hv
    exact h.2 i x v hx hv
  · rw [List.getElem?_append_right (by omega)] at hx
    rw [List.getElem?_append_right (by omega)] at hv
    rw [this] at hx
    exact k.2 _ x v hx hv

theorem pan_sound (hS : Sim GT w M I H) {o : Oper} {k : AK} {xs : List Opd} (hchk : chkOp P o.op k xs = true) {ρ : Operand → Value} {e : Opd → AV} (hev : ∀ x x', chkO x x' = true → Rel w M I H.length (e x') (ρ x))
    (hfn : ∀ f, ρ (.func f) = .func (.func f) #[] #[]) {x : AV} {H' : Heap} (hst : StepP (Good P GT) k (xs.map e) H x H') :
    PanDone P ((execOp ρ o).run P w) fun v' w' => ∃ M' I', Grow w M I H w' M' I' H' ∧ Sim GT w' M' I' H' ∧ Rel w' M' I' H'.length x v' := by
  have hevs : ∀ {as : List Operand} {bs : List Opd}, chkOs as bs = true → RelL w M I H.length (bs.map e) (as.map ρ) := by
    intro as
    induction as with
    | nil => intro bs h; cases bs with
      | nil => exact ⟨rfl, by simp⟩
      | cons => simp [chkOs] at h
    | cons a as ih => intro bs h; cases bs with
      | nil => simp [chkOs] at h
      | cons b bs =>
        simp only [chkOs, Bool.and_eq_true] at h
        have := ih h.2
        refine ⟨by simpa using this.1, fun i c v hc hv => ?_⟩
        cases i with
        | zero => simp at hc hv; subst hc hv; exact hev _ _ h.1
        | succ i => exact this.2 i c v (by simpa using hc) (by simpa using hv)
  obtain ⟨dst, op, ty, pos, after, guard⟩ := o
  cases k <;> try exact hst.elim
  case callp f =>
    obtain ⟨args, at_, rfl, h1⟩ := chk_call' (k := .call f false) (rd := false) (show chkOp P op (.call f false) xs = true from hchk) rfl
    have := hst w M I _ hS (hevs h1)
    have hrun : (execOp ρ ⟨dst, .call { callee := .value (.func f), args := args, argTypes := at_ }, ty, pos, after, guard⟩).run P w = (callFunc f (args.toList.map ρ).toArray).run P w := by
      have hf := hfn f
      show Sem.run P (do let d ← resolve ρ _ ty; invoke d.target d.args) w = _
      simp only [resolve, Deferred.ofValue, hf, invoke, Sem.run_bind, Sem.run_pure, Result.andThen_ok]
      congr 2
      apply Array.ext'
      simp
    rw [hrun]; exact this
  case callvp =>
    obtain ⟨y, args, at_, rfl, h1⟩ := chk_callv' (k := .callv false) (rd := false) (show chkOp P op (.callv false) xs = true from hchk) rfl
    cases xs with
    | nil => simp [chkOs] at h1
    | cons x' xs' =>
      simp only [chkOs, Bool.and_eq_true] at h1
      simp only [StepP, List.map_cons] at hst
      split at hst
      case h_2 => exact hst.elim
      rename_i f fst caps vs heq
      simp only [List.cons.injEq] at heq
      obtain ⟨hx, rfl⟩ := heq
      have r1 := hev _ _ h1.1
      rw [hx] at r1
      have r2 := hevs h1.2
      generalize hxv : ρ y = vx at r1
      cases r1 with
      | fn _ _ _ vs us hl hl' hr hr' =>
        have hargs : RelL w M I H.length (fst ++ xs'.map e ++ caps) (vs ++ args.toList.map ρ ++ us) := relL_app (relL_app ⟨hl, hr⟩ r2) ⟨hl', hr'⟩
        have := hst w M I _ hS hargs
        have hrun : (execOp ρ ⟨dst, .call { callee := .value y, args := args, argTypes := at_ }, ty, pos, after, guard⟩).run P w = (callFunc f (vs ++ args.toList.map ρ ++ us).toArray).run P w := by
          show Sem.run P (do let d ← resolve ρ _ ty; invoke d.target d.args) w = _
          simp only [resolve, Deferred.ofValue, hxv, invoke, Sem.run_bind, Sem.run_pure, Result.andThen_ok]
          congr 2
          apply Array.ext'
          simp
        rw [hrun]; exact this
  case panic =>
    simp only [chkOp] at hchk
    split at hchk
    · rename_i y y'
      obtain ⟨t, z, h1, rfl, rfl⟩ := hst
      have hx : e y' = .iface t z := by simpa using h1
      have r := hev _ _ hchk
      rw [hx] at r
      generalize hy : ρ y = vy at r
      have r' := r
      cases r with
      | iface _ _ u hu =>
        have hrun : (execOp ρ ⟨dst, .panic y, ty, pos, after, guard⟩).run P w = .halt (.panic (.iface t u)) w := by
          show Sem.run P (do pure (Next.value (← Instr.panic (ρ y)))) w = _
          rw [hy]
          rfl
        rw [hrun]
        exact ⟨M, I, Grow.refl .., hS, r'⟩
    · cases hchk

end
end Go.AM
