/- Several texts of mine in one (Am12, Am13, Am14, Am15, Am16, Am28, Am17, Am18, Am19). Own work. -/
import Derived.Test.YtaijlknbeapnhaaGreatDoorQA
import Derived.Orders
import Derived.Tactics
import Derived.ScopeJumps

/- The abstract machine, part 12: every abstract step but a call, in one theorem. Own work. -/
set_option linter.all false
namespace Go.AM

section
variable {P : Program} {GT : Nat → Option AV} {w : World} {M : AMap} {I : Nat → Prop} {H : Heap}

theorem fieldOf_eq {t : TypeId} {f o : Nat} {u : TypeId} (h : fieldOf P t f = some (o, u)) : ∃ fs fd, P.underlying t = some (.struct fs) ∧ fs[f]? = some fd ∧ fd.offset = o ∧ fd.type = u := by
  simp only [fieldOf] at h
  split at h
  · rename_i fs hfs
    obtain ⟨fd, hfd, he⟩ := Option.map_eq_some_iff.1 h
    simp only [Prod.mk.injEq] at he
    exact ⟨fs, fd, hfs, hfd, he.1, he.2⟩
  · cases h

theorem part_of_agg (hS : Sim GT w M I H) {cs : List AV} {xv : Value} (hx : Rel w M I H.length (.agg cs) xv) {u : TypeId} {o s : Nat} {ag : Bool} {v : AV} (hs : sizeB P u = some s) (ha : aggB P u = some ag) (h : part cs o s ag = some v) :
    ∃ vs, xv = .agg vs ∧ RunsTo P GT w M I H (Go.part u vs o) v H := by
  cases hx with
  | agg _ vs hl hr =>
    obtain ⟨v', r, R⟩ := part_sound (P := P) ⟨hl, hr⟩ hs ha h
    exact ⟨vs.toArray, rfl, RunsTo.pure hS r R⟩

set_option maxHeartbeats 1600000 in
theorem step_sound (hS : Sim GT w M I H) {o : Oper} {k : AK} {xs : List Opd} (hchk : chkOp P o.op k xs = true) {ρ : Operand → Value} {e : Opd → AV} (hev : ∀ x x', chkO x x' = true → Rel w M I H.length (e x') (ρ x))
    {v : AV} {H' : Heap} (hst : astep k (xs.map e) H = some (v, H')) : OpTo P GT w M I H (execOp ρ o) v H' := by
  have hevs : ∀ {as : List Operand} {bs : List Opd}, chkOs as bs = true → RelL w M I H.length (bs.map e) (as.map ρ) := by
    intro as
    induction as with
    | nil => intro bs h; cases bs with
      | nil => exact ⟨rfl, by simp⟩
      | cons => simp [chkOs] at h
    | cons a as ih => intro bs h; cases bs with
      | nil => simp [chkOs] at h
      | cons b bs =>
        simp only [chkOs, Bool.and_eq_true] at h
        have := ih h.2
        refine ⟨by simpa using this.1, fun i c v hc hv => ?_⟩
        cases i with
        | zero => simp at hc hv; subst hc hv; exact hev _ _ h.1
        | succ i => exact this.2 i c v (by simpa using hc) (by simpa using hv)
  obtain ⟨dst, op, ty, pos, after, guard⟩ := o
  simp only at hchk
  replace hchk : chkOp0 P op k xs = true := by
    cases k <;> first | exact hchk | (simp [astep] at hst)
  unfold chkOp0 at hchk
  split at hchk
  -- move, assign
  · simp only [List.map_cons, List.map_nil, astep, Option.some.injEq, Prod.mk.injEq] at hst; obtain ⟨rfl, rfl⟩ := hst
    exact OpTo.val hS (hev _ _ hchk)
  · simp only [List.map_cons, List.map_nil, astep, Option.some.injEq, Prod.mk.injEq] at hst; obtain ⟨rfl, rfl⟩ := hst
    exact OpTo.val hS (hev _ _ hchk)
  -- pick
  · rename_i c a b c' a' b'
    simp only [Bool.and_eq_true] at hchk
    have h1 := hev _ _ hchk.1.1; have h2 := hev _ _ hchk.1.2; have h3 := hev _ _ hchk.2
    simp only [List.map_cons, List.map_nil] at hst
    generalize e c' = ac at hst h1
    cases ac <;> simp only [astep, reduceCtorEq] at hst
    rename_i bb
    simp only [Option.some.injEq, Prod.mk.injEq] at hst; obtain ⟨rfl, rfl⟩ := hst
    generalize hc : ρ c = vc at h1
    cases h1
    refine ⟨if bb then ρ a else ρ b, w, M, I, .inl ?_, Grow.refl .., hS, ?_⟩
    · show Sem.run P (do Pure.pure (Next.value (if ← asBool (ρ c) then ρ a else ρ b))) w = _
      rw [hc]; simp [asBool]
    · cases bb <;> simpa
  -- bin
  · rename_i op' t x y yt op'' x' y'
    simp only [Bool.and_eq_true, decide_eq_true_eq] at hchk
    obtain ⟨⟨rfl, h1⟩, h2⟩ := hchk
    simp only [List.map_cons, List.map_nil, astep] at hst
    obtain ⟨v', hb, he⟩ := Option.map_eq_some_iff.1 hst
    simp only [Prod.mk.injEq] at he; obtain ⟨rfl, rfl⟩ := he
    exact OpTo.of_runs (bin_sound hS (hev _ _ h1) (hev _ _ h2) hb)
  -- eqs
  · rename_i op' t x y yt neg sh x' y'
    simp only [Bool.and_eq_true, decide_eq_true_eq, Bool.not_eq_true'] at hchk
    obtain ⟨⟨⟨⟨⟨rfl, hsh⟩, hg⟩, hag⟩, h1⟩, h2⟩ := hchk
    have hag' : aggB P t = some true := by
      split at hag
      · rename_i ht; simp [aggB, ht]
      · cases hag
    have r1 := hev _ _ h1; have r2 := hev _ _ h2
    simp only [List.map_cons, List.map_nil] at hst
    generalize e x' = ax at hst r1
    generalize e y' = ay at hst r2
    cases ax <;> cases ay <;> simp only [astep, reduceCtorEq] at hst
    obtain ⟨b, hb, he⟩ := Option.map_eq_some_iff.1 hst
    simp only [Prod.mk.injEq] at he; obtain ⟨rfl, rfl⟩ := he
    exact OpTo.of_runs (eqs_sound hS r1 r2 hsh hg hag' hb)
  -- eqb
  · rename_i op' t x y yt neg x' y'
    simp only [Bool.and_eq_true, decide_eq_true_eq] at hchk
    obtain ⟨⟨⟨rfl, ht⟩, h1⟩, h2⟩ := hchk
    have ht' : P.underlying t = some .bool := by
      split at ht
      · assumption
      · cases ht
    have r1 := hev _ _ h1; have r2 := hev _ _ h2
    simp only [List.map_cons, List.map_nil] at hst
    generalize e x' = ax at hst r1
    generalize e y' = ay at hst r2
    cases ax <;> cases ay <;> simp only [astep, reduceCtorEq] at hst
    rename_i a b
    simp only [Option.some.injEq, Prod.mk.injEq] at hst; obtain ⟨rfl, rfl⟩ := hst
    generalize hx : ρ x = vx at r1
    generalize hy : ρ y = vy at r2
    cases r1; cases r2
    have he : (Op.equal t (.bool a) (.bool b)).run P w = .ok (a == b) w := run_equalIn_bool' w 9999 t a b ht'
    have hg : ∀ op, (eqGuard op t x y (.bool a) (.bool b)).run P w = .ok () w := fun op => eqGuard_plain (by simp) (by simp)
    refine ⟨.bool (if neg then !(a == b) else a == b), w, M, I, .inl ?_, Grow.refl .., hS, .bool _⟩
    show Sem.run P (do Pure.pure (Next.value (← (do eqGuard (if neg then .neq else .eql) t x y (ρ x) (ρ y); binOp (if neg then .neq else .eql) t (ρ x) (ρ y))))) w = _
    rw [hx, hy]
    cases neg
    · simp only [Bool.false_eq_true, if_false, Sem.run_bind, hg, Result.andThen_ok]
      show ((Sem.run P (do Pure.pure (Value.bool (← Op.equal t (.bool a) (.bool b)))) w).andThen _) = _
      simp only [Sem.run_bind, he, Result.andThen_ok, Sem.run_pure]
    · simp only [if_true, Sem.run_bind, hg, Result.andThen_ok]
      show ((Sem.run P (do Pure.pure (Value.bool (!(← Op.equal t (.bool a) (.bool b))))) w).andThen _) = _
      simp only [Sem.run_bind, he, Result.andThen_ok, Sem.run_pure]
  -- eqn
  · rename_i op' t x y yt ek neg lit x' y'
    simp only [Bool.and_eq_true, decide_eq_true_eq, Bool.or_eq_true, Bool.not_eq_true'] at hchk
    obtain ⟨⟨⟨⟨rfl, hek⟩, hl⟩, h1⟩, h2⟩ := hchk
    simp only [List.map_cons, List.map_nil, astep] at hst
    obtain ⟨b, hb, he⟩ := Option.map_eq_some_iff.1 hst
    simp only [Prod.mk.injEq] at he; obtain ⟨rfl, rfl⟩ := he
    exact OpTo.of_runs (eqn_sound hS (hev _ _ h1) (hev _ _ h2) hek (fun hlit => by rcases hl with (h | h) | h <;> simp_all) hb)
  -- un
  · rename_i op' t x op'' x'
    simp only [Bool.and_eq_true, decide_eq_true_eq] at hchk
    obtain ⟨rfl, h1⟩ := hchk
    have r1 := hev _ _ h1
    simp only [List.map_cons, List.map_nil, astep] at hst
    obtain ⟨v', hb, he⟩ := Option.map_eq_some_iff.1 hst
    simp only [Prod.mk.injEq] at he; obtain ⟨rfl, rfl⟩ := he
    generalize e x' = ax at hb r1
    have main : ∃ u, (Op.unary op' (ρ x)).run P w = .ok u w ∧ Rel w M I H.length v' u := by
      generalize ρ x = vx at r1
      unfold aUn at hb
      split at hb
      · cases r1
        cases op' <;> simp only [Option.some.injEq, reduceCtorEq] at hb <;> subst hb
        · exact ⟨_, rfl, .int _ _⟩
        · exact ⟨_, rfl, .int _ _⟩
      · cases r1
        cases op' <;> simp only [Option.some.injEq, reduceCtorEq] at hb <;> subst hb
        exact ⟨_, rfl, .bool _⟩
      · cases hb
    obtain ⟨u, r, R⟩ := main
    exact OpTo.of_runs (RunsTo.pure hS r R)
  -- convInt
  · rename_i s d x k x'
    simp only [Bool.and_eq_true] at hchk
    obtain ⟨⟨hs, hd⟩, h1⟩ := hchk
    have hd := isInt_eq hd
    obtain ⟨u, hu⟩ := Option.isSome_iff_exists.1 hs
    have r1 := hev _ _ h1
    simp only [List.map_cons, List.map_nil] at hst
    generalize e x' = ax at hst r1
    cases ax <;> simp only [astep, reduceCtorEq] at hst
    simp only [Option.some.injEq, Prod.mk.injEq] at hst; obtain ⟨rfl, rfl⟩ := hst
    refine OpTo.of_runs (s := convert s d (ρ x)) (RunsTo.pure hS (v' := .int k _) ?_ (.int _ _))
    generalize ρ x = vx at r1
    cases r1
    simp [convert, run_underlying hu, run_underlying hd, Conv.intToInt]
  -- convRune
  · rename_i s d x x'
    simp only [Bool.and_eq_true] at hchk
    obtain ⟨⟨hs, hd⟩, h1⟩ := hchk
    have hd := isStr_eq hd
    have r1 := hev _ _ h1
    simp only [List.map_cons, List.map_nil] at hst
    generalize e x' = ax at hst r1
    cases ax <;> simp only [astep, reduceCtorEq] at hst
    rename_i kk nn
    simp only [Option.some.injEq, Prod.mk.injEq] at hst; obtain ⟨rfl, rfl⟩ := hst
    refine OpTo.of_runs (s := convert s d (ρ x)) (RunsTo.pure hS (v' := .string ⟨(Utf8.encode nn).data.toList.toArray⟩) ?_ (.str _))
    generalize ρ x = vx at r1
    cases r1
    obtain ⟨u, hu⟩ := Option.isSome_iff_exists.1 hs
    simp [convert, run_underlying hu, run_underlying hd, Conv.intToString]
  -- convId
  · rename_i s d x x'
    simp only [Bool.and_eq_true] at hchk
    obtain ⟨⟨hs, hd⟩, h1⟩ := hchk
    have hd := isStr_eq hd
    obtain ⟨u, hu⟩ := Option.isSome_iff_exists.1 hs
    have r1 := hev _ _ h1
    simp only [List.map_cons, List.map_nil] at hst
    generalize e x' = ax at hst r1
    cases ax <;> simp only [astep, reduceCtorEq] at hst
    rename_i ss
    simp only [Option.some.injEq, Prod.mk.injEq] at hst; obtain ⟨rfl, rfl⟩ := hst
    refine OpTo.of_runs (s := convert s d (ρ x)) (RunsTo.pure hS (v' := .string ⟨ss.toArray⟩) ?_ (.str _))
    generalize ρ x = vx at r1
    cases r1
    simp [convert, run_underlying hu, run_underlying hd]
  -- bytesToStr
  · rename_i s d x x'
    simp only [Bool.and_eq_true] at hchk
    obtain ⟨⟨hs, hd⟩, h1⟩ := hchk
    simp only [List.map_cons, List.map_nil, astep] at hst
    split at hst
    · rename_i xs hv
      obtain ⟨r, hb, he⟩ := Option.map_eq_some_iff.1 hst
      simp only [Prod.mk.injEq] at he; obtain ⟨rfl, rfl⟩ := he
      exact OpTo.of_runs (toStr_sound hS hs hd (hev _ _ h1) hv hb)
    · cases hst
  -- strToBytes
  · rename_i s d x x'
    simp only [Bool.and_eq_true] at hchk
    obtain ⟨⟨hs, hd⟩, h1⟩ := hchk
    have r1 := hev _ _ h1
    simp only [List.map_cons, List.map_nil] at hst
    generalize e x' = ax at hst r1
    cases ax <;> simp only [astep, reduceCtorEq] at hst
    rename_i ss
    split at hst
    · rename_i hl
      simp only [Option.some.injEq, Prod.mk.injEq] at hst; obtain ⟨rfl, rfl⟩ := hst
      refine OpTo.of_runs (s := convert s d (ρ x)) ?_
      generalize ρ x = vx at r1
      cases r1
      exact toBytes_sound hS hs hd hl
    · cases hst
  -- mkIface
  · rename_i t x t' x'
    simp only [Bool.and_eq_true, beq_iff_eq] at hchk
    obtain ⟨⟨rfl, ht⟩, h1⟩ := hchk
    simp only [List.map_cons, List.map_nil, astep, Option.some.injEq, Prod.mk.injEq] at hst; obtain ⟨rfl, rfl⟩ := hst
    refine OpTo.of_runs (s := Instr.makeInterface t (ρ x)) (RunsTo.pure hS (v' := .iface t (ρ x)) ?_ (.iface _ _ _ (hev _ _ h1)))
    exact run_makeInterface w t _ (by unfold Program.concrete; split at ht <;> simp_all)
  -- mkFn
  · rename_i xs0 f first caps f' m
    simp only [Bool.and_eq_true, beq_iff_eq] at hchk
    obtain ⟨⟨rfl, rfl⟩, h1⟩ := hchk
    simp only [astep, Option.some.injEq, Prod.mk.injEq] at hst; obtain ⟨rfl, rfl⟩ := hst
    have hr := hevs h1
    refine OpTo.of_runs (s := Instr.makeFunc (.func f) (first.map ρ) (caps.map ρ)) (RunsTo.pure hS (v' := .func (.func f) (first.map ρ) (caps.map ρ)) rfl ?_)
    have ha := hr.take first.size
    have hb := hr.drop first.size
    simp only [List.map_append] at ha hb
    rw [List.take_left' (by simp)] at ha
    rw [List.drop_left' (by simp)] at hb
    have := Rel.fn (w := w) (M := M) (I := I) (n := H.length) f _ _ _ _ ha.1 hb.1 ha.2 hb.2
    simpa [← Array.toList_map] using this
  -- len
  · rename_i args at_ s x'
    obtain ⟨args⟩ := args
    obtain ⟨at_⟩ := at_
    simp only [List.map_cons, List.map_nil, astep] at hst
    obtain ⟨n, hn, he⟩ := Option.map_eq_some_iff.1 hst
    simp only [Prod.mk.injEq] at he; obtain ⟨rfl, rfl⟩ := he
    split at hchk
    · rename_i x t hax hat
      simp only [Bool.and_eq_true] at hchk
      simp only at hax
      subst hax
      have ht : if s then isStr P t = true else ∃ e, P.underlying t = some (.slice e) := by
        have h := hchk.1
        cases s
        · simp only [Bool.false_eq_true, if_false] at h ⊢
          split at h
          · exact ⟨_, ‹_›⟩
          · cases h
        · simpa using h
      have := len_sound (P := P) (ty := ty) hS (hev _ _ hchk.2) hn ht
      obtain ⟨v', w', M', I', r1, r2, r3, r4⟩ := this
      refine ⟨v', w', M', I', .inl ?_, r2, r3, r4⟩
      have hat' : at_[0]? = some t := by simpa using hat
      have hl : Builtin.len_ (List.toArray at_) ty #[ρ x] = Builtin.len_ #[t] ty #[ρ x] := by
        unfold Builtin.len_; simp [hat']
      show Sem.run P (do let d ← resolve ρ _ ty; invoke d.target d.args) w = _
      simp only [resolve, invoke, builtin, Sem.run_bind, Sem.run_pure, Result.andThen_ok, List.map_toArray, List.map_cons, List.map_nil, hl, r1]
    · cases hchk
  -- slc
  · rename_i xs0 t x lo hi k blo bhi
    simp only [Bool.and_eq_true, beq_iff_eq] at hchk
    obtain ⟨⟨⟨hk, hlo⟩, hhi⟩, h1⟩ := hchk
    have hk' : slcOK P t k := by cases k <;> exact hk
    have key : ∀ (alo ahi : Option AV) (vlo vhi : Option Value), (∀ a v, alo = some a → vlo = some v → Rel w M I H.length a v) → (∀ a v, ahi = some a → vhi = some v → Rel w M I H.length a v) → alo.isSome = vlo.isSome → ahi.isSome = vhi.isSome →
        lo.map ρ = vlo → hi.map ρ = vhi → ∀ ax, Rel w M I H.length ax (ρ x) → (aSlice k ax alo ahi).map (·, H) = some (v, H') → OpTo P GT w M I H (execOp ρ ⟨dst, .slice t x lo hi none, ty, pos, after, guard⟩) v H' := by
      rintro alo ahi vlo vhi r1 r2 s1 s2 rfl rfl ax rx hm
      obtain ⟨v', hv, he⟩ := Option.map_eq_some_iff.1 hm
      simp only [Prod.mk.injEq] at he; obtain ⟨rfl, rfl⟩ := he
      exact OpTo.of_runs (s := Instr.sliceAt t (ρ x) (lo.map ρ) (hi.map ρ) none) (slice_sound hS rx r1 r2 s1 s2 hk' hv)
    cases lo <;> cases hi <;> simp only [Option.isSome_none, Option.isSome_some] at hlo hhi <;> subst hlo hhi <;> simp only [Option.toList_none, Option.toList_some, List.append_nil, List.nil_append, List.cons_append] at h1
    · match xs, h1 with
      | [x'], h1 =>
        simp only [chkOs, Bool.and_true] at h1
        simp only [List.map_cons, List.map_nil, astep] at hst
        exact key none none none none (by simp) (by simp) rfl rfl rfl rfl _ (hev _ _ h1) hst
    · rename_i hi
      match xs, h1 with
      | [x', y'], h1 =>
        simp only [chkOs, Bool.and_true, Bool.and_eq_true] at h1
        simp only [List.map_cons, List.map_nil, astep] at hst
        exact key none (some (e y')) none (some (ρ hi)) (by simp) (by rintro a v ⟨⟩ ⟨⟩; exact hev _ _ h1.2) rfl rfl rfl rfl _ (hev _ _ h1.1) hst
    · rename_i lo
      match xs, h1 with
      | [x', y'], h1 =>
        simp only [chkOs, Bool.and_true, Bool.and_eq_true] at h1
        simp only [List.map_cons, List.map_nil, astep] at hst
        exact key (some (e y')) none (some (ρ lo)) none (by rintro a v ⟨⟩ ⟨⟩; exact hev _ _ h1.2) (by simp) rfl rfl rfl rfl _ (hev _ _ h1.1) hst
    · rename_i lo hi
      match xs, h1 with
      | [x', y', z'], h1 =>
        simp only [chkOs, Bool.and_true, Bool.and_eq_true] at h1
        simp only [List.map_cons, List.map_nil, astep] at hst
        exact key (some (e y')) (some (e z')) (some (ρ lo)) (some (ρ hi)) (by rintro a v ⟨⟩ ⟨⟩; exact hev _ _ h1.2.1) (by rintro a v ⟨⟩ ⟨⟩; exact hev _ _ h1.2.2) rfl rfl rfl rfl _ (hev _ _ h1.1) hst
  -- fieldAddr
  · rename_i t x f o x'
    simp only [Bool.and_eq_true] at hchk
    obtain ⟨hf, h1⟩ := hchk
    split at hf
    case h_2 => cases hf
    rename_i o' u hfo
    simp only [Bool.and_eq_true, beq_iff_eq] at hf
    obtain ⟨rfl, hs0⟩ := hf
    split at hs0
    case h_2 => cases hs0
    rename_i s hs
    have hs0 : s ≠ 0 := by simpa using hs0
    obtain ⟨fs, fd, hu, hfd, rfl, rfl⟩ := fieldOf_eq hfo
    have r1 := hev _ _ h1
    simp only [List.map_cons, List.map_nil] at hst
    generalize e x' = ax at hst r1
    have hrun : ∀ g a, ρ x = .pointer (some ⟨g, a, none⟩) → (Instr.fieldAt t (ρ x) f).run P w = .ok (.pointer (some ⟨g, a + fd.offset, none⟩)) w := fun g a hx => by
      simp only [Instr.fieldAt, Sem.run_bind, run_underlying hu, Result.andThen_ok, hfd, hx, Instr.sureAddr, Sem.run_pure, fieldPlace, sizeOf_run hs, if_neg hs0, Addr.add_lit]
    cases ax <;> simp only [astep, reduceCtorEq] at hst
    · rename_i x0 oo
      simp only [Option.some.injEq, Prod.mk.injEq] at hst; obtain ⟨rfl, rfl⟩ := hst
      generalize hx : ρ x = vx at r1
      cases r1 with
      | lref _ _ g a V hI hxn hv hr =>
        refine OpTo.of_runs (s := Instr.fieldAt t (ρ x) f) (RunsTo.pure hS (hrun g a hx) (Rel.mk_lref hI hxn fun j c hj => ?_))
        rw [Nat.add_assoc] at hj
        exact ⟨_, by rw [Nat.add_assoc]; exact hv _ c hj, hr _ c hj⟩
    · rename_i b k i oo
      simp only [Option.some.injEq, Prod.mk.injEq] at hst; obtain ⟨rfl, rfl⟩ := hst
      generalize hx : ρ x = vx at r1
      cases r1 with
      | ref _ _ _ _ g a hb hM =>
        refine OpTo.of_runs (s := Instr.fieldAt t (ρ x) f) (RunsTo.pure hS (hrun g _ hx) ?_)
        rw [Nat.add_assoc]
        exact .ref _ _ _ _ _ _ hb hM
  -- field
  · rename_i t x f o s ag x'
    simp only [Bool.and_eq_true] at hchk
    obtain ⟨hf, h1⟩ := hchk
    split at hf
    case h_2 => cases hf
    rename_i o' u hfo
    simp only [Bool.and_eq_true, beq_iff_eq] at hf
    obtain ⟨⟨rfl, hs⟩, ha⟩ := hf
    obtain ⟨fs, fd, hu, hfd, rfl, rfl⟩ := fieldOf_eq hfo
    have r1 := hev _ _ h1
    simp only [List.map_cons, List.map_nil] at hst
    generalize e x' = ax at hst r1
    cases ax <;> simp only [astep, reduceCtorEq] at hst
    obtain ⟨v', hv, he⟩ := Option.map_eq_some_iff.1 hst
    simp only [Prod.mk.injEq] at he; obtain ⟨rfl, rfl⟩ := he
    generalize hx : ρ x = vx at r1
    obtain ⟨vs, rfl, hr⟩ := part_of_agg hS r1 hs ha hv
    refine OpTo.of_runs (s := Instr.field t (ρ x) f) ?_
    obtain ⟨u', w', M', I', q1, q2⟩ := hr
    refine ⟨u', w', M', I', ?_, q2⟩
    simp only [Instr.field, Sem.run_bind, run_underlying hu, Result.andThen_ok, hfd, hx, asAgg, Sem.run_pure]
    exact q1
  -- idxAddr
  · rename_i t x i k x' i'
    simp only [Bool.and_eq_true] at hchk
    obtain ⟨⟨hsl, h1⟩, h2⟩ := hchk
    obtain ⟨el, hu, hse⟩ := isSliceOf_eq hsl
    have r1 := hev _ _ h1; have r2 := hev _ _ h2
    simp only [List.map_cons, List.map_nil] at hst
    generalize e x' = ax at hst r1
    generalize e i' = ai at hst r2
    cases ai <;> simp only [astep, reduceCtorEq] at hst
    rename_i kk nn
    split at hst
    · cases hst
    rename_i hnn
    have hrun : ∀ (a : Addr) (len cap : Nat), a.spot = none → ρ x = .slice (some a) len cap → ρ i = .int kk nn → nn < (len : Int) → (Instr.indexAt t (ρ x) (ρ i)).run P w = .ok (.pointer (some ⟨a.block, a.off + nn.toNat * k, none⟩)) w := fun a len cap ha hx hi hl => by
      obtain ⟨ab, ao, as⟩ := a
      simp only at ha; subst ha
      have hc : (0 ≤ nn ∧ nn < (len : Int)) := ⟨by omega, hl⟩
      simp only [Instr.indexAt, hx, hi, asIntOf, Sem.run_bind, Sem.run_pure, Result.andThen_ok, run_underlying hu, if_pos hc, sizeOf_run hse, Addr.add_lit]
    generalize hi : ρ i = vi at r2
    cases r2
    generalize hx : ρ x = vx at r1
    split at hst
    · rename_i q k' xs
      split at hst
      · rename_i y hy
        split at hst
        · rename_i hk; subst hk
          simp only [Option.some.injEq, Prod.mk.injEq] at hst; obtain ⟨rfl, rfl⟩ := hst
          have hlt := (List.getElem?_eq_some_iff.1 hy).1
          cases r1 with
          | lnil => simp at hlt
          | lemp => simp at hlt
          | lst _ _ _ g o cap V hq hc hm hI he hv hr =>
            refine OpTo.of_runs (s := Instr.indexAt t (ρ x) (ρ i)) (RunsTo.pure hS (hrun ⟨g, o, none⟩ xs.length cap rfl hx hi (by omega)) (Rel.mk_lref hI (AV.elem_iff.1 (he y (List.mem_of_getElem? hy))).2.1 fun j c hj => ?_))
            rw [Nat.zero_add] at hj
            exact ⟨_, hv _ j y c hy hj, hr _ j y c hy hj⟩
        · cases hst
      · cases hst
    · rename_i q b k' off len
      split at hst
      · rename_i hk
        obtain ⟨hl, rfl⟩ := hk
        simp only [Option.some.injEq, Prod.mk.injEq] at hst; obtain ⟨rfl, rfl⟩ := hst
        cases r1 with
        | sln => omega
        | sl _ _ _ _ _ g o p cap hb hM hc hm hq ha =>
          obtain ⟨rfl, _⟩ := ha (by omega)
          refine OpTo.of_runs (s := Instr.indexAt t (ρ x) (ρ i)) (RunsTo.pure hS (hrun ⟨g, _, none⟩ len cap rfl hx hi hl) ?_)
          have := Rel.ref (w := w) (I := I) (n := H.length) b k' (off + nn.toNat) 0 g o hb hM
          rw [Nat.add_mul] at this
          simpa [Nat.add_assoc] using this
      · cases hst
    · cases hst
  -- idxArr
  · rename_i t x i k n x' i'
    simp only [Bool.and_eq_true] at hchk
    obtain ⟨⟨hsl, h1⟩, h2⟩ := hchk
    obtain ⟨el, hu, hse⟩ := isArrOf_eq hsl
    have r1 := hev _ _ h1; have r2 := hev _ _ h2
    simp only [List.map_cons, List.map_nil] at hst
    generalize e x' = ax at hst r1
    generalize e i' = ai at hst r2
    cases ai <;> simp only [astep, reduceCtorEq] at hst
    rename_i kk nn
    split at hst
    case isFalse => cases hst
    rename_i hnn
    have hrun : ∀ (g a : Nat), ρ x = .pointer (some ⟨g, a, none⟩) → ρ i = .int kk nn → (Instr.indexAt t (ρ x) (ρ i)).run P w = .ok (.pointer (some ⟨g, a + nn.toNat * k, none⟩)) w := fun g a hx hi => by
      simp only [Instr.indexAt, hx, hi, asIntOf, Instr.sureAddr, Sem.run_bind, Sem.run_pure, Result.andThen_ok, run_underlying hu, if_pos hnn, sizeOf_run hse, Addr.add_lit]
    generalize hi : ρ i = vi at r2
    cases r2
    generalize hx : ρ x = vx at r1
    split at hst
    · rename_i b k' i0 oo
      simp only [Option.some.injEq, Prod.mk.injEq] at hst; obtain ⟨rfl, rfl⟩ := hst
      cases r1 with
      | ref _ _ _ _ g a hb hM =>
        refine OpTo.of_runs (s := Instr.indexAt t (ρ x) (ρ i)) (RunsTo.pure hS (hrun g _ hx hi) ?_)
        rw [Nat.add_assoc]
        exact .ref _ _ _ _ _ _ hb hM
    · rename_i x0 oo
      simp only [Option.some.injEq, Prod.mk.injEq] at hst; obtain ⟨rfl, rfl⟩ := hst
      cases r1 with
      | lref _ _ g a V hI hxn hv hr =>
        refine OpTo.of_runs (s := Instr.indexAt t (ρ x) (ρ i)) (RunsTo.pure hS (hrun g a hx hi) (Rel.mk_lref hI hxn fun j c hj => ?_))
        rw [Nat.add_assoc] at hj
        exact ⟨_, by rw [Nat.add_assoc]; exact hv _ c hj, hr _ c hj⟩
    · cases hst
  -- idxStr
  · rename_i t x i x' i'
    simp only [Bool.and_eq_true] at hchk
    obtain ⟨⟨hsl, h1⟩, h2⟩ := hchk
    have hu := isStr_eq hsl
    have r1 := hev _ _ h1; have r2 := hev _ _ h2
    simp only [List.map_cons, List.map_nil] at hst
    generalize e x' = ax at hst r1
    generalize e i' = ai at hst r2
    cases ax <;> cases ai <;> simp only [astep, reduceCtorEq] at hst
    rename_i ss kk nn
    split at hst
    · cases hst
    rename_i hnn
    split at hst
    · rename_i c hc
      simp only [Option.some.injEq, Prod.mk.injEq] at hst; obtain ⟨rfl, rfl⟩ := hst
      refine OpTo.of_runs (s := Instr.index t (ρ x) (ρ i)) (RunsTo.pure hS (v' := .int .u8 c.toNat) ?_ (.int _ _))
      generalize ρ x = vx at r1
      generalize ρ i = vi at r2
      cases r1; cases r2
      have h0 : 0 ≤ nn := by omega
      have hlt := (List.getElem?_eq_some_iff.1 hc).1
      have hc' : (⟨ss.toArray⟩ : ByteArray)[nn.toNat]? = some c := by
        have : nn.toNat < (⟨ss.toArray⟩ : ByteArray).size := by rw [sizeB']; exact hlt
        rw [getElem?_pos (⟨ss.toArray⟩ : ByteArray) nn.toNat this]
        have h2 := (List.getElem?_eq_some_iff.1 hc).2
        rw [← h2]; rfl
      simp only [Instr.index, asIntOf, Sem.run_bind, Sem.run_pure, Result.andThen_ok, run_underlying hu, if_pos h0, hc']
    · cases hst
  -- idxAgg
  · rename_i t x i k n ag x' i'
    simp only [Bool.and_eq_true] at hchk
    obtain ⟨⟨⟨hsl, hag⟩, h1⟩, h2⟩ := hchk
    obtain ⟨el, hu, hse⟩ := isArrOf_eq hsl
    rw [hu] at hag
    simp only [beq_iff_eq] at hag
    have r1 := hev _ _ h1; have r2 := hev _ _ h2
    simp only [List.map_cons, List.map_nil] at hst
    generalize e x' = ax at hst r1
    generalize e i' = ai at hst r2
    cases ax <;> cases ai <;> simp only [astep, reduceCtorEq] at hst
    rename_i cs kk nn
    split at hst
    case isFalse => cases hst
    rename_i hnn
    obtain ⟨v', hv, he⟩ := Option.map_eq_some_iff.1 hst
    simp only [Prod.mk.injEq] at he; obtain ⟨rfl, rfl⟩ := he
    generalize hx : ρ x = vx at r1
    generalize hi : ρ i = vi at r2
    cases r2
    obtain ⟨vs, rfl, hr⟩ := part_of_agg hS r1 hse hag hv
    refine OpTo.of_runs (s := Instr.index t (ρ x) (ρ i)) ?_
    obtain ⟨u', w', M', I', q1, q2⟩ := hr
    refine ⟨u', w', M', I', ?_, q2⟩
    simp only [Instr.index, hx, hi, asIntOf, Sem.run_bind, Sem.run_pure, Result.andThen_ok, run_underlying hu, if_pos hnn, sizeOf_run hse]
    exact q1
  -- nilchk
  · rename_i x x'
    have r1 := hev _ _ hchk
    simp only [List.map_cons, List.map_nil] at hst
    generalize e x' = ax at hst r1
    generalize hx : ρ x = vx at r1
    cases ax <;> simp only [astep, reduceCtorEq] at hst
    all_goals
      simp only [Option.some.injEq, Prod.mk.injEq] at hst; obtain ⟨rfl, rfl⟩ := hst
      have r1' := r1
      cases r1
      refine ⟨_, w, M, I, .inl ?_, Grow.refl .., hS, r1'⟩
      simp only [execOp, hx]
      rfl
  -- extract
  · rename_i x i i' x'
    simp only [Bool.and_eq_true, beq_iff_eq] at hchk
    obtain ⟨rfl, h1⟩ := hchk
    have r1 := hev _ _ h1
    simp only [List.map_cons, List.map_nil] at hst
    generalize e x' = ax at hst r1
    cases ax <;> simp only [astep, reduceCtorEq] at hst
    obtain ⟨v', hv, he⟩ := Option.map_eq_some_iff.1 hst
    simp only [Prod.mk.injEq] at he; obtain ⟨rfl, rfl⟩ := he
    generalize hx : ρ x = vx at r1
    cases r1 with
    | tup _ vs hl hr =>
      obtain ⟨u, hu, hru⟩ := get_rel_list ⟨hl, hr⟩ hv
      refine OpTo.of_runs (s := Instr.extract (ρ x) i) (RunsTo.pure hS (v' := u) ?_ hru)
      have hu' : (vs.toArray)[i]? = some u := by simpa using hu
      simp only [Instr.extract, hx, hu', Sem.run_pure]
  -- load
  · rename_i t x s ag x'
    simp only [Bool.and_eq_true, beq_iff_eq] at hchk
    obtain ⟨⟨hs, ha⟩, h1⟩ := hchk
    have r1 := hev _ _ h1
    simp only [List.map_cons, List.map_nil, astep] at hst
    split at hst
    · rename_i cs oo hp
      obtain ⟨v', hv, he⟩ := Option.map_eq_some_iff.1 hst
      simp only [Prod.mk.injEq] at he; obtain ⟨rfl, rfl⟩ := he
      obtain ⟨g, a, hx, hc⟩ := ptr_sound hS r1 hp
      obtain ⟨u, r, R⟩ := loadVar_sound (P := P) hs ha hv hc
      refine OpTo.of_runs (s := Instr.loadAt t (ρ x)) (RunsTo.pure hS (v' := u) ?_ R)
      simp only [Instr.loadAt, hx, Instr.sureAddr, Sem.run_bind, Sem.run_pure, Result.andThen_ok, r]
    · cases hst
  -- store
  · rename_i t p x s p' x'
    simp only [Bool.and_eq_true, beq_iff_eq] at hchk
    obtain ⟨⟨hs, h1⟩, h2⟩ := hchk
    have r1 := hev _ _ h1; have r2 := hev _ _ h2
    simp only [List.map_cons, List.map_nil] at hst
    generalize e p' = ap at hst r1
    generalize e x' = ax at hst r2
    have fin : ∀ w' M' I' H'', (Instr.storeAt t (ρ p) (ρ x)).run P w = .ok () w' → Grow w M I H w' M' I' H'' → Sim GT w' M' I' H'' → OpTo P GT w M I H (execOp ρ ⟨dst, .store t p x, ty, pos, after, guard⟩) .undef H'' := fun w' M' I' H'' q1 q2 q3 =>
      ⟨Go.undef, w', M', I', .inr ⟨by
        show Sem.run P (do Instr.storeAt t (ρ p) (ρ x); Pure.pure Next.skip) w = _
        simp only [Sem.run_bind, q1, Result.andThen_ok, Sem.run_pure], rfl⟩, q2, q3, .undef _⟩
    cases ap <;> simp only [astep, reduceCtorEq] at hst
    rename_i b k i oo
    split at hst
    case isFalse => cases hst
    rename_i hcond
    split at hst
    · rename_i cs hb
      split at hst
      · rename_i hio
        obtain ⟨rfl, hle⟩ := hio
        simp only [Option.some.injEq, Prod.mk.injEq] at hst; obtain ⟨rfl, rfl⟩ := hst
        obtain ⟨w', q1, q2, q3⟩ := store_box (P := P) hS hs r1 r2 hcond.1 hcond.2 hb hle
        exact fin w' M I _ q1 q2 q3
      · cases hst
    · rename_i k0 xs0 hb
      split at hst
      case h_2 => cases hst
      rename_i v' H1 hfz
      split at hst
      case h_2 => cases hst
      rename_i k' xs hb1
      split at hst
      case h_2 => cases hst
      rename_i y hy
      split at hst
      case isFalse => cases hst
      rename_i hc
      obtain ⟨rfl, hle, h0, hel⟩ := hc
      simp only [Option.some.injEq, Prod.mk.injEq] at hst; obtain ⟨rfl, rfl⟩ := hst
      obtain ⟨I', G1, S1, R1, hlen, _⟩ := frz_sound 0 ax hS r2 hfz
      obtain ⟨w', q1, q2, q3⟩ := store_row (P := P) S1 hs (G1.rel hS r1) R1 hel h0 hb1 hy hle
      exact fin w' M I' _ q1 (G1.trans q2) q3
    · cases hst
  -- alloc
  · rename_i t z
    simp only [List.map_nil, astep, Option.some.injEq, Prod.mk.injEq] at hst; obtain ⟨rfl, rfl⟩ := hst
    unfold zeroOK at hchk
    split at hchk
    case h_2 => cases hchk
    rename_i it hit
    split at hchk
    case h_2 => cases hchk
    rename_i zv hzv
    obtain ⟨G, S⟩ := alloc_push (e := t) hS (constL_rel (w := w) (M := M) (I := I) (n := H.length) hchk)
    refine OpTo.of_runs (s := Instr.alloc t true (.tuple #[])) ⟨.pointer (some ⟨w.heap.size, 0, none⟩), _, _, I, ?_, G, S, ?_⟩
    · simp [Instr.alloc, zeroValue, typeInfo, hit, hzv, newVar, newRow]
    · exact .ref H.length 0 0 0 w.heap.size 0 (by simp) more_new
  -- box
  · rename_i t x x'
    have r1 := hev _ _ hchk
    simp only [List.map_cons, List.map_nil, astep] at hst
    split at hst
    case isFalse => cases hst
    rename_i hone
    simp only [Option.some.injEq, Prod.mk.injEq] at hst; obtain ⟨rfl, rfl⟩ := hst
    obtain ⟨G, S⟩ := alloc_push (e := t) hS (rel_cells r1 (one_ne hone))
    refine OpTo.of_runs (s := Instr.box t (ρ x)) ⟨.pointer (some ⟨w.heap.size, 0, none⟩), _, _, I, ?_, G, S, ?_⟩
    · simp [Instr.box, newVar, newRow]
    · exact .ref H.length 0 0 0 w.heap.size 0 (by simp) more_new
  -- build
  · rename_i xs0 t parts z pl
    simp only [Bool.and_eq_true, decide_eq_true_eq] at hchk
    obtain ⟨⟨⟨hz, hso⟩, hpl⟩, h1⟩ := hchk
    simp only [astep] at hst
    obtain ⟨cs, hv, he⟩ := Option.map_eq_some_iff.1 hst
    simp only [Prod.mk.injEq] at he; obtain ⟨rfl, rfl⟩ := he
    have hr := hevs h1
    refine OpTo.of_runs (s := Instr.build t (parts.map fun (i, x) => (i, ρ x))) (build_sound hS hz hso ?_ ?_ hv)
    · rw [← hpl]; congr 1; simp
    · simpa [Function.comp_def] using hr
  -- bslice
  · rename_i xs0 t len parts k
    simp only [Bool.and_eq_true, decide_eq_true_eq] at hchk
    obtain ⟨⟨⟨⟨⟨hsl, hz⟩, hlim⟩, hlim'⟩, hidx⟩, h1⟩ := hchk
    simp only [astep] at hst
    split at hst
    case h_2 => cases hst
    rename_i vs' H1 hfz
    split at hst
    case isFalse => cases hst
    rename_i hel
    simp only [Option.some.injEq, Prod.mk.injEq] at hst; obtain ⟨rfl, rfl⟩ := hst
    have hr := hevs h1
    refine OpTo.of_runs (s := Instr.buildSlice t len (parts.map fun (i, x) => (i, ρ x))) (bslice_sound hS hsl hz hlim hlim' ?_ ?_ hfz hel)
    · rw [← hidx]; simp
    · simpa [Function.comp_def] using hr
  -- make
  · rename_i t l c k bytes z l' c'
    simp only [Bool.and_eq_true, decide_eq_true_eq] at hchk
    obtain ⟨⟨⟨hm, h1⟩, h2⟩, hk0⟩ := hchk
    split at hm
    case h_2 => cases hm
    rename_i el hu
    split at hm
    case h_2 => cases hm
    rename_i it hit
    simp only [Bool.and_eq_true, beq_iff_eq] at hm
    obtain ⟨⟨hk, hby⟩, hz⟩ := hm
    split at hz
    case h_2 => cases hz
    rename_i zv hzv
    simp only [Bool.and_eq_true, beq_iff_eq] at hz
    have r1 := hev _ _ h1; have r2 := hev _ _ h2
    simp only [List.map_cons, List.map_nil] at hst
    generalize e l' = al at hst r1
    generalize e c' = ac at hst r2
    cases al <;> cases ac <;> simp only [astep, reduceCtorEq] at hst
    split at hst
    case isFalse => cases hst
    rename_i hc
    obtain ⟨c1, c2, c3, c4, c5⟩ := hc
    simp only [Option.some.injEq, Prod.mk.injEq] at hst; obtain ⟨rfl, rfl⟩ := hst
    refine OpTo.of_runs (s := Instr.makeSlice t (ρ l) (ρ c)) ?_
    generalize ρ l = vl at r1
    generalize ρ c = vc at r2
    cases r1; cases r2
    exact make_sound hS hu hit hk hby hzv hz.2 hz.1 hk0 c1 c2 c3 c4 c5
  -- append
  · rename_i args at_ k bytes x' y'
    obtain ⟨args⟩ := args
    obtain ⟨at_⟩ := at_
    simp only [Bool.and_eq_true, decide_eq_true_eq] at hchk
    obtain ⟨hm, hk0⟩ := hchk
    split at hm
    case h_2 => cases hm
    rename_i x y t t'
    simp only [Bool.and_eq_true, beq_iff_eq] at hm
    obtain ⟨⟨⟨rfl, hm⟩, h1⟩, h2⟩ := hm
    split at hm
    case h_2 => cases hm
    rename_i el hu
    split at hm
    case h_2 => cases hm
    rename_i it hit
    simp only [Bool.and_eq_true, beq_iff_eq] at hm
    obtain ⟨⟨hk, hby⟩, hz⟩ := hm
    split at hz
    case h_2 => cases hz
    rename_i zv hzv
    simp only [beq_iff_eq] at hz
    have r1 := hev _ _ h1; have r2 := hev _ _ h2
    have fin : RunsTo P GT w M I H (Builtin.append_ #[t, t] ty #[ρ x, ρ y]) v H' → OpTo P GT w M I H (execOp ρ ⟨dst, .call { callee := .builtin .append, args := [x, y].toArray, argTypes := [t, t].toArray }, ty, pos, after, guard⟩) v H' := by
      rintro ⟨v', w', M', I', q1, q2, q3, q4⟩
      refine ⟨v', w', M', I', .inl ?_, q2, q3, q4⟩
      show Sem.run P (do let d ← resolve ρ _ ty; invoke d.target d.args) w = _
      simp only [resolve, invoke, builtin, Sem.run_bind, Sem.run_pure, Result.andThen_ok, List.map_toArray, List.map_cons, List.map_nil, q1]
    simp only [List.map_cons, List.map_nil] at hst
    generalize e x' = ax at hst r1
    generalize e y' = ay at hst r2
    simp only [astep] at hst
    split at hst
    case h_2 => cases hst
    rename_i ys hv
    split at hst
    · split at hst
      case isFalse => cases hst
      rename_i hc
      simp only [Option.some.injEq, Prod.mk.injEq] at hst; obtain ⟨rfl, rfl⟩ := hst
      apply fin
      generalize ρ x = vx at r1
      cases r1 with
      | lnil => exact append_nil_sound hS hu hit hk hby hzv hz hk0 r2 hv hc.1 hc.2 (some true) (by simp)
      | lemp _ _ _ hq => exact absurd rfl hq
      | lst _ _ _ _ _ _ _ hq => exact absurd rfl hq
    · rename_i q b k' off len
      split at hst
      case h_2 => cases hst
      rename_i k'' xs hb
      split at hst
      case isFalse => cases hst
      rename_i hc
      obtain ⟨rfl, rfl, hle, c1, c2⟩ := hc
      simp only [Option.some.injEq, Prod.mk.injEq] at hst; obtain ⟨rfl, rfl⟩ := hst
      exact fin (append_row_sound hS hu hit hk hby hzv hz hk0 r2 hv r1 hb hle c1 c2)
    · cases hst
  -- append of a string
  · rename_i args at_ x' y'
    obtain ⟨args⟩ := args
    obtain ⟨at_⟩ := at_
    split at hchk
    case h_2 => cases hchk
    rename_i x y t t' ha hat
    obtain rfl : args = [x, y] := ha
    obtain rfl : at_ = [t, t'] := hat
    simp only [Bool.and_eq_true] at hchk
    obtain ⟨⟨⟨hstr, hm⟩, h1⟩, h2⟩ := hchk
    have hu' : P.underlying t' = some .string := by
      unfold isStr at hstr
      split at hstr
      · assumption
      · cases hstr
    split at hm
    case h_2 => cases hm
    rename_i el hu
    split at hm
    case h_2 => cases hm
    rename_i it hit
    simp only [Bool.and_eq_true, beq_iff_eq] at hm
    obtain ⟨⟨hk, hby⟩, hz⟩ := hm
    split at hz
    case h_2 => cases hz
    rename_i zv hzv
    simp only [beq_iff_eq] at hz
    have r1 := hev _ _ h1; have r2 := hev _ _ h2
    have fin : RunsTo P GT w M I H (Builtin.append_ #[t, t'] ty #[ρ x, ρ y]) v H' → OpTo P GT w M I H (execOp ρ ⟨dst, .call { callee := .builtin .append, args := [x, y].toArray, argTypes := [t, t'].toArray }, ty, pos, after, guard⟩) v H' := by
      rintro ⟨v', w', M', I', q1, q2, q3, q4⟩
      refine ⟨v', w', M', I', .inl ?_, q2, q3, q4⟩
      show Sem.run P (do let d ← resolve ρ _ ty; invoke d.target d.args) w = _
      simp only [resolve, invoke, builtin, Sem.run_bind, Sem.run_pure, Result.andThen_ok, List.map_toArray, List.map_cons, List.map_nil, q1]
    simp only [List.map_cons, List.map_nil] at hst
    generalize e x' = ax at hst r1
    generalize e y' = ay at hst r2
    cases ay <;> simp only [astep, reduceCtorEq] at hst
    rename_i s
    generalize ρ y = vy at r2 fin
    cases r2
    have hsrc : Src P w 1 (s.map byteAV).length t' (.string ⟨s.toArray⟩) (s.map fun b => .int .u8 b.toNat) := by simpa using Src.of_str (w := w) hu' s
    have n1 : (s.map fun b : UInt8 => Value.int .u8 b.toNat).length = (s.map byteAV).length * 1 := by simp
    have n3 : ∀ u ∈ (s.map fun b : UInt8 => Value.int .u8 b.toNat), u.oneCell' = true := by
      intro u hu
      obtain ⟨b, _, rfl⟩ := List.mem_map.1 hu
      rfl
    have n4 : ∀ i j x c, (s.map byteAV)[i]? = some x → x.cells[j]? = some c → ∃ u, (s.map fun b : UInt8 => Value.int .u8 b.toNat)[i * 1 + j]? = some u ∧ Rel w M I H.length c u := by
      intro i j x c hi hj
      rw [List.getElem?_map] at hi
      obtain ⟨b, hb, rfl⟩ := Option.map_eq_some_iff.1 hi
      cases j with
      | zero => simp [byteAV, AV.cells] at hj; subst hj; exact ⟨.int .u8 b.toNat, by simp [hb], .int _ _⟩
      | succ j => simp [byteAV, AV.cells] at hj
    split at hst
    · split at hst
      · rename_i hse
        obtain rfl : s = [] := List.isEmpty_iff.1 hse
        simp only [Option.some.injEq, Prod.mk.injEq] at hst; obtain ⟨rfl, rfl⟩ := hst
        apply fin
        generalize ρ x = vx at r1
        have r1' := r1
        cases r1 with
        | lnil => exact ⟨_, w, M, I, run_append_none_src hu hit (by rw [hk]; exact hsrc), Grow.refl .., hS, r1'⟩
        | lemp _ _ _ hq => exact absurd rfl hq
        | lst _ _ _ _ _ _ _ hq => exact absurd rfl hq
      split at hst
      case isFalse => cases hst
      rename_i hc
      simp only [Option.some.injEq, Prod.mk.injEq] at hst; obtain ⟨rfl, rfl⟩ := hst
      apply fin
      have g := append_nil_src (P := P) (ty := ty) hS hu hit hk hby hzv hz (by omega) (bytes_elems s) hsrc n1 n4 (by simp; omega) (by simp; omega) (some true) (by simp)
      rw [List.length_map] at g
      generalize ρ x = vx at r1
      cases r1 with
      | lnil => exact g
      | lemp _ _ _ hq => exact absurd rfl hq
      | lst _ _ _ _ _ _ _ hq => exact absurd rfl hq
    · rename_i q b k' off len
      split at hst
      · rename_i hse
        obtain rfl : s = [] := List.isEmpty_iff.1 hse
        simp only [Option.some.injEq, Prod.mk.injEq] at hst; obtain ⟨rfl, rfl⟩ := hst
        apply fin
        generalize ρ x = vx at r1
        have r1' := r1
        cases r1 with
        | sln => exact ⟨_, w, M, I, run_append_none_src hu hit (by rw [hk]; exact hsrc), Grow.refl .., hS, r1'⟩
        | sl _ _ _ _ _ g o p cap hbn hM hc hm hq ha => exact ⟨_, w, M, I, run_append_none_src' hu hit hc (by rw [hk]; exact hsrc), Grow.refl .., hS, r1'⟩
      split at hst
      case h_2 => cases hst
      rename_i k'' xs hb
      split at hst
      case isFalse => cases hst
      rename_i hc
      obtain ⟨rfl, rfl, hle, c1⟩ := hc
      simp only [Option.some.injEq, Prod.mk.injEq] at hst; obtain ⟨rfl, rfl⟩ := hst
      have g := append_row_src (P := P) (ty := ty) hS hu hit hk hby hzv hz (by omega) (bytes_elems s) hsrc n1 n3 n4 r1 hb hle (by simp; omega) (by simp; omega)
      rw [List.length_map] at g
      exact fin g
    · cases hst
  -- min
  · rename_i args at_ x' y'
    obtain ⟨args⟩ := args
    split at hchk
    case h_2 => cases hchk
    rename_i x y hax
    obtain rfl : args = [x, y] := hax
    simp only [Bool.and_eq_true] at hchk
    have r1 := hev _ _ hchk.1; have r2 := hev _ _ hchk.2
    simp only [List.map_cons, List.map_nil] at hst
    generalize e x' = ax at hst r1
    generalize e y' = ay at hst r2
    cases ax <;> cases ay <;> simp only [astep, reduceCtorEq] at hst
    split at hst
    case isFalse => cases hst
    rename_i hk; subst hk
    simp only [Option.some.injEq, Prod.mk.injEq] at hst; obtain ⟨rfl, rfl⟩ := hst
    generalize hx : ρ x = vx at r1
    generalize hy : ρ y = vy at r2
    cases r1; cases r2
    refine ⟨_, w, M, I, .inl ?_, Grow.refl .., hS, .int _ _⟩
    show Sem.run P (do let d ← resolve ρ _ ty; invoke d.target d.args) w = _
    simp [resolve, invoke, builtin, Builtin.min_, hx, hy, Builtin.min2]
  -- max
  · rename_i args at_ x' y'
    obtain ⟨args⟩ := args
    split at hchk
    case h_2 => cases hchk
    rename_i x y hax
    obtain rfl : args = [x, y] := hax
    simp only [Bool.and_eq_true] at hchk
    have r1 := hev _ _ hchk.1; have r2 := hev _ _ hchk.2
    simp only [List.map_cons, List.map_nil] at hst
    generalize e x' = ax at hst r1
    generalize e y' = ay at hst r2
    cases ax <;> cases ay <;> simp only [astep, reduceCtorEq] at hst
    split at hst
    case isFalse => cases hst
    rename_i hk; subst hk
    simp only [Option.some.injEq, Prod.mk.injEq] at hst; obtain ⟨rfl, rfl⟩ := hst
    generalize hx : ρ x = vx at r1
    generalize hy : ρ y = vy at r2
    cases r1; cases r2
    refine ⟨_, w, M, I, .inl ?_, Grow.refl .., hS, .int _ _⟩
    show Sem.run P (do let d ← resolve ρ _ ty; invoke d.target d.args) w = _
    simp [resolve, invoke, builtin, Builtin.max_, hx, hy, Builtin.max2]
  -- calls
  · simp [astep] at hst
  · simp [astep] at hst
  · cases hchk

end
end Go.AM

/- The abstract machine, part 13: calls; one operation; a region in the text's order. Own work. -/
set_option linter.all false
namespace Go.AM

section
variable {P : Program} {GT : Nat → Option AV} {w : World} {M : AMap} {I : Nat → Prop} {H : Heap}

/-- What is asked once an operation has ended. -/
def OpDone (P : Program) (r : Result Next) (next : Value → World → Prop) : Prop :=
  match r with
  | .ok (.value v) w' => next v w'
  | .ok .skip w' => next Go.undef w'
  | .ok (.enter f args) w' => Calls P f args w' fun e w'' => ∃ v, e = .returned v ∧ next v w''
  | _ => False

theorem OpDone.mono {r : Result Next} {next next' : Value → World → Prop} (h : OpDone P r next) (hn : ∀ v w, next v w → next' v w) : OpDone P r next' := by
  unfold OpDone at *
  split at h
  · exact hn _ _ h
  · exact hn _ _ h
  · exact h.mono fun e w' ⟨v, he, hv⟩ => ⟨v, he, hn _ _ hv⟩
  · exact h.elim

theorem wp_of_done {o : Oper} {a : Act} {K : Act → World → Prop} {Q : Exit → Act → World → Prop} (h : OpDone P ((execOp a.eval o).run P w) fun v w' => K (a.put o.dst v) w') : o.wp P a w K Q := by
  unfold Oper.wp
  unfold OpDone at h
  split at h
  · rename_i hr; rw [hr]; exact h
  · rename_i hr; rw [hr]; exact h
  · rename_i hr; rw [hr]
    exact h.mono fun e w' ⟨v, he, hv⟩ => by subst he; exact hv
  · exact h.elim

/-- What is asked once an operation has ended in a panic. -/
def PanDone (P : Program) (r : Result Next) (pn : Value → World → Prop) : Prop :=
  match r with
  | .ok (.enter f args) w' => Calls P f args w' fun e w'' => ∃ v, e = .panicked [{ v, recovered := false }] ∧ pn v w''
  | .halt (.panic v) w' => pn v w'
  | _ => False

theorem wp_of_pan {o : Oper} {a : Act} {K : Act → World → Prop} {Q : Exit → Act → World → Prop} (h : PanDone P ((execOp a.eval o).run P w) fun v w' => Q (.panic [{ v, recovered := false }]) a w') : o.wp P a w K Q := by
  unfold Oper.wp
  unfold PanDone at h
  split at h
  · rename_i hr; rw [hr]
    exact h.mono fun e w' ⟨v, he, hv⟩ => by subst he; exact hv
  · rename_i hr; rw [hr]; exact h
  · exact h.elim

/-- A call that returns. -/
def GoodN (P : Program) (GT : Nat → Option AV) : CSpec := fun f args H v H' =>
  ∀ (w : World) (M : AMap) (I : Nat → Prop) (cargs : List Value), Sim GT w M I H → RelL w M I H.length args cargs →
    OpDone P ((callFunc f cargs.toArray).run P w) fun v' w' => ∃ M' I', Grow w M I H w' M' I' H' ∧ Sim GT w' M' I' H' ∧ Rel w' M' I' H'.length v v'
/-- A call that ends in a panic with what x stands for. -/
def GoodP (P : Program) (GT : Nat → Option AV) : CSpec := fun f args H x H' =>
  ∀ (w : World) (M : AMap) (I : Nat → Prop) (cargs : List Value), Sim GT w M I H → RelL w M I H.length args cargs →
    PanDone P ((callFunc f cargs.toArray).run P w) fun v' w' => ∃ M' I', Grow w M I H w' M' I' H' ∧ Sim GT w' M' I' H' ∧ Rel w' M' I' H'.length x v'

/-- What the abstract machine knows of a call, and that it is so. A list of arguments that begins with '.pan' speaks of a call that panics. -/
def Good (P : Program) (GT : Nat → Option AV) : CSpec := fun f args H v H' =>
  match args with
  | .pan _ :: args' => GoodP P GT f args' H v H'
  | args => GoodN P GT f args H v H'

def noPan : List AV → Bool
  | .pan _ :: _ => false
  | _ => true

theorem not_pan {n : Nat} {x : AV} {v : Value} (h : Rel w M I n (.pan x) v) : False := by cases h

theorem Good.n {f : FuncId} {args : List AV} {v : AV} {H' : Heap} {n : Nat} {cargs : List Value} (h : Good P GT f args H v H') (ha : RelL w M I n args cargs) : GoodN P GT f args H v H' := by
  unfold Good at h
  split at h
  · rename_i x args'
    match cargs, ha with
    | [], ha => exact absurd ha.1 (by simp)
    | c :: cs, ha => exact (not_pan (ha.2 0 _ c rfl rfl)).elim
  · exact h

theorem good_of_n {f : FuncId} {args : List AV} {v : AV} {H' : Heap} (hn : noPan args = true) (h : GoodN P GT f args H v H') : Good P GT f args H v H' := by
  unfold Good
  split
  · simp [noPan] at hn
  · exact h

/-- One operation, call or not. -/
def StepK (C : CSpec) (k : AK) (vs : List AV) (H : Heap) (v : AV) (H' : Heap) : Prop :=
  match k with
  | .call f rd => C f vs H v H' ∧ (rd = true → H' = H)
  | .callv rd => match vs with
    | .fn f first caps :: args => C f (first ++ args ++ caps) H v H' ∧ (rd = true → H' = H)
    | _ => False
  | k => astep k vs H = some (v, H')

theorem stepK_of {C : CSpec} {k : AK} {vs : List AV} {H : Heap} {K : AV → Heap → Prop} (h : stepK C k vs H K) : ∃ v H', StepK C k vs H v H' ∧ K v H' := by
  cases k
  case call f rd => obtain ⟨v, H', h1, h2, h3⟩ := h; exact ⟨v, H', ⟨h1, h2⟩, h3⟩
  case callv rd =>
    simp only [stepK] at h
    split at h
    · obtain ⟨v, H', h1, h2, h3⟩ := h; exact ⟨v, H', ⟨h1, h2⟩, h3⟩
    · exact h.elim
  all_goals
    simp only [stepK] at h
    split at h
    · rename_i v H' hs
      exact ⟨v, H', hs, h⟩
    · exact h.elim

theorem chk_call' {op : Op} {k : AK} {f : FuncId} {rd : Bool} {xs : List Opd} (h : chkOp P op k xs = true) (hk : k = .call f rd) : ∃ args at_, op = .call { callee := .value (.func f), args := args, argTypes := at_ } ∧ chkOs args.toList xs = true := by
  replace h : chkOp0 P op k xs = true := by subst hk; exact h
  unfold chkOp0 at h
  split at h
  all_goals first
    | (injection hk; done)
    | (injection hk with e1 e2; subst e1; simp only [Bool.and_eq_true, beq_iff_eq] at h; obtain ⟨rfl, h⟩ := h; exact ⟨_, _, rfl, h⟩)
    | cases h

theorem chk_call {op : Op} {f : FuncId} {rd : Bool} {xs : List Opd} (h : chkOp P op (.call f rd) xs = true) : ∃ args at_, op = .call { callee := .value (.func f), args := args, argTypes := at_ } ∧ chkOs args.toList xs = true := chk_call' h rfl

theorem chk_callv' {op : Op} {k : AK} {rd : Bool} {xs : List Opd} (h : chkOp P op k xs = true) (hk : k = .callv rd) : ∃ x args at_, op = .call { callee := .value x, args := args, argTypes := at_ } ∧ chkOs (x :: args.toList) xs = true := by
  replace h : chkOp0 P op k xs = true := by subst hk; exact h
  unfold chkOp0 at h
  split at h
  all_goals first
    | (injection hk; done)
    | exact ⟨_, _, _, rfl, h⟩
    | cases h

theorem chk_callv {op : Op} {rd : Bool} {xs : List Opd} (h : chkOp P op (.callv rd) xs = true) : ∃ x args at_, op = .call { callee := .value x, args := args, argTypes := at_ } ∧ chkOs (x :: args.toList) xs = true := chk_callv' h rfl

/-- An operation comes to what the abstract one says. -/
def Comes1 (P : Program) (GT : Nat → Option AV) (w : World) (M : AMap) (I : Nat → Prop) (H : Heap) (s : Sem Next) (v : AV) (H' : Heap) : Prop :=
  OpDone P (s.run P w) fun v' w' => ∃ M' I', Grow w M I H w' M' I' H' ∧ Sim GT w' M' I' H' ∧ Rel w' M' I' H'.length v v'

theorem comes_sound (hS : Sim GT w M I H) {o : Oper} {k : AK} {xs : List Opd} (hchk : chkOp P o.op k xs = true) {ρ : Operand → Value} {e : Opd → AV} (hev : ∀ x x', chkO x x' = true → Rel w M I H.length (e x') (ρ x))
    (hfn : ∀ f, ρ (.func f) = .func (.func f) #[] #[]) {v : AV} {H' : Heap} (hst : StepK (Good P GT) k (xs.map e) H v H') : Comes1 P GT w M I H (execOp ρ o) v H' := by
  have hevs : ∀ {as : List Operand} {bs : List Opd}, chkOs as bs = true → RelL w M I H.length (bs.map e) (as.map ρ) := by
    intro as
    induction as with
    | nil => intro bs h; cases bs with
      | nil => exact ⟨rfl, by simp⟩
      | cons => simp [chkOs] at h
    | cons a as ih => intro bs h; cases bs with
      | nil => simp [chkOs] at h
      | cons b bs =>
        simp only [chkOs, Bool.and_eq_true] at h
        have := ih h.2
        refine ⟨by simpa using this.1, fun i c v hc hv => ?_⟩
        cases i with
        | zero => simp at hc hv; subst hc hv; exact hev _ _ h.1
        | succ i => exact this.2 i c v (by simpa using hc) (by simpa using hv)
  have plain : astep k (xs.map e) H = some (v, H') → Comes1 P GT w M I H (execOp ρ o) v H' := fun hs => by
    obtain ⟨v', w', M', I', h1, h2, h3, h4⟩ := step_sound hS hchk hev hs
    unfold Comes1 OpDone
    rcases h1 with h1 | ⟨h1, rfl⟩
    · rw [h1]; exact ⟨M', I', h2, h3, h4⟩
    · rw [h1]; exact ⟨M', I', h2, h3, h4⟩
  cases k <;> try exact plain hst
  case call f rd =>
    obtain ⟨dst, op, ty, pos, after, guard⟩ := o
    obtain ⟨args, at_, rfl, h1⟩ := chk_call hchk
    have := hst.1.n (hevs h1) w M I _ hS (hevs h1)
    have hrun : (execOp ρ ⟨dst, .call { callee := .value (.func f), args := args, argTypes := at_ }, ty, pos, after, guard⟩).run P w = (callFunc f (args.toList.map ρ).toArray).run P w := by
      have hf := hfn f
      show Sem.run P (do let d ← resolve ρ _ ty; invoke d.target d.args) w = _
      simp only [resolve, Deferred.ofValue, hf, invoke, Sem.run_bind, Sem.run_pure, Result.andThen_ok]
      congr 2
      apply Array.ext'
      simp
    unfold Comes1
    rw [hrun]; exact this
  case callv rd =>
    obtain ⟨dst, op, ty, pos, after, guard⟩ := o
    obtain ⟨x, args, at_, rfl, h1⟩ := chk_callv hchk
    cases xs with
    | nil => simp [chkOs] at h1
    | cons x' xs' =>
      simp only [chkOs, Bool.and_eq_true] at h1
      simp only [StepK, List.map_cons] at hst
      split at hst
      case h_2 => exact hst.elim
      rename_i f fst caps vs heq
      simp only [List.cons.injEq] at heq
      obtain ⟨hx, rfl⟩ := heq
      have r1 := hev _ _ h1.1
      rw [hx] at r1
      have r2 := hevs h1.2
      generalize hxv : ρ x = vx at r1
      cases r1 with
      | fn _ _ _ vs us hl hl' hr hr' =>
        have hargs : RelL w M I H.length (fst ++ xs'.map e ++ caps) (vs ++ args.toList.map ρ ++ us) := by
          have app : ∀ {a b : List AV} {c d : List Value}, RelL w M I H.length a c → RelL w M I H.length b d → RelL w M I H.length (a ++ b) (c ++ d) := by
            intro a b c d h k
            refine ⟨by simp [h.1, k.1], fun i x v hx hv => ?_⟩
            have := h.1
            by_cases hi : i < a.length
            · rw [List.getElem?_append_left hi] at hx
              rw [List.getElem?_append_left (by omega)] at hv
              exact h.2 i x v hx hv
            · rw [List.getElem?_append_right (by omega)] at hx
              rw [List.getElem?_append_right (by omega)] at hv
              rw [this] at hx
              exact k.2 _ x v hx hv
          exact app (app ⟨hl, hr⟩ r2) ⟨hl', hr'⟩
        have := hst.1.n hargs w M I _ hS hargs
        have hrun : (execOp ρ ⟨dst, .call { callee := .value x, args := args, argTypes := at_ }, ty, pos, after, guard⟩).run P w = (callFunc f (vs ++ args.toList.map ρ ++ us).toArray).run P w := by
          show Sem.run P (do let d ← resolve ρ _ ty; invoke d.target d.args) w = _
          simp only [resolve, Deferred.ofValue, hxv, invoke, Sem.run_bind, Sem.run_pure, Result.andThen_ok]
          congr 2
          apply Array.ext'
          simp
        unfold Comes1
        rw [hrun]; exact this

/-! ### Calls that panic -/

/-- As a call that returns. -/
def AK.plainK : AK → AK
  | .callp f => .call f false
  | .callvp => .callv false
  | k => k

/-- One operation ends in a panic. -/
def StepP (C : CSpec) (k : AK) (vs : List AV) (H : Heap) (x : AV) (H' : Heap) : Prop :=
  match k with
  | .callp f => C f (.pan .undef :: vs) H x H'
  | .callvp => match vs with
    | .fn f first caps :: args => C f (.pan .undef :: (first ++ args ++ caps)) H x H'
    | _ => False
  | .panic => ∃ t y, vs = [x] ∧ x = .iface t y ∧ H' = H
  | _ => False

theorem stepKP_of {C : CSpec} {k : AK} {vs : List AV} {H : Heap} {K KP : AV → Heap → Prop} (h : stepKP C k vs H K KP) : (∃ v H', StepK C k.plainK vs H v H' ∧ K v H') ∨ (∃ x H', StepP C k vs H x H' ∧ KP x H') := by
  cases k
  case callp f =>
    rcases h with ⟨v, H', h1, h2⟩ | ⟨x, H', h1, h2⟩
    · exact .inl ⟨v, H', ⟨h1, by simp⟩, h2⟩
    · exact .inr ⟨x, H', h1, h2⟩
  case callvp =>
    simp only [stepKP] at h
    split at h
    · rcases h with ⟨v, H', h1, h2⟩ | ⟨x, H', h1, h2⟩
      · exact .inl ⟨v, H', ⟨h1, by simp⟩, h2⟩
      · exact .inr ⟨x, H', h1, h2⟩
    · exact h.elim
  case panic =>
    simp only [stepKP] at h
    split at h
    · exact .inr ⟨_, _, ⟨_, _, rfl, rfl, rfl⟩, h⟩
    · exact h.elim
  all_goals exact .inl (stepK_of h)

theorem chk_plain {op : Op} {k : AK} {xs : List Opd} (h : chkOp P op k xs = true) : chkOp P op k.plainK xs = true := by
  cases k <;> exact h

theorem relL_app {n : Nat} {a b : List AV} {c d : List Value} (h : RelL w M I n a c) (k : RelL w M I n b d) : RelL w M I n (a ++ b) (c ++ d) := by
  refine ⟨by simp [h.1, k.1], fun i x v hx hv => ?_⟩
  have := h.1
  by_cases hi : i < a.length
  · rw [List.getElem?_append_left hi] at hx
    rw [List.getElem?_append_left (by omega)] at hv
    exact h.2 i x v hx hv
  · rw [List.getElem?_append_right (by omega)] at hx
    rw [List.getElem?_append_right (by omega)] at hv
    rw [this] at hx
    exact k.2 _ x v hx hv

theorem pan_sound (hS : Sim GT w M I H) {o : Oper} {k : AK} {xs : List Opd} (hchk : chkOp P o.op k xs = true) {ρ : Operand → Value} {e : Opd → AV} (hev : ∀ x x', chkO x x' = true → Rel w M I H.length (e x') (ρ x))
    (hfn : ∀ f, ρ (.func f) = .func (.func f) #[] #[]) {x : AV} {H' : Heap} (hst : StepP (Good P GT) k (xs.map e) H x H') :
    PanDone P ((execOp ρ o).run P w) fun v' w' => ∃ M' I', Grow w M I H w' M' I' H' ∧ Sim GT w' M' I' H' ∧ Rel w' M' I' H'.length x v' := by
  have hevs : ∀ {as : List Operand} {bs : List Opd}, chkOs as bs = true → RelL w M I H.length (bs.map e) (as.map ρ) := by
    intro as
    induction as with
    | nil => intro bs h; cases bs with
      | nil => exact ⟨rfl, by simp⟩
      | cons => simp [chkOs] at h
    | cons a as ih => intro bs h; cases bs with
      | nil => simp [chkOs] at h
      | cons b bs =>
        simp only [chkOs, Bool.and_eq_true] at h
        have := ih h.2
        refine ⟨by simpa using this.1, fun i c v hc hv => ?_⟩
        cases i with
        | zero => simp at hc hv; subst hc hv; exact hev _ _ h.1
        | succ i => exact this.2 i c v (by simpa using hc) (by simpa using hv)
  obtain ⟨dst, op, ty, pos, after, guard⟩ := o
  cases k <;> try exact hst.elim
  case callp f =>
    obtain ⟨args, at_, rfl, h1⟩ := chk_call' (k := .call f false) (rd := false) (show chkOp P op (.call f false) xs = true from hchk) rfl
    have := hst w M I _ hS (hevs h1)
    have hrun : (execOp ρ ⟨dst, .call { callee := .value (.func f), args := args, argTypes := at_ }, ty, pos, after, guard⟩).run P w = (callFunc f (args.toList.map ρ).toArray).run P w := by
      have hf := hfn f
      show Sem.run P (do let d ← resolve ρ _ ty; invoke d.target d.args) w = _
      simp only [resolve, Deferred.ofValue, hf, invoke, Sem.run_bind, Sem.run_pure, Result.andThen_ok]
      congr 2
      apply Array.ext'
      simp
    rw [hrun]; exact this
  case callvp =>
    obtain ⟨y, args, at_, rfl, h1⟩ := chk_callv' (k := .callv false) (rd := false) (show chkOp P op (.callv false) xs = true from hchk) rfl
    cases xs with
    | nil => simp [chkOs] at h1
    | cons x' xs' =>
      simp only [chkOs, Bool.and_eq_true] at h1
      simp only [StepP, List.map_cons] at hst
      split at hst
      case h_2 => exact hst.elim
      rename_i f fst caps vs heq
      simp only [List.cons.injEq] at heq
      obtain ⟨hx, rfl⟩ := heq
      have r1 := hev _ _ h1.1
      rw [hx] at r1
      have r2 := hevs h1.2
      generalize hxv : ρ y = vx at r1
      cases r1 with
      | fn _ _ _ vs us hl hl' hr hr' =>
        have hargs : RelL w M I H.length (fst ++ xs'.map e ++ caps) (vs ++ args.toList.map ρ ++ us) := relL_app (relL_app ⟨hl, hr⟩ r2) ⟨hl', hr'⟩
        have := hst w M I _ hS hargs
        have hrun : (execOp ρ ⟨dst, .call { callee := .value y, args := args, argTypes := at_ }, ty, pos, after, guard⟩).run P w = (callFunc f (vs ++ args.toList.map ρ ++ us).toArray).run P w := by
          show Sem.run P (do let d ← resolve ρ _ ty; invoke d.target d.args) w = _
          simp only [resolve, Deferred.ofValue, hxv, invoke, Sem.run_bind, Sem.run_pure, Result.andThen_ok]
          congr 2
          apply Array.ext'
          simp
        rw [hrun]; exact this
  case panic =>
    simp only [chkOp] at hchk
    split at hchk
    · rename_i y y'
      obtain ⟨t, z, h1, rfl, rfl⟩ := hst
      have hx : e y' = .iface t z := by simpa using h1
      have r := hev _ _ hchk
      rw [hx] at r
      generalize hy : ρ y = vy at r
      have r' := r
      cases r with
      | iface _ _ u hu =>
        have hrun : (execOp ρ ⟨dst, .panic y, ty, pos, after, guard⟩).run P w = .halt (.panic (.iface t u)) w := by
          show Sem.run P (do pure (Next.value (← Instr.panic (ρ y)))) w = _
          rw [hy]
          rfl
        rw [hrun]
        exact ⟨M, I, Grow.refl .., hS, r'⟩
    · cases hchk

end
end Go.AM

/- The abstract machine, part 14: an operation in its frame; regions, in the text's order and in any. Own work. -/
set_option linter.all false
namespace Go.AM

/-- A frame, looked at slot by slot. -/
abbrev GF := Nat → AV
def evg (GT : Nat → Option AV) (g : GF) : Opd → AV
  | .tmp t => g t
  | .const v => v
  | .glob g' => match GT g' with
    | some x => .lref x 0
    | none => .undef
  | .fn f => .fn f [] []
def putg (g : GF) : Option Nat → AV → GF
  | some d, v => fun t => if d = t then v else g t
  | none, _ => g

theorem ev_eq (GT : Nat → Option AV) (fr : Fr) : ev GT fr = evg GT (get fr) := by
  funext x; cases x <;> rfl
theorem get_put (fr : Fr) (d : Option Nat) (v : AV) : get (put fr d v) = putg (get fr) d v := by
  cases d with
  | none => rfl
  | some d => funext t; rfl

/-- What one operation, guarded or not, comes to. -/
def AYields (C : CSpec) (GT : Nat → Option AV) (i : AI) (g : GF) (H : Heap) (v : AV) (H' : Heap) : Prop :=
  match i.g with
  | none => StepK C i.k (i.xs.map (evg GT g)) H v H'
  | some (s, want) => ∃ b, gd want (g s) = some b ∧ if b = true then StepK C i.k (i.xs.map (evg GT g)) H v H' else v = .tup [] ∧ H' = H

theorem AWops_cons {C : CSpec} {GT : Nat → Option AV} {i : AI} {is : List AI} {fr : Fr} {H : Heap} {K : Fr → Heap → Prop} (h : AWops C GT (i :: is) fr H K) :
    ∃ v H', AYields C GT i (get fr) H v H' ∧ AWops C GT is (put fr i.dst v) H' K := by
  unfold AWops at h
  unfold AYields
  split at h
  · rename_i hg
    rw [hg]
    obtain ⟨v, H', h1, h2⟩ := stepK_of h
    exact ⟨v, H', by rw [← ev_eq]; exact h1, h2⟩
  · rename_i s want hg
    rw [hg]
    split at h
    · rename_i b hb
      split at h
      · rename_i hbw
        obtain ⟨v, H', h1, h2⟩ := stepK_of h
        exact ⟨v, H', ⟨b, hb, by rw [if_pos hbw, ← ev_eq]; exact h1⟩, h2⟩
      · rename_i hbw
        exact ⟨.tup [], H, ⟨b, hb, by rw [if_neg hbw]; exact ⟨rfl, rfl⟩⟩, h⟩
    · exact h.elim

section
variable {P : Program} {GT : Nat → Option AV} {w : World} {M : AMap} {I : Nat → Prop} {H : Heap}

/-- A frame of the model's that an abstract one stands for. -/
structure ActOK (w : World) (M : AMap) (I : Nat → Prop) (n N : Nat) (g : GF) (a : Act) : Prop where
  rel : ∀ t, Rel w M I n (g t) (a.tmps.getD t Go.undef)
  size : N ≤ a.tmps.size
  defers : a.defers = []

theorem ActOK.ev (hS : Sim GT w M I H) {N : Nat} {g : GF} {a : Act} (hF : ActOK w M I H.length N g a) : ∀ x x', chkO x x' = true → Rel w M I H.length (evg GT g x') (a.eval x) := by
  intro x x' h
  cases x <;> cases x' <;> simp only [chkO, beq_iff_eq] at h <;> first | (cases h; done) | skip
  · subst h; exact hF.rel _
  · exact const_rel h
  · subst h
    rename_i gl
    simp only [evg, Act.eval]
    cases hg : GT gl with
    | none => exact .undef _
    | some x => exact (hS.glob _ _ hg).free (hS.glob _ _ hg).bel
  · subst h; exact .fn _ [] [] [] [] rfl rfl (by simp) (by simp)

theorem ActOK.grow {w' : World} {M' : AMap} {I' : Nat → Prop} {H' : Heap} (hG : Grow w M I H w' M' I' H') (hS : Sim GT w M I H) {N : Nat} {g : GF} {a : Act} (hF : ActOK w M I H.length N g a) : ActOK w' M' I' H'.length N g a :=
  ⟨fun t => hG.rel hS (hF.rel t), hF.size, hF.defers⟩

theorem ActOK.put {n N : Nat} {g : GF} {a : Act} (hF : ActOK w M I n N g a) {d : Option Nat} {v : AV} {u : Value} (hd : ∀ e, d = some e → e < N) (hv : Rel w M I n v u) : ActOK w M I n N (putg g d v) (a.put d u) := by
  cases d with
  | none => exact hF
  | some d =>
    have hlt : d < a.tmps.size := Nat.lt_of_lt_of_le (hd d rfl) hF.size
    refine ⟨fun t => ?_, by simpa [Act.put] using hF.size, hF.defers⟩
    simp only [putg, Act.put]
    by_cases h : d = t
    · subst h; simpa [hlt] using hv
    · simpa [h, Array.getElem?_setIfInBounds_ne h] using hF.rel t

/-- An abstract operation against the program's. 'N': how many slots the frame has. -/
def chkAI (P : Program) (N : Nat) (ops : Array Oper) (o : Oper) (i : AI) : Bool :=
  decide (o.dst = i.dst) && (match i.dst with
    | some d => decide (d < N)
    | none => true) &&
  (match o.guard, i.g with
    | none, none => true
    | some (j, want), some (s, want') => decide (want = want') && decide ((ops[j]?).bind (·.dst) = some s) && decide (s < N)
    | _, _ => false) && chkOp P o.op i.k i.xs

theorem op_sound (hS : Sim GT w M I H) {N : Nat} {ops : Array Oper} {o : Oper} {i : AI} {g : GF} {a : Act} (hF : ActOK w M I H.length N g a) (hc : chkAI P N ops o i = true) {v : AV} {H' : Heap} (hy : AYields (Good P GT) GT i g H v H')
    {Q : Exit → Act → World → Prop} {K : Act → World → Prop} (hK : ∀ a' w' M' I', Grow w M I H w' M' I' H' → Sim GT w' M' I' H' → ActOK w' M' I' H'.length N (putg g i.dst v) a' → K a' w') :
    if Region.wanted o (yielded ops a.tmps) then o.wp P a w K Q ∨ (o.asks P a w ∧ LetsOut Q) else K (a.put o.dst Go.undef) w := by
  simp only [chkAI, Bool.and_eq_true, decide_eq_true_eq] at hc
  obtain ⟨⟨⟨h1, h2⟩, h3⟩, h4⟩ := hc
  have hd : ∀ e, i.dst = some e → e < N := by
    intro e he
    rw [he] at h2
    simpa using h2
  have doit : StepK (Good P GT) i.k (i.xs.map (evg GT g)) H v H' → o.wp P a w K Q := fun hst => by
    refine wp_of_done ((comes_sound hS h4 (hF.ev hS) (fun f => rfl) hst).mono ?_)
    rintro v' w' ⟨M', I', g1, g2, g3⟩
    rw [h1]
    exact hK _ _ M' I' g1 g2 ((hF.grow g1 hS).put hd g3)
  have dont : v = .tup [] → H' = H → K (a.put o.dst Go.undef) w := fun e1 e2 => by
    subst e1 e2
    rw [h1]
    exact hK _ _ M I (Grow.refl ..) hS (hF.put hd (.tup [] [] rfl (by simp)))
  unfold AYields at hy
  cases hg : i.g with
  | none =>
    rw [hg] at hy h3
    cases hog : o.guard with
    | none =>
      have : Region.wanted o (yielded ops a.tmps) = true := by simp [Region.wanted, hog]
      rw [if_pos this]
      exact .inl (doit hy)
    | some jw => rw [hog] at h3; simp at h3
  | some sw =>
    obtain ⟨s, want⟩ := sw
    rw [hg] at hy h3
    cases hog : o.guard with
    | none => rw [hog] at h3; simp at h3
    | some jw =>
      obtain ⟨j, want'⟩ := jw
      rw [hog] at h3
      simp only [Bool.and_eq_true, decide_eq_true_eq] at h3
      obtain ⟨⟨rfl, h3⟩, h3'⟩ := h3
      obtain ⟨b, hb, hy⟩ := hy
      have hr := hF.rel s
      have hlt : s < a.tmps.size := Nat.lt_of_lt_of_le h3' hF.size
      have hv : a.tmps[s]? = some (a.tmps.getD s Go.undef) := by simp [hlt]
      have : Region.wanted o (yielded ops a.tmps) = b := by
        simp only [Region.wanted, hog, yielded, h3, Option.bind_some, hv]
        generalize a.tmps.getD s Go.undef = u at hr
        generalize g s = x at hr hb
        unfold gd at hb
        split at hb
        · cases hr
          cases hb
          rename_i c
          cases c <;> cases want' <;> rfl
        · cases hr
          cases hb
          rfl
        · cases hb
      rw [this]
      cases b with
      | true =>
        simp only [if_true] at hy ⊢
        exact .inl (doit hy)
      | false =>
        simp only [Bool.false_eq_true, if_false] at hy ⊢
        exact dont hy.1 hy.2

/-! ### Where a call may panic -/

def AI.plain (i : AI) : AI := { i with k := i.k.plainK }

theorem chkAI_plain {N : Nat} {ops : Array Oper} {o : Oper} {i : AI} (h : chkAI P N ops o i = true) : chkAI P N ops o i.plain = true := by
  simp only [chkAI, Bool.and_eq_true] at h ⊢
  exact ⟨h.1, chk_plain h.2⟩

/-- The operation ends in a panic. -/
def AYieldsP (C : CSpec) (GT : Nat → Option AV) (i : AI) (g : GF) (H : Heap) (x : AV) (H' : Heap) : Prop :=
  match i.g with
  | none => StepP C i.k (i.xs.map (evg GT g)) H x H'
  | some (s, want) => gd want (g s) = some true ∧ StepP C i.k (i.xs.map (evg GT g)) H x H'

theorem AWT_step {C : CSpec} {GT : Nat → Option AV} {is : List AI} {j : Nat} {t : OT} {fr : Fr} {H : Heap} {K : Fr → Heap → Prop} {KP : AV → Heap → Prop} (h : AWT C GT is (.step j t) fr H K KP) :
    ∃ i, is[j]? = some i ∧ ((∃ v H', AYields C GT i.plain (get fr) H v H' ∧ AWT C GT is t (put fr i.dst v) H' K KP) ∨ (∃ x H', AYieldsP C GT i (get fr) H x H' ∧ KP x H')) := by
  unfold AWT at h
  split at h
  · exact h.elim
  · rename_i i hi
    refine ⟨i, hi, ?_⟩
    unfold AYields AYieldsP
    split at h
    · rename_i hg
      rcases stepKP_of h with ⟨v, H', h1, h2⟩ | ⟨x, H', h1, h2⟩
      · refine .inl ⟨v, H', ?_, h2⟩
        simp only [AI.plain, hg]; rw [← ev_eq]; exact h1
      · refine .inr ⟨x, H', ?_, h2⟩
        simp only [hg]; rw [← ev_eq]; exact h1
    · rename_i s want hg
      split at h
      · rename_i b hb
        split at h
        · rename_i hbt
          subst hbt
          rcases stepKP_of h with ⟨v, H', h1, h2⟩ | ⟨x, H', h1, h2⟩
          · refine .inl ⟨v, H', ?_, h2⟩
            simp only [AI.plain, hg]
            exact ⟨true, hb, by rw [if_pos rfl, ← ev_eq]; exact h1⟩
          · refine .inr ⟨x, H', ?_, h2⟩
            simp only [hg]
            exact ⟨hb, by rw [← ev_eq]; exact h1⟩
        · rename_i hbt
          refine .inl ⟨.tup [], H, ?_, h⟩
          simp only [AI.plain, hg]
          exact ⟨b, hb, by rw [if_neg hbt]; exact by simp⟩
      · exact h.elim

theorem op_soundP (hS : Sim GT w M I H) {N : Nat} {ops : Array Oper} {o : Oper} {i : AI} {g : GF} {a : Act} (hF : ActOK w M I H.length N g a) (hc : chkAI P N ops o i = true) {x : AV} {H' : Heap} (hy : AYieldsP (Good P GT) GT i g H x H')
    {Q : Exit → Act → World → Prop} {K : Act → World → Prop} (hQ : ∀ xv w' M' I', Grow w M I H w' M' I' H' → Sim GT w' M' I' H' → Rel w' M' I' H'.length x xv → Q (.panic [{ v := xv, recovered := false }]) a w') :
    if Region.wanted o (yielded ops a.tmps) then o.wp P a w K Q ∨ (o.asks P a w ∧ LetsOut Q) else K (a.put o.dst Go.undef) w := by
  simp only [chkAI, Bool.and_eq_true, decide_eq_true_eq] at hc
  obtain ⟨⟨⟨h1, h2⟩, h3⟩, h4⟩ := hc
  have doit : StepP (Good P GT) i.k (i.xs.map (evg GT g)) H x H' → o.wp P a w K Q := fun hst => by
    refine wp_of_pan ?_
    have hp := pan_sound hS h4 (hF.ev hS) (fun f => rfl) hst
    unfold PanDone at hp ⊢
    split at hp
    · exact hp.mono fun e w' ⟨v, he, M', I', g1, g2, g3⟩ => ⟨v, he, hQ v w' M' I' g1 g2 g3⟩
    · obtain ⟨M', I', g1, g2, g3⟩ := hp
      exact hQ _ _ M' I' g1 g2 g3
    · exact hp.elim
  unfold AYieldsP at hy
  cases hg : i.g with
  | none =>
    rw [hg] at hy h3
    cases hog : o.guard with
    | none =>
      have : Region.wanted o (yielded ops a.tmps) = true := by simp [Region.wanted, hog]
      rw [if_pos this]
      exact .inl (doit hy)
    | some jw => rw [hog] at h3; simp at h3
  | some sw =>
    obtain ⟨s, want⟩ := sw
    rw [hg] at hy h3
    cases hog : o.guard with
    | none => rw [hog] at h3; simp at h3
    | some jw =>
      obtain ⟨j, want'⟩ := jw
      rw [hog] at h3
      simp only [Bool.and_eq_true, decide_eq_true_eq] at h3
      obtain ⟨⟨rfl, h3⟩, h3'⟩ := h3
      obtain ⟨hb, hy⟩ := hy
      have hr := hF.rel s
      have hlt : s < a.tmps.size := Nat.lt_of_lt_of_le h3' hF.size
      have hv : a.tmps[s]? = some (a.tmps.getD s Go.undef) := by simp [hlt]
      have : Region.wanted o (yielded ops a.tmps) = true := by
        simp only [Region.wanted, hog, yielded, h3, Option.bind_some, hv]
        generalize a.tmps.getD s Go.undef = u at hr
        generalize g s = x at hr hb
        unfold gd at hb
        split at hb
        · cases hr
          rename_i c
          simp only [Option.some.injEq, beq_iff_eq] at hb
          subst hb
          cases c <;> rfl
        · cases hb
        · cases hb
      rw [if_pos this]
      exact .inl (doit hy)

/-- Abstract operations against a list of the program's. -/
def chkAIs (P : Program) (N : Nat) (ops : Array Oper) : List Oper → List AI → Bool
  | [], [] => true
  | o :: os, i :: is => chkAI P N ops o i && chkAIs P N ops os is
  | _, _ => false

theorem ops_sound {N : Nat} {ops : Array Oper} {Q : Exit → Act → World → Prop} {K : Fr → Heap → Prop} : ∀ (is : List AI) (os : List Oper) (w : World) (M : AMap) (I : Nat → Prop) (H : Heap) (fr : Fr) (a : Act),
    Sim GT w M I H → ActOK w M I H.length N (get fr) a → chkAIs P N ops os is = true → AWops (Good P GT) GT is fr H K →
    (∀ fr' H' a' w' M' I', Grow w M I H w' M' I' H' → Sim GT w' M' I' H' → ActOK w' M' I' H'.length N (get fr') a' → K fr' H' → Q .normal a' w') → wpList P ops Q os a w := by
  intro is
  induction is with
  | nil =>
    intro os w M I H fr a hS hF hc hA hQ
    cases os with
    | nil => exact hQ fr H a w M I (Grow.refl ..) hS hF hA
    | cons => simp [chkAIs] at hc
  | cons i is ih =>
    intro os w M I H fr a hS hF hc hA hQ
    cases os with
    | nil => simp [chkAIs] at hc
    | cons o os =>
      simp only [chkAIs, Bool.and_eq_true] at hc
      obtain ⟨v, H1, hy, hA⟩ := AWops_cons hA
      unfold wpList
      refine op_sound hS hF hc.1 hy fun a' w' M' I' hG hS' hF' => ?_
      exact ih os w' M' I' H1 (put fr i.dst v) a' hS' (by rw [get_put]; exact hF') hc.2 hA fun fr2 H2 a2 w2 M2 I2 hG2 => hQ fr2 H2 a2 w2 M2 I2 (hG.trans hG2)

theorem get_restrict (fr : Fr) (L : List Nat) (t : Nat) : get (restrict fr L) t = get fr t ∨ get (restrict fr L) t = .undef := by
  induction L with
  | nil => exact .inr rfl
  | cons l L ih =>
    simp only [restrict, List.map_cons, get]
    by_cases h : l = t
    · subst h; simp
    · simp only [h, if_false]; exact ih

theorem ActOK.restrict {n N : Nat} {fr : Fr} {a : Act} (hF : ActOK w M I n N (get fr) a) (L : List Nat) : ActOK w M I n N (get (restrict fr L)) a :=
  ⟨fun t => by
    rcases get_restrict fr L t with h | h
    · rw [h]; exact hF.rel t
    · rw [h]; exact .undef _, hF.size, hF.defers⟩

end
end Go.AM

/- The abstract machine, part 15: a region whose order is drawn. Own work. -/
set_option linter.all false
namespace Go.AM

/-- 0: it neither reads nor turns the heap; 1: it reads it; 2: it turns it. -/
def AK.cls : AK → Nat
  | .mv | .pick | .bin _ | .eqs _ _ | .eqb _ | .eqn _ _ _ | .un _ | .convInt _ | .convRune | .convId | .mkIface _ | .mkFn _ _ | .len _ | .slc _ _ _ | .fieldAddr _ | .field _ _ _ | .idxAddr _
  | .idxArr _ _ | .idxStr | .idxAgg _ _ _ | .nilchk | .extract _ | .build _ _ | .min | .max => 0
  | .bytesToStr | .load _ _ | .call _ true | .callv true => 1
  | _ => 2

/-- It only looks at blocks. -/
def AK.reads : AK → Bool
  | .bytesToStr | .load _ _ => true
  | _ => false
/-- It lays a new block, and does nothing else. -/
def AK.grows : AK → Bool
  | .alloc _ | .box => true
  | _ => false

theorem get_more {H : Heap} {b : ABlk} {i : Nat} {x : ABlk} (h : H[i]? = some x) : (H ++ [b])[i]? = some x := by
  rw [List.getElem?_append_left (List.getElem?_eq_some_iff.1 h).1]; exact h
theorem view_more {H : Heap} {b : ABlk} {k : Nat} {v : AV} {xs : List AV} (h : view H k v = some xs) : view (H ++ [b]) k v = some xs := by
  unfold view at h ⊢
  split at h
  · exact h
  · split at h
    · rename_i hk
      rw [if_pos hk]
      split at h
      · rename_i hb; rw [get_more hb]; exact h
      · rename_i hb; rw [get_more hb]; exact h
      · cases h
    · cases h
  · cases h
theorem ptr_more {H : Heap} {b : ABlk} {p : AV} {co : List AV × Nat} (h : ptrCells H p = some co) : ptrCells (H ++ [b]) p = some co := by
  unfold ptrCells at h ⊢
  split at h
  · exact h
  · split at h
    · rename_i hb; rw [get_more hb]; exact h
    · rename_i hb; rw [get_more hb]; exact h
    · rename_i hb; rw [get_more hb]; exact h
    · cases h
  · cases h
theorem grows_is {k : AK} (hk : k.grows = true) {vs : List AV} {H H' : Heap} {v : AV} (h : astep k vs H = some (v, H')) : ∃ b, H' = H ++ [b] := by
  cases k <;> simp [AK.grows] at hk
  case alloc z =>
    cases vs with
    | nil => simp only [astep, Option.some.injEq, Prod.mk.injEq] at h; exact ⟨_, h.2.symm⟩
    | cons => simp [astep] at h
  case box =>
    rcases vs with _ | ⟨x, _ | ⟨y, vs⟩⟩
    · simp [astep] at h
    · simp only [astep] at h
      split at h
      · simp only [Option.some.injEq, Prod.mk.injEq] at h; exact ⟨_, h.2.symm⟩
      · cases h
    · simp [astep] at h
theorem reads_more {k : AK} (hk : k.reads = true) {vs : List AV} {H : Heap} {v : AV} (h : astep k vs H = some (v, H)) (b : ABlk) : astep k vs (H ++ [b]) = some (v, H ++ [b]) := by
  cases k <;> simp [AK.reads] at hk
  case bytesToStr =>
    rcases vs with _ | ⟨x, _ | ⟨y, vs⟩⟩
    · simp [astep] at h
    · simp only [astep] at h ⊢
      split at h
      · rename_i xs hv
        rw [view_more hv]
        simp only
        cases hb : bytesOf xs with
        | none => rw [hb] at h; cases h
        | some u => rw [hb] at h; simp only [Option.map_some, Option.some.injEq, Prod.mk.injEq] at h ⊢; exact ⟨h.1, trivial⟩
      · cases h
    · simp [astep] at h
  case load s ag =>
    rcases vs with _ | ⟨x, _ | ⟨y, vs⟩⟩
    · simp [astep] at h
    · simp only [astep] at h ⊢
      split at h
      · rename_i cs o hp
        rw [ptr_more hp]
        simp only
        cases hb : part cs o s ag with
        | none => rw [hb] at h; cases h
        | some u => rw [hb] at h; simp only [Option.map_some, Option.some.injEq, Prod.mk.injEq] at h ⊢; exact ⟨h.1, trivial⟩
      · cases h
    · simp [astep] at h

theorem kill_map {α : Type} {o : Option α} {f : α → AV} {H H' : Heap} {v : AV} (h : o.map (fun x => (f x, H)) = some (v, H')) : H' = H ∧ ∀ H2 : Heap, o.map (fun x => (f x, H2)) = some (v, H2) := by
  cases o with
  | none => cases h
  | some x => simp at h ⊢; exact ⟨h.2.symm, h.1⟩

theorem pureO {o : Option AV} {H H' : Heap} {v : AV} (h : o.map (·, H) = some (v, H')) : H' = H ∧ ∀ H2 : Heap, o.map (·, H2) = some (v, H2) := kill_map h

set_option maxHeartbeats 1000000 in
theorem astep_pure {k : AK} (hk : k.cls = 0) {vs : List AV} {H H' : Heap} {v : AV} (h : astep k vs H = some (v, H')) : H' = H ∧ ∀ H2, astep k vs H2 = some (v, H2) := by
  unfold astep at h
  split at h
  all_goals try (simp [AK.cls] at hk; done)
  all_goals first
    | (obtain ⟨h1, h2⟩ := pureO h; exact ⟨h1, fun H2 => by simpa [astep] using h2 H2⟩)
    | (obtain ⟨h1, h2⟩ := kill_map h; exact ⟨h1, fun H2 => by simpa [astep] using h2 H2⟩)
    | (injection h with h; injection h with h1 h2; subst h1 h2; exact ⟨rfl, fun H2 => by simp [astep]⟩)
    | skip
  all_goals (repeat' split at h)
  all_goals first
    | (cases h; done)
    | (obtain ⟨h1, h2⟩ := pureO h; exact ⟨h1, fun H2 => by simpa [astep, *] using h2 H2⟩)
    | (obtain ⟨h1, h2⟩ := kill_map h; exact ⟨h1, fun H2 => by simpa [astep, *] using h2 H2⟩)
    | (injection h with h; injection h with h1 h2; subst h1 h2; exact ⟨rfl, fun H2 => by simp [astep, *]⟩)

theorem astep_read {k : AK} (hk : k.cls = 1) {vs : List AV} {H H' : Heap} {v : AV} (h : astep k vs H = some (v, H')) : H' = H := by
  unfold astep at h
  split at h
  all_goals try (simp [AK.cls] at hk; done)
  all_goals (repeat' split at h)
  all_goals first
    | (cases h; done)
    | exact (pureO h).1
    | exact (kill_map h).1

theorem stepK_pure {C : CSpec} {k : AK} (hk : k.cls = 0) {vs : List AV} {H H' : Heap} {v : AV} (h : StepK C k vs H v H') : H' = H ∧ ∀ H2, StepK C k vs H2 v H2 := by
  cases k
  case call f rd => cases rd <;> simp [AK.cls] at hk
  case callv rd => cases rd <;> simp [AK.cls] at hk
  all_goals exact astep_pure hk h

theorem stepK_read {C : CSpec} {k : AK} (hk : k.cls = 1) {vs : List AV} {H H' : Heap} {v : AV} (h : StepK C k vs H v H') : H' = H := by
  cases k
  case call f rd => cases rd <;> simp [AK.cls] at hk; exact h.2 rfl
  case callv rd =>
    cases rd <;> simp [AK.cls] at hk
    unfold StepK at h
    dsimp only at h
    split at h
    · exact h.2 rfl
    · exact h.elim
  all_goals exact astep_read hk h

def AI.looks (i : AI) : List Nat :=
  (i.xs.filterMap fun | .tmp t => some t | _ => none) ++ (match i.g with
    | some (s, _) => [s]
    | none => [])

/-- Two operations that may change places. -/
def AI.apart (x y : AI) : Bool :=
  (match x.dst with
    | some d => !y.looks.contains d && decide (y.dst ≠ some d)
    | none => true) &&
  (match y.dst with
    | some d => !x.looks.contains d
    | none => true) && (x.k.cls == 0 || y.k.cls == 0 || (x.k.cls == 1 && y.k.cls == 1) || (x.k.reads && y.k.grows))

theorem AI.apart_spec {x y : AI} (h : x.apart y = true) :
    (∀ d, x.dst = some d → d ∉ y.looks) ∧ (∀ d, x.dst = some d → y.dst ≠ some d) ∧ (∀ d, y.dst = some d → d ∉ x.looks) ∧ (x.k.cls = 0 ∨ y.k.cls = 0 ∨ (x.k.cls = 1 ∧ y.k.cls = 1) ∨ (x.k.reads = true ∧ y.k.grows = true)) := by
  simp only [AI.apart, Bool.and_eq_true, Bool.or_eq_true, beq_iff_eq, or_assoc] at h
  obtain ⟨⟨h1, h2⟩, h3⟩ := h
  refine ⟨fun d hd => ?_, fun d hd => ?_, fun d hd => ?_, h3⟩
  · rw [hd] at h1; simp at h1; exact h1.1
  · rw [hd] at h1; simp at h1; exact h1.2
  · rw [hd] at h2; simpa using h2

section
variable {C : CSpec} {GT : Nat → Option AV}

theorem yields_local {i : AI} {g g' : GF} (hg : ∀ t ∈ i.looks, g' t = g t) {H : Heap} {v : AV} {H' : Heap} (h : AYields C GT i g H v H') : AYields C GT i g' H v H' := by
  have hxs : i.xs.map (evg GT g') = i.xs.map (evg GT g) := List.map_congr_left fun x hx => by
    cases x with
    | tmp t => exact hg t (List.mem_append_left _ (List.mem_filterMap.2 ⟨.tmp t, hx, rfl⟩))
    | _ => rfl
  unfold AYields at *
  cases hgd : i.g with
  | none => rw [hgd] at h; rw [hxs]; exact h
  | some sw =>
    obtain ⟨s, want⟩ := sw
    rw [hgd] at h
    obtain ⟨b, hb, h⟩ := h
    exact ⟨b, by rw [hg s (by simp [AI.looks, hgd])]; exact hb, by rw [hxs]; exact h⟩

theorem putg_other {g : GF} {d : Option Nat} {v : AV} {L : List Nat} (h : ∀ e, d = some e → e ∉ L) : ∀ t ∈ L, putg g d v t = g t := by
  intro t ht
  cases d with
  | none => rfl
  | some e =>
    have : e ≠ t := fun he => h e rfl (he ▸ ht)
    simp [putg, this]

theorem putg_comm (g : GF) {d e : Option Nat} (v u : AV) (h : ∀ x, d = some x → e ≠ some x) : putg (putg g d v) e u = putg (putg g e u) d v := by
  cases d with
  | none => rfl
  | some d =>
    cases e with
    | none => rfl
    | some e =>
      have : d ≠ e := fun he => h d rfl (he ▸ rfl)
      funext t
      simp only [putg]
      by_cases h1 : e = t
      · subst h1; simp [this]
      · simp [h1]

theorem yields_pure {i : AI} (hi : i.k.cls = 0) {g : GF} {H : Heap} {v : AV} {H' : Heap} (h : AYields C GT i g H v H') : H' = H ∧ ∀ H2, AYields C GT i g H2 v H2 := by
  unfold AYields at *
  cases hgd : i.g with
  | none => rw [hgd] at h; exact stepK_pure hi h
  | some sw =>
    obtain ⟨s, want⟩ := sw
    rw [hgd] at h
    obtain ⟨b, hb, h⟩ := h
    split at h
    · rename_i hw
      obtain ⟨h1, h2⟩ := stepK_pure hi h
      exact ⟨h1, fun H2 => ⟨b, hb, by rw [if_pos hw]; exact h2 H2⟩⟩
    · rename_i hw
      exact ⟨h.2, fun H2 => ⟨b, hb, by rw [if_neg hw]; exact ⟨h.1, rfl⟩⟩⟩

theorem yields_read {i : AI} (hi : i.k.cls = 1) {g : GF} {H : Heap} {v : AV} {H' : Heap} (h : AYields C GT i g H v H') : H' = H := by
  unfold AYields at *
  cases hgd : i.g with
  | none => rw [hgd] at h; exact stepK_read hi h
  | some sw =>
    obtain ⟨s, want⟩ := sw
    rw [hgd] at h
    obtain ⟨b, hb, h⟩ := h
    split at h
    · exact stepK_read hi h
    · exact h.2

theorem yields_more {i : AI} (hi : i.k.reads = true) {g : GF} {H : Heap} {v : AV} (h : AYields C GT i g H v H) (b : ABlk) : AYields C GT i g (H ++ [b]) v (H ++ [b]) := by
  have st : ∀ {vs}, StepK C i.k vs H v H → StepK C i.k vs (H ++ [b]) v (H ++ [b]) := fun {vs} h => by
    cases hk : i.k <;> rw [hk] at hi h <;> first
      | exact reads_more hi h b
      | simp [AK.reads] at hi
  unfold AYields at *
  cases hgd : i.g with
  | none => rw [hgd] at h; exact st h
  | some sw =>
    obtain ⟨s, want⟩ := sw
    rw [hgd] at h
    obtain ⟨c, hc, h⟩ := h
    refine ⟨c, hc, ?_⟩
    split at h
    · rename_i hw; rw [if_pos hw]; exact st h
    · rename_i hw; rw [if_neg hw]; exact ⟨h.1, rfl⟩
theorem yields_grows {i : AI} (hi : i.k.grows = true) {g : GF} {H H' : Heap} {v : AV} (h : AYields C GT i g H v H') : H' = H ∨ ∃ b, H' = H ++ [b] := by
  have st : ∀ {vs}, StepK C i.k vs H v H' → ∃ b, H' = H ++ [b] := fun {vs} h => by
    cases hk : i.k <;> rw [hk] at hi h <;> first
      | exact grows_is hi h
      | simp [AK.grows] at hi
  unfold AYields at *
  cases hgd : i.g with
  | none => rw [hgd] at h; exact .inr (st h)
  | some sw =>
    obtain ⟨s, want⟩ := sw
    rw [hgd] at h
    obtain ⟨c, hc, h⟩ := h
    split at h
    · exact .inr (st h)
    · exact .inl h.2
theorem reads_cls {k : AK} (h : k.reads = true) : k.cls = 1 := by cases k <;> simp [AK.reads] at h <;> rfl

theorem yields_comm {x y : AI} (hap : x.apart y = true) {g : GF} {H H1 H2 : Heap} {v u : AV} (hx : AYields C GT x g H v H1) (hy : AYields C GT y (putg g x.dst v) H1 u H2) :
    ∃ H3, AYields C GT y g H u H3 ∧ AYields C GT x (putg g y.dst u) H3 v H2 ∧ putg (putg g x.dst v) y.dst u = putg (putg g y.dst u) x.dst v := by
  obtain ⟨h1, h2, h3, h4⟩ := AI.apart_spec hap
  have hx' := yields_local (putg_other (g := g) (v := u) h3) hx
  have hy' : AYields C GT y g H1 u H2 := yields_local (fun t ht => (putg_other (g := g) (v := v) h1 t ht).symm) hy
  refine (?_ : ∃ H3, AYields C GT y g H u H3 ∧ AYields C GT x (putg g y.dst u) H3 v H2).imp fun H3 h => ⟨h.1, h.2, putg_comm g v u h2⟩
  rcases h4 with h4 | h4 | ⟨h4, h5⟩ | ⟨h4, h5⟩
  · obtain ⟨e1, e2⟩ := yields_pure h4 hx'
    subst e1
    exact ⟨H2, hy', e2 H2⟩
  · obtain ⟨e1, e2⟩ := yields_pure h4 hy'
    subst e1
    exact ⟨H, e2 H, hx'⟩
  · have e1 := yields_read h4 hx'
    subst e1
    have e2 := yields_read h5 hy'
    subst e2
    exact ⟨_, hy', hx'⟩
  · have e1 := yields_read (reads_cls h4) hx'
    subst e1
    rcases yields_grows h5 hy' with e2 | ⟨b, e2⟩
    · subst e2; exact ⟨_, hy', hx'⟩
    · subst e2; exact ⟨_, hy', yields_more h4 hx' b⟩

/-! ### Any order -/

variable {ops : Array Oper} {ais : List AI}

/-- What each order comes to. -/
def AAny (C : CSpec) (GT : Nat → Option AV) (ops : Array Oper) (ais : List AI) (K : GF → Heap → Prop) : Nat → Array Bool → GF → Heap → Prop
  | 0, listed, g, H => Region.ready .any ops listed = [] ∧ K g H
  | f + 1, listed, g, H => Region.ready .any ops listed ≠ [] ∧
    ∀ i ∈ Region.ready .any ops listed, ∃ ai v H', ais[i]? = some ai ∧ AYields C GT ai g H v H' ∧ AAny C GT ops ais K f (listed.setIfInBounds i true) (putg g ai.dst v) H'

/-- j waits for i, by edges of the region's. -/
inductive Dep (ops : Array Oper) : Nat → Nat → Prop where
  | base {j : Nat} {o : Oper} {e : Edge} (ho : ops[j]? = some o) (he : e ∈ o.after) (hb : Region.binds .any e = true) : Dep ops e.on j
  | tail {i j : Nat} {o : Oper} {e : Edge} (h : Dep ops i e.on) (ho : ops[j]? = some o) (he : e ∈ o.after) (hb : Region.binds .any e = true) : Dep ops i j

def Closed (ops : Array Oper) (listed : Array Bool) : Prop :=
  ∀ j o, ops[j]? = some o → listed.getD j false = true → ∀ e ∈ o.after, Region.binds .any e = true → listed.getD e.on false = true

theorem Dep.listed {listed : Array Bool} (hc : Closed ops listed) {i j : Nat} (h : Dep ops i j) (hj : listed.getD j false = true) : listed.getD i false = true := by
  induction h with
  | base ho he hb => exact hc _ _ ho hj _ he hb
  | tail _ ho he hb ih => exact ih (hc _ _ ho hj _ he hb)

theorem Dep.ready {listed : Array Bool} (hc : Closed ops listed) {i j : Nat} (h : Dep ops i j) (hj : j ∈ Region.ready .any ops listed) : listed.getD i false = true := by
  obtain ⟨_, o', ho', hall⟩ := mem_ready.1 hj
  cases h with
  | base ho he hb => rw [ho'] at ho; cases ho; exact hall _ he hb
  | tail h ho he hb => rw [ho'] at ho; cases ho; exact h.listed hc (hall _ he hb)

theorem Closed.set {listed : Array Bool} (hc : Closed ops listed) {i : Nat} (hi : i ∈ Region.ready .any ops listed) : Closed ops (listed.setIfInBounds i true) := by
  obtain ⟨_, o', ho', hall⟩ := mem_ready.1 hi
  intro j o ho hl e he hb
  by_cases hij : i = j
  · subst hij
    rw [ho'] at ho; cases ho
    exact getD_set_true (hall e he hb)
  · rw [getD_set_ne false hij] at hl
    exact getD_set_true (hc j o ho hl e he hb)

theorem not_both {listed : Array Bool} {i : Nat} (h : listed.getD i true = false) (h' : listed.getD i false = true) : False := by
  rcases Nat.lt_or_ge i listed.size with h1 | h1
  · simp [h1] at h h'; rw [h] at h'; cases h'
  · simp [Array.getElem?_eq_none h1] at h

theorem aany_first {K : GF → Heap → Prop} {i : Nat} {ai : AI} (hi : ais[i]? = some ai) : ∀ (f : Nat) (listed : Array Bool) (g : GF) (H : Heap) (v : AV) (H1 : Heap), Closed ops listed →
    (∀ j aj, ais[j]? = some aj → j ≠ i → listed.getD j true = false → ai.apart aj = true ∨ Dep ops i j) → i ∈ Region.ready .any ops listed → AYields C GT ai g H v H1 →
    AAny C GT ops ais K f (listed.setIfInBounds i true) (putg g ai.dst v) H1 → AAny C GT ops ais K (f + 1) listed g H := by
  intro f
  induction f with
  | zero =>
    intro listed g H v H1 hc hfree hr hy hA
    refine ⟨fun h => (by rw [h] at hr; cases hr), fun j hj => ?_⟩
    by_cases hji : j = i
    · subst hji; exact ⟨ai, v, H1, hi, hy, hA⟩
    · have := ready_mono hj hji
      rw [hA.1] at this
      cases this
  | succ f ih =>
    intro listed g H v H1 hc hfree hr hy hA
    refine ⟨fun h => (by rw [h] at hr; cases hr), fun j hj => ?_⟩
    by_cases hji : j = i
    · subst hji; exact ⟨ai, v, H1, hi, hy, hA⟩
    · obtain ⟨aj, u, H2, haj, hyj, hA2⟩ := hA.2 j (ready_mono hj hji)
      have hjun := (mem_ready.1 hj).1
      have hap : ai.apart aj = true := by
        rcases hfree j aj haj hji hjun with h | h
        · exact h
        · exact (not_both (mem_ready.1 hr).1 (h.ready hc hj)).elim
      obtain ⟨H3, h1, h2, h3⟩ := yields_comm hap hy hyj
      refine ⟨aj, u, H3, haj, h1, ih _ _ _ v H2 (hc.set hj) (fun k ak hk hki hun => hfree k ak hk hki ?_) (ready_mono hr (Ne.symm hji)) h2 ?_⟩
      · by_cases hjk : j = k
        · subst hjk; exact hjun
        · rw [getD_set_ne true hjk] at hun; exact hun
      · rw [← h3, Array.setIfInBounds_comm _ _ hji]
        exact hA2

end
end Go.AM

/- The abstract machine, part 16: a region whose order is drawn, against the program's. Own work. -/
set_option linter.all false
namespace Go.AM

def AText (C : CSpec) (GT : Nat → Option AV) : List AI → GF → Heap → (GF → Heap → Prop) → Prop
  | [], g, H, K => K g H
  | i :: is, g, H, K => ∃ v H', AYields C GT i g H v H' ∧ AText C GT is (putg g i.dst v) H' K

theorem text_of_ops {C : CSpec} {GT : Nat → Option AV} {K : Fr → Heap → Prop} : ∀ (is : List AI) (fr : Fr) (H : Heap), AWops C GT is fr H K → AText C GT is (get fr) H fun g H' => ∃ fr', get fr' = g ∧ K fr' H'
  | [], fr, H, h => ⟨fr, rfl, h⟩
  | i :: is, fr, H, h => by
    obtain ⟨v, H', h1, h2⟩ := AWops_cons h
    have := text_of_ops is _ _ h2
    rw [get_put] at this
    exact ⟨v, H', h1, this⟩

section
variable {ops : Array Oper} {ais : List AI}

/-- What the order needs of the region's edges. -/
structure Ordered (ops : Array Oper) (ais : List AI) : Prop where
  len : ais.length = ops.size
  back : ∀ j o, ops[j]? = some o → ∀ e ∈ o.after, Region.binds .any e = true → e.on < j
  pair : ∀ i j ai aj, i < j → ais[i]? = some ai → ais[j]? = some aj → ai.apart aj = true ∨ Dep ops i j

def Upto (listed : Array Bool) (k n : Nat) : Prop := listed.size = n ∧ ∀ j, j < n → listed[j]? = some (decide (j < k))

theorem Upto.getD {listed : Array Bool} {k n : Nat} (h : Upto listed k n) (j : Nat) (d : Bool) : listed.getD j d = if j < n then decide (j < k) else d := by
  by_cases hj : j < n
  · have := h.2 j hj
    rw [if_pos hj, Array.getD_eq_getD_getElem?, this]; rfl
  · rw [if_neg hj, Array.getD_eq_getD_getElem?, Array.getElem?_eq_none (by rw [h.1]; omega)]; rfl

theorem Upto.set {listed : Array Bool} {k n : Nat} (h : Upto listed k n) (hk : k < n) : Upto (listed.setIfInBounds k true) (k + 1) n := by
  refine ⟨by simp [h.1], fun j hj => ?_⟩
  by_cases hkj : k = j
  · subst hkj
    rw [Array.getElem?_setIfInBounds_self_of_lt (by rw [h.1]; exact hk)]
    simp
  · rw [Array.getElem?_setIfInBounds_ne hkj, h.2 j hj]
    congr 1
    simp only [decide_eq_decide]
    omega

theorem Upto.closed {listed : Array Bool} {k : Nat} (h : Upto listed k ops.size) (hO : Ordered ops ais) : Closed ops listed := by
  intro j o ho hl e he hb
  have hlt := hO.back j o ho e he hb
  have hj : j < ops.size := (Array.getElem?_eq_some_iff.1 ho).1
  rw [h.getD, if_pos hj] at hl
  rw [h.getD, if_pos (by omega)]
  simp only [decide_eq_true_eq] at *
  omega

theorem aany_text {C : CSpec} {GT : Nat → Option AV} (hO : Ordered ops ais) {K : GF → Heap → Prop} : ∀ (l : List AI) (k : Nat) (listed : Array Bool) (g : GF) (H : Heap), (∀ j, l[j]? = ais[k + j]?) → k + l.length = ops.size →
    Upto listed k ops.size → AText C GT l g H K → AAny C GT ops ais K l.length listed g H
  | [], k, listed, g, H, hl, hn, hu, h => by
    refine ⟨?_, h⟩
    apply List.eq_nil_iff_forall_not_mem.2
    intro j hj
    have h0 := (mem_ready.1 hj).1
    rw [hu.getD] at h0
    simp at hn
    split at h0
    · simp at h0; omega
    · cases h0
  | i :: is, k, listed, g, H, hl, hn, hu, h => by
    obtain ⟨v, H1, hy, h⟩ := h
    have hk : k < ops.size := by simp at hn; omega
    have hi : ais[k]? = some i := by simpa using (hl 0).symm
    refine aany_first hi is.length listed g H v H1 (hu.closed hO) (fun j aj haj hne hun => ?_) ?_ hy ?_
    · rw [hu.getD] at hun
      have hjlt : j < ops.size := by rw [← hO.len]; exact (List.getElem?_eq_some_iff.1 haj).1
      rw [if_pos hjlt] at hun
      simp only [decide_eq_false_iff_not] at hun
      exact hO.pair k j i aj (by omega) hi haj
    · rw [mem_ready]
      refine ⟨by rw [hu.getD, if_pos hk]; simp, ops[k], by simp [hk], fun e he hb => ?_⟩
      have := hO.back k ops[k] (by simp [hk]) e he hb
      rw [hu.getD, if_pos (by omega)]
      simpa using this
    · exact aany_text hO is (k + 1) _ _ _ (fun j => by have := hl (j + 1); simpa [Nat.add_assoc, Nat.add_comm 1 j] using this) (by simp at hn; omega) (hu.set hk) h

/-! ### The check -/

def maskOf (acc : List Nat) : List Nat → Nat
  | [] => 0
  | e :: es => (2 ^ e ||| acc.getD e 0) ||| maskOf acc es
def pairsOK (m : Nat) : Nat → List AI → AI → Bool
  | _, [], _ => true
  | i, x :: xs, y => (m.testBit i || x.apart y) && pairsOK m (i + 1) xs y
def edgesOf (o : Oper) : List Nat := (o.after.toList.filter (Region.binds .any)).map (·.on)
def chkOrd : List AI → List Nat → List Oper → List AI → Bool
  | _, _, [], [] => true
  | done, acc, o :: os, y :: ys => (edgesOf o).all (fun e => decide (e < acc.length)) && pairsOK (maskOf acc (edgesOf o)) 0 done y && chkOrd (done ++ [y]) (acc ++ [maskOf acc (edgesOf o)]) os ys
  | _, _, _, _ => false

theorem edgesOf_spec {o : Oper} {e : Nat} : e ∈ edgesOf o ↔ ∃ d ∈ o.after, Region.binds .any d = true ∧ d.on = e := by
  simp only [edgesOf, List.mem_map, List.mem_filter, Array.mem_toList_iff]
  constructor
  · rintro ⟨d, ⟨h1, h2⟩, h3⟩; exact ⟨d, h1, h2, h3⟩
  · rintro ⟨d, h1, h2, h3⟩; exact ⟨d, ⟨h1, h2⟩, h3⟩

theorem maskOf_spec {acc : List Nat} {j : Nat} {o : Oper} (ho : ops[j]? = some o) (hacc : ∀ (e m : Nat), acc[e]? = some m → ∀ i, m.testBit i = true → Dep ops i e) : ∀ (es : List Nat), (∀ e ∈ es, e ∈ edgesOf o) →
    ∀ i, (maskOf acc es).testBit i = true → Dep ops i j
  | [], _, i, h => by simp [maskOf] at h
  | e :: es, hes, i, h => by
    simp only [maskOf, Nat.testBit_or, Bool.or_eq_true, Nat.testBit_two_pow, decide_eq_true_eq] at h
    obtain ⟨d, h1, h2, h3⟩ := edgesOf_spec.1 (hes e (by simp))
    rcases h with (h | h) | h
    · subst h; subst h3; exact .base ho h1 h2
    · rw [List.getD_eq_getElem?_getD] at h
      cases ha : acc[e]? with
      | none => rw [ha] at h; simp at h
      | some m =>
        rw [ha] at h
        subst h3
        exact .tail (hacc _ m ha i h) ho h1 h2
    · exact maskOf_spec ho hacc es (fun e he => hes e (List.mem_cons_of_mem _ he)) i h

theorem pairsOK_spec {m : Nat} {y : AI} : ∀ (xs : List AI) (i : Nat), pairsOK m i xs y = true → ∀ j x, xs[j]? = some x → m.testBit (i + j) = true ∨ x.apart y = true
  | [], _, _, j, x, hx => by simp at hx
  | z :: xs, i, h, j, x, hx => by
    simp only [pairsOK, Bool.and_eq_true, Bool.or_eq_true] at h
    cases j with
    | zero => simp at hx; subst hx; exact h.1
    | succ j =>
      have := pairsOK_spec xs (i + 1) h.2 j x (by simpa using hx)
      rwa [show i + (j + 1) = i + 1 + j by omega]

theorem chkOrd_spec : ∀ (os : List Oper) (ys : List AI) (done : List AI) (acc : List Nat), chkOrd done acc os ys = true → done.length = acc.length → (∀ j, os[j]? = ops[acc.length + j]?) → acc.length + os.length = ops.size →
    (∀ j, ys[j]? = ais[acc.length + j]?) → (∀ j, j < done.length → done[j]? = ais[j]?) → (∀ (e m : Nat), acc[e]? = some m → ∀ i, m.testBit i = true → Dep ops i e) →
    ys.length = os.length ∧ ∀ j, acc.length ≤ j → (∀ o, ops[j]? = some o → ∀ e ∈ o.after, Region.binds .any e = true → e.on < j) ∧
      ∀ i ai aj, i < j → ais[i]? = some ai → ais[j]? = some aj → ai.apart aj = true ∨ Dep ops i j
  | [], [], done, acc, _, hd, hos, hn, hys, hdone, hacc => by
    refine ⟨rfl, fun j hj => ⟨fun o ho => ?_, fun i ai aj hij hi haj => ?_⟩⟩
    · have := hos (j - acc.length)
      rw [show acc.length + (j - acc.length) = j by omega, ho] at this
      simp at this
    · have := hys (j - acc.length)
      rw [show acc.length + (j - acc.length) = j by omega, haj] at this
      simp at this
  | [], _ :: _, _, _, h, _, _, _, _, _, _ => by simp [chkOrd] at h
  | _ :: _, [], _, _, h, _, _, _, _, _, _ => by simp [chkOrd] at h
  | o :: os, y :: ys, done, acc, h, hd, hos, hn, hys, hdone, hacc => by
    simp only [chkOrd, Bool.and_eq_true, List.all_eq_true, decide_eq_true_eq] at h
    obtain ⟨⟨h1, h2⟩, h3⟩ := h
    have ho : ops[acc.length]? = some o := by simpa using (hos 0).symm
    have hy : ais[acc.length]? = some y := by simpa using (hys 0).symm
    have hm := maskOf_spec ho hacc (edgesOf o) (fun _ h => h)
    have IH := chkOrd_spec os ys (done ++ [y]) (acc ++ [maskOf acc (edgesOf o)]) h3 (by simp [hd])
      (fun j => by have := hos (j + 1); simpa [Nat.add_assoc, Nat.add_comm 1 j] using this) (by simp at hn ⊢; omega)
      (fun j => by have := hys (j + 1); simpa [Nat.add_assoc, Nat.add_comm 1 j] using this)
      (fun j hj => by
        simp at hj
        by_cases hjd : j < done.length
        · rw [List.getElem?_append_left hjd]; exact hdone j hjd
        · have : j = acc.length := by omega
          subst this
          rw [List.getElem?_append_right (by omega), hy, hd]; simp)
      (fun e m hem i hi => by
        by_cases he : e < acc.length
        · rw [List.getElem?_append_left he] at hem; exact hacc e m hem i hi
        · rw [List.getElem?_append_right (by omega)] at hem
          have hlt := (List.getElem?_eq_some_iff.1 hem).1
          simp at hlt
          have : e = acc.length := by omega
          subst this
          simp at hem
          subst hem
          exact hm i hi)
    refine ⟨by simp [IH.1], fun j hj => ?_⟩
    by_cases hje : j = acc.length
    · subst hje
      refine ⟨fun o' ho' e he hb => ?_, fun i ai aj hij hi haj => ?_⟩
      · rw [ho] at ho'; cases ho'
        exact h1 _ (edgesOf_spec.2 ⟨e, he, hb, rfl⟩)
      · rw [hy] at haj; cases haj
        rcases pairsOK_spec done 0 h2 i ai (by rw [hdone i (by omega)]; exact hi) with h | h
        · exact .inr (hm i (by simpa using h))
        · exact .inl h
    · exact IH.2 j (by simp; omega)

theorem ordered_of (h : chkOrd [] [] ops.toList ais = true) : Ordered ops ais := by
  obtain ⟨h1, h2⟩ := chkOrd_spec (ops := ops) (ais := ais) ops.toList ais [] [] h rfl (by simp) (by simp) (by simp) (by simp) (by simp)
  exact ⟨by simpa using h1, fun j o ho e he hb => (h2 j (by simp)).1 o ho e he hb, fun i j ai aj hij hi hj => (h2 j (by simp)).2 i ai aj hij hi hj⟩

/-! ### Against the program -/

variable {P : Program} {GT : Nat → Option AV}

theorem chkAIs_spec {N : Nat} : ∀ (os : List Oper) (is : List AI), chkAIs P N ops os is = true → ∀ (j : Nat) o i, os[j]? = some o → is[j]? = some i → chkAI P N ops o i = true
  | [], [], _, j, o, i, ho, _ => by simp at ho
  | [], _ :: _, h, _, _, _, _, _ => by simp [chkAIs] at h
  | _ :: _, [], h, _, _, _, _, _ => by simp [chkAIs] at h
  | x :: os, y :: is, h, j, o, i, ho, hi => by
    simp only [chkAIs, Bool.and_eq_true] at h
    cases j with
    | zero => simp at ho hi; subst ho hi; exact h.1
    | succ j => exact chkAIs_spec os is h.2 j o i (by simpa using ho) (by simpa using hi)

theorem any_sound {N : Nat} {Q : Exit → Act → World → Prop} {K : GF → Heap → Prop} (hc : chkAIs P N ops ops.toList ais = true) : ∀ (f : Nat) (listed : Array Bool) (w : World) (M : AMap) (I : Nat → Prop) (H : Heap) (g : GF) (a : Act),
    Sim GT w M I H → ActOK w M I H.length N g a → AAny (Good P GT) GT ops ais K f listed g H →
    (∀ g' H' a' w' M' I', Grow w M I H w' M' I' H' → Sim GT w' M' I' H' → ActOK w' M' I' H'.length N g' a' → K g' H' → Q .normal a' w') → wpAny P .any ops Q f listed a w := by
  intro f
  induction f with
  | zero => intro listed w M I H g a hS hF hA hQ; exact ⟨hA.1, hQ g H a w M I (Grow.refl ..) hS hF hA.2⟩
  | succ f ih =>
    intro listed w M I H g a hS hF hA hQ
    refine ⟨fun h => absurd h hA.1, fun i hi => ?_⟩
    obtain ⟨ai, v, H', hai, hy, hA'⟩ := hA.2 i hi
    obtain ⟨_, o, ho, _⟩ := mem_ready.1 hi
    unfold wpOp
    simp only [ho]
    exact op_sound hS hF (chkAIs_spec _ _ hc i o ai (by simpa using ho) hai) hy fun a' w' M' I' hG hS' hF' =>
      ih _ w' M' I' H' _ a' hS' hF' hA' fun g2 H2 a2 w2 M2 I2 hG2 => hQ g2 H2 a2 w2 M2 I2 (hG.trans hG2)

/-- A region, in the order that its draw gives. -/
theorem draw_sound {N id : Nat} {is : List AI} {Q : Exit → Act → World → Prop} {K : Fr → Heap → Prop} {w : World} {M : AMap} {I : Nat → Prop} {H : Heap} {fr : Fr} {a : Act} (hm : P.follows .mixedOrders = true)
    (hS : Sim GT w M I H) (hF : ActOK w M I H.length N (get fr) a) (hc : chkAIs P N ops ops.toList is = true) (ho : chkOrd [] [] ops.toList is = true) (hA : AWops (Good P GT) GT is fr H K)
    (hQ : ∀ fr' H' a' w' M' I', Grow w M I H w' M' I' H' → Sim GT w' M' I' H' → ActOK w' M' I' H'.length N (get fr') a' → K fr' H' → Q .normal a' w') : (Code.region id ops true).wp P Q a w := by
  have hO := ordered_of ho
  refine wp_region_any hm ?_
  have h1 := text_of_ops is fr H hA
  have h2 := aany_text hO is 0 (Array.replicate ops.size false) (get fr) H (by simp) (by simpa using hO.len) ⟨by simp, fun j hj => by simp [hj]⟩ h1
  rw [hO.len] at h2
  have hG0 : Grow w M I H { w with drawn := w.drawn + 1 } M I H := Grow.same rfl rfl rfl rfl
  refine any_sound hc ops.size _ _ M I H (get fr) a (hS.same rfl) (hF.grow hG0 hS) h2 ?_
  rintro g' H' a' w' M' I' hG hS' hF' ⟨fr', rfl, hK⟩
  exact hQ fr' H' a' w' M' I' (hG0.trans hG) hS' hF' hK

end
end Go.AM

/- The abstract machine, part 28 (it lies between 16 and 17): regions in the order of a tree; calls that may panic. Own work. -/
set_option linter.all false
namespace Go.AM

section
variable {C : CSpec} {GT : Nat → Option AV} {ops : Array Oper} {ais : List AI}

/-- What each order comes to, where a call may panic. -/
def AAnyP (C : CSpec) (GT : Nat → Option AV) (ops : Array Oper) (ais : List AI) (K : GF → Heap → Prop) (KP : AV → Heap → Prop) : Nat → Array Bool → GF → Heap → Prop
  | 0, listed, g, H => Region.ready .any ops listed = [] ∧ K g H
  | f + 1, listed, g, H => (Region.ready .any ops listed = [] → K g H) ∧
    ∀ i ∈ Region.ready .any ops listed, ∃ ai, ais[i]? = some ai ∧
      ((∃ v H', AYields C GT ai.plain g H v H' ∧ AAnyP C GT ops ais K KP f (listed.setIfInBounds i true) (putg g ai.dst v) H') ∨ (∃ x H', AYieldsP C GT ai g H x H' ∧ KP x H'))

theorem yieldsP_local {i : AI} {g g' : GF} (hg : ∀ t ∈ i.looks, g' t = g t) {H : Heap} {x : AV} {H' : Heap} (h : AYieldsP C GT i g H x H') : AYieldsP C GT i g' H x H' := by
  have hxs : i.xs.map (evg GT g') = i.xs.map (evg GT g) := List.map_congr_left fun x hx => by
    cases x with
    | tmp t => exact hg t (List.mem_append_left _ (List.mem_filterMap.2 ⟨.tmp t, hx, rfl⟩))
    | _ => rfl
  unfold AYieldsP at *
  cases hgd : i.g with
  | none => rw [hgd] at h; rw [hxs]; exact h
  | some sw =>
    obtain ⟨s, want⟩ := sw
    rw [hgd] at h
    exact ⟨by rw [hg s (by simp [AI.looks, hgd])]; exact h.1, by rw [hxs]; exact h.2⟩

def AK.isP : AK → Bool
  | .callp _ => true
  | .callvp => true
  | .panic => true
  | _ => false

theorem stepP_isP {k : AK} {vs : List AV} {H : Heap} {x : AV} {H' : Heap} (h : StepP C k vs H x H') : k.isP = true := by
  cases k <;> first | rfl | exact h.elim

theorem yieldsP_isP {i : AI} {g : GF} {H : Heap} {x : AV} {H' : Heap} (h : AYieldsP C GT i g H x H') : i.k.isP = true := by
  unfold AYieldsP at h
  split at h
  · exact stepP_isP h
  · exact stepP_isP h.2

theorem isP_cls {k : AK} (h : k.isP = true) : k.plainK.cls = 2 := by
  cases k <;> first | rfl | cases h

theorem isP_grows {k : AK} (h : k.isP = true) : k.plainK.grows = false := by
  cases k <;> first | rfl | cases h

theorem aanyP_first {K : GF → Heap → Prop} {KP : AV → Heap → Prop} {i : Nat} {ai : AI} (hi : ais[i]? = some ai) : ∀ (f : Nat) (listed : Array Bool) (g : GF) (H : Heap) (v : AV) (H1 : Heap), Closed ops listed →
    (∀ j aj, ais[j]? = some aj → j ≠ i → listed.getD j true = false → ai.plain.apart aj.plain = true ∨ Dep ops i j) → i ∈ Region.ready .any ops listed → AYields C GT ai.plain g H v H1 →
    AAnyP C GT ops ais K KP f (listed.setIfInBounds i true) (putg g ai.dst v) H1 → AAnyP C GT ops ais K KP (f + 1) listed g H := by
  intro f
  induction f with
  | zero =>
    intro listed g H v H1 hc hfree hr hy hA
    refine ⟨fun h => (by rw [h] at hr; cases hr), fun j hj => ?_⟩
    by_cases hji : j = i
    · subst hji; exact ⟨ai, hi, .inl ⟨v, H1, hy, hA⟩⟩
    · have := ready_mono hj hji
      rw [hA.1] at this
      cases this
  | succ f ih =>
    intro listed g H v H1 hc hfree hr hy hA
    refine ⟨fun h => (by rw [h] at hr; cases hr), fun j hj => ?_⟩
    by_cases hji : j = i
    · subst hji; exact ⟨ai, hi, .inl ⟨v, H1, hy, hA⟩⟩
    · obtain ⟨aj, haj, hout⟩ := hA.2 j (ready_mono hj hji)
      have hjun := (mem_ready.1 hj).1
      have hap : ai.plain.apart aj.plain = true := by
        rcases hfree j aj haj hji hjun with h | h
        · exact h
        · exact (not_both (mem_ready.1 hr).1 (h.ready hc hj)).elim
      refine ⟨aj, haj, ?_⟩
      rcases hout with ⟨u, H2, hyj, hA2⟩ | ⟨x, H2, hyj, hKP⟩
      · obtain ⟨H3, h1, h2, h3⟩ := yields_comm hap hy hyj
        refine .inl ⟨u, H3, h1, ih _ _ _ v H2 (hc.set hj) (fun k ak hk hki hun => hfree k ak hk hki ?_) (ready_mono hr (Ne.symm hji)) h2 ?_⟩
        · by_cases hjk : j = k
          · subst hjk; exact hjun
          · rw [getD_set_ne true hjk] at hun; exact hun
        · have h3' : putg (putg g ai.dst v) aj.dst u = putg (putg g aj.dst u) ai.dst v := h3
          show AAnyP C GT ops ais K KP f _ (putg (putg g aj.dst u) ai.dst v) H2
          rw [← h3', Array.setIfInBounds_comm _ _ hji]
          exact hA2
      · obtain ⟨h1, _, _, h4⟩ := AI.apart_spec hap
        have hcl := isP_cls (yieldsP_isP hyj)
        have h0 : ai.plain.k.cls = 0 := by
          rcases h4 with h | h | h | h
          · exact h
          · have : aj.k.plainK.cls = 0 := h
            rw [hcl] at this; cases this
          · have : aj.k.plainK.cls = 1 := h.2
            rw [hcl] at this; cases this
          · have : aj.k.plainK.grows = true := h.2
            rw [isP_grows (yieldsP_isP hyj)] at this; cases this
        obtain ⟨rfl, _⟩ := yields_pure h0 hy
        exact .inr ⟨x, H2, yieldsP_local (i := aj) (g := putg g ai.dst v) (fun t ht => (putg_other (g := g) (d := ai.dst) (v := v) (L := aj.looks) h1 t ht).symm) hyj, hKP⟩

/-! ### The check -/

def depthT : OT → Nat
  | .done => 0
  | .step _ t => depthT t + 1
  | .alt a b => max (depthT a) (depthT b)

def masksOf : List Oper → List Nat → List Nat
  | [], acc => acc
  | o :: os, acc => masksOf os (acc ++ [maskOf acc (edgesOf o)])

theorem masksOf_spec : ∀ (os : List Oper) (acc : List Nat), (∀ j, os[j]? = ops[acc.length + j]?) → (∀ (e m : Nat), acc[e]? = some m → ∀ i, m.testBit i = true → Dep ops i e) →
    ∀ (e m : Nat), (masksOf os acc)[e]? = some m → ∀ i, m.testBit i = true → Dep ops i e
  | [], acc, _, h, e, m, he, i, hi => h e m he i hi
  | o :: os, acc, hos, h, e, m, he, i, hi => by
    have ho : ops[acc.length]? = some o := by simpa using (hos 0).symm
    have hm := maskOf_spec ho h (edgesOf o) (fun _ h => h)
    refine masksOf_spec os (acc ++ [maskOf acc (edgesOf o)]) (fun j => by have := hos (j + 1); simpa [Nat.add_assoc, Nat.add_comm 1 j] using this) (fun e m hem i hi => ?_) e m he i hi
    by_cases hl : e < acc.length
    · rw [List.getElem?_append_left hl] at hem; exact h e m hem i hi
    · rw [List.getElem?_append_right (by omega)] at hem
      have hlt := (List.getElem?_eq_some_iff.1 hem).1
      simp at hlt
      obtain rfl : e = acc.length := by omega
      simp at hem
      subst hem
      exact hm i hi

def freeT (masks : List Nat) (listed : Array Bool) (j : Nat) (ai : AI) : Nat → List AI → Bool
  | _, [] => true
  | k, y :: ys => (k == j || listed.getD k true || ai.plain.apart y.plain || (masks.getD k 0).testBit j) && freeT masks listed j ai (k + 1) ys

theorem freeT_spec {masks : List Nat} {listed : Array Bool} {j : Nat} {ai : AI} : ∀ (ys : List AI) (k : Nat), freeT masks listed j ai k ys = true → ∀ n y, ys[n]? = some y → k + n ≠ j → listed.getD (k + n) true = false → ai.plain.apart y.plain = true ∨ (masks.getD (k + n) 0).testBit j = true
  | [], _, _, n, y, hy, _, _ => by simp at hy
  | z :: ys, k, h, n, y, hy, hne, hl => by
    simp only [freeT, Bool.and_eq_true, Bool.or_eq_true, beq_iff_eq, or_assoc] at h
    cases n with
    | zero =>
      simp at hy; subst hy
      rcases h.1 with h | h | h | h
      · exact absurd h hne
      · rw [show k + 0 = k from rfl, h] at hl; cases hl
      · exact .inl h
      · exact .inr h
    | succ n =>
      have := freeT_spec ys (k + 1) h.2 n y (by simpa using hy) (by omega) (by rw [show k + 1 + n = k + (n + 1) by omega]; exact hl)
      rwa [show k + 1 + n = k + (n + 1) by omega] at this

def hasB (i : Nat) : OT → Bool
  | .done => false
  | .step j _ => j == i
  | .alt a b => hasB i a || hasB i b

/-- A tree against a region's edges. 'br': it is one of several ways. -/
def chkT (ops : Array Oper) (ais : List AI) (masks : List Nat) : Bool → OT → Array Bool → Bool
  | br, .done, listed => !br && (Region.ready .any ops listed).isEmpty
  | br, .step j t, listed => (Region.ready .any ops listed).contains j &&
      (br || (Region.ready .any ops listed).all (· == j) || (match ais[j]? with
        | some ai => !ai.k.isP && freeT masks listed j ai 0 ais
        | none => false)) && chkT ops ais masks false t (listed.setIfInBounds j true)
  | br, .alt a b, listed => (br || (Region.ready .any ops listed).all fun i => hasB i (.alt a b)) && chkT ops ais masks true a listed && chkT ops ais masks true b listed

def Branch (C : CSpec) (GT : Nat → Option AV) (ops : Array Oper) (ais : List AI) (K : GF → Heap → Prop) (KP : AV → Heap → Prop) (f : Nat) (listed : Array Bool) (g : GF) (H : Heap) (i : Nat) : Prop :=
  ∃ ai, ais[i]? = some ai ∧ ((∃ v H', AYields C GT ai.plain g H v H' ∧ AAnyP C GT ops ais K KP f (listed.setIfInBounds i true) (putg g ai.dst v) H') ∨ (∃ x H', AYieldsP C GT ai g H x H' ∧ KP x H'))

theorem chkT_br {masks : List Nat} : ∀ (t : OT) (listed : Array Bool), chkT ops ais masks true t listed = true → 0 < depthT t ∧ Region.ready .any ops listed ≠ []
  | .done, listed, h => by simp [chkT] at h
  | .step j t, listed, h => by
    simp only [chkT, Bool.and_eq_true] at h
    refine ⟨by simp [depthT], fun e => ?_⟩
    rw [e] at h; simp at h
  | .alt a b, listed, h => by
    simp only [chkT, Bool.and_eq_true] at h
    obtain ⟨h1, h2⟩ := chkT_br a listed h.1.2
    exact ⟨by simp only [depthT]; omega, h2⟩

theorem tree_sound {K : Fr → Heap → Prop} {KP : AV → Heap → Prop} {masks : List Nat} (hm : ∀ (e m : Nat), masks[e]? = some m → ∀ i, m.testBit i = true → Dep ops i e) : ∀ (t : OT),
    (∀ f listed fr H, chkT ops ais masks false t listed = true → depthT t ≤ f → Closed ops listed → AWT C GT ais t fr H K KP → AAnyP C GT ops ais (fun g H' => ∃ fr', get fr' = g ∧ K fr' H') KP f listed (get fr) H) ∧
    (∀ f listed fr H, chkT ops ais masks true t listed = true → depthT t ≤ f + 1 → Closed ops listed → AWT C GT ais t fr H K KP → ∀ i, hasB i t = true → Branch C GT ops ais (fun g H' => ∃ fr', get fr' = g ∧ K fr' H') KP f listed (get fr) H i) := by
  intro t
  induction t with
  | done =>
    refine ⟨fun f listed fr H hc hd hcl hA => ?_, fun f listed fr H hc => by simp [chkT] at hc⟩
    have he : Region.ready .any ops listed = [] := by simpa [chkT] using hc
    cases f with
    | zero => exact ⟨he, fr, rfl, hA⟩
    | succ f => exact ⟨fun _ => ⟨fr, rfl, hA⟩, fun i hi => (by rw [he] at hi; cases hi)⟩
  | step j t ih =>
    have br : ∀ f listed fr H, j ∈ Region.ready .any ops listed → chkT ops ais masks false t (listed.setIfInBounds j true) = true → depthT t ≤ f → Closed ops listed → AWT C GT ais (.step j t) fr H K KP →
        Branch C GT ops ais (fun g H' => ∃ fr', get fr' = g ∧ K fr' H') KP f listed (get fr) H j := by
      intro f listed fr H hj hc hd hcl hA
      obtain ⟨ai, hai, hout⟩ := AWT_step hA
      refine ⟨ai, hai, ?_⟩
      rcases hout with ⟨v, H', hy, hA'⟩ | ⟨x, H', hy, hk⟩
      · refine .inl ⟨v, H', hy, ?_⟩
        have := ih.1 f _ _ H' hc hd (hcl.set hj) hA'
        rw [get_put] at this
        exact this
      · exact .inr ⟨x, H', hy, hk⟩
    refine ⟨fun f listed fr H hc hd hcl hA => ?_, fun f listed fr H hc hd hcl hA i hi => ?_⟩
    · simp only [chkT, Bool.and_eq_true, Bool.false_or, Bool.or_eq_true, List.contains_iff_mem] at hc
      obtain ⟨⟨hj, hfr⟩, hc⟩ := hc
      cases f with
      | zero => simp [depthT] at hd
      | succ f =>
        have hd' : depthT t ≤ f := by simp only [depthT] at hd; omega
        rcases hfr with hall | hfree
        · refine ⟨fun e => (by rw [e] at hj; cases hj), fun i hi => ?_⟩
          have hij : i = j := by simpa using List.all_eq_true.1 hall i hi
          subst hij
          exact br f listed fr H hj hc hd' hcl hA
        · split at hfree
          · rename_i ai hai
            simp only [Bool.and_eq_true, Bool.not_eq_true'] at hfree
            obtain ⟨ai', hai', hout⟩ := AWT_step hA
            rw [hai] at hai'
            cases hai'
            rcases hout with ⟨v, H', hy, hA'⟩ | ⟨x, H', hy, _⟩
            · have hin := ih.1 f _ _ H' hc hd' (hcl.set hj) hA'
              rw [get_put] at hin
              refine aanyP_first hai f listed (get fr) H v H' hcl (fun k ak hk hkj hun => ?_) hj hy hin
              have := freeT_spec ais 0 hfree.2 k ak hk (by omega) (by simpa using hun)
              rcases this with h | h
              · exact .inl h
              · right
                rw [Nat.zero_add, List.getD_eq_getElem?_getD] at h
                cases hmk : masks[k]? with
                | none => rw [hmk] at h; simp at h
                | some m => rw [hmk] at h; exact hm k m hmk j h
            · have := yieldsP_isP hy
              rw [hfree.1] at this; cases this
          · cases hfree
    · simp only [chkT, Bool.and_eq_true, Bool.true_or, List.contains_iff_mem, and_true] at hc
      have hij : j = i := by simpa [hasB] using hi
      subst hij
      exact br f listed fr H hc.1 hc.2 (by simp only [depthT] at hd; omega) hcl hA
  | alt a b iha ihb =>
    have br : ∀ f listed fr H, chkT ops ais masks true a listed = true → chkT ops ais masks true b listed = true → depthT (.alt a b) ≤ f + 1 → Closed ops listed → AWT C GT ais (.alt a b) fr H K KP → ∀ i, hasB i (.alt a b) = true →
        Branch C GT ops ais (fun g H' => ∃ fr', get fr' = g ∧ K fr' H') KP f listed (get fr) H i := by
      intro f listed fr H ha hb hd hcl hA i hi
      simp only [depthT] at hd
      simp only [hasB, Bool.or_eq_true] at hi
      rcases hi with hi | hi
      · exact iha.2 f listed fr H ha (by omega) hcl hA.1 i hi
      · exact ihb.2 f listed fr H hb (by omega) hcl hA.2 i hi
    refine ⟨fun f listed fr H hc hd hcl hA => ?_, fun f listed fr H hc hd hcl hA i hi => ?_⟩
    · simp only [chkT, Bool.and_eq_true, Bool.false_or] at hc
      obtain ⟨⟨hall, ha⟩, hb⟩ := hc
      obtain ⟨h1, h2⟩ := chkT_br a listed ha
      cases f with
      | zero => simp only [depthT] at hd; omega
      | succ f => exact ⟨fun e => absurd e h2, fun i hi => br f listed fr H ha hb hd hcl hA i (List.all_eq_true.1 hall i hi)⟩
    · simp only [chkT, Bool.and_eq_true, Bool.true_or, true_and] at hc
      exact br f listed fr H hc.1 hc.2 hd hcl hA i hi

/-- The text's own order. -/
def chkS : OT → Nat → Nat → Bool
  | .done, k, n => k == n
  | .step j t, k, n => j == k && chkS t (k + 1) n
  | .alt _ _, _, _ => false

/-! ### Against the program -/

variable {P : Program}

theorem any_soundP {N : Nat} {Q : Exit → Act → World → Prop} {K : GF → Heap → Prop} {KP : AV → Heap → Prop} (hc : chkAIs P N ops ops.toList ais = true) : ∀ (f : Nat) (listed : Array Bool) (w : World) (M : AMap) (I : Nat → Prop) (H : Heap) (g : GF) (a : Act),
    Sim GT w M I H → ActOK w M I H.length N g a → AAnyP (Good P GT) GT ops ais K KP f listed g H →
    (∀ g' H' a' w' M' I', Grow w M I H w' M' I' H' → Sim GT w' M' I' H' → ActOK w' M' I' H'.length N g' a' → K g' H' → Q .normal a' w') →
    (∀ x xv g' H' a' w' M' I', Grow w M I H w' M' I' H' → Sim GT w' M' I' H' → ActOK w' M' I' H'.length N g' a' → Rel w' M' I' H'.length x xv → KP x H' → Q (.panic [{ v := xv, recovered := false }]) a' w') → wpAny P .any ops Q f listed a w := by
  intro f
  induction f with
  | zero => intro listed w M I H g a hS hF hA hQ hP; exact ⟨hA.1, hQ g H a w M I (Grow.refl ..) hS hF hA.2⟩
  | succ f ih =>
    intro listed w M I H g a hS hF hA hQ hP
    refine ⟨fun h => hQ g H a w M I (Grow.refl ..) hS hF (hA.1 h), fun i hi => ?_⟩
    obtain ⟨ai, hai, hout⟩ := hA.2 i hi
    obtain ⟨_, o, ho, _⟩ := mem_ready.1 hi
    unfold wpOp
    simp only [ho]
    have hck := chkAIs_spec _ _ hc i o ai (by simpa using ho) hai
    rcases hout with ⟨v, H', hy, hA'⟩ | ⟨x, H', hy, hk⟩
    · exact op_sound hS hF (chkAI_plain hck) hy fun a' w' M' I' hG hS' hF' =>
        ih _ w' M' I' H' _ a' hS' hF' hA' (fun g2 H2 a2 w2 M2 I2 hG2 => hQ g2 H2 a2 w2 M2 I2 (hG.trans hG2)) (fun x xv g2 H2 a2 w2 M2 I2 hG2 => hP x xv g2 H2 a2 w2 M2 I2 (hG.trans hG2))
    · exact op_soundP hS hF hck hy fun xv w' M' I' hG hS' hr => hP x xv g H' a w' M' I' hG hS' (hF.grow hG hS) hr hk

theorem seq_soundP {N : Nat} {Q : Exit → Act → World → Prop} {K : Fr → Heap → Prop} {KP : AV → Heap → Prop} (hc : chkAIs P N ops ops.toList ais = true) : ∀ (t : OT) (k : Nat) (os : List Oper) (w : World) (M : AMap) (I : Nat → Prop) (H : Heap) (fr : Fr) (a : Act),
    (∀ j, os[j]? = ops.toList[k + j]?) → chkS t k (k + os.length) = true → Sim GT w M I H → ActOK w M I H.length N (get fr) a → AWT (Good P GT) GT ais t fr H K KP →
    (∀ fr' H' a' w' M' I', Grow w M I H w' M' I' H' → Sim GT w' M' I' H' → ActOK w' M' I' H'.length N (get fr') a' → K fr' H' → Q .normal a' w') →
    (∀ x xv g' H' a' w' M' I', Grow w M I H w' M' I' H' → Sim GT w' M' I' H' → ActOK w' M' I' H'.length N g' a' → Rel w' M' I' H'.length x xv → KP x H' → Q (.panic [{ v := xv, recovered := false }]) a' w') → wpList P ops Q os a w := by
  intro t
  induction t with
  | done =>
    intro k os w M I H fr a hos hck hS hF hA hQ hP
    cases os with
    | nil => exact hQ fr H a w M I (Grow.refl ..) hS hF hA
    | cons => simp [chkS] at hck
  | alt => intro k os w M I H fr a hos hck; simp [chkS] at hck
  | step j t ih =>
    intro k os w M I H fr a hos hck hS hF hA hQ hP
    simp only [chkS, Bool.and_eq_true, beq_iff_eq] at hck
    obtain ⟨rfl, hck⟩ := hck
    obtain ⟨ai, hai, hout⟩ := AWT_step hA
    have hlen : ∀ (os : List Oper) (is : List AI), chkAIs P N ops os is = true → os.length = is.length := by
      intro os
      induction os with
      | nil => intro is h; cases is <;> simp [chkAIs] at h ⊢
      | cons o os ih => intro is h; cases is with
        | nil => simp [chkAIs] at h
        | cons i is => simp only [chkAIs, Bool.and_eq_true] at h; simp [ih is h.2]
    cases os with
    | nil =>
      have h1 := hlen _ _ hc
      have h2 := (List.getElem?_eq_some_iff.1 hai).1
      have h3 := hos 0
      simp only [List.getElem?_nil, Nat.add_zero] at h3
      have := List.getElem?_eq_none_iff.1 h3.symm
      omega
    | cons o os =>
      have ho : ops.toList[j]? = some o := by simpa using (hos 0).symm
      have hckA := chkAIs_spec _ _ hc j o ai ho hai
      have hos' : ∀ m, os[m]? = ops.toList[j + 1 + m]? := fun m => by have := hos (m + 1); simpa [Nat.add_assoc, Nat.add_comm 1 m] using this
      unfold wpList
      rcases hout with ⟨v, H', hy, hA'⟩ | ⟨x, H', hy, hk⟩
      · exact op_sound hS hF (chkAI_plain hckA) hy fun a' w' M' I' hG hS' hF' =>
          ih (j + 1) os w' M' I' H' (put fr ai.dst v) a' hos' (by rw [show j + 1 + os.length = j + (o :: os).length by simp; omega]; exact hck) hS' (by rw [get_put]; exact hF') hA'
            (fun g2 H2 a2 w2 M2 I2 hG2 => hQ g2 H2 a2 w2 M2 I2 (hG.trans hG2)) (fun x xv g2 H2 a2 w2 M2 I2 hG2 => hP x xv g2 H2 a2 w2 M2 I2 (hG.trans hG2))
      · exact op_soundP hS hF hckA hy fun xv w' M' I' hG hS' hr => hP x xv _ H' a w' M' I' hG hS' (hF.grow hG hS) hr hk

/-- The check of a region with a tree. -/
def chkRT (ops : Array Oper) (ais : List AI) (draw : Bool) (t : OT) : Bool :=
  match draw with
  | false => chkS t 0 ops.size
  | true => chkT ops ais (masksOf ops.toList []) false t (Array.replicate ops.size false) && decide (depthT t ≤ ops.size)

theorem regt_sound {N id : Nat} {draw : Bool} {t : OT} {Q : Exit → Act → World → Prop} {K : Fr → Heap → Prop} {KP : AV → Heap → Prop} {w : World} {M : AMap} {I : Nat → Prop} {H : Heap} {fr : Fr} {a : Act} (hm : P.follows .mixedOrders = true)
    (hS : Sim GT w M I H) (hF : ActOK w M I H.length N (get fr) a) (hc : chkAIs P N ops ops.toList ais = true) (ht : chkRT ops ais draw t = true) (hA : AWT (Good P GT) GT ais t fr H K KP)
    (hQ : ∀ fr' H' a' w' M' I', Grow w M I H w' M' I' H' → Sim GT w' M' I' H' → ActOK w' M' I' H'.length N (get fr') a' → K fr' H' → Q .normal a' w')
    (hP : ∀ x xv g' H' a' w' M' I', Grow w M I H w' M' I' H' → Sim GT w' M' I' H' → ActOK w' M' I' H'.length N g' a' → Rel w' M' I' H'.length x xv → KP x H' → Q (.panic [{ v := xv, recovered := false }]) a' w') : (Code.region id ops draw).wp P Q a w := by
  cases draw with
  | false =>
    refine wp_region_list (seq_soundP hc t 0 ops.toList w M I H fr a (by simp) (by simpa [chkRT] using ht) hS hF hA hQ hP)
  | true =>
    refine wp_region_any hm ?_
    simp only [chkRT, Bool.and_eq_true, decide_eq_true_eq] at ht
    have hcl : Closed ops (Array.replicate ops.size false) := fun j o ho hl e he hb => by
      rw [Array.getD_eq_getD_getElem?] at hl
      by_cases hj : j < ops.size
      · simp [hj] at hl
      · simp [hj] at hl
    have h1 := (tree_sound (C := Good P GT) (GT := GT) (ais := ais) (K := K) (KP := KP) (masksOf_spec (ops := ops) ops.toList [] (by simp) (by simp)) t).1 ops.size _ fr H ht.1 ht.2 hcl hA
    have hG0 : Grow w M I H { w with drawn := w.drawn + 1 } M I H := Grow.same rfl rfl rfl rfl
    refine any_soundP hc ops.size _ _ M I H (get fr) a (hS.same rfl) (hF.grow hG0 hS) h1 ?_ ?_
    · rintro g' H' a' w' M' I' hG hS' hF' ⟨fr', rfl, hK⟩
      exact hQ fr' H' a' w' M' I' (hG0.trans hG) hS' hF' hK
    · exact fun x xv g' H' a' w' M' I' hG hS' hF' hr hk => hP x xv g' H' a' w' M' I' (hG0.trans hG) hS' hF' hr hk

end
end Go.AM

/- The abstract machine, part 17: code. Own work. -/
set_option linter.all false
namespace Go.AM

/-- How a code is left. -/
def Outs (w : World) (M : AMap) (I : Nat → Prop) (n : Nat) : AE → Exit → Prop
  | .normal, E => E = .normal
  | .exit id, E => E = .exit id
  | .ret, E => E = .ret
  | .goto l, E => E = .goto l
  | .pan x, E => ∃ xv, E = .panic [{ v := xv, recovered := false }] ∧ Rel w M I n x xv

/-- Abstract code against the program's. -/
def chkC (P : Program) (N : Nat) : Code → AC → Bool
  | .skip, .skip => true
  | .region _ ops draw, .reg _ draw' is => draw == draw' && chkAIs P N ops ops.toList is && (!draw || chkOrd [] [] ops.toList is)
  | .seq a b, .seq a' b' => chkC P N a a' && chkC P N b b'
  | .cond c a b, .cond c' a' b' => chkO c c' && chkC P N a a' && chkC P N b b'
  | .block id c, .block id' _ c' => id == id' && chkC P N c c'
  | .loop c, .loop _ c' => chkC P N c c'
  | .exit id, .exit id' => id == id'
  | .ret, .ret => true
  | _, .stuck => true
  | .region _ ops draw, .regt _ draw' is t => draw == draw' && chkAIs P N ops ops.toList is && chkRT ops is draw t
  | .label _, .label => true
  | .goto l, .goto l' => l == l'
  | .scope c, .scope _ l c' r' => chkC P N c c' && (match findLabel c l with
    | some rest => chkC P N rest r'
    | none => false)
  | _, _ => false

theorem get_learn {GT : Nat → Option AV} {fr : Fr} {c : Opd} {b : Bool} (h : ev GT fr c = .bool b) (t : Nat) : get (learn fr c b) t = get fr t := by
  cases c with
  | tmp d =>
    simp only [learn, get]
    split
    · rename_i e; subst e; exact h.symm
    · rfl
  | _ => rfl

/-- The least of the numbers that there are. -/
theorem least {p : Nat → Prop} (h : ∃ n, p n) : ∃ n, p n ∧ ∀ m, p m → n ≤ m := by
  obtain ⟨n, hn⟩ := h
  induction n using Nat.strongRecOn with
  | _ n ih =>
    by_cases h : ∃ m, m < n ∧ p m
    · obtain ⟨m, h1, h2⟩ := h; exact ih m h1 h2
    · exact ⟨n, hn, fun m hm => by
        rcases Nat.lt_or_ge m n with h1 | h1
        · exact absurd ⟨m, h1, hm⟩ h
        · exact h1⟩

/-- A loop, by the number of rounds that are left. -/
theorem wp_loop_rounds {P : Program} {c : Code} {Q : Exit → Act → World → Prop} {a : Act} {w : World} (J : Nat → Act → World → Prop) (h0 : ∃ m, J m a w)
    (round : ∀ m a w, J m a w → ∃ k, m = k + 1 ∧ c.wp P (Exit.then (fun a' w' => J k a' w') Q) a w) : (Code.loop c).wp P Q a w := by
  classical
  refine wp_loop (fun a w => ∃ m, J m a w) (fun a w => if h : ∃ m, J m a w then Classical.choose (least h) else 0) h0 fun a w hI => ?_
  have hμ : ∀ a w, (h : ∃ m, J m a w) → (if h : ∃ m, J m a w then Classical.choose (least h) else 0) = Classical.choose (least h) := fun a w h => dif_pos h
  obtain ⟨h1, _⟩ := Classical.choose_spec (least hI)
  obtain ⟨k, hk, hr⟩ := round _ a w h1
  refine wp_mono hr fun e a' w' hq => ?_
  cases e with
  | normal =>
    have hI' : ∃ m, J m a' w' := ⟨k, hq⟩
    refine ⟨hI', ?_⟩
    rw [hμ _ _ hI', hμ _ _ hI]
    have := (Classical.choose_spec (least hI')).2 k hq
    omega
  | _ => exact hq

/-- A scope with one label, by the number of jumps that are left. -/
theorem wp_scope_rounds {P : Program} {c rest : Code} {Q : Exit → Act → World → Prop} {a : Act} {w : World} (l : Nat) (J : Nat → Act → World → Prop) (hf : findLabel c l = some rest)
    (first : c.wp P (Exit.jump l (fun a' w' => ∃ m, J m a' w') Q) a w)
    (round : ∀ m a w, J m a w → ∃ k, m = k + 1 ∧ rest.wp P (Exit.jump l (fun a' w' => J k a' w') Q) a w) : (Code.scope c).wp P Q a w := by
  classical
  refine wp_scope_jumps l (fun a w => ∃ m, J m a w) (fun a w => if h : ∃ m, J m a w then Classical.choose (least h) else 0) hf first fun a w hI => ?_
  have hμ : ∀ a w, (h : ∃ m, J m a w) → (if h : ∃ m, J m a w then Classical.choose (least h) else 0) = Classical.choose (least h) := fun a w h => dif_pos h
  obtain ⟨h1, _⟩ := Classical.choose_spec (least hI)
  obtain ⟨k, hk, hr⟩ := round _ a w h1
  refine wp_mono hr fun e a' w' hq => ?_
  cases e with
  | goto l' =>
    obtain ⟨hl, hq⟩ := hq
    have hI' : ∃ m, J m a' w' := ⟨k, hq⟩
    refine ⟨hl, hI', ?_⟩
    rw [hμ _ _ hI', hμ _ _ hI]
    have := (Classical.choose_spec (least hI')).2 k hq
    omega
  | _ => exact hq

theorem ActOK.none {w : World} {M : AMap} {I : Nat → Prop} {n N : Nat} {g : GF} {a : Act} (hF : ActOK w M I n N g a) : ActOK w M I n N (get []) a :=
  ⟨fun t => .undef _, hF.size, hF.defers⟩

section
variable {P : Program} {GT : Nat → Option AV}

set_option maxHeartbeats 800000 in
theorem aw_sound {N : Nat} (hm : P.follows .mixedOrders = true) : ∀ (ac : AC) (c : Code) (K : Post) (Q : Exit → Act → World → Prop) (w : World) (M : AMap) (I : Nat → Prop) (H : Heap) (fr : Fr) (a : Act),
    chkC P N c ac = true → Sim GT w M I H → ActOK w M I H.length N (get fr) a → AW (Good P GT) GT ac K fr H →
    (∀ e E fr' H' a' w' M' I', Grow w M I H w' M' I' H' → Sim GT w' M' I' H' → ActOK w' M' I' H'.length N (get fr') a' → Outs w' M' I' H'.length e E → K e fr' H' → Q E a' w') → c.wp P Q a w := by
  intro ac
  induction ac with
  | stuck => intro c K Q w M I H fr a hc hS hF hA hQ; exact hA.elim
  | skip =>
    intro c K Q w M I H fr a hc hS hF hA hQ
    cases c <;> simp [chkC] at hc
    exact wp_skip (hQ .normal .normal fr H a w M I (Grow.refl ..) hS hF rfl hA)
  | label =>
    intro c K Q w M I H fr a hc hS hF hA hQ
    cases c <;> simp [chkC] at hc
    exact wp_label (hQ .normal .normal fr H a w M I (Grow.refl ..) hS hF rfl hA)
  | ret =>
    intro c K Q w M I H fr a hc hS hF hA hQ
    cases c <;> simp [chkC] at hc
    exact wp_ret (hQ .ret .ret fr H a w M I (Grow.refl ..) hS hF rfl hA)
  | exit id =>
    intro c K Q w M I H fr a hc hS hF hA hQ
    cases c <;> simp [chkC] at hc
    subst hc
    exact wp_exit (hQ (.exit _) (.exit _) fr H a w M I (Grow.refl ..) hS hF rfl hA)
  | goto l =>
    intro c K Q w M I H fr a hc hS hF hA hQ
    cases c <;> simp [chkC] at hc
    subst hc
    exact wp_goto (hQ (.goto _) (.goto _) fr H a w M I (Grow.refl ..) hS hF rfl hA)
  | reg L draw is =>
    intro c K Q w M I H fr a hc hS hF hA hQ
    cases c <;> simp only [chkC, Bool.false_eq_true, Bool.and_eq_true, beq_iff_eq, Bool.or_eq_true, Bool.not_eq_true'] at hc
    obtain ⟨⟨rfl, h1⟩, h2⟩ := hc
    rename_i id ops draw
    cases draw with
    | false => exact wp_region_list (ops_sound is ops.toList w M I H _ a hS (hF.restrict L) h1 hA fun fr' H' a' w' M' I' hG hS' hF' hK => hQ .normal .normal fr' H' a' w' M' I' hG hS' hF' rfl hK)
    | true =>
      exact draw_sound hm hS (hF.restrict L) h1 (h2.resolve_left (by simp)) hA fun fr' H' a' w' M' I' hG hS' hF' hK => hQ .normal .normal fr' H' a' w' M' I' hG hS' hF' rfl hK
  | regt L draw is t =>
    intro c K Q w M I H fr a hc hS hF hA hQ
    cases c <;> simp only [chkC, Bool.false_eq_true, Bool.and_eq_true, beq_iff_eq] at hc
    obtain ⟨⟨rfl, h1⟩, h2⟩ := hc
    exact regt_sound hm hS (hF.restrict L) h1 h2 hA (fun fr' H' a' w' M' I' hG hS' hF' hK => hQ .normal .normal fr' H' a' w' M' I' hG hS' hF' rfl hK)
      (fun x xv g' H' a' w' M' I' hG hS' hF' hr hK => hQ (.pan x) _ [] H' a' w' M' I' hG hS' hF'.none ⟨xv, rfl, hr⟩ hK)
  | seq x y ihx ihy =>
    intro c K Q w M I H fr a hc hS hF hA hQ
    cases c <;> simp only [chkC, Bool.false_eq_true, Bool.and_eq_true] at hc
    refine wp_seq (ihx _ _ _ w M I H fr a hc.1 hS hF hA fun e E fr' H' a' w' M' I' hG hS' hF' hE hK => ?_)
    cases e with
    | normal =>
      obtain rfl := hE
      exact ihy _ K Q w' M' I' H' fr' a' hc.2 hS' hF' hK fun e E fr2 H2 a2 w2 M2 I2 hG2 => hQ e E fr2 H2 a2 w2 M2 I2 (hG.trans hG2)
    | exit id => obtain rfl := hE; exact hQ (.exit id) _ fr' H' a' w' M' I' hG hS' hF' rfl hK
    | ret => obtain rfl := hE; exact hQ .ret _ fr' H' a' w' M' I' hG hS' hF' rfl hK
    | goto l => obtain rfl := hE; exact hQ (.goto l) _ fr' H' a' w' M' I' hG hS' hF' rfl hK
    | pan x => obtain ⟨xv, rfl, hr⟩ := hE; exact hQ (.pan x) _ fr' H' a' w' M' I' hG hS' hF' ⟨xv, rfl, hr⟩ hK
  | cond t x y ihx ihy =>
    intro c K Q w M I H fr a hc hS hF hA hQ
    cases c <;> simp only [chkC, Bool.false_eq_true, Bool.and_eq_true] at hc
    rename_i t' x' y'
    obtain ⟨⟨h1, h2⟩, h3⟩ := hc
    unfold AW at hA
    split at hA
    · rename_i b hb
      have hF' : ActOK w M I H.length N (get (learn fr t b)) a := ⟨fun s => by rw [get_learn hb s]; exact hF.rel s, hF.size, hF.defers⟩
      have hr := hF.ev hS _ _ h1
      rw [← ev_eq, hb] at hr
      have hv : a.eval t' = .bool b := by
        generalize a.eval t' = u at hr
        cases hr; rfl
      refine wp_cond hv ?_
      cases b with
      | true => simp only [if_true] at hA ⊢; exact ihx _ K Q w M I H _ a h2 hS hF' hA hQ
      | false => simp only [Bool.false_eq_true, if_false] at hA ⊢; exact ihy _ K Q w M I H _ a h3 hS hF' hA hQ
    · exact hA.elim
  | block id L x ih =>
    intro c K Q w M I H fr a hc hS hF hA hQ
    cases c <;> simp only [chkC, Bool.false_eq_true, Bool.and_eq_true, beq_iff_eq] at hc
    obtain ⟨rfl, hc⟩ := hc
    rename_i id x'
    refine wp_block (ih _ _ _ w M I H fr a hc hS hF hA fun e E fr' H' a' w' M' I' hG hS' hF' hE hK => ?_)
    cases e with
    | normal => obtain rfl := hE; exact hQ .normal _ _ H' a' w' M' I' hG hS' (hF'.restrict L) rfl hK
    | exit j =>
      obtain rfl := hE
      simp only [blockK] at hK
      simp only [Exit.inBlock]
      by_cases hj : j = id
      · rw [if_pos hj] at hK ⊢
        exact hQ .normal _ _ H' a' w' M' I' hG hS' (hF'.restrict L) rfl hK
      · rw [if_neg hj] at hK ⊢
        exact hQ (.exit j) _ fr' H' a' w' M' I' hG hS' hF' rfl hK
    | ret => obtain rfl := hE; exact hQ .ret _ fr' H' a' w' M' I' hG hS' hF' rfl hK
    | goto l => obtain rfl := hE; exact hQ (.goto l) _ fr' H' a' w' M' I' hG hS' hF' rfl hK
    | pan x => obtain ⟨xv, rfl, hr⟩ := hE; exact hQ (.pan x) _ fr' H' a' w' M' I' hG hS' hF' ⟨xv, rfl, hr⟩ hK
  | loop L x ih =>
    intro c K Q w M I H fr a hc hS hF hA hQ
    cases c <;> simp only [chkC, Bool.false_eq_true] at hc
    rename_i x'
    obtain ⟨m, hA⟩ := hA
    refine wp_loop_rounds (fun m a' w' => ∃ M' I' H' fr', Grow w M I H w' M' I' H' ∧ Sim GT w' M' I' H' ∧ ActOK w' M' I' H'.length N (get fr') a' ∧ loopW (AW (Good P GT) GT x) L K m fr' H')
      ⟨m, M, I, H, _, Grow.refl .., hS, hF.restrict L, hA⟩ ?_
    rintro m a1 w1 ⟨M1, I1, H1, fr1, hG1, hS1, hF1, hA1⟩
    cases m with
    | zero => exact hA1.elim
    | succ k =>
      refine ⟨k, rfl, ih _ _ _ w1 M1 I1 H1 fr1 a1 hc hS1 hF1 hA1 fun e E fr' H' a' w' M' I' hG hS' hF' hE hK => ?_⟩
      cases e with
      | normal => obtain rfl := hE; exact ⟨M', I', H', _, hG1.trans hG, hS', hF'.restrict L, hK⟩
      | exit j => obtain rfl := hE; exact hQ (.exit j) _ fr' H' a' w' M' I' (hG1.trans hG) hS' hF' rfl hK
      | ret => obtain rfl := hE; exact hQ .ret _ fr' H' a' w' M' I' (hG1.trans hG) hS' hF' rfl hK
      | goto l => obtain rfl := hE; exact hQ (.goto l) _ fr' H' a' w' M' I' (hG1.trans hG) hS' hF' rfl hK
      | pan x => obtain ⟨xv, rfl, hr⟩ := hE; exact hQ (.pan x) _ fr' H' a' w' M' I' (hG1.trans hG) hS' hF' ⟨xv, rfl, hr⟩ hK
  | scope L l x r ihx ihr =>
    intro c K Q w M I H fr a hc hS hF hA hQ
    cases c <;> simp only [chkC, Bool.false_eq_true, Bool.and_eq_true] at hc
    rename_i x'
    obtain ⟨hc1, hc2⟩ := hc
    split at hc2
    case h_2 => cases hc2
    rename_i rest hfl
    have go : ∀ (G : Fr → Heap → Prop) (J : Act → World → Prop) (w1 : World) (M1 : AMap) (I1 : Nat → Prop) (H1 : Heap), Grow w M I H w1 M1 I1 H1 →
        (∀ fr' H' a' w' M' I', Grow w1 M1 I1 H1 w' M' I' H' → Sim GT w' M' I' H' → ActOK w' M' I' H'.length N (get fr') a' → G fr' H' → J a' w') →
        ∀ e E fr' H' a' w' M' I', Grow w1 M1 I1 H1 w' M' I' H' → Sim GT w' M' I' H' → ActOK w' M' I' H'.length N (get fr') a' → Outs w' M' I' H'.length e E → jumpK l G K e fr' H' → Exit.jump l J Q E a' w' := by
      intro G J w1 M1 I1 H1 hG1 hJ e E fr' H' a' w' M' I' hG hS' hF' hE hK
      cases e with
      | normal => obtain rfl := hE; exact hQ .normal _ fr' H' a' w' M' I' (hG1.trans hG) hS' hF' rfl hK
      | exit j => obtain rfl := hE; exact hQ (.exit j) _ fr' H' a' w' M' I' (hG1.trans hG) hS' hF' rfl hK
      | ret => obtain rfl := hE; exact hQ .ret _ fr' H' a' w' M' I' (hG1.trans hG) hS' hF' rfl hK
      | goto l' => obtain rfl := hE; exact ⟨hK.1, hJ fr' H' a' w' M' I' hG hS' hF' hK.2⟩
      | pan x => obtain ⟨xv, rfl, hr⟩ := hE; exact hQ (.pan x) _ fr' H' a' w' M' I' (hG1.trans hG) hS' hF' ⟨xv, rfl, hr⟩ hK
    refine wp_scope_rounds l (fun m a' w' => ∃ M' I' H' fr', Grow w M I H w' M' I' H' ∧ Sim GT w' M' I' H' ∧ ActOK w' M' I' H'.length N (get fr') a' ∧ gotoW (AW (Good P GT) GT r) L l K m fr' H') hfl ?_ ?_
    · refine ihx _ _ _ w M I H fr a hc1 hS hF hA (go _ _ w M I H (Grow.refl ..) ?_)
      rintro fr' H' a' w' M' I' hG hS' hF' ⟨m, hm'⟩
      exact ⟨m, M', I', H', _, hG, hS', hF'.restrict L, hm'⟩
    · rintro m a1 w1 ⟨M1, I1, H1, fr1, hG1, hS1, hF1, hA1⟩
      cases m with
      | zero => exact hA1.elim
      | succ k =>
        refine ⟨k, rfl, ihr _ _ _ w1 M1 I1 H1 fr1 a1 hc2 hS1 hF1 hA1 (go _ _ w1 M1 I1 H1 hG1 ?_)⟩
        intro fr' H' a' w' M' I' hG hS' hF' hg
        exact ⟨M', I', H', _, hG1.trans hG, hS', hF'.restrict L, hg⟩

end
end Go.AM

/- The abstract machine, part 18: functions. Own work. -/
set_option linter.all false
namespace Go.AM

theorem get_argFr : ∀ (i : Nat) (vs : List AV) (t : Nat), get (argFr i vs) t = if i ≤ t then vs.getD (t - i) .undef else .undef
  | _, [], t => by simp [argFr, get]
  | i, v :: vs, t => by
    simp only [argFr, get]
    rw [get_argFr (i + 1) vs t]
    by_cases h : i = t
    · subst h; simp
    · simp only [h, if_false]
      by_cases h2 : i ≤ t
      · rw [if_pos h2, if_pos (by omega), show t - i = (t - (i + 1)) + 1 by omega]; simp
      · rw [if_neg h2, if_neg (by omega)]

def chkR (P : Program) : List ResultVar → List ARes → Bool
  | [], [] => true
  | .tmp t :: rs, .tmp t' :: qs => t == t' && chkR P rs qs
  | .cell a ty :: rs, .cell a' s ag :: qs => a == a' && sizeB P ty == some s && aggB P ty == some ag && chkR P rs qs
  | _, _ => false

section
variable {P : Program} {GT : Nat → Option AV} {w : World} {M : AMap} {I : Nat → Prop} {H : Heap}

theorem results_sound (hS : Sim GT w M I H) {N : Nat} {fr : Fr} {a : Act} (hF : ActOK w M I H.length N (get fr) a) : ∀ (rs : List ResultVar) (qs : List ARes) (vs : List AV), chkR P rs qs = true → resAll fr H qs = some vs →
    ∃ us, (rs.mapM (m := Sem) fun
      | .tmp t => pure (a.tmps.getD t Go.undef)
      | .cell b t => do loadVar t (← asAddr (a.tmps.getD b Go.undef))).run P w = .ok us w ∧ RelL w M I H.length vs us
  | [], [], vs, _, h => by
    simp only [resAll, Option.some.injEq] at h
    subst h
    exact ⟨[], by simp, rfl, by simp⟩
  | .tmp t :: rs, .tmp t' :: qs, vs, hc, h => by
    simp only [chkR, Bool.and_eq_true, beq_iff_eq] at hc
    obtain ⟨rfl, hc⟩ := hc
    simp only [resAll, resOf] at h
    split at h
    · rename_i v vs' h1 h2
      cases h
      obtain ⟨us, hr, hl, hR⟩ := results_sound hS hF rs qs vs' hc h2
      cases h1
      refine ⟨a.tmps.getD t Go.undef :: us, by simp only [List.mapM_cons, Sem.run_bind, Sem.run_pure, Result.andThen_ok, hr], by simp [hl], fun i c u hi hu => ?_⟩
      cases i with
      | zero => simp at hi hu; subst hi; have := hF.rel t; simp at this; rw [hu] at this; exact this
      | succ i => exact hR i c u (by simpa using hi) (by simpa using hu)
    · cases h
  | .cell b ty :: rs, .cell b' s ag :: qs, vs, hc, h => by
    simp only [chkR, Bool.and_eq_true, beq_iff_eq] at hc
    obtain ⟨⟨⟨rfl, hc1⟩, hc2⟩, hc⟩ := hc
    simp only [resAll, resOf] at h
    split at h
    · rename_i v vs' h1 h2
      cases h
      obtain ⟨us, hr, hl, hR⟩ := results_sound hS hF rs qs vs' hc h2
      split at h1
      · rename_i cs o hp
        obtain ⟨g, ad, hv, hcells⟩ := ptr_sound hS (hF.rel b) hp
        obtain ⟨u, hu, hru⟩ := loadVar_sound (P := P) hc1 hc2 h1 hcells
        refine ⟨u :: us, ?_, by simp [hl], fun i c u' hi hu' => ?_⟩
        · have ha : (asAddr (a.tmps.getD b Go.undef)).run P w = .ok ⟨g, ad, none⟩ w := by rw [hv]; simp [asAddr]
          simp only [List.mapM_cons, Sem.run_bind, Sem.run_pure, Result.andThen_ok, ha, hu, hr]
        · cases i with
          | zero => simp at hi hu'; subst hi hu'; exact hru
          | succ i => exact hR i c u' (by simpa using hi) (by simpa using hu')
      · cases h1
    · cases h
  | [], _ :: _, _, hc, _ => by simp [chkR] at hc
  | .tmp _ :: _, [], _, hc, _ => by simp [chkR] at hc
  | .cell _ _ :: _, [], _, hc, _ => by simp [chkR] at hc
  | .tmp _ :: _, .cell .. :: _, _, hc, _ => by simp [chkR] at hc
  | .cell _ _ :: _, .tmp _ :: _, _, hc, _ => by simp [chkR] at hc

theorem tupled_rel {n : Nat} {vs : List AV} {us : List Value} (h : RelL w M I n vs us) : Rel w M I n (tupled vs) (if h : us.toArray.size = 1 then us.toArray[0] else .tuple us.toArray) := by
  obtain ⟨hl, hR⟩ := h
  match vs, us, hl with
  | [], [], _ => exact Rel.tup [] [] rfl (by simp)
  | [v], [u], _ => simpa [tupled] using hR 0 v u rfl rfl
  | v :: v' :: vs, u :: u' :: us, hl => simpa [tupled] using Rel.tup _ _ hl hR

theorem retF_sound {F : AF} {w0 : World} {M0 : AMap} {I0 : Nat → Prop} {H0 : Heap} (hS0 : Sim GT w0 M0 I0 H0) (hG : Grow w0 M0 I0 H0 w M I H) (hS : Sim GT w M I H) {N : Nat} {fr : Fr} {a : Act} (hF : ActOK w M I H.length N (get fr) a)
    {fn : Func} (hc : chkR P fn.results.toList F.results = true) {v : AV} {H' : Heap} (h : retF F H0 fr H v H') :
    ∃ u, (results fn a.tmps).run P w = .ok u w ∧ ∃ I', Grow w0 M0 I0 H0 w M I' H' ∧ Sim GT w M I' H' ∧ Rel w M I' H'.length v u := by
  unfold retF at h
  split at h
  · exact h.elim
  · rename_i vs hvs
    obtain ⟨us, hr, hR⟩ := results_sound (P := P) hS hF _ _ vs hc hvs
    have hT := tupled_rel hR
    refine ⟨if h : us.toArray.size = 1 then us.toArray[0] else .tuple us.toArray, ?_, ?_⟩
    case refine_2 =>
      split at h
      · obtain ⟨rfl, rfl⟩ := h
        exact ⟨I, hG, hS, hT⟩
      · split at h
        · rename_i v' H2 hfz
          obtain ⟨hb, hold, rfl, rfl⟩ := h
          obtain ⟨I', g1, s1, r1, l1, _⟩ := frz_sound _ _ hS hT hfz
          have hG2 := hG.trans g1
          have hlen : H0.length ≤ H2.length := hG2.len
          refine ⟨I', hG2.take, s1.take _ hlen (fun b cs hb hcs => ?_), ?_⟩
          · rcases hold b hb with h1 | ⟨x, h1, h2⟩
            · rw [hcs] at h1
              obtain ⟨g, o, cur, _, _, _, _, h5⟩ := hS0.blk b _ h1.symm
              intro c hcm
              obtain ⟨i, hi⟩ := List.getElem?_of_mem hcm
              obtain ⟨u, _, hu⟩ := h5 i c hi
              exact hu.bel
            · rw [hcs] at h1; cases h1
              simp only [blkBel, AV.belL_iff] at h2
              exact h2
          · have : (H2.take H0.length).length = H0.length := by simp; omega
            rw [this]
            exact r1.cut (fun _ _ => rfl) hb
        · exact h.elim
    case refine_1 =>
      simp only [results]
      rw [Array.mapM_eq_mapM_toList]
      simp only [Sem.run_bind, Sem.run_pure, Result.andThen_ok, map_eq_pure_bind]
      erw [hr]
      simp

theorem panF_sound {F : AF} {w0 : World} {M0 : AMap} {I0 : Nat → Prop} {H0 : Heap} (hS0 : Sim GT w0 M0 I0 H0) (hG : Grow w0 M0 I0 H0 w M I H) (hS : Sim GT w M I H) {x0 x : AV} {xv : Value} (hT : Rel w M I H.length x0 xv) {H' : Heap} (h : panF F H0 x0 H x H') :
    ∃ I', Grow w0 M0 I0 H0 w M I' H' ∧ Sim GT w M I' H' ∧ Rel w M I' H'.length x xv := by
  unfold panF at h
  split at h
  · obtain ⟨rfl, rfl⟩ := h
    exact ⟨I, hG, hS, hT⟩
  · split at h
    · rename_i v' H2 hfz
      obtain ⟨hb, hold, rfl, rfl⟩ := h
      obtain ⟨I', g1, s1, r1, l1, _⟩ := frz_sound _ _ hS hT hfz
      have hG2 := hG.trans g1
      have hlen : H0.length ≤ H2.length := hG2.len
      refine ⟨I', hG2.take, s1.take _ hlen (fun b cs hb hcs => ?_), ?_⟩
      · rcases hold b hb with h1 | ⟨x, h1, h2⟩
        · rw [hcs] at h1
          obtain ⟨g, o, cur, _, _, _, _, h5⟩ := hS0.blk b _ h1.symm
          intro c hcm
          obtain ⟨i, hi⟩ := List.getElem?_of_mem hcm
          obtain ⟨u, _, hu⟩ := h5 i c hi
          exact hu.bel
        · rw [hcs] at h1; cases h1
          simp only [blkBel, AV.belL_iff] at h2
          exact h2
      · have : (H2.take H0.length).length = H0.length := by simp; omega
        rw [this]
        exact r1.cut (fun _ _ => rfl) hb
    · exact h.elim

theorem argFr_rel (hS : Sim GT w M I H) {args : List AV} {cargs : List Value} (hA : RelL w M I H.length args cargs) {n : Nat} : ActOK w M I H.length n (get (argFr 0 args)) { tmps := cargs.toArray ++ Array.replicate (n - cargs.toArray.size) Go.undef, defers := [] } := by
  refine ⟨fun t => ?_, by simp; omega, rfl⟩
  rw [get_argFr]
  simp only [Nat.zero_le, if_true, Nat.sub_zero]
  by_cases ht : t < args.length
  · have h2 : args[t]? = some args[t] := by simp [ht]
    have ht' : t < cargs.length := by rw [← hA.1]; exact ht
    have h3 : cargs[t]? = some cargs[t] := by simp [ht']
    have := hA.2 t _ _ h2 h3
    have e1 : args.getD t .undef = args[t] := by simp [ht]
    rw [e1]
    have e2 : (cargs.toArray ++ Array.replicate (n - cargs.toArray.size) Go.undef).getD t Go.undef = cargs[t] := by
      rw [Array.getD_eq_getD_getElem?, Array.getElem?_append_left (by simpa using ht')]
      simp [ht']
    rw [e2]; exact this
  · have e1 : args.getD t .undef = .undef := by simp [List.getElem?_eq_none (Nat.le_of_not_lt ht)]
    rw [e1]; exact .undef _

/-- A function's walk. -/
theorem good_of_af (hm : P.follows .mixedOrders = true) {f : FuncId} {fn : Func} {c : Code} {F : AF} (hf : P.funcs[f]? = some fn) (hname : (fn.name == "runtime.NumGoroutine") = false) (hb : fn.body = some c)
    (hc : chkC P fn.ntmps c F.body = true) (hr : chkR P fn.results.toList F.results = true) {args : List AV} (hn : noPan args = true) {H : Heap} {v : AV} {H' : Heap} (h : AFun (Good P GT) GT F args H v H') : Good P GT f args H v H' := by
  refine good_of_n hn fun w M I cargs hS hA => ?_
  have h1 : fn.name ≠ "runtime.NumGoroutine" := by simpa using hname
  have hrun : (callFunc f cargs.toArray).run P w = .ok (.enter f cargs.toArray) w := by simp [callFunc, hf, h1, hb]
  rw [hrun]
  refine calls_of_wp hf hb ?_
  refine aw_sound hm F.body c _ _ w M I H (argFr 0 args) _ hc hS (argFr_rel hS hA) h ?_
  intro e E fr' H1 a' w' M' I' hG hS' hF' hE hK
  cases e with
  | exit id => exact hK.elim
  | goto l => exact hK.elim
  | pan x => exact hK.elim
  | normal =>
    obtain rfl := hE
    obtain ⟨u, h2, I2, h3, h4, h5⟩ := retF_sound hS hG hS' hF' hr hK
    exact ⟨hF'.defers, u, h2, u, rfl, M', I2, h3, h4, h5⟩
  | ret =>
    obtain rfl := hE
    obtain ⟨u, h2, I2, h3, h4, h5⟩ := retF_sound hS hG hS' hF' hr hK
    exact ⟨hF'.defers, u, h2, u, rfl, M', I2, h3, h4, h5⟩

/-- A function's walk that ends in a panic. -/
theorem goodP_of_af (hm : P.follows .mixedOrders = true) {f : FuncId} {fn : Func} {c : Code} {F : AF} (hf : P.funcs[f]? = some fn) (hname : (fn.name == "runtime.NumGoroutine") = false) (hb : fn.body = some c)
    (hc : chkC P fn.ntmps c F.body = true) {args : List AV} {H : Heap} {x : AV} {H' : Heap} (h : AFunP (Good P GT) GT F args H x H') : Good P GT f (.pan .undef :: args) H x H' := by
  show GoodP P GT f args H x H'
  intro w M I cargs hS hA
  have h1 : fn.name ≠ "runtime.NumGoroutine" := by simpa using hname
  have hrun : (callFunc f cargs.toArray).run P w = .ok (.enter f cargs.toArray) w := by simp [callFunc, hf, h1, hb]
  rw [hrun]
  refine calls_of_wp hf hb ?_
  refine aw_sound hm F.body c _ _ w M I H (argFr 0 args) _ hc hS (argFr_rel hS hA) h ?_
  intro e E fr' H1 a' w' M' I' hG hS' hF' hE hK
  cases e with
  | pan x0 =>
    obtain ⟨xv, rfl, hr⟩ := hE
    obtain ⟨I2, h3, h4, h5⟩ := panF_sound hS hG hS' hr hK
    exact ⟨hF'.defers, xv, rfl, M', I2, h3, h4, h5⟩
  | _ => exact hK.elim

end
end Go.AM

/- The abstract machine, part 19: rules for proofs about abstract code. Own work. -/
set_option linter.all false
namespace Go.AM

section
variable {C : CSpec} {GT : Nat → Option AV}

theorem stepK_iff {k : AK} {vs : List AV} {H : Heap} {K : AV → Heap → Prop} : stepK C k vs H K ↔ ∃ v H', StepK C k vs H v H' ∧ K v H' := by
  constructor
  · exact stepK_of
  · rintro ⟨v, H', h, hk⟩
    cases k
    case call f rd => exact ⟨v, H', h.1, h.2, hk⟩
    case callv rd =>
      simp only [StepK] at h
      split at h
      · exact ⟨v, H', h.1, h.2, hk⟩
      · exact h.elim
    all_goals
      simp only [StepK] at h
      simp only [stepK]
      rw [h]
      exact hk

theorem AWops_of_cons {i : AI} {is : List AI} {fr : Fr} {H : Heap} {K : Fr → Heap → Prop} {v : AV} {H' : Heap} (h : AYields C GT i (get fr) H v H') (h2 : AWops C GT is (put fr i.dst v) H' K) : AWops C GT (i :: is) fr H K := by
  unfold AYields at h
  unfold AWops
  split at h
  · rename_i hg
    rw [hg]
    exact stepK_iff.2 ⟨v, H', by rw [ev_eq]; exact h, h2⟩
  · rename_i s want hg
    rw [hg]
    obtain ⟨b, hb, h⟩ := h
    simp only [hb]
    split at h
    · rename_i hw
      rw [if_pos hw]
      exact stepK_iff.2 ⟨v, H', by rw [ev_eq]; exact h, h2⟩
    · rename_i hw
      rw [if_neg hw]
      obtain ⟨rfl, rfl⟩ := h
      exact h2

theorem stepKP_iff {k : AK} {vs : List AV} {H : Heap} {K KP : AV → Heap → Prop} : stepKP C k vs H K KP ↔ (∃ v H', StepK C k.plainK vs H v H' ∧ K v H') ∨ (∃ x H', StepP C k vs H x H' ∧ KP x H') := by
  constructor
  · exact stepKP_of
  · intro h
    cases k
    case callp f =>
      rcases h with ⟨v, H', h1, h2⟩ | ⟨x, H', h1, h2⟩
      · exact .inl ⟨v, H', h1.1, h2⟩
      · exact .inr ⟨x, H', h1, h2⟩
    case callvp =>
      rcases h with ⟨v, H', h1, h2⟩ | ⟨x, H', h1, h2⟩
      · simp only [AK.plainK, StepK] at h1
        simp only [stepKP]
        split at h1
        · exact .inl ⟨v, H', h1.1, h2⟩
        · exact h1.elim
      · simp only [StepP] at h1
        simp only [stepKP]
        split at h1
        · exact .inr ⟨x, H', h1, h2⟩
        · exact h1.elim
    case panic =>
      rcases h with ⟨v, H', h1, h2⟩ | ⟨x, H', h1, h2⟩
      · simp [AK.plainK, StepK, astep] at h1
      · obtain ⟨t, y, rfl, rfl, rfl⟩ := h1
        exact h2
    all_goals
      rcases h with ⟨v, H', h1, h2⟩ | ⟨x, H', h1, h2⟩
      · exact stepK_iff.2 ⟨v, H', h1, h2⟩
      · exact h1.elim

/-! ### A code has finitely many outcomes -/

def AllK (K : Post) (os : List (AE × Fr × Heap)) : Prop := ∀ o ∈ os, K o.1 o.2.1 o.2.2

def Fin' (F : Post → Fr → Heap → Prop) : Prop := ∀ K fr H, F K fr H → ∃ os, AllK K os ∧ ∀ K', AllK K' os → F K' fr H

theorem AllK.one {K : Post} {e : AE} {fr : Fr} {H : Heap} (h : K e fr H) : AllK K [(e, fr, H)] := by
  intro o ho
  obtain rfl := List.mem_singleton.1 ho
  exact h
theorem AllK.get {K : Post} {e : AE} {fr : Fr} {H : Heap} (h : AllK K [(e, fr, H)]) : K e fr H := h _ (List.mem_singleton.2 rfl)

theorem fin_bind {F : Post → Fr → Heap → Prop} (hF : Fin' F) {T : Post → Post} (hT : ∀ K e fr H, T K e fr H → ∃ l, AllK K l ∧ ∀ K', AllK K' l → T K' e fr H) : Fin' fun K fr H => F (T K) fr H := by
  classical
  intro K fr H h
  obtain ⟨os, h1, h2⟩ := hF _ fr H h
  have hc : ∀ o : AE × Fr × Heap, ∃ l : List (AE × Fr × Heap), o ∈ os → (AllK K l ∧ ∀ K', AllK K' l → T K' o.1 o.2.1 o.2.2) := fun o => by
    by_cases ho : o ∈ os
    · obtain ⟨l, a, b⟩ := hT K _ _ _ (h1 o ho)
      exact ⟨l, fun _ => ⟨a, b⟩⟩
    · exact ⟨[], fun h => absurd h ho⟩
  obtain ⟨f, hf⟩ := Classical.axiomOfChoice hc
  refine ⟨os.flatMap f, fun o ho => ?_, fun K' hK => h2 _ fun o ho => (hf o ho).2 K' fun o' ho' => hK o' (List.mem_flatMap.2 ⟨o, ho, ho'⟩)⟩
  obtain ⟨o1, ho1, ho2⟩ := List.mem_flatMap.1 ho
  exact (hf o1 ho1).1 o ho2

theorem fin_pass {K : Post} {e : AE} {fr : Fr} {H : Heap} {T : Post → Prop} (ht : ∀ K', T K' ↔ K' e fr H) (h : T K) : ∃ l, AllK K l ∧ ∀ K', AllK K' l → T K' :=
  ⟨[(e, fr, H)], .one ((ht K).1 h), fun K' hk => (ht K').2 hk.get⟩

theorem ops_fin : ∀ (is : List AI), Fin' fun K fr H => AWops C GT is fr H fun fr' H' => K .normal fr' H'
  | [] => fun K fr H h => ⟨[(.normal, fr, H)], .one h, fun K' hk => hk.get⟩
  | i :: is => fun K fr H h => by
    obtain ⟨v, H1, h1, h2⟩ := AWops_cons h
    obtain ⟨os, h3, h4⟩ := ops_fin is K _ _ h2
    exact ⟨os, h3, fun K' hk => AWops_of_cons h1 (h4 K' hk)⟩

theorem awt_of_step {is : List AI} {j : Nat} {t : OT} {fr : Fr} {H : Heap} {K : Fr → Heap → Prop} {KP : AV → Heap → Prop} {i : AI} (hi : is[j]? = some i)
    (h : (∃ v H', AYields C GT i.plain (get fr) H v H' ∧ AWT C GT is t (put fr i.dst v) H' K KP) ∨ (∃ x H', AYieldsP C GT i (get fr) H x H' ∧ KP x H')) : AWT C GT is (.step j t) fr H K KP := by
  unfold AWT
  simp only [hi]
  unfold AYields AYieldsP at h
  cases hg : i.g with
  | none =>
    simp only [AI.plain, hg] at h ⊢
    rw [← ev_eq] at h
    exact stepKP_iff.2 h
  | some sw =>
    obtain ⟨s, want⟩ := sw
    simp only [AI.plain, hg] at h ⊢
    rw [← ev_eq] at h
    rcases h with ⟨v, H', ⟨b, hb, h⟩, h2⟩ | ⟨x, H', ⟨hb, h⟩, h2⟩
    · simp only [hb]
      split at h
      · rename_i hbt
        rw [if_pos hbt]
        exact stepKP_iff.2 (.inl ⟨v, H', h, h2⟩)
      · rename_i hbt
        rw [if_neg hbt]
        obtain ⟨rfl, rfl⟩ := h
        exact h2
    · simp only [hb]
      rw [if_pos trivial]
      exact stepKP_iff.2 (.inr ⟨x, H', h, h2⟩)

theorem awt_fin (is : List AI) : ∀ (t : OT), Fin' fun K fr H => AWT C GT is t fr H (fun fr' H' => K .normal fr' H') (fun x H' => K (.pan x) [] H')
  | .done => fun K fr H h => ⟨[(.normal, fr, H)], .one h, fun K' hk => hk.get⟩
  | .step j t => fun K fr H h => by
    obtain ⟨i, hi, h1⟩ := AWT_step h
    rcases h1 with ⟨v, H', h1, h2⟩ | ⟨x, H', h1, h2⟩
    · obtain ⟨os, h3, h4⟩ := awt_fin is t K _ _ h2
      exact ⟨os, h3, fun K' hk => awt_of_step hi (.inl ⟨v, H', h1, h4 K' hk⟩)⟩
    · exact ⟨[(.pan x, [], H')], .one h2, fun K' hk => awt_of_step hi (.inr ⟨x, H', h1, hk.get⟩)⟩
  | .alt a b => fun K fr H h => by
    obtain ⟨o1, a1, a2⟩ := awt_fin is a K fr H h.1
    obtain ⟨o2, b1, b2⟩ := awt_fin is b K fr H h.2
    exact ⟨o1 ++ o2, fun o ho => (List.mem_append.1 ho).elim (a1 o) (b1 o), fun K' hk => ⟨a2 K' fun o ho => hk o (List.mem_append_left _ ho), b2 K' fun o ho => hk o (List.mem_append_right _ ho)⟩⟩

theorem loopW_fin {F : Post → Fr → Heap → Prop} (hF : Fin' F) (L : List Nat) : ∀ m, Fin' fun K fr H => loopW F L K m fr H
  | 0 => fun K fr H h => h.elim
  | m + 1 => fin_bind hF fun K e fr H h => by
    cases e with
    | normal => exact loopW_fin hF L m K _ _ h
    | _ => exact fin_pass (T := fun K' => K' _ fr H) (fun K' => Iff.rfl) h

theorem gotoW_fin {F : Post → Fr → Heap → Prop} (hF : Fin' F) (L : List Nat) (l : Nat) : ∀ m, Fin' fun K fr H => gotoW F L l K m fr H
  | 0 => fun K fr H h => h.elim
  | m + 1 => fin_bind hF fun K e fr H h => by
    cases e with
    | goto l' =>
      obtain ⟨os, h1, h2⟩ := gotoW_fin hF L l m K _ _ h.2
      exact ⟨os, h1, fun K' hk => ⟨h.1, h2 K' hk⟩⟩
    | _ => exact fin_pass (T := fun K' => K' _ fr H) (fun K' => Iff.rfl) h

theorem aw_fin : ∀ (ac : AC), Fin' (AW C GT ac) := by
  intro ac
  induction ac with
  | skip => exact fun K fr H h => ⟨[(.normal, fr, H)], .one h, fun K' hk => hk.get⟩
  | label => exact fun K fr H h => ⟨[(.normal, fr, H)], .one h, fun K' hk => hk.get⟩
  | ret => exact fun K fr H h => ⟨[(.ret, fr, H)], .one h, fun K' hk => hk.get⟩
  | exit id => exact fun K fr H h => ⟨[(.exit id, fr, H)], .one h, fun K' hk => hk.get⟩
  | goto l => exact fun K fr H h => ⟨[(.goto l, fr, H)], .one h, fun K' hk => hk.get⟩
  | stuck => exact fun K fr H h => h.elim
  | reg L d is => exact fun K fr H h => ops_fin is K _ H h
  | regt L d is t => exact fun K fr H h => awt_fin is t K _ H h
  | seq a b iha ihb =>
    exact fin_bind iha (T := fun K => seqK (AW C GT b K) K) fun K e fr H h => by
      cases e with
      | normal => exact ihb K fr H h
      | _ => exact fin_pass (T := fun K' => K' _ fr H) (fun K' => Iff.rfl) h
  | cond c a b iha ihb =>
    intro K fr H h
    unfold AW at h
    split at h
    · rename_i t ht
      have e : ∀ K', AW C GT (.cond c a b) K' fr H = if t = true then AW C GT a K' (learn fr c true) H else AW C GT b K' (learn fr c false) H := fun K' => by simp only [AW, ht]
      split at h
      · rename_i htt
        obtain ⟨os, h1, h2⟩ := iha _ _ _ h
        exact ⟨os, h1, fun K' hk => by rw [e, if_pos htt]; exact h2 K' hk⟩
      · rename_i htt
        obtain ⟨os, h1, h2⟩ := ihb _ _ _ h
        exact ⟨os, h1, fun K' hk => by rw [e, if_neg htt]; exact h2 K' hk⟩
    · exact h.elim
  | block id L c ih =>
    exact fin_bind ih (T := blockK id L) fun K e fr H h => by
      cases e with
      | normal => exact fin_pass (T := fun K' => K' .normal (restrict fr L) H) (fun K' => Iff.rfl) h
      | exit j =>
        simp only [blockK] at h ⊢
        by_cases hj : j = id
        · simp only [hj, if_true] at h ⊢
          exact fin_pass (T := fun K' => K' .normal (restrict fr L) H) (fun K' => Iff.rfl) h
        · simp only [hj, if_false] at h ⊢
          exact fin_pass (T := fun K' => K' (.exit j) fr H) (fun K' => Iff.rfl) h
      | _ => exact fin_pass (T := fun K' => K' _ fr H) (fun K' => Iff.rfl) h
  | loop L c ih =>
    intro K fr H h
    obtain ⟨m, h⟩ := h
    obtain ⟨os, h1, h2⟩ := loopW_fin ih L m K _ H h
    exact ⟨os, h1, fun K' hk => ⟨m, h2 K' hk⟩⟩
  | scope L l c r ihc ihr =>
    exact fin_bind ihc (T := fun K => jumpK l (fun fr' H' => ∃ m, gotoW (AW C GT r) L l K m (restrict fr' L) H') K) fun K e fr H h => by
      cases e with
      | goto l' =>
        obtain ⟨hl, m, hg⟩ := h
        obtain ⟨os, h1, h2⟩ := gotoW_fin ihr L l m K _ H hg
        exact ⟨os, h1, fun K' hk => ⟨hl, m, h2 K' hk⟩⟩
      | _ => exact fin_pass (T := fun K' => K' _ fr H) (fun K' => Iff.rfl) h

theorem aw_mono {ac : AC} {K K' : Post} {fr : Fr} {H : Heap} (h : AW C GT ac K fr H) (hk : ∀ e fr H, K e fr H → K' e fr H) : AW C GT ac K' fr H := by
  obtain ⟨os, h1, h2⟩ := aw_fin ac K fr H h
  exact h2 K' fun o ho => hk _ _ _ (h1 o ho)

/-! ### Where no order matters a code has one outcome -/

def detT : OT → Bool
  | .done => true
  | .step _ t => detT t
  | .alt _ _ => false
def det : AC → Bool
  | .seq a b => det a && det b
  | .cond _ a b => det a && det b
  | .block _ _ c => det c
  | .loop _ c => det c
  | .regt _ _ _ t => detT t
  | .scope _ _ c r => det c && det r
  | _ => true

def One (F : Post → Fr → Heap → Prop) : Prop := ∀ K fr H, F K fr H → ∃ e fr' H', K e fr' H' ∧ ∀ K' : Post, K' e fr' H' → F K' fr H

theorem one_bind {F : Post → Fr → Heap → Prop} (hF : One F) {T : Post → Post} (hT : ∀ K e fr H, T K e fr H → ∃ e' fr' H', K e' fr' H' ∧ ∀ K' : Post, K' e' fr' H' → T K' e fr H) : One fun K fr H => F (T K) fr H := by
  intro K fr H h
  obtain ⟨e, fr1, H1, h1, h2⟩ := hF _ fr H h
  obtain ⟨e', fr', H', h3, h4⟩ := hT K e fr1 H1 h1
  exact ⟨e', fr', H', h3, fun K' hk => h2 _ (h4 K' hk)⟩

theorem ops_one : ∀ (is : List AI), One fun K fr H => AWops C GT is fr H fun fr' H' => K .normal fr' H'
  | [] => fun K fr H h => ⟨.normal, fr, H, h, fun K' hk => hk⟩
  | i :: is => fun K fr H h => by
    obtain ⟨v, H1, h1, h2⟩ := AWops_cons h
    obtain ⟨e, fr', H', h3, h4⟩ := ops_one is K _ _ h2
    exact ⟨e, fr', H', h3, fun K' hk => AWops_of_cons h1 (h4 K' hk)⟩

theorem awt_one (is : List AI) : ∀ (t : OT), detT t = true → One fun K fr H => AWT C GT is t fr H (fun fr' H' => K .normal fr' H') (fun x H' => K (.pan x) [] H')
  | .done, _ => fun K fr H h => ⟨.normal, fr, H, h, fun K' hk => hk⟩
  | .step j t, hd => fun K fr H h => by
    obtain ⟨i, hi, h1⟩ := AWT_step h
    rcases h1 with ⟨v, H', h1, h2⟩ | ⟨x, H', h1, h2⟩
    · obtain ⟨e, fr', H2, h3, h4⟩ := awt_one is t hd K _ _ h2
      exact ⟨e, fr', H2, h3, fun K' hk => awt_of_step hi (.inl ⟨v, H', h1, h4 K' hk⟩)⟩
    · exact ⟨.pan x, [], H', h2, fun K' hk => awt_of_step hi (.inr ⟨x, H', h1, hk⟩)⟩
  | .alt _ _, hd => by simp [detT] at hd

theorem loopW_one {F : Post → Fr → Heap → Prop} (hF : One F) (L : List Nat) : ∀ m, One fun K fr H => loopW F L K m fr H
  | 0 => fun K fr H h => h.elim
  | m + 1 => one_bind hF fun K e fr H h => by
    cases e with
    | normal => exact loopW_one hF L m K _ _ h
    | _ => exact ⟨_, fr, H, h, fun K' hk => hk⟩

theorem gotoW_one {F : Post → Fr → Heap → Prop} (hF : One F) (L : List Nat) (l : Nat) : ∀ m, One fun K fr H => gotoW F L l K m fr H
  | 0 => fun K fr H h => h.elim
  | m + 1 => one_bind hF fun K e fr H h => by
    cases e with
    | goto l' =>
      obtain ⟨e, fr', H', h1, h2⟩ := gotoW_one hF L l m K _ _ h.2
      exact ⟨e, fr', H', h1, fun K' hk => ⟨h.1, h2 K' hk⟩⟩
    | _ => exact ⟨_, fr, H, h, fun K' hk => hk⟩

theorem aw_atomic : ∀ (ac : AC), det ac = true → One (AW C GT ac) := by
  intro ac
  induction ac with
  | skip => exact fun _ K fr H h => ⟨.normal, fr, H, h, fun K' hk => hk⟩
  | label => exact fun _ K fr H h => ⟨.normal, fr, H, h, fun K' hk => hk⟩
  | ret => exact fun _ K fr H h => ⟨.ret, fr, H, h, fun K' hk => hk⟩
  | exit id => exact fun _ K fr H h => ⟨.exit id, fr, H, h, fun K' hk => hk⟩
  | goto l => exact fun _ K fr H h => ⟨.goto l, fr, H, h, fun K' hk => hk⟩
  | stuck => exact fun _ K fr H h => h.elim
  | reg L d is => exact fun _ K fr H h => ops_one is K _ H h
  | regt L d is t => exact fun hd K fr H h => awt_one is t hd K _ H h
  | seq a b iha ihb =>
    intro hd
    simp only [det, Bool.and_eq_true] at hd
    exact one_bind (iha hd.1) (T := fun K => seqK (AW C GT b K) K) fun K e fr H h => by
      cases e with
      | normal => exact ihb hd.2 K fr H h
      | _ => exact ⟨_, fr, H, h, fun K' hk => hk⟩
  | cond c a b iha ihb =>
    intro hd K fr H h
    simp only [det, Bool.and_eq_true] at hd
    unfold AW at h
    split at h
    · rename_i t ht
      have e : ∀ K', AW C GT (.cond c a b) K' fr H = if t = true then AW C GT a K' (learn fr c true) H else AW C GT b K' (learn fr c false) H := fun K' => by simp only [AW, ht]
      split at h
      · rename_i htt
        obtain ⟨e1, fr', H', h1, h2⟩ := iha hd.1 _ _ _ h
        exact ⟨e1, fr', H', h1, fun K' hk => by rw [e, if_pos htt]; exact h2 K' hk⟩
      · rename_i htt
        obtain ⟨e1, fr', H', h1, h2⟩ := ihb hd.2 _ _ _ h
        exact ⟨e1, fr', H', h1, fun K' hk => by rw [e, if_neg htt]; exact h2 K' hk⟩
    · exact h.elim
  | block id L c ih =>
    intro hd
    exact one_bind (ih hd) (T := blockK id L) fun K e fr H h => by
      cases e with
      | normal => exact ⟨.normal, restrict fr L, H, h, fun K' hk => hk⟩
      | exit j =>
        simp only [blockK] at h ⊢
        by_cases hj : j = id
        · simp only [hj, if_true] at h ⊢
          exact ⟨.normal, restrict fr L, H, h, fun K' hk => hk⟩
        · simp only [hj, if_false] at h ⊢
          exact ⟨.exit j, fr, H, h, fun K' hk => hk⟩
      | _ => exact ⟨_, fr, H, h, fun K' hk => hk⟩
  | loop L c ih =>
    intro hd K fr H h
    obtain ⟨m, h⟩ := h
    obtain ⟨e, fr', H', h1, h2⟩ := loopW_one (ih hd) L m K _ H h
    exact ⟨e, fr', H', h1, fun K' hk => ⟨m, h2 K' hk⟩⟩
  | scope L l c r ihc ihr =>
    intro hd
    simp only [det, Bool.and_eq_true] at hd
    exact one_bind (ihc hd.1) (T := fun K => jumpK l (fun fr' H' => ∃ m, gotoW (AW C GT r) L l K m (restrict fr' L) H') K) fun K e fr H h => by
      cases e with
      | goto l' =>
        obtain ⟨hl, m, hg⟩ := h
        obtain ⟨e, fr', H', h1, h2⟩ := gotoW_one (ihr hd.2) L l m K _ H hg
        exact ⟨e, fr', H', h1, fun K' hk => ⟨hl, m, h2 K' hk⟩⟩
      | _ => exact ⟨_, fr, H, h, fun K' hk => hk⟩

/-- A loop, behind its cut of the frame. -/
def AWL (C : CSpec) (GT : Nat → Option AV) (L : List Nat) (c : AC) (K : Post) (fr : Fr) (H : Heap) : Prop := ∃ m, loopW (AW C GT c) L K m fr H

def loopK (F : Fr → Heap → Prop) (L : List Nat) (K : Post) : Post := fun e fr H => match e with
  | .normal => F (restrict fr L) H
  | e => K e fr H

theorem loopW_mono {L : List Nat} {c : AC} {K K' : Post} (hk : ∀ e fr H, K e fr H → K' e fr H) : ∀ (m n : Nat) (fr : Fr) (H : Heap), m ≤ n → loopW (AW C GT c) L K m fr H → loopW (AW C GT c) L K' n fr H
  | 0, _, _, _, _, h => h.elim
  | m + 1, 0, _, _, hl, _ => absurd hl (by omega)
  | m + 1, n + 1, fr, H, hl, h => aw_mono h fun e fr H h => by
    cases e with
    | normal => exact loopW_mono hk m n _ H (by omega) h
    | _ => exact hk _ _ _ h

theorem awl_step {L : List Nat} {c : AC} {K : Post} {fr : Fr} {H : Heap} (h : AW C GT c (loopK (AWL C GT L c K) L K) fr H) : AWL C GT L c K fr H := by
  obtain ⟨os, h1, h2⟩ := aw_fin c _ _ _ h
  have key : ∀ os : List (AE × Fr × Heap), AllK (loopK (AWL C GT L c K) L K) os → ∃ m, AllK (loopK (fun fr H => loopW (AW C GT c) L K m fr H) L K) os := by
    intro os
    induction os with
    | nil => intro _; exact ⟨0, fun o ho => by cases ho⟩
    | cons o os ih =>
      intro h
      obtain ⟨m, hm⟩ := ih fun o' ho' => h o' (List.mem_cons_of_mem _ ho')
      have ho := h o (by simp)
      obtain ⟨e, fr, H⟩ := o
      have up : ∀ (m n : Nat), m ≤ n → ∀ e fr H, loopK (fun fr H => loopW (AW C GT c) L K m fr H) L K e fr H → loopK (fun fr H => loopW (AW C GT c) L K n fr H) L K e fr H := by
        intro m n hmn e fr H h
        cases e with
        | normal => exact loopW_mono (fun _ _ _ h => h) m n _ _ hmn h
        | _ => exact h
      cases e with
      | normal =>
        obtain ⟨n, hn⟩ := ho
        refine ⟨max m n, fun o' ho' => ?_⟩
        rcases List.mem_cons.1 ho' with rfl | ho'
        · exact loopW_mono (fun _ _ _ h => h) n _ _ _ (by omega) hn
        · exact up m _ (by omega) _ _ _ (hm o' ho')
      | _ =>
        refine ⟨m, fun o' ho' => ?_⟩
        rcases List.mem_cons.1 ho' with rfl | ho'
        · exact ho
        · exact hm o' ho'
  obtain ⟨m, hm⟩ := key os h1
  refine ⟨m + 1, ?_⟩
  exact aw_mono (h2 _ hm) fun e fr H h => by
    cases e with
    | normal => exact h
    | _ => exact h

theorem awl_mono {L : List Nat} {c : AC} {K K' : Post} {fr : Fr} {H : Heap} (h : AWL C GT L c K fr H) (hk : ∀ e fr H, K e fr H → K' e fr H) : AWL C GT L c K' fr H := by
  obtain ⟨m, h⟩ := h
  exact ⟨m, loopW_mono hk m m _ _ (Nat.le_refl _) h⟩

/-! ### One step at a time, for simp -/

variable {K : Post} {fr : Fr} {H : Heap}

theorem AW_skip : AW C GT .skip K fr H = K .normal fr H := rfl
theorem AW_ret : AW C GT .ret K fr H = K .ret fr H := rfl
theorem AW_exit {id : Nat} : AW C GT (.exit id) K fr H = K (.exit id) fr H := rfl
theorem AW_seq {a b : AC} : AW C GT (.seq a b) K fr H = AW C GT a (seqK (AW C GT b K) K) fr H := rfl
theorem AW_reg {L : List Nat} {d : Bool} {is : List AI} : AW C GT (.reg L d is) K fr H = AWops C GT is (restrict fr L) H fun fr' H' => K .normal fr' H' := rfl
theorem AW_regt {L : List Nat} {d : Bool} {is : List AI} {t : OT} : AW C GT (.regt L d is t) K fr H = AWT C GT is t (restrict fr L) H (fun fr' H' => K .normal fr' H') (fun x H' => K (.pan x) [] H') := rfl
theorem AW_goto {l : Nat} : AW C GT (.goto l) K fr H = K (.goto l) fr H := rfl
theorem AW_label : AW C GT .label K fr H = K .normal fr H := rfl
theorem AW_scope {L : List Nat} {l : Nat} {c r : AC} : AW C GT (.scope L l c r) K fr H = AW C GT c (jumpK l (fun fr' H' => ∃ m, gotoW (AW C GT r) L l K m (restrict fr' L) H') K) fr H := rfl
theorem AW_block {id : Nat} {L : List Nat} {c : AC} : AW C GT (.block id L c) K fr H = AW C GT c (blockK id L K) fr H := rfl
theorem AW_loop {L : List Nat} {c : AC} : AW C GT (.loop L c) K fr H = AWL C GT L c K (restrict fr L) H := rfl
theorem AW_cond {c : Opd} {a b : AC} {t : Bool} (h : ev GT fr c = .bool t) : AW C GT (.cond c a b) K fr H = if t = true then AW C GT a K (learn fr c true) H else AW C GT b K (learn fr c false) H := by
  simp only [AW, h]

theorem AWops_nil {K : Fr → Heap → Prop} : AWops C GT [] fr H K = K fr H := rfl
theorem AWops_free {K : Fr → Heap → Prop} {d : Option Nat} {k : AK} {xs : List Opd} {is : List AI} :
    AWops C GT (⟨d, none, k, xs⟩ :: is) fr H K = stepK C k (xs.map (ev GT fr)) H fun v H' => AWops C GT is (put fr d v) H' K := rfl
theorem AWops_guard {K : Fr → Heap → Prop} {d : Option Nat} {k : AK} {xs : List Opd} {is : List AI} {s : Nat} {want b : Bool} (h : get fr s = .bool b) :
    AWops C GT (⟨d, some (s, want), k, xs⟩ :: is) fr H K = if (b == want) = true then stepK C k (xs.map (ev GT fr)) H fun v H' => AWops C GT is (put fr d v) H' K else AWops C GT is (put fr d (.tup [])) H K := by
  simp only [AWops, h, gd]

end

/-- What is to be checked of a function, in one. -/
def chkF (P : Program) (f : FuncId) (F : AF) : Bool :=
  match P.funcs[f]? with
  | some fn => !(fn.name == "runtime.NumGoroutine") && (match fn.body with
    | some c => chkC P fn.ntmps c F.body && chkR P fn.results.toList F.results
    | none => false)
  | none => false

theorem good_of_chk {P : Program} {GT : Nat → Option AV} (hm : P.follows .mixedOrders = true) {f : FuncId} {F : AF} (hc : chkF P f F = true) {args : List AV} {H : Heap} {v : AV} {H' : Heap} (h : AFun (Good P GT) GT F args H v H') (hn : noPan args = true) : Good P GT f args H v H' := by
  unfold chkF at hc
  split at hc
  · rename_i fn hf
    simp only [Bool.and_eq_true, Bool.not_eq_true'] at hc
    obtain ⟨h1, hc⟩ := hc
    split at hc
    · rename_i c hb
      simp only [Bool.and_eq_true] at hc
      exact good_of_af hm hf h1 hb hc.1 hc.2 hn h
    · cases hc
  · cases hc

theorem goodP_of_chk {P : Program} {GT : Nat → Option AV} (hm : P.follows .mixedOrders = true) {f : FuncId} {F : AF} (hc : chkF P f F = true) {args : List AV} {H : Heap} {x : AV} {H' : Heap} (h : AFunP (Good P GT) GT F args H x H') : Good P GT f (.pan .undef :: args) H x H' := by
  unfold chkF at hc
  split at hc
  · rename_i fn hf
    simp only [Bool.and_eq_true, Bool.not_eq_true'] at hc
    obtain ⟨h1, hc⟩ := hc
    split at hc
    · rename_i c hb
      simp only [Bool.and_eq_true] at hc
      exact goodP_of_af hm hf h1 hb hc.1 h
    · cases hc
  · cases hc

end Go.AM
