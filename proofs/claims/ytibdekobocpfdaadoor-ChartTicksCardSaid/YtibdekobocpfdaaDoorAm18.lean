/- The abstract machine, part 18: functions. Own work. -/
import Derived.Test.YtibdekobocpfdaaDoorAm17
set_option linter.all false
namespace Go.AM

theorem get_argFr : ∀ (i : Nat) (vs : List AV) (t : Nat), get (argFr i vs) t = if i ≤ t then vs.getD (t - i) .undef else .undef
  | _, [], t => by simp [argFr, get]
  | i, v :: vs, t => by
    simp only [argFr, get]
    rw [get_argFr (i + 1) vs t]
    by_cases h : i = t
    · subst h; simp
    · simp only [h, if_false]
      by_cases h2 : i ≤ t
      · rw [if_pos h2, if_pos (by omega), show t - i = (t - (i + 1)) + 1 by omega]; simp
      · rw [if_neg h2, if_neg (by omega)]

def chkR (P : Program) : List ResultVar → List ARes → Bool
  | [], [] => true
  | .tmp t :: rs, .tmp t' :: qs => t == t' && chkR P rs qs
  | .cell a ty :: rs, .cell a' s ag :: qs => a == a' && sizeB P ty == some s && aggB P ty == some ag && chkR P rs qs
  | _, _ => false

section
variable {P : Program} {GT : Nat → Option AV} {w : World} {M : AMap} {I : Nat → Prop} {H : Heap}

theorem results_sound (hS : Sim GT w M I H) {N : Nat} {fr : Fr} {a : Act} (hF : ActOK w M I H.length N (get fr) a) : ∀ (rs : List ResultVar) (qs : List ARes) (vs : List AV), chkR P rs qs = true → resAll fr H qs = some vs →
    ∃ us, (rs.mapM (m := Sem) fun
      | .tmp t => pure (a.tmps.getD t Go.undef)
      | .cell b t => do loadVar t (← asAddr (a.tmps.getD b Go.undef))).run P w = .ok us w ∧ RelL w M I H.length vs us
  | [], [], vs, _, h => by
    simp only [resAll, Option.some.injEq] at h
    subst h
    exact ⟨[], by simp, rfl, by simp⟩
  | .tmp t :: rs, .tmp t' :: qs, vs, hc, h => by
    simp only [chkR, Bool.and_eq_true, beq_iff_eq] at hc
    obtain ⟨rfl, hc⟩ := hc
    simp only [resAll, resOf] at h
    split at h
    · rename_i v vs' h1 h2
      cases h
      obtain ⟨us, hr, hl, hR⟩ := results_sound hS hF rs qs vs' hc h2
      cases h1
      refine ⟨a.tmps.getD t Go.undef :: us, by simp only [List.mapM_cons, Sem.run_bind, Sem.run_pure, Result.andThen_ok, hr], by simp [hl], fun i c u hi hu => ?_⟩
      cases i with
      | zero => simp at hi hu; subst hi; have := hF.rel t; simp at this; rw [hu] at this; exact this
      | succ i => exact hR i c u (by simpa using hi) (by simpa using hu)
    · cases h
  | .cell b ty :: rs, .cell b' s ag :: qs, vs, hc, h => by
    simp only [chkR, Bool.and_eq_true, beq_iff_eq] at hc
    obtain ⟨⟨⟨rfl, hc1⟩, hc2⟩, hc⟩ := hc
    simp only [resAll, resOf] at h
    split at h
    · rename_i v vs' h1 h2
      cases h
      obtain ⟨us, hr, hl, hR⟩ := results_sound hS hF rs qs vs' hc h2
      split at h1
      · rename_i cs o hp
        obtain ⟨g, ad, hv, hcells⟩ := ptr_sound hS (hF.rel b) hp
        obtain ⟨u, hu, hru⟩ := loadVar_sound (P := P) hc1 hc2 h1 hcells
        refine ⟨u :: us, ?_, by simp [hl], fun i c u' hi hu' => ?_⟩
        · have ha : (asAddr (a.tmps.getD b Go.undef)).run P w = .ok ⟨g, ad, none⟩ w := by rw [hv]; simp [asAddr]
          simp only [List.mapM_cons, Sem.run_bind, Sem.run_pure, Result.andThen_ok, ha, hu, hr]
        · cases i with
          | zero => simp at hi hu'; subst hi hu'; exact hru
          | succ i => exact hR i c u' (by simpa using hi) (by simpa using hu')
      · cases h1
    · cases h
  | [], _ :: _, _, hc, _ => by simp [chkR] at hc
  | .tmp _ :: _, [], _, hc, _ => by simp [chkR] at hc
  | .cell _ _ :: _, [], _, hc, _ => by simp [chkR] at hc
  | .tmp _ :: _, .cell .. :: _, _, hc, _ => by simp [chkR] at hc
  | .cell _ _ :: _, .tmp _ :: _, _, hc, _ => by simp [chkR] at hc

theorem tupled_rel {n : Nat} {vs : List AV} {us : List Value} (h : RelL w M I n vs us) : Rel w M I n (tupled vs) (if h : us.toArray.size = 1 then us.toArray[0] else .tuple us.toArray) := by
  obtain ⟨hl, hR⟩ := h
  match vs, us, hl with
  | [], [], _ => exact Rel.tup [] [] rfl (by simp)
  | [v], [u], _ => simpa [tupled] using hR 0 v u rfl rfl
  | v :: v' :: vs, u :: u' :: us, hl => simpa [tupled] using Rel.tup _ _ hl hR

theorem retF_sound {F : AF} {w0 : World} {M0 : AMap} {I0 : Nat → Prop} {H0 : Heap} (hS0 : Sim GT w0 M0 I0 H0) (hG : Grow w0 M0 I0 H0 w M I H) (hS : Sim GT w M I H) {N : Nat} {fr : Fr} {a : Act} (hF : ActOK w M I H.length N (get fr) a)
    {fn : Func} (hc : chkR P fn.results.toList F.results = true) {v : AV} {H' : Heap} (h : retF F H0 fr H v H') :
    ∃ u, (results fn a.tmps).run P w = .ok u w ∧ ∃ I', Grow w0 M0 I0 H0 w M I' H' ∧ Sim GT w M I' H' ∧ Rel w M I' H'.length v u := by
  unfold retF at h
  split at h
  · exact h.elim
  · rename_i vs hvs
    obtain ⟨us, hr, hR⟩ := results_sound (P := P) hS hF _ _ vs hc hvs
    have hT := tupled_rel hR
    refine ⟨if h : us.toArray.size = 1 then us.toArray[0] else .tuple us.toArray, ?_, ?_⟩
    case refine_2 =>
      split at h
      · obtain ⟨rfl, rfl⟩ := h
        exact ⟨I, hG, hS, hT⟩
      · split at h
        · rename_i v' H2 hfz
          obtain ⟨hb, hold, rfl, rfl⟩ := h
          obtain ⟨I', g1, s1, r1, l1, _⟩ := frz_sound _ _ hS hT hfz
          have hG2 := hG.trans g1
          have hlen : H0.length ≤ H2.length := hG2.len
          refine ⟨I', hG2.take, s1.take _ hlen (fun b cs hb hcs => ?_), ?_⟩
          · rcases hold b hb with h1 | ⟨x, h1, h2⟩
            · rw [hcs] at h1
              obtain ⟨g, o, cur, _, _, _, _, h5⟩ := hS0.blk b _ h1.symm
              intro c hcm
              obtain ⟨i, hi⟩ := List.getElem?_of_mem hcm
              obtain ⟨u, _, hu⟩ := h5 i c hi
              exact hu.bel
            · rw [hcs] at h1; cases h1
              simp only [blkBel, AV.belL_iff] at h2
              exact h2
          · have : (H2.take H0.length).length = H0.length := by simp; omega
            rw [this]
            exact r1.cut (fun _ _ => rfl) hb
        · exact h.elim
    case refine_1 =>
      simp only [results]
      rw [Array.mapM_eq_mapM_toList]
      simp only [Sem.run_bind, Sem.run_pure, Result.andThen_ok, map_eq_pure_bind]
      erw [hr]
      simp

theorem panF_sound {F : AF} {w0 : World} {M0 : AMap} {I0 : Nat → Prop} {H0 : Heap} (hS0 : Sim GT w0 M0 I0 H0) (hG : Grow w0 M0 I0 H0 w M I H) (hS : Sim GT w M I H) {x0 x : AV} {xv : Value} (hT : Rel w M I H.length x0 xv) {H' : Heap} (h : panF F H0 x0 H x H') :
    ∃ I', Grow w0 M0 I0 H0 w M I' H' ∧ Sim GT w M I' H' ∧ Rel w M I' H'.length x xv := by
  unfold panF at h
  split at h
  · obtain ⟨rfl, rfl⟩ := h
    exact ⟨I, hG, hS, hT⟩
  · split at h
    · rename_i v' H2 hfz
      obtain ⟨hb, hold, rfl, rfl⟩ := h
      obtain ⟨I', g1, s1, r1, l1, _⟩ := frz_sound _ _ hS hT hfz
      have hG2 := hG.trans g1
      have hlen : H0.length ≤ H2.length := hG2.len
      refine ⟨I', hG2.take, s1.take _ hlen (fun b cs hb hcs => ?_), ?_⟩
      · rcases hold b hb with h1 | ⟨x, h1, h2⟩
        · rw [hcs] at h1
          obtain ⟨g, o, cur, _, _, _, _, h5⟩ := hS0.blk b _ h1.symm
          intro c hcm
          obtain ⟨i, hi⟩ := List.getElem?_of_mem hcm
          obtain ⟨u, _, hu⟩ := h5 i c hi
          exact hu.bel
        · rw [hcs] at h1; cases h1
          simp only [blkBel, AV.belL_iff] at h2
          exact h2
      · have : (H2.take H0.length).length = H0.length := by simp; omega
        rw [this]
        exact r1.cut (fun _ _ => rfl) hb
    · exact h.elim

theorem argFr_rel (hS : Sim GT w M I H) {args : List AV} {cargs : List Value} (hA : RelL w M I H.length args cargs) {n : Nat} : ActOK w M I H.length n (get (argFr 0 args)) { tmps := cargs.toArray ++ Array.replicate (n - cargs.toArray.size) Go.undef, defers := [] } := by
  refine ⟨fun t => ?_, by simp; omega, rfl⟩
  rw [get_argFr]
  simp only [Nat.zero_le, if_true, Nat.sub_zero]
  by_cases ht : t < args.length
  · have h2 : args[t]? = some args[t] := by simp [ht]
    have ht' : t < cargs.length := by rw [← hA.1]; exact ht
    have h3 : cargs[t]? = some cargs[t] := by simp [ht']
    have := hA.2 t _ _ h2 h3
    have e1 : args.getD t .undef = args[t] := by simp [ht]
    rw [e1]
    have e2 : (cargs.toArray ++ Array.replicate (n - cargs.toArray.size) Go.undef).getD t Go.undef = cargs[t] := by
      rw [Array.getD_eq_getD_getElem?, Array.getElem?_append_left (by simpa using ht')]
      simp [ht']
    rw [e2]; exact this
  · have e1 : args.getD t .undef = .undef := by simp [List.getElem?_eq_none (Nat.le_of_not_lt ht)]
    rw [e1]; exact .undef _

/-- A function's walk. -/
theorem good_of_af (hm : P.follows .mixedOrders = true) {f : FuncId} {fn : Func} {c : Code} {F : AF} (hf : P.funcs[f]? = some fn) (hname : (fn.name == "runtime.NumGoroutine") = false) (hb : fn.body = some c)
    (hc : chkC P fn.ntmps c F.body = true) (hr : chkR P fn.results.toList F.results = true) {args : List AV} (hn : noPan args = true) {H : Heap} {v : AV} {H' : Heap} (h : AFun (Good P GT) GT F args H v H') : Good P GT f args H v H' := by
  refine good_of_n hn fun w M I cargs hS hA => ?_
  have h1 : fn.name ≠ "runtime.NumGoroutine" := by simpa using hname
  have hrun : (callFunc f cargs.toArray).run P w = .ok (.enter f cargs.toArray) w := by simp [callFunc, hf, h1, hb]
  rw [hrun]
  refine calls_of_wp hf hb ?_
  refine aw_sound hm F.body c _ _ w M I H (argFr 0 args) _ hc hS (argFr_rel hS hA) h ?_
  intro e E fr' H1 a' w' M' I' hG hS' hF' hE hK
  cases e with
  | exit id => exact hK.elim
  | goto l => exact hK.elim
  | pan x => exact hK.elim
  | normal =>
    obtain rfl := hE
    obtain ⟨u, h2, I2, h3, h4, h5⟩ := retF_sound hS hG hS' hF' hr hK
    exact ⟨hF'.defers, u, h2, u, rfl, M', I2, h3, h4, h5⟩
  | ret =>
    obtain rfl := hE
    obtain ⟨u, h2, I2, h3, h4, h5⟩ := retF_sound hS hG hS' hF' hr hK
    exact ⟨hF'.defers, u, h2, u, rfl, M', I2, h3, h4, h5⟩

/-- A function's walk that ends in a panic. -/
theorem goodP_of_af (hm : P.follows .mixedOrders = true) {f : FuncId} {fn : Func} {c : Code} {F : AF} (hf : P.funcs[f]? = some fn) (hname : (fn.name == "runtime.NumGoroutine") = false) (hb : fn.body = some c)
    (hc : chkC P fn.ntmps c F.body = true) {args : List AV} {H : Heap} {x : AV} {H' : Heap} (h : AFunP (Good P GT) GT F args H x H') : Good P GT f (.pan .undef :: args) H x H' := by
  show GoodP P GT f args H x H'
  intro w M I cargs hS hA
  have h1 : fn.name ≠ "runtime.NumGoroutine" := by simpa using hname
  have hrun : (callFunc f cargs.toArray).run P w = .ok (.enter f cargs.toArray) w := by simp [callFunc, hf, h1, hb]
  rw [hrun]
  refine calls_of_wp hf hb ?_
  refine aw_sound hm F.body c _ _ w M I H (argFr 0 args) _ hc hS (argFr_rel hS hA) h ?_
  intro e E fr' H1 a' w' M' I' hG hS' hF' hE hK
  cases e with
  | pan x0 =>
    obtain ⟨xv, rfl, hr⟩ := hE
    obtain ⟨I2, h3, h4, h5⟩ := panF_sound hS hG hS' hr hK
    exact ⟨hF'.defers, xv, rfl, M', I2, h3, h4, h5⟩
  | _ => exact hK.elim

end
end Go.AM
