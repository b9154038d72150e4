/- Several texts of mine in one (Am17, Am18, Am19, Am20, Am21). Own work. -/
import Derived.Test.YtgcggndacnmhfaaGreatDoorGAm13Am28
import Derived.ScopeJumps
set_option linter.all false
namespace Go.AM
def Outs (w : World) (M : AMap) (I : Nat → Prop) (n : Nat) : AE → Exit → Prop
 | .normal,E=>E = .normal
 | .exit id,E=>E = .exit id
 | .ret,E=>E = .ret
 | .goto l,E=>E = .goto l
 | .pan x,E=>∃ xv,E = .panic [{ v:=xv,recovered:=false }] ∧ Rel w M I n x xv
def zEh (P : Program) (N : Nat) : Code → AC → Bool
 | .skip,.skip=>true
 | .region _ ops draw,.reg _ draw' is=>draw == draw' && zAi P N ops ops.toList is && (!draw || zDr [] [] ops.toList is)
 | .seq a b,.seq a' b'=>zEh P N a a' && zEh P N b b'
 | .cond c a b,.cond c' a' b'=>zAW c c' && zEh P N a a' && zEh P N b b'
 | .block id c,.block id' _ c'=>id == id' && zEh P N c c'
 | .loop c,.loop _ c'=>zEh P N c c'
 | .exit id,.exit id'=>id == id'
 | .ret,.ret=>true
 | _,.stuck=>true
 | .region _ ops draw,.regt _ draw' is t=>draw == draw' && zAi P N ops ops.toList is && zKz ops is draw t
 | .label _,.label=>true
 | .goto l,.goto l'=>l == l'
 | .scope c,.scope _ l c' r'=>zEh P N c c' && (match findLabel c l with
  | some rest=>zEh P N rest r'
  | none=>false)
 | _,_=>false
theorem zJb {GT : Nat → Option AV} {fr : Fr} {c : Opd} {b : Bool} (h : ev GT fr c = .bool b) (t : Nat) : get (learn fr c b) t = get fr t:=by
 cases c with
 | tmp d=>
  simp only [learn,get]
  split
  ·rename_i e; subst e; exact h.symm
  ·rfl
 | _=>rfl
theorem least {p : Nat → Prop} (h : ∃ n,p n) : ∃ n,p n ∧ ∀ m,p m → n ≤ m:=by
 obtain ⟨n,hn⟩:=h
 induction n using Nat.strongRecOn with
 | _ n ih=>
  by_cases h : ∃ m,m < n ∧ p m
  ·obtain ⟨m,h1,h2⟩:=h; exact ih m h1 h2
  ·exact ⟨n,hn,fun m hm=>by
    rcases Nat.lt_or_ge m n with h1 | h1
    ·exact absurd ⟨m,h1,hm⟩ h
    ·exact h1⟩
theorem wp_loop_rounds {P : Program} {c : Code} {Q : Exit → Act → World → Prop} {a : Act} {w : World} (J : Nat → Act → World → Prop) (h0 : ∃ m,J m a w)
  (round : ∀ m a w,J m a w → ∃ k,m = k + 1 ∧ c.wp P (Exit.then (fun a' w'=>J k a' w') Q) a w) : (Code.loop c).wp P Q a w:=by
 classical
 refine wp_loop (fun a w=>∃ m,J m a w) (fun a w=>if h : ∃ m,J m a w then Classical.choose (least h) else 0) h0 fun a w hI=>?_
 have hμ : ∀ a w,(h : ∃ m,J m a w) → (if h : ∃ m,J m a w then Classical.choose (least h) else 0) = Classical.choose (least h):=fun a w h=>dif_pos h
 obtain ⟨h1,_⟩:=Classical.choose_spec (least hI)
 obtain ⟨k,hk,hr⟩:=round _ a w h1
 refine wp_mono hr fun e a' w' hq=>?_
 cases e with
 | normal=>
  have hI' : ∃ m,J m a' w':=⟨k,hq⟩
  refine ⟨hI', ?_⟩
  rw [hμ _ _ hI',hμ _ _ hI]
  have:=(Classical.choose_spec (least hI')).2 k hq
  omega
 | _=>exact hq
theorem zEi {P : Program} {c rest : Code} {Q : Exit → Act → World → Prop} {a : Act} {w : World} (l : Nat) (J : Nat → Act → World → Prop) (hf : findLabel c l = some rest)
  (first : c.wp P (Exit.jump l (fun a' w'=>∃ m,J m a' w') Q) a w)
  (round : ∀ m a w,J m a w → ∃ k,m = k + 1 ∧ rest.wp P (Exit.jump l (fun a' w'=>J k a' w') Q) a w) : (Code.scope c).wp P Q a w:=by
 classical
 refine wp_scope_jumps l (fun a w=>∃ m,J m a w) (fun a w=>if h : ∃ m,J m a w then Classical.choose (least h) else 0) hf first fun a w hI=>?_
 have hμ : ∀ a w,(h : ∃ m,J m a w) → (if h : ∃ m,J m a w then Classical.choose (least h) else 0) = Classical.choose (least h):=fun a w h=>dif_pos h
 obtain ⟨h1,_⟩:=Classical.choose_spec (least hI)
 obtain ⟨k,hk,hr⟩:=round _ a w h1
 refine wp_mono hr fun e a' w' hq=>?_
 cases e with
 | goto l'=>
  obtain ⟨hl,hq⟩:=hq
  have hI' : ∃ m,J m a' w':=⟨k,hq⟩
  refine ⟨hl,hI', ?_⟩
  rw [hμ _ _ hI',hμ _ _ hI]
  have:=(Classical.choose_spec (least hI')).2 k hq
  omega
 | _=>exact hq
theorem ActOK.none {D : List Deferred} {w : World} {M : AMap} {I : Nat → Prop} {n N : Nat} {g : GF} {a : Act} (hF : ActOK D w M I n N g a) : ActOK D w M I n N (get []) a:=
 ⟨fun t=>.undef _,hF.size,hF.defers⟩
section
variable {D : List Deferred} {P : Program} {GT : Nat → Option AV}
set_option maxHeartbeats 800000 in
theorem zK0 {N : Nat} (hm : P.follows .mixedOrders = true) : ∀ (ac : AC) (c : Code) (K : Post) (Q : Exit → Act → World → Prop) (w : World) (M : AMap) (I : Nat → Prop) (H : Heap) (fr : Fr) (a : Act),
  zEh P N c ac = true → Sim GT w M I H → ActOK D w M I H.length N (get fr) a → AW (Good P GT) GT ac K fr H →
  (∀ e E fr' H' a' w' M' I',Grow w M I H w' M' I' H' → Sim GT w' M' I' H' → ActOK D w' M' I' H'.length N (get fr') a' → Outs w' M' I' H'.length e E → K e fr' H' → Q E a' w') → c.wp P Q a w:=by
 intro ac
 induction ac with
 | stuck=>intro c K Q w M I H fr a hc hS hF hA hQ; exact hA.elim
 | skip=>
  intro c K Q w M I H fr a hc hS hF hA hQ
  cases c <;> simp [zEh] at hc
  exact wp_skip (hQ .normal .normal fr H a w M I (Grow.refl ..) hS hF rfl hA)
 | label=>
  intro c K Q w M I H fr a hc hS hF hA hQ
  cases c <;> simp [zEh] at hc
  exact wp_label (hQ .normal .normal fr H a w M I (Grow.refl ..) hS hF rfl hA)
 | ret=>
  intro c K Q w M I H fr a hc hS hF hA hQ
  cases c <;> simp [zEh] at hc
  exact wp_ret (hQ .ret .ret fr H a w M I (Grow.refl ..) hS hF rfl hA)
 | exit id=>
  intro c K Q w M I H fr a hc hS hF hA hQ
  cases c <;> simp [zEh] at hc
  subst hc
  exact wp_exit (hQ (.exit _) (.exit _) fr H a w M I (Grow.refl ..) hS hF rfl hA)
 | goto l=>
  intro c K Q w M I H fr a hc hS hF hA hQ
  cases c <;> simp [zEh] at hc
  subst hc
  exact wp_goto (hQ (.goto _) (.goto _) fr H a w M I (Grow.refl ..) hS hF rfl hA)
 | reg L draw is=>
  intro c K Q w M I H fr a hc hS hF hA hQ
  cases c <;> simp only [zEh,Bool.false_eq_true,Bool.and_eq_true,beq_iff_eq,Bool.or_eq_true,Bool.not_eq_true'] at hc
  obtain ⟨⟨rfl,h1⟩,h2⟩:=hc
  rename_i id ops draw
  cases draw with
  | false=>exact wp_region_list (zJU is ops.toList w M I H _ a hS (hF.restrict L) h1 hA fun fr' H' a' w' M' I' hG hS' hF' hK=>hQ .normal .normal fr' H' a' w' M' I' hG hS' hF' rfl hK)
  | true=>
   exact zId hm hS (hF.restrict L) h1 (h2.resolve_left (by simp)) hA fun fr' H' a' w' M' I' hG hS' hF' hK=>hQ .normal .normal fr' H' a' w' M' I' hG hS' hF' rfl hK
 | regt L draw is t=>
  intro c K Q w M I H fr a hc hS hF hA hQ
  cases c <;> simp only [zEh,Bool.false_eq_true,Bool.and_eq_true,beq_iff_eq] at hc
  obtain ⟨⟨rfl,h1⟩,h2⟩:=hc
  exact zIh hm hS (hF.restrict L) h1 h2 hA (fun fr' H' a' w' M' I' hG hS' hF' hK=>hQ .normal .normal fr' H' a' w' M' I' hG hS' hF' rfl hK)
   (fun x xv g' H' a' w' M' I' hG hS' hF' hr hK=>hQ (.pan x) _ [] H' a' w' M' I' hG hS' hF'.none ⟨xv,rfl,hr⟩ hK)
 | seq x y ihx ihy=>
  intro c K Q w M I H fr a hc hS hF hA hQ
  cases c <;> simp only [zEh,Bool.false_eq_true,Bool.and_eq_true] at hc
  refine wp_seq (ihx _ _ _ w M I H fr a hc.1 hS hF hA fun e E fr' H' a' w' M' I' hG hS' hF' hE hK=>?_)
  cases e with
  | normal=>
   obtain rfl:=hE
   exact ihy _ K Q w' M' I' H' fr' a' hc.2 hS' hF' hK fun e E fr2 H2 a2 w2 M2 I2 hG2=>hQ e E fr2 H2 a2 w2 M2 I2 (hG.trans hG2)
  | exit id=>obtain rfl:=hE; exact hQ (.exit id) _ fr' H' a' w' M' I' hG hS' hF' rfl hK
  | ret=>obtain rfl:=hE; exact hQ .ret _ fr' H' a' w' M' I' hG hS' hF' rfl hK
  | goto l=>obtain rfl:=hE; exact hQ (.goto l) _ fr' H' a' w' M' I' hG hS' hF' rfl hK
  | pan x=>obtain ⟨xv,rfl,hr⟩:=hE; exact hQ (.pan x) _ fr' H' a' w' M' I' hG hS' hF' ⟨xv,rfl,hr⟩ hK
 | cond t x y ihx ihy=>
  intro c K Q w M I H fr a hc hS hF hA hQ
  cases c <;> simp only [zEh,Bool.false_eq_true,Bool.and_eq_true] at hc
  rename_i t' x' y'
  obtain ⟨⟨h1,h2⟩,h3⟩:=hc
  unfold AW at hA
  split at hA
  ·rename_i b hb
   have hF' : ActOK D w M I H.length N (get (learn fr t b)) a:=⟨fun s=>by rw [zJb hb s]; exact hF.rel s,hF.size,hF.defers⟩
   have hr:=hF.ev hS _ _ h1
   rw [← zBb,hb] at hr
   have hv : a.eval t' = .bool b:=by
    generalize a.eval t' = u at hr
    cases hr; rfl
   refine wp_cond hv ?_
   cases b with
   | true=>simp only [if_true] at hA ⊢; exact ihx _ K Q w M I H _ a h2 hS hF' hA hQ
   | false=>simp only [Bool.false_eq_true,if_false] at hA ⊢; exact ihy _ K Q w M I H _ a h3 hS hF' hA hQ
  ·exact hA.elim
 | block id L x ih=>
  intro c K Q w M I H fr a hc hS hF hA hQ
  cases c <;> simp only [zEh,Bool.false_eq_true,Bool.and_eq_true,beq_iff_eq] at hc
  obtain ⟨rfl,hc⟩:=hc
  rename_i id x'
  refine wp_block (ih _ _ _ w M I H fr a hc hS hF hA fun e E fr' H' a' w' M' I' hG hS' hF' hE hK=>?_)
  cases e with
  | normal=>obtain rfl:=hE; exact hQ .normal _ _ H' a' w' M' I' hG hS' (hF'.restrict L) rfl hK
  | exit j=>
   obtain rfl:=hE
   simp only [zDC] at hK
   simp only [Exit.inBlock]
   by_cases hj : j = id
   ·rw [if_pos hj] at hK ⊢
    exact hQ .normal _ _ H' a' w' M' I' hG hS' (hF'.restrict L) rfl hK
   ·rw [if_neg hj] at hK ⊢
    exact hQ (.exit j) _ fr' H' a' w' M' I' hG hS' hF' rfl hK
  | ret=>obtain rfl:=hE; exact hQ .ret _ fr' H' a' w' M' I' hG hS' hF' rfl hK
  | goto l=>obtain rfl:=hE; exact hQ (.goto l) _ fr' H' a' w' M' I' hG hS' hF' rfl hK
  | pan x=>obtain ⟨xv,rfl,hr⟩:=hE; exact hQ (.pan x) _ fr' H' a' w' M' I' hG hS' hF' ⟨xv,rfl,hr⟩ hK
 | loop L x ih=>
  intro c K Q w M I H fr a hc hS hF hA hQ
  cases c <;> simp only [zEh,Bool.false_eq_true] at hc
  rename_i x'
  obtain ⟨m,hA⟩:=hA
  refine wp_loop_rounds (fun m a' w'=>∃ M' I' H' fr',Grow w M I H w' M' I' H' ∧ Sim GT w' M' I' H' ∧ ActOK D w' M' I' H'.length N (get fr') a' ∧ zGK (AW (Good P GT) GT x) L K m fr' H')
   ⟨m,M,I,H,_,Grow.refl ..,hS,hF.restrict L,hA⟩ ?_
  rintro m a1 w1 ⟨M1,I1,H1,fr1,hG1,hS1,hF1,hA1⟩
  cases m with
  | zero=>exact hA1.elim
  | succ k=>
   refine ⟨k,rfl,ih _ _ _ w1 M1 I1 H1 fr1 a1 hc hS1 hF1 hA1 fun e E fr' H' a' w' M' I' hG hS' hF' hE hK=>?_⟩
   cases e with
   | normal=>obtain rfl:=hE; exact ⟨M',I',H',_,hG1.trans hG,hS',hF'.restrict L,hK⟩
   | exit j=>obtain rfl:=hE; exact hQ (.exit j) _ fr' H' a' w' M' I' (hG1.trans hG) hS' hF' rfl hK
   | ret=>obtain rfl:=hE; exact hQ .ret _ fr' H' a' w' M' I' (hG1.trans hG) hS' hF' rfl hK
   | goto l=>obtain rfl:=hE; exact hQ (.goto l) _ fr' H' a' w' M' I' (hG1.trans hG) hS' hF' rfl hK
   | pan x=>obtain ⟨xv,rfl,hr⟩:=hE; exact hQ (.pan x) _ fr' H' a' w' M' I' (hG1.trans hG) hS' hF' ⟨xv,rfl,hr⟩ hK
 | scope L l x r ihx ihr=>
  intro c K Q w M I H fr a hc hS hF hA hQ
  cases c <;> simp only [zEh,Bool.false_eq_true,Bool.and_eq_true] at hc
  rename_i x'
  obtain ⟨hc1,hc2⟩:=hc
  split at hc2
  case h_2=>cases hc2
  rename_i rest hfl
  have go : ∀ (G : Fr → Heap → Prop) (J : Act → World → Prop) (w1 : World) (M1 : AMap) (I1 : Nat → Prop) (H1 : Heap),Grow w M I H w1 M1 I1 H1 →
    (∀ fr' H' a' w' M' I',Grow w1 M1 I1 H1 w' M' I' H' → Sim GT w' M' I' H' → ActOK D w' M' I' H'.length N (get fr') a' → G fr' H' → J a' w') →
    ∀ e E fr' H' a' w' M' I',Grow w1 M1 I1 H1 w' M' I' H' → Sim GT w' M' I' H' → ActOK D w' M' I' H'.length N (get fr') a' → Outs w' M' I' H'.length e E → zGL l G K e fr' H' → Exit.jump l J Q E a' w':=by
   intro G J w1 M1 I1 H1 hG1 hJ e E fr' H' a' w' M' I' hG hS' hF' hE hK
   cases e with
   | normal=>obtain rfl:=hE; exact hQ .normal _ fr' H' a' w' M' I' (hG1.trans hG) hS' hF' rfl hK
   | exit j=>obtain rfl:=hE; exact hQ (.exit j) _ fr' H' a' w' M' I' (hG1.trans hG) hS' hF' rfl hK
   | ret=>obtain rfl:=hE; exact hQ .ret _ fr' H' a' w' M' I' (hG1.trans hG) hS' hF' rfl hK
   | goto l'=>obtain rfl:=hE; exact ⟨hK.1,hJ fr' H' a' w' M' I' hG hS' hF' hK.2⟩
   | pan x=>obtain ⟨xv,rfl,hr⟩:=hE; exact hQ (.pan x) _ fr' H' a' w' M' I' (hG1.trans hG) hS' hF' ⟨xv,rfl,hr⟩ hK
  refine zEi l (fun m a' w'=>∃ M' I' H' fr',Grow w M I H w' M' I' H' ∧ Sim GT w' M' I' H' ∧ ActOK D w' M' I' H'.length N (get fr') a' ∧ zE3 (AW (Good P GT) GT r) L l K m fr' H') hfl ?_ ?_
  ·refine ihx _ _ _ w M I H fr a hc1 hS hF hA (go _ _ w M I H (Grow.refl ..) ?_)
   rintro fr' H' a' w' M' I' hG hS' hF' ⟨m,hm'⟩
   exact ⟨m,M',I',H',_,hG,hS',hF'.restrict L,hm'⟩
  ·rintro m a1 w1 ⟨M1,I1,H1,fr1,hG1,hS1,hF1,hA1⟩
   cases m with
   | zero=>exact hA1.elim
   | succ k=>
    refine ⟨k,rfl,ihr _ _ _ w1 M1 I1 H1 fr1 a1 hc2 hS1 hF1 hA1 (go _ _ w1 M1 I1 H1 hG1 ?_)⟩
    intro fr' H' a' w' M' I' hG hS' hF' hg
    exact ⟨M',I',H',_,hG1.trans hG,hS',hF'.restrict L,hg⟩
end
end Go.AM
namespace Go.AM
theorem zGZ : ∀ (i : Nat) (vs : List AV) (t : Nat),get (zFk i vs) t = if i ≤ t then vs.getD (t - i) .undef else .undef
 | _,[],t=>by simp [zFk,get]
 | i,v :: vs,t=>by
  simp only [zFk,get]
  rw [zGZ (i + 1) vs t]
  by_cases h : i = t
  ·subst h; simp
  ·simp only [h,if_false]
   by_cases h2 : i ≤ t
   ·rw [if_pos h2,if_pos tO,show t - i = (t - (i + 1)) + 1 by omega]; simp
   ·rw [if_neg h2,if_neg tO]
def zIi (P : Program) : List ResultVar → List ARes → Bool
 | [],[]=>true
 | .tmp t :: rs,.tmp t' :: qs=>t == t' && zIi P rs qs
 | .cell a ty :: rs,.cell a' s ag :: qs=>a == a' && zAw P ty == some s && zCl P ty == some ag && zIi P rs qs
 | _,_=>false
section
variable {D : List Deferred} {P : Program} {GT : Nat → Option AV} {w : World} {M : AMap} {I : Nat → Prop} {H : Heap}
theorem zBv (hS : Sim GT w M I H) {N : Nat} {fr : Fr} {a : Act} (hF : ActOK D w M I H.length N (get fr) a) : ∀ (rs : List ResultVar) (qs : List ARes) (vs : List AV),zIi P rs qs = true → zAh fr H qs = some vs →
  ∃ us,(rs.mapM (m:=Sem) fun
   | .tmp t=>pure (a.tmps.getD t Go.undef)
   | .cell b t=>do loadVar t (← asAddr (a.tmps.getD b Go.undef))).run P w = .ok us w ∧ zAu w M I H.length vs us
 | [],[],vs,_,h=>by
  simp only [zAh,Option.some.injEq] at h
  subst h
  exact ⟨[],by simp,rfl,by simp⟩
 | .tmp t :: rs,.tmp t' :: qs,vs,hc,h=>by
  simp only [zIi,Bool.and_eq_true,beq_iff_eq] at hc
  obtain ⟨rfl,hc⟩:=hc
  simp only [zAh,zHD] at h
  split at h
  ·rename_i v vs' h1 h2
   cases h
   obtain ⟨us,hr,hl,hR⟩:=zBv hS hF rs qs vs' hc h2
   cases h1
   refine ⟨a.tmps.getD t Go.undef :: us,by simp only [List.mapM_cons,Sem.run_bind,Sem.run_pure,Result.andThen_ok,hr],by simp [hl],fun i c u hi hu=>?_⟩
   cases i with
   | zero=>simp at hi hu; subst hi; have:=hF.rel t; simp at this; rw [hu] at this; exact this
   | succ i=>exact hR i c u (by simpa using hi) (by simpa using hu)
  ·cases h
 | .cell b ty :: rs,.cell b' s ag :: qs,vs,hc,h=>by
  simp only [zIi,Bool.and_eq_true,beq_iff_eq] at hc
  obtain ⟨⟨⟨rfl,hc1⟩,hc2⟩,hc⟩:=hc
  simp only [zAh,zHD] at h
  split at h
  ·rename_i v vs' h1 h2
   cases h
   obtain ⟨us,hr,hl,hR⟩:=zBv hS hF rs qs vs' hc h2
   split at h1
   ·rename_i cs o hp
    obtain ⟨g,ad,hv,hcells⟩:=zGN hS (hF.rel b) hp
    obtain ⟨u,hu,hru⟩:=zDF (P:=P) hc1 hc2 h1 hcells
    refine ⟨u :: us, ?_,by simp [hl],fun i c u' hi hu'=>?_⟩
    ·have ha : (asAddr (a.tmps.getD b Go.undef)).run P w = .ok ⟨g,ad,none⟩ w:=by rw [hv]; simp [asAddr]
     simp only [List.mapM_cons,Sem.run_bind,Sem.run_pure,Result.andThen_ok,ha,hu,hr]
    ·cases i with
     | zero=>simp at hi hu'; subst hi hu'; exact hru
     | succ i=>exact hR i c u' (by simpa using hi) (by simpa using hu')
   ·cases h1
  ·cases h
 | [],_ :: _,_,hc,_=>by simp [zIi] at hc
 | .tmp _ :: _,[],_,hc,_=>by simp [zIi] at hc
 | .cell _ _ :: _,[],_,hc,_=>by simp [zIi] at hc
 | .tmp _ :: _,.cell .. :: _,_,hc,_=>by simp [zIi] at hc
 | .cell _ _ :: _,.tmp _ :: _,_,hc,_=>by simp [zIi] at hc
theorem zIj {n : Nat} {vs : List AV} {us : List Value} (h : zAu w M I n vs us) : Rel w M I n (tupled vs) (if h : us.toArray.size = 1 then us.toArray[0] else .tuple us.toArray):=by
 obtain ⟨hl,hR⟩:=h
 match vs,us,hl with
 | [],[],_=>exact Rel.tup [] [] rfl (by simp)
 | [v],[u],_=>simpa [tupled] using hR 0 v u rfl rfl
 | v :: v' :: vs,u :: u' :: us,hl=>simpa [tupled] using Rel.tup _ _ hl hR
theorem zFa {F : AF} {w0 : World} {M0 : AMap} {I0 : Nat → Prop} {H0 : Heap} (hS0 : Sim GT w0 M0 I0 H0) (hG : Grow w0 M0 I0 H0 w M I H) (hS : Sim GT w M I H) {N : Nat} {fr : Fr} {a : Act} (hF : ActOK D w M I H.length N (get fr) a)
  {fn : Func} (hc : zIi P fn.results.toList F.results = true) {v : AV} {H' : Heap} (h : zHE F H0 fr H v H') :
  ∃ u,(results fn a.tmps).run P w = .ok u w ∧ ∃ I',Grow w0 M0 I0 H0 w M I' H' ∧ Sim GT w M I' H' ∧ Rel w M I' H'.length v u:=by
 unfold zHE at h
 split at h
 ·exact h.elim
 ·rename_i vs hvs
  obtain ⟨us,hr,hR⟩:=zBv (P:=P) hS hF _ _ vs hc hvs
  have hT:=zIj hR
  refine ⟨if h : us.toArray.size = 1 then us.toArray[0] else .tuple us.toArray, ?_, ?_⟩
  case refine_2=>
   split at h
   ·obtain ⟨rfl,rfl⟩:=h
    exact ⟨I,hG,hS,hT⟩
   ·split at h
    ·rename_i v' H2 hfz
     obtain ⟨hb,hold,rfl,rfl⟩:=h
     obtain ⟨I',g1,s1,r1,l1,_⟩:=zEP _ _ hS hT hfz
     have hG2:=hG.trans g1
     have hlen : H0.length ≤ H2.length:=hG2.len
     refine ⟨I',hG2.take,s1.take _ hlen (fun b cs hb hcs=>?_), ?_⟩
     ·rcases hold b hb with h1 | ⟨x,h1,h2⟩
      ·rw [hcs] at h1
       obtain ⟨g,o,cur,_,_,_,_,h5⟩:=hS0.blk b _ h1.symm
       intro c hcm
       obtain ⟨i,hi⟩:=List.getElem?_of_mem hcm
       obtain ⟨u,_,hu⟩:=h5 i c hi
       exact hu.bel
      ·rw [hcs] at h1; cases h1
       simp only [zHn,AV.belL_iff] at h2
       exact h2
     ·have : (H2.take H0.length).length = H0.length:=by simp; omega
      rw [this]
      exact r1.cut (fun _ _=>rfl) hb
    ·exact h.elim
  case refine_1=>
   simp only [results]
   rw [Array.mapM_eq_mapM_toList]
   simp only [Sem.run_bind,Sem.run_pure,Result.andThen_ok,map_eq_pure_bind]
   erw [hr]
   simp
theorem zJc (hS : Sim GT w M I H) {args : List AV} {cargs : List Value} (hA : zAu w M I H.length args cargs) {n : Nat} : ActOK [] w M I H.length n (get (zFk 0 args)) { tmps:=cargs.toArray ++ Array.replicate (n - cargs.toArray.size) Go.undef,defers:=[] }:=by
 refine ⟨fun t=>?_,by simp; omega,rfl⟩
 rw [zGZ]
 simp only [Nat.zero_le,if_true,Nat.sub_zero]
 by_cases ht : t < args.length
 ·have h2 : args[t]? = some args[t]:=by simp [ht]
  have ht' : t < cargs.length:=by rw [← hA.1]; exact ht
  have h3 : cargs[t]? = some cargs[t]:=by simp [ht']
  have:=hA.2 t _ _ h2 h3
  have e1 : args.getD t .undef = args[t]:=by simp [ht]
  rw [e1]
  have e2 : (cargs.toArray ++ Array.replicate (n - cargs.toArray.size) Go.undef).getD t Go.undef = cargs[t]:=by
   rw [Array.getD_eq_getD_getElem?,Array.getElem?_append_left (by simpa using ht')]
   simp [ht']
  rw [e2]; exact this
 ·have e1 : args.getD t .undef = .undef:=by simp [List.getElem?_eq_none (Nat.le_of_not_lt ht)]
  rw [e1]; exact .undef _
theorem zIk (hm : P.follows .mixedOrders = true) {f : FuncId} {fn : Func} {c : Code} {F : AF} (hf : P.funcs[f]? = some fn) (hname : (fn.name == "runtime.NumGoroutine") = false) (hb : fn.body = some c)
  (hc : zEh P fn.ntmps c F.body = true) (hr : zIi P fn.results.toList F.results = true) {args : List AV} (hn : zFq args = true) {H : Heap} {v : AV} {H' : Heap} (h : AFun (Good P GT) GT F args H v H') : Good P GT f args H v H':=by
 refine zGR hn fun w M I cargs hS hA=>?_
 have h1 : fn.name ≠ "runtime.NumGoroutine" := by simpa using hname
 have hrun : (callFunc f cargs.toArray).run P w = .ok (.enter f cargs.toArray) w:=by simp [callFunc,hf,h1,hb]
 rw [hrun]
 refine calls_of_wp hf hb ?_; refine zK0 hm F.body c _ _ w M I H (zFk 0 args) _ hc hS (zJc hS hA) h ?_
 intro e E fr' H1 a' w' M' I' hG hS' hF' hE hK
 cases e with
 | exit id=>exact hK.elim
 | goto l=>exact hK.elim
 | pan x=>exact hK.elim
 | normal=>
  obtain rfl:=hE
  obtain ⟨u,h2,I2,h3,h4,h5⟩:=zFa hS hG hS' hF' hr hK
  exact ⟨hF'.defers,u,h2,u,rfl,M',I2,h3,h4,h5⟩
 | ret=>
  obtain rfl:=hE
  obtain ⟨u,h2,I2,h3,h4,h5⟩:=zFa hS hG hS' hF' hr hK
  exact ⟨hF'.defers,u,h2,u,rfl,M',I2,h3,h4,h5⟩
end
end Go.AM
namespace Go.AM
section
variable {C : CSpec} {GT : Nat → Option AV}
theorem zBm {k : AK} {vs : List AV} {H : Heap} {K : AV → Heap → Prop} : zDZ C k vs H K ↔ ∃ v H',zBl C k vs H v H' ∧ K v H':=by
 constructor
 ·exact zEE
 ·rintro ⟨v,H',h,hk⟩
  cases k
  case call f rd=>exact ⟨v,H',h.1,h.2,hk⟩
  case callv rd=>
   simp only [zBl] at h
   split at h
   ·exact ⟨v,H',h.1,h.2,hk⟩
   ·exact h.elim
  all_goals
   simp only [zBl] at h
   simp only [zDZ]
   rw [h]
   exact hk
theorem zFw {i : AI} {is : List AI} {fr : Fr} {H : Heap} {K : Fr → Heap → Prop} {v : AV} {H' : Heap} (h : AYields C GT i (get fr) H v H') (h2 : AWops C GT is (put fr i.dst v) H' K) : AWops C GT (i :: is) fr H K:=by
 unfold AYields at h
 unfold AWops
 split at h
 ·rename_i hg
  rw [hg]
  exact zBm.2 ⟨v,H',by rw [zBb]; exact h,h2⟩
 ·rename_i s want hg
  rw [hg]
  obtain ⟨b,hb,h⟩:=h
  simp only [hb]
  split at h
  ·rename_i hw
   rw [if_pos hw]
   exact zBm.2 ⟨v,H',by rw [zBb]; exact h,h2⟩
  ·rename_i hw
   rw [if_neg hw]
   obtain ⟨rfl,rfl⟩:=h
   exact h2
theorem zBE {k : AK} {vs : List AV} {H : Heap} {K KP : AV → Heap → Prop} : zBS C k vs H K KP ↔ (∃ v H',zBl C k.plainK vs H v H' ∧ K v H') ∨ (∃ x H',zFr C k vs H x H' ∧ KP x H'):=by
 constructor
 ·exact zEc
 ·intro h
  cases k
  case callp f=>
   rcases h with ⟨v,H',h1,h2⟩ | ⟨x,H',h1,h2⟩
   ·exact .inl ⟨v,H',h1.1,h2⟩
   ·exact .inr ⟨x,H',h1,h2⟩
  case callvp=>
   rcases h with ⟨v,H',h1,h2⟩ | ⟨x,H',h1,h2⟩
   ·simp only [AK.plainK,zBl] at h1
    simp only [zBS]
    split at h1
    ·exact .inl ⟨v,H',h1.1,h2⟩
    ·exact h1.elim
   ·simp only [zFr] at h1
    simp only [zBS]
    split at h1
    ·exact .inr ⟨x,H',h1,h2⟩
    ·exact h1.elim
  case panic=>
   rcases h with ⟨v,H',h1,h2⟩ | ⟨x,H',h1,h2⟩
   ·simp [AK.plainK,zBl,astep] at h1
   ·obtain ⟨t,y,rfl,rfl,rfl⟩:=h1
    exact h2
  all_goals
   rcases h with ⟨v,H',h1,h2⟩ | ⟨x,H',h1,h2⟩
   ·exact zBm.2 ⟨v,H',h1,h2⟩
   ·exact h1.elim
def zJC (K : Post) (os : List (AE × Fr × Heap)) : Prop:=∀ o ∈ os,K o.1 o.2.1 o.2.2
def Fin' (F : Post → Fr → Heap → Prop) : Prop:=∀ K fr H,F K fr H → ∃ os,zJC K os ∧ ∀ K',zJC K' os → F K' fr H
theorem zJC.one {K : Post} {e : AE} {fr : Fr} {H : Heap} (h : K e fr H) : zJC K [(e,fr,H)]:=by
 intro o ho
 obtain rfl:=List.mem_singleton.1 ho
 exact h
theorem zJC.get {K : Post} {e : AE} {fr : Fr} {H : Heap} (h : zJC K [(e,fr,H)]) : K e fr H:=h _ (List.mem_singleton.2 rfl)
theorem zDM {F : Post → Fr → Heap → Prop} (hF : Fin' F) {T : Post → Post} (hT : ∀ K e fr H,T K e fr H → ∃ l,zJC K l ∧ ∀ K',zJC K' l → T K' e fr H) : Fin' fun K fr H=>F (T K) fr H:=by
 classical
 intro K fr H h
 obtain ⟨os,h1,h2⟩:=hF _ fr H h
 have hc : ∀ o : AE × Fr × Heap,∃ l : List (AE × Fr × Heap),o ∈ os → (zJC K l ∧ ∀ K',zJC K' l → T K' o.1 o.2.1 o.2.2):=fun o=>by
  by_cases ho : o ∈ os
  ·obtain ⟨l,a,b⟩:=hT K _ _ _ (h1 o ho)
   exact ⟨l,fun _=>⟨a,b⟩⟩
  ·exact ⟨[],fun h=>absurd h ho⟩
 obtain ⟨f,hf⟩:=Classical.axiomOfChoice hc
 refine ⟨os.flatMap f,fun o ho=>?_,fun K' hK=>h2 _ fun o ho=>(hf o ho).2 K' fun o' ho'=>hK o' (List.mem_flatMap.2 ⟨o,ho,ho'⟩)⟩
 obtain ⟨o1,ho1,ho2⟩:=List.mem_flatMap.1 ho
 exact (hf o1 ho1).1 o ho2
theorem zBT {K : Post} {e : AE} {fr : Fr} {H : Heap} {T : Post → Prop} (ht : ∀ K',T K' ↔ K' e fr H) (h : T K) : ∃ l,zJC K l ∧ ∀ K',zJC K' l → T K':=
 ⟨[(e,fr,H)],.one ((ht K).1 h),fun K' hk=>(ht K').2 hk.get⟩
theorem zJd : ∀ (is : List AI),Fin' fun K fr H=>AWops C GT is fr H fun fr' H'=>K .normal fr' H'
 | []=>fun K fr H h=>⟨[(.normal,fr,H)],.one h,fun K' hk=>hk.get⟩
 | i :: is=>fun K fr H h=>by
  obtain ⟨v,H1,h1,h2⟩:=zDf h
  obtain ⟨os,h3,h4⟩:=zJd is K _ _ h2
  exact ⟨os,h3,fun K' hk=>zFw h1 (h4 K' hk)⟩
theorem zEj {is : List AI} {j : Nat} {t : OT} {fr : Fr} {H : Heap} {K : Fr → Heap → Prop} {KP : AV → Heap → Prop} {i : AI} (hi : is[j]? = some i)
  (h : (∃ v H',AYields C GT i.plain (get fr) H v H' ∧ AWT C GT is t (put fr i.dst v) H' K KP) ∨ (∃ x H',zAR C GT i (get fr) H x H' ∧ KP x H')) : AWT C GT is (.step j t) fr H K KP:=by
 unfold AWT
 simp only [hi]
 unfold AYields zAR at h
 cases hg : i.g with
 | none=>
  simp only [AI.plain,hg] at h ⊢
  rw [← zBb] at h
  exact zBE.2 h
 | some sw=>
  obtain ⟨s,want⟩:=sw
  simp only [AI.plain,hg] at h ⊢
  rw [← zBb] at h
  rcases h with ⟨v,H',⟨b,hb,h⟩,h2⟩ | ⟨x,H',⟨hb,h⟩,h2⟩
  ·simp only [hb]
   split at h
   ·rename_i hbt
    rw [if_pos hbt]
    exact zBE.2 (.inl ⟨v,H',h,h2⟩)
   ·rename_i hbt
    rw [if_neg hbt]
    obtain ⟨rfl,rfl⟩:=h
    exact h2
  ·simp only [hb]
   rw [if_pos trivial]
   exact zBE.2 (.inr ⟨x,H',h,h2⟩)
theorem zFx (is : List AI) : ∀ (t : OT),Fin' fun K fr H=>AWT C GT is t fr H (fun fr' H'=>K .normal fr' H') (fun x H'=>K (.pan x) [] H')
 | .done=>fun K fr H h=>⟨[(.normal,fr,H)],.one h,fun K' hk=>hk.get⟩
 | .step j t=>fun K fr H h=>by
  obtain ⟨i,hi,h1⟩:=zEG h
  rcases h1 with ⟨v,H',h1,h2⟩ | ⟨x,H',h1,h2⟩
  ·obtain ⟨os,h3,h4⟩:=zFx is t K _ _ h2
   exact ⟨os,h3,fun K' hk=>zEj hi (.inl ⟨v,H',h1,h4 K' hk⟩)⟩
  ·exact ⟨[(.pan x,[],H')],.one h2,fun K' hk=>zEj hi (.inr ⟨x,H',h1,hk.get⟩)⟩
 | .alt a b=>fun K fr H h=>by
  obtain ⟨o1,a1,a2⟩:=zFx is a K fr H h.1
  obtain ⟨o2,b1,b2⟩:=zFx is b K fr H h.2
  exact ⟨o1 ++ o2,fun o ho=>(List.mem_append.1 ho).elim (a1 o) (b1 o),fun K' hk=>⟨a2 K' fun o ho=>hk o (List.mem_append_left _ ho),b2 K' fun o ho=>hk o (List.mem_append_right _ ho)⟩⟩
theorem zGa {F : Post → Fr → Heap → Prop} (hF : Fin' F) (L : List Nat) : ∀ m,Fin' fun K fr H=>zGK F L K m fr H
 | 0=>fun K fr H h=>h.elim
 | m + 1=>zDM hF fun K e fr H h=>by
  cases e with
  | normal=>exact zGa hF L m K _ _ h
  | _=>exact zBT (T:=fun K'=>K' _ fr H) (fun K'=>Iff.rfl) h
theorem zGb {F : Post → Fr → Heap → Prop} (hF : Fin' F) (L : List Nat) (l : Nat) : ∀ m,Fin' fun K fr H=>zE3 F L l K m fr H
 | 0=>fun K fr H h=>h.elim
 | m + 1=>zDM hF fun K e fr H h=>by
  cases e with
  | goto l'=>
   obtain ⟨os,h1,h2⟩:=zGb hF L l m K _ _ h.2
   exact ⟨os,h1,fun K' hk=>⟨h.1,h2 K' hk⟩⟩
  | _=>exact zBT (T:=fun K'=>K' _ fr H) (fun K'=>Iff.rfl) h
theorem zNE : ∀ (ac : AC),Fin' (AW C GT ac):=by
 intro ac
 induction ac with
 | skip=>exact fun K fr H h=>⟨[(.normal,fr,H)],.one h,fun K' hk=>hk.get⟩
 | label=>exact fun K fr H h=>⟨[(.normal,fr,H)],.one h,fun K' hk=>hk.get⟩
 | ret=>exact fun K fr H h=>⟨[(.ret,fr,H)],.one h,fun K' hk=>hk.get⟩
 | exit id=>exact fun K fr H h=>⟨[(.exit id,fr,H)],.one h,fun K' hk=>hk.get⟩
 | goto l=>exact fun K fr H h=>⟨[(.goto l,fr,H)],.one h,fun K' hk=>hk.get⟩
 | stuck=>exact fun K fr H h=>h.elim
 | reg L d is=>exact fun K fr H h=>zJd is K _ H h
 | regt L d is t=>exact fun K fr H h=>zFx is t K _ H h
 | seq a b iha ihb=>
  exact zDM iha (T:=fun K=>zMF (AW C GT b K) K) fun K e fr H h=>by
   cases e with
   | normal=>exact ihb K fr H h
   | _=>exact zBT (T:=fun K'=>K' _ fr H) (fun K'=>Iff.rfl) h
 | cond c a b iha ihb=>
  intro K fr H h
  unfold AW at h
  split at h
  ·rename_i t ht
   have e : ∀ K',AW C GT (.cond c a b) K' fr H = if t = true then AW C GT a K' (learn fr c true) H else AW C GT b K' (learn fr c false) H:=fun K'=>by simp only [AW,ht]
   split at h
   ·rename_i htt
    obtain ⟨os,h1,h2⟩:=iha _ _ _ h
    exact ⟨os,h1,fun K' hk=>by rw [e,if_pos htt]; exact h2 K' hk⟩
   ·rename_i htt
    obtain ⟨os,h1,h2⟩:=ihb _ _ _ h
    exact ⟨os,h1,fun K' hk=>by rw [e,if_neg htt]; exact h2 K' hk⟩
  ·exact h.elim
 | block id L c ih=>
  exact zDM ih (T:=zDC id L) fun K e fr H h=>by
   cases e with
   | normal=>exact zBT (T:=fun K'=>K' .normal (restrict fr L) H) (fun K'=>Iff.rfl) h
   | exit j=>
    simp only [zDC] at h ⊢
    by_cases hj : j = id
    ·simp only [hj,if_true] at h ⊢
     exact zBT (T:=fun K'=>K' .normal (restrict fr L) H) (fun K'=>Iff.rfl) h
    ·simp only [hj,if_false] at h ⊢
     exact zBT (T:=fun K'=>K' (.exit j) fr H) (fun K'=>Iff.rfl) h
   | _=>exact zBT (T:=fun K'=>K' _ fr H) (fun K'=>Iff.rfl) h
 | loop L c ih=>
  intro K fr H h
  obtain ⟨m,h⟩:=h
  obtain ⟨os,h1,h2⟩:=zGa ih L m K _ H h
  exact ⟨os,h1,fun K' hk=>⟨m,h2 K' hk⟩⟩
 | scope L l c r ihc ihr=>
  exact zDM ihc (T:=fun K=>zGL l (fun fr' H'=>∃ m,zE3 (AW C GT r) L l K m (restrict fr' L) H') K) fun K e fr H h=>by
   cases e with
   | goto l'=>
    obtain ⟨hl,m,hg⟩:=h
    obtain ⟨os,h1,h2⟩:=zGb ihr L l m K _ H hg
    exact ⟨os,h1,fun K' hk=>⟨hl,m,h2 K' hk⟩⟩
   | _=>exact zBT (T:=fun K'=>K' _ fr H) (fun K'=>Iff.rfl) h
theorem zJe {ac : AC} {K K' : Post} {fr : Fr} {H : Heap} (h : AW C GT ac K fr H) (hk : ∀ e fr H,K e fr H → K' e fr H) : AW C GT ac K' fr H:=by
 obtain ⟨os,h1,h2⟩:=zNE ac K fr H h
 exact h2 K' fun o ho=>hk _ _ _ (h1 o ho)
def One (F : Post → Fr → Heap → Prop) : Prop:=∀ K fr H,F K fr H → ∃ e fr' H',K e fr' H' ∧ ∀ K' : Post,K' e fr' H' → F K' fr H
def AWL (C : CSpec) (GT : Nat → Option AV) (L : List Nat) (c : AC) (K : Post) (fr : Fr) (H : Heap) : Prop:=∃ m,zGK (AW C GT c) L K m fr H
theorem zFb {L : List Nat} {c : AC} {K K' : Post} (hk : ∀ e fr H,K e fr H → K' e fr H) : ∀ (m n : Nat) (fr : Fr) (H : Heap),m ≤ n → zGK (AW C GT c) L K m fr H → zGK (AW C GT c) L K' n fr H
 | 0,_,_,_,_,h=>h.elim
 | m + 1,0,_,_,hl,_=>absurd hl tO
 | m + 1,n + 1,fr,H,hl,h=>zJe h fun e fr H h=>by
  cases e with
  | normal=>exact zFb hk m n _ H tO h
  | _=>exact hk _ _ _ h
theorem zK1 {L : List Nat} {c : AC} {K K' : Post} {fr : Fr} {H : Heap} (h : AWL C GT L c K fr H) (hk : ∀ e fr H,K e fr H → K' e fr H) : AWL C GT L c K' fr H:=by
 obtain ⟨m,h⟩:=h
 exact ⟨m,zFb hk m m _ _ (Nat.le_refl _) h⟩
variable {K : Post} {fr : Fr} {H : Heap}
theorem zNF {a b : AC} : AW C GT (.seq a b) K fr H = AW C GT a (zMF (AW C GT b K) K) fr H:=rfl
theorem zNG {L : List Nat} {d : Bool} {is : List AI} : AW C GT (.reg L d is) K fr H = AWops C GT is (restrict fr L) H fun fr' H'=>K .normal fr' H':=rfl
theorem zMO {L : List Nat} {d : Bool} {is : List AI} {t : OT} : AW C GT (.regt L d is t) K fr H = AWT C GT is t (restrict fr L) H (fun fr' H'=>K .normal fr' H') (fun x H'=>K (.pan x) [] H'):=rfl
theorem zK2 {L : List Nat} {l : Nat} {c r : AC} : AW C GT (.scope L l c r) K fr H = AW C GT c (zGL l (fun fr' H'=>∃ m,zE3 (AW C GT r) L l K m (restrict fr' L) H') K) fr H:=rfl
theorem zK3 {id : Nat} {L : List Nat} {c : AC} : AW C GT (.block id L c) K fr H = AW C GT c (zDC id L K) fr H:=rfl
theorem zMP {L : List Nat} {c : AC} : AW C GT (.loop L c) K fr H = AWL C GT L c K (restrict fr L) H:=rfl
theorem zMQ {c : Opd} {a b : AC} {t : Bool} (h : ev GT fr c = .bool t) : AW C GT (.cond c a b) K fr H = if t = true then AW C GT a K (learn fr c true) H else AW C GT b K (learn fr c false) H:=by
 simp only [AW,h]
end
def zCp (P : Program) (f : FuncId) (F : AF) : Bool:=
 match P.funcs[f]? with
 | some fn=>!(fn.name == "runtime.NumGoroutine") && (match fn.body with
  | some c=>zEh P fn.ntmps c F.body && zIi P fn.results.toList F.results
  | none=>false)
 | none=>false
theorem zHR {P : Program} {GT : Nat → Option AV} (hm : P.follows .mixedOrders = true) {f : FuncId} {F : AF} (hc : zCp P f F = true) {args : List AV} {H : Heap} {v : AV} {H' : Heap} (h : AFun (Good P GT) GT F args H v H') (hn : zFq args = true) : Good P GT f args H v H':=by
 unfold zCp at hc
 split at hc
 ·rename_i fn hf
  simp only [Bool.and_eq_true,Bool.not_eq_true'] at hc
  obtain ⟨h1,hc⟩:=hc
  split at hc
  ·rename_i c hb
   simp only [Bool.and_eq_true] at hc
   exact zIk hm hf h1 hb hc.1 hc.2 hn h
  ·cases hc
 ·cases hc
end Go.AM
namespace Go.AM
def zFc (b : Bool) (A B : Prop) : Prop:=match b with | true=>A | false=>B
structure condP (b : Bool) (A B : Prop) : Prop where
 h : zFc b A B
theorem zDN (b : Bool) (A B : Prop) : condP b A B = zFc b A B:=propext ⟨fun x=>x.h,fun x=>⟨x⟩⟩
def zK4 {α : Type} (o : Option α) (K : α → Prop) : Prop:=∃ v,o = some v ∧ K v
structure optP {α : Type} (o : Option α) (K : α → Prop) : Prop where
 h : zK4 o K
theorem zHw {α : Type} (o : Option α) (K : α → Prop) : optP o K = zK4 o K:=propext ⟨fun x=>x.h,fun x=>⟨x⟩⟩
def zHx (p K : Prop) : Prop:=p ∧ K
structure needP (p K : Prop) : Prop where
 h : zHx p K
theorem zGc (p K : Prop) : needP p K = zHx p K:=propext ⟨fun x=>x.h,fun x=>⟨x⟩⟩
def zK5 (x : Int) (K : Int → Prop) : Prop:=K x
structure valP (x : Int) (K : Int → Prop) : Prop where
 h : zK5 x K
theorem zHy (x : Int) (K : Int → Prop) : valP x K = zK5 x K:=propext ⟨fun x=>x.h,fun x=>⟨x⟩⟩
def zK6 (k : AK) (vs : List AV) (H : Heap) (K : AV → Heap → Prop) : Prop:=∃ v H',astep k vs H = some (v,H') ∧ K v H'
structure actP (k : AK) (vs : List AV) (H : Heap) (K : AV → Heap → Prop) : Prop where
 h : zK6 k vs H K
theorem zHz (k : AK) (vs : List AV) (H : Heap) (K : AV → Heap → Prop) : actP k vs H K = zK6 k vs H K:=propext ⟨fun x=>x.h,fun x=>⟨x⟩⟩
def zGd (C : CSpec) (f : FuncId) (vs : List AV) (rd : Bool) (H : Heap) (K : AV → Heap → Prop) : Prop:=∃ v H',C f vs H v H' ∧ (rd = true → H' = H) ∧ K v H'
structure callP (C : CSpec) (f : FuncId) (vs : List AV) (rd : Bool) (H : Heap) (K : AV → Heap → Prop) : Prop where
 h : zGd C f vs rd H K
theorem zEk (C : CSpec) (f : FuncId) (vs : List AV) (rd : Bool) (H : Heap) (K : AV → Heap → Prop) : callP C f vs rd H K = zGd C f vs rd H K:=propext ⟨fun x=>x.h,fun x=>⟨x⟩⟩
def zK7 (xs : List AV) (n : Int) (K : AV → Prop) : Prop:=∃ x,0 ≤ n ∧ xs[n.toNat]? = some x ∧ K x
structure idxP (xs : List AV) (n : Int) (K : AV → Prop) : Prop where
 h : zK7 xs n K
theorem zH0 (xs : List AV) (n : Int) (K : AV → Prop) : idxP xs n K = zK7 xs n K:=propext ⟨fun x=>x.h,fun x=>⟨x⟩⟩
def zK8 (s : List UInt8) (n : Int) (K : UInt8 → Prop) : Prop:=∃ c,0 ≤ n ∧ s[n.toNat]? = some c ∧ K c
structure chrP (s : List UInt8) (n : Int) (K : UInt8 → Prop) : Prop where
 h : zK8 s n K
theorem zH1 (s : List UInt8) (n : Int) (K : UInt8 → Prop) : chrP s n K = zK8 s n K:=propext ⟨fun x=>x.h,fun x=>⟨x⟩⟩
def zK9 (F : AF) (H : Heap) (fr : Fr) (H1 : Heap) (v : AV) (H' : Heap) : Prop:=zHE F H fr H1 v H'
structure retP (F : AF) (H : Heap) (fr : Fr) (H1 : Heap) (v : AV) (H' : Heap) : Prop where
 h : zK9 F H fr H1 v H'
theorem zH2 (F : AF) (H : Heap) (fr : Fr) (H1 : Heap) (v : AV) (H' : Heap) : retP F H fr H1 v H' = zK9 F H fr H1 v H':=propext ⟨fun x=>x.h,fun x=>⟨x⟩⟩
theorem zE {A B : Prop} (h : A) : condP true A B:=by rw [zDN]; unfold zFc; exact h
theorem zD {A B : Prop} (h : B) : condP false A B:=by rw [zDN]; unfold zFc; exact h
theorem zE5 {b : Bool} {A B : Prop} (ht : b = true → A) (hf : b = false → B) : condP b A B:=by
 rw [zDN]; unfold zFc; cases b
 ·exact hf rfl
 ·exact ht rfl
theorem za {α : Type} {o : Option α} {K : α → Prop} {v : α} (h : o = some v) (k : K v) : optP o K:=by rw [zHw]; unfold zK4; exact ⟨v,h,k⟩
theorem zAe {p K : Prop} (h : p) (k : K) : needP p K:=by rw [zGc]; unfold zHx; exact ⟨h,k⟩
theorem zC3 {x r : Int} {K : Int → Prop} (h : x = r) (k : K r) : valP x K:=by rw [zHy]; unfold zK5; subst h; exact k
theorem zKo {k : AK} {vs : List AV} {H H' : Heap} {K : AV → Heap → Prop} {v : AV} (h : astep k vs H = some (v,H')) (hk : K v H') : actP k vs H K:=by rw [zHz]; unfold zK6; exact ⟨v,H',h,hk⟩
theorem zEl {C : CSpec} {f : FuncId} {vs : List AV} {rd : Bool} {H H' : Heap} {K : AV → Heap → Prop} {v : AV} (h : C f vs H v H') (hr : rd = true → H' = H) (k : K v H') : callP C f vs rd H K:=by rw [zEk]; unfold zGd; exact ⟨v,H',h,hr,k⟩
theorem zK {C : CSpec} {f : FuncId} {vs : List AV} {rd : Bool} {H : Heap} {K : AV → Heap → Prop} {v : AV} (h : C f vs H v H) (k : K v H) : callP C f vs rd H K:=by rw [zEk]; unfold zGd; exact ⟨v,H,h,fun _=>rfl,k⟩
theorem sIdxP {xs : List AV} {n : Int} {i : Nat} {x : AV} {K : AV → Prop} (hn : n = (i : Int)) (h : xs[i]? = some x) (k : K x) : idxP xs n K:=by rw [zH0]; unfold zK7; subst hn; exact ⟨x,Int.natCast_nonneg i,by simpa using h,k⟩
theorem zEm {s : List UInt8} {n : Int} {i : Nat} {c : UInt8} {K : UInt8 → Prop} (hn : n = (i : Int)) (h : s[i]? = some c) (k : K c) : chrP s n K:=by rw [zH1]; unfold zK8; subst hn; exact ⟨c,Int.natCast_nonneg i,by simpa using h,k⟩
theorem sRet {F : AF} {H H1 H' : Heap} {fr : Fr} {v : AV} (h : zHE F H fr H1 v H') : retP F H fr H1 v H':=by rw [zH2]; unfold zK9; exact h
def intN (op : BinOp) (k : IntKind) (a b : Int) (K : AV → Prop) : Prop:=
 match op with
 | .add=>valP (k.wrap (a + b)) fun r=>K (.int k r)
 | .sub=>valP (k.wrap (a - b)) fun r=>K (.int k r)
 | .mul=>valP (k.wrap (a * b)) fun r=>K (.int k r)
 | .quo=>needP (b ≠ 0) (valP (k.wrap (a.tdiv b)) fun r=>K (.int k r))
 | .rem=>needP (b ≠ 0) (valP (a.tmod b) fun r=>K (.int k r))
 | .eql=>K (.bool (a == b))
 | .neq=>K (.bool (a != b))
 | .lss=>K (.bool (decide (a < b)))
 | .leq=>K (.bool (decide (a ≤ b)))
 | .gtr=>K (.bool (decide (a > b)))
 | .geq=>K (.bool (decide (a ≥ b)))
 | op=>optP (zCj op k a b) K
def zFy : BinOp → Bool
 | .shl=>true
 | .shr=>true
 | _=>false
def strN (op : BinOp) (a b : List UInt8) (K : AV → Prop) : Prop:=
 match op with
 | .add=>needP (a.length + b.length ≤ 9223372036854775807) (K (.str (a ++ b)))
 | .eql=>K (.bool (a == b))
 | .neq=>K (.bool (!(a == b)))
 | .lss=>K (.bool (Op.bytesLess a b))
 | op=>optP (zFL op a b) K
def zDO (a b : IntKind) : Bool:=decide (a = b)
def binN (op : BinOp) (x y : AV) (K : AV → Prop) : Prop:=
 match x with
 | .int k a=>(match y with
  | .int k' b=>(match zFy op with
   | true=>optP (zBR op k a b) K
   | false=>(match zDO k k' with
    | true=>intN op k a b K
    | false=>False))
  | _=>False)
 | .str a=>(match y with
  | .str b=>strN op a b K
  | _=>False)
 | _=>False
def zHS (x : AV) (K : Bool → Prop) : Prop:=
 match x with
 | .bool b=>K b
 | _=>False
def negB (neg : Bool) (b : Bool) : Bool:=match neg with | true=>!b | false=>b
def unN (op : UnOp) (x : AV) (K : AV → Prop) : Prop:=
 match x with
 | .bool b=>(match op with
  | .not=>K (.bool (!b))
  | _=>False)
 | x=>optP (aUn op x) K
def zJf (x : AV) (K : Int → Prop) : Prop:=
 match x with
 | .lst _ _ xs=>K (xs.length : Int)
 | .sl _ _ _ _ n=>K (n : Int)
 | _=>False
structure lenP (x : AV) (K : Int → Prop) : Prop where
 h : zJf x K
theorem zFz (x : AV) (K : Int → Prop) : lenP x K = zJf x K:=propext ⟨fun x=>x.h,fun x=>⟨x⟩⟩
def lenN (s : Bool) (x : AV) (K : Int → Prop) : Prop:=
 match s with
 | true=>(match x with
  | .str t=>K (t.length : Int)
  | _=>False)
 | false=>lenP x K
def zGe (x : AV) (K : Int → Prop) : Prop:=
 match x with
 | .int _ n=>K n
 | _=>False
def zJg (k : Nat) (x : AV) (n : Int) (K : AV → Prop) : Prop:=
 match x with
 | .lst _ k' xs=>needP (k' = k) (idxP xs n fun x=>K (.lref x 0))
 | .sl _ b k' off len=>needP (k' = k ∧ 0 ≤ n ∧ n < (len : Int)) (K (.ref b k (off + n.toNat) 0))
 | _=>False
structure idxN (k : Nat) (x : AV) (n : Int) (K : AV → Prop) : Prop where
 h : zJg k x n K
theorem zF0 (k : Nat) (x : AV) (n : Int) (K : AV → Prop) : idxN k x n K = zJg k x n K:=propext ⟨fun x=>x.h,fun x=>⟨x⟩⟩
def zH3 (s : Nat) (ag : Bool) (p : AV) (H : Heap) (K : AV → Prop) : Prop:=
 match p with
 | .lref x o=>optP (part x.cells o s ag) K
 | p=>optP (zx H p) fun co=>optP (part co.1 co.2 s ag) K
structure loadN (s : Nat) (ag : Bool) (p : AV) (H : Heap) (K : AV → Prop) : Prop where
 h : zH3 s ag p H K
theorem zGf (s : Nat) (ag : Bool) (p : AV) (H : Heap) (K : AV → Prop) : loadN s ag p H K = zH3 s ag p H K:=propext ⟨fun x=>x.h,fun x=>⟨x⟩⟩
def slcN (k : Option Nat) (lo hi : Bool) (vs : List AV) (K : AV → Prop) : Prop:=
 match vs with
 | []=>False
 | x :: ys=>(match lo with
  | true=>(match hi with
   | true=>(match ys with
    | [l,h]=>optP (zf k x (some l) (some h)) K
    | _=>False)
   | false=>(match ys with
    | [l]=>optP (zf k x (some l) none) K
    | _=>False))
  | false=>(match hi with
   | true=>(match ys with
    | [h]=>optP (zf k x none (some h)) K
    | _=>False)
   | false=>(match ys with
    | []=>optP (zf k x none none) K
    | _=>False)))
def zNH (o : Nat) (x : AV) (K : AV → Prop) : Prop:=
 match x with
 | .ref b k i oo=>K (.ref b k i (oo + o))
 | .lref x oo=>K (.lref x (oo + o))
 | _=>False
def tyN (t : TypeId) (x : AV) (K : AV → Prop) : Prop:=
 match x with
 | .iface t' y=>needP (t' = t) (K (.tup [y,.bool true]))
 | _=>False
def zLz (o s : Nat) (ag : Bool) (x : AV) (K : AV → Prop) : Prop:=
 match x with
 | .agg cs=>optP (part cs o s ag) K
 | _=>False
def extN (i : Nat) (x : AV) (K : AV → Prop) : Prop:=
 match x with
 | .tup vs=>optP (vs[i]?) K
 | _=>False
def eqsN (neg : Bool) (sh : List Sc) (x y : AV) (K : AV → Prop) : Prop:=
 match x with
 | .agg x=>(match y with
  | .agg y=>optP (zj sh x y) fun b=>K (.bool (negB neg b))
  | _=>False)
 | _=>False
def chkN (x : AV) (K : AV → Prop) : Prop:=
 match x with
 | .ref b k i o=>K (.ref b k i o)
 | .lref y o=>K (.lref y o)
 | .fn f a b=>K (.fn f a b)
 | _=>False
def zLA (x : AV) (K : List UInt8 → Prop) : Prop:=
 match x with
 | .str s=>K s
 | _=>False
def aggN (x : AV) (K : List AV → Prop) : Prop:=
 match x with
 | .agg cs=>K cs
 | _=>False
def mmN (mx : Bool) (x y : AV) (K : AV → Prop) : Prop:=
 match x with
 | .int k a=>(match y with
  | .int k' b=>(match zDO k k' with
   | true=>(match mx with
    | true=>valP (if b > a then b else a) fun r=>K (.int k r)
    | false=>valP (if b < a then b else a) fun r=>K (.int k r))
   | false=>False)
  | _=>False)
 | _=>False
def zGg (C : CSpec) (k : AK) (vs : List AV) (H : Heap) (K : AV → Heap → Prop) : Prop:=
 match k with
 | .mv=>(match vs with
  | [x]=>K x H
  | _=>False)
 | .pick=>(match vs with
  | [c,x,y]=>zHS c fun c=>condP c (K x H) (K y H)
  | _=>False)
 | .bin op=>(match vs with
  | [x,y]=>binN op x y fun v=>K v H
  | _=>False)
 | .eqs neg sh=>(match vs with
  | [x,y]=>eqsN neg sh x y fun v=>K v H
  | _=>False)
 | .eqb neg=>(match vs with
  | [x,y]=>zHS x fun a=>zHS y fun b=>K (.bool (negB neg (a == b))) H
  | _=>False)
 | .eqn e neg lit=>(match vs with
  | [x,y]=>optP (zKq e lit x y) fun b=>K (.bool (negB neg b)) H
  | _=>False)
 | .un op=>(match vs with
  | [x]=>unN op x fun v=>K v H
  | _=>False)
 | .convInt k=>(match vs with
  | [x]=>zGe x fun n=>valP (k.wrap n) fun r=>K (.int k r) H
  | _=>False)
 | .convRune=>(match vs with
  | [x]=>zGe x fun n=>K (.str (Utf8.encode n).data.toList) H
  | _=>False)
 | .convId=>(match vs with
  | [x]=>zLA x fun s=>K (.str s) H
  | _=>False)
 | .mkIface t=>(match vs with
  | [x]=>K (.iface t x) H
  | _=>False)
 | .tyAs t=>(match vs with
  | [x]=>tyN t x fun v=>K v H
  | _=>False)
 | .mkFn f m=>K (.fn f (vs.take m) (vs.drop m)) H
 | .len s=>(match vs with
  | [x]=>lenN s x fun n=>K (.int .i64 n) H
  | _=>False)
 | .slc k lo hi=>slcN k lo hi vs fun v=>K v H
 | .fieldAddr o=>(match vs with
  | [x]=>zNH o x fun v=>K v H
  | _=>False)
 | .field o s ag=>(match vs with
  | [x]=>zLz o s ag x fun v=>K v H
  | _=>False)
 | .idxAddr k=>(match vs with
  | [x,n]=>zGe n fun n=>idxN k x n fun v=>K v H
  | _=>False)
 | .idxArr k m=>(match vs with
  | [x,n]=>zGe n fun n=>needP (0 ≤ n ∧ n < (m : Int)) (zNH (n.toNat * k) x fun v=>K v H)
  | _=>False)
 | .idxStr=>(match vs with
  | [x,n]=>zLA x fun s=>zGe n fun n=>chrP s n fun c=>K (zY c) H
  | _=>False)
 | .idxAgg k m ag=>(match vs with
  | [x,n]=>aggN x fun cs=>zGe n fun n=>needP (0 ≤ n ∧ n < (m : Int)) (optP (part cs (n.toNat * k) k ag) fun v=>K v H)
  | _=>False)
 | .nilchk=>(match vs with
  | [x]=>chkN x fun v=>K v H
  | _=>False)
 | .extract i=>(match vs with
  | [x]=>extN i x fun v=>K v H
  | _=>False)
 | .load s ag=>(match vs with
  | [p]=>loadN s ag p H fun v=>K v H
  | _=>False)
 | .alloc z=>(match vs with
  | []=>K (.ref H.length 0 0 0) (H ++ [.box z])
  | _=>False)
 | .build z pl=>optP (zBa z pl vs) fun cs=>K (.agg cs) H
 | .min=>(match vs with
  | [x,y]=>mmN false x y fun v=>K v H
  | _=>False)
 | .max=>(match vs with
  | [x,y]=>mmN true x y fun v=>K v H
  | _=>False)
 | .call f rd=>callP C f vs rd H K
 | .callv rd=>(match vs with
  | []=>False
  | x :: args=>(match x with
   | .fn f first caps=>callP C f (first ++ args ++ caps) rd H K
   | _=>False))
 | .stuck=>False
 | k=>actP k vs H K
def zBc : List (Nat × Option Bool) → Nat → Option Bool
 | [],_=>none
 | (j,b) :: r,i=>match Nat.beq j i with
  | true=>b
  | false=>zBc r i
def zH4 (x : AV) (S : Prop) (K : Bool → Prop) : Prop:=
 match x with
 | .bool b=>K b
 | .tup vs=>(match vs with
  | []=>S
  | _=>False)
 | _=>False
def undec (dec : List (Nat × Option Bool)) : Option Nat → List (Nat × Option Bool)
 | some d=>(d,none) :: dec
 | none=>dec
def zLB : Fr → Nat → AV
 | [],_=>.undef
 | p :: r,i=>match Nat.beq p.1 i with
  | true=>p.2
  | false=>zLB r i
def zO (fr : Fr) : List Nat → Fr
 | []=>[]
 | i :: L=>(i,zLB fr i) :: zO fr L
def evF (GT : Nat → Option AV) (fr : Fr) : Opd → AV
 | .tmp t=>zLB fr t
 | .const v=>v
 | .glob g=>match GT g with
  | some x=>.lref x 0
  | none=>.undef
 | .fn f=>.fn f [] []
def zEn (GT : Nat → Option AV) (fr : Fr) : List Opd → List AV
 | []=>[]
 | x :: xs=>evF GT fr x :: zEn GT fr xs
def zEo (id : Nat) (L : List Nat) (K : Post) : Post:=fun e fr H=>match e with
 | .normal=>K .normal (zO fr L) H
 | .exit j=>match Nat.beq j id with
  | true=>K .normal (zO fr L) H
  | false=>K (.exit j) fr H
 | .ret=>K .ret fr H
 | .goto l=>K (.goto l) fr H
 | .pan x=>K (.pan x) fr H
def zJh (C : CSpec) (GT : Nat → Option AV) (i : AI) (next : List (Nat × Option Bool) → Fr → Heap → (Fr → Heap → Prop) → Prop) (dec : List (Nat × Option Bool)) (fr : Fr) (H : Heap) (K : Fr → Heap → Prop) : Prop:=
 match i.g with
 | none=>zGg C i.k (zEn GT fr i.xs) H fun v H'=>next (undec dec i.dst) (put fr i.dst v) H' K
 | some (s,want)=>match zBc dec s with
  | some b=>(match b == want with
   | true=>zGg C i.k (zEn GT fr i.xs) H fun v H'=>next (undec dec i.dst) (put fr i.dst v) H' K
   | false=>next (undec dec i.dst) (put fr i.dst (.tup [])) H K)
  | none=>zH4 (zLB fr s) (next (undec dec i.dst) (put fr i.dst (.tup [])) H K) fun b=>(match want with
   | true=>condP b (zGg C i.k (zEn GT fr i.xs) H fun v H'=>next (undec ((s,some true) :: dec) i.dst) (put ((s,.bool true) :: fr) i.dst v) H' K)
     (next (undec ((s,some false) :: dec) i.dst) (put ((s,.bool false) :: fr) i.dst (.tup [])) H K)
   | false=>condP b (next (undec ((s,some true) :: dec) i.dst) (put ((s,.bool true) :: fr) i.dst (.tup [])) H K)
     (zGg C i.k (zEn GT fr i.xs) H fun v H'=>next (undec ((s,some false) :: dec) i.dst) (put ((s,.bool false) :: fr) i.dst v) H' K))
def EWops (C : CSpec) (GT : Nat → Option AV) (is : List AI) : List (Nat × Option Bool) → Fr → Heap → (Fr → Heap → Prop) → Prop:=
 List.rec (motive:=fun _=>List (Nat × Option Bool) → Fr → Heap → (Fr → Heap → Prop) → Prop) (fun _ fr H K=>K fr H) (fun i _ ih dec fr H K=>zJh C GT i ih dec fr H K) is
theorem zIl {C : CSpec} {GT : Nat → Option AV} {i : AI} {is : List AI} {dec : List (Nat × Option Bool)} {fr : Fr} {H : Heap} {K : Fr → Heap → Prop} : EWops C GT (i :: is) dec fr H K = zJh C GT i (EWops C GT is) dec fr H K:=rfl
def zGh (K : Post) : Post:=fun e f H=>∃ f',get f' = get f ∧ K e f' H
def zJi (C : CSpec) (GT : Nat → Option AV) (L : List Nat) (c : AC) (K : Post) (fr : Fr) (H : Heap) : Prop:=AWL C GT L c (zGh K) fr H
structure loopP (C : CSpec) (GT : Nat → Option AV) (L : List Nat) (c : AC) (K : Post) (fr : Fr) (H : Heap) : Prop where
 h : zJi C GT L c K fr H
theorem zJj (C : CSpec) (GT : Nat → Option AV) (L : List Nat) (c : AC) (K : Post) (fr : Fr) (H : Heap) : loopP C GT L c K fr H = zJi C GT L c K fr H:=propext ⟨fun x=>x.h,fun x=>⟨x⟩⟩
def zJk (C : CSpec) (f : FuncId) (vs : List AV) (H : Heap) (K KP : AV → Heap → Prop) : Prop:=(∃ v H',C f vs H v H' ∧ K v H') ∨ (∃ x H',C f (.pan .undef :: vs) H x H' ∧ KP x H')
structure callPP (C : CSpec) (f : FuncId) (vs : List AV) (H : Heap) (K KP : AV → Heap → Prop) : Prop where
 h : zJk C f vs H K KP
theorem zIm (C : CSpec) (f : FuncId) (vs : List AV) (H : Heap) (K KP : AV → Heap → Prop) : callPP C f vs H K KP = zJk C f vs H K KP:=propext ⟨fun x=>x.h,fun x=>⟨x⟩⟩
def zNI (A B : Prop) : Prop:=A ∧ B
structure altP (A B : Prop) : Prop where
 h : zNI A B
theorem zLC (A B : Prop) : altP A B = zNI A B:=propext ⟨fun x=>x.h,fun x=>⟨x⟩⟩
def zDP (C : CSpec) (k : AK) (vs : List AV) (H : Heap) (K KP : AV → Heap → Prop) : Prop:=
 match k with
 | .callp f=>callPP C f vs H K KP
 | .callvp=>(match vs with
  | []=>False
  | x :: args=>(match x with
   | .fn f first caps=>callPP C f (first ++ args ++ caps) H K KP
   | _=>False))
 | .panic=>(match vs with
  | [x]=>(match x with
   | .iface t y=>KP (.iface t y) H
   | _=>False)
  | _=>False)
 | k=>zGg C k vs H K
def zHT (C : CSpec) (GT : Nat → Option AV) (i : AI) (next : List (Nat × Option Bool) → Fr → Heap → (Fr → Heap → Prop) → (AV → Heap → Prop) → Prop) (dec : List (Nat × Option Bool)) (fr : Fr) (H : Heap) (K : Fr → Heap → Prop) (KP : AV → Heap → Prop) : Prop:=
 match i.g with
 | none=>zDP C i.k (zEn GT fr i.xs) H (fun v H'=>next (undec dec i.dst) (put fr i.dst v) H' K KP) KP
 | some (s,want)=>match zBc dec s with
  | some b=>(match b == want with
   | true=>zDP C i.k (zEn GT fr i.xs) H (fun v H'=>next (undec dec i.dst) (put fr i.dst v) H' K KP) KP
   | false=>next (undec dec i.dst) (put fr i.dst (.tup [])) H K KP)
  | none=>zH4 (zLB fr s) (next (undec dec i.dst) (put fr i.dst (.tup [])) H K KP) fun b=>(match want with
   | true=>condP b (zDP C i.k (zEn GT fr i.xs) H (fun v H'=>next (undec ((s,some true) :: dec) i.dst) (put ((s,.bool true) :: fr) i.dst v) H' K KP) KP)
     (next (undec ((s,some false) :: dec) i.dst) (put ((s,.bool false) :: fr) i.dst (.tup [])) H K KP)
   | false=>condP b (next (undec ((s,some true) :: dec) i.dst) (put ((s,.bool true) :: fr) i.dst (.tup [])) H K KP)
     (zDP C i.k (zEn GT fr i.xs) H (fun v H'=>next (undec ((s,some false) :: dec) i.dst) (put ((s,.bool false) :: fr) i.dst v) H' K KP) KP))
def zHU : List AI → Nat → Option AI
 | [],_=>none
 | i :: _,0=>some i
 | _ :: is,n + 1=>zHU is n
def EWT (C : CSpec) (GT : Nat → Option AV) (is : List AI) (t : OT) : List (Nat × Option Bool) → Fr → Heap → (Fr → Heap → Prop) → (AV → Heap → Prop) → Prop:=
 OT.rec (motive:=fun _=>List (Nat × Option Bool) → Fr → Heap → (Fr → Heap → Prop) → (AV → Heap → Prop) → Prop) (fun _ fr H K _=>K fr H)
  (fun j _ ih dec fr H K KP=>match zHU is j with
   | none=>False
   | some i=>zHT C GT i ih dec fr H K KP)
  (fun _ _ iha ihb dec fr H K KP=>altP (iha dec fr H K KP) (ihb dec fr H K KP)) t
def zL0 (C : CSpec) (GT : Nat → Option AV) (L : List Nat) (l : Nat) (r : AC) (K : Post) (fr : Fr) (H : Heap) : Prop:=∃ m,zE3 (AW C GT r) L l (zGh K) m fr H
structure gotoP (C : CSpec) (GT : Nat → Option AV) (L : List Nat) (l : Nat) (r : AC) (K : Post) (fr : Fr) (H : Heap) : Prop where
 h : zL0 C GT L l r K fr H
theorem zJl (C : CSpec) (GT : Nat → Option AV) (L : List Nat) (l : Nat) (r : AC) (K : Post) (fr : Fr) (H : Heap) : gotoP C GT L l r K fr H = zL0 C GT L l r K fr H:=propext ⟨fun x=>x.h,fun x=>⟨x⟩⟩
def EW (C : CSpec) (GT : Nat → Option AV) (c : AC) : Post → Fr → Heap → Prop:=
 AC.rec (motive:=fun _=>Post → Fr → Heap → Prop)
  (fun K fr H=>K .normal fr H)
  (fun L _ ops K fr H=>EWops C GT ops [] (zO fr L) H fun fr' H'=>K .normal fr' H')
  (fun _ _ iha ihb K fr H=>iha (zMF (ihb K) K) fr H)
  (fun c _ _ iha ihb K fr H=>zHS (evF GT fr c) fun t=>condP t (iha K (learn fr c true) H) (ihb K (learn fr c false) H))
  (fun id L _ ih K fr H=>ih (zEo id L K) fr H)
  (fun L c _ K fr H=>loopP C GT L c K (zO fr L) H)
  (fun id K fr H=>K (.exit id) fr H)
  (fun K fr H=>K .ret fr H)
  (fun _ _ _=>False)
  (fun L _ ops t K fr H=>EWT C GT ops t [] (zO fr L) H (fun fr' H'=>K .normal fr' H') (fun x H'=>K (.pan x) [] H'))
  (fun K fr H=>K .normal fr H)
  (fun l K fr H=>K (.goto l) fr H)
  (fun L l _ r ihc _ K fr H=>ihc (zGL l (fun fr' H'=>gotoP C GT L l r K (zO fr' L) H') K) fr H) c
end Go.AM
namespace Go.AM
theorem zDQ {b : Bool} {A B : Prop} : condP b A B ↔ (if b = true then A else B):=by rw [zDN]; unfold zFc; cases b <;> simp
theorem zAH {α : Type} {o : Option α} {K : α → Prop} : optP o K ↔ ∃ v,o = some v ∧ K v:=by rw [zHw]; unfold zK4; exact Iff.rfl
theorem zBH {p K : Prop} : needP p K ↔ p ∧ K:=by rw [zGc]; unfold zHx; exact Iff.rfl
theorem zEI {x : Int} {K : Int → Prop} : valP x K ↔ K x:=by rw [zHy]; unfold zK5; exact Iff.rfl
theorem zLD {k : AK} {vs : List AV} {H : Heap} {K : AV → Heap → Prop} : actP k vs H K ↔ ∃ v H',astep k vs H = some (v,H') ∧ K v H':=by rw [zHz]; unfold zK6; exact Iff.rfl
theorem zGi {C : CSpec} {f : FuncId} {vs : List AV} {rd : Bool} {H : Heap} {K : AV → Heap → Prop} : callP C f vs rd H K ↔ ∃ v H',C f vs H v H' ∧ (rd = true → H' = H) ∧ K v H':=by rw [zEk]; unfold zGd; exact Iff.rfl
theorem zLE {xs : List AV} {n : Int} {K : AV → Prop} : idxP xs n K ↔ ∃ x,0 ≤ n ∧ xs[n.toNat]? = some x ∧ K x:=by rw [zH0]; unfold zK7; exact Iff.rfl
theorem zLF {s : List UInt8} {n : Int} {K : UInt8 → Prop} : chrP s n K ↔ ∃ c,0 ≤ n ∧ s[n.toNat]? = some c ∧ K c:=by rw [zH1]; unfold zK8; exact Iff.rfl
theorem zLG {F : AF} {H H1 H' : Heap} {fr : Fr} {v : AV} : retP F H fr H1 v H' ↔ zHE F H fr H1 v H':=by rw [zH2]; unfold zK9; exact Iff.rfl
theorem zGj {C : CSpec} {GT : Nat → Option AV} {c : AC} {L : List Nat} {K : Post} {fr : Fr} {H : Heap} : loopP C GT L c K fr H ↔ AWL C GT L c (zGh K) fr H:=by rw [zJj]; unfold zJi; exact Iff.rfl
theorem zDR {x : AV} {K : Bool → Prop} : zHS x K ↔ ∃ b,x = .bool b ∧ K b:=by
 unfold zHS; cases x <;> simp
theorem zFd {x : AV} {S : Prop} {K : Bool → Prop} : zH4 x S K ↔ (x = .tup [] ∧ S) ∨ ∃ b,x = .bool b ∧ K b:=by
 unfold zH4
 cases x with
 | tup vs=>cases vs <;> simp
 | _=>simp
theorem zBn {x : AV} {K : Int → Prop} : zGe x K ↔ ∃ k n,x = .int k n ∧ K n:=by
 unfold zGe; cases x <;> simp
 exact ⟨fun h=>⟨_,_,⟨rfl,rfl⟩,h⟩,fun ⟨_,_,⟨_,h1⟩,h2⟩=>h1 ▸ h2⟩
theorem zGk {x : AV} {K : List UInt8 → Prop} : zLA x K ↔ ∃ s,x = .str s ∧ K s:=by
 unfold zLA; cases x <;> simp
theorem zLH {x : AV} {K : List AV → Prop} : aggN x K ↔ ∃ s,x = .agg s ∧ K s:=by
 unfold aggN; cases x <;> simp
theorem zo {k : AK} {vs : List AV} {H H' : Heap} {K : AV → Heap → Prop} {v : AV} (h : astep k vs H = some (v,H')) (hk : K v H') : actP k vs H K:=zKo h hk
theorem zIn {op : BinOp} {k : IntKind} {a b : Int} {K : AV → Prop} (h : intN op k a b K) : ∃ v,zCj op k a b = some v ∧ K v:=by
 unfold intN at h
 unfold zCj
 cases op <;> simp only [zEI,zBH,zAH] at h ⊢
 all_goals first
  | exact ⟨_,rfl,h⟩
  | (obtain ⟨h1,h2⟩:=h; rw [if_neg h1]; exact ⟨_,rfl,h2⟩)
  | exact h
theorem zIo {op : BinOp} {a b : List UInt8} {K : AV → Prop} (h : strN op a b K) : ∃ v,zFL op a b = some v ∧ K v:=by
 unfold strN at h
 cases op <;> simp only [zBH,zAH] at h
 all_goals first
  | exact h
  | exact ⟨_,rfl,h⟩
  | (obtain ⟨h1,h2⟩:=h; exact ⟨_,by simp only [zFL]; rw [if_pos h1],h2⟩)
theorem zIp {op : BinOp} {x y : AV} {K : AV → Prop} (h : binN op x y K) : ∃ v,zND op x y = some v ∧ K v:=by
 unfold binN at h
 cases x <;> try exact h.elim
 case int k a=>
  cases y <;> try exact h.elim
  rename_i k' b
  simp only at h
  simp only [zND]
  have hs : zFy op = true ↔ op = .shl ∨ op = .shr:=by cases op <;> simp [zFy]
  cases hsh : zFy op with
  | true=>
   rw [hsh] at h
   rw [if_pos (hs.1 hsh)]
   exact zAH.1 h
  | false=>
   rw [hsh] at h
   rw [if_neg (fun e=>by rw [hs.2 e] at hsh; cases hsh)]
   simp only [zDO] at h
   by_cases hk : k = k'
   ·rw [if_pos hk]
    simp only [hk,decide_true] at h
    rw [hk]
    exact zIn h
   ·simp [hk] at h
 case str a=>
  cases y <;> try exact h.elim
  exact zIo h
theorem zJm (neg b : Bool) : negB neg b = if neg then !b else b:=by cases neg <;> rfl
theorem zIq {s : Bool} {x : AV} {K : Int → Prop} (h : lenN s x K) : ∃ n : Nat,aLen s x = some n ∧ K (n : Int):=by
 unfold lenN at h
 cases s
 ·simp only at h
  rw [zFz] at h; unfold zJf at h
  cases x <;> first | exact h.elim | exact ⟨_,rfl,h⟩
 ·cases x <;> first | exact h.elim | exact ⟨_,rfl,h⟩
theorem zIr {k : Option Nat} {lo hi : Bool} {vs : List AV} {H : Heap} {K : AV → Heap → Prop} (h : slcN k lo hi vs fun v=>K v H) : actP (.slc k lo hi) vs H K:=by
 unfold slcN at h
 cases vs with
 | nil=>exact h.elim
 | cons x ys=>
  cases lo <;> cases hi <;> simp only at h <;> split at h
  all_goals first
   | exact h.elim
   | (obtain ⟨v,h1,h2⟩:=zAH.1 h; exact zo (by simp only [astep,h1,Option.map_some]) h2)
theorem zFe {o : Nat} {x : AV} {K : AV → Prop} (h : zNH o x K) : (∃ b k i oo,x = .ref b k i oo ∧ K (.ref b k i (oo + o))) ∨ ∃ y oo,x = .lref y oo ∧ K (.lref y (oo + o)):=by
 unfold zNH at h
 cases x <;> first | exact h.elim | exact .inl ⟨_,_,_,_,rfl,h⟩ | exact .inr ⟨_,_,rfl,h⟩
theorem zIs {k : Nat} {x : AV} {n : Int} {kk : IntKind} {H : Heap} {K : AV → Heap → Prop} (h : idxN k x n fun v=>K v H) : actP (.idxAddr k) [x,.int kk n] H K:=by
 rw [zF0] at h; unfold zJg at h
 cases x <;> try exact h.elim
 case lst q k' xs=>
  simp only [zBH,zLE] at h
  obtain ⟨hk,x,h0,h1,h2⟩:=h
  exact zo (by simp only [astep]; rw [if_neg tO,h1]; simp only; rw [if_pos hk]) h2
 case sl q b k' off len=>
  simp only [zBH] at h
  obtain ⟨⟨hk,h0,h1⟩,h2⟩:=h
  exact zo (by simp only [astep]; rw [if_neg tO,if_pos ⟨h1,hk⟩]) h2
theorem zEp {C : CSpec} {k : AK} {vs : List AV} {H : Heap} {K : AV → Heap → Prop} (h : zGg C k vs H K) : zDZ C k vs H K:=by
 have fin : ∀ {k},(∀ f rd,k ≠ .call f rd) → (∀ rd,k ≠ .callv rd) → actP k vs H K → zDZ C k vs H K:=by
  intro k h1 h2 ha
  obtain ⟨v,H',hs,hk⟩:=zLD.1 ha
  refine zBm.2 ⟨v,H', ?_,hk⟩
  cases k <;> first | exact hs | exact absurd rfl (h1 _ _) | exact absurd rfl (h2 _)
 unfold zGg at h
 cases k
 case call f rd=>exact zGi.1 h
 case callv rd=>
  simp only at h
  split at h
  ·exact h.elim
  ·split at h
   ·exact zGi.1 h
   ·exact h.elim
 case append=>exact fin (by simp) (by simp) h
 case appendS=>exact fin (by simp) (by simp) h
 case appT=>exact fin (by simp) (by simp) h
 case stuck=>exact False.elim h
 case callp=>exact fin (by simp) (by simp) h
 case callvp=>exact fin (by simp) (by simp) h
 case panic=>exact fin (by simp) (by simp) h
 case bytesToStr=>exact fin (by simp) (by simp) h
 case strToBytes=>exact fin (by simp) (by simp) h
 case store=>exact fin (by simp) (by simp) h
 case box=>exact fin (by simp) (by simp) h
 case allocT=>exact fin (by simp) (by simp) h
 case bslice=>exact fin (by simp) (by simp) h
 case make=>exact fin (by simp) (by simp) h
 case copy=>exact fin (by simp) (by simp) h
 case mkmap=>exact fin (by simp) (by simp) h
 case mget=>exact fin (by simp) (by simp) h
 case mset=>exact fin (by simp) (by simp) h
 case mlen=>exact fin (by simp) (by simp) h
 case clear=>exact fin (by simp) (by simp) h
 case slc=>exact fin (by simp) (by simp) (zIr h)
 case mkFn=>exact fin (by simp) (by simp) (zo rfl h)
 case build=>
  obtain ⟨v,h1,h2⟩:=zAH.1 h
  exact fin (by simp) (by simp) (zo (by simp only [astep,h1,Option.map_some]) h2)
 all_goals
  refine fin (by simp) (by simp) ?_
  clear fin
  simp only at h
  (rcases vs with _ | ⟨v1,_ | ⟨v2,_ | ⟨v3,_ | ⟨v4,vs⟩⟩⟩⟩ <;> try exact h.elim)
  try simp only at h
 case mv=>exact zo rfl h
 case pick=>
  replace h:=zDR.1 h; obtain ⟨c,rfl,h⟩:=h
  rw [zDQ] at h
  cases c
  ·exact zo rfl h
  ·exact zo rfl h
 case bin=>
  obtain ⟨v,h1,h2⟩:=zIp h
  exact zo (by simp only [astep,h1,Option.map_some]) h2
 case eqs=>
  unfold eqsN at h
  cases v1 <;> try exact h.elim
  cases v2 <;> try exact h.elim
  obtain ⟨v,h1,h2⟩:=zAH.1 h
  exact zo (by simp only [astep,h1,Option.map_some,← zJm]) h2
 case eqb=>
  replace h:=zDR.1 h; obtain ⟨a,rfl,h⟩:=h
  replace h:=zDR.1 h; obtain ⟨b,rfl,h⟩:=h
  exact zo (by simp only [astep,← zJm]) h
 case eqn=>
  obtain ⟨v,h1,h2⟩:=zAH.1 h
  exact zo (by simp only [astep,h1,Option.map_some,← zJm]) h2
 case un=>
  unfold unN at h
  split at h
  ·split at h
   ·exact zo rfl h
   ·exact h.elim
  ·obtain ⟨v,h1,h2⟩:=zAH.1 h
   exact zo (by simp only [astep,h1,Option.map_some]) h2
 case convInt=>
  replace h:=zBn.1 h; obtain ⟨k,n,rfl,h⟩:=h
  exact zo rfl (zEI.1 h)
 case convRune=>
  replace h:=zBn.1 h; obtain ⟨k,n,rfl,h⟩:=h
  exact zo rfl h
 case convId=>
  replace h:=zGk.1 h; obtain ⟨s,rfl,h⟩:=h
  exact zo rfl h
 case mkIface=>exact zo rfl h
 case tyAs=>
  unfold tyN at h
  split at h
  ·obtain ⟨he,h2⟩:=zBH.1 h
   subst he
   exact zo (by simp only [astep,if_true]) h2
  ·exact h.elim
 case len=>
  obtain ⟨n,h1,h2⟩:=zIq h
  exact zo (by simp only [astep,h1,Option.map_some]) h2
 case fieldAddr=>
  rcases zFe h with ⟨b,k,i,oo,rfl,h⟩ | ⟨y,oo,rfl,h⟩ <;> exact zo rfl h
 case field=>
  unfold zLz at h
  split at h
  ·obtain ⟨v,h1,h2⟩:=zAH.1 h
   exact zo (by simp only [astep,h1,Option.map_some]) h2
  ·exact h.elim
 case idxAddr=>
  replace h:=zBn.1 h; obtain ⟨kk,n,rfl,h⟩:=h
  exact zIs h
 case idxArr=>
  replace h:=zBn.1 h; obtain ⟨kk,n,rfl,h⟩:=h
  obtain ⟨hn,h⟩:=zBH.1 h
  rcases zFe h with ⟨b,k,i,oo,rfl,h⟩ | ⟨y,oo,rfl,h⟩ <;> exact zo (by simp only [astep]; rw [if_pos hn]) h
 case idxStr=>
  replace h:=zGk.1 h; obtain ⟨s,rfl,h⟩:=h
  replace h:=zBn.1 h; obtain ⟨kk,n,rfl,h⟩:=h
  obtain ⟨c,h0,h1,h2⟩:=zLF.1 h
  exact zo (by simp only [astep]; rw [if_neg tO,h1]) h2
 case idxAgg=>
  replace h:=zLH.1 h; obtain ⟨cs,rfl,h⟩:=h
  replace h:=zBn.1 h; obtain ⟨kk,n,rfl,h⟩:=h
  obtain ⟨hn,h⟩:=zBH.1 h
  obtain ⟨v,h1,h2⟩:=zAH.1 h
  exact zo (by simp only [astep]; rw [if_pos hn,h1]; rfl) h2
 case nilchk=>
  unfold chkN at h
  split at h <;> first | exact h.elim | exact zo rfl h
 case extract=>
  unfold extN at h
  split at h
  ·obtain ⟨v,h1,h2⟩:=zAH.1 h
   exact zo (by simp only [astep,h1,Option.map_some]) h2
  ·exact h.elim
 case load=>
  rw [zGf] at h; unfold zH3 at h
  split at h
  ·obtain ⟨v,h1,h2⟩:=zAH.1 h
   exact zo (by simp only [astep,zx,h1,Option.map_some]) h2
  ·obtain ⟨⟨cs,o⟩,h0,h⟩:=zAH.1 h
   obtain ⟨v,h1,h2⟩:=zAH.1 h
   exact zo (by simp only [astep,h0]; simp only at h1; simp only [h1,Option.map_some]) h2
 case alloc=>exact zo rfl h
 case min=>
  unfold mmN at h
  split at h
  ·split at h
   ·simp only [zDO] at h
    split at h
    ·rename_i hk
     simp only [decide_eq_true_eq] at hk
     subst hk
     exact zo (by simp only [astep,if_true]) (zEI.1 h)
    ·exact h.elim
   ·exact h.elim
  ·exact h.elim
 case max=>
  unfold mmN at h
  split at h
  ·split at h
   ·simp only [zDO] at h
    split at h
    ·rename_i hk
     simp only [decide_eq_true_eq] at hk
     subst hk
     exact zo (by simp only [astep,if_true]) (zEI.1 h)
    ·exact h.elim
   ·exact h.elim
  ·exact h.elim
theorem zIt {C : CSpec} {k : AK} {vs : List AV} {H : Heap} {K K' : AV → Heap → Prop} (h : zDZ C k vs H K) (hk : ∀ v H,K v H → K' v H) : zDZ C k vs H K':=by
 obtain ⟨v,H',h1,h2⟩:=zBm.1 h
 exact zBm.2 ⟨v,H',h1,hk _ _ h2⟩
section
variable {C : CSpec} {GT : Nat → Option AV}
theorem zA7 {fr fr' : Fr} (h : get fr = get fr') (d : Option Nat) (v : AV) : get (put fr d v) = get (put fr' d v):=by
 rw [zCy,zCy,h]
theorem zEJ {fr : Fr} {s : Nat} {b : Bool} (h : get fr s = .bool b) : get ((s,.bool b) :: fr) = get fr:=by
 funext t
 simp only [get]
 split
 ·rename_i e; subst e; exact h.symm
 ·rfl
theorem zHV {dec : List (Nat × Option Bool)} {d : Option Nat} {s : Nat} {b : Bool} (h : zBc (undec dec d) s = some b) : zBc dec s = some b ∧ d ≠ some s:=by
 cases d with
 | none=>exact ⟨h,by simp⟩
 | some d=>
  simp only [undec,zBc] at h
  split at h
  ·cases h
  ·rename_i e
   refine ⟨h,fun e'=>?_⟩
   cases e'
   simp at e
theorem zF1 {dec : List (Nat × Option Bool)} {fr : Fr} (h : ∀ s b,zBc dec s = some b → get fr s = .bool b) (d : Option Nat) (v : AV) : ∀ s b,zBc (undec dec d) s = some b → get (put fr d v) s = .bool b:=by
 intro s b hs
 obtain ⟨h1,h2⟩:=zHV hs
 cases d with
 | none=>exact h s b h1
 | some d=>
  simp only [put,get]
  rw [if_neg (fun e=>h2 (by rw [e]))]
  exact h s b h1
theorem zH5 {dec : List (Nat × Option Bool)} {fr : Fr} (h : ∀ s b,zBc dec s = some b → get fr s = .bool b) {s : Nat} {b : Bool} (hs : get fr s = .bool b) : ∀ t c,zBc ((s,some b) :: dec) t = some c → get fr t = .bool c:=by
 intro t c ht
 simp only [zBc] at ht
 split at ht
 ·rename_i e
  have : s = t:=Nat.eq_of_beq_eq_true e
  subst this
  cases ht; exact hs
 ·exact h t c ht
theorem zDh : ∀ fr,zLB fr = get fr
 | []=>rfl
 | p :: r=>by
  funext i
  simp only [zLB,get,zDh r]
  cases h : Nat.beq p.1 i with
  | true=>simp only; rw [if_pos (Nat.eq_of_beq_eq_true h)]
  | false=>simp only; rw [if_neg (fun e=>by rw [e] at h; simp at h)]
theorem zAD (fr : Fr) : ∀ L,zO fr L = restrict fr L
 | []=>rfl
 | i :: L=>by
  simp only [zO,zAD fr L,zDh]; rfl
theorem zL1 (GT : Nat → Option AV) (fr : Fr) : evF GT fr = ev GT fr:=by
 funext x
 cases x with
 | tmp t=>simp only [evF,ev,zDh]
 | const v=>rfl
 | glob g=>simp only [evF,ev]; cases GT g <;> rfl
 | fn f=>rfl
theorem zF2 (GT : Nat → Option AV) (fr : Fr) : ∀ xs,zEn GT fr xs = xs.map (ev GT fr)
 | []=>rfl
 | x :: xs=>by simp only [zEn,zF2 GT fr xs,zL1,List.map_cons]
theorem zJn (id : Nat) (L : List Nat) (K : Post) : zEo id L K = zDC id L K:=by
 funext e fr H
 cases e with
 | exit j=>
  simp only [zEo,zDC,zAD]
  cases h : Nat.beq j id with
  | true=>simp only; rw [if_pos (Nat.eq_of_beq_eq_true h)]
  | false=>simp only; rw [if_neg (fun e=>by rw [e] at h; simp at h)]
 | _=>simp only [zEo,zDC,zAD]
theorem zJo : ∀ (is : List AI) (dec : List (Nat × Option Bool)) (fr fr' : Fr) (H : Heap) (K K' : Fr → Heap → Prop),get fr = get fr' → (∀ s b,zBc dec s = some b → get fr s = .bool b) →
  (∀ f f' H,get f = get f' → K f H → K' f' H) → EWops C GT is dec fr H K → AWops C GT is fr' H K'
 | [],_,fr,fr',H,K,K',hf,_,hk,h=>hk _ _ _ hf h
 | i :: is,dec,fr,fr',H,K,K',hf,hd,hk,h=>by
  have hev : ev GT fr = ev GT fr':=by rw [zBb,zBb,hf]
  have go : ∀ (dec : List (Nat × Option Bool)) (fr : Fr),get fr = get fr' → (∀ s b,zBc dec s = some b → get fr s = .bool b) → ev GT fr = ev GT fr' →
    zGg C i.k (i.xs.map (ev GT fr')) H (fun v H'=>EWops C GT is (undec dec i.dst) (put fr i.dst v) H' K) → zDZ C i.k (i.xs.map (ev GT fr')) H fun v H'=>AWops C GT is (put fr' i.dst v) H' K':=by
   intro dec fr hf hd hev h
   exact zIt (zEp h) fun v H' h=>zJo is _ _ _ H' K K' (zA7 hf _ _) (zF1 hd _ _) hk h
  have no : ∀ (dec : List (Nat × Option Bool)) (fr : Fr),get fr = get fr' → (∀ s b,zBc dec s = some b → get fr s = .bool b) → EWops C GT is (undec dec i.dst) (put fr i.dst (.tup [])) H K → AWops C GT is (put fr' i.dst (.tup [])) H K':=
   fun dec fr hf hd h=>zJo is _ _ _ H K K' (zA7 hf _ _) (zF1 hd _ _) hk h
  rw [zIl] at h
  unfold zJh at h
  simp only [zF2,zDh] at h
  unfold AWops
  split at h
  ·rename_i hg
   rw [hg]
   rw [hev] at h
   exact go dec fr hf hd hev h
  ·rename_i s want hg
   rw [hg]
   simp only
   split at h
   ·rename_i b hb
    have hs : get fr' s = .bool b:=by rw [← hf]; exact hd s b hb
    rw [hs]
    simp only [gd]
    split at h
    ·rename_i e
     rw [if_pos e]
     rw [hev] at h
     exact go dec fr hf hd hev h
    ·rename_i e
     rw [if_neg (by simp [e])]
     exact no dec fr hf hd h
   ·rcases zFd.1 h with ⟨hb,h⟩ | ⟨b,hb,h⟩
    ·have hs : get fr' s = .tup []:=by rw [← hf]; exact hb
     rw [hs]
     simp only [gd]
     rw [if_neg (by simp)]
     exact no dec fr hf hd h
    have hs : get fr' s = .bool b:=by rw [← hf]; exact hb
    rw [hs]
    simp only [gd]
    have hf2 : get ((s,AV.bool b) :: fr) = get fr':=by rw [zEJ hb,hf]
    have hev2 : ev GT ((s,AV.bool b) :: fr) = ev GT fr':=by rw [zBb,zBb,hf2]
    have hd2 : ∀ t c,zBc ((s,some b) :: dec) t = some c → get ((s,AV.bool b) :: fr) t = .bool c:=by
     rw [zEJ hb]; exact zH5 hd hb
    cases want <;> cases b <;> simp only [zDQ,if_true,Bool.false_eq_true,if_false] at h
    ·rw [if_pos (by rfl)]
     rw [hev] at h
     exact go _ _ hf2 hd2 hev2 h
    ·rw [if_neg (by simp)]
     exact no _ _ hf2 hd2 h
    ·rw [if_neg (by simp)]
     exact no _ _ hf2 hd2 h
    ·rw [if_pos (by rfl)]
     rw [hev] at h
     exact go _ _ hf2 hd2 hev2 h
theorem zFf {C : CSpec} {f : FuncId} {vs : List AV} {H : Heap} {K KP : AV → Heap → Prop} : callPP C f vs H K KP ↔ ((∃ v H',C f vs H v H' ∧ K v H') ∨ (∃ x H',C f (.pan .undef :: vs) H x H' ∧ KP x H')):=by rw [zIm]; exact Iff.rfl
theorem zLI {A B : Prop} : altP A B ↔ A ∧ B:=by rw [zLC]; exact Iff.rfl
theorem zGl {k : AK} {vs : List AV} {H : Heap} {K KP : AV → Heap → Prop} (h : zDP C k vs H K KP) : zBS C k vs H K KP:=by
 cases k
 case callp f=>exact zFf.1 h
 case callvp=>
  simp only [zDP] at h
  simp only [zBS]
  split at h
  ·exact h.elim
  ·split at h
   ·exact zFf.1 h
   ·exact h.elim
 case panic=>
  simp only [zDP] at h
  simp only [zBS]
  split at h
  ·split at h
   ·exact h
   ·exact h.elim
  ·exact h.elim
 all_goals
  simp only [zDP] at h
  exact zEp h
theorem zHW {k : AK} {vs : List AV} {H : Heap} {K K' KP KP' : AV → Heap → Prop} (h : zBS C k vs H K KP) (hk : ∀ v H,K v H → K' v H) (hp : ∀ x H,KP x H → KP' x H) : zBS C k vs H K' KP':=by
 rcases zBE.1 h with ⟨v,H',h1,h2⟩ | ⟨x,H',h1,h2⟩
 ·exact zBE.2 (.inl ⟨v,H',h1,hk _ _ h2⟩)
 ·exact zBE.2 (.inr ⟨x,H',h1,hp _ _ h2⟩)
theorem zH6 : ∀ (is : List AI) (j : Nat),zHU is j = is[j]?
 | [],j=>by simp [zHU]
 | i :: is,0=>by simp [zHU]
 | i :: is,j + 1=>by simp [zHU,zH6 is j]
theorem zCK (is : List AI) : ∀ (t : OT) (dec : List (Nat × Option Bool)) (fr fr' : Fr) (H : Heap) (K K' : Fr → Heap → Prop) (KP KP' : AV → Heap → Prop),get fr = get fr' → (∀ s b,zBc dec s = some b → get fr s = .bool b) →
  (∀ f f' H,get f = get f' → K f H → K' f' H) → (∀ x H,KP x H → KP' x H) → EWT C GT is t dec fr H K KP → AWT C GT is t fr' H K' KP'
 | .done,_,fr,fr',H,K,K',KP,KP',hf,_,hk,hp,h=>hk _ _ _ hf h
 | .alt a b,dec,fr,fr',H,K,K',KP,KP',hf,hd,hk,hp,h=>by
  replace h : altP (EWT C GT is a dec fr H K KP) (EWT C GT is b dec fr H K KP):=h
  have h:=zLI.1 h
  exact ⟨zCK is a dec fr fr' H K K' KP KP' hf hd hk hp h.1,zCK is b dec fr fr' H K K' KP KP' hf hd hk hp h.2⟩
 | .step j t,dec,fr,fr',H,K,K',KP,KP',hf,hd,hk,hp,h=>by
  replace h : (match zHU is j with
   | none=>False
   | some i=>zHT C GT i (EWT C GT is t) dec fr H K KP):=h
  rw [zH6] at h
  unfold AWT
  split at h
  ·exact h.elim
  rename_i i hi
  simp only [hi]
  have hev : ev GT fr = ev GT fr':=by rw [zBb,zBb,hf]
  have go : ∀ (dec : List (Nat × Option Bool)) (fr : Fr),get fr = get fr' → (∀ s b,zBc dec s = some b → get fr s = .bool b) → ev GT fr = ev GT fr' →
    zDP C i.k (i.xs.map (ev GT fr')) H (fun v H'=>EWT C GT is t (undec dec i.dst) (put fr i.dst v) H' K KP) KP → zBS C i.k (i.xs.map (ev GT fr')) H (fun v H'=>AWT C GT is t (put fr' i.dst v) H' K' KP') KP':=by
   intro dec fr hf hd hev h
   exact zHW (zGl h) (fun v H' h=>zCK is t _ _ _ H' K K' KP KP' (zA7 hf _ _) (zF1 hd _ _) hk hp h) hp
  have no : ∀ (dec : List (Nat × Option Bool)) (fr : Fr),get fr = get fr' → (∀ s b,zBc dec s = some b → get fr s = .bool b) → EWT C GT is t (undec dec i.dst) (put fr i.dst (.tup [])) H K KP → AWT C GT is t (put fr' i.dst (.tup [])) H K' KP':=
   fun dec fr hf hd h=>zCK is t _ _ _ H K K' KP KP' (zA7 hf _ _) (zF1 hd _ _) hk hp h
  unfold zHT at h
  simp only [zF2,zDh] at h
  split at h
  ·rename_i hg
   rw [hg]
   rw [hev] at h
   exact go dec fr hf hd hev h
  ·rename_i s want hg
   rw [hg]
   simp only
   split at h
   ·rename_i b hb
    have hs : get fr' s = .bool b:=by rw [← hf]; exact hd s b hb
    rw [hs]
    simp only [gd]
    split at h
    ·rename_i e
     rw [if_pos e]
     rw [hev] at h
     exact go dec fr hf hd hev h
    ·rename_i e
     rw [if_neg (by simp [e])]
     exact no dec fr hf hd h
   ·rcases zFd.1 h with ⟨hb,h⟩ | ⟨b,hb,h⟩
    ·have hs : get fr' s = .tup []:=by rw [← hf]; exact hb
     rw [hs]
     simp only [gd]
     rw [if_neg (by simp)]
     exact no dec fr hf hd h
    have hs : get fr' s = .bool b:=by rw [← hf]; exact hb
    rw [hs]
    simp only [gd]
    have hf2 : get ((s,AV.bool b) :: fr) = get fr':=by rw [zEJ hb,hf]
    have hev2 : ev GT ((s,AV.bool b) :: fr) = ev GT fr':=by rw [zBb,zBb,hf2]
    have hd2 : ∀ t c,zBc ((s,some b) :: dec) t = some c → get ((s,AV.bool b) :: fr) t = .bool c:=by
     rw [zEJ hb]; exact zH5 hd hb
    cases want <;> cases b <;> simp only [zDQ,if_true,Bool.false_eq_true,if_false] at h
    ·rw [if_pos (by rfl)]
     rw [hev] at h
     exact go _ _ hf2 hd2 hev2 h
    ·rw [if_neg (by simp)]
     exact no _ _ hf2 hd2 h
    ·rw [if_neg (by simp)]
     exact no _ _ hf2 hd2 h
    ·rw [if_pos (by rfl)]
     rw [hev] at h
     exact go _ _ hf2 hd2 hev2 h
theorem zJp {L : List Nat} {l : Nat} {r : AC} {K : Post} {fr : Fr} {H : Heap} : gotoP C GT L l r K fr H ↔ ∃ m,zE3 (AW C GT r) L l (zGh K) m fr H:=by rw [zJl]; exact Iff.rfl
theorem zFg {L : List Nat} {l : Nat} {r : AC} {K K' : Post} (hk : ∀ e fr H,K e fr H → K' e fr H) : ∀ (m : Nat) (fr : Fr) (H : Heap),zE3 (AW C GT r) L l K m fr H → zE3 (AW C GT r) L l K' m fr H
 | 0,_,_,h=>h.elim
 | m + 1,fr,H,h=>zJe h fun e fr H h=>by
  cases e with
  | goto l'=>exact ⟨h.1,zFg hk m _ H h.2⟩
  | _=>exact hk _ _ _ h
def zNJ (K K' : Post) : Prop:=∀ e f f' H,get f = get f' → K e f H → K' e f' H
theorem z6 {fr fr' : Fr} (h : get fr = get fr') (L : List Nat) : restrict fr L = restrict fr' L:=by
 unfold restrict; rw [h]
theorem zH7 : ∀ (ac : AC) (K K' : Post) (fr fr' : Fr) (H : Heap),get fr = get fr' → zNJ K K' → EW C GT ac K fr H → AW C GT ac K' fr' H:=by
 intro ac
 induction ac with
 | skip=>intro K K' fr fr' H hf hk h; exact hk _ _ _ _ hf h
 | ret=>intro K K' fr fr' H hf hk h; exact hk _ _ _ _ hf h
 | stuck=>intro K K' fr fr' H hf hk h; exact False.elim h
 | label=>intro K K' fr fr' H hf hk h; exact hk _ _ _ _ hf h
 | goto l=>intro K K' fr fr' H hf hk h; exact hk _ _ _ _ hf h
 | regt L d is t=>
  intro K K' fr fr' H hf hk h
  rw [zMO]
  replace h : EWT C GT is t [] (zO fr L) H (fun fr' H'=>K .normal fr' H') (fun x H'=>K (.pan x) [] H'):=h
  rw [zAD,z6 hf] at h
  exact zCK is t _ _ _ H _ _ _ _ rfl (fun s b h=>by simp [zBc] at h) (fun f f' H hf h=>hk _ _ _ _ hf h) (fun x H h=>hk _ _ _ _ rfl h) h
 | scope L l c r ihc ihr=>
  intro K K' fr fr' H hf hk h
  replace h : EW C GT c (zGL l (fun fr' H'=>gotoP C GT L l r K (zO fr' L) H') K) fr H:=h
  rw [zK2]
  refine ihc _ _ _ _ H hf (fun e f f' H hf h=>?_) h
  cases e with
  | goto l'=>
   obtain ⟨hl,hg⟩:=h
   obtain ⟨m,hg⟩:=zJp.1 hg
   rw [zAD,z6 hf] at hg
   exact ⟨hl,m,zFg (fun e f H ⟨f',h1,h2⟩=>hk _ _ _ _ h1 h2) m _ _ hg⟩
  | _=>exact hk _ _ _ _ hf h
 | exit id=>intro K K' fr fr' H hf hk h; exact hk _ _ _ _ hf h
 | reg L d is=>
  intro K K' fr fr' H hf hk h
  rw [zNG]
  replace h : EWops C GT is [] (zO fr L) H (fun fr' H'=>K .normal fr' H'):=h
  rw [zAD,z6 hf] at h
  exact zJo is _ _ _ H _ _ rfl (fun s b h=>by simp [zBc] at h) (fun f f' H hf h=>hk _ _ _ _ hf h) h
 | seq a b iha ihb=>
  intro K K' fr fr' H hf hk h
  replace h : EW C GT a (zMF (EW C GT b K) K) fr H:=h
  rw [zNF]
  refine iha _ _ _ _ H hf (fun e f f' H hf h=>?_) h
  cases e with
  | normal=>exact ihb _ _ _ _ _ hf hk h
  | _=>exact hk _ _ _ _ hf h
 | cond c a b iha ihb=>
  intro K K' fr fr' H hf hk h
  replace h : zHS (evF GT fr c) (fun t=>condP t (EW C GT a K (learn fr c true) H) (EW C GT b K (learn fr c false) H)):=h
  rw [zL1] at h
  obtain ⟨t,ht,h⟩:=zDR.1 h
  rw [zBb,hf,← zBb] at ht
  rw [zMQ ht]
  have he : ∀ b,get (learn fr c b) = get (learn fr' c b):=by
   intro b; cases c <;> simp only [learn] <;> first | exact hf | (funext t; simp only [get,hf])
  rw [zDQ] at h
  cases t
  ·simp only [Bool.false_eq_true,if_false] at h ⊢; exact ihb _ _ _ _ H (he _) hk h
  ·simp only [if_true] at h ⊢; exact iha _ _ _ _ H (he _) hk h
 | block id L c ih=>
  intro K K' fr fr' H hf hk h
  replace h : EW C GT c (zEo id L K) fr H:=h
  rw [zJn] at h
  rw [zK3]
  refine ih _ _ _ _ H hf (fun e f f' H hf h=>?_) h
  cases e with
  | normal=>exact hk _ _ _ _ (by rw [z6 hf]) h
  | exit j=>
   simp only [zDC] at h ⊢
   split at h
   ·rename_i e; rw [if_pos e]; exact hk _ _ _ _ (by rw [z6 hf]) h
   ·rename_i e; rw [if_neg e]; exact hk _ _ _ _ hf h
  | _=>exact hk _ _ _ _ hf h
 | loop L c ih=>
  intro K K' fr fr' H hf hk h
  replace h : loopP C GT L c K (zO fr L) H:=h
  rw [zMP]
  have h:=zGj.1 h
  rw [zAD,z6 hf] at h
  exact zK1 h fun e f H ⟨f',h1,h2⟩=>hk _ _ _ _ h1 h2
theorem zHX {fr fr' : Fr} (h : get fr = get fr') (H : Heap) : ∀ r,zHD fr H r = zHD fr' H r:=by
 intro r; cases r <;> simp only [zHD,h]
theorem zDv {fr fr' : Fr} (h : get fr = get fr') (H : Heap) : ∀ rs,zAh fr H rs = zAh fr' H rs
 | []=>rfl
 | r :: rs=>by simp only [zAh,zHX h,zDv h H rs]
def EFun (C : CSpec) (GT : Nat → Option AV) (F : AF) (args : List AV) (H : Heap) (v : AV) (H' : Heap) : Prop:=
 EW C GT F.body (fun e fr H1=>match e with
  | .normal=>retP F H fr H1 v H'
  | .ret=>retP F H fr H1 v H'
  | _=>False) (zFk 0 args) H
theorem zGm {F : AF} {args : List AV} {H : Heap} {v : AV} {H' : Heap} (h : EFun C GT F args H v H') : AFun C GT F args H v H':=by
 unfold EFun at h
 unfold AFun
 refine zH7 _ _ _ _ _ H rfl (fun e f f' H1 hf h=>?_) h
 have : retP F H f H1 v H' → zHE F H f' H1 v H':=fun h=>by
  have:=zLG.1 h
  unfold zHE at this ⊢
  rw [← zDv hf]; exact this
 cases e with
 | normal=>exact this h
 | ret=>exact this h
 | _=>exact h
end
theorem zDi {H : Heap} {k : Nat} {v : AV} {xs r : List AV} (h : view H k v = some xs) : zFq (v :: r) = true:=by cases v <;> first | rfl | simp [view] at h
theorem zGn {H : Heap} {k : Nat} {v : AV} {r : List AV} {p : List AV → Prop} (h : ∃ xs,view H k v = some xs ∧ p xs) : zFq (v :: r) = true:=by obtain ⟨_,h,_⟩:=h; exact zDi h
theorem zGo {k : Nat} {v : AV} {xs r : List AV} (h : ∃ q k',v = .lst q k' xs ∧ (k' = k ∨ xs = [])) : zFq (v :: r) = true:=by obtain ⟨_,_,rfl,_⟩:=h; rfl
theorem zG {P : Program} {GT : Nat → Option AV} (hm : P.follows .mixedOrders = true) {f : FuncId} {F : AF} (hc : zCp P f F = true) {args : List AV} {H : Heap} {v : AV} {H' : Heap} (h : EFun (Good P GT) GT F args H v H')
  (hn : zFq args = true:=by first | rfl | exact Go.AM.zDi (by assumption) | exact Go.AM.zGn (by assumption) | exact Go.AM.zGo (by assumption)) : Good P GT f args H v H':=
 zHR hm hc (zGm h) hn
section
variable {C : CSpec} {GT : Nat → Option AV} {L : List Nat} {c : AC} {K : Post}
def zJq {σ : Type} (L : List Nat) (mk : σ → Fr) (inv : σ → Heap → Prop) (μ : σ → Nat) (s : σ) (fr : Fr) (H : Heap) : Prop:=∃ s',zO fr L = mk s' ∧ inv s' H ∧ μ s' < μ s
structure nextP {σ : Type} (L : List Nat) (mk : σ → Fr) (inv : σ → Heap → Prop) (μ : σ → Nat) (s : σ) (fr : Fr) (H : Heap) : Prop where
 h : zJq L mk inv μ s fr H
theorem zJr {σ : Type} (L : List Nat) (mk : σ → Fr) (inv : σ → Heap → Prop) (μ : σ → Nat) (s : σ) (fr : Fr) (H : Heap) : nextP L mk inv μ s fr H = zJq L mk inv μ s fr H:=propext ⟨fun x=>x.h,fun x=>⟨x⟩⟩
theorem zGp {σ : Type} {L : List Nat} {mk : σ → Fr} {inv : σ → Heap → Prop} {μ : σ → Nat} {s : σ} {fr : Fr} {H : Heap} : nextP L mk inv μ s fr H ↔ ∃ s',zO fr L = mk s' ∧ inv s' H ∧ μ s' < μ s:=by rw [zJr]; unfold zJq; exact Iff.rfl
theorem zEq {σ : Type} {L : List Nat} {mk : σ → Fr} {inv : σ → Heap → Prop} {μ : σ → Nat} {s : σ} {fr : Fr} {H : Heap} (s' : σ) (h1 : zO fr L = mk s') (h2 : inv s' H) (h3 : μ s' < μ s) : nextP L mk inv μ s fr H:=zGp.2 ⟨s',h1,h2,h3⟩
def zNK {σ : Type} (L : List Nat) (mk : σ → Fr) (inv : σ → Heap → Prop) (μ : σ → Nat) (s : σ) (K : Post) : Post:=fun e fr' H'=>match e with
 | .normal=>nextP L mk inv μ s fr' H'
 | .exit j=>K (.exit j) fr' H'
 | .ret=>K .ret fr' H'
 | .goto l=>K (.goto l) fr' H'
 | .pan x=>K (.pan x) fr' H'
theorem zE6 {σ : Type} (mk : σ → Fr) (inv : σ → Heap → Prop) (μ : σ → Nat) (s0 : σ) {fr : Fr} {H : Heap} (hf : fr = mk s0) (h0 : inv s0 H)
  (step : ∀ s H,inv s H → EW C GT c (zNK L mk inv μ s K) (mk s) H) : loopP C GT L c K fr H:=by
 subst hf
 rw [zGj]
 refine ⟨μ s0 + 1, ?_⟩
 have key : ∀ n s H,μ s < n → inv s H → zGK (AW C GT c) L (zGh K) n (mk s) H:=by
  intro n
  induction n with
  | zero=>intro s H h; exact absurd h (Nat.not_lt_zero _)
  | succ n ih=>
   intro s H hn hi
   refine zH7 c _ _ _ _ H rfl (fun e f f' H' hf h=>?_) (step s H hi)
   cases e with
   | normal=>
    obtain ⟨s',h1,h2,h3⟩:=zGp.1 h
    simp only
    rw [← z6 hf,← zAD,h1]
    exact ih s' H' tO h2
   | _=>exact ⟨f,hf,h⟩
 exact key _ s0 H (Nat.lt_succ_self _) h0
end
end Go.AM
