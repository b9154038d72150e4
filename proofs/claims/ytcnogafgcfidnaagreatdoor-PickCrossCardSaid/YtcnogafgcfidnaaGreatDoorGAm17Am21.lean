/- Several texts of mine in one (Am17, Am18, Am19, Am20, Am21). Own work. -/
import Derived.Test.YtcnogafgcfidnaaGreatDoorGAm13Am28
import Derived.ScopeJumps
set_option linter.all false
namespace Go.AM
def Outs (w : World) (M : AMap) (I : Nat → Prop) (n : Nat) : AE → Exit → Prop
 | .normal,E=>E = .normal
 | .exit id,E=>E = .exit id
 | .ret,E=>E = .ret
 | .goto l,E=>E = .goto l
 | .pan x,E=>∃ xv,E = .panic [{ v:=xv,recovered:=false }] ∧ Rel w M I n x xv
def zGZ (P : Program) (N : Nat) : Code → AC → Bool
 | .skip,.skip=>true
 | .region _ ops draw,.reg _ draw' is=>draw == draw' && zA5 P N ops ops.toList is && (!draw || zFU [] [] ops.toList is)
 | .seq a b,.seq a' b'=>zGZ P N a a' && zGZ P N b b'
 | .cond c a b,.cond c' a' b'=>zAs c c' && zGZ P N a a' && zGZ P N b b'
 | .block id c,.block id' _ c'=>id == id' && zGZ P N c c'
 | .loop c,.loop _ c'=>zGZ P N c c'
 | .exit id,.exit id'=>id == id'
 | .ret,.ret=>true
 | _,.stuck=>true
 | .region _ ops draw,.regt _ draw' is t=>draw == draw' && zA5 P N ops ops.toList is && zOS ops is draw t
 | .label _,.label=>true
 | .goto l,.goto l'=>l == l'
 | .scope c,.scope _ l c' r'=>zGZ P N c c' && (match findLabel c l with
  | some rest=>zGZ P N rest r'
  | none=>false)
 | _,_=>false
theorem zM0 {GT : Nat → Option AV} {fr : Fr} {c : Opd} {b : Bool} (h : ev GT fr c = .bool b) (t : Nat) : get (learn fr c b) t = get fr t:=by
 cases c with
 | tmp d=>
  simp only [learn,get]
  split
  ·rename_i e; subst e; exact h.symm
  ·rfl
 | _=>rfl
theorem least {p : Nat → Prop} (h : ∃ n,p n) : ∃ n,p n ∧ ∀ m,p m → n ≤ m:=by
 obtain ⟨n,hn⟩:=h
 induction n using Nat.strongRecOn with
 | _ n ih=>
  by_cases h : ∃ m,m < n ∧ p m
  ·obtain ⟨m,h1,h2⟩:=h; exact ih m h1 h2
  ·exact ⟨n,hn,fun m hm=>by
    rcases Nat.lt_or_ge m n with h1 | h1
    ·exact absurd ⟨m,h1,hm⟩ h
    ·exact h1⟩
theorem wp_loop_rounds {P : Program} {c : Code} {Q : Exit → Act → World → Prop} {a : Act} {w : World} (J : Nat → Act → World → Prop) (h0 : ∃ m,J m a w)
  (round : ∀ m a w,J m a w → ∃ k,m = k + 1 ∧ c.wp P (Exit.then (fun a' w'=>J k a' w') Q) a w) : (Code.loop c).wp P Q a w:=by
 classical
 refine wp_loop (fun a w=>∃ m,J m a w) (fun a w=>if h : ∃ m,J m a w then Classical.choose (least h) else 0) h0 fun a w hI=>?_
 have hμ : ∀ a w,(h : ∃ m,J m a w) → (if h : ∃ m,J m a w then Classical.choose (least h) else 0) = Classical.choose (least h):=fun a w h=>dif_pos h
 obtain ⟨h1,_⟩:=Classical.choose_spec (least hI)
 obtain ⟨k,hk,hr⟩:=round _ a w h1
 refine wp_mono hr fun e a' w' hq=>?_
 cases e with
 | normal=>
  have hI' : ∃ m,J m a' w':=⟨k,hq⟩
  refine ⟨hI', ?_⟩
  rw [hμ _ _ hI',hμ _ _ hI]
  have:=(Classical.choose_spec (least hI')).2 k hq
  omega
 | _=>exact hq
theorem zGa {P : Program} {c rest : Code} {Q : Exit → Act → World → Prop} {a : Act} {w : World} (l : Nat) (J : Nat → Act → World → Prop) (hf : findLabel c l = some rest)
  (first : c.wp P (Exit.jump l (fun a' w'=>∃ m,J m a' w') Q) a w)
  (round : ∀ m a w,J m a w → ∃ k,m = k + 1 ∧ rest.wp P (Exit.jump l (fun a' w'=>J k a' w') Q) a w) : (Code.scope c).wp P Q a w:=by
 classical
 refine wp_scope_jumps l (fun a w=>∃ m,J m a w) (fun a w=>if h : ∃ m,J m a w then Classical.choose (least h) else 0) hf first fun a w hI=>?_
 have hμ : ∀ a w,(h : ∃ m,J m a w) → (if h : ∃ m,J m a w then Classical.choose (least h) else 0) = Classical.choose (least h):=fun a w h=>dif_pos h
 obtain ⟨h1,_⟩:=Classical.choose_spec (least hI)
 obtain ⟨k,hk,hr⟩:=round _ a w h1
 refine wp_mono hr fun e a' w' hq=>?_
 cases e with
 | goto l'=>
  obtain ⟨hl,hq⟩:=hq
  have hI' : ∃ m,J m a' w':=⟨k,hq⟩
  refine ⟨hl,hI', ?_⟩
  rw [hμ _ _ hI',hμ _ _ hI]
  have:=(Classical.choose_spec (least hI')).2 k hq
  omega
 | _=>exact hq
theorem ActOK.none {D : List Deferred} {w : World} {M : AMap} {I : Nat → Prop} {n N : Nat} {g : GF} {a : Act} (hF : ActOK D w M I n N g a) : ActOK D w M I n N (get []) a:=
 ⟨fun t=>.undef _,hF.size,hF.defers⟩
section
variable {D : List Deferred} {P : Program} {GT : Nat → Option AV}
set_option maxHeartbeats 800000 in
theorem zOT {N : Nat} (hm : P.follows .mixedOrders = true) : ∀ (ac : AC) (c : Code) (K : Post) (Q : Exit → Act → World → Prop) (w : World) (M : AMap) (I : Nat → Prop) (H : Heap) (fr : Fr) (a : Act),
  zGZ P N c ac = true → Sim GT w M I H → ActOK D w M I H.length N (get fr) a → AW (Good P GT) GT ac K fr H →
  (∀ e E fr' H' a' w' M' I',Grow w M I H w' M' I' H' → Sim GT w' M' I' H' → ActOK D w' M' I' H'.length N (get fr') a' → Outs w' M' I' H'.length e E → K e fr' H' → Q E a' w') → c.wp P Q a w:=by
 intro ac
 induction ac with
 | stuck=>intro c K Q w M I H fr a hc hS hF hA hQ; exact hA.elim
 | skip=>
  intro c K Q w M I H fr a hc hS hF hA hQ
  cases c <;> simp [zGZ] at hc
  exact wp_skip (hQ .normal .normal fr H a w M I (Grow.refl ..) hS hF rfl hA)
 | label=>
  intro c K Q w M I H fr a hc hS hF hA hQ
  cases c <;> simp [zGZ] at hc
  exact wp_label (hQ .normal .normal fr H a w M I (Grow.refl ..) hS hF rfl hA)
 | ret=>
  intro c K Q w M I H fr a hc hS hF hA hQ
  cases c <;> simp [zGZ] at hc
  exact wp_ret (hQ .ret .ret fr H a w M I (Grow.refl ..) hS hF rfl hA)
 | exit id=>
  intro c K Q w M I H fr a hc hS hF hA hQ
  cases c <;> simp [zGZ] at hc
  subst hc
  exact wp_exit (hQ (.exit _) (.exit _) fr H a w M I (Grow.refl ..) hS hF rfl hA)
 | goto l=>
  intro c K Q w M I H fr a hc hS hF hA hQ
  cases c <;> simp [zGZ] at hc
  subst hc
  exact wp_goto (hQ (.goto _) (.goto _) fr H a w M I (Grow.refl ..) hS hF rfl hA)
 | reg L draw is=>
  intro c K Q w M I H fr a hc hS hF hA hQ
  cases c <;> simp only [zGZ,Bool.false_eq_true,Bool.and_eq_true,beq_iff_eq,Bool.or_eq_true,Bool.not_eq_true'] at hc
  obtain ⟨⟨rfl,h1⟩,h2⟩:=hc
  rename_i id ops draw
  cases draw with
  | false=>exact wp_region_list (zMt is ops.toList w M I H _ a hS (hF.restrict L) h1 hA fun fr' H' a' w' M' I' hG hS' hF' hK=>hQ .normal .normal fr' H' a' w' M' I' hG hS' hF' rfl hK)
  | true=>
   exact zLg hm hS (hF.restrict L) h1 (h2.resolve_left (by simp)) hA fun fr' H' a' w' M' I' hG hS' hF' hK=>hQ .normal .normal fr' H' a' w' M' I' hG hS' hF' rfl hK
 | regt L draw is t=>
  intro c K Q w M I H fr a hc hS hF hA hQ
  cases c <;> simp only [zGZ,Bool.false_eq_true,Bool.and_eq_true,beq_iff_eq] at hc
  obtain ⟨⟨rfl,h1⟩,h2⟩:=hc
  exact zLk hm hS (hF.restrict L) h1 h2 hA (fun fr' H' a' w' M' I' hG hS' hF' hK=>hQ .normal .normal fr' H' a' w' M' I' hG hS' hF' rfl hK)
   (fun x xv g' H' a' w' M' I' hG hS' hF' hr hK=>hQ (.pan x) _ [] H' a' w' M' I' hG hS' hF'.none ⟨xv,rfl,hr⟩ hK)
 | seq x y ihx ihy=>
  intro c K Q w M I H fr a hc hS hF hA hQ
  cases c <;> simp only [zGZ,Bool.false_eq_true,Bool.and_eq_true] at hc
  refine wp_seq (ihx _ _ _ w M I H fr a hc.1 hS hF hA fun e E fr' H' a' w' M' I' hG hS' hF' hE hK=>?_)
  cases e with
  | normal=>
   obtain rfl:=hE
   exact ihy _ K Q w' M' I' H' fr' a' hc.2 hS' hF' hK fun e E fr2 H2 a2 w2 M2 I2 hG2=>hQ e E fr2 H2 a2 w2 M2 I2 (hG.trans hG2)
  | exit id=>obtain rfl:=hE; exact hQ (.exit id) _ fr' H' a' w' M' I' hG hS' hF' rfl hK
  | ret=>obtain rfl:=hE; exact hQ .ret _ fr' H' a' w' M' I' hG hS' hF' rfl hK
  | goto l=>obtain rfl:=hE; exact hQ (.goto l) _ fr' H' a' w' M' I' hG hS' hF' rfl hK
  | pan x=>obtain ⟨xv,rfl,hr⟩:=hE; exact hQ (.pan x) _ fr' H' a' w' M' I' hG hS' hF' ⟨xv,rfl,hr⟩ hK
 | cond t x y ihx ihy=>
  intro c K Q w M I H fr a hc hS hF hA hQ
  cases c <;> simp only [zGZ,Bool.false_eq_true,Bool.and_eq_true] at hc
  rename_i t' x' y'
  obtain ⟨⟨h1,h2⟩,h3⟩:=hc
  unfold AW at hA
  split at hA
  ·rename_i b hb
   have hF' : ActOK D w M I H.length N (get (learn fr t b)) a:=⟨fun s=>by rw [zM0 hb s]; exact hF.rel s,hF.size,hF.defers⟩
   have hr:=hF.ev hS _ _ h1
   rw [← zCO,hb] at hr
   have hv : a.eval t' = .bool b:=by
    generalize a.eval t' = u at hr
    cases hr; rfl
   refine wp_cond hv ?_
   cases b with
   | true=>simp only [if_true] at hA ⊢; exact ihx _ K Q w M I H _ a h2 hS hF' hA hQ
   | false=>simp only [Bool.false_eq_true,if_false] at hA ⊢; exact ihy _ K Q w M I H _ a h3 hS hF' hA hQ
  ·exact hA.elim
 | block id L x ih=>
  intro c K Q w M I H fr a hc hS hF hA hQ
  cases c <;> simp only [zGZ,Bool.false_eq_true,Bool.and_eq_true,beq_iff_eq] at hc
  obtain ⟨rfl,hc⟩:=hc
  rename_i id x'
  refine wp_block (ih _ _ _ w M I H fr a hc hS hF hA fun e E fr' H' a' w' M' I' hG hS' hF' hE hK=>?_)
  cases e with
  | normal=>obtain rfl:=hE; exact hQ .normal _ _ H' a' w' M' I' hG hS' (hF'.restrict L) rfl hK
  | exit j=>
   obtain rfl:=hE
   simp only [zEN] at hK
   simp only [Exit.inBlock]
   by_cases hj : j = id
   ·rw [if_pos hj] at hK ⊢
    exact hQ .normal _ _ H' a' w' M' I' hG hS' (hF'.restrict L) rfl hK
   ·rw [if_neg hj] at hK ⊢
    exact hQ (.exit j) _ fr' H' a' w' M' I' hG hS' hF' rfl hK
  | ret=>obtain rfl:=hE; exact hQ .ret _ fr' H' a' w' M' I' hG hS' hF' rfl hK
  | goto l=>obtain rfl:=hE; exact hQ (.goto l) _ fr' H' a' w' M' I' hG hS' hF' rfl hK
  | pan x=>obtain ⟨xv,rfl,hr⟩:=hE; exact hQ (.pan x) _ fr' H' a' w' M' I' hG hS' hF' ⟨xv,rfl,hr⟩ hK
 | loop L x ih=>
  intro c K Q w M I H fr a hc hS hF hA hQ
  cases c <;> simp only [zGZ,Bool.false_eq_true] at hc
  rename_i x'
  obtain ⟨m,hA⟩:=hA
  refine wp_loop_rounds (fun m a' w'=>∃ M' I' H' fr',Grow w M I H w' M' I' H' ∧ Sim GT w' M' I' H' ∧ ActOK D w' M' I' H'.length N (get fr') a' ∧ zI1 (AW (Good P GT) GT x) L K m fr' H')
   ⟨m,M,I,H,_,Grow.refl ..,hS,hF.restrict L,hA⟩ ?_
  rintro m a1 w1 ⟨M1,I1,H1,fr1,hG1,hS1,hF1,hA1⟩
  cases m with
  | zero=>exact hA1.elim
  | succ k=>
   refine ⟨k,rfl,ih _ _ _ w1 M1 I1 H1 fr1 a1 hc hS1 hF1 hA1 fun e E fr' H' a' w' M' I' hG hS' hF' hE hK=>?_⟩
   cases e with
   | normal=>obtain rfl:=hE; exact ⟨M',I',H',_,hG1.trans hG,hS',hF'.restrict L,hK⟩
   | exit j=>obtain rfl:=hE; exact hQ (.exit j) _ fr' H' a' w' M' I' (hG1.trans hG) hS' hF' rfl hK
   | ret=>obtain rfl:=hE; exact hQ .ret _ fr' H' a' w' M' I' (hG1.trans hG) hS' hF' rfl hK
   | goto l=>obtain rfl:=hE; exact hQ (.goto l) _ fr' H' a' w' M' I' (hG1.trans hG) hS' hF' rfl hK
   | pan x=>obtain ⟨xv,rfl,hr⟩:=hE; exact hQ (.pan x) _ fr' H' a' w' M' I' (hG1.trans hG) hS' hF' ⟨xv,rfl,hr⟩ hK
 | scope L l x r ihx ihr=>
  intro c K Q w M I H fr a hc hS hF hA hQ
  cases c <;> simp only [zGZ,Bool.false_eq_true,Bool.and_eq_true] at hc
  rename_i x'
  obtain ⟨hc1,hc2⟩:=hc
  split at hc2
  case h_2=>cases hc2
  rename_i rest hfl
  have go : ∀ (G : Fr → Heap → Prop) (J : Act → World → Prop) (w1 : World) (M1 : AMap) (I1 : Nat → Prop) (H1 : Heap),Grow w M I H w1 M1 I1 H1 →
    (∀ fr' H' a' w' M' I',Grow w1 M1 I1 H1 w' M' I' H' → Sim GT w' M' I' H' → ActOK D w' M' I' H'.length N (get fr') a' → G fr' H' → J a' w') →
    ∀ e E fr' H' a' w' M' I',Grow w1 M1 I1 H1 w' M' I' H' → Sim GT w' M' I' H' → ActOK D w' M' I' H'.length N (get fr') a' → Outs w' M' I' H'.length e E → zI2 l G K e fr' H' → Exit.jump l J Q E a' w':=by
   intro G J w1 M1 I1 H1 hG1 hJ e E fr' H' a' w' M' I' hG hS' hF' hE hK
   cases e with
   | normal=>obtain rfl:=hE; exact hQ .normal _ fr' H' a' w' M' I' (hG1.trans hG) hS' hF' rfl hK
   | exit j=>obtain rfl:=hE; exact hQ (.exit j) _ fr' H' a' w' M' I' (hG1.trans hG) hS' hF' rfl hK
   | ret=>obtain rfl:=hE; exact hQ .ret _ fr' H' a' w' M' I' (hG1.trans hG) hS' hF' rfl hK
   | goto l'=>obtain rfl:=hE; exact ⟨hK.1,hJ fr' H' a' w' M' I' hG hS' hF' hK.2⟩
   | pan x=>obtain ⟨xv,rfl,hr⟩:=hE; exact hQ (.pan x) _ fr' H' a' w' M' I' (hG1.trans hG) hS' hF' ⟨xv,rfl,hr⟩ hK
  refine zGa l (fun m a' w'=>∃ M' I' H' fr',Grow w M I H w' M' I' H' ∧ Sim GT w' M' I' H' ∧ ActOK D w' M' I' H'.length N (get fr') a' ∧ zG2 (AW (Good P GT) GT r) L l K m fr' H') hfl ?_ ?_
  ·refine ihx _ _ _ w M I H fr a hc1 hS hF hA (go _ _ w M I H (Grow.refl ..) ?_)
   rintro fr' H' a' w' M' I' hG hS' hF' ⟨m,hm'⟩
   exact ⟨m,M',I',H',_,hG,hS',hF'.restrict L,hm'⟩
  ·rintro m a1 w1 ⟨M1,I1,H1,fr1,hG1,hS1,hF1,hA1⟩
   cases m with
   | zero=>exact hA1.elim
   | succ k=>
    refine ⟨k,rfl,ihr _ _ _ w1 M1 I1 H1 fr1 a1 hc2 hS1 hF1 hA1 (go _ _ w1 M1 I1 H1 hG1 ?_)⟩
    intro fr' H' a' w' M' I' hG hS' hF' hg
    exact ⟨M',I',H',_,hG1.trans hG,hS',hF'.restrict L,hg⟩
end
end Go.AM
namespace Go.AM
theorem zJG : ∀ (i : Nat) (vs : List AV) (t : Nat),get (zH8 i vs) t = if i ≤ t then vs.getD (t - i) .undef else .undef
 | _,[],t=>by simp [zH8,get]
 | i,v :: vs,t=>by
  simp only [zH8,get]
  rw [zJG (i + 1) vs t]
  by_cases h : i = t
  ·subst h; simp
  ·simp only [h,if_false]
   by_cases h2 : i ≤ t
   ·rw [if_pos h2,if_pos tO,show t - i = (t - (i + 1)) + 1 by omega]; simp
   ·rw [if_neg h2,if_neg tO]
def zLl (P : Program) : List ResultVar → List ARes → Bool
 | [],[]=>true
 | .tmp t :: rs,.tmp t' :: qs=>t == t' && zLl P rs qs
 | .cell a ty :: rs,.cell a' s ag :: qs=>a == a' && zBL P ty == some s && zDr P ty == some ag && zLl P rs qs
 | _,_=>false
section
variable {D : List Deferred} {P : Program} {GT : Nat → Option AV} {w : World} {M : AMap} {I : Nat → Prop} {H : Heap}
theorem zCo (hS : Sim GT w M I H) {N : Nat} {fr : Fr} {a : Act} (hF : ActOK D w M I H.length N (get fr) a) : ∀ (rs : List ResultVar) (qs : List ARes) (vs : List AV),zLl P rs qs = true → zAr fr H qs = some vs →
  ∃ us,(rs.mapM (m:=Sem) fun
   | .tmp t=>pure (a.tmps.getD t Go.undef)
   | .cell b t=>do loadVar t (← asAddr (a.tmps.getD b Go.undef))).run P w = .ok us w ∧ zBJ w M I H.length vs us
 | [],[],vs,_,h=>by
  simp only [zAr,Option.some.injEq] at h
  subst h
  exact ⟨[],by simp,rfl,by simp⟩
 | .tmp t :: rs,.tmp t' :: qs,vs,hc,h=>by
  simp only [zLl,Bool.and_eq_true,beq_iff_eq] at hc
  obtain ⟨rfl,hc⟩:=hc
  simp only [zAr,zJ0] at h
  split at h
  ·rename_i v vs' h1 h2
   cases h
   obtain ⟨us,hr,hl,hR⟩:=zCo hS hF rs qs vs' hc h2
   cases h1
   refine ⟨a.tmps.getD t Go.undef :: us,by simp only [List.mapM_cons,Sem.run_bind,Sem.run_pure,Result.andThen_ok,hr],by simp [hl],fun i c u hi hu=>?_⟩
   cases i with
   | zero=>simp at hi hu; subst hi; have:=hF.rel t; simp at this; rw [hu] at this; exact this
   | succ i=>exact hR i c u (by simpa using hi) (by simpa using hu)
  ·cases h
 | .cell b ty :: rs,.cell b' s ag :: qs,vs,hc,h=>by
  simp only [zLl,Bool.and_eq_true,beq_iff_eq] at hc
  obtain ⟨⟨⟨rfl,hc1⟩,hc2⟩,hc⟩:=hc
  simp only [zAr,zJ0] at h
  split at h
  ·rename_i v vs' h1 h2
   cases h
   obtain ⟨us,hr,hl,hR⟩:=zCo hS hF rs qs vs' hc h2
   split at h1
   ·rename_i cs o hp
    obtain ⟨g,ad,hv,hcells⟩:=zI4 hS (hF.rel b) hp
    obtain ⟨u,hu,hru⟩:=zEQ (P:=P) hc1 hc2 h1 hcells
    refine ⟨u :: us, ?_,by simp [hl],fun i c u' hi hu'=>?_⟩
    ·have ha : (asAddr (a.tmps.getD b Go.undef)).run P w = .ok ⟨g,ad,none⟩ w:=by rw [hv]; simp [asAddr]
     simp only [List.mapM_cons,Sem.run_bind,Sem.run_pure,Result.andThen_ok,ha,hu,hr]
    ·cases i with
     | zero=>simp at hi hu'; subst hi hu'; exact hru
     | succ i=>exact hR i c u' (by simpa using hi) (by simpa using hu')
   ·cases h1
  ·cases h
 | [],_ :: _,_,hc,_=>by simp [zLl] at hc
 | .tmp _ :: _,[],_,hc,_=>by simp [zLl] at hc
 | .cell _ _ :: _,[],_,hc,_=>by simp [zLl] at hc
 | .tmp _ :: _,.cell .. :: _,_,hc,_=>by simp [zLl] at hc
 | .cell _ _ :: _,.tmp _ :: _,_,hc,_=>by simp [zLl] at hc
theorem zLm {n : Nat} {vs : List AV} {us : List Value} (h : zBJ w M I n vs us) : Rel w M I n (tupled vs) (if h : us.toArray.size = 1 then us.toArray[0] else .tuple us.toArray):=by
 obtain ⟨hl,hR⟩:=h
 match vs,us,hl with
 | [],[],_=>exact Rel.tup [] [] rfl (by simp)
 | [v],[u],_=>simpa [tupled] using hR 0 v u rfl rfl
 | v :: v' :: vs,u :: u' :: us,hl=>simpa [tupled] using Rel.tup _ _ hl hR
theorem zHn {F : AF} {w0 : World} {M0 : AMap} {I0 : Nat → Prop} {H0 : Heap} (hS0 : Sim GT w0 M0 I0 H0) (hG : Grow w0 M0 I0 H0 w M I H) (hS : Sim GT w M I H) {N : Nat} {fr : Fr} {a : Act} (hF : ActOK D w M I H.length N (get fr) a)
  {fn : Func} (hc : zLl P fn.results.toList F.results = true) {v : AV} {H' : Heap} (h : zJx F H0 fr H v H') :
  ∃ u,(results fn a.tmps).run P w = .ok u w ∧ ∃ I',Grow w0 M0 I0 H0 w M I' H' ∧ Sim GT w M I' H' ∧ Rel w M I' H'.length v u:=by
 unfold zJx at h
 split at h
 ·exact h.elim
 ·rename_i vs hvs
  obtain ⟨us,hr,hR⟩:=zCo (P:=P) hS hF _ _ vs hc hvs
  have hT:=zLm hR
  refine ⟨if h : us.toArray.size = 1 then us.toArray[0] else .tuple us.toArray, ?_, ?_⟩
  case refine_2=>
   split at h
   ·obtain ⟨rfl,rfl⟩:=h
    exact ⟨I,hG,hS,hT⟩
   ·split at h
    ·rename_i v' H2 hfz
     obtain ⟨hb,hold,rfl,rfl⟩:=h
     obtain ⟨I',g1,s1,r1,l1,_⟩:=zGH _ _ hS hT hfz
     have hG2:=hG.trans g1
     have hlen : H0.length ≤ H2.length:=hG2.len
     refine ⟨I',hG2.take,s1.take _ hlen (fun b cs hb hcs=>?_), ?_⟩
     ·rcases hold b hb with h1 | ⟨x,h1,h2⟩
      ·rw [hcs] at h1
       obtain ⟨g,o,cur,_,_,_,_,h5⟩:=hS0.blk b _ h1.symm
       intro c hcm
       obtain ⟨i,hi⟩:=List.getElem?_of_mem hcm
       obtain ⟨u,_,hu⟩:=h5 i c hi
       exact hu.bel
      ·rw [hcs] at h1; cases h1
       simp only [zKk,AV.belL_iff] at h2
       exact h2
     ·have : (H2.take H0.length).length = H0.length:=by simp; omega
      rw [this]
      exact r1.cut (fun _ _=>rfl) hb
    ·exact h.elim
  case refine_1=>
   simp only [results]
   rw [Array.mapM_eq_mapM_toList]
   simp only [Sem.run_bind,Sem.run_pure,Result.andThen_ok,map_eq_pure_bind]
   erw [hr]
   simp
theorem zM1 (hS : Sim GT w M I H) {args : List AV} {cargs : List Value} (hA : zBJ w M I H.length args cargs) {n : Nat} : ActOK [] w M I H.length n (get (zH8 0 args)) { tmps:=cargs.toArray ++ Array.replicate (n - cargs.toArray.size) Go.undef,defers:=[] }:=by
 refine ⟨fun t=>?_,by simp; omega,rfl⟩
 rw [zJG]
 simp only [Nat.zero_le,if_true,Nat.sub_zero]
 by_cases ht : t < args.length
 ·have h2 : args[t]? = some args[t]:=by simp [ht]
  have ht' : t < cargs.length:=by rw [← hA.1]; exact ht
  have h3 : cargs[t]? = some cargs[t]:=by simp [ht']
  have:=hA.2 t _ _ h2 h3
  have e1 : args.getD t .undef = args[t]:=by simp [ht]
  rw [e1]
  have e2 : (cargs.toArray ++ Array.replicate (n - cargs.toArray.size) Go.undef).getD t Go.undef = cargs[t]:=by
   rw [Array.getD_eq_getD_getElem?,Array.getElem?_append_left (by simpa using ht')]
   simp [ht']
  rw [e2]; exact this
 ·have e1 : args.getD t .undef = .undef:=by simp [List.getElem?_eq_none (Nat.le_of_not_lt ht)]
  rw [e1]; exact .undef _
theorem zLn (hm : P.follows .mixedOrders = true) {f : FuncId} {fn : Func} {c : Code} {F : AF} (hf : P.funcs[f]? = some fn) (hname : (fn.name == "runtime.NumGoroutine") = false) (hb : fn.body = some c)
  (hc : zGZ P fn.ntmps c F.body = true) (hr : zLl P fn.results.toList F.results = true) {args : List AV} (hn : zIE args = true) {H : Heap} {v : AV} {H' : Heap} (h : AFun (Good P GT) GT F args H v H') : Good P GT f args H v H':=by
 refine zI8 hn fun w M I cargs hS hA=>?_
 have h1 : fn.name ≠ "runtime.NumGoroutine" := by simpa using hname
 have hrun : (callFunc f cargs.toArray).run P w = .ok (.enter f cargs.toArray) w:=by simp [callFunc,hf,h1,hb]
 rw [hrun]
 refine calls_of_wp hf hb ?_; refine zOT hm F.body c _ _ w M I H (zH8 0 args) _ hc hS (zM1 hS hA) h ?_
 intro e E fr' H1 a' w' M' I' hG hS' hF' hE hK
 cases e with
 | exit id=>exact hK.elim
 | goto l=>exact hK.elim
 | pan x=>exact hK.elim
 | normal=>
  obtain rfl:=hE
  obtain ⟨u,h2,I2,h3,h4,h5⟩:=zHn hS hG hS' hF' hr hK
  exact ⟨hF'.defers,u,h2,u,rfl,M',I2,h3,h4,h5⟩
 | ret=>
  obtain rfl:=hE
  obtain ⟨u,h2,I2,h3,h4,h5⟩:=zHn hS hG hS' hF' hr hK
  exact ⟨hF'.defers,u,h2,u,rfl,M',I2,h3,h4,h5⟩
end
end Go.AM
namespace Go.AM
section
variable {C : CSpec} {GT : Nat → Option AV}
theorem zCa {k : AK} {vs : List AV} {H : Heap} {K : AV → Heap → Prop} : zE4 C k vs H K ↔ ∃ v H',zCZ C k vs H v H' ∧ K v H':=by
 constructor
 ·exact zF3
 ·rintro ⟨v,H',h,hk⟩
  cases k
  case call f rd=>exact ⟨v,H',h.1,h.2,hk⟩
  case callv rd=>
   simp only [zCZ] at h
   split at h
   ·exact ⟨v,H',h.1,h.2,hk⟩
   ·exact h.elim
  all_goals
   simp only [zCZ] at h
   simp only [zE4]
   rw [h]
   exact hk
theorem zIK {i : AI} {is : List AI} {fr : Fr} {H : Heap} {K : Fr → Heap → Prop} {v : AV} {H' : Heap} (h : AYields C GT i (get fr) H v H') (h2 : AWops C GT is (put fr i.dst v) H' K) : AWops C GT (i :: is) fr H K:=by
 unfold AYields at h
 unfold AWops
 split at h
 ·rename_i hg
  rw [hg]
  exact zCa.2 ⟨v,H',by rw [zCO]; exact h,h2⟩
 ·rename_i s want hg
  rw [hg]
  obtain ⟨b,hb,h⟩:=h
  simp only [hb]
  split at h
  ·rename_i hw
   rw [if_pos hw]
   exact zCa.2 ⟨v,H',by rw [zCO]; exact h,h2⟩
  ·rename_i hw
   rw [if_neg hw]
   obtain ⟨rfl,rfl⟩:=h
   exact h2
theorem zBr {k : AK} {vs : List AV} {H : Heap} {K KP : AV → Heap → Prop} : zCB C k vs H K KP ↔ (∃ v H',zCZ C k.plainK vs H v H' ∧ K v H') ∨ (∃ x H',zIF C k vs H x H' ∧ KP x H'):=by
 constructor
 ·exact zGU
 ·intro h
  cases k
  case callp f=>
   rcases h with ⟨v,H',h1,h2⟩ | ⟨x,H',h1,h2⟩
   ·exact .inl ⟨v,H',h1.1,h2⟩
   ·exact .inr ⟨x,H',h1,h2⟩
  case callvp=>
   rcases h with ⟨v,H',h1,h2⟩ | ⟨x,H',h1,h2⟩
   ·simp only [AK.plainK,zCZ] at h1
    simp only [zCB]
    split at h1
    ·exact .inl ⟨v,H',h1.1,h2⟩
    ·exact h1.elim
   ·simp only [zIF] at h1
    simp only [zCB]
    split at h1
    ·exact .inr ⟨x,H',h1,h2⟩
    ·exact h1.elim
  case panic=>
   rcases h with ⟨v,H',h1,h2⟩ | ⟨x,H',h1,h2⟩
   ·simp [AK.plainK,zCZ,astep] at h1
   ·obtain ⟨t,y,rfl,rfl,rfl⟩:=h1
    exact h2
  all_goals
   rcases h with ⟨v,H',h1,h2⟩ | ⟨x,H',h1,h2⟩
   ·exact zCa.2 ⟨v,H',h1,h2⟩
   ·exact h1.elim
def zMY (K : Post) (os : List (AE × Fr × Heap)) : Prop:=∀ o ∈ os,K o.1 o.2.1 o.2.2
def Fin' (F : Post → Fr → Heap → Prop) : Prop:=∀ K fr H,F K fr H → ∃ os,zMY K os ∧ ∀ K',zMY K' os → F K' fr H
theorem zMY.one {K : Post} {e : AE} {fr : Fr} {H : Heap} (h : K e fr H) : zMY K [(e,fr,H)]:=by
 intro o ho
 obtain rfl:=List.mem_singleton.1 ho
 exact h
theorem zMY.get {K : Post} {e : AE} {fr : Fr} {H : Heap} (h : zMY K [(e,fr,H)]) : K e fr H:=h _ (List.mem_singleton.2 rfl)
theorem zEX {F : Post → Fr → Heap → Prop} (hF : Fin' F) {T : Post → Post} (hT : ∀ K e fr H,T K e fr H → ∃ l,zMY K l ∧ ∀ K',zMY K' l → T K' e fr H) : Fin' fun K fr H=>F (T K) fr H:=by
 classical
 intro K fr H h
 obtain ⟨os,h1,h2⟩:=hF _ fr H h
 have hc : ∀ o : AE × Fr × Heap,∃ l : List (AE × Fr × Heap),o ∈ os → (zMY K l ∧ ∀ K',zMY K' l → T K' o.1 o.2.1 o.2.2):=fun o=>by
  by_cases ho : o ∈ os
  ·obtain ⟨l,a,b⟩:=hT K _ _ _ (h1 o ho)
   exact ⟨l,fun _=>⟨a,b⟩⟩
  ·exact ⟨[],fun h=>absurd h ho⟩
 obtain ⟨f,hf⟩:=Classical.axiomOfChoice hc
 refine ⟨os.flatMap f,fun o ho=>?_,fun K' hK=>h2 _ fun o ho=>(hf o ho).2 K' fun o' ho'=>hK o' (List.mem_flatMap.2 ⟨o,ho,ho'⟩)⟩
 obtain ⟨o1,ho1,ho2⟩:=List.mem_flatMap.1 ho
 exact (hf o1 ho1).1 o ho2
theorem zCC {K : Post} {e : AE} {fr : Fr} {H : Heap} {T : Post → Prop} (ht : ∀ K',T K' ↔ K' e fr H) (h : T K) : ∃ l,zMY K l ∧ ∀ K',zMY K' l → T K':=
 ⟨[(e,fr,H)],.one ((ht K).1 h),fun K' hk=>(ht K').2 hk.get⟩
theorem zM2 : ∀ (is : List AI),Fin' fun K fr H=>AWops C GT is fr H fun fr' H'=>K .normal fr' H'
 | []=>fun K fr H h=>⟨[(.normal,fr,H)],.one h,fun K' hk=>hk.get⟩
 | i :: is=>fun K fr H h=>by
  obtain ⟨v,H1,h1,h2⟩:=zFA h
  obtain ⟨os,h3,h4⟩:=zM2 is K _ _ h2
  exact ⟨os,h3,fun K' hk=>zIK h1 (h4 K' hk)⟩
theorem zGb {is : List AI} {j : Nat} {t : OT} {fr : Fr} {H : Heap} {K : Fr → Heap → Prop} {KP : AV → Heap → Prop} {i : AI} (hi : is[j]? = some i)
  (h : (∃ v H',AYields C GT i.plain (get fr) H v H' ∧ AWT C GT is t (put fr i.dst v) H' K KP) ∨ (∃ x H',zAm C GT i (get fr) H x H' ∧ KP x H')) : AWT C GT is (.step j t) fr H K KP:=by
 unfold AWT
 simp only [hi]
 unfold AYields zAm at h
 cases hg : i.g with
 | none=>
  simp only [AI.plain,hg] at h ⊢
  rw [← zCO] at h
  exact zBr.2 h
 | some sw=>
  obtain ⟨s,want⟩:=sw
  simp only [AI.plain,hg] at h ⊢
  rw [← zCO] at h
  rcases h with ⟨v,H',⟨b,hb,h⟩,h2⟩ | ⟨x,H',⟨hb,h⟩,h2⟩
  ·simp only [hb]
   split at h
   ·rename_i hbt
    rw [if_pos hbt]
    exact zBr.2 (.inl ⟨v,H',h,h2⟩)
   ·rename_i hbt
    rw [if_neg hbt]
    obtain ⟨rfl,rfl⟩:=h
    exact h2
  ·simp only [hb]
   rw [if_pos trivial]
   exact zBr.2 (.inr ⟨x,H',h,h2⟩)
theorem zIL (is : List AI) : ∀ (t : OT),Fin' fun K fr H=>AWT C GT is t fr H (fun fr' H'=>K .normal fr' H') (fun x H'=>K (.pan x) [] H')
 | .done=>fun K fr H h=>⟨[(.normal,fr,H)],.one h,fun K' hk=>hk.get⟩
 | .step j t=>fun K fr H h=>by
  obtain ⟨i,hi,h1⟩:=zF5 h
  rcases h1 with ⟨v,H',h1,h2⟩ | ⟨x,H',h1,h2⟩
  ·obtain ⟨os,h3,h4⟩:=zIL is t K _ _ h2
   exact ⟨os,h3,fun K' hk=>zGb hi (.inl ⟨v,H',h1,h4 K' hk⟩)⟩
  ·exact ⟨[(.pan x,[],H')],.one h2,fun K' hk=>zGb hi (.inr ⟨x,H',h1,hk.get⟩)⟩
 | .alt a b=>fun K fr H h=>by
  obtain ⟨o1,a1,a2⟩:=zIL is a K fr H h.1
  obtain ⟨o2,b1,b2⟩:=zIL is b K fr H h.2
  exact ⟨o1 ++ o2,fun o ho=>(List.mem_append.1 ho).elim (a1 o) (b1 o),fun K' hk=>⟨a2 K' fun o ho=>hk o (List.mem_append_left _ ho),b2 K' fun o ho=>hk o (List.mem_append_right _ ho)⟩⟩
theorem zJH {F : Post → Fr → Heap → Prop} (hF : Fin' F) (L : List Nat) : ∀ m,Fin' fun K fr H=>zI1 F L K m fr H
 | 0=>fun K fr H h=>h.elim
 | m + 1=>zEX hF fun K e fr H h=>by
  cases e with
  | normal=>exact zJH hF L m K _ _ h
  | _=>exact zCC (T:=fun K'=>K' _ fr H) (fun K'=>Iff.rfl) h
theorem zJI {F : Post → Fr → Heap → Prop} (hF : Fin' F) (L : List Nat) (l : Nat) : ∀ m,Fin' fun K fr H=>zG2 F L l K m fr H
 | 0=>fun K fr H h=>h.elim
 | m + 1=>zEX hF fun K e fr H h=>by
  cases e with
  | goto l'=>
   obtain ⟨os,h1,h2⟩:=zJI hF L l m K _ _ h.2
   exact ⟨os,h1,fun K' hk=>⟨h.1,h2 K' hk⟩⟩
  | _=>exact zCC (T:=fun K'=>K' _ fr H) (fun K'=>Iff.rfl) h
theorem zQq : ∀ (ac : AC),Fin' (AW C GT ac):=by
 intro ac
 induction ac with
 | skip=>exact fun K fr H h=>⟨[(.normal,fr,H)],.one h,fun K' hk=>hk.get⟩
 | label=>exact fun K fr H h=>⟨[(.normal,fr,H)],.one h,fun K' hk=>hk.get⟩
 | ret=>exact fun K fr H h=>⟨[(.ret,fr,H)],.one h,fun K' hk=>hk.get⟩
 | exit id=>exact fun K fr H h=>⟨[(.exit id,fr,H)],.one h,fun K' hk=>hk.get⟩
 | goto l=>exact fun K fr H h=>⟨[(.goto l,fr,H)],.one h,fun K' hk=>hk.get⟩
 | stuck=>exact fun K fr H h=>h.elim
 | reg L d is=>exact fun K fr H h=>zM2 is K _ H h
 | regt L d is t=>exact fun K fr H h=>zIL is t K _ H h
 | seq a b iha ihb=>
  exact zEX iha (T:=fun K=>zPm (AW C GT b K) K) fun K e fr H h=>by
   cases e with
   | normal=>exact ihb K fr H h
   | _=>exact zCC (T:=fun K'=>K' _ fr H) (fun K'=>Iff.rfl) h
 | cond c a b iha ihb=>
  intro K fr H h
  unfold AW at h
  split at h
  ·rename_i t ht
   have e : ∀ K',AW C GT (.cond c a b) K' fr H = if t = true then AW C GT a K' (learn fr c true) H else AW C GT b K' (learn fr c false) H:=fun K'=>by simp only [AW,ht]
   split at h
   ·rename_i htt
    obtain ⟨os,h1,h2⟩:=iha _ _ _ h
    exact ⟨os,h1,fun K' hk=>by rw [e,if_pos htt]; exact h2 K' hk⟩
   ·rename_i htt
    obtain ⟨os,h1,h2⟩:=ihb _ _ _ h
    exact ⟨os,h1,fun K' hk=>by rw [e,if_neg htt]; exact h2 K' hk⟩
  ·exact h.elim
 | block id L c ih=>
  exact zEX ih (T:=zEN id L) fun K e fr H h=>by
   cases e with
   | normal=>exact zCC (T:=fun K'=>K' .normal (restrict fr L) H) (fun K'=>Iff.rfl) h
   | exit j=>
    simp only [zEN] at h ⊢
    by_cases hj : j = id
    ·simp only [hj,if_true] at h ⊢
     exact zCC (T:=fun K'=>K' .normal (restrict fr L) H) (fun K'=>Iff.rfl) h
    ·simp only [hj,if_false] at h ⊢
     exact zCC (T:=fun K'=>K' (.exit j) fr H) (fun K'=>Iff.rfl) h
   | _=>exact zCC (T:=fun K'=>K' _ fr H) (fun K'=>Iff.rfl) h
 | loop L c ih=>
  intro K fr H h
  obtain ⟨m,h⟩:=h
  obtain ⟨os,h1,h2⟩:=zJH ih L m K _ H h
  exact ⟨os,h1,fun K' hk=>⟨m,h2 K' hk⟩⟩
 | scope L l c r ihc ihr=>
  exact zEX ihc (T:=fun K=>zI2 l (fun fr' H'=>∃ m,zG2 (AW C GT r) L l K m (restrict fr' L) H') K) fun K e fr H h=>by
   cases e with
   | goto l'=>
    obtain ⟨hl,m,hg⟩:=h
    obtain ⟨os,h1,h2⟩:=zJI ihr L l m K _ H hg
    exact ⟨os,h1,fun K' hk=>⟨hl,m,h2 K' hk⟩⟩
   | _=>exact zCC (T:=fun K'=>K' _ fr H) (fun K'=>Iff.rfl) h
theorem zM3 {ac : AC} {K K' : Post} {fr : Fr} {H : Heap} (h : AW C GT ac K fr H) (hk : ∀ e fr H,K e fr H → K' e fr H) : AW C GT ac K' fr H:=by
 obtain ⟨os,h1,h2⟩:=zQq ac K fr H h
 exact h2 K' fun o ho=>hk _ _ _ (h1 o ho)
def One (F : Post → Fr → Heap → Prop) : Prop:=∀ K fr H,F K fr H → ∃ e fr' H',K e fr' H' ∧ ∀ K' : Post,K' e fr' H' → F K' fr H
def AWL (C : CSpec) (GT : Nat → Option AV) (L : List Nat) (c : AC) (K : Post) (fr : Fr) (H : Heap) : Prop:=∃ m,zI1 (AW C GT c) L K m fr H
theorem zHo {L : List Nat} {c : AC} {K K' : Post} (hk : ∀ e fr H,K e fr H → K' e fr H) : ∀ (m n : Nat) (fr : Fr) (H : Heap),m ≤ n → zI1 (AW C GT c) L K m fr H → zI1 (AW C GT c) L K' n fr H
 | 0,_,_,_,_,h=>h.elim
 | m + 1,0,_,_,hl,_=>absurd hl tO
 | m + 1,n + 1,fr,H,hl,h=>zM3 h fun e fr H h=>by
  cases e with
  | normal=>exact zHo hk m n _ H tO h
  | _=>exact hk _ _ _ h
theorem zOU {L : List Nat} {c : AC} {K K' : Post} {fr : Fr} {H : Heap} (h : AWL C GT L c K fr H) (hk : ∀ e fr H,K e fr H → K' e fr H) : AWL C GT L c K' fr H:=by
 obtain ⟨m,h⟩:=h
 exact ⟨m,zHo hk m m _ _ (Nat.le_refl _) h⟩
variable {K : Post} {fr : Fr} {H : Heap}
theorem zQr {a b : AC} : AW C GT (.seq a b) K fr H = AW C GT a (zPm (AW C GT b K) K) fr H:=rfl
theorem zQs {L : List Nat} {d : Bool} {is : List AI} : AW C GT (.reg L d is) K fr H = AWops C GT is (restrict fr L) H fun fr' H'=>K .normal fr' H':=rfl
theorem zPv {L : List Nat} {d : Bool} {is : List AI} {t : OT} : AW C GT (.regt L d is t) K fr H = AWT C GT is t (restrict fr L) H (fun fr' H'=>K .normal fr' H') (fun x H'=>K (.pan x) [] H'):=rfl
theorem zOV {L : List Nat} {l : Nat} {c r : AC} : AW C GT (.scope L l c r) K fr H = AW C GT c (zI2 l (fun fr' H'=>∃ m,zG2 (AW C GT r) L l K m (restrict fr' L) H') K) fr H:=rfl
theorem zOW {id : Nat} {L : List Nat} {c : AC} : AW C GT (.block id L c) K fr H = AW C GT c (zEN id L K) fr H:=rfl
theorem zPw {L : List Nat} {c : AC} : AW C GT (.loop L c) K fr H = AWL C GT L c K (restrict fr L) H:=rfl
theorem zPx {c : Opd} {a b : AC} {t : Bool} (h : ev GT fr c = .bool t) : AW C GT (.cond c a b) K fr H = if t = true then AW C GT a K (learn fr c true) H else AW C GT b K (learn fr c false) H:=by
 simp only [AW,h]
end
def zBM (P : Program) (f : FuncId) (F : AF) : Bool:=
 match P.funcs[f]? with
 | some fn=>!(fn.name == "runtime.NumGoroutine") && (match fn.body with
  | some c=>zGZ P fn.ntmps c F.body && zLl P fn.results.toList F.results
  | none=>false)
 | none=>false
theorem zKE {P : Program} {GT : Nat → Option AV} (hm : P.follows .mixedOrders = true) {f : FuncId} {F : AF} (hc : zBM P f F = true) {args : List AV} {H : Heap} {v : AV} {H' : Heap} (h : AFun (Good P GT) GT F args H v H') (hn : zIE args = true) : Good P GT f args H v H':=by
 unfold zBM at hc
 split at hc
 ·rename_i fn hf
  simp only [Bool.and_eq_true,Bool.not_eq_true'] at hc
  obtain ⟨h1,hc⟩:=hc
  split at hc
  ·rename_i c hb
   simp only [Bool.and_eq_true] at hc
   exact zLn hm hf h1 hb hc.1 hc.2 hn h
  ·cases hc
 ·cases hc
end Go.AM
namespace Go.AM
def zHp (b : Bool) (A B : Prop) : Prop:=match b with | true=>A | false=>B
structure condP (b : Bool) (A B : Prop) : Prop where
 h : zHp b A B
theorem zEY (b : Bool) (A B : Prop) : condP b A B = zHp b A B:=propext ⟨fun x=>x.h,fun x=>⟨x⟩⟩
def zOX {α : Type} (o : Option α) (K : α → Prop) : Prop:=∃ v,o = some v ∧ K v
structure optP {α : Type} (o : Option α) (K : α → Prop) : Prop where
 h : zOX o K
theorem zKt {α : Type} (o : Option α) (K : α → Prop) : optP o K = zOX o K:=propext ⟨fun x=>x.h,fun x=>⟨x⟩⟩
def zKu (p K : Prop) : Prop:=p ∧ K
structure needP (p K : Prop) : Prop where
 h : zKu p K
theorem zJJ (p K : Prop) : needP p K = zKu p K:=propext ⟨fun x=>x.h,fun x=>⟨x⟩⟩
def zOY (x : Int) (K : Int → Prop) : Prop:=K x
structure valP (x : Int) (K : Int → Prop) : Prop where
 h : zOY x K
theorem zKv (x : Int) (K : Int → Prop) : valP x K = zOY x K:=propext ⟨fun x=>x.h,fun x=>⟨x⟩⟩
def zOZ (k : AK) (vs : List AV) (H : Heap) (K : AV → Heap → Prop) : Prop:=∃ v H',astep k vs H = some (v,H') ∧ K v H'
structure actP (k : AK) (vs : List AV) (H : Heap) (K : AV → Heap → Prop) : Prop where
 h : zOZ k vs H K
theorem zKw (k : AK) (vs : List AV) (H : Heap) (K : AV → Heap → Prop) : actP k vs H K = zOZ k vs H K:=propext ⟨fun x=>x.h,fun x=>⟨x⟩⟩
def zJK (C : CSpec) (f : FuncId) (vs : List AV) (rd : Bool) (H : Heap) (K : AV → Heap → Prop) : Prop:=∃ v H',C f vs H v H' ∧ (rd = true → H' = H) ∧ K v H'
structure callP (C : CSpec) (f : FuncId) (vs : List AV) (rd : Bool) (H : Heap) (K : AV → Heap → Prop) : Prop where
 h : zJK C f vs rd H K
theorem zGc (C : CSpec) (f : FuncId) (vs : List AV) (rd : Bool) (H : Heap) (K : AV → Heap → Prop) : callP C f vs rd H K = zJK C f vs rd H K:=propext ⟨fun x=>x.h,fun x=>⟨x⟩⟩
def zOa (xs : List AV) (n : Int) (K : AV → Prop) : Prop:=∃ x,0 ≤ n ∧ xs[n.toNat]? = some x ∧ K x
structure idxP (xs : List AV) (n : Int) (K : AV → Prop) : Prop where
 h : zOa xs n K
theorem zKx (xs : List AV) (n : Int) (K : AV → Prop) : idxP xs n K = zOa xs n K:=propext ⟨fun x=>x.h,fun x=>⟨x⟩⟩
def zOb (s : List UInt8) (n : Int) (K : UInt8 → Prop) : Prop:=∃ c,0 ≤ n ∧ s[n.toNat]? = some c ∧ K c
structure chrP (s : List UInt8) (n : Int) (K : UInt8 → Prop) : Prop where
 h : zOb s n K
theorem zKy (s : List UInt8) (n : Int) (K : UInt8 → Prop) : chrP s n K = zOb s n K:=propext ⟨fun x=>x.h,fun x=>⟨x⟩⟩
def zOc (F : AF) (H : Heap) (fr : Fr) (H1 : Heap) (v : AV) (H' : Heap) : Prop:=zJx F H fr H1 v H'
structure retP (F : AF) (H : Heap) (fr : Fr) (H1 : Heap) (v : AV) (H' : Heap) : Prop where
 h : zOc F H fr H1 v H'
theorem zKz (F : AF) (H : Heap) (fr : Fr) (H1 : Heap) (v : AV) (H' : Heap) : retP F H fr H1 v H' = zOc F H fr H1 v H':=propext ⟨fun x=>x.h,fun x=>⟨x⟩⟩
theorem zM {A B : Prop} (h : A) : condP true A B:=by rw [zEY]; unfold zHp; exact h
theorem zK {A B : Prop} (h : B) : condP false A B:=by rw [zEY]; unfold zHp; exact h
theorem zH {b : Bool} {A B : Prop} (ht : b = true → A) (hf : b = false → B) : condP b A B:=by
 rw [zEY]; unfold zHp; cases b
 ·exact hf rfl
 ·exact ht rfl
theorem zA9 {α : Type} {o : Option α} {K : α → Prop} {v : α} (h : o = some v) (k : K v) : optP o K:=by rw [zKt]; unfold zOX; exact ⟨v,h,k⟩
theorem zKF {p K : Prop} (h : p) (k : K) : needP p K:=by rw [zJJ]; unfold zKu; exact ⟨h,k⟩
theorem zM4 {x r : Int} {K : Int → Prop} (h : x = r) (k : K r) : valP x K:=by rw [zKv]; unfold zOY; subst h; exact k
theorem zLo {k : AK} {vs : List AV} {H H' : Heap} {K : AV → Heap → Prop} {v : AV} (h : astep k vs H = some (v,H')) (hk : K v H') : actP k vs H K:=by rw [zKw]; unfold zOZ; exact ⟨v,H',h,hk⟩
theorem zIM {C : CSpec} {f : FuncId} {vs : List AV} {rd : Bool} {H H' : Heap} {K : AV → Heap → Prop} {v : AV} (h : C f vs H v H') (hr : rd = true → H' = H) (k : K v H') : callP C f vs rd H K:=by rw [zGc]; unfold zJK; exact ⟨v,H',h,hr,k⟩
theorem zI {C : CSpec} {f : FuncId} {vs : List AV} {rd : Bool} {H : Heap} {K : AV → Heap → Prop} {v : AV} (h : C f vs H v H) (k : K v H) : callP C f vs rd H K:=by rw [zGc]; unfold zJK; exact ⟨v,H,h,fun _=>rfl,k⟩
theorem sIdxP {xs : List AV} {n : Int} {i : Nat} {x : AV} {K : AV → Prop} (hn : n = (i : Int)) (h : xs[i]? = some x) (k : K x) : idxP xs n K:=by rw [zKx]; unfold zOa; subst hn; exact ⟨x,Int.natCast_nonneg i,by simpa using h,k⟩
theorem sChr {s : List UInt8} {n : Int} {i : Nat} {c : UInt8} {K : UInt8 → Prop} (hn : n = (i : Int)) (h : s[i]? = some c) (k : K c) : chrP s n K:=by rw [zKy]; unfold zOb; subst hn; exact ⟨c,Int.natCast_nonneg i,by simpa using h,k⟩
theorem zQt {F : AF} {H H1 H' : Heap} {fr : Fr} {v : AV} (h : zJx F H fr H1 v H') : retP F H fr H1 v H':=by rw [zKz]; unfold zOc; exact h
def intN (op : BinOp) (k : IntKind) (a b : Int) (K : AV → Prop) : Prop:=
 match op with
 | .add=>valP (k.wrap (a + b)) fun r=>K (.int k r)
 | .sub=>valP (k.wrap (a - b)) fun r=>K (.int k r)
 | .mul=>valP (k.wrap (a * b)) fun r=>K (.int k r)
 | .quo=>needP (b ≠ 0) (valP (k.wrap (a.tdiv b)) fun r=>K (.int k r))
 | .rem=>needP (b ≠ 0) (valP (a.tmod b) fun r=>K (.int k r))
 | .eql=>K (.bool (a == b))
 | .neq=>K (.bool (a != b))
 | .lss=>K (.bool (decide (a < b)))
 | .leq=>K (.bool (decide (a ≤ b)))
 | .gtr=>K (.bool (decide (a > b)))
 | .geq=>K (.bool (decide (a ≥ b)))
 | op=>optP (zDq op k a b) K
def zIN : BinOp → Bool
 | .shl=>true
 | .shr=>true
 | _=>false
def strN (op : BinOp) (a b : List UInt8) (K : AV → Prop) : Prop:=
 match op with
 | .add=>needP (a.length + b.length ≤ 9223372036854775807) (K (.str (a ++ b)))
 | .eql=>K (.bool (a == b))
 | .neq=>K (.bool (!(a == b)))
 | .lss=>K (.bool (Op.bytesLess a b))
 | op=>optP (zHY op a b) K
def zEZ (a b : IntKind) : Bool:=decide (a = b)
def binN (op : BinOp) (x y : AV) (K : AV → Prop) : Prop:=
 match x with
 | .int k a=>(match y with
  | .int k' b=>(match zIN op with
   | true=>optP (zAj op k a b) K
   | false=>(match zEZ k k' with
    | true=>intN op k a b K
    | false=>False))
  | _=>False)
 | .str a=>(match y with
  | .str b=>strN op a b K
  | _=>False)
 | _=>False
def zKG (x : AV) (K : Bool → Prop) : Prop:=
 match x with
 | .bool b=>K b
 | _=>False
def zOI (neg : Bool) (b : Bool) : Bool:=match neg with | true=>!b | false=>b
def unN (op : UnOp) (x : AV) (K : AV → Prop) : Prop:=
 match x with
 | .bool b=>(match op with
  | .not=>K (.bool (!b))
  | _=>False)
 | x=>optP (aUn op x) K
def zM5 (x : AV) (K : Int → Prop) : Prop:=
 match x with
 | .lst _ _ xs=>K (xs.length : Int)
 | .sl _ _ _ _ n=>K (n : Int)
 | _=>False
structure lenP (x : AV) (K : Int → Prop) : Prop where
 h : zM5 x K
theorem zIO (x : AV) (K : Int → Prop) : lenP x K = zM5 x K:=propext ⟨fun x=>x.h,fun x=>⟨x⟩⟩
def lenN (s : Bool) (x : AV) (K : Int → Prop) : Prop:=
 match s with
 | true=>(match x with
  | .str t=>K (t.length : Int)
  | _=>False)
 | false=>lenP x K
def zJL (x : AV) (K : Int → Prop) : Prop:=
 match x with
 | .int _ n=>K n
 | _=>False
def zLp (k : Nat) (x : AV) (n : Int) (K : AV → Prop) : Prop:=
 match x with
 | .lst _ k' xs=>needP (k' = k) (idxP xs n fun x=>K (.lref x 0))
 | .sl _ b k' off len=>needP (k' = k ∧ 0 ≤ n ∧ n < (len : Int)) (K (.ref b k (off + n.toNat) 0))
 | _=>False
structure idxN (k : Nat) (x : AV) (n : Int) (K : AV → Prop) : Prop where
 h : zLp k x n K
theorem zF7 (k : Nat) (x : AV) (n : Int) (K : AV → Prop) : idxN k x n K = zLp k x n K:=propext ⟨fun x=>x.h,fun x=>⟨x⟩⟩
def zK0 (s : Nat) (ag : Bool) (p : AV) (H : Heap) (K : AV → Prop) : Prop:=
 match p with
 | .lref x o=>optP (part x.cells o s ag) K
 | p=>optP (zl H p) fun co=>optP (part co.1 co.2 s ag) K
structure loadN (s : Nat) (ag : Bool) (p : AV) (H : Heap) (K : AV → Prop) : Prop where
 h : zK0 s ag p H K
theorem zJM (s : Nat) (ag : Bool) (p : AV) (H : Heap) (K : AV → Prop) : loadN s ag p H K = zK0 s ag p H K:=propext ⟨fun x=>x.h,fun x=>⟨x⟩⟩
def slcN (k : Option Nat) (lo hi : Bool) (vs : List AV) (K : AV → Prop) : Prop:=
 match vs with
 | []=>False
 | x :: ys=>(match lo with
  | true=>(match hi with
   | true=>(match ys with
    | [l,h]=>optP (zAN k x (some l) (some h)) K
    | _=>False)
   | false=>(match ys with
    | [l]=>optP (zAN k x (some l) none) K
    | _=>False))
  | false=>(match hi with
   | true=>(match ys with
    | [h]=>optP (zAN k x none (some h)) K
    | _=>False)
   | false=>(match ys with
    | []=>optP (zAN k x none none) K
    | _=>False)))
def offN (o : Nat) (x : AV) (K : AV → Prop) : Prop:=
 match x with
 | .ref b k i oo=>K (.ref b k i (oo + o))
 | .lref x oo=>K (.lref x (oo + o))
 | _=>False
def tyN (t : TypeId) (x : AV) (K : AV → Prop) : Prop:=
 match x with
 | .iface t' y=>needP (t' = t) (K (.tup [y,.bool true]))
 | _=>False
def zPV (o s : Nat) (ag : Bool) (x : AV) (K : AV → Prop) : Prop:=
 match x with
 | .agg cs=>optP (part cs o s ag) K
 | _=>False
def extN (i : Nat) (x : AV) (K : AV → Prop) : Prop:=
 match x with
 | .tup vs=>optP (vs[i]?) K
 | _=>False
def eqsN (neg : Bool) (sh : List Sc) (x y : AV) (K : AV → Prop) : Prop:=
 match x with
 | .agg x=>(match y with
  | .agg y=>optP (zi sh x y) fun b=>K (.bool (zOI neg b))
  | _=>False)
 | _=>False
def chkN (x : AV) (K : AV → Prop) : Prop:=
 match x with
 | .ref b k i o=>K (.ref b k i o)
 | .lref y o=>K (.lref y o)
 | .fn f a b=>K (.fn f a b)
 | _=>False
def zOd (x : AV) (K : List UInt8 → Prop) : Prop:=
 match x with
 | .str s=>K s
 | _=>False
def aggN (x : AV) (K : List AV → Prop) : Prop:=
 match x with
 | .agg cs=>K cs
 | _=>False
def mmN (mx : Bool) (x y : AV) (K : AV → Prop) : Prop:=
 match x with
 | .int k a=>(match y with
  | .int k' b=>(match zEZ k k' with
   | true=>(match mx with
    | true=>valP (if b > a then b else a) fun r=>K (.int k r)
    | false=>valP (if b < a then b else a) fun r=>K (.int k r))
   | false=>False)
  | _=>False)
 | _=>False
def zJN (C : CSpec) (k : AK) (vs : List AV) (H : Heap) (K : AV → Heap → Prop) : Prop:=
 match k with
 | .mv=>(match vs with
  | [x]=>K x H
  | _=>False)
 | .pick=>(match vs with
  | [c,x,y]=>zKG c fun c=>condP c (K x H) (K y H)
  | _=>False)
 | .bin op=>(match vs with
  | [x,y]=>binN op x y fun v=>K v H
  | _=>False)
 | .eqs neg sh=>(match vs with
  | [x,y]=>eqsN neg sh x y fun v=>K v H
  | _=>False)
 | .eqb neg=>(match vs with
  | [x,y]=>zKG x fun a=>zKG y fun b=>K (.bool (zOI neg (a == b))) H
  | _=>False)
 | .eqn e neg lit=>(match vs with
  | [x,y]=>optP (zOK e lit x y) fun b=>K (.bool (zOI neg b)) H
  | _=>False)
 | .un op=>(match vs with
  | [x]=>unN op x fun v=>K v H
  | _=>False)
 | .convInt k=>(match vs with
  | [x]=>zJL x fun n=>valP (k.wrap n) fun r=>K (.int k r) H
  | _=>False)
 | .convRune=>(match vs with
  | [x]=>zJL x fun n=>K (.str (Utf8.encode n).data.toList) H
  | _=>False)
 | .convId=>(match vs with
  | [x]=>zOd x fun s=>K (.str s) H
  | _=>False)
 | .mkIface t=>(match vs with
  | [x]=>K (.iface t x) H
  | _=>False)
 | .tyAs t=>(match vs with
  | [x]=>tyN t x fun v=>K v H
  | _=>False)
 | .mkFn f m=>K (.fn f (vs.take m) (vs.drop m)) H
 | .len s=>(match vs with
  | [x]=>lenN s x fun n=>K (.int .i64 n) H
  | _=>False)
 | .slc k lo hi=>slcN k lo hi vs fun v=>K v H
 | .fieldAddr o=>(match vs with
  | [x]=>offN o x fun v=>K v H
  | _=>False)
 | .field o s ag=>(match vs with
  | [x]=>zPV o s ag x fun v=>K v H
  | _=>False)
 | .idxAddr k=>(match vs with
  | [x,n]=>zJL n fun n=>idxN k x n fun v=>K v H
  | _=>False)
 | .idxArr k m=>(match vs with
  | [x,n]=>zJL n fun n=>needP (0 ≤ n ∧ n < (m : Int)) (offN (n.toNat * k) x fun v=>K v H)
  | _=>False)
 | .idxStr=>(match vs with
  | [x,n]=>zOd x fun s=>zJL n fun n=>chrP s n fun c=>K (zBK c) H
  | _=>False)
 | .idxAgg k m ag=>(match vs with
  | [x,n]=>aggN x fun cs=>zJL n fun n=>needP (0 ≤ n ∧ n < (m : Int)) (optP (part cs (n.toNat * k) k ag) fun v=>K v H)
  | _=>False)
 | .nilchk=>(match vs with
  | [x]=>chkN x fun v=>K v H
  | _=>False)
 | .extract i=>(match vs with
  | [x]=>extN i x fun v=>K v H
  | _=>False)
 | .load s ag=>(match vs with
  | [p]=>loadN s ag p H fun v=>K v H
  | _=>False)
 | .alloc z=>(match vs with
  | []=>K (.ref H.length 0 0 0) (H ++ [.box z])
  | _=>False)
 | .build z pl=>optP (zCN z pl vs) fun cs=>K (.agg cs) H
 | .min=>(match vs with
  | [x,y]=>mmN false x y fun v=>K v H
  | _=>False)
 | .max=>(match vs with
  | [x,y]=>mmN true x y fun v=>K v H
  | _=>False)
 | .call f rd=>callP C f vs rd H K
 | .callv rd=>(match vs with
  | []=>False
  | x :: args=>(match x with
   | .fn f first caps=>callP C f (first ++ args ++ caps) rd H K
   | _=>False))
 | .stuck=>False
 | k=>actP k vs H K
def zCP : List (Nat × Option Bool) → Nat → Option Bool
 | [],_=>none
 | (j,b) :: r,i=>match Nat.beq j i with
  | true=>b
  | false=>zCP r i
def zK1 (x : AV) (S : Prop) (K : Bool → Prop) : Prop:=
 match x with
 | .bool b=>K b
 | .tup vs=>(match vs with
  | []=>S
  | _=>False)
 | _=>False
def undec (dec : List (Nat × Option Bool)) : Option Nat → List (Nat × Option Bool)
 | some d=>(d,none) :: dec
 | none=>dec
def zPW : Fr → Nat → AV
 | [],_=>.undef
 | p :: r,i=>match Nat.beq p.1 i with
  | true=>p.2
  | false=>zPW r i
def zT (fr : Fr) : List Nat → Fr
 | []=>[]
 | i :: L=>(i,zPW fr i) :: zT fr L
def evF (GT : Nat → Option AV) (fr : Fr) : Opd → AV
 | .tmp t=>zPW fr t
 | .const v=>v
 | .glob g=>match GT g with
  | some x=>.lref x 0
  | none=>.undef
 | .fn f=>.fn f [] []
def zGd (GT : Nat → Option AV) (fr : Fr) : List Opd → List AV
 | []=>[]
 | x :: xs=>evF GT fr x :: zGd GT fr xs
def zHq (id : Nat) (L : List Nat) (K : Post) : Post:=fun e fr H=>match e with
 | .normal=>K .normal (zT fr L) H
 | .exit j=>match Nat.beq j id with
  | true=>K .normal (zT fr L) H
  | false=>K (.exit j) fr H
 | .ret=>K .ret fr H
 | .goto l=>K (.goto l) fr H
 | .pan x=>K (.pan x) fr H
def zM6 (C : CSpec) (GT : Nat → Option AV) (i : AI) (next : List (Nat × Option Bool) → Fr → Heap → (Fr → Heap → Prop) → Prop) (dec : List (Nat × Option Bool)) (fr : Fr) (H : Heap) (K : Fr → Heap → Prop) : Prop:=
 match i.g with
 | none=>zJN C i.k (zGd GT fr i.xs) H fun v H'=>next (undec dec i.dst) (put fr i.dst v) H' K
 | some (s,want)=>match zCP dec s with
  | some b=>(match b == want with
   | true=>zJN C i.k (zGd GT fr i.xs) H fun v H'=>next (undec dec i.dst) (put fr i.dst v) H' K
   | false=>next (undec dec i.dst) (put fr i.dst (.tup [])) H K)
  | none=>zK1 (zPW fr s) (next (undec dec i.dst) (put fr i.dst (.tup [])) H K) fun b=>(match want with
   | true=>condP b (zJN C i.k (zGd GT fr i.xs) H fun v H'=>next (undec ((s,some true) :: dec) i.dst) (put ((s,.bool true) :: fr) i.dst v) H' K)
     (next (undec ((s,some false) :: dec) i.dst) (put ((s,.bool false) :: fr) i.dst (.tup [])) H K)
   | false=>condP b (next (undec ((s,some true) :: dec) i.dst) (put ((s,.bool true) :: fr) i.dst (.tup [])) H K)
     (zJN C i.k (zGd GT fr i.xs) H fun v H'=>next (undec ((s,some false) :: dec) i.dst) (put ((s,.bool false) :: fr) i.dst v) H' K))
def EWops (C : CSpec) (GT : Nat → Option AV) (is : List AI) : List (Nat × Option Bool) → Fr → Heap → (Fr → Heap → Prop) → Prop:=
 List.rec (motive:=fun _=>List (Nat × Option Bool) → Fr → Heap → (Fr → Heap → Prop) → Prop) (fun _ fr H K=>K fr H) (fun i _ ih dec fr H K=>zM6 C GT i ih dec fr H K) is
theorem zLq {C : CSpec} {GT : Nat → Option AV} {i : AI} {is : List AI} {dec : List (Nat × Option Bool)} {fr : Fr} {H : Heap} {K : Fr → Heap → Prop} : EWops C GT (i :: is) dec fr H K = zM6 C GT i (EWops C GT is) dec fr H K:=rfl
def zJO (K : Post) : Post:=fun e f H=>∃ f',get f' = get f ∧ K e f' H
def zM7 (C : CSpec) (GT : Nat → Option AV) (L : List Nat) (c : AC) (K : Post) (fr : Fr) (H : Heap) : Prop:=AWL C GT L c (zJO K) fr H
structure loopP (C : CSpec) (GT : Nat → Option AV) (L : List Nat) (c : AC) (K : Post) (fr : Fr) (H : Heap) : Prop where
 h : zM7 C GT L c K fr H
theorem zM8 (C : CSpec) (GT : Nat → Option AV) (L : List Nat) (c : AC) (K : Post) (fr : Fr) (H : Heap) : loopP C GT L c K fr H = zM7 C GT L c K fr H:=propext ⟨fun x=>x.h,fun x=>⟨x⟩⟩
def zM9 (C : CSpec) (f : FuncId) (vs : List AV) (H : Heap) (K KP : AV → Heap → Prop) : Prop:=(∃ v H',C f vs H v H' ∧ K v H') ∨ (∃ x H',C f (.pan .undef :: vs) H x H' ∧ KP x H')
structure callPP (C : CSpec) (f : FuncId) (vs : List AV) (H : Heap) (K KP : AV → Heap → Prop) : Prop where
 h : zM9 C f vs H K KP
theorem zLr (C : CSpec) (f : FuncId) (vs : List AV) (H : Heap) (K KP : AV → Heap → Prop) : callPP C f vs H K KP = zM9 C f vs H K KP:=propext ⟨fun x=>x.h,fun x=>⟨x⟩⟩
def zQu (A B : Prop) : Prop:=A ∧ B
structure altP (A B : Prop) : Prop where
 h : zQu A B
theorem zOe (A B : Prop) : altP A B = zQu A B:=propext ⟨fun x=>x.h,fun x=>⟨x⟩⟩
def zEa (C : CSpec) (k : AK) (vs : List AV) (H : Heap) (K KP : AV → Heap → Prop) : Prop:=
 match k with
 | .callp f=>callPP C f vs H K KP
 | .callvp=>(match vs with
  | []=>False
  | x :: args=>(match x with
   | .fn f first caps=>callPP C f (first ++ args ++ caps) H K KP
   | _=>False))
 | .panic=>(match vs with
  | [x]=>(match x with
   | .iface t y=>KP (.iface t y) H
   | _=>False)
  | _=>False)
 | k=>zJN C k vs H K
def zKH (C : CSpec) (GT : Nat → Option AV) (i : AI) (next : List (Nat × Option Bool) → Fr → Heap → (Fr → Heap → Prop) → (AV → Heap → Prop) → Prop) (dec : List (Nat × Option Bool)) (fr : Fr) (H : Heap) (K : Fr → Heap → Prop) (KP : AV → Heap → Prop) : Prop:=
 match i.g with
 | none=>zEa C i.k (zGd GT fr i.xs) H (fun v H'=>next (undec dec i.dst) (put fr i.dst v) H' K KP) KP
 | some (s,want)=>match zCP dec s with
  | some b=>(match b == want with
   | true=>zEa C i.k (zGd GT fr i.xs) H (fun v H'=>next (undec dec i.dst) (put fr i.dst v) H' K KP) KP
   | false=>next (undec dec i.dst) (put fr i.dst (.tup [])) H K KP)
  | none=>zK1 (zPW fr s) (next (undec dec i.dst) (put fr i.dst (.tup [])) H K KP) fun b=>(match want with
   | true=>condP b (zEa C i.k (zGd GT fr i.xs) H (fun v H'=>next (undec ((s,some true) :: dec) i.dst) (put ((s,.bool true) :: fr) i.dst v) H' K KP) KP)
     (next (undec ((s,some false) :: dec) i.dst) (put ((s,.bool false) :: fr) i.dst (.tup [])) H K KP)
   | false=>condP b (next (undec ((s,some true) :: dec) i.dst) (put ((s,.bool true) :: fr) i.dst (.tup [])) H K KP)
     (zEa C i.k (zGd GT fr i.xs) H (fun v H'=>next (undec ((s,some false) :: dec) i.dst) (put ((s,.bool false) :: fr) i.dst v) H' K KP) KP))
def zKI : List AI → Nat → Option AI
 | [],_=>none
 | i :: _,0=>some i
 | _ :: is,n + 1=>zKI is n
def EWT (C : CSpec) (GT : Nat → Option AV) (is : List AI) (t : OT) : List (Nat × Option Bool) → Fr → Heap → (Fr → Heap → Prop) → (AV → Heap → Prop) → Prop:=
 OT.rec (motive:=fun _=>List (Nat × Option Bool) → Fr → Heap → (Fr → Heap → Prop) → (AV → Heap → Prop) → Prop) (fun _ fr H K _=>K fr H)
  (fun j _ ih dec fr H K KP=>match zKI is j with
   | none=>False
   | some i=>zKH C GT i ih dec fr H K KP)
  (fun _ _ iha ihb dec fr H K KP=>altP (iha dec fr H K KP) (ihb dec fr H K KP)) t
def zPX (C : CSpec) (GT : Nat → Option AV) (L : List Nat) (l : Nat) (r : AC) (K : Post) (fr : Fr) (H : Heap) : Prop:=∃ m,zG2 (AW C GT r) L l (zJO K) m fr H
structure gotoP (C : CSpec) (GT : Nat → Option AV) (L : List Nat) (l : Nat) (r : AC) (K : Post) (fr : Fr) (H : Heap) : Prop where
 h : zPX C GT L l r K fr H
theorem zNA (C : CSpec) (GT : Nat → Option AV) (L : List Nat) (l : Nat) (r : AC) (K : Post) (fr : Fr) (H : Heap) : gotoP C GT L l r K fr H = zPX C GT L l r K fr H:=propext ⟨fun x=>x.h,fun x=>⟨x⟩⟩
def EW (C : CSpec) (GT : Nat → Option AV) (c : AC) : Post → Fr → Heap → Prop:=
 AC.rec (motive:=fun _=>Post → Fr → Heap → Prop)
  (fun K fr H=>K .normal fr H)
  (fun L _ ops K fr H=>EWops C GT ops [] (zT fr L) H fun fr' H'=>K .normal fr' H')
  (fun _ _ iha ihb K fr H=>iha (zPm (ihb K) K) fr H)
  (fun c _ _ iha ihb K fr H=>zKG (evF GT fr c) fun t=>condP t (iha K (learn fr c true) H) (ihb K (learn fr c false) H))
  (fun id L _ ih K fr H=>ih (zHq id L K) fr H)
  (fun L c _ K fr H=>loopP C GT L c K (zT fr L) H)
  (fun id K fr H=>K (.exit id) fr H)
  (fun K fr H=>K .ret fr H)
  (fun _ _ _=>False)
  (fun L _ ops t K fr H=>EWT C GT ops t [] (zT fr L) H (fun fr' H'=>K .normal fr' H') (fun x H'=>K (.pan x) [] H'))
  (fun K fr H=>K .normal fr H)
  (fun l K fr H=>K (.goto l) fr H)
  (fun L l _ r ihc _ K fr H=>ihc (zI2 l (fun fr' H'=>gotoP C GT L l r K (zT fr' L) H') K) fr H) c
end Go.AM
namespace Go.AM
theorem zEb {b : Bool} {A B : Prop} : condP b A B ↔ (if b = true then A else B):=by rw [zEY]; unfold zHp; cases b <;> simp
theorem zAY {α : Type} {o : Option α} {K : α → Prop} : optP o K ↔ ∃ v,o = some v ∧ K v:=by rw [zKt]; unfold zOX; exact Iff.rfl
theorem zBw {p K : Prop} : needP p K ↔ p ∧ K:=by rw [zJJ]; unfold zKu; exact Iff.rfl
theorem zF8 {x : Int} {K : Int → Prop} : valP x K ↔ K x:=by rw [zKv]; unfold zOY; exact Iff.rfl
theorem zOf {k : AK} {vs : List AV} {H : Heap} {K : AV → Heap → Prop} : actP k vs H K ↔ ∃ v H',astep k vs H = some (v,H') ∧ K v H':=by rw [zKw]; unfold zOZ; exact Iff.rfl
theorem zJP {C : CSpec} {f : FuncId} {vs : List AV} {rd : Bool} {H : Heap} {K : AV → Heap → Prop} : callP C f vs rd H K ↔ ∃ v H',C f vs H v H' ∧ (rd = true → H' = H) ∧ K v H':=by rw [zGc]; unfold zJK; exact Iff.rfl
theorem zOg {xs : List AV} {n : Int} {K : AV → Prop} : idxP xs n K ↔ ∃ x,0 ≤ n ∧ xs[n.toNat]? = some x ∧ K x:=by rw [zKx]; unfold zOa; exact Iff.rfl
theorem zOh {s : List UInt8} {n : Int} {K : UInt8 → Prop} : chrP s n K ↔ ∃ c,0 ≤ n ∧ s[n.toNat]? = some c ∧ K c:=by rw [zKy]; unfold zOb; exact Iff.rfl
theorem zOi {F : AF} {H H1 H' : Heap} {fr : Fr} {v : AV} : retP F H fr H1 v H' ↔ zJx F H fr H1 v H':=by rw [zKz]; unfold zOc; exact Iff.rfl
theorem zJQ {C : CSpec} {GT : Nat → Option AV} {c : AC} {L : List Nat} {K : Post} {fr : Fr} {H : Heap} : loopP C GT L c K fr H ↔ AWL C GT L c (zJO K) fr H:=by rw [zM8]; unfold zM7; exact Iff.rfl
theorem zEc {x : AV} {K : Bool → Prop} : zKG x K ↔ ∃ b,x = .bool b ∧ K b:=by
 unfold zKG; cases x <;> simp
theorem zHr {x : AV} {S : Prop} {K : Bool → Prop} : zK1 x S K ↔ (x = .tup [] ∧ S) ∨ ∃ b,x = .bool b ∧ K b:=by
 unfold zK1
 cases x with
 | tup vs=>cases vs <;> simp
 | _=>simp
theorem zCb {x : AV} {K : Int → Prop} : zJL x K ↔ ∃ k n,x = .int k n ∧ K n:=by
 unfold zJL; cases x <;> simp
 exact ⟨fun h=>⟨_,_,⟨rfl,rfl⟩,h⟩,fun ⟨_,_,⟨_,h1⟩,h2⟩=>h1 ▸ h2⟩
theorem zJR {x : AV} {K : List UInt8 → Prop} : zOd x K ↔ ∃ s,x = .str s ∧ K s:=by
 unfold zOd; cases x <;> simp
theorem zOj {x : AV} {K : List AV → Prop} : aggN x K ↔ ∃ s,x = .agg s ∧ K s:=by
 unfold aggN; cases x <;> simp
theorem zz {k : AK} {vs : List AV} {H H' : Heap} {K : AV → Heap → Prop} {v : AV} (h : astep k vs H = some (v,H')) (hk : K v H') : actP k vs H K:=zLo h hk
theorem zLs {op : BinOp} {k : IntKind} {a b : Int} {K : AV → Prop} (h : intN op k a b K) : ∃ v,zDq op k a b = some v ∧ K v:=by
 unfold intN at h
 unfold zDq
 cases op <;> simp only [zF8,zBw,zAY] at h ⊢
 all_goals first
  | exact ⟨_,rfl,h⟩
  | (obtain ⟨h1,h2⟩:=h; rw [if_neg h1]; exact ⟨_,rfl,h2⟩)
  | exact h
theorem zLt {op : BinOp} {a b : List UInt8} {K : AV → Prop} (h : strN op a b K) : ∃ v,zHY op a b = some v ∧ K v:=by
 unfold strN at h
 cases op <;> simp only [zBw,zAY] at h
 all_goals first
  | exact h
  | exact ⟨_,rfl,h⟩
  | (obtain ⟨h1,h2⟩:=h; exact ⟨_,by simp only [zHY]; rw [if_pos h1],h2⟩)
theorem zLu {op : BinOp} {x y : AV} {K : AV → Prop} (h : binN op x y K) : ∃ v,zQp op x y = some v ∧ K v:=by
 unfold binN at h
 cases x <;> try exact h.elim
 case int k a=>
  cases y <;> try exact h.elim
  rename_i k' b
  simp only at h
  simp only [zQp]
  have hs : zIN op = true ↔ op = .shl ∨ op = .shr:=by cases op <;> simp [zIN]
  cases hsh : zIN op with
  | true=>
   rw [hsh] at h
   rw [if_pos (hs.1 hsh)]
   exact zAY.1 h
  | false=>
   rw [hsh] at h
   rw [if_neg (fun e=>by rw [hs.2 e] at hsh; cases hsh)]
   simp only [zEZ] at h
   by_cases hk : k = k'
   ·rw [if_pos hk]
    simp only [hk,decide_true] at h
    rw [hk]
    exact zLs h
   ·simp [hk] at h
 case str a=>
  cases y <;> try exact h.elim
  exact zLt h
theorem zNB (neg b : Bool) : zOI neg b = if neg then !b else b:=by cases neg <;> rfl
theorem zLv {s : Bool} {x : AV} {K : Int → Prop} (h : lenN s x K) : ∃ n : Nat,aLen s x = some n ∧ K (n : Int):=by
 unfold lenN at h
 cases s
 ·simp only at h
  rw [zIO] at h; unfold zM5 at h
  cases x <;> first | exact h.elim | exact ⟨_,rfl,h⟩
 ·cases x <;> first | exact h.elim | exact ⟨_,rfl,h⟩
theorem zLw {k : Option Nat} {lo hi : Bool} {vs : List AV} {H : Heap} {K : AV → Heap → Prop} (h : slcN k lo hi vs fun v=>K v H) : actP (.slc k lo hi) vs H K:=by
 unfold slcN at h
 cases vs with
 | nil=>exact h.elim
 | cons x ys=>
  cases lo <;> cases hi <;> simp only at h <;> split at h
  all_goals first
   | exact h.elim
   | (obtain ⟨v,h1,h2⟩:=zAY.1 h; exact zz (by simp only [astep,h1,Option.map_some]) h2)
theorem zHs {o : Nat} {x : AV} {K : AV → Prop} (h : offN o x K) : (∃ b k i oo,x = .ref b k i oo ∧ K (.ref b k i (oo + o))) ∨ ∃ y oo,x = .lref y oo ∧ K (.lref y (oo + o)):=by
 unfold offN at h
 cases x <;> first | exact h.elim | exact .inl ⟨_,_,_,_,rfl,h⟩ | exact .inr ⟨_,_,rfl,h⟩
theorem zLx {k : Nat} {x : AV} {n : Int} {kk : IntKind} {H : Heap} {K : AV → Heap → Prop} (h : idxN k x n fun v=>K v H) : actP (.idxAddr k) [x,.int kk n] H K:=by
 rw [zF7] at h; unfold zLp at h
 cases x <;> try exact h.elim
 case lst q k' xs=>
  simp only [zBw,zOg] at h
  obtain ⟨hk,x,h0,h1,h2⟩:=h
  exact zz (by simp only [astep]; rw [if_neg tO,h1]; simp only; rw [if_pos hk]) h2
 case sl q b k' off len=>
  simp only [zBw] at h
  obtain ⟨⟨hk,h0,h1⟩,h2⟩:=h
  exact zz (by simp only [astep]; rw [if_neg tO,if_pos ⟨h1,hk⟩]) h2
theorem zGe {C : CSpec} {k : AK} {vs : List AV} {H : Heap} {K : AV → Heap → Prop} (h : zJN C k vs H K) : zE4 C k vs H K:=by
 have fin : ∀ {k},(∀ f rd,k ≠ .call f rd) → (∀ rd,k ≠ .callv rd) → actP k vs H K → zE4 C k vs H K:=by
  intro k h1 h2 ha
  obtain ⟨v,H',hs,hk⟩:=zOf.1 ha
  refine zCa.2 ⟨v,H', ?_,hk⟩
  cases k <;> first | exact hs | exact absurd rfl (h1 _ _) | exact absurd rfl (h2 _)
 unfold zJN at h
 cases k
 case call f rd=>exact zJP.1 h
 case callv rd=>
  simp only at h
  split at h
  ·exact h.elim
  ·split at h
   ·exact zJP.1 h
   ·exact h.elim
 case append=>exact fin (by simp) (by simp) h
 case appendS=>exact fin (by simp) (by simp) h
 case appT=>exact fin (by simp) (by simp) h
 case stuck=>exact False.elim h
 case callp=>exact fin (by simp) (by simp) h
 case callvp=>exact fin (by simp) (by simp) h
 case panic=>exact fin (by simp) (by simp) h
 case bytesToStr=>exact fin (by simp) (by simp) h
 case strToBytes=>exact fin (by simp) (by simp) h
 case store=>exact fin (by simp) (by simp) h
 case box=>exact fin (by simp) (by simp) h
 case allocT=>exact fin (by simp) (by simp) h
 case bslice=>exact fin (by simp) (by simp) h
 case make=>exact fin (by simp) (by simp) h
 case copy=>exact fin (by simp) (by simp) h
 case mkmap=>exact fin (by simp) (by simp) h
 case mget=>exact fin (by simp) (by simp) h
 case mset=>exact fin (by simp) (by simp) h
 case mlen=>exact fin (by simp) (by simp) h
 case clear=>exact fin (by simp) (by simp) h
 case slc=>exact fin (by simp) (by simp) (zLw h)
 case mkFn=>exact fin (by simp) (by simp) (zz rfl h)
 case build=>
  obtain ⟨v,h1,h2⟩:=zAY.1 h
  exact fin (by simp) (by simp) (zz (by simp only [astep,h1,Option.map_some]) h2)
 all_goals
  refine fin (by simp) (by simp) ?_
  clear fin
  simp only at h
  (rcases vs with _ | ⟨v1,_ | ⟨v2,_ | ⟨v3,_ | ⟨v4,vs⟩⟩⟩⟩ <;> try exact h.elim)
  try simp only at h
 case mv=>exact zz rfl h
 case pick=>
  replace h:=zEc.1 h; obtain ⟨c,rfl,h⟩:=h
  rw [zEb] at h
  cases c
  ·exact zz rfl h
  ·exact zz rfl h
 case bin=>
  obtain ⟨v,h1,h2⟩:=zLu h
  exact zz (by simp only [astep,h1,Option.map_some]) h2
 case eqs=>
  unfold eqsN at h
  cases v1 <;> try exact h.elim
  cases v2 <;> try exact h.elim
  obtain ⟨v,h1,h2⟩:=zAY.1 h
  exact zz (by simp only [astep,h1,Option.map_some,← zNB]) h2
 case eqb=>
  replace h:=zEc.1 h; obtain ⟨a,rfl,h⟩:=h
  replace h:=zEc.1 h; obtain ⟨b,rfl,h⟩:=h
  exact zz (by simp only [astep,← zNB]) h
 case eqn=>
  obtain ⟨v,h1,h2⟩:=zAY.1 h
  exact zz (by simp only [astep,h1,Option.map_some,← zNB]) h2
 case un=>
  unfold unN at h
  split at h
  ·split at h
   ·exact zz rfl h
   ·exact h.elim
  ·obtain ⟨v,h1,h2⟩:=zAY.1 h
   exact zz (by simp only [astep,h1,Option.map_some]) h2
 case convInt=>
  replace h:=zCb.1 h; obtain ⟨k,n,rfl,h⟩:=h
  exact zz rfl (zF8.1 h)
 case convRune=>
  replace h:=zCb.1 h; obtain ⟨k,n,rfl,h⟩:=h
  exact zz rfl h
 case convId=>
  replace h:=zJR.1 h; obtain ⟨s,rfl,h⟩:=h
  exact zz rfl h
 case mkIface=>exact zz rfl h
 case tyAs=>
  unfold tyN at h
  split at h
  ·obtain ⟨he,h2⟩:=zBw.1 h
   subst he
   exact zz (by simp only [astep,if_true]) h2
  ·exact h.elim
 case len=>
  obtain ⟨n,h1,h2⟩:=zLv h
  exact zz (by simp only [astep,h1,Option.map_some]) h2
 case fieldAddr=>
  rcases zHs h with ⟨b,k,i,oo,rfl,h⟩ | ⟨y,oo,rfl,h⟩ <;> exact zz rfl h
 case field=>
  unfold zPV at h
  split at h
  ·obtain ⟨v,h1,h2⟩:=zAY.1 h
   exact zz (by simp only [astep,h1,Option.map_some]) h2
  ·exact h.elim
 case idxAddr=>
  replace h:=zCb.1 h; obtain ⟨kk,n,rfl,h⟩:=h
  exact zLx h
 case idxArr=>
  replace h:=zCb.1 h; obtain ⟨kk,n,rfl,h⟩:=h
  obtain ⟨hn,h⟩:=zBw.1 h
  rcases zHs h with ⟨b,k,i,oo,rfl,h⟩ | ⟨y,oo,rfl,h⟩ <;> exact zz (by simp only [astep]; rw [if_pos hn]) h
 case idxStr=>
  replace h:=zJR.1 h; obtain ⟨s,rfl,h⟩:=h
  replace h:=zCb.1 h; obtain ⟨kk,n,rfl,h⟩:=h
  obtain ⟨c,h0,h1,h2⟩:=zOh.1 h
  exact zz (by simp only [astep]; rw [if_neg tO,h1]) h2
 case idxAgg=>
  replace h:=zOj.1 h; obtain ⟨cs,rfl,h⟩:=h
  replace h:=zCb.1 h; obtain ⟨kk,n,rfl,h⟩:=h
  obtain ⟨hn,h⟩:=zBw.1 h
  obtain ⟨v,h1,h2⟩:=zAY.1 h
  exact zz (by simp only [astep]; rw [if_pos hn,h1]; rfl) h2
 case nilchk=>
  unfold chkN at h
  split at h <;> first | exact h.elim | exact zz rfl h
 case extract=>
  unfold extN at h
  split at h
  ·obtain ⟨v,h1,h2⟩:=zAY.1 h
   exact zz (by simp only [astep,h1,Option.map_some]) h2
  ·exact h.elim
 case load=>
  rw [zJM] at h; unfold zK0 at h
  split at h
  ·obtain ⟨v,h1,h2⟩:=zAY.1 h
   exact zz (by simp only [astep,zl,h1,Option.map_some]) h2
  ·obtain ⟨⟨cs,o⟩,h0,h⟩:=zAY.1 h
   obtain ⟨v,h1,h2⟩:=zAY.1 h
   exact zz (by simp only [astep,h0]; simp only at h1; simp only [h1,Option.map_some]) h2
 case alloc=>exact zz rfl h
 case min=>
  unfold mmN at h
  split at h
  ·split at h
   ·simp only [zEZ] at h
    split at h
    ·rename_i hk
     simp only [decide_eq_true_eq] at hk
     subst hk
     exact zz (by simp only [astep,if_true]) (zF8.1 h)
    ·exact h.elim
   ·exact h.elim
  ·exact h.elim
 case max=>
  unfold mmN at h
  split at h
  ·split at h
   ·simp only [zEZ] at h
    split at h
    ·rename_i hk
     simp only [decide_eq_true_eq] at hk
     subst hk
     exact zz (by simp only [astep,if_true]) (zF8.1 h)
    ·exact h.elim
   ·exact h.elim
  ·exact h.elim
theorem zLy {C : CSpec} {k : AK} {vs : List AV} {H : Heap} {K K' : AV → Heap → Prop} (h : zE4 C k vs H K) (hk : ∀ v H,K v H → K' v H) : zE4 C k vs H K':=by
 obtain ⟨v,H',h1,h2⟩:=zCa.1 h
 exact zCa.2 ⟨v,H',h1,hk _ _ h2⟩
section
variable {C : CSpec} {GT : Nat → Option AV}
theorem zBi {fr fr' : Fr} (h : get fr = get fr') (d : Option Nat) (v : AV) : get (put fr d v) = get (put fr' d v):=by
 rw [zD9,zD9,h]
theorem zF9 {fr : Fr} {s : Nat} {b : Bool} (h : get fr s = .bool b) : get ((s,.bool b) :: fr) = get fr:=by
 funext t
 simp only [get]
 split
 ·rename_i e; subst e; exact h.symm
 ·rfl
theorem zKJ {dec : List (Nat × Option Bool)} {d : Option Nat} {s : Nat} {b : Bool} (h : zCP (undec dec d) s = some b) : zCP dec s = some b ∧ d ≠ some s:=by
 cases d with
 | none=>exact ⟨h,by simp⟩
 | some d=>
  simp only [undec,zCP] at h
  split at h
  ·cases h
  ·rename_i e
   refine ⟨h,fun e'=>?_⟩
   cases e'
   simp at e
theorem zIP {dec : List (Nat × Option Bool)} {fr : Fr} (h : ∀ s b,zCP dec s = some b → get fr s = .bool b) (d : Option Nat) (v : AV) : ∀ s b,zCP (undec dec d) s = some b → get (put fr d v) s = .bool b:=by
 intro s b hs
 obtain ⟨h1,h2⟩:=zKJ hs
 cases d with
 | none=>exact h s b h1
 | some d=>
  simp only [put,get]
  rw [if_neg (fun e=>h2 (by rw [e]))]
  exact h s b h1
theorem zK2 {dec : List (Nat × Option Bool)} {fr : Fr} (h : ∀ s b,zCP dec s = some b → get fr s = .bool b) {s : Nat} {b : Bool} (hs : get fr s = .bool b) : ∀ t c,zCP ((s,some b) :: dec) t = some c → get fr t = .bool c:=by
 intro t c ht
 simp only [zCP] at ht
 split at ht
 ·rename_i e
  have : s = t:=Nat.eq_of_beq_eq_true e
  subst this
  cases ht; exact hs
 ·exact h t c ht
theorem zFC : ∀ fr,zPW fr = get fr
 | []=>rfl
 | p :: r=>by
  funext i
  simp only [zPW,get,zFC r]
  cases h : Nat.beq p.1 i with
  | true=>simp only; rw [if_pos (Nat.eq_of_beq_eq_true h)]
  | false=>simp only; rw [if_neg (fun e=>by rw [e] at h; simp at h)]
theorem zAP (fr : Fr) : ∀ L,zT fr L = restrict fr L
 | []=>rfl
 | i :: L=>by
  simp only [zT,zAP fr L,zFC]; rfl
theorem zPY (GT : Nat → Option AV) (fr : Fr) : evF GT fr = ev GT fr:=by
 funext x
 cases x with
 | tmp t=>simp only [evF,ev,zFC]
 | const v=>rfl
 | glob g=>simp only [evF,ev]; cases GT g <;> rfl
 | fn f=>rfl
theorem zIQ (GT : Nat → Option AV) (fr : Fr) : ∀ xs,zGd GT fr xs = xs.map (ev GT fr)
 | []=>rfl
 | x :: xs=>by simp only [zGd,zIQ GT fr xs,zPY,List.map_cons]
theorem zNC (id : Nat) (L : List Nat) (K : Post) : zHq id L K = zEN id L K:=by
 funext e fr H
 cases e with
 | exit j=>
  simp only [zHq,zEN,zAP]
  cases h : Nat.beq j id with
  | true=>simp only; rw [if_pos (Nat.eq_of_beq_eq_true h)]
  | false=>simp only; rw [if_neg (fun e=>by rw [e] at h; simp at h)]
 | _=>simp only [zHq,zEN,zAP]
theorem zND : ∀ (is : List AI) (dec : List (Nat × Option Bool)) (fr fr' : Fr) (H : Heap) (K K' : Fr → Heap → Prop),get fr = get fr' → (∀ s b,zCP dec s = some b → get fr s = .bool b) →
  (∀ f f' H,get f = get f' → K f H → K' f' H) → EWops C GT is dec fr H K → AWops C GT is fr' H K'
 | [],_,fr,fr',H,K,K',hf,_,hk,h=>hk _ _ _ hf h
 | i :: is,dec,fr,fr',H,K,K',hf,hd,hk,h=>by
  have hev : ev GT fr = ev GT fr':=by rw [zCO,zCO,hf]
  have go : ∀ (dec : List (Nat × Option Bool)) (fr : Fr),get fr = get fr' → (∀ s b,zCP dec s = some b → get fr s = .bool b) → ev GT fr = ev GT fr' →
    zJN C i.k (i.xs.map (ev GT fr')) H (fun v H'=>EWops C GT is (undec dec i.dst) (put fr i.dst v) H' K) → zE4 C i.k (i.xs.map (ev GT fr')) H fun v H'=>AWops C GT is (put fr' i.dst v) H' K':=by
   intro dec fr hf hd hev h
   exact zLy (zGe h) fun v H' h=>zND is _ _ _ H' K K' (zBi hf _ _) (zIP hd _ _) hk h
  have no : ∀ (dec : List (Nat × Option Bool)) (fr : Fr),get fr = get fr' → (∀ s b,zCP dec s = some b → get fr s = .bool b) → EWops C GT is (undec dec i.dst) (put fr i.dst (.tup [])) H K → AWops C GT is (put fr' i.dst (.tup [])) H K':=
   fun dec fr hf hd h=>zND is _ _ _ H K K' (zBi hf _ _) (zIP hd _ _) hk h
  rw [zLq] at h
  unfold zM6 at h
  simp only [zIQ,zFC] at h
  unfold AWops
  split at h
  ·rename_i hg
   rw [hg]
   rw [hev] at h
   exact go dec fr hf hd hev h
  ·rename_i s want hg
   rw [hg]
   simp only
   split at h
   ·rename_i b hb
    have hs : get fr' s = .bool b:=by rw [← hf]; exact hd s b hb
    rw [hs]
    simp only [gd]
    split at h
    ·rename_i e
     rw [if_pos e]
     rw [hev] at h
     exact go dec fr hf hd hev h
    ·rename_i e
     rw [if_neg (by simp [e])]
     exact no dec fr hf hd h
   ·rcases zHr.1 h with ⟨hb,h⟩ | ⟨b,hb,h⟩
    ·have hs : get fr' s = .tup []:=by rw [← hf]; exact hb
     rw [hs]
     simp only [gd]
     rw [if_neg (by simp)]
     exact no dec fr hf hd h
    have hs : get fr' s = .bool b:=by rw [← hf]; exact hb
    rw [hs]
    simp only [gd]
    have hf2 : get ((s,AV.bool b) :: fr) = get fr':=by rw [zF9 hb,hf]
    have hev2 : ev GT ((s,AV.bool b) :: fr) = ev GT fr':=by rw [zCO,zCO,hf2]
    have hd2 : ∀ t c,zCP ((s,some b) :: dec) t = some c → get ((s,AV.bool b) :: fr) t = .bool c:=by
     rw [zF9 hb]; exact zK2 hd hb
    cases want <;> cases b <;> simp only [zEb,if_true,Bool.false_eq_true,if_false] at h
    ·rw [if_pos (by rfl)]
     rw [hev] at h
     exact go _ _ hf2 hd2 hev2 h
    ·rw [if_neg (by simp)]
     exact no _ _ hf2 hd2 h
    ·rw [if_neg (by simp)]
     exact no _ _ hf2 hd2 h
    ·rw [if_pos (by rfl)]
     rw [hev] at h
     exact go _ _ hf2 hd2 hev2 h
theorem zHt {C : CSpec} {f : FuncId} {vs : List AV} {H : Heap} {K KP : AV → Heap → Prop} : callPP C f vs H K KP ↔ ((∃ v H',C f vs H v H' ∧ K v H') ∨ (∃ x H',C f (.pan .undef :: vs) H x H' ∧ KP x H')):=by rw [zLr]; exact Iff.rfl
theorem zOk {A B : Prop} : altP A B ↔ A ∧ B:=by rw [zOe]; exact Iff.rfl
theorem zJS {k : AK} {vs : List AV} {H : Heap} {K KP : AV → Heap → Prop} (h : zEa C k vs H K KP) : zCB C k vs H K KP:=by
 cases k
 case callp f=>exact zHt.1 h
 case callvp=>
  simp only [zEa] at h
  simp only [zCB]
  split at h
  ·exact h.elim
  ·split at h
   ·exact zHt.1 h
   ·exact h.elim
 case panic=>
  simp only [zEa] at h
  simp only [zCB]
  split at h
  ·split at h
   ·exact h
   ·exact h.elim
  ·exact h.elim
 all_goals
  simp only [zEa] at h
  exact zGe h
theorem zKK {k : AK} {vs : List AV} {H : Heap} {K K' KP KP' : AV → Heap → Prop} (h : zCB C k vs H K KP) (hk : ∀ v H,K v H → K' v H) (hp : ∀ x H,KP x H → KP' x H) : zCB C k vs H K' KP':=by
 rcases zBr.1 h with ⟨v,H',h1,h2⟩ | ⟨x,H',h1,h2⟩
 ·exact zBr.2 (.inl ⟨v,H',h1,hk _ _ h2⟩)
 ·exact zBr.2 (.inr ⟨x,H',h1,hp _ _ h2⟩)
theorem zK3 : ∀ (is : List AI) (j : Nat),zKI is j = is[j]?
 | [],j=>by simp [zKI]
 | i :: is,0=>by simp [zKI]
 | i :: is,j + 1=>by simp [zKI,zK3 is j]
theorem zDK (is : List AI) : ∀ (t : OT) (dec : List (Nat × Option Bool)) (fr fr' : Fr) (H : Heap) (K K' : Fr → Heap → Prop) (KP KP' : AV → Heap → Prop),get fr = get fr' → (∀ s b,zCP dec s = some b → get fr s = .bool b) →
  (∀ f f' H,get f = get f' → K f H → K' f' H) → (∀ x H,KP x H → KP' x H) → EWT C GT is t dec fr H K KP → AWT C GT is t fr' H K' KP'
 | .done,_,fr,fr',H,K,K',KP,KP',hf,_,hk,hp,h=>hk _ _ _ hf h
 | .alt a b,dec,fr,fr',H,K,K',KP,KP',hf,hd,hk,hp,h=>by
  replace h : altP (EWT C GT is a dec fr H K KP) (EWT C GT is b dec fr H K KP):=h
  have h:=zOk.1 h
  exact ⟨zDK is a dec fr fr' H K K' KP KP' hf hd hk hp h.1,zDK is b dec fr fr' H K K' KP KP' hf hd hk hp h.2⟩
 | .step j t,dec,fr,fr',H,K,K',KP,KP',hf,hd,hk,hp,h=>by
  replace h : (match zKI is j with
   | none=>False
   | some i=>zKH C GT i (EWT C GT is t) dec fr H K KP):=h
  rw [zK3] at h
  unfold AWT
  split at h
  ·exact h.elim
  rename_i i hi
  simp only [hi]
  have hev : ev GT fr = ev GT fr':=by rw [zCO,zCO,hf]
  have go : ∀ (dec : List (Nat × Option Bool)) (fr : Fr),get fr = get fr' → (∀ s b,zCP dec s = some b → get fr s = .bool b) → ev GT fr = ev GT fr' →
    zEa C i.k (i.xs.map (ev GT fr')) H (fun v H'=>EWT C GT is t (undec dec i.dst) (put fr i.dst v) H' K KP) KP → zCB C i.k (i.xs.map (ev GT fr')) H (fun v H'=>AWT C GT is t (put fr' i.dst v) H' K' KP') KP':=by
   intro dec fr hf hd hev h
   exact zKK (zJS h) (fun v H' h=>zDK is t _ _ _ H' K K' KP KP' (zBi hf _ _) (zIP hd _ _) hk hp h) hp
  have no : ∀ (dec : List (Nat × Option Bool)) (fr : Fr),get fr = get fr' → (∀ s b,zCP dec s = some b → get fr s = .bool b) → EWT C GT is t (undec dec i.dst) (put fr i.dst (.tup [])) H K KP → AWT C GT is t (put fr' i.dst (.tup [])) H K' KP':=
   fun dec fr hf hd h=>zDK is t _ _ _ H K K' KP KP' (zBi hf _ _) (zIP hd _ _) hk hp h
  unfold zKH at h
  simp only [zIQ,zFC] at h
  split at h
  ·rename_i hg
   rw [hg]
   rw [hev] at h
   exact go dec fr hf hd hev h
  ·rename_i s want hg
   rw [hg]
   simp only
   split at h
   ·rename_i b hb
    have hs : get fr' s = .bool b:=by rw [← hf]; exact hd s b hb
    rw [hs]
    simp only [gd]
    split at h
    ·rename_i e
     rw [if_pos e]
     rw [hev] at h
     exact go dec fr hf hd hev h
    ·rename_i e
     rw [if_neg (by simp [e])]
     exact no dec fr hf hd h
   ·rcases zHr.1 h with ⟨hb,h⟩ | ⟨b,hb,h⟩
    ·have hs : get fr' s = .tup []:=by rw [← hf]; exact hb
     rw [hs]
     simp only [gd]
     rw [if_neg (by simp)]
     exact no dec fr hf hd h
    have hs : get fr' s = .bool b:=by rw [← hf]; exact hb
    rw [hs]
    simp only [gd]
    have hf2 : get ((s,AV.bool b) :: fr) = get fr':=by rw [zF9 hb,hf]
    have hev2 : ev GT ((s,AV.bool b) :: fr) = ev GT fr':=by rw [zCO,zCO,hf2]
    have hd2 : ∀ t c,zCP ((s,some b) :: dec) t = some c → get ((s,AV.bool b) :: fr) t = .bool c:=by
     rw [zF9 hb]; exact zK2 hd hb
    cases want <;> cases b <;> simp only [zEb,if_true,Bool.false_eq_true,if_false] at h
    ·rw [if_pos (by rfl)]
     rw [hev] at h
     exact go _ _ hf2 hd2 hev2 h
    ·rw [if_neg (by simp)]
     exact no _ _ hf2 hd2 h
    ·rw [if_neg (by simp)]
     exact no _ _ hf2 hd2 h
    ·rw [if_pos (by rfl)]
     rw [hev] at h
     exact go _ _ hf2 hd2 hev2 h
theorem zNE {L : List Nat} {l : Nat} {r : AC} {K : Post} {fr : Fr} {H : Heap} : gotoP C GT L l r K fr H ↔ ∃ m,zG2 (AW C GT r) L l (zJO K) m fr H:=by rw [zNA]; exact Iff.rfl
theorem zHu {L : List Nat} {l : Nat} {r : AC} {K K' : Post} (hk : ∀ e fr H,K e fr H → K' e fr H) : ∀ (m : Nat) (fr : Fr) (H : Heap),zG2 (AW C GT r) L l K m fr H → zG2 (AW C GT r) L l K' m fr H
 | 0,_,_,h=>h.elim
 | m + 1,fr,H,h=>zM3 h fun e fr H h=>by
  cases e with
  | goto l'=>exact ⟨h.1,zHu hk m _ H h.2⟩
  | _=>exact hk _ _ _ h
def zQv (K K' : Post) : Prop:=∀ e f f' H,get f = get f' → K e f H → K' e f' H
theorem zAH {fr fr' : Fr} (h : get fr = get fr') (L : List Nat) : restrict fr L = restrict fr' L:=by
 unfold restrict; rw [h]
theorem zK4 : ∀ (ac : AC) (K K' : Post) (fr fr' : Fr) (H : Heap),get fr = get fr' → zQv K K' → EW C GT ac K fr H → AW C GT ac K' fr' H:=by
 intro ac
 induction ac with
 | skip=>intro K K' fr fr' H hf hk h; exact hk _ _ _ _ hf h
 | ret=>intro K K' fr fr' H hf hk h; exact hk _ _ _ _ hf h
 | stuck=>intro K K' fr fr' H hf hk h; exact False.elim h
 | label=>intro K K' fr fr' H hf hk h; exact hk _ _ _ _ hf h
 | goto l=>intro K K' fr fr' H hf hk h; exact hk _ _ _ _ hf h
 | regt L d is t=>
  intro K K' fr fr' H hf hk h
  rw [zPv]
  replace h : EWT C GT is t [] (zT fr L) H (fun fr' H'=>K .normal fr' H') (fun x H'=>K (.pan x) [] H'):=h
  rw [zAP,zAH hf] at h
  exact zDK is t _ _ _ H _ _ _ _ rfl (fun s b h=>by simp [zCP] at h) (fun f f' H hf h=>hk _ _ _ _ hf h) (fun x H h=>hk _ _ _ _ rfl h) h
 | scope L l c r ihc ihr=>
  intro K K' fr fr' H hf hk h
  replace h : EW C GT c (zI2 l (fun fr' H'=>gotoP C GT L l r K (zT fr' L) H') K) fr H:=h
  rw [zOV]
  refine ihc _ _ _ _ H hf (fun e f f' H hf h=>?_) h
  cases e with
  | goto l'=>
   obtain ⟨hl,hg⟩:=h
   obtain ⟨m,hg⟩:=zNE.1 hg
   rw [zAP,zAH hf] at hg
   exact ⟨hl,m,zHu (fun e f H ⟨f',h1,h2⟩=>hk _ _ _ _ h1 h2) m _ _ hg⟩
  | _=>exact hk _ _ _ _ hf h
 | exit id=>intro K K' fr fr' H hf hk h; exact hk _ _ _ _ hf h
 | reg L d is=>
  intro K K' fr fr' H hf hk h
  rw [zQs]
  replace h : EWops C GT is [] (zT fr L) H (fun fr' H'=>K .normal fr' H'):=h
  rw [zAP,zAH hf] at h
  exact zND is _ _ _ H _ _ rfl (fun s b h=>by simp [zCP] at h) (fun f f' H hf h=>hk _ _ _ _ hf h) h
 | seq a b iha ihb=>
  intro K K' fr fr' H hf hk h
  replace h : EW C GT a (zPm (EW C GT b K) K) fr H:=h
  rw [zQr]
  refine iha _ _ _ _ H hf (fun e f f' H hf h=>?_) h
  cases e with
  | normal=>exact ihb _ _ _ _ _ hf hk h
  | _=>exact hk _ _ _ _ hf h
 | cond c a b iha ihb=>
  intro K K' fr fr' H hf hk h
  replace h : zKG (evF GT fr c) (fun t=>condP t (EW C GT a K (learn fr c true) H) (EW C GT b K (learn fr c false) H)):=h
  rw [zPY] at h
  obtain ⟨t,ht,h⟩:=zEc.1 h
  rw [zCO,hf,← zCO] at ht
  rw [zPx ht]
  have he : ∀ b,get (learn fr c b) = get (learn fr' c b):=by
   intro b; cases c <;> simp only [learn] <;> first | exact hf | (funext t; simp only [get,hf])
  rw [zEb] at h
  cases t
  ·simp only [Bool.false_eq_true,if_false] at h ⊢; exact ihb _ _ _ _ H (he _) hk h
  ·simp only [if_true] at h ⊢; exact iha _ _ _ _ H (he _) hk h
 | block id L c ih=>
  intro K K' fr fr' H hf hk h
  replace h : EW C GT c (zHq id L K) fr H:=h
  rw [zNC] at h
  rw [zOW]
  refine ih _ _ _ _ H hf (fun e f f' H hf h=>?_) h
  cases e with
  | normal=>exact hk _ _ _ _ (by rw [zAH hf]) h
  | exit j=>
   simp only [zEN] at h ⊢
   split at h
   ·rename_i e; rw [if_pos e]; exact hk _ _ _ _ (by rw [zAH hf]) h
   ·rename_i e; rw [if_neg e]; exact hk _ _ _ _ hf h
  | _=>exact hk _ _ _ _ hf h
 | loop L c ih=>
  intro K K' fr fr' H hf hk h
  replace h : loopP C GT L c K (zT fr L) H:=h
  rw [zPw]
  have h:=zJQ.1 h
  rw [zAP,zAH hf] at h
  exact zOU h fun e f H ⟨f',h1,h2⟩=>hk _ _ _ _ h1 h2
theorem zKL {fr fr' : Fr} (h : get fr = get fr') (H : Heap) : ∀ r,zJ0 fr H r = zJ0 fr' H r:=by
 intro r; cases r <;> simp only [zJ0,h]
theorem zFY {fr fr' : Fr} (h : get fr = get fr') (H : Heap) : ∀ rs,zAr fr H rs = zAr fr' H rs
 | []=>rfl
 | r :: rs=>by simp only [zAr,zKL h,zFY h H rs]
def EFun (C : CSpec) (GT : Nat → Option AV) (F : AF) (args : List AV) (H : Heap) (v : AV) (H' : Heap) : Prop:=
 EW C GT F.body (fun e fr H1=>match e with
  | .normal=>retP F H fr H1 v H'
  | .ret=>retP F H fr H1 v H'
  | _=>False) (zH8 0 args) H
theorem zJT {F : AF} {args : List AV} {H : Heap} {v : AV} {H' : Heap} (h : EFun C GT F args H v H') : AFun C GT F args H v H':=by
 unfold EFun at h
 unfold AFun
 refine zK4 _ _ _ _ _ H rfl (fun e f f' H1 hf h=>?_) h
 have : retP F H f H1 v H' → zJx F H f' H1 v H':=fun h=>by
  have:=zOi.1 h
  unfold zJx at this ⊢
  rw [← zFY hf]; exact this
 cases e with
 | normal=>exact this h
 | ret=>exact this h
 | _=>exact h
end
theorem zHv {H : Heap} {k : Nat} {v : AV} {xs r : List AV} (h : view H k v = some xs) : zIE (v :: r) = true:=by cases v <;> first | rfl | simp [view] at h
theorem zNF {H : Heap} {k : Nat} {v : AV} {r : List AV} {p : List AV → Prop} (h : ∃ xs,view H k v = some xs ∧ p xs) : zIE (v :: r) = true:=by obtain ⟨_,h,_⟩:=h; exact zHv h
theorem zNG {k : Nat} {v : AV} {xs r : List AV} (h : ∃ q k',v = .lst q k' xs ∧ (k' = k ∨ xs = [])) : zIE (v :: r) = true:=by obtain ⟨_,_,rfl,_⟩:=h; rfl
theorem zC {P : Program} {GT : Nat → Option AV} (hm : P.follows .mixedOrders = true) {f : FuncId} {F : AF} (hc : zBM P f F = true) {args : List AV} {H : Heap} {v : AV} {H' : Heap} (h : EFun (Good P GT) GT F args H v H')
  (hn : zIE args = true:=by first | rfl | exact Go.AM.zHv (by assumption) | exact Go.AM.zNF (by assumption) | exact Go.AM.zNG (by assumption)) : Good P GT f args H v H':=
 zKE hm hc (zJT h) hn
section
variable {C : CSpec} {GT : Nat → Option AV} {L : List Nat} {c : AC} {K : Post}
def zNH {σ : Type} (L : List Nat) (mk : σ → Fr) (inv : σ → Heap → Prop) (μ : σ → Nat) (s : σ) (fr : Fr) (H : Heap) : Prop:=∃ s',zT fr L = mk s' ∧ inv s' H ∧ μ s' < μ s
structure nextP {σ : Type} (L : List Nat) (mk : σ → Fr) (inv : σ → Heap → Prop) (μ : σ → Nat) (s : σ) (fr : Fr) (H : Heap) : Prop where
 h : zNH L mk inv μ s fr H
theorem zNI {σ : Type} (L : List Nat) (mk : σ → Fr) (inv : σ → Heap → Prop) (μ : σ → Nat) (s : σ) (fr : Fr) (H : Heap) : nextP L mk inv μ s fr H = zNH L mk inv μ s fr H:=propext ⟨fun x=>x.h,fun x=>⟨x⟩⟩
theorem zJU {σ : Type} {L : List Nat} {mk : σ → Fr} {inv : σ → Heap → Prop} {μ : σ → Nat} {s : σ} {fr : Fr} {H : Heap} : nextP L mk inv μ s fr H ↔ ∃ s',zT fr L = mk s' ∧ inv s' H ∧ μ s' < μ s:=by rw [zNI]; unfold zNH; exact Iff.rfl
theorem zw {σ : Type} {L : List Nat} {mk : σ → Fr} {inv : σ → Heap → Prop} {μ : σ → Nat} {s : σ} {fr : Fr} {H : Heap} (s' : σ) (h1 : zT fr L = mk s') (h2 : inv s' H) (h3 : μ s' < μ s) : nextP L mk inv μ s fr H:=zJU.2 ⟨s',h1,h2,h3⟩
def zQw {σ : Type} (L : List Nat) (mk : σ → Fr) (inv : σ → Heap → Prop) (μ : σ → Nat) (s : σ) (K : Post) : Post:=fun e fr' H'=>match e with
 | .normal=>nextP L mk inv μ s fr' H'
 | .exit j=>K (.exit j) fr' H'
 | .ret=>K .ret fr' H'
 | .goto l=>K (.goto l) fr' H'
 | .pan x=>K (.pan x) fr' H'
theorem zAV {σ : Type} (mk : σ → Fr) (inv : σ → Heap → Prop) (μ : σ → Nat) (s0 : σ) {fr : Fr} {H : Heap} (hf : fr = mk s0) (h0 : inv s0 H)
  (step : ∀ s H,inv s H → EW C GT c (zQw L mk inv μ s K) (mk s) H) : loopP C GT L c K fr H:=by
 subst hf
 rw [zJQ]
 refine ⟨μ s0 + 1, ?_⟩
 have key : ∀ n s H,μ s < n → inv s H → zI1 (AW C GT c) L (zJO K) n (mk s) H:=by
  intro n
  induction n with
  | zero=>intro s H h; exact absurd h (Nat.not_lt_zero _)
  | succ n ih=>
   intro s H hn hi
   refine zK4 c _ _ _ _ H rfl (fun e f f' H' hf h=>?_) (step s H hi)
   cases e with
   | normal=>
    obtain ⟨s',h1,h2,h3⟩:=zJU.1 h
    simp only
    rw [← zAH hf,← zAP,h1]
    exact ih s' H' tO h2
   | _=>exact ⟨f,hf,h⟩
 exact key _ s0 H (Nat.lt_succ_self _) h0
end
end Go.AM
