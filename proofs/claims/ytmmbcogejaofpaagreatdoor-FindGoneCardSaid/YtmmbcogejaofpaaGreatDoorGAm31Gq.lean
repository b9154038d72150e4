/- Several texts of mine in one (Am31, Fpa, Fpg, Chk, Gq). Own work. -/
import Derived.Test.YtmmbcogejaofpaaGreatDoorGFp0Trm
import Derived.Recover
import Derived.Test.YtmmbcogejaofpaaGreatDoorGFmAm24
import Derived.Test.YtmmbcogejaofpaaGreatDoorLdQ3
set_option linter.all false
namespace Go.AM
theorem zD7 (fr : Fr) {t : Nat} : ∀ {ts : List Nat},t ∉ ts → get (restrict fr ts) t = .undef
 | [],_=>rfl
 | l :: ts,ht=>by
  simp only [List.mem_cons,not_or] at ht
  simp only [restrict,List.map_cons,get]
  rw [if_neg (fun e=>ht.1 e.symm)]
  exact zD7 fr ht.2
def Pin (ts : List Nat) (a a' : Act) : Prop:=∀ t ∈ ts,a'.tmps.getD t Go.undef = a.tmps.getD t Go.undef
theorem Pin.refl (ts : List Nat) (a : Act) : Pin ts a a:=fun _ _=>rfl
theorem Pin.trans {ts : List Nat} {a b c : Act} (h : Pin ts a b) (k : Pin ts b c) : Pin ts a c:=fun t ht=>(k t ht).trans (h t ht)
theorem pin_put {ts : List Nat} {a : Act} {d : Option Nat} (v : Value) (h : ∀ t ∈ ts,d ≠ some t) : Pin ts a (a.put d v):=fun t ht=>by
 cases d with
 | none=>rfl
 | some d=>
  have : d ≠ t:=fun e=>h t ht (by rw [e])
  simp only [Act.put]
  rw [Array.getD_eq_getD_getElem?,Array.getD_eq_getD_getElem?,Array.getElem?_setIfInBounds_ne this]
section
variable {P : Program}
theorem wpList_pin {ops : Array Oper} {Q : Exit → Act → World → Prop} {ts : List Nat} {a0 : Act} (hQ : ¬ LetsOut Q) : ∀ (os : List Oper) (a : Act) (w : World),Pin ts a0 a → (∀ o ∈ os,∀ t ∈ ts,o.dst ≠ some t) → wpList P ops Q os a w → wpList P ops (fun e a' w'=>Q e a' w' ∧ Pin ts a0 a') os a w:=by
 intro os
 induction os with
 | nil=>exact fun a w hp _ h=>⟨h,hp⟩
 | cons o os ih=>
  intro a w hp hd h
  have ho:=fun v=>hp.trans (pin_put v (hd o (List.mem_cons_self ..)))
  have hd':=fun o' h'=>hd o' (List.mem_cons_of_mem _ h')
  unfold wpList at h ⊢
  split at h
  ·rename_i hw
   rw [if_pos hw]
   refine .inl ?_
   rcases h with h | h
   ·unfold Oper.wp at h ⊢
    generalize (execOp a.eval o).run P w = r at h ⊢
    unfold Oper.upon at h ⊢
    split at h
    ·exact ih _ _ (ho _) hd' h
    ·exact ih _ _ (ho _) hd' h
    ·rename_i d w'
     refine ih _ _ ?_ hd' h
     exact hp.trans (pin_put (a:={ a with defers:=d :: a.defers }) _ (hd o (List.mem_cons_self ..)))
    ·refine Calls.mono h fun e w'' he=>?_
     cases e with
     | returned v=>exact ih _ _ (ho _) hd' he
     | panicked ch=>exact ⟨he,hp⟩
     | outgrown=>exact absurd he hQ
    ·exact Rows.mono h fun v w'' he=>ih _ _ (ho _) hd' he
    ·exact ⟨h,hp⟩
    ·exact h.elim
   ·exact absurd h.2 hQ
  ·rename_i hw
   rw [if_neg hw]
   exact ih _ _ (ho _) hd' h
def frag (ts : List Nat) : AC → Bool
 | .skip | .ret=>true
 | .reg _ draw is=>!draw && is.all fun i=>ts.all fun t=>i.dst != some t
 | .regt _ draw is _=>!draw && is.all fun i=>ts.all fun t=>i.dst != some t
 | .seq a b=>frag ts a && frag ts b
 | .cond _ a b=>frag ts a && frag ts b
 | _=>false
theorem chk_dst {N : Nat} {ops : Array Oper} {ts : List Nat} : ∀ (os : List Oper) (is : List AI),zAb P N ops os is = true → (is.all fun i=>ts.all fun t=>i.dst != some t) = true → ∀ o ∈ os,∀ t ∈ ts,o.dst ≠ some t
 | [],_,_,_,o,ho=>by cases ho
 | o :: os,[],hc,_,_,_=>by simp [zAb] at hc
 | o :: os,i :: is,hc,hd,o',ho'=>by
  simp only [zAb,Bool.and_eq_true] at hc
  simp only [List.all_cons,Bool.and_eq_true] at hd
  rcases List.mem_cons.1 ho' with rfl | h
  ·intro t ht e
   have h1:=hc.1
   simp only [zGm,Bool.and_eq_true,decide_eq_true_eq] at h1
   have h2:=List.all_eq_true.1 hd.1 t ht
   rw [← h1.1.1.1,e] at h2
   simp at h2
  ·exact chk_dst os is hc.2 hd.2 o' h
variable {D : List Deferred} {GT : Nat → Option AV}
theorem aw_pin {N : Nat} (hm : P.follows .mixedOrders = true) (ts : List Nat) : ∀ (ac : AC) (c : Code) (K : Post) (Q : Exit → Act → World → Prop) (w : World) (M : AMap) (I : Nat → Prop) (H : Heap) (fr : Fr) (a : Act),
  frag ts ac = true → zEO P N c ac = true → Sim GT w M I H → ActOK D w M I H.length N (get fr) a → AW (Good P GT) GT ac K fr H →
  (∀ e E fr' H' a' w' M' I',Grow w M I H w' M' I' H' → Sim GT w' M' I' H' → ActOK D w' M' I' H'.length N (get fr') a' → Outs w' M' I' H'.length e E → K e fr' H' → Pin ts a a' → Q E a' w') → c.wp P Q a w:=by
 intro ac
 induction ac with
 | skip=>
  intro c K Q w M I H fr a hfr hc hS hF hA hQ
  cases c <;> simp [zEO] at hc
  exact wp_skip (hQ .normal .normal fr H a w M I (Grow.refl ..) hS hF rfl hA (Pin.refl _ _))
 | ret=>
  intro c K Q w M I H fr a hfr hc hS hF hA hQ
  cases c <;> simp [zEO] at hc
  exact wp_ret (hQ .ret .ret fr H a w M I (Grow.refl ..) hS hF rfl hA (Pin.refl _ _))
 | reg L draw is=>
  intro c K Q w M I H fr a hfr hc hS hF hA hQ
  cases c <;> simp only [zEO,Bool.false_eq_true,Bool.and_eq_true,beq_iff_eq,Bool.or_eq_true,Bool.not_eq_true'] at hc
  obtain ⟨⟨rfl,h1⟩,h2⟩:=hc
  rename_i id ops draw
  simp only [frag,Bool.and_eq_true,Bool.not_eq_true'] at hfr
  obtain ⟨rfl,hfr⟩:=hfr
  have h3:=ops_sound (Q:=fun e a' w'=>e = .normal ∧ ∃ fr' H' M' I',Grow w M I H w' M' I' H' ∧ Sim GT w' M' I' H' ∧ ActOK D w' M' I' H'.length N (get fr') a' ∧ K .normal fr' H') is ops.toList w M I H _ a hS (hF.restrict L) h1 hA
   fun fr' H' a' w' M' I' hG hS' hF' hK=>⟨rfl,fr',H',M',I',hG,hS',hF',hK⟩
  have h4:=wpList_pin (fun hl=>by obtain ⟨_,_,h,_⟩:=hl; cases h) ops.toList a w (Pin.refl ts a) (chk_dst _ _ h1 hfr) h3
  exact Code.wp_mono (fun e a' w' ⟨⟨he,fr',H',M',I',g1,g2,g3,g4⟩,hp⟩=>by subst he; exact hQ .normal .normal fr' H' a' w' M' I' g1 g2 g3 rfl g4 hp) (wp_region_list h4)
 | regt L draw is t=>
  intro c K Q w M I H fr a hfr hc hS hF hA hQ
  cases c <;> simp only [zEO,Bool.false_eq_true,Bool.and_eq_true,beq_iff_eq] at hc
  obtain ⟨⟨rfl,h1⟩,h2⟩:=hc
  rename_i id ops draw
  simp only [frag,Bool.and_eq_true,Bool.not_eq_true'] at hfr
  obtain ⟨rfl,hfr⟩:=hfr
  have h3:=seq_soundP (Q:=fun E a' w'=>E ≠ .outgrown ∧ ∃ e fr' H' M' I',Grow w M I H w' M' I' H' ∧ Sim GT w' M' I' H' ∧ ActOK D w' M' I' H'.length N (get fr') a' ∧ Outs w' M' I' H'.length e E ∧ K e fr' H') h1 t 0 ops.toList w M I H _ a (by simp) (by simpa [chkRT] using h2) hS (hF.restrict L) hA
   (fun fr' H' a' w' M' I' hG hS' hF' hK=>⟨by simp,.normal,fr',H',M',I',hG,hS',hF',rfl,hK⟩)
   (fun x xv g' H' a' w' M' I' hG hS' hF' hr hK=>⟨by simp,.pan x,[],H',M',I',hG,hS',hF'.none,⟨xv,rfl,hr⟩,hK⟩)
  have h4:=wpList_pin (fun hl=>by obtain ⟨_,_,h,_⟩:=hl; exact h rfl) ops.toList a w (Pin.refl ts a) (chk_dst _ _ h1 hfr) h3
  exact Code.wp_mono (fun E a' w' ⟨⟨_,e,fr',H',M',I',g1,g2,g3,g4,g5⟩,hp⟩=>hQ e E fr' H' a' w' M' I' g1 g2 g3 g4 g5 hp) (wp_region_list h4)
 | seq x y ihx ihy=>
  intro c K Q w M I H fr a hfr hc hS hF hA hQ
  simp only [frag,Bool.and_eq_true] at hfr
  cases c <;> simp only [zEO,Bool.false_eq_true,Bool.and_eq_true] at hc
  refine wp_seq (ihx _ _ _ w M I H fr a hfr.1 hc.1 hS hF hA fun e E fr' H' a' w' M' I' hG hS' hF' hE hK hp=>?_)
  cases e with
  | normal=>
   obtain rfl:=hE
   exact ihy _ K Q w' M' I' H' fr' a' hfr.2 hc.2 hS' hF' hK fun e E fr2 H2 a2 w2 M2 I2 hG2 hS2 hF2 hE2 hK2 hp2=>hQ e E fr2 H2 a2 w2 M2 I2 (hG.trans hG2) hS2 hF2 hE2 hK2 (hp.trans hp2)
  | exit id=>obtain rfl:=hE; exact hQ (.exit id) _ fr' H' a' w' M' I' hG hS' hF' rfl hK hp
  | ret=>obtain rfl:=hE; exact hQ .ret _ fr' H' a' w' M' I' hG hS' hF' rfl hK hp
  | goto l=>obtain rfl:=hE; exact hQ (.goto l) _ fr' H' a' w' M' I' hG hS' hF' rfl hK hp
  | pan x=>obtain ⟨xv,rfl,hr⟩:=hE; exact hQ (.pan x) _ fr' H' a' w' M' I' hG hS' hF' ⟨xv,rfl,hr⟩ hK hp
 | cond t x y ihx ihy=>
  intro c K Q w M I H fr a hfr hc hS hF hA hQ
  simp only [frag,Bool.and_eq_true] at hfr
  cases c <;> simp only [zEO,Bool.false_eq_true,Bool.and_eq_true] at hc
  rename_i t' x' y'
  obtain ⟨⟨h1,h2⟩,h3⟩:=hc
  unfold AW at hA
  split at hA
  ·rename_i b hb
   have hF' : ActOK D w M I H.length N (get (learn fr t b)) a:=⟨fun s=>by rw [get_learn hb s]; exact hF.rel s,hF.size,hF.defers⟩
   have hr:=hF.ev hS _ _ h1
   rw [← zCZ,hb] at hr
   have hv : a.eval t' = .bool b:=by
    generalize a.eval t' = u at hr
    cases hr; rfl
   refine wp_cond hv ?_
   cases b with
   | true=>simp only [if_true] at hA ⊢; exact ihx _ K Q w M I H _ a hfr.1 h2 hS hF' hA hQ
   | false=>simp only [Bool.false_eq_true,if_false] at hA ⊢; exact ihy _ K Q w M I H _ a hfr.2 h3 hS hF' hA hQ
  ·exact hA.elim
 | _=>intro c K Q w M I H fr a hfr; simp [frag] at hfr
theorem wpOpsS_done {ops : Array Oper} {Q : Exit → Act → List Frame → World → Prop} {i : Nat} {rest : List Nat} {o : Oper} {a : Act} {cs : List Frame} {w : World} (ho : ops[i]? = some o) (hw : Region.wanted o (yielded ops a.tmps) = true)
  (h : zEU P ((execOp a.eval o).run P w) fun v w'=>wpOpsS P ops Q rest (a.put o.dst v) cs w') : wpOpsS P ops Q (i :: rest) a cs w:=by
 unfold wpOpsS
 simp only [ho,hw,if_true]
 unfold zEU at h
 split at h
 ·rename_i hr; rw [hr]; exact h
 ·rename_i hr; rw [hr]; exact h
 ·rename_i hr; rw [hr]
  exact h.mono fun e w' ⟨v,he,hv⟩=>by subst he; exact hv
 ·exact h.elim
def recB (c : Code) : Bool:=match c with
 | .seq (.region _ ops _) _=>(match ops[0]? with
  | some o=>o.guard.isNone && (match o.op with
   | .call { callee:=.builtin .recover,.. }=>true
   | _=>false)
  | none=>false)
 | _=>false
inductive RecM (w : World) (M : AMap) (I : Nat → Prop) (n : Nat) : FrameMode → AV → FrameMode → Prop where
 | none : RecM w M I n .returning .nili .returning
 | some (x : AV) (xv : Value) (h : Rel w M I n x xv) : RecM w M I n (.panicking [{ v:=xv,recovered:=false }]) x (.panicking [{ v:=xv,recovered:=true }])
def zIE (P : Program) (GT : Nat → Option AV) (g : FuncId) (caps : List AV) (x : AV) (H H' : Heap) : Prop:=
 ∀ (w : World) (M : AMap) (I : Nat → Prop) (cargs : List Value) (u u2 : FrameMode),Sim GT w M I H → zBj w M I H.length caps cargs → RecM w M I H.length u x u2 →
  CallsD P g cargs.toArray u w fun e u' w'=>(∃ v,e = .returned v) ∧ u' = u2 ∧ ∃ M' I',Grow w M I H w' M' I' H' ∧ Sim GT w' M' I' H'
theorem goodD_of (hm : P.follows .mixedOrders = true) {g : FuncId} {G : AF} {L0 : List Nat} {r0 r1 : Nat} {Y : AC} (hk : zAR P g G = true) (hG : G.body = .seq (.reg L0 false [⟨some r0,none,.stuck,[]⟩,⟨some r1,none,.mv,[.tmp r0]⟩]) Y) (hGr : G.results = [])
  (hrec : (match P.funcs[g]? with
   | some fn=>(match fn.body with
    | some c=>recB c
    | none=>false)
   | none=>false) = true) {caps : List AV} {x : AV} {H H' : Heap}
  (hY : AW (Good P GT) GT Y (fun e _ H1=>(e = .normal ∨ e = .ret) ∧ H1 = H') (put (put (restrict (zDJ 0 caps) L0) (some r0) x) (some r1) x) H) : zIE P GT g caps x H H':=by
 intro w M I cargs u u2 hS hA hR
 unfold zAR at hk
 cases hf : P.funcs[g]? with
 | none=>rw [hf] at hk; cases hk
 | some fn=>
 rw [hf] at hk hrec
 simp only [Bool.and_eq_true,Bool.not_eq_true'] at hk hrec
 obtain ⟨hname,hk⟩:=hk
 cases hb : fn.body with
 | none=>rw [hb] at hk; cases hk
 | some c=>
 rw [hb] at hk hrec
 simp only [Bool.and_eq_true] at hk hrec
 obtain ⟨hc,hres⟩:=hk
 rw [hG] at hc
 rw [hGr] at hres
 refine callsD_of_wpS hf hb fun c₀ cs hu=>?_
 have hF0:=zFY (GT:=GT) hS hA (n:=fn.ntmps)
 generalize ({ tmps:=cargs.toArray ++ Array.replicate (fn.ntmps - cargs.toArray.size) Go.undef,defers:=[] } : Act) = a at hF0 ⊢
 cases c <;> simp only [zEO,Bool.false_eq_true,Bool.and_eq_true] at hc
 rename_i cR cY
 obtain ⟨hcR,hcY⟩:=hc
 cases cR <;> simp only [zEO,Bool.false_eq_true,Bool.and_eq_true,beq_iff_eq] at hcR
 rename_i id ops draw
 obtain ⟨⟨rfl,h1⟩,_⟩:=hcR
 obtain ⟨os⟩:=ops
 simp only at h1
 match os,h1 with
 | [],h1=>simp [zAb] at h1
 | [_],h1=>simp [zAb] at h1
 | _ :: _ :: _ :: _,h1=>simp [zAb] at h1
 | [o0,o1],h1=>
 simp only [zAb,Bool.and_eq_true,and_true] at h1
 obtain ⟨k0,k1⟩:=h1
 have hF:=hF0.restrict L0
 refine wpS_seq (wpS_region ?_)
 show wpOpsS P _ _ [0,1] a (c₀ :: cs) w
 have ho0 : (⟨[o0,o1]⟩ : Array Oper)[0]? = some o0:=rfl
 have ho1 : (⟨[o0,o1]⟩ : Array Oper)[1]? = some o1:=rfl
 simp only [recB,ho0,Bool.and_eq_true] at hrec
 obtain ⟨hg0,hop⟩:=hrec
 have hw0 : ∀ t : Act,Region.wanted o0 (yielded ⟨[o0,o1]⟩ t.tmps) = true:=fun t=>by
  cases hgd : o0.guard with
  | none=>simp [Region.wanted,hgd]
  | some z=>rw [hgd] at hg0; cases hg0
 have hrun : (execOp a.eval o0).run P w = .ok .recover w:=by
  cases hoo : o0.op <;> rw [hoo] at hop <;> first | cases hop | skip
  rename_i cl
  obtain ⟨callee,args,at_⟩:=cl
  cases callee <;> first | cases hop | skip
  rename_i bn
  cases bn <;> first | cases hop | skip
  simp [execOp,hoo,resolve,invoke,builtin]
 have hd0 : o0.dst = some r0 ∧ r0 < fn.ntmps:=by
  simp only [zGm,Bool.and_eq_true,decide_eq_true_eq] at k0
  exact ⟨k0.1.1.1,k0.1.1.2⟩
 have key : ∀ (xv : Value) (c1 : Frame),c1 = { c₀ with mode:=u2 } → Rel w M I H.length x xv → wpOpsS P ⟨[o0,o1]⟩ (Exit.thenS (cY.wpS P (bodyPostS P fn c₀ cs fun e u' w'=>(∃ v,e = .returned v) ∧ u' = u2 ∧ ∃ M' I',Grow w M I H w' M' I' H' ∧ Sim GT w' M' I' H')) (bodyPostS P fn c₀ cs fun e u' w'=>(∃ v,e = .returned v) ∧ u' = u2 ∧ ∃ M' I',Grow w M I H w' M' I' H' ∧ Sim GT w' M' I' H')) [1] (a.put o0.dst xv) (c1 :: cs) w:=by
  intro xv c1 hc1 hx
  have hF1 : ActOK [] w M I H.length fn.ntmps (putg (get (restrict (zDJ 0 caps) L0)) (some r0) x) (a.put o0.dst xv):=by
   rw [hd0.1]
   exact hF.put (fun e he=>by cases he; exact hd0.2) hx
  have hy : AYields (Good P GT) GT ⟨some r1,none,.mv,[.tmp r0]⟩ (putg (get (restrict (zDJ 0 caps) L0)) (some r0) x) H x H:=by
   show zCj (Good P GT) .mv _ H x H
   show astep .mv [evg GT _ (.tmp r0)] H = some (x,H)
   simp [astep,evg,putg]
  have h2:=k1
  simp only [zGm,Bool.and_eq_true,decide_eq_true_eq] at h2
  have hg1 : o1.guard = none:=by
   have:=h2.1.2
   cases hgd : o1.guard with
   | none=>rfl
   | some z=>rw [hgd] at this; simp at this
  refine wpOpsS_done ho1 (by simp [Region.wanted,hg1]) ?_; refine (zHW hS h2.2 (hF1.ev hS) (fun f=>rfl) (xs:=[.tmp r0]) (v:=x) (H':=H) hy).mono ?_
  rintro v' w' ⟨M',I',g1,g2,g3⟩
  show Exit.thenS _ _ .normal _ _ _
  have hF2 : ActOK [] w' M' I' H.length fn.ntmps (get (put (put (restrict (zDJ 0 caps) L0) (some r0) x) (some r1) x)) ((a.put o0.dst xv).put o1.dst v'):=by
   rw [zC8,zC8,h2.1.1.1]
   exact (hF1.grow g1 hS).put (fun e he=>by cases he; simpa using h2.1.1.2) g3
  refine wpS_of_wp (zFX hm Y cY _ _ w' M' I' H _ _ hcY g2 hF2 hY fun e E fr' H1 a' w2 M2 I2 hG2 hS2 hF3 hE hK=>?_)
  obtain ⟨he,rfl⟩:=hK
  obtain ⟨u0,hr0,I3,g4,g5,_⟩:=zEh (P:=P) (F:={ keep:=true,results:=[],body:=.skip }) hS (g1.trans hG2) hS2 hF3 (fn:=fn) hres (v:=.tup []) (H':=H1) (by simp [zEQ,zBJ,tupled])
  rcases he with rfl | rfl <;> obtain rfl:=hE <;> exact ⟨hF3.defers,u2,by rw [hc1],u0,hr0,⟨u0,rfl⟩,rfl,M2,I3,g4,g5⟩
 unfold wpOpsS
 simp only [ho0,hw0,if_true,hrun]
 cases hR with
 | none=>
  have hrd : recoverD (c₀ :: cs) = none:=by simp only [recoverD,hu]
  rw [hrd]
  exact key .nilIface c₀ (by rw [← hu]) .nili
 | some x xv hx=>
  have hrd : recoverD (c₀ :: cs) = some (xv,{ c₀ with mode:=.panicking [{ v:=xv,recovered:=true }] } :: cs):=by simp only [recoverD,hu]
  rw [hrd]
  exact key xv _ rfl hx
def dfrB (s : Nat) (c : Code) : Bool:=match c with
 | .seq _ (.seq _ (.seq (.region _ ops _) _))=>(match ops[1]? with
  | some o=>o.guard.isNone && o.dst.isNone && (match o.op with
   | .defer { callee:=.value (.tmp t),args,.. }=>t == s && args.isEmpty
   | _=>false)
  | none=>false)
 | _=>false
theorem good_of_defer (hm : P.follows .mixedOrders = true) {f g : FuncId} {F G : AF} {A B C : AC} {LR ts : List Nat} {s : Nat} {xs : List Opd} (hk : zAR P f F = true) (hF : F.body = .seq A (.seq B (.seq (.reg LR false [⟨some s,none,.mkFn g 0,xs⟩,⟨none,none,.stuck,[]⟩]) C)))
  (hd : (match P.funcs[f]? with
   | some fn=>(match fn.body with
    | some c=>dfrB s c
    | none=>false)
   | none=>false) = true) (hkg : zAR P g G = true) (hfr : frag ts C = true)
  {args : List AV} (hn : zE9 args = true) {H : Heap} {v : AV} {H' : Heap}
  (h : AW (Good P GT) GT (.seq A (.seq B .skip)) (fun e fr1 H1=>e = .normal ∧ AW (Good P GT) GT C (fun e fr2 H2=>match e with
    | .normal=>zIE P GT g (xs.map (ev GT (restrict fr1 LR))) .nili H2 H2 ∧ zEQ F H fr2 H2 v H'
    | .ret=>zIE P GT g (xs.map (ev GT (restrict fr1 LR))) .nili H2 H2 ∧ zEQ F H fr2 H2 v H'
    | .pan x=>∃ H3,zIE P GT g (xs.map (ev GT (restrict fr1 LR))) x H2 H3 ∧ zEQ F H (restrict (put (restrict fr1 LR) (some s) (.fn g [] (xs.map (ev GT (restrict fr1 LR))))) ts) H3 v H'
    | _=>False) (put (restrict fr1 LR) (some s) (.fn g [] (xs.map (ev GT (restrict fr1 LR))))) H1) (zDJ 0 args) H) : Good P GT f args H v H':=by
 unfold zAR at hk
 cases hf : P.funcs[f]? with
 | none=>rw [hf] at hk; cases hk
 | some fn=>
 rw [hf] at hk hd
 simp only [Bool.and_eq_true,Bool.not_eq_true'] at hk hd
 obtain ⟨hname,hk⟩:=hk
 cases hb : fn.body with
 | none=>rw [hb] at hk; cases hk
 | some c=>
 rw [hb] at hk hd
 simp only [Bool.and_eq_true] at hk hd
 obtain ⟨hc,hres⟩:=hk
 rw [hF] at hc
 refine zEV hn fun w M I cargs hS hA=>?_
 have h1 : fn.name ≠ "runtime.NumGoroutine" := by simpa using hname
 have hrun : (callFunc f cargs.toArray).run P w = .ok (.enter f cargs.toArray) w:=by simp [callFunc,hf,h1,hb]
 rw [hrun]
 refine calls_of_wp_defers hf hb ?_
 have hF0:=zFY (GT:=GT) hS hA (n:=fn.ntmps)
 generalize ({ tmps:=cargs.toArray ++ Array.replicate (fn.ntmps - cargs.toArray.size) Go.undef,defers:=[] } : Act) = a at hF0 ⊢
 cases c <;> simp only [zEO,Bool.false_eq_true,Bool.and_eq_true] at hc
 rename_i cA c1
 obtain ⟨hcA,hc⟩:=hc
 cases c1 <;> simp only [zEO,Bool.false_eq_true,Bool.and_eq_true] at hc
 rename_i cB c2
 obtain ⟨hcB,hc⟩:=hc
 cases c2 <;> simp only [zEO,Bool.false_eq_true,Bool.and_eq_true] at hc
 rename_i cR cC
 obtain ⟨hcR,hcC⟩:=hc
 cases cR <;> simp only [zEO,Bool.false_eq_true,Bool.and_eq_true,beq_iff_eq] at hcR
 rename_i id ops draw
 obtain ⟨⟨rfl,hR⟩,_⟩:=hcR
 refine wp_seq (zFX hm A cA _ _ w M I H _ a hcA hS hF0 h fun e E fr1 H1 a1 w1 M1 I1 hG1 hS1 hF1 hE1 hK1=>?_)
 cases e with
 | exit id=>exact absurd hK1.1 (by simp)
 | ret=>exact absurd hK1.1 (by simp)
 | goto l=>exact absurd hK1.1 (by simp)
 | pan x=>exact absurd hK1.1 (by simp)
 | normal=>
 obtain rfl:=hE1
 refine wp_seq (zFX hm B cB _ _ w1 M1 I1 H1 fr1 a1 hcB hS1 hF1 hK1 fun e E fr2 H2 a2 w2 M2 I2 hG2 hS2 hF2 hE2 hK2=>?_)
 cases e with
 | exit id=>exact absurd hK2.1 (by simp)
 | ret=>exact absurd hK2.1 (by simp)
 | goto l=>exact absurd hK2.1 (by simp)
 | pan x=>exact absurd hK2.1 (by simp)
 | normal=>
 obtain rfl:=hE2
 obtain ⟨_,hC⟩:=hK2
 replace hG2:=hG1.trans hG2
 clear hK1 hG1 hS1 hF1 h
 obtain ⟨os⟩:=ops
 simp only at hR
 match os,hR with
 | [],hR=>simp [zAb] at hR
 | [_],hR=>simp [zAb] at hR
 | _ :: _ :: _ :: _,hR=>simp [zAb] at hR
 | [o0,o1],hR=>
 simp only [zAb,Bool.and_eq_true,and_true] at hR
 obtain ⟨k0,k1⟩:=hR
 have ho1 : (⟨[o0,o1]⟩ : Array Oper)[1]? = some o1:=rfl
 simp only [dfrB,ho1,Bool.and_eq_true] at hd
 obtain ⟨⟨hg1,hd1⟩,hop⟩:=hd
 refine wp_seq (wp_region_list ?_)
 show wpList P _ _ [o0,o1] a2 w2
 generalize hcaps : xs.map (ev GT (restrict fr2 LR)) = caps at *
 have hy : AYields (Good P GT) GT ⟨some s,none,.mkFn g 0,xs⟩ (get (restrict fr2 LR)) H2 (.fn g [] caps) H2:=by
  show zCj (Good P GT) (.mkFn g 0) _ H2 _ H2
  show astep (.mkFn g 0) (xs.map (evg GT (get (restrict fr2 LR)))) H2 = some (.fn g [] caps,H2)
  rw [← zCZ,hcaps]; rfl
 unfold wpList
 refine zFU hS2 (hF2.restrict LR) k0 hy fun a3 w3 M3 I3 hG3 hS3 hF3=>?_
 replace hG3:=hG2.trans hG3
 unfold wpList
 have hw1 : Region.wanted o1 (yielded ⟨[o0,o1]⟩ a3.tmps) = true:=by
  cases hgd : o1.guard with
  | none=>simp [Region.wanted,hgd]
  | some z=>rw [hgd] at hg1; cases hg1
 rw [if_pos hw1]
 refine .inl ?_
 have hfv:=hF3.rel s
 simp only [putg,if_true] at hfv
 generalize hfve : a3.tmps.getD s Go.undef = fv at hfv
 cases hfv with
 | fn _ _ _ vs us hl hl' hv hu=>
 have hvs : vs = []:=List.length_eq_zero_iff.1 hl.symm
 subst hvs
 have hcr : zBj w3 M3 I3 H2.length caps us:=⟨hl',hu⟩
 have hrun1 : (execOp a3.eval o1).run P w3 = .ok (.defer { target:=.fn (.func g) us.toArray,args:=#[] ++ #[] }) w3:=by
  cases hoo : o1.op <;> rw [hoo] at hop <;> first | cases hop | skip
  rename_i cl
  obtain ⟨callee,cargs1,at_⟩:=cl
  cases callee <;> first | cases hop | skip
  rename_i opd
  cases opd <;> first | cases hop | skip
  rename_i t
  simp only [Bool.and_eq_true,beq_iff_eq,Array.isEmpty_iff] at hop
  obtain ⟨rfl,rfl⟩:=hop
  simp [execOp,hoo,resolve,Deferred.ofValue,Act.eval,hfve]
 have hd1' : o1.dst = none:=by
  cases hdd : o1.dst with
  | none=>rfl
  | some z=>rw [hdd] at hd1; cases hd1
 unfold Oper.wp
 rw [hrun1,Oper.upon_defer,hd1']
 unfold wpList
 show Exit.then _ _ .normal _ _
 have hF4 : ActOK [{ target:=.fn (.func g) us.toArray,args:=#[] ++ #[] }] w3 M3 I3 H2.length fn.ntmps (get (put (restrict fr2 LR) (some s) (.fn g [] caps))) { a3 with defers:={ target:=.fn (.func g) us.toArray,args:=#[] ++ #[] } :: a3.defers }:=by
  refine ⟨?_,hF3.size,by rw [hF3.defers]⟩
  rw [zC8]; exact hF3.rel
 have hgk:=hkg
 unfold zAR at hgk
 have hinv : ∀ w',(invoke (.fn (.func g) us.toArray) (#[] ++ #[])).run P w' = .ok (.enter g us.toArray) w':=fun w'=>by
  split at hgk
  ·rename_i gn hgf
   simp only [Bool.and_eq_true,Bool.not_eq_true'] at hgk
   obtain ⟨hgn,hgk⟩:=hgk
   cases hgb : gn.body with
   | none=>rw [hgb] at hgk; cases hgk
   | some gc=>
    have : gn.name ≠ "runtime.NumGoroutine" := by simpa using hgn
    simp [invoke,callFunc,hgf,this,hgb]
  ·cases hgk
 refine aw_pin hm ts C cC _ _ w3 M3 I3 H2 _ _ hfr hcC hS3 hF4 hC fun e E fr5 H5 a5 w5 M5 I5 hG5 hS5 hF5 hE5 hK5 hp=>?_
 have hcr5 : zBj w5 M5 I5 H5.length caps us:=⟨hl',fun i c v hc hv=>hG5.rel hS3 (hcr.2 i c v hc hv)⟩
 have hdn : a5.defers = [{ target:=.fn (.func g) us.toArray,args:=#[] ++ #[] }]:=hF5.defers
 have fin : ∀ (fr6 : Fr) (H6 : Heap) (w6 : World) (M6 : AMap) (I6 : Nat → Prop),Grow w5 M5 I5 H5 w6 M6 I6 H6 → Sim GT w6 M6 I6 H6 → (∀ t,Rel w5 M5 I5 H5.length (get fr6 t) (a5.tmps.getD t Go.undef)) → zEQ F H fr6 H6 v H' →
   ∃ u,(results fn a5.tmps).run P w6 = .ok u w6 ∧ ∃ v',Ending.returned u = .returned v' ∧ ∃ M' I',Grow w M I H w6 M' I' H' ∧ Sim GT w6 M' I' H' ∧ Rel w6 M' I' H'.length v v':=by
  intro fr6 H6 w6 M6 I6 hG6 hS6 hrel hret
  have hF6 : ActOK a5.defers w6 M6 I6 H6.length fn.ntmps (get fr6) a5:=⟨fun t=>hG6.rel hS5 (hrel t),hF5.size,rfl⟩
  obtain ⟨u,h2,I7,h3,h4,h5⟩:=zEh (P:=P) hS ((hG3.trans hG5).trans hG6) hS6 hF6 hres hret
  exact ⟨u,h2,u,rfl,M6,I7,h3,h4,h5⟩
 have norm : zIE P GT g caps .nili H5 H5 ∧ zEQ F H fr5 H5 v H' → Leaves P fn a5.tmps (fun e w''=>∃ v',e = .returned v' ∧ ∃ M' I',Grow w M I H w'' M' I' H' ∧ Sim GT w'' M' I' H' ∧ Rel w'' M' I' H'.length v v') a5.defers .returning w5:=fun ⟨hD,hret⟩=>by
  rw [hdn]
  refine leaves_cons (by simp) (hinv w5) ((hD w5 M5 I5 us .returning .returning hS5 hcr5 .none).mono fun e u' w6 ⟨he,hu',M6,I6,hG6,hS6⟩=>?_)
  obtain ⟨v6,rfl⟩:=he
  subst hu'
  exact fin fr5 H5 w6 M6 I6 hG6 hS6 hF5.rel hret
 cases e with
 | exit id=>exact hK5.elim
 | goto l=>exact hK5.elim
 | normal=>obtain rfl:=hE5; exact norm hK5
 | ret=>obtain rfl:=hE5; exact norm hK5
 | pan x=>
  obtain ⟨xv,rfl,hx⟩:=hE5
  obtain ⟨H6,hD,hret⟩:=hK5
  show Leaves P fn a5.tmps _ a5.defers _ w5
  rw [hdn]
  refine leaves_cons (by simp) (hinv w5) ((hD w5 M5 I5 us _ _ hS5 hcr5 (.some x xv hx)).mono fun e u' w6 ⟨he,hu',M6,I6,hG6,hS6⟩=>?_)
  obtain ⟨v6,rfl⟩:=he
  subst hu'
  refine fin _ H6 w6 M6 I6 hG6 hS6 (fun t=>?_) hret
  by_cases ht : t ∈ ts
  ·rw [hp t ht]
   have h1:=hG5.rel hS3 (hF4.rel t)
   rcases zGV (put (restrict fr2 LR) (some s) (.fn g [] caps)) ts t with h | h
   ·rw [h]; exact h1
   ·rw [h]; exact .undef _
  ·rw [zD7 _ ht]; exact .undef _
theorem good_of_deferE (hm : P.follows .mixedOrders = true) {f g : FuncId} {F G : AF} {A B C : AC} {LR ts : List Nat} {s : Nat} {xs : List Opd} (hk : zAR P f F = true) (hF : F.body = .seq A (.seq B (.seq (.reg LR false [⟨some s,none,.mkFn g 0,xs⟩,⟨none,none,.stuck,[]⟩]) C)))
  (hd : (match P.funcs[f]? with
   | some fn=>(match fn.body with
    | some c=>dfrB s c
    | none=>false)
   | none=>false) = true) (hkg : zAR P g G = true) (hfr : frag ts C = true)
  {args : List AV} (hn : zE9 args = true) {H : Heap} {v : AV} {H' : Heap}
  (h : EW (Good P GT) GT (.seq A (.seq B .skip)) (fun e fr1 H1=>e = .normal ∧ EW (Good P GT) GT C (fun e fr2 H2=>match e with
    | .normal=>zIE P GT g (xs.map (ev GT (restrict fr1 LR))) .nili H2 H2 ∧ zEQ F H fr2 H2 v H'
    | .ret=>zIE P GT g (xs.map (ev GT (restrict fr1 LR))) .nili H2 H2 ∧ zEQ F H fr2 H2 v H'
    | .pan x=>∃ H3,zIE P GT g (xs.map (ev GT (restrict fr1 LR))) x H2 H3 ∧ zEQ F H (restrict (put (restrict fr1 LR) (some s) (.fn g [] (xs.map (ev GT (restrict fr1 LR))))) ts) H3 v H'
    | _=>False) (put (restrict fr1 LR) (some s) (.fn g [] (xs.map (ev GT (restrict fr1 LR))))) H1) (zDJ 0 args) H) : Good P GT f args H v H':=by
 refine good_of_defer hm hk hF hd hkg hfr hn (zCt _ _ _ _ _ H rfl (fun e f1 f1' H1 hf1 hK=>?_) h)
 obtain ⟨he,hK⟩:=hK
 have e1 : restrict f1' LR = restrict f1 LR:=by rw [zAL hf1]
 rw [e1]
 refine ⟨he,zCt _ _ _ _ _ H1 rfl (fun e f2 f2' H2 hf2 hK2=>?_) hK⟩
 have hr : zEQ F H f2 H2 v H' → zEQ F H f2' H2 v H':=fun h=>by
  unfold zEQ at h ⊢
  rw [← zCu hf2]; exact h
 cases e with
 | normal=>exact ⟨hK2.1,hr hK2.2⟩
 | ret=>exact ⟨hK2.1,hr hK2.2⟩
 | pan x=>exact hK2
 | exit id=>exact hK2
 | goto l=>exact hK2
theorem goodD_ofE (hm : P.follows .mixedOrders = true) {g : FuncId} {G : AF} {L0 : List Nat} {r0 r1 : Nat} {Y : AC} (hk : zAR P g G = true) (hG : G.body = .seq (.reg L0 false [⟨some r0,none,.stuck,[]⟩,⟨some r1,none,.mv,[.tmp r0]⟩]) Y) (hGr : G.results = [])
  (hrec : (match P.funcs[g]? with
   | some fn=>(match fn.body with
    | some c=>recB c
    | none=>false)
   | none=>false) = true) {caps : List AV} {x : AV} {H H' : Heap}
  (hY : EW (Good P GT) GT Y (fun e _ H1=>(e = .normal ∨ e = .ret) ∧ H1 = H') (put (put (restrict (zDJ 0 caps) L0) (some r0) x) (some r1) x) H) : zIE P GT g caps x H H':=
 goodD_of hm hk hG hGr hrec (zCt _ _ _ _ _ H rfl (fun e f1 f1' H1 hf1 hK=>hK) hY)
theorem retF3 {F : AF} {a b c s : Nat} {ag : Bool} {H H1 H2 : Heap} {fr : Fr} {va vb vc v : AV} {ca cb cc : List AV} (hF : F.results = [.cell a s ag,.cell b 1 false,.cell c 1 false]) (hk : F.keep = false)
  (pa : zl H1 (get fr a) = some (ca,0)) (qa : part ca 0 s ag = some va) (pb : zl H1 (get fr b) = some (cb,0)) (qb : part cb 0 1 false = some vb) (pc : zl H1 (get fr c) = some (cc,0)) (qc : part cc 0 1 false = some vc)
  (hf : zB0 H.length (.tup [va,vb,vc]) H1 = some (v,H2)) (hb : v.bel H.length = true) (ho : Old H H2) : zEQ F H fr H1 v H:=by
 unfold zEQ
 simp only [hF,zBJ,resOf,pa,qa,pb,qb,pc,qc,tupled,hk,Bool.false_eq_true,if_false,hf]
 exact ⟨hb,ho.ok,trivial,ho.take.symm⟩
theorem Good.wk {f : FuncId} {args : List AV} {H H' : Heap} {v v' : AV} (hn : zE9 args = true) (h : Good P GT f args H v H') (hw : Wk v v') : Good P GT f args H v' H':=by
 refine zEV hn fun w M I cargs hS hA=>?_
 exact (h.n hA w M I cargs hS hA).mono fun v1 w1 ⟨M',I',g1,g2,g3⟩=>⟨M',I',g1,g2,hw _ _ _ _ _ g3⟩
end
end Go.AM
set_option maxRecDepth 20000
namespace Go.AM
theorem tok_fin {s : Bs} {a : Nat} (ha : a ≤ s.length) : tok s a = .fin ↔ skip s a = s.length:=by
 have hq:=zA1 ha
 unfold tok
 generalize skip s a = q at *
 unfold zCp
 cases h : s[q]? with
 | none=>
  have:=List.getElem?_eq_none_iff.1 h
  exact ⟨fun _=>by omega,fun _=>rfl⟩
 | some c=>
  have hlt:=(zg h).1
  refine ⟨fun x=>?_,fun x=>by omega⟩
  exfalso
  simp only at x
  split at x
  ·cases x
  ·split at x
   ·split at x <;> cases x
   ·split at x
    ·split at x <;> cases x
    ·split at x
     ·split at x <;> cases x
     ·cases x
theorem parseP_is {s : Bs} (hl : s.length ≤ 200) (h61 : s.head? = some 61) : zH5 s = (bl s ((P s).loose 1 1 0)).bind fun p=>if skip s p.2 = s.length then some p.1 else none:=by
 have h1 : 1 ≤ s.length:=by cases s with
  | nil=>cases h61
  | cons c r=>simp
 unfold zH5
 rw [if_pos ⟨hl,h61⟩]
 cases h : (P s).loose 1 1 0 with
 | none=>rfl
 | some p=>
  have:=(zCO s).loose 1 1 0 p h1 h
  show (match tok s p.2 with
   | .fin=>some p.1
   | _=>none) = if skip s (skip s p.2) = s.length then some p.1 else none
  rw [zCe]
  have hf:=tok_fin this.2
  by_cases hs : skip s p.2 = s.length
  ·rw [hf.2 hs,if_pos hs]
  ·rw [if_neg hs]
   split
   ·rename_i hk; exact absurd (hf.1 hk) hs
   ·rfl
def badPV : AV:=.tup [ndV zo,.sca,.iface zJ .undef]
def zD3 (s : Bs) : AV:=match zH5 s with
 | some n=>.tup [ndV n,.int .i64 0,.nili]
 | none=>badPV
def fpY : AC:=zCz.rest
def fpC : AC:=zBv.rest.rest.rest
def yFr (x : AV) (n2 n3 n4 : Nat) : Fr:=[(3,x),(6,x),(2,pR n4),(1,pR n3),(0,pR n2)]
def fpH (H : Heap) (n2 n3 n4 : Nat) : Heap:=(((((H ++ [ABlk.box [.int .i64 0,.nili]]).set H.length (.box [.sca,.iface zJ .undef])).set n2 (.box (ndC zo))).set n3 (.box [.sca])).set n4 (.box [.iface zJ .undef]))
section
variable {C : CSpec} {GT : Nat → Option AV}
theorem clos_nil (n2 n3 n4 : Nat) (H : Heap) : EW C GT fpY (fun e _ H1=>(e = .normal ∨ e = .ret) ∧ H1 = H) (yFr .nili n2 n3 n4) H:=by
 refine zT rfl <| zF ?_
 exact ⟨.inl rfl,rfl⟩
theorem clos_flt (n2 n3 n4 : Nat) (H : Heap) (m : Nd) (c3 c4 : AV) (h2 : H[n2]? = some (.box (ndC m))) (h3 : H[n3]? = some (.box [c3])) (h4 : H[n4]? = some (.box [c4])) (d1 : n2 < n3) (d2 : n3 < n4) (hn4 : n4 < H.length) :
  EW C GT fpY (fun e _ H1=>(e = .normal ∨ e = .ret) ∧ H1 = fpH H n2 n3 n4) (yFr zC3 n2 n3 n4) H:=by
 refine zT rfl <| zH <| zFb (by decide) <| zT rfl <| zT rfl <| zG (v:=AV.agg [AV.sca,AV.iface zJ AV.undef]) (AV.cells (AV.agg [AV.sca,AV.iface zJ AV.undef])) zD rfl rfl rfl rfl ?_; refine zF <| zT (v:=[.int .i64 0,.int .i64 0,AV.str [],.int .i64 0,.int .i64 0,AV.bool false,AV.bool false,.int .i64 0,.int .i64 0,AV.bool false,AV.bool false,AV.lst (some true) 0 []]) rfl ?_; refine sAlt ?_ ?_
 ·refine zC (AV.sca) (zE zD) rfl ?_; refine sAlt ?_ ?_
  ·refine zC (AV.iface zJ AV.undef) (zE zD) rfl <| zG (v:=AV.agg [.int .i64 0,.int .i64 0,AV.str [],.int .i64 0,.int .i64 0,AV.bool false,AV.bool false,.int .i64 0,.int .i64 0,AV.bool false,AV.bool false,AV.lst (some true) 0 []]) (AV.cells (AV.agg [.int .i64 0,.int .i64 0,AV.str [],.int .i64 0,.int .i64 0,AV.bool false,AV.bool false,.int .i64 0,.int .i64 0,AV.bool false,AV.bool false,AV.lst (some true) 0 []])) (zB tA (zA h2)) rfl rfl rfl rfl <| zG (v:=AV.sca) [AV.sca] (zB tA (zB tA (zA h3))) rfl rfl rfl rfl <| zG (v:=AV.iface zJ AV.undef) [AV.iface zJ AV.undef] (zB tA (zB tA (zB tA (zA h4)))) rfl rfl rfl rfl ?_
   exact ⟨.inl rfl,rfl⟩
  ·refine zG (v:=AV.agg [.int .i64 0,.int .i64 0,AV.str [],.int .i64 0,.int .i64 0,AV.bool false,AV.bool false,.int .i64 0,.int .i64 0,AV.bool false,AV.bool false,AV.lst (some true) 0 []]) (AV.cells (AV.agg [.int .i64 0,.int .i64 0,AV.str [],.int .i64 0,.int .i64 0,AV.bool false,AV.bool false,.int .i64 0,.int .i64 0,AV.bool false,AV.bool false,AV.lst (some true) 0 []])) (zB tA (zA h2)) rfl rfl rfl rfl ?_
   refine sAlt ?_ ?_
   ·refine zC (AV.iface zJ AV.undef) (zB tA (zE zD)) rfl <| zG (v:=AV.sca) [AV.sca] (zB tA (zB tA (zA h3))) rfl rfl rfl rfl <| zG (v:=AV.iface zJ AV.undef) [AV.iface zJ AV.undef] (zB tA (zB tA (zB tA (zA h4)))) rfl rfl rfl rfl ?_
    exact ⟨.inl rfl,rfl⟩
   ·refine zG (v:=AV.sca) [AV.sca] (zB tA (zB tA (zA h3))) rfl rfl rfl rfl <| zC (AV.iface zJ AV.undef) (zB tA (zB tA (zE zD))) rfl <| zG (v:=AV.iface zJ AV.undef) [AV.iface zJ AV.undef] (zB tA (zB tA (zB tA (zA h4)))) rfl rfl rfl rfl ?_
    exact ⟨.inl rfl,rfl⟩
 ·refine sAlt ?_ ?_
  ·refine zC (AV.iface zJ AV.undef) (zE zD) rfl ?_; refine sAlt ?_ ?_
   ·refine zC (AV.sca) (zE zD) rfl <| zG (v:=AV.agg [.int .i64 0,.int .i64 0,AV.str [],.int .i64 0,.int .i64 0,AV.bool false,AV.bool false,.int .i64 0,.int .i64 0,AV.bool false,AV.bool false,AV.lst (some true) 0 []]) (AV.cells (AV.agg [.int .i64 0,.int .i64 0,AV.str [],.int .i64 0,.int .i64 0,AV.bool false,AV.bool false,.int .i64 0,.int .i64 0,AV.bool false,AV.bool false,AV.lst (some true) 0 []])) (zB tA (zA h2)) rfl rfl rfl rfl <| zG (v:=AV.sca) [AV.sca] (zB tA (zB tA (zA h3))) rfl rfl rfl rfl <| zG (v:=AV.iface zJ AV.undef) [AV.iface zJ AV.undef] (zB tA (zB tA (zB tA (zA h4)))) rfl rfl rfl rfl ?_
    exact ⟨.inl rfl,rfl⟩
   ·refine zG (v:=AV.agg [.int .i64 0,.int .i64 0,AV.str [],.int .i64 0,.int .i64 0,AV.bool false,AV.bool false,.int .i64 0,.int .i64 0,AV.bool false,AV.bool false,AV.lst (some true) 0 []]) (AV.cells (AV.agg [.int .i64 0,.int .i64 0,AV.str [],.int .i64 0,.int .i64 0,AV.bool false,AV.bool false,.int .i64 0,.int .i64 0,AV.bool false,AV.bool false,AV.lst (some true) 0 []])) (zB tA (zA h2)) rfl rfl rfl rfl <| zC (AV.sca) (zB tA (zE zD)) rfl <| zG (v:=AV.sca) [AV.sca] (zB tA (zB tA (zA h3))) rfl rfl rfl rfl <| zG (v:=AV.iface zJ AV.undef) [AV.iface zJ AV.undef] (zB tA (zB tA (zB tA (zA h4)))) rfl rfl rfl rfl ?_
    exact ⟨.inl rfl,rfl⟩
  ·refine zG (v:=AV.agg [.int .i64 0,.int .i64 0,AV.str [],.int .i64 0,.int .i64 0,AV.bool false,AV.bool false,.int .i64 0,.int .i64 0,AV.bool false,AV.bool false,AV.lst (some true) 0 []]) (AV.cells (AV.agg [.int .i64 0,.int .i64 0,AV.str [],.int .i64 0,.int .i64 0,AV.bool false,AV.bool false,.int .i64 0,.int .i64 0,AV.bool false,AV.bool false,AV.lst (some true) 0 []])) (zB tA (zA h2)) rfl rfl rfl rfl <| zC (AV.sca) (zB tA (zE zD)) rfl ?_
   refine sAlt ?_ ?_
   ·refine zC (AV.iface zJ AV.undef) (zB tA (zE zD)) rfl <| zG (v:=AV.sca) [AV.sca] (zB tA (zB tA (zA h3))) rfl rfl rfl rfl <| zG (v:=AV.iface zJ AV.undef) [AV.iface zJ AV.undef] (zB tA (zB tA (zB tA (zA h4)))) rfl rfl rfl rfl ?_
    exact ⟨.inl rfl,rfl⟩
   ·refine zG (v:=AV.sca) [AV.sca] (zB tA (zB tA (zA h3))) rfl rfl rfl rfl <| zC (AV.iface zJ AV.undef) (zB tA (zB tA (zE zD))) rfl <| zG (v:=AV.iface zJ AV.undef) [AV.iface zJ AV.undef] (zB tA (zB tA (zB tA (zA h4)))) rfl rfl rfl rfl ?_
    exact ⟨.inl rfl,rfl⟩
theorem constant_ev (hP : ∀ s p H,C zq [.str s,.str p] H (.bool (p.isPrefixOf s)) H) (s : Bs) (H : Heap) : EFun C GT zBu [.str s] H (.bool (decide (s.head? ≠ some 61))) H:=by
 have hp:=hP s [61] H
 have e : ([61] : Bs).isPrefixOf s = decide (s.head? = some 61):=by
  cases s with
  | nil=>rfl
  | cons c r=>
   by_cases hc : c = 61
   ·subst hc; rfl
   ·have h1 : ¬ (some c = some (61 : UInt8)):=fun e=>hc (Option.some.inj e)
    show ((61 : UInt8) == c && ([] : Bs).isPrefixOf r) = decide (some c = some 61)
    rw [decide_eq_false h1,tN (fun e=>hc e.symm)]; rfl
 rw [e] at hp
 clear hP e
 refine ze ?_
 by_cases h : s.head? = some 61
 ·rw [decide_eq_true h] at hp
  rw [tF (fun x=>x h)]
  refine zI (hp) ?_
  exact sRr
 ·rw [decide_eq_false h] at hp
  rw [decide_eq_true h]
  refine zI (hp) ?_
  exact sRr
theorem fp_get {H : Heap} {n2 n3 n4 : Nat} (d1 : n2 < n3) (d2 : n3 < n4) (hn4 : n4 < H.length) : (fpH H n2 n3 n4)[n2]? = some (.box (ndC zo)) ∧ (fpH H n2 n3 n4)[n3]? = some (.box [.sca]) ∧ (fpH H n2 n3 n4)[n4]? = some (.box [.iface zJ .undef]):=by
 unfold fpH
 exact ⟨hP,hP,hP⟩
theorem fp_old {H0 H : Heap} {n2 n3 n4 : Nat} (h : Old H0 H) (hl : H0.length ≤ n2) (d1 : n2 < n3) (d2 : n3 < n4) (hh : H0.length ≤ H.length) : Old H0 (fpH H n2 n3 n4):=by
 unfold fpH
 exact ((((h.push _).set hh _).set hl _).set tO _).set tO _
def parseFr (s : Bs) (n2 n3 n4 : Nat) : Fr:=[(11,.fn zm [] [pR n2,pR n3,pR n4]),(2,pR n2),(3,pR n3),(4,pR n4),(0,.str s)]
def KC (GD : AV → Heap → Heap → Prop) (s : Bs) (H : Heap) (n2 n3 n4 : Nat) (v : AV) : Post:=fun e fr2 H2=>match e with
 | .normal=>GD .nili H2 H2 ∧ zEQ zAc H fr2 H2 v H
 | .ret=>GD .nili H2 H2 ∧ zEQ zAc H fr2 H2 v H
 | .pan x=>∃ H3,GD x H2 H3 ∧ zEQ zAc H [(2,pR n2),(3,pR n3),(4,pR n4)] H3 v H
 | _=>False
theorem kc_pan {GD : AV → Heap → Heap → Prop} {H H2 : Heap} {n2 n3 n4 : Nat} {m : Nd} {c3 c4 : AV}
  (hD2 : ∀ H2 m c3 c4,H2[n2]? = some (.box (ndC m)) → H2[n3]? = some (.box [c3]) → H2[n4]? = some (.box [c4]) → GD zC3 H2 (fpH H2 n2 n3 n4))
  (h2 : H2[n2]? = some (.box (ndC m))) (h3 : H2[n3]? = some (.box [c3])) (h4 : H2[n4]? = some (.box [c4])) (ho : Old H H2) (hn : H.length ≤ n2) (d1 : n2 < n3) (d2 : n3 < n4) :
  ∃ H3,GD zC3 H2 H3 ∧ zEQ zAc H [(2,pR n2),(3,pR n3),(4,pR n4)] H3 badPV H:=by
 have hn4:=(zg h4).1
 obtain ⟨g2,g3,g4⟩:=fp_get d1 d2 hn4
 exact ⟨_,hD2 H2 m c3 c4 h2 h3 h4,retF3 (a:=2) (b:=3) (c:=4) (s:=12) (ag:=true) rfl rfl (zQ g2) rfl (zQ g3) rfl (zQ g4) rfl rfl rfl (fp_old ho hn d1 d2 ho.1)⟩
theorem parse_c (GD : AV → Heap → Heap → Prop) (s : Bs) (H H1 : Heap) (n2 n3 n4 : Nat) (hl : s.length ≤ 200)
  (hD1 : ∀ H2,GD .nili H2 H2) (hD2 : ∀ H2 m c3 c4,H2[n2]? = some (.box (ndC m)) → H2[n3]? = some (.box [c3]) → H2[n4]? = some (.box [c4]) → GD zC3 H2 (fpH H2 n2 n3 n4))
  (hCo : ∀ s H,C zAB [.str s] H (.bool (decide (s.head? ≠ some 61))) H)
  (hB : ∀ b s p d H,H[b]? = some (rdB s p d) → p ≤ s.length → s.length ≤ 200 → C zL [pR b] H (.tup []) (H.set b (rdB s (skip s p) d)))
  (hF : ∀ b s p d a e H,H[b]? = some (rdB s p d) → C zK (.pan .undef :: [pR b,.int .i64 a,zD6 e]) H zC3 (H.set b (.box (wkC s))))
  (hT : ∀ b H',s.head? = some 61 → H'[b]? = some (rdB s 1 0) → CR C zN [pR b,zf 0] H' b s 0 (bl s ((P s).loose 1 1 0)))
  (hn2 : H.length ≤ n2) (d1 : n2 < n3) (d2 : n3 < n4) (hn4 : n4 < H1.length) (h2 : H1[n2]? = some (.box (ndC zo))) (h3 : H1[n3]? = some (.box [.int .i64 0])) (h4 : H1[n4]? = some (.box [.nili])) (ho : Old H H1) :
  EW C GT fpC (KC GD s H n2 n3 n4 (zD3 s)) (parseFr s n2 n3 n4) H1:=by
 have hc:=fun H=>hCo s H
 have hf:=fun b p d a e H h=>hF b s p d a e H h
 clear hCo hF
 have hb5 : ∀ b,H1[b]? ≠ none → b ≠ H1.length:=fun b h e=>h (by rw [e]; exact List.getElem?_eq_none (Nat.le_refl _))
 have hlo:=ho.1
 by_cases h61 : s.head? = some 61
 ·have hs1 : 1 ≤ s.length:=by cases s with
   | nil=>cases h61
   | cons c r=>simp
  rw [tF (fun x=>x h61)] at hc
  have hT:=fun b H'=>hT b H' h61
  unfold zD3
  rw [parseP_is hl h61]
  cases hr : bl s ((P s).loose 1 1 0) with
  | none=>
   have hx:=fun b H' h=>(hT b H' h).2 hr
   clear hT hB
   refine zT (v:=[AV.str s,.int .i64 0,.int .i64 0]) rfl <| zDm (x:=AV.agg [AV.str s,.int .i64 0,.int .i64 0]) rfl <| zI (hc _) <| zF <| zC (.int .i64 0) zD rfl <| zb (r:=1) rfl tO ?_; refine zG (v:=.int .i64 ↑1) [AV.str s,.int .i64 ↑1,.int .i64 0] zD rfl rfl rfl rfl <| zy (hx _ _ hP) ?_
   exact kc_pan hD2 hP hP hP (by repeat' (first | exact ho | refine Old.set ?_ tC _ | apply Old.push)) hn2 d1 d2
  | some p=>
   obtain ⟨n,e⟩:=p
   have hx:=fun b H' h=>(hT b H' h).1 n e hr
   have he : e ≤ s.length:=by
    unfold bl at hr
    rw [Option.map_eq_some_iff] at hr
    obtain ⟨q,hq,hqe⟩:=hr
    cases hqe
    exact zA1 ((zCO s).loose 1 1 0 q hs1 hq).2
   have hbk:=fun b H' h=>hB b s e 0 H' h he hl
   have hq:=zA1 he
   show EW C GT fpC (KC GD s H n2 n3 n4 (match (if skip s e = s.length then some n else none) with
    | some n=>.tup [ndV n,.int .i64 0,.nili]
    | none=>badPV)) (parseFr s n2 n3 n4) H1
   clear hT hB hr he
   generalize skip s e = q at *
   by_cases hqe : q = s.length
   ·rw [if_pos hqe]
    clear hf
    refine zT (v:=[AV.str s,.int .i64 0,.int .i64 0]) rfl <| zDm (x:=AV.agg [AV.str s,.int .i64 0,.int .i64 0]) rfl <| zI (hc _) <| zF <| zC (.int .i64 0) zD rfl <| zb (r:=1) rfl tO ?_; refine zG (v:=.int .i64 ↑1) [AV.str s,.int .i64 ↑1,.int .i64 0] zD rfl rfl rfl rfl <| zAr (hx _ _ hP) <| zG (v:=ndV n) (AV.cells (ndV n)) (zB tA (zB tA (zA h2))) rfl rfl rfl rfl <| z7 (hbk _ _ hP) (fun h=>by cases h) <| zC (zP q) (zE (zB tA (zE (zE zD)))) rfl <| zV tF ?_
    refine zC (ndV n) (zB tA (zE (zB tA (zB tA (zA h2))))) rfl <| zG (v:=ndV n) (AV.cells (ndV n)) (zB tA (zE (zB tA (zB tA (zA h2))))) rfl rfl rfl rfl <| zG (v:=.int .i64 0) [.int .i64 0] (zB tA (zB tA (zB tA (zB tA (zB tA (zA h3)))))) rfl rfl rfl rfl <| zG (v:=AV.nili) [AV.nili] (zB tA (zB tA (zB tA (zB tA (zB tA (zB tA (zA h4))))))) rfl rfl rfl rfl ?_
    exact ⟨hD1 _,retF3 (a:=2) (b:=3) (c:=4) (s:=12) (ag:=true) rfl rfl (zQ hP) rfl (zQ hP) rfl (zQ hP) rfl rfl rfl (by repeat' (first | exact ho | refine Old.set ?_ tC _ | apply Old.push))⟩
   ·rw [if_neg hqe]
    refine zT (v:=[AV.str s,.int .i64 0,.int .i64 0]) rfl <| zDm (x:=AV.agg [AV.str s,.int .i64 0,.int .i64 0]) rfl <| zI (hc _) <| zF <| zC (.int .i64 0) zD rfl <| zb (r:=1) rfl tO ?_; refine zG (v:=.int .i64 ↑1) [AV.str s,.int .i64 ↑1,.int .i64 0] zD rfl rfl rfl rfl <| zAr (hx _ _ hP) <| zG (v:=ndV n) (AV.cells (ndV n)) (zB tA (zB tA (zA h2))) rfl rfl rfl rfl <| z7 (hbk _ _ hP) (fun h=>by cases h) <| zC (zP q) (zE (zB tA (zE (zE zD)))) rfl <| za tT ?_
    refine zC (zP q) (zE (zB tA (zE (zE zD)))) rfl <| zy (hf _ _ _ _ _ _ hP) ?_
    exact kc_pan hD2 hP hP hP (by repeat' (first | exact ho | refine Old.set ?_ tC _ | apply Old.push)) hn2 d1 d2
 ·rw [decide_eq_true h61] at hc
  have hpv : zD3 s = badPV:=by
   unfold zD3 zH5
   rw [if_neg (fun x=>h61 x.2)]
  rw [hpv]
  clear hT hB
  refine zT (v:=[AV.str s,.int .i64 0,.int .i64 0]) rfl <| zDm (x:=AV.agg [AV.str s,.int .i64 0,.int .i64 0]) rfl <| zI (hc _) <| zH <| zy (hf _ _ _ _ _ _ hP) ?_
  exact kc_pan hD2 hP hP hP (by repeat' (first | exact ho | refine Old.set ?_ tC _ | apply Old.push)) hn2 d1 d2
end
end Go.AM
set_option maxRecDepth 20000
namespace Go.AM
structure ParK2 (PR : Program) : Prop extends ParK PR where
 const : zAR PR zAB zBu = true
 parse : zAR PR zAP zAc = true
 clos : zAR PR zm zBw = true
 dfr : (match PR.funcs[zAP]? with
   | some fn=>(match fn.body with
    | some c=>dfrB 11 c
    | none=>false)
   | none=>false) = true
 rcv : (match PR.funcs[zm]? with
   | some fn=>(match fn.body with
    | some c=>recB c
    | none=>false)
   | none=>false) = true
theorem wk_tup {cs cs' : List AV} (h : WkL cs cs') : Wk (.tup cs) (.tup cs'):=fun w M I n v hr=>by
 cases hr with
 | tup _ vs hl hh=>
  refine .tup cs' vs (by rw [h.1]; exact hl) fun i c' u hc hu=>?_
  have hi : i < cs.length:=by have:=(zg hc).1; rw [h.1] at this; exact this
  exact h.2 i _ _ (List.getElem?_eq_getElem hi) hc w M I n u (hh i _ u (List.getElem?_eq_getElem hi) hu)
section
variable {PR : Program} {GT : Nat → Option AV}
theorem p_const (k : ParK2 PR) (s : Bs) (H : Heap) : Good PR GT zAB [.str s] H (.bool (decide (s.head? ≠ some 61))) H:=zO k.hm k.const (constant_ev (p_pre k.toParK) s H)
theorem clos_good (k : ParK2 PR) (x : AV) (n2 n3 n4 : Nat) (H H' : Heap) (h : EW (Good PR GT) GT fpY (fun e _ H1=>(e = .normal ∨ e = .ret) ∧ H1 = H') (yFr x n2 n3 n4) H) : zIE PR GT zm [pR n2,pR n3,pR n4] x H H':=
 goodD_ofE (L0:=[2,1,0]) (r0:=6) (r1:=3) (Y:=fpY) k.hm k.clos rfl rfl k.rcv h
def fpA : AC:=zBv.first
def fpB : AC:=zBv.rest.first
theorem fp_body : zAc.body = .seq fpA (.seq fpB (.seq (.reg [2,3,4,0] false [⟨some 11,none,.mkFn zm 0,[.tmp 2,.tmp 3,.tmp 4]⟩,⟨none,none,.stuck,[]⟩]) fpC)):=rfl
theorem p_parse (k : ParK2 PR) (g : ParG PR GT) (s : Bs) (H : Heap) : Good PR GT zAP [.str s] H (zD3 s) H:=by
 by_cases hl : s.length ≤ 200
 ·refine good_of_deferE (g:=zm) (G:=zBw) (A:=fpA) (B:=fpB) (C:=fpC) (LR:=[2,3,4,0]) (ts:=[2,3,4]) (s:=11) (xs:=[.tmp 2,.tmp 3,.tmp 4]) k.hm k.parse fp_body k.dfr k.clos (by decide) rfl ?_; refine zV tF ?_; refine ⟨rfl, ?_⟩
  have h:=parse_c (C:=Good PR GT) (GT:=GT) (fun x H2 H3=>zIE PR GT zm [pR H.length,pR (H ++ [ABlk.box (ndC zo)]).length,pR ((H ++ [ABlk.box (ndC zo)]) ++ [ABlk.box [.int .i64 0]]).length] x H2 H3) s H (((H ++ [ABlk.box (ndC zo)]) ++ [ABlk.box [.int .i64 0]]) ++ [ABlk.box [.nili]])
   H.length (H ++ [ABlk.box (ndC zo)]).length ((H ++ [ABlk.box (ndC zo)]) ++ [ABlk.box [.int .i64 0]]).length hl
   (fun H2=>clos_good k _ _ _ _ _ _ (clos_nil _ _ _ _))
   (fun H2 m c3 c4 h2 h3 h4=>clos_good k _ _ _ _ _ _ (clos_flt _ _ _ _ m c3 c4 h2 h3 h4 (by simp) (by simp) (zg h4).1))
   (p_const k) (zD1 k.toParK) (zE0 k.toParK)
   (fun b H' h61 hb=>by
    have h1 : 1 ≤ s.length:=by cases s with
     | nil=>cases h61
     | cons c r=>simp
    have:=(p_two (GT:=GT) k.toParK g b s hl _ 1 h1 rfl 0 H' tO hb).2 0 tO
    rw [tw_zero] at this
    exact this)
   (Nat.le_refl _) (by simp) (by simp) (by simp) (zA (zA zD)) (zA zD) zD (((Old.refl H).push _).push _ |>.push _)
  exact h
 ·have hp : zD3 s = badPV:=by
   unfold zD3 zH5
   rw [if_neg (fun x=>hl x.1)]
  rw [hp]
  refine Good.wk (v:=.tup [ndV zo,.int .i64 0,.iface zJ (.int .i64 4)]) rfl (zO k.hm k.parse (ze ?_)) ?_
  ·refine za tT <| zT (v:=[.int .i64 0,.int .i64 0,AV.str [],.int .i64 0,.int .i64 0,AV.bool false,AV.bool false,.int .i64 0,.int .i64 0,AV.bool false,AV.bool false,AV.lst (some true) 0 []]) rfl <| zG (v:=AV.agg [.int .i64 0,.int .i64 0,AV.str [],.int .i64 0,.int .i64 0,AV.bool false,AV.bool false,.int .i64 0,.int .i64 0,AV.bool false,AV.bool false,AV.lst (some true) 0 []]) (AV.cells (AV.agg [.int .i64 0,.int .i64 0,AV.str [],.int .i64 0,.int .i64 0,AV.bool false,AV.bool false,.int .i64 0,.int .i64 0,AV.bool false,AV.bool false,AV.lst (some true) 0 []])) (zA (zA zD)) rfl rfl rfl rfl <| zG (v:=.int .i64 0) [.int .i64 0] (zB tA (zA zD)) rfl rfl rfl rfl <| zG (v:=AV.iface zJ (.int .i64 4)) [AV.iface zJ (.int .i64 4)] (zB tA (zB tA zD)) rfl rfl rfl rfl ?_
   exact sRet (retF3 (a:=2) (b:=3) (c:=4) (s:=12) (ag:=true) rfl rfl (zQ hP) rfl (zQ hP) rfl (zQ hP) rfl rfl rfl (by repeat' (first | exact Old.refl _ | refine Old.set ?_ tC _ | apply Old.push)))
  ·exact wk_tup (.cons (.refl _) (.cons (wkSca _ _) (.cons (.iface (.undef _)) .nil)))
end
end Go.AM
set_option maxRecDepth 20000
namespace Go.AM
structure Fil where
 col : Int
 row : Int
 text : Bs
 deriving DecidableEq
def zB7 (c r : Int) : AV:=.agg [zf c,zf r]
def zZ (f : Fil) : AV:=.agg [zf f.col,zf f.row,.str f.text]
def okC (c r : Int) : Bool:=decide (1 ≤ c) && decide (c ≤ 26) && decide (1 ≤ r) && decide (r ≤ 99)
def cmp3 (a b : Int) : Int:=if a < b then -1 else if b < a then 1 else 0
def cmpC (c1 r1 c2 r2 : Int) : Int:=if cmp3 r1 r2 ≠ 0 then cmp3 r1 r2 else cmp3 c1 c2
def zEs (a b : Fil) : Bool:=decide (cmpC a.col a.row b.col b.row < 0)
def zBh (s : Bs) : Nat:=if 200 < s.length then 4 else if s.head? = some 61 then (match zH5 s with
 | some _=>0
 | none=>2) else 0
def eV (n : Nat) : AV:=if n = 0 then .nili else zD6 n
def filN (prev : Option Fil) (f : Fil) : Nat:=if okC f.col f.row = false then 1 else if (match prev with
 | some p=>zEs p f
 | none=>true) = false then 5 else if f.text = [] then 3 else zBh f.text
def zEt (prev : Option Fil) : List Fil → Nat
 | []=>0
 | f :: r=>if filN prev f = 0 then zEt (some f) r else filN prev f
def zAV (l : List Fil) : Nat:=if 200 < l.length then 4 else zEt none l
theorem filsN_drop (l : List Fil) (i : Nat) (f : Fil) (h : l[i]? = some f) (prev : Option Fil) : zEt prev (l.drop i) = if filN prev f = 0 then zEt (some f) (l.drop (i + 1)) else filN prev f:=by
 have hi:=(zg h).1
 have e : l.drop i = f :: l.drop (i + 1):=by
  rw [List.drop_eq_getElem_cons hi]
  rw [(zg h).2]
 rw [e]; rfl
theorem sIdxW {v : AV} {H : Heap} {k : Nat} {xs : List AV} {n : Int} {K : AV → Prop} (i : Nat) (x : AV) (hv : view H k v = some xs) (hn : n = (i : Int)) (hx : xs[i]? = some x) (q1 : K (.lref x 0)) (q2 : ∀ b j,zl H (.ref b k j 0) = some (x.cells,0) → K (.ref b k j 0)) : idxN k v n K:=by
 have hlt:=(zg hx).1
 unfold view at hv
 split at hv
 ·split at hv
  ·rename_i hk
   cases hv; subst hk
   exact sIdx hn hx q1
  ·split at hv
   ·cases hv; simp at hlt
   ·cases hv
 ·rw [zFd]; unfold idxNW
  simp only
  split at hv
  ·rename_i hk
   subst hk
   split at hv
   ·rename_i hb
    split at hv
    ·rename_i hc
     cases hv
     rw [List.length_take,List.length_drop] at hlt
     rw [List.getElem?_take,if_pos tO,List.getElem?_drop] at hx
     subst hn
     rw [hc.1] at hb
     refine zFb ⟨rfl,by omega,by omega⟩ (q2 _ _ (ptr_row hb hx))
    ·cases hv
   ·rename_i hb
    split at hv
    ·rename_i hc
     cases hv
     rw [List.length_take,List.length_drop] at hlt
     rw [List.getElem?_take,if_pos tO,List.getElem?_drop] at hx
     subst hn
     rw [hc.1] at hb
     refine zFb ⟨rfl,by omega,by omega⟩ (q2 _ _ ?_)
     show zl H (.ref _ _ _ _) = _
     simp only [zl,hb,if_true,Int.toNat_natCast,hx,Option.map_some]
    ·cases hv
   ·cases hv
  ·cases hv
 ·cases hv
section
variable {C : CSpec} {GT : Nat → Option AV}
theorem aok_ev (c r : Int) (H : Heap) : EFun C GT a_addr_ok [zB7 c r] H (.bool (okC c r)) H:=by
 refine ze ?_
 unfold okC
 by_cases h1 : 1 ≤ c
 ·rw [decide_eq_true h1]
  by_cases h2 : c ≤ 26
  ·rw [decide_eq_true h2]
   by_cases h3 : 1 ≤ r
   ·rw [decide_eq_true h3]
    refine zDm (x:=zB7 c r) rfl <| zC (zf c) zD rfl <| za tT <| zC (zf c) zD rfl <| zH <| za tT ?_; refine zC (zf r) zD rfl <| zH <| za tT <| zC (zf r) zD rfl <| zH ?_
    exact zBX rfl rfl rfl rfl ((Old.refl _).push _)
   ·rw [decide_eq_false h3]
    refine zDm (x:=zB7 c r) rfl <| zC (zf c) zD rfl <| za tT <| zC (zf c) zD rfl <| zH <| za tT ?_; refine zC (zf r) zD rfl <| zH <| zV tF <| zF ?_
    exact zBX rfl rfl rfl rfl ((Old.refl _).push _)
  ·rw [decide_eq_false h2]
   refine zDm (x:=zB7 c r) rfl <| zC (zf c) zD rfl <| za tT <| zC (zf c) zD rfl ?_; refine zH <| zV tF <| zF <| zF <| zF ?_
   exact zBX rfl rfl rfl rfl ((Old.refl _).push _)
 ·rw [decide_eq_false h1]
  refine zDm (x:=zB7 c r) rfl <| zC (zf c) zD rfl ?_; refine zV tF <| zF <| zF <| zF <| zF <| zF ?_
  exact zBX rfl rfl rfl rfl ((Old.refl _).push _)
theorem acheck_ev (hO : ∀ c r H,C zFi [zB7 c r] H (.bool (okC c r)) H) (c r : Int) (H : Heap) : EFun C GT zGc [zB7 c r] H (if okC c r = true then .nili else zD6 1) H:=by
 have ho:=hO c r
 clear hO
 refine ze ?_
 cases hk : okC c r with
 | true=>
  rw [hk] at ho
  refine zDm (x:=zB7 c r) rfl <| zC (zB7 c r) zD rfl <| zI (ho _) <| zF ?_
  exact zBX rfl rfl rfl rfl ((Old.refl _).push _)
 | false=>
  rw [hk] at ho
  refine zDm (x:=zB7 c r) rfl <| zC (zB7 c r) zD rfl <| zI (ho _) <| zH ?_
  exact zBX rfl rfl rfl rfl ((Old.refl _).push _)
theorem nan_ev (a : Int) (H : Heap) : EFun C GT zD5 [zf a] H (.bool false) H:=by
 refine ze ?_; refine sRetE ?_ rfl rfl rfl rfl (Old.refl _)
 show AV.bool false = AV.bool (a != a)
 simp
theorem ccmp_ev (hN : ∀ a H,C zBA [zf a] H (.bool false) H) (a b : Int) (H : Heap) : EFun C GT zCy [zf a,zf b] H (zf (cmp3 a b)) H:=by
 have hn:=hN
 clear hN
 refine ze ?_
 unfold cmp3
 by_cases h1 : a < b
 ·rw [if_pos h1]
  refine zI (hn _ _) <| zI (hn _ _) <| zF <| zF <| za tT ?_
  exact sRr
 ·rw [if_neg h1]
  by_cases h2 : b < a
  ·rw [if_pos h2]
   refine zI (hn _ _) <| zI (hn _ _) <| zF <| zF <| zV tF <| za tT ?_
   exact sRr
  ·rw [if_neg h2]
   refine zI (hn _ _) <| zI (hn _ _) <| zF <| zF <| zV tF <| zV tF ?_
   exact sRr
theorem cor_ev (b : Nat) (x y : Int) (H : Heap) (hb : H[b]? = some (.row 1 [zf x,zf y])) : EFun C GT zFp [.sl (some false) b 1 0 2] H (zf (if x ≠ 0 then x else y)) H:=by
 refine ze ?_
 obtain ⟨r,hr⟩ : ∃ r,(if x ≠ 0 then x else y) = r:=⟨_,rfl⟩
 rw [hr]
 refine zEY ?_; refine zCI (fun i : Nat=>[(8,zP i),(3,zf 0),(6,.sl (some false) b 1 0 2),(7,zP 2)]) (fun i H'=>H' = H ∧ i ≤ 2 ∧ (1 ≤ i → x = 0) ∧ (2 ≤ i → y = 0)) (fun i=>2 - i) 0 rfl ⟨rfl,by omega,fun h=>by omega,fun h=>by omega⟩ (fun i H1 ⟨hH,hi,hx,hy⟩=>?_)
 subst hH
 dsimp only
 rcases (show i = 0 ∨ i = 1 ∨ i = 2 by omega) with rfl | rfl | rfl
 ·by_cases h0 : x = 0
  ·refine za tT <| sAt ⟨by omega,by omega⟩ <| zAs 0 (zf x) (zf x) rfl hb rfl rfl <| zV (bne_eq_false_iff_eq.2 tO) <| zb (r:=1) rfl tO ?_; refine zAf 1 rfl ⟨rfl,by omega,fun _=>h0,fun h=>by omega⟩ tO
  ·rw [if_pos h0] at hr
   subst hr
   refine za tT <| sAt ⟨by omega,by omega⟩ <| zAs 0 (zf x) (zf x) rfl hb rfl rfl <| za (bne_iff_ne.2 tO) ?_
   exact sRr
 ·have h0:=hx tO
  rw [if_neg (fun h=>h h0)] at hr
  subst hr
  by_cases h1 : y = 0
  ·refine za tT <| sAt ⟨by omega,by omega⟩ <| zAs 1 (zf y) (zf y) rfl hb rfl rfl <| zV (bne_eq_false_iff_eq.2 tO) <| zb (r:=2) rfl tO ?_; refine zAf 2 rfl ⟨rfl,by omega,fun _=>h0,fun _=>h1⟩ tO
  ·refine za tT <| sAt ⟨by omega,by omega⟩ <| zAs 1 (zf y) (zf y) rfl hb rfl rfl <| za (bne_iff_ne.2 tO) ?_
   exact sRr
 ·have h0:=hx tO
  have h1:=hy tO
  rw [if_neg (fun h=>h h0),h1] at hr
  subst hr
  refine zV tF ?_
  exact sRr
theorem acomp_ev (hC : ∀ a b H,C zAj [zf a,zf b] H (zf (cmp3 a b)) H) (hO : ∀ b x y H,H[b]? = some (.row 1 [zf x,zf y]) → C zCU [.sl (some false) b 1 0 2] H (zf (if x ≠ 0 then x else y)) H) (c1 r1 c2 r2 : Int) (H : Heap) :
  EFun C GT zEz [zB7 c1 r1,zB7 c2 r2] H (zf (cmpC c1 r1 c2 r2)) H:=by
 have hc:=hC
 have ho:=fun b H h=>hO b (cmp3 r1 r2) (cmp3 c1 c2) H h
 clear hO hC
 refine ze ?_
 unfold cmpC
 refine zDm (x:=zB7 c1 r1) rfl <| zDm (x:=zB7 c2 r2) rfl <| zC (zf r1) (zA zD) rfl <| zC (zf r2) zD rfl <| zI (hc _ _ _) <| zC (zf c1) (zA zD) rfl ?_; refine zC (zf c2) zD rfl <| zI (hc _ _ _) <| zAv (vs':=[zf (cmp3 r1 r2),zf (cmp3 c1 c2)]) rfl rfl <| zI (ho _ _ hP) ?_
 exact zBX rfl rfl rfl rfl ((((Old.refl _).push _).push _).push _)
theorem aless_ev (hC : ∀ c1 r1 c2 r2 H,C zAm [zB7 c1 r1,zB7 c2 r2] H (zf (cmpC c1 r1 c2 r2)) H) (a b : Fil) (H : Heap) : EFun C GT zHq [zB7 a.col a.row,zB7 b.col b.row] H (.bool (zEs a b)) H:=by
 have hc:=hC a.col a.row b.col b.row
 clear hC
 refine ze ?_
 unfold zEs
 refine zDm (x:=zB7 a.col a.row) rfl <| zDm (x:=zB7 b.col b.row) rfl <| zC (zB7 a.col a.row) (zA zD) rfl <| zC (zB7 b.col b.row) zD rfl <| zI (hc _) ?_
 exact zBX rfl rfl rfl rfl (((Old.refl _).push _).push _)
theorem gtext_ev (hCo : ∀ s H,C zAB [.str s] H (.bool (decide (s.head? ≠ some 61))) H) (hP : ∀ s H,C zAP [.str s] H (zD3 s) H) (s : Bs) (H : Heap) : EFun C GT zGd [.str s] H (eV (zBh s)) H:=by
 have hc:=hCo s
 have hp:=hP s
 clear hCo hP
 refine ze ?_
 unfold zBh
 by_cases hl : 200 < s.length
 ·rw [if_pos hl]
  refine za tT ?_
  exact sRr
 ·rw [if_neg hl]
  by_cases h : s.head? = some 61
  ·rw [if_pos h]
   rw [tF (fun x=>x h)] at hc
   unfold zD3 at hp
   cases hq : zH5 s with
   | some n=>
    rw [hq] at hp
    have hp : ∀ H,C zAP [.str s] H (.tup [ndV n,.int .i64 0,.nili]) H:=hp
    refine zV tF <| zI (hc _) <| zH <| zI (hp _) <| zT rfl <| zT rfl ?_; refine zT rfl <| zG (v:=ndV n) (AV.cells (ndV n)) zD rfl rfl rfl rfl <| zT rfl <| zF ?_
    exact zBX rfl rfl rfl rfl (((Old.refl _).push _).set tA _)
   | none=>
    rw [hq] at hp
    have hp : ∀ H,C zAP [.str s] H (.tup [ndV zo,.sca,.iface zJ .undef]) H:=hp
    refine zV tF <| zI (hc _) <| zH <| zI (hp _) <| zT rfl <| zT rfl ?_; refine zT rfl <| zG (v:=ndV zo) (AV.cells (ndV zo)) zD rfl rfl rfl rfl <| zT rfl <| zH ?_
    exact zBX rfl rfl rfl rfl (((Old.refl _).push _).set tA _)
  ·rw [if_neg h]
   rw [decide_eq_true h] at hc
   refine zV tF <| zI (hc _) <| zF ?_
   exact sRr
theorem gcheck_ev (hA : ∀ c r H,C zCD [zB7 c r] H (if okC c r = true then .nili else zD6 1) H) (hL : ∀ a b H,C zDo [zB7 a.col a.row,zB7 b.col b.row] H (.bool (zEs a b)) H) (hT : ∀ s H,C zAO [.str s] H (eV (zBh s)) H)
  (lv : AV) (l : List Fil) (H : Heap) (hv : view H 3 lv = some (l.map zZ)) : EFun C GT zFn [lv] H (eV (zAV l)) H:=by
 have hlm : (l.map zZ).length = l.length:=List.length_map _
 refine ze ?_
 unfold zAV
 by_cases hl : 200 < l.length
 ·rw [if_pos hl]
  clear hA hL hT
  refine sLenV hv <| za tT ?_
  exact sRr
 rw [if_neg hl]
 obtain ⟨r,hr⟩ : ∃ r,zEt none l = r:=⟨_,rfl⟩
 rw [hr]
 refine sLenV hv <| zV tF <| sLenV hv ?_; refine zCI (fun i : Nat=>[(12,zP i),(0,lv),(10,lv),(11,.int .i64 ((l.map zZ).length : Nat))]) (fun i H'=>Old H H' ∧ view H' 3 lv = some (l.map zZ) ∧ i ≤ l.length ∧ zEt (if i = 0 then none else l[i - 1]?) (l.drop i) = r) (fun i=>l.length - i) 0 rfl ⟨Old.refl _,hv,by omega,hr⟩ (fun i H1 ⟨hH,hv1,hi,hq⟩=>?_)
 dsimp only
 by_cases hlt : i < l.length
 ·obtain ⟨f,hf⟩ : ∃ f,l[i]? = some f:=⟨_,List.getElem?_eq_getElem hlt⟩
  have hfm : (l.map zZ)[i]? = some (zZ f):=by rw [List.getElem?_map,hf]; rfl
  rw [filsN_drop l i f hf] at hq
  have hvo : view ((H1 ++ [ABlk.box [.int .i64 0,.int .i64 0,AV.str []]]).set (List.length H1) (ABlk.box (zZ f).cells)) 3 lv = some (l.map zZ):=zCv (((Old.refl H1).push _).set (Nat.le_refl _) _) hv1
  have ha:=hA f.col f.row
  have ht:=hT f.text
  have hH2 : ∀ X Y,Old H ((H1 ++ [X]).set H1.length Y):=fun X Y=>(hH.push _).set hH.1 _
  clear hA hT
  unfold filN at hq
  cases hok : okC f.col f.row with
  | false=>
   rw [hok] at ha hq
   have hq : 1 = r:=hq
   subst hq
   clear hL ht
   refine za tT ?_; refine zB4 i (zZ f) hv1 rfl hfm (fun p hp=>?_)
   refine zAT (zZ f) hp rfl <| zG (v:=zZ f) (AV.cells (zZ f)) zD rfl rfl rfl rfl <| zC (AV.agg [zf f.col,zf f.row]) (zE zD) rfl <| zI (ha _) <| zT rfl <| zH ?_
   exact zBX rfl rfl rfl rfl (hH2 _ _)
  | true=>
   rw [hok] at ha hq
   rw [if_neg (by simp : ¬ (true = false))] at hq
   have ha : ∀ H,C zCD [zB7 f.col f.row] H .nili H:=ha
   by_cases hi0 : i = 0
   ·rw [if_pos hi0] at hq
    have hq : (if (if f.text = [] then 3 else zBh f.text) = 0 then zEt (some f) (l.drop (i + 1)) else if f.text = [] then 3 else zBh f.text) = r:=hq
    clear hL
    by_cases h0 : f.text = []
    ·rw [if_pos h0] at hq
     have hq : 3 = r:=hq
     subst hq
     clear ht
     refine za tT ?_; refine zB4 i (zZ f) hv1 rfl hfm (fun p hp=>?_)
     refine zAT (zZ f) hp rfl <| zG (v:=zZ f) (AV.cells (zZ f)) zD rfl rfl rfl rfl <| zC (AV.agg [zf f.col,zf f.row]) (zE zD) rfl <| zI (ha _) <| zT rfl ?_; refine zF <| zV tF <| zF <| zF <| zC (AV.str f.text) (zE zD) rfl <| za (tE h0) ?_
     exact zBX rfl rfl rfl rfl (hH2 _ _)
    ·rw [if_neg h0] at hq
     by_cases hz : zBh f.text = 0
     ·rw [if_pos hz] at hq
      rw [hz] at ht
      have ht : ∀ H,C zAO [.str f.text] H .nili H:=ht
      refine za tT ?_; refine zB4 i (zZ f) hv1 rfl hfm (fun p hp=>?_)
      refine zAT (zZ f) hp rfl <| zG (v:=zZ f) (AV.cells (zZ f)) zD rfl rfl rfl rfl <| zC (AV.agg [zf f.col,zf f.row]) (zE zD) rfl <| zI (ha _) <| zT rfl ?_; refine zF <| zV tF <| zF <| zF <| zC (AV.str f.text) (zE zD) rfl <| zV (tN h0) ?_; refine zC (AV.str f.text) (zE zD) rfl <| zI (ht _) <| zT rfl <| zF <| zb (r:=i + 1) rfl tO ?_; refine zAf (i + 1) rfl ⟨hH2 _ _,hvo,by omega, ?_⟩ tO
      rw [if_neg tO,Nat.add_sub_cancel,hf]
      exact hq
     ·rw [if_neg hz] at hq
      subst hq
      have ht : ∀ H,C zAO [.str f.text] H (zD6 (zBh f.text)) H:=fun H=>by have:=ht H; rwa [eV,if_neg hz] at this
      rw [eV,if_neg hz]
      refine za tT ?_; refine zB4 i (zZ f) hv1 rfl hfm (fun p hp=>?_)
      refine zAT (zZ f) hp rfl <| zG (v:=zZ f) (AV.cells (zZ f)) zD rfl rfl rfl rfl <| zC (AV.agg [zf f.col,zf f.row]) (zE zD) rfl <| zI (ha _) <| zT rfl ?_; refine zF <| zV tF <| zF <| zF <| zC (AV.str f.text) (zE zD) rfl <| zV (tN h0) ?_; refine zC (AV.str f.text) (zE zD) rfl <| zI (ht _) <| zT rfl <| zH ?_
      exact zBX rfl rfl rfl rfl (hH2 _ _)
   ·obtain ⟨g,hg⟩ : ∃ g,l[i - 1]? = some g:=⟨_,List.getElem?_eq_getElem tO⟩
    have hgm : (l.map zZ)[i - 1]? = some (zZ g):=by rw [List.getElem?_map,hg]; rfl
    rw [if_neg hi0,hg] at hq
    have hq : (if (if zEs g f = false then 5 else if f.text = [] then 3 else zBh f.text) = 0 then zEt (some f) (l.drop (i + 1)) else if zEs g f = false then 5 else if f.text = [] then 3 else zBh f.text) = r:=hq
    have hls:=hL g f
    clear hL
    cases hlp : zEs g f with
    | false=>
     rw [hlp] at hls hq
     have hq : 5 = r:=hq
     subst hq
     clear ht
     refine za tT ?_; refine zB4 i (zZ f) hv1 rfl hfm (fun p hp=>?_)
     refine zAT (zZ f) hp rfl <| zG (v:=zZ f) (AV.cells (zZ f)) zD rfl rfl rfl rfl <| zC (AV.agg [zf f.col,zf f.row]) (zE zD) rfl <| zI (ha _) <| zT rfl ?_; refine zF <| za tT <| zb (r:=i - 1) tO tO ?_; refine sIdxW (i - 1) (zZ g) hvo rfl hgm ?_ (fun b2 j2 hp2=>?_)
     ·refine zCN (zB7 g.col g.row) rfl <| zC (AV.agg [zf f.col,zf f.row]) (zE zD) rfl <| zI (hls _) <| zH <| zH ?_
      exact zBX rfl rfl rfl rfl (hH2 _ _)
     ·refine zAT (zB7 g.col g.row) hp2 rfl <| zC (AV.agg [zf f.col,zf f.row]) (zE zD) rfl <| zI (hls _) <| zH <| zH ?_
      exact zBX rfl rfl rfl rfl (hH2 _ _)
    | true=>
     rw [hlp] at hls hq
     rw [if_neg (by simp : ¬ (true = false))] at hq
     by_cases h0 : f.text = []
     ·rw [if_pos h0] at hq
      have hq : 3 = r:=hq
      subst hq
      clear ht
      refine za tT ?_; refine zB4 i (zZ f) hv1 rfl hfm (fun p hp=>?_)
      refine zAT (zZ f) hp rfl <| zG (v:=zZ f) (AV.cells (zZ f)) zD rfl rfl rfl rfl <| zC (AV.agg [zf f.col,zf f.row]) (zE zD) rfl <| zI (ha _) <| zT rfl ?_; refine zF <| za tT <| zb (r:=i - 1) tO tO ?_; refine sIdxW (i - 1) (zZ g) hvo rfl hgm ?_ (fun b2 j2 hp2=>?_)
      ·refine zCN (zB7 g.col g.row) rfl <| zC (AV.agg [zf f.col,zf f.row]) (zE zD) rfl <| zI (hls _) <| zH <| zF <| zC (AV.str f.text) (zE zD) rfl ?_; refine za (tE h0) ?_
       exact zBX rfl rfl rfl rfl (hH2 _ _)
      ·refine zAT (zB7 g.col g.row) hp2 rfl <| zC (AV.agg [zf f.col,zf f.row]) (zE zD) rfl <| zI (hls _) <| zH <| zF <| zC (AV.str f.text) (zE zD) rfl ?_; refine za (tE h0) ?_
       exact zBX rfl rfl rfl rfl (hH2 _ _)
     ·rw [if_neg h0] at hq
      by_cases hz : zBh f.text = 0
      ·rw [if_pos hz] at hq
       rw [hz] at ht
       have ht : ∀ H,C zAO [.str f.text] H .nili H:=ht
       refine za tT ?_; refine zB4 i (zZ f) hv1 rfl hfm (fun p hp=>?_)
       refine zAT (zZ f) hp rfl <| zG (v:=zZ f) (AV.cells (zZ f)) zD rfl rfl rfl rfl <| zC (AV.agg [zf f.col,zf f.row]) (zE zD) rfl <| zI (ha _) <| zT rfl ?_; refine zF <| za tT <| zb (r:=i - 1) tO tO ?_; refine sIdxW (i - 1) (zZ g) hvo rfl hgm ?_ (fun b2 j2 hp2=>?_)
       ·refine zCN (zB7 g.col g.row) rfl <| zC (AV.agg [zf f.col,zf f.row]) (zE zD) rfl <| zI (hls _) <| zH <| zF <| zC (AV.str f.text) (zE zD) rfl ?_; refine zV (tN h0) <| zC (AV.str f.text) (zE zD) rfl <| zI (ht _) <| zT rfl <| zF <| zb (r:=i + 1) rfl tO ?_; refine zAf (i + 1) rfl ⟨hH2 _ _,hvo,by omega, ?_⟩ tO
        rw [if_neg tO,Nat.add_sub_cancel,hf]
        exact hq
       ·refine zAT (zB7 g.col g.row) hp2 rfl <| zC (AV.agg [zf f.col,zf f.row]) (zE zD) rfl <| zI (hls _) <| zH <| zF <| zC (AV.str f.text) (zE zD) rfl ?_; refine zV (tN h0) <| zC (AV.str f.text) (zE zD) rfl <| zI (ht _) <| zT rfl <| zF <| zb (r:=i + 1) rfl tO ?_; refine zAf (i + 1) rfl ⟨hH2 _ _,hvo,by omega, ?_⟩ tO
        rw [if_neg tO,Nat.add_sub_cancel,hf]
        exact hq
      ·rw [if_neg hz] at hq
       subst hq
       have ht : ∀ H,C zAO [.str f.text] H (zD6 (zBh f.text)) H:=fun H=>by have:=ht H; rwa [eV,if_neg hz] at this
       rw [eV,if_neg hz]
       refine za tT ?_; refine zB4 i (zZ f) hv1 rfl hfm (fun p hp=>?_)
       refine zAT (zZ f) hp rfl <| zG (v:=zZ f) (AV.cells (zZ f)) zD rfl rfl rfl rfl <| zC (AV.agg [zf f.col,zf f.row]) (zE zD) rfl <| zI (ha _) <| zT rfl ?_; refine zF <| za tT <| zb (r:=i - 1) tO tO ?_; refine sIdxW (i - 1) (zZ g) hvo rfl hgm ?_ (fun b2 j2 hp2=>?_)
       ·refine zCN (zB7 g.col g.row) rfl <| zC (AV.agg [zf f.col,zf f.row]) (zE zD) rfl <| zI (hls _) <| zH <| zF <| zC (AV.str f.text) (zE zD) rfl ?_; refine zV (tN h0) <| zC (AV.str f.text) (zE zD) rfl <| zI (ht _) <| zT rfl <| zH ?_
        exact zBX rfl rfl rfl rfl (hH2 _ _)
       ·refine zAT (zB7 g.col g.row) hp2 rfl <| zC (AV.agg [zf f.col,zf f.row]) (zE zD) rfl <| zI (hls _) <| zH <| zF <| zC (AV.str f.text) (zE zD) rfl ?_; refine zV (tN h0) <| zC (AV.str f.text) (zE zD) rfl <| zI (ht _) <| zT rfl <| zH ?_
        exact zBX rfl rfl rfl rfl (hH2 _ _)
 ·have hd : l.drop i = []:=List.drop_eq_nil_of_le tO
  rw [hd] at hq
  have hq : 0 = r:=hq
  subst hq
  clear hA hL hT
  refine zV tF ?_
  exact zBX rfl rfl rfl rfl hH
end
end Go.AM
set_option maxRecDepth 100000
namespace Go.Proofs.YtmmbcogejaofpaaGreatDoor
open Go.AM
theorem parK : ParK Tryz.prog:={ hm:=mixed,contains:=zCG,mkSet:=zEM,trimR:=zDc,trimL:=zDx,trim:=k_strings_Trim,slPre:=zDw,pre:=zFG,slTrim:=zDd,trimP:=zEq,wrong:=k_value_Wrong,is:=k_value_Is,whole:=k_value_Whole,lit:=zHx,ref:=k_addr_Ref,dollar:=k_addr_Ref_c1,wordly:=zGs,called:=zGt,plain:=zHy,opOf:=k_formula_opOf,fail:=zEG,blanks:=zDZ,word:=zEK,want:=zEI,within:=zDa,text:=zEJ,neg:=zEc,negc:=zDb,prim:=zEH,prim1:=zDG,prim2:=zDH,call:=zEL,argument:=zCo,two:=zEb }
theorem parK2 : ParK2 Tryz.prog:={ parK with const:=zFs,parse:=zHw,clos:=zFu,dfr:=by kernel_rfl,rcv:=by kernel_rfl }
section
variable {m : Int} {ev : Value}
theorem parG (hev : ∃ te pe,ev = .iface te pe) : ParG Tryz.prog (gtQ m ev):={ atoi:=atoi_ok,atoi2:=atoi_bad hev,texts:=rfl,loose:=rfl }
end
section
variable {GT : Nat → Option AV}
theorem g_aok (c r : Int) (H : Heap) : Go.AM.Good Tryz.prog GT zFi [zB7 c r] H (.bool (okC c r)) H:=zO mixed k_addr_ok (aok_ev c r H)
theorem g_acheck (c r : Int) (H : Heap) : Go.AM.Good Tryz.prog GT zCD [zB7 c r] H (if okC c r = true then .nili else zD6 1) H:=zO mixed k_addr_Check (acheck_ev g_aok c r H)
theorem g_nan (a : Int) (H : Heap) : Go.AM.Good Tryz.prog GT zBA [zf a] H (.bool false) H:=zO mixed zGr (nan_ev a H)
theorem g_ccmp (a b : Int) (H : Heap) : Go.AM.Good Tryz.prog GT zAj [zf a,zf b] H (zf (cmp3 a b)) H:=zO mixed zFt (ccmp_ev g_nan a b H)
theorem g_cor (b : Nat) (x y : Int) (H : Heap) (hb : H[b]? = some (.row 1 [zf x,zf y])) : Go.AM.Good Tryz.prog GT zCU [.sl (some false) b 1 0 2] H (zf (if x ≠ 0 then x else y)) H:=zO mixed k_cmp_Or_int_ (cor_ev b x y H hb)
theorem g_acomp (c1 r1 c2 r2 : Int) (H : Heap) : Go.AM.Good Tryz.prog GT zAm [zB7 c1 r1,zB7 c2 r2] H (zf (cmpC c1 r1 c2 r2)) H:=zO mixed k_addr_Compare (acomp_ev g_ccmp g_cor c1 r1 c2 r2 H)
theorem g_aless (a b : Fil) (H : Heap) : Go.AM.Good Tryz.prog GT zDo [zB7 a.col a.row,zB7 b.col b.row] H (.bool (zEs a b)) H:=zO mixed k_addr_Less (aless_ev g_acomp a b H)
end
section
variable {m : Int} {ev : Value} (hev : ∃ te pe,ev = .iface te pe)
abbrev GQ (m : Int) (ev : Value) : CSpec:=Go.AM.Good Tryz.prog (gtQ m ev)
include hev in
theorem g_text (s : Bs) (H : Heap) : GQ m ev zAO [.str s] H (eV (zBh s)) H:=zO mixed k_graph_Text (gtext_ev (p_const parK2) (p_parse parK2 (parG hev)) s H)
include hev in
theorem g_check (lv : AV) (l : List Fil) (H : Heap) (hv : view H 3 lv = some (l.map zZ)) : GQ m ev zAA [lv] H (eV (zAV l)) H:=zO mixed k_graph_Check (gcheck_ev g_acheck g_aless (g_text hev) lv l H hv)
end
end Go.Proofs.YtmmbcogejaofpaaGreatDoor
