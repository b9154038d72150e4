/- Several texts of mine in one (Am13, Am14, Am15, Am16, Am28). Own work. -/
import Derived.Test.YtcnogafgcfidnaaGreatDoorAm12
import Derived.Orders
import Derived.Tactics
set_option linter.all false
namespace Go.AM
section
variable {P : Program} {GT : Nat → Option AV} {w : World} {M : AMap} {I : Nat → Prop} {H : Heap}
def zEU (P : Program) (r : Result Next) (next : Value → World → Prop) : Prop:=
 match r with
 | .ok (.value v) w'=>next v w'
 | .ok .skip w'=>next Go.undef w'
 | .ok (.enter f args) w'=>Calls P f args w' fun e w''=>∃ v,e = .returned v ∧ next v w''
 | _=>False
theorem zEU.mono {r : Result Next} {next next' : Value → World → Prop} (h : zEU P r next) (hn : ∀ v w,next v w → next' v w) : zEU P r next':=by
 unfold zEU at *
 split at h
 ·exact hn _ _ h
 ·exact hn _ _ h
 ·exact h.mono fun e w' ⟨v,he,hv⟩=>⟨v,he,hn _ _ hv⟩
 ·exact h.elim
theorem zLa {o : Oper} {a : Act} {K : Act → World → Prop} {Q : Exit → Act → World → Prop} (h : zEU P ((execOp a.eval o).run P w) fun v w'=>K (a.put o.dst v) w') : o.wp P a w K Q:=by
 unfold Oper.wp
 unfold zEU at h
 split at h
 ·rename_i hr; rw [hr]; exact h
 ·rename_i hr; rw [hr]; exact h
 ·rename_i hr; rw [hr]
  exact h.mono fun e w' ⟨v,he,hv⟩=>by subst he; exact hv
 ·exact h.elim
def zGT (P : Program) (r : Result Next) (pn : Value → World → Prop) : Prop:=
 match r with
 | .ok (.enter f args) w'=>Calls P f args w' fun e w''=>∃ v,e = .panicked [{ v,recovered:=false }] ∧ pn v w''
 | .halt (.panic v) w'=>pn v w'
 | _=>False
theorem zMp {o : Oper} {a : Act} {K : Act → World → Prop} {Q : Exit → Act → World → Prop} (h : zGT P ((execOp a.eval o).run P w) fun v w'=>Q (.panic [{ v,recovered:=false }]) a w') : o.wp P a w K Q:=by
 unfold Oper.wp
 unfold zGT at h
 split at h
 ·rename_i hr; rw [hr]
  exact h.mono fun e w' ⟨v,he,hv⟩=>by subst he; exact hv
 ·rename_i hr; rw [hr]; exact h
 ·exact h.elim
def zPq (P : Program) (GT : Nat → Option AV) : CSpec:=fun f args H v H'=>
 ∀ (w : World) (M : AMap) (I : Nat → Prop) (cargs : List Value),Sim GT w M I H → zBJ w M I H.length args cargs →
  zEU P ((callFunc f cargs.toArray).run P w) fun v' w'=>∃ M' I',Grow w M I H w' M' I' H' ∧ Sim GT w' M' I' H' ∧ Rel w' M' I' H'.length v v'
def GoodP (P : Program) (GT : Nat → Option AV) : CSpec:=fun f args H x H'=>
 ∀ (w : World) (M : AMap) (I : Nat → Prop) (cargs : List Value),Sim GT w M I H → zBJ w M I H.length args cargs →
  zGT P ((callFunc f cargs.toArray).run P w) fun v' w'=>∃ M' I',Grow w M I H w' M' I' H' ∧ Sim GT w' M' I' H' ∧ Rel w' M' I' H'.length x v'
def Good (P : Program) (GT : Nat → Option AV) : CSpec:=fun f args H v H'=>
 match args with
 | .pan _ :: args'=>GoodP P GT f args' H v H'
 | args=>zPq P GT f args H v H'
def zIE : List AV → Bool
 | .pan _ :: _=>false
 | _=>true
theorem zPr {n : Nat} {x : AV} {v : Value} (h : Rel w M I n (.pan x) v) : False:=by cases h
theorem Good.n {f : FuncId} {args : List AV} {v : AV} {H' : Heap} {n : Nat} {cargs : List Value} (h : Good P GT f args H v H') (ha : zBJ w M I n args cargs) : zPq P GT f args H v H':=by
 unfold Good at h
 split at h
 ·rename_i x args'
  match cargs,ha with
  | [],ha=>exact absurd ha.1 (by simp)
  | c :: cs,ha=>exact (zPr (ha.2 0 _ c rfl rfl)).elim
 ·exact h
theorem zI8 {f : FuncId} {args : List AV} {v : AV} {H' : Heap} (hn : zIE args = true) (h : zPq P GT f args H v H') : Good P GT f args H v H':=by
 unfold Good
 split
 ·simp [zIE] at hn
 ·exact h
def zCZ (C : CSpec) (k : AK) (vs : List AV) (H : Heap) (v : AV) (H' : Heap) : Prop:=
 match k with
 | .call f rd=>C f vs H v H' ∧ (rd = true → H' = H)
 | .callv rd=>match vs with
  | .fn f first caps :: args=>C f (first ++ args ++ caps) H v H' ∧ (rd = true → H' = H)
  | _=>False
 | k=>astep k vs H = some (v,H')
theorem zF3 {C : CSpec} {k : AK} {vs : List AV} {H : Heap} {K : AV → Heap → Prop} (h : zE4 C k vs H K) : ∃ v H',zCZ C k vs H v H' ∧ K v H':=by
 cases k
 case call f rd=>obtain ⟨v,H',h1,h2,h3⟩:=h; exact ⟨v,H',⟨h1,h2⟩,h3⟩
 case callv rd=>
  simp only [zE4] at h
  split at h
  ·obtain ⟨v,H',h1,h2,h3⟩:=h; exact ⟨v,H',⟨h1,h2⟩,h3⟩
  ·exact h.elim
 all_goals
  simp only [zE4] at h
  split at h
  ·rename_i v H' hs
   exact ⟨v,H',hs,h⟩
  ·exact h.elim
theorem zI9 {op : Op} {k : AK} {f : FuncId} {rd : Bool} {xs : List Opd} (h : zE6 P op k xs = true) (hk : k = .call f rd) : ∃ args at_,op = .call { callee:=.value (.func f),args:=args,argTypes:=at_ } ∧ zA4 args.toList xs = true:=by
 replace h : zEO P op k xs = true:=by subst hk; exact h
 unfold zEO at h
 split at h
 all_goals first
  | (injection hk; done)
  | (injection hk with e1 e2; subst e1; simp only [Bool.and_eq_true,beq_iff_eq] at h; obtain ⟨rfl,h⟩:=h; exact ⟨_,_,rfl,h⟩)
  | cases h
theorem zOO {op : Op} {f : FuncId} {rd : Bool} {xs : List Opd} (h : zE6 P op (.call f rd) xs = true) : ∃ args at_,op = .call { callee:=.value (.func f),args:=args,argTypes:=at_ } ∧ zA4 args.toList xs = true:=zI9 h rfl
theorem zHj {op : Op} {k : AK} {rd : Bool} {xs : List Opd} (h : zE6 P op k xs = true) (hk : k = .callv rd) : ∃ x args at_,op = .call { callee:=.value x,args:=args,argTypes:=at_ } ∧ zA4 (x :: args.toList) xs = true:=by
 replace h : zEO P op k xs = true:=by subst hk; exact h
 unfold zEO at h
 split at h
 all_goals first
  | (injection hk; done)
  | exact ⟨_,_,_,rfl,h⟩
  | cases h
theorem zMq {op : Op} {rd : Bool} {xs : List Opd} (h : zE6 P op (.callv rd) xs = true) : ∃ x args at_,op = .call { callee:=.value x,args:=args,argTypes:=at_ } ∧ zA4 (x :: args.toList) xs = true:=zHj h rfl
def zJA (P : Program) (GT : Nat → Option AV) (w : World) (M : AMap) (I : Nat → Prop) (H : Heap) (s : Sem Next) (v : AV) (H' : Heap) : Prop:=
 zEU P (s.run P w) fun v' w'=>∃ M' I',Grow w M I H w' M' I' H' ∧ Sim GT w' M' I' H' ∧ Rel w' M' I' H'.length v v'
theorem zJ9 (hS : Sim GT w M I H) {o : Oper} {k : AK} {xs : List Opd} (hchk : zE6 P o.op k xs = true) {ρ : Operand → Value} {e : Opd → AV} (hev : ∀ x x',zAs x x' = true → Rel w M I H.length (e x') (ρ x))
  (hfn : ∀ f,ρ (.func f) = .func (.func f) #[] #[]) {v : AV} {H' : Heap} (hst : zCZ (Good P GT) k (xs.map e) H v H') : zJA P GT w M I H (execOp ρ o) v H':=by
 have hevs : ∀ {as : List Operand} {bs : List Opd},zA4 as bs = true → zBJ w M I H.length (bs.map e) (as.map ρ):=by
  intro as
  induction as with
  | nil=>intro bs h; cases bs with
   | nil=>exact ⟨rfl,by simp⟩
   | cons=>simp [zA4] at h
  | cons a as ih=>intro bs h; cases bs with
   | nil=>simp [zA4] at h
   | cons b bs=>
    simp only [zA4,Bool.and_eq_true] at h
    have:=ih h.2
    refine ⟨by simpa using this.1,fun i c v hc hv=>?_⟩
    cases i with
    | zero=>simp at hc hv; subst hc hv; exact hev _ _ h.1
    | succ i=>exact this.2 i c v (by simpa using hc) (by simpa using hv)
 have plain : astep k (xs.map e) H = some (v,H') → zJA P GT w M I H (execOp ρ o) v H':=fun hs=>by
  obtain ⟨v',w',M',I',h1,h2,h3,h4⟩:=zLZ hS hchk hev hs
  unfold zJA zEU
  rcases h1 with h1 | ⟨h1,rfl⟩
  ·rw [h1]; exact ⟨M',I',h2,h3,h4⟩
  ·rw [h1]; exact ⟨M',I',h2,h3,h4⟩
 cases k <;> try exact plain hst
 case call f rd=>
  obtain ⟨dst,op,ty,pos,after,guard⟩:=o
  obtain ⟨args,at_,rfl,h1⟩:=zOO hchk
  have:=hst.1.n (hevs h1) w M I _ hS (hevs h1)
  have hrun : (execOp ρ ⟨dst,.call { callee:=.value (.func f),args:=args,argTypes:=at_ },ty,pos,after,guard⟩).run P w = (callFunc f (args.toList.map ρ).toArray).run P w:=by
   have hf:=hfn f
   show Sem.run P (do let d ← resolve ρ _ ty; invoke d.target d.args) w = _
   simp only [resolve,Deferred.ofValue,hf,invoke,Sem.run_bind,Sem.run_pure,Result.andThen_ok]
   congr 2
   apply Array.ext'
   simp
  unfold zJA
  rw [hrun]; exact this
 case callv rd=>
  obtain ⟨dst,op,ty,pos,after,guard⟩:=o
  obtain ⟨x,args,at_,rfl,h1⟩:=zMq hchk
  cases xs with
  | nil=>simp [zA4] at h1
  | cons x' xs'=>
   simp only [zA4,Bool.and_eq_true] at h1
   simp only [zCZ,List.map_cons] at hst
   split at hst
   case h_2=>exact hst.elim
   rename_i f fst caps vs heq
   simp only [List.cons.injEq] at heq
   obtain ⟨hx,rfl⟩:=heq
   have r1:=hev _ _ h1.1
   rw [hx] at r1
   have r2:=hevs h1.2
   generalize hxv : ρ x = vx at r1
   cases r1 with
   | fn _ _ _ vs us hl hl' hr hr'=>
    have hargs : zBJ w M I H.length (fst ++ xs'.map e ++ caps) (vs ++ args.toList.map ρ ++ us):=by
     have app : ∀ {a b : List AV} {c d : List Value},zBJ w M I H.length a c → zBJ w M I H.length b d → zBJ w M I H.length (a ++ b) (c ++ d):=by
      intro a b c d h k
      refine ⟨by simp [h.1,k.1],fun i x v hx hv=>?_⟩
      have:=h.1
      by_cases hi : i < a.length
      ·rw [List.getElem?_append_left hi] at hx
       rw [List.getElem?_append_left tO] at hv
       exact h.2 i x v hx hv
      ·rw [List.getElem?_append_right tO] at hx
       rw [List.getElem?_append_right tO] at hv
       rw [this] at hx
       exact k.2 _ x v hx hv
     exact app (app ⟨hl,hr⟩ r2) ⟨hl',hr'⟩
    have:=hst.1.n hargs w M I _ hS hargs
    have hrun : (execOp ρ ⟨dst,.call { callee:=.value x,args:=args,argTypes:=at_ },ty,pos,after,guard⟩).run P w = (callFunc f (vs ++ args.toList.map ρ ++ us).toArray).run P w:=by
     show Sem.run P (do let d ← resolve ρ _ ty; invoke d.target d.args) w = _
     simp only [resolve,Deferred.ofValue,hxv,invoke,Sem.run_bind,Sem.run_pure,Result.andThen_ok]
     congr 2
     apply Array.ext'
     simp
    unfold zJA
    rw [hrun]; exact this
def AK.plainK : AK → AK
 | .callp f=>.call f false
 | .callvp=>.callv false
 | k=>k
def zIF (C : CSpec) (k : AK) (vs : List AV) (H : Heap) (x : AV) (H' : Heap) : Prop:=
 match k with
 | .callp f=>C f (.pan .undef :: vs) H x H'
 | .callvp=>match vs with
  | .fn f first caps :: args=>C f (.pan .undef :: (first ++ args ++ caps)) H x H'
  | _=>False
 | .panic=>∃ t y,vs = [x] ∧ x = .iface t y ∧ H' = H
 | _=>False
theorem zGU {C : CSpec} {k : AK} {vs : List AV} {H : Heap} {K KP : AV → Heap → Prop} (h : zCB C k vs H K KP) : (∃ v H',zCZ C k.plainK vs H v H' ∧ K v H') ∨ (∃ x H',zIF C k vs H x H' ∧ KP x H'):=by
 cases k
 case callp f=>
  rcases h with ⟨v,H',h1,h2⟩ | ⟨x,H',h1,h2⟩
  ·exact .inl ⟨v,H',⟨h1,by simp⟩,h2⟩
  ·exact .inr ⟨x,H',h1,h2⟩
 case callvp=>
  simp only [zCB] at h
  split at h
  ·rcases h with ⟨v,H',h1,h2⟩ | ⟨x,H',h1,h2⟩
   ·exact .inl ⟨v,H',⟨h1,by simp⟩,h2⟩
   ·exact .inr ⟨x,H',h1,h2⟩
  ·exact h.elim
 case panic=>
  simp only [zCB] at h
  split at h
  ·exact .inr ⟨_,_,⟨_,_,rfl,rfl,rfl⟩,h⟩
  ·exact h.elim
 all_goals exact .inl (zF3 h)
theorem zMr {op : Op} {k : AK} {xs : List Opd} (h : zE6 P op k xs = true) : zE6 P op k.plainK xs = true:=by
 cases k <;> exact h
theorem zKr {n : Nat} {a b : List AV} {c d : List Value} (h : zBJ w M I n a c) (k : zBJ w M I n b d) : zBJ w M I n (a ++ b) (c ++ d):=by
 refine ⟨by simp [h.1,k.1],fun i x v hx hv=>?_⟩
 have:=h.1
 by_cases hi : i < a.length
 ·rw [List.getElem?_append_left hi] at hx
  rw [List.getElem?_append_left tO] at hv
  exact h.2 i x v hx hv
 ·rw [List.getElem?_append_right tO] at hx
  rw [List.getElem?_append_right tO] at hv
  rw [this] at hx
  exact k.2 _ x v hx hv
theorem zMs (hS : Sim GT w M I H) {o : Oper} {k : AK} {xs : List Opd} (hchk : zE6 P o.op k xs = true) {ρ : Operand → Value} {e : Opd → AV} (hev : ∀ x x',zAs x x' = true → Rel w M I H.length (e x') (ρ x))
  (hfn : ∀ f,ρ (.func f) = .func (.func f) #[] #[]) {x : AV} {H' : Heap} (hst : zIF (Good P GT) k (xs.map e) H x H') :
  zGT P ((execOp ρ o).run P w) fun v' w'=>∃ M' I',Grow w M I H w' M' I' H' ∧ Sim GT w' M' I' H' ∧ Rel w' M' I' H'.length x v':=by
 have hevs : ∀ {as : List Operand} {bs : List Opd},zA4 as bs = true → zBJ w M I H.length (bs.map e) (as.map ρ):=by
  intro as
  induction as with
  | nil=>intro bs h; cases bs with
   | nil=>exact ⟨rfl,by simp⟩
   | cons=>simp [zA4] at h
  | cons a as ih=>intro bs h; cases bs with
   | nil=>simp [zA4] at h
   | cons b bs=>
    simp only [zA4,Bool.and_eq_true] at h
    have:=ih h.2
    refine ⟨by simpa using this.1,fun i c v hc hv=>?_⟩
    cases i with
    | zero=>simp at hc hv; subst hc hv; exact hev _ _ h.1
    | succ i=>exact this.2 i c v (by simpa using hc) (by simpa using hv)
 obtain ⟨dst,op,ty,pos,after,guard⟩:=o
 cases k <;> try exact hst.elim
 case callp f=>
  obtain ⟨args,at_,rfl,h1⟩:=zI9 (k:=.call f false) (rd:=false) (show zE6 P op (.call f false) xs = true from hchk) rfl
  have:=hst w M I _ hS (hevs h1)
  have hrun : (execOp ρ ⟨dst,.call { callee:=.value (.func f),args:=args,argTypes:=at_ },ty,pos,after,guard⟩).run P w = (callFunc f (args.toList.map ρ).toArray).run P w:=by
   have hf:=hfn f
   show Sem.run P (do let d ← resolve ρ _ ty; invoke d.target d.args) w = _
   simp only [resolve,Deferred.ofValue,hf,invoke,Sem.run_bind,Sem.run_pure,Result.andThen_ok]
   congr 2
   apply Array.ext'
   simp
  rw [hrun]; exact this
 case callvp=>
  obtain ⟨y,args,at_,rfl,h1⟩:=zHj (k:=.callv false) (rd:=false) (show zE6 P op (.callv false) xs = true from hchk) rfl
  cases xs with
  | nil=>simp [zA4] at h1
  | cons x' xs'=>
   simp only [zA4,Bool.and_eq_true] at h1
   simp only [zIF,List.map_cons] at hst
   split at hst
   case h_2=>exact hst.elim
   rename_i f fst caps vs heq
   simp only [List.cons.injEq] at heq
   obtain ⟨hx,rfl⟩:=heq
   have r1:=hev _ _ h1.1
   rw [hx] at r1
   have r2:=hevs h1.2
   generalize hxv : ρ y = vx at r1
   cases r1 with
   | fn _ _ _ vs us hl hl' hr hr'=>
    have hargs : zBJ w M I H.length (fst ++ xs'.map e ++ caps) (vs ++ args.toList.map ρ ++ us):=zKr (zKr ⟨hl,hr⟩ r2) ⟨hl',hr'⟩
    have:=hst w M I _ hS hargs
    have hrun : (execOp ρ ⟨dst,.call { callee:=.value y,args:=args,argTypes:=at_ },ty,pos,after,guard⟩).run P w = (callFunc f (vs ++ args.toList.map ρ ++ us).toArray).run P w:=by
     show Sem.run P (do let d ← resolve ρ _ ty; invoke d.target d.args) w = _
     simp only [resolve,Deferred.ofValue,hxv,invoke,Sem.run_bind,Sem.run_pure,Result.andThen_ok]
     congr 2
     apply Array.ext'
     simp
    rw [hrun]; exact this
 case panic=>
  simp only [zE6] at hchk
  split at hchk
  ·rename_i y y'
   obtain ⟨t,z,h1,rfl,rfl⟩:=hst
   have hx : e y' = .iface t z:=by simpa using h1
   have r:=hev _ _ hchk
   rw [hx] at r
   generalize hy : ρ y = vy at r
   have r':=r
   cases r with
   | iface _ _ u hu=>
    have hrun : (execOp ρ ⟨dst,.panic y,ty,pos,after,guard⟩).run P w = .halt (.panic (.iface t u)) w:=by
     show Sem.run P (do pure (Next.value (← Instr.panic (ρ y)))) w = _
     rw [hy]
     rfl
    rw [hrun]
    exact ⟨M,I,Grow.refl ..,hS,r'⟩
  ·cases hchk
end
end Go.AM
namespace Go.AM
abbrev GF:=Nat → AV
def evg (GT : Nat → Option AV) (g : GF) : Opd → AV
 | .tmp t=>g t
 | .const v=>v
 | .glob g'=>match GT g' with
  | some x=>.lref x 0
  | none=>.undef
 | .fn f=>.fn f [] []
def putg (g : GF) : Option Nat → AV → GF
 | some d,v=>fun t=>if d = t then v else g t
 | none,_=>g
theorem zCO (GT : Nat → Option AV) (fr : Fr) : ev GT fr = evg GT (get fr):=by
 funext x; cases x <;> rfl
theorem zD9 (fr : Fr) (d : Option Nat) (v : AV) : get (put fr d v) = putg (get fr) d v:=by
 cases d with
 | none=>rfl
 | some d=>funext t; rfl
def AYields (C : CSpec) (GT : Nat → Option AV) (i : AI) (g : GF) (H : Heap) (v : AV) (H' : Heap) : Prop:=
 match i.g with
 | none=>zCZ C i.k (i.xs.map (evg GT g)) H v H'
 | some (s,want)=>∃ b,gd want (g s) = some b ∧ if b = true then zCZ C i.k (i.xs.map (evg GT g)) H v H' else v = .tup [] ∧ H' = H
theorem zFA {C : CSpec} {GT : Nat → Option AV} {i : AI} {is : List AI} {fr : Fr} {H : Heap} {K : Fr → Heap → Prop} (h : AWops C GT (i :: is) fr H K) :
  ∃ v H',AYields C GT i (get fr) H v H' ∧ AWops C GT is (put fr i.dst v) H' K:=by
 unfold AWops at h
 unfold AYields
 split at h
 ·rename_i hg
  rw [hg]
  obtain ⟨v,H',h1,h2⟩:=zF3 h
  exact ⟨v,H',by rw [← zCO]; exact h1,h2⟩
 ·rename_i s want hg
  rw [hg]
  split at h
  ·rename_i b hb
   split at h
   ·rename_i hbw
    obtain ⟨v,H',h1,h2⟩:=zF3 h
    exact ⟨v,H',⟨b,hb,by rw [if_pos hbw,← zCO]; exact h1⟩,h2⟩
   ·rename_i hbw
    exact ⟨.tup [],H,⟨b,hb,by rw [if_neg hbw]; exact ⟨rfl,rfl⟩⟩,h⟩
  ·exact h.elim
section
variable {D : List Deferred} {P : Program} {GT : Nat → Option AV} {w : World} {M : AMap} {I : Nat → Prop} {H : Heap}
structure ActOK (D : List Deferred) (w : World) (M : AMap) (I : Nat → Prop) (n N : Nat) (g : GF) (a : Act) : Prop where
 rel : ∀ t,Rel w M I n (g t) (a.tmps.getD t Go.undef)
 size : N ≤ a.tmps.size
 defers : a.defers = D
theorem ActOK.ev (hS : Sim GT w M I H) {N : Nat} {g : GF} {a : Act} (hF : ActOK D w M I H.length N g a) : ∀ x x',zAs x x' = true → Rel w M I H.length (evg GT g x') (a.eval x):=by
 intro x x' h
 cases x <;> cases x' <;> simp only [zAs,beq_iff_eq] at h <;> first | (cases h; done) | skip
 ·subst h; exact hF.rel _
 ·exact zEP h
 ·subst h
  rename_i gl
  simp only [evg,Act.eval]
  cases hg : GT gl with
  | none=>exact .undef _
  | some x=>exact (hS.glob _ _ hg).free (hS.glob _ _ hg).bel
 ·subst h; exact .fn _ [] [] [] [] rfl rfl (by simp) (by simp)
theorem ActOK.grow {w' : World} {M' : AMap} {I' : Nat → Prop} {H' : Heap} (hG : Grow w M I H w' M' I' H') (hS : Sim GT w M I H) {N : Nat} {g : GF} {a : Act} (hF : ActOK D w M I H.length N g a) : ActOK D w' M' I' H'.length N g a:=
 ⟨fun t=>hG.rel hS (hF.rel t),hF.size,hF.defers⟩
theorem ActOK.put {n N : Nat} {g : GF} {a : Act} (hF : ActOK D w M I n N g a) {d : Option Nat} {v : AV} {u : Value} (hd : ∀ e,d = some e → e < N) (hv : Rel w M I n v u) : ActOK D w M I n N (putg g d v) (a.put d u):=by
 cases d with
 | none=>exact hF
 | some d=>
  have hlt : d < a.tmps.size:=Nat.lt_of_lt_of_le (hd d rfl) hF.size
  refine ⟨fun t=>?_,by simpa [Act.put] using hF.size,hF.defers⟩
  simp only [putg,Act.put]
  by_cases h : d = t
  ·subst h; simpa [hlt] using hv
  ·simpa [h,Array.getElem?_setIfInBounds_ne h] using hF.rel t
def zIG (P : Program) (N : Nat) (ops : Array Oper) (o : Oper) (i : AI) : Bool:=
 decide (o.dst = i.dst) && (match i.dst with
  | some d=>decide (d < N)
  | none=>true) &&
 (match o.guard,i.g with
  | none,none=>true
  | some (j,want),some (s,want')=>decide (want = want') && decide ((ops[j]?).bind (·.dst) = some s) && decide (s < N)
  | _,_=>false) && zE6 P o.op i.k i.xs
theorem zF4 (hS : Sim GT w M I H) {N : Nat} {ops : Array Oper} {o : Oper} {i : AI} {g : GF} {a : Act} (hF : ActOK D w M I H.length N g a) (hc : zIG P N ops o i = true) {v : AV} {H' : Heap} (hy : AYields (Good P GT) GT i g H v H')
  {Q : Exit → Act → World → Prop} {K : Act → World → Prop} (hK : ∀ a' w' M' I',Grow w M I H w' M' I' H' → Sim GT w' M' I' H' → ActOK D w' M' I' H'.length N (putg g i.dst v) a' → K a' w') :
  if Region.wanted o (yielded ops a.tmps) then o.wp P a w K Q ∨ (o.asks P a w ∧ LetsOut Q) else K (a.put o.dst Go.undef) w:=by
 simp only [zIG,Bool.and_eq_true,decide_eq_true_eq] at hc
 obtain ⟨⟨⟨h1,h2⟩,h3⟩,h4⟩:=hc
 have hd : ∀ e,i.dst = some e → e < N:=by
  intro e he
  rw [he] at h2
  simpa using h2
 have doit : zCZ (Good P GT) i.k (i.xs.map (evg GT g)) H v H' → o.wp P a w K Q:=fun hst=>by
  refine zLa ((zJ9 hS h4 (hF.ev hS) (fun f=>rfl) hst).mono ?_)
  rintro v' w' ⟨M',I',g1,g2,g3⟩
  rw [h1]
  exact hK _ _ M' I' g1 g2 ((hF.grow g1 hS).put hd g3)
 have dont : v = .tup [] → H' = H → K (a.put o.dst Go.undef) w:=fun e1 e2=>by
  subst e1 e2
  rw [h1]
  exact hK _ _ M I (Grow.refl ..) hS (hF.put hd (.tup [] [] rfl (by simp)))
 unfold AYields at hy
 cases hg : i.g with
 | none=>
  rw [hg] at hy h3
  cases hog : o.guard with
  | none=>
   have : Region.wanted o (yielded ops a.tmps) = true:=by simp [Region.wanted,hog]
   rw [if_pos this]
   exact .inl (doit hy)
  | some jw=>rw [hog] at h3; simp at h3
 | some sw=>
  obtain ⟨s,want⟩:=sw
  rw [hg] at hy h3
  cases hog : o.guard with
  | none=>rw [hog] at h3; simp at h3
  | some jw=>
   obtain ⟨j,want'⟩:=jw
   rw [hog] at h3
   simp only [Bool.and_eq_true,decide_eq_true_eq] at h3
   obtain ⟨⟨rfl,h3⟩,h3'⟩:=h3
   obtain ⟨b,hb,hy⟩:=hy
   have hr:=hF.rel s
   have hlt : s < a.tmps.size:=Nat.lt_of_lt_of_le h3' hF.size
   have hv : a.tmps[s]? = some (a.tmps.getD s Go.undef):=by simp [hlt]
   have : Region.wanted o (yielded ops a.tmps) = b:=by
    simp only [Region.wanted,hog,yielded,h3,Option.bind_some,hv]
    generalize a.tmps.getD s Go.undef = u at hr
    generalize g s = x at hr hb
    unfold gd at hb
    split at hb
    ·cases hr
     cases hb
     rename_i c
     cases c <;> cases want' <;> rfl
    ·cases hr
     cases hb
     rfl
    ·cases hb
   rw [this]
   cases b with
   | true=>
    simp only [if_true] at hy ⊢
    exact .inl (doit hy)
   | false=>
    simp only [Bool.false_eq_true,if_false] at hy ⊢
    exact dont hy.1 hy.2
def AI.plain (i : AI) : AI:={ i with k:=i.k.plainK }
theorem zGV {N : Nat} {ops : Array Oper} {o : Oper} {i : AI} (h : zIG P N ops o i = true) : zIG P N ops o i.plain = true:=by
 simp only [zIG,Bool.and_eq_true] at h ⊢
 exact ⟨h.1,zMr h.2⟩
def zAm (C : CSpec) (GT : Nat → Option AV) (i : AI) (g : GF) (H : Heap) (x : AV) (H' : Heap) : Prop:=
 match i.g with
 | none=>zIF C i.k (i.xs.map (evg GT g)) H x H'
 | some (s,want)=>gd want (g s) = some true ∧ zIF C i.k (i.xs.map (evg GT g)) H x H'
theorem zF5 {C : CSpec} {GT : Nat → Option AV} {is : List AI} {j : Nat} {t : OT} {fr : Fr} {H : Heap} {K : Fr → Heap → Prop} {KP : AV → Heap → Prop} (h : AWT C GT is (.step j t) fr H K KP) :
  ∃ i,is[j]? = some i ∧ ((∃ v H',AYields C GT i.plain (get fr) H v H' ∧ AWT C GT is t (put fr i.dst v) H' K KP) ∨ (∃ x H',zAm C GT i (get fr) H x H' ∧ KP x H')):=by
 unfold AWT at h
 split at h
 ·exact h.elim
 ·rename_i i hi
  refine ⟨i,hi, ?_⟩
  unfold AYields zAm
  split at h
  ·rename_i hg
   rcases zGU h with ⟨v,H',h1,h2⟩ | ⟨x,H',h1,h2⟩
   ·refine .inl ⟨v,H', ?_,h2⟩
    simp only [AI.plain,hg]; rw [← zCO]; exact h1
   ·refine .inr ⟨x,H', ?_,h2⟩
    simp only [hg]; rw [← zCO]; exact h1
  ·rename_i s want hg
   split at h
   ·rename_i b hb
    split at h
    ·rename_i hbt
     subst hbt
     rcases zGU h with ⟨v,H',h1,h2⟩ | ⟨x,H',h1,h2⟩
     ·refine .inl ⟨v,H', ?_,h2⟩
      simp only [AI.plain,hg]
      exact ⟨true,hb,by rw [if_pos rfl,← zCO]; exact h1⟩
     ·refine .inr ⟨x,H', ?_,h2⟩
      simp only [hg]
      exact ⟨hb,by rw [← zCO]; exact h1⟩
    ·rename_i hbt
     refine .inl ⟨.tup [],H, ?_,h⟩
     simp only [AI.plain,hg]
     exact ⟨b,hb,by rw [if_neg hbt]; exact by simp⟩
   ·exact h.elim
theorem zJB (hS : Sim GT w M I H) {N : Nat} {ops : Array Oper} {o : Oper} {i : AI} {g : GF} {a : Act} (hF : ActOK D w M I H.length N g a) (hc : zIG P N ops o i = true) {x : AV} {H' : Heap} (hy : zAm (Good P GT) GT i g H x H')
  {Q : Exit → Act → World → Prop} {K : Act → World → Prop} (hQ : ∀ xv w' M' I',Grow w M I H w' M' I' H' → Sim GT w' M' I' H' → Rel w' M' I' H'.length x xv → Q (.panic [{ v:=xv,recovered:=false }]) a w') :
  if Region.wanted o (yielded ops a.tmps) then o.wp P a w K Q ∨ (o.asks P a w ∧ LetsOut Q) else K (a.put o.dst Go.undef) w:=by
 simp only [zIG,Bool.and_eq_true,decide_eq_true_eq] at hc
 obtain ⟨⟨⟨h1,h2⟩,h3⟩,h4⟩:=hc
 have doit : zIF (Good P GT) i.k (i.xs.map (evg GT g)) H x H' → o.wp P a w K Q:=fun hst=>by
  refine zMp ?_
  have hp:=zMs hS h4 (hF.ev hS) (fun f=>rfl) hst
  unfold zGT at hp ⊢
  split at hp
  ·exact hp.mono fun e w' ⟨v,he,M',I',g1,g2,g3⟩=>⟨v,he,hQ v w' M' I' g1 g2 g3⟩
  ·obtain ⟨M',I',g1,g2,g3⟩:=hp
   exact hQ _ _ M' I' g1 g2 g3
  ·exact hp.elim
 unfold zAm at hy
 cases hg : i.g with
 | none=>
  rw [hg] at hy h3
  cases hog : o.guard with
  | none=>
   have : Region.wanted o (yielded ops a.tmps) = true:=by simp [Region.wanted,hog]
   rw [if_pos this]
   exact .inl (doit hy)
  | some jw=>rw [hog] at h3; simp at h3
 | some sw=>
  obtain ⟨s,want⟩:=sw
  rw [hg] at hy h3
  cases hog : o.guard with
  | none=>rw [hog] at h3; simp at h3
  | some jw=>
   obtain ⟨j,want'⟩:=jw
   rw [hog] at h3
   simp only [Bool.and_eq_true,decide_eq_true_eq] at h3
   obtain ⟨⟨rfl,h3⟩,h3'⟩:=h3
   obtain ⟨hb,hy⟩:=hy
   have hr:=hF.rel s
   have hlt : s < a.tmps.size:=Nat.lt_of_lt_of_le h3' hF.size
   have hv : a.tmps[s]? = some (a.tmps.getD s Go.undef):=by simp [hlt]
   have : Region.wanted o (yielded ops a.tmps) = true:=by
    simp only [Region.wanted,hog,yielded,h3,Option.bind_some,hv]
    generalize a.tmps.getD s Go.undef = u at hr
    generalize g s = x at hr hb
    unfold gd at hb
    split at hb
    ·cases hr
     rename_i c
     simp only [Option.some.injEq,beq_iff_eq] at hb
     subst hb
     cases c <;> rfl
    ·cases hb
    ·cases hb
   rw [if_pos this]
   exact .inl (doit hy)
def zA5 (P : Program) (N : Nat) (ops : Array Oper) : List Oper → List AI → Bool
 | [],[]=>true
 | o :: os,i :: is=>zIG P N ops o i && zA5 P N ops os is
 | _,_=>false
theorem zMt {N : Nat} {ops : Array Oper} {Q : Exit → Act → World → Prop} {K : Fr → Heap → Prop} : ∀ (is : List AI) (os : List Oper) (w : World) (M : AMap) (I : Nat → Prop) (H : Heap) (fr : Fr) (a : Act),
  Sim GT w M I H → ActOK D w M I H.length N (get fr) a → zA5 P N ops os is = true → AWops (Good P GT) GT is fr H K →
  (∀ fr' H' a' w' M' I',Grow w M I H w' M' I' H' → Sim GT w' M' I' H' → ActOK D w' M' I' H'.length N (get fr') a' → K fr' H' → Q .normal a' w') → wpList P ops Q os a w:=by
 intro is
 induction is with
 | nil=>
  intro os w M I H fr a hS hF hc hA hQ
  cases os with
  | nil=>exact hQ fr H a w M I (Grow.refl ..) hS hF hA
  | cons=>simp [zA5] at hc
 | cons i is ih=>
  intro os w M I H fr a hS hF hc hA hQ
  cases os with
  | nil=>simp [zA5] at hc
  | cons o os=>
   simp only [zA5,Bool.and_eq_true] at hc
   obtain ⟨v,H1,hy,hA⟩:=zFA hA
   unfold wpList
   refine zF4 hS hF hc.1 hy fun a' w' M' I' hG hS' hF'=>?_
   exact ih os w' M' I' H1 (put fr i.dst v) a' hS' (by rw [zD9]; exact hF') hc.2 hA fun fr2 H2 a2 w2 M2 I2 hG2=>hQ fr2 H2 a2 w2 M2 I2 (hG.trans hG2)
theorem zJC (fr : Fr) (L : List Nat) (t : Nat) : get (restrict fr L) t = get fr t ∨ get (restrict fr L) t = .undef:=by
 induction L with
 | nil=>exact .inr rfl
 | cons l L ih=>
  simp only [restrict,List.map_cons,get]
  by_cases h : l = t
  ·subst h; simp
  ·simp only [h,if_false]; exact ih
theorem ActOK.restrict {n N : Nat} {fr : Fr} {a : Act} (hF : ActOK D w M I n N (get fr) a) (L : List Nat) : ActOK D w M I n N (get (restrict fr L)) a:=
 ⟨fun t=>by
  rcases zJC fr L t with h | h
  ·rw [h]; exact hF.rel t
  ·rw [h]; exact .undef _,hF.size,hF.defers⟩
end
end Go.AM
namespace Go.AM
def AK.cls : AK → Nat
 | .mv | .pick | .bin _ | .eqs _ _ | .eqb _ | .eqn _ _ _ | .un _ | .convInt _ | .convRune | .convId | .mkIface _ | .tyAs _ | .mkFn _ _ | .len _ | .slc _ _ _ | .fieldAddr _ | .field _ _ _ | .idxAddr _
 | .idxArr _ _ | .idxStr | .idxAgg _ _ _ | .nilchk | .extract _ | .build _ _ | .min | .max=>0
 | .bytesToStr | .load _ _ | .call _ true | .callv true | .mget _ _ | .mlen=>1
 | _=>2
def AK.reads : AK → Bool
 | .bytesToStr | .load _ _=>true
 | _=>false
def AK.grows : AK → Bool
 | .alloc _ | .box=>true
 | _=>false
theorem zEV {H : Heap} {b : ABlk} {i : Nat} {x : ABlk} (h : H[i]? = some x) : (H ++ [b])[i]? = some x:=by
 rw [List.getElem?_append_left (zg h).1]; exact h
theorem zMu {H : Heap} {b : ABlk} {k : Nat} {v : AV} {xs : List AV} (h : view H k v = some xs) : view (H ++ [b]) k v = some xs:=by
 unfold view at h ⊢
 split at h
 ·exact h
 ·split at h
  ·rename_i hk
   rw [if_pos hk]
   split at h
   ·rename_i hb; rw [zEV hb]; exact h
   ·rename_i hb; rw [zEV hb]; exact h
   ·cases h
  ·cases h
 ·cases h
theorem zOP {H : Heap} {b : ABlk} {p : AV} {co : List AV × Nat} (h : zl H p = some co) : zl (H ++ [b]) p = some co:=by
 unfold zl at h ⊢
 split at h
 ·exact h
 ·split at h
  ·rename_i hb; rw [zEV hb]; exact h
  ·rename_i hb; rw [zEV hb]; exact h
  ·rename_i hb; rw [zEV hb]; exact h
  ·cases h
 ·cases h
theorem zOQ {k : AK} (hk : k.grows = true) {vs : List AV} {H H' : Heap} {v : AV} (h : astep k vs H = some (v,H')) : ∃ b,H' = H ++ [b]:=by
 cases k <;> simp [AK.grows] at hk
 case alloc z=>
  cases vs with
  | nil=>simp only [astep,Option.some.injEq,Prod.mk.injEq] at h; exact ⟨_,h.2.symm⟩
  | cons=>simp [astep] at h
 case box=>
  rcases vs with _ | ⟨x,_ | ⟨y,vs⟩⟩
  ·simp [astep] at h
  ·simp only [astep] at h
   split at h
   ·simp only [Option.some.injEq,Prod.mk.injEq] at h; exact ⟨_,h.2.symm⟩
   ·cases h
  ·simp [astep] at h
theorem zLb {k : AK} (hk : k.reads = true) {vs : List AV} {H : Heap} {v : AV} (h : astep k vs H = some (v,H)) (b : ABlk) : astep k vs (H ++ [b]) = some (v,H ++ [b]):=by
 cases k <;> simp [AK.reads] at hk
 case bytesToStr=>
  rcases vs with _ | ⟨x,_ | ⟨y,vs⟩⟩
  ·simp [astep] at h
  ·simp only [astep] at h ⊢
   split at h
   ·rename_i xs hv
    rw [zMu hv]
    simp only
    cases hb : zDE xs with
    | none=>rw [hb] at h; cases h
    | some u=>rw [hb] at h; simp only [Option.map_some,Option.some.injEq,Prod.mk.injEq] at h ⊢; exact ⟨h.1,trivial⟩
   ·cases h
  ·simp [astep] at h
 case load s ag=>
  rcases vs with _ | ⟨x,_ | ⟨y,vs⟩⟩
  ·simp [astep] at h
  ·simp only [astep] at h ⊢
   split at h
   ·rename_i cs o hp
    rw [zOP hp]
    simp only
    cases hb : part cs o s ag with
    | none=>rw [hb] at h; cases h
    | some u=>rw [hb] at h; simp only [Option.map_some,Option.some.injEq,Prod.mk.injEq] at h ⊢; exact ⟨h.1,trivial⟩
   ·cases h
  ·simp [astep] at h
theorem zF6 {α : Type} {o : Option α} {f : α → AV} {H H' : Heap} {v : AV} (h : o.map (fun x=>(f x,H)) = some (v,H')) : H' = H ∧ ∀ H2 : Heap,o.map (fun x=>(f x,H2)) = some (v,H2):=by
 cases o with
 | none=>cases h
 | some x=>simp at h ⊢; exact ⟨h.2.symm,h.1⟩
theorem zPs {o : Option AV} {H H' : Heap} {v : AV} (h : o.map (·,H) = some (v,H')) : H' = H ∧ ∀ H2 : Heap,o.map (·,H2) = some (v,H2):=zF6 h
set_option maxHeartbeats 1000000 in
theorem zLc {k : AK} (hk : k.cls = 0) {vs : List AV} {H H' : Heap} {v : AV} (h : astep k vs H = some (v,H')) : H' = H ∧ ∀ H2,astep k vs H2 = some (v,H2):=by
 unfold astep at h
 split at h
 all_goals try (simp [AK.cls] at hk; done)
 all_goals first
  | (obtain ⟨h1,h2⟩:=zPs h; exact ⟨h1,fun H2=>by simpa [astep] using h2 H2⟩)
  | (obtain ⟨h1,h2⟩:=zF6 h; exact ⟨h1,fun H2=>by simpa [astep] using h2 H2⟩)
  | (injection h with h; injection h with h1 h2; subst h1 h2; exact ⟨rfl,fun H2=>by simp [astep]⟩)
  | skip
 all_goals (repeat' split at h)
 all_goals first
  | (cases h; done)
  | (obtain ⟨h1,h2⟩:=zPs h; exact ⟨h1,fun H2=>by simpa [astep, *] using h2 H2⟩)
  | (obtain ⟨h1,h2⟩:=zF6 h; exact ⟨h1,fun H2=>by simpa [astep, *] using h2 H2⟩)
  | (injection h with h; injection h with h1 h2; subst h1 h2; exact ⟨rfl,fun H2=>by simp [astep, *]⟩)
theorem zLd {k : AK} (hk : k.cls = 1) {vs : List AV} {H H' : Heap} {v : AV} (h : astep k vs H = some (v,H')) : H' = H:=by
 unfold astep at h
 split at h
 all_goals try (simp [AK.cls] at hk; done)
 all_goals (repeat' split at h)
 all_goals first
  | (cases h; done)
  | exact (zPs h).1
  | exact (zF6 h).1
theorem zHk {C : CSpec} {k : AK} (hk : k.cls = 0) {vs : List AV} {H H' : Heap} {v : AV} (h : zCZ C k vs H v H') : H' = H ∧ ∀ H2,zCZ C k vs H2 v H2:=by
 cases k
 case call f rd=>cases rd <;> simp [AK.cls] at hk
 case callv rd=>cases rd <;> simp [AK.cls] at hk
 all_goals exact zLc hk h
theorem zHl {C : CSpec} {k : AK} (hk : k.cls = 1) {vs : List AV} {H H' : Heap} {v : AV} (h : zCZ C k vs H v H') : H' = H:=by
 cases k
 case call f rd=>cases rd <;> simp [AK.cls] at hk; exact h.2 rfl
 case callv rd=>
  cases rd <;> simp [AK.cls] at hk
  unfold zCZ at h
  dsimp only at h
  split at h
  ·exact h.2 rfl
  ·exact h.elim
 all_goals exact zLd hk h
def AI.looks (i : AI) : List Nat:=
 (i.xs.filterMap fun | .tmp t=>some t | _=>none) ++ (match i.g with
  | some (s,_)=>[s]
  | none=>[])
def AI.apart (x y : AI) : Bool:=
 (match x.dst with
  | some d=>!y.looks.contains d && decide (y.dst ≠ some d)
  | none=>true) &&
 (match y.dst with
  | some d=>!x.looks.contains d
  | none=>true) && (x.k.cls == 0 || y.k.cls == 0 || (x.k.cls == 1 && y.k.cls == 1) || (x.k.reads && y.k.grows))
theorem AI.apart_spec {x y : AI} (h : x.apart y = true) :
  (∀ d,x.dst = some d → d ∉ y.looks) ∧ (∀ d,x.dst = some d → y.dst ≠ some d) ∧ (∀ d,y.dst = some d → d ∉ x.looks) ∧ (x.k.cls = 0 ∨ y.k.cls = 0 ∨ (x.k.cls = 1 ∧ y.k.cls = 1) ∨ (x.k.reads = true ∧ y.k.grows = true)):=by
 simp only [AI.apart,Bool.and_eq_true,Bool.or_eq_true,beq_iff_eq,or_assoc] at h
 obtain ⟨⟨h1,h2⟩,h3⟩:=h
 refine ⟨fun d hd=>?_,fun d hd=>?_,fun d hd=>?_,h3⟩
 ·rw [hd] at h1; simp at h1; exact h1.1
 ·rw [hd] at h1; simp at h1; exact h1.2
 ·rw [hd] at h2; simpa using h2
section
variable {C : CSpec} {GT : Nat → Option AV}
theorem zFT {i : AI} {g g' : GF} (hg : ∀ t ∈ i.looks,g' t = g t) {H : Heap} {v : AV} {H' : Heap} (h : AYields C GT i g H v H') : AYields C GT i g' H v H':=by
 have hxs : i.xs.map (evg GT g') = i.xs.map (evg GT g):=List.map_congr_left fun x hx=>by
  cases x with
  | tmp t=>exact hg t (List.mem_append_left _ (List.mem_filterMap.2 ⟨.tmp t,hx,rfl⟩))
  | _=>rfl
 unfold AYields at *
 cases hgd : i.g with
 | none=>rw [hgd] at h; rw [hxs]; exact h
 | some sw=>
  obtain ⟨s,want⟩:=sw
  rw [hgd] at h
  obtain ⟨b,hb,h⟩:=h
  exact ⟨b,by rw [hg s (by simp [AI.looks,hgd])]; exact hb,by rw [hxs]; exact h⟩
theorem zFB {g : GF} {d : Option Nat} {v : AV} {L : List Nat} (h : ∀ e,d = some e → e ∉ L) : ∀ t ∈ L,putg g d v t = g t:=by
 intro t ht
 cases d with
 | none=>rfl
 | some e=>
  have : e ≠ t:=fun he=>h e rfl (he ▸ ht)
  simp [putg,this]
theorem zMv (g : GF) {d e : Option Nat} (v u : AV) (h : ∀ x,d = some x → e ≠ some x) : putg (putg g d v) e u = putg (putg g e u) d v:=by
 cases d with
 | none=>rfl
 | some d=>
  cases e with
  | none=>rfl
  | some e=>
   have : d ≠ e:=fun he=>h d rfl (he ▸ rfl)
   funext t
   simp only [putg]
   by_cases h1 : e = t
   ·subst h1; simp [this]
   ·simp [h1]
theorem zEA {i : AI} (hi : i.k.cls = 0) {g : GF} {H : Heap} {v : AV} {H' : Heap} (h : AYields C GT i g H v H') : H' = H ∧ ∀ H2,AYields C GT i g H2 v H2:=by
 unfold AYields at *
 cases hgd : i.g with
 | none=>rw [hgd] at h; exact zHk hi h
 | some sw=>
  obtain ⟨s,want⟩:=sw
  rw [hgd] at h
  obtain ⟨b,hb,h⟩:=h
  split at h
  ·rename_i hw
   obtain ⟨h1,h2⟩:=zHk hi h
   exact ⟨h1,fun H2=>⟨b,hb,by rw [if_pos hw]; exact h2 H2⟩⟩
  ·rename_i hw
   exact ⟨h.2,fun H2=>⟨b,hb,by rw [if_neg hw]; exact ⟨h.1,rfl⟩⟩⟩
theorem zEB {i : AI} (hi : i.k.cls = 1) {g : GF} {H : Heap} {v : AV} {H' : Heap} (h : AYields C GT i g H v H') : H' = H:=by
 unfold AYields at *
 cases hgd : i.g with
 | none=>rw [hgd] at h; exact zHl hi h
 | some sw=>
  obtain ⟨s,want⟩:=sw
  rw [hgd] at h
  obtain ⟨b,hb,h⟩:=h
  split at h
  ·exact zHl hi h
  ·exact h.2
theorem zKA {i : AI} (hi : i.k.reads = true) {g : GF} {H : Heap} {v : AV} (h : AYields C GT i g H v H) (b : ABlk) : AYields C GT i g (H ++ [b]) v (H ++ [b]):=by
 have st : ∀ {vs},zCZ C i.k vs H v H → zCZ C i.k vs (H ++ [b]) v (H ++ [b]):=fun {vs} h=>by
  cases hk : i.k <;> rw [hk] at hi h <;> first
   | exact zLb hi h b
   | simp [AK.reads] at hi
 unfold AYields at *
 cases hgd : i.g with
 | none=>rw [hgd] at h; exact st h
 | some sw=>
  obtain ⟨s,want⟩:=sw
  rw [hgd] at h
  obtain ⟨c,hc,h⟩:=h
  refine ⟨c,hc, ?_⟩
  split at h
  ·rename_i hw; rw [if_pos hw]; exact st h
  ·rename_i hw; rw [if_neg hw]; exact ⟨h.1,rfl⟩
theorem zJD {i : AI} (hi : i.k.grows = true) {g : GF} {H H' : Heap} {v : AV} (h : AYields C GT i g H v H') : H' = H ∨ ∃ b,H' = H ++ [b]:=by
 have st : ∀ {vs},zCZ C i.k vs H v H' → ∃ b,H' = H ++ [b]:=fun {vs} h=>by
  cases hk : i.k <;> rw [hk] at hi h <;> first
   | exact zOQ hi h
   | simp [AK.grows] at hi
 unfold AYields at *
 cases hgd : i.g with
 | none=>rw [hgd] at h; exact .inr (st h)
 | some sw=>
  obtain ⟨s,want⟩:=sw
  rw [hgd] at h
  obtain ⟨c,hc,h⟩:=h
  split at h
  ·exact .inr (st h)
  ·exact .inl h.2
theorem zMw {k : AK} (h : k.reads = true) : k.cls = 1:=by cases k <;> simp [AK.reads] at h <;> rfl
theorem zGW {x y : AI} (hap : x.apart y = true) {g : GF} {H H1 H2 : Heap} {v u : AV} (hx : AYields C GT x g H v H1) (hy : AYields C GT y (putg g x.dst v) H1 u H2) :
  ∃ H3,AYields C GT y g H u H3 ∧ AYields C GT x (putg g y.dst u) H3 v H2 ∧ putg (putg g x.dst v) y.dst u = putg (putg g y.dst u) x.dst v:=by
 obtain ⟨h1,h2,h3,h4⟩:=AI.apart_spec hap
 have hx':=zFT (zFB (g:=g) (v:=u) h3) hx
 have hy' : AYields C GT y g H1 u H2:=zFT (fun t ht=>(zFB (g:=g) (v:=v) h1 t ht).symm) hy
 refine (?_ : ∃ H3,AYields C GT y g H u H3 ∧ AYields C GT x (putg g y.dst u) H3 v H2).imp fun H3 h=>⟨h.1,h.2,zMv g v u h2⟩
 rcases h4 with h4 | h4 | ⟨h4,h5⟩ | ⟨h4,h5⟩
 ·obtain ⟨e1,e2⟩:=zEA h4 hx'
  subst e1
  exact ⟨H2,hy',e2 H2⟩
 ·obtain ⟨e1,e2⟩:=zEA h4 hy'
  subst e1
  exact ⟨H,e2 H,hx'⟩
 ·have e1:=zEB h4 hx'
  subst e1
  have e2:=zEB h5 hy'
  subst e2
  exact ⟨_,hy',hx'⟩
 ·have e1:=zEB (zMw h4) hx'
  subst e1
  rcases zJD h5 hy' with e2 | ⟨b,e2⟩
  ·subst e2; exact ⟨_,hy',hx'⟩
  ·subst e2; exact ⟨_,hy',zKA h4 hx' b⟩
variable {ops : Array Oper} {ais : List AI}
def AAny (C : CSpec) (GT : Nat → Option AV) (ops : Array Oper) (ais : List AI) (K : GF → Heap → Prop) : Nat → Array Bool → GF → Heap → Prop
 | 0,listed,g,H=>Region.ready .any ops listed = [] ∧ K g H
 | f + 1,listed,g,H=>Region.ready .any ops listed ≠ [] ∧
  ∀ i ∈ Region.ready .any ops listed,∃ ai v H',ais[i]? = some ai ∧ AYields C GT ai g H v H' ∧ AAny C GT ops ais K f (listed.setIfInBounds i true) (putg g ai.dst v) H'
inductive Dep (ops : Array Oper) : Nat → Nat → Prop where
 | base {j : Nat} {o : Oper} {e : Edge} (ho : ops[j]? = some o) (he : e ∈ o.after) (hb : Region.binds .any e = true) : Dep ops e.on j
 | tail {i j : Nat} {o : Oper} {e : Edge} (h : Dep ops i e.on) (ho : ops[j]? = some o) (he : e ∈ o.after) (hb : Region.binds .any e = true) : Dep ops i j
def Closed (ops : Array Oper) (listed : Array Bool) : Prop:=
 ∀ j o,ops[j]? = some o → listed.getD j false = true → ∀ e ∈ o.after,Region.binds .any e = true → listed.getD e.on false = true
theorem Dep.listed {listed : Array Bool} (hc : Closed ops listed) {i j : Nat} (h : Dep ops i j) (hj : listed.getD j false = true) : listed.getD i false = true:=by
 induction h with
 | base ho he hb=>exact hc _ _ ho hj _ he hb
 | tail _ ho he hb ih=>exact ih (hc _ _ ho hj _ he hb)
theorem Dep.ready {listed : Array Bool} (hc : Closed ops listed) {i j : Nat} (h : Dep ops i j) (hj : j ∈ Region.ready .any ops listed) : listed.getD i false = true:=by
 obtain ⟨_,o',ho',hall⟩:=mem_ready.1 hj
 cases h with
 | base ho he hb=>rw [ho'] at ho; cases ho; exact hall _ he hb
 | tail h ho he hb=>rw [ho'] at ho; cases ho; exact h.listed hc (hall _ he hb)
theorem Closed.set {listed : Array Bool} (hc : Closed ops listed) {i : Nat} (hi : i ∈ Region.ready .any ops listed) : Closed ops (listed.setIfInBounds i true):=by
 obtain ⟨_,o',ho',hall⟩:=mem_ready.1 hi
 intro j o ho hl e he hb
 by_cases hij : i = j
 ·subst hij
  rw [ho'] at ho; cases ho
  exact getD_set_true (hall e he hb)
 ·rw [getD_set_ne false hij] at hl
  exact getD_set_true (hc j o ho hl e he hb)
theorem zKs {listed : Array Bool} {i : Nat} (h : listed.getD i true = false) (h' : listed.getD i false = true) : False:=by
 rcases Nat.lt_or_ge i listed.size with h1 | h1
 ·simp [h1] at h h'; rw [h] at h'; cases h'
 ·simp [Array.getElem?_eq_none h1] at h
theorem zLe {K : GF → Heap → Prop} {i : Nat} {ai : AI} (hi : ais[i]? = some ai) : ∀ (f : Nat) (listed : Array Bool) (g : GF) (H : Heap) (v : AV) (H1 : Heap),Closed ops listed →
  (∀ j aj,ais[j]? = some aj → j ≠ i → listed.getD j true = false → ai.apart aj = true ∨ Dep ops i j) → i ∈ Region.ready .any ops listed → AYields C GT ai g H v H1 →
  AAny C GT ops ais K f (listed.setIfInBounds i true) (putg g ai.dst v) H1 → AAny C GT ops ais K (f + 1) listed g H:=by
 intro f
 induction f with
 | zero=>
  intro listed g H v H1 hc hfree hr hy hA
  refine ⟨fun h=>(by rw [h] at hr; cases hr),fun j hj=>?_⟩
  by_cases hji : j = i
  ·subst hji; exact ⟨ai,v,H1,hi,hy,hA⟩
  ·have:=ready_mono hj hji
   rw [hA.1] at this
   cases this
 | succ f ih=>
  intro listed g H v H1 hc hfree hr hy hA
  refine ⟨fun h=>(by rw [h] at hr; cases hr),fun j hj=>?_⟩
  by_cases hji : j = i
  ·subst hji; exact ⟨ai,v,H1,hi,hy,hA⟩
  ·obtain ⟨aj,u,H2,haj,hyj,hA2⟩:=hA.2 j (ready_mono hj hji)
   have hjun:=(mem_ready.1 hj).1
   have hap : ai.apart aj = true:=by
    rcases hfree j aj haj hji hjun with h | h
    ·exact h
    ·exact (zKs (mem_ready.1 hr).1 (h.ready hc hj)).elim
   obtain ⟨H3,h1,h2,h3⟩:=zGW hap hy hyj
   refine ⟨aj,u,H3,haj,h1,ih _ _ _ v H2 (hc.set hj) (fun k ak hk hki hun=>hfree k ak hk hki ?_) (ready_mono hr (Ne.symm hji)) h2 ?_⟩
   ·by_cases hjk : j = k
    ·subst hjk; exact hjun
    ·rw [getD_set_ne true hjk] at hun; exact hun
   ·rw [← h3,Array.setIfInBounds_comm _ _ hji]
    exact hA2
end
end Go.AM
namespace Go.AM
def AText (C : CSpec) (GT : Nat → Option AV) : List AI → GF → Heap → (GF → Heap → Prop) → Prop
 | [],g,H,K=>K g H
 | i :: is,g,H,K=>∃ v H',AYields C GT i g H v H' ∧ AText C GT is (putg g i.dst v) H' K
theorem zGX {C : CSpec} {GT : Nat → Option AV} {K : Fr → Heap → Prop} : ∀ (is : List AI) (fr : Fr) (H : Heap),AWops C GT is fr H K → AText C GT is (get fr) H fun g H'=>∃ fr',get fr' = g ∧ K fr' H'
 | [],fr,H,h=>⟨fr,rfl,h⟩
 | i :: is,fr,H,h=>by
  obtain ⟨v,H',h1,h2⟩:=zFA h
  have:=zGX is _ _ h2
  rw [zD9] at this
  exact ⟨v,H',h1,this⟩
section
variable {ops : Array Oper} {ais : List AI}
structure Ordered (ops : Array Oper) (ais : List AI) : Prop where
 len : ais.length = ops.size
 back : ∀ j o,ops[j]? = some o → ∀ e ∈ o.after,Region.binds .any e = true → e.on < j
 pair : ∀ i j ai aj,i < j → ais[i]? = some ai → ais[j]? = some aj → ai.apart aj = true ∨ Dep ops i j
def Upto (listed : Array Bool) (k n : Nat) : Prop:=listed.size = n ∧ ∀ j,j < n → listed[j]? = some (decide (j < k))
theorem Upto.getD {listed : Array Bool} {k n : Nat} (h : Upto listed k n) (j : Nat) (d : Bool) : listed.getD j d = if j < n then decide (j < k) else d:=by
 by_cases hj : j < n
 ·have:=h.2 j hj
  rw [if_pos hj,Array.getD_eq_getD_getElem?,this]; rfl
 ·rw [if_neg hj,Array.getD_eq_getD_getElem?,Array.getElem?_eq_none (by rw [h.1]; omega)]; rfl
theorem Upto.set {listed : Array Bool} {k n : Nat} (h : Upto listed k n) (hk : k < n) : Upto (listed.setIfInBounds k true) (k + 1) n:=by
 refine ⟨by simp [h.1],fun j hj=>?_⟩
 by_cases hkj : k = j
 ·subst hkj
  rw [Array.getElem?_setIfInBounds_self_of_lt (by rw [h.1]; exact hk)]
  simp
 ·rw [Array.getElem?_setIfInBounds_ne hkj,h.2 j hj]
  congr 1
  simp only [decide_eq_decide]
  omega
theorem Upto.closed {listed : Array Bool} {k : Nat} (h : Upto listed k ops.size) (hO : Ordered ops ais) : Closed ops listed:=by
 intro j o ho hl e he hb
 have hlt:=hO.back j o ho e he hb
 have hj : j < ops.size:=(Array.getElem?_eq_some_iff.1 ho).1
 rw [h.getD,if_pos hj] at hl
 rw [h.getD,if_pos tO]
 simp only [decide_eq_true_eq] at *
 omega
theorem zJE {C : CSpec} {GT : Nat → Option AV} (hO : Ordered ops ais) {K : GF → Heap → Prop} : ∀ (l : List AI) (k : Nat) (listed : Array Bool) (g : GF) (H : Heap),(∀ j,l[j]? = ais[k + j]?) → k + l.length = ops.size →
  Upto listed k ops.size → AText C GT l g H K → AAny C GT ops ais K l.length listed g H
 | [],k,listed,g,H,hl,hn,hu,h=>by
  refine ⟨?_,h⟩
  apply List.eq_nil_iff_forall_not_mem.2
  intro j hj
  have h0:=(mem_ready.1 hj).1
  rw [hu.getD] at h0
  simp at hn
  split at h0
  ·simp at h0; omega
  ·cases h0
 | i :: is,k,listed,g,H,hl,hn,hu,h=>by
  obtain ⟨v,H1,hy,h⟩:=h
  have hk : k < ops.size:=by simp at hn; omega
  have hi : ais[k]? = some i:=by simpa using (hl 0).symm
  refine zLe hi is.length listed g H v H1 (hu.closed hO) (fun j aj haj hne hun=>?_) ?_ hy ?_
  ·rw [hu.getD] at hun
   have hjlt : j < ops.size:=by rw [← hO.len]; exact (zg haj).1
   rw [if_pos hjlt] at hun
   simp only [decide_eq_false_iff_not] at hun
   exact hO.pair k j i aj tO hi haj
  ·rw [mem_ready]
   refine ⟨by rw [hu.getD,if_pos hk]; simp,ops[k],by simp [hk],fun e he hb=>?_⟩
   have:=hO.back k ops[k] (by simp [hk]) e he hb
   rw [hu.getD,if_pos tO]
   simpa using this
  ·exact zJE hO is (k + 1) _ _ _ (fun j=>by have:=hl (j + 1); simpa [Nat.add_assoc,Nat.add_comm 1 j] using this) (by simp at hn; omega) (hu.set hk) h
def zEW (acc : List Nat) : List Nat → Nat
 | []=>0
 | e :: es=>(2 ^ e ||| acc.getD e 0) ||| zEW acc es
def zIH (m : Nat) : Nat → List AI → AI → Bool
 | _,[],_=>true
 | i,x :: xs,y=>(m.testBit i || x.apart y) && zIH m (i + 1) xs y
def zBv (o : Oper) : List Nat:=(o.after.toList.filter (Region.binds .any)).map (·.on)
def zFU : List AI → List Nat → List Oper → List AI → Bool
 | _,_,[],[]=>true
 | done,acc,o :: os,y :: ys=>(zBv o).all (fun e=>decide (e < acc.length)) && zIH (zEW acc (zBv o)) 0 done y && zFU (done ++ [y]) (acc ++ [zEW acc (zBv o)]) os ys
 | _,_,_,_=>false
theorem zFV {o : Oper} {e : Nat} : e ∈ zBv o ↔ ∃ d ∈ o.after,Region.binds .any d = true ∧ d.on = e:=by
 simp only [zBv,List.mem_map,List.mem_filter,Array.mem_toList_iff]
 constructor
 ·rintro ⟨d,⟨h1,h2⟩,h3⟩; exact ⟨d,h1,h2,h3⟩
 ·rintro ⟨d,h1,h2,h3⟩; exact ⟨d,⟨h1,h2⟩,h3⟩
theorem zEC {acc : List Nat} {j : Nat} {o : Oper} (ho : ops[j]? = some o) (hacc : ∀ (e m : Nat),acc[e]? = some m → ∀ i,m.testBit i = true → Dep ops i e) : ∀ (es : List Nat),(∀ e ∈ es,e ∈ zBv o) →
  ∀ i,(zEW acc es).testBit i = true → Dep ops i j
 | [],_,i,h=>by simp [zEW] at h
 | e :: es,hes,i,h=>by
  simp only [zEW,Nat.testBit_or,Bool.or_eq_true,Nat.testBit_two_pow,decide_eq_true_eq] at h
  obtain ⟨d,h1,h2,h3⟩:=zFV.1 (hes e (by simp))
  rcases h with (h | h) | h
  ·subst h; subst h3; exact .base ho h1 h2
  ·rw [List.getD_eq_getElem?_getD] at h
   cases ha : acc[e]? with
   | none=>rw [ha] at h; simp at h
   | some m=>
    rw [ha] at h
    subst h3
    exact .tail (hacc _ m ha i h) ho h1 h2
  ·exact zEC ho hacc es (fun e he=>hes e (List.mem_cons_of_mem _ he)) i h
theorem zFW {m : Nat} {y : AI} : ∀ (xs : List AI) (i : Nat),zIH m i xs y = true → ∀ j x,xs[j]? = some x → m.testBit (i + j) = true ∨ x.apart y = true
 | [],_,_,j,x,hx=>by simp at hx
 | z :: xs,i,h,j,x,hx=>by
  simp only [zIH,Bool.and_eq_true,Bool.or_eq_true] at h
  cases j with
  | zero=>simp at hx; subst hx; exact h.1
  | succ j=>
   have:=zFW xs (i + 1) h.2 j x (by simpa using hx)
   rwa [show i + (j + 1) = i + 1 + j by omega]
theorem zGY : ∀ (os : List Oper) (ys : List AI) (done : List AI) (acc : List Nat),zFU done acc os ys = true → done.length = acc.length → (∀ j,os[j]? = ops[acc.length + j]?) → acc.length + os.length = ops.size →
  (∀ j,ys[j]? = ais[acc.length + j]?) → (∀ j,j < done.length → done[j]? = ais[j]?) → (∀ (e m : Nat),acc[e]? = some m → ∀ i,m.testBit i = true → Dep ops i e) →
  ys.length = os.length ∧ ∀ j,acc.length ≤ j → (∀ o,ops[j]? = some o → ∀ e ∈ o.after,Region.binds .any e = true → e.on < j) ∧
   ∀ i ai aj,i < j → ais[i]? = some ai → ais[j]? = some aj → ai.apart aj = true ∨ Dep ops i j
 | [],[],done,acc,_,hd,hos,hn,hys,hdone,hacc=>by
  refine ⟨rfl,fun j hj=>⟨fun o ho=>?_,fun i ai aj hij hi haj=>?_⟩⟩
  ·have:=hos (j - acc.length)
   rw [show acc.length + (j - acc.length) = j by omega,ho] at this
   simp at this
  ·have:=hys (j - acc.length)
   rw [show acc.length + (j - acc.length) = j by omega,haj] at this
   simp at this
 | [],_ :: _,_,_,h,_,_,_,_,_,_=>by simp [zFU] at h
 | _ :: _,[],_,_,h,_,_,_,_,_,_=>by simp [zFU] at h
 | o :: os,y :: ys,done,acc,h,hd,hos,hn,hys,hdone,hacc=>by
  simp only [zFU,Bool.and_eq_true,List.all_eq_true,decide_eq_true_eq] at h
  obtain ⟨⟨h1,h2⟩,h3⟩:=h
  have ho : ops[acc.length]? = some o:=by simpa using (hos 0).symm
  have hy : ais[acc.length]? = some y:=by simpa using (hys 0).symm
  have hm:=zEC ho hacc (zBv o) (fun _ h=>h)
  have IH:=zGY os ys (done ++ [y]) (acc ++ [zEW acc (zBv o)]) h3 (by simp [hd])
   (fun j=>by have:=hos (j + 1); simpa [Nat.add_assoc,Nat.add_comm 1 j] using this) (by simp at hn ⊢; omega)
   (fun j=>by have:=hys (j + 1); simpa [Nat.add_assoc,Nat.add_comm 1 j] using this)
   (fun j hj=>by
    simp at hj
    by_cases hjd : j < done.length
    ·rw [List.getElem?_append_left hjd]; exact hdone j hjd
    ·have : j = acc.length:=by omega
     subst this
     rw [List.getElem?_append_right tO,hy,hd]; simp)
   (fun e m hem i hi=>by
    by_cases he : e < acc.length
    ·rw [List.getElem?_append_left he] at hem; exact hacc e m hem i hi
    ·rw [List.getElem?_append_right tO] at hem
     have hlt:=(zg hem).1
     simp at hlt
     have : e = acc.length:=by omega
     subst this
     simp at hem
     subst hem
     exact hm i hi)
  refine ⟨by simp [IH.1],fun j hj=>?_⟩
  by_cases hje : j = acc.length
  ·subst hje
   refine ⟨fun o' ho' e he hb=>?_,fun i ai aj hij hi haj=>?_⟩
   ·rw [ho] at ho'; cases ho'
    exact h1 _ (zFV.2 ⟨e,he,hb,rfl⟩)
   ·rw [hy] at haj; cases haj
    rcases zFW done 0 h2 i ai (by rw [hdone i tO]; exact hi) with h | h
    ·exact .inr (hm i (by simpa using h))
    ·exact .inl h
  ·exact IH.2 j (by simp; omega)
theorem zLf (h : zFU [] [] ops.toList ais = true) : Ordered ops ais:=by
 obtain ⟨h1,h2⟩:=zGY (ops:=ops) (ais:=ais) ops.toList ais [] [] h rfl (by simp) (by simp) (by simp) (by simp) (by simp)
 exact ⟨by simpa using h1,fun j o ho e he hb=>(h2 j (by simp)).1 o ho e he hb,fun i j ai aj hij hi hj=>(h2 j (by simp)).2 i ai aj hij hi hj⟩
variable {D : List Deferred} {P : Program} {GT : Nat → Option AV}
theorem zCn {N : Nat} : ∀ (os : List Oper) (is : List AI),zA5 P N ops os is = true → ∀ (j : Nat) o i,os[j]? = some o → is[j]? = some i → zIG P N ops o i = true
 | [],[],_,j,o,i,ho,_=>by simp at ho
 | [],_ :: _,h,_,_,_,_,_=>by simp [zA5] at h
 | _ :: _,[],h,_,_,_,_,_=>by simp [zA5] at h
 | x :: os,y :: is,h,j,o,i,ho,hi=>by
  simp only [zA5,Bool.and_eq_true] at h
  cases j with
  | zero=>simp at ho hi; subst ho hi; exact h.1
  | succ j=>exact zCn os is h.2 j o i (by simpa using ho) (by simpa using hi)
theorem zMx {N : Nat} {Q : Exit → Act → World → Prop} {K : GF → Heap → Prop} (hc : zA5 P N ops ops.toList ais = true) : ∀ (f : Nat) (listed : Array Bool) (w : World) (M : AMap) (I : Nat → Prop) (H : Heap) (g : GF) (a : Act),
  Sim GT w M I H → ActOK D w M I H.length N g a → AAny (Good P GT) GT ops ais K f listed g H →
  (∀ g' H' a' w' M' I',Grow w M I H w' M' I' H' → Sim GT w' M' I' H' → ActOK D w' M' I' H'.length N g' a' → K g' H' → Q .normal a' w') → wpAny P .any ops Q f listed a w:=by
 intro f
 induction f with
 | zero=>intro listed w M I H g a hS hF hA hQ; exact ⟨hA.1,hQ g H a w M I (Grow.refl ..) hS hF hA.2⟩
 | succ f ih=>
  intro listed w M I H g a hS hF hA hQ
  refine ⟨fun h=>absurd h hA.1,fun i hi=>?_⟩
  obtain ⟨ai,v,H',hai,hy,hA'⟩:=hA.2 i hi
  obtain ⟨_,o,ho,_⟩:=mem_ready.1 hi
  unfold wpOp
  simp only [ho]
  exact zF4 hS hF (zCn _ _ hc i o ai (by simpa using ho) hai) hy fun a' w' M' I' hG hS' hF'=>
   ih _ w' M' I' H' _ a' hS' hF' hA' fun g2 H2 a2 w2 M2 I2 hG2=>hQ g2 H2 a2 w2 M2 I2 (hG.trans hG2)
theorem zLg {N id : Nat} {is : List AI} {Q : Exit → Act → World → Prop} {K : Fr → Heap → Prop} {w : World} {M : AMap} {I : Nat → Prop} {H : Heap} {fr : Fr} {a : Act} (hm : P.follows .mixedOrders = true)
  (hS : Sim GT w M I H) (hF : ActOK D w M I H.length N (get fr) a) (hc : zA5 P N ops ops.toList is = true) (ho : zFU [] [] ops.toList is = true) (hA : AWops (Good P GT) GT is fr H K)
  (hQ : ∀ fr' H' a' w' M' I',Grow w M I H w' M' I' H' → Sim GT w' M' I' H' → ActOK D w' M' I' H'.length N (get fr') a' → K fr' H' → Q .normal a' w') : (Code.region id ops true).wp P Q a w:=by
 have hO:=zLf ho
 refine wp_region_any hm ?_
 have h1:=zGX is fr H hA
 have h2:=zJE hO is 0 (Array.replicate ops.size false) (get fr) H (by simp) (by simpa using hO.len) ⟨by simp,fun j hj=>by simp [hj]⟩ h1
 rw [hO.len] at h2
 have hG0 : Grow w M I H { w with drawn:=w.drawn + 1 } M I H:=Grow.same rfl rfl rfl rfl
 refine zMx hc ops.size _ _ M I H (get fr) a (hS.same rfl) (hF.grow hG0 hS) h2 ?_
 rintro g' H' a' w' M' I' hG hS' hF' ⟨fr',rfl,hK⟩
 exact hQ fr' H' a' w' M' I' (hG0.trans hG) hS' hF' hK
end
end Go.AM
namespace Go.AM
section
variable {C : CSpec} {GT : Nat → Option AV} {ops : Array Oper} {ais : List AI}
def zKB (C : CSpec) (GT : Nat → Option AV) (ops : Array Oper) (ais : List AI) (K : GF → Heap → Prop) (KP : AV → Heap → Prop) : Nat → Array Bool → GF → Heap → Prop
 | 0,listed,g,H=>Region.ready .any ops listed = [] ∧ K g H
 | f + 1,listed,g,H=>(Region.ready .any ops listed = [] → K g H) ∧
  ∀ i ∈ Region.ready .any ops listed,∃ ai,ais[i]? = some ai ∧
   ((∃ v H',AYields C GT ai.plain g H v H' ∧ zKB C GT ops ais K KP f (listed.setIfInBounds i true) (putg g ai.dst v) H') ∨ (∃ x H',zAm C GT ai g H x H' ∧ KP x H'))
theorem zII {i : AI} {g g' : GF} (hg : ∀ t ∈ i.looks,g' t = g t) {H : Heap} {x : AV} {H' : Heap} (h : zAm C GT i g H x H') : zAm C GT i g' H x H':=by
 have hxs : i.xs.map (evg GT g') = i.xs.map (evg GT g):=List.map_congr_left fun x hx=>by
  cases x with
  | tmp t=>exact hg t (List.mem_append_left _ (List.mem_filterMap.2 ⟨.tmp t,hx,rfl⟩))
  | _=>rfl
 unfold zAm at *
 cases hgd : i.g with
 | none=>rw [hgd] at h; rw [hxs]; exact h
 | some sw=>
  obtain ⟨s,want⟩:=sw
  rw [hgd] at h
  exact ⟨by rw [hg s (by simp [AI.looks,hgd])]; exact h.1,by rw [hxs]; exact h.2⟩
def AK.isP : AK → Bool
 | .callp _=>true
 | .callvp=>true
 | .panic=>true
 | _=>false
theorem zJF {k : AK} {vs : List AV} {H : Heap} {x : AV} {H' : Heap} (h : zIF C k vs H x H') : k.isP = true:=by
 cases k <;> first | rfl | exact h.elim
theorem zED {i : AI} {g : GF} {H : Heap} {x : AV} {H' : Heap} (h : zAm C GT i g H x H') : i.k.isP = true:=by
 unfold zAm at h
 split at h
 ·exact zJF h
 ·exact zJF h.2
theorem zPt {k : AK} (h : k.isP = true) : k.plainK.cls = 2:=by
 cases k <;> first | rfl | cases h
theorem zMy {k : AK} (h : k.isP = true) : k.plainK.grows = false:=by
 cases k <;> first | rfl | cases h
theorem zKC {K : GF → Heap → Prop} {KP : AV → Heap → Prop} {i : Nat} {ai : AI} (hi : ais[i]? = some ai) : ∀ (f : Nat) (listed : Array Bool) (g : GF) (H : Heap) (v : AV) (H1 : Heap),Closed ops listed →
  (∀ j aj,ais[j]? = some aj → j ≠ i → listed.getD j true = false → ai.plain.apart aj.plain = true ∨ Dep ops i j) → i ∈ Region.ready .any ops listed → AYields C GT ai.plain g H v H1 →
  zKB C GT ops ais K KP f (listed.setIfInBounds i true) (putg g ai.dst v) H1 → zKB C GT ops ais K KP (f + 1) listed g H:=by
 intro f
 induction f with
 | zero=>
  intro listed g H v H1 hc hfree hr hy hA
  refine ⟨fun h=>(by rw [h] at hr; cases hr),fun j hj=>?_⟩
  by_cases hji : j = i
  ·subst hji; exact ⟨ai,hi,.inl ⟨v,H1,hy,hA⟩⟩
  ·have:=ready_mono hj hji
   rw [hA.1] at this
   cases this
 | succ f ih=>
  intro listed g H v H1 hc hfree hr hy hA
  refine ⟨fun h=>(by rw [h] at hr; cases hr),fun j hj=>?_⟩
  by_cases hji : j = i
  ·subst hji; exact ⟨ai,hi,.inl ⟨v,H1,hy,hA⟩⟩
  ·obtain ⟨aj,haj,hout⟩:=hA.2 j (ready_mono hj hji)
   have hjun:=(mem_ready.1 hj).1
   have hap : ai.plain.apart aj.plain = true:=by
    rcases hfree j aj haj hji hjun with h | h
    ·exact h
    ·exact (zKs (mem_ready.1 hr).1 (h.ready hc hj)).elim
   refine ⟨aj,haj, ?_⟩
   rcases hout with ⟨u,H2,hyj,hA2⟩ | ⟨x,H2,hyj,hKP⟩
   ·obtain ⟨H3,h1,h2,h3⟩:=zGW hap hy hyj
    refine .inl ⟨u,H3,h1,ih _ _ _ v H2 (hc.set hj) (fun k ak hk hki hun=>hfree k ak hk hki ?_) (ready_mono hr (Ne.symm hji)) h2 ?_⟩
    ·by_cases hjk : j = k
     ·subst hjk; exact hjun
     ·rw [getD_set_ne true hjk] at hun; exact hun
    ·have h3' : putg (putg g ai.dst v) aj.dst u = putg (putg g aj.dst u) ai.dst v:=h3
     show zKB C GT ops ais K KP f _ (putg (putg g aj.dst u) ai.dst v) H2
     rw [← h3',Array.setIfInBounds_comm _ _ hji]
     exact hA2
   ·obtain ⟨h1,_,_,h4⟩:=AI.apart_spec hap
    have hcl:=zPt (zED hyj)
    have h0 : ai.plain.k.cls = 0:=by
     rcases h4 with h | h | h | h
     ·exact h
     ·have : aj.k.plainK.cls = 0:=h
      rw [hcl] at this; cases this
     ·have : aj.k.plainK.cls = 1:=h.2
      rw [hcl] at this; cases this
     ·have : aj.k.plainK.grows = true:=h.2
      rw [zMy (zED hyj)] at this; cases this
    obtain ⟨rfl,_⟩:=zEA h0 hy
    exact .inr ⟨x,H2,zII (i:=aj) (g:=putg g ai.dst v) (fun t ht=>(zFB (g:=g) (d:=ai.dst) (v:=v) (L:=aj.looks) h1 t ht).symm) hyj,hKP⟩
def zBY : OT → Nat
 | .done=>0
 | .step _ t=>zBY t + 1
 | .alt a b=>max (zBY a) (zBY b)
def zKD : List Oper → List Nat → List Nat
 | [],acc=>acc
 | o :: os,acc=>zKD os (acc ++ [zEW acc (zBv o)])
theorem zFX : ∀ (os : List Oper) (acc : List Nat),(∀ j,os[j]? = ops[acc.length + j]?) → (∀ (e m : Nat),acc[e]? = some m → ∀ i,m.testBit i = true → Dep ops i e) →
  ∀ (e m : Nat),(zKD os acc)[e]? = some m → ∀ i,m.testBit i = true → Dep ops i e
 | [],acc,_,h,e,m,he,i,hi=>h e m he i hi
 | o :: os,acc,hos,h,e,m,he,i,hi=>by
  have ho : ops[acc.length]? = some o:=by simpa using (hos 0).symm
  have hm:=zEC ho h (zBv o) (fun _ h=>h)
  refine zFX os (acc ++ [zEW acc (zBv o)]) (fun j=>by have:=hos (j + 1); simpa [Nat.add_assoc,Nat.add_comm 1 j] using this) (fun e m hem i hi=>?_) e m he i hi
  by_cases hl : e < acc.length
  ·rw [List.getElem?_append_left hl] at hem; exact h e m hem i hi
  ·rw [List.getElem?_append_right tO] at hem
   have hlt:=(zg hem).1
   simp at hlt
   obtain rfl : e = acc.length:=by omega
   simp at hem
   subst hem
   exact hm i hi
def zOR (masks : List Nat) (listed : Array Bool) (j : Nat) (ai : AI) : Nat → List AI → Bool
 | _,[]=>true
 | k,y :: ys=>(k == j || listed.getD k true || ai.plain.apart y.plain || (masks.getD k 0).testBit j) && zOR masks listed j ai (k + 1) ys
theorem zHm {masks : List Nat} {listed : Array Bool} {j : Nat} {ai : AI} : ∀ (ys : List AI) (k : Nat),zOR masks listed j ai k ys = true → ∀ n y,ys[n]? = some y → k + n ≠ j → listed.getD (k + n) true = false → ai.plain.apart y.plain = true ∨ (masks.getD (k + n) 0).testBit j = true
 | [],_,_,n,y,hy,_,_=>by simp at hy
 | z :: ys,k,h,n,y,hy,hne,hl=>by
  simp only [zOR,Bool.and_eq_true,Bool.or_eq_true,beq_iff_eq,or_assoc] at h
  cases n with
  | zero=>
   simp at hy; subst hy
   rcases h.1 with h | h | h | h
   ·exact absurd h hne
   ·rw [show k + 0 = k from rfl,h] at hl; cases hl
   ·exact .inl h
   ·exact .inr h
  | succ n=>
   have:=zHm ys (k + 1) h.2 n y (by simpa using hy) tO (by rw [show k + 1 + n = k + (n + 1) by omega]; exact hl)
   rwa [show k + 1 + n = k + (n + 1) by omega] at this
def zPu (i : Nat) : OT → Bool
 | .done=>false
 | .step j _=>j == i
 | .alt a b=>zPu i a || zPu i b
def zIJ (ops : Array Oper) (ais : List AI) (masks : List Nat) : Bool → OT → Array Bool → Bool
 | br,.done,listed=>!br && (Region.ready .any ops listed).isEmpty
 | br,.step j t,listed=>(Region.ready .any ops listed).contains j &&
   (br || (Region.ready .any ops listed).all (· == j) || (match ais[j]? with
    | some ai=>!ai.k.isP && zOR masks listed j ai 0 ais
    | none=>false)) && zIJ ops ais masks false t (listed.setIfInBounds j true)
 | br,.alt a b,listed=>(br || (Region.ready .any ops listed).all fun i=>zPu i (.alt a b)) && zIJ ops ais masks true a listed && zIJ ops ais masks true b listed
def Branch (C : CSpec) (GT : Nat → Option AV) (ops : Array Oper) (ais : List AI) (K : GF → Heap → Prop) (KP : AV → Heap → Prop) (f : Nat) (listed : Array Bool) (g : GF) (H : Heap) (i : Nat) : Prop:=
 ∃ ai,ais[i]? = some ai ∧ ((∃ v H',AYields C GT ai.plain g H v H' ∧ zKB C GT ops ais K KP f (listed.setIfInBounds i true) (putg g ai.dst v) H') ∨ (∃ x H',zAm C GT ai g H x H' ∧ KP x H'))
theorem zMz {masks : List Nat} : ∀ (t : OT) (listed : Array Bool),zIJ ops ais masks true t listed = true → 0 < zBY t ∧ Region.ready .any ops listed ≠ []
 | .done,listed,h=>by simp [zIJ] at h
 | .step j t,listed,h=>by
  simp only [zIJ,Bool.and_eq_true] at h
  refine ⟨by simp [zBY],fun e=>?_⟩
  rw [e] at h; simp at h
 | .alt a b,listed,h=>by
  simp only [zIJ,Bool.and_eq_true] at h
  obtain ⟨h1,h2⟩:=zMz a listed h.1.2
  exact ⟨by simp only [zBY]; omega,h2⟩
theorem zLh {K : Fr → Heap → Prop} {KP : AV → Heap → Prop} {masks : List Nat} (hm : ∀ (e m : Nat),masks[e]? = some m → ∀ i,m.testBit i = true → Dep ops i e) : ∀ (t : OT),
  (∀ f listed fr H,zIJ ops ais masks false t listed = true → zBY t ≤ f → Closed ops listed → AWT C GT ais t fr H K KP → zKB C GT ops ais (fun g H'=>∃ fr',get fr' = g ∧ K fr' H') KP f listed (get fr) H) ∧
  (∀ f listed fr H,zIJ ops ais masks true t listed = true → zBY t ≤ f + 1 → Closed ops listed → AWT C GT ais t fr H K KP → ∀ i,zPu i t = true → Branch C GT ops ais (fun g H'=>∃ fr',get fr' = g ∧ K fr' H') KP f listed (get fr) H i):=by
 intro t
 induction t with
 | done=>
  refine ⟨fun f listed fr H hc hd hcl hA=>?_,fun f listed fr H hc=>by simp [zIJ] at hc⟩
  have he : Region.ready .any ops listed = []:=by simpa [zIJ] using hc
  cases f with
  | zero=>exact ⟨he,fr,rfl,hA⟩
  | succ f=>exact ⟨fun _=>⟨fr,rfl,hA⟩,fun i hi=>(by rw [he] at hi; cases hi)⟩
 | step j t ih=>
  have br : ∀ f listed fr H,j ∈ Region.ready .any ops listed → zIJ ops ais masks false t (listed.setIfInBounds j true) = true → zBY t ≤ f → Closed ops listed → AWT C GT ais (.step j t) fr H K KP →
    Branch C GT ops ais (fun g H'=>∃ fr',get fr' = g ∧ K fr' H') KP f listed (get fr) H j:=by
   intro f listed fr H hj hc hd hcl hA
   obtain ⟨ai,hai,hout⟩:=zF5 hA
   refine ⟨ai,hai, ?_⟩
   rcases hout with ⟨v,H',hy,hA'⟩ | ⟨x,H',hy,hk⟩
   ·refine .inl ⟨v,H',hy, ?_⟩
    have:=ih.1 f _ _ H' hc hd (hcl.set hj) hA'
    rw [zD9] at this
    exact this
   ·exact .inr ⟨x,H',hy,hk⟩
  refine ⟨fun f listed fr H hc hd hcl hA=>?_,fun f listed fr H hc hd hcl hA i hi=>?_⟩
  ·simp only [zIJ,Bool.and_eq_true,Bool.false_or,Bool.or_eq_true,List.contains_iff_mem] at hc
   obtain ⟨⟨hj,hfr⟩,hc⟩:=hc
   cases f with
   | zero=>simp [zBY] at hd
   | succ f=>
    have hd' : zBY t ≤ f:=by simp only [zBY] at hd; omega
    rcases hfr with hall | hfree
    ·refine ⟨fun e=>(by rw [e] at hj; cases hj),fun i hi=>?_⟩
     have hij : i = j:=by simpa using List.all_eq_true.1 hall i hi
     subst hij
     exact br f listed fr H hj hc hd' hcl hA
    ·split at hfree
     ·rename_i ai hai
      simp only [Bool.and_eq_true,Bool.not_eq_true'] at hfree
      obtain ⟨ai',hai',hout⟩:=zF5 hA
      rw [hai] at hai'
      cases hai'
      rcases hout with ⟨v,H',hy,hA'⟩ | ⟨x,H',hy,_⟩
      ·have hin:=ih.1 f _ _ H' hc hd' (hcl.set hj) hA'
       rw [zD9] at hin
       refine zKC hai f listed (get fr) H v H' hcl (fun k ak hk hkj hun=>?_) hj hy hin
       have:=zHm ais 0 hfree.2 k ak hk tO (by simpa using hun)
       rcases this with h | h
       ·exact .inl h
       ·right
        rw [Nat.zero_add,List.getD_eq_getElem?_getD] at h
        cases hmk : masks[k]? with
        | none=>rw [hmk] at h; simp at h
        | some m=>rw [hmk] at h; exact hm k m hmk j h
      ·have:=zED hy
       rw [hfree.1] at this; cases this
     ·cases hfree
  ·simp only [zIJ,Bool.and_eq_true,Bool.true_or,List.contains_iff_mem,and_true] at hc
   have hij : j = i:=by simpa [zPu] using hi
   subst hij
   exact br f listed fr H hc.1 hc.2 (by simp only [zBY] at hd; omega) hcl hA
 | alt a b iha ihb=>
  have br : ∀ f listed fr H,zIJ ops ais masks true a listed = true → zIJ ops ais masks true b listed = true → zBY (.alt a b) ≤ f + 1 → Closed ops listed → AWT C GT ais (.alt a b) fr H K KP → ∀ i,zPu i (.alt a b) = true →
    Branch C GT ops ais (fun g H'=>∃ fr',get fr' = g ∧ K fr' H') KP f listed (get fr) H i:=by
   intro f listed fr H ha hb hd hcl hA i hi
   simp only [zBY] at hd
   simp only [zPu,Bool.or_eq_true] at hi
   rcases hi with hi | hi
   ·exact iha.2 f listed fr H ha tO hcl hA.1 i hi
   ·exact ihb.2 f listed fr H hb tO hcl hA.2 i hi
  refine ⟨fun f listed fr H hc hd hcl hA=>?_,fun f listed fr H hc hd hcl hA i hi=>?_⟩
  ·simp only [zIJ,Bool.and_eq_true,Bool.false_or] at hc
   obtain ⟨⟨hall,ha⟩,hb⟩:=hc
   obtain ⟨h1,h2⟩:=zMz a listed ha
   cases f with
   | zero=>simp only [zBY] at hd; omega
   | succ f=>exact ⟨fun e=>absurd e h2,fun i hi=>br f listed fr H ha hb hd hcl hA i (List.all_eq_true.1 hall i hi)⟩
  ·simp only [zIJ,Bool.and_eq_true,Bool.true_or,true_and] at hc
   exact br f listed fr H hc.1 hc.2 hd hcl hA i hi
def zQn : OT → Nat → Nat → Bool
 | .done,k,n=>k == n
 | .step j t,k,n=>j == k && zQn t (k + 1) n
 | .alt _ _,_,_=>false
variable {D : List Deferred} {P : Program}
theorem zLi {N : Nat} {Q : Exit → Act → World → Prop} {K : GF → Heap → Prop} {KP : AV → Heap → Prop} (hc : zA5 P N ops ops.toList ais = true) : ∀ (f : Nat) (listed : Array Bool) (w : World) (M : AMap) (I : Nat → Prop) (H : Heap) (g : GF) (a : Act),
  Sim GT w M I H → ActOK D w M I H.length N g a → zKB (Good P GT) GT ops ais K KP f listed g H →
  (∀ g' H' a' w' M' I',Grow w M I H w' M' I' H' → Sim GT w' M' I' H' → ActOK D w' M' I' H'.length N g' a' → K g' H' → Q .normal a' w') →
  (∀ x xv g' H' a' w' M' I',Grow w M I H w' M' I' H' → Sim GT w' M' I' H' → ActOK D w' M' I' H'.length N g' a' → Rel w' M' I' H'.length x xv → KP x H' → Q (.panic [{ v:=xv,recovered:=false }]) a' w') → wpAny P .any ops Q f listed a w:=by
 intro f
 induction f with
 | zero=>intro listed w M I H g a hS hF hA hQ hP; exact ⟨hA.1,hQ g H a w M I (Grow.refl ..) hS hF hA.2⟩
 | succ f ih=>
  intro listed w M I H g a hS hF hA hQ hP
  refine ⟨fun h=>hQ g H a w M I (Grow.refl ..) hS hF (hA.1 h),fun i hi=>?_⟩
  obtain ⟨ai,hai,hout⟩:=hA.2 i hi
  obtain ⟨_,o,ho,_⟩:=mem_ready.1 hi
  unfold wpOp
  simp only [ho]
  have hck:=zCn _ _ hc i o ai (by simpa using ho) hai
  rcases hout with ⟨v,H',hy,hA'⟩ | ⟨x,H',hy,hk⟩
  ·exact zF4 hS hF (zGV hck) hy fun a' w' M' I' hG hS' hF'=>
    ih _ w' M' I' H' _ a' hS' hF' hA' (fun g2 H2 a2 w2 M2 I2 hG2=>hQ g2 H2 a2 w2 M2 I2 (hG.trans hG2)) (fun x xv g2 H2 a2 w2 M2 I2 hG2=>hP x xv g2 H2 a2 w2 M2 I2 (hG.trans hG2))
  ·exact zJB hS hF hck hy fun xv w' M' I' hG hS' hr=>hP x xv g H' a w' M' I' hG hS' (hF.grow hG hS) hr hk
theorem zLj {N : Nat} {Q : Exit → Act → World → Prop} {K : Fr → Heap → Prop} {KP : AV → Heap → Prop} (hc : zA5 P N ops ops.toList ais = true) : ∀ (t : OT) (k : Nat) (os : List Oper) (w : World) (M : AMap) (I : Nat → Prop) (H : Heap) (fr : Fr) (a : Act),
  (∀ j,os[j]? = ops.toList[k + j]?) → zQn t k (k + os.length) = true → Sim GT w M I H → ActOK D w M I H.length N (get fr) a → AWT (Good P GT) GT ais t fr H K KP →
  (∀ fr' H' a' w' M' I',Grow w M I H w' M' I' H' → Sim GT w' M' I' H' → ActOK D w' M' I' H'.length N (get fr') a' → K fr' H' → Q .normal a' w') →
  (∀ x xv g' H' a' w' M' I',Grow w M I H w' M' I' H' → Sim GT w' M' I' H' → ActOK D w' M' I' H'.length N g' a' → Rel w' M' I' H'.length x xv → KP x H' → Q (.panic [{ v:=xv,recovered:=false }]) a' w') → wpList P ops Q os a w:=by
 intro t
 induction t with
 | done=>
  intro k os w M I H fr a hos hck hS hF hA hQ hP
  cases os with
  | nil=>exact hQ fr H a w M I (Grow.refl ..) hS hF hA
  | cons=>simp [zQn] at hck
 | alt=>intro k os w M I H fr a hos hck; simp [zQn] at hck
 | step j t ih=>
  intro k os w M I H fr a hos hck hS hF hA hQ hP
  simp only [zQn,Bool.and_eq_true,beq_iff_eq] at hck
  obtain ⟨rfl,hck⟩:=hck
  obtain ⟨ai,hai,hout⟩:=zF5 hA
  have hlen : ∀ (os : List Oper) (is : List AI),zA5 P N ops os is = true → os.length = is.length:=by
   intro os
   induction os with
   | nil=>intro is h; cases is <;> simp [zA5] at h ⊢
   | cons o os ih=>intro is h; cases is with
    | nil=>simp [zA5] at h
    | cons i is=>simp only [zA5,Bool.and_eq_true] at h; simp [ih is h.2]
  cases os with
  | nil=>
   have h1:=hlen _ _ hc
   have h2:=(zg hai).1
   have h3:=hos 0
   simp only [List.getElem?_nil,Nat.add_zero] at h3
   have:=List.getElem?_eq_none_iff.1 h3.symm
   omega
  | cons o os=>
   have ho : ops.toList[j]? = some o:=by simpa using (hos 0).symm
   have hckA:=zCn _ _ hc j o ai ho hai
   have hos' : ∀ m,os[m]? = ops.toList[j + 1 + m]?:=fun m=>by have:=hos (m + 1); simpa [Nat.add_assoc,Nat.add_comm 1 m] using this
   unfold wpList
   rcases hout with ⟨v,H',hy,hA'⟩ | ⟨x,H',hy,hk⟩
   ·exact zF4 hS hF (zGV hckA) hy fun a' w' M' I' hG hS' hF'=>
     ih (j + 1) os w' M' I' H' (put fr ai.dst v) a' hos' (by rw [show j + 1 + os.length = j + (o :: os).length by simp; omega]; exact hck) hS' (by rw [zD9]; exact hF') hA'
      (fun g2 H2 a2 w2 M2 I2 hG2=>hQ g2 H2 a2 w2 M2 I2 (hG.trans hG2)) (fun x xv g2 H2 a2 w2 M2 I2 hG2=>hP x xv g2 H2 a2 w2 M2 I2 (hG.trans hG2))
   ·exact zJB hS hF hckA hy fun xv w' M' I' hG hS' hr=>hP x xv _ H' a w' M' I' hG hS' (hF.grow hG hS) hr hk
def zOS (ops : Array Oper) (ais : List AI) (draw : Bool) (t : OT) : Bool:=
 match draw with
 | false=>zQn t 0 ops.size
 | true=>zIJ ops ais (zKD ops.toList []) false t (Array.replicate ops.size false) && decide (zBY t ≤ ops.size)
theorem zLk {N id : Nat} {draw : Bool} {t : OT} {Q : Exit → Act → World → Prop} {K : Fr → Heap → Prop} {KP : AV → Heap → Prop} {w : World} {M : AMap} {I : Nat → Prop} {H : Heap} {fr : Fr} {a : Act} (hm : P.follows .mixedOrders = true)
  (hS : Sim GT w M I H) (hF : ActOK D w M I H.length N (get fr) a) (hc : zA5 P N ops ops.toList ais = true) (ht : zOS ops ais draw t = true) (hA : AWT (Good P GT) GT ais t fr H K KP)
  (hQ : ∀ fr' H' a' w' M' I',Grow w M I H w' M' I' H' → Sim GT w' M' I' H' → ActOK D w' M' I' H'.length N (get fr') a' → K fr' H' → Q .normal a' w')
  (hP : ∀ x xv g' H' a' w' M' I',Grow w M I H w' M' I' H' → Sim GT w' M' I' H' → ActOK D w' M' I' H'.length N g' a' → Rel w' M' I' H'.length x xv → KP x H' → Q (.panic [{ v:=xv,recovered:=false }]) a' w') : (Code.region id ops draw).wp P Q a w:=by
 cases draw with
 | false=>
  refine wp_region_list (zLj hc t 0 ops.toList w M I H fr a (by simp) (by simpa [zOS] using ht) hS hF hA hQ hP)
 | true=>
  refine wp_region_any hm ?_
  simp only [zOS,Bool.and_eq_true,decide_eq_true_eq] at ht
  have hcl : Closed ops (Array.replicate ops.size false):=fun j o ho hl e he hb=>by
   rw [Array.getD_eq_getD_getElem?] at hl
   by_cases hj : j < ops.size
   ·simp [hj] at hl
   ·simp [hj] at hl
  have h1:=(zLh (C:=Good P GT) (GT:=GT) (ais:=ais) (K:=K) (KP:=KP) (zFX (ops:=ops) ops.toList [] (by simp) (by simp)) t).1 ops.size _ fr H ht.1 ht.2 hcl hA
  have hG0 : Grow w M I H { w with drawn:=w.drawn + 1 } M I H:=Grow.same rfl rfl rfl rfl
  refine zLi hc ops.size _ _ M I H (get fr) a (hS.same rfl) (hF.grow hG0 hS) h1 ?_ ?_
  ·rintro g' H' a' w' M' I' hG hS' hF' ⟨fr',rfl,hK⟩
   exact hQ fr' H' a' w' M' I' (hG0.trans hG) hS' hF' hK
  ·exact fun x xv g' H' a' w' M' I' hG hS' hF' hr hk=>hP x xv g' H' a' w' M' I' (hG0.trans hG) hS' hF' hr hk
end
end Go.AM
