/- Several texts of mine in one (Am13, Am14, Am15, Am16, Am28, Am17, Am18, Am19). Own work. -/
import Derived.Test.YtmfmhljpddpfnaaGreatDoorAm12
import Derived.Orders
import Derived.Tactics
import Derived.ScopeJumps
set_option maxHeartbeats 4000000
set_option linter.all false
namespace Go.AM
section
variable {P:Program} {GT:zG_} {w:World} {M:AMap} {I:Nat->Prop} {H:Heap}
def zIs (P:Program) (r:Result Next) (next:Value->World->Prop):Prop:=
 match r with
 |.ok (.value v) w'=>next v w'
 |.ok .skip w'=>next Go.undef w'
 |.ok (.enter f args) w'=>Calls P f args w' fun e w''=>∃ v,e=.returned v/\next v w''
 |_=>False
theorem zIs.mono {r:Result Next} {next next':Value->World->Prop} (h:zIs P r next) (hn:∀ v w,next v w->next' v w):zIs P r next':=by
 unfold zIs at *;split at h
 ·exact hn _ _ h
 ·exact hn _ _ h
 ·exact h.mono fun e w' ⟨v,he,hv⟩=>⟨v,he,hn _ _ hv⟩
 ·exact h.elim
theorem zWo {o:Oper} {a:Act} {K:Act->World->Prop} {Q:Exit->Act->World->Prop} (h:zIs P ((execOp a.eval o).run P w) fun v w'=>K (a.put o.dst v) w'):o.wp P a w K Q:=by
 unfold Oper.wp;unfold zIs at h;split at h
 ·rename_i hr;rw [hr];exact h
 ·rename_i hr;rw [hr];exact h
 ·rename_i hr;rw [hr];exact h.mono fun e w' ⟨v,he,hv⟩=>by subst he;exact hv
 ·exact h.elim
def zNs (P:Program) (r:Result Next) (pn:Value->World->Prop):Prop:=
 match r with
 |.ok (.enter f args) w'=>Calls P f args w' fun e w''=>∃ v,e=.panicked [{ v,recovered:=false }]/\pn v w''
 |.halt (.panic v) w'=>pn v w'
 |_=>False
theorem zYr {o:Oper} {a:Act} {K:Act->World->Prop} {Q:Exit->Act->World->Prop} (h:zNs P ((execOp a.eval o).run P w) fun v w'=>Q (.panic [{ v,recovered:=false }]) a w'):o.wp P a w K Q:=by
 unfold Oper.wp;unfold zNs at h;split at h
 ·rename_i hr;rw [hr];exact h.mono fun e w' ⟨v,he,hv⟩=>by subst he;exact hv
 ·rename_i hr;rw [hr];exact h
 ·exact h.elim
def zgU (P:Program) (GT:zG_):CSpec:=fun f args H v H'=>
 ∀ (w:World) (M:AMap) (I:Nat->Prop) (cargs:List Value),Sim GT w M I H->zED w M I H.length args cargs ->
  zIs P ((callFunc f cargs.toArray).run P w) fun v' w'=>∃ M' I',Grow w M I H w' M' I' H'/\Sim GT w' M' I' H'/\Rel w' M' I' H'.length v v'
def zi2 (P:Program) (GT:zG_):CSpec:=fun f args H x H'=>
 ∀ (w:World) (M:AMap) (I:Nat->Prop) (cargs:List Value),Sim GT w M I H->zED w M I H.length args cargs ->
  zNs P ((callFunc f cargs.toArray).run P w) fun v' w'=>∃ M' I',Grow w M I H w' M' I' H'/\Sim GT w' M' I' H'/\Rel w' M' I' H'.length x v'
def Good (P:Program) (GT:zG_):CSpec:=fun f args H v H'=>
 match args with
 |.pan _::args'=>zi2 P GT f args' H v H'
 |args=>zgU P GT f args H v H'
def zIt:List AV->Bool
 |.pan _::_=>false
 |_=>true
theorem zgV {n:Nat} {x:AV} {v:Value} (h:Rel w M I n (.pan x) v):False:=by cases h
theorem Good.n {f:FuncId} {args:List AV} {v:AV} {H':Heap} {n:Nat} {cargs:List Value} (h:Good P GT f args H v H') (ha:zED w M I n args cargs):zgU P GT f args H v H':=by
 unfold Good at h;split at h
 ·rename_i x args'
  match cargs,ha with
  |[],ha=>exact absurd ha.1 zS_
  |c::cs,ha=>exact (zgV (ha.2 0 _ c rfl rfl)).elim
 ·exact h
theorem zIu {f:FuncId} {args:List AV} {v:AV} {H':Heap} (hn:zIt args=true) (h:zgU P GT f args H v H'):Good P GT f args H v H':=by
 unfold Good;split
 ·simp [zIt] at hn
 ·exact h
def zGS (C:CSpec) (k:AK) (vs:List AV) (H:Heap) (v:AV) (H':Heap):Prop:=
 match k with
 |.call f rd=>C f vs H v H'/\(rd=true->H'=H)
 |.callv rd=>match vs with
  |.fn f first caps::args=>C f (first++args++caps) H v H'/\(rd=true->H'=H)
  |_=>False
 |k=>astep k vs H=some (v,H')
theorem zNR {C:CSpec} {k:AK} {vs:List AV} {H:Heap} {K:AV->Heap->Prop} (h:zL2 C k vs H K):∃ v H',zGS C k vs H v H'/\K v H':=by
 cases k
 case call f rd=>obtain ⟨v,H',h1,h2,h3⟩:=h;exact ⟨v,H',⟨h1,h2⟩,h3⟩
 case callv rd=>
  simp only [zL2] at h;split at h
  ·grind +locals
  ·exact h.elim
 all_goals
  simp only [zL2] at h;split at h
  ·rename_i v H' hs;exact ⟨v,H',hs,h⟩
  ·exact h.elim
theorem zRx {op:Op} {k:AK} {f:FuncId} {rd:Bool} {xs:List Opd} (h:zL4 P op k xs=true) (hk:k=.call f rd):∃ args at_,op=.call { callee:=.value (.func f),args:=args,argTypes:=at_ }/\zEM args.toList xs=true:=by
 replace h:zK4 P op k xs=true:=by subst hk;exact h
 unfold zK4 at h;split at h
 all_goals first
  |(injection hk;done)
  |(injection hk with e1 e2;subst e1;simp only [zTo,zol] at h;obtain ⟨rfl,h⟩:=h;exact ⟨_,_,rfl,h⟩)
  |cases h
theorem zcz {op:Op} {f:FuncId} {rd:Bool} {xs:List Opd} (h:zL4 P op (.call f rd) xs=true):∃ args at_,op=.call { callee:=.value (.func f),args:=args,argTypes:=at_ }/\zEM args.toList xs=true:=zRx h rfl
theorem zPq {op:Op} {k:AK} {rd:Bool} {xs:List Opd} (h:zL4 P op k xs=true) (hk:k=.callv rd):∃ x args at_,op=.call { callee:=.value x,args:=args,argTypes:=at_ }/\zEM (x::args.toList) xs=true:=by
 replace h:zK4 P op k xs=true:=by subst hk;exact h
 unfold zK4 at h;split at h
 all_goals first
  |(injection hk;done)
  |exact ⟨_,_,_,rfl,h⟩
  |cases h
theorem zYs {op:Op} {rd:Bool} {xs:List Opd} (h:zL4 P op (.callv rd) xs=true):∃ x args at_,op=.call { callee:=.value x,args:=args,argTypes:=at_ }/\zEM (x::args.toList) xs=true:=zPq h rfl
def zRy (P:Program) (GT:zG_) (w:World) (M:AMap) (I:Nat->Prop) (H:Heap) (s:Sem Next) (v:AV) (H':Heap):Prop:=
 zIs P (s.run P w) fun v' w'=>∃ M' I',Grow w M I H w' M' I' H'/\Sim GT w' M' I' H'/\Rel w' M' I' H'.length v v'
theorem zNt (hS:Sim GT w M I H) {o:Oper} {k:AK} {xs:List Opd} (hchk:zL4 P o.op k xs=true) {ρ:Operand->Value} {e:Opd->AV} (hev:∀ x x',zE2 x x'=true->Rel w M I H.length (e x') (ρ x))
  (hfn:∀ f,ρ (.func f)=.func (.func f) #[] #[]) {v:AV} {H':Heap} (hst:zGS (Good P GT) k (xs.map e) H v H'):zRy P GT w M I H (execOp ρ o) v H':=by
 have hevs:∀ {as:List Operand} {bs:List Opd},zEM as bs=true->zED w M I H.length (bs.map e) (as.map ρ):=by
  intro as;induction as with
  |nil=>intro bs h;cases bs with
   |nil=>exact ⟨rfl,by simp⟩
   |cons=>simp [zEM] at h
  |cons a as ih=>intro bs h;cases bs with
   |nil=>simp [zEM] at h
   |cons b bs=>
    simp only [zEM,zTo] at h;have:=ih h.2;refine ⟨by simpa using this.1,fun i c v hc hv=>?_⟩;cases i with
    |zero=>simp at hc hv;subst hc hv;exact hev _ _ h.1
    |succ i=>exact this.2 i c v (by simpa using hc) (by simpa using hv)
 have plain:astep k (xs.map e) H=some (v,H')->zRy P GT w M I H (execOp ρ o) v H':=fun hs=>by
  obtain ⟨v',w',M',I',h1,h2,h3,h4⟩:=zWn hS hchk hev hs;unfold zRy zIs;rcases h1 with h1|⟨h1,rfl⟩
  ·rw [h1];exact ⟨M',I',h2,h3,h4⟩
  ·rw [h1];exact ⟨M',I',h2,h3,h4⟩
 cases k <;> try exact plain hst
 case call f rd=>
  obtain ⟨dst,op,ty,pos,after,guard⟩:=o;obtain ⟨args,at_,rfl,h1⟩:=zcz hchk;have:=hst.1.n (hevs h1) w M I _ hS (hevs h1);have hrun:(execOp ρ ⟨dst,.call { callee:=.value (.func f),args:=args,argTypes:=at_ },ty,pos,after,guard⟩).run P w=(callFunc f (args.toList.map ρ).toArray).run P w:=by
   have hf:=hfn f;show Sem.run P (do let d <-resolve ρ _ ty;invoke d.target d.args) w=_;simp only [resolve,Deferred.ofValue,hf,invoke,Sem.run_bind,Sem.run_pure,Result.andThen_ok]
   congr 2
   apply znt;simp
  unfold zRy;rw [hrun];exact this
 case callv rd=>
  obtain ⟨dst,op,ty,pos,after,guard⟩:=o;obtain ⟨x,args,at_,rfl,h1⟩:=zYs hchk;cases xs with
  |nil=>simp [zEM] at h1
  |cons x' xs'=>
   simp only [zEM,zTo] at h1;simp only [zGS,zoa] at hst;split at hst
   case h_2=>exact hst.elim
   rename_i f fst caps vs heq;simp only [zmZ] at heq;obtain ⟨hx,rfl⟩:=heq;have r1:=hev _ _ h1.1;rw [hx] at r1;have r2:=hevs h1.2;generalize hxv:ρ x=vx at r1;cases r1 with
   |fn _ _ _ vs us hl hl' hr hr'=>
    have hargs:zED w M I H.length (fst++xs'.map e++caps) (vs++args.toList.map ρ++us):=by
     have app:∀ {a b:List AV} {c d:List Value},zED w M I H.length a c->zED w M I H.length b d->zED w M I H.length (a++b) (c++d):=by
      intro a b c d h k;refine ⟨by simp [h.1,k.1],fun i x v hx hv=>?_⟩;have:=h.1;by_cases hi:i<a.length
      ·rw [zof hi] at hx;rw [zof tO] at hv;exact h.2 i x v hx hv
      ·rw [zoy tO] at hx;rw [zoy tO] at hv;rw [this] at hx;exact k.2 _ x v hx hv
     exact app (app ⟨hl,hr⟩ r2) ⟨hl',hr'⟩
    have:=hst.1.n hargs w M I _ hS hargs;have hrun:(execOp ρ ⟨dst,.call { callee:=.value x,args:=args,argTypes:=at_ },ty,pos,after,guard⟩).run P w=(callFunc f (vs++args.toList.map ρ++us).toArray).run P w:=by
     show Sem.run P (do let d <-resolve ρ _ ty;invoke d.target d.args) w=_;simp only [resolve,Deferred.ofValue,hxv,invoke,Sem.run_bind,Sem.run_pure,Result.andThen_ok]
     congr 2
     apply znt;simp
    unfold zRy;rw [hrun];exact this
def AK.plainK:AK->AK
 |.callp f=>.call f false
 |.callvp=>.callv false
 |k=>k
def zQj (C:CSpec) (k:AK) (vs:List AV) (H:Heap) (x:AV) (H':Heap):Prop:=
 match k with
 |.callp f=>C f (.pan .undef::vs) H x H'
 |.callvp=>match vs with
  |.fn f first caps::args=>C f (.pan .undef::(first++args++caps)) H x H'
  |_=>False
 |.panic=>∃ t y,vs=[x]/\x=.iface t y/\H'=H
 |_=>False
theorem zNu {C:CSpec} {k:AK} {vs:List AV} {H:Heap} {K KP:AV->Heap->Prop} (h:zGa C k vs H K KP):(∃ v H',zGS C k.plainK vs H v H'/\K v H')\/(∃ x H',zQj C k vs H x H'/\KP x H'):=by
 cases k
 case callp f=>
  rcases h with ⟨v,H',h1,h2⟩|⟨x,H',h1,h2⟩
  ·exact .inl ⟨v,H',⟨h1,by simp⟩,h2⟩
  ·exact .inr ⟨x,H',h1,h2⟩
 case callvp=>
  simp only [zGa] at h;split at h
  ·grind +locals
  ·exact h.elim
 case panic=>
  simp only [zGa] at h;split at h
  ·exact .inr ⟨_,_,⟨_,_,rfl,rfl,rfl⟩,h⟩
  ·exact h.elim
 all_goals exact .inl (zNR h)
theorem zYt {op:Op} {k:AK} {xs:List Opd} (h:zL4 P op k xs=true):zL4 P op k.plainK xs=true:=by
 cases k <;> exact h
theorem zVE {n:Nat} {a b:List AV} {c d:List Value} (h:zED w M I n a c) (k:zED w M I n b d):zED w M I n (a++b) (c++d):=by
 refine ⟨by simp [h.1,k.1],fun i x v hx hv=>?_⟩;have:=h.1;by_cases hi:i<a.length
 ·rw [zof hi] at hx;rw [zof tO] at hv;exact h.2 i x v hx hv
 ·rw [zoy tO] at hx;rw [zoy tO] at hv;rw [this] at hx;exact k.2 _ x v hx hv
theorem zYu (hS:Sim GT w M I H) {o:Oper} {k:AK} {xs:List Opd} (hchk:zL4 P o.op k xs=true) {ρ:Operand->Value} {e:Opd->AV} (hev:∀ x x',zE2 x x'=true->Rel w M I H.length (e x') (ρ x))
  (hfn:∀ f,ρ (.func f)=.func (.func f) #[] #[]) {x:AV} {H':Heap} (hst:zQj (Good P GT) k (xs.map e) H x H') :
  zNs P ((execOp ρ o).run P w) fun v' w'=>∃ M' I',Grow w M I H w' M' I' H'/\Sim GT w' M' I' H'/\Rel w' M' I' H'.length x v':=by
 have hevs:∀ {as:List Operand} {bs:List Opd},zEM as bs=true->zED w M I H.length (bs.map e) (as.map ρ):=by
  intro as;induction as with
  |nil=>intro bs h;cases bs with
   |nil=>exact ⟨rfl,by simp⟩
   |cons=>simp [zEM] at h
  |cons a as ih=>intro bs h;cases bs with
   |nil=>simp [zEM] at h
   |cons b bs=>
    simp only [zEM,zTo] at h;have:=ih h.2;refine ⟨by simpa using this.1,fun i c v hc hv=>?_⟩;cases i with
    |zero=>simp at hc hv;subst hc hv;exact hev _ _ h.1
    |succ i=>exact this.2 i c v (by simpa using hc) (by simpa using hv)
 obtain ⟨dst,op,ty,pos,after,guard⟩:=o;cases k <;> try exact hst.elim
 case callp f=>
  obtain ⟨args,at_,rfl,h1⟩:=zRx (k:=.call f false) (rd:=false) (show zL4 P op (.call f false) xs=true from hchk) rfl;have:=hst w M I _ hS (hevs h1);have hrun:(execOp ρ ⟨dst,.call { callee:=.value (.func f),args:=args,argTypes:=at_ },ty,pos,after,guard⟩).run P w=(callFunc f (args.toList.map ρ).toArray).run P w:=by
   have hf:=hfn f;show Sem.run P (do let d <-resolve ρ _ ty;invoke d.target d.args) w=_;simp only [resolve,Deferred.ofValue,hf,invoke,Sem.run_bind,Sem.run_pure,Result.andThen_ok]
   congr 2
   apply znt;simp
  rw [hrun];exact this
 case callvp=>
  obtain ⟨y,args,at_,rfl,h1⟩:=zPq (k:=.callv false) (rd:=false) (show zL4 P op (.callv false) xs=true from hchk) rfl;cases xs with
  |nil=>simp [zEM] at h1
  |cons x' xs'=>
   simp only [zEM,zTo] at h1;simp only [zQj,zoa] at hst;split at hst
   case h_2=>exact hst.elim
   rename_i f fst caps vs heq;simp only [zmZ] at heq;obtain ⟨hx,rfl⟩:=heq;have r1:=hev _ _ h1.1;rw [hx] at r1;have r2:=hevs h1.2;generalize hxv:ρ y=vx at r1;cases r1 with
   |fn _ _ _ vs us hl hl' hr hr'=>
    have hargs:zED w M I H.length (fst++xs'.map e++caps) (vs++args.toList.map ρ++us):=zVE (zVE ⟨hl,hr⟩ r2) ⟨hl',hr'⟩;have:=hst w M I _ hS hargs;have hrun:(execOp ρ ⟨dst,.call { callee:=.value y,args:=args,argTypes:=at_ },ty,pos,after,guard⟩).run P w=(callFunc f (vs++args.toList.map ρ++us).toArray).run P w:=by
     show Sem.run P (do let d <-resolve ρ _ ty;invoke d.target d.args) w=_;simp only [resolve,Deferred.ofValue,hxv,invoke,Sem.run_bind,Sem.run_pure,Result.andThen_ok]
     congr 2
     apply znt;simp
    rw [hrun];exact this
 case panic=>
  simp only [zL4] at hchk;split at hchk
  ·rename_i y y';obtain ⟨t,z,h1,rfl,rfl⟩:=hst;have hx:e y'=.iface t z:=by simpa using h1
   have r:=hev _ _ hchk;rw [hx] at r;generalize hy:ρ y=vy at r;have r':=r;cases r with
   |iface _ _ u hu=>
    have hrun:(execOp ρ ⟨dst,.panic y,ty,pos,after,guard⟩).run P w=.halt (.panic (.iface t u)) w:=by
     show Sem.run P (do pure (Next.value (<-Instr.panic (ρ y)))) w=_;rw [hy];rfl
    rw [hrun];exact ⟨M,I,Grow.refl ..,hS,r'⟩
  ·cases hchk
end
abbrev GF:=Nat->AV
def evg (GT:zG_) (g:GF):Opd->AV
 |.tmp t=>g t
 |.const v=>v
 |.glob g'=>match GT g' with
  |some x=>.lref x 0
  |none=>.undef
 |.fn f=>.fn f [] []
def putg (g:GF):Option Nat->AV->GF
 |some d,v=>fun t=>if d=t then v else g t
 |none,_=>g
theorem zF5 (GT:zG_) (fr:Fr):ev GT fr=evg GT (get fr):=by
 funext x;cases x <;> rfl
theorem zGz (fr:Fr) (d:Option Nat) (v:AV):get (put fr d v)=putg (get fr) d v:=by
 cases d with
 |none=>rfl
 |some d=>funext t;rfl
def AYields (C:CSpec) (GT:zG_) (i:AI) (g:GF) (H:Heap) (v:AV) (H':Heap):Prop:=
 match i.g with
 |none=>zGS C i.k (i.xs.map (evg GT g)) H v H'
 |some (s,want)=>∃ b,gd want (g s)=some b/\if b=true then zGS C i.k (i.xs.map (evg GT g)) H v H' else v=.tup []/\H'=H
theorem zJc {C:CSpec} {GT:zG_} {i:AI} {is:List AI} {fr:Fr} {H:Heap} {K:Fr->Heap->Prop} (h:AWops C GT (i::is) fr H K) :
  ∃ v H',AYields C GT i (get fr) H v H'/\AWops C GT is (put fr i.dst v) H' K:=by
 unfold AWops at h;unfold AYields;split at h
 ·rename_i hg;rw [hg];obtain ⟨v,H',h1,h2⟩:=zNR h;exact ⟨v,H',by rw [<-zF5];exact h1,h2⟩
 ·rename_i s want hg;rw [hg];split at h
  ·rename_i b hb;split at h
   ·rename_i hbw;obtain ⟨v,H',h1,h2⟩:=zNR h;exact ⟨v,H',⟨b,hb,by rw [zoQ hbw,<-zF5];exact h1⟩,h2⟩
   ·grind
  ·exact h.elim
section
variable {D:List Deferred} {P:Program} {GT:zG_} {w:World} {M:AMap} {I:Nat->Prop} {H:Heap}
structure ActOK (D:List Deferred) (w:World) (M:AMap) (I:Nat->Prop) (n N:Nat) (g:GF) (a:Act):Prop where
 rel:∀ t,Rel w M I n (g t) (a.tmps.getD t Go.undef)
 size:N<=a.tmps.size
 defers:a.defers=D
theorem ActOK.ev (hS:Sim GT w M I H) {N:Nat} {g:GF} {a:Act} (hF:ActOK D w M I H.length N g a):∀ x x',zE2 x x'=true->Rel w M I H.length (evg GT g x') (a.eval x):=by
 intro x x' h;cases x <;> cases x' <;> simp only [zE2,zol] at h <;> first|(cases h;done)|skip
 ·subst h;exact hF.rel _
 ·exact zK5 h
 ·subst h;rename_i gl;simp only [evg,Act.eval];cases hg:GT gl with
  |none=>exact .undef _
  |some x=>exact (hS.glob _ _ hg).free (hS.glob _ _ hg).bel
 ·subst h;exact .fn _ [] [] [] [] rfl rfl zS_ zS_
theorem ActOK.grow {w':World} {M':AMap} {I':Nat->Prop} {H':Heap} (hG:Grow w M I H w' M' I' H') (hS:Sim GT w M I H) {N:Nat} {g:GF} {a:Act} (hF:ActOK D w M I H.length N g a):ActOK D w' M' I' H'.length N g a:=
 ⟨fun t=>hG.rel hS (hF.rel t),hF.size,hF.defers⟩
theorem ActOK.put {n N:Nat} {g:GF} {a:Act} (hF:ActOK D w M I n N g a) {d:Option Nat} {v:AV} {u:Value} (hd:∀ e,d=some e->e<N) (hv:Rel w M I n v u):ActOK D w M I n N (putg g d v) (a.put d u):=by
 cases d with
 |none=>exact hF
 |some d=>
  have hlt:d<a.tmps.size:=zo3 (hd d rfl) hF.size;refine ⟨fun t=>?_,by simpa [Act.put] using hF.size,hF.defers⟩;simp only [putg,Act.put];by_cases h:d=t
  ·subst h;simpa [hlt] using hv
  ·simpa [h,zmS h] using hF.rel t
def zM1 (P:Program) (N:Nat) (ops:Array Oper) (o:Oper) (i:AI):Bool:=
 decide (o.dst=i.dst)&&(match i.dst with
  |some d=>decide (d<N)
  |none=>true) &&
 (match o.guard,i.g with
  |none,none=>true
  |some (j,want),some (s,want')=>decide (want=want')&&decide ((ops[j]?).bind (·.dst)=some s)&&decide (s<N)
  |_,_=>false)&&zL4 P o.op i.k i.xs
theorem zK9 (hS:Sim GT w M I H) {N:Nat} {ops:Array Oper} {o:Oper} {i:AI} {g:GF} {a:Act} (hF:ActOK D w M I H.length N g a) (hc:zM1 P N ops o i=true) {v:AV} {H':Heap} (hy:AYields (Good P GT) GT i g H v H')
  {Q:Exit->Act->World->Prop} {K:Act->World->Prop} (hK:∀ a' w' M' I',Grow w M I H w' M' I' H'->Sim GT w' M' I' H'->ActOK D w' M' I' H'.length N (putg g i.dst v) a'->K a' w') :
  if Region.wanted o (yielded ops a.tmps) then o.wp P a w K Q\/(o.asks P a w/\LetsOut Q) else K (a.put o.dst Go.undef) w:=by
 simp only [zM1,zTo,zoY] at hc;obtain ⟨⟨⟨h1,h2⟩,h3⟩,h4⟩:=hc;have hd:∀ e,i.dst=some e->e<N:=by
  intro e he;rw [he] at h2;simpa using h2
 have doit:zGS (Good P GT) i.k (i.xs.map (evg GT g)) H v H'->o.wp P a w K Q:=fun hst=>by
  refine zWo ((zNt hS h4 (hF.ev hS) (fun f=>rfl) hst).mono ?_);rintro v' w' ⟨M',I',g1,g2,g3⟩;rw [h1];exact hK _ _ M' I' g1 g2 ((hF.grow g1 hS).put hd g3)
 have dont:v=.tup []->H'=H->K (a.put o.dst Go.undef) w:=fun e1 e2=>by
  subst e1 e2;rw [h1];exact hK _ _ M I (Grow.refl ..) hS (hF.put hd (.tup [] [] rfl zS_))
 unfold AYields at hy;cases hg:i.g with
 |none=>
  rw [hg] at hy h3;cases hog:o.guard with
  |none=>
   have:Region.wanted o (yielded ops a.tmps)=true:=by simp [Region.wanted,hog]
   rw [zoQ this];exact .inl (doit hy)
  |some jw=>rw [hog] at h3;simp at h3
 |some sw=>
  obtain ⟨s,want⟩:=sw;rw [hg] at hy h3;cases hog:o.guard with
  |none=>rw [hog] at h3;simp at h3
  |some jw=>
   obtain ⟨j,want'⟩:=jw;rw [hog] at h3;simp only [zTo,zoY] at h3;obtain ⟨⟨rfl,h3⟩,h3'⟩:=h3;obtain ⟨b,hb,hy⟩:=hy;have hr:=hF.rel s;have hlt:s<a.tmps.size:=zo3 h3' hF.size;have hv:a.tmps[s]?=some (a.tmps.getD s Go.undef):=by simp [hlt]
   have:Region.wanted o (yielded ops a.tmps)=b:=by
    simp only [Region.wanted,hog,yielded,h3,zmH,hv];generalize a.tmps.getD s Go.undef=u at hr;generalize g s=x at hr hb;unfold gd at hb;split at hb
    ·cases hr;cases hb;rename_i c;cases c <;> cases want' <;> rfl
    ·cases hr;cases hb;rfl
    ·cases hb
   rw [this];cases b with
   |true=>grind
   |false=>grind
def AI.plain (i:AI):AI:={ i with k:=i.k.plainK }
theorem zNv {N:Nat} {ops:Array Oper} {o:Oper} {i:AI} (h:zM1 P N ops o i=true):zM1 P N ops o i.plain=true:=by
 simp only [zM1,zTo] at h ⊢;exact ⟨h.1,zYt h.2⟩
def zDp (C:CSpec) (GT:zG_) (i:AI) (g:GF) (H:Heap) (x:AV) (H':Heap):Prop:=
 match i.g with
 |none=>zQj C i.k (i.xs.map (evg GT g)) H x H'
 |some (s,want)=>gd want (g s)=some true/\zQj C i.k (i.xs.map (evg GT g)) H x H'
theorem zLA {C:CSpec} {GT:zG_} {is:List AI} {j:Nat} {t:OT} {fr:Fr} {H:Heap} {K:Fr->Heap->Prop} {KP:AV->Heap->Prop} (h:AWT C GT is (.step j t) fr H K KP) :
  ∃ i,is[j]?=some i/\((∃ v H',AYields C GT i.plain (get fr) H v H'/\AWT C GT is t (put fr i.dst v) H' K KP)\/(∃ x H',zDp C GT i (get fr) H x H'/\KP x H')):=by
 unfold AWT at h;split at h
 ·exact h.elim
 ·rename_i i hi;refine ⟨i,hi, ?_⟩;unfold AYields zDp;split at h
  ·rename_i hg;rcases zNu h with ⟨v,H',h1,h2⟩|⟨x,H',h1,h2⟩
   ·refine .inl ⟨v,H', ?_,h2⟩;simp only [AI.plain,hg];rw [<-zF5];exact h1
   ·refine .inr ⟨x,H', ?_,h2⟩;simp only [hg];rw [<-zF5];exact h1
  ·rename_i s want hg;split at h
   ·rename_i b hb;split at h
    ·rename_i hbt;subst hbt;rcases zNu h with ⟨v,H',h1,h2⟩|⟨x,H',h1,h2⟩
     ·refine .inl ⟨v,H', ?_,h2⟩;simp only [AI.plain,hg];exact ⟨true,hb,by rw [zoQ rfl,<-zF5];exact h1⟩
     ·refine .inr ⟨x,H', ?_,h2⟩;simp only [hg];exact ⟨hb,by rw [<-zF5];exact h1⟩
    ·rename_i hbt;refine .inl ⟨.tup [],H, ?_,h⟩;simp only [AI.plain,hg];exact ⟨b,hb,by rw [zWl hbt];exact by simp⟩
   ·exact h.elim
theorem zRz (hS:Sim GT w M I H) {N:Nat} {ops:Array Oper} {o:Oper} {i:AI} {g:GF} {a:Act} (hF:ActOK D w M I H.length N g a) (hc:zM1 P N ops o i=true) {x:AV} {H':Heap} (hy:zDp (Good P GT) GT i g H x H')
  {Q:Exit->Act->World->Prop} {K:Act->World->Prop} (hQ:∀ xv w' M' I',Grow w M I H w' M' I' H'->Sim GT w' M' I' H'->Rel w' M' I' H'.length x xv->Q (.panic [{ v:=xv,recovered:=false }]) a w') :
  if Region.wanted o (yielded ops a.tmps) then o.wp P a w K Q\/(o.asks P a w/\LetsOut Q) else K (a.put o.dst Go.undef) w:=by
 simp only [zM1,zTo,zoY] at hc;obtain ⟨⟨⟨h1,h2⟩,h3⟩,h4⟩:=hc;have doit:zQj (Good P GT) i.k (i.xs.map (evg GT g)) H x H'->o.wp P a w K Q:=fun hst=>by
  refine zYr ?_;have hp:=zYu hS h4 (hF.ev hS) (fun f=>rfl) hst;unfold zNs at hp ⊢;split at hp
  ·exact hp.mono fun e w' ⟨v,he,M',I',g1,g2,g3⟩=>⟨v,he,hQ v w' M' I' g1 g2 g3⟩
  ·grind
  ·exact hp.elim
 unfold zDp at hy;cases hg:i.g with
 |none=>
  rw [hg] at hy h3;cases hog:o.guard with
  |none=>
   have:Region.wanted o (yielded ops a.tmps)=true:=by simp [Region.wanted,hog]
   rw [zoQ this];exact .inl (doit hy)
  |some jw=>rw [hog] at h3;simp at h3
 |some sw=>
  obtain ⟨s,want⟩:=sw;rw [hg] at hy h3;cases hog:o.guard with
  |none=>rw [hog] at h3;simp at h3
  |some jw=>
   obtain ⟨j,want'⟩:=jw;rw [hog] at h3;simp only [zTo,zoY] at h3;obtain ⟨⟨rfl,h3⟩,h3'⟩:=h3;obtain ⟨hb,hy⟩:=hy;have hr:=hF.rel s;have hlt:s<a.tmps.size:=zo3 h3' hF.size;have hv:a.tmps[s]?=some (a.tmps.getD s Go.undef):=by simp [hlt]
   have:Region.wanted o (yielded ops a.tmps)=true:=by
    simp only [Region.wanted,hog,yielded,h3,zmH,hv];generalize a.tmps.getD s Go.undef=u at hr;generalize g s=x at hr hb;unfold gd at hb;split at hb
    ·cases hr;rename_i c;simp only [zoS,zol] at hb;subst hb;cases c <;> rfl
    ·cases hb
    ·cases hb
   rw [zoQ this];exact .inl (doit hy)
def zBu (P:Program) (N:Nat) (ops:Array Oper):List Oper->List AI->Bool
 |[],[]=>true
 |o::os,i::is=>zM1 P N ops o i&&zBu P N ops os is
 |_,_=>false
theorem zR0 {N:Nat} {ops:Array Oper} {Q:Exit->Act->World->Prop} {K:Fr->Heap->Prop}:∀ (is:List AI) (os:List Oper) (w:World) (M:AMap) (I:Nat->Prop) (H:Heap) (fr:Fr) (a:Act),
  Sim GT w M I H->ActOK D w M I H.length N (get fr) a->zBu P N ops os is=true->AWops (Good P GT) GT is fr H K ->
  (∀ fr' H' a' w' M' I',Grow w M I H w' M' I' H'->Sim GT w' M' I' H'->ActOK D w' M' I' H'.length N (get fr') a'->K fr' H'->Q .normal a' w')->wpList P ops Q os a w:=by
 intro is;induction is with
 |nil=>
  intro os w M I H fr a hS hF hc hA hQ;cases os with
  |nil=>exact hQ fr H a w M I (Grow.refl ..) hS hF hA
  |cons=>simp [zBu] at hc
 |cons i is ih=>
  intro os w M I H fr a hS hF hc hA hQ;cases os with
  |nil=>simp [zBu] at hc
  |cons o os=>
   simp only [zBu,zTo] at hc;obtain ⟨v,H1,hy,hA⟩:=zJc hA;unfold wpList;refine zK9 hS hF hc.1 hy fun a' w' M' I' hG hS' hF'=>?_;exact ih os w' M' I' H1 (put fr i.dst v) a' hS' (by rw [zGz];exact hF') hc.2 hA fun fr2 H2 a2 w2 M2 I2 hG2=>hQ fr2 H2 a2 w2 M2 I2 (hG.trans hG2)
theorem zMd (fr:Fr) (L:List Nat) (t:Nat):get (restrict fr L) t=get fr t\/get (restrict fr L) t=.undef:=by
 induction L with
 |nil=>exact .inr rfl
 |cons l L ih=>
  simp only [restrict,zoa,get];by_cases h:l=t
  ·subst h;simp
  ·simp only [h,zot];exact ih
theorem ActOK.restrict {n N:Nat} {fr:Fr} {a:Act} (hF:ActOK D w M I n N (get fr) a) (L:List Nat):ActOK D w M I n N (get (restrict fr L)) a:=
 ⟨fun t=>by
  rcases zMd fr L t with h|h
  ·rw [h];exact hF.rel t
  ·rw [h];exact .undef _,hF.size,hF.defers⟩
end
def AK.cls:AK->Nat
 |.mv|.pick|.bin _|.eqs _ _|.eqb _|.eqn _ _ _|.un _|.convInt _|.convRune|.mkIface _|.tyAs _|.mkFn _ _|.len _|.slc _ _ _|.fieldAddr _|.idxAddr _
 |.idxArr _ _|.idxStr|.idxAgg _ _ _|.nilchk|.extract _|.build _ _=>0
 |.bytesToStr|.load _ _|.call _ true|.callv true|.mget _ _=>1
 |_=>2
def AK.reads:AK->Bool
 |.bytesToStr|.load _ _=>true
 |_=>false
def AK.grows:AK->Bool
 |.alloc _|.box=>true
 |_=>false
theorem zYv {H:Heap} {b:ABlk} {k:Nat} {v:AV} {xs:List AV} (h:view H k v=some xs):view (H++[b]) k v=some xs:=by
 unfold view at h ⊢;split at h
 ·exact h
 ·grind
 ·cases h
theorem zc0 {H:Heap} {b:ABlk} {p:AV} {co:List AV×Nat} (h:zy H p=some co):zy (H++[b]) p=some co:=by
 unfold zy at h ⊢;split at h
 ·exact h
 ·grind
 ·cases h
theorem zc1 {k:AK} (hk:k.grows=true) {vs:List AV} {H H':Heap} {v:AV} (h:astep k vs H=some (v,H')):∃ b,H'=H++[b]:=by
 cases k <;> simp [AK.grows] at hk
 case alloc z=>
  cases vs with
  |nil=>simp only [astep,zoS,zob] at h;exact ⟨_,h.2.symm⟩
  |cons=>simp [astep] at h
 case box=>
  rcases vs with _|⟨x,_|⟨y,vs⟩⟩
  ·simp [astep] at h
  ·simp only [astep] at h;split at h
   ·grind
   ·cases h
  ·simp [astep] at h
theorem zWp {k:AK} (hk:k.reads=true) {vs:List AV} {H:Heap} {v:AV} (h:astep k vs H=some (v,H)) (b:ABlk):astep k vs (H++[b])=some (v,H++[b]):=by
 cases k <;> simp [AK.reads] at hk
 case bytesToStr=>
  rcases vs with _|⟨x,_|⟨y,vs⟩⟩
  ·simp [astep] at h
  ·simp only [astep] at h ⊢;split at h
   ·rename_i xs hv;rw [zYv hv];simp only;cases hb:zGy xs with
    |none=>rw [hb] at h;cases h
    |some u=>grind
   ·cases h
  ·simp [astep] at h
 case load s ag=>
  rcases vs with _|⟨x,_|⟨y,vs⟩⟩
  ·simp [astep] at h
  ·simp only [astep] at h ⊢;split at h
   ·rename_i cs o hp;rw [zc0 hp];simp only;cases hb:part cs o s ag with
    |none=>rw [hb] at h;cases h
    |some u=>grind
   ·cases h
  ·simp [astep] at h
theorem zNS {α:Type} {o:Option α} {f:α->AV} {H H':Heap} {v:AV} (h:o.map (fun x=>(f x,H))=some (v,H')):H'=H/\∀ H2:Heap,o.map (fun x=>(f x,H2))=some (v,H2):=by
 cases o with
 |none=>cases h
 |some x=>simp at h ⊢;exact ⟨h.2.symm,h.1⟩
theorem zgW {o:Option AV} {H H':Heap} {v:AV} (h:o.map (·,H)=some (v,H')):H'=H/\∀ H2:Heap,o.map (·,H2)=some (v,H2):=zNS h
theorem zWq {k:AK} (hk:k.cls=0) {vs:List AV} {H H':Heap} {v:AV} (h:astep k vs H=some (v,H')):H'=H/\∀ H2,astep k vs H2=some (v,H2):=by
 unfold astep at h;split at h
 all_goals try (simp [AK.cls] at hk;done)
 all_goals first
  |(obtain ⟨h1,h2⟩:=zgW h;exact ⟨h1,fun H2=>by simpa [astep] using h2 H2⟩)
  |(obtain ⟨h1,h2⟩:=zNS h;exact ⟨h1,fun H2=>by simpa [astep] using h2 H2⟩)
  |(injection h with h;injection h with h1 h2;subst h1 h2;exact ⟨rfl,fun H2=>by simp [astep]⟩)
  |skip
 all_goals (repeat' split at h)
 all_goals first
  |(cases h;done)
  |(obtain ⟨h1,h2⟩:=zgW h;exact ⟨h1,fun H2=>by simpa [astep, *] using h2 H2⟩)
  |(obtain ⟨h1,h2⟩:=zNS h;exact ⟨h1,fun H2=>by simpa [astep, *] using h2 H2⟩)
  |(injection h with h;injection h with h1 h2;subst h1 h2;exact ⟨rfl,fun H2=>by simp [astep, *]⟩)
theorem zWr {k:AK} (hk:k.cls=1) {vs:List AV} {H H':Heap} {v:AV} (h:astep k vs H=some (v,H')):H'=H:=by
 unfold astep at h;split at h
 all_goals try (simp [AK.cls] at hk;done)
 all_goals (repeat' split at h)
 all_goals first
  |(cases h;done)
  |exact (zgW h).1
  |exact (zNS h).1
theorem zPr {C:CSpec} {k:AK} (hk:k.cls=0) {vs:List AV} {H H':Heap} {v:AV} (h:zGS C k vs H v H'):H'=H/\∀ H2,zGS C k vs H2 v H2:=by
 cases k
 case call f rd=>cases rd <;> simp [AK.cls] at hk
 case callv rd=>cases rd <;> simp [AK.cls] at hk
 all_goals exact zWq hk h
theorem zPs {C:CSpec} {k:AK} (hk:k.cls=1) {vs:List AV} {H H':Heap} {v:AV} (h:zGS C k vs H v H'):H'=H:=by
 cases k
 case call f rd=>cases rd <;> simp [AK.cls] at hk;exact h.2 rfl
 case callv rd=>
  cases rd <;> simp [AK.cls] at hk
  unfold zGS at h;dsimp only at h;split at h
  ·exact h.2 rfl
  ·exact h.elim
 all_goals exact zWr hk h
def AI.looks (i:AI):List Nat:=
 (i.xs.filterMap fun|.tmp t=>some t|_=>none)++(match i.g with
  |some (s,_)=>[s]
  |none=>[])
def AI.apart (x y:AI):Bool:=
 (match x.dst with
  |some d=>!y.looks.contains d&&decide (y.dst≠some d)
  |none=>true) &&
 (match y.dst with
  |some d=>!x.looks.contains d
  |none=>true)&&(x.k.cls==0||y.k.cls==0||(x.k.cls==1&&y.k.cls==1)||(x.k.reads&&y.k.grows))
theorem AI.apart_spec {x y:AI} (h:x.apart y=true) :
  (∀ d,x.dst=some d->d ∉ y.looks)/\(∀ d,x.dst=some d->y.dst≠some d)/\(∀ d,y.dst=some d->d ∉ x.looks)/\(x.k.cls=0\/y.k.cls=0\/(x.k.cls=1/\y.k.cls=1)\/(x.k.reads=true/\y.k.grows=true)):=by grind +locals
section
variable {C:CSpec} {GT:zG_}
theorem zMe {i:AI} {g g':GF} (hg:∀ t∈i.looks,g' t=g t) {H:Heap} {v:AV} {H':Heap} (h:AYields C GT i g H v H'):AYields C GT i g' H v H':=by
 have hxs:i.xs.map (evg GT g')=i.xs.map (evg GT g):=znh fun x hx=>by
  cases x with
  |tmp t=>exact hg t (zn9 _ (List.mem_filterMap.2 ⟨.tmp t,hx,rfl⟩))
  |_=>rfl
 unfold AYields at *;cases hgd:i.g with
 |none=>rw [hgd] at h;rw [hxs];exact h
 |some sw=>grind +locals
theorem zL8 {g:GF} {d:Option Nat} {v:AV} {L:List Nat} (h:∀ e,d=some e->e ∉ L):∀ t∈L,putg g d v t=g t:=by
 intro t ht;cases d with
 |none=>rfl
 |some e=>
  have:e≠t:=fun he=>h e rfl (he ▸ ht);simp [putg,this]
theorem zYw (g:GF) {d e:Option Nat} (v u:AV) (h:∀ x,d=some x->e≠some x):putg (putg g d v) e u=putg (putg g e u) d v:=by
 cases d with
 |none=>rfl
 |some d=>
  cases e with
  |none=>rfl
  |some e=>
   have:d≠e:=fun he=>h d rfl (he ▸ rfl)
   funext t
   simp only [putg];by_cases h1:e=t
   ·subst h1;simp [this]
   ·simp [h1]
theorem zKZ {i:AI} (hi:i.k.cls=0) {g:GF} {H:Heap} {v:AV} {H':Heap} (h:AYields C GT i g H v H'):H'=H/\∀ H2,AYields C GT i g H2 v H2:=by
 unfold AYields at *;cases hgd:i.g with
 |none=>rw [hgd] at h;exact zPr hi h
 |some sw=>
  obtain ⟨s,want⟩:=sw;rw [hgd] at h;obtain ⟨b,hb,h⟩:=h;split at h
  ·rename_i hw;obtain ⟨h1,h2⟩:=zPr hi h;exact ⟨h1,fun H2=>⟨b,hb,by rw [zoQ hw];exact h2 H2⟩⟩
  ·grind
theorem zKa {i:AI} (hi:i.k.cls=1) {g:GF} {H:Heap} {v:AV} {H':Heap} (h:AYields C GT i g H v H'):H'=H:=by
 unfold AYields at *;cases hgd:i.g with
 |none=>rw [hgd] at h;exact zPs hi h
 |some sw=>
  obtain ⟨s,want⟩:=sw;rw [hgd] at h;obtain ⟨b,hb,h⟩:=h;split at h
  ·exact zPs hi h
  ·exact h.2
theorem zTq {i:AI} (hi:i.k.reads=true) {g:GF} {H:Heap} {v:AV} (h:AYields C GT i g H v H) (b:ABlk):AYields C GT i g (H++[b]) v (H++[b]):=by
 have st:∀ {vs},zGS C i.k vs H v H->zGS C i.k vs (H++[b]) v (H++[b]):=fun {vs} h=>by
  cases hk:i.k <;> rw [hk] at hi h <;> first
   |exact zWp hi h b
   |simp [AK.reads] at hi
 unfold AYields at *;cases hgd:i.g with
 |none=>rw [hgd] at h;exact st h
 |some sw=>grind
theorem zR1 {i:AI} (hi:i.k.grows=true) {g:GF} {H H':Heap} {v:AV} (h:AYields C GT i g H v H'):H'=H\/∃ b,H'=H++[b]:=by
 have st:∀ {vs},zGS C i.k vs H v H'->∃ b,H'=H++[b]:=fun {vs} h=>by
  cases hk:i.k <;> rw [hk] at hi h <;> first
   |exact zc1 hi h
   |simp [AK.grows] at hi
 unfold AYields at *;cases hgd:i.g with
 |none=>rw [hgd] at h;exact .inr (st h)
 |some sw=>grind
theorem zYx {k:AK} (h:k.reads=true):k.cls=1:=by cases k <;> simp [AK.reads] at h <;> rfl
theorem zNw {x y:AI} (hap:x.apart y=true) {g:GF} {H H1 H2:Heap} {v u:AV} (hx:AYields C GT x g H v H1) (hy:AYields C GT y (putg g x.dst v) H1 u H2) :
  ∃ H3,AYields C GT y g H u H3/\AYields C GT x (putg g y.dst u) H3 v H2/\putg (putg g x.dst v) y.dst u=putg (putg g y.dst u) x.dst v:=by
 obtain ⟨h1,h2,h3,h4⟩:=AI.apart_spec hap;have hx':=zMe (zL8 (g:=g) (v:=u) h3) hx;have hy':AYields C GT y g H1 u H2:=zMe (fun t ht=>(zL8 (g:=g) (v:=v) h1 t ht).symm) hy;refine (?_:∃ H3,AYields C GT y g H u H3/\AYields C GT x (putg g y.dst u) H3 v H2).imp fun H3 h=>⟨h.1,h.2,zYw g v u h2⟩;rcases h4 with h4|h4|⟨h4,h5⟩|⟨h4,h5⟩
 ·obtain ⟨e1,e2⟩:=zKZ h4 hx';subst e1;exact ⟨H2,hy',e2 H2⟩
 ·obtain ⟨e1,e2⟩:=zKZ h4 hy';subst e1;exact ⟨H,e2 H,hx'⟩
 ·have e1:=zKa h4 hx';subst e1;have e2:=zKa h5 hy';subst e2;exact ⟨_,hy',hx'⟩
 ·have e1:=zKa (zYx h4) hx';subst e1;rcases zR1 h5 hy' with e2|⟨b,e2⟩
  ·subst e2;exact ⟨_,hy',hx'⟩
  ·subst e2;exact ⟨_,hy',zTq h4 hx' b⟩
variable {ops:Array Oper} {ais:List AI}
def AAny (C:CSpec) (GT:zG_) (ops:Array Oper) (ais:List AI) (K:GF->Heap->Prop):Nat->Array Bool->GF->Heap->Prop
 |0,listed,g,H=>Region.ready .any ops listed=[]/\K g H
 |f+1,listed,g,H=>Region.ready .any ops listed≠[] /\
  ∀ i∈Region.ready .any ops listed,∃ ai v H',ais[i]?=some ai/\AYields C GT ai g H v H'/\AAny C GT ops ais K f (listed.setIfInBounds i true) (putg g ai.dst v) H'
inductive Dep (ops:Array Oper):Nat->Nat->Prop where
 |base {j:Nat} {o:Oper} {e:Edge} (ho:ops[j]?=some o) (he:e∈o.after) (hb:Region.binds .any e=true):Dep ops e.on j
 |tail {i j:Nat} {o:Oper} {e:Edge} (h:Dep ops i e.on) (ho:ops[j]?=some o) (he:e∈o.after) (hb:Region.binds .any e=true):Dep ops i j
def Closed (ops:Array Oper) (listed:Array Bool):Prop:=
 ∀ j o,ops[j]?=some o->listed.getD j false=true->∀ e∈o.after,Region.binds .any e=true->listed.getD e.on false=true
theorem Dep.listed {listed:Array Bool} (hc:Closed ops listed) {i j:Nat} (h:Dep ops i j) (hj:listed.getD j false=true):listed.getD i false=true:=by
 induction h with
 |base ho he hb=>exact hc _ _ ho hj _ he hb
 |tail _ ho he hb ih=>exact ih (hc _ _ ho hj _ he hb)
theorem Dep.ready {listed:Array Bool} (hc:Closed ops listed) {i j:Nat} (h:Dep ops i j) (hj:j∈Region.ready .any ops listed):listed.getD i false=true:=by
 obtain ⟨_,o',ho',hall⟩:=mem_ready.1 hj;cases h with
 |base ho he hb=>grind
 |tail h ho he hb=>rw [ho'] at ho;cases ho;exact h.listed hc (hall _ he hb)
theorem Closed.set {listed:Array Bool} (hc:Closed ops listed) {i:Nat} (hi:i∈Region.ready .any ops listed):Closed ops (listed.setIfInBounds i true):=by
 obtain ⟨_,o',ho',hall⟩:=mem_ready.1 hi;intro j o ho hl e he hb;by_cases hij:i=j
 ·subst hij;rw [ho'] at ho;cases ho;exact getD_set_true (hall e he hb)
 ·rw [getD_set_ne false hij] at hl;exact getD_set_true (hc j o ho hl e he hb)
theorem zVF {listed:Array Bool} {i:Nat} (h:listed.getD i true=false) (h':listed.getD i false=true):False:=by grind
theorem zWs {K:GF->Heap->Prop} {i:Nat} {ai:AI} (hi:ais[i]?=some ai):∀ (f:Nat) (listed:Array Bool) (g:GF) (H:Heap) (v:AV) (H1:Heap),Closed ops listed ->
  (∀ j aj,ais[j]?=some aj->j≠i->listed.getD j true=false->ai.apart aj=true\/Dep ops i j)->i∈Region.ready .any ops listed->AYields C GT ai g H v H1 ->
  AAny C GT ops ais K f (listed.setIfInBounds i true) (putg g ai.dst v) H1->AAny C GT ops ais K (f+1) listed g H:=by
 intro f;induction f with
 |zero=>
  intro listed g H v H1 hc hfree hr hy hA;refine ⟨fun h=>(by rw [h] at hr;cases hr),fun j hj=>?_⟩;by_cases hji:j=i
  ·subst hji;exact ⟨ai,v,H1,hi,hy,hA⟩
  ·have:=ready_mono hj hji;rw [hA.1] at this;cases this
 |succ f ih=>
  intro listed g H v H1 hc hfree hr hy hA;refine ⟨fun h=>(by rw [h] at hr;cases hr),fun j hj=>?_⟩;by_cases hji:j=i
  ·subst hji;exact ⟨ai,v,H1,hi,hy,hA⟩
  ·obtain ⟨aj,u,H2,haj,hyj,hA2⟩:=hA.2 j (ready_mono hj hji);have hjun:=(mem_ready.1 hj).1;have hap:ai.apart aj=true:=by
    rcases hfree j aj haj hji hjun with h|h
    ·exact h
    ·exact (zVF (mem_ready.1 hr).1 (h.ready hc hj)).elim
   obtain ⟨H3,h1,h2,h3⟩:=zNw hap hy hyj;refine ⟨aj,u,H3,haj,h1,ih _ _ _ v H2 (hc.set hj) (fun k ak hk hki hun=>hfree k ak hk hki ?_) (ready_mono hr (zmJ hji)) h2 ?_⟩
   ·by_cases hjk:j=k
    ·subst hjk;exact hjun
    ·rw [getD_set_ne true hjk] at hun;exact hun
   ·rw [<-h3,Array.setIfInBounds_comm _ _ hji];exact hA2
end
def AText (C:CSpec) (GT:zG_):List AI->GF->Heap->(GF->Heap->Prop)->Prop
 |[],g,H,K=>K g H
 |i::is,g,H,K=>∃ v H',AYields C GT i g H v H'/\AText C GT is (putg g i.dst v) H' K
theorem zNx {C:CSpec} {GT:zG_} {K:Fr->Heap->Prop}:∀ (is:List AI) (fr:Fr) (H:Heap),AWops C GT is fr H K->AText C GT is (get fr) H fun g H'=>∃ fr',get fr'=g/\K fr' H'
 |[],fr,H,h=>⟨fr,rfl,h⟩
 |i::is,fr,H,h=>by
  obtain ⟨v,H',h1,h2⟩:=zJc h;have:=zNx is _ _ h2;rw [zGz] at this;exact ⟨v,H',h1,this⟩
section
variable {ops:Array Oper} {ais:List AI}
structure Ordered (ops:Array Oper) (ais:List AI):Prop where
 len:ais.length=ops.size
 back:∀ j o,ops[j]?=some o->∀ e∈o.after,Region.binds .any e=true->e.on<j
 pair:∀ i j ai aj,i<j->ais[i]?=some ai->ais[j]?=some aj->ai.apart aj=true\/Dep ops i j
def Upto (listed:Array Bool) (k n:Nat):Prop:=listed.size=n/\∀ j,j<n->listed[j]?=some (decide (j<k))
theorem Upto.getD {listed:Array Bool} {k n:Nat} (h:Upto listed k n) (j:Nat) (d:Bool):listed.getD j d=if j<n then decide (j<k) else d:=by
 by_cases hj:j<n
 ·have:=h.2 j hj;rw [zoQ hj,zmx,this];rfl
 ·grind +locals
theorem Upto.set {listed:Array Bool} {k n:Nat} (h:Upto listed k n) (hk:k<n):Upto (listed.setIfInBounds k true) (k+1) n:=by
 refine ⟨by simp [h.1],fun j hj=>?_⟩;by_cases hkj:k=j
 ·grind +locals
 ·rw [zmS hkj,h.2 j hj]
  congr 1
  simp only [znD];omega
theorem Upto.closed {listed:Array Bool} {k:Nat} (h:Upto listed k ops.size) (hO:Ordered ops ais):Closed ops listed:=by
 intro j o ho hl e he hb;have hlt:=hO.back j o ho e he hb;have hj:j<ops.size:=(zoo.1 ho).1;rw [h.getD,zoQ hj] at hl;rw [h.getD,zoQ tO];simp only [zoY] at *;omega
theorem zR2 {C:CSpec} {GT:zG_} (hO:Ordered ops ais) {K:GF->Heap->Prop}:∀ (l:List AI) (k:Nat) (listed:Array Bool) (g:GF) (H:Heap),(∀ j,l[j]?=ais[k+j]?)->k+l.length=ops.size ->
  Upto listed k ops.size->AText C GT l g H K->AAny C GT ops ais K l.length listed g H
 |[],k,listed,g,H,hl,hn,hu,h=>by
  refine ⟨?_,h⟩;apply List.eq_nil_iff_forall_not_mem.2;intro j hj;have h0:=(mem_ready.1 hj).1;rw [hu.getD] at h0;simp at hn;split at h0
  ·simp at h0;omega
  ·cases h0
 |i::is,k,listed,g,H,hl,hn,hu,h=>by
  obtain ⟨v,H1,hy,h⟩:=h;have hk:k<ops.size:=by simp at hn;omega
  have hi:ais[k]?=some i:=by simpa using (hl 0).symm
  refine zWs hi is.length listed g H v H1 (hu.closed hO) (fun j aj haj hne hun=>?_) ?_ hy ?_
  ·rw [hu.getD] at hun;have hjlt:j<ops.size:=by rw [<-hO.len];exact (zl_ haj)
   rw [zoQ hjlt] at hun;simp only [zl4] at hun;exact hO.pair k j i aj tO hi haj
  ·rw [mem_ready];refine ⟨by rw [hu.getD,zoQ hk];simp,ops[k],by simp [hk],fun e he hb=>?_⟩;have:=hO.back k ops[k] (by simp [hk]) e he hb;rw [hu.getD,zoQ tO];simpa using this
  ·exact zR2 hO is (k+1) _ _ _ (fun j=>by have:=hl (j+1);simpa [zl6,zm6 1 j] using this) (by simp at hn;omega) (hu.set hk) h
def zLB (acc:List Nat):List Nat->Nat
 |[]=>0
 |e::es=>(2^e ||| acc.getD e 0) ||| zLB acc es
def zQk (m:Nat):Nat->List AI->AI->Bool
 |_,[],_=>true
 |i,x::xs,y=>(m.testBit i||x.apart y)&&zQk m (i+1) xs y
def zG0 (o:Oper):List Nat:=(o.after.toList.filter (Region.binds .any)).map (·.on)
def zMf:List AI->List Nat->List Oper->List AI->Bool
 |_,_,[],[]=>true
 |done,acc,o::os,y::ys=>(zG0 o).all (fun e=>decide (e<acc.length))&&zQk (zLB acc (zG0 o)) 0 done y&&zMf (done++[y]) (acc++[zLB acc (zG0 o)]) os ys
 |_,_,_,_=>false
theorem zMg {o:Oper} {e:Nat}:e∈zG0 o↔∃ d∈o.after,Region.binds .any d=true/\d.on=e:=by grind +locals
theorem zKb {acc:List Nat} {j:Nat} {o:Oper} (ho:ops[j]?=some o) (hacc:∀ (e m:Nat),acc[e]?=some m->∀ i,m.testBit i=true->Dep ops i e):∀ (es:List Nat),(∀ e∈es,e∈zG0 o) ->
  ∀ i,(zLB acc es).testBit i=true->Dep ops i j
 |[],_,i,h=>by simp [zLB] at h
 |e::es,hes,i,h=>by
  simp only [zLB,Nat.testBit_or,zmn,Nat.testBit_two_pow,zoY] at h;obtain ⟨d,h1,h2,h3⟩:=zMg.1 (hes e zS_);rcases h with (h|h)|h
  ·subst h;subst h3;exact .base ho h1 h2
  ·rw [zmd] at h;cases ha:acc[e]? with
   |none=>rw [ha] at h;simp at h
   |some m=>
    rw [ha] at h;subst h3;exact .tail (hacc _ m ha i h) ho h1 h2
  ·exact zKb ho hacc es (fun e he=>hes e (zmX _ he)) i h
theorem zMh {m:Nat} {y:AI}:∀ (xs:List AI) (i:Nat),zQk m i xs y=true->∀ j x,xs[j]?=some x->m.testBit (i+j)=true\/x.apart y=true
 |[],_,_,j,x,hx=>by simp at hx
 |z::xs,i,h,j,x,hx=>by
  simp only [zQk,zTo,zmn] at h;cases j with
  |zero=>simp at hx;subst hx;exact h.1
  |succ j=>
   have:=zMh xs (i+1) h.2 j x (by simpa using hx)
   rwa [show i+(j+1)=i+1+j by omega]
theorem zNy:∀ (os:List Oper) (ys:List AI) (done:List AI) (acc:List Nat),zMf done acc os ys=true->done.length=acc.length->(∀ j,os[j]?=ops[acc.length+j]?)->acc.length+os.length=ops.size ->
  (∀ j,ys[j]?=ais[acc.length+j]?)->(∀ j,j<done.length->done[j]?=ais[j]?)->(∀ (e m:Nat),acc[e]?=some m->∀ i,m.testBit i=true->Dep ops i e) ->
  ys.length=os.length/\∀ j,acc.length<=j->(∀ o,ops[j]?=some o->∀ e∈o.after,Region.binds .any e=true->e.on<j) /\
   ∀ i ai aj,i<j->ais[i]?=some ai->ais[j]?=some aj->ai.apart aj=true\/Dep ops i j
 |[],[],done,acc,_,hd,hos,hn,hys,hdone,hacc=>by
  refine ⟨rfl,fun j hj=>⟨fun o ho=>?_,fun i ai aj hij hi haj=>?_⟩⟩
  ·have:=hos (j-acc.length);rw [show acc.length+(j-acc.length)=j by omega,ho] at this;simp at this
  ·have:=hys (j-acc.length);rw [show acc.length+(j-acc.length)=j by omega,haj] at this;simp at this
 |[],_::_,_,_,h,_,_,_,_,_,_=>by simp [zMf] at h
 |_::_,[],_,_,h,_,_,_,_,_,_=>by simp [zMf] at h
 |o::os,y::ys,done,acc,h,hd,hos,hn,hys,hdone,hacc=>by
  simp only [zMf,zTo,zmE,zoY] at h;obtain ⟨⟨h1,h2⟩,h3⟩:=h;have ho:ops[acc.length]?=some o:=by simpa using (hos 0).symm
  have hy:ais[acc.length]?=some y:=by simpa using (hys 0).symm
  have hm:=zKb ho hacc (zG0 o) (fun _ h=>h);have IH:=zNy os ys (done++[y]) (acc++[zLB acc (zG0 o)]) h3 (by simp [hd])
   (fun j=>by have:=hos (j+1);simpa [zl6,zm6 1 j] using this) (by simp at hn ⊢;omega)
   (fun j=>by have:=hys (j+1);simpa [zl6,zm6 1 j] using this)
   (fun j hj=>by
    simp at hj;by_cases hjd:j<done.length
    ·rw [zof hjd];exact hdone j hjd
    ·have:j=acc.length:=by omega
     subst this;rw [zoy tO,hy,hd];simp)
   (fun e m hem i hi=>by
    by_cases he:e<acc.length
    ·rw [zof he] at hem;exact hacc e m hem i hi
    ·rw [zoy tO] at hem;have hlt:=(zl_ hem);simp at hlt;have:e=acc.length:=by omega
     subst this;simp at hem;subst hem;exact hm i hi)
  refine ⟨by simp [IH.1],fun j hj=>?_⟩;by_cases hje:j=acc.length
  ·subst hje;refine ⟨fun o' ho' e he hb=>?_,fun i ai aj hij hi haj=>?_⟩
   ·rw [ho] at ho';cases ho';exact h1 _ (zMg.2 ⟨e,he,hb,rfl⟩)
   ·rw [hy] at haj;cases haj;rcases zMh done 0 h2 i ai (by rw [hdone i tO];exact hi) with h|h
    ·exact .inr (hm i (by simpa using h))
    ·exact .inl h
  ·exact IH.2 j (by simp;omega)
theorem zWt (h:zMf [] [] ops.toList ais=true):Ordered ops ais:=by
 obtain ⟨h1,h2⟩:=zNy (ops:=ops) (ais:=ais) ops.toList ais [] [] h rfl zS_ zS_ zS_ zS_ zS_;exact ⟨by simpa using h1,fun j o ho e he hb=>(h2 j zS_).1 o ho e he hb,fun i j ai aj hij hi hj=>(h2 j zS_).2 i ai aj hij hi hj⟩
variable {D:List Deferred} {P:Program} {GT:zG_}
theorem zHu {N:Nat}:∀ (os:List Oper) (is:List AI),zBu P N ops os is=true->∀ (j:Nat) o i,os[j]?=some o->is[j]?=some i->zM1 P N ops o i=true
 |[],[],_,j,o,i,ho,_=>by simp at ho
 |[],_::_,h,_,_,_,_,_=>by simp [zBu] at h
 |_::_,[],h,_,_,_,_,_=>by simp [zBu] at h
 |x::os,y::is,h,j,o,i,ho,hi=>by
  simp only [zBu,zTo] at h;cases j with
  |zero=>simp at ho hi;subst ho hi;exact h.1
  |succ j=>exact zHu os is h.2 j o i (by simpa using ho) (by simpa using hi)
theorem zYy {N:Nat} {Q:Exit->Act->World->Prop} {K:GF->Heap->Prop} (hc:zBu P N ops ops.toList ais=true):∀ (f:Nat) (listed:Array Bool) (w:World) (M:AMap) (I:Nat->Prop) (H:Heap) (g:GF) (a:Act),
  Sim GT w M I H->ActOK D w M I H.length N g a->AAny (Good P GT) GT ops ais K f listed g H ->
  (∀ g' H' a' w' M' I',Grow w M I H w' M' I' H'->Sim GT w' M' I' H'->ActOK D w' M' I' H'.length N g' a'->K g' H'->Q .normal a' w')->wpAny P .any ops Q f listed a w:=by
 intro f;induction f with
 |zero=>intro listed w M I H g a hS hF hA hQ;exact ⟨hA.1,hQ g H a w M I (Grow.refl ..) hS hF hA.2⟩
 |succ f ih=>
  intro listed w M I H g a hS hF hA hQ;refine ⟨fun h=>absurd h hA.1,fun i hi=>?_⟩;obtain ⟨ai,v,H',hai,hy,hA'⟩:=hA.2 i hi;obtain ⟨_,o,ho,_⟩:=mem_ready.1 hi;unfold wpOp;simp only [ho];exact zK9 hS hF (zHu _ _ hc i o ai (by simpa using ho) hai) hy fun a' w' M' I' hG hS' hF'=>
   ih _ w' M' I' H' _ a' hS' hF' hA' fun g2 H2 a2 w2 M2 I2 hG2=>hQ g2 H2 a2 w2 M2 I2 (hG.trans hG2)
theorem zWu {N id:Nat} {is:List AI} {Q:Exit->Act->World->Prop} {K:Fr->Heap->Prop} {w:World} {M:AMap} {I:Nat->Prop} {H:Heap} {fr:Fr} {a:Act} (hm:P.follows .mixedOrders=true)
  (hS:Sim GT w M I H) (hF:ActOK D w M I H.length N (get fr) a) (hc:zBu P N ops ops.toList is=true) (ho:zMf [] [] ops.toList is=true) (hA:AWops (Good P GT) GT is fr H K)
  (hQ:∀ fr' H' a' w' M' I',Grow w M I H w' M' I' H'->Sim GT w' M' I' H'->ActOK D w' M' I' H'.length N (get fr') a'->K fr' H'->Q .normal a' w'):(Code.region id ops true).wp P Q a w:=by
 have hO:=zWt ho;refine wp_region_any hm ?_;have h1:=zNx is fr H hA;have h2:=zR2 hO is 0 (Array.replicate ops.size false) (get fr) H zS_ (by simpa using hO.len) ⟨by simp,fun j hj=>by simp [hj]⟩ h1;rw [hO.len] at h2;have hG0:Grow w M I H { w with drawn:=w.drawn+1 } M I H:=Grow.same rfl rfl rfl rfl;refine zYy hc ops.size _ _ M I H (get fr) a (hS.same rfl) (hF.grow hG0 hS) h2 ?_;rintro g' H' a' w' M' I' hG hS' hF' ⟨fr',rfl,hK⟩;exact hQ fr' H' a' w' M' I' (hG0.trans hG) hS' hF' hK
end
section
variable {C:CSpec} {GT:zG_} {ops:Array Oper} {ais:List AI}
def zTr (C:CSpec) (GT:zG_) (ops:Array Oper) (ais:List AI) (K:GF->Heap->Prop) (KP:AV->Heap->Prop):Nat->Array Bool->GF->Heap->Prop
 |0,listed,g,H=>Region.ready .any ops listed=[]/\K g H
 |f+1,listed,g,H=>(Region.ready .any ops listed=[]->K g H) /\
  ∀ i∈Region.ready .any ops listed,∃ ai,ais[i]?=some ai /\
   ((∃ v H',AYields C GT ai.plain g H v H'/\zTr C GT ops ais K KP f (listed.setIfInBounds i true) (putg g ai.dst v) H')\/(∃ x H',zDp C GT ai g H x H'/\KP x H'))
theorem zQl {i:AI} {g g':GF} (hg:∀ t∈i.looks,g' t=g t) {H:Heap} {x:AV} {H':Heap} (h:zDp C GT i g H x H'):zDp C GT i g' H x H':=by
 have hxs:i.xs.map (evg GT g')=i.xs.map (evg GT g):=znh fun x hx=>by
  cases x with
  |tmp t=>exact hg t (zn9 _ (List.mem_filterMap.2 ⟨.tmp t,hx,rfl⟩))
  |_=>rfl
 unfold zDp at *;cases hgd:i.g with
 |none=>rw [hgd] at h;rw [hxs];exact h
 |some sw=>
  obtain ⟨s,want⟩:=sw;rw [hgd] at h;exact ⟨by rw [hg s (by simp [AI.looks,hgd])];exact h.1,by rw [hxs];exact h.2⟩
def AK.isP:AK->Bool
 |.callp _=>true
 |.callvp=>true
 |.panic=>true
 |_=>false
theorem zR3 {k:AK} {vs:List AV} {H:Heap} {x:AV} {H':Heap} (h:zQj C k vs H x H'):k.isP=true:=by
 cases k <;> first|rfl|exact h.elim
theorem zKc {i:AI} {g:GF} {H:Heap} {x:AV} {H':Heap} (h:zDp C GT i g H x H'):i.k.isP=true:=by
 unfold zDp at h;split at h
 ·exact zR3 h
 ·exact zR3 h.2
theorem zgX {k:AK} (h:k.isP=true):k.plainK.cls=2:=by
 cases k <;> first|rfl|cases h
theorem zYz {k:AK} (h:k.isP=true):k.plainK.grows=false:=by
 cases k <;> first|rfl|cases h
theorem zTs {K:GF->Heap->Prop} {KP:AV->Heap->Prop} {i:Nat} {ai:AI} (hi:ais[i]?=some ai):∀ (f:Nat) (listed:Array Bool) (g:GF) (H:Heap) (v:AV) (H1:Heap),Closed ops listed ->
  (∀ j aj,ais[j]?=some aj->j≠i->listed.getD j true=false->ai.plain.apart aj.plain=true\/Dep ops i j)->i∈Region.ready .any ops listed->AYields C GT ai.plain g H v H1 ->
  zTr C GT ops ais K KP f (listed.setIfInBounds i true) (putg g ai.dst v) H1->zTr C GT ops ais K KP (f+1) listed g H:=by
 intro f;induction f with
 |zero=>
  intro listed g H v H1 hc hfree hr hy hA;refine ⟨fun h=>(by rw [h] at hr;cases hr),fun j hj=>?_⟩;by_cases hji:j=i
  ·grind
  ·have:=ready_mono hj hji;rw [hA.1] at this;cases this
 |succ f ih=>
  intro listed g H v H1 hc hfree hr hy hA;refine ⟨fun h=>(by rw [h] at hr;cases hr),fun j hj=>?_⟩;by_cases hji:j=i
  ·grind
  ·obtain ⟨aj,haj,hout⟩:=hA.2 j (ready_mono hj hji);have hjun:=(mem_ready.1 hj).1;have hap:ai.plain.apart aj.plain=true:=by
    rcases hfree j aj haj hji hjun with h|h
    ·exact h
    ·exact (zVF (mem_ready.1 hr).1 (h.ready hc hj)).elim
   refine ⟨aj,haj, ?_⟩;rcases hout with ⟨u,H2,hyj,hA2⟩|⟨x,H2,hyj,hKP⟩
   ·obtain ⟨H3,h1,h2,h3⟩:=zNw hap hy hyj;refine .inl ⟨u,H3,h1,ih _ _ _ v H2 (hc.set hj) (fun k ak hk hki hun=>hfree k ak hk hki ?_) (ready_mono hr (zmJ hji)) h2 ?_⟩
    ·by_cases hjk:j=k
     ·subst hjk;exact hjun
     ·rw [getD_set_ne true hjk] at hun;exact hun
    ·have h3':putg (putg g ai.dst v) aj.dst u=putg (putg g aj.dst u) ai.dst v:=h3;show zTr C GT ops ais K KP f _ (putg (putg g aj.dst u) ai.dst v) H2;rw [<-h3',Array.setIfInBounds_comm _ _ hji];exact hA2
   ·obtain ⟨h1,_,_,h4⟩:=AI.apart_spec hap;have hcl:=zgX (zKc hyj);have h0:ai.plain.k.cls=0:=by
     rcases h4 with h|h|h|h
     ·exact h
     ·have:aj.k.plainK.cls=0:=h;rw [hcl] at this;cases this
     ·have:aj.k.plainK.cls=1:=h.2;rw [hcl] at this;cases this
     ·have:aj.k.plainK.grows=true:=h.2;rw [zYz (zKc hyj)] at this;cases this
    obtain ⟨rfl,_⟩:=zKZ h0 hy;exact .inr ⟨x,H2,zQl (i:=aj) (g:=putg g ai.dst v) (fun t ht=>(zL8 (g:=g) (d:=ai.dst) (v:=v) (L:=aj.looks) h1 t ht).symm) hyj,hKP⟩
def zFi:OT->Nat
 |.done=>0
 |.step _ t=>zFi t+1
 |.alt a b=>max (zFi a) (zFi b)
def zTt:List Oper->List Nat->List Nat
 |[],acc=>acc
 |o::os,acc=>zTt os (acc++[zLB acc (zG0 o)])
theorem zMi:∀ (os:List Oper) (acc:List Nat),(∀ j,os[j]?=ops[acc.length+j]?)->(∀ (e m:Nat),acc[e]?=some m->∀ i,m.testBit i=true->Dep ops i e) ->
  ∀ (e m:Nat),(zTt os acc)[e]?=some m->∀ i,m.testBit i=true->Dep ops i e
 |[],acc,_,h,e,m,he,i,hi=>h e m he i hi
 |o::os,acc,hos,h,e,m,he,i,hi=>by
  have ho:ops[acc.length]?=some o:=by simpa using (hos 0).symm
  have hm:=zKb ho h (zG0 o) (fun _ h=>h);refine zMi os (acc++[zLB acc (zG0 o)]) (fun j=>by have:=hos (j+1);simpa [zl6,zm6 1 j] using this) (fun e m hem i hi=>?_) e m he i hi;by_cases hl:e<acc.length
  ·grind
  ·grind
def zc2 (masks:List Nat) (listed:Array Bool) (j:Nat) (ai:AI):Nat->List AI->Bool
 |_,[]=>true
 |k,y::ys=>(k==j||listed.getD k true||ai.plain.apart y.plain||(masks.getD k 0).testBit j)&&zc2 masks listed j ai (k+1) ys
theorem zPt {masks:List Nat} {listed:Array Bool} {j:Nat} {ai:AI}:∀ (ys:List AI) (k:Nat),zc2 masks listed j ai k ys=true->∀ n y,ys[n]?=some y->k+n≠j->listed.getD (k+n) true=false->ai.plain.apart y.plain=true\/(masks.getD (k+n) 0).testBit j=true
 |[],_,_,n,y,hy,_,_=>by simp at hy
 |z::ys,k,h,n,y,hy,hne,hl=>by
  simp only [zc2,zTo,zmn,zol,or_assoc] at h;cases n with
  |zero=>grind
  |succ n=>
   have:=zPt ys (k+1) h.2 n y (by simpa using hy) tO (by rw [show k+1+n=k+(n+1) by omega];exact hl)
   rwa [show k+1+n=k+(n+1) by omega] at this
def ziu (i:Nat):OT->Bool
 |.done=>false
 |.step j _=>j==i
 |.alt a b=>ziu i a||ziu i b
def zR4 (ops:Array Oper) (ais:List AI) (masks:List Nat):Bool->OT->Array Bool->Bool
 |br,.done,listed=>!br&&(Region.ready .any ops listed).isEmpty
 | br,.step j t,listed=>(Region.ready .any ops listed).contains j &&
   (br||(Region.ready .any ops listed).all (·==j)||(match ais[j]? with
    |some ai=>!ai.k.isP&&zc2 masks listed j ai 0 ais
    |none=>false))&&zR4 ops ais masks false t (listed.setIfInBounds j true)
 |br,.alt a b,listed=>(br||(Region.ready .any ops listed).all fun i=>ziu i (.alt a b))&&zR4 ops ais masks true a listed&&zR4 ops ais masks true b listed
def Branch (C:CSpec) (GT:zG_) (ops:Array Oper) (ais:List AI) (K:GF->Heap->Prop) (KP:AV->Heap->Prop) (f:Nat) (listed:Array Bool) (g:GF) (H:Heap) (i:Nat):Prop:=
 ∃ ai,ais[i]?=some ai/\((∃ v H',AYields C GT ai.plain g H v H'/\zTr C GT ops ais K KP f (listed.setIfInBounds i true) (putg g ai.dst v) H')\/(∃ x H',zDp C GT ai g H x H'/\KP x H'))
theorem zY0 {masks:List Nat}:∀ (t:OT) (listed:Array Bool),zR4 ops ais masks true t listed=true->0<zFi t/\Region.ready .any ops listed≠[]
 |.done,listed,h=>by simp [zR4] at h
 |.step j t,listed,h=>by
  simp only [zR4,zTo] at h;refine ⟨by simp [zFi],fun e=>?_⟩;rw [e] at h;simp at h
 |.alt a b,listed,h=>by
  simp only [zR4,zTo] at h;obtain ⟨h1,h2⟩:=zY0 a listed h.1.2;exact ⟨by simp only [zFi];omega,h2⟩
theorem zWv {K:Fr->Heap->Prop} {KP:AV->Heap->Prop} {masks:List Nat} (hm:∀ (e m:Nat),masks[e]?=some m->∀ i,m.testBit i=true->Dep ops i e):∀ (t:OT),
  (∀ f listed fr H,zR4 ops ais masks false t listed=true->zFi t<=f->Closed ops listed->AWT C GT ais t fr H K KP->zTr C GT ops ais (fun g H'=>∃ fr',get fr'=g/\K fr' H') KP f listed (get fr) H) /\
  (∀ f listed fr H,zR4 ops ais masks true t listed=true->zFi t<=f+1->Closed ops listed->AWT C GT ais t fr H K KP->∀ i,ziu i t=true->Branch C GT ops ais (fun g H'=>∃ fr',get fr'=g/\K fr' H') KP f listed (get fr) H i):=by
 intro t;induction t with
 |done=>
  refine ⟨fun f listed fr H hc hd hcl hA=>?_,fun f listed fr H hc=>by simp [zR4] at hc⟩;have he:Region.ready .any ops listed=[]:=by simpa [zR4] using hc
  cases f with
  |zero=>exact ⟨he,fr,rfl,hA⟩
  |succ f=>exact ⟨fun _=>⟨fr,rfl,hA⟩,fun i hi=>(by rw [he] at hi;cases hi)⟩
 |step j t ih=>
  have br:∀ f listed fr H,j∈Region.ready .any ops listed->zR4 ops ais masks false t (listed.setIfInBounds j true)=true->zFi t<=f->Closed ops listed->AWT C GT ais (.step j t) fr H K KP ->
    Branch C GT ops ais (fun g H'=>∃ fr',get fr'=g/\K fr' H') KP f listed (get fr) H j:=by
   intro f listed fr H hj hc hd hcl hA;obtain ⟨ai,hai,hout⟩:=zLA hA;refine ⟨ai,hai, ?_⟩;rcases hout with ⟨v,H',hy,hA'⟩|⟨x,H',hy,hk⟩
   ·refine .inl ⟨v,H',hy, ?_⟩;have:=ih.1 f _ _ H' hc hd (hcl.set hj) hA';rw [zGz] at this;exact this
   ·exact .inr ⟨x,H',hy,hk⟩
  refine ⟨fun f listed fr H hc hd hcl hA=>?_,fun f listed fr H hc hd hcl hA i hi=>?_⟩
  ·simp only [zR4,zTo,Bool.false_or,zmn,List.contains_iff_mem] at hc;obtain ⟨⟨hj,hfr⟩,hc⟩:=hc;cases f with
   |zero=>simp [zFi] at hd
   |succ f=>
    have hd':zFi t<=f:=by simp only [zFi] at hd;omega
    rcases hfr with hall|hfree
    ·refine ⟨fun e=>(by rw [e] at hj;cases hj),fun i hi=>?_⟩;have hij:i=j:=by simpa using zmE.1 hall i hi
     subst hij;exact br f listed fr H hj hc hd' hcl hA
    ·split at hfree
     ·rename_i ai hai;simp only [zTo,zmD] at hfree;obtain ⟨ai',hai',hout⟩:=zLA hA;rw [hai] at hai';cases hai';rcases hout with ⟨v,H',hy,hA'⟩|⟨x,H',hy,_⟩
      ·have hin:=ih.1 f _ _ H' hc hd' (hcl.set hj) hA';rw [zGz] at hin;refine zTs hai f listed (get fr) H v H' hcl (fun k ak hk hkj hun=>?_) hj hy hin;have:=zPt ais 0 hfree.2 k ak hk tO (by simpa using hun);rcases this with h|h
       ·exact .inl h
       ·right;rw [zl7,zmd] at h;cases hmk:masks[k]? with
        |none=>rw [hmk] at h;simp at h
        |some m=>rw [hmk] at h;exact hm k m hmk j h
      ·have:=zKc hy;rw [hfree.1] at this;cases this
     ·cases hfree
  ·grind +locals
 |alt a b iha ihb=>
  have br:∀ f listed fr H,zR4 ops ais masks true a listed=true->zR4 ops ais masks true b listed=true->zFi (.alt a b)<=f+1->Closed ops listed->AWT C GT ais (.alt a b) fr H K KP->∀ i,ziu i (.alt a b)=true ->
    Branch C GT ops ais (fun g H'=>∃ fr',get fr'=g/\K fr' H') KP f listed (get fr) H i:=by
   intro f listed fr H ha hb hd hcl hA i hi;simp only [zFi] at hd;simp only [ziu,zmn] at hi;rcases hi with hi|hi
   ·exact iha.2 f listed fr H ha tO hcl hA.1 i hi
   ·exact ihb.2 f listed fr H hb tO hcl hA.2 i hi
  refine ⟨fun f listed fr H hc hd hcl hA=>?_,fun f listed fr H hc hd hcl hA i hi=>?_⟩
  ·simp only [zR4,zTo,Bool.false_or] at hc;obtain ⟨⟨hall,ha⟩,hb⟩:=hc;obtain ⟨h1,h2⟩:=zY0 a listed ha;cases f with
   |zero=>simp only [zFi] at hd;omega
   |succ f=>exact ⟨fun e=>absurd e h2,fun i hi=>br f listed fr H ha hb hd hcl hA i (zmE.1 hall i hi)⟩
  ·grind +locals
def zi3:OT->Nat->Nat->Bool
 |.done,k,n=>k==n
 |.step j t,k,n=>j==k&&zi3 t (k+1) n
 |.alt _ _,_,_=>false
variable {D:List Deferred} {P:Program}
theorem zWw {N:Nat} {Q:Exit->Act->World->Prop} {K:GF->Heap->Prop} {KP:AV->Heap->Prop} (hc:zBu P N ops ops.toList ais=true):∀ (f:Nat) (listed:Array Bool) (w:World) (M:AMap) (I:Nat->Prop) (H:Heap) (g:GF) (a:Act),
  Sim GT w M I H->ActOK D w M I H.length N g a->zTr (Good P GT) GT ops ais K KP f listed g H ->
  (∀ g' H' a' w' M' I',Grow w M I H w' M' I' H'->Sim GT w' M' I' H'->ActOK D w' M' I' H'.length N g' a'->K g' H'->Q .normal a' w') ->
  (∀ x xv g' H' a' w' M' I',Grow w M I H w' M' I' H'->Sim GT w' M' I' H'->ActOK D w' M' I' H'.length N g' a'->Rel w' M' I' H'.length x xv->KP x H'->Q (.panic [{ v:=xv,recovered:=false }]) a' w')->wpAny P .any ops Q f listed a w:=by
 intro f;induction f with
 |zero=>intro listed w M I H g a hS hF hA hQ hP;exact ⟨hA.1,hQ g H a w M I (Grow.refl ..) hS hF hA.2⟩
 |succ f ih=>
  intro listed w M I H g a hS hF hA hQ hP;refine ⟨fun h=>hQ g H a w M I (Grow.refl ..) hS hF (hA.1 h),fun i hi=>?_⟩;obtain ⟨ai,hai,hout⟩:=hA.2 i hi;obtain ⟨_,o,ho,_⟩:=mem_ready.1 hi;unfold wpOp;simp only [ho];have hck:=zHu _ _ hc i o ai (by simpa using ho) hai;rcases hout with ⟨v,H',hy,hA'⟩|⟨x,H',hy,hk⟩
  ·exact zK9 hS hF (zNv hck) hy fun a' w' M' I' hG hS' hF'=>
    ih _ w' M' I' H' _ a' hS' hF' hA' (fun g2 H2 a2 w2 M2 I2 hG2=>hQ g2 H2 a2 w2 M2 I2 (hG.trans hG2)) (fun x xv g2 H2 a2 w2 M2 I2 hG2=>hP x xv g2 H2 a2 w2 M2 I2 (hG.trans hG2))
  ·exact zRz hS hF hck hy fun xv w' M' I' hG hS' hr=>hP x xv g H' a w' M' I' hG hS' (hF.grow hG hS) hr hk
theorem zPu {N:Nat} {Q:Exit->Act->World->Prop} {K:Fr->Heap->Prop} {KP:AV->Heap->Prop} (hc:zBu P N ops ops.toList ais=true):∀ (t:OT) (k:Nat) (os:List Oper) (w:World) (M:AMap) (I:Nat->Prop) (H:Heap) (fr:Fr) (a:Act),
  (∀ j,os[j]?=ops.toList[k+j]?)->zi3 t k (k+os.length)=true->Sim GT w M I H->ActOK D w M I H.length N (get fr) a->AWT (Good P GT) GT ais t fr H K KP ->
  (∀ fr' H' a' w' M' I',Grow w M I H w' M' I' H'->Sim GT w' M' I' H'->ActOK D w' M' I' H'.length N (get fr') a'->K fr' H'->Q .normal a' w') ->
  (∀ x xv g' H' a' w' M' I',Grow w M I H w' M' I' H'->Sim GT w' M' I' H'->ActOK D w' M' I' H'.length N g' a'->Rel w' M' I' H'.length x xv->KP x H'->Q (.panic [{ v:=xv,recovered:=false }]) a' w')->wpList P ops Q os a w:=by
 intro t;induction t with
 |done=>
  intro k os w M I H fr a hos hck hS hF hA hQ hP;cases os with
  |nil=>exact hQ fr H a w M I (Grow.refl ..) hS hF hA
  |cons=>simp [zi3] at hck
 |alt=>grind +locals
 |step j t ih=>
  intro k os w M I H fr a hos hck hS hF hA hQ hP;simp only [zi3,zTo,zol] at hck;obtain ⟨rfl,hck⟩:=hck;obtain ⟨ai,hai,hout⟩:=zLA hA;have hlen:∀ (os:List Oper) (is:List AI),zBu P N ops os is=true->os.length=is.length:=by
   intro os;induction os with
   |nil=>intro is h;cases is <;> simp [zBu] at h ⊢
   |cons o os ih=>intro is h;cases is with
    |nil=>simp [zBu] at h
    |cons i is=>simp only [zBu,zTo] at h;simp [ih is h.2]
  cases os with
  |nil=>
   have h1:=hlen _ _ hc;have h2:=(zl_ hai);have h3:=hos 0;simp only [List.getElem?_nil,zmz] at h3;have:=znK.1 h3.symm;omega
  |cons o os=>
   have ho:ops.toList[j]?=some o:=by simpa using (hos 0).symm
   have hckA:=zHu _ _ hc j o ai ho hai;have hos':∀ m,os[m]?=ops.toList[j+1+m]?:=fun m=>by have:=hos (m+1);simpa [zl6,zm6 1 m] using this
   unfold wpList;rcases hout with ⟨v,H',hy,hA'⟩|⟨x,H',hy,hk⟩
   ·exact zK9 hS hF (zNv hckA) hy fun a' w' M' I' hG hS' hF'=>
     ih (j+1) os w' M' I' H' (put fr ai.dst v) a' hos' (by rw [show j+1+os.length=j+(o::os).length by simp;omega];exact hck) hS' (by rw [zGz];exact hF') hA'
      (fun g2 H2 a2 w2 M2 I2 hG2=>hQ g2 H2 a2 w2 M2 I2 (hG.trans hG2)) (fun x xv g2 H2 a2 w2 M2 I2 hG2=>hP x xv g2 H2 a2 w2 M2 I2 (hG.trans hG2))
   ·exact zRz hS hF hckA hy fun xv w' M' I' hG hS' hr=>hP x xv _ H' a w' M' I' hG hS' (hF.grow hG hS) hr hk
def zY1 (ops:Array Oper) (ais:List AI) (draw:Bool) (t:OT):Bool:=
 match draw with
 |false=>zi3 t 0 ops.size
 |true=>zR4 ops ais (zTt ops.toList []) false t (Array.replicate ops.size false)&&decide (zFi t<=ops.size)
theorem zWx {N id:Nat} {draw:Bool} {t:OT} {Q:Exit->Act->World->Prop} {K:Fr->Heap->Prop} {KP:AV->Heap->Prop} {w:World} {M:AMap} {I:Nat->Prop} {H:Heap} {fr:Fr} {a:Act} (hm:P.follows .mixedOrders=true)
  (hS:Sim GT w M I H) (hF:ActOK D w M I H.length N (get fr) a) (hc:zBu P N ops ops.toList ais=true) (ht:zY1 ops ais draw t=true) (hA:AWT (Good P GT) GT ais t fr H K KP)
  (hQ:∀ fr' H' a' w' M' I',Grow w M I H w' M' I' H'->Sim GT w' M' I' H'->ActOK D w' M' I' H'.length N (get fr') a'->K fr' H'->Q .normal a' w')
  (hP:∀ x xv g' H' a' w' M' I',Grow w M I H w' M' I' H'->Sim GT w' M' I' H'->ActOK D w' M' I' H'.length N g' a'->Rel w' M' I' H'.length x xv->KP x H'->Q (.panic [{ v:=xv,recovered:=false }]) a' w'):(Code.region id ops draw).wp P Q a w:=by
 cases draw with
 |false=>
  refine wp_region_list (zPu hc t 0 ops.toList w M I H fr a zS_ (by simpa [zY1] using ht) hS hF hA hQ hP)
 |true=>
  refine wp_region_any hm ?_;simp only [zY1,zTo,zoY] at ht;have hcl:Closed ops (Array.replicate ops.size false):=fun j o ho hl e he hb=>by
   rw [zmx] at hl;by_cases hj:j<ops.size
   ·simp [hj] at hl
   ·simp [hj] at hl
  have h1:=(zWv (C:=Good P GT) (GT:=GT) (ais:=ais) (K:=K) (KP:=KP) (zMi (ops:=ops) ops.toList [] zS_ zS_) t).1 ops.size _ fr H ht.1 ht.2 hcl hA;have hG0:Grow w M I H { w with drawn:=w.drawn+1 } M I H:=Grow.same rfl rfl rfl rfl;refine zWw hc ops.size _ _ M I H (get fr) a (hS.same rfl) (hF.grow hG0 hS) h1 ?_ ?_
  ·rintro g' H' a' w' M' I' hG hS' hF' ⟨fr',rfl,hK⟩;exact hQ fr' H' a' w' M' I' (hG0.trans hG) hS' hF' hK
  ·exact fun x xv g' H' a' w' M' I' hG hS' hF' hr hk=>hP x xv g' H' a' w' M' I' (hG0.trans hG) hS' hF' hr hk
end
def Outs (w:World) (M:AMap) (I:Nat->Prop) (n:Nat):AE->Exit->Prop
 |.normal,E=>E=.normal
 |.exit id,E=>E=.exit id
 |.ret,E=>E=.ret
 |.goto l,E=>E=.goto l
 |.pan x,E=>∃ xv,E=.panic [{ v:=xv,recovered:=false }]/\Rel w M I n x xv
def zIo (P:Program) (N:Nat):Code->AC->Bool
 |.skip,.skip=>true
 |.region _ ops draw,.reg _ draw' is=>draw==draw'&&zBu P N ops ops.toList is&&(!draw||zMf [] [] ops.toList is)
 |.seq a b,.seq a' b'=>zIo P N a a'&&zIo P N b b'
 |.cond c a b,.cond c' a' b'=>zE2 c c'&&zIo P N a a'&&zIo P N b b'
 |.block id c,.block id' _ c'=>id==id'&&zIo P N c c'
 |.loop c,.loop _ c'=>zIo P N c c'
 |.exit id,.exit id'=>id==id'
 |.ret,.ret=>true
 |_,.stuck=>true
 |.region _ ops draw,.regt _ draw' is t=>draw==draw'&&zBu P N ops ops.toList is&&zY1 ops is draw t
 |.label _,.label=>true
 |.goto l,.goto l'=>l==l'
 |.scope c,.scope _ l c' r'=>zIo P N c c'&&(match findLabel c l with
  |some rest=>zIo P N rest r'
  |none=>false)
 |_,_=>false
theorem zR5 {GT:zG_} {fr:Fr} {c:Opd} {b:Bool} (h:ev GT fr c=.bool b) (t:Nat):get (learn fr c b) t=get fr t:=by
 cases c with
 |tmp d=>
  simp only [learn,get];split
  ·rename_i e;subst e;exact h.symm
  ·rfl
 |_=>rfl
theorem least {p:Nat->Prop} (h:∃ n,p n):∃ n,p n/\∀ m,p m->n<=m:=by
 obtain ⟨n,hn⟩:=h;induction n using Nat.strongRecOn with
 |_ n ih=>grind
theorem wp_loop_rounds {P:Program} {c:Code} {Q:Exit->Act->World->Prop} {a:Act} {w:World} (J:Nat->Act->World->Prop) (h0:∃ m,J m a w)
  (round:∀ m a w,J m a w->∃ k,m=k+1/\c.wp P (Exit.then (fun a' w'=>J k a' w') Q) a w):(Code.loop c).wp P Q a w:=by
 classical
 refine wp_loop (fun a w=>∃ m,J m a w) (fun a w=>if h:∃ m,J m a w then Classical.choose (least h) else 0) h0 fun a w hI=>?_;have hμ:∀ a w,(h:∃ m,J m a w)->(if h:∃ m,J m a w then Classical.choose (least h) else 0)=Classical.choose (least h):=fun a w h=>dif_pos h;obtain ⟨h1,_⟩:=znZ (least hI);obtain ⟨k,hk,hr⟩:=round _ a w h1;refine wp_mono hr fun e a' w' hq=>?_;cases e with
 |normal=>
  have hI':∃ m,J m a' w':=⟨k,hq⟩;refine ⟨hI', ?_⟩;rw [hμ _ _ hI',hμ _ _ hI];have:=(znZ (least hI')).2 k hq;omega
 |_=>exact hq
theorem zNz {P:Program} {c rest:Code} {Q:Exit->Act->World->Prop} {a:Act} {w:World} (l:Nat) (J:Nat->Act->World->Prop) (hf:findLabel c l=some rest)
  (first:c.wp P (Exit.jump l (fun a' w'=>∃ m,J m a' w') Q) a w)
  (round:∀ m a w,J m a w->∃ k,m=k+1/\rest.wp P (Exit.jump l (fun a' w'=>J k a' w') Q) a w):(Code.scope c).wp P Q a w:=by
 classical
 refine wp_scope_jumps l (fun a w=>∃ m,J m a w) (fun a w=>if h:∃ m,J m a w then Classical.choose (least h) else 0) hf first fun a w hI=>?_
 have hμ:∀ a w,(h:∃ m,J m a w)->(if h:∃ m,J m a w then Classical.choose (least h) else 0)=Classical.choose (least h):=fun a w h=>dif_pos h;obtain ⟨h1,_⟩:=znZ (least hI);obtain ⟨k,hk,hr⟩:=round _ a w h1;refine wp_mono hr fun e a' w' hq=>?_;cases e with
 |goto l'=>
  obtain ⟨hl,hq⟩:=hq;have hI':∃ m,J m a' w':=⟨k,hq⟩;refine ⟨hl,hI', ?_⟩;rw [hμ _ _ hI',hμ _ _ hI];have:=(znZ (least hI')).2 k hq;omega
 |_=>exact hq
theorem ActOK.none {D:List Deferred} {w:World} {M:AMap} {I:Nat->Prop} {n N:Nat} {g:GF} {a:Act} (hF:ActOK D w M I n N g a):ActOK D w M I n N (get []) a:=
 ⟨fun t=>.undef _,hF.size,hF.defers⟩
section
variable {D:List Deferred} {P:Program} {GT:zG_}
theorem zLC {N:Nat} (hm:P.follows .mixedOrders=true):∀ (ac:AC) (c:Code) (K:Post) (Q:Exit->Act->World->Prop) (w:World) (M:AMap) (I:Nat->Prop) (H:Heap) (fr:Fr) (a:Act),
  zIo P N c ac=true->Sim GT w M I H->ActOK D w M I H.length N (get fr) a->AW (Good P GT) GT ac K fr H ->
  (∀ e E fr' H' a' w' M' I',Grow w M I H w' M' I' H'->Sim GT w' M' I' H'->ActOK D w' M' I' H'.length N (get fr') a'->Outs w' M' I' H'.length e E->K e fr' H'->Q E a' w')->c.wp P Q a w:=by
 intro ac;induction ac with
 |stuck=>intro c K Q w M I H fr a hc hS hF hA hQ;exact hA.elim
 |skip=>
  intro c K Q w M I H fr a hc hS hF hA hQ;cases c <;> simp [zIo] at hc
  exact wp_skip (hQ .normal .normal fr H a w M I (Grow.refl ..) hS hF rfl hA)
 |label=>
  intro c K Q w M I H fr a hc hS hF hA hQ;cases c <;> simp [zIo] at hc
  exact wp_label (hQ .normal .normal fr H a w M I (Grow.refl ..) hS hF rfl hA)
 |ret=>
  intro c K Q w M I H fr a hc hS hF hA hQ;cases c <;> simp [zIo] at hc
  exact wp_ret (hQ .ret .ret fr H a w M I (Grow.refl ..) hS hF rfl hA)
 |exit id=>
  intro c K Q w M I H fr a hc hS hF hA hQ;cases c <;> simp [zIo] at hc
  subst hc;exact wp_exit (hQ (.exit _) (.exit _) fr H a w M I (Grow.refl ..) hS hF rfl hA)
 |goto l=>
  intro c K Q w M I H fr a hc hS hF hA hQ;cases c <;> simp [zIo] at hc
  subst hc;exact wp_goto (hQ (.goto _) (.goto _) fr H a w M I (Grow.refl ..) hS hF rfl hA)
 |reg L draw is=>
  intro c K Q w M I H fr a hc hS hF hA hQ;cases c <;> simp only [zIo,zoZ,zTo,zol,zmn,zmD] at hc
  obtain ⟨⟨rfl,h1⟩,h2⟩:=hc;rename_i id ops draw;cases draw with
  |false=>exact wp_region_list (zR0 is ops.toList w M I H _ a hS (hF.restrict L) h1 hA fun fr' H' a' w' M' I' hG hS' hF' hK=>hQ .normal .normal fr' H' a' w' M' I' hG hS' hF' rfl hK)
  |true=>
   exact zWu hm hS (hF.restrict L) h1 (h2.resolve_left zS_) hA fun fr' H' a' w' M' I' hG hS' hF' hK=>hQ .normal .normal fr' H' a' w' M' I' hG hS' hF' rfl hK
 |regt L draw is t=>
  intro c K Q w M I H fr a hc hS hF hA hQ;cases c <;> simp only [zIo,zoZ,zTo,zol] at hc
  obtain ⟨⟨rfl,h1⟩,h2⟩:=hc;exact zWx hm hS (hF.restrict L) h1 h2 hA (fun fr' H' a' w' M' I' hG hS' hF' hK=>hQ .normal .normal fr' H' a' w' M' I' hG hS' hF' rfl hK)
   (fun x xv g' H' a' w' M' I' hG hS' hF' hr hK=>hQ (.pan x) _ [] H' a' w' M' I' hG hS' hF'.none ⟨xv,rfl,hr⟩ hK)
 |seq x y ihx ihy=>
  intro c K Q w M I H fr a hc hS hF hA hQ;cases c <;> simp only [zIo,zoZ,zTo] at hc
  refine wp_seq (ihx _ _ _ w M I H fr a hc.1 hS hF hA fun e E fr' H' a' w' M' I' hG hS' hF' hE hK=>?_);cases e with
  |normal=>
   obtain rfl:=hE;exact ihy _ K Q w' M' I' H' fr' a' hc.2 hS' hF' hK fun e E fr2 H2 a2 w2 M2 I2 hG2=>hQ e E fr2 H2 a2 w2 M2 I2 (hG.trans hG2)
  |exit id=>obtain rfl:=hE;exact hQ (.exit id) _ fr' H' a' w' M' I' hG hS' hF' rfl hK
  |ret=>obtain rfl:=hE;exact hQ .ret _ fr' H' a' w' M' I' hG hS' hF' rfl hK
  |goto l=>obtain rfl:=hE;exact hQ (.goto l) _ fr' H' a' w' M' I' hG hS' hF' rfl hK
  |pan x=>obtain ⟨xv,rfl,hr⟩:=hE;exact hQ (.pan x) _ fr' H' a' w' M' I' hG hS' hF' ⟨xv,rfl,hr⟩ hK
 |cond t x y ihx ihy=>
  intro c K Q w M I H fr a hc hS hF hA hQ;cases c <;> simp only [zIo,zoZ,zTo] at hc
  rename_i t' x' y';obtain ⟨⟨h1,h2⟩,h3⟩:=hc;unfold AW at hA;split at hA
  ·rename_i b hb;have hF':ActOK D w M I H.length N (get (learn fr t b)) a:=⟨fun s=>by rw [zR5 hb s];exact hF.rel s,hF.size,hF.defers⟩;have hr:=hF.ev hS _ _ h1;rw [<-zF5,hb] at hr;have hv:a.eval t'=.bool b:=by
    generalize a.eval t'=u at hr;cases hr;rfl
   refine wp_cond hv ?_;cases b with
   |true=>grind
   |false=>grind
  ·exact hA.elim
 |block id L x ih=>
  intro c K Q w M I H fr a hc hS hF hA hQ;cases c <;> simp only [zIo,zoZ,zTo,zol] at hc
  obtain ⟨rfl,hc⟩:=hc;rename_i id x';refine wp_block (ih _ _ _ w M I H fr a hc hS hF hA fun e E fr' H' a' w' M' I' hG hS' hF' hE hK=>?_);cases e with
  |normal=>obtain rfl:=hE;exact hQ .normal _ _ H' a' w' M' I' hG hS' (hF'.restrict L) rfl hK
  |exit j=>
   obtain rfl:=hE;simp only [zIT] at hK;simp only [Exit.inBlock];by_cases hj:j=id
   ·rw [zoQ hj] at hK ⊢;exact hQ .normal _ _ H' a' w' M' I' hG hS' (hF'.restrict L) rfl hK
   ·rw [zWl hj] at hK ⊢;exact hQ (.exit j) _ fr' H' a' w' M' I' hG hS' hF' rfl hK
  |ret=>obtain rfl:=hE;exact hQ .ret _ fr' H' a' w' M' I' hG hS' hF' rfl hK
  |goto l=>obtain rfl:=hE;exact hQ (.goto l) _ fr' H' a' w' M' I' hG hS' hF' rfl hK
  |pan x=>obtain ⟨xv,rfl,hr⟩:=hE;exact hQ (.pan x) _ fr' H' a' w' M' I' hG hS' hF' ⟨xv,rfl,hr⟩ hK
 |loop L x ih=>
  intro c K Q w M I H fr a hc hS hF hA hQ;cases c <;> simp only [zIo,zoZ] at hc
  rename_i x';obtain ⟨m,hA⟩:=hA;refine wp_loop_rounds (fun m a' w'=>∃ M' I' H' fr',Grow w M I H w' M' I' H'/\Sim GT w' M' I' H'/\ActOK D w' M' I' H'.length N (get fr') a'/\zQd (AW (Good P GT) GT x) L K m fr' H')
   ⟨m,M,I,H,_,Grow.refl ..,hS,hF.restrict L,hA⟩ ?_
  rintro m a1 w1 ⟨M1,I1,H1,fr1,hG1,hS1,hF1,hA1⟩;cases m with
  |zero=>exact hA1.elim
  |succ k=>
   refine ⟨k,rfl,ih _ _ _ w1 M1 I1 H1 fr1 a1 hc hS1 hF1 hA1 fun e E fr' H' a' w' M' I' hG hS' hF' hE hK=>?_⟩;cases e with
   |normal=>obtain rfl:=hE;exact ⟨M',I',H',_,hG1.trans hG,hS',hF'.restrict L,hK⟩
   |exit j=>obtain rfl:=hE;exact hQ (.exit j) _ fr' H' a' w' M' I' (hG1.trans hG) hS' hF' rfl hK
   |ret=>obtain rfl:=hE;exact hQ .ret _ fr' H' a' w' M' I' (hG1.trans hG) hS' hF' rfl hK
   |goto l=>obtain rfl:=hE;exact hQ (.goto l) _ fr' H' a' w' M' I' (hG1.trans hG) hS' hF' rfl hK
   |pan x=>obtain ⟨xv,rfl,hr⟩:=hE;exact hQ (.pan x) _ fr' H' a' w' M' I' (hG1.trans hG) hS' hF' ⟨xv,rfl,hr⟩ hK
 |scope L l x r ihx ihr=>
  intro c K Q w M I H fr a hc hS hF hA hQ;cases c <;> simp only [zIo,zoZ,zTo] at hc
  rename_i x';obtain ⟨hc1,hc2⟩:=hc;split at hc2
  case h_2=>cases hc2
  rename_i rest hfl;have go:∀ (G:Fr->Heap->Prop) (J:Act->World->Prop) (w1:World) (M1:AMap) (I1:Nat->Prop) (H1:Heap),Grow w M I H w1 M1 I1 H1 ->
    (∀ fr' H' a' w' M' I',Grow w1 M1 I1 H1 w' M' I' H'->Sim GT w' M' I' H'->ActOK D w' M' I' H'.length N (get fr') a'->G fr' H'->J a' w') ->
    ∀ e E fr' H' a' w' M' I',Grow w1 M1 I1 H1 w' M' I' H'->Sim GT w' M' I' H'->ActOK D w' M' I' H'.length N (get fr') a'->Outs w' M' I' H'.length e E->zQe l G K e fr' H'->Exit.jump l J Q E a' w':=by
   intro G J w1 M1 I1 H1 hG1 hJ e E fr' H' a' w' M' I' hG hS' hF' hE hK;cases e with
   |normal=>obtain rfl:=hE;exact hQ .normal _ fr' H' a' w' M' I' (hG1.trans hG) hS' hF' rfl hK
   |exit j=>obtain rfl:=hE;exact hQ (.exit j) _ fr' H' a' w' M' I' (hG1.trans hG) hS' hF' rfl hK
   |ret=>obtain rfl:=hE;exact hQ .ret _ fr' H' a' w' M' I' (hG1.trans hG) hS' hF' rfl hK
   |goto l'=>obtain rfl:=hE;exact ⟨hK.1,hJ fr' H' a' w' M' I' hG hS' hF' hK.2⟩
   |pan x=>obtain ⟨xv,rfl,hr⟩:=hE;exact hQ (.pan x) _ fr' H' a' w' M' I' (hG1.trans hG) hS' hF' ⟨xv,rfl,hr⟩ hK
  refine zNz l (fun m a' w'=>∃ M' I' H' fr',Grow w M I H w' M' I' H'/\Sim GT w' M' I' H'/\ActOK D w' M' I' H'.length N (get fr') a'/\zK2 (AW (Good P GT) GT r) L l K m fr' H') hfl ?_ ?_
  ·refine ihx _ _ _ w M I H fr a hc1 hS hF hA (go _ _ w M I H (Grow.refl ..) ?_);rintro fr' H' a' w' M' I' hG hS' hF' ⟨m,hm'⟩;exact ⟨m,M',I',H',_,hG,hS',hF'.restrict L,hm'⟩
  ·rintro m a1 w1 ⟨M1,I1,H1,fr1,hG1,hS1,hF1,hA1⟩;cases m with
   |zero=>exact hA1.elim
   |succ k=>
    refine ⟨k,rfl,ihr _ _ _ w1 M1 I1 H1 fr1 a1 hc2 hS1 hF1 hA1 (go _ _ w1 M1 I1 H1 hG1 ?_)⟩;intro fr' H' a' w' M' I' hG hS' hF' hg;exact ⟨M',I',H',_,hG1.trans hG,hS',hF'.restrict L,hg⟩
end
theorem zR6:∀ (i:Nat) (vs:List AV) (t:Nat),get (zGR i vs) t=if i<=t then vs.getD (t-i) .undef else .undef
 |_,[],t=>by simp [zGR,get]
 |i,v::vs,t=>by
  simp only [zGR,get];rw [zR6 (i+1) vs t];by_cases h:i=t
  ·subst h;simp
  ·grind
def zWy (P:Program):List ResultVar->List ARes->Bool
 |[],[]=>true
 |.tmp t::rs,.tmp t'::qs=>t==t'&&zWy P rs qs
 |.cell a ty::rs,.cell a' s ag::qs=>a==a'&&zFP P ty==some s&&zKU P ty==some ag&&zWy P rs qs
 |_,_=>false
section
variable {D:List Deferred} {P:Program} {GT:zG_} {w:World} {M:AMap} {I:Nat->Prop} {H:Heap}
theorem zHv (hS:Sim GT w M I H) {N:Nat} {fr:Fr} {a:Act} (hF:ActOK D w M I H.length N (get fr) a):∀ (rs:List ResultVar) (qs:List ARes) (vs:List AV),zWy P rs qs=true->zBd fr H qs=some vs ->
  ∃ us,(rs.mapM (m:=Sem) fun
   |.tmp t=>pure (a.tmps.getD t Go.undef)
   |.cell b t=>do loadVar t (<-asAddr (a.tmps.getD b Go.undef))).run P w=.ok us w/\zED w M I H.length vs us
 |[],[],vs,_,h=>by
  simp only [zBd,zoS] at h;subst h;exact ⟨[],by simp,rfl,by simp⟩
 |.tmp t::rs,.tmp t'::qs,vs,hc,h=>by
  simp only [zWy,zTo,zol] at hc;obtain ⟨rfl,hc⟩:=hc;simp only [zBd,zKS] at h;split at h
  ·rename_i v vs' h1 h2;cases h;obtain ⟨us,hr,hl,hR⟩:=zHv hS hF rs qs vs' hc h2;cases h1;refine ⟨a.tmps.getD t Go.undef::us,by simp only [znu,Sem.run_bind,Sem.run_pure,Result.andThen_ok,hr],by simp [hl],fun i c u hi hu=>?_⟩;cases i with
   |zero=>simp at hi hu;subst hi;have:=hF.rel t;simp at this;rw [hu] at this;exact this
   |succ i=>grind
  ·cases h
 |.cell b ty::rs,.cell b' s ag::qs,vs,hc,h=>by
  simp only [zWy,zTo,zol] at hc;obtain ⟨⟨⟨rfl,hc1⟩,hc2⟩,hc⟩:=hc;simp only [zBd,zKS] at h;split at h
  ·rename_i v vs' h1 h2;cases h;obtain ⟨us,hr,hl,hR⟩:=zHv hS hF rs qs vs' hc h2;split at h1
   ·rename_i cs o hp;obtain ⟨g,ad,hv,hcells⟩:=zRt hS (hF.rel b) hp;obtain ⟨u,hu,hru⟩:=zK6 (P:=P) hc1 hc2 h1 hcells;refine ⟨u::us, ?_,by simp [hl],fun i c u' hi hu'=>?_⟩
    ·have ha:(asAddr (a.tmps.getD b Go.undef)).run P w=.ok ⟨g,ad,none⟩ w:=by rw [hv];simp [asAddr]
     simp only [znu,Sem.run_bind,Sem.run_pure,Result.andThen_ok,ha,hu,hr]
    ·grind
   ·cases h1
  ·cases h
 |[],_::_,_,hc,_=>by simp [zWy] at hc
 |.tmp _::_,[],_,hc,_=>by simp [zWy] at hc
 |.cell _ _::_,[],_,hc,_=>by simp [zWy] at hc
 |.tmp _::_,.cell ..::_,_,hc,_=>by simp [zWy] at hc
 |.cell _ _::_,.tmp _::_,_,hc,_=>by simp [zWy] at hc
theorem zWz {n:Nat} {vs:List AV} {us:List Value} (h:zED w M I n vs us):Rel w M I n (tupled vs) (if h:us.toArray.size=1 then us.toArray[0] else .tuple us.toArray):=by
 obtain ⟨hl,hR⟩:=h
 match vs,us,hl with
 |[],[],_=>exact Rel.tup [] [] rfl zS_
 |[v],[u],_=>simpa [tupled] using hR 0 v u rfl rfl
 |v::v'::vs,u::u'::us,hl=>simpa [tupled] using Rel.tup _ _ hl hR
theorem zJd {F:AF} {w0:World} {M0:AMap} {I0:Nat->Prop} {H0:Heap} (hS0:Sim GT w0 M0 I0 H0) (hG:Grow w0 M0 I0 H0 w M I H) (hS:Sim GT w M I H) {N:Nat} {fr:Fr} {a:Act} (hF:ActOK D w M I H.length N (get fr) a)
  {fn:Func} (hc:zWy P fn.results.toList F.results=true) {v:AV} {H':Heap} (h:zHM F H0 fr H v H') :
  ∃ u,(results fn a.tmps).run P w=.ok u w/\∃ I',Grow w0 M0 I0 H0 w M I' H'/\Sim GT w M I' H'/\Rel w M I' H'.length v u:=by
 unfold zHM at h;split at h
 ·exact h.elim
 ·rename_i vs hvs;obtain ⟨us,hr,hR⟩:=zHv (P:=P) hS hF _ _ vs hc hvs;have hT:=zWz hR;refine ⟨if h:us.toArray.size=1 then us.toArray[0] else .tuple us.toArray, ?_, ?_⟩
  case refine_2=>
   split at h
   ·obtain ⟨rfl,rfl⟩:=h;exact ⟨I,hG,hS,hT⟩
   ·split at h
    ·rename_i v' H2 hfz;obtain ⟨hb,hold,rfl,rfl⟩:=h;obtain ⟨I',g1,s1,r1,l1,_⟩:=zK3 _ _ hS hT hfz;have hG2:=hG.trans g1;have hlen:H0.length<=H2.length:=hG2.len;refine ⟨I',hG2.take,s1.take _ hlen (fun b cs hb hcs=>?_), ?_⟩
     ·rcases hold b hb with h1|⟨x,h1,h2⟩
      ·rw [hcs] at h1;obtain ⟨g,o,cur,_,_,_,_,h5⟩:=hS0.blk b _ h1.symm;intro c hcm;obtain ⟨i,hi⟩:=zo6 hcm;obtain ⟨u,_,hu⟩:=h5 i c hi;exact hu.bel
      ·rw [hcs] at h1;cases h1;simp only [zHL,AV.belL_iff] at h2;exact h2
     ·have:(H2.take H0.length).length=H0.length:=by simp;omega
      rw [this];exact r1.cut (fun _ _=>rfl) hb
    ·exact h.elim
  case refine_1=>
   simp only [results];rw [Array.mapM_eq_mapM_toList];simp only [Sem.run_bind,Sem.run_pure,Result.andThen_ok,map_eq_pure_bind]
   erw [hr]
   simp
theorem zW0 {F:AF} {w0:World} {M0:AMap} {I0:Nat->Prop} {H0:Heap} (hS0:Sim GT w0 M0 I0 H0) (hG:Grow w0 M0 I0 H0 w M I H) (hS:Sim GT w M I H) {x0 x:AV} {xv:Value} (hT:Rel w M I H.length x0 xv) {H':Heap} (h:panF F H0 x0 H x H') :
  ∃ I',Grow w0 M0 I0 H0 w M I' H'/\Sim GT w M I' H'/\Rel w M I' H'.length x xv:=by
 unfold panF at h;split at h
 ·grind
 ·split at h
  ·rename_i v' H2 hfz;obtain ⟨hb,hold,rfl,rfl⟩:=h;obtain ⟨I',g1,s1,r1,l1,_⟩:=zK3 _ _ hS hT hfz;have hG2:=hG.trans g1;have hlen:H0.length<=H2.length:=hG2.len;refine ⟨I',hG2.take,s1.take _ hlen (fun b cs hb hcs=>?_), ?_⟩
   ·rcases hold b hb with h1|⟨x,h1,h2⟩
    ·rw [hcs] at h1;obtain ⟨g,o,cur,_,_,_,_,h5⟩:=hS0.blk b _ h1.symm;intro c hcm;obtain ⟨i,hi⟩:=zo6 hcm;obtain ⟨u,_,hu⟩:=h5 i c hi;exact hu.bel
    ·rw [hcs] at h1;cases h1;simp only [zHL,AV.belL_iff] at h2;exact h2
   ·have:(H2.take H0.length).length=H0.length:=by simp;omega
    rw [this];exact r1.cut (fun _ _=>rfl) hb
  ·exact h.elim
theorem zLD (hS:Sim GT w M I H) {args:List AV} {cargs:List Value} (hA:zED w M I H.length args cargs) {n:Nat}:ActOK [] w M I H.length n (get (zGR 0 args)) { tmps:=cargs.toArray++Array.replicate (n-cargs.toArray.size) Go.undef,defers:=[] }:=by
 refine ⟨fun t=>?_,by simp;omega,rfl⟩;rw [zR6];simp only [zmB,zoz,zoA];by_cases ht:t<args.length
 ·have h2:args[t]?=some args[t]:=by simp [ht]
  have ht':t<cargs.length:=by rw [<-hA.1];exact ht
  have h3:cargs[t]?=some cargs[t]:=by simp [ht']
  have:=hA.2 t _ _ h2 h3;have e1:args.getD t .undef=args[t]:=by simp [ht]
  rw [e1];have e2:(cargs.toArray++Array.replicate (n-cargs.toArray.size) Go.undef).getD t Go.undef=cargs[t]:=by
   rw [zmx,zm0 (by simpa using ht')];simp [ht']
  rw [e2];exact this
 ·have e1:args.getD t .undef=.undef:=by simp [zmA (Nat.le_of_not_lt ht)]
  rw [e1];exact .undef _
theorem zW1 (hm:P.follows .mixedOrders=true) {f:FuncId} {fn:Func} {c:Code} {F:AF} (hf:P.funcs[f]?=some fn) (hname:(fn.name == "runtime.NumGoroutine")=false) (hb:fn.body=some c)
  (hc:zIo P fn.ntmps c F.body=true) (hr:zWy P fn.results.toList F.results=true) {args:List AV} (hn:zIt args=true) {H:Heap} {v:AV} {H':Heap} (h:AFun (Good P GT) GT F args H v H'):Good P GT f args H v H':=by
 refine zIu hn fun w M I cargs hS hA=>?_;have h1:fn.name ≠ "runtime.NumGoroutine" := by simpa using hname
 have hrun:(callFunc f cargs.toArray).run P w=.ok (.enter f cargs.toArray) w:=by simp [callFunc,hf,h1,hb]
 rw [hrun];refine calls_of_wp hf hb ?_;refine zLC hm F.body c _ _ w M I H (zGR 0 args) _ hc hS (zLD hS hA) h ?_;intro e E fr' H1 a' w' M' I' hG hS' hF' hE hK;cases e with
 |exit id=>exact hK.elim
 |goto l=>exact hK.elim
 |pan x=>exact hK.elim
 |normal=>
  obtain rfl:=hE;obtain ⟨u,h2,I2,h3,h4,h5⟩:=zJd hS hG hS' hF' hr hK;exact ⟨hF'.defers,u,h2,u,rfl,M',I2,h3,h4,h5⟩
 |ret=>
  obtain rfl:=hE;obtain ⟨u,h2,I2,h3,h4,h5⟩:=zJd hS hG hS' hF' hr hK;exact ⟨hF'.defers,u,h2,u,rfl,M',I2,h3,h4,h5⟩
end
section
variable {C:CSpec} {GT:zG_}
theorem zHS {k:AK} {vs:List AV} {H:Heap} {K:AV->Heap->Prop}:zL2 C k vs H K↔∃ v H',zGS C k vs H v H'/\K v H':=by
 constructor
 ·exact zNR
 ·rintro ⟨v,H',h,hk⟩;cases k
  case call f rd=>exact ⟨v,H',h.1,h.2,hk⟩
  case callv rd=>
   simp only [zGS] at h;split at h
   ·exact ⟨v,H',h.1,h.2,hk⟩
   ·exact h.elim
  all_goals
   simp only [zGS] at h;simp only [zL2];rw [h];exact hk
theorem zLE {i:AI} {is:List AI} {fr:Fr} {H:Heap} {K:Fr->Heap->Prop} {v:AV} {H':Heap} (h:AYields C GT i (get fr) H v H') (h2:AWops C GT is (put fr i.dst v) H' K):AWops C GT (i::is) fr H K:=by
 unfold AYields at h;unfold AWops;split at h
 ·rename_i hg;rw [hg];exact zHS.2 ⟨v,H',by rw [zF5];exact h,h2⟩
 ·rename_i s want hg;rw [hg];obtain ⟨b,hb,h⟩:=h;simp only [hb];split at h
  ·rename_i hw;rw [zoQ hw];exact zHS.2 ⟨v,H',by rw [zF5];exact h,h2⟩
  ·grind
theorem zF1 {k:AK} {vs:List AV} {H:Heap} {K KP:AV->Heap->Prop}:zGa C k vs H K KP↔(∃ v H',zGS C k.plainK vs H v H'/\K v H')\/(∃ x H',zQj C k vs H x H'/\KP x H'):=by
 constructor
 ·exact zNu
 ·intro h;cases k
  case callp f=>
   rcases h with ⟨v,H',h1,h2⟩|⟨x,H',h1,h2⟩
   ·exact .inl ⟨v,H',h1.1,h2⟩
   ·exact .inr ⟨x,H',h1,h2⟩
  case callvp=>
   rcases h with ⟨v,H',h1,h2⟩|⟨x,H',h1,h2⟩
   ·simp only [AK.plainK,zGS] at h1;simp only [zGa];split at h1
    ·exact .inl ⟨v,H',h1.1,h2⟩
    ·exact h1.elim
   ·simp only [zQj] at h1;simp only [zGa];split at h1
    ·exact .inr ⟨x,H',h1,h2⟩
    ·exact h1.elim
  case panic=>
   rcases h with ⟨v,H',h1,h2⟩|⟨x,H',h1,h2⟩
   ·simp [AK.plainK,zGS,astep] at h1
   ·obtain ⟨t,y,rfl,rfl,rfl⟩:=h1;exact h2
  all_goals
   rcases h with ⟨v,H',h1,h2⟩|⟨x,H',h1,h2⟩
   ·exact zHS.2 ⟨v,H',h1,h2⟩
   ·exact h1.elim
def zYV (K:Post) (os:List (AE×Fr×Heap)):Prop:=∀ o∈os,K o.1 o.2.1 o.2.2
def Fin' (F:Post->Fr->Heap->Prop):Prop:=∀ K fr H,F K fr H->∃ os,zYV K os/\∀ K',zYV K' os->F K' fr H
theorem zYV.one {K:Post} {e:AE} {fr:Fr} {H:Heap} (h:K e fr H):zYV K [(e,fr,H)]:=by grind +locals
theorem zYV.get {K:Post} {e:AE} {fr:Fr} {H:Heap} (h:zYV K [(e,fr,H)]):K e fr H:=h _ (zl5.2 rfl)
theorem zLF {F:Post->Fr->Heap->Prop} (hF:Fin' F) {T:Post->Post} (hT:∀ K e fr H,T K e fr H->∃ l,zYV K l/\∀ K',zYV K' l->T K' e fr H):Fin' fun K fr H=>F (T K) fr H:=by
 classical
 intro K fr H h;obtain ⟨os,h1,h2⟩:=hF _ fr H h;have hc:∀ o:AE×Fr×Heap,∃ l:List (AE×Fr×Heap),o∈os->(zYV K l/\∀ K',zYV K' l->T K' o.1 o.2.1 o.2.2):=fun o=>by
  by_cases ho:o∈os
  ·grind +locals
  ·exact ⟨[],fun h=>absurd h ho⟩
 obtain ⟨f,hf⟩:=Classical.axiomOfChoice hc;refine ⟨os.flatMap f,fun o ho=>?_,fun K' hK=>h2 _ fun o ho=>(hf o ho).2 K' fun o' ho'=>hK o' (znc.2 ⟨o,ho,ho'⟩)⟩;obtain ⟨o1,ho1,ho2⟩:=znc.1 ho;exact (hf o1 ho1).1 o ho2
theorem zGb {K:Post} {e:AE} {fr:Fr} {H:Heap} {T:Post->Prop} (ht:∀ K',T K'↔K' e fr H) (h:T K):∃ l,zYV K l/\∀ K',zYV K' l->T K':=
 ⟨[(e,fr,H)],.one ((ht K).1 h),fun K' hk=>(ht K').2 hk.get⟩
theorem zY2:∀ (is:List AI),Fin' fun K fr H=>AWops C GT is fr H fun fr' H'=>K .normal fr' H'
 |[]=>fun K fr H h=>⟨[(.normal,fr,H)],.one h,fun K' hk=>hk.get⟩
 |i::is=>fun K fr H h=>by
  obtain ⟨v,H1,h1,h2⟩:=zJc h;obtain ⟨os,h3,h4⟩:=zY2 is K _ _ h2;exact ⟨os,h3,fun K' hk=>zLE h1 (h4 K' hk)⟩
theorem zHw {is:List AI} {j:Nat} {t:OT} {fr:Fr} {H:Heap} {K:Fr->Heap->Prop} {KP:AV->Heap->Prop} {i:AI} (hi:is[j]?=some i)
  (h:(∃ v H',AYields C GT i.plain (get fr) H v H'/\AWT C GT is t (put fr i.dst v) H' K KP)\/(∃ x H',zDp C GT i (get fr) H x H'/\KP x H')):AWT C GT is (.step j t) fr H K KP:=by
 unfold AWT;simp only [hi];unfold AYields zDp at h;cases hg:i.g with
 |none=>
  simp only [AI.plain,hg] at h ⊢;rw [<-zF5] at h;exact zF1.2 h
 |some sw=>
  obtain ⟨s,want⟩:=sw;simp only [AI.plain,hg] at h ⊢;rw [<-zF5] at h;rcases h with ⟨v,H',⟨b,hb,h⟩,h2⟩|⟨x,H',⟨hb,h⟩,h2⟩
  ·simp only [hb];split at h
   ·rename_i hbt;rw [zoQ hbt];exact zF1.2 (.inl ⟨v,H',h,h2⟩)
   ·grind
  ·simp only [hb];rw [zoQ trivial];exact zF1.2 (.inr ⟨x,H',h,h2⟩)
theorem zQm (is:List AI):∀ (t:OT),Fin' fun K fr H=>AWT C GT is t fr H (fun fr' H'=>K .normal fr' H') (fun x H'=>K (.pan x) [] H')
 |.done=>fun K fr H h=>⟨[(.normal,fr,H)],.one h,fun K' hk=>hk.get⟩
 |.step j t=>fun K fr H h=>by
  obtain ⟨i,hi,h1⟩:=zLA h;rcases h1 with ⟨v,H',h1,h2⟩|⟨x,H',h1,h2⟩
  ·obtain ⟨os,h3,h4⟩:=zQm is t K _ _ h2;exact ⟨os,h3,fun K' hk=>zHw hi (.inl ⟨v,H',h1,h4 K' hk⟩)⟩
  ·exact ⟨[(.pan x,[],H')],.one h2,fun K' hk=>zHw hi (.inr ⟨x,H',h1,hk.get⟩)⟩
 |.alt a b=>fun K fr H h=>by
  obtain ⟨o1,a1,a2⟩:=zQm is a K fr H h.1;obtain ⟨o2,b1,b2⟩:=zQm is b K fr H h.2;exact ⟨o1++o2,fun o ho=>(zmm.1 ho).elim (a1 o) (b1 o),fun K' hk=>⟨a2 K' fun o ho=>hk o (zn9 _ ho),b2 K' fun o ho=>hk o (List.mem_append_right _ ho)⟩⟩
theorem zR7 {F:Post->Fr->Heap->Prop} (hF:Fin' F) (L:List Nat):∀ m,Fin' fun K fr H=>zQd F L K m fr H
 |0=>fun K fr H h=>h.elim
 |m+1=>zLF hF fun K e fr H h=>by
  cases e with
  |normal=>exact zR7 hF L m K _ _ h
  |_=>exact zGb (T:=fun K'=>K' _ fr H) (fun K'=>zml) h
theorem zR8 {F:Post->Fr->Heap->Prop} (hF:Fin' F) (L:List Nat) (l:Nat):∀ m,Fin' fun K fr H=>zK2 F L l K m fr H
 |0=>fun K fr H h=>h.elim
 |m+1=>zLF hF fun K e fr H h=>by
  cases e with
  |goto l'=>
   obtain ⟨os,h1,h2⟩:=zR8 hF L l m K _ _ h.2;exact ⟨os,h1,fun K' hk=>⟨h.1,h2 K' hk⟩⟩
  |_=>exact zGb (T:=fun K'=>K' _ fr H) (fun K'=>zml) h
theorem zi4:∀ (ac:AC),Fin' (AW C GT ac):=by
 intro ac;induction ac with
 |skip=>exact fun K fr H h=>⟨[(.normal,fr,H)],.one h,fun K' hk=>hk.get⟩
 |label=>exact fun K fr H h=>⟨[(.normal,fr,H)],.one h,fun K' hk=>hk.get⟩
 |ret=>exact fun K fr H h=>⟨[(.ret,fr,H)],.one h,fun K' hk=>hk.get⟩
 |exit id=>exact fun K fr H h=>⟨[(.exit id,fr,H)],.one h,fun K' hk=>hk.get⟩
 |goto l=>exact fun K fr H h=>⟨[(.goto l,fr,H)],.one h,fun K' hk=>hk.get⟩
 |stuck=>exact fun K fr H h=>h.elim
 |reg L d is=>exact fun K fr H h=>zY2 is K _ H h
 |regt L d is t=>exact fun K fr H h=>zQm is t K _ H h
 |seq a b iha ihb=>
  exact zLF iha (T:=fun K=>zWb (AW C GT b K) K) fun K e fr H h=>by
   cases e with
   |normal=>exact ihb K fr H h
   |_=>exact zGb (T:=fun K'=>K' _ fr H) (fun K'=>zml) h
 |cond c a b iha ihb=>
  intro K fr H h;unfold AW at h;split at h
  ·rename_i t ht;have e:∀ K',AW C GT (.cond c a b) K' fr H=if t=true then AW C GT a K' (learn fr c true) H else AW C GT b K' (learn fr c false) H:=fun K'=>by simp only [AW,ht]
   split at h
   ·grind +locals
   ·grind +locals
  ·exact h.elim
 |block id L c ih=>
  exact zLF ih (T:=zIT id L) fun K e fr H h=>by
   cases e with
   |normal=>exact zGb (T:=fun K'=>K' .normal (restrict fr L) H) (fun K'=>zml) h
   |exit j=>
    simp only [zIT] at h ⊢;by_cases hj:j=id
    ·simp only [hj,zoz] at h ⊢;exact zGb (T:=fun K'=>K' .normal (restrict fr L) H) (fun K'=>zml) h
    ·simp only [hj,zot] at h ⊢;exact zGb (T:=fun K'=>K' (.exit j) fr H) (fun K'=>zml) h
   |_=>exact zGb (T:=fun K'=>K' _ fr H) (fun K'=>zml) h
 |loop L c ih=>
  intro K fr H h;obtain ⟨m,h⟩:=h;obtain ⟨os,h1,h2⟩:=zR7 ih L m K _ H h;exact ⟨os,h1,fun K' hk=>⟨m,h2 K' hk⟩⟩
 |scope L l c r ihc ihr=>
  exact zLF ihc (T:=fun K=>zQe l (fun fr' H'=>∃ m,zK2 (AW C GT r) L l K m (restrict fr' L) H') K) fun K e fr H h=>by
   cases e with
   |goto l'=>
    obtain ⟨hl,m,hg⟩:=h;obtain ⟨os,h1,h2⟩:=zR8 ihr L l m K _ H hg;exact ⟨os,h1,fun K' hk=>⟨hl,m,h2 K' hk⟩⟩
   |_=>exact zGb (T:=fun K'=>K' _ fr H) (fun K'=>zml) h
theorem zY3 {ac:AC} {K K':Post} {fr:Fr} {H:Heap} (h:AW C GT ac K fr H) (hk:∀ e fr H,K e fr H->K' e fr H):AW C GT ac K' fr H:=by
 obtain ⟨os,h1,h2⟩:=zi4 ac K fr H h;exact h2 K' fun o ho=>hk _ _ _ (h1 o ho)
def detT:OT->Bool
 |.done=>true
 |.step _ t=>detT t
 |.alt _ _=>false
def det:AC->Bool
 |.seq a b=>det a&&det b
 |.cond _ a b=>det a&&det b
 |.block _ _ c=>det c
 |.loop _ c=>det c
 |.regt _ _ _ t=>detT t
 |.scope _ _ c r=>det c&&det r
 |_=>true
def One (F:Post->Fr->Heap->Prop):Prop:=∀ K fr H,F K fr H->∃ e fr' H',K e fr' H'/\∀ K':Post,K' e fr' H'->F K' fr H
theorem zLG {F:Post->Fr->Heap->Prop} (hF:One F) {T:Post->Post} (hT:∀ K e fr H,T K e fr H->∃ e' fr' H',K e' fr' H'/\∀ K':Post,K' e' fr' H'->T K' e fr H):One fun K fr H=>F (T K) fr H:=by grind +locals
theorem zY4:∀ (is:List AI),One fun K fr H=>AWops C GT is fr H fun fr' H'=>K .normal fr' H'
 |[]=>fun K fr H h=>⟨.normal,fr,H,h,fun K' hk=>hk⟩
 |i::is=>fun K fr H h=>by
  obtain ⟨v,H1,h1,h2⟩:=zJc h;obtain ⟨e,fr',H',h3,h4⟩:=zY4 is K _ _ h2;exact ⟨e,fr',H',h3,fun K' hk=>zLE h1 (h4 K' hk)⟩
theorem zY5 (is:List AI):∀ (t:OT),detT t=true->One fun K fr H=>AWT C GT is t fr H (fun fr' H'=>K .normal fr' H') (fun x H'=>K (.pan x) [] H')
 |.done,_=>fun K fr H h=>⟨.normal,fr,H,h,fun K' hk=>hk⟩
 |.step j t,hd=>fun K fr H h=>by
  obtain ⟨i,hi,h1⟩:=zLA h;rcases h1 with ⟨v,H',h1,h2⟩|⟨x,H',h1,h2⟩
  ·obtain ⟨e,fr',H2,h3,h4⟩:=zY5 is t hd K _ _ h2;exact ⟨e,fr',H2,h3,fun K' hk=>zHw hi (.inl ⟨v,H',h1,h4 K' hk⟩)⟩
  ·exact ⟨.pan x,[],H',h2,fun K' hk=>zHw hi (.inr ⟨x,H',h1,hk⟩)⟩
 |.alt _ _,hd=>by simp [detT] at hd
theorem zR9 {F:Post->Fr->Heap->Prop} (hF:One F) (L:List Nat):∀ m,One fun K fr H=>zQd F L K m fr H
 |0=>fun K fr H h=>h.elim
 |m+1=>zLG hF fun K e fr H h=>by
  cases e with
  |normal=>exact zR9 hF L m K _ _ h
  |_=>exact ⟨_,fr,H,h,fun K' hk=>hk⟩
theorem zSA {F:Post->Fr->Heap->Prop} (hF:One F) (L:List Nat) (l:Nat):∀ m,One fun K fr H=>zK2 F L l K m fr H
 |0=>fun K fr H h=>h.elim
 |m+1=>zLG hF fun K e fr H h=>by
  cases e with
  |goto l'=>
   obtain ⟨e,fr',H',h1,h2⟩:=zSA hF L l m K _ _ h.2;exact ⟨e,fr',H',h1,fun K' hk=>⟨h.1,h2 K' hk⟩⟩
  |_=>exact ⟨_,fr,H,h,fun K' hk=>hk⟩
theorem zY6:∀ (ac:AC),det ac=true->One (AW C GT ac):=by
 intro ac;induction ac with
 |skip=>exact fun _ K fr H h=>⟨.normal,fr,H,h,fun K' hk=>hk⟩
 |label=>exact fun _ K fr H h=>⟨.normal,fr,H,h,fun K' hk=>hk⟩
 |ret=>exact fun _ K fr H h=>⟨.ret,fr,H,h,fun K' hk=>hk⟩
 |exit id=>exact fun _ K fr H h=>⟨.exit id,fr,H,h,fun K' hk=>hk⟩
 |goto l=>exact fun _ K fr H h=>⟨.goto l,fr,H,h,fun K' hk=>hk⟩
 |stuck=>exact fun _ K fr H h=>h.elim
 |reg L d is=>exact fun _ K fr H h=>zY4 is K _ H h
 |regt L d is t=>exact fun hd K fr H h=>zY5 is t hd K _ H h
 |seq a b iha ihb=>
  intro hd;simp only [det,zTo] at hd;exact zLG (iha hd.1) (T:=fun K=>zWb (AW C GT b K) K) fun K e fr H h=>by
   cases e with
   |normal=>exact ihb hd.2 K fr H h
   |_=>exact ⟨_,fr,H,h,fun K' hk=>hk⟩
 |cond c a b iha ihb=>
  intro hd K fr H h;simp only [det,zTo] at hd;unfold AW at h;split at h
  ·rename_i t ht;have e:∀ K',AW C GT (.cond c a b) K' fr H=if t=true then AW C GT a K' (learn fr c true) H else AW C GT b K' (learn fr c false) H:=fun K'=>by simp only [AW,ht]
   split at h
   ·grind +locals
   ·grind +locals
  ·exact h.elim
 |block id L c ih=>
  intro hd;exact zLG (ih hd) (T:=zIT id L) fun K e fr H h=>by
   cases e with
   |normal=>exact ⟨.normal,restrict fr L,H,h,fun K' hk=>hk⟩
   |exit j=>
    simp only [zIT] at h ⊢;by_cases hj:j=id
    ·grind
    ·grind
   |_=>exact ⟨_,fr,H,h,fun K' hk=>hk⟩
 |loop L c ih=>
  intro hd K fr H h;obtain ⟨m,h⟩:=h;obtain ⟨e,fr',H',h1,h2⟩:=zR9 (ih hd) L m K _ H h;exact ⟨e,fr',H',h1,fun K' hk=>⟨m,h2 K' hk⟩⟩
 |scope L l c r ihc ihr=>
  intro hd;simp only [det,zTo] at hd;exact zLG (ihc hd.1) (T:=fun K=>zQe l (fun fr' H'=>∃ m,zK2 (AW C GT r) L l K m (restrict fr' L) H') K) fun K e fr H h=>by
   cases e with
   |goto l'=>
    obtain ⟨hl,m,hg⟩:=h;obtain ⟨e,fr',H',h1,h2⟩:=zSA (ihr hd.2) L l m K _ H hg;exact ⟨e,fr',H',h1,fun K' hk=>⟨hl,m,h2 K' hk⟩⟩
   |_=>exact ⟨_,fr,H,h,fun K' hk=>hk⟩
def AWL (C:CSpec) (GT:zG_) (L:List Nat) (c:AC) (K:Post) (fr:Fr) (H:Heap):Prop:=∃ m,zQd (AW C GT c) L K m fr H
theorem zPv {L:List Nat} {c:AC} {K K':Post} (hk:∀ e fr H,K e fr H->K' e fr H):∀ (m n:Nat) (fr:Fr) (H:Heap),m<=n->zQd (AW C GT c) L K m fr H->zQd (AW C GT c) L K' n fr H
 |0,_,_,_,_,h=>h.elim
 |m+1,0,_,_,hl,_=>absurd hl tO
 |m+1,n+1,fr,H,hl,h=>zY3 h fun e fr H h=>by
  cases e with
  |normal=>exact zPv hk m n _ H tO h
  |_=>exact hk _ _ _ h
theorem zc3 {L:List Nat} {c:AC} {K K':Post} {fr:Fr} {H:Heap} (h:AWL C GT L c K fr H) (hk:∀ e fr H,K e fr H->K' e fr H):AWL C GT L c K' fr H:=by
 obtain ⟨m,h⟩:=h;exact ⟨m,zPv hk m m _ _ (zoR _) h⟩
variable {K:Post} {fr:Fr} {H:Heap}
theorem zi5 {a b:AC}:AW C GT (.seq a b) K fr H=AW C GT a (zWb (AW C GT b K) K) fr H:=rfl
theorem zi6 {L:List Nat} {d:Bool} {is:List AI}:AW C GT (.reg L d is) K fr H=AWops C GT is (restrict fr L) H fun fr' H'=>K .normal fr' H':=rfl
theorem zgY {L:List Nat} {d:Bool} {is:List AI} {t:OT}:AW C GT (.regt L d is t) K fr H=AWT C GT is t (restrict fr L) H (fun fr' H'=>K .normal fr' H') (fun x H'=>K (.pan x) [] H'):=rfl
theorem zc4 {L:List Nat} {l:Nat} {c r:AC}:AW C GT (.scope L l c r) K fr H=AW C GT c (zQe l (fun fr' H'=>∃ m,zK2 (AW C GT r) L l K m (restrict fr' L) H') K) fr H:=rfl
theorem zc5 {id:Nat} {L:List Nat} {c:AC}:AW C GT (.block id L c) K fr H=AW C GT c (zIT id L K) fr H:=rfl
theorem zgZ {L:List Nat} {c:AC}:AW C GT (.loop L c) K fr H=AWL C GT L c K (restrict fr L) H:=rfl
theorem zga {c:Opd} {a b:AC} {t:Bool} (h:ev GT fr c=.bool t):AW C GT (.cond c a b) K fr H=if t=true then AW C GT a K (learn fr c true) H else AW C GT b K (learn fr c false) H:=by
 simp only [AW,h]
end
def zCU (P:Program) (f:FuncId) (F:AF):Bool:=
 match P.funcs[f]? with
 |some fn=>!(fn.name == "runtime.NumGoroutine")&&(match fn.body with
  |some c=>zIo P fn.ntmps c F.body&&zWy P fn.results.toList F.results
  |none=>false)
 |none=>false
theorem zKd {P:Program} {GT:zG_} (hm:P.follows .mixedOrders=true) {f:FuncId} {F:AF} (hc:zCU P f F=true) {args:List AV} {H:Heap} {v:AV} {H':Heap} (h:AFun (Good P GT) GT F args H v H') (hn:zIt args=true):Good P GT f args H v H':=by
 unfold zCU at hc;split at hc
 ·rename_i fn hf;simp only [zTo,zmD] at hc;obtain ⟨h1,hc⟩:=hc;split at hc
  ·rename_i c hb;simp only [zTo] at hc;exact zW1 hm hf h1 hb hc.1 hc.2 hn h
  ·cases hc
 ·cases hc
end Go.AM
