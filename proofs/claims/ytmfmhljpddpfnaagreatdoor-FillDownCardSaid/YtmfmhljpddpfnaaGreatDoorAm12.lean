/- The abstract machine, part 12: every abstract step but a call, in one theorem. Own work. -/
import Derived.Test.YtmfmhljpddpfnaaGreatDoorGAm7Am34
set_option maxHeartbeats 4000000
set_option linter.all false
namespace Go.AM
section
variable {P:Program} {GT:zG_} {w:World} {M:AMap} {I:Nat->Prop} {H:Heap}
theorem zWm {t:TypeId} {f o:Nat} {u:TypeId} (h:zTh P t f=some (o,u)):∃ fs fd,P.underlying t=some (.struct fs)/\fs[f]?=some fd/\fd.offset=o/\fd.type=u:=by
 simp only [zTh] at h;split at h
 ·rename_i fs hfs;obtain ⟨fd,hfd,he⟩:=zoV.1 h;simp only [zob] at he;exact ⟨fs,fd,hfs,hfd,he.1,he.2⟩
 ·cases h
theorem zTp (hS:Sim GT w M I H) {cs:List AV} {xv:Value} (hx:Rel w M I H.length (.agg cs) xv) {u:TypeId} {o s:Nat} {ag:Bool} {v:AV} (hs:zFP P u=some s) (ha:zKU P u=some ag) (h:part cs o s ag=some v) :
  ∃ vs,xv=.agg vs/\zAI P GT w M I H (Go.part u vs o) v H:=by
 cases hx with
 |agg _ vs hl hr=>
  obtain ⟨v',r,R⟩:=zWe (P:=P) ⟨hl,hr⟩ hs ha h;exact ⟨vs.toArray,rfl,zAI.pure hS r R⟩
theorem zWn (hS:Sim GT w M I H) {o:Oper} {k:AK} {xs:List Opd} (hchk:zL4 P o.op k xs=true) {ρ:Operand->Value} {e:Opd->AV} (hev:∀ x x',zE2 x x'=true->Rel w M I H.length (e x') (ρ x))
  {v:AV} {H':Heap} (hst:astep k (xs.map e) H=some (v,H')):zHt P GT w M I H (execOp ρ o) v H':=by
 have hevs:∀ {as:List Operand} {bs:List Opd},zEM as bs=true->zED w M I H.length (bs.map e) (as.map ρ):=by
  intro as;induction as with
  |nil=>intro bs h;cases bs with
   |nil=>exact ⟨rfl,by simp⟩
   |cons=>simp [zEM] at h
  |cons a as ih=>intro bs h;cases bs with
   |nil=>simp [zEM] at h
   |cons b bs=>
    simp only [zEM,zTo] at h;have:=ih h.2;refine ⟨by simpa using this.1,fun i c v hc hv=>?_⟩;cases i with
    |zero=>simp at hc hv;subst hc hv;exact hev _ _ h.1
    |succ i=>exact this.2 i c v (by simpa using hc) (by simpa using hv)
 obtain ⟨dst,op,ty,pos,after,guard⟩:=o;simp only at hchk;replace hchk:zK4 P op k xs=true:=by
  cases k <;> first|exact hchk|(simp [astep] at hst)
 unfold zK4 at hchk;split at hchk
 ·simp only [zoa,zom,astep,zoS,zob] at hst;obtain ⟨rfl,rfl⟩:=hst;exact zHt.val hS (hev _ _ hchk)
 ·simp only [zoa,zom,astep,zoS,zob] at hst;obtain ⟨rfl,rfl⟩:=hst;exact zHt.val hS (hev _ _ hchk)
 ·rename_i c a b c' a' b';simp only [zTo] at hchk;have h1:=hev _ _ hchk.1.1;have h2:=hev _ _ hchk.1.2;have h3:=hev _ _ hchk.2;simp only [zoa,zom] at hst;generalize e c'=ac at hst h1;cases ac <;> simp only [astep,reduceCtorEq] at hst
  rename_i bb;cases hst;generalize hc:ρ c=vc at h1;cases h1;refine ⟨if bb then ρ a else ρ b,w,M,I,.inl ?_,Grow.refl ..,hS, ?_⟩
  ·show Sem.run P (do Pure.pure (Next.value (if <-asBool (ρ c) then ρ a else ρ b))) w=_;rw [hc];simp [asBool]
  ·cases bb <;> simpa
 ·rename_i op' t x y yt op'' x' y';simp only [zTo,zoY] at hchk;obtain ⟨⟨rfl,h1⟩,h2⟩:=hchk;simp only [zoa,zom,astep] at hst;obtain ⟨v',hb,he⟩:=zoV.1 hst;cases he;exact zHt.of_runs (zYj hS (hev _ _ h1) (hev _ _ h2) hb)
 ·rename_i op' t x y yt neg sh x' y';simp only [zTo,zoY,zmD] at hchk;obtain ⟨⟨⟨⟨⟨rfl,hsh⟩,hg⟩,hag⟩,h1⟩,h2⟩:=hchk;have hag':zKU P t=some true:=by
   split at hag
   ·rename_i ht;simp [zKU,ht]
   ·cases hag
  have r1:=hev _ _ h1;have r2:=hev _ _ h2;simp only [zoa,zom] at hst;generalize e x'=ax at hst r1;generalize e y'=ay at hst r2;cases ax <;> cases ay <;> simp only [astep,reduceCtorEq] at hst
  obtain ⟨b,hb,he⟩:=zoV.1 hst;cases he;exact zHt.of_runs (zYk hS r1 r2 hsh hg hag' hb)
 ·rename_i op' t x y yt neg x' y';simp only [zTo,zoY] at hchk;obtain ⟨⟨⟨rfl,ht⟩,h1⟩,h2⟩:=hchk;have ht':P.underlying t=some .bool:=by
   split at ht
   ·assumption
   ·cases ht
  have r1:=hev _ _ h1;have r2:=hev _ _ h2;simp only [zoa,zom] at hst;generalize e x'=ax at hst r1;generalize e y'=ay at hst r2;cases ax <;> cases ay <;> simp only [astep,reduceCtorEq] at hst
  rename_i a b;cases hst;generalize hx:ρ x=vx at r1;generalize hy:ρ y=vy at r2;cases r1;cases r2;have he:(Op.equal t (.bool a) (.bool b)).run P w=.ok (a==b) w:=run_equalIn_bool' w 9999 t a b ht';have hg:∀ op,(eqGuard op t x y (.bool a) (.bool b)).run P w=.ok () w:=fun op=>zDn zS_ zS_;refine ⟨.bool (if neg then !(a==b) else a==b),w,M,I,.inl ?_,Grow.refl ..,hS,.bool _⟩;show Sem.run P (do Pure.pure (Next.value (<- (do eqGuard (if neg then .neq else .eql) t x y (ρ x) (ρ y);binOp (if neg then .neq else .eql) t (ρ x) (ρ y))))) w=_;rw [hx,hy];cases neg
  ·simp only [zoZ,zot,Sem.run_bind,hg,Result.andThen_ok];show ((Sem.run P (do Pure.pure (Value.bool (<-Op.equal t (.bool a) (.bool b)))) w).andThen _)=_;simp only [Sem.run_bind,he,Result.andThen_ok,Sem.run_pure]
  ·simp only [zoz,Sem.run_bind,hg,Result.andThen_ok];show ((Sem.run P (do Pure.pure (Value.bool (!(<-Op.equal t (.bool a) (.bool b))))) w).andThen _)=_;simp only [Sem.run_bind,he,Result.andThen_ok,Sem.run_pure]
 ·rename_i op' t x y yt ek neg lit x' y';simp only [zTo,zoY,zmn,zmD] at hchk;obtain ⟨⟨⟨⟨rfl,hek⟩,hl⟩,h1⟩,h2⟩:=hchk;simp only [zoa,zom,astep] at hst;obtain ⟨b,hb,he⟩:=zoV.1 hst;cases he;exact zHt.of_runs (zYl hS (hev _ _ h1) (hev _ _ h2) hek (fun hlit=>by rcases hl with (h|h)|h <;> simp_all) hb)
 ·rename_i op' t x op'' x';simp only [zTo,zoY] at hchk;obtain ⟨rfl,h1⟩:=hchk;have r1:=hev _ _ h1;simp only [zoa,zom,astep] at hst;obtain ⟨v',hb,he⟩:=zoV.1 hst;simp only [zob] at he;obtain ⟨rfl,rfl⟩:=he;generalize e x'=ax at hb r1;have main:∃ u,(Op.unary op' (ρ x)).run P w=.ok u w/\Rel w M I H.length v' u:=by
   generalize ρ x=vx at r1;unfold aUn at hb;split at hb
   ·cases r1;cases op' <;> simp only [zoS,reduceCtorEq] at hb <;> subst hb
    ·exact ⟨_,rfl,.int _ _⟩
    ·exact ⟨_,rfl,.int _ _⟩
   ·cases r1;cases op' <;> simp only [zoS,reduceCtorEq] at hb <;> subst hb
    exact ⟨_,rfl,.bool _⟩
   ·cases hb
  obtain ⟨u,r,R⟩:=main;exact zHt.of_runs (zAI.pure hS r R)
 ·rename_i s d x k x';simp only [zTo] at hchk;obtain ⟨⟨hs,hd⟩,h1⟩:=hchk;have hd:=zU8 hd;obtain ⟨u,hu⟩:=zmL.1 hs;have r1:=hev _ _ h1;simp only [zoa,zom] at hst;generalize e x'=ax at hst r1;cases ax <;> simp only [astep,reduceCtorEq] at hst
  cases hst;refine zHt.of_runs (s:=convert s d (ρ x)) (zAI.pure hS (v':=.int k _) ?_ (.int _ _));generalize ρ x=vx at r1;cases r1;simp [convert,run_underlying hu,run_underlying hd,Conv.intToInt]
 ·rename_i s d x x';simp only [zTo] at hchk;obtain ⟨⟨hs,hd⟩,h1⟩:=hchk;have hd:=zNP hd;have r1:=hev _ _ h1;simp only [zoa,zom] at hst;generalize e x'=ax at hst r1;cases ax <;> simp only [astep,reduceCtorEq] at hst
  rename_i kk nn;cases hst;refine zHt.of_runs (s:=convert s d (ρ x)) (zAI.pure hS (v':=.string ⟨(Utf8.encode nn).data.toList.toArray⟩) ?_ (.str _));generalize ρ x=vx at r1;cases r1;obtain ⟨u,hu⟩:=zmL.1 hs;simp [convert,run_underlying hu,run_underlying hd,Conv.intToString]
 ·rename_i s d x x';simp only [zTo] at hchk;obtain ⟨⟨hs,hd⟩,h1⟩:=hchk;simp only [zoa,zom,astep] at hst;split at hst
  ·rename_i xs hv;obtain ⟨r,hb,he⟩:=zoV.1 hst;cases he;exact zHt.of_runs (zTl hS hs hd (hev _ _ h1) hv hb)
  ·cases hst
 ·rename_i s d x x';simp only [zTo] at hchk;obtain ⟨⟨hs,hd⟩,h1⟩:=hchk;have r1:=hev _ _ h1;simp only [zoa,zom] at hst;generalize e x'=ax at hst r1;cases ax <;> simp only [astep,reduceCtorEq] at hst
  rename_i ss;split at hst
  ·rename_i hl;cases hst;refine zHt.of_runs (s:=convert s d (ρ x)) ?_;generalize ρ x=vx at r1;cases r1;exact zQi hS hs hd hl
  ·cases hst
 ·rename_i t x t' x';simp only [zTo,zol] at hchk;obtain ⟨⟨rfl,ht⟩,h1⟩:=hchk;simp only [zoa,zom,astep,zoS,zob] at hst;obtain ⟨rfl,rfl⟩:=hst;refine zHt.of_runs (s:=Instr.makeInterface t (ρ x)) (zAI.pure hS (v':=.iface t (ρ x)) ?_ (.iface _ _ _ (hev _ _ h1)));exact run_makeInterface w t _ (by unfold Program.concrete;split at ht <;> simp_all)
 ·rename_i x xt t t' x';simp only [zTo,zol] at hchk;obtain ⟨⟨rfl,ht⟩,h1⟩:=hchk;have r1:=hev _ _ h1;simp only [zoa,zom] at hst;generalize e x'=ax at hst r1;cases ax <;> simp only [astep,reduceCtorEq] at hst
  rename_i t1 y;split at hst
  ·rename_i hte;subst hte;cases hst;refine zHt.of_runs (s:=Instr.typeAssert (ρ x) xt t1 true) ?_;generalize ρ x=vx at r1;cases r1 with
   |iface _ _ u hu=>
    refine zAI.pure hS (v':=.tuple [u,.bool true].toArray) ?_ (.tup [y,.bool true] [u,.bool true] rfl fun i c v hc hv=>?_)
    ·cases hd:P.underlying t1 with
     |none=>rw [hd] at ht;cases ht
     |some d=>
      rw [hd] at ht;cases d <;> first|(cases ht;done)|simp [Instr.typeAssert,run_underlying hd]
    ·rcases i with _|_|i
     ·simp at hc hv;subst hc hv;exact hu
     ·simp at hc hv;subst hc hv;exact .bool _
     ·simp at hc
  ·cases hst
 ·rename_i xs0 f first caps f' m
  simp only [zTo,zol] at hchk;obtain ⟨⟨rfl,rfl⟩,h1⟩:=hchk;simp only [astep,zoS,zob] at hst;obtain ⟨rfl,rfl⟩:=hst;have hr:=hevs h1;refine zHt.of_runs (s:=Instr.makeFunc (.func f) (first.map ρ) (caps.map ρ)) (zAI.pure hS (v':=.func (.func f) (first.map ρ) (caps.map ρ)) rfl ?_);have ha:=hr.take first.size
  have hb:=hr.drop first.size
  simp only [zov] at ha hb;rw [zn8 zS_] at ha;rw [List.drop_left' zS_] at hb;have:=Rel.fn (w:=w) (M:=M) (I:=I) (n:=H.length) f _ _ _ _ ha.1 hb.1 ha.2 hb.2;simpa [<-Array.toList_map] using this
 ·rename_i args at_ s x';obtain ⟨args⟩:=args;obtain ⟨at_⟩:=at_;simp only [zoa,zom,astep] at hst;obtain ⟨n,hn,he⟩:=zoV.1 hst;cases he;split at hchk
  ·rename_i x t hax hat;simp only [zTo] at hchk;simp only at hax;subst hax;have ht:if s then zKV P t=true else ∃ e,P.underlying t=some (.slice e):=by
    have h:=hchk.1;cases s
    ·simp only [zoZ,zot] at h ⊢;split at h
     ·exact ⟨_,‹_›⟩
     ·cases h
    ·simpa using h
   have:=zYm (P:=P) (ty:=ty) hS (hev _ _ hchk.2) hn ht;obtain ⟨v',w',M',I',r1,r2,r3,r4⟩:=this;refine ⟨v',w',M',I',.inl ?_,r2,r3,r4⟩;have hat':at_[0]?=some t:=by simpa using hat
   have hl:Builtin.len_ (List.toArray at_) ty #[ρ x]=Builtin.len_ #[t] ty #[ρ x]:=by
    unfold Builtin.len_;simp [hat']
   show Sem.run P (do let d <-resolve ρ _ ty;invoke d.target d.args) w=_;simp only [resolve,invoke,builtin,Sem.run_bind,Sem.run_pure,Result.andThen_ok,List.map_toArray,zoa,zom,hl,r1]
  ·cases hchk
 ·rename_i xs0 t x lo hi k blo bhi;simp only [zTo,zol] at hchk;obtain ⟨⟨⟨hk,hlo⟩,hhi⟩,h1⟩:=hchk;have hk':zYi P t k:=by cases k <;> exact hk
  have key:∀ (alo ahi:Option AV) (vlo vhi:Option Value),(∀ a v,alo=some a->vlo=some v->Rel w M I H.length a v)->(∀ a v,ahi=some a->vhi=some v->Rel w M I H.length a v)->alo.isSome=vlo.isSome->ahi.isSome=vhi.isSome ->
    lo.map ρ=vlo->hi.map ρ=vhi->∀ ax,Rel w M I H.length ax (ρ x)->(zCm k ax alo ahi).map (·,H)=some (v,H')->zHt P GT w M I H (execOp ρ ⟨dst,.slice t x lo hi none,ty,pos,after,guard⟩) v H':=by
   rintro alo ahi vlo vhi r1 r2 s1 s2 rfl rfl ax rx hm;obtain ⟨v',hv,he⟩:=zoV.1 hm;cases he;exact zHt.of_runs (s:=Instr.sliceAt t (ρ x) (lo.map ρ) (hi.map ρ) none) (zTk hS rx r1 r2 s1 s2 hk' hv)
  cases lo <;> cases hi <;> simp only [Option.isSome_none,Option.isSome_some] at hlo hhi <;> subst hlo hhi <;> simp only [Option.toList_none,znO,zmR,zo4,zl9] at h1
  ·match xs,h1 with
   |[x'],h1=>
    simp only [zEM,zm1] at h1;simp only [zoa,zom,astep] at hst;exact key none none none none zS_ zS_ rfl rfl rfl rfl _ (hev _ _ h1) hst
  ·rename_i hi
   match xs,h1 with
   |[x',y'],h1=>
    simp only [zEM,zm1,zTo] at h1;simp only [zoa,zom,astep] at hst;exact key none (some (e y')) none (some (ρ hi)) zS_ (by rintro a v ⟨⟩ ⟨⟩;exact hev _ _ h1.2) rfl rfl rfl rfl _ (hev _ _ h1.1) hst
  ·rename_i lo
   match xs,h1 with
   |[x',y'],h1=>
    simp only [zEM,zm1,zTo] at h1;simp only [zoa,zom,astep] at hst;exact key (some (e y')) none (some (ρ lo)) none (by rintro a v ⟨⟩ ⟨⟩;exact hev _ _ h1.2) zS_ rfl rfl rfl rfl _ (hev _ _ h1.1) hst
  ·rename_i lo hi
   match xs,h1 with
   |[x',y',z'],h1=>
    simp only [zEM,zm1,zTo] at h1;simp only [zoa,zom,astep] at hst;exact key (some (e y')) (some (e z')) (some (ρ lo)) (some (ρ hi)) (by rintro a v ⟨⟩ ⟨⟩;exact hev _ _ h1.2.1) (by rintro a v ⟨⟩ ⟨⟩;exact hev _ _ h1.2.2) rfl rfl rfl rfl _ (hev _ _ h1.1) hst
 ·rename_i t x f o x';simp only [zTo] at hchk;obtain ⟨hf,h1⟩:=hchk;split at hf
  case h_2=>cases hf
  rename_i o' u hfo;simp only [zTo,zol] at hf;obtain ⟨rfl,hs0⟩:=hf;split at hs0
  case h_2=>cases hs0
  rename_i s hs;have hs0:s≠0:=by simpa using hs0
  obtain ⟨fs,fd,hu,hfd,rfl,rfl⟩:=zWm hfo;have r1:=hev _ _ h1;simp only [zoa,zom] at hst;generalize e x'=ax at hst r1;have hrun:∀ g a,ρ x=.pointer (some ⟨g,a,none⟩)->(Instr.fieldAt t (ρ x) f).run P w=.ok (.pointer (some ⟨g,a+fd.offset,none⟩)) w:=fun g a hx=>by
   simp only [Instr.fieldAt,Sem.run_bind,run_underlying hu,Result.andThen_ok,hfd,hx,Instr.sureAddr,Sem.run_pure,fieldPlace,zBH hs,zWl hs0,Addr.add_lit]
  cases ax <;> simp only [astep,reduceCtorEq] at hst
  ·rename_i x0 oo;cases hst;generalize hx:ρ x=vx at r1;cases r1 with
   |lref _ _ g a V hI hxn hv hr=>
    refine zHt.of_runs (s:=Instr.fieldAt t (ρ x) f) (zAI.pure hS (hrun g a hx) (Rel.mk_lref hI hxn fun j c hj=>?_));rw [zl6] at hj;exact ⟨_,by rw [zl6];exact hv _ c hj,hr _ c hj⟩
  ·rename_i b k i oo;cases hst;generalize hx:ρ x=vx at r1;cases r1 with
   |ref _ _ _ _ g a hb hM=>
    refine zHt.of_runs (s:=Instr.fieldAt t (ρ x) f) (zAI.pure hS (hrun g _ hx) ?_);rw [zl6];exact .ref _ _ _ _ _ _ hb hM
 ·rename_i t x i k x' i';simp only [zTo] at hchk;obtain ⟨⟨hsl,h1⟩,h2⟩:=hchk;obtain ⟨el,hu,hse⟩:=zMb hsl;have r1:=hev _ _ h1;have r2:=hev _ _ h2;simp only [zoa,zom] at hst;generalize e x'=ax at hst r1;generalize e i'=ai at hst r2;cases ai <;> simp only [astep,reduceCtorEq] at hst
  rename_i kk nn;split at hst
  ·cases hst
  rename_i hnn;have hrun:∀ (a:Addr) (len cap:Nat),a.spot=none->ρ x=.slice (some a) len cap->ρ i=.int kk nn->nn<(len:Int)->(Instr.indexAt t (ρ x) (ρ i)).run P w=.ok (.pointer (some ⟨a.block,a.off+nn.toNat*k,none⟩)) w:=fun a len cap ha hx hi hl=>by
   obtain ⟨ab,ao,as⟩:=a;simp only at ha;subst ha;have hc:(0<=nn/\nn<(len:Int)):=⟨by omega,hl⟩;simp only [Instr.indexAt,hx,hi,asIntOf,Sem.run_bind,Sem.run_pure,Result.andThen_ok,run_underlying hu,zoQ hc,zBH hse,Addr.add_lit]
  generalize hi:ρ i=vi at r2;cases r2;generalize hx:ρ x=vx at r1;split at hst
  ·rename_i q k' xs;split at hst
   ·rename_i y hy;split at hst
    ·rename_i hk;subst hk;cases hst;have hlt:=(zl_ hy);cases r1 with
     |lnil=>simp at hlt
     |lemp=>simp at hlt
     |lst _ _ _ g o cap V hq hc hm hI he hv hr=>
      refine zHt.of_runs (s:=Instr.indexAt t (ρ x) (ρ i)) (zAI.pure hS (hrun ⟨g,o,none⟩ xs.length cap rfl hx hi tO) (Rel.mk_lref hI (AV.elem_iff.1 (he y (zoc hy))).2.1 fun j c hj=>?_));rw [zl7] at hj;exact ⟨_,hv _ j y c hy hj,hr _ j y c hy hj⟩
    ·cases hst
   ·cases hst
  ·rename_i q b k' off len;split at hst
   ·rename_i hk;obtain ⟨hl,rfl⟩:=hk;cases hst;cases r1 with
    |sln=>omega
    |sl _ _ _ _ _ g o p cap hb hM hc hm hq ha=>
     obtain ⟨rfl,_⟩:=ha tO;refine zHt.of_runs (s:=Instr.indexAt t (ρ x) (ρ i)) (zAI.pure hS (hrun ⟨g,_,none⟩ len cap rfl hx hi hl) ?_);have:=Rel.ref (w:=w) (I:=I) (n:=H.length) b k' (off+nn.toNat) 0 g o hb hM;rw [zmC] at this;simpa [zl6] using this
   ·cases hst
  ·cases hst
 ·rename_i t x i k n x' i';simp only [zTo] at hchk;obtain ⟨⟨hsl,h1⟩,h2⟩:=hchk;obtain ⟨el,hu,hse⟩:=zPo hsl;have r1:=hev _ _ h1;have r2:=hev _ _ h2;simp only [zoa,zom] at hst;generalize e x'=ax at hst r1;generalize e i'=ai at hst r2;cases ai <;> simp only [astep,reduceCtorEq] at hst
  rename_i kk nn;split at hst
  case isFalse=>cases hst
  rename_i hnn;have hrun:∀ (g a:Nat),ρ x=.pointer (some ⟨g,a,none⟩)->ρ i=.int kk nn->(Instr.indexAt t (ρ x) (ρ i)).run P w=.ok (.pointer (some ⟨g,a+nn.toNat*k,none⟩)) w:=fun g a hx hi=>by
   simp only [Instr.indexAt,hx,hi,asIntOf,Instr.sureAddr,Sem.run_bind,Sem.run_pure,Result.andThen_ok,run_underlying hu,zoQ hnn,zBH hse,Addr.add_lit]
  generalize hi:ρ i=vi at r2;cases r2;generalize hx:ρ x=vx at r1;split at hst
  ·rename_i b k' i0 oo;cases hst;cases r1 with
   |ref _ _ _ _ g a hb hM=>
    refine zHt.of_runs (s:=Instr.indexAt t (ρ x) (ρ i)) (zAI.pure hS (hrun g _ hx hi) ?_);rw [zl6];exact .ref _ _ _ _ _ _ hb hM
  ·rename_i x0 oo;cases hst;cases r1 with
   |lref _ _ g a V hI hxn hv hr=>
    refine zHt.of_runs (s:=Instr.indexAt t (ρ x) (ρ i)) (zAI.pure hS (hrun g a hx hi) (Rel.mk_lref hI hxn fun j c hj=>?_));rw [zl6] at hj;exact ⟨_,by rw [zl6];exact hv _ c hj,hr _ c hj⟩
  ·cases hst
 ·rename_i t x i x' i';simp only [zTo] at hchk;obtain ⟨⟨hsl,h1⟩,h2⟩:=hchk;have hu:=zNP hsl;have r1:=hev _ _ h1;have r2:=hev _ _ h2;simp only [zoa,zom] at hst;generalize e x'=ax at hst r1;generalize e i'=ai at hst r2;cases ax <;> cases ai <;> simp only [astep,reduceCtorEq] at hst
  rename_i ss kk nn;split at hst
  ·cases hst
  rename_i hnn;split at hst
  ·rename_i c hc;cases hst;refine zHt.of_runs (s:=Instr.index t (ρ x) (ρ i)) (zAI.pure hS (v':=.int .u8 c.toNat) ?_ (.int _ _));generalize ρ x=vx at r1;generalize ρ i=vi at r2;cases r1;cases r2;have h0:0<=nn:=by omega
   have hlt:=(zl_ hc);have hc':(⟨ss.toArray⟩:ByteArray)[nn.toNat]?=some c:=by
    have:nn.toNat<(⟨ss.toArray⟩:ByteArray).size:=by rw [zPk];exact hlt
    rw [getElem?_pos (⟨ss.toArray⟩:ByteArray) nn.toNat this];have h2:=(zg hc).2;rw [<-h2];rfl
   simp only [Instr.index,asIntOf,Sem.run_bind,Sem.run_pure,Result.andThen_ok,run_underlying hu,zoQ h0,hc']
  ·cases hst
 ·rename_i t x i k n ag x' i';simp only [zTo] at hchk;obtain ⟨⟨⟨hsl,hag⟩,h1⟩,h2⟩:=hchk;obtain ⟨el,hu,hse⟩:=zPo hsl;rw [hu] at hag;simp only [zol] at hag;have r1:=hev _ _ h1;have r2:=hev _ _ h2;simp only [zoa,zom] at hst;generalize e x'=ax at hst r1;generalize e i'=ai at hst r2;cases ax <;> cases ai <;> simp only [astep,reduceCtorEq] at hst
  rename_i cs kk nn;split at hst
  case isFalse=>cases hst
  rename_i hnn;obtain ⟨v',hv,he⟩:=zoV.1 hst;cases he;generalize hx:ρ x=vx at r1;generalize hi:ρ i=vi at r2;cases r2;obtain ⟨vs,rfl,hr⟩:=zTp hS r1 hse hag hv;refine zHt.of_runs (s:=Instr.index t (ρ x) (ρ i)) ?_;obtain ⟨u',w',M',I',q1,q2⟩:=hr;refine ⟨u',w',M',I', ?_,q2⟩;simp only [Instr.index,hx,hi,asIntOf,Sem.run_bind,Sem.run_pure,Result.andThen_ok,run_underlying hu,zoQ hnn,zBH hse];exact q1
 ·rename_i x x';have r1:=hev _ _ hchk;simp only [zoa,zom] at hst;generalize e x'=ax at hst r1;generalize hx:ρ x=vx at r1;cases ax <;> simp only [astep,reduceCtorEq] at hst
  all_goals
   cases hst;have r1':=r1;cases r1;refine ⟨_,w,M,I,.inl ?_,Grow.refl ..,hS,r1'⟩;simp only [execOp,hx];rfl
 ·rename_i x i i' x';simp only [zTo,zol] at hchk;obtain ⟨rfl,h1⟩:=hchk;have r1:=hev _ _ h1;simp only [zoa,zom] at hst;generalize e x'=ax at hst r1;cases ax <;> simp only [astep,reduceCtorEq] at hst
  obtain ⟨v',hv,he⟩:=zoV.1 hst;cases he;generalize hx:ρ x=vx at r1;cases r1 with
  |tup _ vs hl hr=>
   obtain ⟨u,hu,hru⟩:=zCn ⟨hl,hr⟩ hv;refine zHt.of_runs (s:=Instr.extract (ρ x) i) (zAI.pure hS (v':=u) ?_ hru);have hu':(vs.toArray)[i]?=some u:=by simpa using hu
   simp only [Instr.extract,hx,hu',Sem.run_pure]
 ·rename_i t x s ag x';simp only [zTo,zol] at hchk;obtain ⟨⟨hs,ha⟩,h1⟩:=hchk;have r1:=hev _ _ h1;simp only [zoa,zom,astep] at hst;split at hst
  ·rename_i cs oo hp;obtain ⟨v',hv,he⟩:=zoV.1 hst;cases he;obtain ⟨g,a,hx,hc⟩:=zRt hS r1 hp;obtain ⟨u,r,R⟩:=zK6 (P:=P) hs ha hv hc;refine zHt.of_runs (s:=Instr.loadAt t (ρ x)) (zAI.pure hS (v':=u) ?_ R);simp only [Instr.loadAt,hx,Instr.sureAddr,Sem.run_bind,Sem.run_pure,Result.andThen_ok,r]
  ·cases hst
 ·rename_i t p x s p' x';simp only [zTo,zol] at hchk;obtain ⟨⟨hs,h1⟩,h2⟩:=hchk;have r1:=hev _ _ h1;have r2:=hev _ _ h2;simp only [zoa,zom] at hst;generalize e p'=ap at hst r1;generalize e x'=ax at hst r2;have fin:∀ w' M' I' H'',(Instr.storeAt t (ρ p) (ρ x)).run P w=.ok () w'->Grow w M I H w' M' I' H''->Sim GT w' M' I' H''->zHt P GT w M I H (execOp ρ ⟨dst,.store t p x,ty,pos,after,guard⟩) .undef H'':=fun w' M' I' H'' q1 q2 q3=>
   ⟨Go.undef,w',M',I',.inr ⟨by
    show Sem.run P (do Instr.storeAt t (ρ p) (ρ x);Pure.pure Next.skip) w=_;simp only [Sem.run_bind,q1,Result.andThen_ok,Sem.run_pure],rfl⟩,q2,q3,.undef _⟩
  cases ap <;> simp only [astep,reduceCtorEq] at hst
  rename_i b k i oo;split at hst
  case isFalse=>cases hst
  rename_i hcond;split at hst
  ·rename_i cs hb;split at hst
   ·rename_i hio;obtain ⟨rfl,hle⟩:=hio;cases hst;obtain ⟨w',q1,q2,q3⟩:=zYg (P:=P) hS hs r1 r2 hcond.1 hcond.2 hb hle;exact fin w' M I _ q1 q2 q3
   ·cases hst
  ·rename_i k0 xs0 hb;split at hst
   case h_2=>cases hst
   rename_i v' H1 hfz;split at hst
   case h_2=>cases hst
   rename_i k' xs hb1;split at hst
   case h_2=>cases hst
   rename_i y hy;split at hst
   case isFalse=>cases hst
   rename_i hc;obtain ⟨rfl,hle,h0,hel⟩:=hc;cases hst;obtain ⟨I',G1,S1,R1,hlen,_⟩:=zK3 0 ax hS r2 hfz;obtain ⟨w',q1,q2,q3⟩:=zYh (P:=P) S1 hs (G1.rel hS r1) R1 hel h0 hb1 hy hle;exact fin w' M I' _ q1 (G1.trans q2) q3
  ·cases hst
 ·rename_i t z;simp only [zom,astep,zoS,zob] at hst;obtain ⟨rfl,rfl⟩:=hst;unfold zNj at hchk;split at hchk
  case h_2=>cases hchk
  rename_i it hit;split at hchk
  case h_2=>cases hchk
  rename_i zv hzv;obtain ⟨G,S⟩:=zL6 (e:=t) hS (zHO (w:=w) (M:=M) (I:=I) (n:=H.length) hchk);refine zHt.of_runs (s:=Instr.alloc t true (.tuple #[])) ⟨.pointer (some ⟨w.heap.size,0,none⟩),_,_,I, ?_,G,S, ?_⟩
  ·simp [Instr.alloc,zeroValue,typeInfo,hit,hzv,newVar,newRow]
  ·exact .ref H.length 0 0 0 w.heap.size 0 zS_ zAX
 ·rename_i t t' z;simp only [zTo,zol] at hchk;obtain ⟨rfl,hchk⟩:=hchk;simp only [zom,astep,zoS,zob] at hst;obtain ⟨rfl,rfl⟩:=hst;unfold zNj at hchk;split at hchk
  case h_2=>cases hchk
  rename_i it hit;split at hchk
  case h_2=>cases hchk
  rename_i zv hzv;obtain ⟨G,S⟩:=zTm (e:=t) hS (zHO (w:=w) (M:=M) (I:=I) (n:=H.length) hchk);refine zHt.of_runs (s:=Instr.alloc t true (.tuple #[])) ⟨.pointer (some ⟨w.heap.size,0,none⟩),_,_,I, ?_,G,S, ?_⟩
  ·simp [Instr.alloc,zeroValue,typeInfo,hit,hzv,newVar,newRow]
  ·exact .ref H.length 0 0 0 w.heap.size 0 zS_ (by rw [zHs zS_];exact zAX)
 ·rename_i t x x';have r1:=hev _ _ hchk;simp only [zoa,zom,astep] at hst;split at hst
  case isFalse=>cases hst
  rename_i hone;cases hst;obtain ⟨G,S⟩:=zL6 (e:=t) hS (zHQ r1 (zPm hone));refine zHt.of_runs (s:=Instr.box t (ρ x)) ⟨.pointer (some ⟨w.heap.size,0,none⟩),_,_,I, ?_,G,S, ?_⟩
  ·simp [Instr.box,newVar,newRow]
  ·exact .ref H.length 0 0 0 w.heap.size 0 zS_ zAX
 ·rename_i xs0 t parts z pl;simp only [zTo,zoY] at hchk;obtain ⟨⟨⟨hz,hso⟩,hpl⟩,h1⟩:=hchk;simp only [astep] at hst;obtain ⟨cs,hv,he⟩:=zoV.1 hst;cases he;have hr:=hevs h1;refine zHt.of_runs (s:=Instr.build t (parts.map fun (i,x)=>(i,ρ x))) (zTn hS hz hso ?_ ?_ hv)
  ·rw [<-hpl];congr 1;simp
  ·simpa [znz] using hr
 ·rename_i xs0 t len parts k;simp only [zTo,zoY] at hchk;obtain ⟨⟨⟨⟨⟨hsl,hz⟩,hlim⟩,hlim'⟩,hidx⟩,h1⟩:=hchk;simp only [astep] at hst;split at hst
  case h_2=>cases hst
  rename_i vs' H1 hfz;split at hst
  case isFalse=>cases hst
  rename_i hel;cases hst;have hr:=hevs h1;refine zHt.of_runs (s:=Instr.buildSlice t len (parts.map fun (i,x)=>(i,ρ x))) (zRv hS hsl hz hlim hlim' ?_ ?_ hfz hel)
  ·rw [<-hidx];simp
  ·simpa [znz] using hr
 ·rename_i t l c k bytes z l' c';simp only [zTo,zoY] at hchk;obtain ⟨⟨⟨hm,h1⟩,h2⟩,hk0⟩:=hchk;split at hm
  case h_2=>cases hm
  rename_i el hu;split at hm
  case h_2=>cases hm
  rename_i it hit;simp only [zTo,zol] at hm;obtain ⟨⟨hk,hby⟩,hz⟩:=hm;split at hz
  case h_2=>cases hz
  rename_i zv hzv;simp only [zTo,zol] at hz;have r1:=hev _ _ h1;have r2:=hev _ _ h2;simp only [zoa,zom] at hst;generalize e l'=al at hst r1;generalize e c'=ac at hst r2;cases al <;> cases ac <;> simp only [astep,reduceCtorEq] at hst
  split at hst
  case isFalse=>cases hst
  rename_i hc;obtain ⟨c1,c2,c3,c4,c5⟩:=hc;cases hst;refine zHt.of_runs (s:=Instr.makeSlice t (ρ l) (ρ c)) ?_;generalize ρ l=vl at r1;generalize ρ c=vc at r2;cases r1;cases r2;exact zWi hS hu hit hk hby hzv hz.2 hz.1 hk0 c1 c2 c3 c4 c5
 ·rename_i args at_ k bytes x' y';obtain ⟨args⟩:=args;obtain ⟨at_⟩:=at_;simp only [zTo,zoY] at hchk;obtain ⟨hm,hk0⟩:=hchk;split at hm
  case h_2=>cases hm
  rename_i x y t t';simp only [zTo,zol] at hm;obtain ⟨⟨⟨rfl,hm⟩,h1⟩,h2⟩:=hm;split at hm
  case h_2=>cases hm
  rename_i el hu;split at hm
  case h_2=>cases hm
  rename_i it hit;simp only [zTo,zol] at hm;obtain ⟨⟨hk,hby⟩,hz⟩:=hm;split at hz
  case h_2=>cases hz
  rename_i zv hzv;simp only [zol] at hz;have r1:=hev _ _ h1;have r2:=hev _ _ h2;have fin:zAI P GT w M I H (Builtin.append_ #[t,t] ty #[ρ x,ρ y]) v H'->zHt P GT w M I H (execOp ρ ⟨dst,.call { callee:=.builtin .append,args:=[x,y].toArray,argTypes:=[t,t].toArray },ty,pos,after,guard⟩) v H':=by
   rintro ⟨v',w',M',I',q1,q2,q3,q4⟩;refine ⟨v',w',M',I',.inl ?_,q2,q3,q4⟩;show Sem.run P (do let d <-resolve ρ _ ty;invoke d.target d.args) w=_;simp only [resolve,invoke,builtin,Sem.run_bind,Sem.run_pure,Result.andThen_ok,List.map_toArray,zoa,zom,q1]
  simp only [zoa,zom] at hst;generalize e x'=ax at hst r1;generalize e y'=ay at hst r2;simp only [astep] at hst;split at hst
  case h_2=>cases hst
  rename_i ys hv;split at hst
  ·split at hst
   case isFalse=>cases hst
   rename_i hc;cases hst;apply fin;generalize ρ x=vx at r1;cases r1 with
   |lnil=>exact zMz hS hu hit hk hby hzv hz hk0 r2 hv hc.1 hc.2 (some true) zS_
   |lemp _ _ _ hq=>exact absurd rfl hq
   |lst _ _ _ _ _ _ _ hq=>exact absurd rfl hq
  ·rename_i q b k' off len;split at hst
   case h_2=>cases hst
   rename_i k'' xs hb;split at hst
   case isFalse=>cases hst
   rename_i hc;obtain ⟨rfl,rfl,hle,c1,c2⟩:=hc;cases hst;exact fin (zM0 hS hu hit hk hby hzv hz hk0 r2 hv r1 hb hle c1 c2)
  ·cases hst
 ·rename_i args at_ tt sb x' y';obtain ⟨args⟩:=args;obtain ⟨at_⟩:=at_;split at hchk
  case h_2=>cases hchk
  rename_i x y t t' ha hat;obtain rfl:args=[x,y]:=ha;obtain rfl:at_=[t,t']:=hat;simp only [zTo] at hchk;obtain ⟨⟨⟨hty,hm⟩,h1⟩,h2⟩:=hchk;split at hm
  case h_2=>cases hm
  rename_i el hu;simp only [zTo,zol] at hm;obtain ⟨rfl,hm⟩:=hm;split at hm
  case h_2=>cases hm
  rename_i it hit;simp only [zTo,zol] at hm;obtain ⟨⟨hk,hby⟩,hz⟩:=hm;split at hz
  case h_2=>cases hz
  rename_i zv hzv;simp only [zol] at hz;have r1:=hev _ _ h1;have r2:=hev _ _ h2;have fin:zAI P GT w M I H (Builtin.append_ #[t,t'] ty #[ρ x,ρ y]) v H'->zHt P GT w M I H (execOp ρ ⟨dst,.call { callee:=.builtin .append,args:=[x,y].toArray,argTypes:=[t,t'].toArray },ty,pos,after,guard⟩) v H':=by
   rintro ⟨v',w',M',I',q1,q2,q3,q4⟩;refine ⟨v',w',M',I',.inl ?_,q2,q3,q4⟩;show Sem.run P (do let d <-resolve ρ _ ty;invoke d.target d.args) w=_;simp only [resolve,invoke,builtin,Sem.run_bind,Sem.run_pure,Result.andThen_ok,List.map_toArray,zoa,zom,q1]
  simp only [zoa,zom] at hst;generalize e x'=ax at hst r1;generalize e y'=ay at hst r2;simp only [astep] at hst;split at hst
  case h_2=>cases hst
  rename_i ys hys;obtain ⟨hel,news,hsrc,n1,n3,n4⟩:Elems 1 ys/\∃ news:List Value,Src P w 1 ys.length t' (ρ y) news/\news.length=ys.length*1/\(∀ u∈news,u.oneCell'=true)/\∀ i j x c,ys[i]?=some x->x.cells[j]?=some c->∃ u,news[i*1+j]?=some u/\Rel w M I H.length c u:=by
   cases sb with
   |false=>
    have hty:t=t':=by simpa using hty
    subst hty;exact zKY hS hu r2 (by simpa using hys)
   |true=>
    have hu':P.underlying t'=some .string:=by
     have hty:zKV P t'=true:=by simpa using hty
     unfold zKV at hty;split at hty
     ·assumption
     ·cases hty
    cases ay <;> simp only [zoz,reduceCtorEq,zoS] at hys
    rename_i s;subst hys;generalize ρ y=vy at r2 fin;cases r2;refine ⟨zNl s,s.map fun b=>.int .u8 b.toNat,by simpa using Src.of_str (w:=w) hu' s,by simp,fun u hu=>?_,fun i j x c hi hj=>?_⟩
    ·obtain ⟨b,_,rfl⟩:=zmf.1 hu;rfl
    ·rw [zoX] at hi;obtain ⟨b,hb,rfl⟩:=zoV.1 hi;cases j with
     |zero=>simp [zq,AV.cells] at hj;subst hj;exact ⟨.int .u8 b.toNat,by simp [hb],.int _ _⟩
     |succ j=>simp [zq,AV.cells] at hj
  clear hys hty;have hnone:ys.isEmpty=true->Src P w it.size 0 t' (ρ y) []:=fun h=>by
   obtain rfl:ys=[]:=List.isEmpty_iff.1 h;obtain rfl:news=[]:=zms (by simpa using n1);rw [hk];exact hsrc
  split at hst
  ·split at hst
   ·rename_i hse;cases hst;apply fin;have hnone:=hnone hse.2;generalize ρ x=vx at r1;have r1':=r1;cases r1 with
    |lnil=>exact ⟨_,w,M,I,zEN hu hit hnone,Grow.refl ..,hS,r1'⟩
    |lemp _ _ _ hq=>exact absurd rfl hq
    |lst _ _ _ _ _ _ _ hq=>exact absurd rfl hq
   split at hst
   case isFalse=>cases hst
   rename_i hc;cases hst;apply fin;have hne:ys≠[]:=fun h=>by rw [h] at hc;exact absurd hc.1 zS_
   have g:=zF4 (P:=P) (ty:=ty) hS hu hit hk hby hzv hz tO hel hsrc n1 n4 tO tO (some true) zS_;generalize ρ x=vx at r1;cases r1 with
   |lnil=>exact zYn g (fun _ _ h=>h hne) zS_
   |lemp _ _ _ hq=>exact absurd rfl hq
   |lst _ _ _ _ _ _ _ hq=>exact absurd rfl hq
  ·rename_i q b k' off len;split at hst
   ·rename_i hse;cases hst;apply fin;have hnone:=hnone hse.2;generalize ρ x=vx at r1;have r1':=r1;cases r1 with
    |sln=>exact ⟨_,w,M,I,zEN hu hit hnone,Grow.refl ..,hS,r1'⟩
    |sl _ _ _ _ _ g o p cap hbn hM hc hm hq ha=>exact ⟨_,w,M,I,zJt hu hit hc hnone,Grow.refl ..,hS,r1'⟩
   split at hst
   case h_2=>cases hst
   rename_i k'' xs b' t2 hb hb1;split at hst
   case isFalse=>cases hst
   rename_i hc;obtain ⟨hne,rfl,rfl,rfl,rfl,rfl,hle,c1⟩:=hc;cases hst;have hne:ys≠[]:=fun h=>by rw [h] at hne;exact absurd hne zS_
   have g:=zIq (P:=P) (ty:=ty) hS hu hit hk hby hzv hz tO hel hsrc n1 n3 n4 r1 hb tO tO tO;rw [znY] at g;refine fin (zYn g (fun _ _ h=>h hne rfl fun g0 o0 hM0=>?_) zS_);obtain ⟨_,g1,c2,e1,e2⟩:=hS.blk _ _ hb1;rw [hM0] at e1;simp only [zoS,zob] at e1;obtain ⟨rfl,rfl⟩:=e1;exact ⟨rfl,c2,e2⟩
  ·cases hst
 ·simp only [zom,astep,zoS,zob] at hst;obtain ⟨rfl,rfl⟩:=hst;obtain ⟨v',w',M',r1,r2,r3,r4⟩:=zcy (P:=P) hS ‹TypeId›;refine ⟨v',w',M',I,.inl ?_,r2,r3,r4⟩;show Sem.run P (do Pure.pure (Next.value (<-Instr.makeMap _ none))) w=_;simp only [Sem.run_bind,r1,Result.andThen_ok,Sem.run_pure]
 ·rename_i t m k ok z ok' m' k';simp only [zTo,zol] at hchk;obtain ⟨⟨⟨ht,rfl⟩,h1⟩,h2⟩:=hchk;split at ht
  case h_2=>cases ht
  rename_i kt et hmt;simp only [zTo] at ht;obtain ⟨hkt,ht⟩:=ht;split at ht
  case h_2=>cases ht
  rename_i i hi;split at ht
  case h_2=>cases ht
  rename_i zv hz;simp only [zoa,zom,astep] at hst;obtain ⟨r,hr,he⟩:=zoV.1 hst;cases he;obtain ⟨v',r1,r2⟩:=zYp (P:=P) hS hmt hkt hi hz (fun n=>zK5 ht) (hev _ _ h1) (hev _ _ h2) hr;refine ⟨v',w,M,I,.inl ?_,Grow.refl ..,hS,r2⟩;show Sem.run P (do Pure.pure (Next.value (<-Instr.lookup t (ρ m) (ρ k) ok))) w=_;simp only [Sem.run_bind,r1,Result.andThen_ok,Sem.run_pure]
 ·rename_i t m k x m' k' x';simp only [zTo] at hchk;obtain ⟨⟨⟨ht,h1⟩,h2⟩,h3⟩:=hchk;split at ht
  case h_2=>cases ht
  rename_i kt et hmt;simp only [zoa,zom,astep] at hst;obtain ⟨r,hr,he⟩:=zoV.1 hst;cases he;obtain ⟨w',r1,r2,r3⟩:=zRw (P:=P) hS hmt ht (hev _ _ h1) (hev _ _ h2) (hev _ _ h3) hr;refine ⟨Go.undef,w',M,I,.inr ⟨?_,rfl⟩,r2,r3,.undef _⟩;show Sem.run P (do Instr.mapUpdate t (ρ m) (ρ k) (ρ x);Pure.pure Next.skip) w=_;simp only [Sem.run_bind,r1,Result.andThen_ok,Sem.run_pure]
 ·rename_i t m k x m' k' x';simp only [zTo] at hchk;obtain ⟨⟨⟨ht,h1⟩,h2⟩,h3⟩:=hchk;split at ht
  case h_2=>cases ht
  rename_i kt et hmt;simp only [zoa,zom,astep] at hst;obtain ⟨r,hr,he⟩:=zoV.1 hst;cases he;obtain ⟨w',r1,r2,r3⟩:=zRw (P:=P) hS hmt ht (hev _ _ h1) (hev _ _ h2) (hev _ _ h3) hr;refine ⟨Go.undef,w',M,I,.inr ⟨?_,rfl⟩,r2,r3,.undef _⟩;show Sem.run P (do Instr.mapUpdate t (ρ m) (ρ k) (ρ x);Pure.pure Next.skip) w=_;simp only [Sem.run_bind,r1,Result.andThen_ok,Sem.run_pure]
 ·simp [astep] at hst
 ·simp [astep] at hst
 ·cases hchk
end
end Go.AM
