/- Several texts of mine in one (Am26, Am32, Arf). Own work. -/
import Derived.Test.YthpjgjdeogodjaaGreatDoorGFmAm24
import Derived.SizedLaws
import Derived.Handed
import Derived.DataWitness
import Derived.Test.YthpjgjdeogodjaaGreatDoorGRfdRfg
set_option linter.all false
namespace Go.AM
section
variable {H : Type} {enc : TypeId × Value → H} {P : Program} {w : World} {held : Bool} {base : Nat} {sp : Nat → Bool}
theorem len_of_trod {t e : TypeId} {v : Value} {d : DataW H} {ps : List MemPlace} {M : AMap} {I : Nat → Prop} {n : Nat} {q : Option Bool} {k : Nat} {xs : List AV} (hu : P.underlying t = some (.slice e)) (h : DataW.Trod enc P w base sp held t v d ps) (hr : Rel w M I n (.lst q k xs) v) :
  xs = [] ∨ ∃ elems spare,d = .slice elems spare ∧ elems.length = xs.length:=by
 obtain ⟨fuel,h⟩:=h
 cases fuel with
 | zero=>simp [DataW.trod] at h
 | succ fuel=>
 cases hr with
 | lnil=>exact .inl rfl
 | lemp=>exact .inl rfl
 | lst q k xs g o cap V hq hc hm hI he hv hr=>
  refine .inr ?_
  have hcs : (Value.slice (some ⟨g,o,none⟩) xs.length cap).cells.toList = [Value.slice (some ⟨g,o,none⟩) xs.length cap]:=rfl
  rw [hcs] at h
  simp only [DataW.trod,hu] at h
  split at h
  ·obtain ⟨elems,he,h⟩:=Option.bind_eq_some_iff.1 h
   obtain ⟨rest,_,h⟩:=Option.map_eq_some_iff.1 h
   obtain ⟨h1,_⟩:=zEc he
   rw [List.length_range] at h1
   simp only [Prod.mk.injEq] at h
   exact ⟨_,_,h.1.symm,by rw [List.length_map,h1]⟩
  ·cases h
theorem sized_list {t e : TypeId} {v : Value} {d : DataW H} {ps : List MemPlace} {M : AMap} {I : Nat → Prop} {n : Nat} {q : Option Bool} {k : Nat} {xs : List AV} {ts : List TypeId} {ds : List (DataW H)} {j : Nat}
  (hsz : (DataW.weightsEach P ts ds).all (· ≤ reachBytes) = true) (ht : ts[j]? = some t) (hd : ds[j]? = some d) (hu : P.underlying t = some (.slice e)) (h : DataW.Trod enc P w base sp held t v d ps) (hr : Rel w M I n (.lst q k xs) v) :
  xs.length * P.bytesOf e < 140737488355328:=by
 have hb : reachBytes < 140737488355328:=reachBytes_lt
 rcases len_of_trod hu h hr with rfl | ⟨elems,spare,rfl,hl⟩
 ·simp
 ·have:=sized_slice hsz ht hd hu
  rw [Nat.add_mul] at this
  rw [← hl]
  omega
end
end Go.AM
namespace Go.AM
section
variable {H : Type} {enc : TypeId × Value → H} {P : Program} {w : World} {held : Bool}
end
end Go.AM
namespace Go.Proofs
open Go.RowKit Go.AM
section
variable {H : Type} {enc : TypeId × Value → H}
theorem zGp {a : Assume} {C : Checked} {os : Os} {f : FuncId} {fn : Func} {s : ChangeSpec} {conds : List PathCond} {apart fresh handsOn again : Bool} {X : World → Array Value → Prop}
  (hX : ∀ (w w' : World) (args : Array Value),w.heap = w'.heap → X w args → X w' args)
  (own : ownKnob C.prog.godebug = none) (started : os.Started) (noInit : C.prog.inits.idxOf? f = none) (hfn : C.prog.funcs[f]? = some fn)
  (witness : ∃ (w : World) (tape : Tape) (i : Input),w.os = os ∧ (w.forCall tape i).Shaped C.prog ∧ i.vars = [] ∧ Input.okWide C.prog (w.forCall tape i) .any w.heap.size f i ∧
   ((s.pre enc C.prog fn conds apart (w.forCall tape i).memory i.args ∧ X (w.forCall tape i).memory i.args) ∧ sizedMet enc C.prog fn (OpenSpec.ofChange s) apart (w.forCall tape i).memory i.args) ∧ a.holds C.prog (lone (Frame.enter C.prog f i.args .normal) [] (w.forCall tape i)))
  (contract : ∀ (W : World) (base : Nat) (args : Array Value) (ds gs : List (DataW H)) (before : List MemPlace),
   (∀ (j : Nat) t v,fn.params[j]? = some t → args[j]? = some v → Value.okWide C.prog W .any base t v) →
   DataW.Whole enc C.prog fn.params.toList s.vars apart W args.toList ds gs before →
   conds.all (PathCond.test C.prog ⟨fn.params.toList,ds,s.plain.varTypes C.prog,gs⟩) = true →
   (DataW.weightsEach C.prog (fn.params.toList ++ s.plain.varTypes C.prog) (ds ++ gs)).all (· ≤ reachBytes) = true → X W args → W.ShapedOpen C.prog →
   Calls C.prog f args W fun e W'=>∃ v,e = .returned v ∧ s.post enc C.prog fn apart fresh handsOn again W args v W') :
  ReturnsInHanded a C os f .any (fun w args=>(s.pre enc C.prog fn conds apart w args ∧ X w args) ∧ sizedMet enc C.prog fn (OpenSpec.ofChange s) apart w args) (s.post enc C.prog fn apart fresh handsOn again):=by
 refine returnsInHanded_of_calls own started noInit witness ?_
 intro w tape i _ hsh _ hok hpre hholds
 obtain ⟨_,_,_,fn',hfn',_,_,_,_,hval⟩:=hok
 have e : fn' = fn:=Option.some.inj (hfn'.symm.trans hfn)
 subst e
 obtain ⟨⟨⟨ds,gs,before,hw,hc⟩,hx⟩,hz⟩:=hpre
 have hw':=DataW.Whole.of_heap (w':=w.forCall tape i) (by rfl) hw
 refine (contract (w.forCall tape i) w.heap.size i.args ds gs before hval hw' hc (hz.weights hw) (hX _ _ _ (by rfl) hx) hsh).mono fun e W' ⟨v,he,hp⟩=>?_
 subst he
 exact ChangeSpec.post_blind hp
def varsRefB (P : Program) (w : World) : Bool:=
 let w₀:=(begin P (fun _ _=>0) default).world
 (List.range P.globals.size).all fun g=>
  match (w₀.heap[g]?).bind Obj.row? with
  | none=>true
  | some (zero,t)=>
   match w.heap[g]? with
   | some (.cells cs t' frozen)=>decide (t' = t) && decide (frozen = (0,0)) && cs.size == zero.size && (!P.buildable t || Row.okRefB P w t cs)
   | _=>false
theorem shaped_of_refB {P : Program} {w : World} (hv : varsRefB P w = true)
  (hr : (w.heap.toList.drop P.globals.size).take ((begin P (fun _ _=>0) default).world.heap.size - P.globals.size) =
   (begin P (fun _ _=>0) default).world.heap.toList.drop P.globals.size) : w.Shaped P:=by
 refine ⟨fun g zero t hg hz=>?_,fun k h1 h2=>?_⟩
 case refine_2=>
  have:=congrArg (·[k - P.globals.size]?) hr
  simp only [List.getElem?_take,List.getElem?_drop,Array.getElem?_toList] at this
  rw [if_pos tO,Nat.add_sub_cancel' h1] at this
  exact this
 unfold varsRefB at hv
 simp only [List.all_eq_true,List.mem_range] at hv
 have:=hv g hg
 rw [hz] at this
 simp only at this
 split at this
 ·rename_i cs t' fr hw
  simp only [Bool.and_eq_true,decide_eq_true_eq,beq_iff_eq,Bool.or_eq_true,Bool.not_eq_true'] at this
  obtain ⟨⟨⟨rfl,rfl⟩,hs⟩,hb⟩:=this
  refine ⟨cs,hw,hs,fun hbuild=>?_⟩
  rcases hb with hb | hb
  ·rw [hbuild] at hb; cases hb
  ·exact Row.ok_of_okRefB hb
 ·cases this
theorem witness_shaped {C : Checked} {os : Os} {f : FuncId} {fn : Func} {s : ChangeSpec} {conds : List PathCond} {apart : Bool} {X : World → Array Value → Prop} (modest : Bool) (w0 : World) (args : Array Value) (fuel : Nat) (hos : w0.os = os)
  (hsh : (w0.forCall (fun _ _=>0) ⟨#[],args,[]⟩).Shaped C.prog)
  (hok : Input.okWideB C.prog (w0.forCall (fun _ _=>0) ⟨#[],args,[]⟩) f ⟨#[],args,[]⟩ = true)
  (hpre : s.preB enc C.prog fn conds apart (w0.forCall (fun _ _=>0) ⟨#[],args,[]⟩).memory args fuel = true)
  (hsz : s.sizedB enc C.prog fn apart (w0.forCall (fun _ _=>0) ⟨#[],args,[]⟩).memory args fuel = true)
  (hx : X (w0.forCall (fun _ _=>0) ⟨#[],args,[]⟩).memory args) :
  ∃ (w : World) (tape : Tape) (i : Input),w.os = os ∧ (w.forCall tape i).Shaped C.prog ∧ i.vars = [] ∧ Input.okWide C.prog (w.forCall tape i) .any w.heap.size f i ∧
   ((s.pre enc C.prog fn conds apart (w.forCall tape i).memory i.args ∧ X (w.forCall tape i).memory i.args) ∧ sizedMet enc C.prog fn (OpenSpec.ofChange s) apart (w.forCall tape i).memory i.args) ∧ ({ modest:=modest } : Assume).holds C.prog (lone (Frame.enter C.prog f i.args .normal) [] (w.forCall tape i)):=
 ⟨w0,fun _ _=>0,⟨#[],args,[]⟩,hos,hsh,(Input.okWide_of_okWideB (base:=0) hok).1,(Input.okWide_of_okWideB hok).2,⟨⟨ChangeSpec.pre_of_preB hpre,hx⟩,sizedMet_of_sizedB hsz⟩,by
  simp only [Assume.holds]
  exact ⟨by simp,by simp,fun _=>Modest.zero,by simp,by simp⟩⟩
end
end Go.Proofs
namespace Go.AM
theorem fl_map_of {α : Type} {f : α → AV} : ∀ {ys : List AV},(∀ y ∈ ys,∃ v,y = f v) → ∃ vs : List α,ys = vs.map f
 | [],_=>⟨[],rfl⟩
 | y :: ys,h=>by
  obtain ⟨v,rfl⟩:=h y (by simp)
  obtain ⟨vs,rfl⟩:=fl_map_of (ys:=ys) fun z hz=>h z (List.mem_cons_of_mem _ hz)
  exact ⟨v :: vs,rfl⟩
theorem fl_sl {ag : Bool} {es : List Sh} {x : AV} (h : Fits (.sl ag es) x) : ∃ q xs,x = .lst (some q) es.length xs ∧ (q = true → xs = []) ∧ xs.length ≤ maxLen ∧ (∀ y ∈ xs,y.cells.length = es.length ∧ formed ag y) ∧
  ∀ y ∈ xs,∀ (i : Nat) (s : Sh) (c : AV),es[i]? = some s → y.cells[i]? = some c → Fits s c:=by
 cases h with
 | sl ag es q xs hl hq h1 h2=>exact ⟨q,xs,rfl,hq,hl,h1,h2⟩
theorem fl_int {k : IntKind} {x : AV} (h : Fits (.int k) x) : ∃ n,x = .int k n ∧ (Lit.int k n).wf = true:=by cases h with | int k n h=>exact ⟨n,rfl,h⟩
theorem fl_byte {x : AV} (h : Fits (.int .u8) x) : ∃ c : UInt8,x = zP c:=by
 obtain ⟨n,rfl,hn⟩:=fl_int h
 have h : IntKind.u8.min ≤ n ∧ n ≤ IntKind.u8.max:=by simpa [Lit.wf] using hn
 have e2 : IntKind.u8.max = 255:=rfl
 have e : IntKind.u8.min = 0:=rfl
 refine ⟨UInt8.ofNat n.toNat, ?_⟩
 unfold zP
 congr 1
 have : (UInt8.ofNat n.toNat).toNat = n.toNat:=by rw [UInt8.toNat_ofNat']; omega
 omega
theorem fl_one {s : Sh} {x : AV} (h : Fits (.sl false [s]) x) : ∃ q xs,x = .lst (some q) 1 xs ∧ (q = true → xs = []) ∧ xs.length ≤ maxLen ∧ ∀ y ∈ xs,Fits s y:=by
 obtain ⟨q,xs,rfl,hq,hl,h1,h2⟩:=fl_sl h
 refine ⟨q,xs,rfl,hq,hl,fun y hy=>?_⟩
 have hc : y.cells = [y]:=(h1 y hy).2
 exact h2 y hy 0 s y rfl (by rw [hc]; rfl)
theorem fl_bytes {x : AV} (h : Fits (.sl false [.int .u8]) x) : ∃ l : List UInt8,∃ q,x = .lst (some q) 1 (l.map zP) ∧ ∀ H,view H 1 x = some (l.map zP):=by
 obtain ⟨q,xs,rfl,_,_,h1⟩:=fl_one h
 obtain ⟨l,rfl⟩:=fl_map_of (f:=zP) fun y hy=>fl_byte (h1 y hy)
 exact ⟨l,q,rfl,fun H=>rfl⟩
end Go.AM
