/- Several texts of mine in one (Am26, Am32, Arf). Own work. -/
import Derived.Test.YtgcggndacnmhfaaGreatDoorGAm23Bc
import Derived.SizedLaws
import Derived.Handed
import Derived.DataWitness
import Derived.Test.YtgcggndacnmhfaaGreatDoorGFs0Fs4
import Derived.Test.YtgcggndacnmhfaaGreatDoorGFs8Bg0
set_option linter.all false
namespace Go.AM
section
variable {H : Type} {enc : TypeId × Value → H} {P : Program} {w : World} {held : Bool} {base : Nat} {sp : Nat → Bool}
theorem zKl {t : TypeId} {v : Value} {d : DataW H} {ps : List MemPlace} {M : AMap} {I : Nat → Prop} {n : Nat} {s : List UInt8} {ts : List TypeId} {ds : List (DataW H)} {j : Nat}
  (hsz : (DataW.weightsEach P ts ds).all (· ≤ reachBytes) = true) (ht : ts[j]? = some t) (hd : ds[j]? = some d) (hu : P.underlying t = some .string) (h : DataW.Trod enc P w base sp held t v d ps) (hr : Rel w M I n (.str s) v) : s.length < 140737488355328:=by
 have hb : reachBytes < 140737488355328:=reachBytes_lt
 obtain rfl:=zCa hr
 obtain ⟨fuel,h⟩:=h
 cases fuel with
 | zero=>simp [DataW.trod] at h
 | succ fuel=>
 have hcs : (Value.string ⟨s.toArray⟩).cells.toList = [Value.string ⟨s.toArray⟩]:=rfl
 rw [hcs] at h
 simp only [DataW.trod,hu] at h
 split at h
 ·simp only [Option.some.injEq,Prod.mk.injEq] at h
  have:=sized_string hsz ht (hd.trans (by rw [← h.1]))
  exact Nat.lt_of_le_of_lt this hb
 ·cases h
end
end Go.AM
namespace Go.AM
section
variable {H : Type} {enc : TypeId × Value → H} {P : Program} {w : World} {held : Bool}
theorem zFI {t : TypeId} {m : Nat} {ss : List Sh} {v : Value} {d : DataW H} {ps : List MemPlace} {r : Reach} {b0 : Nat} (hs : zIv P m t = some (true,ss)) (ho : Value.okWide P w r b0 t v) (h : DataW.Trod enc P w 0 (fun _=>true) held t v d ps) :
  ∃ cs,cs.length = ss.length ∧ (∀ (i : Nat) (s : Sh) (c : AV),ss[i]? = some s → cs[i]? = some c → Fits s c) ∧ Rel w (fun _=>none) (zB7 w) 0 (.agg cs) v:=by
 obtain ⟨fuel,h⟩:=h
 obtain ⟨xs,S⟩:=zCq fuel t _ d ps m true ss h hs
 have hv : ∃ vs : Array Value,v = .agg vs:=by
  cases m with
  | zero=>simp [zIv] at hs
  | succ m=>
  unfold zIv at hs
  unfold Value.okWide at ho
  split at hs
  all_goals first
   | (cases hs; done)
   | skip
  ·split at hs
   ·split at hs <;> cases hs
   ·cases hs
  ·rename_i hu
   rw [hu] at ho
   obtain ⟨vs,rfl,_⟩:=ho
   exact ⟨vs,rfl⟩
 obtain ⟨vs,rfl⟩:=hv
 have hc : (Value.agg vs).cells.toList = vs.toList:=rfl
 rw [hc] at S
 refine ⟨xs,S.len,S.fits, ?_⟩
 have:=Rel.agg (w:=w) (M:=fun _=>none) (I:=zB7 w) (n:=0) xs vs.toList (S.len.trans S.clen.symm) S.rel
 simpa using this
end
end Go.AM
namespace Go.Proofs
open Go.RowKit Go.AM
section
variable {H : Type} {enc : TypeId × Value → H}
theorem zCD {a : Assume} {C : Checked} {os : Os} {f : FuncId} {fn : Func} {s : ChangeSpec} {conds : List PathCond} {apart fresh handsOn again : Bool} {X : World → Array Value → Prop}
  (hX : ∀ (w w' : World) (args : Array Value),w.heap = w'.heap → X w args → X w' args)
  (own : ownKnob C.prog.godebug = none) (started : os.Started) (noInit : C.prog.inits.idxOf? f = none) (hfn : C.prog.funcs[f]? = some fn)
  (witness : ∃ (w : World) (tape : Tape) (i : Input),w.os = os ∧ (w.forCall tape i).Shaped C.prog ∧ i.vars = [] ∧ Input.okWide C.prog (w.forCall tape i) .any w.heap.size f i ∧
   ((s.pre enc C.prog fn conds apart (w.forCall tape i).memory i.args ∧ X (w.forCall tape i).memory i.args) ∧ sizedMet enc C.prog fn (OpenSpec.ofChange s) apart (w.forCall tape i).memory i.args) ∧ a.holds C.prog (lone (Frame.enter C.prog f i.args .normal) [] (w.forCall tape i)))
  (contract : ∀ (W : World) (base : Nat) (args : Array Value) (ds gs : List (DataW H)) (before : List MemPlace),
   (∀ (j : Nat) t v,fn.params[j]? = some t → args[j]? = some v → Value.okWide C.prog W .any base t v) →
   DataW.Whole enc C.prog fn.params.toList s.vars apart W args.toList ds gs before →
   conds.all (PathCond.test C.prog ⟨fn.params.toList,ds,s.plain.varTypes C.prog,gs⟩) = true →
   (DataW.weightsEach C.prog (fn.params.toList ++ s.plain.varTypes C.prog) (ds ++ gs)).all (· ≤ reachBytes) = true → X W args → W.ShapedOpen C.prog →
   Calls C.prog f args W fun e W'=>∃ v,e = .returned v ∧ s.post enc C.prog fn apart fresh handsOn again W args v W') :
  ReturnsInHanded a C os f .any (fun w args=>(s.pre enc C.prog fn conds apart w args ∧ X w args) ∧ sizedMet enc C.prog fn (OpenSpec.ofChange s) apart w args) (s.post enc C.prog fn apart fresh handsOn again):=by
 refine returnsInHanded_of_calls own started noInit witness ?_
 intro w tape i _ hsh _ hok hpre hholds
 obtain ⟨_,_,_,fn',hfn',_,_,_,_,hval⟩:=hok
 have e : fn' = fn:=Option.some.inj (hfn'.symm.trans hfn)
 subst e
 obtain ⟨⟨⟨ds,gs,before,hw,hc⟩,hx⟩,hz⟩:=hpre
 have hw':=DataW.Whole.of_heap (w':=w.forCall tape i) (by rfl) hw
 refine (contract (w.forCall tape i) w.heap.size i.args ds gs before hval hw' hc (hz.weights hw) (hX _ _ _ (by rfl) hx) hsh).mono fun e W' ⟨v,he,hp⟩=>?_
 subst he
 exact ChangeSpec.post_blind hp
def zIM (P : Program) (w : World) : Bool:=
 let w₀:=(begin P (fun _ _=>0) default).world
 (List.range P.globals.size).all fun g=>
  match (w₀.heap[g]?).bind Obj.row? with
  | none=>true
  | some (zero,t)=>
   match w.heap[g]? with
   | some (.cells cs t' frozen)=>decide (t' = t) && decide (frozen = (0,0)) && cs.size == zero.size && (!P.buildable t || Row.okRefB P w t cs)
   | _=>false
theorem zFJ {P : Program} {w : World} (hv : zIM P w = true)
  (hr : (w.heap.toList.drop P.globals.size).take ((begin P (fun _ _=>0) default).world.heap.size - P.globals.size) =
   (begin P (fun _ _=>0) default).world.heap.toList.drop P.globals.size) : w.Shaped P:=by
 refine ⟨fun g zero t hg hz=>?_,fun k h1 h2=>?_⟩
 case refine_2=>
  have:=congrArg (·[k - P.globals.size]?) hr
  simp only [List.getElem?_take,List.getElem?_drop,Array.getElem?_toList] at this
  rw [if_pos tO,Nat.add_sub_cancel' h1] at this
  exact this
 unfold zIM at hv
 simp only [List.all_eq_true,List.mem_range] at hv
 have:=hv g hg
 rw [hz] at this
 simp only at this
 split at this
 ·rename_i cs t' fr hw
  simp only [Bool.and_eq_true,decide_eq_true_eq,beq_iff_eq,Bool.or_eq_true,Bool.not_eq_true'] at this
  obtain ⟨⟨⟨rfl,rfl⟩,hs⟩,hb⟩:=this
  refine ⟨cs,hw,hs,fun hbuild=>?_⟩
  rcases hb with hb | hb
  ·rw [hbuild] at hb; cases hb
  ·exact Row.ok_of_okRefB hb
 ·cases this
theorem zFK {C : Checked} {os : Os} {f : FuncId} {fn : Func} {s : ChangeSpec} {conds : List PathCond} {apart : Bool} {X : World → Array Value → Prop} (modest : Bool) (w0 : World) (args : Array Value) (fuel : Nat) (hos : w0.os = os)
  (hsh : (w0.forCall (fun _ _=>0) ⟨#[],args,[]⟩).Shaped C.prog)
  (hok : Input.okWideB C.prog (w0.forCall (fun _ _=>0) ⟨#[],args,[]⟩) f ⟨#[],args,[]⟩ = true)
  (hpre : s.preB enc C.prog fn conds apart (w0.forCall (fun _ _=>0) ⟨#[],args,[]⟩).memory args fuel = true)
  (hsz : s.sizedB enc C.prog fn apart (w0.forCall (fun _ _=>0) ⟨#[],args,[]⟩).memory args fuel = true)
  (hx : X (w0.forCall (fun _ _=>0) ⟨#[],args,[]⟩).memory args) :
  ∃ (w : World) (tape : Tape) (i : Input),w.os = os ∧ (w.forCall tape i).Shaped C.prog ∧ i.vars = [] ∧ Input.okWide C.prog (w.forCall tape i) .any w.heap.size f i ∧
   ((s.pre enc C.prog fn conds apart (w.forCall tape i).memory i.args ∧ X (w.forCall tape i).memory i.args) ∧ sizedMet enc C.prog fn (OpenSpec.ofChange s) apart (w.forCall tape i).memory i.args) ∧ ({ modest:=modest } : Assume).holds C.prog (lone (Frame.enter C.prog f i.args .normal) [] (w.forCall tape i)):=
 ⟨w0,fun _ _=>0,⟨#[],args,[]⟩,hos,hsh,(Input.okWide_of_okWideB (base:=0) hok).1,(Input.okWide_of_okWideB hok).2,⟨⟨ChangeSpec.pre_of_preB hpre,hx⟩,sizedMet_of_sizedB hsz⟩,by
  simp only [Assume.holds]
  exact ⟨by simp,by simp,fun _=>Modest.zero,by simp,by simp⟩⟩
end
end Go.Proofs
namespace Go.AM
theorem zNp {k : IntKind} {x : AV} (h : Fits (.int k) x) : ∃ n,x = .int k n ∧ (Lit.int k n).wf = true:=by cases h with | int k n h=>exact ⟨n,rfl,h⟩
theorem zMB {x : AV} (h : Fits .str x) : ∃ s,x = .str s:=by cases h with | str s h=>exact ⟨s,rfl⟩
theorem fl_wf {n : Int} (h : (Lit.int .i64 n).wf = true) : zCf n:=by
 have h : IntKind.i64.min ≤ n ∧ n ≤ 9223372036854775807:=by simpa [Lit.wf] using h
 have e : IntKind.i64.min = -9223372036854775808:=rfl
 exact ⟨by omega,h.2⟩
theorem zMC {x : AV} (h : Fits (.int .i64) x) : ∃ n,x = zEK n ∧ zCf n:=by
 obtain ⟨n,rfl,hn⟩:=zNp h
 exact ⟨n,rfl,fl_wf hn⟩
structure Val3 where
 kind : Int
 num : Int
 text : Bs1
def shVal : List Sh:=[.int .i64,.int .i64,.str]
theorem zNq {cs : List AV} (hl : cs.length = 3) (h : ∀ (i : Nat) (s : Sh) (c : AV),shVal[i]? = some s → cs[i]? = some c → Fits s c) : ∃ f : Val3,AV.agg cs = zBW f.kind f.num f.text ∧ zCf f.kind ∧ zCf f.num:=by
 match cs,hl with
 | [a,b,c],_=>
  obtain ⟨n,rfl,h1⟩:=zMC (h 0 _ a rfl rfl)
  obtain ⟨m,rfl,h2⟩:=zMC (h 1 _ b rfl rfl)
  obtain ⟨s,rfl⟩:=zMB (h 2 _ c rfl rfl)
  exact ⟨⟨n,m,s⟩,rfl,h1,h2⟩
end Go.AM
