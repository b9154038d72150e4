/- Several texts of mine in one (Dlg, Ssh, Am26, Am32, Arf). Own work. -/
import Derived.Test.YtmmbcogejaofpaaGreatDoorGDelWtc
import Derived.Test.YtmmbcogejaofpaaGreatDoorGAm33Wt0
import Derived.Test.YtmmbcogejaofpaaGreatDoorGFmAm24
import Derived.SizedLaws
import Derived.Handed
import Derived.DataWitness
import Derived.Test.YtmmbcogejaofpaaGreatDoorGAm31Gq
set_option linter.all false
set_option maxRecDepth 1000000
namespace Go.AM
open Go Go.Lib Go.Proofs
def AtC (w : World) (g o : Nat) (vs : List Value) : Prop:=∀ j v,vs[j]? = some v → w.cell? ⟨g,o + j,none⟩ = some v
theorem AtC.app {w : World} {g o : Nat} {a b : List Value} (h : AtC w g o a) (k : AtC w g (o + a.length) b) : AtC w g o (a ++ b):=by
 intro j v hj
 by_cases e : j < a.length
 ·rw [List.getElem?_append_left e] at hj; exact h j v hj
 ·rw [List.getElem?_append_right tO] at hj
  have:=k _ v hj
  rwa [show o + a.length + (j - a.length) = o + j by omega] at this
theorem AtC.take {w : World} {g o : Nat} {a : List Value} (n : Nat) (h : AtC w g o a) : AtC w g o (a.take n):=fun j v hj=>by
 rw [List.getElem?_take] at hj
 split at hj
 ·exact h j v hj
 ·cases hj
theorem AtC.out {w : World} {g o : Nat} {a : List Value} (h : AtC w g o a) (p : Nat) (vs : List Value) (hd : o + a.length ≤ p ∨ p + vs.length ≤ o) : AtC (w.setCells g p vs) g o a:=fun j v hj=>by
 have hjl:=(zg hj).1
 rw [World.cell?_setCells_out g _ _ _ _ (fun _ _=>by show o + j < p ∨ p + vs.length ≤ o + j; omega)]
 exact h j v hj
theorem AtC.drew {w : World} {g o : Nat} {a : List Value} (h : AtC w g o a) : AtC w.drew g o a:=h
theorem AtC.set {w : World} {g p : Nat} {vs : List Value} (hs : ∀ j,j < vs.length → (w.cell? ⟨g,p + j,none⟩).isSome = true) : AtC (w.setCells g p vs) g p vs:=fun j v hj=>by
 obtain ⟨hl,rfl⟩:=zg hj
 exact World.cell?_setCells_in g vs p w hs j hl
theorem SameBut.new {w w' : World} (h : SameBut w.heap.size w w') (g : Nat) : SameBut g w w':=⟨h.os,h.tape,h.out,h.size,fun j hj _=>h.other j hj tO,h.shape⟩
end Go.AM
namespace Go.Proofs.YtmmbcogejaofpaaGreatDoor
open Go.AM Go.Shelf Go.RowKit Go.Lib Go.Proofs
end Go.Proofs.YtmmbcogejaofpaaGreatDoor
set_option maxRecDepth 20000
namespace Go.AM
section
variable {C : CSpec} {GT : Nat → Option AV}
end
end Go.AM
namespace Go.AM
section
variable {H : Type} {enc : TypeId × Value → H} {P : Program} {w : World} {held : Bool} {base : Nat} {sp : Nat → Bool}
theorem sized_str {t : TypeId} {v : Value} {d : DataW H} {ps : List MemPlace} {M : AMap} {I : Nat → Prop} {n : Nat} {s : List UInt8} {ts : List TypeId} {ds : List (DataW H)} {j : Nat}
  (hsz : (DataW.weightsEach P ts ds).all (· ≤ reachBytes) = true) (ht : ts[j]? = some t) (hd : ds[j]? = some d) (hu : P.underlying t = some .string) (h : DataW.Trod enc P w base sp held t v d ps) (hr : Rel w M I n (.str s) v) : s.length < 140737488355328:=by
 have hb : reachBytes < 140737488355328:=reachBytes_lt
 obtain rfl:=zB9 hr
 obtain ⟨fuel,h⟩:=h
 cases fuel with
 | zero=>simp [DataW.trod] at h
 | succ fuel=>
 have hcs : (Value.string ⟨s.toArray⟩).cells.toList = [Value.string ⟨s.toArray⟩]:=rfl
 rw [hcs] at h
 simp only [DataW.trod,hu] at h
 split at h
 ·simp only [Option.some.injEq,Prod.mk.injEq] at h
  have:=sized_string hsz ht (hd.trans (by rw [← h.1]))
  exact Nat.lt_of_le_of_lt this hb
 ·cases h
end
end Go.AM
namespace Go.AM
section
variable {H : Type} {enc : TypeId × Value → H} {P : Program} {w : World} {held : Bool}
end
end Go.AM
namespace Go.Proofs
open Go.RowKit Go.AM
section
variable {H : Type} {enc : TypeId × Value → H}
theorem zEN {a : Assume} {C : Checked} {os : Os} {f : FuncId} {fn : Func} {s : ChangeSpec} {conds : List PathCond} {apart fresh handsOn again : Bool} {X : World → Array Value → Prop}
  (hX : ∀ (w w' : World) (args : Array Value),w.heap = w'.heap → X w args → X w' args)
  (own : ownKnob C.prog.godebug = none) (started : os.Started) (noInit : C.prog.inits.idxOf? f = none) (hfn : C.prog.funcs[f]? = some fn)
  (witness : ∃ (w : World) (tape : Tape) (i : Input),w.os = os ∧ (w.forCall tape i).Shaped C.prog ∧ i.vars = [] ∧ Input.okWide C.prog (w.forCall tape i) .any w.heap.size f i ∧
   ((s.pre enc C.prog fn conds apart (w.forCall tape i).memory i.args ∧ X (w.forCall tape i).memory i.args) ∧ sizedMet enc C.prog fn (OpenSpec.ofChange s) apart (w.forCall tape i).memory i.args) ∧ a.holds C.prog (lone (Frame.enter C.prog f i.args .normal) [] (w.forCall tape i)))
  (contract : ∀ (W : World) (base : Nat) (args : Array Value) (ds gs : List (DataW H)) (before : List MemPlace),
   (∀ (j : Nat) t v,fn.params[j]? = some t → args[j]? = some v → Value.okWide C.prog W .any base t v) →
   DataW.Whole enc C.prog fn.params.toList s.vars apart W args.toList ds gs before →
   conds.all (PathCond.test C.prog ⟨fn.params.toList,ds,s.plain.varTypes C.prog,gs⟩) = true →
   (DataW.weightsEach C.prog (fn.params.toList ++ s.plain.varTypes C.prog) (ds ++ gs)).all (· ≤ reachBytes) = true → X W args → W.ShapedOpen C.prog →
   Calls C.prog f args W fun e W'=>∃ v,e = .returned v ∧ s.post enc C.prog fn apart fresh handsOn again W args v W') :
  ReturnsInHanded a C os f .any (fun w args=>(s.pre enc C.prog fn conds apart w args ∧ X w args) ∧ sizedMet enc C.prog fn (OpenSpec.ofChange s) apart w args) (s.post enc C.prog fn apart fresh handsOn again):=by
 refine returnsInHanded_of_calls own started noInit witness ?_
 intro w tape i _ hsh _ hok hpre hholds
 obtain ⟨_,_,_,fn',hfn',_,_,_,_,hval⟩:=hok
 have e : fn' = fn:=Option.some.inj (hfn'.symm.trans hfn)
 subst e
 obtain ⟨⟨⟨ds,gs,before,hw,hc⟩,hx⟩,hz⟩:=hpre
 have hw':=DataW.Whole.of_heap (w':=w.forCall tape i) (by rfl) hw
 refine (contract (w.forCall tape i) w.heap.size i.args ds gs before hval hw' hc (hz.weights hw) (hX _ _ _ (by rfl) hx) hsh).mono fun e W' ⟨v,he,hp⟩=>?_
 subst he
 exact ChangeSpec.post_blind hp
def varsRefB (P : Program) (w : World) : Bool:=
 let w₀:=(begin P (fun _ _=>0) default).world
 (List.range P.globals.size).all fun g=>
  match (w₀.heap[g]?).bind Obj.row? with
  | none=>true
  | some (zero,t)=>
   match w.heap[g]? with
   | some (.cells cs t' frozen)=>decide (t' = t) && decide (frozen = (0,0)) && cs.size == zero.size && (!P.buildable t || Row.okRefB P w t cs)
   | _=>false
theorem shaped_of_refB {P : Program} {w : World} (hv : varsRefB P w = true)
  (hr : (w.heap.toList.drop P.globals.size).take ((begin P (fun _ _=>0) default).world.heap.size - P.globals.size) =
   (begin P (fun _ _=>0) default).world.heap.toList.drop P.globals.size) : w.Shaped P:=by
 refine ⟨fun g zero t hg hz=>?_,fun k h1 h2=>?_⟩
 case refine_2=>
  have:=congrArg (·[k - P.globals.size]?) hr
  simp only [List.getElem?_take,List.getElem?_drop,Array.getElem?_toList] at this
  rw [if_pos tO,Nat.add_sub_cancel' h1] at this
  exact this
 unfold varsRefB at hv
 simp only [List.all_eq_true,List.mem_range] at hv
 have:=hv g hg
 rw [hz] at this
 simp only at this
 split at this
 ·rename_i cs t' fr hw
  simp only [Bool.and_eq_true,decide_eq_true_eq,beq_iff_eq,Bool.or_eq_true,Bool.not_eq_true'] at this
  obtain ⟨⟨⟨rfl,rfl⟩,hs⟩,hb⟩:=this
  refine ⟨cs,hw,hs,fun hbuild=>?_⟩
  rcases hb with hb | hb
  ·rw [hbuild] at hb; cases hb
  ·exact Row.ok_of_okRefB hb
 ·cases this
theorem witness_shaped {C : Checked} {os : Os} {f : FuncId} {fn : Func} {s : ChangeSpec} {conds : List PathCond} {apart : Bool} {X : World → Array Value → Prop} (modest : Bool) (w0 : World) (args : Array Value) (fuel : Nat) (hos : w0.os = os)
  (hsh : (w0.forCall (fun _ _=>0) ⟨#[],args,[]⟩).Shaped C.prog)
  (hok : Input.okWideB C.prog (w0.forCall (fun _ _=>0) ⟨#[],args,[]⟩) f ⟨#[],args,[]⟩ = true)
  (hpre : s.preB enc C.prog fn conds apart (w0.forCall (fun _ _=>0) ⟨#[],args,[]⟩).memory args fuel = true)
  (hsz : s.sizedB enc C.prog fn apart (w0.forCall (fun _ _=>0) ⟨#[],args,[]⟩).memory args fuel = true)
  (hx : X (w0.forCall (fun _ _=>0) ⟨#[],args,[]⟩).memory args) :
  ∃ (w : World) (tape : Tape) (i : Input),w.os = os ∧ (w.forCall tape i).Shaped C.prog ∧ i.vars = [] ∧ Input.okWide C.prog (w.forCall tape i) .any w.heap.size f i ∧
   ((s.pre enc C.prog fn conds apart (w.forCall tape i).memory i.args ∧ X (w.forCall tape i).memory i.args) ∧ sizedMet enc C.prog fn (OpenSpec.ofChange s) apart (w.forCall tape i).memory i.args) ∧ ({ modest:=modest } : Assume).holds C.prog (lone (Frame.enter C.prog f i.args .normal) [] (w.forCall tape i)):=
 ⟨w0,fun _ _=>0,⟨#[],args,[]⟩,hos,hsh,(Input.okWide_of_okWideB (base:=0) hok).1,(Input.okWide_of_okWideB hok).2,⟨⟨ChangeSpec.pre_of_preB hpre,hx⟩,sizedMet_of_sizedB hsz⟩,by
  simp only [Assume.holds]
  exact ⟨by simp,by simp,fun _=>Modest.zero,by simp,by simp⟩⟩
end
end Go.Proofs
namespace Go.AM
theorem fl_map_of {α : Type} {f : α → AV} : ∀ {ys : List AV},(∀ y ∈ ys,∃ v,y = f v) → ∃ vs : List α,ys = vs.map f
 | [],_=>⟨[],rfl⟩
 | y :: ys,h=>by
  obtain ⟨v,rfl⟩:=h y (by simp)
  obtain ⟨vs,rfl⟩:=fl_map_of (ys:=ys) fun z hz=>h z (List.mem_cons_of_mem _ hz)
  exact ⟨v :: vs,rfl⟩
theorem fl_sl {ag : Bool} {es : List Sh} {x : AV} (h : Fits (.sl ag es) x) : ∃ q xs,x = .lst (some q) es.length xs ∧ (q = true → xs = []) ∧ xs.length ≤ maxLen ∧ (∀ y ∈ xs,y.cells.length = es.length ∧ formed ag y) ∧
  ∀ y ∈ xs,∀ (i : Nat) (s : Sh) (c : AV),es[i]? = some s → y.cells[i]? = some c → Fits s c:=by
 cases h with
 | sl ag es q xs hl hq h1 h2=>exact ⟨q,xs,rfl,hq,hl,h1,h2⟩
theorem fl_int {k : IntKind} {x : AV} (h : Fits (.int k) x) : ∃ n,x = .int k n ∧ (Lit.int k n).wf = true:=by cases h with | int k n h=>exact ⟨n,rfl,h⟩
theorem fl_str {x : AV} (h : Fits .str x) : ∃ s,x = .str s:=by cases h with | str s h=>exact ⟨s,rfl⟩
theorem fl_wf {n : Int} (h : (Lit.int .i64 n).wf = true) : zGv n:=by
 have h : IntKind.i64.min ≤ n ∧ n ≤ 9223372036854775807:=by simpa [Lit.wf] using h
 have e : IntKind.i64.min = -9223372036854775808:=rfl
 exact ⟨by omega,h.2⟩
theorem fl_num {x : AV} (h : Fits (.int .i64) x) : ∃ n,x = zf n ∧ zGv n:=by
 obtain ⟨n,rfl,hn⟩:=fl_int h
 exact ⟨n,rfl,fl_wf hn⟩
theorem fl_byte {x : AV} (h : Fits (.int .u8) x) : ∃ c : UInt8,x = zAS c:=by
 obtain ⟨n,rfl,hn⟩:=fl_int h
 have h : IntKind.u8.min ≤ n ∧ n ≤ IntKind.u8.max:=by simpa [Lit.wf] using hn
 have e2 : IntKind.u8.max = 255:=rfl
 have e : IntKind.u8.min = 0:=rfl
 refine ⟨UInt8.ofNat n.toNat, ?_⟩
 unfold zAS
 congr 1
 have : (UInt8.ofNat n.toNat).toNat = n.toNat:=by rw [UInt8.toNat_ofNat']; omega
 omega
def shFil : List Sh:=[.int .i64,.int .i64,.str]
theorem fl_fil {cs : List AV} (hl : cs.length = 3) (h : ∀ (i : Nat) (s : Sh) (c : AV),shFil[i]? = some s → cs[i]? = some c → Fits s c) : ∃ f : Fil,AV.agg cs = zZ f ∧ zGv f.col ∧ zGv f.row:=by
 match cs,hl with
 | [a,b,c],_=>
  obtain ⟨n,rfl,h1⟩:=fl_num (h 0 _ a rfl rfl)
  obtain ⟨m,rfl,h2⟩:=fl_num (h 1 _ b rfl rfl)
  obtain ⟨s,rfl⟩:=fl_str (h 2 _ c rfl rfl)
  exact ⟨⟨n,m,s⟩,rfl,h1,h2⟩
theorem fl_fils {x : AV} (h : Fits (.sl true shFil) x) : ∃ l : List Fil,∃ q,x = .lst (some q) 3 (l.map zZ) ∧ (∀ H,view H 3 x = some (l.map zZ)) ∧ ∀ f ∈ l,zGv f.col ∧ zGv f.row:=by
 obtain ⟨q,xs,rfl,_,_,h1,h2⟩:=fl_sl h
 obtain ⟨l,hl⟩ : ∃ vs : List {f : Fil // zGv f.col ∧ zGv f.row},xs = vs.map (fun f=>zZ f.1):=fl_map_of fun y hy=>by
  obtain ⟨k1,cs,rfl⟩:=h1 y hy
  obtain ⟨f,e,f1,f2⟩:=fl_fil k1 (h2 _ hy)
  exact ⟨⟨f,f1,f2⟩,e⟩
 refine ⟨l.map (·.1),q,by rw [List.map_map,hl]; rfl,fun H=>by rw [hl,List.map_map]; rfl,fun f hf=>?_⟩
 obtain ⟨g,_,rfl⟩:=List.mem_map.1 hf
 exact g.2
end Go.AM
