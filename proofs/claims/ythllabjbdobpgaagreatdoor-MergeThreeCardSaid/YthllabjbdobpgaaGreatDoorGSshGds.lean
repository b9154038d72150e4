/- Several texts of mine in one (Ssh, Am26, Am32, Arf, Gds). Own work. -/
import Derived.Test.YthllabjbdobpgaaGreatDoorGSk1Ins
import Derived.Test.YthllabjbdobpgaaGreatDoorGFmAm24
import Derived.SizedLaws
import Derived.Handed
import Derived.DataWitness
import Derived.Test.YthllabjbdobpgaaGreatDoorGRfdRfg
set_option linter.all false
set_option maxRecDepth 20000
namespace Go.AM
section
variable {C : CSpec} {GT : Nat → Option AV}
theorem ssheets_ev (v w : AV) (l : List Fil) (H : Heap) (hv : view H 3 v = some (l.map zb)) (hw : view H 3 w = some (l.map zb)) (hl : l.length ≤ 1000000) : EFun C GT zGi [v,w] H (.bool true) H:=by
 have hlm : (l.map zb).length = l.length:=zMl _
 refine zc ?_; refine zBV hv <| zBV hw <| zO (zNA.2 rfl) ?_; refine zBB (fun i : Nat=>[(5,zJ i),(1,w),(0,v)]) (fun i H'=>H' = H ∧ i ≤ l.length) (fun i=>l.length - i) 0 rfl ⟨rfl,by omega⟩ (fun i H1 ⟨hH,hi⟩=>?_)
 subst hH
 dsimp only
 by_cases hlt : i < l.length
 ·obtain ⟨c,hc⟩ : ∃ c,l[i]? = some c:=⟨_,zMf hlt⟩
  have hcm : (l.map zb)[i]? = some (zb c):=by rw [zMq,hc]; rfl
  refine zBV hv <| zP tT ?_; refine zHG i (zb c) hv rfl hcm (fun p hp=>?_)
  refine zz (zb c) hp rfl ?_; refine zHG i (zb c) hw rfl hcm (fun p2 hp2=>?_)
  refine zz (zb c) hp2 rfl <| zS rfl <| zO (show zG6 true (c.col == c.col && (c.row == c.row && (c.text == c.text && true))) = false from by simp [zG6]) <| zM (r:=i + 1) rfl tO ?_; refine zAA (i + 1) rfl ⟨rfl,by omega⟩ tO
 ·refine zBV hv <| zO tF ?_
  exact sRr
end
end Go.AM
namespace Go.AM
section
variable {H : Type} {enc : TypeId × Value → H} {P : Program} {w : World} {held : Bool} {base : Nat} {sp : Nat → Bool}
end
end Go.AM
namespace Go.AM
section
variable {H : Type} {enc : TypeId × Value → H} {P : Program} {w : World} {held : Bool}
end
end Go.AM
namespace Go.Proofs
open Go.RowKit Go.AM
section
variable {H : Type} {enc : TypeId × Value → H}
theorem zG4 {a : Assume} {C : Checked} {os : Os} {f : FuncId} {fn : Func} {s : ChangeSpec} {conds : List PathCond} {apart fresh handsOn again : Bool} {X : World → Array Value → Prop}
  (hX : ∀ (w w' : World) (args : Array Value),w.heap = w'.heap → X w args → X w' args)
  (own : ownKnob C.prog.godebug = none) (started : os.Started) (noInit : C.prog.inits.idxOf? f = none) (hfn : C.prog.funcs[f]? = some fn)
  (witness : ∃ (w : World) (tape : Tape) (i : Input),w.os = os ∧ (w.forCall tape i).Shaped C.prog ∧ i.vars = [] ∧ Input.okWide C.prog (w.forCall tape i) .any w.heap.size f i ∧
   ((s.pre enc C.prog fn conds apart (w.forCall tape i).memory i.args ∧ X (w.forCall tape i).memory i.args) ∧ sizedMet enc C.prog fn (OpenSpec.ofChange s) apart (w.forCall tape i).memory i.args) ∧ a.holds C.prog (lone (Frame.enter C.prog f i.args .normal) [] (w.forCall tape i)))
  (contract : ∀ (W : World) (base : Nat) (args : Array Value) (ds gs : List (DataW H)) (before : List MemPlace),
   (∀ (j : Nat) t v,fn.params[j]? = some t → args[j]? = some v → Value.okWide C.prog W .any base t v) →
   DataW.Whole enc C.prog fn.params.toList s.vars apart W args.toList ds gs before →
   conds.all (PathCond.test C.prog ⟨fn.params.toList,ds,s.plain.varTypes C.prog,gs⟩) = true →
   (DataW.weightsEach C.prog (fn.params.toList ++ s.plain.varTypes C.prog) (ds ++ gs)).all (· ≤ reachBytes) = true → X W args → W.ShapedOpen C.prog →
   Calls C.prog f args W fun e W'=>∃ v,e = .returned v ∧ s.post enc C.prog fn apart fresh handsOn again W args v W') :
  ReturnsInHanded a C os f .any (fun w args=>(s.pre enc C.prog fn conds apart w args ∧ X w args) ∧ sizedMet enc C.prog fn (OpenSpec.ofChange s) apart w args) (s.post enc C.prog fn apart fresh handsOn again):=by
 refine returnsInHanded_of_calls own started noInit witness ?_
 intro w tape i _ hsh _ hok hpre hholds
 obtain ⟨_,_,_,fn',hfn',_,_,_,_,hval⟩:=hok
 have e : fn' = fn:=zM5 (hfn'.symm.trans hfn)
 subst e
 obtain ⟨⟨⟨ds,gs,before,hw,hc⟩,hx⟩,hz⟩:=hpre
 have hw':=DataW.Whole.of_heap (w':=w.forCall tape i) (by rfl) hw
 refine (contract (w.forCall tape i) w.heap.size i.args ds gs before hval hw' hc (hz.weights hw) (hX _ _ _ (by rfl) hx) hsh).mono fun e W' ⟨v,he,hp⟩=>?_
 subst he
 exact ChangeSpec.post_blind hp
def varsRefB (P : Program) (w : World) : Bool:=
 let w₀:=(begin P (fun _ _=>0) default).world
 (List.range P.globals.size).all fun g=>
  match (w₀.heap[g]?).bind Obj.row? with
  | none=>true
  | some (zero,t)=>
   match w.heap[g]? with
   | some (.cells cs t' frozen)=>decide (t' = t) && decide (frozen = (0,0)) && cs.size == zero.size && (!P.buildable t || Row.okRefB P w t cs)
   | _=>false
theorem shaped_of_refB {P : Program} {w : World} (hv : varsRefB P w = true)
  (hr : (w.heap.toList.drop P.globals.size).take ((begin P (fun _ _=>0) default).world.heap.size - P.globals.size) =
   (begin P (fun _ _=>0) default).world.heap.toList.drop P.globals.size) : w.Shaped P:=by
 refine ⟨fun g zero t hg hz=>?_,fun k h1 h2=>?_⟩
 case refine_2=>
  have:=zM1 (·[k - P.globals.size]?) hr
  simp only [zNC,zNF,zPJ] at this
  rw [zMg tO,Nat.add_sub_cancel' h1] at this
  exact this
 unfold varsRefB at hv
 simp only [zNk,zPA] at hv
 have:=hv g hg
 rw [hz] at this
 simp only at this
 split at this
 ·rename_i cs t' fr hw
  simp only [zMd,zMr,zM6,zNw,zNV] at this
  obtain ⟨⟨⟨rfl,rfl⟩,hs⟩,hb⟩:=this
  refine ⟨cs,hw,hs,fun hbuild=>?_⟩
  rcases hb with hb | hb
  ·rw [hbuild] at hb; cases hb
  ·exact Row.ok_of_okRefB hb
 ·cases this
theorem witness_shaped {C : Checked} {os : Os} {f : FuncId} {fn : Func} {s : ChangeSpec} {conds : List PathCond} {apart : Bool} {X : World → Array Value → Prop} (modest : Bool) (w0 : World) (args : Array Value) (fuel : Nat) (hos : w0.os = os)
  (hsh : (w0.forCall (fun _ _=>0) ⟨#[],args,[]⟩).Shaped C.prog)
  (hok : Input.okWideB C.prog (w0.forCall (fun _ _=>0) ⟨#[],args,[]⟩) f ⟨#[],args,[]⟩ = true)
  (hpre : s.preB enc C.prog fn conds apart (w0.forCall (fun _ _=>0) ⟨#[],args,[]⟩).memory args fuel = true)
  (hsz : s.sizedB enc C.prog fn apart (w0.forCall (fun _ _=>0) ⟨#[],args,[]⟩).memory args fuel = true)
  (hx : X (w0.forCall (fun _ _=>0) ⟨#[],args,[]⟩).memory args) :
  ∃ (w : World) (tape : Tape) (i : Input),w.os = os ∧ (w.forCall tape i).Shaped C.prog ∧ i.vars = [] ∧ Input.okWide C.prog (w.forCall tape i) .any w.heap.size f i ∧
   ((s.pre enc C.prog fn conds apart (w.forCall tape i).memory i.args ∧ X (w.forCall tape i).memory i.args) ∧ sizedMet enc C.prog fn (OpenSpec.ofChange s) apart (w.forCall tape i).memory i.args) ∧ ({ modest:=modest } : Assume).holds C.prog (lone (Frame.enter C.prog f i.args .normal) [] (w.forCall tape i)):=
 ⟨w0,fun _ _=>0,⟨#[],args,[]⟩,hos,hsh,(Input.okWide_of_okWideB (base:=0) hok).1,(Input.okWide_of_okWideB hok).2,⟨⟨ChangeSpec.pre_of_preB hpre,hx⟩,sizedMet_of_sizedB hsz⟩,by
  simp only [Assume.holds]
  exact ⟨by simp,by simp,fun _=>Modest.zero,by simp,by simp⟩⟩
end
end Go.Proofs
namespace Go.AM
theorem fl_map_of {α : Type} {f : α → AV} : ∀ {ys : List AV},(∀ y ∈ ys,∃ v,y = f v) → ∃ vs : List α,ys = vs.map f
 | [],_=>⟨[],rfl⟩
 | y :: ys,h=>by
  obtain ⟨v,rfl⟩:=h y (by simp)
  obtain ⟨vs,rfl⟩:=fl_map_of (ys:=ys) fun z hz=>h z (zNl _ hz)
  exact ⟨v :: vs,rfl⟩
theorem fl_sl {ag : Bool} {es : List Sh} {x : AV} (h : Fits (.sl ag es) x) : ∃ q xs,x = .lst (some q) es.length xs ∧ (q = true → xs = []) ∧ xs.length ≤ maxLen ∧ (∀ y ∈ xs,y.cells.length = es.length ∧ formed ag y) ∧
  ∀ y ∈ xs,∀ (i : Nat) (s : Sh) (c : AV),es[i]? = some s → y.cells[i]? = some c → Fits s c:=by
 cases h with
 | sl ag es q xs hl hq h1 h2=>exact ⟨q,xs,rfl,hq,hl,h1,h2⟩
theorem fl_int {k : IntKind} {x : AV} (h : Fits (.int k) x) : ∃ n,x = .int k n ∧ (Lit.int k n).wf = true:=by cases h with | int k n h=>exact ⟨n,rfl,h⟩
theorem fl_str {x : AV} (h : Fits .str x) : ∃ s,x = .str s:=by cases h with | str s h=>exact ⟨s,rfl⟩
theorem fl_wf {n : Int} (h : (Lit.int .i64 n).wf = true) : zDP n:=by
 have h : IntKind.i64.min ≤ n ∧ n ≤ 9223372036854775807:=by simpa [Lit.wf] using h
 have e : IntKind.i64.min = -9223372036854775808:=rfl
 exact ⟨by omega,h.2⟩
theorem fl_num {x : AV} (h : Fits (.int .i64) x) : ∃ n,x = zK n ∧ zDP n:=by
 obtain ⟨n,rfl,hn⟩:=fl_int h
 exact ⟨n,rfl,fl_wf hn⟩
def shFil : List Sh:=[.int .i64,.int .i64,.str]
theorem fl_fil {cs : List AV} (hl : cs.length = 3) (h : ∀ (i : Nat) (s : Sh) (c : AV),shFil[i]? = some s → cs[i]? = some c → Fits s c) : ∃ f : Fil,AV.agg cs = zb f ∧ zDP f.col ∧ zDP f.row:=by
 match cs,hl with
 | [a,b,c],_=>
  obtain ⟨n,rfl,h1⟩:=fl_num (h 0 _ a rfl rfl)
  obtain ⟨m,rfl,h2⟩:=fl_num (h 1 _ b rfl rfl)
  obtain ⟨s,rfl⟩:=fl_str (h 2 _ c rfl rfl)
  exact ⟨⟨n,m,s⟩,rfl,h1,h2⟩
theorem fl_fils {x : AV} (h : Fits (.sl true shFil) x) : ∃ l : List Fil,∃ q,x = .lst (some q) 3 (l.map zb) ∧ (∀ H,view H 3 x = some (l.map zb)) ∧ ∀ f ∈ l,zDP f.col ∧ zDP f.row:=by
 obtain ⟨q,xs,rfl,_,_,h1,h2⟩:=fl_sl h
 obtain ⟨l,hl⟩ : ∃ vs : List {f : Fil // zDP f.col ∧ zDP f.row},xs = vs.map (fun f=>zb f.1):=fl_map_of fun y hy=>by
  obtain ⟨k1,cs,rfl⟩:=h1 y hy
  obtain ⟨f,e,f1,f2⟩:=fl_fil k1 (h2 _ hy)
  exact ⟨⟨f,f1,f2⟩,e⟩
 refine ⟨l.map (·.1),q,by rw [zOq,hl]; rfl,fun H=>by rw [hl,zOq]; rfl,fun f hf=>?_⟩
 obtain ⟨g,_,rfl⟩:=zM9.1 hf
 exact g.2
end Go.AM
namespace Go.AM
theorem withS_mem {l : List Fil} {c r : Int} {t : Bs} {f : Fil} (h : f ∈ zDn l c r t) : f ∈ l ∨ (f = ⟨c,r,t⟩ ∧ t ≠ []):=by
 unfold zDn at h
 rcases zNp.1 h with h | h
 ·rcases zNp.1 h with h | h
  ·exact .inl (zNW.1 h).1
  ·by_cases ht : t = []
   ·rw [zMg ht] at h; simp at h
   ·rw [zMe ht] at h; exact .inr ⟨by simpa using h,ht⟩
 ·exact .inl (zNW.1 h).1
structure Goods (l : List Fil) : Prop where
 srt : Srtd l
 len : l.length ≤ 200
 each : ∀ f ∈ l,mayN f = 0 ∧ f.text ≠ []
theorem fils_of : ∀ (l : List Fil) (prev : Option Fil),Srtd l → (∀ f ∈ l,mayN f = 0 ∧ f.text ≠ []) → (∀ p,prev = some p → ∀ f ∈ l,p.row < f.row ∨ (p.row = f.row ∧ p.col < f.col)) → zEw prev l = 0
 | [],_,_,_,_=>rfl
 | f :: r,prev,hs,he,hp=>by
  have h0 : filN prev f = 0:=by
   obtain ⟨h1,h2⟩:=he f (zO8 ..)
   unfold mayN at h1
   unfold filN
   cases hc : okC f.col f.row with
   | false=>rw [hc] at h1; cases h1
   | true=>
    rw [hc,zMg rfl] at h1
    rw [zMe (by simp)]
    cases prev with
    | none=>
     show (if f.text = [] then 3 else zB3 f.text) = 0
     rw [zMe h2]; exact h1
    | some p=>
     have hl:=(lessC_iff p f).2 (hp p rfl f (zO8 ..))
     show (if zDQ p f = false then 5 else if f.text = [] then 3 else zB3 f.text) = 0
     rw [hl,zMe (by simp),zMe h2]
     exact h1
  unfold zEw
  rw [zMg h0]
  exact fils_of r (some f) (zNo.1 hs).2 (fun g hg=>he g (zNl _ hg)) (fun p hpe g hg=>by cases hpe; exact (zNo.1 hs).1 g hg)
theorem Goods.check {l : List Fil} (h : Goods l) : zBH l = 0:=by
 unfold zBH
 rw [zMe (by have:=h.len; omega)]
 exact fils_of l none h.srt h.each (fun p hp=>by cases hp)
theorem filsN_each : ∀ (l : List Fil) (prev : Option Fil),zEw prev l = 0 → ∀ f ∈ l,mayN f = 0 ∧ f.text ≠ []
 | [],_,_,f,hf=>absurd hf (by simp)
 | g :: r,prev,h,f,hf=>by
  unfold zEw at h
  by_cases h0 : filN prev g = 0
  ·rw [zMg h0] at h
   rcases zNZ.1 hf with rfl | hf
   ·unfold filN at h0
    unfold mayN
    cases hc : okC f.col f.row with
    | false=>rw [hc,zMg rfl] at h0; cases h0
    | true=>
     rw [hc,zMe (by simp)] at h0
     rw [zMg rfl]
     have h0 : (if f.text = [] then 3 else zB3 f.text) = 0:=by
      cases prev with
      | none=>exact h0
      | some p=>
       have h0 : (if zDQ p f = false then 5 else if f.text = [] then 3 else zB3 f.text) = 0:=h0
       by_cases hp : zDQ p f = false
       ·rw [zMg hp] at h0; cases h0
       ·rwa [zMe hp] at h0
     by_cases he : f.text = []
     ·rw [zMg he] at h0; cases h0
     ·rw [zMe he] at h0; exact ⟨h0,he⟩
   ·exact filsN_each r _ h f hf
  ·rw [zMe h0] at h; exact absurd h h0
theorem zLM {l : List Fil} (h : zBH l = 0) : Goods l:=by
 refine ⟨srtd_check h,(checkN_ok h).1, ?_⟩
 unfold zBH at h
 by_cases h1 : 200 < l.length
 ·rw [zMg h1] at h; cases h
 ·rw [zMe h1] at h; exact filsN_each l none h
theorem Goods.nil : Goods []:=⟨Srtd.nil,by simp,fun f hf=>absurd hf (by simp)⟩
theorem Goods.take {l : List Fil} (h : Goods l) (n : Nat) : Goods (l.take n):=⟨h.srt.sublist (List.take_sublist n l),by rw [zMy]; have:=h.len; omega,fun f hf=>h.each f (zN3 hf)⟩
end Go.AM
