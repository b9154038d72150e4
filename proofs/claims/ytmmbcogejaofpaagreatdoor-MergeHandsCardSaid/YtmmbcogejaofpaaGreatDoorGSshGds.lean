/- Several texts of mine in one (Ssh, Am26, Am32, Arf, Gds). Own work. -/
import Derived.Test.YtmmbcogejaofpaaGreatDoorGAm33Wt0
import Derived.Test.YtmmbcogejaofpaaGreatDoorGFmAm24
import Derived.SizedLaws
import Derived.Handed
import Derived.DataWitness
import Derived.Test.YtmmbcogejaofpaaGreatDoorGAm31Gq
set_option linter.all false
set_option maxRecDepth 20000
namespace Go.AM
section
variable {C : CSpec} {GT : Nat → Option AV}
theorem ssheets_ev (v w : AV) (l : List Fil) (H : Heap) (hv : view H 3 v = some (l.map zO)) (hw : view H 3 w = some (l.map zO)) (hl : l.length ≤ 1000000) : EFun C GT zC3 [v,w] H (.bool true) H:=by
 have hlm : (l.map zO).length = l.length:=List.length_map _
 refine zW ?_; refine zHQ hv <| zHQ hw <| zY (bne_eq_false_iff_eq.2 rfl) ?_; refine zCC (fun i : Nat=>[(5,zR i),(1,w),(0,v)]) (fun i H'=>H' = H ∧ i ≤ l.length) (fun i=>l.length - i) 0 rfl ⟨rfl,by omega⟩ (fun i H1 ⟨hH,hi⟩=>?_)
 subst hH
 dsimp only
 by_cases hlt : i < l.length
 ·obtain ⟨c,hc⟩ : ∃ c,l[i]? = some c:=⟨_,List.getElem?_eq_getElem hlt⟩
  have hcm : (l.map zO)[i]? = some (zO c):=by rw [List.getElem?_map,hc]; rfl
  refine zHQ hv <| zi tT ?_; refine zDX i (zO c) hv rfl hcm (fun p hp=>?_)
  refine zBD (zO c) hp rfl ?_; refine zDX i (zO c) hw rfl hcm (fun p2 hp2=>?_)
  refine zBD (zO c) hp2 rfl <| zJ rfl <| zY (show zH5 true (c.col == c.col && (c.row == c.row && (c.text == c.text && true))) = false from by simp [zH5]) <| zh (r:=i + 1) rfl tO ?_; refine zAq (i + 1) rfl ⟨rfl,by omega⟩ tO
 ·refine zHQ hv <| zY tF ?_
  exact sRr
end
end Go.AM
namespace Go.AM
section
variable {H : Type} {enc : TypeId × Value → H} {P : Program} {w : World} {held : Bool} {base : Nat} {sp : Nat → Bool}
end
end Go.AM
namespace Go.AM
section
variable {H : Type} {enc : TypeId × Value → H} {P : Program} {w : World} {held : Bool}
end
end Go.AM
namespace Go.Proofs
open Go.RowKit Go.AM
section
variable {H : Type} {enc : TypeId × Value → H}
theorem zCm {a : Assume} {C : Checked} {os : Os} {f : FuncId} {fn : Func} {s : ChangeSpec} {conds : List PathCond} {apart fresh handsOn again : Bool} {X : World → Array Value → Prop}
  (hX : ∀ (w w' : World) (args : Array Value),w.heap = w'.heap → X w args → X w' args)
  (own : ownKnob C.prog.godebug = none) (started : os.Started) (noInit : C.prog.inits.idxOf? f = none) (hfn : C.prog.funcs[f]? = some fn)
  (witness : ∃ (w : World) (tape : Tape) (i : Input),w.os = os ∧ (w.forCall tape i).Shaped C.prog ∧ i.vars = [] ∧ Input.okWide C.prog (w.forCall tape i) .any w.heap.size f i ∧
   ((s.pre enc C.prog fn conds apart (w.forCall tape i).memory i.args ∧ X (w.forCall tape i).memory i.args) ∧ sizedMet enc C.prog fn (OpenSpec.ofChange s) apart (w.forCall tape i).memory i.args) ∧ a.holds C.prog (lone (Frame.enter C.prog f i.args .normal) [] (w.forCall tape i)))
  (contract : ∀ (W : World) (base : Nat) (args : Array Value) (ds gs : List (DataW H)) (before : List MemPlace),
   (∀ (j : Nat) t v,fn.params[j]? = some t → args[j]? = some v → Value.okWide C.prog W .any base t v) →
   DataW.Whole enc C.prog fn.params.toList s.vars apart W args.toList ds gs before →
   conds.all (PathCond.test C.prog ⟨fn.params.toList,ds,s.plain.varTypes C.prog,gs⟩) = true →
   (DataW.weightsEach C.prog (fn.params.toList ++ s.plain.varTypes C.prog) (ds ++ gs)).all (· ≤ reachBytes) = true → X W args → W.ShapedOpen C.prog →
   Calls C.prog f args W fun e W'=>∃ v,e = .returned v ∧ s.post enc C.prog fn apart fresh handsOn again W args v W') :
  ReturnsInHanded a C os f .any (fun w args=>(s.pre enc C.prog fn conds apart w args ∧ X w args) ∧ sizedMet enc C.prog fn (OpenSpec.ofChange s) apart w args) (s.post enc C.prog fn apart fresh handsOn again):=by
 refine returnsInHanded_of_calls own started noInit witness ?_
 intro w tape i _ hsh _ hok hpre hholds
 obtain ⟨_,_,_,fn',hfn',_,_,_,_,hval⟩:=hok
 have e : fn' = fn:=Option.some.inj (hfn'.symm.trans hfn)
 subst e
 obtain ⟨⟨⟨ds,gs,before,hw,hc⟩,hx⟩,hz⟩:=hpre
 have hw':=DataW.Whole.of_heap (w':=w.forCall tape i) (by rfl) hw
 refine (contract (w.forCall tape i) w.heap.size i.args ds gs before hval hw' hc (hz.weights hw) (hX _ _ _ (by rfl) hx) hsh).mono fun e W' ⟨v,he,hp⟩=>?_
 subst he
 exact ChangeSpec.post_blind hp
def varsRefB (P : Program) (w : World) : Bool:=
 let w₀:=(begin P (fun _ _=>0) default).world
 (List.range P.globals.size).all fun g=>
  match (w₀.heap[g]?).bind Obj.row? with
  | none=>true
  | some (zero,t)=>
   match w.heap[g]? with
   | some (.cells cs t' frozen)=>decide (t' = t) && decide (frozen = (0,0)) && cs.size == zero.size && (!P.buildable t || Row.okRefB P w t cs)
   | _=>false
theorem shaped_of_refB {P : Program} {w : World} (hv : varsRefB P w = true)
  (hr : (w.heap.toList.drop P.globals.size).take ((begin P (fun _ _=>0) default).world.heap.size - P.globals.size) =
   (begin P (fun _ _=>0) default).world.heap.toList.drop P.globals.size) : w.Shaped P:=by
 refine ⟨fun g zero t hg hz=>?_,fun k h1 h2=>?_⟩
 case refine_2=>
  have:=congrArg (·[k - P.globals.size]?) hr
  simp only [List.getElem?_take,List.getElem?_drop,Array.getElem?_toList] at this
  rw [if_pos tO,Nat.add_sub_cancel' h1] at this
  exact this
 unfold varsRefB at hv
 simp only [List.all_eq_true,List.mem_range] at hv
 have:=hv g hg
 rw [hz] at this
 simp only at this
 split at this
 ·rename_i cs t' fr hw
  simp only [Bool.and_eq_true,decide_eq_true_eq,beq_iff_eq,Bool.or_eq_true,Bool.not_eq_true'] at this
  obtain ⟨⟨⟨rfl,rfl⟩,hs⟩,hb⟩:=this
  refine ⟨cs,hw,hs,fun hbuild=>?_⟩
  rcases hb with hb | hb
  ·rw [hbuild] at hb; cases hb
  ·exact Row.ok_of_okRefB hb
 ·cases this
theorem zF2 {C : Checked} {os : Os} {f : FuncId} {fn : Func} {s : ChangeSpec} {conds : List PathCond} {apart : Bool} {X : World → Array Value → Prop} (modest : Bool) (w0 : World) (args : Array Value) (fuel : Nat) (hos : w0.os = os)
  (hsh : (w0.forCall (fun _ _=>0) ⟨#[],args,[]⟩).Shaped C.prog)
  (hok : Input.okWideB C.prog (w0.forCall (fun _ _=>0) ⟨#[],args,[]⟩) f ⟨#[],args,[]⟩ = true)
  (hpre : s.preB enc C.prog fn conds apart (w0.forCall (fun _ _=>0) ⟨#[],args,[]⟩).memory args fuel = true)
  (hsz : s.sizedB enc C.prog fn apart (w0.forCall (fun _ _=>0) ⟨#[],args,[]⟩).memory args fuel = true)
  (hx : X (w0.forCall (fun _ _=>0) ⟨#[],args,[]⟩).memory args) :
  ∃ (w : World) (tape : Tape) (i : Input),w.os = os ∧ (w.forCall tape i).Shaped C.prog ∧ i.vars = [] ∧ Input.okWide C.prog (w.forCall tape i) .any w.heap.size f i ∧
   ((s.pre enc C.prog fn conds apart (w.forCall tape i).memory i.args ∧ X (w.forCall tape i).memory i.args) ∧ sizedMet enc C.prog fn (OpenSpec.ofChange s) apart (w.forCall tape i).memory i.args) ∧ ({ modest:=modest } : Assume).holds C.prog (lone (Frame.enter C.prog f i.args .normal) [] (w.forCall tape i)):=
 ⟨w0,fun _ _=>0,⟨#[],args,[]⟩,hos,hsh,(Input.okWide_of_okWideB (base:=0) hok).1,(Input.okWide_of_okWideB hok).2,⟨⟨ChangeSpec.pre_of_preB hpre,hx⟩,sizedMet_of_sizedB hsz⟩,by
  simp only [Assume.holds]
  exact ⟨by simp,by simp,fun _=>Modest.zero,by simp,by simp⟩⟩
end
end Go.Proofs
namespace Go.AM
theorem fl_map_of {α : Type} {f : α → AV} : ∀ {ys : List AV},(∀ y ∈ ys,∃ v,y = f v) → ∃ vs : List α,ys = vs.map f
 | [],_=>⟨[],rfl⟩
 | y :: ys,h=>by
  obtain ⟨v,rfl⟩:=h y (by simp)
  obtain ⟨vs,rfl⟩:=fl_map_of (ys:=ys) fun z hz=>h z (List.mem_cons_of_mem _ hz)
  exact ⟨v :: vs,rfl⟩
theorem fl_sl {ag : Bool} {es : List Sh} {x : AV} (h : Fits (.sl ag es) x) : ∃ q xs,x = .lst (some q) es.length xs ∧ (q = true → xs = []) ∧ xs.length ≤ maxLen ∧ (∀ y ∈ xs,y.cells.length = es.length ∧ formed ag y) ∧
  ∀ y ∈ xs,∀ (i : Nat) (s : Sh) (c : AV),es[i]? = some s → y.cells[i]? = some c → Fits s c:=by
 cases h with
 | sl ag es q xs hl hq h1 h2=>exact ⟨q,xs,rfl,hq,hl,h1,h2⟩
theorem fl_int {k : IntKind} {x : AV} (h : Fits (.int k) x) : ∃ n,x = .int k n ∧ (Lit.int k n).wf = true:=by cases h with | int k n h=>exact ⟨n,rfl,h⟩
theorem fl_str {x : AV} (h : Fits .str x) : ∃ s,x = .str s:=by cases h with | str s h=>exact ⟨s,rfl⟩
theorem fl_wf {n : Int} (h : (Lit.int .i64 n).wf = true) : zIE n:=by
 have h : IntKind.i64.min ≤ n ∧ n ≤ 9223372036854775807:=by simpa [Lit.wf] using h
 have e : IntKind.i64.min = -9223372036854775808:=rfl
 exact ⟨by omega,h.2⟩
theorem fl_num {x : AV} (h : Fits (.int .i64) x) : ∃ n,x = zr n ∧ zIE n:=by
 obtain ⟨n,rfl,hn⟩:=fl_int h
 exact ⟨n,rfl,fl_wf hn⟩
def shFil : List Sh:=[.int .i64,.int .i64,.str]
theorem fl_fil {cs : List AV} (hl : cs.length = 3) (h : ∀ (i : Nat) (s : Sh) (c : AV),shFil[i]? = some s → cs[i]? = some c → Fits s c) : ∃ f : Fil,AV.agg cs = zO f ∧ zIE f.col ∧ zIE f.row:=by
 match cs,hl with
 | [a,b,c],_=>
  obtain ⟨n,rfl,h1⟩:=fl_num (h 0 _ a rfl rfl)
  obtain ⟨m,rfl,h2⟩:=fl_num (h 1 _ b rfl rfl)
  obtain ⟨s,rfl⟩:=fl_str (h 2 _ c rfl rfl)
  exact ⟨⟨n,m,s⟩,rfl,h1,h2⟩
theorem zHb {x : AV} (h : Fits (.sl true shFil) x) : ∃ l : List Fil,∃ q,x = .lst (some q) 3 (l.map zO) ∧ (∀ H,view H 3 x = some (l.map zO)) ∧ ∀ f ∈ l,zIE f.col ∧ zIE f.row:=by
 obtain ⟨q,xs,rfl,_,_,h1,h2⟩:=fl_sl h
 obtain ⟨l,hl⟩ : ∃ vs : List {f : Fil // zIE f.col ∧ zIE f.row},xs = vs.map (fun f=>zO f.1):=fl_map_of fun y hy=>by
  obtain ⟨k1,cs,rfl⟩:=h1 y hy
  obtain ⟨f,e,f1,f2⟩:=fl_fil k1 (h2 _ hy)
  exact ⟨⟨f,f1,f2⟩,e⟩
 refine ⟨l.map (·.1),q,by rw [List.map_map,hl]; rfl,fun H=>by rw [hl,List.map_map]; rfl,fun f hf=>?_⟩
 obtain ⟨g,_,rfl⟩:=List.mem_map.1 hf
 exact g.2
end Go.AM
namespace Go.AM
theorem withS_mem {l : List Fil} {c r : Int} {t : Bs} {f : Fil} (h : f ∈ zCN l c r t) : f ∈ l ∨ (f = ⟨c,r,t⟩ ∧ t ≠ []):=by
 unfold zCN at h
 rcases List.mem_append.1 h with h | h
 ·rcases List.mem_append.1 h with h | h
  ·exact .inl (List.mem_filter.1 h).1
  ·by_cases ht : t = []
   ·rw [if_pos ht] at h; simp at h
   ·rw [if_neg ht] at h; exact .inr ⟨by simpa using h,ht⟩
 ·exact .inl (List.mem_filter.1 h).1
structure Goods (l : List Fil) : Prop where
 srt : Srtd l
 len : l.length ≤ 200
 each : ∀ f ∈ l,mayN f = 0 ∧ f.text ≠ []
theorem fils_of : ∀ (l : List Fil) (prev : Option Fil),Srtd l → (∀ f ∈ l,mayN f = 0 ∧ f.text ≠ []) → (∀ p,prev = some p → ∀ f ∈ l,p.row < f.row ∨ (p.row = f.row ∧ p.col < f.col)) → zFv prev l = 0
 | [],_,_,_,_=>rfl
 | f :: r,prev,hs,he,hp=>by
  have h0 : filN prev f = 0:=by
   obtain ⟨h1,h2⟩:=he f (List.mem_cons_self ..)
   unfold mayN at h1
   unfold filN
   cases hc : okC f.col f.row with
   | false=>rw [hc] at h1; cases h1
   | true=>
    rw [hc,if_pos rfl] at h1
    rw [if_neg (by simp)]
    cases prev with
    | none=>
     show (if f.text = [] then 3 else zCe f.text) = 0
     rw [if_neg h2]; exact h1
    | some p=>
     have hl:=(zJb p f).2 (hp p rfl f (List.mem_cons_self ..))
     show (if zFG p f = false then 5 else if f.text = [] then 3 else zCe f.text) = 0
     rw [hl,if_neg (by simp),if_neg h2]
     exact h1
  unfold zFv
  rw [if_pos h0]
  exact fils_of r (some f) (List.pairwise_cons.1 hs).2 (fun g hg=>he g (List.mem_cons_of_mem _ hg)) (fun p hpe g hg=>by cases hpe; exact (List.pairwise_cons.1 hs).1 g hg)
theorem Goods.check {l : List Fil} (h : Goods l) : zCl l = 0:=by
 unfold zCl
 rw [if_neg (by have:=h.len; omega)]
 exact fils_of l none h.srt h.each (fun p hp=>by cases hp)
theorem filsN_each : ∀ (l : List Fil) (prev : Option Fil),zFv prev l = 0 → ∀ f ∈ l,mayN f = 0 ∧ f.text ≠ []
 | [],_,_,f,hf=>absurd hf (by simp)
 | g :: r,prev,h,f,hf=>by
  unfold zFv at h
  by_cases h0 : filN prev g = 0
  ·rw [if_pos h0] at h
   rcases List.mem_cons.1 hf with rfl | hf
   ·unfold filN at h0
    unfold mayN
    cases hc : okC f.col f.row with
    | false=>rw [hc,if_pos rfl] at h0; cases h0
    | true=>
     rw [hc,if_neg (by simp)] at h0
     rw [if_pos rfl]
     have h0 : (if f.text = [] then 3 else zCe f.text) = 0:=by
      cases prev with
      | none=>exact h0
      | some p=>
       have h0 : (if zFG p f = false then 5 else if f.text = [] then 3 else zCe f.text) = 0:=h0
       by_cases hp : zFG p f = false
       ·rw [if_pos hp] at h0; cases h0
       ·rwa [if_neg hp] at h0
     by_cases he : f.text = []
     ·rw [if_pos he] at h0; cases h0
     ·rw [if_neg he] at h0; exact ⟨h0,he⟩
   ·exact filsN_each r _ h f hf
  ·rw [if_neg h0] at h; exact absurd h h0
theorem goods_of {l : List Fil} (h : zCl l = 0) : Goods l:=by
 refine ⟨srtd_check h,(checkN_ok h).1, ?_⟩
 unfold zCl at h
 by_cases h1 : 200 < l.length
 ·rw [if_pos h1] at h; cases h
 ·rw [if_neg h1] at h; exact filsN_each l none h
theorem Goods.nil : Goods []:=⟨Srtd.nil,by simp,fun f hf=>absurd hf (by simp)⟩
theorem Goods.take {l : List Fil} (h : Goods l) (n : Nat) : Goods (l.take n):=⟨h.srt.sublist (List.take_sublist n l),by rw [List.length_take]; have:=h.len; omega,fun f hf=>h.each f (List.mem_of_mem_take hf)⟩
end Go.AM
