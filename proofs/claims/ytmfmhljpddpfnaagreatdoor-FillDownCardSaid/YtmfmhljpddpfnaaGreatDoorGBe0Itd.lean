/- Texts of mine in one. Own work. -/
import Derived.Test.YtmfmhljpddpfnaaGreatDoorGRfdGq
import Derived.Test.YtmfmhljpddpfnaaGreatDoorGAm23Am35
import Derived.SizedLaws
import Derived.Handed
import Derived.DataWitness
import Derived.Lib.ItoaNum
set_option maxHeartbeats 8000000
set_option maxRecDepth 20000
namespace Go.AM
def okF (f:Fil):Prop:=(1<=f.col/\f.col<=26)/\(1<=f.row/\f.row<=99)/\f.text.length<=200
theorem zHI (c r:Int):okC c r=true↔(1<=c/\c<=26)/\(1<=r/\r<=99):=by
 unfold okC;simp only [Bool.and_eq_true,decide_eq_true_eq];constructor
 ·rintro ⟨⟨⟨h1,h2⟩,h3⟩,h4⟩;exact ⟨⟨h1,h2⟩,h3,h4⟩
 ·rintro ⟨⟨h1,h2⟩,h3,h4⟩;exact ⟨⟨⟨h1,h2⟩,h3⟩,h4⟩
theorem za9 {s:Bs} (h:zBV s=0):s.length<=200:=by
 unfold zBV at h;by_cases hl:200<s.length
 ·rw [if_pos hl] at h;cases h
 ·omega
def zhw (f:Fil):Nat:=if okC f.col f.row=true then zBV f.text else 1
theorem zkb {f:Fil} (h1:okC f.col f.row=true) (h2:zBV f.text=0):okF f:=⟨((zHI _ _).1 h1).1,((zHI _ _).1 h1).2,za9 h2⟩
theorem zeh:∀ (l:List Fil) (prev:Option Fil),zGY prev l=0->∀ f∈l,okF f:=by
 intro l;induction l with
 |nil=>intro _ _ f h;cases h
 |cons g r ih=>
  intro prev h f hf;unfold zGY at h;by_cases h0:zUi prev g=0
  ·rw [if_pos h0] at h;rcases List.mem_cons.1 hf with rfl|hf
   ·unfold zUi at h0;by_cases h1:okC f.col f.row=false
    ·rw [if_pos h1] at h0;cases h0
    ·rw [if_neg h1] at h0;have h1:okC f.col f.row=true:=by simpa using h1
     have h2:zBV f.text=0:=by
      by_cases he:f.text=[]
      ·rw [he];rfl
      ·cases prev with
       |none=>
        have h0:(if f.text=[] then 3 else zBV f.text)=0:=h0
        rwa [if_neg he] at h0
       |some p=>
        have h0:(if zEb p f=false then 5 else if f.text=[] then 3 else zBV f.text)=0:=h0;cases hp:zEb p f with
        |true=>rw [hp,if_neg (by simp),if_neg he] at h0;exact h0
        |false=>rw [hp,if_pos rfl] at h0;cases h0
     exact zkb h1 h2
   ·exact ih _ h f hf
  ·rw [if_neg h0] at h;exact absurd h h0
theorem zbA {l:List Fil} (h:zDj l=0):l.length<=200/\∀ f∈l,okF f:=by
 unfold zDj at h;by_cases hl:200<l.length
 ·rw [if_pos hl] at h;cases h
 ·rw [if_neg hl] at h;exact ⟨by omega,zeh l none h⟩
end Go.AM
set_option maxRecDepth 20000
namespace Go.AM
section
variable {C:CSpec} {GT:Nat->Option AV}
theorem zX2 (v w:AV) (l:List Fil) (H:Heap) (hv:view H 3 v=some (l.map zf)) (hw:view H 3 w=some (l.map zf)) (hl:l.length<=1000000):EFun C GT zIV [v,w] H (.bool true) H:=by
 have hlm:(l.map zf).length=l.length:=List.length_map _;refine zH ?_;refine zDU hv<|zDU hw<|zc (bne_eq_false_iff_eq.2 rfl) ?_;refine zAr (fun i:Nat=>[(5,zL i),(1,w),(0,v)]) (fun i H'=>H'=H/\i<=l.length) (fun i=>l.length-i) 0 rfl ⟨rfl,by omega⟩ (fun i H1 ⟨hH,hi⟩=>?_)
 subst hH;dsimp only;by_cases hlt:i<l.length
 ·obtain ⟨c,hc⟩:∃ c,l[i]?=some c:=⟨_,List.getElem?_eq_getElem hlt⟩;have hcm:(l.map zf)[i]?=some (zf c):=by rw [List.getElem?_map,hc];rfl
  refine zDU hv<|zt tT ?_;refine zLM i (zf c) hv rfl hcm (fun p hp=>?_)
  refine zAe (zf c) hp rfl ?_;refine zLM i (zf c) hw rfl hcm (fun p2 hp2=>?_);refine zAe (zf c) hp2 rfl<|za rfl<|zc (show zL9 true (c.col==c.col&&(c.row==c.row&&(c.text==c.text&&true)))=false from by simp [zL9])<|zQ (r:=i+1) rfl tO ?_;refine zAJ (i+1) rfl ⟨rfl,by omega⟩ tO
 ·refine zDU hv<|zc tF ?_
  exact sRr
end
end Go.AM
namespace Go.AM
section
variable {H:Type} {enc:TypeId×Value->H} {P:Program} {w:World} {held:Bool} {base:Nat} {sp:Nat->Bool}
end
end Go.AM
namespace Go.AM
section
variable {H:Type} {enc:TypeId×Value->H} {P:Program} {w:World} {held:Bool}
theorem zKQ {t:TypeId} {m:Nat} {ss:List Sh} {v:Value} {d:DataW H} {ps:List MemPlace} {r:Reach} {b0:Nat} (hs:zXQ P m t=some (true,ss)) (ho:Value.okWide P w r b0 t v) (h:DataW.Trod enc P w 0 (fun _=>true) held t v d ps) :
  ∃ cs,cs.length=ss.length/\(∀ (i:Nat) (s:Sh) (c:AV),ss[i]?=some s->cs[i]?=some c->Fits s c)/\Rel w (fun _=>none) (zFn w) 0 (.agg cs) v:=by
 obtain ⟨fuel,h⟩:=h;obtain ⟨xs,S⟩:=zKJ fuel t _ d ps m true ss h hs;have hv:∃ vs:Array Value,v=.agg vs:=by
  cases m with
  |zero=>simp [zXQ] at hs
  |succ m=>
  unfold zXQ at hs;unfold Value.okWide at ho;split at hs
  all_goals first
   |(cases hs;done)
   |skip
  ·grind
  ·grind
 obtain ⟨vs,rfl⟩:=hv;have hc:(Value.agg vs).cells.toList=vs.toList:=rfl;rw [hc] at S;refine ⟨xs,S.len,S.fits, ?_⟩;have:=Rel.agg (w:=w) (M:=fun _=>none) (I:=zFn w) (n:=0) xs vs.toList (S.len.trans S.clen.symm) S.rel;simpa using this
end
end Go.AM
namespace Go.Proofs
open Go.RowKit Go.AM
section
variable {H:Type} {enc:TypeId×Value->H}
theorem zIn {a:Assume} {C:Checked} {os:Os} {f:FuncId} {fn:Func} {s:ChangeSpec} {conds:List PathCond} {apart fresh handsOn again:Bool} {X:World->Array Value->Prop}
  (hX:∀ (w w':World) (args:Array Value),w.heap=w'.heap->X w args->X w' args)
  (own:ownKnob C.prog.godebug=none) (started:os.Started) (noInit:C.prog.inits.idxOf? f=none) (hfn:C.prog.funcs[f]?=some fn)
  (witness:∃ (w:World) (tape:Tape) (i:Input),w.os=os/\(w.forCall tape i).Shaped C.prog/\i.vars=[]/\Input.okWide C.prog (w.forCall tape i) .any w.heap.size f i /\
   ((s.pre enc C.prog fn conds apart (w.forCall tape i).memory i.args/\X (w.forCall tape i).memory i.args)/\sizedMet enc C.prog fn (OpenSpec.ofChange s) apart (w.forCall tape i).memory i.args)/\a.holds C.prog (lone (Frame.enter C.prog f i.args .normal) [] (w.forCall tape i)))
  (contract:∀ (W:World) (base:Nat) (args:Array Value) (ds gs:List (DataW H)) (before:List MemPlace),
   (∀ (j:Nat) t v,fn.params[j]?=some t->args[j]?=some v->Value.okWide C.prog W .any base t v) ->
   DataW.Whole enc C.prog fn.params.toList s.vars apart W args.toList ds gs before ->
   conds.all (PathCond.test C.prog ⟨fn.params.toList,ds,s.plain.varTypes C.prog,gs⟩)=true ->
   (DataW.weightsEach C.prog (fn.params.toList++s.plain.varTypes C.prog) (ds++gs)).all (·<=reachBytes)=true->X W args->W.ShapedOpen C.prog ->
   Calls C.prog f args W fun e W'=>∃ v,e=.returned v/\s.post enc C.prog fn apart fresh handsOn again W args v W') :
  ReturnsInHanded a C os f .any (fun w args=>(s.pre enc C.prog fn conds apart w args/\X w args)/\sizedMet enc C.prog fn (OpenSpec.ofChange s) apart w args) (s.post enc C.prog fn apart fresh handsOn again):=by
 refine returnsInHanded_of_calls own started noInit witness ?_;intro w tape i _ hsh _ hok hpre hholds;obtain ⟨_,_,_,fn',hfn',_,_,_,_,hval⟩:=hok;have e:fn'=fn:=Option.some.inj (hfn'.symm.trans hfn);subst e;obtain ⟨⟨⟨ds,gs,before,hw,hc⟩,hx⟩,hz⟩:=hpre;have hw':=DataW.Whole.of_heap (w':=w.forCall tape i) (by rfl) hw;refine (contract (w.forCall tape i) w.heap.size i.args ds gs before hval hw' hc (hz.weights hw) (hX _ _ _ (by rfl) hx) hsh).mono fun e W' ⟨v,he,hp⟩=>?_;subst he;exact ChangeSpec.post_blind hp
def zWC (P:Program) (w:World):Bool:=
 let w₀:=(begin P (fun _ _=>0) default).world
 (List.range P.globals.size).all fun g=>
  match (w₀.heap[g]?).bind Obj.row? with
  |none=>true
  |some (zero,t)=>
   match w.heap[g]? with
   |some (.cells cs t' frozen)=>decide (t'=t)&&decide (frozen=(0,0))&&cs.size==zero.size&&(!P.buildable t||Row.okRefB P w t cs)
   |_=>false
theorem zPd {P:Program} {w:World} (hv:zWC P w=true)
  (hr:(w.heap.toList.drop P.globals.size).take ((begin P (fun _ _=>0) default).world.heap.size-P.globals.size) =
   (begin P (fun _ _=>0) default).world.heap.toList.drop P.globals.size):w.Shaped P:=by
 refine ⟨fun g zero t hg hz=>?_,fun k h1 h2=>?_⟩
 case refine_2=>
  have:=congrArg (·[k-P.globals.size]?) hr;simp only [List.getElem?_take,List.getElem?_drop,Array.getElem?_toList] at this;rw [if_pos tO,Nat.add_sub_cancel' h1] at this;exact this
 unfold zWC at hv;simp only [List.all_eq_true,List.mem_range] at hv;have:=hv g hg;rw [hz] at this;simp only at this;split at this
 ·rename_i cs t' fr hw;simp only [Bool.and_eq_true,decide_eq_true_eq,beq_iff_eq,Bool.or_eq_true,Bool.not_eq_true'] at this;obtain ⟨⟨⟨rfl,rfl⟩,hs⟩,hb⟩:=this;refine ⟨cs,hw,hs,fun hbuild=>?_⟩;rcases hb with hb|hb
  ·rw [hbuild] at hb;cases hb
  ·exact Row.ok_of_okRefB hb
 ·cases this
theorem zPe {C:Checked} {os:Os} {f:FuncId} {fn:Func} {s:ChangeSpec} {conds:List PathCond} {apart:Bool} {X:World->Array Value->Prop} (modest:Bool) (w0:World) (args:Array Value) (fuel:Nat) (hos:w0.os=os)
  (hsh:(w0.forCall (fun _ _=>0) ⟨#[],args,[]⟩).Shaped C.prog)
  (hok:Input.okWideB C.prog (w0.forCall (fun _ _=>0) ⟨#[],args,[]⟩) f ⟨#[],args,[]⟩=true)
  (hpre:s.preB enc C.prog fn conds apart (w0.forCall (fun _ _=>0) ⟨#[],args,[]⟩).memory args fuel=true)
  (hsz:s.sizedB enc C.prog fn apart (w0.forCall (fun _ _=>0) ⟨#[],args,[]⟩).memory args fuel=true)
  (hx:X (w0.forCall (fun _ _=>0) ⟨#[],args,[]⟩).memory args) :
  ∃ (w:World) (tape:Tape) (i:Input),w.os=os/\(w.forCall tape i).Shaped C.prog/\i.vars=[]/\Input.okWide C.prog (w.forCall tape i) .any w.heap.size f i /\
   ((s.pre enc C.prog fn conds apart (w.forCall tape i).memory i.args/\X (w.forCall tape i).memory i.args)/\sizedMet enc C.prog fn (OpenSpec.ofChange s) apart (w.forCall tape i).memory i.args)/\({ modest:=modest }:Assume).holds C.prog (lone (Frame.enter C.prog f i.args .normal) [] (w.forCall tape i)):=
 ⟨w0,fun _ _=>0,⟨#[],args,[]⟩,hos,hsh,(Input.okWide_of_okWideB (base:=0) hok).1,(Input.okWide_of_okWideB hok).2,⟨⟨ChangeSpec.pre_of_preB hpre,hx⟩,sizedMet_of_sizedB hsz⟩,by
  simp only [Assume.holds];exact ⟨by simp,by simp,fun _=>Modest.zero,by simp,by simp⟩⟩
end
end Go.Proofs
namespace Go.AM
theorem zS0 {α:Type} {f:α->AV}:∀ {ys:List AV},(∀ y∈ys,∃ v,y=f v)->∃ vs:List α,ys=vs.map f
 |[],_=>⟨[],rfl⟩
 |y::ys,h=>by
  obtain ⟨v,rfl⟩:=h y (by simp);obtain ⟨vs,rfl⟩:=zS0 (ys:=ys) fun z hz=>h z (List.mem_cons_of_mem _ hz);exact ⟨v::vs,rfl⟩
theorem zkc {ag:Bool} {es:List Sh} {x:AV} (h:Fits (.sl ag es) x):∃ q xs,x=.lst (some q) es.length xs/\(q=true->xs=[])/\xs.length<=maxLen/\(∀ y∈xs,y.cells.length=es.length/\formed ag y) /\
  ∀ y∈xs,∀ (i:Nat) (s:Sh) (c:AV),es[i]?=some s->y.cells[i]?=some c->Fits s c:=by
 cases h with
 |sl ag es q xs hl hq h1 h2=>exact ⟨q,xs,rfl,hq,hl,h1,h2⟩
theorem zkd {k:IntKind} {x:AV} (h:Fits (.int k) x):∃ n,x=.int k n/\(Lit.int k n).wf=true:=by cases h with|int k n h=>exact ⟨n,rfl,h⟩
theorem zke {x:AV} (h:Fits .str x):∃ s,x=.str s:=by cases h with|str s h=>exact ⟨s,rfl⟩
theorem fl_wf {n:Int} (h:(Lit.int .i64 n).wf=true):zDi n:=by
 have h:IntKind.i64.min<=n/\n<=9223372036854775807:=by simpa [Lit.wf] using h
 have e:IntKind.i64.min=-9223372036854775808:=rfl;exact ⟨by omega,h.2⟩
theorem zMx {x:AV} (h:Fits (.int .i64) x):∃ n,x=zK n/\zDi n:=by
 obtain ⟨n,rfl,hn⟩:=zkd h;exact ⟨n,rfl,fl_wf hn⟩
def zbB:List Sh:=[.int .i64,.int .i64,.str]
def shCel:List Sh:=[.int .i64,.int .i64]
def shBox:List Sh:=[.int .i64,.int .i64,.int .i64,.int .i64]
theorem zkf {cs:List AV} (hl:cs.length=3) (h:∀ (i:Nat) (s:Sh) (c:AV),zbB[i]?=some s->cs[i]?=some c->Fits s c):∃ f:Fil,AV.agg cs=zf f/\zDi f.col/\zDi f.row:=by
 match cs,hl with
 |[a,b,c],_=>
  obtain ⟨n,rfl,h1⟩:=zMx (h 0 _ a rfl rfl);obtain ⟨m,rfl,h2⟩:=zMx (h 1 _ b rfl rfl);obtain ⟨s,rfl⟩:=zke (h 2 _ c rfl rfl);exact ⟨⟨n,m,s⟩,rfl,h1,h2⟩
theorem zkg {cs:List AV} (hl:cs.length=2) (h:∀ (i:Nat) (s:Sh) (c:AV),shCel[i]?=some s->cs[i]?=some c->Fits s c):∃ c r:Int,AV.agg cs=ze c r/\zDi c/\zDi r:=by
 match cs,hl with
 |[a,b],_=>
  obtain ⟨n,rfl,h1⟩:=zMx (h 0 _ a rfl rfl);obtain ⟨m,rfl,h2⟩:=zMx (h 1 _ b rfl rfl);exact ⟨n,m,rfl,h1,h2⟩
theorem zkh {cs:List AV} (hl:cs.length=4) (h:∀ (i:Nat) (s:Sh) (c:AV),shBox[i]?=some s->cs[i]?=some c->Fits s c):∃ a b c d:Int,AV.agg cs=.agg [zK a,zK b,zK c,zK d]/\zDi a/\zDi b/\zDi c/\zDi d:=by
 match cs,hl with
 |[x,y,z,u],_=>
  obtain ⟨n,rfl,h1⟩:=zMx (h 0 _ x rfl rfl);obtain ⟨m,rfl,h2⟩:=zMx (h 1 _ y rfl rfl);obtain ⟨o,rfl,h3⟩:=zMx (h 2 _ z rfl rfl);obtain ⟨p,rfl,h4⟩:=zMx (h 3 _ u rfl rfl);exact ⟨n,m,o,p,rfl,h1,h2,h3,h4⟩
theorem zbC {x:AV} (h:Fits (.sl true zbB) x):∃ l:List Fil,∃ q,x=.lst (some q) 3 (l.map zf)/\(∀ H,view H 3 x=some (l.map zf))/\∀ f∈l,zDi f.col/\zDi f.row:=by
 obtain ⟨q,xs,rfl,_,_,h1,h2⟩:=zkc h;obtain ⟨l,hl⟩:∃ vs:List {f:Fil // zDi f.col/\zDi f.row},xs=vs.map (fun f=>zf f.1):=zS0 fun y hy=>by
  obtain ⟨k1,cs,rfl⟩:=h1 y hy;obtain ⟨f,e,f1,f2⟩:=zkf k1 (h2 _ hy);exact ⟨⟨f,f1,f2⟩,e⟩
 refine ⟨l.map (·.1),q,by rw [List.map_map,hl];rfl,fun H=>by rw [hl,List.map_map];rfl,fun f hf=>?_⟩;obtain ⟨g,_,rfl⟩:=List.mem_map.1 hf;exact g.2
end Go.AM
set_option maxRecDepth 20000
namespace Go.AM
section
variable {C:CSpec} {GT:Nat->Option AV}
theorem zhx (hR:∀ n H,C zEf [eV n,zL n] H (.bool true) H) (hS:∀ v w (l:List Fil) H,view H 3 v=some (l.map zf)->view H 3 w=some (l.map zf)->l.length<=1000000->C zEE [v,w] H (.bool true) H)
  (v w:AV) (l:List Fil) (n:Nat) (H:Heap) (hv:view H 3 v=some (l.map zf)) (hw:view H 3 w=some (l.map zf)) (hl:l.length<=1000000):EFun C GT zJ9 [v,eV n,w,zL n] H (.bool true) H:=by
 have hr:=hR n H;have hs:=hS v w l H hv hw hl;clear hR hS;refine zH<|sX ?_
 exact sRv
end
end Go.AM
set_option maxRecDepth 20000
namespace Go.AM
def dcF:Nat->Nat->List UInt8
 |0,_=>[]
 |f+1,n=>if n=0 then [] else UInt8.ofNat (48+n%10)::dcF f (n/10)
def zS1 (n:Nat):List UInt8:=dcF n n
theorem zWD:∀ f g n,n<=f->n<=g->dcF f n=dcF g n
 |0,0,_,_,_=>rfl
 |0,g+1,n,h,_=>by
  have:n=0:=by omega
  subst this;rfl
 |f+1,0,n,_,h=>by
  have:n=0:=by omega
  subst this;rfl
 |f+1,g+1,n,h,k=>by
  simp only [dcF];split
  ·rfl
  ·rw [zWD f g (n/10) tO tO]
theorem zJT:zS1 0=[]:=rfl
theorem zIP {n:Nat} (h:n≠0):zS1 n=UInt8.ofNat (48+n%10)::zS1 (n/10):=by
 unfold zS1;obtain ⟨m,rfl⟩:∃ m,n=m+1:=⟨n-1,by omega⟩;rw [dcF,if_neg h,zWD m ((m+1)/10) _ tO (Nat.le_refl _)]
theorem zRV:∀ (k n:Nat),n<10^k->(zS1 n).length<=k
 |0,n,h=>by
  have:n=0:=by simpa using h
  subst this;exact Nat.le_refl _
 |k+1,n,h=>by
  by_cases h0:n=0
  ·subst h0;simp [zJT]
  ·rw [zIP h0,List.length_cons];have:=zRV k (n/10) (by rw [Nat.pow_succ] at h;omega);omega
def signed (v:Int):List UInt8:=if v<0 then zS1 v.natAbs++[45] else zS1 v.natAbs
def zX3 (v:Int):List UInt8:=if v=0 then [48] else (signed v).reverse
end Go.AM
namespace Go.AM
theorem zLn:∀ n:Nat,n≠0->Lib.decDigits n=(zS1 n).reverse:=by
 intro n;induction n using Nat.strongRecOn with
 |ind n ih=>
  intro h;rw [zIP h,List.reverse_cons];by_cases h1:n<10
  ·have:n/10=0:=by omega
   rw [Lib.decDigits,dif_pos h1,this,zJT];have:n%10=n:=by omega
   rw [this];rfl
  ·rw [Lib.decDigits,dif_neg h1,ih (n/10) tO tO]
theorem zhy (v:Int):Lib.itoa v=zX3 v:=by
 unfold Lib.itoa zX3 signed;by_cases h:v<0
 ·rw [if_pos h,if_neg tO,if_pos h,List.reverse_append,zLn _ tO];rfl
 ·rw [if_neg h];by_cases h0:v=0
  ·subst h0;rw [if_pos rfl];exact (Lib.decDigits_one (i:=0) tO)
  ·rw [if_neg h0,if_neg h];have:v.toNat=v.natAbs:=by omega
   rw [this,zLn _ tO]
end Go.AM
