/- Several texts of mine in one (Gq, Be0, Ssh, Am26, Am32). Own work. -/
import Derived.Test.YtkeblfepjkdleaaGreatDoorLdQ3
import Derived.Test.YtkeblfepjkdleaaGreatDoorGRffRfi
import Derived.Test.YtkeblfepjkdleaaGreatDoorGRf5Rf3
import Derived.Test.YtkeblfepjkdleaaGreatDoorGAm30Fp1
import Derived.SizedLaws
import Derived.Handed
import Derived.DataWitness
set_option maxRecDepth 100000
set_option linter.all false
namespace Go.Proofs.YtkeblfepjkdleaaGreatDoor
open Go.AM
theorem parK:ParK Tryz.prog:={ hm:=mixed,contains:=zFj,mkSet:=zJX,trimR:=zIE,trimL:=zIp,trim:=zRI,slPre:=zIm,pre:=zLQ,slTrim:=zIF,trimP:=zKn,wrong:=zSk,is:=zYU,whole:=zSl,lit:=zQG,ref:=zYV,dollar:=zSm,wordly:=zOp,called:=zOn,plain:=zQH,opOf:=zRF,fail:=zJR,blanks:=zIA,word:=zJV,want:=zJT,within:=zIC,text:=zJU,neg:=zJ3,negc:=zID,prim:=zJS,prim1:=zHb,prim2:=zHc,call:=zJW,argument:=zGu,two:=zJ2 }
theorem zb0:ParK2 Tryz.prog:={ parK with const:=zMR,parse:=zP7,clos:=zMU,dfr:=by kernel_rfl,rcv:=by kernel_rfl }
theorem zjS:RefK Tryz.prog:={ hm:=mixed,wordly:=zOi,wrongs:=zOj,bad:=zSh,named:=zQE,token:=zP5,called:=zOk,whole:=zQD,ref:=zSj,sign:=zRD,tight:=zP9,fail:=zNY,deeper:=zLR,close:=zMV,one:=zOh,call:=zNa,loose:=zMQ }
theorem zb1:RefK2 Tryz.prog:={ zjS with parse:=zP1,isIn:=zUL,ahead:=zP0,text:=zQ9 }
theorem refK3:RefK3 Tryz.prog:={ zb1 with check:=zPy }
section
variable {m:Int} {ev:Value}
theorem parG (hev:∃ te pe,ev=.iface te pe):ParG Tryz.prog (gtQ m ev):={ atoi:=zhq,atoi2:=zek hev,texts:=rfl,loose:=rfl }
end
section
variable {GT:zG_}
theorem zUl (b m:Nat) (ws:List Nat) (H:Heap) (hm:ws.length=m) (hb:H[b]?=some (.row 1 (ws.map zBY))) (hw:Small ws) (hl:m<=1000000):Go.AM.Good Tryz.prog GT zAG [.sl (some false) b 1 0 m] H (.sl (some false) b 1 0 (wds (wval ws)).length) H:=
 zF mixed zLT (zh2 b m ws H hm hb hw hl)
theorem ziO (x:Nat) (H:Heap) (hx:x<18446744073709551616):Go.AM.Good Tryz.prog GT zCb [zTc x] H (zFV x) H:=zF mixed zKl (zer zUl x hx H)
theorem zkR (av bv:AV) (x y:Nat) (H:Heap) (ha:Mag av x) (hb:Mag bv y) (h1:(wds x).length<=100000) (h2:(wds y).length<=100000):Go.AM.Good Tryz.prog GT zDY [av,bv] H (zFV (x+y)) H:=
 zF mixed zMZ (zkB zUl av bv x y H ha hb h1 h2)
theorem zkS (av bv:AV) (x y:Nat) (H:Heap) (ha:Mag av x) (hb:Mag bv y) (h:y<=x) (h1:(wds x).length<=100000):Go.AM.Good Tryz.prog GT zCL [av,bv] H (zFV (x-y)) H:=
 zF mixed zMb (zkC zUl av bv x y _ H ha hb h rfl h1)
theorem zkT (av bv:AV) (x y:Nat) (H:Heap) (ha:Mag av x) (hb:Mag bv y) (h1:(wds x).length<=100000) (h2:(wds y).length<=100000):Go.AM.Good Tryz.prog GT zDZ [av,bv] H (zH (zYr x y)) H:=
 zF mixed zMa (zh4 av bv x y H ha hb h1 h2)
theorem zkU (av bv:AV) (xn yn:Bool) (x y:Nat) (H:Heap) (ha:Mag av x) (hb:Mag bv y) (h1:(wds x).length<=100000) (h2:(wds y).length<=100000) :
  Go.AM.Good Tryz.prog GT zDX [.bool xn,av,.bool yn,bv] H (.tup [.bool (zes xn x yn y).1,zFV (zes xn x yn y).2]) H:=zF mixed zMY (zh5 zkR zkS zkT av bv xn yn x y H ha hb h1 h2)
theorem g_bit (av:AV) (m i:Nat) (H:Heap) (ha:Mag av m) (hl:(wds m).length<=100000) (hi:i<=1000000):Go.AM.Good Tryz.prog GT zDa [av,zH i] H (zTc (m/2^i%2)) H:=zF mixed zMc (zkF av m i H ha hl hi)
theorem g_tzb (b m n:Nat) (x av:AV) (H:Heap) (hb:H[b]?=some (.box [x,av])) (ha:Mag av m) (h0:m≠0) (hl:(wds m).length<=100) (hn:n<=10000) (h1:m%2^n=0) (h2:m/2^n%2=1) :
  Go.AM.Good Tryz.prog GT zAU [.ref b 0 0 0] H (zTc n) H:=zF mixed zEH (zkG g_bit b m n x av H hb ha h0 hl hn h1 h2)
theorem zkV (av:AV) (m:Nat) (H:Heap) (ha:Mag av m) (hl:(wds m).length<=1000):Go.AM.Good Tryz.prog GT zCM [av] H (zK (Go.AM.bits m)) H:=zF mixed zJ5 (zbK av m H ha hl)
theorem zfI (b m:Nat) (x av:AV) (H:Heap) (hb:H[b]?=some (.box [x,av])) (ha:Mag av m) (hm:m<18446744073709551616):Go.AM.Good Tryz.prog GT zBR [.ref b 0 0 0] H (zTc m) H:=
 zF mixed zGt (zbL b m x av H hb ha hm)
theorem ziP (b:Nat) (v:Int) (H:Heap) (hb:H[b]?=some (.box (zGG v))) (hv:zEK v):Go.AM.Good Tryz.prog GT zAw [.ref b 0 0 0] H (zH v) H:=zF mixed zHa (zev zfI b v H hb hv)
theorem zb2 (b:Nat) (v:Int) (H:Heap) (hb:H[b]?=some (.box (zGG v))) (hv:(wds v.natAbs).length<=100):Go.AM.Good Tryz.prog GT zBL [.ref b 0 0 0] H (.bool (decide (zEK v))) H:=
 zF mixed zGZ (zYs zkV g_tzb b v H hb hv)
theorem zgr (b n:Nat) (neg:Bool) (x0 x1:AV) (H:Heap) (hb:H[b]?=some (.box [x0,x1])):Go.AM.Good Tryz.prog GT z7 [.ref b 0 0 0,.bool neg,zFV n] H (.ref b 0 0 0) (H.set b (.box [.bool (neg&&decide (0<n)),zFV n])):=
 zF mixed zEk (zh6 b n neg x0 x1 H hb)
theorem zY4 (b:Nat) (v:Int) (x0 x1:AV) (H:Heap) (hb:H[b]?=some (.box [x0,x1])) (hv:zEK v):Go.AM.Good Tryz.prog GT zBE [.ref b 0 0 0,zH v] H (.ref b 0 0 0) (H.set b (.box (zGG v))):=
 zF mixed zF9 (zWG ziO zgr b v x0 x1 H hb hv)
theorem zfJ:zt Tryz.prog zAV zXN=true:=by kernel_rfl
theorem zXZ (v:Int) (H:Heap) (hv:zEK v):Go.AM.Good Tryz.prog GT zAV [zH v] H (.ref H.length 0 0 0) (H++[.box (zGG v)]):=zF mixed zfJ (zbM zY4 v H hv)
theorem zkW (b:Nat) (v:Int) (H:Heap) (hb:H[b]?=some (.box (zGG v))) (hv:(wds v.natAbs).length<=100):Go.AM.Good Tryz.prog GT zEE [.ref b 0 0 0] H (.bool (decide (zEK v))) H:=zF mixed zRH (zh7 zb2 b v H hb hv)
theorem ziQ (b:Nat) (xs:List AV) (nv x0 x1:AV) (H:Heap) (hb:H[b]?=some (.box [x0,x1])) (hv:zDe nv 1 xs):Go.AM.Good Tryz.prog GT z7 [.ref b 0 0 0,.bool false,nv] H (.ref b 0 0 0) (H.set b (.box [.bool false,nv])):=
 zF mixed zEk (ze0 b xs nv x0 x1 H hb hv) (hn:=by obtain ⟨q,k',rfl,_⟩:=hv;rfl)
theorem ziR (av:AV) (x:Nat) (H:Heap) (ha:Mag av x) (hl:(wds x).length<=100000):Go.AM.Good Tryz.prog GT zDW [av,zFV 10] H (zYt x) H:=zF mixed zMX (zez zUl av x _ H ha rfl hl)
theorem zfK (b t v:Nat) (av:AV) (H:Heap) (hb:H[b]?=some (.box [.bool false,av])) (ht:H[t]?=some (.box (zGG 10))) (ha:Mag av v) (hl:(wds v).length<=1000):Go.AM.Good Tryz.prog GT zBJ [.ref b 0 0 0,.ref b 0 0 0,.ref t 0 0 0] H (.ref b 0 0 0) (H.set b (.box [.bool false,zYt v])):=
 zF mixed zIn (zbN ziR ziQ b t v av H hb ht ha hl)
theorem zb3 (b t v d:Nat) (av:AV) (H:Heap) (hb:H[b]?=some (.box [.bool false,av])) (ht:H[t]?=some (.box (zGG d))) (ha:Mag av v) (hl:(wds v).length<=1000) (hd:(wds d).length<=1000):Go.AM.Good Tryz.prog GT zBK [.ref b 0 0 0,.ref b 0 0 0,.ref t 0 0 0] H (.ref b 0 0 0) (H.set b (.box (zGG ((v+d:Nat):Int)))):=
 zF mixed zIo (zYu zkU zgr b t v d av H hb ht ha hl hd)
theorem bigG:BigG Tryz.prog GT:={ new:=fun v H h=>zXZ v H h,mul:=fun b t v av H h1 h2 h3 h4=>zfK b t v av H h1 h2 h3 h4,add:=fun b t v d av H h1 h2 h3 h4 h5=>zb3 b t v d av H h1 h2 h3 h4 h5,fit:=fun b v H h1 h2=>zkW b v H h1 h2,i64:=fun b v H h1 h2=>ziP b v H h1 h2 }
theorem zkX (c r:Int) (H:Heap):Go.AM.Good Tryz.prog GT zGM [zCx c r] H (.bool (okC c r)) H:=zF mixed zaM (zkM c r H)
theorem zXa (c r:Int) (H:Heap):Go.AM.Good Tryz.prog GT zBd [zCx c r] H (if okC c r=true then .nili else zJG 1) H:=zF mixed zUM (zbt zkX c r H)
theorem g_nan (a:Int) (H:Heap):Go.AM.Good Tryz.prog GT zDM [zH a] H (.bool false) H:=zF mixed zOm (zkN a H)
theorem zkY (a b:Int) (H:Heap):Go.AM.Good Tryz.prog GT zCJ [zH a,zH b] H (zH (zWL a b)) H:=zF mixed zMT (ziL g_nan a b H)
theorem g_cor (b:Nat) (x y:Int) (H:Heap) (hb:H[b]?=some (.row 1 [zH x,zH y])):Go.AM.Good Tryz.prog GT zF7 [.sl (some false) b 1 0 2] H (zH (if x≠0 then x else y)) H:=zF mixed zSi (zkO b x y H hb)
theorem ziS (c1 r1 c2 r2:Int) (H:Heap):Go.AM.Good Tryz.prog GT zFT [zCx c1 r1,zCx c2 r2] H (zH (zbs c1 r1 c2 r2)) H:=zF mixed zRC (zfE zkY g_cor c1 r1 c2 r2 H)
theorem ziT (a b:Fil) (H:Heap):Go.AM.Good Tryz.prog GT zIX [zCx a.col a.row,zCx b.col b.row] H (.bool (zE8 a b)) H:=zF mixed zVq (zfF ziS a b H)
theorem zY5 (H:Heap):Go.AM.Good Tryz.prog GT zEh [.nili] H (.int .i64 0) H:=zF mixed zN5 (zV5_ H)
end
section
variable {m:Int} {ev:Value} (hev:∃ te pe,ev=.iface te pe)
abbrev GQ (m:Int) (ev:Value):CSpec:=Go.AM.Good Tryz.prog (gtQ m ev)
include hev in
theorem zkZ (s:Bs) (H:Heap):GQ m ev zCy [.str s] H (eV (zBu s)) H:=zF mixed zUN (zfG (zWB zb0) (zWC zb0 (parG hev)) s H)
include hev in
theorem ziU (lv:AV) (l:List Fil) (H:Heap) (hv:view H 3 lv=some (l.map zl)):GQ m ev zF5 [lv] H (eV (zCA l)) H:=zF mixed zSe (zbu zXa ziT (zkZ hev) lv l H hv)
theorem zfL (lv:AV) (l:List Fil) (H:Heap) (hv:view H 3 lv=some (l.map zl)):GQ m ev zCf [lv] H (zK (zCA l)) H:=ziN refK3 bigG lv l H hv
theorem zY6 (n:Int) (H:Heap):GQ m ev zEh [zJG n] H (.int .i64 n) H:=zF mixed zN5 (zV6_ (fun n old b H hb=>zhj n old b H hb) n H)
theorem zka (n:Nat) (H:Heap):GQ m ev zEn [eV n,zK n] H (.bool true) H:=by
 have h:zjl (eV n) n:=by
  unfold eV;by_cases h0:n=0
  ·rw [zlF h0];exact .inl ⟨rfl,by omega⟩
  ·rw [zlD h0];exact .inr rfl
 have:=zF (GT:=gtQ m ev) mixed zPz (zhk zY5 zY6 (eV n) n n h H) (hn:=by rcases h with ⟨h,_⟩|h <;> rw [h] <;> rfl)
 rwa [show ((n:Int)==(n:Int))=true from beq_self_eq_true _] at this
end
end Go.Proofs.YtkeblfepjkdleaaGreatDoor
namespace Go.AM
def okF (f:Fil):Prop:=(1<=f.col/\f.col<=26)/\(1<=f.row/\f.row<=99)/\f.text.length<=200
theorem zb4 (c r:Int):okC c r=true↔(1<=c/\c<=26)/\(1<=r/\r<=99):=by
 unfold okC;simp only [zlG,zlV];constructor
 ·rintro ⟨⟨⟨h1,h2⟩,h3⟩,h4⟩;exact ⟨⟨h1,h2⟩,h3,h4⟩
 ·rintro ⟨⟨h1,h2⟩,h3,h4⟩;exact ⟨⟨⟨h1,h2⟩,h3⟩,h4⟩
theorem zb5 {s:Bs} (h:zBu s=0):s.length<=200:=by
 unfold zBu at h;by_cases hl:200<s.length
 ·rw [zlF hl] at h;cases h
 ·omega
def zjT (f:Fil):Nat:=if okC f.col f.row=true then zBu f.text else 1
theorem zkb {f:Fil} (h1:okC f.col f.row=true) (h2:zBu f.text=0):okF f:=⟨((zb4 _ _).1 h1).1,((zb4 _ _).1 h1).2,zb5 h2⟩
theorem zfM:∀ (l:List Fil) (prev:Option Fil),zGv prev l=0->∀ f∈l,okF f:=by
 intro l;induction l with
 |nil=>intro _ _ f h;cases h
 |cons g r ih=>
  intro prev h f hf;unfold zGv at h;by_cases h0:zWM prev g=0
  ·rw [zlF h0] at h;rcases zmC.1 hf with rfl|hf
   ·unfold zWM at h0;by_cases h1:okC f.col f.row=false
    ·rw [zlF h1] at h0;cases h0
    ·rw [zlD h1] at h0;have h1:okC f.col f.row=true:=by simpa using h1
     have h2:zBu f.text=0:=by
      by_cases he:f.text=[]
      ·rw [he];rfl
      ·cases prev with
       |none=>
        have h0:(if f.text=[] then 3 else zBu f.text)=0:=h0
        rwa [zlD he] at h0
       |some p=>
        have h0:(if zE8 p f=false then 5 else if f.text=[] then 3 else zBu f.text)=0:=h0;cases hp:zE8 p f with
        |true=>rw [hp,zlD zS_,zlD he] at h0;exact h0
        |false=>rw [hp,zlF rfl] at h0;cases h0
     exact zkb h1 h2
   ·exact ih _ h f hf
  ·rw [zlD h0] at h;exact absurd h h0
theorem zb6 {l:List Fil} (h:zCA l=0):l.length<=200/\∀ f∈l,okF f:=by
 unfold zCA at h;by_cases hl:200<l.length
 ·rw [zlF hl] at h;cases h
 ·rw [zlD hl] at h;exact ⟨by omega,zfM l none h⟩
section
variable {C:CSpec} {GT:zG_}
theorem zY7 (v w:AV) (l:List Fil) (H:Heap) (hv:view H 3 v=some (l.map zl)) (hw:view H 3 w=some (l.map zl)) (hl:l.length<=1000000):EFun C GT zI8 [v,w] H (.bool true) H:=by
 have hlm:(l.map zl).length=l.length:=zlM _;refine zJ ?_;refine zFH hv<|zFH hw<|zi (zle.2 rfl) ?_;refine zBG (fun i:Nat=>[(5,zK i),(1,w),(0,v)]) (fun i H'=>H'=H/\i<=l.length) (fun i=>l.length-i) 0 rfl ⟨rfl,by omega⟩ (fun i H1 ⟨hH,hi⟩=>?_)
 subst hH;dsimp only;by_cases hlt:i<l.length
 ·obtain ⟨c,hc⟩:∃ c,l[i]?=some c:=⟨_,zlI hlt⟩;have hcm:(l.map zl)[i]?=some (zl c):=by rw [zlQ,hc];rfl
  refine zFH hv<|zn tT ?_;refine zQr i (zl c) hv rfl hcm (fun p hp=>?_)
  refine zAt (zl c) hp rfl ?_;refine zQr i (zl c) hw rfl hcm (fun p2 hp2=>?_);refine zAt (zl c) hp2 rfl<|zx rfl<|zi (show zTa true (c.col==c.col&&(c.row==c.row&&(c.text==c.text&&true)))=false from by simp [zTa])<|zS (r:=i+1) rfl tO ?_;refine zAR (i+1) rfl ⟨rfl,by omega⟩ tO
 ·refine zFH hv<|zi tF ?_
  exact sRr
end
section
variable {H:Type} {enc:TypeId×Value->H} {P:Program} {w:World} {held:Bool} {base:Nat} {sp:Nat->Bool}
end
section
variable {H:Type} {enc:TypeId×Value->H} {P:Program} {w:World} {held:Bool}
end
end Go.AM
namespace Go.Proofs
open Go.RowKit Go.AM
section
variable {H:Type} {enc:TypeId×Value->H}
theorem zJZ {a:Assume} {C:Checked} {os:Os} {f:FuncId} {fn:Func} {s:ChangeSpec} {conds:List PathCond} {apart fresh handsOn again:Bool} {X:World->Array Value->Prop}
  (hX:∀ (w w':World) (args:Array Value),w.heap=w'.heap->X w args->X w' args)
  (own:ownKnob C.prog.godebug=none) (started:os.Started) (noInit:C.prog.inits.idxOf? f=none) (hfn:C.prog.funcs[f]?=some fn)
  (witness:∃ (w:World) (tape:Tape) (i:Input),w.os=os/\(w.forCall tape i).Shaped C.prog/\i.vars=[]/\Input.okWide C.prog (w.forCall tape i) .any w.heap.size f i /\
   ((s.pre enc C.prog fn conds apart (w.forCall tape i).memory i.args/\X (w.forCall tape i).memory i.args)/\sizedMet enc C.prog fn (OpenSpec.ofChange s) apart (w.forCall tape i).memory i.args)/\a.holds C.prog (lone (Frame.enter C.prog f i.args .normal) [] (w.forCall tape i)))
  (contract:∀ (W:World) (base:Nat) (args:Array Value) (ds gs:List (DataW H)) (before:List MemPlace),
   (∀ (j:Nat) t v,fn.params[j]?=some t->args[j]?=some v->Value.okWide C.prog W .any base t v) ->
   DataW.Whole enc C.prog fn.params.toList s.vars apart W args.toList ds gs before ->
   conds.all (PathCond.test C.prog ⟨fn.params.toList,ds,s.plain.varTypes C.prog,gs⟩)=true ->
   (DataW.weightsEach C.prog (fn.params.toList++s.plain.varTypes C.prog) (ds++gs)).all (·<=reachBytes)=true->X W args->W.ShapedOpen C.prog ->
   Calls C.prog f args W fun e W'=>∃ v,e=.returned v/\s.post enc C.prog fn apart fresh handsOn again W args v W') :
  ReturnsInHanded a C os f .any (fun w args=>(s.pre enc C.prog fn conds apart w args/\X w args)/\sizedMet enc C.prog fn (OpenSpec.ofChange s) apart w args) (s.post enc C.prog fn apart fresh handsOn again):=by
 refine returnsInHanded_of_calls own started noInit witness ?_;intro w tape i _ hsh _ hok hpre hholds;obtain ⟨_,_,_,fn',hfn',_,_,_,_,hval⟩:=hok;have e:fn'=fn:=zlb (hfn'.symm.trans hfn);subst e;obtain ⟨⟨⟨ds,gs,before,hw,hc⟩,hx⟩,hz⟩:=hpre;have hw':=DataW.Whole.of_heap (w':=w.forCall tape i) (by rfl) hw;refine (contract (w.forCall tape i) w.heap.size i.args ds gs before hval hw' hc (hz.weights hw) (hX _ _ _ (by rfl) hx) hsh).mono fun e W' ⟨v,he,hp⟩=>?_;subst he;exact ChangeSpec.post_blind hp
def zXb (P:Program) (w:World):Bool:=
 let w₀:=(begin P (fun _ _=>0) default).world
 (List.range P.globals.size).all fun g=>
  match (w₀.heap[g]?).bind Obj.row? with
  |none=>true
  |some (zero,t)=>
   match w.heap[g]? with
   |some (.cells cs t' frozen)=>decide (t'=t)&&decide (frozen=(0,0))&&cs.size==zero.size&&(!P.buildable t||Row.okRefB P w t cs)
   |_=>false
theorem zRP {P:Program} {w:World} (hv:zXb P w=true)
  (hr:(w.heap.toList.drop P.globals.size).take ((begin P (fun _ _=>0) default).world.heap.size-P.globals.size) =
   (begin P (fun _ _=>0) default).world.heap.toList.drop P.globals.size):w.Shaped P:=by
 refine ⟨fun g zero t hg hz=>?_,fun k h1 h2=>?_⟩
 case refine_2=>
  have:=zlR (·[k-P.globals.size]?) hr;simp only [zlt,zlu,Array.getElem?_toList] at this;rw [zlF tO,Nat.add_sub_cancel' h1] at this;exact this
 unfold zXb at hv;simp only [zmE,zny] at hv;have:=hv g hg;rw [hz] at this;simp only at this;split at this
 ·rename_i cs t' fr hw;simp only [zlG,zlV,zll,zme,zmN] at this;obtain ⟨⟨⟨rfl,rfl⟩,hs⟩,hb⟩:=this;refine ⟨cs,hw,hs,fun hbuild=>?_⟩;rcases hb with hb|hb
  ·rw [hbuild] at hb;cases hb
  ·exact Row.ok_of_okRefB hb
 ·cases this
theorem zRQ {C:Checked} {os:Os} {f:FuncId} {fn:Func} {s:ChangeSpec} {conds:List PathCond} {apart:Bool} {X:World->Array Value->Prop} (modest:Bool) (w0:World) (args:Array Value) (fuel:Nat) (hos:w0.os=os)
  (hsh:(w0.forCall (fun _ _=>0) ⟨#[],args,[]⟩).Shaped C.prog)
  (hok:Input.okWideB C.prog (w0.forCall (fun _ _=>0) ⟨#[],args,[]⟩) f ⟨#[],args,[]⟩=true)
  (hpre:s.preB enc C.prog fn conds apart (w0.forCall (fun _ _=>0) ⟨#[],args,[]⟩).memory args fuel=true)
  (hsz:s.sizedB enc C.prog fn apart (w0.forCall (fun _ _=>0) ⟨#[],args,[]⟩).memory args fuel=true)
  (hx:X (w0.forCall (fun _ _=>0) ⟨#[],args,[]⟩).memory args) :
  ∃ (w:World) (tape:Tape) (i:Input),w.os=os/\(w.forCall tape i).Shaped C.prog/\i.vars=[]/\Input.okWide C.prog (w.forCall tape i) .any w.heap.size f i /\
   ((s.pre enc C.prog fn conds apart (w.forCall tape i).memory i.args/\X (w.forCall tape i).memory i.args)/\sizedMet enc C.prog fn (OpenSpec.ofChange s) apart (w.forCall tape i).memory i.args)/\({ modest:=modest }:Assume).holds C.prog (lone (Frame.enter C.prog f i.args .normal) [] (w.forCall tape i)):=
 ⟨w0,fun _ _=>0,⟨#[],args,[]⟩,hos,hsh,(Input.okWide_of_okWideB (base:=0) hok).1,(Input.okWide_of_okWideB hok).2,⟨⟨ChangeSpec.pre_of_preB hpre,hx⟩,sizedMet_of_sizedB hsz⟩,by
  simp only [Assume.holds];exact ⟨by simp,by simp,fun _=>Modest.zero,by simp,by simp⟩⟩
end
end Go.Proofs
