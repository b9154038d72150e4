/- Several texts of mine in one (Gq, Be0, Ssh, Am26, Am32). Own work. -/
import Derived.Test.YtafclpcpdmeodaaGreatDoorLdQ3
import Derived.Test.YtafclpcpdmeodaaGreatDoorGRffRfi
import Derived.Test.YtafclpcpdmeodaaGreatDoorGRf5Rf3
import Derived.Test.YtafclpcpdmeodaaGreatDoorGAm30Fp1
import Derived.SizedLaws
import Derived.Handed
import Derived.DataWitness
set_option linter.all false
set_option maxRecDepth 100000
namespace Go.Proofs.YtafclpcpdmeodaaGreatDoor
open Go.AM
theorem parK:ParK Tryz.prog:={ hm:=mixed,contains:=zFZ,mkSet:=zJG,trimR:=zHv,trimL:=zIY,trim:=k_strings_Trim,slPre:=zIV,pre:=zK8,slTrim:=zHw,trimP:=zKV,wrong:=k_value_Wrong,is:=k_value_Is,whole:=k_value_Whole,lit:=zPw,ref:=k_addr_Ref,dollar:=k_addr_Ref_c1,wordly:=zOS,called:=zOQ,plain:=zPx,opOf:=k_formula_opOf,fail:=zJA,blanks:=zHr,word:=zJE,want:=zJC,within:=zHt,text:=zJD,neg:=zJm,negc:=zHu,prim:=zJB,prim1:=zHN,prim2:=zHO,call:=zJF,argument:=zGh,two:=zJl }
theorem parK2:ParK2 Tryz.prog:={ parK with const:=zMC,parse:=zPn,clos:=zMF,dfr:=by kernel_rfl,rcv:=by kernel_rfl }
theorem refK:RefK Tryz.prog:={ hm:=mixed,wordly:=zOL,wrongs:=zOM,bad:=k_sccref1_Bad,named:=zPu,token:=zPl,called:=zON,whole:=zPt,ref:=k_sccref1_Ref,sign:=k_sccref1_Sign,tight:=zPp,fail:=zNB,deeper:=zK9,close:=zMG,one:=zOK,call:=zNC,loose:=zMB }
theorem refK2:RefK2 Tryz.prog:={ refK with parse:=zPh,isIn:=k_sccref1_In,ahead:=zPg,text:=k_sccref2_Text }
theorem refK3:RefK3 Tryz.prog:={ refK2 with check:=zPd }
section
variable {m:Int} {ev:Value}
theorem parG (hev:∃ te pe,ev=.iface te pe):ParG Tryz.prog (gtQ m ev):={ atoi:=atoi_ok,atoi2:=atoi_bad hev,texts:=rfl,loose:=rfl }
end
section
variable {GT:Nat->Option AV}
theorem g_trim (b m:Nat) (ws:List Nat) (H:Heap) (hm:ws.length=m) (hb:H[b]?=some (.row 1 (ws.map zBT))) (hw:Small ws) (hl:m<=1000000):Go.AM.Good Tryz.prog GT zAE [.sl (some false) b 1 0 m] H (.sl (some false) b 1 0 (wds (wval ws)).length) H:=
 zE mixed zLB (trim_ev b m ws H hm hb hw hl)
theorem g_words (x:Nat) (H:Heap) (hx:x<18446744073709551616):Go.AM.Good Tryz.prog GT zCW [u64V x] H (zFL x) H:=zE mixed zKT (words_ev g_trim x hx H)
theorem g_badd (av bv:AV) (x y:Nat) (H:Heap) (ha:Mag av x) (hb:Mag bv y) (h1:(wds x).length<=100000) (h2:(wds y).length<=100000):Go.AM.Good Tryz.prog GT zDU [av,bv] H (zFL (x+y)) H:=
 zE mixed zMK (add_ev g_trim av bv x y H ha hb h1 h2)
theorem g_bsub (av bv:AV) (x y:Nat) (H:Heap) (ha:Mag av x) (hb:Mag bv y) (h:y<=x) (h1:(wds x).length<=100000):Go.AM.Good Tryz.prog GT zCG [av,bv] H (zFL (x-y)) H:=
 zE mixed zMM (sub_ev g_trim av bv x y _ H ha hb h rfl h1)
theorem g_bcmp (av bv:AV) (x y:Nat) (H:Heap) (ha:Mag av x) (hb:Mag bv y) (h1:(wds x).length<=100000) (h2:(wds y).length<=100000):Go.AM.Good Tryz.prog GT zDV [av,bv] H (zJ (cmpN x y)) H:=
 zE mixed zML (bcmp_ev av bv x y H ha hb h1 h2)
theorem g_bsum (av bv:AV) (xn yn:Bool) (x y:Nat) (H:Heap) (ha:Mag av x) (hb:Mag bv y) (h1:(wds x).length<=100000) (h2:(wds y).length<=100000) :
  Go.AM.Good Tryz.prog GT zDT [.bool xn,av,.bool yn,bv] H (.tup [.bool (sumS xn x yn y).1,zFL (sumS xn x yn y).2]) H:=zE mixed zMJ (bsum_ev g_badd g_bsub g_bcmp av bv xn yn x y H ha hb h1 h2)
theorem g_bit (av:AV) (m i:Nat) (H:Heap) (ha:Mag av m) (hl:(wds m).length<=100000) (hi:i<=1000000):Go.AM.Good Tryz.prog GT zDW [av,zJ i] H (u64V (m/2^i%2)) H:=zE mixed zMN (bit_ev av m i H ha hl hi)
theorem g_tzb (b m n:Nat) (x av:AV) (H:Heap) (hb:H[b]?=some (.box [x,av])) (ha:Mag av m) (h0:m≠0) (hl:(wds m).length<=100) (hn:n<=10000) (h1:m%2^n=0) (h2:m/2^n%2=1) :
  Go.AM.Good Tryz.prog GT zAO [.ref b 0 0 0] H (u64V n) H:=zE mixed zD9 (tzb_ev g_bit b m n x av H hb ha h0 hl hn h1 h2)
theorem g_blen (av:AV) (m:Nat) (H:Heap) (ha:Mag av m) (hl:(wds m).length<=1000):Go.AM.Good Tryz.prog GT zCH [av] H (zK (Go.AM.bits m)) H:=zE mixed zJo (length_ev av m H ha hl)
theorem g_uint64 (b m:Nat) (x av:AV) (H:Heap) (hb:H[b]?=some (.box [x,av])) (ha:Mag av m) (hm:m<18446744073709551616):Go.AM.Good Tryz.prog GT zBM [.ref b 0 0 0] H (u64V m) H:=
 zE mixed zGg (uint64_ev b m x av H hb ha hm)
theorem g_int64 (b:Nat) (v:Int) (H:Heap) (hb:H[b]?=some (.box (zF5 v))) (hv:zEC v):Go.AM.Good Tryz.prog GT zAr [.ref b 0 0 0] H (zJ v) H:=zE mixed zHM (int64_ev g_uint64 b v H hb hv)
theorem g_isInt64 (b:Nat) (v:Int) (H:Heap) (hb:H[b]?=some (.box (zF5 v))) (hv:(wds v.natAbs).length<=100):Go.AM.Good Tryz.prog GT zBG [.ref b 0 0 0] H (.bool (decide (zEC v))) H:=
 zE mixed zGO (isInt64_ev g_blen g_tzb b v H hb hv)
theorem g_give (b n:Nat) (neg:Bool) (x0 x1:AV) (H:Heap) (hb:H[b]?=some (.box [x0,x1])):Go.AM.Good Tryz.prog GT zz [.ref b 0 0 0,.bool neg,zFL n] H (.ref b 0 0 0) (H.set b (.box [.bool (neg&&decide (0<n)),zFL n])):=
 zE mixed zEd (give_ev b n neg x0 x1 H hb)
theorem g_setInt64 (b:Nat) (v:Int) (x0 x1:AV) (H:Heap) (hb:H[b]?=some (.box [x0,x1])) (hv:zEC v):Go.AM.Good Tryz.prog GT zA9 [.ref b 0 0 0,zJ v] H (.ref b 0 0 0) (H.set b (.box (zF5 v))):=
 zE mixed zFy (setInt64_ev g_words g_give b v x0 x1 H hb hv)
theorem k_bigNew:zt Tryz.prog zAQ a_bigNew=true:=by kernel_rfl
theorem g_newInt (v:Int) (H:Heap) (hv:zEC v):Go.AM.Good Tryz.prog GT zAQ [zJ v] H (.ref H.length 0 0 0) (H++[.box (zF5 v)]):=zE mixed k_bigNew (newInt_ev g_setInt64 v H hv)
theorem g_fits (b:Nat) (v:Int) (H:Heap) (hb:H[b]?=some (.box (zF5 v))) (hv:(wds v.natAbs).length<=100):Go.AM.Good Tryz.prog GT zD6 [.ref b 0 0 0] H (.bool (decide (zEC v))) H:=zE mixed k_sccref1_Fits (fits_ev g_isInt64 b v H hb hv)
theorem g_give0 (b:Nat) (xs:List AV) (nv x0 x1:AV) (H:Heap) (hb:H[b]?=some (.box [x0,x1])) (hv:zDa nv 1 xs):Go.AM.Good Tryz.prog GT zz [.ref b 0 0 0,.bool false,nv] H (.ref b 0 0 0) (H.set b (.box [.bool false,nv])):=
 zE mixed zEd (give0_ev b xs nv x0 x1 H hb hv) (hn:=by obtain ⟨q,k',rfl,_⟩:=hv;rfl)
theorem g_mul10 (av:AV) (x:Nat) (H:Heap) (ha:Mag av x) (hl:(wds x).length<=100000):Go.AM.Good Tryz.prog GT zDS [av,zFL 10] H (mulV x) H:=zE mixed zMI (mul10_ev g_trim av x _ H ha rfl hl)
theorem g_bigMul (b t v:Nat) (av:AV) (H:Heap) (hb:H[b]?=some (.box [.bool false,av])) (ht:H[t]?=some (.box (zF5 10))) (ha:Mag av v) (hl:(wds v).length<=1000):Go.AM.Good Tryz.prog GT zBE [.ref b 0 0 0,.ref b 0 0 0,.ref t 0 0 0] H (.ref b 0 0 0) (H.set b (.box [.bool false,mulV v])):=
 zE mixed zIW (bigMul_ev g_mul10 g_give0 b t v av H hb ht ha hl)
theorem g_bigAddM (b t v d:Nat) (av:AV) (H:Heap) (hb:H[b]?=some (.box [.bool false,av])) (ht:H[t]?=some (.box (zF5 d))) (ha:Mag av v) (hl:(wds v).length<=1000) (hd:(wds d).length<=1000):Go.AM.Good Tryz.prog GT zBF [.ref b 0 0 0,.ref b 0 0 0,.ref t 0 0 0] H (.ref b 0 0 0) (H.set b (.box (zF5 ((v+d:Nat):Int)))):=
 zE mixed zIX (bigAddM_ev g_bsum g_give b t v d av H hb ht ha hl hd)
theorem bigG:BigG Tryz.prog GT:={ new:=fun v H h=>g_newInt v H h,mul:=fun b t v av H h1 h2 h3 h4=>g_bigMul b t v av H h1 h2 h3 h4,add:=fun b t v d av H h1 h2 h3 h4 h5=>g_bigAddM b t v d av H h1 h2 h3 h4 h5,fit:=fun b v H h1 h2=>g_fits b v H h1 h2,i64:=fun b v H h1 h2=>g_int64 b v H h1 h2 }
theorem g_aok (c r:Int) (H:Heap):Go.AM.Good Tryz.prog GT zGA [zCs c r] H (.bool (okC c r)) H:=zE mixed k_addr_ok (aok_ev c r H)
theorem g_acheck (c r:Int) (H:Heap):Go.AM.Good Tryz.prog GT zAp [zCs c r] H (if okC c r=true then .nili else zIb 1) H:=zE mixed k_addr_Check (acheck_ev g_aok c r H)
theorem g_nan (a:Int) (H:Heap):Go.AM.Good Tryz.prog GT zDI [zJ a] H (.bool false) H:=zE mixed zOP (nan_ev a H)
theorem g_ccmp (a b:Int) (H:Heap):Go.AM.Good Tryz.prog GT zCE [zJ a,zJ b] H (zJ (cmp3 a b)) H:=zE mixed zME (ccmp_ev g_nan a b H)
theorem g_cor (b:Nat) (x y:Int) (H:Heap) (hb:H[b]?=some (.row 1 [zJ x,zJ y])):Go.AM.Good Tryz.prog GT zFw [.sl (some false) b 1 0 2] H (zJ (if x≠0 then x else y)) H:=zE mixed k_cmp_Or_int_ (cor_ev b x y H hb)
theorem g_acomp (c1 r1 c2 r2:Int) (H:Heap):Go.AM.Good Tryz.prog GT zFJ [zCs c1 r1,zCs c2 r2] H (zJ (cmpC c1 r1 c2 r2)) H:=zE mixed k_addr_Compare (acomp_ev g_ccmp g_cor c1 r1 c2 r2 H)
theorem g_aless (a b:Fil) (H:Heap):Go.AM.Good Tryz.prog GT zIF [zCs a.col a.row,zCs b.col b.row] H (.bool (zE2 a b)) H:=zE mixed k_addr_Less (aless_ev g_acomp a b H)
theorem g_told_nil (H:Heap):Go.AM.Good Tryz.prog GT zEa [.nili] H (.int .i64 0) H:=zE mixed zNg (told_nil_ev H)
end
section
variable {m:Int} {ev:Value} (hev:∃ te pe,ev=.iface te pe)
abbrev GQ (m:Int) (ev:Value):CSpec:=Go.AM.Good Tryz.prog (gtQ m ev)
include hev in
theorem g_text (s:Bs) (H:Heap):GQ m ev zCt [.str s] H (eV (zBq s)) H:=zE mixed k_graph_Text (gtext_ev (p_const parK2) (p_parse parK2 (parG hev)) s H)
include hev in
theorem g_check (lv:AV) (l:List Fil) (H:Heap) (hv:view H 3 lv=some (l.map zl)):GQ m ev zFu [lv] H (eV (zB6 l)) H:=zE mixed k_graph_Check (gcheck_ev g_acheck g_aless (g_text hev) lv l H hv)
theorem g_rcheck (lv:AV) (l:List Fil) (H:Heap) (hv:view H 3 lv=some (l.map zl)):GQ m ev zCa [lv] H (zK (zB6 l)) H:=q_check refK3 bigG lv l H hv
theorem g_told_err (n:Int) (H:Heap):GQ m ev zEa [zIb n] H (.int .i64 n) H:=zE mixed zNg (told_err_ev (fun n old b H hb=>as_good n old b H hb) n H)
theorem g_errN (n:Nat) (H:Heap):GQ m ev zEh [eV n,zK n] H (.bool true) H:=by
 have h:ErrIs (eV n) n:=by
  unfold eV;by_cases h0:n=0
  ·rw [zQQ h0];exact .inl ⟨rfl,by omega⟩
  ·rw [zQN h0];exact .inr rfl
 have:=zE (GT:=gtQ m ev) mixed zPf (same_ev g_told_nil g_told_err (eV n) n n h H) (hn:=by rcases h with ⟨h,_⟩|h <;> rw [h] <;> rfl)
 rwa [show ((n:Int)==(n:Int))=true from beq_self_eq_true _] at this
end
end Go.Proofs.YtafclpcpdmeodaaGreatDoor
set_option maxRecDepth 20000
namespace Go.AM
def okF (f:Fil):Prop:=(1<=f.col/\f.col<=26)/\(1<=f.row/\f.row<=99)/\f.text.length<=200
theorem okC_iff (c r:Int):okC c r=true↔(1<=c/\c<=26)/\(1<=r/\r<=99):=by
 unfold okC;simp only [zQP,zQf];constructor
 ·rintro ⟨⟨⟨h1,h2⟩,h3⟩,h4⟩;exact ⟨⟨h1,h2⟩,h3,h4⟩
 ·rintro ⟨⟨h1,h2⟩,h3,h4⟩;exact ⟨⟨⟨h1,h2⟩,h3⟩,h4⟩
theorem textN_len {s:Bs} (h:zBq s=0):s.length<=200:=by
 unfold zBq at h;by_cases hl:200<s.length
 ·rw [zQQ hl] at h;cases h
 ·omega
def mayN (f:Fil):Nat:=if okC f.col f.row=true then zBq f.text else 1
theorem okF_of {f:Fil} (h1:okC f.col f.row=true) (h2:zBq f.text=0):okF f:=⟨((okC_iff _ _).1 h1).1,((okC_iff _ _).1 h1).2,textN_len h2⟩
theorem filsN_ok:∀ (l:List Fil) (prev:Option Fil),zGi prev l=0->∀ f∈l,okF f:=by
 intro l;induction l with
 |nil=>intro _ _ f h;cases h
 |cons g r ih=>
  intro prev h f hf;unfold zGi at h;by_cases h0:filN prev g=0
  ·rw [zQQ h0] at h;rcases zRQ.1 hf with rfl|hf
   ·unfold filN at h0;by_cases h1:okC f.col f.row=false
    ·rw [zQQ h1] at h0;cases h0
    ·rw [zQN h1] at h0;have h1:okC f.col f.row=true:=by simpa using h1
     have h2:zBq f.text=0:=by
      by_cases he:f.text=[]
      ·rw [he];rfl
      ·cases prev with
       |none=>
        have h0:(if f.text=[] then 3 else zBq f.text)=0:=h0
        rwa [zQN he] at h0
       |some p=>
        have h0:(if zE2 p f=false then 5 else if f.text=[] then 3 else zBq f.text)=0:=h0;cases hp:zE2 p f with
        |true=>rw [hp,zQN (by simp),zQN he] at h0;exact h0
        |false=>rw [hp,zQQ rfl] at h0;cases h0
     exact okF_of h1 h2
   ·exact ih _ h f hf
  ·rw [zQN h0] at h;exact absurd h h0
theorem checkN_ok {l:List Fil} (h:zB6 l=0):l.length<=200/\∀ f∈l,okF f:=by
 unfold zB6 at h;by_cases hl:200<l.length
 ·rw [zQQ hl] at h;cases h
 ·rw [zQN hl] at h;exact ⟨by omega,filsN_ok l none h⟩
end Go.AM
set_option maxRecDepth 20000
namespace Go.AM
section
variable {C:CSpec} {GT:Nat->Option AV}
theorem ssheets_ev (v w:AV) (l:List Fil) (H:Heap) (hv:view H 3 v=some (l.map zl)) (hw:view H 3 w=some (l.map zl)) (hl:l.length<=1000000):EFun C GT zIs [v,w] H (.bool true) H:=by
 have hlm:(l.map zl).length=l.length:=zQW _;refine zI ?_;refine zFB hv<|zFB hw<|zk (zQo.2 rfl) ?_;refine zBB (fun i:Nat=>[(5,zK i),(1,w),(0,v)]) (fun i H'=>H'=H/\i<=l.length) (fun i=>l.length-i) 0 rfl ⟨rfl,by omega⟩ (fun i H1 ⟨hH,hi⟩=>?_)
 subst hH;dsimp only;by_cases hlt:i<l.length
 ·obtain ⟨c,hc⟩:∃ c,l[i]?=some c:=⟨_,zQS hlt⟩;have hcm:(l.map zl)[i]?=some (zl c):=by rw [zQa,hc];rfl
  refine zFB hv<|zp tT ?_;refine sIdxV i (zl c) hv rfl hcm (fun p hp=>?_)
  refine zAn (zl c) hp rfl ?_;refine sIdxV i (zl c) hw rfl hcm (fun p2 hp2=>?_);refine zAn (zl c) hp2 rfl<|zy rfl<|zk (show negB true (c.col==c.col&&(c.row==c.row&&(c.text==c.text&&true)))=false from by simp [negB])<|zS (r:=i+1) rfl tO ?_;refine zAP (i+1) rfl ⟨rfl,by omega⟩ tO
 ·refine zFB hv<|zk tF ?_
  exact sRr
end
end Go.AM
namespace Go.AM
section
variable {H:Type} {enc:TypeId×Value->H} {P:Program} {w:World} {held:Bool} {base:Nat} {sp:Nat->Bool}
end
end Go.AM
namespace Go.AM
section
variable {H:Type} {enc:TypeId×Value->H} {P:Program} {w:World} {held:Bool}
end
end Go.AM
namespace Go.Proofs
open Go.RowKit Go.AM
section
variable {H:Type} {enc:TypeId×Value->H}
theorem zJI {a:Assume} {C:Checked} {os:Os} {f:FuncId} {fn:Func} {s:ChangeSpec} {conds:List PathCond} {apart fresh handsOn again:Bool} {X:World->Array Value->Prop}
  (hX:∀ (w w':World) (args:Array Value),w.heap=w'.heap->X w args->X w' args)
  (own:ownKnob C.prog.godebug=none) (started:os.Started) (noInit:C.prog.inits.idxOf? f=none) (hfn:C.prog.funcs[f]?=some fn)
  (witness:∃ (w:World) (tape:Tape) (i:Input),w.os=os/\(w.forCall tape i).Shaped C.prog/\i.vars=[]/\Input.okWide C.prog (w.forCall tape i) .any w.heap.size f i /\
   ((s.pre enc C.prog fn conds apart (w.forCall tape i).memory i.args/\X (w.forCall tape i).memory i.args)/\sizedMet enc C.prog fn (OpenSpec.ofChange s) apart (w.forCall tape i).memory i.args)/\a.holds C.prog (lone (Frame.enter C.prog f i.args .normal) [] (w.forCall tape i)))
  (contract:∀ (W:World) (base:Nat) (args:Array Value) (ds gs:List (DataW H)) (before:List MemPlace),
   (∀ (j:Nat) t v,fn.params[j]?=some t->args[j]?=some v->Value.okWide C.prog W .any base t v) ->
   DataW.Whole enc C.prog fn.params.toList s.vars apart W args.toList ds gs before ->
   conds.all (PathCond.test C.prog ⟨fn.params.toList,ds,s.plain.varTypes C.prog,gs⟩)=true ->
   (DataW.weightsEach C.prog (fn.params.toList++s.plain.varTypes C.prog) (ds++gs)).all (·<=reachBytes)=true->X W args->W.ShapedOpen C.prog ->
   Calls C.prog f args W fun e W'=>∃ v,e=.returned v/\s.post enc C.prog fn apart fresh handsOn again W args v W') :
  ReturnsInHanded a C os f .any (fun w args=>(s.pre enc C.prog fn conds apart w args/\X w args)/\sizedMet enc C.prog fn (OpenSpec.ofChange s) apart w args) (s.post enc C.prog fn apart fresh handsOn again):=by
 refine returnsInHanded_of_calls own started noInit witness ?_;intro w tape i _ hsh _ hok hpre hholds;obtain ⟨_,_,_,fn',hfn',_,_,_,_,hval⟩:=hok;have e:fn'=fn:=zQl (hfn'.symm.trans hfn);subst e;obtain ⟨⟨⟨ds,gs,before,hw,hc⟩,hx⟩,hz⟩:=hpre;have hw':=DataW.Whole.of_heap (w':=w.forCall tape i) (by rfl) hw;refine (contract (w.forCall tape i) w.heap.size i.args ds gs before hval hw' hc (hz.weights hw) (hX _ _ _ (by rfl) hx) hsh).mono fun e W' ⟨v,he,hp⟩=>?_;subst he;exact ChangeSpec.post_blind hp
def varsRefB (P:Program) (w:World):Bool:=
 let w₀:=(begin P (fun _ _=>0) default).world
 (List.range P.globals.size).all fun g=>
  match (w₀.heap[g]?).bind Obj.row? with
  |none=>true
  |some (zero,t)=>
   match w.heap[g]? with
   |some (.cells cs t' frozen)=>decide (t'=t)&&decide (frozen=(0,0))&&cs.size==zero.size&&(!P.buildable t||Row.okRefB P w t cs)
   |_=>false
theorem shaped_of_refB {P:Program} {w:World} (hv:varsRefB P w=true)
  (hr:(w.heap.toList.drop P.globals.size).take ((begin P (fun _ _=>0) default).world.heap.size-P.globals.size) =
   (begin P (fun _ _=>0) default).world.heap.toList.drop P.globals.size):w.Shaped P:=by
 refine ⟨fun g zero t hg hz=>?_,fun k h1 h2=>?_⟩
 case refine_2=>
  have:=zQb (·[k-P.globals.size]?) hr;simp only [zQ3,zQ4,Array.getElem?_toList] at this;rw [zQQ tO,Nat.add_sub_cancel' h1] at this;exact this
 unfold varsRefB at hv;simp only [zRN,zS7] at hv;have:=hv g hg;rw [hz] at this;simp only at this;split at this
 ·rename_i cs t' fr hw;simp only [zQP,zQf,zQv,zRn,zRW] at this;obtain ⟨⟨⟨rfl,rfl⟩,hs⟩,hb⟩:=this;refine ⟨cs,hw,hs,fun hbuild=>?_⟩;rcases hb with hb|hb
  ·rw [hbuild] at hb;cases hb
  ·exact Row.ok_of_okRefB hb
 ·cases this
theorem witness_shaped {C:Checked} {os:Os} {f:FuncId} {fn:Func} {s:ChangeSpec} {conds:List PathCond} {apart:Bool} {X:World->Array Value->Prop} (modest:Bool) (w0:World) (args:Array Value) (fuel:Nat) (hos:w0.os=os)
  (hsh:(w0.forCall (fun _ _=>0) ⟨#[],args,[]⟩).Shaped C.prog)
  (hok:Input.okWideB C.prog (w0.forCall (fun _ _=>0) ⟨#[],args,[]⟩) f ⟨#[],args,[]⟩=true)
  (hpre:s.preB enc C.prog fn conds apart (w0.forCall (fun _ _=>0) ⟨#[],args,[]⟩).memory args fuel=true)
  (hsz:s.sizedB enc C.prog fn apart (w0.forCall (fun _ _=>0) ⟨#[],args,[]⟩).memory args fuel=true)
  (hx:X (w0.forCall (fun _ _=>0) ⟨#[],args,[]⟩).memory args) :
  ∃ (w:World) (tape:Tape) (i:Input),w.os=os/\(w.forCall tape i).Shaped C.prog/\i.vars=[]/\Input.okWide C.prog (w.forCall tape i) .any w.heap.size f i /\
   ((s.pre enc C.prog fn conds apart (w.forCall tape i).memory i.args/\X (w.forCall tape i).memory i.args)/\sizedMet enc C.prog fn (OpenSpec.ofChange s) apart (w.forCall tape i).memory i.args)/\({ modest:=modest }:Assume).holds C.prog (lone (Frame.enter C.prog f i.args .normal) [] (w.forCall tape i)):=
 ⟨w0,fun _ _=>0,⟨#[],args,[]⟩,hos,hsh,(Input.okWide_of_okWideB (base:=0) hok).1,(Input.okWide_of_okWideB hok).2,⟨⟨ChangeSpec.pre_of_preB hpre,hx⟩,sizedMet_of_sizedB hsz⟩,by
  simp only [Assume.holds];exact ⟨by simp,by simp,fun _=>Modest.zero,by simp,by simp⟩⟩
end
end Go.Proofs
