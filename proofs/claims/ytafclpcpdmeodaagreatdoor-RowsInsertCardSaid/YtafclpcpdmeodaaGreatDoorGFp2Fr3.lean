/- Several texts of mine in one (Fp2, Lea, Fr1, Fr2, Fr3). Own work. -/
import Derived.Test.YtafclpcpdmeodaaGreatDoorGAm30Fp1
import Derived.Test.YtafclpcpdmeodaaGreatDoorGFq0Bg0
set_option linter.all false
set_option maxRecDepth 20000
namespace Go.AM
def zDy (s:Bs):Bool×Bs:=
  match s with
  |[]=>(false,[])
  |c::r=>if c=45 then (true,r) else (false,c::r)
def zEX (s:Bs):Prop:=(zDy s).2≠[]/\¬ ((zDy s).2.head?=some 48/\s≠[48])/\(zDy s).2.all zG2=true
instance (s:Bs):Decidable (zEX s):=by unfold zEX;exact inferInstance
def zOU (s:Bs):Int:=if (zDy s).1=true then -(zDk (zDy s).2:Int) else zDk (zDy s).2
def wholeS (s:Bs):Option Int:=if zEX s then (if zEC (zOU s) then some (zOU s) else none) else none
theorem zNH {t:Bs} (h:t.head?≠some 45):zDy t=(false,t):=by
  cases t with
  |nil=>rfl
  | cons c r=>
    unfold zDy;simp only;rw [zQN (fun e=>h (by rw [e];rfl))]
theorem zP1 {t:Bs} (h1:t≠[]) (h2:¬ (t.head?=some 48/\t≠[48])) (h3:t.all zG2=true):zCL t=if zDk t<=9223372036854775807 then some (zDk t:Int) else none:=by
  unfold zCL;rw [zQN (fun x=>x.elim h1 h2),zQQ h3]
theorem wholeP_no {t:Bs} (h:¬ (t≠[]/\¬ (t.head?=some 48/\t≠[48])/\t.all zG2=true)):zCL t=none:=by
  unfold zCL;split
  · rfl
  · rename_i h1
    rw [zQN (fun h3=>h ⟨fun e=>h1 (.inl e),fun e=>h1 (.inr e),h3⟩)]
theorem wholeS_of {t:Bs} (h:t.head?≠some 45):wholeS t=zCL t:=by
  have hd:zEX t↔(t≠[]/\¬ (t.head?=some 48/\t≠[48])/\t.all zG2=true):=by unfold zEX;rw [zNH h]
  have hv:zOU t=zDk t:=by unfold zOU;rw [zNH h];rfl
  unfold wholeS;rw [hv];by_cases hf:zEX t
  · obtain ⟨h1,h2,h3⟩:=hd.1 hf
    rw [zQQ hf,zP1 h1 h2 h3];by_cases h4:zDk t<=9223372036854775807
    · rw [zQQ h4,zQQ (show zEC (zDk t:Int) by unfold zEC;omega)]
    · rw [zQN h4,zQN (show ¬ zEC (zDk t:Int) by unfold zEC;omega)]
  · rw [zQN hf,wholeP_no (fun x=>hf (hd.2 x))]
theorem decF (l:Bs):∀ n:Nat,l.foldl (fun n c=>n*10+(c.toNat-48)) n=n*10^l.length+zDk l:=by
  unfold zDk;induction l with
  |nil=>intro n;simp
  | cons c r ih=>
    intro n;simp only [zSo,zQO];rw [ih,ih (0*10+(c.toNat-48)),zRS,zRK,zSZ,zQ7];have:n*10*10^r.length=n*(10^r.length*10):=by rw [zR9,zRj 10]
    omega
theorem decV_cons (c:UInt8) (r:Bs):zDk (c::r)=(c.toNat-48)*10^r.length+zDk r:=by
  show (c::r).foldl _ 0=_;rw [zSo,decF];simp
theorem decV_snoc (l:Bs) (c:UInt8):zDk (l++[c])=zDk l*10+(c.toNat-48):=by unfold zDk;rw [zTD];rfl
theorem zOf (c:UInt8):zG2 c=true↔48<=c.toNat/\c.toNat<=57:=by unfold zG2;rw [zQP,zRp,zRp]
theorem capB_iff (c:UInt8):capB c=true↔65<=c.toNat/\c.toNat<=90:=by unfold capB;rw [zQP,zRp,zRp]
theorem zP2:∀ l:Bs,l.all zG2=true->zDk l<10^l.length
  |[],_=>by simp [zDk]
  | c::r,h=>by
    rw [zR0,zQP] at h;have h1:=(zOf c).1 h.1;have h2:=zP2 r h.2;rw [decV_cons,zQO,zRS];have:(c.toNat-48)*10^r.length<=9*10^r.length:=zRB _ tO;omega
theorem decV_ge {c:UInt8} {r:Bs} (h:49<=c.toNat):10^r.length<=zDk (c::r):=by
  rw [decV_cons];have:1*10^r.length<=(c.toNat-48)*10^r.length:=zRB _ tO;omega
def zNI (t:Bs):Prop:=t≠[]/\t.length<=2/\t.head?≠some 48/\t.all zG2=true
instance (t:Bs):Decidable (zNI t):=by unfold zNI;exact inferInstance
theorem rowP_is (fc:Bool) (col:Int) (p:Bool×Bs):rowP fc col p=if zNI p.2 then some ⟨col,zDk p.2,fc,p.1⟩ else none:=by
  obtain ⟨d,t⟩:=p;unfold rowP;simp only;by_cases hf:zNI t
  · obtain ⟨h1,h2,h3,h4⟩:=hf
    rw [zQQ ⟨h1,h2,h3,h4⟩,zP1 h1 (fun x=>h3 x.1) h4];obtain ⟨c,r,rfl⟩:∃ c r,t=c::r:=zRM h1;have hlt:=zP2 _ h4;have hc:=(zOf c).1 (by rw [zR0,zQP] at h4;exact h4.1);have h49:49<=c.toNat:=by
      have:c.toNat≠48:=fun e=>h3 (by rw [show c=48 from zQm.1 e];rfl);omega
    have hge:=decV_ge (r:=r) h49;have hp:10^(c::r).length<=10^2:=zRd tO h2;have hq:0<10^r.length:=Nat.pow_pos tO;have e2:(10:Nat)^2=100:=rfl;rw [zQQ tO];simp only;rw [zQQ ⟨by omega,by omega⟩]
  · rw [zQN hf]
    by_cases hw:t≠[]/\¬ (t.head?=some 48/\t≠[48])/\t.all zG2=true
    · obtain ⟨h1,h2,h4⟩:=hw
      rw [zP1 h1 h2 h4];by_cases h0:t.head?=some 48
      · have:t=[48]:=Decidable.byContradiction fun e=>h2 ⟨h0,e⟩
        subst this;rfl
      · obtain ⟨c,r,rfl⟩:∃ c r,t=c::r:=zRM h1
        have hc:=(zOf c).1 (by rw [zR0,zQP] at h4;exact h4.1);have h49:49<=c.toNat:=by
          have:c.toNat≠48:=fun e=>h0 (by rw [show c=48 from zQm.1 e];rfl);omega
        have hge:=decV_ge (r:=r) h49;have hl:2<=r.length:=by
          rcases zRz r.length 2 with h|h
          · exact absurd ⟨h1,by simp only [zQO];omega,h0,h4⟩ hf
          · exact h
        have hp:10^2<=10^r.length:=zRd tO hl;have e2:(10:Nat)^2=100:=rfl;split
        · rename_i n hn
          split at hn
          · cases hn
            rw [zQN tO]
          · cases hn
        · rfl
    · rw [wholeP_no hw]
def litP (s:Bs):Option (Int×Int):=
  if s=zFz then some (3,1) else if s=zDY then some (3,0) else
  if s=[35,68,73,86,33] then some (4,1) else if s=[35,86,65,76,85,69,33] then some (4,2) else if s=[35,82,69,70,33] then some (4,3) else
  if s=[35,78,65,77,69,33] then some (4,4) else if s=[35,78,85,77,33] then some (4,5) else if s=[35,78,79,78,69,33] then some (4,6) else none
end Go.AM
set_option maxRecDepth 20000
namespace Go.AM
def v3 (k n:Int):AV:=.agg [.int .i64 k,.int .i64 n,.str []]
def zP3:AV:=.agg [.str [],.str [35,68,73,86,33],.str [35,86,65,76,85,69,33],.str [35,82,69,70,33],.str [35,78,65,77,69,33],.str [35,78,85,77,33],.str [35,78,79,78,69,33]]
def litV (r:Option (Int×Int)):AV:=match r with
  |some (k,n)=>.tup [v3 k n,.bool true]
  |none=>.tup [v3 0 0,.bool false]
def wholeV (r:Option Int) (n0:Int):AV:=match r with
  |some n=>.tup [zJ n,.bool true]
  |none=>.tup [zJ n0,.bool false]
def rV (r:RefP):AV:=.agg [.int .i64 r.col,.int .i64 r.row,.bool r.fc,.bool r.fr]
def refV (r:Option RefP):AV:=match r with
  |some r=>.tup [rV r,.nili]
  |none=>.tup [rV noRef,zIb 2]
def zMS (r:Option Nd):AV:=match r with
  |some n=>.tup [ndV n,.bool true]
  |none=>.tup [ndV zZ,.bool false]
section
variable {C:CSpec} {GT:Nat->Option AV}
theorem zOV (hP:∀ s p H,C zAU [.str s,.str p] H (.bool (p.isPrefixOf s)) H) (s p:Bs) (H:Heap):EFun C GT zCq [.str s,.str p] H (.str (if p.isPrefixOf s=true then s.drop p.length else s)) H:=by
  have hp:=hP s p H;clear hP;refine zI ?_;by_cases h:p.isPrefixOf s=true
  · rw [h] at hp
    rw [zQQ h];have hl:p.length<=s.length:=by rw [zF0,zQP,zRp] at h;exact h.1
    refine sW ?_;refine zy (v:=.str (s.drop p.length)) (zIf s p.length hl) ?_;exact sRv
  · rw [zRI.2 h] at hp
    rw [zQN h];refine sW ?_;exact sRv
theorem trimPrefix_ev (hP:∀ s p H,C zA8 [.str s,.str p] H (.str (if p.isPrefixOf s=true then s.drop p.length else s)) H) (s p:Bs) (H:Heap):EFun C GT zD0 [.str s,.str p] H (.str (if p.isPrefixOf s=true then s.drop p.length else s)) H:=by
  have hp:=hP s p H;clear hP;refine zI<|sW ?_
  exact sRv
theorem wrong_ev (n:Int) (H:Heap):EFun C GT zIO [zJ n] H (v3 4 n) H:=by
  refine zI ?_;refine sW ?_;refine sSA (AV.agg [.int .i64 4,zJ n,AV.str []]) ?_;exact zAV (o:=0) rfl rfl (zH hP) rfl rfl rfl hO
theorem is_ev (b:Bool) (H:Heap):EFun C GT zM7 [.bool b] H (v3 3 (if b=true then 1 else 0)) H:=by
  refine zI ?_;cases b
  · refine sW ?_
    refine sSA (AV.agg zV5) ?_;refine sW ?_;refine sSA (AV.agg zV5) ?_;exact zAV (o:=0) rfl rfl (zH hP) rfl rfl rfl hO
  · refine sW ?_
    refine sSA (AV.agg zV5) ?_;refine sW ?_;refine sS (.int .i64 1) zV7 ?_;refine sW ?_;refine sSA (AV.agg zV7) ?_;exact zAV (o:=0) rfl rfl (zH hP) rfl rfl rfl hO
theorem digs_all (s:Bs):(trimS s [48,49,50,51,52,53,54,55,56,57]=[])↔s.all zG2=true:=by
  rw [trim_nil];have:(fun c:UInt8=>zJt [48,49,50,51,52,53,54,55,56,57] c.toNat)=zG2:=by
    funext c
    unfold zJt zG2;rw [zSp];simp only [List.any_cons,List.any_nil,Bool.or_false,zRn,zQP,zQf,zQv];have e:∀ n:Nat,n<256->(UInt8.ofNat n).toNat=n:=fun n h=>by simp;omega
    have e48:(48:UInt8).toNat=48:=rfl;have e49:(49:UInt8).toNat=49:=rfl;have e50:(50:UInt8).toNat=50:=rfl;have e51:(51:UInt8).toNat=51:=rfl;have e52:(52:UInt8).toNat=52:=rfl;have e53:(53:UInt8).toNat=53:=rfl;have e54:(54:UInt8).toNat=54:=rfl;have e55:(55:UInt8).toNat=55:=rfl;have e56:(56:UInt8).toNat=56:=rfl;have e57:(57:UInt8).toNat=57:=rfl;rw [e48,e49,e50,e51,e52,e53,e54,e55,e56,e57];omega
  rw [this]
def capsL:Bs:=[65,66,67,68,69,70,71,72,73,74,75,76,77,78,79,80,81,82,83,84,85,86,87,88,89,90]
theorem caps_tab:∀ n:Fin 256,zJt capsL n.val=(decide (65<=n.val)&&decide (n.val<=90)):=by decide +kernel
theorem caps_all (s:Bs):(trimS s capsL=[])↔s.all capB=true:=by
  rw [trim_nil];have:(fun c:UInt8=>zJt capsL c.toNat)=capB:=by
    funext c
    exact caps_tab ⟨c.toNat,zR2 c⟩
  rw [this]
theorem called_ev (hT:∀ s cs H,(∀ c∈cs,c.toNat<128)->2<=cs.length->cs.length<=1000->s.length<=1000->C zCP [.str s,.str cs] H (.str (trimS s cs)) H) (s:Bs) (H:Heap) (hl:s.length<=1000):EFun C GT zFh [.str s] H (.bool (zA3 s)) H:=by
  obtain ⟨r,hr⟩:∃ r,zA3 s=r:=⟨_,rfl⟩;rw [hr];unfold zA3 at hr;have ht:=hT s capsL H (by decide) (by decide) (by decide) hl;clear hT;refine zI ?_;by_cases h1:2<=s.length
  · by_cases h2:s.length<=10
    · rw [zQj h1,zQj h2,zRt,zRt] at hr
      refine sW ?_;refine zID (v0:=.bool (trimS s capsL==[])) (zQb AV.bool ?_) rfl rfl rfl rfl (Old.refl _);rw [<-hr,zSp,zQv,caps_all]
    · rw [zQs h2,Bool.and_false,zR3] at hr
      subst hr;refine sW ?_;exact sRv
  · rw [zQs h1,zR3,zR3] at hr
    subst hr;refine sW ?_;exact sRv
theorem dollar_ev (b:Nat) (t:Bs) (H:Heap) (hb:H[b]?=some (.box [.str t])) (x':AV):zCr C GT zIU [pR b] H b [.undef] x' (some (.bool (dollar t).1,.box [.str (dollar t).2])):=by
  refine zAH ?_;cases t with
  | nil=>
    refine sW ?_;exact sRo
  | cons c r=>
    by_cases h:c=36
    · subst h
      have e:dollar (36::r)=(true,r):=rfl;rw [e];refine sW ?_;refine zCB (i:=0) rfl rfl<|sW ?_
      refine zy (v:=.str r) (zIf (36::r) 1 (by simp))<|sS (AV.str r) [AV.str r] ?_
      exact sRo
    · have hn:c.toNat≠36:=fun e=>h (zQm.1 e)
      have e:dollar (c::r)=(false,c::r):=zQN h;rw [e];refine sW ?_;refine zCB (i:=0) rfl rfl<|sW ?_
      exact sRo
theorem whole_ev (hT:∀ s cs H,(∀ c∈cs,c.toNat<128)->2<=cs.length->cs.length<=1000->s.length<=1000->C zCP [.str s,.str cs] H (.str (trimS s cs)) H) (hP:∀ s H,C zBK [.str s,.str [45]] H (.str (zDy s).2) H)
    (hA:∀ s H,zEX s->zEC (zOU s)->s.length<=1000->C zBW [.str s] H (.tup [zJ (zOU s),.nili]) H) (hA2:∀ s H,zEX s->¬ zEC (zOU s)->s.length<=1000->∃ n t,C zBW [.str s] H (.tup [zJ n,.iface t .undef]) H)
    (s:Bs) (H:Heap) (hl:s.length<=1000):∃ n0,EFun C GT zIT [.str s] H (wholeV (wholeS s) n0) H:=by
  have hp:=hP s H;have hdl:(zDy s).2.length<=1000:=by
    unfold zDy;split
    · simp
    · rename_i c r
      simp only [zQO] at hl;split <;> simp only [zQO] <;> omega
  have ht:=hT (zDy s).2 [48,49,50,51,52,53,54,55,56,57] H (by decide) (by decide) (by decide) hdl;have hda:=digs_all (zDy s).2;have hdf:zEX s↔((zDy s).2≠[]/\¬ ((zDy s).2.head?=some 48/\s≠[48])/\(zDy s).2.all zG2=true):=zRu;have ha:=hA s H;have ha2:=hA2 s H;clear hT hP hA hA2;unfold wholeS;obtain ⟨d,hd⟩:∃ d,(zDy s).2=d:=⟨_,rfl⟩;rw [hd] at hp ht hda hdf;generalize trimS d [48,49,50,51,52,53,54,55,56,57]=tr at *;by_cases hf:zEX s
  · rw [zQQ hf]
    obtain ⟨h1,h2,h3⟩:=hdf.1 hf;have htr:tr=[]:=hda.2 h3;subst htr;obtain ⟨c,r,rfl⟩:∃ c r,d=c::r:=zRM h1;have hres:∃ n x,C zBW [.str s] H (.tup [zJ n,x]) H/\((x=.nili/\(if zEC (zOU s) then some (zOU s) else none:Option Int)=some n)\/((∃ t,x=.iface t .undef)/\(if zEC (zOU s) then some (zOU s) else none:Option Int)=none)):=by
      by_cases hi:zEC (zOU s)
      · exact ⟨_,_,ha hf hi hl,.inl ⟨rfl,by rw [zQQ hi]⟩⟩
      · obtain ⟨n,t,h⟩:=ha2 hf hi hl
        exact ⟨n,_,h,.inr ⟨⟨t,rfl⟩,by rw [zQN hi]⟩⟩
    obtain ⟨n,x,hat,hx⟩:=hres;clear ha ha2;have h48:c.toNat=48->s=[48]:=fun e=>Decidable.byContradiction fun h=>h2 ⟨by rw [show c=48 from zQm.1 e];rfl,h⟩;by_cases hc:c.toNat=48
    · have:=h48 hc
      rcases hx with ⟨rfl,e⟩|⟨⟨t,rfl⟩,e⟩
      · rw [e]
        refine ⟨n,zI ?_⟩;refine sW ?_;refine zCB (i:=0) rfl rfl<|sW ?_
        refine zk (zQo.2 this)<|sW ?_
        exact sRv
      · rw [e]
        refine ⟨n,zI ?_⟩;refine sW ?_;refine zCB (i:=0) rfl rfl<|sW ?_
        refine zk (zQo.2 this)<|sW ?_
        exact sRv
    · rcases hx with ⟨rfl,e⟩|⟨⟨t,rfl⟩,e⟩
      · rw [e]
        refine ⟨n,zI ?_⟩;refine sW ?_;refine zCB (i:=0) rfl rfl<|sW ?_
        exact sRv
      · rw [e]
        refine ⟨n,zI ?_⟩;refine sW ?_;refine zCB (i:=0) rfl rfl<|sW ?_
        exact sRv
  · rw [zQN hf]
    refine ⟨0,zI ?_⟩;clear ha ha2;cases d with
    | nil => refine zM (hp) ?_
             refine sW ?_;exact sRv
    | cons c r=>
      by_cases hc:c.toNat=48
      · by_cases hs:s=[48]
        · have htr:tr≠[]:=fun e=>hf (hdf.2 ⟨by simp,fun x=>x.2 hs,hda.1 e⟩)
          refine sW ?_;refine zCB (i:=0) rfl rfl<|sW ?_
          refine zk (zQo.2 hs)<|sW ?_
          refine zp (zQ8.2 htr) ?_;exact sRv
        · refine sW ?_
          refine zCB (i:=0) rfl rfl<|sW ?_
          refine zp (zQ8.2 hs)<|sW ?_
          exact sRv
      · have htr:tr≠[]:=fun e=>hf (hdf.2 ⟨by simp,fun x=>hc (by have:=x.1;simp only [List.head?_cons,zQT] at this;rw [this];rfl),hda.1 e⟩)
        refine sW ?_;refine zCB (i:=0) rfl rfl<|sW ?_
        refine zp (zQ8.2 htr) ?_;exact sRv
theorem textsV_get (k:Nat) (h:k<7):∃ t:Bs,[AV.str [],.str [35,68,73,86,33],.str [35,86,65,76,85,69,33],.str [35,82,69,70,33],.str [35,78,65,77,69,33],.str [35,78,85,77,33],.str [35,78,79,78,69,33]][k]?=some (.str t)/\(∀ s:Bs,s≠[]->s≠zFz->s≠zDY->(t=s->litP s=some (4,(k:Int))))/\(k=0->t=[]):=by
  rcases k with _|_|_|_|_|_|_|k
  · exact ⟨_,rfl,fun s h _ _ e=>absurd e.symm h,fun _=>rfl⟩
  · exact ⟨_,rfl,fun s _ h1 h2 e=>by subst e;rfl,fun h=>by cases h⟩
  · exact ⟨_,rfl,fun s _ h1 h2 e=>by subst e;rfl,fun h=>by cases h⟩
  · exact ⟨_,rfl,fun s _ h1 h2 e=>by subst e;rfl,fun h=>by cases h⟩
  · exact ⟨_,rfl,fun s _ h1 h2 e=>by subst e;rfl,fun h=>by cases h⟩
  · exact ⟨_,rfl,fun s _ h1 h2 e=>by subst e;rfl,fun h=>by cases h⟩
  · exact ⟨_,rfl,fun s _ h1 h2 e=>by subst e;rfl,fun h=>by cases h⟩
  · omega
theorem literal_ev (hG:GT zEq=some zP3) (hI:∀ b H,C zCh [.bool b] H (v3 3 (if b=true then 1 else 0)) H) (hW:∀ n H,C zCF [zJ n] H (v3 4 n) H) (s:Bs) (H:Heap) :
    EFun C GT zGL [.str s] H (litV (litP s)) H:=by
  refine zI ?_;by_cases h1:s=zFz
  · have e:litP s=some (3,1):=zQQ h1
    have h1':(s==[84,82,85,69])=true:=tE h1;have hi:C zCh [.bool true] (H++[.box zV3]) (v3 3 1) (H++[.box zV3]):=hI true _;clear hI hW;rw [e];refine zp h1'<|sW ?_
    refine sSA (v3 3 1) ?_;exact zn (o:=0) rfl rfl (zH hP) rfl rfl rfl rfl hO
  by_cases h2:s=zDY
  · have e:litP s=some (3,0):=by unfold litP;rw [zQN h1,zQQ h2]
    have h1':(s==[84,82,85,69])=false:=tN h1;have h2':(s==[70,65,76,83,69])=true:=tE h2;have hi:C zCh [.bool false] (H++[.box zV3]) (v3 3 0) (H++[.box zV3]):=hI false _;clear hI hW;rw [e];refine zk h1'<|zp h2'<|sW ?_
    refine sSA (v3 3 0) ?_;exact zn (o:=0) rfl rfl (zH hP) rfl rfl rfl rfl hO
  have h1':(s==[84,82,85,69])=false:=tN h1;have h2':(s==[70,65,76,83,69])=false:=tN h2;obtain ⟨r,hr⟩:∃ r,litP s=r:=⟨_,rfl⟩;rw [hr];clear hI;refine zk h1'<|zk h2'<|sLoadG zP3 hG rfl ?_
  refine zBB (fun k:Nat=>[(2,pR H.length),(14,zK k),(0,.str s),(13,zP3)]) (fun k H'=>H'=H++[.box zV3]/\k<=7/\∀ j t,j<k->[AV.str [],.str [35,68,73,86,33],.str [35,86,65,76,85,69,33],.str [35,82,69,70,33],.str [35,78,65,77,69,33],.str [35,78,85,77,33],.str [35,78,79,78,69,33]][j]?=some (.str t)->s=[]\/t≠s) (fun k=>7-k) 0 rfl ⟨rfl,by omega,fun j t h=>by omega⟩ (fun k H1 ⟨e,hk,hno⟩=>?_);subst e;by_cases hlt:k<7
  · obtain ⟨t,ht,hts,ht0⟩:=textsV_get k hlt
    have hw:=hW k (H++[.box zV3]);clear hW;by_cases he:t=s
    · by_cases hs:s=[]
      · refine sW ?_
        refine zBA ⟨by omega,by omega⟩<|zy (v:=.str t) (by simpa [part] using ht)<|zp (tE he)<|sW ?_
        refine zk (zQo.2 hs)<|zS (r:=k+1) rfl tO ?_
        exact zAP (k+1) rfl ⟨rfl,by omega,fun j t' _ _=>.inl hs⟩ tO
      · have e:=hts s hs h1 h2 he
        rw [hr] at e;subst e;refine sW ?_;refine zBA ⟨by omega,by omega⟩<|zy (v:=.str t) (by simpa [part] using ht)<|zp (tE he)<|sW ?_
        refine zp (zQ8.2 hs)<|sW ?_
        refine sSA (v3 4 ↑k) ?_;exact zn (v:=v3 4 k) (v1:=.bool true) (o:=0) rfl rfl (zH hP) rfl rfl rfl rfl hO
    · refine sW ?_
      refine zBA ⟨by omega,by omega⟩<|zy (v:=.str t) (by simpa [part] using ht)<|zk (tN he)<|sW ?_
      refine zS (r:=k+1) rfl tO ?_;refine zAP (k+1) rfl ⟨rfl,by omega,fun j t' hj hjt=>?_⟩ tO;by_cases e:j=k
      · subst e
        rw [ht] at hjt;cases hjt;exact .inr he
      · exact hno j t' tO hjt
  · have e:k=7:=by omega
    subst e;have e:litP s=none:=by
      unfold litP;rw [zQN h1,zQN h2];have n1:=hno 1 _ tO rfl;have n2:=hno 2 _ tO rfl;have n3:=hno 3 _ tO rfl;have n4:=hno 4 _ tO rfl;have n5:=hno 5 _ tO rfl;have n6:=hno 6 _ tO rfl;by_cases hs:s=[]
      · subst hs;rfl
      · rw [zQN (fun x=>n1.elim hs fun y=>y x.symm),zQN (fun x=>n2.elim hs fun y=>y x.symm),zQN (fun x=>n3.elim hs fun y=>y x.symm),zQN (fun x=>n4.elim hs fun y=>y x.symm),zQN (fun x=>n5.elim hs fun y=>y x.symm),zQN (fun x=>n6.elim hs fun y=>y x.symm)]
    rw [e] at hr;subst hr;refine sW ?_;refine sSA (AV.agg zV3) ?_;exact zn (v:=v3 0 0) (v1:=.bool false) (o:=0) rfl rfl (zH hP) rfl rfl rfl rfl hO
theorem sGenA {a:AK} {vs:List AV} {H:Heap} {K:AV->Heap->Prop} (P:Heap->Prop) (h:P H) (k:∀ H',P H'->actP a vs H' K):actP a vs H K:=k H h
theorem sStrB {s:Bs} {H:Heap} {K:AV->Heap->Prop} (h:s.length<=140737488355328) (q:K (.sl (some false) H.length 1 0 s.length) (H++[.row 1 (s.map zo)])):actP .strToBytes [.str s] H K:=by
  refine sAct (v:=.sl (some false) H.length 1 0 s.length) (H':=H++[.row 1 (s.map zo)]) ?_ q;simp only [astep];rw [zQQ h]
theorem Old.at {H0 H:Heap} (h:Old H0 H) (x:List ABlk):Old H0 (H++x):=h.push x
theorem refP_of {s:Bs} {fc:Bool} {t:Bs} (h:dollar s=(fc,t)):zE9 s=colP (fc,t):=by unfold zE9;rw [h]
theorem colP_cap {fc:Bool} {c:UInt8} {r:Bs} (h:capB c=true):colP (fc,c::r)=if zNI (dollar r).2 then some ⟨(c.toNat:Int)-64,zDk (dollar r).2,fc,(dollar r).1⟩ else none:=by
  unfold colP;simp only;rw [zQQ h,rowP_is]
theorem colP_not {fc:Bool} {c:UInt8} {r:Bs} (h:capB c=false):colP (fc,c::r)=none:=by
  unfold colP;simp only;rw [h];rfl
structure RSt where
  k:Nat
  b:Bool
theorem ref_ev (hD:∀ b t H,H[b]?=some (.box [.str t])->C zEn [pR b] H (.bool (dollar t).1) (H.set b (.box [.str (dollar t).2]))) (s:Bs) (H:Heap) (hl:s.length<=1000) :
    EFun C GT zM9 [.str s] H (refV (zE9 s)) H:=by
  have hd1:=hD H.length s;have hd2:=fun t=>hD H.length t;clear hD;obtain ⟨⟨fc,t⟩,hds⟩:∃ p,dollar s=p:=⟨_,rfl⟩;rw [hds] at hd1;simp only at hd1;rw [refP_of hds];refine zI ?_;cases t with
  | nil=>
    have e:refV (colP (fc,[]))=.tup [rV noRef,zIb 2]:=rfl;rw [e];refine zBr (x:=AV.str s) rfl<|zCM (hd1 _ hP) (fun h=>by cases h) ?_
    refine sS (AV.bool fc) [.int .i64 0,.int .i64 0,AV.bool fc,AV.bool false] ?_;refine sW ?_;refine sSA (.agg zP) ?_;exact zn (o:=0) rfl rfl (zH hP) rfl rfl rfl rfl ((((((Old.refl _).push _).push _).set (by first|assumption|exact zQU _|simp|omega) _).set (by first|assumption|exact zQU _|simp|omega) _).set (by first|assumption|exact zQU _|simp|omega) _)
  | cons c r=>
    have hc256:c.toNat<256:=zR2 c;by_cases hcap:capB c=true
    case neg=>
      have hcap:=zRI.2 hcap;rw [colP_not hcap];have e:refV none=.tup [rV noRef,zIb 2]:=rfl;rw [e];by_cases h65:c.toNat<65
      · refine zBr (x:=AV.str s) rfl<|zCM (hd1 _ hP) (fun h=>by cases h) ?_
        refine sS (AV.bool fc) [.int .i64 0,.int .i64 0,AV.bool fc,AV.bool false] ?_;refine sW ?_;refine zCB (i:=0) rfl rfl ?_;refine sW ?_;refine sSA (.agg zP) ?_;exact zn (o:=0) rfl rfl (zH hP) rfl rfl rfl rfl hO
      · have h90:90<c.toNat:=by
          unfold capB at hcap;rw [zSc,zRa,zRa] at hcap;omega
        refine zBr (x:=AV.str s) rfl<|zCM (hd1 _ hP) (fun h=>by cases h) ?_
        refine sS (AV.bool fc) [.int .i64 0,.int .i64 0,AV.bool fc,AV.bool false] ?_;refine sW ?_;refine zCB (i:=0) rfl rfl ?_;refine sW ?_;refine zCB (i:=0) rfl rfl ?_;refine sW ?_;refine sSA (.agg zP) ?_;exact zn (o:=0) rfl rfl (zH hP) rfl rfl rfl rfl hO
    case pos=>
      have hcc:=(capB_iff c).1 hcap;rw [colP_cap hcap];obtain ⟨⟨fr,u⟩,hdr⟩:∃ p,dollar r=p:=⟨_,rfl⟩;have hd3:=hd2 r;rw [hdr] at hd3 ⊢;simp only at hd3 ⊢;clear hd2;obtain ⟨w,hw⟩:∃ w,(if zNI u then some (⟨(c.toNat:Int)-64,zDk u,fc,fr⟩:RefP) else none)=w:=⟨_,rfl⟩;rw [hw];refine zBr (x:=AV.str s) rfl<|zCM (hd1 _ hP) (fun h=>by cases h) ?_
      refine sS (AV.bool fc) [.int .i64 0,.int .i64 0,AV.bool fc,AV.bool false] ?_;refine sW ?_;refine zCB (i:=0) rfl rfl ?_;refine sW ?_;refine zCB (i:=0) rfl rfl ?_;refine sW ?_;refine zCB (i:=0) rfl rfl<|zFR (r:=(c.toNat:Int)-65) (by rw [IntKind.wrap_u8];omega)<|zFR (r:=(c.toNat:Int)-65) (by rw [IntKind.wrap_i64];omega)<|zFR (r:=(c.toNat:Int)-64) (by rw [IntKind.wrap_i64];omega) ?_
      refine sS (.int .i64 (↑c.toNat-64)) [.int .i64 (↑c.toNat-64),.int .i64 0,AV.bool fc,AV.bool false] ?_;refine sW ?_;refine zy (v:=.str r) (zIf (c::r) 1 (by simp)) ?_;refine sS (AV.str r) [AV.str r] ?_;refine zCM (hd3 _ hP) (fun h=>by cases h) ?_;refine sS (AV.bool fr) [.int .i64 (↑c.toNat-64),.int .i64 0,AV.bool fc,AV.bool fr] ?_;refine sW ?_;by_cases h0:u=[]
      · subst h0
        rw [zQN (fun x=>x.1 rfl)] at hw;subst hw;have ew:refV none=.tup [rV noRef,zIb 2]:=rfl;rw [ew];refine sW ?_;refine sSA (.agg zP) ?_;exact zn (o:=0) rfl rfl (zH hP) rfl rfl rfl rfl ((((((((((Old.refl _).push _).push _).set (by first|assumption|exact zQU _|simp|omega) _).set (by first|assumption|exact zQU _|simp|omega) _).set (by first|assumption|exact zQU _|simp|omega) _).set (by first|assumption|exact zQU _|simp|omega) _).set (by first|assumption|exact zQU _|simp|omega) _).set (by first|assumption|exact zQU _|simp|omega) _).set (by first|assumption|exact zQU _|simp|omega) _)
      obtain ⟨e,u',hu⟩:∃ e u',u=e::u':=zRM h0;have he0:u[0]?=some e:=by rw [hu];rfl
      by_cases h2':u.length<=2
      case neg=>
        rw [zQN (fun x=>h2' x.2.1)] at hw;subst hw;have ew:refV none=.tup [rV noRef,zIb 2]:=rfl;rw [ew];refine zk (tN h0) ?_;refine sW ?_;refine sSA (.agg zP) ?_;exact zn (o:=0) rfl rfl (zH hP) rfl rfl rfl rfl ((((((((((Old.refl _).push _).push _).set (by first|assumption|exact zQU _|simp|omega) _).set (by first|assumption|exact zQU _|simp|omega) _).set (by first|assumption|exact zQU _|simp|omega) _).set (by first|assumption|exact zQU _|simp|omega) _).set (by first|assumption|exact zQU _|simp|omega) _).set (by first|assumption|exact zQU _|simp|omega) _).set (by first|assumption|exact zQU _|simp|omega) _)
      by_cases h48:e.toNat=48
      · have he:e=48:=zQm.1 h48
        subst he;rw [zQN (fun x=>x.2.2.1 (by rw [hu];rfl))] at hw;subst hw;have ew:refV none=.tup [rV noRef,zIb 2]:=rfl;rw [ew];refine zk (tN h0)<|zA (AV.str u) hP rfl<|zG<|zk tF<|zA (AV.str u) hP rfl<|zCB (i:=0) rfl he0 ?_
        refine zG<|zp tT<|zy (v:=zP) rfl<|zL (v:=.agg zP) (AV.cells (.agg zP)) hP rfl rfl rfl rfl ?_
        exact zn (o:=0) rfl rfl (zH hP) rfl rfl rfl rfl hO
      refine zk (tN h0)<|zA (AV.str u) hP rfl<|zG<|zk tF<|zA (AV.str u) hP rfl<|zCB (i:=0) rfl he0 ?_
      refine zG<|zk tF<|zA (AV.str u) hP rfl ?_
      refine sGenA (fun H'=>Old H H'/\H'[(H++[ABlk.box [AV.str s]]).length]?=some (.box [.int .i64 ((c.toNat:Int)-64),.int .i64 0,.bool fc,.bool fr])) ⟨?_,hP⟩ (fun H2 ⟨ho,hb2⟩=>?_)
      · have hp:=((Old.refl H).push [ABlk.box [AV.str s]]).push [ABlk.box zP]
        have h1:H.length<=H.length:=zQU _;have h2:H.length<=(H++[ABlk.box [AV.str s]]).length:=by simp
        exact (((((hp.set h1 _).set h2 _).set h2 _).set h1 _).set h1 _).set h2 _
      have h2:H.length<=(H++[ABlk.box [AV.str s]]).length:=by simp
      refine sStrB tO<|zHb ?_
      refine zBB (fun k:Nat=>[(2,pR (H++[ABlk.box [AV.str s]]).length),(54,zK k),(52,.sl (some false) H2.length 1 0 u.length),(53,zK u.length)])
        (fun k H'=>Old H H'/\H'[(H++[ABlk.box [AV.str s]]).length]?=some (.box [.int .i64 ((c.toNat:Int)-64),zK (zDk (u.take k)),.bool fc,.bool fr])/\H'[H2.length]?=some (.row 1 (u.map zo))/\k<=u.length/\(u.take k).all zG2=true)
        (fun k=>u.length-k) 0 rfl ⟨ho.push _,zF hb2,zB,zRG _,rfl⟩ (fun k H1 ⟨ho1,hb1,hr1,hk,hall⟩=>?_)
      have hbl:(H++[ABlk.box [AV.str s]]).length<H2.length:=(zg hb2).1;by_cases hlt:k<u.length
      · obtain ⟨x,hx⟩:∃ x,u[k]?=some x:=⟨_,zQS hlt⟩
        have hx256:x.toNat<256:=zR2 x;have hxm:(u.map zo)[k]?=some (byV x):=by rw [zQa,hx];rfl
        have etk:u.take (k+1)=u.take k++[x]:=by
          obtain ⟨q1,q2⟩:=zg hx;rw [zSA q1,q2]
        by_cases hd:zG2 x=true
        · have hdd:=(zOf x).1 hd
          have hv:=zP2 _ hall;have hpw:10^(u.take k).length<=10^2:=zRd tO (by rw [zQk];omega);have e2:(10:Nat)^2=100:=rfl;refine sW ?_;refine sAt ⟨by omega,by omega⟩<|zBV k (byV x) (byV x) tO hr1 hxm rfl<|sW ?_
          refine zS (r:=zDk (u.take k)*10) tO tO<|zFR (r:=(x.toNat:Int)-48) (by rw [IntKind.wrap_u8];omega)<|zFR (r:=(x.toNat:Int)-48) (by rw [IntKind.wrap_i64];omega)<|zS (r:=zDk (u.take k)*10+(x.toNat-48)) tO tO<|sS (.int .i64 ↑(zDk (List.take k u)*10+(x.toNat-48))) [.int .i64 (↑c.toNat-64),.int .i64 ↑(zDk (List.take k u)*10+(x.toNat-48)),AV.bool fc,AV.bool fr] ?_
          refine zS (r:=k+1) rfl tO ?_;refine zAP (k+1) rfl ⟨ho1.set h2 _, ?_,zC tO hr1,by omega, ?_⟩ tO
          · rw [etk,decV_snoc];exact zV hb1
          · rw [etk,List.all_append,hall];simp [hd]
        · have hd:=zRI.2 hd
          rw [zQN (fun y=>by
            have:=zRN.1 y.2.2.2 x (zQh hx);rw [hd] at this;cases this)] at hw
          subst hw;have ew:refV none=.tup [rV noRef,zIb 2]:=rfl;rw [ew];by_cases h48':x.toNat<48
          · refine sW ?_
            refine sAt ⟨by omega,by omega⟩<|zBV k (byV x) (byV x) tO hr1 hxm rfl<|sW ?_
            refine sSA (.agg zP) ?_;exact zn (v:=rV noRef) (v1:=zIb 2) (o:=0) rfl rfl (zH (zV hb1)) rfl rfl rfl rfl (ho1.set h2 _)
          · have:57<x.toNat:=by
              unfold zG2 at hd;rw [zSc,zRa,zRa] at hd;omega
            refine sW ?_;refine sAt ⟨by omega,by omega⟩<|zBV k (byV x) (byV x) tO hr1 hxm rfl<|sW ?_
            refine sSA (.agg zP) ?_;exact zn (v:=rV noRef) (v1:=zIb 2) (o:=0) rfl rfl (zH (zV hb1)) rfl rfl rfl rfl (ho1.set h2 _)
      · have ek:k=u.length:=by omega
        subst ek;rw [zRs] at hall hb1;rw [zQQ ⟨h0,h2',fun y=>h48 (by rw [hu] at y;rw [zQl y];rfl),hall⟩] at hw;subst hw;have ew:refV (some ⟨(c.toNat:Int)-64,zDk u,fc,fr⟩)=.tup [.agg [.int .i64 ((c.toNat:Int)-64),zK (zDk u),.bool fc,.bool fr],.nili]:=rfl;rw [ew];refine sW ?_;refine sSA (AV.agg [.int .i64 (↑c.toNat-64),zK (zDk u),AV.bool fc,AV.bool fr]) ?_;exact zn (v:=.agg [.int .i64 ((c.toNat:Int)-64),zK (zDk u),.bool fc,.bool fr]) (v1:=.nili) (o:=0) rfl rfl (zH (zV hb1)) rfl rfl rfl rfl (ho1.set h2 _)
end
end Go.AM
set_option maxRecDepth 20000
namespace Go.AM
def CR (C:CSpec) (f:Nat) (args:List AV) (H:Heap) (b:Nat) (s:Bs) (d:Nat) (r:Option (Nd×Nat)):Prop:=
  (∀ n e,r=some (n,e)->C f args H (ndV n) (H.set b (rdB s e d)))/\(r=none->C f (.pan .undef::args) H zHS (H.set b (.box (wkC s))))
def mkR (s:Bs) (d:Nat) (r:Option (Nd×Nat)):Option (AV×ABlk):=r.map fun p=>(ndV p.1,rdB s p.2 d)
def Off (H:Heap) (b:Nat) (H':Heap):Prop:=∀ c x,H[c]?=some x->c≠b->H'[c]?=some x
abbrev zR (k:Int) (a b:RefP):List AV:=[.int .i64 k,.int .i64 0,.str [],.int .i64 a.col,.int .i64 a.row,.bool a.fc,.bool a.fr,.int .i64 b.col,.int .i64 b.row,.bool b.fc,.bool b.fr,.lst (some true) 0 []]
def nodeW (k num:Int) (t:Bs) (x:AV):AV:=.agg [.int .i64 k,.int .i64 num,.str t,.int .i64 0,.int .i64 0,.bool false,.bool false,.int .i64 0,.int .i64 0,.bool false,.bool false,x]
theorem frz_node {n0 nb m:Nat} {k num:Int} {t:Bs} {xs:List AV} {H:Heap} (h:H[nb]?=some (.row 12 xs)) (hn:n0<=nb) (hm:xs.length=m) :
    zEE n0 (nodeW k num t (.sl (some false) nb 12 0 m)) H=some (nodeW k num t (.lst (some false) 12 xs),H.set nb (.frz 12 xs)):=by
  subst hm;have:¬ nb<n0:=by omega
  simp only [nodeW,zEE,zLP,this,zQt,h];simp [frzQ]
section
variable {C:CSpec} {GT:Nat->Option AV}
theorem opOf_ev (t:Bs) (H:Heap) (h:zCA t≠0):EFun C GT zHG [.str t] H (zK (zCA t)) H:=by
  refine zI ?_;by_cases h1:t=[61]
  · subst h1
    refine sX ?_;exact sRv
  by_cases h2:t=[60,62]
  · subst h2
    refine sX ?_;exact sRv
  by_cases h3:t=[60]
  · subst h3
    refine sX ?_;exact sRv
  by_cases h4:t=[60,61]
  · subst h4
    refine sX ?_;exact sRv
  by_cases h5:t=[62]
  · subst h5
    refine sX ?_;exact sRv
  by_cases h6:t=[62,61]
  · subst h6
    refine sX ?_;exact sRv
  by_cases h7:t=[38]
  · subst h7
    refine sX ?_;exact sRv
  by_cases h8:t=[43]
  · subst h8
    refine sX ?_;exact sRv
  by_cases h9:t=[45]
  · subst h9
    refine sX ?_;exact sRv
  by_cases h10:t=[42]
  · subst h10
    refine sX ?_;exact sRv
  by_cases h11:t=[47]
  · subst h11
    refine sX ?_;exact sRv
  · exact absurd (by unfold zCA;simp only [h1,h2,h3,h4,h5,h6,h7,h8,h9,h10,h11,zQt]) h
theorem want_ev (hB:∀ b s p d H,H[b]?=some (rdB s p d)->p<=s.length->s.length<=200->C zW [pR b] H (.tup []) (H.set b (rdB s (skip s p) d)))
    (hF:∀ b s p d a e H,H[b]?=some (rdB s p d)->C zU (.pan .undef::[pR b,.int .i64 a,zIb e]) H zHS (H.set b (.box (wkC s))))
    (c:UInt8) (b:Nat) (s:Bs) (p d:Nat) (H:Heap) (hb:H[b]?=some (rdB s p d)) (hp:p<=s.length) (hl:s.length<=200) :
    zCr C GT zDN [pR b,byV c] H b (wkC s) zHS (if s[skip s p]?=some c then some (.tup [],rdB s (skip s p+1) d) else none):=by
  have hbl:=hB b s p d H hb hp hl;have hq:=zCS hp;generalize skip s p=q at *;have hf:=hF b s q d q 2 (H.set b (rdB s q d)) (zV hb);clear hB hF;refine zAH ?_;by_cases hlt:q<s.length
  · obtain ⟨x,hx⟩:∃ x,s[q]?=some x:=⟨_,zQS hlt⟩
    by_cases h:x=c
    · subst h
      rw [zQQ hx];refine zCM hbl (fun h=>by cases h)<|zA (zK q) (zV hb) rfl<|zA (AV.str s) (zV hb) rfl<|zk tN<|zA (AV.str s) (zV hb) rfl<|zA (zK q) (zV hb) rfl<|zCB rfl hx<|zG<|zk (zQo.2 rfl)<|zA (zK q) (zV hb) rfl<|zS (r:=q+1) rfl tO<|zL (v:=.int .i64 ↑(q+1)) [AV.str s,.int .i64 ↑(q+1),zK d] (zV hb) rfl rfl rfl rfl ?_
      exact sRetO _ (by first|rfl|assumption) rfl rfl rfl rfl (((OldB.start hb).setB _).setB _) rfl
    · rw [zQN (by rw [hx];exact fun e=>h (zQl e))]
      have hn:x.toNat≠c.toNat:=fun e=>h (zQm.1 e);refine zCM hbl (fun h=>by cases h)<|zA (zK q) (zV hb) rfl<|zA (AV.str s) (zV hb) rfl<|sW ?_
      refine zA (AV.str s) (zV hb) rfl<|zA (zK q) (zV hb) rfl<|zCB rfl hx<|sW ?_
      refine zp (zQ8.2 tO)<|zA (zK q) (zV hb) rfl<|zA1 hf ?_
      exact sP
  · rw [zQN (by rw [zQ9 tO];simp)]
    refine zCM hbl (fun h=>by cases h)<|zA (zK q) (zV hb) rfl<|zA (AV.str s) (zV hb) rfl<|sW ?_
    refine zA (zK q) (zV hb) rfl<|zA1 hf ?_
    exact sP
theorem within_ev (hF:∀ b s p d a e H,H[b]?=some (rdB s p d)->C zU (.pan .undef::[pR b,.int .i64 a,zIb e]) H zHS (H.set b (.box (wkC s))))
    (f:Nat) (caps:List AV) (a:Int) (b:Nat) (s:Bs) (p d:Nat) (H:Heap) (hb:H[b]?=some (rdB s p d)) (hd:d<=1000) (r:Option (Nd×Nat))
    (hC:∀ H',H'[b]?=some (rdB s p (d+1))->Off H b H'->CR C f caps H' b s (d+1) r) :
    zCr C GT zCm [pR b,.int .i64 a,.fn f [] caps] H b (wkC s) zHS (mkR s d (if d=30 then none else r)):=by
  have hbl:b<H.length:=(zg hb).1;refine zAH ?_;by_cases h30:d=30
  · rw [zQQ h30]
    have e:mkR s d none=none:=rfl;rw [e];have hf:=hF b s p d a 4;clear hF hC;refine sX ?_;refine zA1 (hf _ hP) ?_;exact sP
  · rw [zQN h30]
    have hoff:∀ X Y,Off H b ((H++[X]).set b Y):=fun X Y c x hc hn=>zC (zRH hn) (zF hc);cases r with
    | none=>
      have e:mkR s d none=none:=rfl;rw [e];have hc:=fun H' h1 h2=>(hC H' h1 h2).2 rfl;clear hF hC;refine sX ?_;refine zS (r:=d+1) rfl tO<|sS (.int .i64 ↑(d+1)) [AV.str s,zK p,.int .i64 ↑(d+1)] ?_
      refine zA1 (hc _ (zV (zF hb)) (hoff _ _)) ?_;exact sP
    | some p'=>
      obtain ⟨n,e⟩:=p';have e0:mkR s d (some (n,e))=some (ndV n,rdB s e d):=rfl;rw [e0];have hc:=fun H' h1 h2=>(hC H' h1 h2).1 n e rfl;clear hF hC;refine sX ?_;refine zS (r:=d+1) rfl tO<|sS (.int .i64 ↑(d+1)) [AV.str s,zK p,.int .i64 ↑(d+1)] ?_
      refine zCT (hc _ (zV (zF hb)) (hoff _ _))<|sSA (ndV n) ?_
      refine sX ?_;refine zS (r:=d) tO tO<|sS (.int .i64 ↑d) [AV.str s,zK e,.int .i64 ↑d] ?_
      refine sX ?_;refine sSA (ndV n) ?_;exact zAF (o:=0) (ndV n) (by first|rfl|assumption) rfl rfl (zH hP) rfl rfl rfl hO rfl
theorem negc_ev (b rb:Nat) (s:Bs) (p d:Nat) (H:Heap) (hb:H[b]?=some (rdB s p d)) (hr:H[rb]?=some (.box [pR b])) (hp:p<s.length) (hl:s.length<=200)
    (hN:∀ H',H'[b]?=some (rdB s (p+1) d)->CR C zAR [pR b] H' b s d ((P s).one (p+1) d)) :
    zCr C GT zCn [pR rb] H b (wkC s) zHS (mkR s d (((P s).one (p+1) d).map fun q=>(zDJ q.1,q.2))):=by
  have hbl:b<H.length:=(zg hb).1;have hne:rb≠b:=fun e=>by rw [e,hb] at hr;cases hr
  generalize (P s).one (p+1) d=r at *;refine zAH ?_;cases r with
  | none=>
    have hc:=fun H' h1=>(hN H' h1).2 rfl;clear hN;have e:mkR s d (Option.map (fun q:Nd×Nat=>(zDJ q.1,q.2)) none)=none:=rfl;rw [e];refine sX ?_;refine zS (r:=p+1) rfl tO<|sS (.int .i64 ↑(p+1)) [AV.str s,.int .i64 ↑(p+1),zK d] ?_
    refine sX ?_;refine zA1 (hc _ (zV (zF hb))) ?_;exact sP
  | some p'=>
    obtain ⟨n,e⟩:=p';have hc:=fun H' h1=>(hN H' h1).1 n e rfl;clear hN;have e0:mkR s d (Option.map (fun q:Nd×Nat=>(zDJ q.1,q.2)) (some (n,e)))=some (ndV (zDJ n),rdB s e d):=rfl;rw [e0];refine sX ?_;refine zS (r:=p+1) rfl tO<|sS (.int .i64 ↑(p+1)) [AV.str s,.int .i64 ↑(p+1),zK d] ?_
    refine sX ?_;refine zCT (hc _ (zV (zF hb)))<|zAW (vs':=[ndV n]) rfl rfl<|sX ?_
    refine sSA (AV.agg [.int .i64 7,.int .i64 0,AV.str [],.int .i64 0,.int .i64 0,AV.bool false,AV.bool false,.int .i64 0,.int .i64 0,AV.bool false,AV.bool false,AV.sl (some false) ((List.set (H++[ABlk.box zV2]) b (ABlk.box [AV.str s,.int .i64 ↑(p+1),zK d])).set b (rdB s e d)).length 12 0 [ndV n].length]) ?_;exact zAF (o:=0) (nodeW 7 0 [] (.sl (some false) (((H++[ABlk.box (ndC zZ)]).set b (rdB s (p+1) d)).set b (rdB s e d)).length 12 0 1)) rfl rfl rfl (zH hP) rfl (frz_node (xs:=[ndV n]) hP tC rfl) rfl (by (repeat' (first|exact OldB.start (by assumption)|apply OldB.push|apply OldB.setB|refine OldB.set ?_ tC _));done) rfl
end
end Go.AM
set_option maxRecDepth 20000
namespace Go.AM
def zJH (s t:Bs) (e d:Nat):Option (Nd×Nat):=match tok s (e+1) with
  |.sign e2 [41]=>some (zAv t [],e2)
  |_=>(P s).args t [] (e+1) d
def parS (s:Bs) (p d:Nat):Option (Nd×Nat):=((P s).loose 1 (p+1) d).bind fun q=>match tok s q.2 with
  |.sign e2 [41]=>some (q.1,e2)
  |_=>none
def twS (s:Bs) (l p d:Nat):Option (Nd×Nat):=if l=4 then (P s).one p d else bl s ((P s).loose (l+1) p d)
theorem Owns.notBox {H0 H:Heap} {v:AV} {k c:Nat} {xs cs:List AV} (h:Owns H0 H v k xs) (hc:H[c]?=some (.box cs)):v.blk≠some c:=by
  rcases h with ⟨rfl,_⟩|⟨b',rfl,h1,h2,h3⟩
  · intro e;cases e
  · intro e
    simp only [AV.blk,zQT] at e;subst e;rw [h2] at hc;cases hc
theorem Owns.base {H0 H0' H:Heap} {v:AV} {k:Nat} {xs:List AV} (h:Owns H0 H v k xs) (e:H0'.length=H0.length):Owns H0' H v k xs:=by
  rcases h with h|⟨b',h0,h1,h2⟩
  · exact .inl h
  · exact .inr ⟨b',h0,by rw [e];exact h1,h2⟩
theorem quo_end {r:Bs} {i:Nat} (h:r.head?≠some 34):quo (34::r) i=some ([],i+1):=by
  cases r with
  |nil=>simp [quo]
  | cons d r=>
    simp only [quo,zQz];rw [zQN (fun e=>h (by rw [e];rfl))]
theorem quo_dbl {r:Bs} {i:Nat}:quo (34::34::r) i=(quo r (i+2)).map fun p=>(34::p.1,p.2):=by simp only [quo,zQz]
theorem quo_chr {c:UInt8} {r:Bs} {i:Nat} (h:c≠34):quo (c::r) i=(quo r (i+1)).map fun p=>(c::p.1,p.2):=by
  cases r with
  |nil=>simp [quo,h]
  |cons d r=>simp only [quo];rw [zQN h]
structure TSt where
  k:Nat
  v:AV
  acc:Bs
def paren (s:Bs) (q:Nat):Option Nat:=if s[skip s q]?=some 41 then some (skip s q+1) else none
theorem wordly_par {c:UInt8} (h:c.toNat=41\/c.toNat=44\/c.toNat=40\/c.toNat=45):zh c=false:=by
  have e:∀ n:Fin 256,(n.val=41\/n.val=44\/n.val=40\/n.val=45)->zh (UInt8.ofNat n.val)=false:=by decide +kernel
  have:=e ⟨c.toNat,zR2 c⟩ h;simpa using this
theorem zH3 {s:Bs} {p:Nat} {c:UInt8} (h:s[skip s p]?=some c) (hc:c.toNat=41\/c.toNat=44\/c.toNat=40\/c.toNat=45):tok s p=.sign (skip s p+1) [c]:=by
  have hw:=wordly_par hc;have n1:c≠34:=fun e=>by subst e;revert hc;decide
  have n2:c≠35:=fun e=>by subst e;revert hc;decide
  have n3:c≠60:=fun e=>by subst e;revert hc;decide
  have n4:c≠62:=fun e=>by subst e;revert hc;decide
  unfold tok zBg;rw [h];simp only [hw,zQY,zQt,n1,n2];split
  · rw [zQN (by rintro (⟨e,_⟩|⟨e,_⟩|⟨e,_⟩);exact n3 e;exact n3 e;exact n4 e)]
  · rfl
theorem zIh {s:Bs} {p e:Nat} {c:UInt8} (h:tok s p=.sign e [c]):s[skip s p]?=some c/\e=skip s p+1:=by
  unfold tok zBg at h;split at h
  · cases h
  · rename_i x hx
    split at h
    · cases h
    · split at h
      · split at h <;> cases h
      · split at h
        · split at h <;> cases h
        · split at h
          · split at h
            · cases h
            · cases h;exact ⟨hx,rfl⟩
          · cases h;exact ⟨hx,rfl⟩
theorem parS_is (s:Bs) (p d:Nat):parS s p d=((P s).loose 1 (p+1) d).bind fun q=>(paren s q.2).map fun e=>(q.1,e):=by
  unfold parS;refine zEW rfl fun q _=>?_;unfold paren;by_cases h:s[skip s q.2]?=some 41
  · rw [zH3 h (.inl rfl),zQQ h];rfl
  · rw [zQN h]
    split
    · rename_i e2 hk
      exact absurd (zIh hk).1 h
    · rfl
section
variable {C:CSpec} {GT:Nat->Option AV}
theorem text_ev (hF:∀ b s p d a e H,H[b]?=some (rdB s p d)->C zU (.pan .undef::[pR b,.int .i64 a,zIb e]) H zHS (H.set b (.box (wkC s))))
    (b:Nat) (s:Bs) (p d:Nat) (H:Heap) (hb:H[b]?=some (rdB s p d)) (hp:p<s.length) (hl:s.length<=200) :
    zCr C GT zDO [pR b] H b (wkC s) zHS (mkR s d ((quo (s.drop (p+1)) (p+1)).map fun q=>(zHP q.1,q.2))):=by
  have hbl:b<H.length:=(zg hb).1;obtain ⟨r,hr⟩:∃ r,quo (s.drop (p+1)) (p+1)=r:=⟨_,rfl⟩;rw [hr];refine zAH<|sW ?_
  refine zS (r:=p+1) rfl tO<|sS (.int .i64 ↑(p+1)) [AV.str s,.int .i64 ↑(p+1),zK d] ?_
  refine zBB (fun t:TSt=>[(2,pR H.length),(4,t.v),(0,pR b),(3,zK p)])
    (fun t H'=>Owns (H.set b (rdB s t.k d)) H' t.v 1 (t.acc.map zo)/\OldB H b (rdB s t.k d) H'/\H'[b]?=some (rdB s t.k d)/\H'[H.length]?=some (.box (ndC zZ))/\t.k<=s.length/\t.acc.length<=t.k/\(quo (s.drop t.k) t.k).map (fun q=>(t.acc++q.1,q.2))=r)
    (fun t=>s.length-t.k) ⟨p+1,.lst (some true) 0 [],[]⟩ rfl ⟨.inl ⟨rfl,rfl⟩,(OldB.start hb).push _ |>.setB _,zV (zF hb),zC tO zB,by simp only;omega,by simp,by simp only [zRC];rw [hr];cases r <;> rfl⟩ (fun ⟨k,v,acc⟩ H1 ⟨how,hob,hb1,h2,hk,hal,hq⟩=>?_)
  dsimp only at how hob hb1 h2 hk hal hq ⊢;have hlen1:=hob.old.1;rw [zQZ] at hlen1;by_cases hlt:k<s.length
  case neg=>
    have e:r=none:=by rw [<-hq,zRD tO];rfl
    subst e;have e0:mkR s d (Option.map (fun q:Bs×Nat=>(zHP q.1,q.2)) none)=none:=rfl;rw [e0];have hf:=hF b s k d p 2 H1 hb1;clear hF;refine sW ?_;refine zA1 hf ?_;exact sP
  obtain ⟨c,hc⟩:∃ c,s[k]?=some c:=⟨_,zQS hlt⟩;rw [zBe hc] at hq;by_cases h34:c=34
  · subst h34
    by_cases hend:k+1<s.length/\s[k+1]?=some 34
    · obtain ⟨hlt2,hc2⟩:=hend
      rw [zBe hc2,quo_dbl,zS8] at hq;refine sW ?_;refine zS (r:=k+1) rfl tO<|sS (.int .i64 ↑(k+1)) [AV.str s,.int .i64 ↑(k+1),zK d] ?_
      refine sW ?_;refine zAW (vs':=[zo 34]) rfl rfl ?_;have hob2:=hob.setB (rdB s (k+1) d);refine zBt (H0:=H.set b (rdB s (k+1) d)) (((how.set (how.notBox hb1) _).base (by simp)).push _) (hob2.old.push _) zAo tO (by simp only [zQW,zQO,zQV];omega) (by simp) fun v' H' ho' hH' hb' hf=>?_;have hx1:=hf b _ (how.notBox hb1) (zF (zV hb1));have hx2:=hf H.length _ (how.notBox h2) (zF (zC tO h2));refine sW ?_;refine zS (r:=k+2) tO tO<|sS (.int .i64 ↑(k+2)) [AV.str s,.int .i64 ↑(k+2),zK d] ?_
      refine zAP (TSt.mk (k+2) v' (acc++[34])) rfl ⟨(((by rw [zQ5];exact ho':Owns _ _ _ _ _).set (ho'.notBox hx1) _).base (by simp)),(OldB.mk hbl hH').setB _,zV hx1,zC tO hx2,by simp only;omega,by simp only [zQR,zQO,zQV];omega, ?_⟩ (by simp only;omega);rw [<-hq];simp only [zQu,zRP];rfl
    · rw [quo_end (by
        intro e;have hlt2:k+1<s.length:=by
          rcases zRz (k+1) s.length with h|h
          · exact h
          · rw [zRD h] at e;cases e
        refine hend ⟨hlt2, ?_⟩;rw [zS5] at e;exact e)] at hq
      subst hq;have e0:mkR s d (Option.map (fun q:Bs×Nat=>(zHP q.1,q.2)) (Option.map (fun q:Bs×Nat=>(acc++q.1,q.2)) (some ([],k+1))))=some (ndV (zHP acc),rdB s (k+1) d):=by simp [mkR]
      rw [e0];by_cases hlt2:k+1<s.length
      · obtain ⟨c2,hc2⟩:∃ c,s[k+1]?=some c:=⟨_,zQS hlt2⟩
        have hn:c2.toNat≠34:=fun e=>hend ⟨hlt2,by rw [hc2,show c2=34 from zQm.1 e]⟩;refine sW ?_;refine zS (r:=k+1) rfl tO<|sS (.int .i64 ↑(k+1)) [AV.str s,.int .i64 ↑(k+1),zK d] ?_
        refine sW ?_;refine zp (zQ8.2 tO)<|zHd (how.set (how.notBox hb1) _)<|sW ?_
        refine sSA (.agg (zN 2 0 acc)) ?_;exact zAF (o:=0) (ndV (zHP acc)) rfl rfl rfl (zH (zV (zC tO h2))) rfl rfl rfl hO rfl
      · refine sW ?_
        refine zS (r:=k+1) rfl tO<|sS (.int .i64 ↑(k+1)) [AV.str s,.int .i64 ↑(k+1),zK d] ?_
        refine sW ?_;refine zHd (how.set (how.notBox hb1) _)<|sW ?_
        refine sSA (.agg (zN 2 0 acc)) ?_;exact zAF (o:=0) (ndV (zHP acc)) rfl rfl rfl (zH (zV (zC tO h2))) rfl rfl rfl hO rfl
  · have hn:c.toNat≠34:=fun e=>h34 (zQm.1 e)
    rw [quo_chr h34,zS8] at hq;refine sW ?_;refine zAW (vs':=[zo c]) rfl rfl<|zBt (H0:=H.set b (rdB s k d)) (how.push _) (hob.old.push _) zAo tO (by simp only [zQW,zQO,zQV];omega) (by simp) fun v' H' ho' hH' hb' hf=>?_
    have hx1:=hf b _ (how.notBox hb1) (zF hb1);have hx2:=hf H.length _ (how.notBox h2) (zF h2);refine sW ?_;refine zS (r:=k+1) tO tO<|sS (.int .i64 ↑(k+1)) [AV.str s,.int .i64 ↑(k+1),zK d] ?_
    refine zAP (TSt.mk (k+1) v' (acc++[c])) rfl ⟨(((by rw [zQ5];exact ho':Owns _ _ _ _ _).set (ho'.notBox hx1) _).base (by simp)),(OldB.mk hbl hH').setB _,zV hx1,zC tO hx2,by simp only;omega,by simp only [zQR,zQO,zQV];omega, ?_⟩ (by simp only;omega);rw [<-hq];simp only [zQu,zRP];rfl
end
end Go.AM
set_option maxRecDepth 20000
namespace Go.AM
theorem litP_word {t:Bs} (h:t.head?≠some 35):litP t=if t=zFz then some (3,1) else if t=zDY then some (3,0) else none:=by
  unfold litP;by_cases h1:t=zFz
  · rw [zQQ h1,zQQ h1]
  · rw [zQN h1,zQN h1]
    by_cases h2:t=zDY
    · rw [zQQ h2,zQQ h2]
    · rw [zQN h2,zQN h2]
      rw [zQN (fun e=>h (by rw [e];rfl)),zQN (fun e=>h (by rw [e];rfl)),zQN (fun e=>h (by rw [e];rfl)),zQN (fun e=>h (by rw [e];rfl)),zQN (fun e=>h (by rw [e];rfl)),zQN (fun e=>h (by rw [e];rfl))]
section
variable {C:CSpec} {GT:Nat->Option AV}
theorem plain_ev (hW:∀ s H,s.length<=1000->∃ n0,C zCz [.str s] H (wholeV (wholeS s) n0) H) (hL:∀ s H,C zAY [.str s] H (litV (litP s)) H) (hR:∀ s H,s.length<=1000->C zBc [.str s] H (refV (zE9 s)) H)
    (t:Bs) (H:Heap) (hl:t.length<=1000) (h45:t.head?≠some 45) (h35:t.head?≠some 35):EFun C GT zGM [.str t] H (zMS (zIe t)) H:=by
  have hw:=hW t (H++[ABlk.box (ndC zZ)]) hl;have hlit:=hL t (H++[ABlk.box (ndC zZ)]);have hr:=fun H=>hR t H hl;clear hW hL hR;rw [wholeS_of h45] at hw;rw [litP_word h35] at hlit;refine zI ?_;unfold zIe;cases hwp:zCL t with
  | some n=>
    rw [hwp] at hw;obtain ⟨n0,hw⟩:=hw;have hw:C zCz [.str t] (H++[ABlk.box (ndC zZ)]) (.tup [zJ n,.bool true]) (H++[ABlk.box (ndC zZ)]):=hw;have e:zMS (some (zJ7 n))=.tup [ndV (zJ7 n),.bool true]:=rfl;simp only;rw [e];refine sW ?_;refine sSA (.agg (zN 1 n [])) ?_;exact zn (o:=0) rfl rfl (zH hP) rfl rfl rfl rfl hO
  | none=>
    rw [hwp] at hw;obtain ⟨n0,hw⟩:=hw;have hw:C zCz [.str t] (H++[ABlk.box (ndC zZ)]) (.tup [zJ n0,.bool false]) (H++[ABlk.box (ndC zZ)]):=hw;simp only;by_cases h1:t=zFz
    · rw [zQQ h1] at hlit ⊢
      have hlit:C zAY [.str t] (H++[ABlk.box (ndC zZ)]) (.tup [v3 3 1,.bool true]) (H++[ABlk.box (ndC zZ)]):=hlit;have e:zMS (some (zE5 true))=.tup [ndV (zE5 true),.bool true]:=rfl;rw [e];clear hr;refine sW ?_;refine sSA (v3 3 1) ?_;refine sW ?_;refine sSA (.agg (zN 3 1 [])) ?_;exact zn (o:=0) rfl rfl (zH hP) rfl rfl rfl rfl hO
    rw [zQN h1] at hlit ⊢;by_cases h2:t=zDY
    · rw [zQQ h2] at hlit ⊢
      have hlit:C zAY [.str t] (H++[ABlk.box (ndC zZ)]) (.tup [v3 3 0,.bool true]) (H++[ABlk.box (ndC zZ)]):=hlit;have e:zMS (some (zE5 false))=.tup [ndV (zE5 false),.bool true]:=rfl;rw [e];clear hr;refine sW ?_;refine sSA (v3 3 0) ?_;refine sW ?_;refine sSA (.agg (zN 3 0 [])) ?_;exact zn (o:=0) rfl rfl (zH hP) rfl rfl rfl rfl hO
    rw [zQN h2] at hlit ⊢;have hlit:C zAY [.str t] (H++[ABlk.box (ndC zZ)]) (.tup [v3 0 0,.bool false]) (H++[ABlk.box (ndC zZ)]):=hlit;cases hrp:zE9 t with
    | some r=>
      rw [hrp] at hr;have hr:∀ H,C zBc [.str t] H (.tup [rV r,.nili]) H:=hr;have e:zMS (Option.map zBz (some r))=.tup [ndV (zBz r),.bool true]:=rfl;rw [e];refine sW ?_;refine sSA (v3 0 0) ?_;refine sW ?_;refine sSA (rV r) ?_;refine sW ?_;refine sSA (AV.agg [.int .i64 5,.int .i64 0,AV.str [],.int .i64 r.col,.int .i64 r.row,AV.bool r.fc,AV.bool r.fr,.int .i64 0,.int .i64 0,AV.bool false,AV.bool false,AV.lst (some true) 0 []]) ?_;exact zn (o:=0) rfl rfl (zH hP) rfl rfl rfl rfl hO
    | none=>
      rw [hrp] at hr;have hr:∀ H,C zBc [.str t] H (.tup [rV noRef,zIb 2]) H:=hr;have e:zMS (Option.map zBz none)=.tup [ndV zZ,.bool false]:=rfl;rw [e];refine sW ?_;refine sSA (v3 0 0) ?_;refine sW ?_;refine sSA (rV noRef) ?_;refine sW ?_;refine sSA (.agg (zN 0 0 [])) ?_;exact zn (o:=0) rfl rfl (zH hP) rfl rfl rfl rfl hO
theorem par_ev (hWt:∀ c b s p d H,H[b]?=some (rdB s p d)->p<=s.length->s.length<=200->(s[skip s p]?=some c->C z6 [pR b,byV c] H (.tup []) (H.set b (rdB s (skip s p+1) d)))/\(s[skip s p]?≠some c->C z6 (.pan .undef::[pR b,byV c]) H zHS (H.set b (.box (wkC s)))))
    (b rb:Nat) (s:Bs) (p d:Nat) (H:Heap) (hb:H[b]?=some (rdB s p d)) (hr:H[rb]?=some (.box [pR b])) (hp:p<s.length) (hl:s.length<=200)
    (hT:∀ H',H'[b]?=some (rdB s (p+1) d)->CR C zi [pR b,zJ 0] H' b s d (bl s ((P s).loose 1 (p+1) d))) :
    zCr C GT zCQ [pR rb] H b (wkC s) zHS (mkR s d (parS s p d)):=by
  have hbl:b<H.length:=(zg hb).1;have hne:rb≠b:=fun e=>by rw [e,hb] at hr;cases hr
  have hrl:rb<H.length:=(zg hr).1;rw [parS_is];have hends:∀ q,(P s).loose 1 (p+1) d=some q->q.2<=s.length:=fun q hq=>((zCv s).loose 1 (p+1) d q tO hq).2;generalize (P s).loose 1 (p+1) d=r at *;refine zAH ?_;cases r with
  | none=>
    have hc:=fun H' h1=>(hT H' h1).2 rfl;clear hT hWt;have e:mkR s d (Option.bind none fun q:Nd×Nat=>(paren s q.2).map fun e=>(q.1,e))=none:=rfl;rw [e];refine sW ?_;refine zS (r:=p+1) rfl tO<|sS (.int .i64 ↑(p+1)) [AV.str s,.int .i64 ↑(p+1),zK d] ?_
    refine sW ?_;refine zA1 (hc _ (zV (zF hb))) ?_;exact sP
  | some p'=>
    obtain ⟨n,e⟩:=p';have hel:=zCS (hends _ rfl);have hc:=fun H' h1=>(hT H' h1).1 n (skip s e) rfl;have hww:=fun H' h=>hWt 41 b s (skip s e) d H' h hel hl;rw [zGP] at hww;clear hT hWt;have e0:(Option.bind (some (n,e)) fun q:Nd×Nat=>(paren s q.2).map fun e=>(q.1,e))=(paren s e).map fun e=>(n,e):=rfl;rw [e0];unfold paren;by_cases h41:s[skip s e]?=some 41
    · have hwn:=fun H' h=>(hww H' h).1 h41
      clear hww;rw [zQQ h41];have e1:mkR s d (Option.map (fun e=>(n,e)) (some (skip s e+1)))=some (ndV n,rdB s (skip s e+1) d):=rfl;rw [e1];refine sW ?_;refine zS (r:=p+1) rfl tO<|sS (.int .i64 ↑(p+1)) [AV.str s,.int .i64 ↑(p+1),zK d] ?_
      refine sW ?_;refine zCT (hc _ (zV (zF hb)))<|sSA (ndV n) ?_
      refine sW ?_;refine zCT (hwn _ hP)<|sW ?_
      refine sSA (ndV n) ?_;exact zAF (o:=0) (ndV n) (by first|rfl|assumption) rfl rfl (zH hP) rfl rfl rfl hO rfl
    · have hwn:=fun H' h=>(hww H' h).2 h41
      clear hww;rw [zQN h41];have e1:mkR s d (Option.map (fun e=>(n,e)) none)=none:=rfl;rw [e1];refine sW ?_;refine zS (r:=p+1) rfl tO<|sS (.int .i64 ↑(p+1)) [AV.str s,.int .i64 ↑(p+1),zK d] ?_
      refine sW ?_;refine zCT (hc _ (zV (zF hb)))<|sSA (ndV n) ?_
      refine sW ?_;refine zA1 (hwn _ hP) ?_;exact sP
theorem callc_ev (b rb sb:Nat) (s t:Bs) (p d:Nat) (H:Heap) (hb:H[b]?=some (rdB s p d)) (hr:H[rb]?=some (.box [pR b])) (hs:H[sb]?=some (.box [.str t])) (r:Option (Nd×Nat))
    (hT:∀ H',H'[b]?=some (rdB s p d)->CR C zB1 [pR b,.str t] H' b s d r) :
    zCr C GT zCR [pR rb,pR sb] H b (wkC s) zHS (mkR s d r):=by
  have hbl:b<H.length:=(zg hb).1;refine zAH ?_;cases r with
  | none=>
    have hc:=fun H' h1=>(hT H' h1).2 rfl;clear hT;have e:mkR s d none=none:=rfl;rw [e];refine sW ?_;refine zA1 (hc _ (zF hb)) ?_;exact sP
  | some p'=>
    obtain ⟨n,e⟩:=p';have hc:=fun H' h1=>(hT H' h1).1 n e rfl;clear hT;have e0:mkR s d (some (n,e))=some (ndV n,rdB s e d):=rfl;rw [e0];refine sW ?_;refine zCT (hc _ (zF hb))<|sSA (ndV n) ?_
    exact zAF (o:=0) (ndV n) (by first|rfl|assumption) rfl rfl (zH hP) rfl rfl rfl hO rfl
end
end Go.AM
