/- Several texts of mine in one (Fp2, Lea, Fr1, Fr2, Fr3). Own work. -/
import Derived.Test.YtkeblfepjkdleaaGreatDoorGAm30Fp1
import Derived.Test.YtkeblfepjkdleaaGreatDoorGFq0Bg0
set_option maxRecDepth 20000
set_option linter.all false
namespace Go.AM
def zD5 (s:Bs):Bool×Bs:=
  match s with
  |[]=>(false,[])
  |c::r=>if c=45 then (true,r) else (false,c::r)
def zEf (s:Bs):Prop:=(zD5 s).2≠[]/\¬ ((zD5 s).2.head?=some 48/\s≠[48])/\(zD5 s).2.all zHE=true
instance (s:Bs):Decidable (zEf s):=by unfold zEf;exact inferInstance
def zOr (s:Bs):Int:=if (zD5 s).1=true then -(zDp (zD5 s).2:Int) else zDp (zD5 s).2
def zRq (s:Bs):Option Int:=if zEf s then (if zEK (zOr s) then some (zOr s) else none) else none
theorem zNf {t:Bs} (h:t.head?≠some 45):zD5 t=(false,t):=by
  cases t with
  |nil=>rfl
  | cons c r=>
    unfold zD5;simp only;rw [zlD (fun e=>h (by rw [e];rfl))]
theorem zQL {t:Bs} (h1:t≠[]) (h2:¬ (t.head?=some 48/\t≠[48])) (h3:t.all zHE=true):zCQ t=if zDp t<=9223372036854775807 then some (zDp t:Int) else none:=by
  unfold zCQ;rw [zlD (fun x=>x.elim h1 h2),zlF h3]
theorem zUW {t:Bs} (h:¬ (t≠[]/\¬ (t.head?=some 48/\t≠[48])/\t.all zHE=true)):zCQ t=none:=by
  unfold zCQ;split
  · rfl
  · rename_i h1
    rw [zlD (fun h3=>h ⟨fun e=>h1 (.inl e),fun e=>h1 (.inr e),h3⟩)]
theorem zaY {t:Bs} (h:t.head?≠some 45):zRq t=zCQ t:=by
  have hd:zEf t↔(t≠[]/\¬ (t.head?=some 48/\t≠[48])/\t.all zHE=true):=by unfold zEf;rw [zNf h]
  have hv:zOr t=zDp t:=by unfold zOr;rw [zNf h];rfl
  unfold zRq;rw [hv];by_cases hf:zEf t
  · obtain ⟨h1,h2,h3⟩:=hd.1 hf
    rw [zlF hf,zQL h1 h2 h3];by_cases h4:zDp t<=9223372036854775807
    · rw [zlF h4,zlF (show zEK (zDp t:Int) by unfold zEK;omega)]
    · rw [zlD h4,zlD (show ¬ zEK (zDp t:Int) by unfold zEK;omega)]
  · rw [zlD hf,zUW (fun x=>hf (hd.2 x))]
theorem decF (l:Bs):∀ n:Nat,l.foldl (fun n c=>n*10+(c.toNat-48)) n=n*10^l.length+zDp l:=by
  unfold zDp;induction l with
  |nil=>intro n;simp
  | cons c r ih=>
    intro n;simp only [znf,zlE];rw [ih,ih (0*10+(c.toNat-48)),zmI,zmA,znQ,zlx];have:n*10*10^r.length=n*(10^r.length*10):=by rw [zmz,zmZ 10]
    omega
theorem zUX (c:UInt8) (r:Bs):zDp (c::r)=(c.toNat-48)*10^r.length+zDp r:=by
  show (c::r).foldl _ 0=_;rw [znf,decF];simp
theorem zUY (l:Bs) (c:UInt8):zDp (l++[c])=zDp l*10+(c.toNat-48):=by unfold zDp;rw [zn4];rfl
theorem zO1 (c:UInt8):zHE c=true↔48<=c.toNat/\c.toNat<=57:=by unfold zHE;rw [zlG,zmb,zmb]
theorem zeL (c:UInt8):zQj c=true↔65<=c.toNat/\c.toNat<=90:=by unfold zQj;rw [zlG,zmb,zmb]
theorem zQM:∀ l:Bs,l.all zHE=true->zDp l<10^l.length
  |[],_=>by simp [zDp]
  | c::r,h=>by
    rw [zmq,zlG] at h;have h1:=(zO1 c).1 h.1;have h2:=zQM r h.2;rw [zUX,zlE,zmI];have:(c.toNat-48)*10^r.length<=9*10^r.length:=zl1 _ tO;omega
theorem zaZ {c:UInt8} {r:Bs} (h:49<=c.toNat):10^r.length<=zDp (c::r):=by
  rw [zUX];have:1*10^r.length<=(c.toNat-48)*10^r.length:=zl1 _ tO;omega
def zNg (t:Bs):Prop:=t≠[]/\t.length<=2/\t.head?≠some 48/\t.all zHE=true
instance (t:Bs):Decidable (zNg t):=by unfold zNg;exact inferInstance
theorem zhN (fc:Bool) (col:Int) (p:Bool×Bs):zd7 fc col p=if zNg p.2 then some ⟨col,zDp p.2,fc,p.1⟩ else none:=by
  obtain ⟨d,t⟩:=p;unfold zd7;simp only;by_cases hf:zNg t
  · obtain ⟨h1,h2,h3,h4⟩:=hf
    rw [zlF ⟨h1,h2,h3,h4⟩,zQL h1 (fun x=>h3 x.1) h4];obtain ⟨c,r,rfl⟩:∃ c r,t=c::r:=zmD h1;have hlt:=zQM _ h4;have hc:=(zO1 c).1 (by rw [zmq,zlG] at h4;exact h4.1);have h49:49<=c.toNat:=by
      have:c.toNat≠48:=fun e=>h3 (by rw [show c=48 from zlc.1 e];rfl);omega
    have hge:=zaZ (r:=r) h49;have hp:10^(c::r).length<=10^2:=zmT tO h2;have hq:0<10^r.length:=Nat.pow_pos tO;have e2:(10:Nat)^2=100:=rfl;rw [zlF tO];simp only;rw [zlF ⟨by omega,by omega⟩]
  · rw [zlD hf]
    by_cases hw:t≠[]/\¬ (t.head?=some 48/\t≠[48])/\t.all zHE=true
    · obtain ⟨h1,h2,h4⟩:=hw
      rw [zQL h1 h2 h4];by_cases h0:t.head?=some 48
      · have:t=[48]:=Decidable.byContradiction fun e=>h2 ⟨h0,e⟩
        subst this;rfl
      · obtain ⟨c,r,rfl⟩:∃ c r,t=c::r:=zmD h1
        have hc:=(zO1 c).1 (by rw [zmq,zlG] at h4;exact h4.1);have h49:49<=c.toNat:=by
          have:c.toNat≠48:=fun e=>h0 (by rw [show c=48 from zlc.1 e];rfl);omega
        have hge:=zaZ (r:=r) h49;have hl:2<=r.length:=by
          rcases zmp r.length 2 with h|h
          · exact absurd ⟨h1,by simp only [zlE];omega,h0,h4⟩ hf
          · exact h
        have hp:10^2<=10^r.length:=zmT tO hl;have e2:(10:Nat)^2=100:=rfl;split
        · rename_i n hn
          split at hn
          · cases hn
            rw [zlD tO]
          · cases hn
        · rfl
    · rw [zUW hw]
def zUZ (s:Bs):Option (Int×Int):=
  if s=zGA then some (3,1) else if s=zDc then some (3,0) else
  if s=[35,68,73,86,33] then some (4,1) else if s=[35,86,65,76,85,69,33] then some (4,2) else if s=[35,82,69,70,33] then some (4,3) else
  if s=[35,78,65,77,69,33] then some (4,4) else if s=[35,78,85,77,33] then some (4,5) else if s=[35,78,79,78,69,33] then some (4,6) else none
def v3 (k n:Int):AV:=.agg [.int .i64 k,.int .i64 n,.str []]
def zQN:AV:=.agg [.str [],.str [35,68,73,86,33],.str [35,86,65,76,85,69,33],.str [35,82,69,70,33],.str [35,78,65,77,69,33],.str [35,78,85,77,33],.str [35,78,79,78,69,33]]
def litV (r:Option (Int×Int)):AV:=match r with
  |some (k,n)=>.tup [v3 k n,.bool true]
  |none=>.tup [v3 0 0,.bool false]
def zaa (r:Option Int) (n0:Int):AV:=match r with
  |some n=>.tup [zH n,.bool true]
  |none=>.tup [zH n0,.bool false]
def rV (r:RefP):AV:=.agg [.int .i64 r.col,.int .i64 r.row,.bool r.fc,.bool r.fr]
def zab (r:Option RefP):AV:=match r with
  |some r=>.tup [rV r,.nili]
  |none=>.tup [rV noRef,zJG 2]
def zMi (r:Option Nd):AV:=match r with
  |some n=>.tup [ndV n,.bool true]
  |none=>.tup [ndV zZ,.bool false]
section
variable {C:CSpec} {GT:zG_}
theorem zOs (hP:∀ s p H,C zAZ [.str s,.str p] H (.bool (p.isPrefixOf s)) H) (s p:Bs) (H:Heap):EFun C GT zCv [.str s,.str p] H (.str (if p.isPrefixOf s=true then s.drop p.length else s)) H:=by
  have hp:=hP s p H;clear hP;refine zJ ?_;by_cases h:p.isPrefixOf s=true
  · rw [h] at hp
    rw [zlF h];have hl:p.length<=s.length:=by rw [zGB,zlG,zmb] at h;exact h.1
    refine sW ?_;refine zx (v:=.str (s.drop p.length)) (zIv s p.length hl) ?_;exact sRv
  · rw [zl8.2 h] at hp
    rw [zlD h];refine sW ?_;exact sRv
theorem zS0 (hP:∀ s p H,C zBD [.str s,.str p] H (.str (if p.isPrefixOf s=true then s.drop p.length else s)) H) (s p:Bs) (H:Heap):EFun C GT zD8 [.str s,.str p] H (.str (if p.isPrefixOf s=true then s.drop p.length else s)) H:=by
  have hp:=hP s p H;clear hP;refine zJ<|sW ?_
  exact sRv
theorem zeM (n:Int) (H:Heap):EFun C GT zIf [zH n] H (v3 4 n) H:=by
  refine zJ ?_;refine sW ?_;refine sSA (.agg [.int .i64 4,zH n,.str []]) ?_;exact zAa (o:=0) rfl rfl (zI hP) rfl rfl rfl hO
theorem is_ev (b:Bool) (H:Heap):EFun C GT zNQ [.bool b] H (v3 3 (if b=true then 1 else 0)) H:=by
  refine zJ ?_;cases b
  · refine sW ?_
    refine sSA (.agg zV5) ?_;refine sW ?_;refine sSA (.agg zV5) ?_;exact zAa (o:=0) rfl rfl (zI hP) rfl rfl rfl hO
  · refine sW ?_
    refine sSA (.agg zV5) ?_;refine sW ?_;refine sS (.int .i64 1) zV7 ?_;refine sW ?_;refine sSA (.agg zV7) ?_;exact zAa (o:=0) rfl rfl (zI hP) rfl rfl rfl hO
theorem zeN (s:Bs):(zRM s [48,49,50,51,52,53,54,55,56,57]=[])↔s.all zHE=true:=by
  rw [zXG];have:(fun c:UInt8=>zKA [48,49,50,51,52,53,54,55,56,57] c.toNat)=zHE:=by
    funext c
    unfold zKA zHE;rw [zng];simp only [List.any_cons,List.any_nil,Bool.or_false,zme,zlG,zlV,zll];have e:∀ n:Nat,n<256->(UInt8.ofNat n).toNat=n:=fun n h=>by simp;omega
    have e48:(48:UInt8).toNat=48:=rfl;have e49:(49:UInt8).toNat=49:=rfl;have e50:(50:UInt8).toNat=50:=rfl;have e51:(51:UInt8).toNat=51:=rfl;have e52:(52:UInt8).toNat=52:=rfl;have e53:(53:UInt8).toNat=53:=rfl;have e54:(54:UInt8).toNat=54:=rfl;have e55:(55:UInt8).toNat=55:=rfl;have e56:(56:UInt8).toNat=56:=rfl;have e57:(57:UInt8).toNat=57:=rfl;rw [e48,e49,e50,e51,e52,e53,e54,e55,e56,e57];omega
  rw [this]
def zac:Bs:=[65,66,67,68,69,70,71,72,73,74,75,76,77,78,79,80,81,82,83,84,85,86,87,88,89,90]
theorem zeO:∀ n:Fin 256,zKA zac n.val=(decide (65<=n.val)&&decide (n.val<=90)):=by decide +kernel
theorem zeP (s:Bs):(zRM s zac=[])↔s.all zQj=true:=by
  rw [zXG];have:(fun c:UInt8=>zKA zac c.toNat)=zQj:=by
    funext c
    exact zeO ⟨c.toNat,zms c⟩
  rw [this]
theorem zad (hT:∀ s cs H,(∀ c∈cs,c.toNat<128)->2<=cs.length->cs.length<=1000->s.length<=1000->C zCU [.str s,.str cs] H (.str (zRM s cs)) H) (s:Bs) (H:Heap) (hl:s.length<=1000):EFun C GT zFs [.str s] H (.bool (zA8 s)) H:=by
  obtain ⟨r,hr⟩:∃ r,zA8 s=r:=⟨_,rfl⟩;rw [hr];unfold zA8 at hr;have ht:=hT s zac H zD_ zD_ zD_ hl;clear hT;refine zJ ?_;by_cases h1:2<=s.length
  · by_cases h2:s.length<=10
    · rw [zlY h1,zlY h2,zmj,zmj] at hr
      refine sW ?_;refine zHO (v0:=.bool (zRM s zac==[])) (zlR AV.bool ?_) rfl rfl rfl rfl (Old.refl _);rw [<-hr,zng,zll,zeP]
    · rw [zlf h2,Bool.and_false,zmt] at hr
      subst hr;refine sW ?_;exact sRv
  · rw [zlf h1,zmt,zmt] at hr
    subst hr;refine sW ?_;exact sRv
theorem zae (b:Nat) (t:Bs) (H:Heap) (hb:H[b]?=some (.box [.str t])) (x':AV):zCw C GT zIl [pR b] H b [.undef] x' (some (.bool (dollar t).1,.box [.str (dollar t).2])):=by
  refine zAJ ?_;cases t with
  | nil=>
    refine sW ?_;exact sRo
  | cons c r=>
    by_cases h:c=36
    · subst h
      have e:dollar (36::r)=(true,r):=rfl;rw [e];refine sW ?_;refine zCF (i:=0) rfl rfl<|sW ?_
      refine zx (v:=.str r) (zIv (36::r) 1 zS_)<|sS (.str r) [.str r] ?_
      exact sRo
    · have hn:c.toNat≠36:=fun e=>h (zlc.1 e)
      have e:dollar (c::r)=(false,c::r):=zlD h;rw [e];refine sW ?_;refine zCF (i:=0) rfl rfl<|sW ?_
      exact sRo
theorem zeQ (hT:∀ s cs H,(∀ c∈cs,c.toNat<128)->2<=cs.length->cs.length<=1000->s.length<=1000->C zCU [.str s,.str cs] H (.str (zRM s cs)) H) (hP:∀ s H,C zBP [.str s,.str [45]] H (.str (zD5 s).2) H)
    (hA:∀ s H,zEf s->zEK (zOr s)->s.length<=1000->C zBb [.str s] H (.tup [zH (zOr s),.nili]) H) (hA2:∀ s H,zEf s->¬ zEK (zOr s)->s.length<=1000->∃ n t,C zBb [.str s] H (.tup [zH n,.iface t .undef]) H)
    (s:Bs) (H:Heap) (hl:s.length<=1000):∃ n0,EFun C GT zIk [.str s] H (zaa (zRq s) n0) H:=by
  have hp:=hP s H;have hdl:(zD5 s).2.length<=1000:=by
    unfold zD5;split
    · simp
    · rename_i c r
      simp only [zlE] at hl;split <;> simp only [zlE] <;> omega
  have ht:=hT (zD5 s).2 [48,49,50,51,52,53,54,55,56,57] H zD_ zD_ zD_ hdl;have hda:=zeN (zD5 s).2;have hdf:zEf s↔((zD5 s).2≠[]/\¬ ((zD5 s).2.head?=some 48/\s≠[48])/\(zD5 s).2.all zHE=true):=zmk;have ha:=hA s H;have ha2:=hA2 s H;clear hT hP hA hA2;unfold zRq;obtain ⟨d,hd⟩:∃ d,(zD5 s).2=d:=⟨_,rfl⟩;rw [hd] at hp ht hda hdf;generalize zRM d [48,49,50,51,52,53,54,55,56,57]=tr at *;by_cases hf:zEf s
  · rw [zlF hf]
    obtain ⟨h1,h2,h3⟩:=hdf.1 hf;have htr:tr=[]:=hda.2 h3;subst htr;obtain ⟨c,r,rfl⟩:∃ c r,d=c::r:=zmD h1;have hres:∃ n x,C zBb [.str s] H (.tup [zH n,x]) H/\((x=.nili/\(if zEK (zOr s) then some (zOr s) else none:Option Int)=some n)\/((∃ t,x=.iface t .undef)/\(if zEK (zOr s) then some (zOr s) else none:Option Int)=none)):=by
      by_cases hi:zEK (zOr s)
      · exact ⟨_,_,ha hf hi hl,.inl ⟨rfl,by rw [zlF hi]⟩⟩
      · obtain ⟨n,t,h⟩:=ha2 hf hi hl
        exact ⟨n,_,h,.inr ⟨⟨t,rfl⟩,by rw [zlD hi]⟩⟩
    obtain ⟨n,x,hat,hx⟩:=hres;clear ha ha2;have h48:c.toNat=48->s=[48]:=fun e=>Decidable.byContradiction fun h=>h2 ⟨by rw [show c=48 from zlc.1 e];rfl,h⟩;by_cases hc:c.toNat=48
    · have:=h48 hc
      rcases hx with ⟨rfl,e⟩|⟨⟨t,rfl⟩,e⟩
      · rw [e]
        refine ⟨n,zJ ?_⟩;refine sW ?_;refine zCF (i:=0) rfl rfl<|sW ?_
        refine zi (zle.2 this)<|sW ?_
        exact sRv
      · rw [e]
        refine ⟨n,zJ ?_⟩;refine sW ?_;refine zCF (i:=0) rfl rfl<|sW ?_
        refine zi (zle.2 this)<|sW ?_
        exact sRv
    · rcases hx with ⟨rfl,e⟩|⟨⟨t,rfl⟩,e⟩
      · rw [e]
        refine ⟨n,zJ ?_⟩;refine sW ?_;refine zCF (i:=0) rfl rfl<|sW ?_
        exact sRv
      · rw [e]
        refine ⟨n,zJ ?_⟩;refine sW ?_;refine zCF (i:=0) rfl rfl<|sW ?_
        exact sRv
  · rw [zlD hf]
    refine ⟨0,zJ ?_⟩;clear ha ha2;cases d with
    | nil => refine zM (hp) ?_
             refine sW ?_;exact sRv
    | cons c r=>
      by_cases hc:c.toNat=48
      · by_cases hs:s=[48]
        · have htr:tr≠[]:=fun e=>hf (hdf.2 ⟨by simp,fun x=>x.2 hs,hda.1 e⟩)
          refine sW ?_;refine zCF (i:=0) rfl rfl<|sW ?_
          refine zi (zle.2 hs)<|sW ?_
          refine zn (zlz.2 htr) ?_;exact sRv
        · refine sW ?_
          refine zCF (i:=0) rfl rfl<|sW ?_
          refine zn (zlz.2 hs)<|sW ?_
          exact sRv
      · have htr:tr≠[]:=fun e=>hf (hdf.2 ⟨by simp,fun x=>hc (by have:=x.1;simp only [List.head?_cons,zlJ] at this;rw [this];rfl),hda.1 e⟩)
        refine sW ?_;refine zCF (i:=0) rfl rfl<|sW ?_
        refine zn (zlz.2 htr) ?_;exact sRv
theorem zYa (k:Nat) (h:k<7):∃ t:Bs,[AV.str [],AV.str [35,68,73,86,33],AV.str [35,86,65,76,85,69,33],AV.str [35,82,69,70,33],AV.str [35,78,65,77,69,33],AV.str [35,78,85,77,33],AV.str [35,78,79,78,69,33]][k]?=some (.str t)/\(∀ s:Bs,s≠[]->s≠zGA->s≠zDc->(t=s->zUZ s=some (4,(k:Int))))/\(k=0->t=[]):=by
  rcases k with _|_|_|_|_|_|_|k
  · exact ⟨_,rfl,fun s h _ _ e=>absurd e.symm h,fun _=>rfl⟩
  · exact ⟨_,rfl,fun s _ h1 h2 e=>by subst e;rfl,fun h=>by cases h⟩
  · exact ⟨_,rfl,fun s _ h1 h2 e=>by subst e;rfl,fun h=>by cases h⟩
  · exact ⟨_,rfl,fun s _ h1 h2 e=>by subst e;rfl,fun h=>by cases h⟩
  · exact ⟨_,rfl,fun s _ h1 h2 e=>by subst e;rfl,fun h=>by cases h⟩
  · exact ⟨_,rfl,fun s _ h1 h2 e=>by subst e;rfl,fun h=>by cases h⟩
  · exact ⟨_,rfl,fun s _ h1 h2 e=>by subst e;rfl,fun h=>by cases h⟩
  · omega
theorem zYb (hG:GT zEv=some zQN) (hI:∀ b H,C zCm [.bool b] H (v3 3 (if b=true then 1 else 0)) H) (hW:∀ n H,C zCK [zH n] H (v3 4 n) H) (s:Bs) (H:Heap) :
    EFun C GT zGW [.str s] H (litV (zUZ s)) H:=by
  refine zJ ?_;by_cases h1:s=zGA
  · have e:zUZ s=some (3,1):=zlF h1
    have h1':(s==[84,82,85,69])=true:=tE h1;have hi:C zCm [.bool true] (H++[.box zV3]) (v3 3 1) (H++[.box zV3]):=hI true _;clear hI hW;rw [e];refine zn h1'<|sW ?_
    refine sSA (v3 3 1) ?_;exact zr (o:=0) rfl rfl (zI hP) rfl rfl rfl rfl hO
  by_cases h2:s=zDc
  · have e:zUZ s=some (3,0):=by unfold zUZ;rw [zlD h1,zlF h2]
    have h1':(s==[84,82,85,69])=false:=tN h1;have h2':(s==[70,65,76,83,69])=true:=tE h2;have hi:C zCm [.bool false] (H++[.box zV3]) (v3 3 0) (H++[.box zV3]):=hI false _;clear hI hW;rw [e];refine zi h1'<|zn h2'<|sW ?_
    refine sSA (v3 3 0) ?_;exact zr (o:=0) rfl rfl (zI hP) rfl rfl rfl rfl hO
  have h1':(s==[84,82,85,69])=false:=tN h1;have h2':(s==[70,65,76,83,69])=false:=tN h2;obtain ⟨r,hr⟩:∃ r,zUZ s=r:=⟨_,rfl⟩;rw [hr];clear hI;refine zi h1'<|zi h2'<|zjm zQN hG rfl ?_
  refine zBG (fun k:Nat=>[(2,pR H.length),(14,zK k),(0,.str s),(13,zQN)]) (fun k H'=>H'=H++[.box zV3]/\k<=7/\∀ j t,j<k->[AV.str [],AV.str [35,68,73,86,33],AV.str [35,86,65,76,85,69,33],AV.str [35,82,69,70,33],AV.str [35,78,65,77,69,33],AV.str [35,78,85,77,33],AV.str [35,78,79,78,69,33]][j]?=some (.str t)->s=[]\/t≠s) (fun k=>7-k) 0 rfl ⟨rfl,by omega,fun j t h=>by omega⟩ (fun k H1 ⟨e,hk,hno⟩=>?_);subst e;by_cases hlt:k<7
  · obtain ⟨t,ht,hts,ht0⟩:=zYa k hlt
    have hw:=hW k (H++[.box zV3]);clear hW;by_cases he:t=s
    · by_cases hs:s=[]
      · refine sW ?_
        refine zBF ⟨by omega,by omega⟩<|zx (v:=.str t) (by simpa [part] using ht)<|zn (tE he)<|sW ?_
        refine zi (zle.2 hs)<|zS (r:=k+1) rfl tO ?_
        exact zAR (k+1) rfl ⟨rfl,by omega,fun j t' _ _=>.inl hs⟩ tO
      · have e:=hts s hs h1 h2 he
        rw [hr] at e;subst e;refine sW ?_;refine zBF ⟨by omega,by omega⟩<|zx (v:=.str t) (by simpa [part] using ht)<|zn (tE he)<|sW ?_
        refine zn (zlz.2 hs)<|sW ?_
        refine sSA (v3 4 ↑k) ?_;exact zr (v:=v3 4 k) (v1:=.bool true) (o:=0) rfl rfl (zI hP) rfl rfl rfl rfl hO
    · refine sW ?_
      refine zBF ⟨by omega,by omega⟩<|zx (v:=.str t) (by simpa [part] using ht)<|zi (tN he)<|sW ?_
      refine zS (r:=k+1) rfl tO ?_;refine zAR (k+1) rfl ⟨rfl,by omega,fun j t' hj hjt=>?_⟩ tO;by_cases e:j=k
      · subst e
        rw [ht] at hjt;cases hjt;exact .inr he
      · exact hno j t' tO hjt
  · have e:k=7:=by omega
    subst e;have e:zUZ s=none:=by
      unfold zUZ;rw [zlD h1,zlD h2];have n1:=hno 1 _ tO rfl;have n2:=hno 2 _ tO rfl;have n3:=hno 3 _ tO rfl;have n4:=hno 4 _ tO rfl;have n5:=hno 5 _ tO rfl;have n6:=hno 6 _ tO rfl;by_cases hs:s=[]
      · subst hs;rfl
      · rw [zlD (fun x=>n1.elim hs fun y=>y x.symm),zlD (fun x=>n2.elim hs fun y=>y x.symm),zlD (fun x=>n3.elim hs fun y=>y x.symm),zlD (fun x=>n4.elim hs fun y=>y x.symm),zlD (fun x=>n5.elim hs fun y=>y x.symm),zlD (fun x=>n6.elim hs fun y=>y x.symm)]
    rw [e] at hr;subst hr;refine sW ?_;refine sSA (.agg zV3) ?_;exact zr (v:=v3 0 0) (v1:=.bool false) (o:=0) rfl rfl (zI hP) rfl rfl rfl rfl hO
theorem sGenA {a:AK} {vs:List AV} {H:Heap} {K:AV->Heap->Prop} (P:Heap->Prop) (h:P H) (k:∀ H',P H'->actP a vs H' K):actP a vs H K:=k H h
theorem sStrB {s:Bs} {H:Heap} {K:AV->Heap->Prop} (h:s.length<=140737488355328) (q:K (.sl (some false) H.length 1 0 s.length) (H++[.row 1 (s.map zo)])):actP .strToBytes [.str s] H K:=by
  refine zQp (v:=.sl (some false) H.length 1 0 s.length) (H':=H++[.row 1 (s.map zo)]) ?_ q;simp only [astep];rw [zlF h]
theorem Old.at {H0 H:Heap} (h:Old H0 H) (x:List ABlk):Old H0 (H++x):=h.push x
theorem zhO {s:Bs} {fc:Bool} {t:Bs} (h:dollar s=(fc,t)):zFG s=zTb (fc,t):=by unfold zFG;rw [h]
theorem zeR {fc:Bool} {c:UInt8} {r:Bs} (h:zQj c=true):zTb (fc,c::r)=if zNg (dollar r).2 then some ⟨(c.toNat:Int)-64,zDp (dollar r).2,fc,(dollar r).1⟩ else none:=by
  unfold zTb;simp only;rw [zlF h,zhN]
theorem zeS {fc:Bool} {c:UInt8} {r:Bs} (h:zQj c=false):zTb (fc,c::r)=none:=by
  unfold zTb;simp only;rw [h];rfl
structure RSt where
  k:Nat
  b:Bool
theorem zjr (hD:∀ b t H,H[b]?=some (.box [.str t])->C zEs [pR b] H (.bool (dollar t).1) (H.set b (.box [.str (dollar t).2]))) (s:Bs) (H:Heap) (hl:s.length<=1000) :
    EFun C GT zNS [.str s] H (zab (zFG s)) H:=by
  have hd1:=hD H.length s;have hd2:=fun t=>hD H.length t;clear hD;obtain ⟨⟨fc,t⟩,hds⟩:∃ p,dollar s=p:=⟨_,rfl⟩;rw [hds] at hd1;simp only at hd1;rw [zhO hds];refine zJ ?_;cases t with
  | nil=>
    have e:zab (zTb (fc,[]))=.tup [rV noRef,zJG 2]:=rfl;rw [e];refine zCR (x:=AV.str s) rfl<|zCI (hd1 _ hP) (fun h=>by cases h) ?_
    refine sS (.bool fc) [.int .i64 0,.int .i64 0,.bool fc,.bool false] ?_;refine sW ?_;refine sSA (.agg zP) ?_;exact zr (o:=0) rfl rfl (zI hP) rfl rfl rfl rfl ((((((Old.refl _).push _).push _).set (by first|assumption|exact zlK _|simp|omega) _).set (by first|assumption|exact zlK _|simp|omega) _).set (by first|assumption|exact zlK _|simp|omega) _)
  | cons c r=>
    have hc256:c.toNat<256:=zms c;by_cases hcap:zQj c=true
    case neg=>
      have hcap:=zl8.2 hcap;rw [zeS hcap];have e:zab none=.tup [rV noRef,zJG 2]:=rfl;rw [e];by_cases h65:c.toNat<65
      · refine zCR (x:=AV.str s) rfl<|zCI (hd1 _ hP) (fun h=>by cases h) ?_
        refine sS (.bool fc) [.int .i64 0,.int .i64 0,.bool fc,.bool false] ?_;refine sW ?_;refine zCF (i:=0) rfl rfl ?_;refine sW ?_;refine sSA (.agg zP) ?_;exact zr (o:=0) rfl rfl (zI hP) rfl rfl rfl rfl hO
      · have h90:90<c.toNat:=by
          unfold zQj at hcap;rw [znT,zmK,zmK] at hcap;omega
        refine zCR (x:=AV.str s) rfl<|zCI (hd1 _ hP) (fun h=>by cases h) ?_
        refine sS (.bool fc) [.int .i64 0,.int .i64 0,.bool fc,.bool false] ?_;refine sW ?_;refine zCF (i:=0) rfl rfl ?_;refine sW ?_;refine zCF (i:=0) rfl rfl ?_;refine sW ?_;refine sSA (.agg zP) ?_;exact zr (o:=0) rfl rfl (zI hP) rfl rfl rfl rfl hO
    case pos=>
      have hcc:=(zeL c).1 hcap;rw [zeR hcap];obtain ⟨⟨fr,u⟩,hdr⟩:∃ p,dollar r=p:=⟨_,rfl⟩;have hd3:=hd2 r;rw [hdr] at hd3 ⊢;simp only at hd3 ⊢;clear hd2;obtain ⟨w,hw⟩:∃ w,(if zNg u then some (⟨(c.toNat:Int)-64,zDp u,fc,fr⟩:RefP) else none)=w:=⟨_,rfl⟩;rw [hw];refine zCR (x:=AV.str s) rfl<|zCI (hd1 _ hP) (fun h=>by cases h) ?_
      refine sS (.bool fc) [.int .i64 0,.int .i64 0,.bool fc,.bool false] ?_;refine sW ?_;refine zCF (i:=0) rfl rfl ?_;refine sW ?_;refine zCF (i:=0) rfl rfl ?_;refine sW ?_;refine zCF (i:=0) rfl rfl<|zDh (r:=(c.toNat:Int)-65) (by rw [IntKind.wrap_u8];omega)<|zDh (r:=(c.toNat:Int)-65) (by rw [IntKind.wrap_i64];omega)<|zDh (r:=(c.toNat:Int)-64) (by rw [IntKind.wrap_i64];omega) ?_
      refine sS (.int .i64 (↑c.toNat-64)) [.int .i64 (↑c.toNat-64),.int .i64 0,.bool fc,.bool false] ?_;refine sW ?_;refine zx (v:=.str r) (zIv (c::r) 1 zS_) ?_;refine sS (.str r) [.str r] ?_;refine zCI (hd3 _ hP) (fun h=>by cases h) ?_;refine sS (.bool fr) [.int .i64 (↑c.toNat-64),.int .i64 0,.bool fc,.bool fr] ?_;refine sW ?_;by_cases h0:u=[]
      · subst h0
        rw [zlD (fun x=>x.1 rfl)] at hw;subst hw;have ew:zab none=.tup [rV noRef,zJG 2]:=rfl;rw [ew];refine sW ?_;refine sSA (.agg zP) ?_;exact zr (o:=0) rfl rfl (zI hP) rfl rfl rfl rfl ((((((((((Old.refl _).push _).push _).set (by first|assumption|exact zlK _|simp|omega) _).set (by first|assumption|exact zlK _|simp|omega) _).set (by first|assumption|exact zlK _|simp|omega) _).set (by first|assumption|exact zlK _|simp|omega) _).set (by first|assumption|exact zlK _|simp|omega) _).set (by first|assumption|exact zlK _|simp|omega) _).set (by first|assumption|exact zlK _|simp|omega) _)
      obtain ⟨e,u',hu⟩:∃ e u',u=e::u':=zmD h0;have he0:u[0]?=some e:=by rw [hu];rfl
      by_cases h2':u.length<=2
      case neg=>
        rw [zlD (fun x=>h2' x.2.1)] at hw;subst hw;have ew:zab none=.tup [rV noRef,zJG 2]:=rfl;rw [ew];refine zi (tN h0) ?_;refine sW ?_;refine sSA (.agg zP) ?_;exact zr (o:=0) rfl rfl (zI hP) rfl rfl rfl rfl ((((((((((Old.refl _).push _).push _).set (by first|assumption|exact zlK _|simp|omega) _).set (by first|assumption|exact zlK _|simp|omega) _).set (by first|assumption|exact zlK _|simp|omega) _).set (by first|assumption|exact zlK _|simp|omega) _).set (by first|assumption|exact zlK _|simp|omega) _).set (by first|assumption|exact zlK _|simp|omega) _).set (by first|assumption|exact zlK _|simp|omega) _)
      by_cases h48:e.toNat=48
      · have he:e=48:=zlc.1 h48
        subst he;rw [zlD (fun x=>x.2.2.1 (by rw [hu];rfl))] at hw;subst hw;have ew:zab none=.tup [rV noRef,zJG 2]:=rfl;rw [ew];refine zi (tN h0)<|zA (.str u) hP rfl<|zG<|zi tF<|zA (.str u) hP rfl<|zCF (i:=0) rfl he0 ?_
        refine zG<|zn tT<|zx (v:=zP) rfl<|zL (v:=.agg zP) (AV.cells (.agg zP)) hP rfl rfl rfl rfl ?_
        exact zr (o:=0) rfl rfl (zI hP) rfl rfl rfl rfl hO
      refine zi (tN h0)<|zA (.str u) hP rfl<|zG<|zi tF<|zA (.str u) hP rfl<|zCF (i:=0) rfl he0 ?_
      refine zG<|zi tF<|zA (.str u) hP rfl ?_
      refine sGenA (fun H'=>Old H H'/\H'[(H++[ABlk.box [.str s]]).length]?=some (.box [.int .i64 ((c.toNat:Int)-64),.int .i64 0,.bool fc,.bool fr])) ⟨?_,hP⟩ (fun H2 ⟨ho,hb2⟩=>?_)
      · have hp:=((Old.refl H).push [ABlk.box [.str s]]).push [ABlk.box zP]
        have h1:H.length<=H.length:=zlK _;have h2:H.length<=(H++[ABlk.box [.str s]]).length:=by simp
        exact (((((hp.set h1 _).set h2 _).set h2 _).set h1 _).set h1 _).set h2 _
      have h2:H.length<=(H++[ABlk.box [.str s]]).length:=by simp
      refine sStrB tO<|zHq ?_
      refine zBG (fun k:Nat=>[(2,pR (H++[ABlk.box [.str s]]).length),(54,zK k),(52,.sl (some false) H2.length 1 0 u.length),(53,zK u.length)])
        (fun k H'=>Old H H'/\H'[(H++[ABlk.box [.str s]]).length]?=some (.box [.int .i64 ((c.toNat:Int)-64),zK (zDp (u.take k)),.bool fc,.bool fr])/\H'[H2.length]?=some (.row 1 (u.map zo))/\k<=u.length/\(u.take k).all zHE=true)
        (fun k=>u.length-k) 0 rfl ⟨ho.push _,zD hb2,zB,zl6 _,rfl⟩ (fun k H1 ⟨ho1,hb1,hr1,hk,hall⟩=>?_)
      have hbl:=zl_ hb2;by_cases hlt:k<u.length
      · obtain ⟨x,hx⟩:∃ x,u[k]?=some x:=⟨_,zlI hlt⟩
        have hx256:x.toNat<256:=zms x;have hxm:(u.map zo)[k]?=some (byV x):=by rw [zlQ,hx];rfl
        have etk:u.take (k+1)=u.take k++[x]:=by
          obtain ⟨q1,q2⟩:=zg hx;rw [zm0 q1,q2]
        by_cases hd:zHE x=true
        · have hdd:=(zO1 x).1 hd
          have hv:=zQM _ hall;have hpw:10^(u.take k).length<=10^2:=zmT tO (by rw [zla];omega);have e2:(10:Nat)^2=100:=rfl;refine sW ?_;refine sAt ⟨by omega,by omega⟩<|zBa k (byV x) (byV x) tO hr1 hxm rfl<|sW ?_
          refine zS (r:=zDp (u.take k)*10) tO tO<|zDh (r:=(x.toNat:Int)-48) (by rw [IntKind.wrap_u8];omega)<|zDh (r:=(x.toNat:Int)-48) (by rw [IntKind.wrap_i64];omega)<|zS (r:=zDp (u.take k)*10+(x.toNat-48)) tO tO<|sS (.int .i64 ↑(zDp (List.take k u)*10+(x.toNat-48))) [.int .i64 (↑c.toNat-64),.int .i64 ↑(zDp (List.take k u)*10+(x.toNat-48)),.bool fc,.bool fr] ?_
          refine zS (r:=k+1) rfl tO ?_;refine zAR (k+1) rfl ⟨ho1.set h2 _, ?_,zC tO hr1,by omega, ?_⟩ tO
          · rw [etk,zUY];exact zU hb1
          · rw [etk,List.all_append,hall];simp [hd]
        · have hd:=zl8.2 hd
          rw [zlD (fun y=>by
            have:=zmE.1 y.2.2.2 x (zlX hx);rw [hd] at this;cases this)] at hw
          subst hw;have ew:zab none=.tup [rV noRef,zJG 2]:=rfl;rw [ew];by_cases h48':x.toNat<48
          · refine sW ?_
            refine sAt ⟨by omega,by omega⟩<|zBa k (byV x) (byV x) tO hr1 hxm rfl<|sW ?_
            refine sSA (.agg zP) ?_;exact zr (v:=rV noRef) (v1:=zJG 2) (o:=0) rfl rfl (zI (zU hb1)) rfl rfl rfl rfl (ho1.set h2 _)
          · have:57<x.toNat:=by
              unfold zHE at hd;rw [znT,zmK,zmK] at hd;omega
            refine sW ?_;refine sAt ⟨by omega,by omega⟩<|zBa k (byV x) (byV x) tO hr1 hxm rfl<|sW ?_
            refine sSA (.agg zP) ?_;exact zr (v:=rV noRef) (v1:=zJG 2) (o:=0) rfl rfl (zI (zU hb1)) rfl rfl rfl rfl (ho1.set h2 _)
      · have ek:k=u.length:=by omega
        subst ek;rw [zmi] at hall hb1;rw [zlF ⟨h0,h2',fun y=>h48 (by rw [hu] at y;rw [zlb y];rfl),hall⟩] at hw;subst hw;have ew:zab (some ⟨(c.toNat:Int)-64,zDp u,fc,fr⟩)=.tup [.agg [.int .i64 ((c.toNat:Int)-64),zK (zDp u),.bool fc,.bool fr],.nili]:=rfl;rw [ew];refine sW ?_;refine sSA (.agg [.int .i64 (↑c.toNat-64),zK (zDp u),.bool fc,.bool fr]) ?_;exact zr (v:=.agg [.int .i64 ((c.toNat:Int)-64),zK (zDp u),.bool fc,.bool fr]) (v1:=.nili) (o:=0) rfl rfl (zI (zU hb1)) rfl rfl rfl rfl (ho1.set h2 _)
end
def CR (C:CSpec) (f:Nat) (args:List AV) (H:Heap) (b:Nat) (s:Bs) (d:Nat) (r:Option (Nd×Nat)):Prop:=
  (∀ n e,r=some (n,e)->C f args H (ndV n) (H.set b (rdB s e d)))/\(r=none->C f (.pan .undef::args) H zHh (H.set b (.box (wkC s))))
def mkR (s:Bs) (d:Nat) (r:Option (Nd×Nat)):Option (AV×ABlk):=r.map fun p=>(ndV p.1,rdB s p.2 d)
def Off (H:Heap) (b:Nat) (H':Heap):Prop:=∀ c x,H[c]?=some x->c≠b->H'[c]?=some x
abbrev zR (k:Int) (a b:RefP):List AV:=[.int .i64 k,.int .i64 0,.str [],.int .i64 a.col,.int .i64 a.row,.bool a.fc,.bool a.fr,.int .i64 b.col,.int .i64 b.row,.bool b.fc,.bool b.fr,.lst (some true) 0 []]
def zYc (k num:Int) (t:Bs) (x:AV):AV:=.agg [.int .i64 k,.int .i64 num,.str t,.int .i64 0,.int .i64 0,.bool false,.bool false,.int .i64 0,.int .i64 0,.bool false,.bool false,x]
theorem zS1 {n0 nb m:Nat} {k num:Int} {t:Bs} {xs:List AV} {H:Heap} (h:H[nb]?=some (.row 12 xs)) (hn:n0<=nb) (hm:xs.length=m) :
    zEM n0 (zYc k num t (.sl (some false) nb 12 0 m)) H=some (zYc k num t (.lst (some false) 12 xs),H.set nb (.frz 12 xs)):=by
  subst hm;have:¬ nb<n0:=by omega
  simp only [zYc,zEM,zLg,this,zlj,h];simp [zWk]
section
variable {C:CSpec} {GT:zG_}
theorem zhP (t:Bs) (H:Heap) (h:zCE t≠0):EFun C GT zHU [.str t] H (zK (zCE t)) H:=by
  refine zJ ?_;by_cases h1:t=[61]
  · subst h1
    refine sX ?_;exact sRv
  by_cases h2:t=[60,62]
  · subst h2
    refine sX ?_;exact sRv
  by_cases h3:t=[60]
  · subst h3
    refine sX ?_;exact sRv
  by_cases h4:t=[60,61]
  · subst h4
    refine sX ?_;exact sRv
  by_cases h5:t=[62]
  · subst h5
    refine sX ?_;exact sRv
  by_cases h6:t=[62,61]
  · subst h6
    refine sX ?_;exact sRv
  by_cases h7:t=[38]
  · subst h7
    refine sX ?_;exact sRv
  by_cases h8:t=[43]
  · subst h8
    refine sX ?_;exact sRv
  by_cases h9:t=[45]
  · subst h9
    refine sX ?_;exact sRv
  by_cases h10:t=[42]
  · subst h10
    refine sX ?_;exact sRv
  by_cases h11:t=[47]
  · subst h11
    refine sX ?_;exact sRv
  · exact absurd (by unfold zCE;simp only [h1,h2,h3,h4,h5,h6,h7,h8,h9,h10,h11,zlj]) h
theorem zhQ (hB:∀ b s p d H,H[b]?=some (rdB s p d)->p<=s.length->s.length<=200->C zW [pR b] H (.tup []) (H.set b (rdB s (skip s p) d)))
    (hF:∀ b s p d a e H,H[b]?=some (rdB s p d)->C zV (.pan .undef::[pR b,.int .i64 a,zJG e]) H zHh (H.set b (.box (wkC s))))
    (c:UInt8) (b:Nat) (s:Bs) (p d:Nat) (H:Heap) (hb:H[b]?=some (rdB s p d)) (hp:p<=s.length) (hl:s.length<=200) :
    zCw C GT zDS [pR b,byV c] H b (wkC s) zHh (if s[skip s p]?=some c then some (.tup [],rdB s (skip s p+1) d) else none):=by
  have hbl:=hB b s p d H hb hp hl;have hq:=zCX hp;generalize skip s p=q at *;have hf:=hF b s q d q 2 (H.set b (rdB s q d)) (zU hb);clear hB hF;refine zAJ ?_;by_cases hlt:q<s.length
  · obtain ⟨x,hx⟩:∃ x,s[q]?=some x:=⟨_,zlI hlt⟩
    by_cases h:x=c
    · subst h
      rw [zlF hx];refine zCI hbl (fun h=>by cases h)<|zA (zK q) (zU hb) rfl<|zA (.str s) (zU hb) rfl<|zi tN<|zA (.str s) (zU hb) rfl<|zA (zK q) (zU hb) rfl<|zCF rfl hx<|zG<|zi (zle.2 rfl)<|zA (zK q) (zU hb) rfl<|zS (r:=q+1) rfl tO<|zL (v:=.int .i64 ↑(q+1)) [.str s,.int .i64 ↑(q+1),zK d] (zU hb) rfl rfl rfl rfl ?_
      exact zSt _ (by first|rfl|assumption) rfl rfl rfl rfl (((OldB.start hb).setB _).setB _) rfl
    · rw [zlD (by rw [hx];exact fun e=>h (zlb e))]
      have hn:x.toNat≠c.toNat:=fun e=>h (zlc.1 e);refine zCI hbl (fun h=>by cases h)<|zA (zK q) (zU hb) rfl<|zA (.str s) (zU hb) rfl<|sW ?_
      refine zA (.str s) (zU hb) rfl<|zA (zK q) (zU hb) rfl<|zCF rfl hx<|sW ?_
      refine zn (zlz.2 tO)<|zA (zK q) (zU hb) rfl<|zA6 hf ?_
      exact sP
  · rw [zlD (by rw [zl0 tO];simp)]
    refine zCI hbl (fun h=>by cases h)<|zA (zK q) (zU hb) rfl<|zA (.str s) (zU hb) rfl<|sW ?_
    refine zA (zK q) (zU hb) rfl<|zA6 hf ?_
    exact sP
theorem zaf (hF:∀ b s p d a e H,H[b]?=some (rdB s p d)->C zV (.pan .undef::[pR b,.int .i64 a,zJG e]) H zHh (H.set b (.box (wkC s))))
    (f:Nat) (caps:List AV) (a:Int) (b:Nat) (s:Bs) (p d:Nat) (H:Heap) (hb:H[b]?=some (rdB s p d)) (hd:d<=1000) (r:Option (Nd×Nat))
    (hC:∀ H',H'[b]?=some (rdB s p (d+1))->Off H b H'->CR C f caps H' b s (d+1) r) :
    zCw C GT zCr [pR b,.int .i64 a,.fn f [] caps] H b (wkC s) zHh (mkR s d (if d=30 then none else r)):=by
  have hbl:=zl_ hb;refine zAJ ?_;by_cases h30:d=30
  · rw [zlF h30]
    have e:mkR s d none=none:=rfl;rw [e];have hf:=hF b s p d a 4;clear hF hC;refine sX ?_;refine zA6 (hf _ hP) ?_;exact sP
  · rw [zlD h30]
    have hoff:∀ X Y,Off H b ((H++[X]).set b Y):=fun X Y c x hc hn=>zC (zl7 hn) (zD hc);cases r with
    | none=>
      have e:mkR s d none=none:=rfl;rw [e];have hc:=fun H' h1 h2=>(hC H' h1 h2).2 rfl;clear hF hC;refine sX ?_;refine zS (r:=d+1) rfl tO<|sS (.int .i64 ↑(d+1)) [.str s,zK p,.int .i64 ↑(d+1)] ?_
      refine zA6 (hc _ (zU (zD hb)) (hoff _ _)) ?_;exact sP
    | some p'=>
      obtain ⟨n,e⟩:=p';have e0:mkR s d (some (n,e))=some (ndV n,rdB s e d):=rfl;rw [e0];have hc:=fun H' h1 h2=>(hC H' h1 h2).1 n e rfl;clear hF hC;refine sX ?_;refine zS (r:=d+1) rfl tO<|sS (.int .i64 ↑(d+1)) [.str s,zK p,.int .i64 ↑(d+1)] ?_
      refine zCY (hc _ (zU (zD hb)) (hoff _ _))<|sSA (ndV n) ?_
      refine sX ?_;refine zS (r:=d) tO tO<|sS (.int .i64 ↑d) [.str s,zK e,.int .i64 ↑d] ?_
      refine sX ?_;refine sSA (ndV n) ?_;exact zAH (o:=0) (ndV n) (by first|rfl|assumption) rfl rfl (zI hP) rfl rfl rfl hO rfl
theorem zhR (b rb:Nat) (s:Bs) (p d:Nat) (H:Heap) (hb:H[b]?=some (rdB s p d)) (hr:H[rb]?=some (.box [pR b])) (hp:p<s.length) (hl:s.length<=200)
    (hN:∀ H',H'[b]?=some (rdB s (p+1) d)->CR C zAW [pR b] H' b s d ((P s).one (p+1) d)) :
    zCw C GT zCs [pR rb] H b (wkC s) zHh (mkR s d (((P s).one (p+1) d).map fun q=>(zDO q.1,q.2))):=by
  have hbl:=zl_ hb;have hne:rb≠b:=fun e=>by rw [e,hb] at hr;cases hr
  generalize (P s).one (p+1) d=r at *;refine zAJ ?_;cases r with
  | none=>
    have hc:=fun H' h1=>(hN H' h1).2 rfl;clear hN;have e:mkR s d (Option.map (fun q:Nd×Nat=>(zDO q.1,q.2)) none)=none:=rfl;rw [e];refine sX ?_;refine zS (r:=p+1) rfl tO<|sS (.int .i64 ↑(p+1)) [.str s,.int .i64 ↑(p+1),zK d] ?_
    refine sX ?_;refine zA6 (hc _ (zU (zD hb))) ?_;exact sP
  | some p'=>
    obtain ⟨n,e⟩:=p';have hc:=fun H' h1=>(hN H' h1).1 n e rfl;clear hN;have e0:mkR s d (Option.map (fun q:Nd×Nat=>(zDO q.1,q.2)) (some (n,e)))=some (ndV (zDO n),rdB s e d):=rfl;rw [e0];refine sX ?_;refine zS (r:=p+1) rfl tO<|sS (.int .i64 ↑(p+1)) [.str s,.int .i64 ↑(p+1),zK d] ?_
    refine sX ?_;refine zCY (hc _ (zU (zD hb)))<|zAb (vs':=[ndV n]) rfl rfl<|sX ?_
    refine sSA (.agg [.int .i64 7,.int .i64 0,.str [],.int .i64 0,.int .i64 0,.bool false,.bool false,.int .i64 0,.int .i64 0,.bool false,.bool false,.sl (some false) ((List.set (H++[ABlk.box zV1]) b (ABlk.box [.str s,.int .i64 ↑(p+1),zK d])).set b (rdB s e d)).length 12 0 [ndV n].length]) ?_;exact zAH (o:=0) (zYc 7 0 [] (.sl (some false) (((H++[ABlk.box (ndC zZ)]).set b (rdB s (p+1) d)).set b (rdB s e d)).length 12 0 1)) rfl rfl rfl (zI hP) rfl (zS1 (xs:=[ndV n]) hP tC rfl) rfl (by (repeat' (first|exact OldB.start (by assumption)|apply OldB.push|apply OldB.setB|refine OldB.set ?_ tC _));done) rfl
end
def zJY (s t:Bs) (e d:Nat):Option (Nd×Nat):=match tok s (e+1) with
  |.sign e2 [41]=>some (zA0 t [],e2)
  |_=>(P s).args t [] (e+1) d
def zeT (s:Bs) (p d:Nat):Option (Nd×Nat):=((P s).loose 1 (p+1) d).bind fun q=>match tok s q.2 with
  |.sign e2 [41]=>some (q.1,e2)
  |_=>none
def twS (s:Bs) (l p d:Nat):Option (Nd×Nat):=if l=4 then (P s).one p d else bl s ((P s).loose (l+1) p d)
theorem Owns.notBox {H0 H:Heap} {v:AV} {k c:Nat} {xs cs:List AV} (h:Owns H0 H v k xs) (hc:H[c]?=some (.box cs)):v.blk≠some c:=by
  rcases h with ⟨rfl,_⟩|⟨b',rfl,h1,h2,h3⟩
  · intro e;cases e
  · intro e
    simp only [AV.blk,zlJ] at e;subst e;rw [h2] at hc;cases hc
theorem Owns.base {H0 H0' H:Heap} {v:AV} {k:Nat} {xs:List AV} (h:Owns H0 H v k xs) (e:H0'.length=H0.length):Owns H0' H v k xs:=by
  rcases h with h|⟨b',h0,h1,h2⟩
  · exact .inl h
  · exact .inr ⟨b',h0,by rw [e];exact h1,h2⟩
theorem zag {r:Bs} {i:Nat} (h:r.head?≠some 34):quo (34::r) i=some ([],i+1):=by
  cases r with
  |nil=>simp [quo]
  | cons d r=>
    simp only [quo,zlp];rw [zlD (fun e=>h (by rw [e];rfl))]
theorem zah {r:Bs} {i:Nat}:quo (34::34::r) i=(quo r (i+2)).map fun p=>(34::p.1,p.2):=by simp only [quo,zlp]
theorem zai {c:UInt8} {r:Bs} {i:Nat} (h:c≠34):quo (c::r) i=(quo r (i+1)).map fun p=>(c::p.1,p.2):=by
  cases r with
  |nil=>simp [quo,h]
  |cons d r=>simp only [quo];rw [zlD h]
structure TSt where
  k:Nat
  v:AV
  acc:Bs
def paren (s:Bs) (q:Nat):Option Nat:=if s[skip s q]?=some 41 then some (skip s q+1) else none
theorem zYd {c:UInt8} (h:c.toNat=41\/c.toNat=44\/c.toNat=40\/c.toNat=45):zh c=false:=by
  have e:∀ n:Fin 256,(n.val=41\/n.val=44\/n.val=40\/n.val=45)->zh (UInt8.ofNat n.val)=false:=by decide +kernel
  have:=e ⟨c.toNat,zms c⟩ h;simpa using this
theorem zIM {s:Bs} {p:Nat} {c:UInt8} (h:s[skip s p]?=some c) (hc:c.toNat=41\/c.toNat=44\/c.toNat=40\/c.toNat=45):tok s p=.sign (skip s p+1) [c]:=by
  have hw:=zYd hc;have n1:c≠34:=fun e=>by subst e;revert hc;decide
  have n2:c≠35:=fun e=>by subst e;revert hc;decide
  have n3:c≠60:=fun e=>by subst e;revert hc;decide
  have n4:c≠62:=fun e=>by subst e;revert hc;decide
  unfold tok zBk;rw [h];simp only [hw,zlO,zlj,n1,n2];split
  · rw [zlD (by rintro (⟨e,_⟩|⟨e,_⟩|⟨e,_⟩);exact n3 e;exact n3 e;exact n4 e)]
  · rfl
theorem zIx {s:Bs} {p e:Nat} {c:UInt8} (h:tok s p=.sign e [c]):s[skip s p]?=some c/\e=skip s p+1:=by
  unfold tok zBk at h;split at h
  · cases h
  · rename_i x hx
    split at h
    · cases h
    · split at h
      · split at h <;> cases h
      · split at h
        · split at h <;> cases h
        · split at h
          · split at h
            · cases h
            · cases h;exact ⟨hx,rfl⟩
          · cases h;exact ⟨hx,rfl⟩
theorem zhS (s:Bs) (p d:Nat):zeT s p d=((P s).loose 1 (p+1) d).bind fun q=>(paren s q.2).map fun e=>(q.1,e):=by
  unfold zeT;refine zEe rfl fun q _=>?_;unfold paren;by_cases h:s[skip s q.2]?=some 41
  · rw [zIM h (.inl rfl),zlF h];rfl
  · rw [zlD h]
    split
    · rename_i e2 hk
      exact absurd (zIx hk).1 h
    · rfl
section
variable {C:CSpec} {GT:zG_}
theorem zhT (hF:∀ b s p d a e H,H[b]?=some (rdB s p d)->C zV (.pan .undef::[pR b,.int .i64 a,zJG e]) H zHh (H.set b (.box (wkC s))))
    (b:Nat) (s:Bs) (p d:Nat) (H:Heap) (hb:H[b]?=some (rdB s p d)) (hp:p<s.length) (hl:s.length<=200) :
    zCw C GT zDT [pR b] H b (wkC s) zHh (mkR s d ((quo (s.drop (p+1)) (p+1)).map fun q=>(zHd q.1,q.2))):=by
  have hbl:=zl_ hb;obtain ⟨r,hr⟩:∃ r,quo (s.drop (p+1)) (p+1)=r:=⟨_,rfl⟩;rw [hr];refine zAJ<|sW ?_
  refine zS (r:=p+1) rfl tO<|sS (.int .i64 ↑(p+1)) [.str s,.int .i64 ↑(p+1),zK d] ?_
  refine zBG (fun t:TSt=>[(2,pR H.length),(4,t.v),(0,pR b),(3,zK p)])
    (fun t H'=>Owns (H.set b (rdB s t.k d)) H' t.v 1 (t.acc.map zo)/\OldB H b (rdB s t.k d) H'/\H'[b]?=some (rdB s t.k d)/\H'[H.length]?=some (.box (ndC zZ))/\t.k<=s.length/\t.acc.length<=t.k/\(quo (s.drop t.k) t.k).map (fun q=>(t.acc++q.1,q.2))=r)
    (fun t=>s.length-t.k) ⟨p+1,.lst (some true) 0 [],[]⟩ rfl ⟨.inl ⟨rfl,rfl⟩,(OldB.start hb).push _ |>.setB _,zU (zD hb),zC tO zB,by simp only;omega,by simp,by simp only [zl2];rw [hr];cases r <;> rfl⟩ (fun ⟨k,v,acc⟩ H1 ⟨how,hob,hb1,h2,hk,hal,hq⟩=>?_)
  dsimp only at how hob hb1 h2 hk hal hq ⊢;have hlen1:=hob.old.1;rw [zlP] at hlen1;by_cases hlt:k<s.length
  case neg=>
    have e:r=none:=by rw [<-hq,zl3 tO];rfl
    subst e;have e0:mkR s d (Option.map (fun q:Bs×Nat=>(zHd q.1,q.2)) none)=none:=rfl;rw [e0];have hf:=hF b s k d p 2 H1 hb1;clear hF;refine sW ?_;refine zA6 hf ?_;exact sP
  obtain ⟨c,hc⟩:∃ c,s[k]?=some c:=⟨_,zlI hlt⟩;rw [zBi hc] at hq;by_cases h34:c=34
  · subst h34
    by_cases hend:k+1<s.length/\s[k+1]?=some 34
    · obtain ⟨hlt2,hc2⟩:=hend
      rw [zBi hc2,zah,znz] at hq;refine sW ?_;refine zS (r:=k+1) rfl tO<|sS (.int .i64 ↑(k+1)) [.str s,.int .i64 ↑(k+1),zK d] ?_
      refine sW ?_;refine zAb (vs':=[zo 34]) rfl rfl ?_;have hob2:=hob.setB (rdB s (k+1) d);refine zBw (H0:=H.set b (rdB s (k+1) d)) (((how.set (how.notBox hb1) _).base zS_).push _) (hob2.old.push _) zAu tO (by simp only [zlM,zlE,zlL];omega) zS_ fun v' H' ho' hH' hb' hf=>?_;have hx1:=hf b _ (how.notBox hb1) (zD (zU hb1));have hx2:=hf H.length _ (how.notBox h2) (zD (zC tO h2));refine sW ?_;refine zS (r:=k+2) tO tO<|sS (.int .i64 ↑(k+2)) [.str s,.int .i64 ↑(k+2),zK d] ?_
      refine zAR (TSt.mk (k+2) v' (acc++[34])) rfl ⟨(((by rw [zlv];exact ho':Owns _ _ _ _ _).set (ho'.notBox hx1) _).base zS_),(OldB.mk hbl hH').setB _,zU hx1,zC tO hx2,by simp only;omega,by simp only [zlH,zlE,zlL];omega, ?_⟩ (by simp only;omega);rw [<-hq];simp only [zlk,zmG];rfl
    · rw [zag (by
        intro e;have hlt2:k+1<s.length:=by
          rcases zmp (k+1) s.length with h|h
          · exact h
          · rw [zl3 h] at e;cases e
        refine hend ⟨hlt2, ?_⟩;rw [znw] at e;exact e)] at hq
      subst hq;have e0:mkR s d (Option.map (fun q:Bs×Nat=>(zHd q.1,q.2)) (Option.map (fun q:Bs×Nat=>(acc++q.1,q.2)) (some ([],k+1))))=some (ndV (zHd acc),rdB s (k+1) d):=by simp [mkR]
      rw [e0];by_cases hlt2:k+1<s.length
      · obtain ⟨c2,hc2⟩:∃ c,s[k+1]?=some c:=⟨_,zlI hlt2⟩
        have hn:c2.toNat≠34:=fun e=>hend ⟨hlt2,by rw [hc2,show c2=34 from zlc.1 e]⟩;refine sW ?_;refine zS (r:=k+1) rfl tO<|sS (.int .i64 ↑(k+1)) [.str s,.int .i64 ↑(k+1),zK d] ?_
        refine sW ?_;refine zn (zlz.2 tO)<|zHs (how.set (how.notBox hb1) _)<|sW ?_
        refine sSA (.agg (zN 2 0 acc)) ?_;exact zAH (o:=0) (ndV (zHd acc)) rfl rfl rfl (zI (zU (zC tO h2))) rfl rfl rfl hO rfl
      · refine sW ?_
        refine zS (r:=k+1) rfl tO<|sS (.int .i64 ↑(k+1)) [.str s,.int .i64 ↑(k+1),zK d] ?_
        refine sW ?_;refine zHs (how.set (how.notBox hb1) _)<|sW ?_
        refine sSA (.agg (zN 2 0 acc)) ?_;exact zAH (o:=0) (ndV (zHd acc)) rfl rfl rfl (zI (zU (zC tO h2))) rfl rfl rfl hO rfl
  · have hn:c.toNat≠34:=fun e=>h34 (zlc.1 e)
    rw [zai h34,znz] at hq;refine sW ?_;refine zAb (vs':=[zo c]) rfl rfl<|zBw (H0:=H.set b (rdB s k d)) (how.push _) (hob.old.push _) zAu tO (by simp only [zlM,zlE,zlL];omega) zS_ fun v' H' ho' hH' hb' hf=>?_
    have hx1:=hf b _ (how.notBox hb1) (zD hb1);have hx2:=hf H.length _ (how.notBox h2) (zD h2);refine sW ?_;refine zS (r:=k+1) tO tO<|sS (.int .i64 ↑(k+1)) [.str s,.int .i64 ↑(k+1),zK d] ?_
    refine zAR (TSt.mk (k+1) v' (acc++[c])) rfl ⟨(((by rw [zlv];exact ho':Owns _ _ _ _ _).set (ho'.notBox hx1) _).base zS_),(OldB.mk hbl hH').setB _,zU hx1,zC tO hx2,by simp only;omega,by simp only [zlH,zlE,zlL];omega, ?_⟩ (by simp only;omega);rw [<-hq];simp only [zlk,zmG];rfl
end
theorem zaj {t:Bs} (h:t.head?≠some 35):zUZ t=if t=zGA then some (3,1) else if t=zDc then some (3,0) else none:=by
  unfold zUZ;by_cases h1:t=zGA
  · rw [zlF h1,zlF h1]
  · rw [zlD h1,zlD h1]
    by_cases h2:t=zDc
    · rw [zlF h2,zlF h2]
    · rw [zlD h2,zlD h2]
      rw [zlD (fun e=>h (by rw [e];rfl)),zlD (fun e=>h (by rw [e];rfl)),zlD (fun e=>h (by rw [e];rfl)),zlD (fun e=>h (by rw [e];rfl)),zlD (fun e=>h (by rw [e];rfl)),zlD (fun e=>h (by rw [e];rfl))]
section
variable {C:CSpec} {GT:zG_}
theorem zeU (hW:∀ s H,s.length<=1000->∃ n0,C zDD [.str s] H (zaa (zRq s) n0) H) (hL:∀ s H,C zAd [.str s] H (litV (zUZ s)) H) (hR:∀ s H,s.length<=1000->C zBg [.str s] H (zab (zFG s)) H)
    (t:Bs) (H:Heap) (hl:t.length<=1000) (h45:t.head?≠some 45) (h35:t.head?≠some 35):EFun C GT zGX [.str t] H (zMi (zIu t)) H:=by
  have hw:=hW t (H++[ABlk.box (ndC zZ)]) hl;have hlit:=hL t (H++[ABlk.box (ndC zZ)]);have hr:=fun H=>hR t H hl;clear hW hL hR;rw [zaY h45] at hw;rw [zaj h35] at hlit;refine zJ ?_;unfold zIu;cases hwp:zCQ t with
  | some n=>
    rw [hwp] at hw;obtain ⟨n0,hw⟩:=hw;have hw:C zDD [.str t] (H++[ABlk.box (ndC zZ)]) (.tup [zH n,.bool true]) (H++[ABlk.box (ndC zZ)]):=hw;have e:zMi (some (zKP n))=.tup [ndV (zKP n),.bool true]:=rfl;simp only;rw [e];refine sW ?_;refine sSA (.agg (zN 1 n [])) ?_;exact zr (o:=0) rfl rfl (zI hP) rfl rfl rfl rfl hO
  | none=>
    rw [hwp] at hw;obtain ⟨n0,hw⟩:=hw;have hw:C zDD [.str t] (H++[ABlk.box (ndC zZ)]) (.tup [zH n0,.bool false]) (H++[ABlk.box (ndC zZ)]):=hw;simp only;by_cases h1:t=zGA
    · rw [zlF h1] at hlit ⊢
      have hlit:C zAd [.str t] (H++[ABlk.box (ndC zZ)]) (.tup [v3 3 1,.bool true]) (H++[ABlk.box (ndC zZ)]):=hlit;have e:zMi (some (zFC true))=.tup [ndV (zFC true),.bool true]:=rfl;rw [e];clear hr;refine sW ?_;refine sSA (v3 3 1) ?_;refine sW ?_;refine sSA (.agg (zN 3 1 [])) ?_;exact zr (o:=0) rfl rfl (zI hP) rfl rfl rfl rfl hO
    rw [zlD h1] at hlit ⊢;by_cases h2:t=zDc
    · rw [zlF h2] at hlit ⊢
      have hlit:C zAd [.str t] (H++[ABlk.box (ndC zZ)]) (.tup [v3 3 0,.bool true]) (H++[ABlk.box (ndC zZ)]):=hlit;have e:zMi (some (zFC false))=.tup [ndV (zFC false),.bool true]:=rfl;rw [e];clear hr;refine sW ?_;refine sSA (v3 3 0) ?_;refine sW ?_;refine sSA (.agg (zN 3 0 [])) ?_;exact zr (o:=0) rfl rfl (zI hP) rfl rfl rfl rfl hO
    rw [zlD h2] at hlit ⊢;have hlit:C zAd [.str t] (H++[ABlk.box (ndC zZ)]) (.tup [v3 0 0,.bool false]) (H++[ABlk.box (ndC zZ)]):=hlit;cases hrp:zFG t with
    | some r=>
      rw [hrp] at hr;have hr:∀ H,C zBg [.str t] H (.tup [rV r,.nili]) H:=hr;have e:zMi (Option.map zB3 (some r))=.tup [ndV (zB3 r),.bool true]:=rfl;rw [e];refine sW ?_;refine sSA (v3 0 0) ?_;refine sW ?_;refine sSA (rV r) ?_;refine sW ?_;refine sSA (.agg [.int .i64 5,.int .i64 0,.str [],.int .i64 r.col,.int .i64 r.row,.bool r.fc,.bool r.fr,.int .i64 0,.int .i64 0,.bool false,.bool false,.lst (some true) 0 []]) ?_;exact zr (o:=0) rfl rfl (zI hP) rfl rfl rfl rfl hO
    | none=>
      rw [hrp] at hr;have hr:∀ H,C zBg [.str t] H (.tup [rV noRef,zJG 2]) H:=hr;have e:zMi (Option.map zB3 none)=.tup [ndV zZ,.bool false]:=rfl;rw [e];refine sW ?_;refine sSA (v3 0 0) ?_;refine sW ?_;refine sSA (rV noRef) ?_;refine sW ?_;refine sSA (.agg (zN 0 0 [])) ?_;exact zr (o:=0) rfl rfl (zI hP) rfl rfl rfl rfl hO
theorem zjs (hWt:∀ c b s p d H,H[b]?=some (rdB s p d)->p<=s.length->s.length<=200->(s[skip s p]?=some c->C z8 [pR b,byV c] H (.tup []) (H.set b (rdB s (skip s p+1) d)))/\(s[skip s p]?≠some c->C z8 (.pan .undef::[pR b,byV c]) H zHh (H.set b (.box (wkC s)))))
    (b rb:Nat) (s:Bs) (p d:Nat) (H:Heap) (hb:H[b]?=some (rdB s p d)) (hr:H[rb]?=some (.box [pR b])) (hp:p<s.length) (hl:s.length<=200)
    (hT:∀ H',H'[b]?=some (rdB s (p+1) d)->CR C zj [pR b,zH 0] H' b s d (bl s ((P s).loose 1 (p+1) d))) :
    zCw C GT zCV [pR rb] H b (wkC s) zHh (mkR s d (zeT s p d)):=by
  have hbl:=zl_ hb;have hne:rb≠b:=fun e=>by rw [e,hb] at hr;cases hr
  have hrl:=zl_ hr;rw [zhS];have hends:∀ q,(P s).loose 1 (p+1) d=some q->q.2<=s.length:=fun q hq=>((zDA s).loose 1 (p+1) d q tO hq).2;generalize (P s).loose 1 (p+1) d=r at *;refine zAJ ?_;cases r with
  | none=>
    have hc:=fun H' h1=>(hT H' h1).2 rfl;clear hT hWt;have e:mkR s d (Option.bind none fun q:Nd×Nat=>(paren s q.2).map fun e=>(q.1,e))=none:=rfl;rw [e];refine sW ?_;refine zS (r:=p+1) rfl tO<|sS (.int .i64 ↑(p+1)) [.str s,.int .i64 ↑(p+1),zK d] ?_
    refine sW ?_;refine zA6 (hc _ (zU (zD hb))) ?_;exact sP
  | some p'=>
    obtain ⟨n,e⟩:=p';have hel:=zCX (hends _ rfl);have hc:=fun H' h1=>(hT H' h1).1 n (skip s e) rfl;have hww:=fun H' h=>hWt 41 b s (skip s e) d H' h hel hl;rw [zGa] at hww;clear hT hWt;have e0:(Option.bind (some (n,e)) fun q:Nd×Nat=>(paren s q.2).map fun e=>(q.1,e))=(paren s e).map fun e=>(n,e):=rfl;rw [e0];unfold paren;by_cases h41:s[skip s e]?=some 41
    · have hwn:=fun H' h=>(hww H' h).1 h41
      clear hww;rw [zlF h41];have e1:mkR s d (Option.map (fun e=>(n,e)) (some (skip s e+1)))=some (ndV n,rdB s (skip s e+1) d):=rfl;rw [e1];refine sW ?_;refine zS (r:=p+1) rfl tO<|sS (.int .i64 ↑(p+1)) [.str s,.int .i64 ↑(p+1),zK d] ?_
      refine sW ?_;refine zCY (hc _ (zU (zD hb)))<|sSA (ndV n) ?_
      refine sW ?_;refine zCY (hwn _ hP)<|sW ?_
      refine sSA (ndV n) ?_;exact zAH (o:=0) (ndV n) (by first|rfl|assumption) rfl rfl (zI hP) rfl rfl rfl hO rfl
    · have hwn:=fun H' h=>(hww H' h).2 h41
      clear hww;rw [zlD h41];have e1:mkR s d (Option.map (fun e=>(n,e)) none)=none:=rfl;rw [e1];refine sW ?_;refine zS (r:=p+1) rfl tO<|sS (.int .i64 ↑(p+1)) [.str s,.int .i64 ↑(p+1),zK d] ?_
      refine sW ?_;refine zCY (hc _ (zU (zD hb)))<|sSA (ndV n) ?_
      refine sW ?_;refine zA6 (hwn _ hP) ?_;exact sP
theorem zeV (b rb sb:Nat) (s t:Bs) (p d:Nat) (H:Heap) (hb:H[b]?=some (rdB s p d)) (hr:H[rb]?=some (.box [pR b])) (hs:H[sb]?=some (.box [.str t])) (r:Option (Nd×Nat))
    (hT:∀ H',H'[b]?=some (rdB s p d)->CR C zB5 [pR b,.str t] H' b s d r) :
    zCw C GT zCW [pR rb,pR sb] H b (wkC s) zHh (mkR s d r):=by
  have hbl:=zl_ hb;refine zAJ ?_;cases r with
  | none=>
    have hc:=fun H' h1=>(hT H' h1).2 rfl;clear hT;have e:mkR s d none=none:=rfl;rw [e];refine sW ?_;refine zA6 (hc _ (zD hb)) ?_;exact sP
  | some p'=>
    obtain ⟨n,e⟩:=p';have hc:=fun H' h1=>(hT H' h1).1 n e rfl;clear hT;have e0:mkR s d (some (n,e))=some (ndV n,rdB s e d):=rfl;rw [e0];refine sW ?_;refine zCY (hc _ (zD hb))<|sSA (ndV n) ?_
    exact zAH (o:=0) (ndV n) (by first|rfl|assumption) rfl rfl (zI hP) rfl rfl rfl hO rfl
end
end Go.AM
