/- Several texts of mine in one (Fp2, Lew, Lea, Fr1, Fr2, Fr3, Fp3, Fr4). Own work. -/
import Derived.Test.YtmfmhljpddpfnaaGreatDoorGFp0Bg0
import Derived.Test.YtmfmhljpddpfnaaGreatDoorGAm23Am35
set_option maxRecDepth 20000
set_option linter.all false
namespace Go.AM
def zD0 (s:Bs):Bool×Bs:=
  match s with
  |[]=>(false,[])
  |c::r=>if c=45 then (true,r) else (false,c::r)
def zEW (s:Bs):Prop:=(zD0 s).2≠[]/\¬ ((zD0 s).2.head?=some 48/\s≠[48])/\(zD0 s).2.all zGr=true
instance (s:Bs):Decidable (zEW s):=by unfold zEW;exact inferInstance
def zNK (s:Bs):Int:=if (zD0 s).1=true then -(zDl (zD0 s).2:Int) else zDl (zD0 s).2
def zQA (s:Bs):Option Int:=if zEW s then (if zDi (zNK s) then some (zNK s) else none) else none
theorem zMR {t:Bs} (h:t.head?≠some 45):zD0 t=(false,t):=by
  cases t with
  |nil=>rfl
  |cons c r=>grind +locals
theorem zOg {t:Bs} (h1:t≠[]) (h2:¬ (t.head?=some 48/\t≠[48])) (h3:t.all zGr=true):zCL t=if zDl t<=9223372036854775807 then some (zDl t:Int) else none:=by
  unfold zCL;rw [zWl (fun x=>x.elim h1 h2),zoQ h3]
theorem zSk {t:Bs} (h:¬ (t≠[]/\¬ (t.head?=some 48/\t≠[48])/\t.all zGr=true)):zCL t=none:=by
  unfold zCL;split
  · rfl
  · grind
theorem zZc {t:Bs} (h:t.head?≠some 45):zQA t=zCL t:=by
  have hd:zEW t↔(t≠[]/\¬ (t.head?=some 48/\t≠[48])/\t.all zGr=true):=by unfold zEW;rw [zMR h]
  have hv:zNK t=zDl t:=by unfold zNK;rw [zMR h];rfl
  unfold zQA;rw [hv];by_cases hf:zEW t
  · obtain ⟨h1,h2,h3⟩:=hd.1 hf
    rw [zoQ hf,zOg h1 h2 h3];by_cases h4:zDl t<=9223372036854775807
    · rw [zoQ h4,zoQ (show zDi (zDl t:Int) by unfold zDi;omega)]
    · rw [zWl h4,zWl (show ¬ zDi (zDl t:Int) by unfold zDi;omega)]
  · rw [zWl hf,zSk (fun x=>hf (hd.2 x))]
theorem decF (l:Bs):∀ n:Nat,l.foldl (fun n c=>n*10+(c.toNat-48)) n=n*10^l.length+zDl l:=by
  unfold zDl;induction l with
  |nil=>intro n;simp
  |cons c r ih=>grind
theorem zSl (c:UInt8) (r:Bs):zDl (c::r)=(c.toNat-48)*10^r.length+zDl r:=by
  show (c::r).foldl _ 0=_;rw [znm,decF];simp
theorem zSm (l:Bs) (c:UInt8):zDl (l++[c])=zDl l*10+(c.toNat-48):=by unfold zDl;rw [List.foldl_append];rfl
theorem zNX (c:UInt8):zGr c=true↔48<=c.toNat/\c.toNat<=57:=by unfold zGr;rw [zTo,zmt,zmt]
theorem zdf (c:UInt8):zO7 c=true↔65<=c.toNat/\c.toNat<=90:=by unfold zO7;rw [zTo,zmt,zmt]
theorem zOh:∀ l:Bs,l.all zGr=true->zDl l<10^l.length
  |[],_=>by simp [zDl]
  | c::r,h=>by
    rw [zmu,zTo] at h;have h1:=(zNX c).1 h.1;have h2:=zOh r h.2;rw [zSl,zoN,zmP];have:(c.toNat-48)*10^r.length<=9*10^r.length:=zo2 _ tO;omega
theorem zZd {c:UInt8} {r:Bs} (h:49<=c.toNat):10^r.length<=zDl (c::r):=by
  rw [zSl];have:1*10^r.length<=(c.toNat-48)*10^r.length:=zo2 _ tO;omega
def zMS (t:Bs):Prop:=t≠[]/\t.length<=2/\t.head?≠some 48/\t.all zGr=true
instance (t:Bs):Decidable (zMS t):=by unfold zMS;exact inferInstance
theorem zgp (fc:Bool) (col:Int) (p:Bool×Bs):zdR fc col p=if zMS p.2 then some ⟨col,zDl p.2,fc,p.1⟩ else none:=by
  obtain ⟨d,t⟩:=p;unfold zdR;simp only;by_cases hf:zMS t
  · obtain ⟨h1,h2,h3,h4⟩:=hf
    rw [zoQ ⟨h1,h2,h3,h4⟩,zOg h1 (fun x=>h3 x.1) h4];obtain ⟨c,r,rfl⟩:∃ c r,t=c::r:=zmQ h1;have hlt:=zOh _ h4;have hc:=(zNX c).1 (by rw [zmu,zTo] at h4;exact h4.1);have h49:49<=c.toNat:=by
      have:c.toNat≠48:=fun e=>h3 (by rw [show c=48 from zoi.1 e];rfl);omega
    have hge:=zZd (r:=r) h49;have hp:10^(c::r).length<=10^2:=zmY tO h2;have hq:0<10^r.length:=Nat.pow_pos tO;have e2:(10:Nat)^2=100:=rfl;rw [zoQ tO];simp only;rw [zoQ ⟨by omega,by omega⟩]
  · rw [zWl hf]
    by_cases hw:t≠[]/\¬ (t.head?=some 48/\t≠[48])/\t.all zGr=true
    · obtain ⟨h1,h2,h4⟩:=hw
      rw [zOg h1 h2 h4];by_cases h0:t.head?=some 48
      · have:t=[48]:=Decidable.byContradiction fun e=>h2 ⟨h0,e⟩
        subst this;rfl
      · obtain ⟨c,r,rfl⟩:∃ c r,t=c::r:=zmQ h1
        have hc:=(zNX c).1 (by rw [zmu,zTo] at h4;exact h4.1);have h49:49<=c.toNat:=by
          have:c.toNat≠48:=fun e=>h0 (by rw [show c=48 from zoi.1 e];rfl);omega
        have hge:=zZd (r:=r) h49;have hl:2<=r.length:=by
          rcases zm5 r.length 2 with h|h
          · exact absurd ⟨h1,by simp only [zoN];omega,h0,h4⟩ hf
          · exact h
        have hp:10^2<=10^r.length:=zmY tO hl;have e2:(10:Nat)^2=100:=rfl;split
        · rename_i n hn
          split at hn
          · cases hn
            rw [zWl tO]
          · cases hn
        · rfl
    · rw [zSk hw]
def zSn (s:Bs):Option (Int×Int):=
  if s=zFx then some (3,1) else if s=zDS then some (3,0) else
  if s=[35,68,73,86,33] then some (4,1) else if s=[35,86,65,76,85,69,33] then some (4,2) else if s=[35,82,69,70,33] then some (4,3) else
  if s=[35,78,65,77,69,33] then some (4,4) else if s=[35,78,85,77,33] then some (4,5) else if s=[35,78,79,78,69,33] then some (4,6) else none
section
variable {C:CSpec} {GT:zG_}
def v3 (k n:Int):AV:=.agg [.int .i64 k,.int .i64 n,.str []]
def zZe (r:Option Int) (n0:Int):AV:=match r with
  |some n=>.tup [zK n,.bool true]
  |none=>.tup [zK n0,.bool false]
theorem zNL (hP:∀ s p H,C zAm [.str s,.str p] H (.bool (p.isPrefixOf s)) H) (s p:Bs) (H:Heap):EFun C GT zCj [.str s,.str p] H (.str (if p.isPrefixOf s=true then s.drop p.length else s)) H:=by
  have hp:=hP s p H;clear hP;refine zH ?_;by_cases h:p.isPrefixOf s=true
  · rw [h] at hp
    rw [zoQ h];have hl:p.length<=s.length:=by rw [zFy,zTo,zmt] at h;exact h.1
    refine sW ?_;refine za (v:=.str (s.drop p.length)) (zIJ s p.length hl) ?_;exact sRv
  · rw [zmI.2 h] at hp
    rw [zWl h];refine sW ?_;exact sRv
theorem zRG (hP:∀ s p H,C zA8 [.str s,.str p] H (.str (if p.isPrefixOf s=true then s.drop p.length else s)) H) (s p:Bs) (H:Heap):EFun C GT zD1 [.str s,.str p] H (.str (if p.isPrefixOf s=true then s.drop p.length else s)) H:=by
  have hp:=hP s p H;clear hP;refine zH<|sW ?_
  exact sRv
theorem zdg (n:Int) (H:Heap):EFun C GT zH9 [zK n] H (v3 4 n) H:=by
  refine zH ?_;refine sW ?_;refine sSA (.agg [.int .i64 4,zK n,.str []]) ?_;exact zAU (o:=0) rfl rfl (zJ hP) rfl rfl rfl hO
theorem is_ev (b:Bool) (H:Heap):EFun C GT zMM [.bool b] H (v3 3 (if b=true then 1 else 0)) H:=by
  refine zH ?_;cases b
  · refine sW ?_
    refine sSA (.agg zV4) ?_;refine sW ?_;refine sSA (.agg zV4) ?_;exact zAU (o:=0) rfl rfl (zJ hP) rfl rfl rfl hO
  · refine sW ?_
    refine sSA (.agg zV4) ?_;refine sW ?_;refine sS (.int .i64 1) zV6 ?_;refine sW ?_;refine sSA (.agg zV6) ?_;exact zAU (o:=0) rfl rfl (zJ hP) rfl rfl rfl hO
theorem zdh (s:Bs):(zPa s [48,49,50,51,52,53,54,55,56,57]=[])↔s.all zGr=true:=by
  rw [zVh];have:(fun c:UInt8=>zJP [48,49,50,51,52,53,54,55,56,57] c.toNat)=zGr:=by
    funext c
    unfold zJP zGr;rw [znn];simp only [List.any_cons,List.any_nil,znf,zmn,zTo,zoY,zol];have e:∀ n:Nat,n<256->(UInt8.ofNat n).toNat=n:=fun n h=>by simp;omega
    have e48:(48:UInt8).toNat=48:=rfl;have e49:(49:UInt8).toNat=49:=rfl;have e50:(50:UInt8).toNat=50:=rfl;have e51:(51:UInt8).toNat=51:=rfl;have e52:(52:UInt8).toNat=52:=rfl;have e53:(53:UInt8).toNat=53:=rfl;have e54:(54:UInt8).toNat=54:=rfl;have e55:(55:UInt8).toNat=55:=rfl;have e56:(56:UInt8).toNat=56:=rfl;have e57:(57:UInt8).toNat=57:=rfl;rw [e48,e49,e50,e51,e52,e53,e54,e55,e56,e57];omega
  rw [this]
theorem zdi (hT:∀ s cs H,(∀ c∈cs,c.toNat<128)->2<=cs.length->cs.length<=1000->s.length<=1000->C zDD [.str s,.str cs] H (.str (zPa s cs)) H) (hP:∀ s H,C zBJ [.str s,.str [45]] H (.str (zD0 s).2) H)
    (hA:∀ s H,zEW s->zDi (zNK s)->s.length<=1000->C zBY [.str s] H (.tup [zK (zNK s),.nili]) H) (hA2:∀ s H,zEW s->¬ zDi (zNK s)->s.length<=1000->∃ n t,C zBY [.str s] H (.tup [zK n,.iface t .undef]) H)
    (s:Bs) (H:Heap) (hl:s.length<=1000):∃ n0,EFun C GT zIE [.str s] H (zZe (zQA s) n0) H:=by
  have hp:=hP s H;have hdl:(zD0 s).2.length<=1000:=by
    unfold zD0;split
    · simp
    · grind
  have ht:=hT (zD0 s).2 [48,49,50,51,52,53,54,55,56,57] H zD_ zD_ zD_ hdl;have hda:=zdh (zD0 s).2;have hdf:zEW s↔((zD0 s).2≠[]/\¬ ((zD0 s).2.head?=some 48/\s≠[48])/\(zD0 s).2.all zGr=true):=zml;have ha:=hA s H;have ha2:=hA2 s H;clear hT hP hA hA2;unfold zQA;obtain ⟨d,hd⟩:∃ d,(zD0 s).2=d:=⟨_,rfl⟩;rw [hd] at hp ht hda hdf;generalize zPa d [48,49,50,51,52,53,54,55,56,57]=tr at *;by_cases hf:zEW s
  · rw [zoQ hf]
    obtain ⟨h1,h2,h3⟩:=hdf.1 hf;have htr:tr=[]:=hda.2 h3;subst htr;obtain ⟨c,r,rfl⟩:∃ c r,d=c::r:=zmQ h1;have hres:∃ n x,C zBY [.str s] H (.tup [zK n,x]) H/\((x=.nili/\(if zDi (zNK s) then some (zNK s) else none:Option Int)=some n)\/((∃ t,x=.iface t .undef)/\(if zDi (zNK s) then some (zNK s) else none:Option Int)=none)):=by grind
    obtain ⟨n,x,hat,hx⟩:=hres;clear ha ha2;have h48:c.toNat=48->s=[48]:=fun e=>Decidable.byContradiction fun h=>h2 ⟨by rw [show c=48 from zoi.1 e];rfl,h⟩;by_cases hc:c.toNat=48
    · have:=h48 hc
      rcases hx with ⟨rfl,e⟩|⟨⟨t,rfl⟩,e⟩
      · rw [e]
        refine ⟨n,zH ?_⟩;refine sW ?_;refine zCF (i:=0) rfl rfl<|sW ?_
        refine zc (zog.2 this)<|sW ?_
        exact sRv
      · rw [e]
        refine ⟨n,zH ?_⟩;refine sW ?_;refine zCF (i:=0) rfl rfl<|sW ?_
        refine zc (zog.2 this)<|sW ?_
        exact sRv
    · rcases hx with ⟨rfl,e⟩|⟨⟨t,rfl⟩,e⟩
      · rw [e]
        refine ⟨n,zH ?_⟩;refine sW ?_;refine zCF (i:=0) rfl rfl<|sW ?_
        exact sRv
      · rw [e]
        refine ⟨n,zH ?_⟩;refine sW ?_;refine zCF (i:=0) rfl rfl<|sW ?_
        exact sRv
  · rw [zWl hf]
    refine ⟨0,zH ?_⟩;clear ha ha2;cases d with
    | nil => refine zI (hp) ?_
             refine sW ?_;exact sRv
    | cons c r=>
      by_cases hc:c.toNat=48
      · by_cases hs:s=[48]
        · have htr:tr≠[]:=fun e=>hf (hdf.2 ⟨by simp,fun x=>x.2 hs,hda.1 e⟩)
          refine sW ?_;refine zCF (i:=0) rfl rfl<|sW ?_
          refine zc (zog.2 hs)<|sW ?_
          refine zt (zo0.2 htr) ?_;exact sRv
        · refine sW ?_
          refine zCF (i:=0) rfl rfl<|sW ?_
          refine zt (zo0.2 hs)<|sW ?_
          exact sRv
      · have htr:tr≠[]:=fun e=>hf (hdf.2 ⟨by simp,fun x=>hc (by have:=x.1;simp only [List.head?_cons,zoS] at this;rw [this];rfl),hda.1 e⟩)
        refine sW ?_;refine zCF (i:=0) rfl rfl<|sW ?_
        refine zt (zo0.2 htr) ?_;exact sRv
end
def zOi:AV:=.agg [.str [],.str [35,68,73,86,33],.str [35,86,65,76,85,69,33],.str [35,82,69,70,33],.str [35,78,65,77,69,33],.str [35,78,85,77,33],.str [35,78,79,78,69,33]]
def litV (r:Option (Int×Int)):AV:=match r with
  |some (k,n)=>.tup [v3 k n,.bool true]
  |none=>.tup [v3 0 0,.bool false]
def rV (r:RefP):AV:=.agg [.int .i64 r.col,.int .i64 r.row,.bool r.fc,.bool r.fr]
def zZf (r:Option RefP):AV:=match r with
  |some r=>.tup [rV r,.nili]
  |none=>.tup [rV noRef,zFo 2]
def zLi (r:Option Nd):AV:=match r with
  |some n=>.tup [ndV n,.bool true]
  |none=>.tup [ndV zU,.bool false]
section
variable {C:CSpec} {GT:zG_}
def zZg:Bs:=[65,66,67,68,69,70,71,72,73,74,75,76,77,78,79,80,81,82,83,84,85,86,87,88,89,90]
theorem zdj:∀ n:Fin 256,zJP zZg n.val=(decide (65<=n.val)&&decide (n.val<=90)):=by decide +kernel
theorem zdk (s:Bs):(zPa s zZg=[])↔s.all zO7=true:=by
  rw [zVh];have:(fun c:UInt8=>zJP zZg c.toNat)=zO7:=by
    funext c
    exact zdj ⟨c.toNat,zmv c⟩
  rw [this]
theorem zZh (hT:∀ s cs H,(∀ c∈cs,c.toNat<128)->2<=cs.length->cs.length<=1000->s.length<=1000->C zDD [.str s,.str cs] H (.str (zPa s cs)) H) (s:Bs) (H:Heap) (hl:s.length<=1000):EFun C GT zFf [.str s] H (.bool (zA3 s)) H:=by
  obtain ⟨r,hr⟩:∃ r,zA3 s=r:=⟨_,rfl⟩;rw [hr];unfold zA3 at hr;have ht:=hT s zZg H zD_ zD_ zD_ hl;clear hT;refine zH ?_;by_cases h1:2<=s.length
  · by_cases h2:s.length<=10
    · rw [zoj h1,zoj h2,zmN,zmN] at hr
      refine sW ?_;refine zMB (v0:=.bool (zPa s zZg==[])) (zod AV.bool ?_) rfl rfl rfl rfl (Old.refl _);rw [<-hr,znn,zol,zdk]
    · rw [zop h2,Bool.and_false,zmW] at hr
      subst hr;refine sW ?_;exact sRv
  · rw [zop h1,zmW,zmW] at hr
    subst hr;refine sW ?_;exact sRv
theorem zZj (b:Nat) (t:Bs) (H:Heap) (hb:H[b]?=some (.box [.str t])) (x':AV):zCk C GT zIF [pR b] H b [.undef] x' (some (.bool (dollar t).1,.box [.str (dollar t).2])):=by
  refine zAH ?_;cases t with
  | nil=>
    refine sW ?_;exact sRo
  | cons c r=>
    by_cases h:c=36
    · subst h
      have e:dollar (36::r)=(true,r):=rfl;rw [e];refine sW ?_;refine zCF (i:=0) rfl rfl<|sW ?_
      refine za (v:=.str r) (zIJ (36::r) 1 zS_)<|sS (.str r) [.str r] ?_
      exact sRo
    · have hn:c.toNat≠36:=fun e=>h (zoi.1 e)
      have e:dollar (c::r)=(false,c::r):=zWl h;rw [e];refine sW ?_;refine zCF (i:=0) rfl rfl<|sW ?_
      exact sRo
theorem zXV (k:Nat) (h:k<7):∃ t:Bs,[AV.str [],AV.str [35,68,73,86,33],AV.str [35,86,65,76,85,69,33],AV.str [35,82,69,70,33],AV.str [35,78,65,77,69,33],AV.str [35,78,85,77,33],AV.str [35,78,79,78,69,33]][k]?=some (.str t)/\(∀ s:Bs,s≠[]->s≠zFx->s≠zDS->(t=s->zSn s=some (4,(k:Int))))/\(k=0->t=[]):=by
  rcases k with _|_|_|_|_|_|_|k
  · exact ⟨_,rfl,fun s h _ _ e=>absurd e.symm h,fun _=>rfl⟩
  · exact ⟨_,rfl,fun s _ h1 h2 e=>by subst e;rfl,fun h=>by cases h⟩
  · exact ⟨_,rfl,fun s _ h1 h2 e=>by subst e;rfl,fun h=>by cases h⟩
  · exact ⟨_,rfl,fun s _ h1 h2 e=>by subst e;rfl,fun h=>by cases h⟩
  · exact ⟨_,rfl,fun s _ h1 h2 e=>by subst e;rfl,fun h=>by cases h⟩
  · exact ⟨_,rfl,fun s _ h1 h2 e=>by subst e;rfl,fun h=>by cases h⟩
  · exact ⟨_,rfl,fun s _ h1 h2 e=>by subst e;rfl,fun h=>by cases h⟩
  · omega
theorem zXW (hG:GT zEo=some zOi) (hI:∀ b H,C zDs [.bool b] H (v3 3 (if b=true then 1 else 0)) H) (hW:∀ n H,C zCt [zK n] H (v3 4 n) H) (s:Bs) (H:Heap) :
    EFun C GT zGI [.str s] H (litV (zSn s)) H:=by
  refine zH ?_;by_cases h1:s=zFx
  · have e:zSn s=some (3,1):=zoQ h1
    have h1':(s==[84,82,85,69])=true:=tE h1;have hi:C zDs [.bool true] (H++[.box zV3]) (v3 3 1) (H++[.box zV3]):=hI true _;clear hI hW;rw [e];refine zt h1'<|sW ?_
    refine sSA (v3 3 1) ?_;exact zj (o:=0) rfl rfl (zJ hP) rfl rfl rfl rfl hO
  by_cases h2:s=zDS
  · have e:zSn s=some (3,0):=by unfold zSn;rw [zWl h1,zoQ h2]
    have h1':(s==[84,82,85,69])=false:=tN h1;have h2':(s==[70,65,76,83,69])=true:=tE h2;have hi:C zDs [.bool false] (H++[.box zV3]) (v3 3 0) (H++[.box zV3]):=hI false _;clear hI hW;rw [e];refine zc h1'<|zt h2'<|sW ?_
    refine sSA (v3 3 0) ?_;exact zj (o:=0) rfl rfl (zJ hP) rfl rfl rfl rfl hO
  have h1':(s==[84,82,85,69])=false:=tN h1;have h2':(s==[70,65,76,83,69])=false:=tN h2;obtain ⟨r,hr⟩:∃ r,zSn s=r:=⟨_,rfl⟩;rw [hr];clear hI;refine zc h1'<|zc h2'<|zjn zOi hG rfl ?_
  refine zAr (fun k:Nat=>[(2,pR H.length),(14,zL k),(0,.str s),(13,zOi)]) (fun k H'=>H'=H++[.box zV3]/\k<=7/\∀ j t,j<k->[AV.str [],AV.str [35,68,73,86,33],AV.str [35,86,65,76,85,69,33],AV.str [35,82,69,70,33],AV.str [35,78,65,77,69,33],AV.str [35,78,85,77,33],AV.str [35,78,79,78,69,33]][j]?=some (.str t)->s=[]\/t≠s) (fun k=>7-k) 0 rfl ⟨rfl,by omega,fun j t h=>by omega⟩ (fun k H1 ⟨e,hk,hno⟩=>?_);subst e;by_cases hlt:k<7
  · obtain ⟨t,ht,hts,ht0⟩:=zXV k hlt
    have hw:=hW k (H++[.box zV3]);clear hW;by_cases he:t=s
    · by_cases hs:s=[]
      · refine sW ?_
        refine zBA ⟨by omega,by omega⟩<|za (v:=.str t) (by simpa [part] using ht)<|zt (tE he)<|sW ?_
        refine zc (zog.2 hs)<|zQ (r:=k+1) rfl tO ?_
        exact zAJ (k+1) rfl ⟨rfl,by omega,fun j t' _ _=>.inl hs⟩ tO
      · have e:=hts s hs h1 h2 he
        rw [hr] at e;subst e;refine sW ?_;refine zBA ⟨by omega,by omega⟩<|za (v:=.str t) (by simpa [part] using ht)<|zt (tE he)<|sW ?_
        refine zt (zo0.2 hs)<|sW ?_
        refine sSA (v3 4 ↑k) ?_;exact zj (v:=v3 4 k) (v1:=.bool true) (o:=0) rfl rfl (zJ hP) rfl rfl rfl rfl hO
    · refine sW ?_
      refine zBA ⟨by omega,by omega⟩<|za (v:=.str t) (by simpa [part] using ht)<|zc (tN he)<|sW ?_
      refine zQ (r:=k+1) rfl tO ?_;refine zAJ (k+1) rfl ⟨rfl,by omega,fun j t' hj hjt=>?_⟩ tO;by_cases e:j=k
      · subst e
        rw [ht] at hjt;cases hjt;exact .inr he
      · exact hno j t' tO hjt
  · have e:k=7:=by omega
    subst e;have e:zSn s=none:=by
      unfold zSn;rw [zWl h1,zWl h2];have n1:=hno 1 _ tO rfl;have n2:=hno 2 _ tO rfl;have n3:=hno 3 _ tO rfl;have n4:=hno 4 _ tO rfl;have n5:=hno 5 _ tO rfl;have n6:=hno 6 _ tO rfl;by_cases hs:s=[]
      · subst hs;rfl
      · rw [zWl (fun x=>n1.elim hs fun y=>y x.symm),zWl (fun x=>n2.elim hs fun y=>y x.symm),zWl (fun x=>n3.elim hs fun y=>y x.symm),zWl (fun x=>n4.elim hs fun y=>y x.symm),zWl (fun x=>n5.elim hs fun y=>y x.symm),zWl (fun x=>n6.elim hs fun y=>y x.symm)]
    rw [e] at hr;subst hr;refine sW ?_;refine sSA (.agg zV3) ?_;exact zj (v:=v3 0 0) (v1:=.bool false) (o:=0) rfl rfl (zJ hP) rfl rfl rfl rfl hO
theorem sGenA {a:AK} {vs:List AV} {H:Heap} {K:AV->Heap->Prop} (P:Heap->Prop) (h:P H) (k:∀ H',P H'->actP a vs H' K):actP a vs H K:=k H h
theorem sStrB {s:Bs} {H:Heap} {K:AV->Heap->Prop} (h:s.length<=140737488355328) (q:K (.sl (some false) H.length 1 0 s.length) (H++[.row 1 (s.map zq)])):actP .strToBytes [.str s] H K:=by
  refine zMj (v:=.sl (some false) H.length 1 0 s.length) (H':=H++[.row 1 (s.map zq)]) ?_ q;simp only [astep];rw [zoQ h]
theorem Old.at {H0 H:Heap} (h:Old H0 H) (x:List ABlk):Old H0 (H++x):=h.push x
theorem zgq {s:Bs} {fc:Bool} {t:Bs} (h:dollar s=(fc,t)):zE8 s=zRq (fc,t):=by unfold zE8;rw [h]
theorem zdl {fc:Bool} {c:UInt8} {r:Bs} (h:zO7 c=true):zRq (fc,c::r)=if zMS (dollar r).2 then some ⟨(c.toNat:Int)-64,zDl (dollar r).2,fc,(dollar r).1⟩ else none:=by
  unfold zRq;simp only;rw [zoQ h,zgp]
theorem zdm {fc:Bool} {c:UInt8} {r:Bs} (h:zO7 c=false):zRq (fc,c::r)=none:=by
  unfold zRq;simp only;rw [h];rfl
structure RSt where
  k:Nat
  b:Bool
theorem zjs (hD:∀ b t H,H[b]?=some (.box [.str t])->C zEl [pR b] H (.bool (dollar t).1) (H.set b (.box [.str (dollar t).2]))) (s:Bs) (H:Heap) (hl:s.length<=1000) :
    EFun C GT zMO [.str s] H (zZf (zE8 s)) H:=by
  have hd1:=hD H.length s;have hd2:=fun t=>hD H.length t;clear hD;obtain ⟨⟨fc,t⟩,hds⟩:∃ p,dollar s=p:=⟨_,rfl⟩;rw [hds] at hd1;simp only at hd1;rw [zgq hds];refine zH ?_;cases t with
  | nil=>
    have e:zZf (zRq (fc,[]))=.tup [rV noRef,zFo 2]:=rfl;rw [e];refine zAV (x:=AV.str s) rfl<|zBc (hd1 _ hP) (fun h=>by cases h) ?_
    refine sS (.bool fc) [.int .i64 0,.int .i64 0,.bool fc,.bool false] ?_;refine sW ?_;refine sSA (.agg zP) ?_;exact zj (o:=0) rfl rfl (zJ hP) rfl rfl rfl rfl ((((((Old.refl _).push _).push _).set (by first|assumption|exact zoR _|simp|omega) _).set (by first|assumption|exact zoR _|simp|omega) _).set (by first|assumption|exact zoR _|simp|omega) _)
  | cons c r=>
    have hc256:c.toNat<256:=zmv c;by_cases hcap:zO7 c=true
    case neg=>
      have hcap:=zmI.2 hcap;rw [zdm hcap];have e:zZf none=.tup [rV noRef,zFo 2]:=rfl;rw [e];by_cases h65:c.toNat<65
      · refine zAV (x:=AV.str s) rfl<|zBc (hd1 _ hP) (fun h=>by cases h) ?_
        refine sS (.bool fc) [.int .i64 0,.int .i64 0,.bool fc,.bool false] ?_;refine sW ?_;refine zCF (i:=0) rfl rfl ?_;refine sW ?_;refine sSA (.agg zP) ?_;exact zj (o:=0) rfl rfl (zJ hP) rfl rfl rfl rfl hO
      · have h90:90<c.toNat:=by
          unfold zO7 at hcap;rw [znH,zl4,zl4] at hcap;omega
        refine zAV (x:=AV.str s) rfl<|zBc (hd1 _ hP) (fun h=>by cases h) ?_
        refine sS (.bool fc) [.int .i64 0,.int .i64 0,.bool fc,.bool false] ?_;refine sW ?_;refine zCF (i:=0) rfl rfl ?_;refine sW ?_;refine zCF (i:=0) rfl rfl ?_;refine sW ?_;refine sSA (.agg zP) ?_;exact zj (o:=0) rfl rfl (zJ hP) rfl rfl rfl rfl hO
    case pos=>
      have hcc:=(zdf c).1 hcap;rw [zdl hcap];obtain ⟨⟨fr,u⟩,hdr⟩:∃ p,dollar r=p:=⟨_,rfl⟩;have hd3:=hd2 r;rw [hdr] at hd3 ⊢;simp only at hd3 ⊢;clear hd2;obtain ⟨w,hw⟩:∃ w,(if zMS u then some (⟨(c.toNat:Int)-64,zDl u,fc,fr⟩:RefP) else none)=w:=⟨_,rfl⟩;rw [hw];refine zAV (x:=AV.str s) rfl<|zBc (hd1 _ hP) (fun h=>by cases h) ?_
      refine sS (.bool fc) [.int .i64 0,.int .i64 0,.bool fc,.bool false] ?_;refine sW ?_;refine zCF (i:=0) rfl rfl ?_;refine sW ?_;refine zCF (i:=0) rfl rfl ?_;refine sW ?_;refine zCF (i:=0) rfl rfl<|zCl (r:=(c.toNat:Int)-65) (by rw [IntKind.wrap_u8];omega)<|zCl (r:=(c.toNat:Int)-65) (by rw [IntKind.wrap_i64];omega)<|zCl (r:=(c.toNat:Int)-64) (by rw [IntKind.wrap_i64];omega) ?_
      refine sS (.int .i64 (↑c.toNat-64)) [.int .i64 (↑c.toNat-64),.int .i64 0,.bool fc,.bool false] ?_;refine sW ?_;refine za (v:=.str r) (zIJ (c::r) 1 zS_) ?_;refine sS (.str r) [.str r] ?_;refine zBc (hd3 _ hP) (fun h=>by cases h) ?_;refine sS (.bool fr) [.int .i64 (↑c.toNat-64),.int .i64 0,.bool fc,.bool fr] ?_;refine sW ?_;by_cases h0:u=[]
      · subst h0
        rw [zWl (fun x=>x.1 rfl)] at hw;subst hw;have ew:zZf none=.tup [rV noRef,zFo 2]:=rfl;rw [ew];refine sW ?_;refine sSA (.agg zP) ?_;exact zj (o:=0) rfl rfl (zJ hP) rfl rfl rfl rfl ((((((((((Old.refl _).push _).push _).set (by first|assumption|exact zoR _|simp|omega) _).set (by first|assumption|exact zoR _|simp|omega) _).set (by first|assumption|exact zoR _|simp|omega) _).set (by first|assumption|exact zoR _|simp|omega) _).set (by first|assumption|exact zoR _|simp|omega) _).set (by first|assumption|exact zoR _|simp|omega) _).set (by first|assumption|exact zoR _|simp|omega) _)
      obtain ⟨e,u',hu⟩:∃ e u',u=e::u':=zmQ h0;have he0:u[0]?=some e:=by rw [hu];rfl
      by_cases h2':u.length<=2
      case neg=>
        rw [zWl (fun x=>h2' x.2.1)] at hw;subst hw;have ew:zZf none=.tup [rV noRef,zFo 2]:=rfl;rw [ew];refine zc (tN h0) ?_;refine sW ?_;refine sSA (.agg zP) ?_;exact zj (o:=0) rfl rfl (zJ hP) rfl rfl rfl rfl ((((((((((Old.refl _).push _).push _).set (by first|assumption|exact zoR _|simp|omega) _).set (by first|assumption|exact zoR _|simp|omega) _).set (by first|assumption|exact zoR _|simp|omega) _).set (by first|assumption|exact zoR _|simp|omega) _).set (by first|assumption|exact zoR _|simp|omega) _).set (by first|assumption|exact zoR _|simp|omega) _).set (by first|assumption|exact zoR _|simp|omega) _)
      by_cases h48:e.toNat=48
      · have he:e=48:=zoi.1 h48
        subst he;rw [zWl (fun x=>x.2.2.1 (by rw [hu];rfl))] at hw;subst hw;have ew:zZf none=.tup [rV noRef,zFo 2]:=rfl;rw [ew];refine zc (tN h0)<|zA (.str u) hP rfl<|zC<|zc tF<|zA (.str u) hP rfl<|zCF (i:=0) rfl he0 ?_
        refine zC<|zt tT<|za (v:=zP) rfl<|zM (v:=.agg zP) (AV.cells (.agg zP)) hP rfl rfl rfl rfl ?_
        exact zj (o:=0) rfl rfl (zJ hP) rfl rfl rfl rfl hO
      refine zc (tN h0)<|zA (.str u) hP rfl<|zC<|zc tF<|zA (.str u) hP rfl<|zCF (i:=0) rfl he0 ?_
      refine zC<|zc tF<|zA (.str u) hP rfl ?_
      refine sGenA (fun H'=>Old H H'/\H'[(H++[ABlk.box [.str s]]).length]?=some (.box [.int .i64 ((c.toNat:Int)-64),.int .i64 0,.bool fc,.bool fr])) ⟨?_,hP⟩ (fun H2 ⟨ho,hb2⟩=>?_)
      · have hp:=((Old.refl H).push [ABlk.box [.str s]]).push [ABlk.box zP]
        have h1:H.length<=H.length:=zoR _;have h2:H.length<=(H++[ABlk.box [.str s]]).length:=by simp
        exact (((((hp.set h1 _).set h2 _).set h2 _).set h1 _).set h1 _).set h2 _
      have h2:H.length<=(H++[ABlk.box [.str s]]).length:=by simp
      refine sStrB tO<|zIU ?_
      refine zAr (fun k:Nat=>[(2,pR (H++[ABlk.box [.str s]]).length),(54,zL k),(52,.sl (some false) H2.length 1 0 u.length),(53,zL u.length)])
        (fun k H'=>Old H H'/\H'[(H++[ABlk.box [.str s]]).length]?=some (.box [.int .i64 ((c.toNat:Int)-64),zL (zDl (u.take k)),.bool fc,.bool fr])/\H'[H2.length]?=some (.row 1 (u.map zq))/\k<=u.length/\(u.take k).all zGr=true)
        (fun k=>u.length-k) 0 rfl ⟨ho.push _,zG hb2,zB,zmB _,rfl⟩ (fun k H1 ⟨ho1,hb1,hr1,hk,hall⟩=>?_)
      have hbl:=zl_ hb2;by_cases hlt:k<u.length
      · obtain ⟨x,hx⟩:∃ x,u[k]?=some x:=⟨_,zoO hlt⟩
        have hx256:x.toNat<256:=zmv x;have hxm:(u.map zq)[k]?=some (byV x):=by rw [zoX,hx];rfl
        have etk:u.take (k+1)=u.take k++[x]:=by
          obtain ⟨q1,q2⟩:=zg hx;rw [zm2 q1,q2]
        by_cases hd:zGr x=true
        · have hdd:=(zNX x).1 hd
          have hv:=zOh _ hall;have hpw:10^(u.take k).length<=10^2:=zmY tO (by rw [zon];omega);have e2:(10:Nat)^2=100:=rfl;refine sW ?_;refine sAt ⟨by omega,by omega⟩<|zCs k (byV x) (byV x) tO hr1 hxm rfl<|sW ?_
          refine zQ (r:=zDl (u.take k)*10) tO tO<|zCl (r:=(x.toNat:Int)-48) (by rw [IntKind.wrap_u8];omega)<|zCl (r:=(x.toNat:Int)-48) (by rw [IntKind.wrap_i64];omega)<|zQ (r:=zDl (u.take k)*10+(x.toNat-48)) tO tO<|sS (.int .i64 ↑(zDl (List.take k u)*10+(x.toNat-48))) [.int .i64 (↑c.toNat-64),.int .i64 ↑(zDl (List.take k u)*10+(x.toNat-48)),.bool fc,.bool fr] ?_
          refine zQ (r:=k+1) rfl tO ?_;refine zAJ (k+1) rfl ⟨ho1.set h2 _, ?_,zE tO hr1,by omega, ?_⟩ tO
          · rw [etk,zSm];exact zS hb1
          · rw [etk,List.all_append,hall];simp [hd]
        · have hd:=zmI.2 hd
          rw [zWl (fun y=>by
            have:=zmE.1 y.2.2.2 x (zoc hx);rw [hd] at this;cases this)] at hw
          subst hw;have ew:zZf none=.tup [rV noRef,zFo 2]:=rfl;rw [ew];by_cases h48':x.toNat<48
          · refine sW ?_
            refine sAt ⟨by omega,by omega⟩<|zCs k (byV x) (byV x) tO hr1 hxm rfl<|sW ?_
            refine sSA (.agg zP) ?_;exact zj (v:=rV noRef) (v1:=zFo 2) (o:=0) rfl rfl (zJ (zS hb1)) rfl rfl rfl rfl (ho1.set h2 _)
          · have:57<x.toNat:=by
              unfold zGr at hd;rw [znH,zl4,zl4] at hd;omega
            refine sW ?_;refine sAt ⟨by omega,by omega⟩<|zCs k (byV x) (byV x) tO hr1 hxm rfl<|sW ?_
            refine sSA (.agg zP) ?_;exact zj (v:=rV noRef) (v1:=zFo 2) (o:=0) rfl rfl (zJ (zS hb1)) rfl rfl rfl rfl (ho1.set h2 _)
      · have ek:k=u.length:=by omega
        subst ek;rw [zmg] at hall hb1;rw [zoQ ⟨h0,h2',fun y=>h48 (by rw [hu] at y;rw [zoh y];rfl),hall⟩] at hw;subst hw;have ew:zZf (some ⟨(c.toNat:Int)-64,zDl u,fc,fr⟩)=.tup [.agg [.int .i64 ((c.toNat:Int)-64),zL (zDl u),.bool fc,.bool fr],.nili]:=rfl;rw [ew];refine sW ?_;refine sSA (.agg [.int .i64 (↑c.toNat-64),zL (zDl u),.bool fc,.bool fr]) ?_;exact zj (v:=.agg [.int .i64 ((c.toNat:Int)-64),zL (zDl u),.bool fc,.bool fr]) (v1:=.nili) (o:=0) rfl rfl (zJ (zS hb1)) rfl rfl rfl rfl (ho1.set h2 _)
end
def CR (C:CSpec) (f:Nat) (args:List AV) (H:Heap) (b:Nat) (s:Bs) (d:Nat) (r:Option (Nd×Nat)):Prop:=
  (∀ n e,r=some (n,e)->C f args H (ndV n) (H.set b (rdB s e d)))/\(r=none->C f (.pan .undef::args) H zHK (H.set b (.box (wkC s))))
def mkR (s:Bs) (d:Nat) (r:Option (Nd×Nat)):Option (AV×ABlk):=r.map fun p=>(ndV p.1,rdB s p.2 d)
def Off (H:Heap) (b:Nat) (H':Heap):Prop:=∀ c x,H[c]?=some x->c≠b->H'[c]?=some x
abbrev zR (k:Int) (a b:RefP):List AV:=[.int .i64 k,.int .i64 0,.str [],.int .i64 a.col,.int .i64 a.row,.bool a.fc,.bool a.fr,.int .i64 b.col,.int .i64 b.row,.bool b.fc,.bool b.fr,.lst (some true) 0 []]
def zXX (k num:Int) (t:Bs) (x:AV):AV:=.agg [.int .i64 k,.int .i64 num,.str t,.int .i64 0,.int .i64 0,.bool false,.bool false,.int .i64 0,.int .i64 0,.bool false,.bool false,x]
theorem zRH {n0 nb m:Nat} {k num:Int} {t:Bs} {xs:List AV} {H:Heap} (h:H[nb]?=some (.row 12 xs)) (hn:n0<=nb) (hm:xs.length=m) :
    zDm n0 (zXX k num t (.sl (some false) nb 12 0 m)) H=some (zXX k num t (.lst (some false) 12 xs),H.set nb (.frz 12 xs)):=by
  subst hm;have:¬ nb<n0:=by omega
  simp only [zXX,zDm,zKR,this,zot,h];simp [zTb]
section
variable {C:CSpec} {GT:zG_}
theorem zgr (t:Bs) (H:Heap) (h:zCE t≠0):EFun C GT zHB [.str t] H (zL (zCE t)) H:=by
  refine zH ?_;by_cases h1:t=[61]
  · subst h1
    refine sX ?_;exact sRv
  by_cases h2:t=[60,62]
  · subst h2
    refine sX ?_;exact sRv
  by_cases h3:t=[60]
  · subst h3
    refine sX ?_;exact sRv
  by_cases h4:t=[60,61]
  · subst h4
    refine sX ?_;exact sRv
  by_cases h5:t=[62]
  · subst h5
    refine sX ?_;exact sRv
  by_cases h6:t=[62,61]
  · subst h6
    refine sX ?_;exact sRv
  by_cases h7:t=[38]
  · subst h7
    refine sX ?_;exact sRv
  by_cases h8:t=[43]
  · subst h8
    refine sX ?_;exact sRv
  by_cases h9:t=[45]
  · subst h9
    refine sX ?_;exact sRv
  by_cases h10:t=[42]
  · subst h10
    refine sX ?_;exact sRv
  by_cases h11:t=[47]
  · subst h11
    refine sX ?_;exact sRv
  · exact absurd (by unfold zCE;simp only [h1,h2,h3,h4,h5,h6,h7,h8,h9,h10,h11,zot]) h
theorem zgs (hB:∀ b s p d H,H[b]?=some (rdB s p d)->p<=s.length->s.length<=200->C zn [pR b] H (.tup []) (H.set b (rdB s (skip s p) d)))
    (hF:∀ b s p d a e H,H[b]?=some (rdB s p d)->C zo (.pan .undef::[pR b,.int .i64 a,zFo e]) H zHK (H.set b (.box (wkC s))))
    (c:UInt8) (b:Nat) (s:Bs) (p d:Nat) (H:Heap) (hb:H[b]?=some (rdB s p d)) (hp:p<=s.length) (hl:s.length<=200) :
    zCk C GT zDF [pR b,byV c] H b (wkC s) zHK (if s[skip s p]?=some c then some (.tup [],rdB s (skip s p+1) d) else none):=by
  have hbl:=hB b s p d H hb hp hl;have hq:=zCO hp;generalize skip s p=q at *;have hf:=hF b s q d q 2 (H.set b (rdB s q d)) (zS hb);clear hB hF;refine zAH ?_;by_cases hlt:q<s.length
  · obtain ⟨x,hx⟩:∃ x,s[q]?=some x:=⟨_,zoO hlt⟩
    by_cases h:x=c
    · subst h
      rw [zoQ hx];refine zBc hbl (fun h=>by cases h)<|zA (zL q) (zS hb) rfl<|zA (.str s) (zS hb) rfl<|zc tN<|zA (.str s) (zS hb) rfl<|zA (zL q) (zS hb) rfl<|zCF rfl hx<|zC<|zc (zog.2 rfl)<|zA (zL q) (zS hb) rfl<|zQ (r:=q+1) rfl tO<|zM (v:=.int .i64 ↑(q+1)) [.str s,.int .i64 ↑(q+1),zL d] (zS hb) rfl rfl rfl rfl ?_
      exact zQ9 _ (by first|rfl|assumption) rfl rfl rfl rfl (((OldB.start hb).setB _).setB _) rfl
    · rw [zWl (by rw [hx];exact fun e=>h (zoh e))]
      have hn:x.toNat≠c.toNat:=fun e=>h (zoi.1 e);refine zBc hbl (fun h=>by cases h)<|zA (zL q) (zS hb) rfl<|zA (.str s) (zS hb) rfl<|sW ?_
      refine zA (.str s) (zS hb) rfl<|zA (zL q) (zS hb) rfl<|zCF rfl hx<|sW ?_
      refine zt (zo0.2 tO)<|zA (zL q) (zS hb) rfl<|zAz hf ?_
      exact sP
  · rw [zWl (by rw [zmA tO];simp)]
    refine zBc hbl (fun h=>by cases h)<|zA (zL q) (zS hb) rfl<|zA (.str s) (zS hb) rfl<|sW ?_
    refine zA (zL q) (zS hb) rfl<|zAz hf ?_
    exact sP
theorem zZk (hF:∀ b s p d a e H,H[b]?=some (rdB s p d)->C zo (.pan .undef::[pR b,.int .i64 a,zFo e]) H zHK (H.set b (.box (wkC s))))
    (f:Nat) (caps:List AV) (a:Int) (b:Nat) (s:Bs) (p d:Nat) (H:Heap) (hb:H[b]?=some (rdB s p d)) (hd:d<=1000) (r:Option (Nd×Nat))
    (hC:∀ H',H'[b]?=some (rdB s p (d+1))->Off H b H'->CR C f caps H' b s (d+1) r) :
    zCk C GT zCe [pR b,.int .i64 a,.fn f [] caps] H b (wkC s) zHK (mkR s d (if d=30 then none else r)):=by
  have hbl:=zl_ hb;refine zAH ?_;by_cases h30:d=30
  · rw [zoQ h30]
    have e:mkR s d none=none:=rfl;rw [e];have hf:=hF b s p d a 4;clear hF hC;refine sX ?_;refine zAz (hf _ hP) ?_;exact sP
  · rw [zWl h30]
    have hoff:∀ X Y,Off H b ((H++[X]).set b Y):=fun X Y c x hc hn=>zE (zmJ hn) (zG hc);cases r with
    | none=>
      have e:mkR s d none=none:=rfl;rw [e];have hc:=fun H' h1 h2=>(hC H' h1 h2).2 rfl;clear hF hC;refine sX ?_;refine zQ (r:=d+1) rfl tO<|sS (.int .i64 ↑(d+1)) [.str s,zL p,.int .i64 ↑(d+1)] ?_
      refine zAz (hc _ (zS (zG hb)) (hoff _ _)) ?_;exact sP
    | some p'=>
      obtain ⟨n,e⟩:=p';have e0:mkR s d (some (n,e))=some (ndV n,rdB s e d):=rfl;rw [e0];have hc:=fun H' h1 h2=>(hC H' h1 h2).1 n e rfl;clear hF hC;refine sX ?_;refine zQ (r:=d+1) rfl tO<|sS (.int .i64 ↑(d+1)) [.str s,zL p,.int .i64 ↑(d+1)] ?_
      refine zCP (hc _ (zS (zG hb)) (hoff _ _))<|sSA (ndV n) ?_
      refine sX ?_;refine zQ (r:=d) tO tO<|sS (.int .i64 ↑d) [.str s,zL e,.int .i64 ↑d] ?_
      refine sX ?_;refine sSA (ndV n) ?_;exact zAC (o:=0) (ndV n) (by first|rfl|assumption) rfl rfl (zJ hP) rfl rfl rfl hO rfl
theorem zgt (b rb:Nat) (s:Bs) (p d:Nat) (H:Heap) (hb:H[b]?=some (rdB s p d)) (hr:H[rb]?=some (.box [pR b])) (hp:p<s.length) (hl:s.length<=200)
    (hN:∀ H',H'[b]?=some (rdB s (p+1) d)->CR C zAT [pR b] H' b s d ((P s).one (p+1) d)) :
    zCk C GT zCf [pR rb] H b (wkC s) zHK (mkR s d (((P s).one (p+1) d).map fun q=>(zl1 q.1,q.2))):=by
  have hbl:=zl_ hb;have hne:rb≠b:=fun e=>by rw [e,hb] at hr;cases hr
  generalize (P s).one (p+1) d=r at *;refine zAH ?_;cases r with
  | none=>
    have hc:=fun H' h1=>(hN H' h1).2 rfl;clear hN;have e:mkR s d (Option.map (fun q:Nd×Nat=>(zl1 q.1,q.2)) none)=none:=rfl;rw [e];refine sX ?_;refine zQ (r:=p+1) rfl tO<|sS (.int .i64 ↑(p+1)) [.str s,.int .i64 ↑(p+1),zL d] ?_
    refine sX ?_;refine zAz (hc _ (zS (zG hb))) ?_;exact sP
  | some p'=>
    obtain ⟨n,e⟩:=p';have hc:=fun H' h1=>(hN H' h1).1 n e rfl;clear hN;have e0:mkR s d (Option.map (fun q:Nd×Nat=>(zl1 q.1,q.2)) (some (n,e)))=some (ndV (zl1 n),rdB s e d):=rfl;rw [e0];refine sX ?_;refine zQ (r:=p+1) rfl tO<|sS (.int .i64 ↑(p+1)) [.str s,.int .i64 ↑(p+1),zL d] ?_
    refine sX ?_;refine zCP (hc _ (zS (zG hb)))<|zAA (vs':=[ndV n]) rfl rfl<|sX ?_
    refine sSA (.agg [.int .i64 7,.int .i64 0,.str [],.int .i64 0,.int .i64 0,.bool false,.bool false,.int .i64 0,.int .i64 0,.bool false,.bool false,.sl (some false) ((List.set (H++[ABlk.box zV1]) b (ABlk.box [.str s,.int .i64 ↑(p+1),zL d])).set b (rdB s e d)).length 12 0 [ndV n].length]) ?_;exact zAC (o:=0) (zXX 7 0 [] (.sl (some false) (((H++[ABlk.box (ndC zU)]).set b (rdB s (p+1) d)).set b (rdB s e d)).length 12 0 1)) rfl rfl rfl (zJ hP) rfl (zRH (xs:=[ndV n]) hP tC rfl) rfl (by (repeat' (first|exact OldB.start (by assumption)|apply OldB.push|apply OldB.setB|refine OldB.set ?_ tC _));done) rfl
end
def zIm (s t:Bs) (e d:Nat):Option (Nd×Nat):=match tok s (e+1) with
  |.sign e2 [41]=>some (zAw t [],e2)
  |_=>(P s).args t [] (e+1) d
def zdn (s:Bs) (p d:Nat):Option (Nd×Nat):=((P s).loose 1 (p+1) d).bind fun q=>match tok s q.2 with
  |.sign e2 [41]=>some (q.1,e2)
  |_=>none
def twS (s:Bs) (l p d:Nat):Option (Nd×Nat):=if l=4 then (P s).one p d else bl s ((P s).loose (l+1) p d)
theorem Owns.notBox {H0 H:Heap} {v:AV} {k c:Nat} {xs cs:List AV} (h:Owns H0 H v k xs) (hc:H[c]?=some (.box cs)):v.blk≠some c:=by
  rcases h with ⟨rfl,_⟩|⟨b',rfl,h1,h2,h3⟩
  · intro e;cases e
  · intro e
    simp only [AV.blk,zoS] at e;subst e;rw [h2] at hc;cases hc
theorem Owns.base {H0 H0' H:Heap} {v:AV} {k:Nat} {xs:List AV} (h:Owns H0 H v k xs) (e:H0'.length=H0.length):Owns H0' H v k xs:=by
  rcases h with h|⟨b',h0,h1,h2⟩
  · exact .inl h
  · exact .inr ⟨b',h0,by rw [e];exact h1,h2⟩
theorem zZl {r:Bs} {i:Nat} (h:r.head?≠some 34):quo (34::r) i=some ([],i+1):=by
  cases r with
  |nil=>simp [quo]
  | cons d r=>
    simp only [quo,zoz];rw [zWl (fun e=>h (by rw [e];rfl))]
theorem zZm {r:Bs} {i:Nat}:quo (34::34::r) i=(quo r (i+2)).map fun p=>(34::p.1,p.2):=by simp only [quo,zoz]
theorem zZn {c:UInt8} {r:Bs} {i:Nat} (h:c≠34):quo (c::r) i=(quo r (i+1)).map fun p=>(c::p.1,p.2):=by
  cases r with
  |nil=>simp [quo,h]
  |cons d r=>simp only [quo];rw [zWl h]
structure TSt where
  k:Nat
  v:AV
  acc:Bs
def paren (s:Bs) (q:Nat):Option Nat:=if s[skip s q]?=some 41 then some (skip s q+1) else none
theorem zXY {c:UInt8} (h:c.toNat=41\/c.toNat=44\/c.toNat=40\/c.toNat=45):zh c=false:=by
  have e:∀ n:Fin 256,(n.val=41\/n.val=44\/n.val=40\/n.val=45)->zh (UInt8.ofNat n.val)=false:=by decide +kernel
  have:=e ⟨c.toNat,zmv c⟩ h;simpa using this
theorem zHn {s:Bs} {p:Nat} {c:UInt8} (h:s[skip s p]?=some c) (hc:c.toNat=41\/c.toNat=44\/c.toNat=40\/c.toNat=45):tok s p=.sign (skip s p+1) [c]:=by
  have hw:=zXY hc;have n1:c≠34:=fun e=>by subst e;revert hc;decide
  have n2:c≠35:=fun e=>by subst e;revert hc;decide
  have n3:c≠60:=fun e=>by subst e;revert hc;decide
  have n4:c≠62:=fun e=>by subst e;revert hc;decide
  unfold tok zBi;rw [h];simp only [hw,zoZ,zot,n1,n2];split
  · rw [zWl (by rintro (⟨e,_⟩|⟨e,_⟩|⟨e,_⟩);exact n3 e;exact n3 e;exact n4 e)]
  · rfl
theorem zIL {s:Bs} {p e:Nat} {c:UInt8} (h:tok s p=.sign e [c]):s[skip s p]?=some c/\e=skip s p+1:=by
  unfold tok zBi at h;split at h
  · cases h
  · rename_i x hx
    split at h
    · cases h
    · split at h
      · split at h <;> cases h
      · split at h
        · split at h <;> cases h
        · split at h
          · split at h
            · cases h
            · cases h;exact ⟨hx,rfl⟩
          · cases h;exact ⟨hx,rfl⟩
theorem zgu (s:Bs) (p d:Nat):zdn s p d=((P s).loose 1 (p+1) d).bind fun q=>(paren s q.2).map fun e=>(q.1,e):=by
  unfold zdn;refine zEV rfl fun q _=>?_;unfold paren;by_cases h:s[skip s q.2]?=some 41
  · rw [zHn h (.inl rfl),zoQ h];rfl
  · rw [zWl h]
    split
    · rename_i e2 hk
      exact absurd (zIL hk).1 h
    · rfl
section
variable {C:CSpec} {GT:zG_}
theorem zgv (hF:∀ b s p d a e H,H[b]?=some (rdB s p d)->C zo (.pan .undef::[pR b,.int .i64 a,zFo e]) H zHK (H.set b (.box (wkC s))))
    (b:Nat) (s:Bs) (p d:Nat) (H:Heap) (hb:H[b]?=some (rdB s p d)) (hp:p<s.length) (hl:s.length<=200) :
    zCk C GT zDG [pR b] H b (wkC s) zHK (mkR s d ((quo (s.drop (p+1)) (p+1)).map fun q=>(zHG q.1,q.2))):=by
  have hbl:=zl_ hb;obtain ⟨r,hr⟩:∃ r,quo (s.drop (p+1)) (p+1)=r:=⟨_,rfl⟩;rw [hr];refine zAH<|sW ?_
  refine zQ (r:=p+1) rfl tO<|sS (.int .i64 ↑(p+1)) [.str s,.int .i64 ↑(p+1),zL d] ?_
  refine zAr (fun t:TSt=>[(2,pR H.length),(4,t.v),(0,pR b),(3,zL p)])
    (fun t H'=>Owns (H.set b (rdB s t.k d)) H' t.v 1 (t.acc.map zq)/\OldB H b (rdB s t.k d) H'/\H'[b]?=some (rdB s t.k d)/\H'[H.length]?=some (.box (ndC zU))/\t.k<=s.length/\t.acc.length<=t.k/\(quo (s.drop t.k) t.k).map (fun q=>(t.acc++q.1,q.2))=r)
    (fun t=>s.length-t.k) ⟨p+1,.lst (some true) 0 [],[]⟩ rfl ⟨.inl ⟨rfl,rfl⟩,(OldB.start hb).push _ |>.setB _,zS (zG hb),zE tO zB,by simp only;omega,by simp,by simp only [zo4];rw [hr];cases r <;> rfl⟩ (fun ⟨k,v,acc⟩ H1 ⟨how,hob,hb1,h2,hk,hal,hq⟩=>?_)
  dsimp only at how hob hb1 h2 hk hal hq ⊢;have hlen1:=hob.old.1;rw [zoW] at hlen1;by_cases hlt:k<s.length
  case neg=>
    have e:r=none:=by rw [<-hq,zmM tO];rfl
    subst e;have e0:mkR s d (Option.map (fun q:Bs×Nat=>(zHG q.1,q.2)) none)=none:=rfl;rw [e0];have hf:=hF b s k d p 2 H1 hb1;clear hF;refine sW ?_;refine zAz hf ?_;exact sP
  obtain ⟨c,hc⟩:∃ c,s[k]?=some c:=⟨_,zoO hlt⟩;rw [zBh hc] at hq;by_cases h34:c=34
  · subst h34
    by_cases hend:k+1<s.length/\s[k+1]?=some 34
    · obtain ⟨hlt2,hc2⟩:=hend
      rw [zBh hc2,zZm,zoH] at hq;refine sW ?_;refine zQ (r:=k+1) rfl tO<|sS (.int .i64 ↑(k+1)) [.str s,.int .i64 ↑(k+1),zL d] ?_
      refine sW ?_;refine zAA (vs':=[zq 34]) rfl rfl ?_;have hob2:=hob.setB (rdB s (k+1) d);refine zA0 (H0:=H.set b (rdB s (k+1) d)) (((how.set (how.notBox hb1) _).base zS_).push _) (hob2.old.push _) zAR tO (by simp only [zoU,zoN,zoT];omega) zS_ fun v' H' ho' hH' hb' hf=>?_;have hx1:=hf b _ (how.notBox hb1) (zG (zS hb1));have hx2:=hf H.length _ (how.notBox h2) (zG (zE tO h2));refine sW ?_;refine zQ (r:=k+2) tO tO<|sS (.int .i64 ↑(k+2)) [.str s,.int .i64 ↑(k+2),zL d] ?_
      refine zAJ (TSt.mk (k+2) v' (acc++[34])) rfl ⟨(((by rw [zov];exact ho':Owns _ _ _ _ _).set (ho'.notBox hx1) _).base zS_),(OldB.mk hbl hH').setB _,zS hx1,zE tO hx2,by simp only;omega,by simp only [zoP,zoN,zoT];omega, ?_⟩ (by simp only;omega);rw [<-hq];simp only [zou,zmV];rfl
    · rw [zZl (by
        intro e;have hlt2:k+1<s.length:=by
          rcases zm5 (k+1) s.length with h|h
          · exact h
          · rw [zmM h] at e;cases e
        refine hend ⟨hlt2, ?_⟩;rw [zno] at e;exact e)] at hq
      subst hq;have e0:mkR s d (Option.map (fun q:Bs×Nat=>(zHG q.1,q.2)) (Option.map (fun q:Bs×Nat=>(acc++q.1,q.2)) (some ([],k+1))))=some (ndV (zHG acc),rdB s (k+1) d):=by simp [mkR]
      rw [e0];by_cases hlt2:k+1<s.length
      · obtain ⟨c2,hc2⟩:∃ c,s[k+1]?=some c:=⟨_,zoO hlt2⟩
        have hn:c2.toNat≠34:=fun e=>hend ⟨hlt2,by rw [hc2,show c2=34 from zoi.1 e]⟩;refine sW ?_;refine zQ (r:=k+1) rfl tO<|sS (.int .i64 ↑(k+1)) [.str s,.int .i64 ↑(k+1),zL d] ?_
        refine sW ?_;refine zt (zo0.2 tO)<|zHW (how.set (how.notBox hb1) _)<|sW ?_
        refine sSA (.agg (zN 2 0 acc)) ?_;exact zAC (o:=0) (ndV (zHG acc)) rfl rfl rfl (zJ (zS (zE tO h2))) rfl rfl rfl hO rfl
      · refine sW ?_
        refine zQ (r:=k+1) rfl tO<|sS (.int .i64 ↑(k+1)) [.str s,.int .i64 ↑(k+1),zL d] ?_
        refine sW ?_;refine zHW (how.set (how.notBox hb1) _)<|sW ?_
        refine sSA (.agg (zN 2 0 acc)) ?_;exact zAC (o:=0) (ndV (zHG acc)) rfl rfl rfl (zJ (zS (zE tO h2))) rfl rfl rfl hO rfl
  · have hn:c.toNat≠34:=fun e=>h34 (zoi.1 e)
    rw [zZn h34,zoH] at hq;refine sW ?_;refine zAA (vs':=[zq c]) rfl rfl<|zA0 (H0:=H.set b (rdB s k d)) (how.push _) (hob.old.push _) zAR tO (by simp only [zoU,zoN,zoT];omega) zS_ fun v' H' ho' hH' hb' hf=>?_
    have hx1:=hf b _ (how.notBox hb1) (zG hb1);have hx2:=hf H.length _ (how.notBox h2) (zG h2);refine sW ?_;refine zQ (r:=k+1) tO tO<|sS (.int .i64 ↑(k+1)) [.str s,.int .i64 ↑(k+1),zL d] ?_
    refine zAJ (TSt.mk (k+1) v' (acc++[c])) rfl ⟨(((by rw [zov];exact ho':Owns _ _ _ _ _).set (ho'.notBox hx1) _).base zS_),(OldB.mk hbl hH').setB _,zS hx1,zE tO hx2,by simp only;omega,by simp only [zoP,zoN,zoT];omega, ?_⟩ (by simp only;omega);rw [<-hq];simp only [zou,zmV];rfl
end
theorem zZo {t:Bs} (h:t.head?≠some 35):zSn t=if t=zFx then some (3,1) else if t=zDS then some (3,0) else none:=by
  unfold zSn;by_cases h1:t=zFx
  · rw [zoQ h1,zoQ h1]
  · rw [zWl h1,zWl h1]
    by_cases h2:t=zDS
    · rw [zoQ h2,zoQ h2]
    · rw [zWl h2,zWl h2]
      rw [zWl (fun e=>h (by rw [e];rfl)),zWl (fun e=>h (by rw [e];rfl)),zWl (fun e=>h (by rw [e];rfl)),zWl (fun e=>h (by rw [e];rfl)),zWl (fun e=>h (by rw [e];rfl)),zWl (fun e=>h (by rw [e];rfl))]
section
variable {C:CSpec} {GT:zG_}
theorem zdo (hW:∀ s H,s.length<=1000->∃ n0,C zCv [.str s] H (zZe (zQA s) n0) H) (hL:∀ s H,C zAi [.str s] H (litV (zSn s)) H) (hR:∀ s H,s.length<=1000->C zCG [.str s] H (zZf (zE8 s)) H)
    (t:Bs) (H:Heap) (hl:t.length<=1000) (h45:t.head?≠some 45) (h35:t.head?≠some 35):EFun C GT zGJ [.str t] H (zLi (zII t)) H:=by
  have hw:=hW t (H++[ABlk.box (ndC zU)]) hl;have hlit:=hL t (H++[ABlk.box (ndC zU)]);have hr:=fun H=>hR t H hl;clear hW hL hR;rw [zZc h45] at hw;rw [zZo h35] at hlit;refine zH ?_;unfold zII;cases hwp:zCL t with
  | some n=>
    rw [hwp] at hw;obtain ⟨n0,hw⟩:=hw;have hw:C zCv [.str t] (H++[ABlk.box (ndC zU)]) (.tup [zK n,.bool true]) (H++[ABlk.box (ndC zU)]):=hw;have e:zLi (some (zJj n))=.tup [ndV (zJj n),.bool true]:=rfl;simp only;rw [e];refine sW ?_;refine sSA (.agg (zN 1 n [])) ?_;exact zj (o:=0) rfl rfl (zJ hP) rfl rfl rfl rfl hO
  | none=>
    rw [hwp] at hw;obtain ⟨n0,hw⟩:=hw;have hw:C zCv [.str t] (H++[ABlk.box (ndC zU)]) (.tup [zK n0,.bool false]) (H++[ABlk.box (ndC zU)]):=hw;simp only;by_cases h1:t=zFx
    · rw [zoQ h1] at hlit ⊢
      have hlit:C zAi [.str t] (H++[ABlk.box (ndC zU)]) (.tup [v3 3 1,.bool true]) (H++[ABlk.box (ndC zU)]):=hlit;have e:zLi (some (zE3 true))=.tup [ndV (zE3 true),.bool true]:=rfl;rw [e];clear hr;refine sW ?_;refine sSA (v3 3 1) ?_;refine sW ?_;refine sSA (.agg (zN 3 1 [])) ?_;exact zj (o:=0) rfl rfl (zJ hP) rfl rfl rfl rfl hO
    rw [zWl h1] at hlit ⊢;by_cases h2:t=zDS
    · rw [zoQ h2] at hlit ⊢
      have hlit:C zAi [.str t] (H++[ABlk.box (ndC zU)]) (.tup [v3 3 0,.bool true]) (H++[ABlk.box (ndC zU)]):=hlit;have e:zLi (some (zE3 false))=.tup [ndV (zE3 false),.bool true]:=rfl;rw [e];clear hr;refine sW ?_;refine sSA (v3 3 0) ?_;refine sW ?_;refine sSA (.agg (zN 3 0 [])) ?_;exact zj (o:=0) rfl rfl (zJ hP) rfl rfl rfl rfl hO
    rw [zWl h2] at hlit ⊢;have hlit:C zAi [.str t] (H++[ABlk.box (ndC zU)]) (.tup [v3 0 0,.bool false]) (H++[ABlk.box (ndC zU)]):=hlit;cases hrp:zE8 t with
    | some r=>
      rw [hrp] at hr;have hr:∀ H,C zCG [.str t] H (.tup [rV r,.nili]) H:=hr;have e:zLi (Option.map zB3 (some r))=.tup [ndV (zB3 r),.bool true]:=rfl;rw [e];refine sW ?_;refine sSA (v3 0 0) ?_;refine sW ?_;refine sSA (rV r) ?_;refine sW ?_;refine sSA (.agg [.int .i64 5,.int .i64 0,.str [],.int .i64 r.col,.int .i64 r.row,.bool r.fc,.bool r.fr,.int .i64 0,.int .i64 0,.bool false,.bool false,.lst (some true) 0 []]) ?_;exact zj (o:=0) rfl rfl (zJ hP) rfl rfl rfl rfl hO
    | none=>
      rw [hrp] at hr;have hr:∀ H,C zCG [.str t] H (.tup [rV noRef,zFo 2]) H:=hr;have e:zLi (Option.map zB3 none)=.tup [ndV zU,.bool false]:=rfl;rw [e];refine sW ?_;refine sSA (v3 0 0) ?_;refine sW ?_;refine sSA (rV noRef) ?_;refine sW ?_;refine sSA (.agg (zN 0 0 [])) ?_;exact zj (o:=0) rfl rfl (zJ hP) rfl rfl rfl rfl hO
theorem zjt (hWt:∀ c b s p d H,H[b]?=some (rdB s p d)->p<=s.length->s.length<=200->(s[skip s p]?=some c->C zAD [pR b,byV c] H (.tup []) (H.set b (rdB s (skip s p+1) d)))/\(s[skip s p]?≠some c->C zAD (.pan .undef::[pR b,byV c]) H zHK (H.set b (.box (wkC s)))))
    (b rb:Nat) (s:Bs) (p d:Nat) (H:Heap) (hb:H[b]?=some (rdB s p d)) (hr:H[rb]?=some (.box [pR b])) (hp:p<s.length) (hl:s.length<=200)
    (hT:∀ H',H'[b]?=some (rdB s (p+1) d)->CR C zr [pR b,zK 0] H' b s d (bl s ((P s).loose 1 (p+1) d))) :
    zCk C GT zCM [pR rb] H b (wkC s) zHK (mkR s d (zdn s p d)):=by
  have hbl:=zl_ hb;have hne:rb≠b:=fun e=>by rw [e,hb] at hr;cases hr
  have hrl:=zl_ hr;rw [zgu];have hends:∀ q,(P s).loose 1 (p+1) d=some q->q.2<=s.length:=fun q hq=>((zCr s).loose 1 (p+1) d q tO hq).2;generalize (P s).loose 1 (p+1) d=r at *;refine zAH ?_;cases r with
  | none=>
    have hc:=fun H' h1=>(hT H' h1).2 rfl;clear hT hWt;have e:mkR s d (Option.bind none fun q:Nd×Nat=>(paren s q.2).map fun e=>(q.1,e))=none:=rfl;rw [e];refine sW ?_;refine zQ (r:=p+1) rfl tO<|sS (.int .i64 ↑(p+1)) [.str s,.int .i64 ↑(p+1),zL d] ?_
    refine sW ?_;refine zAz (hc _ (zS (zG hb))) ?_;exact sP
  | some p'=>
    obtain ⟨n,e⟩:=p';have hel:=zCO (hends _ rfl);have hc:=fun H' h1=>(hT H' h1).1 n (skip s e) rfl;have hww:=fun H' h=>hWt 41 b s (skip s e) d H' h hel hl;rw [zGN] at hww;clear hT hWt;have e0:(Option.bind (some (n,e)) fun q:Nd×Nat=>(paren s q.2).map fun e=>(q.1,e))=(paren s e).map fun e=>(n,e):=rfl;rw [e0];unfold paren;by_cases h41:s[skip s e]?=some 41
    · have hwn:=fun H' h=>(hww H' h).1 h41
      clear hww;rw [zoQ h41];have e1:mkR s d (Option.map (fun e=>(n,e)) (some (skip s e+1)))=some (ndV n,rdB s (skip s e+1) d):=rfl;rw [e1];refine sW ?_;refine zQ (r:=p+1) rfl tO<|sS (.int .i64 ↑(p+1)) [.str s,.int .i64 ↑(p+1),zL d] ?_
      refine sW ?_;refine zCP (hc _ (zS (zG hb)))<|sSA (ndV n) ?_
      refine sW ?_;refine zCP (hwn _ hP)<|sW ?_
      refine sSA (ndV n) ?_;exact zAC (o:=0) (ndV n) (by first|rfl|assumption) rfl rfl (zJ hP) rfl rfl rfl hO rfl
    · have hwn:=fun H' h=>(hww H' h).2 h41
      clear hww;rw [zWl h41];have e1:mkR s d (Option.map (fun e=>(n,e)) none)=none:=rfl;rw [e1];refine sW ?_;refine zQ (r:=p+1) rfl tO<|sS (.int .i64 ↑(p+1)) [.str s,.int .i64 ↑(p+1),zL d] ?_
      refine sW ?_;refine zCP (hc _ (zS (zG hb)))<|sSA (ndV n) ?_
      refine sW ?_;refine zAz (hwn _ hP) ?_;exact sP
theorem zdp (b rb sb:Nat) (s t:Bs) (p d:Nat) (H:Heap) (hb:H[b]?=some (rdB s p d)) (hr:H[rb]?=some (.box [pR b])) (hs:H[sb]?=some (.box [.str t])) (r:Option (Nd×Nat))
    (hT:∀ H',H'[b]?=some (rdB s p d)->CR C zB5 [pR b,.str t] H' b s d r) :
    zCk C GT zCN [pR rb,pR sb] H b (wkC s) zHK (mkR s d r):=by
  have hbl:=zl_ hb;refine zAH ?_;cases r with
  | none=>
    have hc:=fun H' h1=>(hT H' h1).2 rfl;clear hT;have e:mkR s d none=none:=rfl;rw [e];refine sW ?_;refine zAz (hc _ (zG hb)) ?_;exact sP
  | some p'=>
    obtain ⟨n,e⟩:=p';have hc:=fun H' h1=>(hT H' h1).1 n e rfl;clear hT;have e0:mkR s d (some (n,e))=some (ndV n,rdB s e d):=rfl;rw [e0];refine sW ?_;refine zCP (hc _ (zG hb))<|sSA (ndV n) ?_
    exact zAC (o:=0) (ndV n) (by first|rfl|assumption) rfl rfl (zJ hP) rfl rfl rfl hO rfl
end
theorem zMv {s:Bs} {p:Nat} (h:s[p]?≠some 32):tok s p=zBi s p:=by unfold tok;rw [zDg h]
theorem zgw {s:Bs} {p d:Nat} (h:s[p]?=some 40):zB8 s (P s) p d=if d=30 then none else zdn s p (d+1):=by
  have hs:skip s p=p:=zDg (by rw [h];simp);have ht:=zHn (s:=s) (p:=p) (c:=40) (by rw [hs];exact h) zD_;rw [hs] at ht;unfold zB8 zdn;rw [ht];rfl
theorem zgx {s:Bs} {p d:Nat} (h:s[p]?=some 34):zB8 s (P s) p d=(quo (s.drop (p+1)) (p+1)).map fun q=>(zHG q.1,q.2):=by
  have ht:tok s p=zBi s p:=zMv (by rw [h];simp);unfold zB8;rw [ht];unfold zBi;rw [h];have hw:zh 34=false:=by decide
  simp only [hw,zoZ,zot,zoz];cases quo (s.drop (p+1)) (p+1) with
  |none=>rfl
  |some q=>rfl
theorem zgy {s:Bs} {p d:Nat} (h:s[p]?=some 35):zB8 s (P s) p d=(zKK (s.drop p) wrongs 1).map fun q=>(zHJ q.1,p+q.2):=by
  have ht:tok s p=zBi s p:=zMv (by rw [h];simp);unfold zB8;rw [ht];unfold zBi;rw [h];have hw:zh 35=false:=by decide
  have h1:¬ ((35:UInt8)=34):=by decide
  simp only [hw,zoZ,zot,zoz,h1];cases zKK (s.drop p) wrongs 1 with
  |none=>rfl
  |some q=>rfl
theorem zJk {c:UInt8} (h:zh c=true):c≠32/\c≠45/\c≠35/\c≠34/\c≠40:=by
  refine ⟨?_, ?_, ?_, ?_, ?_⟩ <;> (rintro rfl;revert h;decide)
theorem zVi {s:Bs} {p:Nat} {c:UInt8} (h:s[p]?=some c) (hw:zh c=true):tok s p=.word (zlz s p) (sub s p (zlz s p)):=by
  rw [zMv (by rw [h];exact fun e=>(zJk hw).1 (zoh e))];unfold zBi;rw [h];simp only [hw,zoz]
theorem zRI {s:Bs} {p d:Nat} {c:UInt8} (h:s[p]?=some c) (hw:zh c=true) :
    zB8 s (P s) p d=if zA3 (sub s p (zlz s p))=true/\s[zlz s p]?=some 40 then (if d=30 then none else zIm s (sub s p (zlz s p)) (zlz s p) (d+1)) else (zII (sub s p (zlz s p))).map fun n=>(n,zlz s p):=by
  unfold zB8;rw [zVi h hw];rfl
theorem zgz {s:Bs} {p d:Nat} (h:s[p]?=none):zB8 s (P s) p d=none:=by
  unfold zB8;rw [zMv (by rw [h];simp)];unfold zBi;rw [h]
theorem zdq {s:Bs} {p d:Nat} {c:UInt8} (h:s[p]?=some c) (h0:c≠32) (h1:c≠45) (h2:c≠40) (h3:c≠34) (h4:c≠35) (hw:zh c=false):zB8 s (P s) p d=none:=by
  unfold zB8;rw [zMv (by rw [h];exact fun e=>h0 (zoh e))];unfold zBi;rw [h];simp only [hw,zoZ,zot,h3,h4];split
  · grind
  · grind
  · grind
  · grind
  · grind
  · rfl
theorem zNY {s:Bs} {p e:Nat} {c:UInt8} (h:s[p]?=some c) (he:p<e):(sub s p e).head?=some c:=by
  unfold sub;rw [zBh h];obtain ⟨k,hk⟩:∃ k,e-p=k+1:=⟨e-p-1,by omega⟩;rw [hk];rfl
theorem zMT {s:Bs} {p e:Nat} (he:e<=s.length):(sub s p e).length=e-p:=by
  unfold sub;rw [zon,zok];omega
theorem zJl {l w:Bs} {n:Nat} (h:l.take n=w):l=w++l.drop n:=by rw [<-h,zmr]
theorem zg0 {s:Bs} {p e:Nat} (h:s[p]?=some 35) (hpe:p<e) (he:e<=s.length):zSn (sub s p e)=match zKK (s.drop p) wrongs 1 with
    |some (k,n)=>if n=e-p then some (4,(k:Int)) else none
    |none=>none:=by
  have hh:=zNY h hpe;have hl:=zMT (p:=p) he;have hsub:sub s p e=(s.drop p).take (e-p):=rfl;rw [hsub] at hh hl ⊢;clear hsub;generalize s.drop p=l at *;generalize e-p=m at *;unfold zSn;rw [zWl (fun x=>by rw [x] at hh;revert hh;decide),zWl (fun x=>by rw [x] at hh;revert hh;decide)];by_cases a1:l.take m=[35,68,73,86,33]
  · rw [zoQ a1]
    have hm:m=5:=by rw [a1] at hl;exact hl.symm
    rw [zJl a1];subst hm;simp [zKK,wrongs]
  by_cases a2:l.take m=[35,86,65,76,85,69,33]
  · rw [zWl a1,zoQ a2]
    have hm:m=7:=by rw [a2] at hl;exact hl.symm
    rw [zJl a2];subst hm;simp [zKK,wrongs]
  by_cases a3:l.take m=[35,82,69,70,33]
  · rw [zWl a1,zWl a2,zoQ a3]
    have hm:m=5:=by rw [a3] at hl;exact hl.symm
    rw [zJl a3];subst hm;simp [zKK,wrongs]
  by_cases a4:l.take m=[35,78,65,77,69,33]
  · rw [zWl a1,zWl a2,zWl a3,zoQ a4]
    have hm:m=6:=by rw [a4] at hl;exact hl.symm
    rw [zJl a4];subst hm;simp [zKK,wrongs]
  by_cases a5:l.take m=[35,78,85,77,33]
  · rw [zWl a1,zWl a2,zWl a3,zWl a4,zoQ a5]
    have hm:m=5:=by rw [a5] at hl;exact hl.symm
    rw [zJl a5];subst hm;simp [zKK,wrongs]
  by_cases a6:l.take m=[35,78,79,78,69,33]
  · rw [zWl a1,zWl a2,zWl a3,zWl a4,zWl a5,zoQ a6]
    have hm:m=6:=by rw [a6] at hl;exact hl.symm
    rw [zJl a6];subst hm;simp [zKK,wrongs]
  rw [zWl a1,zWl a2,zWl a3,zWl a4,zWl a5,zWl a6];unfold zKK wrongs;simp only [zKK];split
  · grind
  · rfl
section
variable {C:CSpec} {GT:zG_}
theorem zdr (hF:∀ b s p d a e H,H[b]?=some (rdB s p d)->C zo (.pan .undef::[pR b,.int .i64 a,zFo e]) H zHK (H.set b (.box (wkC s))))
    (b:Nat) (s:Bs) (p d:Nat) (H:Heap) (hb:H[b]?=some (rdB s p d)) (hp:p<=s.length) (hl:s.length<=200) (hd:d<=1000) (hlt:¬ p<s.length):zCk C GT zx [pR b] H b (wkC s) zHK (mkR s d (zB8 s (P s) p d)):=by
  have hbl:=zl_ hb;have e:mkR s d (zB8 s (P s) p d)=none:=by rw [zgz (zmA tO)];rfl
  rw [e];have hf:=fun H' h=>hF b s p d p 2 H' h;clear hF;refine zAH<|zAV (x:=pR b) rfl<|sW ?_
  refine zAz (hf _ hP) ?_;exact sP
theorem zds (hWi:∀ f caps a b s p d H r,H[b]?=some (rdB s p d)->d<=1000->(∀ H',H'[b]?=some (rdB s p (d+1))->Off H b H'->CR C f caps H' b s (d+1) r)->CR C zAE [pR b,.int .i64 a,.fn f [] caps] H b s d (if d=30 then none else r))
    (b:Nat) (s:Bs) (p d:Nat) (H:Heap) (hb:H[b]?=some (rdB s p d)) (hp:p<=s.length) (hl:s.length<=200) (hd:d<=1000) (hc:s[p]?=some 40) (hPa:s[p]?=some 40->∀ H' rb,H'[b]?=some (rdB s p (d+1))->H'[rb]?=some (.box [pR b])->CR C zAZ [pR rb] H' b s (d+1) (zdn s p (d+1))):zCk C GT zx [pR b] H b (wkC s) zHK (mkR s d (zB8 s (P s) p d)):=by
  have hbl:=zl_ hb;have hlt:=zl_ hc;rw [zgw hc];have hpa:=hPa hc;have hw:=hWi zAZ [pR H.length] p b s p d (H++[.box [pR b]]++[.box (ndC zU)]) (zdn s p (d+1)) (zG (zG hb)) hd (fun H' h1 ho=>hpa H' H.length h1 (ho _ _ hP tO));clear hWi hPa hpa;refine zAH ?_;cases hr:(if d=30 then none else zdn s p (d+1)) with
  | none=>
    rw [hr] at hw;have hw:=hw.2 rfl;have e:mkR s d none=none:=rfl;rw [e];refine zAV (x:=pR b) rfl<|sW ?_
    refine zAz hw ?_;exact sP
  | some q=>
    obtain ⟨n,e⟩:=q;rw [hr] at hw;have hw:=hw.1 n e rfl;have e0:mkR s d (some (n,e))=some (ndV n,rdB s e d):=rfl;rw [e0];refine zAV (x:=pR b) rfl<|sW ?_
    refine zCP hw<|sSA (ndV n) ?_
    exact zAC (o:=0) (ndV n) (by first|rfl|assumption) rfl rfl (zJ hP) rfl rfl rfl hO rfl
theorem zdt (hTx:∀ b s p d H,H[b]?=some (rdB s p d)->p<s.length->s.length<=200->CR C zBQ [pR b] H b s d ((quo (s.drop (p+1)) (p+1)).map fun q=>(zHG q.1,q.2)))
    (b:Nat) (s:Bs) (p d:Nat) (H:Heap) (hb:H[b]?=some (rdB s p d)) (hp:p<=s.length) (hl:s.length<=200) (hd:d<=1000) (hc:s[p]?=some 34):zCk C GT zx [pR b] H b (wkC s) zHK (mkR s d (zB8 s (P s) p d)):=by
  have hbl:=zl_ hb;have hlt:=zl_ hc;rw [zgx hc];have hw:=hTx b s p d (H++[.box [pR b]]++[.box (ndC zU)]) (zG (zG hb)) hlt hl;clear hTx;generalize (quo (s.drop (p+1)) (p+1)).map (fun q=>(zHG q.1,q.2))=r at *;refine zAH ?_;cases r with
  | none=>
    have hw:=hw.2 rfl;have e:mkR s d none=none:=rfl;rw [e];refine zAV (x:=pR b) rfl<|zA (pR b) hP rfl<|zA (zL p) (zG (zG hb)) rfl<|zA (pR b) hP rfl<|zA (.str s) (zG (zG hb)) rfl<|zc tN ?_
    refine zA (pR b) hP rfl<|zA (.str s) (zG (zG hb)) rfl<|zCF rfl hc<|zc (tN zD_)<|zt (tE (by rfl))<|zA (pR b) hP rfl ?_
    refine zAz hw ?_;exact sP
  | some q=>
    obtain ⟨n,e⟩:=q;have hw:=hw.1 n e rfl;have e0:mkR s d (some (n,e))=some (ndV n,rdB s e d):=rfl;rw [e0];refine zAV (x:=pR b) rfl<|zA (pR b) hP rfl<|zA (zL p) (zG (zG hb)) rfl<|zA (pR b) hP rfl<|zA (.str s) (zG (zG hb)) rfl<|zc tN ?_
    refine zA (pR b) hP rfl<|zA (.str s) (zG (zG hb)) rfl<|zCF rfl hc<|zc (tN zD_)<|zt (tE (by rfl))<|zA (pR b) hP rfl ?_
    refine zCP hw<|zM (v:=ndV n) (AV.cells (ndV n)) hP rfl rfl rfl rfl ?_
    exact zAC (o:=0) (ndV n) (by first|rfl|assumption) rfl rfl (zJ hP) rfl rfl rfl hO rfl
section
variable (hF:∀ b s p d a e H,H[b]?=some (rdB s p d)->C zo (.pan .undef::[pR b,.int .i64 a,zFo e]) H zHK (H.set b (.box (wkC s))))
include hF
theorem zdu (hLi:∀ t H,C zAi [.str t] H (litV (zSn t)) H)
    (b:Nat) (s:Bs) (p d:Nat) (H:Heap) (hb:H[b]?=some (rdB s p d)) (hp:p<=s.length) (hl:s.length<=200) (hd:d<=1000) (hc:s[p]?=some 35):zCk C GT zx [pR b] H b (wkC s) zHK (mkR s d (zB8 s (P s) p d)):=by
  have hbl:=zl_ hb;have hlt:=zl_ hc;rw [zgy hc];have hlb:=fun e (h1:p<e) (h2:e<=s.length)=>zg0 hc h1 h2;have hbe:∀ q,zKK (s.drop p) wrongs 1=some q->0<q.2/\q.2<=s.length-p:=fun q hq=>by
    have:=zOd _ _ _ _ hq zD_
    rwa [zok] at this
  have hf:=fun H' h=>hF b s p d p 2 H' h;clear hF;generalize zKK (s.drop p) wrongs 1=r at *;refine zAH ?_;refine zAV (x:=pR b) rfl<|zA (pR b) hP rfl<|zA (zL p) (zG (zG hb)) rfl<|zA (pR b) hP rfl<|zA (.str s) (zG (zG hb)) rfl<|zc tN ?_
  refine zA (pR b) hP rfl<|zA (.str s) (zG (zG hb)) rfl<|zCF rfl hc<|zc (tN zD_)<|zc (tN zD_)<|zt (tE (by rfl)) ?_
  refine zQ (r:=p+1) rfl tO ?_;refine zAr (fun k:Nat=>[(2,pR (H++[ABlk.box [pR b]]).length),(5,zL k),(1,pR H.length),(3,zL p)])
    (fun k H'=>OldB H b (rdB s p d) H'/\H'[b]?=some (rdB s p d)/\H'[H.length]?=some (.box [pR b])/\H'[(H++[ABlk.box [pR b]]).length]?=some (.box (ndC zU))/\p<k/\k<=s.length+1/\∀ q,r=some q->k<=p+q.2)
    (fun k=>s.length+1-k) (p+1) rfl ⟨((OldB.start hb).push _).push _,zG (zG hb),zG zB,zB,by omega,by omega,fun q hq=>by have:=(hbe q hq).1;omega⟩ (fun k H1 ⟨ho,hb1,hr1,h2,hpk,hk,hq⟩=>?_)
  have hlen1:=ho.old.1;rw [zoW] at hlen1;have hl2:=(zl_ h2);have hlH:(H++[ABlk.box [pR b]]).length=H.length+1:=by simp
  by_cases hks:k<=s.length
  · have hlk:=hlb k hpk hks
    have hli:=hLi (sub s p k) H1;clear hLi;by_cases hit:∃ q,r=some q/\k=p+q.2
    · obtain ⟨⟨kk,nn⟩,rfl,hkn⟩:=hit
      simp only at hkn;have e2:zSn (sub s p k)=some (4,(kk:Int)):=by
        rw [hlk];simp only;rw [zoQ tO]
      rw [e2] at hli;have hli:C zAi [.str (sub s p k)] H1 (.tup [v3 4 kk,.bool true]) H1:=hli;have e0:mkR s d (Option.map (fun q:Nat×Nat=>(zHJ q.1,p+q.2)) (some (kk,nn)))=some (ndV (zHJ kk),rdB s k d):=by rw [hkn];rfl
      rw [e0];refine sW ?_;refine za (v:=.str (sub s p k)) (zEB s p k tO tO)<|sW ?_
      refine sSA (v3 4 ↑kk) ?_;refine sW ?_;refine sS (zL k) [.str s,zL k,zL d] ?_;refine sW ?_;refine sSA (.agg (zN 4 ↑kk [])) ?_;exact zAC (o:=0) (ndV (zHJ kk)) rfl rfl rfl (zJ hP) rfl rfl rfl ((((ho.push _).set tO _).setB _).set tO _) rfl
    · have e2:zSn (sub s p k)=none:=by
        rw [hlk];cases r with
        |none=>rfl
        | some q=>
          simp only;rw [zWl (fun e=>hit ⟨q,rfl,by omega⟩)]
      rw [e2] at hli;have hli:C zAi [.str (sub s p k)] H1 (.tup [v3 0 0,.bool false]) H1:=hli;refine sW ?_;refine za (v:=.str (sub s p k)) (zEB s p k tO tO)<|sW ?_
      refine sSA (v3 0 0) ?_;refine sW ?_;refine zQ (r:=k+1) rfl tO ?_;refine zAJ (k+1) rfl ⟨(ho.push _).set tO _,zE tO (zG hb1),zE tO (zG hr1),zE tO (zG h2),by omega,by omega,fun q hq'=>?_⟩ tO;have h3:=hq q hq';rcases zm5 k (p+q.2) with h|h
      · omega
      · exact absurd ⟨q,hq',by omega⟩ hit
  · have e2:r=none:=by
      cases r with
      |none=>rfl
      | some q=>
        have:=hq q rfl;have:=(hbe q rfl).2;omega
    subst e2;have e0:mkR s d (Option.map (fun q:Nat×Nat=>(zHJ q.1,p+q.2)) none)=none:=rfl;rw [e0];refine sW ?_;refine zAz (hf _ hb1) ?_;exact sP
theorem zZp (hWd:∀ c H,C zBM [byV c] H (.bool (zh c)) H)
    (b:Nat) (s:Bs) (p d:Nat) (H:Heap) (hb:H[b]?=some (rdB s p d)) (hp:p<=s.length) (hl:s.length<=200) (hd:d<=1000) (c:UInt8) (hc:s[p]?=some c) (h32:s[p]?≠some 32) (h45:s[p]?≠some 45) (h40:c≠40) (h34:c≠34) (h35:c≠35) (hw:¬ zh c=true):zCk C GT zx [pR b] H b (wkC s) zHK (mkR s d (zB8 s (P s) p d)):=by
  have hbl:=zl_ hb;have hlt:=zl_ hc;have n40:c.toNat≠40:=fun e=>h40 (zoi.1 e);have n34:c.toNat≠34:=fun e=>h34 (zoi.1 e);have n35:c.toNat≠35:=fun e=>h35 (zoi.1 e);have hwd:=hWd c (H++[.box [pR b]]++[.box (ndC zU)]);have hw:=zmI.2 hw;rw [zdq hc (fun e=>h32 (by rw [hc,e])) (fun e=>h45 (by rw [hc,e])) h40 h34 h35 hw];have e0:mkR s d none=none:=rfl;rw [e0];rw [hw] at hwd;have hf:=fun H' h=>hF b s p d p 2 H' h;clear hF hWd;refine zAH<|zAV (x:=pR b) rfl<|sW ?_
  refine zAz (hf _ hP) ?_;exact sP
end
theorem zZq (hWd:∀ c H,C zBM [byV c] H (.bool (zh c)) H) (hWo:∀ b s p d H,H[b]?=some (rdB s p d)->p<=s.length->s.length<=200->C zAa [pR b] H (.str (sub s p (zlz s p))) (H.set b (rdB s (zlz s p) d))) (hCa:∀ t H,t.length<=1000->C zBL [.str t] H (.bool (zA3 t)) H) (hWi:∀ f caps a b s p d H r,H[b]?=some (rdB s p d)->d<=1000->(∀ H',H'[b]?=some (rdB s p (d+1))->Off H b H'->CR C f caps H' b s (d+1) r)->CR C zAE [pR b,.int .i64 a,.fn f [] caps] H b s d (if d=30 then none else r))
    (b:Nat) (s:Bs) (p d:Nat) (H:Heap) (hb:H[b]?=some (rdB s p d)) (hp:p<=s.length) (hl:s.length<=200) (hd:d<=1000) (c:UInt8) (hc:s[p]?=some c) (hw:zh c=true) (h41:s[zlz s p]?=some 40) (hcd:zA3 (sub s p (zlz s p))=true) (hCl:∀ e t,s[e]?=some 40->p<e->∀ H' rb sb,H'[b]?=some (rdB s e (d+1))->H'[rb]?=some (.box [pR b])->H'[sb]?=some (.box [.str t])->CR C zAK [pR rb,pR sb] H' b s (d+1) (zIm s t e (d+1))):zCk C GT zx [pR b] H b (wkC s) zHK (mkR s d (zB8 s (P s) p d)):=by
  have hbl:=zl_ hb;have hlt:=zl_ hc;have hwn:=zJk hw;have n40:c.toNat≠40:=fun e=>hwn.2.2.2.2 (zoi.1 e);have n34:c.toNat≠34:=fun e=>hwn.2.2.2.1 (zoi.1 e);have n35:c.toNat≠35:=fun e=>hwn.2.2.1 (zoi.1 e);have hwd:=hWd c (H++[.box [pR b]]++[.box (ndC zU)]);rw [hw] at hwd;rw [zRI hc hw];have hwo:=hWo b s p d (H++[.box [pR b]]++[.box (ndC zU)]) (zG (zG hb)) hp hl;have hee:p<zlz s p:=by rw [zHj hc hw];have:=zKn s (p+1);omega
  have hel:=zJN hp;have hth:=zNY (e:=zlz s p) hc hee;have htl:=zMT (s:=s) (p:=p) (e:=zlz s p) hel;generalize zlz s p=e at *;generalize sub s p e=t at *;have hca:=fun H'=>hCa t H' tO;have hcl:=fun h=>hCl e t h hee;have hww:=fun H' r h1 h2=>hWi zAK [pR H.length,pR ((H++[ABlk.box [pR b]]++[ABlk.box (ndC zU)]).set b (rdB s e d)).length] p b s e d H' r h1 hd h2;clear hWi hWd hWo hCa hCl;refine zAH ?_;have hlt2:=zl_ h41;rw [zoQ ⟨hcd,h41⟩];have hcl:=hcl h41;rw [hcd] at hca
  skip
  have hH2:∀ X:Heap,X[H.length]?=some (.box [pR b])->X[((H++[ABlk.box [pR b]]++[ABlk.box (ndC zU)]).set b (rdB s e d)).length]?=some (.box [.str t])->X[b]?=some (rdB s e d)->CR C zAE [pR b,zL p,.fn zAK [] [pR H.length,pR ((H++[ABlk.box [pR b]]++[ABlk.box (ndC zU)]).set b (rdB s e d)).length]] X b s d (if d=30 then none else zIm s t e (d+1)):=fun X x1 x2 x3=>
    hww X (zIm s t e (d+1)) x3 (fun H' h1 ho=>hcl H' _ _ h1 (ho _ _ x1 tO) (ho _ _ x2 (by simp;omega)))
  clear hww hcl;cases hr:(if d=30 then none else zIm s t e (d+1)) with
  | none=>
    rw [hr] at hH2;have hH2:=fun X x1 x2 x3=>(hH2 X x1 x2 x3).2 rfl;have e0:mkR s d none=none:=rfl;rw [e0];refine zAV (x:=pR b) rfl<|sW ?_
    refine sS (.str t) [.str t] ?_;refine sW ?_;refine zAz (hH2 _ hP hP hP) ?_;exact sP
  | some q=>
    obtain ⟨n,e'⟩:=q;rw [hr] at hH2;have hH2:=fun X x1 x2 x3=>(hH2 X x1 x2 x3).1 n e' rfl;have e0:mkR s d (some (n,e'))=some (ndV n,rdB s e' d):=rfl;rw [e0];refine zAV (x:=pR b) rfl<|sW ?_
    refine sS (.str t) [.str t] ?_;refine sW ?_;refine zCP (hH2 _ hP hP hP)<|sSA (ndV n) ?_
    exact zAC (o:=0) (ndV n) (by first|rfl|assumption) rfl rfl (zJ hP) rfl rfl rfl hO rfl
section
variable (hF:∀ b s p d a e H,H[b]?=some (rdB s p d)->C zo (.pan .undef::[pR b,.int .i64 a,zFo e]) H zHK (H.set b (.box (wkC s)))) (hWd:∀ c H,C zBM [byV c] H (.bool (zh c)) H) (hWo:∀ b s p d H,H[b]?=some (rdB s p d)->p<=s.length->s.length<=200->C zAa [pR b] H (.str (sub s p (zlz s p))) (H.set b (rdB s (zlz s p) d)))
include hF hWd hWo
theorem zUM (hCa:∀ t H,t.length<=1000->C zBL [.str t] H (.bool (zA3 t)) H) (hPl:∀ t H,t.length<=1000->t.head?≠some 45->t.head?≠some 35->C zAt [.str t] H (zLi (zII t)) H)
    (b:Nat) (s:Bs) (p d:Nat) (H:Heap) (hb:H[b]?=some (rdB s p d)) (hp:p<=s.length) (hl:s.length<=200) (hd:d<=1000) (c:UInt8) (hc:s[p]?=some c) (hw:zh c=true) (h41:s[zlz s p]?=some 40) (hcd:¬ zA3 (sub s p (zlz s p))=true):zCk C GT zx [pR b] H b (wkC s) zHK (mkR s d (zB8 s (P s) p d)):=by
  have hbl:=zl_ hb;have hlt:=zl_ hc;have hwn:=zJk hw;have n40:c.toNat≠40:=fun e=>hwn.2.2.2.2 (zoi.1 e);have n34:c.toNat≠34:=fun e=>hwn.2.2.2.1 (zoi.1 e);have n35:c.toNat≠35:=fun e=>hwn.2.2.1 (zoi.1 e);have hwd:=hWd c (H++[.box [pR b]]++[.box (ndC zU)]);rw [hw] at hwd;rw [zRI hc hw];have hwo:=hWo b s p d (H++[.box [pR b]]++[.box (ndC zU)]) (zG (zG hb)) hp hl;have hee:p<zlz s p:=by rw [zHj hc hw];have:=zKn s (p+1);omega
  have hel:=zJN hp;have hth:=zNY (e:=zlz s p) hc hee;have htl:=zMT (s:=s) (p:=p) (e:=zlz s p) hel;generalize zlz s p=e at *;generalize sub s p e=t at *;have hpl:=fun H'=>hPl t H' tO (by rw [hth];exact fun x=>hwn.2.1 (zoh x)) (by rw [hth];exact fun x=>hwn.2.2.1 (zoh x));have hca:=fun H'=>hCa t H' tO;have hf:=fun H' h=>hF b s e d p 2 H' h;clear hF hWd hWo hCa hPl;have hlt2:=zl_ h41;refine zAH ?_;rw [zWl (fun x=>hcd x.1)];rw [zmI.2 hcd] at hca
  skip
  cases ha:zII t with
  | none=>
    rw [ha] at hpl;have hpl:∀ H',C zAt [.str t] H' (.tup [ndV zU,.bool false]) H':=hpl;have e0:mkR s d (Option.map (fun n=>(n,e)) none)=none:=rfl;rw [e0];refine zAV (x:=pR b) rfl<|sW ?_
    refine sS (.str t) [.str t] ?_;refine sW ?_;refine sSA (ndV zU) ?_;refine sW ?_;refine zAz (hf _ hP) ?_;exact sP
  | some n=>
    rw [ha] at hpl;have hpl:∀ H',C zAt [.str t] H' (.tup [ndV n,.bool true]) H':=hpl;have e0:mkR s d (Option.map (fun n=>(n,e)) (some n))=some (ndV n,rdB s e d):=rfl;rw [e0];refine zAV (x:=pR b) rfl<|sW ?_
    refine sS (.str t) [.str t] ?_;refine sW ?_;refine sSA (ndV n) ?_;refine sW ?_;refine sSA (ndV n) ?_;exact zAC (o:=0) (ndV n) (by first|rfl|assumption) rfl rfl (zJ hP) rfl rfl rfl hO rfl
theorem zUN (hPl:∀ t H,t.length<=1000->t.head?≠some 45->t.head?≠some 35->C zAt [.str t] H (zLi (zII t)) H)
    (b:Nat) (s:Bs) (p d:Nat) (H:Heap) (hb:H[b]?=some (rdB s p d)) (hp:p<=s.length) (hl:s.length<=200) (hd:d<=1000) (c:UInt8) (hc:s[p]?=some c) (hw:zh c=true) (h41:¬ s[zlz s p]?=some 40):zCk C GT zx [pR b] H b (wkC s) zHK (mkR s d (zB8 s (P s) p d)):=by
  have hbl:=zl_ hb;have hlt:=zl_ hc;have hwn:=zJk hw;have n40:c.toNat≠40:=fun e=>hwn.2.2.2.2 (zoi.1 e);have n34:c.toNat≠34:=fun e=>hwn.2.2.2.1 (zoi.1 e);have n35:c.toNat≠35:=fun e=>hwn.2.2.1 (zoi.1 e);have hwd:=hWd c (H++[.box [pR b]]++[.box (ndC zU)]);rw [hw] at hwd;rw [zRI hc hw];have hwo:=hWo b s p d (H++[.box [pR b]]++[.box (ndC zU)]) (zG (zG hb)) hp hl;have hee:p<zlz s p:=by rw [zHj hc hw];have:=zKn s (p+1);omega
  have hel:=zJN hp;have hth:=zNY (e:=zlz s p) hc hee;have htl:=zMT (s:=s) (p:=p) (e:=zlz s p) hel;generalize zlz s p=e at *;generalize sub s p e=t at *;have hpl:=fun H'=>hPl t H' tO (by rw [hth];exact fun x=>hwn.2.1 (zoh x)) (by rw [hth];exact fun x=>hwn.2.2.1 (zoh x));have hf:=fun H' h=>hF b s e d p 2 H' h;clear hF hWd hWo hPl;refine zAH ?_;rw [zWl (fun x=>h41 x.2)]
  skip
  cases ha:zII t with
  | none=>
    rw [ha] at hpl;have hpl:∀ H',C zAt [.str t] H' (.tup [ndV zU,.bool false]) H':=hpl;have e0:mkR s d (Option.map (fun n=>(n,e)) none)=none:=rfl;rw [e0];by_cases hlt2:e<s.length
    · obtain ⟨x,hx⟩:∃ x,s[e]?=some x:=⟨_,zoO hlt2⟩
      have hxn:x.toNat≠40:=fun y=>h41 (by rw [hx,show x=40 from zoi.1 y]);refine zAV (x:=pR b) rfl<|sW ?_
      refine sS (.str t) [.str t] ?_;refine sW ?_;refine sSA (ndV zU) ?_;refine sW ?_;refine zAz (hf _ hP) ?_;exact sP
    · refine zAV (x:=pR b) rfl<|sW ?_
      refine sS (.str t) [.str t] ?_;refine sW ?_;refine sSA (ndV zU) ?_;refine sW ?_;refine zAz (hf _ hP) ?_;exact sP
  | some n=>
    rw [ha] at hpl;have hpl:∀ H',C zAt [.str t] H' (.tup [ndV n,.bool true]) H':=hpl;have e0:mkR s d (Option.map (fun n=>(n,e)) (some n))=some (ndV n,rdB s e d):=rfl;rw [e0];by_cases hlt2:e<s.length
    · obtain ⟨x,hx⟩:∃ x,s[e]?=some x:=⟨_,zoO hlt2⟩
      have hxn:x.toNat≠40:=fun y=>h41 (by rw [hx,show x=40 from zoi.1 y]);refine zAV (x:=pR b) rfl<|sW ?_
      refine sS (.str t) [.str t] ?_;refine sW ?_;refine sSA (ndV n) ?_;refine sW ?_;refine sSA (ndV n) ?_;exact zAC (o:=0) (ndV n) (by first|rfl|assumption) rfl rfl (zJ hP) rfl rfl rfl hO rfl
    · refine zAV (x:=pR b) rfl<|sW ?_
      refine sS (.str t) [.str t] ?_;refine sW ?_;refine sSA (ndV n) ?_;refine sW ?_;refine sSA (ndV n) ?_;exact zAC (o:=0) (ndV n) (by first|rfl|assumption) rfl rfl (zJ hP) rfl rfl rfl hO rfl
end
end
end Go.AM
