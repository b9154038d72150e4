/- Several texts of mine in one (Fq0, Zp, Trm, Pre, Bg0). Own work. -/
import Derived.Test.YtkeblfepjkdleaaGreatDoorGAm30Fp1
import Derived.Test.YtkeblfepjkdleaaGreatDoorGAm23Am29
import Derived.Test.YtkeblfepjkdleaaGreatDoorAc
set_option maxRecDepth 20000
set_option linter.all false
namespace Go.AM
abbrev rdB (s:Bs) (p d:Nat):ABlk:=.box [.str s,zK p,zK d]
abbrev pR (b:Nat):AV:=.ref b 0 0 0
abbrev wkC (s:Bs):List AV:=[.str s,.undef,.undef]
abbrev byV (c:UInt8):AV:=.int .u8 c.toNat
def zHh:AV:=.iface zEt (.agg [.sca,.iface zO .undef])
theorem zjp (k:IntKind) (n:Int):Wk (.int k n) .sca:=fun _ _ _ _ _ h=>by cases h;exact .sca _ rfl
theorem wkRd (s:Bs) (p d:Nat):WkL [.str s,zK p,zK d] (wkC s):=.cons (.refl _) (.cons (.undef _) (.cons (.undef _) .nil))
theorem zjq (a:Int) (y:AV):Wk (.iface zEt (.agg [.int .i64 a,.iface zO y])) zHh:=.iface (.agg (.cons (zjp _ _) (.cons (.iface (.undef _)) .nil)))
theorem zEJ (s:Bs) (a b:Nat) (h:a<=b) (hb:b<=s.length):zB9 none (.str s) (some (.int .i64 (a:Int))) (some (.int .i64 (b:Int)))=some (.str (sub s a b)):=by
 simp only [zB9,zDf,aHi,aLo];have h1:¬ ((a:Int)<0):=by omega
 have h2:¬ ((b:Int)<0):=by omega
 have e1:(a:Int).toNat=a:=zlo a;have e2:(b:Int).toNat=b:=zlo b;simp [h1,h2,e1,e2,h,hb,sub,List.drop_take]
theorem zIv (s:Bs) (a:Nat) (h:a<=s.length):zB9 none (.str s) (some (.int .i64 (a:Int))) none=some (.str (s.drop a)):=by
 simp only [zB9,zDf,aHi,aLo];have h1:¬ ((a:Int)<0):=by omega
 have e1:(a:Int).toNat=a:=zlo a;simp [h1,e1,h]
theorem zeA (s:Bs) (b:Nat) (hb:b<=s.length):zB9 none (.str s) none (some (.int .i64 (b:Int)))=some (.str (s.take b)):=by
 simp only [zB9,zDf,aHi,aLo];have h2:¬ ((b:Int)<0):=by omega
 have e2:(b:Int).toNat=b:=zlo b;simp [h2,e2,hb]
section
variable {C:CSpec} {GT:zG_}
theorem zYY (c:UInt8) (H:Heap):EFun C GT zEU [byV c] H (.bool (zh c)) H:=by
 obtain ⟨r,hr⟩:∃ r,zh c=r:=⟨_,rfl⟩;rw [hr];unfold zh at hr;have hc:c.toNat<256:=zms c;change EFun C GT zEU [.int .u8 (c.toNat:Int)] H (.bool r) H;generalize c.toNat=n at *;refine zJ ?_;by_cases h365:n=36
 ·have:r=true:=by rw [<-hr];simp;omega
  subst this;refine zn tT<|zE<|zE<|zE<|zE<|zE ?_
  exact sRr
 by_cases h618:n<48
 ·have:r=false:=by rw [<-hr];simp;omega
  subst this;refine zi tF<|zi tF<|zG<|zG<|zG<|zi tF<|zG<|zG ?_;refine zG<|zi tF<|zG<|zG ?_
  exact sRr
 by_cases h872:n<=57
 ·have:r=true:=by rw [<-hr];simp;omega
  subst this;refine zi tF<|zn tT<|zE<|zG<|zn tT<|zE<|zE<|zE ?_
  exact sRr
 by_cases h1125:n<65
 ·have:r=false:=by rw [<-hr];simp;omega
  subst this;refine zi tF<|zn tT<|zE<|zG<|zi tF<|zi tF<|zG<|zG ?_;refine zG<|zi tF<|zG<|zG ?_
  exact sRr
 by_cases h1380:n<=90
 ·have:r=true:=by rw [<-hr];simp;omega
  subst this;refine zi tF<|zn tT<|zE<|zG<|zi tF<|zn tT<|zE<|zG ?_;refine zn tT<|zE ?_
  exact sRr
 by_cases h1634:n<97
 ·have:r=false:=by rw [<-hr];simp;omega
  subst this;refine zi tF<|zn tT<|zE<|zG<|zi tF<|zn tT<|zE<|zG ?_;refine zi tF<|zi tF<|zG<|zG ?_
  exact sRr
 by_cases h1889:n<=122
 ·have:r=true:=by rw [<-hr];simp;omega
  subst this;refine zi tF<|zn tT<|zE<|zG<|zi tF<|zn tT<|zE<|zG ?_;refine zi tF<|zn tT<|zE<|zG ?_
  exact zHO (v0:=.bool (decide ((n:Int)<=122))) (zlR AV.bool (tT).symm) rfl rfl rfl rfl (Old.refl _)
 ·have:r=false:=by rw [<-hr];simp;omega
  subst this;refine zi tF<|zn tT<|zE<|zG<|zi tF<|zn tT<|zE<|zG ?_;refine zi tF<|zn tT<|zE<|zG ?_
  exact zHO (v0:=.bool (decide ((n:Int)<=122))) (zlR AV.bool (tF).symm) rfl rfl rfl rfl (Old.refl _)
theorem zeB (b:Nat) (s:Bs) (p d:Nat) (a:Int) (e:Int) (H:Heap) (hb:H[b]?=some (rdB s p d)):zCw C GT zDR [pR b,.int .i64 a,zJG e] H b (wkC s) zHh none:=by
 refine zAJ ?_;refine zx (v:=[.int .i64 a,zJG e]) rfl ?_;exact zjn (by first|rfl|assumption) rfl rfl rfl (OldB.start hb) rfl (by first|exact WkL.refl _|exact wkRd _ _ _) (by first|exact Wk.refl _|exact zjq _ _)
theorem zaT (b:Nat) (s:Bs) (p d:Nat) (H:Heap) (hb:H[b]?=some (rdB s p d)) (hp:p<=s.length) (hl:s.length<=200) :
  zCw C GT zCp [pR b] H b (wkC s) zHh (some (.tup [],rdB s (skip s p) d)):=by
 obtain ⟨q,hq⟩:∃ q,skip s p=q:=⟨_,rfl⟩;rw [hq];refine zAJ ?_;refine zBG (fun k:Nat=>[(0,pR b)]) (fun k H'=>H'=H.set b (rdB s k d)/\k<=s.length/\skip s k=q) (fun k=>s.length-k) p rfl ⟨(zMf hb).symm,hp,hq⟩ (fun k H1 ⟨e,hk,hs⟩=>?_);subst e;by_cases hlt:k<s.length
 ·obtain ⟨c,hc⟩:∃ c,s[k]?=some c:=⟨_,zlI hlt⟩;refine zA (zK k) (zU hb) rfl<|zA (.str s) (zU hb) rfl<|zn tT<|zA (.str s) (zU hb) rfl<|zA (zK k) (zU hb) rfl<|zCF rfl hc ?_;refine zE ?_
  by_cases h32:c=32
  ·subst h32;rw [zNd hc] at hs;refine zE<|zA (zK k) (zU hb) rfl<|zS (r:=k+1) rfl tO<|zL (v:=.int .i64 ↑(k+1)) [.str s,.int .i64 ↑(k+1),zK d] (zU hb) rfl rfl rfl rfl ?_
   exact zAR (k+1) rfl ⟨znj ..,by omega,hs⟩ tO
  ·rw [zDm (by rw [hc];intro h;exact h32 (zlb h))] at hs;subst hs;have h33:c.toNat≠32:=fun h=>h32 (zlc.1 h);refine zi tN ?_;exact zSt _ (by first|rfl|assumption) rfl rfl rfl rfl ((OldB.start hb).setB _) rfl
 ·rw [zDm (by rw [zl0 tO];simp)] at hs;subst hs;refine zA (zK k) (zU hb) rfl<|zA (.str s) (zU hb) rfl<|zi tF<|zG<|zG ?_
  exact zSt _ (by first|rfl|assumption) rfl rfl rfl rfl ((OldB.start hb).setB _) rfl
theorem zhL (hW:∀ c H,C zA5 [byV c] H (.bool (zh c)) H) (b:Nat) (s:Bs) (p d:Nat) (H:Heap) (hb:H[b]?=some (rdB s p d)) (hp:p<=s.length) (hl:s.length<=200) :
  zCw C GT zDU [pR b] H b (wkC s) zHh (some (.str (sub s p (zDI s p)),rdB s (zDI s p) d)):=by
 obtain ⟨q,hq⟩:∃ q,zDI s p=q:=⟨_,rfl⟩;have hpq:=zLU s p;have hql:=zJ8 hp;rw [hq] at hpq hql ⊢;refine zAJ ?_;refine zA (zK p) hb rfl ?_;refine zBG (fun k:Nat=>[(0,pR b),(3,zK p)]) (fun k H'=>H'=H.set b (rdB s k d)/\k<=s.length/\zDI s k=q) (fun k=>s.length-k) p rfl ⟨(zMf hb).symm,hp,hq⟩ (fun k H1 ⟨e,hk,hs⟩=>?_);subst e;dsimp only;by_cases hlt:k<s.length
 ·obtain ⟨c,hc⟩:∃ c,s[k]?=some c:=⟨_,zlI hlt⟩;have hw:=hW c;by_cases hwc:zh c=true
  ·rw [zII hc hwc] at hs;rw [hwc] at hw;clear hW;refine zA (zK k) (zU hb) rfl<|zA (.str s) (zU hb) rfl<|zn tT<|zA (.str s) (zU hb) rfl<|zA (zK k) (zU hb) rfl<|zCF rfl hc ?_;refine zM (hw _)<|zE<|zE<|zA (zK k) (zU hb) rfl<|zS (r:=k+1) rfl tO<|zL (v:=.int .i64 ↑(k+1)) [.str s,.int .i64 ↑(k+1),zK d] (zU hb) rfl rfl rfl rfl ?_
   exact zAR (k+1) rfl ⟨znj ..,by omega,hs⟩ tO
  ·have hwc:=zl8.2 hwc;rw [zIJ (fun c' h=>by rw [hc] at h;cases h;exact hwc)] at hs;subst hs;rw [hwc] at hw;clear hW;refine zA (zK k) (zU hb) rfl<|zA (.str s) (zU hb) rfl<|zn tT<|zA (.str s) (zU hb) rfl<|zA (zK k) (zU hb) rfl<|zCF rfl hc ?_;refine zM (hw _)<|zE<|zG<|zA (.str s) (zU hb) rfl<|zA (zK k) (zU hb) rfl<|zx (v:=.str (sub s p k)) (zEJ s p k tO tO) ?_
   exact zSt _ (by first|rfl|assumption) rfl rfl rfl rfl ((OldB.start hb).setB _) rfl
 ·rw [zIJ (fun c' h=>by rw [zl0 tO] at h;cases h)] at hs;subst hs;clear hW;refine zA (zK k) (zU hb) rfl<|zA (.str s) (zU hb) rfl<|zi tF<|zG<|zG<|zA (.str s) (zU hb) rfl ?_;refine zA (zK k) (zU hb) rfl<|zx (v:=.str (sub s p k)) (zEJ s p k tO tO) ?_
  exact zSt _ (by first|rfl|assumption) rfl rfl rfl rfl ((OldB.start hb).setB _) rfl
end
theorem sP {P:Prop} (h:P:=by exact zjn (by first|rfl|assumption) rfl rfl rfl hO rfl (by first|exact WkL.refl _|exact wkRd _ _ _) (by first|exact Wk.refl _|exact zjq _ _)):P:=h
def zK2 (g:Nat->Bool):List AV:=zW7 256 (fB g)
def zKA (cs:Bs) (i:Nat):Bool:=cs.any fun c=>c.toNat==i
def zOq (s cs:Bs):Bs:=(s.reverse.dropWhile (fun c=>zKA cs c.toNat)).reverse
def zRM (s cs:Bs):Bs:=(zOq s cs).dropWhile (fun c=>zKA cs c.toNat)
theorem zYZ {cs:List AV} {o:Nat} {v:AV} (h:o<cs.length):splice cs o [v]=cs.set o v:=by
 unfold splice;rw [List.set_eq_take_append_cons_drop,zlF h];simp
theorem zHF (g:Nat->Bool):(zK2 g).length=256:=zW8 _ _
theorem zeC {g:Nat->Bool} {i:Nat} (h:i<256):(zK2 g)[i]?=some (.bool (g i)):=zW9 h
theorem zaU {cs:Bs} {k:Nat} {c:UInt8} (h:cs[k]?=some c):splice (zK2 (zKA (cs.take k))) c.toNat [.bool true]=zK2 (zKA (cs.take (k+1))):=by
 have hc:c.toNat<256:=zms c;rw [zYZ (by rw [zHF];exact hc)];unfold zK2;rw [zXA];refine zKM fun i hi=>?_;obtain ⟨h1,h2⟩:=zg h;have e:cs.take (k+1)=cs.take k++[c]:=by rw [zm0 h1,h2]
 unfold upd fB zKA;rw [e,List.any_append];by_cases he:i=c.toNat
 ·subst he;simp
 ·rw [zlD he];simp [zl7 he]
theorem off0 {cs cs':List AV} {n:Nat} {v:List AV} (h:splice cs n v=cs'):splice cs (0+((n:Int)).toNat*1) v=cs':=by
 have e:0+((n:Int)).toNat*1=n:=by omega
 rw [e];exact h
theorem zXF (g:Nat->Bool):part (zK2 g) 0 256 true=some (.agg (zK2 g)):=by
 simp only [part,zlp,zHF,znC];rw [zlw (by rw [zHF];exact zlK _)];simp
theorem zeD (n:Nat) (g:Nat->Bool) (b:Bool) (H:Heap):zEM n (.tup [.agg (zK2 g),.bool b]) H=some (.tup [.agg (zK2 g),.bool b],H):=by
 have h:∀ l:List Nat,zLg n (l.map fun i=>AV.bool (g i)) H=some (l.map fun i=>AV.bool (g i),H):=by
  intro l;induction l with
  |nil=>rfl
  |cons x l ih=>simp only [zlU,zLg,zEM,ih]
 have h2:zLg n (List.map (fB g) (List.range 256)) H=some (List.map (fB g) (List.range 256),H):=h (List.range 256);simp only [zEM,zLg,zK2,zW7,h2]
theorem zeE (n:Nat) (g:Nat->Bool) (b:Bool):(AV.tup [.agg (zK2 g),.bool b]).bel n=true:=by
 have h:AV.belL n (zK2 g)=true:=by
  rw [AV.belL_iff];intro c hc;unfold zK2 zW7 fB at hc;obtain ⟨i,_,rfl⟩:=zmn.1 hc;rfl
 simp [AV.bel,AV.belL,h]
section
variable {C:CSpec} {GT:zG_}
theorem zVy (b:Nat) (g:Nat->Bool) (c:UInt8) (H:Heap) (hb:H[b]?=some (.box (zK2 g))):EFun C GT zBe [pR b,byV c] H (.bool (g c.toNat)) H:=by
 have hc:c.toNat<256:=zms c;refine zJ ?_;refine zBF ⟨by omega,by omega⟩<|zA (.bool (g c.toNat)) hb (by simpa [part] using zeC hc) ?_
 exact sRr
theorem zeF (cs:Bs) (H:Heap) (hcs:∀ c∈cs,c.toNat<128) (hl:cs.length<=1000):EFun C GT zDV [.str cs] H (.tup [.agg (zK2 (zKA cs)),.bool true]) H:=by
 refine zJ ?_;refine zBG (fun k:Nat=>[(2,pR H.length),(4,zK k),(0,.str cs)]) (fun k H'=>H'=H++[.box (zK2 (zKA (cs.take k)))]/\k<=cs.length) (fun k=>cs.length-k) 0 rfl ⟨rfl,zl6 _⟩ (fun k H1 ⟨e,hk⟩=>?_);subst e;by_cases hlt:k<cs.length
 ·obtain ⟨c,hc⟩:∃ c,cs[k]?=some c:=⟨_,zlI hlt⟩;have h128:=hcs c (zlX hc);have hst:=zaU hc;refine zn tT<|zCF rfl hc<|zi tF<|zBF ⟨by omega,by omega⟩<|zL (v:=.bool true) (zK2 (zKA (cs.take (k+1)))) zB rfl rfl (Nat.ble_eq_true_of_le (by rw [zHF];omega)) (off0 hst)<|zS (r:=k+1) rfl tO ?_;refine zAR (k+1) rfl ⟨?_,by omega⟩ tO
  rw [zml _ _ (zlK _),Nat.sub_self];rfl
 ·have:k=cs.length:=by omega
  subst this;rw [zmi];refine zi tF<|zA (.agg (zK2 (zKA cs))) zB (zXF _)<|zL (v:=.agg (zK2 (zKA cs))) (zK2 (zKA cs)) zB (zHF _) rfl rfl (by simp [splice,AV.cells,zHF]) ?_
  exact zr (o:=0) rfl rfl (zI hP) (zXF _) rfl (zeD _ _ _ _) (zeE _ _ _) ((Old.push (Old.refl _) _).set (zlK _) _)
theorem zeG (hC:∀ b g c H,H[b]?=some (.box (zK2 g))->C zz [pR b,byV c] H (.bool (g c.toNat)) H) (s cs:Bs) (b:Nat) (H:Heap) (hb:H[b]?=some (.box (zK2 (zKA cs)))) (hl:s.length<=1000) :
  EFun C GT zCu [.str s,pR b] H (.str (zOq s cs)) H:=by
 obtain ⟨r,hr⟩:∃ r,zOq s cs=r:=⟨_,rfl⟩;rw [hr];refine zJ ?_;refine zBG (fun t:Bs=>[(0,.str t),(1,pR b)]) (fun t H'=>H'=H/\t.length<=1000/\zOq t cs=r) (fun t=>t.length) s rfl ⟨rfl,hl,hr⟩ (fun t H1 ⟨e,htl,ht⟩=>?_);subst e;by_cases h0:t=[]
 ·subst h0;unfold zOq at ht;simp only [List.reverse_nil,List.dropWhile_nil] at ht;subst ht;refine zi (tF zS_) ?_;exact sRr
 ·obtain ⟨u,c,rfl⟩:∃ u c,t=u++[c]:=⟨t.dropLast,t.getLast h0,(List.dropLast_concat_getLast h0).symm⟩;have hlen:(u++[c]).length=u.length+1:=by simp
  have hg:(u++[c])[u.length]?=some c:=by simp
  have hcc:=hC b (zKA cs) c H1 hb;unfold zOq at ht;rw [List.reverse_append,List.reverse_singleton,zmG,zna] at ht;by_cases hc:zKA cs c.toNat=true
  ·rw [zlF hc] at ht;rw [hc] at hcc;clear hC;refine zn tT<|zS (r:=u.length) tO tO<|zCF rfl hg<|zM (hcc)<|zG<|zS (r:=u.length) tO tO ?_;refine zx (v:=.str ((u++[c]).take u.length)) (zeA _ _ tO) ?_;refine zAR u ?_ ⟨rfl,by omega,ht⟩ tO
   rw [List.take_left];rfl
  ·have hc:=zl8.2 hc;rw [hc] at hcc ht;simp only [zlO,zlj,zn3,List.reverse_reverse] at ht;subst ht;clear hC;refine zn tT<|zS (r:=u.length) tO tO<|zCF rfl hg<|zM (hcc)<|zE ?_
   exact sRr
theorem zeH (hC:∀ b g c H,H[b]?=some (.box (zK2 g))->C zz [pR b,byV c] H (.bool (g c.toNat)) H) (s cs:Bs) (b:Nat) (H:Heap) (hb:H[b]?=some (.box (zK2 (zKA cs)))) (hl:s.length<=1000) :
  EFun C GT zDF [.str s,pR b] H (.str (s.dropWhile fun c=>zKA cs c.toNat)) H:=by
 obtain ⟨r,hr⟩:∃ r,(s.dropWhile fun c=>zKA cs c.toNat)=r:=⟨_,rfl⟩;rw [hr];refine zJ ?_;refine zBG (fun t:Bs=>[(0,.str t),(1,pR b)]) (fun t H'=>H'=H/\t.length<=1000/\(t.dropWhile fun c=>zKA cs c.toNat)=r) (fun t=>t.length) s rfl ⟨rfl,hl,hr⟩ (fun t H1 ⟨e,htl,ht⟩=>?_);subst e;cases t with
 |nil=>
  simp only [List.dropWhile_nil] at ht;subst ht;refine zi (tF zS_) ?_;exact sRr
 |cons c u=>
  have hcc:=hC b (zKA cs) c H1 hb;rw [zna] at ht;have hlen:(c::u).length=u.length+1:=zlE;by_cases hc:zKA cs c.toNat=true
  ·rw [zlF hc] at ht;rw [hc] at hcc;clear hC;refine zn tT<|zCF (i:=0) rfl rfl<|zM (hcc)<|zG<|zx (v:=.str ((c::u).drop 1)) (zIv _ 1 tO) ?_
   exact zAR u rfl ⟨rfl,by omega,ht⟩ tO
  ·have hc:=zl8.2 hc;rw [hc] at hcc ht;simp only [zlO,zlj] at ht;subst ht;clear hC;refine zn tT<|zCF (i:=0) rfl rfl<|zM (hcc)<|zE ?_
   exact sRr
theorem zUR (p:UInt8->Bool):∀ l:Bs,(l.dropWhile p=[])↔l.all p=true
 |[]=>by simp
 |c::r=>by
  rw [zna,zmq];by_cases h:p c=true
  ·rw [zlF h,h,zmj];exact zUR p r
  ·have h:=zl8.2 h;rw [h];simp
theorem zUS (p:UInt8->Bool):∀ l:Bs,(l.dropWhile p).all p=l.all p
 |[]=>rfl
 |c::r=>by
  rw [zna];by_cases h:p c=true
  ·rw [zlF h,zmq,h,zmj];exact zUS p r
  ·have h:=zl8.2 h;rw [h];simp
theorem zXG (s cs:Bs):(zRM s cs=[])↔s.all (fun c=>zKA cs c.toNat)=true:=by
 unfold zRM zOq;rw [zUR,List.all_reverse,zUS,List.all_reverse]
theorem zeI (hM:∀ cs H,(∀ c∈cs,c.toNat<128)->cs.length<=1000->C zBV [.str cs] H (.tup [.agg (zK2 (zKA cs)),.bool true]) H)
  (hR:∀ s cs b H,H[b]?=some (.box (zK2 (zKA cs)))->s.length<=1000->C zBC [.str s,pR b] H (.str (zOq s cs)) H)
  (hL:∀ s cs b H,H[b]?=some (.box (zK2 (zKA cs)))->s.length<=1000->C zBM [.str s,pR b] H (.str (s.dropWhile fun c=>zKA cs c.toNat)) H)
  (s cs:Bs) (H:Heap) (hcs:∀ c∈cs,c.toNat<128) (hc2:2<=cs.length) (hcl:cs.length<=1000) (hl:s.length<=1000):EFun C GT zHW [.str s,.str cs] H (.str (zRM s cs)) H:=by
 refine zJ ?_;have hne:cs≠[]:=fun e=>by subst e;simp at hc2
 have hml:=hM cs H hcs hcl;have hle:(zOq s cs).length<=s.length:=by
  unfold zOq;rw [zmx];have:=(List.dropWhile_suffix (l:=s.reverse) (fun c=>zKA cs c.toNat)).length_le
  rwa [zmx] at this
 by_cases h0:s=[]
 ·subst h0;refine zE<|zE<|zE ?_
  exact sRr
 have hst:∀ (H:Heap),H[H.length]?=none:=fun H=>by simp
 have hrr:=hR s cs H.length;have hll:=hL (zOq s cs) cs H.length;clear hM hR hL;refine zi (tN h0)<|zG<|zi (tN hne)<|zi tN<|zG<|zG ?_;refine zM (hml)<|zx rfl<|zx rfl<|zL (v:=.agg (zK2 (zKA cs))) (zK2 (zKA cs)) zB (zHF _) rfl rfl (by simp [splice,AV.cells,zHF])<|zE<|zM (hrr _ hP hl) ?_;refine zM (hll _ hP tO) ?_
 exact zAv rfl rfl rfl rfl (((Old.refl _).push _).set (by first|assumption|exact zlK _|simp|omega) _)
end
theorem zaV (s:List UInt8) (n:Nat) (h:n<=s.length):zB9 none (.str s) none (some (.int .i64 (n:Int)))=some (.str (s.take n)):=by
 simp only [zB9,zDf,aHi,aLo];rw [zlF ⟨by omega,by omega⟩];simp
theorem zGB:∀ (p s:List UInt8),p.isPrefixOf s=(decide (p.length<=s.length)&&(s.take p.length==p))
 |[],s=>by simp
 |a::p,[]=>by simp
 |a::p,b::s=>by
  simp only [List.isPrefixOf,zGB p s,zlE,zm7];rw [zng];simp only [zlG,zll,zlV,zmU];constructor
  ·rintro ⟨h1,h2,h3⟩;exact ⟨by omega,h1.symm,h3⟩
  ·rintro ⟨h1,h2,h3⟩;exact ⟨h2.symm,by omega,h3⟩
section
variable {C:CSpec} {GT:zG_}
theorem zUT (s p:List UInt8) (H:Heap):EFun C GT zDE [.str s,.str p] H (.bool (p.isPrefixOf s)) H:=by
 refine zEY (fun h=>?_) (fun h=>?_)
 ·have h:p.length<=s.length:=by
   have:=zlr h;omega
  have e:p.isPrefixOf s=(s.take p.length==p):=by rw [zGB,zlY h,zmj]
  rw [e];refine zx (zaV s p.length h)<|zE ?_
  exact sRr
 ·have h:¬ p.length<=s.length:=by
   have:=zly h;omega
  have e:p.isPrefixOf s=false:=by rw [zGB,zlf h,zmt]
  rw [e];refine zG ?_;exact sRr
theorem zaW (hS:∀ s p H,C zAZ [.str s,.str p] H (.bool (p.isPrefixOf s)) H) (s p:List UInt8) (H:Heap):EFun C GT zEb [.str s,.str p] H (.bool (p.isPrefixOf s)) H:=by
 refine zM (hS s p H) ?_;exact sRr
end
def zEK (n:Int):Prop:=-9223372036854775808<=n/\n<=9223372036854775807
instance (n:Int):Decidable (zEK n):=by unfold zEK;exact inferInstance
def zjR:Nat->Nat->List Nat
 |0,_=>[]
 |f+1,n=>if n=0 then [] else (n%4294967296)::zjR f (n/4294967296)
def wds (n:Nat):List Nat:=zjR n n
def wval:List Nat->Nat
 |[]=>0
 |w::ws=>w+4294967296*wval ws
def Small (ws:List Nat):Prop:=∀ w∈ws,w<4294967296
theorem zUU:∀ f g n,n<=f->n<=g->zjR f n=zjR g n
 |0,0,_,_,_=>rfl
 |0,g+1,n,h,_=>by
  have:n=0:=by omega
  subst this;rfl
 |f+1,0,n,_,h=>by
  have:n=0:=by omega
  subst this;rfl
 |f+1,g+1,n,h,k=>by
  simp only [zjR];split
  ·rfl
  ·rw [zUU f g (n/4294967296) tO tO]
theorem zE5:wds 0=[]:=rfl
theorem zDG {n:Nat} (h:n≠0):wds n=(n%4294967296)::wds (n/4294967296):=by
 unfold wds;obtain ⟨m,rfl⟩:∃ m,n=m+1:=⟨n-1,by omega⟩;rw [zjR,zlD h,zUU m ((m+1)/4294967296) _ tO (zlK _)]
theorem zE6 (n:Nat):wval (wds n)=n:=by
 induction n using Nat.strongRecOn with
 |ind n ih=>
  by_cases h:n=0
  ·subst h;rfl
  ·rw [zDG h,wval,ih _ tO];omega
theorem zB4 (n:Nat):Small (wds n):=by
 induction n using Nat.strongRecOn with
 |ind n ih=>
  by_cases h:n=0
  ·subst h;intro w hw;cases hw
  ·rw [zDG h];intro w hw;rcases zmC.1 hw with rfl|hw
   ·omega
   ·exact ih _ tO w hw
theorem zeJ {w:Nat} {v:Nat} (hw:w<4294967296) (h:w≠0\/v≠0):wds (w+4294967296*v)=w::wds v:=by
 rw [zDG tO];have e1:(w+4294967296*v)%4294967296=w:=by omega
 have e2:(w+4294967296*v)/4294967296=v:=by omega
 rw [e1,e2]
theorem zVz:∀ ws:List Nat,Small ws->∃ k,ws=wds (wval ws)++List.replicate k 0
 |[],_=>⟨0,rfl⟩
 |w::ws,h=>by
  obtain ⟨k,hk⟩:=zVz ws fun x hx=>h x (zmS _ hx);have hw:=h w zS_;by_cases hz:w=0/\wval ws=0
  ·refine ⟨k+1, ?_⟩;rw [wval,hz.1,hz.2];rw [hz.2] at hk;simp only [Nat.mul_zero,zm3,zE5,zl2] at hk ⊢;rw [znb,<-hk]
  ·refine ⟨k, ?_⟩;rw [wval,zeJ hw tO,zl5,<-hk]
theorem zeK {ws:List Nat} (h:Small ws):(wds (wval ws)).length<=ws.length/\ws.take (wds (wval ws)).length=wds (wval ws):=by
 obtain ⟨k,hk⟩:=zVz ws h;constructor
 ·conv=>rhs;rw [hk]
  simp
 ·conv=>lhs;rw [hk]
  have:wval (wds (wval ws)++List.replicate k 0)=wval ws:=by rw [<-hk]
  rw [this];simp
theorem zhM {ws:List Nat} (h:Small ws) (hl:∀ w,ws.getLast?=some w->w≠0):wds (wval ws)=ws:=by
 obtain ⟨k,hk⟩:=zVz ws h;cases k with
 |zero=>rw [znc,zma] at hk;exact hk.symm
 |succ k=>
  exfalso;refine hl 0 ?_ rfl;rw [hk,List.replicate_succ',<-List.append_assoc,List.getLast?_append];simp
theorem zIw:∀ xs ys:List Nat,wval (xs++ys)=wval xs+4294967296^xs.length*wval ys
 |[],ys=>by simp [wval]
 |x::xs,ys=>by
  simp only [zl5,wval,zIw xs ys,zlE];rw [znB,<-Nat.mul_assoc,zmI,zmZ (4294967296^xs.length) 4294967296];omega
theorem zE7 (xs:List Nat) (y:Nat):wval (xs++[y])=wval xs+4294967296^xs.length*y:=by
 rw [zIw];simp [wval]
theorem zEL {ws:List Nat} {i:Nat} (h:i<ws.length):wval (ws.take (i+1))=wval (ws.take i)+4294967296^i*ws[i]:=by
 rw [zm0 h,zE7,zla,zmw tO]
theorem zSz:∀ {ws:List Nat},Small ws->wval ws<4294967296^ws.length
 |[],_=>by simp [wval]
 |w::ws,h=>by
  have h1:=h w zS_;have h2:=zSz (ws:=ws) fun x hx=>h x (zmS _ hx);simp only [wval,zlE];rw [zmI,zmZ (4294967296^ws.length) 4294967296];omega
theorem zgi:∀ (n:Nat),n≠0->4294967296^((wds n).length-1)<=n:=by
 intro n;induction n using Nat.strongRecOn with
 |ind n ih=>
  intro h;rw [zDG h,zlE,zmO];by_cases h2:n/4294967296=0
  ·rw [h2];simp [zE5];omega
  ·have h3:=ih _ tO h2;have h4:(wds (n/4294967296)).length≠0:=by rw [zDG h2];simp
   obtain ⟨m,hm⟩:∃ m,(wds (n/4294967296)).length=m+1:=⟨(wds (n/4294967296)).length-1,by omega⟩;rw [hm] at h3 ⊢;simp only [zmO] at h3;rw [zmI];omega
theorem zgj (n:Nat):n<4294967296^(wds n).length:=by
 have:=zSz (zB4 n);rwa [zE6] at this
theorem zNe {a b:Nat} (h:(wds a).length<(wds b).length):a<b:=by
 have hb:b≠0:=fun e=>by subst e;simp [zE5] at h
 have h1:=zgj a;have h2:=zgi b hb;have h3:4294967296^(wds a).length<=4294967296^((wds b).length-1):=zmT tO tO;omega
theorem zN8 {a b:Nat} (h:a<=b):(wds a).length<=(wds b).length:=by
 rcases zmp (wds b).length (wds a).length with h2|h2
 ·have:=zNe h2;omega
 ·exact h2
theorem zaX {xs ys:List Nat} (hx:Small xs) (hy:Small ys) (hl:xs.length=ys.length) {i:Nat} (hi:i<xs.length) (he:xs.drop (i+1)=ys.drop (i+1)) (hlt:xs[i]<ys[i]'tO):wval xs<wval ys:=by
 have h1:xs=xs.take i++xs[i]::xs.drop (i+1):=by rw [znN,znS]
 have h2:ys=ys.take i++ys[i]'tO::ys.drop (i+1):=by rw [znN,znS]
 have g1:wval xs=wval (xs.take i)+4294967296^i*(xs[i]+4294967296*wval (xs.drop (i+1))):=by
  conv=>lhs;rw [h1]
  rw [zIw,zla,zmw tO,wval]
 have g2:wval ys=wval (ys.take i)+4294967296^i*(ys[i]'tO+4294967296*wval (ys.drop (i+1))):=by
  conv=>lhs;rw [h2]
  rw [zIw,zla,zmw tO,wval]
 have g3:wval (xs.take i)<4294967296^i:=by
  have:=zSz (ws:=xs.take i) fun w hw=>hx w (zmr hw)
  rwa [zla,zmw tO] at this
 rw [g1,g2,he];have g4:4294967296^i*(xs[i]+4294967296*wval (ys.drop (i+1))+1)<=4294967296^i*(ys[i]'tO+4294967296*wval (ys.drop (i+1))):=Nat.mul_le_mul_left _ tO;rw [znB,znY] at g4;omega
def zUV:Nat->Nat->Nat
 |0,_=>0
 |f+1,n=>if n=0 then 0 else zUV f (n/2)+1
def bits (n:Nat):Nat:=zUV n n
theorem zRp:∀ f g n,n<=f->n<=g->zUV f n=zUV g n
 |0,0,_,_,_=>rfl
 |0,g+1,n,h,_=>by
  have:n=0:=by omega
  subst this;rfl
 |f+1,0,n,_,h=>by
  have:n=0:=by omega
  subst this;rfl
 |f+1,g+1,n,h,k=>by
  simp only [zUV];split
  ·rfl
  ·rw [zRp f g (n/2) tO tO]
theorem zO0 {n:Nat} (h:n≠0):bits n=bits (n/2)+1:=by
 unfold bits;obtain ⟨m,rfl⟩:∃ m,n=m+1:=⟨n-1,by omega⟩;rw [zUV,zlD h,zRp m ((m+1)/2) _ tO (zlK _)]
theorem zV0_ (k:Nat):∀ n,bits n<=k↔n<2^k:=by
 induction k with
 |zero=>
  intro n;by_cases h:n=0
  ·subst h;simp [bits,zUV]
  ·rw [zO0 h];simp;omega
 |succ k ih=>
  intro n;by_cases h:n=0
  ·subst h;simp [bits,zUV];exact Nat.two_pow_pos _
  ·rw [zO0 h,zmI];have:=ih (n/2);constructor
   ·intro h2;have:=this.1 tO;omega
   ·intro h2;have:=this.2 tO;omega
end Go.AM
