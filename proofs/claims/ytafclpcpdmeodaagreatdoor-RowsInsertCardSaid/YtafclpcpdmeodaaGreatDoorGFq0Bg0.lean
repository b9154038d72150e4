/- Several texts of mine in one (Fq0, Zp, Trm, Pre, Bg0). Own work. -/
import Derived.Test.YtafclpcpdmeodaaGreatDoorGAm30Fp1
import Derived.Test.YtafclpcpdmeodaaGreatDoorGAm23Am29
import Derived.Test.YtafclpcpdmeodaaGreatDoorXc
set_option linter.all false
set_option maxRecDepth 20000
namespace Go.AM
abbrev rdB (s:Bs) (p d:Nat):ABlk:=.box [.str s,zK p,zK d]
abbrev pR (b:Nat):AV:=.ref b 0 0 0
abbrev wkC (s:Bs):List AV:=[.str s,.undef,.undef]
abbrev byV (c:UInt8):AV:=.int .u8 c.toNat
def zHS:AV:=.iface zEo (.agg [.sca,.iface zO .undef])
theorem wkSca (k:IntKind) (n:Int):Wk (.int k n) .sca:=fun _ _ _ _ _ h=>by cases h;exact .sca _ rfl
theorem wkRd (s:Bs) (p d:Nat):WkL [.str s,zK p,zK d] (wkC s):=.cons (.refl _) (.cons (.undef _) (.cons (.undef _) .nil))
theorem wkFlt (a:Int) (y:AV):Wk (.iface zEo (.agg [.int .i64 a,.iface zO y])) zHS:=.iface (.agg (.cons (wkSca _ _) (.cons (.iface (.undef _)) .nil)))
theorem zEB (s:Bs) (a b:Nat) (h:a<=b) (hb:b<=s.length):zB5 none (.str s) (some (.int .i64 (a:Int))) (some (.int .i64 (b:Int)))=some (.str (sub s a b)):=by
 simp only [zB5,zDb,aHi,aLo];have h1:¬ ((a:Int)<0):=by omega
 have h2:¬ ((b:Int)<0):=by omega
 have e1:(a:Int).toNat=a:=zQy a;have e2:(b:Int).toNat=b:=zQy b;simp [h1,h2,e1,e2,h,hb,sub,List.drop_take]
theorem zIf (s:Bs) (a:Nat) (h:a<=s.length):zB5 none (.str s) (some (.int .i64 (a:Int))) none=some (.str (s.drop a)):=by
 simp only [zB5,zDb,aHi,aLo];have h1:¬ ((a:Int)<0):=by omega
 have e1:(a:Int).toNat=a:=zQy a;simp [h1,e1,h]
theorem slice_up (s:Bs) (b:Nat) (hb:b<=s.length):zB5 none (.str s) none (some (.int .i64 (b:Int)))=some (.str (s.take b)):=by
 simp only [zB5,zDb,aHi,aLo];have h2:¬ ((b:Int)<0):=by omega
 have e2:(b:Int).toNat=b:=zQy b;simp [h2,e2,hb]
section
variable {C:CSpec} {GT:Nat->Option AV}
theorem fwordly_ev (c:UInt8) (H:Heap):EFun C GT zEM [byV c] H (.bool (zh c)) H:=by
 obtain ⟨r,hr⟩:∃ r,zh c=r:=⟨_,rfl⟩;rw [hr];unfold zh at hr;have hc:c.toNat<256:=zR2 c;change EFun C GT zEM [.int .u8 (c.toNat:Int)] H (.bool r) H;generalize c.toNat=n at *;refine zI ?_;by_cases h365:n=36
 ·have:r=true:=by rw [<-hr];simp;omega
  subst this;refine zp tT<|zD<|zD<|zD<|zD<|zD ?_
  exact sRr
 by_cases h618:n<48
 ·have:r=false:=by rw [<-hr];simp;omega
  subst this;refine zk tF<|zk tF<|zG<|zG<|zG<|zk tF<|zG<|zG ?_;refine zG<|zk tF<|zG<|zG ?_
  exact sRr
 by_cases h872:n<=57
 ·have:r=true:=by rw [<-hr];simp;omega
  subst this;refine zk tF<|zp tT<|zD<|zG<|zp tT<|zD<|zD<|zD ?_
  exact sRr
 by_cases h1125:n<65
 ·have:r=false:=by rw [<-hr];simp;omega
  subst this;refine zk tF<|zp tT<|zD<|zG<|zk tF<|zk tF<|zG<|zG ?_;refine zG<|zk tF<|zG<|zG ?_
  exact sRr
 by_cases h1380:n<=90
 ·have:r=true:=by rw [<-hr];simp;omega
  subst this;refine zk tF<|zp tT<|zD<|zG<|zk tF<|zp tT<|zD<|zG ?_;refine zp tT<|zD ?_
  exact sRr
 by_cases h1634:n<97
 ·have:r=false:=by rw [<-hr];simp;omega
  subst this;refine zk tF<|zp tT<|zD<|zG<|zk tF<|zp tT<|zD<|zG ?_;refine zk tF<|zk tF<|zG<|zG ?_
  exact sRr
 by_cases h1889:n<=122
 ·have:r=true:=by rw [<-hr];simp;omega
  subst this;refine zk tF<|zp tT<|zD<|zG<|zk tF<|zp tT<|zD<|zG ?_;refine zk tF<|zp tT<|zD<|zG ?_
  exact zID (v0:=.bool (decide ((n:Int)<=122))) (zQb AV.bool (tT).symm) rfl rfl rfl rfl (Old.refl _)
 ·have:r=false:=by rw [<-hr];simp;omega
  subst this;refine zk tF<|zp tT<|zD<|zG<|zk tF<|zp tT<|zD<|zG ?_;refine zk tF<|zp tT<|zD<|zG ?_
  exact zID (v0:=.bool (decide ((n:Int)<=122))) (zQb AV.bool (tF).symm) rfl rfl rfl rfl (Old.refl _)
theorem ffail_ev (b:Nat) (s:Bs) (p d:Nat) (a:Int) (e:Int) (H:Heap) (hb:H[b]?=some (rdB s p d)):zCr C GT zDM [pR b,.int .i64 a,zIb e] H b (wkC s) zHS none:=by
 refine zAH ?_;refine zy (v:=[.int .i64 a,zIb e]) rfl ?_;exact sPanO (by first|rfl|assumption) rfl rfl rfl (OldB.start hb) rfl (by first|exact WkL.refl _|exact wkRd _ _ _) (by first|exact Wk.refl _|exact wkFlt _ _)
theorem blanks_ev (b:Nat) (s:Bs) (p d:Nat) (H:Heap) (hb:H[b]?=some (rdB s p d)) (hp:p<=s.length) (hl:s.length<=200) :
  zCr C GT zCk [pR b] H b (wkC s) zHS (some (.tup [],rdB s (skip s p) d)):=by
 obtain ⟨q,hq⟩:∃ q,skip s p=q:=⟨_,rfl⟩;rw [hq];refine zAH ?_;refine zBB (fun k:Nat=>[(0,pR b)]) (fun k H'=>H'=H.set b (rdB s k d)/\k<=s.length/\skip s k=q) (fun k=>s.length-k) p rfl ⟨(zOc hb).symm,hp,hq⟩ (fun k H1 ⟨e,hk,hs⟩=>?_);subst e;by_cases hlt:k<s.length
 ·obtain ⟨c,hc⟩:∃ c,s[k]?=some c:=⟨_,zQS hlt⟩;refine zA (zK k) (zV hb) rfl<|zA (AV.str s) (zV hb) rfl<|zp tT<|zA (AV.str s) (zV hb) rfl<|zA (zK k) (zV hb) rfl<|zCB rfl hc ?_;refine zD ?_
  by_cases h32:c=32
  ·subst h32;rw [zNF hc] at hs;refine zD<|zA (zK k) (zV hb) rfl<|zS (r:=k+1) rfl tO<|zL (v:=.int .i64 ↑(k+1)) [AV.str s,.int .i64 ↑(k+1),zK d] (zV hb) rfl rfl rfl rfl ?_
   exact zAP (k+1) rfl ⟨zSs ..,by omega,hs⟩ tO
  ·rw [zDh (by rw [hc];intro h;exact h32 (zQl h))] at hs;subst hs;have h33:c.toNat≠32:=fun h=>h32 (zQm.1 h);refine zk tN ?_;exact sRetO _ (by first|rfl|assumption) rfl rfl rfl rfl ((OldB.start hb).setB _) rfl
 ·rw [zDh (by rw [zQ9 tO];simp)] at hs;subst hs;refine zA (zK k) (zV hb) rfl<|zA (AV.str s) (zV hb) rfl<|zk tF<|zG<|zG ?_
  exact sRetO _ (by first|rfl|assumption) rfl rfl rfl rfl ((OldB.start hb).setB _) rfl
theorem word_ev (hW:∀ c H,C zA0 [byV c] H (.bool (zh c)) H) (b:Nat) (s:Bs) (p d:Nat) (H:Heap) (hb:H[b]?=some (rdB s p d)) (hp:p<=s.length) (hl:s.length<=200) :
  zCr C GT zDP [pR b] H b (wkC s) zHS (some (.str (sub s p (zDE s p)),rdB s (zDE s p) d)):=by
 obtain ⟨q,hq⟩:∃ q,zDE s p=q:=⟨_,rfl⟩;have hpq:=zLC s p;have hql:=zJr hp;rw [hq] at hpq hql ⊢;refine zAH ?_;refine zA (zK p) hb rfl ?_;refine zBB (fun k:Nat=>[(0,pR b),(3,zK p)]) (fun k H'=>H'=H.set b (rdB s k d)/\k<=s.length/\zDE s k=q) (fun k=>s.length-k) p rfl ⟨(zOc hb).symm,hp,hq⟩ (fun k H1 ⟨e,hk,hs⟩=>?_);subst e;dsimp only;by_cases hlt:k<s.length
 ·obtain ⟨c,hc⟩:∃ c,s[k]?=some c:=⟨_,zQS hlt⟩;have hw:=hW c;by_cases hwc:zh c=true
  ·rw [zHz hc hwc] at hs;rw [hwc] at hw;clear hW;refine zA (zK k) (zV hb) rfl<|zA (AV.str s) (zV hb) rfl<|zp tT<|zA (AV.str s) (zV hb) rfl<|zA (zK k) (zV hb) rfl<|zCB rfl hc ?_;refine zM (hw _)<|zD<|zD<|zA (zK k) (zV hb) rfl<|zS (r:=k+1) rfl tO<|zL (v:=.int .i64 ↑(k+1)) [AV.str s,.int .i64 ↑(k+1),zK d] (zV hb) rfl rfl rfl rfl ?_
   exact zAP (k+1) rfl ⟨zSs ..,by omega,hs⟩ tO
  ·have hwc:=zRI.2 hwc;rw [zH0 (fun c' h=>by rw [hc] at h;cases h;exact hwc)] at hs;subst hs;rw [hwc] at hw;clear hW;refine zA (zK k) (zV hb) rfl<|zA (AV.str s) (zV hb) rfl<|zp tT<|zA (AV.str s) (zV hb) rfl<|zA (zK k) (zV hb) rfl<|zCB rfl hc ?_;refine zM (hw _)<|zD<|zG<|zA (AV.str s) (zV hb) rfl<|zA (zK k) (zV hb) rfl<|zy (v:=.str (sub s p k)) (zEB s p k tO tO) ?_
   exact sRetO _ (by first|rfl|assumption) rfl rfl rfl rfl ((OldB.start hb).setB _) rfl
 ·rw [zH0 (fun c' h=>by rw [zQ9 tO] at h;cases h)] at hs;subst hs;clear hW;refine zA (zK k) (zV hb) rfl<|zA (AV.str s) (zV hb) rfl<|zk tF<|zG<|zG<|zA (AV.str s) (zV hb) rfl ?_;refine zA (zK k) (zV hb) rfl<|zy (v:=.str (sub s p k)) (zEB s p k tO tO) ?_
  exact sRetO _ (by first|rfl|assumption) rfl rfl rfl rfl ((OldB.start hb).setB _) rfl
end
end Go.AM
namespace Go.AM
theorem sP {P:Prop} (h:P:=by exact sPanO (by first|rfl|assumption) rfl rfl rfl hO rfl (by first|exact WkL.refl _|exact wkRd _ _ _) (by first|exact Wk.refl _|exact wkFlt _ _)):P:=h
end Go.AM
set_option maxRecDepth 20000
namespace Go.AM
def zKl (g:Nat->Bool):List AV:=rowF 256 (fB g)
def zJt (cs:Bs) (i:Nat):Bool:=cs.any fun c=>c.toNat==i
def zOT (s cs:Bs):Bs:=(s.reverse.dropWhile (fun c=>zJt cs c.toNat)).reverse
def trimS (s cs:Bs):Bs:=(zOT s cs).dropWhile (fun c=>zJt cs c.toNat)
theorem splice_one {cs:List AV} {o:Nat} {v:AV} (h:o<cs.length):splice cs o [v]=cs.set o v:=by
 unfold splice;rw [List.set_eq_take_append_cons_drop,zQQ h];simp
theorem zG3 (g:Nat->Bool):(zKl g).length=256:=rowF_len _ _
theorem setV_get {g:Nat->Bool} {i:Nat} (h:i<256):(zKl g)[i]?=some (.bool (g i)):=rowF_get h
theorem setV_step {cs:Bs} {k:Nat} {c:UInt8} (h:cs[k]?=some c):splice (zKl (zJt (cs.take k))) c.toNat [.bool true]=zKl (zJt (cs.take (k+1))):=by
 have hc:c.toNat<256:=zR2 c;rw [splice_one (by rw [zG3];exact hc)];unfold zKl;rw [rowF_set];refine zJ4 fun i hi=>?_;obtain ⟨h1,h2⟩:=zg h;have e:cs.take (k+1)=cs.take k++[c]:=by rw [zSA h1,h2]
 unfold upd fB zJt;rw [e,List.any_append];by_cases he:i=c.toNat
 ·subst he;simp
 ·rw [zQN he];simp [zRH he]
theorem off0 {cs cs':List AV} {n:Nat} {v:List AV} (h:splice cs n v=cs'):splice cs (0+((n:Int)).toNat*1) v=cs':=by
 have e:0+((n:Int)).toNat*1=n:=by omega
 rw [e];exact h
theorem part_all (g:Nat->Bool):part (zKl g) 0 256 true=some (.agg (zKl g)):=by
 simp only [part,zQz,zG3,zSN];rw [zQ6 (by rw [zG3];exact zQU _)];simp
theorem setV_frz (n:Nat) (g:Nat->Bool) (b:Bool) (H:Heap):zEE n (.tup [.agg (zKl g),.bool b]) H=some (.tup [.agg (zKl g),.bool b],H):=by
 have h:∀ l:List Nat,zLP n (l.map fun i=>AV.bool (g i)) H=some (l.map fun i=>AV.bool (g i),H):=by
  intro l;induction l with
  |nil=>rfl
  |cons x l ih=>simp only [zQe,zLP,zEE,ih]
 have h2:zLP n (List.map (fB g) (List.range 256)) H=some (List.map (fB g) (List.range 256),H):=h (List.range 256);simp only [zEE,zLP,zKl,rowF,h2]
theorem setV_bel (n:Nat) (g:Nat->Bool) (b:Bool):(AV.tup [.agg (zKl g),.bool b]).bel n=true:=by
 have h:AV.belL n (zKl g)=true:=by
  rw [AV.belL_iff];intro c hc;unfold zKl rowF fB at hc;obtain ⟨i,_,rfl⟩:=zRx.1 hc;rfl
 simp [AV.bel,AV.belL,h]
section
variable {C:CSpec} {GT:Nat->Option AV}
theorem contains_ev (b:Nat) (g:Nat->Bool) (c:UInt8) (H:Heap) (hb:H[b]?=some (.box (zKl g))):EFun C GT zBZ [pR b,byV c] H (.bool (g c.toNat)) H:=by
 have hc:c.toNat<256:=zR2 c;refine zI ?_;refine zBA ⟨by omega,by omega⟩<|zA (.bool (g c.toNat)) hb (by simpa [part] using setV_get hc) ?_
 exact sRr
theorem mkSet_ev (cs:Bs) (H:Heap) (hcs:∀ c∈cs,c.toNat<128) (hl:cs.length<=1000):EFun C GT zDQ [.str cs] H (.tup [.agg (zKl (zJt cs)),.bool true]) H:=by
 refine zI ?_;refine zBB (fun k:Nat=>[(2,pR H.length),(4,zK k),(0,.str cs)]) (fun k H'=>H'=H++[.box (zKl (zJt (cs.take k)))]/\k<=cs.length) (fun k=>cs.length-k) 0 rfl ⟨rfl,zRG _⟩ (fun k H1 ⟨e,hk⟩=>?_);subst e;by_cases hlt:k<cs.length
 ·obtain ⟨c,hc⟩:∃ c,cs[k]?=some c:=⟨_,zQS hlt⟩;have h128:=hcs c (zQh hc);have hst:=setV_step hc;refine zp tT<|zCB rfl hc<|zk tF<|zBA ⟨by omega,by omega⟩<|zL (v:=.bool true) (zKl (zJt (cs.take (k+1)))) zB rfl rfl (Nat.ble_eq_true_of_le (by rw [zG3];omega)) (off0 hst)<|zS (r:=k+1) rfl tO ?_;refine zAP (k+1) rfl ⟨?_,by omega⟩ tO
  rw [zRv _ _ (zQU _),Nat.sub_self];rfl
 ·have:k=cs.length:=by omega
  subst this;rw [zRs];refine zk tF<|zA (.agg (zKl (zJt cs))) zB (part_all _)<|zL (v:=.agg (zKl (zJt cs))) (zKl (zJt cs)) zB (zG3 _) rfl rfl (by simp [splice,AV.cells,zG3]) ?_
  exact zn (o:=0) rfl rfl (zH hP) (part_all _) rfl (setV_frz _ _ _ _) (setV_bel _ _ _) ((Old.push (Old.refl _) _).set (zQU _) _)
theorem trimR_ev (hC:∀ b g c H,H[b]?=some (.box (zKl g))->C zx [pR b,byV c] H (.bool (g c.toNat)) H) (s cs:Bs) (b:Nat) (H:Heap) (hb:H[b]?=some (.box (zKl (zJt cs)))) (hl:s.length<=1000) :
  EFun C GT zCp [.str s,pR b] H (.str (zOT s cs)) H:=by
 obtain ⟨r,hr⟩:∃ r,zOT s cs=r:=⟨_,rfl⟩;rw [hr];refine zI ?_;refine zBB (fun t:Bs=>[(0,.str t),(1,pR b)]) (fun t H'=>H'=H/\t.length<=1000/\zOT t cs=r) (fun t=>t.length) s rfl ⟨rfl,hl,hr⟩ (fun t H1 ⟨e,htl,ht⟩=>?_);subst e;by_cases h0:t=[]
 ·subst h0;unfold zOT at ht;simp only [List.reverse_nil,List.dropWhile_nil] at ht;subst ht;refine zk (tF (by simp)) ?_;exact sRr
 ·obtain ⟨u,c,rfl⟩:∃ u c,t=u++[c]:=⟨t.dropLast,t.getLast h0,(List.dropLast_concat_getLast h0).symm⟩;have hlen:(u++[c]).length=u.length+1:=by simp
  have hg:(u++[c])[u.length]?=some c:=by simp
  have hcc:=hC b (zJt cs) c H1 hb;unfold zOT at ht;rw [List.reverse_append,List.reverse_singleton,zRP,zSj] at ht;by_cases hc:zJt cs c.toNat=true
  ·rw [zQQ hc] at ht;rw [hc] at hcc;clear hC;refine zp tT<|zS (r:=u.length) tO tO<|zCB rfl hg<|zM (hcc)<|zG<|zS (r:=u.length) tO tO ?_;refine zy (v:=.str ((u++[c]).take u.length)) (slice_up _ _ tO) ?_;refine zAP u ?_ ⟨rfl,by omega,ht⟩ tO
   rw [List.take_left];rfl
  ·have hc:=zRI.2 hc;rw [hc] at hcc ht;simp only [zQY,zQt,zTC,List.reverse_reverse] at ht;subst ht;clear hC;refine zp tT<|zS (r:=u.length) tO tO<|zCB rfl hg<|zM (hcc)<|zD ?_
   exact sRr
theorem trimL_ev (hC:∀ b g c H,H[b]?=some (.box (zKl g))->C zx [pR b,byV c] H (.bool (g c.toNat)) H) (s cs:Bs) (b:Nat) (H:Heap) (hb:H[b]?=some (.box (zKl (zJt cs)))) (hl:s.length<=1000) :
  EFun C GT zDB [.str s,pR b] H (.str (s.dropWhile fun c=>zJt cs c.toNat)) H:=by
 obtain ⟨r,hr⟩:∃ r,(s.dropWhile fun c=>zJt cs c.toNat)=r:=⟨_,rfl⟩;rw [hr];refine zI ?_;refine zBB (fun t:Bs=>[(0,.str t),(1,pR b)]) (fun t H'=>H'=H/\t.length<=1000/\(t.dropWhile fun c=>zJt cs c.toNat)=r) (fun t=>t.length) s rfl ⟨rfl,hl,hr⟩ (fun t H1 ⟨e,htl,ht⟩=>?_);subst e;cases t with
 |nil=>
  simp only [List.dropWhile_nil] at ht;subst ht;refine zk (tF (by simp)) ?_;exact sRr
 |cons c u=>
  have hcc:=hC b (zJt cs) c H1 hb;rw [zSj] at ht;have hlen:(c::u).length=u.length+1:=zQO;by_cases hc:zJt cs c.toNat=true
  ·rw [zQQ hc] at ht;rw [hc] at hcc;clear hC;refine zp tT<|zCB (i:=0) rfl rfl<|zM (hcc)<|zG<|zy (v:=.str ((c::u).drop 1)) (zIf _ 1 tO) ?_
   exact zAP u rfl ⟨rfl,by omega,ht⟩ tO
  ·have hc:=zRI.2 hc;rw [hc] at hcc ht;simp only [zQY,zQt] at ht;subst ht;clear hC;refine zp tT<|zCB (i:=0) rfl rfl<|zM (hcc)<|zD ?_
   exact sRr
theorem dropW_nil (p:UInt8->Bool):∀ l:Bs,(l.dropWhile p=[])↔l.all p=true
 |[]=>by simp
 |c::r=>by
  rw [zSj,zR0];by_cases h:p c=true
  ·rw [zQQ h,h,zRt];exact dropW_nil p r
  ·have h:=zRI.2 h;rw [h];simp
theorem dropW_all (p:UInt8->Bool):∀ l:Bs,(l.dropWhile p).all p=l.all p
 |[]=>rfl
 |c::r=>by
  rw [zSj];by_cases h:p c=true
  ·rw [zQQ h,zR0,h,zRt];exact dropW_all p r
  ·have h:=zRI.2 h;rw [h];simp
theorem trim_nil (s cs:Bs):(trimS s cs=[])↔s.all (fun c=>zJt cs c.toNat)=true:=by
 unfold trimS zOT;rw [dropW_nil,List.all_reverse,dropW_all,List.all_reverse]
theorem trim_ev' (hM:∀ cs H,(∀ c∈cs,c.toNat<128)->cs.length<=1000->C zBQ [.str cs] H (.tup [.agg (zKl (zJt cs)),.bool true]) H)
  (hR:∀ s cs b H,H[b]?=some (.box (zKl (zJt cs)))->s.length<=1000->C zA7 [.str s,pR b] H (.str (zOT s cs)) H)
  (hL:∀ s cs b H,H[b]?=some (.box (zKl (zJt cs)))->s.length<=1000->C zBH [.str s,pR b] H (.str (s.dropWhile fun c=>zJt cs c.toNat)) H)
  (s cs:Bs) (H:Heap) (hcs:∀ c∈cs,c.toNat<128) (hc2:2<=cs.length) (hcl:cs.length<=1000) (hl:s.length<=1000):EFun C GT zHI [.str s,.str cs] H (.str (trimS s cs)) H:=by
 refine zI ?_;have hne:cs≠[]:=fun e=>by subst e;simp at hc2
 have hml:=hM cs H hcs hcl;have hle:(zOT s cs).length<=s.length:=by
  unfold zOT;rw [zR7];have:=(List.dropWhile_suffix (l:=s.reverse) (fun c=>zJt cs c.toNat)).length_le
  rwa [zR7] at this
 by_cases h0:s=[]
 ·subst h0;refine zD<|zD<|zD ?_
  exact sRr
 have hst:∀ (H:Heap),H[H.length]?=none:=fun H=>by simp
 have hrr:=hR s cs H.length;have hll:=hL (zOT s cs) cs H.length;clear hM hR hL;refine zk (tN h0)<|zG<|zk (tN hne)<|zk tN<|zG<|zG ?_;refine zM (hml)<|zy rfl<|zy rfl<|zL (v:=.agg (zKl (zJt cs))) (zKl (zJt cs)) zB (zG3 _) rfl rfl (by simp [splice,AV.cells,zG3])<|zD<|zM (hrr _ hP hl) ?_;refine zM (hll _ hP tO) ?_
 exact zAq rfl rfl rfl rfl (((Old.refl _).push _).set (by first|assumption|exact zQU _|simp|omega) _)
end
end Go.AM
namespace Go.AM
theorem slice_to' (s:List UInt8) (n:Nat) (h:n<=s.length):zB5 none (.str s) none (some (.int .i64 (n:Int)))=some (.str (s.take n)):=by
 simp only [zB5,zDb,aHi,aLo];rw [zQQ ⟨by omega,by omega⟩];simp
theorem zF0:∀ (p s:List UInt8),p.isPrefixOf s=(decide (p.length<=s.length)&&(s.take p.length==p))
 |[],s=>by simp
 |a::p,[]=>by simp
 |a::p,b::s=>by
  simp only [List.isPrefixOf,zF0 p s,zQO,zSH];rw [zSp];simp only [zQP,zQv,zQf,zRe];constructor
  ·rintro ⟨h1,h2,h3⟩;exact ⟨by omega,h1.symm,h3⟩
  ·rintro ⟨h1,h2,h3⟩;exact ⟨h2.symm,by omega,h3⟩
section
variable {C:CSpec} {GT:Nat->Option AV}
theorem sl_prefix_ev (s p:List UInt8) (H:Heap):EFun C GT zDA [.str s,.str p] H (.bool (p.isPrefixOf s)) H:=by
 refine zEQ (fun h=>?_) (fun h=>?_)
 ·have h:p.length<=s.length:=by
   have:=zQ2 h;omega
  have e:p.isPrefixOf s=(s.take p.length==p):=by rw [zF0,zQj h,zRt]
  rw [e];refine zy (slice_to' s p.length h)<|zD ?_
  exact sRr
 ·have h:¬ p.length<=s.length:=by
   have:=zRA h;omega
  have e:p.isPrefixOf s=false:=by rw [zF0,zQs h,zR3]
  rw [e];refine zG ?_;exact sRr
theorem prefix_ev (hS:∀ s p H,C zAU [.str s,.str p] H (.bool (p.isPrefixOf s)) H) (s p:List UInt8) (H:Heap):EFun C GT zET [.str s,.str p] H (.bool (p.isPrefixOf s)) H:=by
 refine zM (hS s p H) ?_;exact sRr
end
end Go.AM
namespace Go.AM
def zEC (n:Int):Prop:=-9223372036854775808<=n/\n<=9223372036854775807
instance (n:Int):Decidable (zEC n):=by unfold zEC;exact inferInstance
def wdsF:Nat->Nat->List Nat
 |0,_=>[]
 |f+1,n=>if n=0 then [] else (n%4294967296)::wdsF f (n/4294967296)
def wds (n:Nat):List Nat:=wdsF n n
def wval:List Nat->Nat
 |[]=>0
 |w::ws=>w+4294967296*wval ws
def Small (ws:List Nat):Prop:=∀ w∈ws,w<4294967296
theorem wdsF_fuel:∀ f g n,n<=f->n<=g->wdsF f n=wdsF g n
 |0,0,_,_,_=>rfl
 |0,g+1,n,h,_=>by
  have:n=0:=by omega
  subst this;rfl
 |f+1,0,n,_,h=>by
  have:n=0:=by omega
  subst this;rfl
 |f+1,g+1,n,h,k=>by
  simp only [wdsF];split
  ·rfl
  ·rw [wdsF_fuel f g (n/4294967296) tO tO]
theorem zEz:wds 0=[]:=rfl
theorem zDC {n:Nat} (h:n≠0):wds n=(n%4294967296)::wds (n/4294967296):=by
 unfold wds;obtain ⟨m,rfl⟩:∃ m,n=m+1:=⟨n-1,by omega⟩;rw [wdsF,zQN h,wdsF_fuel m ((m+1)/4294967296) _ tO (zQU _)]
theorem zE0 (n:Nat):wval (wds n)=n:=by
 induction n using Nat.strongRecOn with
 |ind n ih=>
  by_cases h:n=0
  ·subst h;rfl
  ·rw [zDC h,wval,ih _ tO];omega
theorem zB0 (n:Nat):Small (wds n):=by
 induction n using Nat.strongRecOn with
 |ind n ih=>
  by_cases h:n=0
  ·subst h;intro w hw;cases hw
  ·rw [zDC h];intro w hw;rcases zRQ.1 hw with rfl|hw
   ·omega
   ·exact ih _ tO w hw
theorem wds_cons {w:Nat} {v:Nat} (hw:w<4294967296) (h:w≠0\/v≠0):wds (w+4294967296*v)=w::wds v:=by
 rw [zDC tO];have e1:(w+4294967296*v)%4294967296=w:=by omega
 have e2:(w+4294967296*v)/4294967296=v:=by omega
 rw [e1,e2]
theorem wds_pad:∀ ws:List Nat,Small ws->∃ k,ws=wds (wval ws)++List.replicate k 0
 |[],_=>⟨0,rfl⟩
 |w::ws,h=>by
  obtain ⟨k,hk⟩:=wds_pad ws fun x hx=>h x (zRc _ hx);have hw:=h w (by simp);by_cases hz:w=0/\wval ws=0
  ·refine ⟨k+1, ?_⟩;rw [wval,hz.1,hz.2];rw [hz.2] at hk;simp only [Nat.mul_zero,zSD,zEz,zRC] at hk ⊢;rw [zSk,<-hk]
  ·refine ⟨k, ?_⟩;rw [wval,wds_cons hw tO,zRF,<-hk]
theorem wds_take {ws:List Nat} (h:Small ws):(wds (wval ws)).length<=ws.length/\ws.take (wds (wval ws)).length=wds (wval ws):=by
 obtain ⟨k,hk⟩:=wds_pad ws h;constructor
 ·conv=>rhs;rw [hk]
  simp
 ·conv=>lhs;rw [hk]
  have:wval (wds (wval ws)++List.replicate k 0)=wval ws:=by rw [<-hk]
  rw [this];simp
theorem wds_val {ws:List Nat} (h:Small ws) (hl:∀ w,ws.getLast?=some w->w≠0):wds (wval ws)=ws:=by
 obtain ⟨k,hk⟩:=wds_pad ws h;cases k with
 |zero=>rw [zSl,zRk] at hk;exact hk.symm
 |succ k=>
  exfalso;refine hl 0 ?_ rfl;rw [hk,List.replicate_succ',<-List.append_assoc,List.getLast?_append];simp
theorem zIg:∀ xs ys:List Nat,wval (xs++ys)=wval xs+4294967296^xs.length*wval ys
 |[],ys=>by simp [wval]
 |x::xs,ys=>by
  simp only [zRF,wval,zIg xs ys,zQO];rw [zSM,<-Nat.mul_assoc,zRS,zRj (4294967296^xs.length) 4294967296];omega
theorem zE1 (xs:List Nat) (y:Nat):wval (xs++[y])=wval xs+4294967296^xs.length*y:=by
 rw [zIg];simp [wval]
theorem zED {ws:List Nat} {i:Nat} (h:i<ws.length):wval (ws.take (i+1))=wval (ws.take i)+4294967296^i*ws[i]:=by
 rw [zSA h,zE1,zQk,zR6 tO]
theorem wval_lt:∀ {ws:List Nat},Small ws->wval ws<4294967296^ws.length
 |[],_=>by simp [wval]
 |w::ws,h=>by
  have h1:=h w (by simp);have h2:=wval_lt (ws:=ws) fun x hx=>h x (zRc _ hx);simp only [wval,zQO];rw [zRS,zRj (4294967296^ws.length) 4294967296];omega
theorem wds_ge:∀ (n:Nat),n≠0->4294967296^((wds n).length-1)<=n:=by
 intro n;induction n using Nat.strongRecOn with
 |ind n ih=>
  intro h;rw [zDC h,zQO,zRX];by_cases h2:n/4294967296=0
  ·rw [h2];simp [zEz];omega
  ·have h3:=ih _ tO h2;have h4:(wds (n/4294967296)).length≠0:=by rw [zDC h2];simp
   obtain ⟨m,hm⟩:∃ m,(wds (n/4294967296)).length=m+1:=⟨(wds (n/4294967296)).length-1,by omega⟩;rw [hm] at h3 ⊢;simp only [zRX] at h3;rw [zRS];omega
theorem wds_lt (n:Nat):n<4294967296^(wds n).length:=by
 have:=wval_lt (zB0 n);rwa [zE0] at this
theorem zNG {a b:Nat} (h:(wds a).length<(wds b).length):a<b:=by
 have hb:b≠0:=fun e=>by subst e;simp [zEz] at h
 have h1:=wds_lt a;have h2:=wds_ge b hb;have h3:4294967296^(wds a).length<=4294967296^((wds b).length-1):=zRd tO tO;omega
theorem zNj {a b:Nat} (h:a<=b):(wds a).length<=(wds b).length:=by
 rcases zRz (wds b).length (wds a).length with h2|h2
 ·have:=zNG h2;omega
 ·exact h2
theorem cmp_top {xs ys:List Nat} (hx:Small xs) (hy:Small ys) (hl:xs.length=ys.length) {i:Nat} (hi:i<xs.length) (he:xs.drop (i+1)=ys.drop (i+1)) (hlt:xs[i]<ys[i]'tO):wval xs<wval ys:=by
 have h1:xs=xs.take i++xs[i]::xs.drop (i+1):=by rw [zSW,zSb]
 have h2:ys=ys.take i++ys[i]'tO::ys.drop (i+1):=by rw [zSW,zSb]
 have g1:wval xs=wval (xs.take i)+4294967296^i*(xs[i]+4294967296*wval (xs.drop (i+1))):=by
  conv=>lhs;rw [h1]
  rw [zIg,zQk,zR6 tO,wval]
 have g2:wval ys=wval (ys.take i)+4294967296^i*(ys[i]'tO+4294967296*wval (ys.drop (i+1))):=by
  conv=>lhs;rw [h2]
  rw [zIg,zQk,zR6 tO,wval]
 have g3:wval (xs.take i)<4294967296^i:=by
  have:=wval_lt (ws:=xs.take i) fun w hw=>hx w (zR1 hw)
  rwa [zQk,zR6 tO] at this
 rw [g1,g2,he];have g4:4294967296^i*(xs[i]+4294967296*wval (ys.drop (i+1))+1)<=4294967296^i*(ys[i]'tO+4294967296*wval (ys.drop (i+1))):=Nat.mul_le_mul_left _ tO;rw [zSM,zSh] at g4;omega
def bitsF:Nat->Nat->Nat
 |0,_=>0
 |f+1,n=>if n=0 then 0 else bitsF f (n/2)+1
def bits (n:Nat):Nat:=bitsF n n
theorem bitsF_fuel:∀ f g n,n<=f->n<=g->bitsF f n=bitsF g n
 |0,0,_,_,_=>rfl
 |0,g+1,n,h,_=>by
  have:n=0:=by omega
  subst this;rfl
 |f+1,0,n,_,h=>by
  have:n=0:=by omega
  subst this;rfl
 |f+1,g+1,n,h,k=>by
  simp only [bitsF];split
  ·rfl
  ·rw [bitsF_fuel f g (n/2) tO tO]
theorem zOe {n:Nat} (h:n≠0):bits n=bits (n/2)+1:=by
 unfold bits;obtain ⟨m,rfl⟩:∃ m,n=m+1:=⟨n-1,by omega⟩;rw [bitsF,zQN h,bitsF_fuel m ((m+1)/2) _ tO (zQU _)]
theorem bits_le (k:Nat):∀ n,bits n<=k↔n<2^k:=by
 induction k with
 |zero=>
  intro n;by_cases h:n=0
  ·subst h;simp [bits,bitsF]
  ·rw [zOe h];simp;omega
 |succ k ih=>
  intro n;by_cases h:n=0
  ·subst h;simp [bits,bitsF];exact Nat.two_pow_pos _
  ·rw [zOe h,zRS];have:=ih (n/2);constructor
   ·intro h2;have:=this.1 tO;omega
   ·intro h2;have:=this.2 tO;omega
end Go.AM
