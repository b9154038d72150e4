/- Several texts of mine in one (Mg5, Rd1, Gmt, Rd2, Mw4). Own work. -/
import Derived.Test.YthllabjbdobpgaaGreatDoorGMg4Mcp
import Derived.Test.YthllabjbdobpgaaGreatDoorGFp0Trm
import Derived.Test.YthllabjbdobpgaaGreatDoorGAm23Am29
import Derived.Test.YthllabjbdobpgaaGreatDoorUc
import Derived.Test.YthllabjbdobpgaaGreatDoorGRfhSk0
import Derived.Test.YthllabjbdobpgaaGreatDoorGWt1Wt2
import Derived.Test.YthllabjbdobpgaaGreatDoorGSshGds
import Derived.Test.YthllabjbdobpgaaGreatDoorGMs0Mw3
set_option linter.all false
namespace Go.AM
def zDq (r c : Nat) : List (Int × Int):=((List.range r).flatMap fun (i : Nat)=>(List.range 26).map fun (k : Nat)=>((((k + 1 : Nat) : Int),((i + 1 : Nat) : Int)) : Int × Int)) ++ (List.range c).map fun (k : Nat)=>((((k + 1 : Nat) : Int),((r + 1 : Nat) : Int)) : Int × Int)
theorem gridTo_next (r c : Nat) : zDq r (c + 1) = zDq r c ++ [(((c + 1 : Nat) : Int),((r + 1 : Nat) : Int))]:=by
 unfold zDq
 rw [show List.range (c + 1) = List.range c ++ [c] from List.range_succ,zM2,zNc]
 rfl
theorem gridTo_row (r : Nat) : zDq r 26 = zDq (r + 1) 0:=by
 unfold zDq
 conv=>rhs; rw [show List.range (r + 1) = List.range r ++ [r] from List.range_succ,zPT]
 rw [List.flatMap_singleton,List.range_zero,zMw,zNS]
theorem gridTo_len (r c : Nat) : (zDq r c).length = 26 * r + c:=by
 unfold zDq
 rw [zMn,zMl,zOK,zPS]
 have : ((List.range r).map fun (i : Nat)=>((List.range 26).map fun (k : Nat)=>((((k + 1 : Nat) : Int),((i + 1 : Nat) : Int)) : Int × Int)).length).sum = 26 * r:=by
  simp only [zMl,zOK]
  induction r with
  | zero=>rfl
  | succ r ih=>rw [show List.range (r + 1) = List.range r ++ [r] from List.range_succ,zM2,List.sum_append,ih]; simp; omega
 omega
def gridK : List (Int × Int):=zDq 99 0
theorem gridK_mem (p : Int × Int) : p ∈ gridK ↔ okC p.1 p.2 = true:=by
 unfold gridK zDq okC
 simp only [List.range_zero,zMw,zNS,zPI,zPA,zM9,zMd,zMr]
 constructor
 ·rintro ⟨i,hi,k,hk,rfl⟩
  simp only
  omega
 ·intro h
  refine ⟨(p.2 - 1).toNat,by omega,(p.1 - 1).toNat,by omega,zPW ?_ ?_⟩
  ·simp only; omega
  ·simp only; omega
theorem gridK_asc : Asc gridK:=by
 unfold gridK zDq Asc
 simp only [List.range_zero,zMw,zNS]
 rw [List.pairwise_flatMap]
 refine ⟨fun i _=>?_, ?_⟩
 ·rw [zPG]
  refine List.pairwise_lt_range.imp fun {a b} h=>?_
  exact .inr ⟨rfl,by simp only; omega⟩
 ·refine List.pairwise_lt_range.imp fun {a b} h=>?_
  intro x hx y hy
  obtain ⟨k,_,rfl⟩:=zM9.1 hx
  obtain ⟨k',_,rfl⟩:=zM9.1 hy
  exact .inl (by simp only; omega)
theorem diffK_more {a b : List Fil} {cs ds : List (Int × Int)} (hc : Asc cs) (hd : Asc ds) (h1 : ∀ p,zh a p ≠ zh b p → p ∈ cs) (h2 : ∀ p,zh a p ≠ zh b p → p ∈ ds) : zD5 a b cs = zD5 a b ds:=by
 unfold zD5
 congr 1
 refine asc_ext (hc.filter _) (hd.filter _) fun p=>?_
 simp only [zNW,zMr]
 exact ⟨fun h=>⟨h2 p h.2,h.2⟩,fun h=>⟨h1 p h.2,h.2⟩⟩
theorem keys_ok {l : List Fil} (h : Goods l) {p : Int × Int} (hp : p ∈ l.map zAj) : okC p.1 p.2 = true:=by
 obtain ⟨f,hf,rfl⟩:=zM9.1 hp
 have h1:=(h.each f hf).1
 unfold mayN at h1
 show okC f.col f.row = true
 cases hc : okC f.col f.row with
 | true=>rfl
 | false=>rw [hc] at h1; cases h1
theorem diff_grid {a b : List Fil} (ha : Goods a) (hb : Goods b) : zD5 a b gridK = zBA a b:=by
 refine diffK_more gridK_asc (zBS _).1 (fun p h=>?_) (fun p h=>zNy fun k=>h ?_)
 ·rw [gridK_mem]
  by_cases hm : p ∈ a.map zAj
  ·exact keys_ok ha hm
  ·refine keys_ok hb (zMY fun e=>h ?_)
   rw [zC5 hm,e]
 ·rw [zCg (zBS [a,b]) k (l:=a) (by simp),zCg (zBS [a,b]) k (l:=b) (by simp)]
theorem zKJ (a b : List Fil) : Srtd (zBA a b):=diffK_srtd a b (zBS _).1
theorem zKK (a b : List Fil) (p : Int × Int) : zh (zBA a b) p = if zh a p ≠ zh b p then zh b p else []:=by
 unfold zBA
 rw [zHe a b p (zBS _).1]
 by_cases h : zh a p ≠ zh b p
 ·rw [zMg h]
  by_cases hc : p ∈ zB6 [a,b]
  ·rw [zMg ⟨hc,h⟩]
  ·exact absurd (by rw [zCg (zBS [a,b]) hc (l:=a) (by simp),zCg (zBS [a,b]) hc (l:=b) (by simp)]) h
 ·rw [zMe h,zMe fun k=>h k.2]
theorem three_ref {w a b : List Fil} (hw : Goods w) (ha : Goods a) (hb : Goods b) : zDo (zDo w (zBA w b)) (zBA w a) = zFF w a b:=by
 rw [diffL_done hw hb]
 obtain ⟨h1,h2,h3⟩:=zHp (zBA w a) b hb.srt fun f hf=>(hb.each f hf).2
 refine goods_ext h1 (zMa _ _ _ (zBS _).1) h2 (threeO_ne _ _ _ _) fun p=>?_
 rw [h3 (zKJ w a) p,zKK]
 unfold zFF
 rw [textAt_threeO (zBS _)]
 unfold txT
 by_cases h : zh w p = zh a p
 ·rw [zMe fun k=>zEm.1 k h,zMg h.symm]
 ·rw [zMg (zEm.2 h),zMg h,zMe fun k=>h k.symm]
def zJf (x y : List Fil) : List (Int × Int):=x.flatMap fun f=>(y.filter fun g=>decide (zAj f = zAj g ∧ f.text ≠ g.text)).map fun _=>zAj f
theorem filter_one {y : List Fil} (h : Srtd y) (f : Fil) : (y.filter fun g=>decide (zAj f = zAj g ∧ f.text ≠ g.text)).map (fun _=>zAj f) = if zAj f ∈ y.map zAj ∧ f.text ≠ zh y (zAj f) then [zAj f] else []:=by
 induction y with
 | nil=>simp
 | cons g y ih=>
  have hp:=zNo.1 h
  have ih:=ih hp.2
  rw [zOe]
  by_cases e : zAj f = zAj g
  ·have hno : zAj f ∉ y.map zAj:=fun k=>by
    obtain ⟨g',hg',e'⟩:=zM9.1 k
    have h1:=hp.1 g' hg'
    have e1 : g'.col = g.col:=zM1 Prod.fst (e'.trans e)
    have e2 : g'.row = g.row:=zM1 Prod.snd (e'.trans e)
    omega
   rw [zMe fun k=>hno k.1] at ih
   rw [zEl,zMg e]
   by_cases ht : f.text = g.text
   ·rw [zMe (by simp [ht]),zMe fun k=>k.2 ht]; exact ih
   ·rw [zMg (by simp [e,ht]),zMp,ih,zMg ⟨by simp [e],ht⟩]
  ·rw [zMe (by simp [e]),zEl,zMe e,ih]
   simp [e]
theorem both_ref {w a b : List Fil} : zJf (zBA w a) (zBA w b) = zGm w a b:=by
 have h1 : zJf (zBA w a) (zBA w b) = ((zBA w a).filter fun f=>decide (zAj f ∈ (zBA w b).map zAj ∧ f.text ≠ zh (zBA w b) (zAj f))).map zAj:=by
  unfold zJf
  generalize zBA w a = x
  induction x with
  | nil=>rfl
  | cons f x ih=>
   rw [zPF,ih,filter_one (zKJ w b) f,zOe]
   by_cases h : zAj f ∈ (zBA w b).map zAj ∧ f.text ≠ zh (zBA w b) (zAj f)
   ·rw [zMg h,zMg (zM8 h)]; rfl
   ·rw [zMe h,zMe (by simpa using h)]; rfl
 rw [h1]
 unfold zGm zF8
 refine asc_ext (zMX ((zKJ w a).sublist List.filter_sublist)) ((zBS _).1.filter _) fun p=>?_
 have ht : ∀ f ∈ zBA w a,f.text = zh a (zAj f):=fun f hf=>by
  unfold zBA zD5 at hf
  obtain ⟨q,_,rfl⟩:=zM9.1 hf
  rfl
 simp only [zM9,zNW,zMr]
 constructor
 ·rintro ⟨f,⟨hf,hk,hne⟩,rfl⟩
  have d1:=zEm.1 (zM9.2 ⟨f,hf,rfl⟩)
  have d2:=zEm.1 (zM9.2 hk)
  rw [zKK,zMg d2,ht f hf] at hne
  refine ⟨zNy fun k=>d1 ?_,fun e=>d1 e.symm,fun e=>d2 e.symm,hne⟩
  rw [zCg (zBS [w,a,b]) k (l:=w) (by simp),zCg (zBS [w,a,b]) k (l:=a) (by simp)]
 ·rintro ⟨_,h1,h2,h3⟩
  obtain ⟨f,hf,rfl⟩:=zM9.1 (zEm.2 fun e=>h1 e.symm : p ∈ (zBA w a).map zAj)
  have hk : zAj f ∈ (zBA w b).map zAj:=zEm.2 fun e=>h2 e.symm
  refine ⟨f,⟨hf,zM9.1 hk, ?_⟩,rfl⟩
  rw [zKK,zMg (zEm.1 hk),ht f hf]
  exact h3
end Go.AM
set_option maxRecDepth 20000
namespace Go.AM
section
variable {C : CSpec} {GT : Nat → Option AV}
theorem rtxt_ev (lv : AV) (l : List Fil) (H : Heap) (hlv : zAs lv 3 (l.map zb)) (hs : Srtd l) (hl : l.length ≤ 1000) (c r : Int) : EFun C GT zIE [lv,zr c r] H (.str (zh l (c,r))) H:=by
 have hlm : (l.map zb).length = l.length:=zMl _
 refine zc ?_; refine zD6 (x:=zr c r) rfl ?_
 have hb0 : (H ++ [ABlk.box (zr c r).cells])[H.length]? = some (.box (zr c r).cells):=zD
 have hO : Old H (H ++ [ABlk.box (zr c r).cells]):=(Old.refl H).push _
 generalize H ++ [ABlk.box (zr c r).cells] = H1 at *
 refine zBB (fun i : Nat=>[(5,zJ i),(0,lv),(3,.ref H.length 0 0 0)]) (fun i H'=>H' = H1 ∧ i ≤ l.length ∧ ∀ f ∈ l.take i,zAj f ≠ (c,r)) (fun i=>l.length - i) 0 rfl ⟨rfl,by omega,by simp⟩ (fun i H2 hi=>?_)
 obtain ⟨hH,hi,hno⟩:=hi
 subst hH
 dsimp only
 by_cases hlt : i < l.length
 ·obtain ⟨f,hf⟩ : ∃ f,l[i]? = some f:=⟨_,zMf hlt⟩
  have hfm : (l.map zb)[i]? = some (zb f):=by rw [zMq,hf]; rfl
  by_cases e : zAj f = (c,r)
  ·have ht:=zF7 hs (zM3 hf)
   rw [e] at ht
   have e1 : f.col = c:=zM1 Prod.fst e
   have e2 : f.row = r:=zM1 Prod.snd e
   have ex : zG6 false (f.col == c && (f.row == r && true)) = true:=by rw [e1,e2]; simp [zG6]
   rw [ht]
   refine zA8 l.length hlv hlm ?_; refine zP tT ?_; refine zCl i (zb f) hlv rfl hfm ?_; refine zk (zr f.col f.row) rfl ?_; refine zB (zr c r) hb0 rfl ?_; refine zS rfl ?_; refine zP ex ?_; refine zCl i (zb f) hlv rfl hfm ?_; refine zk (AV.str f.text) rfl ?_
   exact zBO rfl rfl rfl rfl hO
  ·have ex : zG6 false (f.col == c && (f.row == r && true)) = false:=by
    cases hx : (f.col == c && (f.row == r && true)) with
    | false=>rfl
    | true=>simp at hx; exact absurd (zPW hx.1 hx.2) e
   refine zA8 l.length hlv hlm ?_; refine zP tT ?_; refine zCl i (zb f) hlv rfl hfm ?_; refine zk (zr f.col f.row) rfl ?_; refine zB (zr c r) hb0 rfl ?_; refine zS rfl ?_; refine zO ex ?_; refine zM (r:=i + 1) rfl tO ?_; refine zAA (i + 1) rfl ⟨rfl,by omega,fun g hg=>?_⟩ tO
   rw [zNi,hf,zNp] at hg
   rcases hg with hg | hg
   ·exact hno g hg
   ·simp at hg; rw [hg]; exact e
 ·have he : l.take i = l:=zM7 tO
  rw [he] at hno
  rw [zC5 fun k=>by obtain ⟨f,hf,e⟩:=zM9.1 k; exact hno f hf e]
  refine zA8 l.length hlv hlm ?_; refine zO tF ?_
  exact zBO rfl rfl rfl rfl hO
set_option maxHeartbeats 4000000 in
theorem rdiff_ev (hT : ∀ (lv : AV) (l : List Fil) (c r : Int) H,zAs lv 3 (l.map zb) → Srtd l → l.length ≤ 1000 → C zCx [lv,zr c r] H (.str (zh l (c,r))) H) (av bv : AV) (a b : List Fil) (hav : zAs av 3 (a.map zb)) (hbv : zAs bv 3 (b.map zb)) (ha : Srtd a) (hb : Srtd b) (hal : a.length ≤ 1000) (hbl : b.length ≤ 1000) (H : Heap) :
  EFun C GT zIC [av,bv] H (zFi 3 ((zD5 a b gridK).map zb)) H:=by
 have hta:=fun c r H=>hT av a c r H hav ha hal
 have htb:=fun c r H=>hT bv b c r H hbv hb hbl
 clear hT
 refine zc ?_; refine zBB (fun x : Nat × AV=>[(5,x.2),(1,bv),(0,av),(6,zJ (x.1 + 1))]) (fun x H'=>Old H H' ∧ x.1 ≤ 99 ∧ Owns H H' x.2 3 ((zD5 a b (zDq x.1 0)).map zb)) (fun x=>99 - x.1) (0,.lst (some true) 0 []) rfl ⟨Old.refl H,by simp,.inl ⟨rfl,by simp [zD5,zDq]⟩⟩ (fun x H1 hi=>?_)
 obtain ⟨r,out⟩:=x
 obtain ⟨hO,hr,ho⟩:=hi
 dsimp only at hr ho ⊢
 by_cases hlt : r < 99
 ·refine zP (tT) ?_; refine zBB (fun y : Nat × AV=>[(7,zJ (y.1 + 1)),(5,y.2),(1,bv),(0,av),(6,zJ (r + 1))]) (fun y H'=>Old H H' ∧ y.1 ≤ 26 ∧ Owns H H' y.2 3 ((zD5 a b (zDq r y.1)).map zb)) (fun y=>26 - y.1) (0,out) rfl ⟨hO,by simp,ho⟩ (fun y H2 hi2=>?_)
  obtain ⟨c,out2⟩:=y
  obtain ⟨hO2,hc,ho2⟩:=hi2
  dsimp only at hc ho2 ⊢
  by_cases hlt2 : c < 26
  ·have hn:=gridTo_next r c
   have hgl:=gridTo_len r c
   have hdl : ((zD5 a b (zDq r c)).map zb).length ≤ 2600:=by
    unfold zD5
    rw [zMl,zMl]
    have:=zN0 (fun p=>decide (zh a p ≠ zh b p)) (zDq r c)
    omega
   have hdn : zD5 a b (zDq r (c + 1)) = zD5 a b (zDq r c) ++ (if zh a (((c + 1 : Nat) : Int),((r + 1 : Nat) : Int)) ≠ zh b (((c + 1 : Nat) : Int),((r + 1 : Nat) : Int)) then [⟨((c + 1 : Nat) : Int),((r + 1 : Nat) : Int),zh b (((c + 1 : Nat) : Int),((r + 1 : Nat) : Int))⟩] else []):=by
    rw [hn]
    unfold zD5
    rw [zOl,zM2]
    by_cases e : zh a (((c + 1 : Nat) : Int),((r + 1 : Nat) : Int)) ≠ zh b (((c + 1 : Nat) : Int),((r + 1 : Nat) : Int))
    ·rw [zMg e]; simp only [zOe,zM8 e,zND,List.filter_nil,zMp,zMw]
    ·rw [zMe e]; simp only [zOe,zNI e,List.filter_nil,zMw]; rfl
   have h1:=fun H=>hta ((c + 1 : Nat) : Int) ((r + 1 : Nat) : Int) H
   have h2:=fun H=>htb ((c + 1 : Nat) : Int) ((r + 1 : Nat) : Int) H
   generalize zh a (((c + 1 : Nat) : Int),((r + 1 : Nat) : Int)) = ta at *
   generalize zh b (((c + 1 : Nat) : Int),((r + 1 : Nat) : Int)) = tb at *
   by_cases e : ta = tb
   ·have ex : (!(ta == tb)) = false:=by rw [e]; simp
    rw [zMe (by simp [e]),zNS] at hdn
    refine zP (tT) ?_; refine zS (v:=[zJ (c + 1),zJ (r + 1)]) rfl ?_; refine zF (v:=zr ((c + 1 : Nat) : Int) ((r + 1 : Nat) : Int)) (AV.cells (zr ((c + 1 : Nat) : Int) ((r + 1 : Nat) : Int))) zD rfl rfl rfl rfl ?_; refine zB (zr ((c + 1 : Nat) : Int) ((r + 1 : Nat) : Int)) (zE zD) rfl ?_; refine zI (h1 _) ?_; refine zB (zr ((c + 1 : Nat) : Int) ((r + 1 : Nat) : Int)) (zE zD) rfl ?_; refine zI (h2 _) ?_
    refine zO ex ?_; refine zM (r:=c + 1 + 1) rfl tO ?_; refine zAA (c + 1,out2) rfl ⟨(hO2.push _).set hO2.1 _,by simp only; omega, ?_⟩ (by simp only; omega)
    simp only
    rw [hdn]
    exact ho2.pushSet _ _
   ·have ex : (!(ta == tb)) = true:=by simpa using e
    rw [zMg e] at hdn
    refine zP (tT) ?_; refine zS (v:=[zJ (c + 1),zJ (r + 1)]) rfl ?_; refine zF (v:=zr ((c + 1 : Nat) : Int) ((r + 1 : Nat) : Int)) (AV.cells (zr ((c + 1 : Nat) : Int) ((r + 1 : Nat) : Int))) zD rfl rfl rfl rfl ?_; refine zB (zr ((c + 1 : Nat) : Int) ((r + 1 : Nat) : Int)) (zE zD) rfl ?_; refine zI (h1 _) ?_; refine zB (zr ((c + 1 : Nat) : Int) ((r + 1 : Nat) : Int)) (zE zD) rfl ?_; refine zI (h2 _) ?_
    refine zP ex ?_; refine zB (zr ((c + 1 : Nat) : Int) ((r + 1 : Nat) : Int)) (zE zD) rfl ?_; refine zS (v:=[zK ↑(c + 1),zK ↑(r + 1),AV.str tb]) rfl ?_; refine zAD rfl rfl ?_; refine zAV (H0:=H) (ys:=[zb ⟨((c + 1 : Nat) : Int),((r + 1 : Nat) : Int),tb⟩]) ((ho2.pushSet _ _).push _) (((hO2.push _).set hO2.1 _).push _) zAB (by decide) (by simp only [zNs]; omega) (by simp) (fun v' H' ho' hO' _ hfr=>?_)
    refine zM (r:=c + 1 + 1) rfl tO ?_; refine zAA (c + 1,v') rfl ⟨hO',by simp only; omega, ?_⟩ (by simp only; omega)
    have e2 : [zb ⟨((c + 1 : Nat) : Int),((r + 1 : Nat) : Int),tb⟩] = [(⟨((c + 1 : Nat) : Int),((r + 1 : Nat) : Int),tb⟩ : Fil)].map zb:=rfl
    rw [e2,← List.map_append,← hdn] at ho'
    exact ho'
  ·have hc6 : c = 26:=by omega
   subst hc6
   rw [gridTo_row] at ho2
   refine zO (tF) ?_; refine zM (r:=r + 1 + 1) rfl tO ?_; refine zAA (r + 1,out2) rfl ⟨hO2,by simp only; omega,ho2⟩ (by simp only; omega)
 ·have h99 : r = 99:=by omega
  subst h99
  obtain ⟨H2,hf,hO2,_⟩:=ho.frz hO
  refine zO (tF) ?_
  exact zKj rfl rfl hf (zLG _ _ _) hO2
end
end Go.AM
set_option maxRecDepth 100000
namespace Go.Proofs.YthllabjbdobpgaaGreatDoor
open Go.AM
open Go.AM Go.RowKit
section
variable {GT : Nat → Option AV}
theorem g_compact (b : Nat) (xs : List (Int × Int)) (H : Heap) (hb : H[b]? = some (.row 2 (xs.map cV))) (hne : xs ≠ []) (hl : xs.length ≤ 1000) : Go.AM.Good Tryz.prog GT zo [.sl (some true) b 2 0 xs.length] H (.sl (some true) b 2 0 (zj xs).length) (H.set b (.row 2 ((padL xs).map cV))):=
 zN mixed zBC (compact_ev b xs H hb hne hl)
theorem g_compact0 (H : Heap) : Go.AM.Good Tryz.prog GT zo [.lst (some true) 0 []] H (.lst (some true) 0 []) H:=
 zN mixed zBC (compact0_ev H)
end
theorem fl_filsq {x : AV} (h : Fits (.sl true shFil) x) : ∃ l : List Fil,∃ q,x = .lst (some q) 3 (l.map zb) ∧ (q = true → l = []):=by
 obtain ⟨q,xs,e,hq,_⟩:=fl_sl h
 obtain ⟨l,q',e',_⟩:=fl_fils h
 rw [e] at e'
 simp only [AV.lst.injEq,zMc] at e'
 obtain ⟨rfl,_,rfl⟩:=e'
 exact ⟨l,q,e,fun h=>zOR.1 (hq h)⟩
section
variable {m : Int} {ev : Value} (hev : ∃ te pe,ev = .iface te pe)
theorem g_sheets (v w : AV) (l : List Fil) (H : Heap) (hv : view H 3 v = some (l.map zb)) (hw : view H 3 w = some (l.map zb)) (hl : l.length ≤ 1000000) : GQ m ev zC6 [v,w] H (.bool true) H:=
 zN mixed zKw (ssheets_ev v w l H hv hw hl)
include hev in
theorem mergC : MergC (GQ m ev) where
 check v vs ls H hv hl hll hvs:=zN mixed k_merge_check (mcheck_ev (fun lv l H hv=>g_check hev lv l H hv) v vs ls H hv hl hll hvs)
 texts lv l H hv hs hl:=zN mixed k_merge_texts (texts_ev lv l H hv hs hl)
 cells v vs ls H hv hl hll hle hvs:=zN mixed k_merge_cells (cells_ev (fun b xs H hb hne hl=>good_sort b xs H hb hne hl) (fun H=>good_sort0 H) (fun H=>g_compact0 H) (fun b xs H hb hne hl=>g_compact b xs H hb hne hl) v vs ls H hv hl hll hle hvs)
theorem g_rtxt (lv : AV) (l : List Fil) (c r : Int) (H : Heap) (hlv : zAs lv 3 (l.map zb)) (hs : Srtd l) (hl : l.length ≤ 1000) : GQ m ev zCx [lv,zr c r] H (.str (zh l (c,r))) H:=
 zN mixed k_sccref3_Text (rtxt_ev lv l H hlv hs hl c r)
theorem g_rdiff (av bv : AV) (a b : List Fil) (H : Heap) (hav : zAs av 3 (a.map zb)) (hbv : zAs bv 3 (b.map zb)) (ha : Goods a) (hb : Goods b) : GQ m ev zCv [av,bv] H (zFi 3 ((zBA a b).map zb)) H:=by
 rw [← diff_grid ha hb]
 exact zN mixed k_sccref3_Diff (rdiff_ev g_rtxt av bv a b hav hbv ha.srt hb.srt (by have:=ha.len; omega) (by have:=hb.len; omega) H)
theorem g_rwith (lv : AV) (l : List Fil) (c r : Int) (t : Bs) (H : Heap) (hlv : zAs lv 3 (l.map zb)) (hl : l.length ≤ 3000) (hs : Srtd l) : GQ m ev zCG [lv,zr c r,.str t] H (zFi 3 ((zDn l c r t).map zb)) H:=
 zN mixed k_sccref2_With (rwith_ev (q_ahead refK2) lv l hl hs c r t H (hlv.view H)) (hn:=by obtain ⟨q,k,rfl,_⟩:=hlv; rfl)
include hev in
theorem g_made (v w : AV) (l : List Fil) (n : Nat) (H : Heap) (hv : view H 3 v = some (l.map zb)) (hw : view H 3 w = some (l.map zb)) (hl : l.length ≤ 1000000) : GQ m ev zCF [v,eV n,w,zJ n] H (.bool true) H:=
 zN mixed k_scclaw3_made (made_ev (fun n H=>g_errN n H) g_sheets v w l n H hv hw hl) (hn:=by unfold eV; by_cases h : n = 0 <;> simp only [h,zND,zNB] <;> exact Go.AM.zHk (by assumption))
end
end Go.Proofs.YthllabjbdobpgaaGreatDoor
set_option maxRecDepth 20000
namespace Go.AM
theorem withS_len1 (l : List Fil) (c r : Int) (t : Bs) : (zDn l c r t).length ≤ l.length + 1:=by
 have h : ∀ l : List Fil,(l.filter (aheadC c r)).length + (l.filter (zCB c r)).length ≤ l.length:=fun l=>by
  induction l with
  | nil=>simp
  | cons f l ih=>
   simp only [zOe,zMi]
   by_cases h1 : aheadC c r f = true
   ·have h2 : zCB c r f = false:=by
     unfold aheadC at h1
     unfold zCB
     simp only [zMr] at h1
     exact tF
    rw [zMg h1,h2,zMe (by simp),zMi]
    omega
   ·rw [zMe h1]
    split <;> (try simp only [zMi]) <;> omega
 have:=h l
 unfold zDn
 simp only [zMn]
 split <;> simp <;> omega
theorem foldW_len : ∀ (d l : List Fil),(zDo l d).length ≤ l.length + d.length
 | [],l=>by simp [zDo]
 | g :: d,l=>by
  have h1:=foldW_len d (zDn l g.col g.row g.text)
  have h2:=withS_len1 l g.col g.row g.text
  have : zDo l (g :: d) = zDo (zDn l g.col g.row g.text) d:=rfl
  rw [this,zMi]
  omega
def outV (wv : AV) (w ds : List Fil) : AV:=if ds = [] then wv else zFi 3 ((zDo w ds).map zb)
theorem outV_of {wv : AV} {w : List Fil} (h : zAs wv 3 (w.map zb)) (ds : List Fil) : zAs (outV wv w ds) 3 ((zDo w ds).map zb):=by
 unfold outV
 by_cases e : ds = []
 ·rw [zMg e,e]; exact h
 ·rw [zMe e]; exact zIT _ _
theorem outV_snoc (wv : AV) (w ds : List Fil) (f : Fil) : zFi 3 ((zDn (zDo w ds) f.col f.row f.text).map zb) = outV wv w (ds ++ [f]):=by
 unfold outV
 rw [zMe (by simp),foldW_snoc]
theorem bothS_len (x y : List Fil) : (zJf x y).length ≤ x.length * y.length:=by
 unfold zJf
 induction x with
 | nil=>simp
 | cons f x ih=>
  rw [zPF,zMn,zMl,zMi,Nat.succ_mul]
  have:=zN0 (fun g=>decide (zAj f = zAj g ∧ f.text ≠ g.text)) y
  omega
theorem bothS_take (x y : List Fil) (i : Nat) (f : Fil) (h : x[i]? = some f) : zJf (x.take (i + 1)) y = zJf (x.take i) y ++ (y.filter fun g=>decide (zAj f = zAj g ∧ f.text ≠ g.text)).map fun _=>zAj f:=by
 unfold zJf
 rw [zNi,h,zPT]
 simp
def zKL (wv : AV) (w x y : List Fil) : AV:=if 200 < (zDo w (y ++ x)).length then .tup [.lst (some true) 0 [],.lst (some true) 0 [],zJ 4] else .tup [outV wv w (y ++ x),zFi 2 ((zJf x y).map cV),zJ 0]
section
variable {C : CSpec} {GT : Nat → Option AV}
set_option maxHeartbeats 8000000 in
theorem rthree_ev (hD : ∀ (av bv : AV) (a b : List Fil) H,zAs av 3 (a.map zb) → zAs bv 3 (b.map zb) → Goods a → Goods b → C zCv [av,bv] H (zFi 3 ((zBA a b).map zb)) H)
  (hW : ∀ (lv : AV) (l : List Fil) c r t H,zAs lv 3 (l.map zb) → l.length ≤ 3000 → Srtd l → C zCG [lv,zr c r,.str t] H (zFi 3 ((zDn l c r t).map zb)) H)
  (wv av bv : AV) (w a b : List Fil) (hwv : zAs wv 3 (w.map zb)) (hav : zAs av 3 (a.map zb)) (hbv : zAs bv 3 (b.map zb)) (hw : Goods w) (ha : Goods a) (hb : Goods b) (H : Heap) :
  EFun C GT zHI [wv,av,bv] H (zKL wv w (zBA w a) (zBA w b)) H:=by
 have h1:=hD wv av w a H hwv hav hw ha
 have h2:=hD wv bv w b H hwv hbv hw hb
 have hxl:=diffL_len hw ha
 have hyl:=diffL_len hw hb
 have hwl:=hw.len
 clear hD
 generalize zBA w a = x at *
 generalize zBA w b = y at *
 obtain ⟨xv,hxv⟩ : ∃ v,zFi 3 (x.map zb) = v:=⟨_,rfl⟩
 have hX : zAs xv 3 (x.map zb):=by rw [← hxv]; exact zIT _ _
 obtain ⟨yv,hyv⟩ : ∃ v,zFi 3 (y.map zb) = v:=⟨_,rfl⟩
 have hY : zAs yv 3 (y.map zb):=by rw [← hyv]; exact zIT _ _
 rw [hxv] at h1
 rw [hyv] at h2
 clear hxv hyv
 have hxm : (x.map zb).length = x.length:=zMl _
 have hym : (y.map zb).length = y.length:=zMl _
 have hstep : ∀ (ds : List Fil) (f : Fil) H,ds.length ≤ 1000 → C zCG [outV wv w ds,zr f.col f.row,.str f.text] H (outV wv w (ds ++ [f])) H:=fun ds f H hl=>by
  rw [← outV_snoc]
  have:=foldW_len ds w
  exact hW _ _ _ _ _ H (outV_of hwv ds) tO (zHp ds w hw.srt fun f hf=>(hw.each f hf).2).1
 clear hW
 refine zc ?_; refine zI h1 ?_; refine zI h2 ?_; refine zBB (fun i : Nat=>[(13,zJ i),(10,yv),(11,outV wv w (y.take i)),(9,xv),(12,.lst (some true) 0 [])]) (fun i H'=>H' = H ∧ i ≤ y.length) (fun i=>y.length - i) 0 rfl ⟨rfl,by omega⟩ (fun i H1 hi=>?_)
 obtain ⟨hH,hi⟩:=hi
 subst hH
 dsimp only
 by_cases hlt : i < y.length
 ·obtain ⟨f,hf⟩ : ∃ f,y[i]? = some f:=⟨_,zMf hlt⟩
  have hfm : (y.map zb)[i]? = some (zb f):=by rw [zMq,hf]; rfl
  have hs:=fun H=>hstep (y.take i) f H (by rw [zMy]; omega)
  rw [show y.take i ++ [f] = y.take (i + 1) from by rw [zNi,hf]; rfl] at hs
  refine zA8 y.length hY hym ?_; refine zP tT ?_; refine zCl i (zb f) hY rfl hfm ?_; refine zk (zr f.col f.row) rfl ?_; refine zCl i (zb f) hY rfl hfm ?_; refine zk (AV.str f.text) rfl ?_; refine zI (hs _) ?_; refine zM (r:=i + 1) rfl tO ?_; refine zAA (i + 1) rfl ⟨rfl,by omega⟩ tO
 ·rw [zM7 tO]
  refine zA8 y.length hY hym ?_; refine zO tF ?_; refine zBB (fun z : Nat × AV=>[(14,zJ z.1),(9,xv),(12,z.2),(10,yv),(11,outV wv w (y ++ x.take z.1))]) (fun z H'=>Old H1 H' ∧ z.1 ≤ x.length ∧ Owns H1 H' z.2 2 ((zJf (x.take z.1) y).map cV)) (fun z=>x.length - z.1) (0,.lst (some true) 0 []) (by simp; rfl) ⟨Old.refl H1,by simp,.inl ⟨rfl,by simp [zJf]⟩⟩ (fun z H2 hi2=>?_)
  obtain ⟨i2,bo⟩:=z
  obtain ⟨hO,hi2,ho⟩:=hi2
  dsimp only at hi2 ho ⊢
  by_cases hlt2 : i2 < x.length
  ·obtain ⟨f,hf⟩ : ∃ f,x[i2]? = some f:=⟨_,zMf hlt2⟩
   have hfm : (x.map zb)[i2]? = some (zb f):=by rw [zMq,hf]; rfl
   have hs:=fun H=>hstep (y ++ x.take i2) f H (by rw [zMn,zMy]; omega)
   rw [zNc,show x.take i2 ++ [f] = x.take (i2 + 1) from by rw [zNi,hf]; rfl] at hs
   have hbt:=bothS_take x y i2 f hf
   have hb0 : (zJf (x.take i2) y).length ≤ 160000:=by
    have h7:=bothS_len (x.take i2) y
    rw [zMy] at h7
    have h8 : min i2 x.length * y.length ≤ 400 * 400:=Nat.mul_le_mul tO hyl
    omega
   refine zA8 x.length hX hxm ?_; refine zP tT ?_; refine zCl i2 (zb f) hX rfl hfm ?_; refine zk (zr f.col f.row) rfl ?_; refine zCl i2 (zb f) hX rfl hfm ?_; refine zk (AV.str f.text) rfl ?_; refine zI (hs _) ?_; refine zBB (fun u : Nat × AV=>[(15,zJ u.1),(14,zJ i2),(9,xv),(12,u.2),(10,yv),(11,outV wv w (y ++ x.take (i2 + 1)))]) (fun u H'=>Old H1 H' ∧ u.1 ≤ y.length ∧ Owns H1 H' u.2 2 ((zJf (x.take i2) y ++ ((y.take u.1).filter fun g=>decide (zAj f = zAj g ∧ f.text ≠ g.text)).map fun _=>zAj f).map cV)) (fun u=>y.length - u.1) (0,bo) rfl ⟨hO,by simp,by simpa using ho⟩ (fun u H3 hi3=>?_)
   obtain ⟨k,bo2⟩:=u
   obtain ⟨hO3,hk,ho3⟩:=hi3
   dsimp only at hk ho3 ⊢
   by_cases hlt3 : k < y.length
   ·obtain ⟨g,hg⟩ : ∃ g,y[k]? = some g:=⟨_,zMf hlt3⟩
    have hgm : (y.map zb)[k]? = some (zb g):=by rw [zMq,hg]; rfl
    have hfl : (((y.take k).filter fun g=>decide (zAj f = zAj g ∧ f.text ≠ g.text)).map fun _=>zAj f).length ≤ 400:=by
     rw [zMl]
     have:=zN0 (fun g=>decide (zAj f = zAj g ∧ f.text ≠ g.text)) (y.take k)
     rw [zMy] at this
     omega
    have htk : (y.take (k + 1)).filter (fun g=>decide (zAj f = zAj g ∧ f.text ≠ g.text)) = (y.take k).filter (fun g=>decide (zAj f = zAj g ∧ f.text ≠ g.text)) ++ (if zAj f = zAj g ∧ f.text ≠ g.text then [g] else []):=by
     rw [zNi,hg,zOl]
     by_cases q : zAj f = zAj g ∧ f.text ≠ g.text
     ·rw [zMg q]; simp [q]
     ·rw [zMe q]; simp [q]
    by_cases e1 : zAj f = zAj g
    ·have q1 : f.col = g.col:=zM1 Prod.fst e1
     have q2 : f.row = g.row:=zM1 Prod.snd e1
     have ex : zG6 false (f.col == g.col && (f.row == g.row && true)) = true:=by rw [q1,q2]; simp [zG6]
     by_cases e2 : f.text = g.text
     ·have ex2 : (!(f.text == g.text)) = false:=by rw [e2]; simp
      rw [zMe (fun q=>q.2 e2),zNS] at htk
      refine zA8 y.length hY hym ?_; refine zP tT ?_; refine zCl i2 (zb f) hX rfl hfm ?_; refine zk (zr f.col f.row) rfl ?_; refine zCl k (zb g) hY rfl hgm ?_; refine zk (zr g.col g.row) rfl ?_; refine zS rfl ?_; refine zP ex ?_; refine zCl i2 (zb f) hX rfl hfm ?_; refine zk (AV.str f.text) rfl ?_; refine zCl k (zb g) hY rfl hgm ?_; refine zk (AV.str g.text) rfl ?_; refine zH ?_; refine zO ex2 ?_; refine zM (r:=k + 1) rfl tO ?_
      refine zAA (k + 1,bo2) rfl ⟨hO3,by simp only; omega, ?_⟩ (by simp only; omega)
      simp only
      rw [htk]
      exact ho3
     ·have ex2 : (!(f.text == g.text)) = true:=by simpa using e2
      rw [zMg ⟨e1,e2⟩] at htk
      refine zA8 y.length hY hym ?_; refine zP tT ?_; refine zCl i2 (zb f) hX rfl hfm ?_; refine zk (zr f.col f.row) rfl ?_; refine zCl k (zb g) hY rfl hgm ?_; refine zk (zr g.col g.row) rfl ?_; refine zS rfl ?_; refine zP ex ?_; refine zCl i2 (zb f) hX rfl hfm ?_; refine zk (AV.str f.text) rfl ?_; refine zCl k (zb g) hY rfl hgm ?_; refine zk (AV.str g.text) rfl ?_; refine zH ?_; refine zP ex2 ?_; refine zCl i2 (zb f) hX rfl hfm ?_
      refine zk (zr f.col f.row) rfl ?_; refine zAD rfl rfl ?_; refine zAV (H0:=H1) (ys:=[cV (zAj f)]) (ho3.push _) (hO3.push _) zAB (by decide) (by simp only [zMl,zMn,zNs] at hfl ⊢; omega) (by simp) (fun v' H' ho' hO' _ hfr=>?_)
      refine zM (r:=k + 1) rfl tO ?_; refine zAA (k + 1,v') rfl ⟨hO',by simp only; omega, ?_⟩ (by simp only; omega)
      simp only
      have e5 : ∀ l : List Fil,(l ++ [g]).map (fun _=>zAj f) = l.map (fun _=>zAj f) ++ [zAj f]:=fun l=>zM2
      rw [htk,e5,← List.append_assoc,zM2]
      exact ho'
    ·have ex : zG6 false (f.col == g.col && (f.row == g.row && true)) = false:=by
      cases hx : (f.col == g.col && (f.row == g.row && true)) with
      | false=>rfl
      | true=>simp at hx; exact absurd (zPW hx.1 hx.2) e1
     rw [zMe (fun q=>e1 q.1),zNS] at htk
     refine zA8 y.length hY hym ?_; refine zP tT ?_; refine zCl i2 (zb f) hX rfl hfm ?_; refine zk (zr f.col f.row) rfl ?_; refine zCl k (zb g) hY rfl hgm ?_; refine zk (zr g.col g.row) rfl ?_; refine zS rfl ?_; refine zO ex ?_; refine zG ?_; refine zG ?_; refine zM (r:=k + 1) rfl tO ?_; refine zAA (k + 1,bo2) rfl ⟨hO3,by simp only; omega, ?_⟩ (by simp only; omega)
     simp only
     rw [htk]
     exact ho3
   ·rw [show y.take k = y from zM7 tO,← hbt] at ho3
    refine zA8 y.length hY hym ?_; refine zO tF ?_; refine zM (r:=i2 + 1) rfl tO ?_; refine zAA (i2 + 1,bo2) rfl ⟨hO3,by simp only; omega,ho3⟩ (by simp only; omega)
  ·have he : x.take i2 = x:=zM7 tO
   rw [he] at ho ⊢
   have hol:=outV_of hwv (y ++ x)
   have hom : ((zDo w (y ++ x)).map zb).length = (zDo w (y ++ x)).length:=zMl _
   unfold zKL
   by_cases hbig : 200 < (zDo w (y ++ x)).length
   ·rw [zMg hbig]
    refine zA8 x.length hX hxm ?_; refine zO tF ?_; refine zA8 (zDo w (y ++ x)).length hol hom ?_; refine zP (tT) ?_
    exact zBO rfl rfl rfl rfl hO
   ·rw [zMe hbig]
    obtain ⟨H4,hf4,hO4,_⟩:=ho.frz hO
    refine zA8 x.length hX hxm ?_; refine zO tF ?_; refine zA8 (zDo w (y ++ x)).length hol hom ?_; refine zO tF ?_
    have hfo : ∀ n H,zDR n (outV wv w (y ++ x)) H = some (outV wv w (y ++ x),H):=fun n H=>by
     obtain ⟨q,k,e,_⟩:=hol
     rw [e]; rfl
    have hob : ∀ n,(outV wv w (y ++ x)).bel n = true:=fun n=>by
     obtain ⟨q,k,e,_⟩:=hol
     rw [e]; rfl
    exact zKj rfl rfl (show zDR H1.length (.tup [outV wv w (y ++ x),bo,zJ 0]) H2 = some (.tup [outV wv w (y ++ x),zFi 2 ((zJf x y).map cV),zJ 0],H4) from by simp only [zDR,zIi,hfo,hf4,zJ]) (by simp [AV.bel,AV.belL,zLG,hob,zJ]) hO4
end
end Go.AM
set_option maxRecDepth 20000
namespace Go.AM
def ShV (v : AV) (l : List Fil) : Prop:=∃ q k,v = .lst (some q) k (l.map zb) ∧ (k = 3 ∨ l = []) ∧ (q = true → l = [])
theorem ShV.of {v : AV} {l : List Fil} (h : ShV v l) : zAs v 3 (l.map zb):=by
 obtain ⟨q,k,rfl,h1,_⟩:=h
 exact ⟨_,_,rfl,h1.imp id fun h=>by rw [h]; rfl⟩
theorem ShV.view {v : AV} {l : List Fil} (h : ShV v l) (H : Heap) : view H 3 v = some (l.map zb):=h.of.view H
section
variable {C : CSpec} {GT : Nat → Option AV}
end
end Go.AM
