/- Several texts of mine in one (Mw3, Mg5, Rd1, Gmt, Rd2). Own work. -/
import Derived.Test.YthllabjbdobpgaaGreatDoorGMcpMw2
import Derived.Test.YthllabjbdobpgaaGreatDoorGOpvMev
import Derived.Test.YthllabjbdobpgaaGreatDoorGAm30Fp1
import Derived.Test.YthllabjbdobpgaaGreatDoorGAm23Am29
import Derived.Test.YthllabjbdobpgaaGreatDoorUc
import Derived.Test.YthllabjbdobpgaaGreatDoorGGqBe0
import Derived.Test.YthllabjbdobpgaaGreatDoorGInsDlg
import Derived.Test.YthllabjbdobpgaaGreatDoorGWt2Arf
set_option linter.all false
set_option maxRecDepth 20000
namespace Go.AM
theorem frz_pair2 {n : Nat} {v v' y : AV} {H H' : Heap} (h : zDJ n v H = some (v',H')) (hy : ∀ H,zDJ n y H = some (y,H)) : zDJ n (.tup [v,y]) H = some (.tup [v',y],H'):=by
 simp only [zDJ,zIt,h,hy]
theorem bel_pair (n k : Nat) (xs : List AV) : (AV.tup [zIo k xs,.nili]).bel n = true:=by simp [AV.bel,AV.belL,lstF_bel]
theorem diffK_take (a b : List Fil) (cs : List (Int × Int)) (i : Nat) (p : Int × Int) (h : cs[i]? = some p) : zEv a b (cs.take (i + 1)) = zEv a b (cs.take i) ++ (if zAJ a p ≠ zAJ b p then [⟨p.1,p.2,zAJ b p⟩] else []):=by
 unfold zEv
 rw [zOD,h,zPQ,zNI]
 by_cases e : zAJ a p ≠ zAJ b p
 ·rw [zMt e]; simp [e]
 ·rw [zMq e]; simp [e]
section
variable {C : CSpec} {GT : Nat → Option AV}
structure MergC (C : CSpec) : Prop where
 check : ∀ (v : AV) (vs : List AV) (ls : List (List Fil)) H,view H 1 v = some vs → vs.length = ls.length → ls.length ≤ 1000 → (∀ (i : Nat) (x : AV) (l : List Fil),vs[i]? = some x → ls[i]? = some l → x.cells = [x] ∧ view H 3 x = some (l.map zR)) → C zCv [v] H (eV (zAb ls)) H
 texts : ∀ (lv : AV) (l : List Fil) H,view H 3 lv = some (l.map zR) → Srtd l → l.length ≤ 1000 → C zET [lv] H (.mps (l.map zDa) (l.map txV)) H
 cells : ∀ (v : AV) (vs : List AV) (ls : List (List Fil)) H,view H 1 v = some vs → vs.length = ls.length → ls.length ≤ 3 → (∀ l ∈ ls,l.length ≤ 200) → (∀ (i : Nat) (x : AV) (l : List Fil),vs[i]? = some x → ls[i]? = some l → x.cells = [x] ∧ x.one = true ∧ view H 3 x = some (l.map zR)) → C zGK [v] H (zIo 2 ((zDt ls).map cV)) H
set_option maxHeartbeats 4000000 in
theorem diff_ev (hM : MergC C) (av bv : AV) (a b : List Fil) (hav : zBI av 3 (a.map zR)) (hbv : zBI bv 3 (b.map zR)) (H : Heap) : EFun C GT zKe [av,bv] H (.tup [zLG a b,eV (zAb [a,b])]) H:=by
 have hva:=fun H=>hav.view H
 have hvb:=fun H=>hbv.view H
 have fra : ∀ H,zIt 0 [av,bv] H = some ([av,bv],H):=fun H=>by
  obtain ⟨q,k,rfl,_⟩:=hav
  obtain ⟨q',k',rfl,_⟩:=hbv
  rfl
 have hel : [av,bv].all (fun v=>v.elem 1) = true:=by
  obtain ⟨q,k,rfl,_⟩:=hav
  obtain ⟨q',k',rfl,_⟩:=hbv
  rfl
 have h2 : ∀ H,∀ (i : Nat) (x : AV) (l : List Fil),[av,bv][i]? = some x → [a,b][i]? = some l → x.cells = [x] ∧ x.one = true ∧ view H 3 x = some (l.map zR):=fun H i x l hx hl=>by
  match i,hx,hl with
  | 0,hx,hl=>cases hx; cases hl; exact ⟨hav.cells,(view_one (hva H)).2,hva H⟩
  | 1,hx,hl=>cases hx; cases hl; exact ⟨hbv.cells,(view_one (hvb H)).2,hvb H⟩
  | i + 2,hx,_=>simp at hx
 have hck:=hM.check (.sl (some false) H.length 1 0 [av,bv].length) [av,bv] [a,b] (H ++ [.row 1 [av,bv]]) zAM rfl (by simp) (fun i x l hx hl=>⟨(h2 (H ++ [.row 1 [av,bv]]) i x l hx hl).1,(h2 (H ++ [.row 1 [av,bv]]) i x l hx hl).2.2⟩)
 by_cases c0 : zAb [a,b] = 0
 ·have hga:=zIm c0 a (by simp)
  have hgb:=zIm c0 b (by simp)
  have hla:=hga.len
  have hlb:=hgb.len
  have hta:=fun H=>hM.texts av a H (hva H) hga.srt tO
  have htb:=fun H=>hM.texts bv b H (hvb H) hgb.srt tO
  have hce:=hM.cells (.sl (some false) (H ++ [ABlk.row 1 [av,bv]]).length 1 0 [av,bv].length) [av,bv] [a,b] (H ++ [ABlk.row 1 [av,bv]] ++ [.row 1 [av,bv]]) zAM rfl (by simp) (fun l hl=>by simp at hl; rcases hl with rfl | rfl <;> omega) (h2 _)
  have hcl:=cellsS_len [a,b]
  have hcl : (zDt [a,b]).length ≤ 400:=by simp at hcl; omega
  have hdv : zLG a b = zIo 3 ((zEv a b (zDt [a,b])).map zR):=by unfold zLG; rw [zMt c0]; rfl
  rw [c0] at hck ⊢
  rw [hdv]
  have hck : C zCv [.sl (some false) H.length 1 0 [av,bv].length] (H ++ [.row 1 [av,bv]]) .nili (H ++ [.row 1 [av,bv]]):=hck
  clear hM hdv
  generalize zDt [a,b] = cs at *
  have hcm : (cs.map cV).length = cs.length:=zMx _
  obtain ⟨cv,hcv⟩ : ∃ cv,zIo 2 (cs.map cV) = cv:=⟨_,rfl⟩
  have hcvl : zBI cv 2 (cs.map cV):=by rw [← hcv]; exact lstF_of _ _
  rw [hcv] at hce
  clear hcv
  refine za ?_; refine zAF (fra _) hel ?_; refine zI hck ?_; refine zl rfl ?_; refine zF ?_; refine zI (hta _) ?_; refine zI (htb _) ?_; refine zAF (fra _) hel ?_; refine zI hce ?_; refine zAz cs.length hcvl hcm ?_; refine zBM (fun x : Nat × AV=>[(28,zK x.1),(8,.mps (b.map zDa) (b.map txV)),(9,x.2),(7,.mps (a.map zDa) (a.map txV)),(26,cv),(27,zK cs.length)]) (fun x H'=>Old H H' ∧ x.1 ≤ cs.length ∧ Owns H H' x.2 3 ((zEv a b (cs.take x.1)).map zR)) (fun x=>cs.length - x.1) (0,.lst (some true) 0 []) rfl ⟨((Old.refl H).push _).push _,by simp,.inl ⟨rfl,by simp [zEv]⟩⟩ (fun x H1 hi=>?_)
  obtain ⟨i,out⟩:=x
  obtain ⟨hO,hi,ho⟩:=hi
  dsimp only at hi ho ⊢
  by_cases hlt : i < cs.length
  ·obtain ⟨p,hp⟩ : ∃ p,cs[i]? = some p:=⟨_,zMr hlt⟩
   have hpm : (cs.map cV)[i]? = some (cV p):=by rw [zM2,hp]; rfl
   have htk:=diffK_take a b cs i p hp
   have hga2 : ∀ H,mgetV H (.str []) false (.mps (a.map zDa) (a.map txV)) (cV p) = some (.str (zAJ a p)):=fun H=>mgetV_text rfl p.1 p.2
   have hgb2 : ∀ H,mgetV H (.str []) false (.mps (b.map zDa) (b.map txV)) (cV p) = some (.str (zAJ b p)):=fun H=>mgetV_text rfl p.1 p.2
   have hdl : (zEv a b (cs.take i)).length ≤ 400:=by
    unfold zEv
    rw [zMx]
    have:=zOP (fun p=>decide (zAJ a p ≠ zAJ b p)) (cs.take i)
    rw [zM8] at this; omega
   generalize zAJ a p = ta at *
   generalize zAJ b p = tb at *
   by_cases e : ta = tb
   ·rw [zMq (by simp [e]),zN6] at htk
    have ex : (!(ta == tb)) = false:=by rw [e]; simp
    refine zc tT ?_; refine zBP i _ hcvl rfl hpm ?_; refine zi (cV p) rfl ?_; refine zH (v:=cV p) (AV.cells (cV p)) zB rfl rfl rfl rfl ?_; refine zC (cV p) (zE zB) rfl ?_; refine sMget (hga2 _) ?_; refine zC (cV p) (zE zB) rfl ?_; refine sMget (hgb2 _) ?_; refine zW ex ?_; refine zN (r:=i + 1) rfl tO ?_; refine zAC (i + 1,out) rfl ⟨(hO.push _).set hO.1 _,by simp only; omega, ?_⟩ (by simp only; omega)
    simp only
    rw [htk]
    exact ho.pushSet _ _
   ·rw [zMt e] at htk
    have ex : (!(ta == tb)) = true:=by simpa using e
    refine zc tT ?_; refine zBP i _ hcvl rfl hpm ?_; refine zi (cV p) rfl ?_; refine zH (v:=cV p) (AV.cells (cV p)) zB rfl rfl rfl rfl ?_; refine zC (cV p) (zE zB) rfl ?_; refine sMget (hga2 _) ?_; refine zC (cV p) (zE zB) rfl ?_; refine sMget (hgb2 _) ?_; refine zc ex ?_; refine zC (cV p) (zE zB) rfl ?_; refine zC (cV p) (zE zB) rfl ?_; refine sMget (hgb2 _) ?_; refine zl (v:=[zJ p.fst,zJ p.snd,AV.str tb]) rfl ?_
    refine zAF rfl rfl ?_; refine zAq (H0:=H) (ys:=[zR ⟨p.1,p.2,tb⟩]) ((ho.pushSet _ _).push _) (((hO.push _).set hO.1 _).push _) zAM (by decide) (by simp only [zMx,zO6]; omega) (by simp) (fun v' H' ho' hO' _ hfr=>?_)
    refine zN (r:=i + 1) rfl tO ?_; refine zAC (i + 1,v') rfl ⟨hO',by simp only; omega, ?_⟩ (by simp only; omega)
    have e2 : [zR ⟨p.1,p.2,tb⟩] = [(⟨p.1,p.2,tb⟩ : Fil)].map zR:=rfl
    rw [e2,← List.map_append,← htk] at ho'
    exact ho'
  ·have he : cs.take i = cs:=zNK tO
   rw [he] at ho
   obtain ⟨H2,hf,hO2,_⟩:=ho.frz hO
   refine zW tF ?_
   exact zIX rfl rfl (frz_pair2 hf fun _=>rfl) (bel_pair _ _ _) hO2
 ·have hdv : zLG a b = .lst (some true) 0 []:=zMq c0
  have he : eV (zAb [a,b]) = zEJ (zAb [a,b] : Nat):=by unfold eV; rw [zMq c0]
  rw [hdv,he]
  rw [he] at hck
  generalize zAb [a,b] = n at *
  clear hM
  refine za ?_; refine zAF (fra _) hel ?_; refine zI hck ?_; refine zl rfl ?_; refine zG ?_
  exact zBN rfl rfl rfl rfl ((Old.refl _).push _)
end
end Go.AM
namespace Go.AM
def zDx (r c : Nat) : List (Int × Int):=((List.range r).flatMap fun (i : Nat)=>(List.range 26).map fun (k : Nat)=>((((k + 1 : Nat) : Int),((i + 1 : Nat) : Int)) : Int × Int)) ++ (List.range c).map fun (k : Nat)=>((((k + 1 : Nat) : Int),((r + 1 : Nat) : Int)) : Int × Int)
theorem gridTo_next (r c : Nat) : zDx r (c + 1) = zDx r c ++ [(((c + 1 : Nat) : Int),((r + 1 : Nat) : Int))]:=by
 unfold zDx
 rw [show List.range (c + 1) = List.range c ++ [c] from List.range_succ,zNI,zNm]
 rfl
theorem gridTo_row (r : Nat) : zDx r 26 = zDx (r + 1) 0:=by
 unfold zDx
 conv=>rhs; rw [show List.range (r + 1) = List.range r ++ [r] from List.range_succ,zPm]
 rw [List.flatMap_singleton,List.range_zero,zNC,zN6]
theorem gridTo_len (r c : Nat) : (zDx r c).length = 26 * r + c:=by
 unfold zDx
 rw [zM3,zMx,zOZ,zPn]
 have : ((List.range r).map fun (i : Nat)=>((List.range 26).map fun (k : Nat)=>((((k + 1 : Nat) : Int),((i + 1 : Nat) : Int)) : Int × Int)).length).sum = 26 * r:=by
  simp only [zMx,zOZ]
  induction r with
  | zero=>rfl
  | succ r ih=>rw [show List.range (r + 1) = List.range r ++ [r] from List.range_succ,zNI,List.sum_append,ih]; simp; omega
 omega
def gridK : List (Int × Int):=zDx 99 0
theorem gridK_mem (p : Int × Int) : p ∈ gridK ↔ okC p.1 p.2 = true:=by
 unfold gridK zDx okC
 simp only [List.range_zero,zNC,zN6,zPE,zPR,zNh,zMs,zMz]
 constructor
 ·rintro ⟨i,hi,k,hk,rfl⟩
  simp only
  omega
 ·intro h
  refine ⟨(p.2 - 1).toNat,by omega,(p.1 - 1).toNat,by omega,Prod.ext ?_ ?_⟩
  ·simp only; omega
  ·simp only; omega
theorem gridK_asc : Asc gridK:=by
 unfold gridK zDx Asc
 simp only [List.range_zero,zNC,zN6]
 rw [List.pairwise_flatMap]
 refine ⟨fun i _=>?_, ?_⟩
 ·rw [List.pairwise_map]
  refine List.pairwise_lt_range.imp fun {a b} h=>?_
  exact .inr ⟨rfl,by simp only; omega⟩
 ·refine List.pairwise_lt_range.imp fun {a b} h=>?_
  intro x hx y hy
  obtain ⟨k,_,rfl⟩:=zNh.1 hx
  obtain ⟨k',_,rfl⟩:=zNh.1 hy
  exact .inl (by simp only; omega)
theorem diffK_more {a b : List Fil} {cs ds : List (Int × Int)} (hc : Asc cs) (hd : Asc ds) (h1 : ∀ p,zAJ a p ≠ zAJ b p → p ∈ cs) (h2 : ∀ p,zAJ a p ≠ zAJ b p → p ∈ ds) : zEv a b cs = zEv a b ds:=by
 unfold zEv
 congr 1
 refine asc_ext (hc.filter _) (hd.filter _) fun p=>?_
 simp only [zNx,zMz]
 exact ⟨fun h=>⟨h2 p h.2,h.2⟩,fun h=>⟨h1 p h.2,h.2⟩⟩
theorem keys_ok {l : List Fil} (h : Goods l) {p : Int × Int} (hp : p ∈ l.map zDa) : okC p.1 p.2 = true:=by
 obtain ⟨f,hf,rfl⟩:=zNh.1 hp
 have h1:=(h.each f hf).1
 unfold mayN at h1
 show okC f.col f.row = true
 cases hc : okC f.col f.row with
 | true=>rfl
 | false=>rw [hc] at h1; cases h1
theorem diff_grid {a b : List Fil} (ha : Goods a) (hb : Goods b) : zEv a b gridK = zKT a b:=by
 refine diffK_more gridK_asc (zMl _).1 (fun p h=>?_) (fun p h=>zPM fun k=>h ?_)
 ·rw [gridK_mem]
  by_cases hm : p ∈ a.map zDa
  ·exact keys_ok ha hm
  ·refine keys_ok hb (textAt_some fun e=>h ?_)
   rw [zEu hm,e]
 ·rw [out_cells (zMl [a,b]) k (l:=a) (by simp),out_cells (zMl [a,b]) k (l:=b) (by simp)]
end Go.AM
set_option maxRecDepth 20000
namespace Go.AM
section
variable {C : CSpec} {GT : Nat → Option AV}
theorem rtxt_ev (lv : AV) (l : List Fil) (H : Heap) (hlv : zBI lv 3 (l.map zR)) (hs : Srtd l) (hl : l.length ≤ 1000) (c r : Int) : EFun C GT zIH [lv,zn c r] H (.str (zAJ l (c,r))) H:=by
 have hlm : (l.map zR).length = l.length:=zMx _
 refine za ?_; refine zDw (x:=zn c r) rfl ?_
 have hb0 : (H ++ [ABlk.box (zn c r).cells])[H.length]? = some (.box (zn c r).cells):=zB
 have hO : Old H (H ++ [ABlk.box (zn c r).cells]):=(Old.refl H).push _
 generalize H ++ [ABlk.box (zn c r).cells] = H1 at *
 refine zBM (fun i : Nat=>[(5,zK i),(0,lv),(3,.ref H.length 0 0 0)]) (fun i H'=>H' = H1 ∧ i ≤ l.length ∧ ∀ f ∈ l.take i,zDa f ≠ (c,r)) (fun i=>l.length - i) 0 rfl ⟨rfl,by omega,by simp⟩ (fun i H2 hi=>?_)
 obtain ⟨hH,hi,hno⟩:=hi
 subst hH
 dsimp only
 by_cases hlt : i < l.length
 ·obtain ⟨f,hf⟩ : ∃ f,l[i]? = some f:=⟨_,zMr hlt⟩
  have hfm : (l.map zR)[i]? = some (zR f):=by rw [zM2,hf]; rfl
  by_cases e : zDa f = (c,r)
  ·have ht:=zKR hs (zNG hf)
   rw [e] at ht
   have e1 : f.col = c:=zNF Prod.fst e
   have e2 : f.row = r:=zNF Prod.snd e
   have ex : zIW false (f.col == c && (f.row == r && true)) = true:=by rw [e1,e2]; simp [zIW]
   rw [ht]
   refine zAz l.length hlv hlm ?_; refine zc tT ?_; refine zBP i (zR f) hlv rfl hfm ?_; refine zi (zn f.col f.row) rfl ?_; refine zC (zn c r) hb0 rfl ?_; refine zl rfl ?_; refine zc ex ?_; refine zBP i (zR f) hlv rfl hfm ?_; refine zi (AV.str f.text) rfl ?_
   exact zBN rfl rfl rfl rfl hO
  ·have ex : zIW false (f.col == c && (f.row == r && true)) = false:=by
    cases hx : (f.col == c && (f.row == r && true)) with
    | false=>rfl
    | true=>simp at hx; exact absurd (Prod.ext hx.1 hx.2) e
   refine zAz l.length hlv hlm ?_; refine zc tT ?_; refine zBP i (zR f) hlv rfl hfm ?_; refine zi (zn f.col f.row) rfl ?_; refine zC (zn c r) hb0 rfl ?_; refine zl rfl ?_; refine zW ex ?_; refine zN (r:=i + 1) rfl tO ?_; refine zAC (i + 1) rfl ⟨rfl,by omega,fun g hg=>?_⟩ tO
   rw [zOD,hf,zN4] at hg
   rcases hg with hg | hg
   ·exact hno g hg
   ·simp at hg; rw [hg]; exact e
 ·have he : l.take i = l:=zNK tO
  rw [he] at hno
  rw [zEu fun k=>by obtain ⟨f,hf,e⟩:=zNh.1 k; exact hno f hf e]
  refine zAz l.length hlv hlm ?_; refine zW tF ?_
  exact zBN rfl rfl rfl rfl hO
set_option maxHeartbeats 4000000 in
theorem rdiff_ev (hT : ∀ (lv : AV) (l : List Fil) (c r : Int) H,zBI lv 3 (l.map zR) → Srtd l → l.length ≤ 1000 → C zC5 [lv,zn c r] H (.str (zAJ l (c,r))) H) (av bv : AV) (a b : List Fil) (hav : zBI av 3 (a.map zR)) (hbv : zBI bv 3 (b.map zR)) (ha : Srtd a) (hb : Srtd b) (hal : a.length ≤ 1000) (hbl : b.length ≤ 1000) (H : Heap) :
  EFun C GT zIF [av,bv] H (zIo 3 ((zEv a b gridK).map zR)) H:=by
 have hta:=fun c r H=>hT av a c r H hav ha hal
 have htb:=fun c r H=>hT bv b c r H hbv hb hbl
 clear hT
 refine za ?_; refine zBM (fun x : Nat × AV=>[(5,x.2),(1,bv),(0,av),(6,zK (x.1 + 1))]) (fun x H'=>Old H H' ∧ x.1 ≤ 99 ∧ Owns H H' x.2 3 ((zEv a b (zDx x.1 0)).map zR)) (fun x=>99 - x.1) (0,.lst (some true) 0 []) rfl ⟨Old.refl H,by simp,.inl ⟨rfl,by simp [zEv,zDx]⟩⟩ (fun x H1 hi=>?_)
 obtain ⟨r,out⟩:=x
 obtain ⟨hO,hr,ho⟩:=hi
 dsimp only at hr ho ⊢
 by_cases hlt : r < 99
 ·refine zc (tT) ?_; refine zBM (fun y : Nat × AV=>[(7,zK (y.1 + 1)),(5,y.2),(1,bv),(0,av),(6,zK (r + 1))]) (fun y H'=>Old H H' ∧ y.1 ≤ 26 ∧ Owns H H' y.2 3 ((zEv a b (zDx r y.1)).map zR)) (fun y=>26 - y.1) (0,out) rfl ⟨hO,by simp,ho⟩ (fun y H2 hi2=>?_)
  obtain ⟨c,out2⟩:=y
  obtain ⟨hO2,hc,ho2⟩:=hi2
  dsimp only at hc ho2 ⊢
  by_cases hlt2 : c < 26
  ·have hn:=gridTo_next r c
   have hgl:=gridTo_len r c
   have hdl : ((zEv a b (zDx r c)).map zR).length ≤ 2600:=by
    unfold zEv
    rw [zMx,zMx]
    have:=zOP (fun p=>decide (zAJ a p ≠ zAJ b p)) (zDx r c)
    omega
   have hdn : zEv a b (zDx r (c + 1)) = zEv a b (zDx r c) ++ (if zAJ a (((c + 1 : Nat) : Int),((r + 1 : Nat) : Int)) ≠ zAJ b (((c + 1 : Nat) : Int),((r + 1 : Nat) : Int)) then [⟨((c + 1 : Nat) : Int),((r + 1 : Nat) : Int),zAJ b (((c + 1 : Nat) : Int),((r + 1 : Nat) : Int))⟩] else []):=by
    rw [hn]
    unfold zEv
    rw [zPQ,zNI]
    by_cases e : zAJ a (((c + 1 : Nat) : Int),((r + 1 : Nat) : Int)) ≠ zAJ b (((c + 1 : Nat) : Int),((r + 1 : Nat) : Int))
    ·rw [zMt e]; simp only [zPY,zNM e,zNP,List.filter_nil,zM4,zNC]
    ·rw [zMq e]; simp only [zPY,zNV e,List.filter_nil,zNC]; rfl
   have h1:=fun H=>hta ((c + 1 : Nat) : Int) ((r + 1 : Nat) : Int) H
   have h2:=fun H=>htb ((c + 1 : Nat) : Int) ((r + 1 : Nat) : Int) H
   generalize zAJ a (((c + 1 : Nat) : Int),((r + 1 : Nat) : Int)) = ta at *
   generalize zAJ b (((c + 1 : Nat) : Int),((r + 1 : Nat) : Int)) = tb at *
   by_cases e : ta = tb
   ·have ex : (!(ta == tb)) = false:=by rw [e]; simp
    rw [zMq (by simp [e]),zN6] at hdn
    refine zc (tT) ?_; refine zl (v:=[zK (c + 1),zK (r + 1)]) rfl ?_; refine zH (v:=zn ((c + 1 : Nat) : Int) ((r + 1 : Nat) : Int)) (AV.cells (zn ((c + 1 : Nat) : Int) ((r + 1 : Nat) : Int))) zB rfl rfl rfl rfl ?_; refine zC (zn ((c + 1 : Nat) : Int) ((r + 1 : Nat) : Int)) (zE zB) rfl ?_; refine zI (h1 _) ?_; refine zC (zn ((c + 1 : Nat) : Int) ((r + 1 : Nat) : Int)) (zE zB) rfl ?_; refine zI (h2 _) ?_
    refine zW ex ?_; refine zN (r:=c + 1 + 1) rfl tO ?_; refine zAC (c + 1,out2) rfl ⟨(hO2.push _).set hO2.1 _,by simp only; omega, ?_⟩ (by simp only; omega)
    simp only
    rw [hdn]
    exact ho2.pushSet _ _
   ·have ex : (!(ta == tb)) = true:=by simpa using e
    rw [zMt e] at hdn
    refine zc (tT) ?_; refine zl (v:=[zK (c + 1),zK (r + 1)]) rfl ?_; refine zH (v:=zn ((c + 1 : Nat) : Int) ((r + 1 : Nat) : Int)) (AV.cells (zn ((c + 1 : Nat) : Int) ((r + 1 : Nat) : Int))) zB rfl rfl rfl rfl ?_; refine zC (zn ((c + 1 : Nat) : Int) ((r + 1 : Nat) : Int)) (zE zB) rfl ?_; refine zI (h1 _) ?_; refine zC (zn ((c + 1 : Nat) : Int) ((r + 1 : Nat) : Int)) (zE zB) rfl ?_; refine zI (h2 _) ?_
    refine zc ex ?_; refine zC (zn ((c + 1 : Nat) : Int) ((r + 1 : Nat) : Int)) (zE zB) rfl ?_; refine zl (v:=[zJ ↑(c + 1),zJ ↑(r + 1),AV.str tb]) rfl ?_; refine zAF rfl rfl ?_; refine zAq (H0:=H) (ys:=[zR ⟨((c + 1 : Nat) : Int),((r + 1 : Nat) : Int),tb⟩]) ((ho2.pushSet _ _).push _) (((hO2.push _).set hO2.1 _).push _) zAM (by decide) (by simp only [zO6]; omega) (by simp) (fun v' H' ho' hO' _ hfr=>?_)
    refine zN (r:=c + 1 + 1) rfl tO ?_; refine zAC (c + 1,v') rfl ⟨hO',by simp only; omega, ?_⟩ (by simp only; omega)
    have e2 : [zR ⟨((c + 1 : Nat) : Int),((r + 1 : Nat) : Int),tb⟩] = [(⟨((c + 1 : Nat) : Int),((r + 1 : Nat) : Int),tb⟩ : Fil)].map zR:=rfl
    rw [e2,← List.map_append,← hdn] at ho'
    exact ho'
  ·have hc6 : c = 26:=by omega
   subst hc6
   rw [gridTo_row] at ho2
   refine zW (tF) ?_; refine zN (r:=r + 1 + 1) rfl tO ?_; refine zAC (r + 1,out2) rfl ⟨hO2,by simp only; omega,ho2⟩ (by simp only; omega)
 ·have h99 : r = 99:=by omega
  subst h99
  obtain ⟨H2,hf,hO2,_⟩:=ho.frz hO
  refine zW (tF) ?_
  exact zIX rfl rfl hf (lstF_bel _ _ _) hO2
end
end Go.AM
set_option maxRecDepth 100000
namespace Go.Proofs.YthllabjbdobpgaaGreatDoor
open Go.AM
open Go.AM Go.RowKit
section
variable {GT : Nat → Option AV}
theorem g_compact (b : Nat) (xs : List (Int × Int)) (H : Heap) (hb : H[b]? = some (.row 2 (xs.map cV))) (hne : xs ≠ []) (hl : xs.length ≤ 1000) : Go.AM.Good Tryz.prog GT zq [.sl (some true) b 2 0 xs.length] H (.sl (some true) b 2 0 (zk xs).length) (H.set b (.row 2 ((padL xs).map cV))):=
 zM mixed zBQ (compact_ev b xs H hb hne hl)
theorem g_compact0 (H : Heap) : Go.AM.Good Tryz.prog GT zq [.lst (some true) 0 []] H (.lst (some true) 0 []) H:=
 zM mixed zBQ (compact0_ev H)
end
theorem fl_filsq {x : AV} (h : Fits (.sl true shFil) x) : ∃ l : List Fil,∃ q,x = .lst (some q) 3 (l.map zR) ∧ (q = true → l = []):=by
 obtain ⟨q,xs,e,hq,_⟩:=fl_sl h
 obtain ⟨l,q',e',_⟩:=fl_fils h
 rw [e] at e'
 simp only [AV.lst.injEq,zMp] at e'
 obtain ⟨rfl,_,rfl⟩:=e'
 exact ⟨l,q,e,fun h=>zOa.1 (hq h)⟩
section
variable {m : Int} {ev : Value} (hev : ∃ te pe,ev = .iface te pe)
theorem g_sheets (v w : AV) (l : List Fil) (H : Heap) (hv : view H 3 v = some (l.map zR)) (hw : view H 3 w = some (l.map zR)) (hl : l.length ≤ 1000000) : GQ m ev zDE [v,w] H (.bool true) H:=
 zM mixed zK5 (ssheets_ev v w l H hv hw hl)
theorem g_withc (f : Fil) (c r : Int) (H : Heap) : GQ m ev zBG [zR f,zn c r] H (zJ (zMd f.col f.row c r)) H:=zM mixed zML (withc_ev g_acomp f c r H)
theorem g_bsearch (lv : AV) (l : List Fil) (c r : Int) (H : Heap) (found : Bool) (hl : l.length ≤ 3000) (hs : Srtd l) (hv : view H 3 lv = some (l.map zR)) (hf : found = (match l[zIr l c r]? with | some f=>isC c r f | none=>false)) :
  GQ m ev zo [lv,zn c r,.fn zBG [] []] H (.tup [zK (zIr l c r),.bool found]) H:=
 zM mixed zA9 (bsearch_ev g_withc lv l hl hs c r H hv found hf)
theorem g_kwith (q : Bool) (k : Nat) (l : List Fil) (c r : Int) (t : Bs) (H : Heap) (hk : k = 3 ∨ l = []) (hq : q = true → l = []) (hl : l.length ≤ 3000) (hs : Srtd l) : GQ m ev zFA [.lst (some q) k (l.map zR),zn c r,.str t] H (opV (q && decide (t = [])) (zBj l c r t)) H:=by
 rw [← withV_op q l hq c r t]
 exact zM mixed k_sheet_With (kwith_ev (fun lv l c r H found a b c d=>g_bsearch lv l _ _ H found a b c d) (fun k H=>zMj k H) (fun k l H h1 h2=>good_clone k l H h1 h2) (fun b i l H h1 h2 h3=>good_delete b i l H h1 h2 h3) (fun b b' i l f H h1 h2 h3 h4 h5=>good_insert b b' i l f H h1 h2 h3 h4 h5) (fun b' f H h=>good_insert0 b' f H h) q k l hk hq hl hs c r t H)
include hev in
theorem mergC : MergC (GQ m ev) where
 check v vs ls H hv hl hll hvs:=zM mixed k_merge_check (mcheck_ev (fun lv l H hv=>g_check hev lv l H hv) v vs ls H hv hl hll hvs)
 texts lv l H hv hs hl:=zM mixed k_merge_texts (texts_ev lv l H hv hs hl)
 cells v vs ls H hv hl hll hle hvs:=zM mixed k_merge_cells (cells_ev (fun b xs H hb hne hl=>good_sort b xs H hb hne hl) (fun H=>good_sort0 H) (fun H=>g_compact0 H) (fun b xs H hb hne hl=>g_compact b xs H hb hne hl) v vs ls H hv hl hll hle hvs)
include hev in
theorem g_diff (av bv : AV) (a b : List Fil) (hav : zBI av 3 (a.map zR)) (hbv : zBI bv 3 (b.map zR)) (H : Heap) : GQ m ev zD9 [av,bv] H (.tup [zLG a b,eV (zAb [a,b])]) H:=
 zM mixed k_merge_Diff (diff_ev (mergC hev) av bv a b hav hbv H)
theorem g_rtxt (lv : AV) (l : List Fil) (c r : Int) (H : Heap) (hlv : zBI lv 3 (l.map zR)) (hs : Srtd l) (hl : l.length ≤ 1000) : GQ m ev zC5 [lv,zn c r] H (.str (zAJ l (c,r))) H:=
 zM mixed k_sccref3_Text (rtxt_ev lv l H hlv hs hl c r)
theorem g_rdiff (av bv : AV) (a b : List Fil) (H : Heap) (hav : zBI av 3 (a.map zR)) (hbv : zBI bv 3 (b.map zR)) (ha : Goods a) (hb : Goods b) : GQ m ev zD2 [av,bv] H (zIo 3 ((zKT a b).map zR)) H:=by
 rw [← diff_grid ha hb]
 exact zM mixed k_sccref3_Diff (rdiff_ev g_rtxt av bv a b hav hbv ha.srt hb.srt (by have:=ha.len; omega) (by have:=hb.len; omega) H)
theorem g_rwith (lv : AV) (l : List Fil) (c r : Int) (t : Bs) (H : Heap) (hlv : zBI lv 3 (l.map zR)) (hl : l.length ≤ 3000) (hs : Srtd l) : GQ m ev zC4 [lv,zn c r,.str t] H (zIo 3 ((zBj l c r t).map zR)) H:=
 zM mixed k_sccref2_With (rwith_ev (q_ahead refK2) lv l hl hs c r t H (hlv.view H)) (hn:=by obtain ⟨q,k,rfl,_⟩:=hlv; rfl)
include hev in
theorem g_made (v w : AV) (l : List Fil) (n : Nat) (H : Heap) (hv : view H 3 v = some (l.map zR)) (hw : view H 3 w = some (l.map zR)) (hl : l.length ≤ 1000000) : GQ m ev zBV [v,eV n,w,zK n] H (.bool true) H:=
 zM mixed k_scclaw3_made (made_ev (fun n H=>g_errN n H) g_sheets v w l n H hv hw hl) (hn:=by unfold eV; by_cases h : n = 0 <;> simp only [h,zNP,zNN] <;> exact Go.AM.zHl (by assumption))
end
end Go.Proofs.YthllabjbdobpgaaGreatDoor
set_option maxRecDepth 20000
namespace Go.AM
theorem withS_len1 (l : List Fil) (c r : Int) (t : Bs) : (zBj l c r t).length ≤ l.length + 1:=by
 have h : ∀ l : List Fil,(l.filter (aheadC c r)).length + (l.filter (zAg c r)).length ≤ l.length:=fun l=>by
  induction l with
  | nil=>simp
  | cons f l ih=>
   simp only [zPY,zMu]
   by_cases h1 : aheadC c r f = true
   ·have h2 : zAg c r f = false:=by
     unfold aheadC at h1
     unfold zAg
     simp only [zMz] at h1
     exact tF
    rw [zMt h1,h2,zMq (by simp),zMu]
    omega
   ·rw [zMq h1]
    split <;> (try simp only [zMu]) <;> omega
 have:=h l
 unfold zBj
 simp only [zM3]
 split <;> simp <;> omega
theorem foldW_len : ∀ (d l : List Fil),(zBg l d).length ≤ l.length + d.length
 | [],l=>by simp [zBg]
 | g :: d,l=>by
  have h1:=foldW_len d (zBj l g.col g.row g.text)
  have h2:=withS_len1 l g.col g.row g.text
  have : zBg l (g :: d) = zBg (zBj l g.col g.row g.text) d:=rfl
  rw [this,zMu]
  omega
def outV (wv : AV) (w ds : List Fil) : AV:=if ds = [] then wv else zIo 3 ((zBg w ds).map zR)
theorem outV_of {wv : AV} {w : List Fil} (h : zBI wv 3 (w.map zR)) (ds : List Fil) : zBI (outV wv w ds) 3 ((zBg w ds).map zR):=by
 unfold outV
 by_cases e : ds = []
 ·rw [zMt e,e]; exact h
 ·rw [zMq e]; exact lstF_of _ _
theorem outV_snoc (wv : AV) (w ds : List Fil) (f : Fil) : zIo 3 ((zBj (zBg w ds) f.col f.row f.text).map zR) = outV wv w (ds ++ [f]):=by
 unfold outV
 rw [zMq (by simp),foldW_snoc]
section
variable {C : CSpec} {GT : Nat → Option AV}
end
end Go.AM
