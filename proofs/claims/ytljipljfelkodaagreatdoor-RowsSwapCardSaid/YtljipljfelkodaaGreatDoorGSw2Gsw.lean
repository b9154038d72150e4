/- Several texts of mine in one (Sw2, Owe, Sw3, Gsw). Own work. -/
import Derived.Test.YtljipljfelkodaaGreatDoorGSf0Rt0
import Derived.Test.YtljipljfelkodaaGreatDoorGRt1Rtw
import Derived.Test.YtljipljfelkodaaGreatDoorGAm30Fp1
import Derived.Test.YtljipljfelkodaaGreatDoorGArfMg1
import Derived.Test.YtljipljfelkodaaGreatDoorGGqAm32
set_option linter.all false
set_option maxRecDepth 20000
namespace Go.AM
theorem kidsV_is (n : Nd) : zDB (kidsV n) 12 (n.kids.map ndV):=by
 obtain ⟨k,m,t,r,o,ks⟩:=n
 unfold kidsV
 cases ks with
 | nil=>exact ⟨_,_,rfl,.inr rfl⟩
 | cons x ks=>exact ⟨_,12,by show AV.lst (some false) 12 (kidL (x :: ks)) = _; rw [kidL_map]; rfl,.inl rfl⟩
theorem joinC_ge : ∀ (ts : List Bs),ts.length ≤ (zJn ts).length + 1 ∧ ∀ t ∈ ts,t.length ≤ (zJn ts).length
 | []=>⟨by simp,by simp⟩
 | [t]=>⟨by simp,by simp [zJn]⟩
 | t :: u :: r=>by
  obtain ⟨h1,h2⟩:=joinC_ge (u :: r)
  simp only [zJn,zL1,zLw] at h1 ⊢
  refine ⟨by omega,fun x hx=>?_⟩
  rcases zNP.1 hx with rfl | hx
  ·omega
  ·have:=h2 x hx; omega
section
variable {C : CSpec} {GT : Nat → Option AV}
theorem same_wf (hS : ∀ n,(∀ H,C zR [kidsV n,kidsV n,.fn z8 [] []] H (.bool true) H) → ∀ H,C z8 [ndV n,ndV n] H (.bool true) H)
  (hE : ∀ (xv : AV) (ks : List Nd),zDB xv 12 (ks.map ndV) → ks.length ≤ 1000000 → (∀ k ∈ ks,∀ H,C z8 [ndV k,ndV k] H (.bool true) H) → ∀ H,C zR [xv,xv,.fn z8 [] []] H (.bool true) H)
  {x : Bool} {n : Nd} (h : Wf x n) : (txt n).length ≤ 1000 → ∀ H,C z8 [ndV n,ndV n] H (.bool true) H:=by
 have leaf : ∀ n : Nd,n.kids = [] → ∀ H,C z8 [ndV n,ndV n] H (.bool true) H:=fun n hk=>hS n (hE _ [] (by have:=kidsV_is n; rwa [hk] at this) (by simp) (by simp))
 have node : ∀ n : Nd,n.kids.length ≤ 1000000 → (∀ k ∈ n.kids,∀ H,C z8 [ndV k,ndV k] H (.bool true) H) → ∀ H,C z8 [ndV n,ndV n] H (.bool true) H:=fun n hl hk=>hS n (hE _ n.kids (kidsV_is n) hl hk)
 induction h with
 | num _ n h=>exact fun _=>leaf _ rfl
 | txt _ t=>exact fun _=>leaf _ rfl
 | tru _ b=>exact fun _=>leaf _ rfl
 | bad _ k h=>exact fun _=>leaf _ rfl
 | ref _ r h=>exact fun _=>leaf _ rfl
 | box r o h k=>exact fun _=>leaf _ rfl
 | neg _ n h ih=>
  intro hl
  rw [txt_neg] at hl
  simp only [zLw,brk_len] at hl
  refine node _ (by show [n].length ≤ 1000000; simp) fun k hk=>?_
  have hk : k ∈ [n]:=hk
  rw [zMr.1 hk]
  exact ih tO
 | two _ op a b h ha hb iha ihb=>
  intro hl
  rw [txt_two] at hl
  simp only [zL1,brk_len] at hl
  refine node _ (by show [a,b].length ≤ 1000000; simp) fun k hk=>?_
  have hk : k ∈ [a,b]:=hk
  rcases zNP.1 hk with rfl | hk
  ·exact iha tO
  ·rw [zMr.1 hk]
   exact ihb tO
 | call _ t ks h hk ih=>
  intro hl
  rw [txt_call] at hl
  simp only [zL1,zLw] at hl
  obtain ⟨h1,h2⟩:=joinC_ge (ks.map txt)
  rw [zL6] at h1
  refine node _ (by show ks.length ≤ 1000000; omega) fun k hk'=>?_
  have hk' : k ∈ ks:=hk'
  exact ih k hk' (by have:=h2 _ (List.mem_map_of_mem (f:=txt) hk'); omega)
theorem old_row {H : Heap} {b : Nat} (hb : b < H.length) (k : Nat) (ys : List AV) : OldOK H (H.set b (.row k ys)) ∧ H.set b (.row k ys) = (H.set b (.row k ys)).take H.length:=by
 refine ⟨fun c hc=>?_,(zMZ (by simp)).symm⟩
 by_cases e : b = c
 ·subst e; exact .inr ⟨_,zMK hb,rfl⟩
 ·exact .inl (zMJ e)
theorem sorted_ev (hS : ∀ (b : Nat) (xs : List Fil) H,H[b]? = some (.row 3 (xs.map zh)) → xs ≠ [] → xs.length ≤ 1000 → (xs.map zJ7).Nodup → C zAG [.sl (some true) b 3 0 xs.length,.fn zDr [] []] H (.tup []) (H.set b (.row 3 ((zGi xs).map zh))))
  (b : Nat) (xs : List Fil) (H : Heap) (hb : H[b]? = some (.row 3 (xs.map zh))) (hne : xs ≠ []) (hl : xs.length ≤ 1000) (hn : (xs.map zJ7).Nodup) :
  EFun C GT zFw [.sl (some true) b 3 0 xs.length] H (.sl (some true) b 3 0 xs.length) (H.set b (.row 3 ((zGi xs).map zh))):=by
 have hs:=hS b xs H hb hne hl hn
 have hbl:=(zg hb).1
 obtain ⟨h1,h2⟩:=old_row hbl 3 ((zGi xs).map zh)
 clear hS
 refine zZ ?_; refine zAc hs (fun h=>by cases h) ?_
 exact sRetW rfl rfl (frz_below hbl) (by simp [AV.bel,hbl]) h1 h2
theorem sorted0_ev (hS0 : ∀ H,C zAG [.lst (some true) 0 [],.fn zDr [] []] H (.tup []) H) (H : Heap) : EFun C GT zFw [.lst (some true) 0 []] H (.lst (some true) 0 []) H:=by
 refine zZ ?_; refine zL (hS0 _) ?_
 exact sRr
set_option maxHeartbeats 8000000 in
theorem change_ev (hC1 : ∀ (b n1 n2 n3 : Nat) (row : Bool) (x y : Int) (f : Fil) H,H[b]? = some (.box (zh f).cells) → H[n1]? = some (.box [.bool row]) → H[n2]? = some (.box [zI x]) → H[n3]? = some (.box [zI y]) → b ≠ n1 → b ≠ n2 → b ≠ n3 →
   C zA6 [.ref b 0 0 0,.ref n1 0 0 0,.ref n2 0 0 0,.ref n3 0 0 0] H (.tup [.bool true,.nili]) (H.set b (.box (zh (swF row x y f)).cells)))
  (hR : ∀ t,zA4 t = 0 → ∀ H,C zB6 [.str t,.fn zAP [] []] H (.tup [.str t,.nili]) H)
  (hS : ∀ (b : Nat) (xs : List Fil) H,H[b]? = some (.row 3 (xs.map zh)) → xs ≠ [] → xs.length ≤ 1000 → (xs.map zJ7).Nodup → C zCZ [.sl (some true) b 3 0 xs.length] H (.sl (some true) b 3 0 xs.length) (H.set b (.row 3 ((zGi xs).map zh))))
  (hS0 : ∀ H,C zCZ [.lst (some true) 0 []] H (.lst (some true) 0 []) H)
  (lv : AV) (l : List Fil) (hlv : zDB lv 3 (l.map zh)) (hl : l.length ≤ 200) (ht : ∀ f ∈ l,zA4 f.text = 0) (n1 n2 n3 : Nat) (row : Bool) (x y : Int) (hnd : ((l.map (swF row x y)).map zJ7).Nodup) (H : Heap)
  (h1 : H[n1]? = some (.box [.bool row])) (h2 : H[n2]? = some (.box [zI x])) (h3 : H[n3]? = some (.box [zI y])) :
  EFun C GT zIg [lv,.fn zA6 [] [.ref n1 0 0 0,.ref n2 0 0 0,.ref n3 0 0 0],.fn zAP [] []] H (.tup [lstF 3 ((zGi (l.map (swF row x y))).map zh),.nili]) H:=by
 have hlm : (l.map zh).length = l.length:=zL6 _
 have hb1:=(zg h1).1
 have hb2:=(zg h2).1
 have hb3:=(zg h3).1
 refine zZ ?_; refine zBD l.length hlv hlm ?_; refine zBm (fun z : Nat × AV=>[(15,zK z.1),(8,z.2),(2,.fn zAP [] []),(1,.fn zA6 [] [.ref n1 0 0 0,.ref n2 0 0 0,.ref n3 0 0 0]),(13,lv),(14,zK l.length)]) (fun z H'=>Old H H' ∧ z.1 ≤ l.length ∧ Owns H H' z.2 3 (((l.take z.1).map (swF row x y)).map zh)) (fun z=>l.length - z.1) (0,.lst (some true) 0 []) rfl ⟨Old.refl H,by simp,.inl ⟨rfl,by simp⟩⟩ (fun z H1 hi=>?_)
 obtain ⟨i,out⟩:=z
 obtain ⟨hO,hi,ho⟩:=hi
 dsimp only at hi ho ⊢
 by_cases hlt : i < l.length
 ·obtain ⟨f,hf⟩ : ∃ f,l[i]? = some f:=⟨_,zLy hlt⟩
  have hfm : (l.map zh)[i]? = some (zh f):=by rw [zL9,hf]; rfl
  have htk : (l.take (i + 1)).map (swF row x y) = (l.take i).map (swF row x y) ++ [swF row x y f]:=by rw [List.take_succ,hf]; simp
  have hol : (((l.take i).map (swF row x y)).map zh).length ≤ 200:=by rw [zL6,zL6,zMA]; omega
  have hg1:=zJQ hO h1
  have hg2:=zJQ hO h2
  have hg3:=zJQ hO h3
  have hHl:=hO.1
  obtain ⟨H2,hH2⟩ : ∃ H2,(H1 ++ [ABlk.box zV5]).set H1.length (.box (zh f).cells) = H2:=⟨_,rfl⟩
  have hO2 : Old H H2:=by rw [← hH2]; exact hO.pushSet _ _
  have ho2 : Owns H H2 out 3 (((l.take i).map (swF row x y)).map zh):=by rw [← hH2]; exact ho.pushSet _ _
  have hnb : out.blk ≠ some H1.length:=fun e=>by have:=(ho.lt e).2; omega
  have hbx : H2[H1.length]? = some (.box (zh f).cells):=by rw [← hH2]; exact zE zB
  have k1 : H2[n1]? = some (.box [.bool row]):=by rw [← hH2]; exact zA tO (zC hg1)
  have k2 : H2[n2]? = some (.box [zI x]):=by rw [← hH2]; exact zA tO (zC hg2)
  have k3 : H2[n3]? = some (.box [zI y]):=by rw [← hH2]; exact zA tO (zC hg3)
  have hc:=hC1 H1.length n1 n2 n3 row x y f H2 hbx k1 k2 k3 tO tO tO
  have hr:=hR f.text (ht f (zMH hf))
  have hbl2:=(zg hbx).1
  have hst : (swF row x y f).text = f.text:=by unfold swF; split <;> rfl
  clear hC1 hR hS hS0
  refine zb tT ?_; refine zD0 i (zh f) hlv rfl hfm ?_; refine zt (zh f) rfl ?_; refine zH (v:=zh f) (AV.cells (zh f)) zB rfl rfl rfl rfl ?_
  rw [hH2]
  obtain ⟨g,hg⟩ : ∃ g,swF row x y f = g:=⟨_,rfl⟩
  rw [hg] at hc htk hst
  have hr2 : ∀ H,C zB6 [.str g.text,.fn zAP [] []] H (.tup [.str g.text,.nili]) H:=by rw [hst]; exact hr
  obtain ⟨H3,hH3⟩ : ∃ H3,H2.set H1.length (.box (zh g).cells) = H3:=⟨_,rfl⟩
  have hO3 : Old H H3:=by rw [← hH3]; exact hO2.set hHl _
  have ho3 : Owns H H3 out 3 (((l.take i).map (swF row x y)).map zh):=by rw [← hH3]; exact ho2.set hnb _
  have hb3 : H3[H1.length]? = some (.box (zh g).cells):=by rw [← hH3]; exact zE hbx
  rw [hH3] at hc
  clear hr
  refine zAc hc (fun h=>by cases h) ?_; refine zl rfl ?_; refine zl rfl ?_; refine zl rfl ?_; refine zF ?_; refine zF ?_; refine zD (AV.str g.text) hb3 rfl ?_; refine zL (hr2 _) ?_; refine zl rfl ?_; refine zl rfl ?_; refine zH (v:=AV.str g.text) (zh g).cells hb3 rfl rfl rfl rfl ?_; refine zl rfl ?_; refine zF ?_; refine zD (zh g) (zE hb3) rfl ?_; refine zAs (vs':=[zh g]) rfl rfl ?_
  rw [zKh hb3]
  refine zCA (H0:=H) (ys:=[zh g]) (ho3.push _) (hO3.push _) zAz (by decide) (by simp only [zMc]; omega) (by simp) (fun v' H' ho' hO' _ hfr=>?_)
  refine zN (r:=i + 1) rfl tO ?_; refine zAU (i + 1,v') rfl ⟨hO',by simp only; omega, ?_⟩ (by simp only; omega)
  simp only
  rw [htk,zMW]
  exact ho'
 ·have he : l.take i = l:=zMZ tO
  rw [he] at ho
  rcases ho with ⟨rfl,h0⟩ | ⟨bb,rfl,g1,g2,g3⟩
  ·have hl0 : l = []:=by simpa using h0
   subst hl0
   refine zY tF ?_; refine zL (hS0 _) ?_
   exact zBW rfl rfl rfl rfl hO
  ·have hne : l.map (swF row x y) ≠ []:=fun e=>g3 (by rw [e]; rfl)
   have hs:=hS bb (l.map (swF row x y)) H1 g2 hne (by rw [zL6]; omega) hnd
   have hln : ((l.map (swF row x y)).map zh).length = (l.map (swF row x y)).length:=zL6 _
   have hbl:=(zg g2).1
   rw [hln]
   have hol : (zGi (l.map (swF row x y))).length = (l.map (swF row x y)).length:=(zHI _).length_eq
   clear hS hS0 hC1 hR
   have hO3 : Old H (H1.set bb (.row 3 ((zGi (l.map (swF row x y))).map zh))):=hO.set g1 _
   have hne2 : (zGi (l.map (swF row x y))).map zh ≠ []:=fun e=>by
    have:=zML List.length e
    rw [zL6,hol] at this
    exact hne (zNm.1 this)
   have hoo : Owns H (H1.set bb (.row 3 ((zGi (l.map (swF row x y))).map zh))) (.sl (some true) bb 3 0 (l.map (swF row x y)).length) 3 ((zGi (l.map (swF row x y))).map zh):=
    .inr ⟨bb,by rw [zL6 (f:=zh),hol],g1,zE g2,hne2⟩
   obtain ⟨H4,hf4,hO4,_⟩:=hoo.frz hO3
   refine zY tF ?_; refine zAc hs (fun h=>by cases h) ?_
   exact sRetF rfl rfl (frz_pair2 hf4 fun _=>rfl) (bel_pair _ _ _) hO4
def spanB (row : Bool) (a m : Int) : Bool:=decide (1 ≤ a ∧ a ≤ (if row then 99 else 26) ∧ 0 ≤ m ∧ m ≤ (if row then 99 else 26))
def zDo (l : List Fil) (row : Bool) (x y : Int) : Nat:=if zBJ l ≠ 0 then zBJ l else if spanB row x 0 = true ∧ spanB row y 0 = true then 0 else 1
def zDp (l : List Fil) (row : Bool) (x y : Int) : AV:=if zDo l row x y = 0 then lstF 3 ((zGi (l.map (swF row x y))).map zh) else .lst (some true) 0 []
set_option maxHeartbeats 8000000 in
theorem swap_ev (hG : ∀ lv l H,view H 3 lv = some (l.map zh) → C zDE [lv] H (eV (zBJ l)) H) (hSp : ∀ row a m H,C zED [.bool row,zI a,zI m] H (.bool (spanB row a m)) H)
  (hCh : ∀ (lv : AV) (l : List Fil),zDB lv 3 (l.map zh) → l.length ≤ 200 → (∀ f ∈ l,zA4 f.text = 0) → ∀ (n1 n2 n3 : Nat) (row : Bool) (x y : Int),((l.map (swF row x y)).map zJ7).Nodup → ∀ H,H[n1]? = some (.box [.bool row]) → H[n2]? = some (.box [zI x]) → H[n3]? = some (.box [zI y]) →
   C zD1 [lv,.fn zA6 [] [.ref n1 0 0 0,.ref n2 0 0 0,.ref n3 0 0 0],.fn zAP [] []] H (.tup [lstF 3 ((zGi (l.map (swF row x y))).map zh),.nili]) H)
  (hnd : ∀ l : List Fil,zBJ l = 0 → l.length ≤ 200 ∧ (∀ f ∈ l,zA4 f.text = 0) ∧ ∀ row x y,((l.map (swF row x y)).map zJ7).Nodup)
  (lv : AV) (l : List Fil) (hlv : zDB lv 3 (l.map zh)) (row : Bool) (x y : Int) (H : Heap) : EFun C GT zLG [lv,.bool row,zI x,zI y] H (.tup [zDp l row x y,eV (zDo l row x y)]) H:=by
 have g1:=fun H=>hG lv l H (hlv.view H)
 have s1:=fun H=>hSp row x 0 H
 have s2:=fun H=>hSp row y 0 H
 clear hG hSp
 by_cases c0 : zBJ l = 0
 case neg=>
  have hr : zDo l row x y = zBJ l:=by unfold zDo; rw [zLx c0]
  have hv : zDp l row x y = .lst (some true) 0 []:=by unfold zDp; rw [hr,zLv c0]
  have he : eV (zBJ l) = zGl (zBJ l : Nat):=by unfold eV; rw [zLv c0]
  rw [hv,hr,he]
  rw [he] at g1
  generalize zBJ l = n at *
  clear hCh hnd
  refine zZ ?_; refine zCj (x:=AV.bool row) rfl ?_; refine zCj (x:=zI x) rfl ?_; refine zCj (x:=zI y) rfl ?_; refine zL (g1 _) ?_; refine zl rfl ?_; refine zG ?_
  exact zBW rfl rfl rfl rfl ((((Old.refl _).push _).push _).push _)
 have g1 : ∀ H,C zDE [lv] H .nili H:=fun H=>by have:=g1 H; rw [c0] at this; exact this
 obtain ⟨q1,q2,q3⟩:=hnd l c0
 have hch:=fun n1 n2 n3 H h1 h2 h3=>hCh lv l hlv q1 q2 n1 n2 n3 row x y (q3 row x y) H h1 h2 h3
 clear hCh hnd
 cases e1 : spanB row x 0 with
 | false=>
  have hr : zDo l row x y = 1:=by unfold zDo; rw [zLv tO,e1,zLv (by simp)]
  have hv : zDp l row x y = .lst (some true) 0 []:=by unfold zDp; rw [hr,zLv (by decide)]
  rw [hv,hr]
  rw [e1] at s1
  clear hch
  refine zZ ?_; refine zCj (x:=AV.bool row) rfl ?_; refine zCj (x:=zI x) rfl ?_; refine zCj (x:=zI y) rfl ?_; refine zL (g1 _) ?_; refine zl rfl ?_; refine zF ?_; refine zD (AV.bool row) (by (repeat' (first | assumption | exact zB | exact zC1 (by first | omega | (simp only [zL3,zL1,zLw,zL4]; omega)) | refine zC ?_ | refine zA (by first | assumption | omega | (simp only [zL3,zL1,zLw,zL4]; omega) | (simp; done) | (simp; omega)) ?_)); done) rfl ?_
  refine zD (zI x) (zC zB) rfl ?_; refine zL (s1 _) ?_; refine zG ?_; refine zG ?_; refine zG ?_
  exact zBW rfl rfl rfl rfl ((((Old.refl _).push _).push _).push _)
 | true=>
  cases e2 : spanB row y 0 with
  | false=>
   have hr : zDo l row x y = 1:=by unfold zDo; rw [zLv tO,e1,e2,zLv (by simp)]
   have hv : zDp l row x y = .lst (some true) 0 []:=by unfold zDp; rw [hr,zLv (by decide)]
   rw [hv,hr]
   rw [e1] at s1
   rw [e2] at s2
   clear hch
   refine zZ ?_; refine zCj (x:=AV.bool row) rfl ?_; refine zCj (x:=zI x) rfl ?_; refine zCj (x:=zI y) rfl ?_; refine zL (g1 _) ?_; refine zl rfl ?_; refine zF ?_; refine zD (AV.bool row) (zC (zC zB)) rfl ?_; refine zD (zI x) (zC zB) rfl ?_; refine zL (s1 _) ?_; refine zF ?_; refine zD (AV.bool row) (zC (zC zB)) rfl ?_; refine zD (zI y) zB rfl ?_; refine zL (s2 _) ?_; refine zF ?_; refine zG ?_
   exact zBW rfl rfl rfl rfl ((((Old.refl _).push _).push _).push _)
  | true=>
   have hr : zDo l row x y = 0:=by unfold zDo; rw [zLv tO,e1,e2,zLx (by simp)]
   have hv : zDp l row x y = lstF 3 ((zGi (l.map (swF row x y))).map zh):=by unfold zDp; rw [hr,zLx rfl]
   rw [hv,hr]
   rw [e1] at s1
   rw [e2] at s2
   generalize zGi (l.map (swF row x y)) = o at *
   refine zZ ?_; refine zCj (x:=AV.bool row) rfl ?_; refine zCj (x:=zI x) rfl ?_; refine zCj (x:=zI y) rfl ?_; refine zL (g1 _) ?_; refine zl rfl ?_; refine zF ?_; refine zD (AV.bool row) (zC (zC zB)) rfl ?_; refine zD (zI x) (zC zB) rfl ?_; refine zL (s1 _) ?_; refine zF ?_; refine zD (AV.bool row) (zC (zC zB)) rfl ?_; refine zD (zI y) zB rfl ?_; refine zL (s2 _) ?_; refine zF ?_; refine zF ?_
   refine zL (hch _ _ _ _ hP hP hP) ?_; refine zl rfl ?_; refine zl rfl ?_
   exact zBW rfl rfl (by cases o <;> rfl) (by cases o <;> rfl) ((((Old.refl _).push _).push _).push _)
end
end Go.AM
set_option maxRecDepth 20000
namespace Go.AM
def zJF (H0 H : Heap) (v : AV) (k : Nat) (xs : List AV) : Prop:=
 (v = .lst (some true) 0 [] ∧ xs = []) ∨ ∃ b,v = .sl (some true) b k 0 xs.length ∧ H0.length ≤ b ∧ H[b]? = some (.row k xs)
theorem zJF.nil (H0 H : Heap) (k : Nat) : zJF H0 H (.lst (some true) 0 []) k []:=.inl ⟨rfl,rfl⟩
theorem zJF.toOwns {H0 H : Heap} {v : AV} {k : Nat} {xs : List AV} (h : zJF H0 H v k xs) (hx : xs ≠ []) : Owns H0 H v k xs:=by
 rcases h with ⟨_,h⟩ | ⟨b,h1,h2,h3⟩
 ·exact absurd h hx
 ·exact .inr ⟨b,h1,h2,h3,hx⟩
theorem zJF.keep {H0 H H' : Heap} {v : AV} {k : Nat} {xs : List AV} (h : zJF H0 H v k xs) (hk : ∀ b x,v.blk = some b → H[b]? = some x → H'[b]? = some x) : zJF H0 H' v k xs:=by
 rcases h with h | ⟨b,rfl,h1,h2⟩
 ·exact .inl h
 ·exact .inr ⟨b,rfl,h1,hk b _ rfl h2⟩
theorem zJF.push {H0 H : Heap} {v : AV} {k : Nat} {xs : List AV} (h : zJF H0 H v k xs) (x : ABlk) : zJF H0 (H ++ [x]) v k xs:=h.keep fun _ _ _ hx=>zC hx
theorem zHR {H0 H : Heap} {v y : AV} {k bytes : Nat} {xs ys : List AV} {K : AV → Heap → Prop} (ho : zJF H0 H v k xs) (hH : Old H0 H) (hy : view H k y = some ys) (hm : (xs.length + ys.length) * bytes ≤ 140737488355328) (hl : xs.length + ys.length ≤ 9223372036854775807)
  (q : ∀ v' H',zJF H0 H' v' k (xs ++ ys) → Old H0 H' → v'.blk = some H.length → (∀ c x,v.blk ≠ some c → H[c]? = some x → H'[c]? = some x) → K v' H') : actP (.append k bytes) [v,y] H K:=by
 rcases ho with ⟨rfl,rfl⟩ | ⟨b,rfl,h1,h2⟩
 ·simp only [zL4,zMn] at hl hm
  refine sAct (v:=.sl (some true) H.length k 0 ys.length) (H':=H ++ [.row k ys]) ?_ ?_
  ·simp only [astep,hy]
   rw [zLx ⟨by omega,by omega⟩]
  ·exact q _ _ (.inr ⟨_,rfl,hH.1,zB⟩) (hH.push _) rfl fun _ _ _ hx=>zC hx
 ·refine sAct (v:=.sl (some true) H.length k 0 (xs.length + ys.length)) (H':=H.set b .dead ++ [.row k (xs ++ ys)]) ?_ ?_
  ·simp only [astep,hy,h2]
   rw [zLx ⟨trivial,trivial,by omega,by omega,by omega⟩]
   simp
  ·refine q _ _ (.inr ⟨_,by rw [zL1],hH.1, ?_⟩) ((hH.set h1 _).push _) rfl fun c x hc hx=>?_
   ·have : (H.set b .dead).length = H.length:=zL3
    rw [← this]; exact zB
   ·exact zC (zA (fun e=>hc (by rw [e]; rfl)) hx)
theorem own_take {H0 H : Heap} {v : AV} {w : Nat} {xs : List AV} (h : Owns H0 H v w xs) {k : Nat} (hk : k ≤ xs.length) : ∃ v',zAx (some w) v none (some (.int .i64 (k : Int))) = some v' ∧ v'.blk = v.blk ∧ ∀ H',(∀ b x,v.blk = some b → H[b]? = some x → H'[b]? = some x) → view H' w v' = some (xs.take k):=by
 rcases h with ⟨rfl,rfl⟩ | ⟨b,rfl,h1,h2,h3⟩
 ·have : k = 0:=by simpa using hk
  subst this
  refine ⟨.lst (some true) 0 [],by simp [zAx,zCN,aHi,aLo,cutQL],rfl,fun H' _=>by simp [view]⟩
 ·refine ⟨.sl (cutQ (some true) 0 k) b w 0 k, ?_,rfl,fun H' hH'=>?_⟩
  ·have e : zCN xs.length none (some (.int .i64 (k : Int))) = some (0,k):=by
    simp only [zCN,aHi,aLo]
    rw [zLx ⟨by omega,by omega⟩]
    simp
   simp only [zAx,zMR,e,zMB,zMn,zOA]
  ·have:=hH' b _ rfl h2
   simp only [view,zMR,this]
   rw [zLx ⟨trivial,by omega⟩]
   simp
theorem own_drop {H0 H : Heap} {v : AV} {w : Nat} {xs : List AV} (h : Owns H0 H v w xs) {k : Nat} (hk : k ≤ xs.length) : ∃ v',zAx (some w) v (some (.int .i64 (k : Int))) none = some v' ∧ v'.blk = v.blk ∧ ∀ H',(∀ b x,v.blk = some b → H[b]? = some x → H'[b]? = some x) → view H' w v' = some (xs.drop k):=by
 rcases h with ⟨rfl,rfl⟩ | ⟨b,rfl,h1,h2,h3⟩
 ·have : k = 0:=by simpa using hk
  subst this
  refine ⟨.lst (some true) 0 [],by simp [zAx,zCN,aHi,aLo,cutQL],rfl,fun H' _=>by simp [view]⟩
 ·refine ⟨.sl (cutQ (some true) k xs.length) b w k (xs.length - k), ?_,rfl,fun H' hH'=>?_⟩
  ·have e : zCN xs.length (some (.int .i64 (k : Int))) none = some (k,xs.length):=by
    simp only [zCN,aHi,aLo]
    rw [zLx ⟨by omega,by omega⟩]
    simp
   simp only [zAx,zMR,e,zMB,zMn]
  ·have:=hH' b _ rfl h2
   simp only [view,zMR,this]
   rw [zLx ⟨trivial,by omega⟩]
   rw [zMZ (by rw [zMX]; omega)]
theorem nil_blk (b : Nat) : AV.blk (.lst (some true) 0 []) ≠ some b:=by simp [AV.blk]
end Go.AM
set_option maxRecDepth 20000
namespace Go.AM
theorem swN_inj {a b x y : Int} (h : swN a b x = swN a b y) : x = y:=by
 unfold swN at h
 split at h <;> split at h <;> (try split at h) <;> (try split at h) <;> omega
theorem swap_keys {l : List Fil} (h : (l.map zJ7).Nodup) (row : Bool) (x y : Int) : ((l.map (swF row x y)).map zJ7).Nodup:=by
 rw [zNk]
 unfold List.Nodup at *
 rw [List.pairwise_map] at *
 refine h.imp fun {a b} hab e=>hab ?_
 have e1 : (swF row x y a).col = (swF row x y b).col:=zML Prod.fst e
 have e2 : (swF row x y a).row = (swF row x y b).row:=zML Prod.snd e
 unfold swF at e1 e2
 cases row with
 | true=>exact Prod.ext e1 (swN_inj e2)
 | false=>exact Prod.ext (swN_inj e1) e2
theorem zJp (l : List Fil) (h : zBJ l = 0) : l.length ≤ 200 ∧ (∀ f ∈ l,zA4 f.text = 0) ∧ ∀ row x y,((l.map (swF row x y)).map zJ7).Nodup:=by
 have hg:=goods_of h
 refine ⟨hg.len,fun f hf=>?_,fun row x y=>swap_keys (srtd_nodup hg.srt) row x y⟩
 have:=(hg.each f hf).1
 unfold mayN at this
 by_cases e : okC f.col f.row = false
 ·rw [e] at this; cases this
 ·simpa [e] using this
section
variable {C : CSpec} {GT : Nat → Option AV}
theorem rsorted0_ev (H : Heap) : EFun C GT zDs [.lst (some true) 0 []] H (.lst (some true) 0 []) H:=by
 refine zZ ?_; refine zBm (fun i : Nat=>[(4,zK i),(3,.lst (some true) 0 []),(0,.lst (some true) 0 [])]) (fun i H'=>H' = H ∧ i = 0) (fun i=>0) 0 rfl ⟨rfl,rfl⟩ (fun i H1 hi=>?_)
 obtain ⟨hH,hi⟩:=hi
 subst hH hi
 dsimp only
 refine sLenL ?_; refine zF ?_
 exact sRr
theorem tw_get {p : Fil → Bool} {o : List Fil} {k : Nat} {g : Fil} (hg : o[k]? = some g) (hk : k ≤ (o.takeWhile p).length) : (p g = true → k + 1 ≤ (o.takeWhile p).length) ∧ (p g = false → (o.takeWhile p).length = k):=by
 induction o generalizing k with
 | nil=>simp at hg
 | cons x o ih=>
  by_cases hx : p x = true
  ·rw [List.takeWhile_cons_of_pos hx,zLw] at hk ⊢
   cases k with
   | zero=>
    simp at hg; subst hg
    exact ⟨fun _=>by omega,fun h=>by rw [hx] at h; cases h⟩
   | succ k=>
    have:=ih (k:=k) (by simpa using hg) tO
    exact ⟨fun h=>by have:=this.1 h; omega,fun h=>by have:=this.2 h; omega⟩
  ·rw [List.takeWhile_cons_of_neg hx] at hk ⊢
   simp at hk
   subst hk
   simp at hg; subst hg
   exact ⟨fun h=>absurd h hx,fun _=>rfl⟩
theorem insF_at {f : Fil} {o : List Fil} {k : Nat} (h : (o.takeWhile (fun g=>decide (ltF g f))).length = k) : insF f o = o.take k ++ f :: o.drop k:=by
 have e:=zON (p:=fun g=>decide (ltF g f)) (l:=o)
 unfold insF
 subst h
 generalize o.takeWhile (fun g=>decide (ltF g f)) = a at *
 generalize o.dropWhile (fun g=>decide (ltF g f)) = b at *
 rw [← e,List.take_left,List.drop_left]
theorem lessC_ltF (a b : Fil) : zDU a b = decide (ltF a b):=by
 rw [zNp,zNA]
 exact zLq a b
set_option maxHeartbeats 8000000 in
theorem rsorted_ev (hA : ∀ (a b : Fil) H,C zBE [zBP a.col a.row,zBP b.col b.row] H (.bool (zDU a b)) H) (b0 : Nat) (xs : List Fil) (H : Heap) (hx : xs.length ≤ 200) (hb0 : H[b0]? = some (.row 3 (xs.map zh))) :
  EFun C GT zDs [.sl (some true) b0 3 0 xs.length] H (lstF 3 ((zGi xs).map zh)) H:=by
 have hb0l:=(zg hb0).1
 obtain ⟨n,hn⟩ : ∃ n,xs.length = n:=⟨_,rfl⟩
 rw [hn]
 refine zZ ?_; refine zBm (fun z : Nat × AV=>[(4,zK z.1),(3,z.2),(0,.sl (some true) b0 3 0 n)]) (fun z H'=>Old H H' ∧ z.1 ≤ n ∧ Owns H H' z.2 3 ((zGi (xs.take z.1)).map zh)) (fun z=>n - z.1) (0,.lst (some true) 0 []) rfl ⟨Old.refl H,by simp,.inl ⟨rfl,by simp [zGi]⟩⟩ (fun z H1 hi=>?_)
 obtain ⟨i,out⟩:=z
 obtain ⟨hO,hi,ho⟩:=hi
 dsimp only at hi ho ⊢
 have hb1:=zJQ hO hb0
 by_cases hlt : i < n
 ·obtain ⟨f,hf⟩ : ∃ f,xs[i]? = some f:=⟨_,zLy tO⟩
  have hfm : (xs.map zh)[i]? = some (zh f):=by rw [zL9,hf]; rfl
  obtain ⟨o,hoe⟩ : ∃ o,zGi (xs.take i) = o:=⟨_,rfl⟩
  have hol : o.length = i:=by rw [← hoe,(zHI _).length_eq,zMA]; omega
  have htk : zGi (xs.take (i + 1)) = insF f o:=by rw [List.take_succ,hf,← hoe]; unfold zGi; rw [List.foldl_append]; rfl
  rw [hoe] at ho
  have hov:=ho.view
  have hom : (o.map zh).length = o.length:=zL6 _
  refine zGw ?_; refine zb tT ?_; refine zBm (fun k : Nat=>[(5,zK k),(0,.sl (some true) b0 3 0 n),(4,zK i),(3,out)]) (fun k H'=>H' = H1 ∧ k ≤ o.length ∧ k ≤ (o.takeWhile (fun g=>decide (ltF g f))).length) (fun k=>o.length - k) 0 rfl ⟨rfl,by omega,by omega⟩ (fun k H2 hk=>?_)
  obtain ⟨hH,hk,hkt⟩:=hk
  subst hH
  dsimp only
  by_cases hkl : k < o.length
  ·obtain ⟨g,hg⟩ : ∃ g,o[k]? = some g:=⟨_,zLy hkl⟩
   have hgm : (o.map zh)[k]? = some (zh g):=by rw [zL9,hg]; rfl
   have htw:=tw_get hg hkt
   have ha:=fun H=>hA g f H
   rw [lessC_ltF] at ha
   obtain ⟨bb,rfl,q1,q2,q3⟩ : ∃ b,out = .sl (some true) b 3 0 (o.map zh).length ∧ H.length ≤ b ∧ H2[b]? = some (.row 3 (o.map zh)) ∧ o.map zh ≠ []:=by
    rcases ho with ⟨_,h⟩ | h
    ·have : o = []:=by simpa using h
     rw [this] at hkl; simp at hkl
    ·exact h
   clear hA
   cases hc : decide (ltF g f) with
   | true=>
    rw [hc] at ha
    refine zGw ?_; refine zb tT ?_; refine sAt tO ?_; refine zBV k (zh g) (zBP g.col g.row) (by simp) q2 hgm rfl ?_; refine sAt tO ?_; refine zBV i (zh f) (zBP f.col f.row) (by simp) hb1 hfm rfl ?_; refine zL (ha _) ?_; refine zG ?_; refine zG ?_; refine zN (r:=k + 1) rfl tO ?_; refine zAU (k + 1) rfl ⟨rfl,by omega,htw.1 hc⟩ tO
   | false=>
    have hins:=insF_at (htw.2 hc)
    rw [hc] at ha
    refine zGw ?_; refine zb tT ?_; refine sAt tO ?_; refine zBV k (zh g) (zBP g.col g.row) (by simp) q2 hgm rfl ?_; refine sAt tO ?_; refine zBV i (zh f) (zBP f.col f.row) (by simp) hb1 hfm rfl ?_; refine zL (ha _) ?_; refine zG ?_; refine zF ?_
    obtain ⟨s1,a1,b1,w1⟩:=own_take ho (k:=k) (by rw [zL6]; omega)
    obtain ⟨s2,a2,b2,w2⟩:=own_drop ho (k:=k) (by rw [zL6]; omega)
    refine zl a1 ?_; refine zHR (H0:=H) (zJF.nil _ _ _) hO (w1 _ fun _ _ _ h=>h) ?_ ?_ (fun v1 H3 ho3 hO3 hb3 hf3=>?_)
    ·simp only [zL4,zMA,zL6]; omega
    ·simp only [zL4,zMA,zL6]; omega
    rw [zM1] at ho3
    have hown3 : Owns H H3 (.sl (some true) bb 3 0 (o.map zh).length) 3 (o.map zh):=ho.keep fun b x hb hx=>hf3 b x (nil_blk b) hx
    have hlt3 : ∀ b,AV.blk (.sl (some true) bb 3 0 (o.map zh).length) = some b → b < H2.length:=fun b hb=>(ho.lt hb).2
    have hb3':=zJQ hO3 hb0
    refine sAt tO ?_; refine zBV i (zh f) (zh f) (by simp) hb3' hfm rfl ?_; refine zAs (vs':=[zh f]) rfl rfl ?_; refine zHR (H0:=H) (ho3.push _) (hO3.push _) zAz ?_ ?_ (fun v2 H4 ho4 hO4 hb4 hf4=>?_)
    ·simp only [zMA,zL6,zLw,zL4]; omega
    ·simp only [zMA,zL6,zLw,zL4]; omega
    have hne3 : ∀ b,AV.blk (.sl (some true) bb 3 0 (o.map zh).length) = some b → v1.blk ≠ some b:=fun b hb e=>by
     rw [hb3] at e; simp only [zLt] at e; have:=hlt3 b hb; omega
    refine zl a2 ?_; refine zHR (H0:=H) ho4 hO4 (w2 _ fun b x hb hx=>hf4 b x (hne3 b hb) (zC (hf3 b x (nil_blk b) hx))) ?_ ?_ (fun v3 H5 ho5 hO5 hb5 hf5=>?_)
    ·simp only [zL1,zMX,zMA,zL6,zLw,zL4]; omega
    ·simp only [zL1,zMX,zMA,zL6,zLw,zL4]; omega
    refine zN (r:=i + 1) rfl tO ?_; refine zAU (i + 1,v3) rfl ⟨hO5,by simp only; omega, ?_⟩ (by simp only; omega)
    have e5 : (o.map zh).take k ++ [zh f] ++ (o.map zh).drop k = (insF f o).map zh:=by
     rw [hins]; simp only [zMW,List.map_take,List.map_drop,zL8,zMj,zNG]
    simp only
    rw [htk,← e5]
    exact ho5.toOwns (by simp)
  ·have hke : k = o.length:=by omega
   have htl : (o.takeWhile (fun g=>decide (ltF g f))).length = k:=by
    have:=(List.takeWhile_sublist (fun g=>decide (ltF g f)) (l:=o)).length_le
    omega
   have hins:=insF_at htl
   clear hA
   refine sLenN o.length hov hom ?_; refine zY tF ?_; refine zF ?_; refine zF ?_
   obtain ⟨s1,a1,b1,w1⟩:=own_take ho (k:=k) (by rw [zL6]; omega)
   obtain ⟨s2,a2,b2,w2⟩:=own_drop ho (k:=k) (by rw [zL6]; omega)
   refine zl a1 ?_; refine zHR (H0:=H) (zJF.nil _ _ _) hO (w1 _ fun _ _ _ h=>h) ?_ ?_ (fun v1 H3 ho3 hO3 hb3 hf3=>?_)
   ·simp only [zL4,zMA,zL6]; omega
   ·simp only [zL4,zMA,zL6]; omega
   rw [zM1] at ho3
   have hown3 : Owns H H3 out 3 (o.map zh):=ho.keep fun b x hb hx=>hf3 b x (nil_blk b) hx
   have hlt3 : ∀ b,AV.blk out = some b → b < H2.length:=fun b hb=>(ho.lt hb).2
   have hb3':=zJQ hO3 hb0
   refine sAt tO ?_; refine zBV i (zh f) (zh f) (by simp) hb3' hfm rfl ?_; refine zAs (vs':=[zh f]) rfl rfl ?_; refine zHR (H0:=H) (ho3.push _) (hO3.push _) zAz ?_ ?_ (fun v2 H4 ho4 hO4 hb4 hf4=>?_)
   ·simp only [zMA,zL6,zLw,zL4]; omega
   ·simp only [zMA,zL6,zLw,zL4]; omega
   have hne3 : ∀ b,AV.blk out = some b → v1.blk ≠ some b:=fun b hb e=>by
    rw [hb3] at e; simp only [zLt] at e; have:=hlt3 b hb; omega
   refine zl a2 ?_; refine zHR (H0:=H) ho4 hO4 (w2 _ fun b x hb hx=>hf4 b x (hne3 b hb) (zC (hf3 b x (nil_blk b) hx))) ?_ ?_ (fun v3 H5 ho5 hO5 hb5 hf5=>?_)
   ·simp only [zL1,zMX,zMA,zL6,zLw,zL4]; omega
   ·simp only [zL1,zMX,zMA,zL6,zLw,zL4]; omega
   refine zN (r:=i + 1) rfl tO ?_; refine zAU (i + 1,v3) rfl ⟨hO5,by simp only; omega, ?_⟩ (by simp only; omega)
   have e5 : (o.map zh).take k ++ [zh f] ++ (o.map zh).drop k = (insF f o).map zh:=by
    rw [hins]; simp only [zMW,List.map_take,List.map_drop,zL8,zMj,zNG]
   simp only
   rw [htk,← e5]
   exact ho5.toOwns (by simp)
 ·have he : xs.take i = xs:=zMZ tO
  rw [he] at ho
  obtain ⟨H4,hf4,hO4,_⟩:=ho.frz hO
  refine zGw ?_; refine zY tF ?_
  exact sRetF rfl rfl hf4 (lstF_bel _ _ _) hO4
def rswapV (l : List Fil) (row : Bool) (x y : Int) : AV:=.tup [zDp l row x y,zK (zDo l row x y)]
set_option maxHeartbeats 8000000 in
theorem rswap_ev (hG : ∀ lv l H,view H 3 lv = some (l.map zh) → C zBn [lv] H (zK (zBJ l)) H) (hSp : ∀ row a m H,C zCl [.bool row,zI a,zI m] H (.bool (spanB row a m)) H)
  (hSo : ∀ (b0 : Nat) (xs : List Fil) H,xs.length ≤ 200 → H[b0]? = some (.row 3 (xs.map zh)) → C zBQ [.sl (some true) b0 3 0 xs.length] H (lstF 3 ((zGi xs).map zh)) H) (hS0 : ∀ H,C zBQ [.lst (some true) 0 []] H (.lst (some true) 0 []) H)
  (lv : AV) (l : List Fil) (hlv : zDB lv 3 (l.map zh)) (row : Bool) (x y : Int) (H : Heap) : EFun C GT zHk [lv,.bool row,zI x,zI y] H (rswapV l row x y) H:=by
 have g1:=fun H=>hG lv l H (hlv.view H)
 have s1:=fun H=>hSp row x 0 H
 have s2:=fun H=>hSp row y 0 H
 have hlm : (l.map zh).length = l.length:=zL6 _
 clear hG hSp
 unfold rswapV
 by_cases c0 : zBJ l = 0
 case neg=>
  have hr : zDo l row x y = zBJ l:=by unfold zDo; rw [zLx c0]
  have hv : zDp l row x y = .lst (some true) 0 []:=by unfold zDp; rw [hr,zLv c0]
  rw [hv,hr]
  have ex : (!((zBJ l : Int) == 0)) = true:=by simp; omega
  generalize zBJ l = n at *
  clear hSo hS0
  refine zZ ?_; refine zL (g1 _) ?_; refine zb ex ?_
  exact sRr
 have hll:=(zJp l c0).1
 rw [c0] at g1
 cases e1 : spanB row x 0 with
 | false=>
  have hr : zDo l row x y = 1:=by unfold zDo; rw [zLv tO,e1,zLv (by simp)]
  have hv : zDp l row x y = .lst (some true) 0 []:=by unfold zDp; rw [hr,zLv (by decide)]
  rw [hv,hr]
  rw [e1] at s1
  clear hSo hS0
  refine zZ ?_; refine zL (g1 _) ?_; refine zF ?_; refine zL (s1 _) ?_; refine zL (s2 _) ?_; refine zG ?_; refine zG ?_; refine zG ?_
  exact sRr
 | true=>
  cases e2 : spanB row y 0 with
  | false=>
   have hr : zDo l row x y = 1:=by unfold zDo; rw [zLv tO,e1,e2,zLv (by simp)]
   have hv : zDp l row x y = .lst (some true) 0 []:=by unfold zDp; rw [hr,zLv (by decide)]
   rw [hv,hr]
   rw [e1] at s1
   rw [e2] at s2
   clear hSo hS0
   refine zZ ?_; refine zL (g1 _) ?_; refine zF ?_; refine zL (s1 _) ?_; refine zL (s2 _) ?_; refine zF ?_; refine zF ?_; refine zG ?_
   exact sRr
  | true=>
   have hr : zDo l row x y = 0:=by unfold zDo; rw [zLv tO,e1,e2,zLx (by simp)]
   have hv : zDp l row x y = lstF 3 ((zGi (l.map (swF row x y))).map zh):=by unfold zDp; rw [hr,zLx rfl]
   rw [hv,hr]
   rw [e1] at s1
   rw [e2] at s2
   refine zZ ?_; refine zL (g1 _) ?_; refine zF ?_; refine zL (s1 _) ?_; refine zL (s2 _) ?_; refine zF ?_; refine zF ?_; refine zF ?_; refine zBm (fun z : Nat × AV=>[(14,zK z.1),(13,z.2),(1,.bool row),(3,zI y),(2,zI x),(0,lv)]) (fun z H'=>Old H H' ∧ z.1 ≤ l.length ∧ Owns H H' z.2 3 (((l.take z.1).map (swF row x y)).map zh)) (fun z=>l.length - z.1) (0,.lst (some true) 0 []) rfl ⟨Old.refl H,by simp,.inl ⟨rfl,by simp⟩⟩ (fun z H1 hi=>?_)
   obtain ⟨i,out⟩:=z
   obtain ⟨hO,hi,ho⟩:=hi
   dsimp only at hi ho ⊢
   by_cases hlt : i < l.length
   ·obtain ⟨f,hf⟩ : ∃ f,l[i]? = some f:=⟨_,zLy hlt⟩
    have hfm : (l.map zh)[i]? = some (zh f):=by rw [zL9,hf]; rfl
    have htk : (l.take (i + 1)).map (swF row x y) = (l.take i).map (swF row x y) ++ [swF row x y f]:=by rw [List.take_succ,hf]; simp
    have hol : (((l.take i).map (swF row x y)).map zh).length ≤ 200:=by rw [zL6,zL6,zMA]; omega
    obtain ⟨H2,hH2⟩ : ∃ H2,(H1 ++ [ABlk.box zV5]).set H1.length (.box (zh f).cells) = H2:=⟨_,rfl⟩
    have hO2 : Old H H2:=by rw [← hH2]; exact hO.pushSet _ _
    have ho2 : Owns H H2 out 3 (((l.take i).map (swF row x y)).map zh):=by rw [← hH2]; exact ho.pushSet _ _
    have hnb : out.blk ≠ some H1.length:=fun e=>by have:=(ho.lt e).2; omega
    have hbx : H2[H1.length]? = some (.box (zh f).cells):=by rw [← hH2]; exact zE zB
    have hHl:=hO.1
    have fin : ∀ g,swF row x y f = g → ∃ H3,H2.set H1.length (.box (zh g).cells) = H3 ∧ Old H H3 ∧ Owns H H3 out 3 (((l.take i).map (swF row x y)).map zh) ∧ H3[H1.length]? = some (.box (zh g).cells):=fun g _=>
     ⟨_,rfl,hO2.set hHl _,ho2.set hnb _,zE hbx⟩
    obtain ⟨g,hg⟩ : ∃ g,swF row x y f = g:=⟨_,rfl⟩
    obtain ⟨H3,hH3,hO3,ho3,hb3⟩:=fin g hg
    rw [hg] at htk
    clear hSo hS0
    cases row with
    | true=>
     have hsw : swF true x y f = ⟨f.col,swN x y f.row,f.text⟩:=rfl
     unfold swN at hsw
     by_cases e1 : f.row = x
     ·rw [zLx e1] at hsw
      have hgc : g = ⟨f.col,y,f.text⟩:=hg.symm.trans hsw
      subst hgc
      refine zBD l.length hlv hlm ?_; refine zb tT ?_; refine zD0 i (zh f) hlv rfl hfm ?_; refine zt (zh f) rfl ?_; refine zH (v:=zh f) (AV.cells (zh f)) zB rfl rfl rfl rfl ?_; refine zD (zI f.col) (zE zB) rfl ?_; refine zG ?_; refine zD (zI f.row) (zE zB) rfl ?_; refine zb tT ?_; refine zG ?_; refine zH (v:=zI y) [zI f.col,zI y,AV.str f.text] (zE zB) rfl rfl rfl rfl ?_; refine zD (AV.agg [zI f.col,zI y,AV.str f.text]) (zE (zE zB)) rfl ?_
      refine zAs (vs':=[AV.agg [zI f.col,zI y,AV.str f.text]]) rfl rfl ?_
      rw [hH2]
      have hH3' : H2.set H1.length (.box [zI f.col,zI y,.str f.text]) = H3:=hH3
      rw [hH3']
      refine zCA (H0:=H) (ys:=[zh ⟨f.col,y,f.text⟩]) (ho3.push _) (hO3.push _) zAz (by decide) (by simp only [zMc]; omega) (by simp) (fun v' H' ho' hO' _ hfr=>?_)
      refine zN (r:=i + 1) rfl tO ?_; refine zAU (i + 1,v') rfl ⟨hO',by simp only; omega, ?_⟩ (by simp only; omega)
      simp only
      rw [htk,zMW]
      exact ho'
     ·rw [zLv e1] at hsw
      by_cases e2 : f.row = y
      ·rw [zLx e2] at hsw
       have hgc : g = ⟨f.col,x,f.text⟩:=hg.symm.trans hsw
       subst hgc
       refine zBD l.length hlv hlm ?_; refine zb tT ?_; refine zD0 i (zh f) hlv rfl hfm ?_; refine zt (zh f) rfl ?_; refine zH (v:=zh f) (AV.cells (zh f)) zB rfl rfl rfl rfl ?_; refine zD (zI f.col) (zE zB) rfl ?_; refine zG ?_; refine zD (zI f.row) (zE zB) rfl ?_
       rw [hH2]
       refine zY (tN e1) ?_; refine zb (tE e2) ?_; refine zG ?_; refine zH (v:=zI (x)) (zh ⟨f.col,x,f.text⟩).cells hbx rfl rfl rfl rfl ?_; refine zD (zh { col:=f.col,row:=x,text:=f.text }) (zE hbx) rfl ?_; refine zAs (vs':=[zh { col:=f.col,row:=x,text:=f.text }]) rfl rfl ?_
       rw [hH3]
       refine zCA (H0:=H) (ys:=[zh ⟨f.col,x,f.text⟩]) (ho3.push _) (hO3.push _) zAz (by decide) (by simp only [zMc]; omega) (by simp) (fun v' H' ho' hO' _ hfr=>?_)
       refine zN (r:=i + 1) rfl tO ?_; refine zAU (i + 1,v') rfl ⟨hO',by simp only; omega, ?_⟩ (by simp only; omega)
       simp only
       rw [htk,zMW]
       exact ho'
      ·rw [zLv e2] at hsw
       have hgc : g = ⟨f.col,f.row,f.text⟩:=hg.symm.trans hsw
       subst hgc
       refine zBD l.length hlv hlm ?_; refine zb tT ?_; refine zD0 i (zh f) hlv rfl hfm ?_; refine zt (zh f) rfl ?_; refine zH (v:=zh f) (AV.cells (zh f)) zB rfl rfl rfl rfl ?_; refine zD (zI f.col) (zE zB) rfl ?_; refine zG ?_; refine zD (zI f.row) (zE zB) rfl ?_
       rw [hH2]
       refine zY (tN e1) ?_; refine zY (tN e2) ?_; refine zG ?_; refine zH (v:=zI (f.row)) (zh ⟨f.col,f.row,f.text⟩).cells hbx rfl rfl rfl rfl ?_; refine zD (zh { col:=f.col,row:=f.row,text:=f.text }) (zE hbx) rfl ?_; refine zAs (vs':=[zh f]) rfl rfl ?_
       rw [hH3]
       refine zCA (H0:=H) (ys:=[zh ⟨f.col,f.row,f.text⟩]) (ho3.push _) (hO3.push _) zAz (by decide) (by simp only [zMc]; omega) (by simp) (fun v' H' ho' hO' _ hfr=>?_)
       refine zN (r:=i + 1) rfl tO ?_; refine zAU (i + 1,v') rfl ⟨hO',by simp only; omega, ?_⟩ (by simp only; omega)
       simp only
       rw [htk,zMW]
       exact ho'
    | false=>
     have hsw : swF false x y f = ⟨swN x y f.col,f.row,f.text⟩:=rfl
     unfold swN at hsw
     by_cases e1 : f.col = x
     ·rw [zLx e1] at hsw
      have hgc : g = ⟨y,f.row,f.text⟩:=hg.symm.trans hsw
      subst hgc
      refine zBD l.length hlv hlm ?_; refine zb tT ?_; refine zD0 i (zh f) hlv rfl hfm ?_; refine zt (zh f) rfl ?_; refine zH (v:=zh f) (AV.cells (zh f)) zB rfl rfl rfl rfl ?_; refine zD (zI f.col) (zE zB) rfl ?_; refine zF ?_; refine zb tT ?_; refine zF ?_; refine zH (v:=zI y) [zI y,zI f.row,AV.str f.text] (zE zB) rfl rfl rfl rfl ?_; refine zD (AV.agg [zI y,zI f.row,AV.str f.text]) (zE (zE zB)) rfl ?_
      refine zAs (vs':=[AV.agg [zI y,zI f.row,AV.str f.text]]) rfl rfl ?_
      rw [hH2]
      have hH3' : H2.set H1.length (.box [zI y,zI f.row,.str f.text]) = H3:=hH3
      rw [hH3']
      refine zCA (H0:=H) (ys:=[zh ⟨y,f.row,f.text⟩]) (ho3.push _) (hO3.push _) zAz (by decide) (by simp only [zMc]; omega) (by simp) (fun v' H' ho' hO' _ hfr=>?_)
      refine zN (r:=i + 1) rfl tO ?_; refine zAU (i + 1,v') rfl ⟨hO',by simp only; omega, ?_⟩ (by simp only; omega)
      simp only
      rw [htk,zMW]
      exact ho'
     ·rw [zLv e1] at hsw
      by_cases e2 : f.col = y
      ·rw [zLx e2] at hsw
       have hgc : g = ⟨x,f.row,f.text⟩:=hg.symm.trans hsw
       subst hgc
       refine zBD l.length hlv hlm ?_; refine zb tT ?_; refine zD0 i (zh f) hlv rfl hfm ?_; refine zt (zh f) rfl ?_; refine zH (v:=zh f) (AV.cells (zh f)) zB rfl rfl rfl rfl ?_; refine zD (zI f.col) (zE zB) rfl ?_; refine zF ?_
       rw [hH2]
       refine zY (tN e1) ?_; refine zb (tE e2) ?_; refine zF ?_; refine zH (v:=zI (x)) (zh ⟨x,f.row,f.text⟩).cells hbx rfl rfl rfl rfl ?_; refine zD (zh { col:=x,row:=f.row,text:=f.text }) (zE hbx) rfl ?_; refine zAs (vs':=[zh { col:=x,row:=f.row,text:=f.text }]) rfl rfl ?_
       rw [hH3]
       refine zCA (H0:=H) (ys:=[zh ⟨x,f.row,f.text⟩]) (ho3.push _) (hO3.push _) zAz (by decide) (by simp only [zMc]; omega) (by simp) (fun v' H' ho' hO' _ hfr=>?_)
       refine zN (r:=i + 1) rfl tO ?_; refine zAU (i + 1,v') rfl ⟨hO',by simp only; omega, ?_⟩ (by simp only; omega)
       simp only
       rw [htk,zMW]
       exact ho'
      ·rw [zLv e2] at hsw
       have hgc : g = ⟨f.col,f.row,f.text⟩:=hg.symm.trans hsw
       subst hgc
       refine zBD l.length hlv hlm ?_; refine zb tT ?_; refine zD0 i (zh f) hlv rfl hfm ?_; refine zt (zh f) rfl ?_; refine zH (v:=zh f) (AV.cells (zh f)) zB rfl rfl rfl rfl ?_; refine zD (zI f.col) (zE zB) rfl ?_; refine zF ?_
       rw [hH2]
       refine zY (tN e1) ?_; refine zY (tN e2) ?_; refine zF ?_; refine zH (v:=zI (f.col)) (zh ⟨f.col,f.row,f.text⟩).cells hbx rfl rfl rfl rfl ?_; refine zD (zh { col:=f.col,row:=f.row,text:=f.text }) (zE hbx) rfl ?_; refine zAs (vs':=[zh f]) rfl rfl ?_
       rw [hH3]
       refine zCA (H0:=H) (ys:=[zh ⟨f.col,f.row,f.text⟩]) (ho3.push _) (hO3.push _) zAz (by decide) (by simp only [zMc]; omega) (by simp) (fun v' H' ho' hO' _ hfr=>?_)
       refine zN (r:=i + 1) rfl tO ?_; refine zAU (i + 1,v') rfl ⟨hO',by simp only; omega, ?_⟩ (by simp only; omega)
       simp only
       rw [htk,zMW]
       exact ho'
   ·have he : l.take i = l:=zMZ tO
    rw [he] at ho
    rcases ho with ⟨rfl,h0⟩ | ⟨bb,rfl,q1,q2,q3⟩
    ·have hl0 : l = []:=by simpa using h0
     subst hl0
     have hs0:=hS0 H1
     clear hSo hS0
     refine zBD 0 hlv rfl ?_; refine zY tF ?_; refine zL hs0 ?_
     exact zBW rfl rfl rfl rfl hO
    ·have hln : ((l.map (swF row x y)).map zh).length = (l.map (swF row x y)).length:=zL6 _
     have hs:=hSo bb (l.map (swF row x y)) H1 (by rw [zL6]; omega) q2
     rw [hln]
     generalize zGi (l.map (swF row x y)) = o at *
     clear hSo hS0
     refine zBD l.length hlv hlm ?_; refine zY tF ?_; refine zL hs ?_
     exact zBW rfl rfl (by cases o <;> rfl) (by cases o <;> rfl) hO
theorem rowsSwap_ev (hR : ∀ (lv : AV) (l : List Fil),zDB lv 3 (l.map zh) → ∀ row x y H,C zCk [lv,.bool row,zI x,zI y] H (rswapV l row x y) H)
  (hP : ∀ (lv : AV) (l : List Fil),zDB lv 3 (l.map zh) → ∀ row x y H,C zFr [lv,.bool row,zI x,zI y] H (.tup [zDp l row x y,eV (zDo l row x y)]) H)
  (hM : ∀ (v v' : AV) (l : List Fil) (n : Nat) H,view H 3 v = some (l.map zh) → view H 3 v' = some (l.map zh) → l.length ≤ 1000000 → C zDb [v,eV n,v',zK n] H (.bool true) H)
  (lv : AV) (l : List Fil) (hlv : zDB lv 3 (l.map zh)) (row : Bool) (x y : Int) (H : Heap) : EFun C GT zEi [lv,.bool row,zI x,zI y] H (.bool true) H:=by
 have h1 : C zCk [lv,.bool row,zI x,zI y] H (.tup [zDp l row x y,zK (zDo l row x y)]) H:=hR lv l hlv row x y H
 have h2:=hP lv l hlv row x y H
 obtain ⟨o,ho,hol⟩ : ∃ o : List Fil,(∀ H,view H 3 (zDp l row x y) = some (o.map zh)) ∧ o.length ≤ 1000000:=by
  unfold zDp
  by_cases e : zDo l row x y = 0
  ·rw [zLx e]
   refine ⟨_,fun H=>(lstF_of _ _).view H, ?_⟩
   have c0 : zBJ l = 0:=Classical.byContradiction fun h=>by unfold zDo at e; rw [zLx h] at e; exact h e
   have:=(zJp l c0).1
   rw [(zHI _).length_eq,zL6]
   omega
  ·rw [zLv e]
   exact ⟨[],fun H=>by simp [view],by simp⟩
 have h3:=hM (zDp l row x y) (zDp l row x y) o (zDo l row x y) H (ho H) (ho H) hol
 generalize zDp l row x y = v at *
 generalize zDo l row x y = n at *
 clear hR hP hM
 refine zZ ?_; refine zL h1 ?_; refine zl rfl ?_; refine zl rfl ?_; refine zL h2 ?_; refine zl rfl ?_; refine zl rfl ?_; refine zL h3 ?_
 exact sRr
end
end Go.AM
set_option maxRecDepth 100000
namespace Go.Proofs.YtljipljfelkodaaGreatDoor
open Go.AM
open Go.AM Go.RowKit
theorem fl_filsq {x : AV} (h : Fits (.sl true shFil) x) : ∃ l : List Fil,∃ q,x = .lst (some q) 3 (l.map zh) ∧ (q = true → l = []):=by
 obtain ⟨q,xs,e,hq,_⟩:=fl_sl h
 obtain ⟨l,q',e',_⟩:=fl_fils h
 rw [e] at e'
 simp only [AV.lst.injEq,zLt] at e'
 obtain ⟨rfl,_,rfl⟩:=e'
 exact ⟨l,q,e,fun h=>zN4.1 (hq h)⟩
section
variable {m : Int} {ev : Value} (hev : ∃ te pe,ev = .iface te pe)
theorem g_sheets (v w : AV) (l : List Fil) (H : Heap) (hv : view H 3 v = some (l.map zh)) (hw : view H 3 w = some (l.map zh)) (hl : l.length ≤ 1000000) : GQ m ev zCt [v,w] H (.bool true) H:=
 zM mixed zKN (ssheets_ev v w l H hv hw hl)
include hev in
theorem g_made (v w : AV) (l : List Fil) (n : Nat) (H : Heap) (hv : view H 3 v = some (l.map zh)) (hw : view H 3 w = some (l.map zh)) (hl : l.length ≤ 1000000) : GQ m ev zDb [v,eV n,w,zK n] H (.bool true) H:=
 zM mixed k_scclaw3_made (made_ev (fun n H=>g_errN n H) g_sheets v w l n H hv hw hl) (hn:=by unfold eV; by_cases h : n = 0 <;> simp only [h,zMR,zMP] <;> exact Go.AM.zHN (by assumption))
theorem g_same (n : Nd) (hE : ∀ H,GQ m ev zR [kidsV n,kidsV n,.fn z8 [] []] H (.bool true) H) (H : Heap) : GQ m ev z8 [ndV n,ndV n] H (.bool true) H:=
 zM mixed k_rows_same (nsame_ev n hE H)
theorem g_equal (xv : AV) (ks : List Nd) (h : zDB xv 12 (ks.map ndV)) (hl : ks.length ≤ 1000000) (hS : ∀ k ∈ ks,∀ H,GQ m ev z8 [ndV k,ndV k] H (.bool true) H) (H : Heap) : GQ m ev zR [xv,xv,.fn z8 [] []] H (.bool true) H:=
 zM mixed zAu (equal_ev xv ks h hl hS H)
theorem g_sameP (t : Bs) (n : Nd) (h : zCd t = some n) (H : Heap) : GQ m ev z8 [ndV n,ndV n] H (.bool true) H:=by
 obtain ⟨h1,_,h3⟩:=parse_is h
 have hl : t.length ≤ 200:=by
  unfold zCd at h
  split at h
  ·rename_i h0; exact h0.1
  ·cases h
 exact same_wf g_same g_equal h1 tO H
theorem g_along (b : Nat) (row : Bool) (cs : List AV) (H : Heap) (hb : H[b]? = some (.box cs)) : GQ m ev zEh [.ref b 0 0 0,.bool row] H (.ref b 0 0 (offV row)) H:=zM mixed k_rows_along (along_ev b row cs H hb)
theorem g_c1 (b n1 n2 n3 : Nat) (row : Bool) (x y : Int) (f : Fil) (H : Heap) (hb : H[b]? = some (.box (zh f).cells)) (h1 : H[n1]? = some (.box [.bool row])) (h2 : H[n2]? = some (.box [zI x])) (h3 : H[n3]? = some (.box [zI y])) (d1 : b ≠ n1) (d2 : b ≠ n2) (d3 : b ≠ n3) :
  GQ m ev zA6 [.ref b 0 0 0,.ref n1 0 0 0,.ref n2 0 0 0,.ref n3 0 0 0] H (.tup [.bool true,.nili]) (H.set b (.box (zh (swF row x y f)).cells)):=zM mixed k_rows_Swap_c1 (swapc1_ev g_along b n1 n2 n3 row x y f H hb h1 h2 h3 d1 d2 d3)
theorem g_c2 (n : Nd) (H : Heap) : GQ m ev zAP [ndV n] H (.tup [ndV n,.nili]) H:=zM mixed k_rows_Swap_c2 (swapc2_ev n H)
include hev in
theorem g_rew (t : Bs) (ht : zA4 t = 0) (H : Heap) : GQ m ev zB6 [.str t,.fn zAP [] []] H (.tup [.str t,.nili]) H:=
 zM mixed zKO (rew_ev (p_const parK2) (p_parse parK2 (parG hev)) g_c2 t ht (g_sameP t) H)
theorem g_sorted (b : Nat) (xs : List Fil) (H : Heap) (hb : H[b]? = some (.row 3 (xs.map zh))) (hne : xs ≠ []) (hl : xs.length ≤ 1000) (hn : (xs.map zJ7).Nodup) : GQ m ev zCZ [.sl (some true) b 3 0 xs.length] H (.sl (some true) b 3 0 xs.length) (H.set b (.row 3 ((zGi xs).map zh))):=
 zM mixed zIu (sorted_ev (fun b xs H h1 h2 h3 h4=>good_sort b xs H h1 h2 h3 h4) b xs H hb hne hl hn)
theorem g_sorted0 (H : Heap) : GQ m ev zCZ [.lst (some true) 0 []] H (.lst (some true) 0 []) H:=zM mixed zIu (sorted0_ev (fun H=>good_sort0 H) H)
include hev in
theorem g_change (lv : AV) (l : List Fil) (hlv : zDB lv 3 (l.map zh)) (hl : l.length ≤ 200) (ht : ∀ f ∈ l,zA4 f.text = 0) (n1 n2 n3 : Nat) (row : Bool) (x y : Int) (hnd : ((l.map (swF row x y)).map zJ7).Nodup) (H : Heap)
  (h1 : H[n1]? = some (.box [.bool row])) (h2 : H[n2]? = some (.box [zI x])) (h3 : H[n3]? = some (.box [zI y])) :
  GQ m ev zD1 [lv,.fn zA6 [] [.ref n1 0 0 0,.ref n2 0 0 0,.ref n3 0 0 0],.fn zAP [] []] H (.tup [lstF 3 ((zGi (l.map (swF row x y))).map zh),.nili]) H:=
 zM mixed k_rows_change (change_ev g_c1 (g_rew hev) g_sorted g_sorted0 lv l hlv hl ht n1 n2 n3 row x y hnd H h1 h2 h3) (hn:=by obtain ⟨q,k,rfl,_⟩:=hlv; rfl)
theorem g_span (row : Bool) (a b : Int) (H : Heap) : GQ m ev zED [.bool row,zI a,zI b] H (.bool (spanB row a b)) H:=zM mixed k_refs_Span (span_ev row a b H)
theorem g_rspan (row : Bool) (a b : Int) (H : Heap) : GQ m ev zCl [.bool row,zI a,zI b] H (.bool (spanB row a b)) H:=zM mixed k_sccref2_Span (rspan_ev row a b H)
include hev in
theorem g_swap (lv : AV) (l : List Fil) (hlv : zDB lv 3 (l.map zh)) (row : Bool) (x y : Int) (H : Heap) : GQ m ev zFr [lv,.bool row,zI x,zI y] H (.tup [zDp l row x y,eV (zDo l row x y)]) H:=
 zM mixed k_rows_Swap (swap_ev (fun lv l H hv=>g_check hev lv l H hv) g_span (fun lv l h1 h2 h3 n1 n2 n3 row x y h4 H k1 k2 k3=>g_change hev lv l h1 h2 h3 n1 n2 n3 row x y h4 H k1 k2 k3) zJp lv l hlv row x y H) (hn:=by obtain ⟨q,k,rfl,_⟩:=hlv; rfl)
theorem g_rsorted (b0 : Nat) (xs : List Fil) (H : Heap) (hx : xs.length ≤ 200) (hb : H[b0]? = some (.row 3 (xs.map zh))) : GQ m ev zBQ [.sl (some true) b0 3 0 xs.length] H (lstF 3 ((zGi xs).map zh)) H:=zM mixed zGN (rsorted_ev (q_ahead refK2) b0 xs H hx hb)
theorem g_rsorted0 (H : Heap) : GQ m ev zBQ [.lst (some true) 0 []] H (.lst (some true) 0 []) H:=zM mixed zGN (rsorted0_ev H)
theorem g_rswap (lv : AV) (l : List Fil) (hlv : zDB lv 3 (l.map zh)) (row : Bool) (x y : Int) (H : Heap) : GQ m ev zCk [lv,.bool row,zI x,zI y] H (rswapV l row x y) H:=
 zM mixed k_sccref3_Swap (rswap_ev g_rcheck g_rspan g_rsorted g_rsorted0 lv l hlv row x y H) (hn:=by obtain ⟨q,k,rfl,_⟩:=hlv; rfl)
include hev in
theorem g_rowsSwap {x0 : AV} (h0 : Fits (.sl true shFil) x0) (row : Bool) (x y : Int) (H : Heap) : GQ m ev zEg [x0,.bool row,zI x,zI y] H (.bool true) H:=by
 obtain ⟨l,q,rfl,_⟩:=fl_filsq h0
 exact zM mixed zIt (rowsSwap_ev g_rswap (g_swap hev) (g_made hev) _ l ⟨_,_,rfl,.inl rfl⟩ row x y H)
end
end Go.Proofs.YtljipljfelkodaaGreatDoor
