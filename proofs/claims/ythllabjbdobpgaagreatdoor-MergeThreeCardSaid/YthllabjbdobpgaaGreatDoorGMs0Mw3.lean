/- Several texts of mine in one (Ms0, Made, Mw1, Mw2, Mw3). Own work. -/
import Derived.Test.YthllabjbdobpgaaGreatDoorGMg4Mcp
import Derived.Test.YthllabjbdobpgaaGreatDoorUk
import Derived.Test.YthllabjbdobpgaaGreatDoorGSk1Ins
import Derived.Test.YthllabjbdobpgaaGreatDoorGAm23Am29
set_option linter.all false
set_option maxRecDepth 100000
namespace Go.Proofs.YthllabjbdobpgaaGreatDoor
open Go.AM Go.Shelf Go.RowKit Go.Lib Go.Sort Go.Proofs
set_option maxHeartbeats 2000000 in
theorem ins_nil (fv : Value) (w : World) : Calls Tryz.prog 62 #[.slice none 0 0,.int .i64 0,.int .i64 0,fv] w fun e w'=>e = .returned (.tuple #[]) ∧ w' = w:=by
 go_enter Tryz.func62,Tryz.ntmps62
 go_wp2
 refine _root_.Go.wp_loop_rounds 1 ?_
 rw [rounds_succ]
 go_wp2
 go_end0
 exact ⟨rfl,rfl⟩
set_option maxHeartbeats 2000000 in
theorem pdq_nil (lim : Int) (fv : Value) (w : World) : Calls Tryz.prog 45 #[.slice none 0 0,.int .i64 0,.int .i64 0,.int .i64 lim,fv] w fun e w'=>e = .returned (.tuple #[]) ∧ w' = w:=by
 have hi:=fun W=>ins_nil fv W
 go_enter Tryz.func45,Tryz.ntmps45
 go_wp2
 refine _root_.Go.wp_loop_rounds 1 ?_
 rw [rounds_succ]
 go_wp2_with (go_at_call 62; refine (hi _).mono ?_; rintro e w' ⟨rfl,rfl⟩)
 (try simp only [Exit.inBlock,Exit.then]); refine bodyPost_ret (results_none rfl _ _ _) rfl ?_
 exact ⟨rfl,rfl⟩
set_option maxHeartbeats 2000000 in
theorem sort_nil (fv : Value) (w : World) : Calls Tryz.prog 31 #[.slice none 0 0,fv] w fun e w'=>e = .returned (.tuple #[]) ∧ w' = w:=by
 have hp:=fun lim W=>pdq_nil lim fv W
 have hl : ∀ W,Calls Tryz.prog 46 #[.int .u64 0] W fun e w'=>e = .returned (.int .i64 (Lib.bitLen 0 : Nat)) ∧ w' = W:=fun W=>by
  have h:=Any.bits_Len (SlLaysF0.n15.bits (P:=Tryz.prog) (ρ:=Tryz.ownSort_ren) { Tryz.ownSort with }) 0 W tO tO
  exact h
 go_enter Tryz.func31,Tryz.ntmps31
 go_wp2_with (first | (go_at_call 46; refine (hl _).mono ?_; rintro e w' ⟨rfl,rfl⟩) | (go_at_call 45; refine (hp _ _).mono ?_; rintro e w' ⟨rfl,rfl⟩))
 go_end0
 exact ⟨rfl,rfl⟩
theorem good_sort0 {GT : Nat → Option AV} (H : Heap) : Go.AM.Good Tryz.prog GT 31 [.lst (some true) 0 [],.fn 32 [] []] H (.tup []) H:=by
 refine zIJ Tryz.func31 (by kernel_rfl) (by kernel_rfl) rfl fun w M I cargs hS hA=>?_
 obtain ⟨v1,v2,rfl,r1,r2⟩:=relL_two hA
 obtain rfl : v1 = .slice none 0 0:=by
  cases r1 with
  | lnil=>rfl
  | lemp _ _ _ hq=>exact absurd rfl hq
  | lst _ _ _ _ _ _ _ hq=>exact absurd rfl hq
 refine Calls.mono (sort_nil v2 w) ?_
 rintro e' w' ⟨rfl,rfl⟩
 exact ⟨_,rfl,M,I,Go.AM.Grow.refl _ _ _ _,hS,.tup [] [] rfl fun i c v h _=>by simp at h⟩
section
variable {C : CSpec} {GT : Nat → Option AV}
theorem compact0_ev (H : Heap) : EFun C GT zAX [.lst (some true) 0 []] H (.lst (some true) 0 []) H:=by
 refine zc ?_; refine zA8 0 (⟨_,_,rfl,.inr rfl⟩ : zAs (.lst (some true) 0 []) 2 []) rfl ?_; refine zP tT ?_
 exact sRr
end
end Go.Proofs.YthllabjbdobpgaaGreatDoor
set_option maxRecDepth 20000
namespace Go.AM
section
variable {C : CSpec} {GT : Nat → Option AV}
theorem made_ev (hR : ∀ n H,C zDY [eV n,zJ n] H (.bool true) H) (hS : ∀ v w (l : List Fil) H,view H 3 v = some (l.map zb) → view H 3 w = some (l.map zb) → l.length ≤ 1000000 → C zC6 [v,w] H (.bool true) H)
  (v w : AV) (l : List Fil) (n : Nat) (H : Heap) (hv : view H 3 v = some (l.map zb)) (hw : view H 3 w = some (l.map zb)) (hl : l.length ≤ 1000000) : EFun C GT zIB [v,eV n,w,zJ n] H (.bool true) H:=by
 have hr:=hR n H
 have hs:=hS v w l H hv hw hl
 clear hR hS
 refine zc ?_; refine zI hr ?_; refine zI hs ?_; refine zH <| zH ?_
 exact sRr
end
end Go.AM
set_option maxRecDepth 20000
namespace Go.AM
section
variable {C : CSpec} {GT : Nat → Option AV}
theorem texts_ev (lv : AV) (l : List Fil) (H : Heap) (hv : view H 3 lv = some (l.map zb)) (hs : Srtd l) (hl : l.length ≤ 1000) : EFun C GT zI6 [lv] H (.mps (l.map zAj) (l.map txV)) H:=by
 have hlm : (l.map zb).length = l.length:=zMl _
 have hv0:=zDU ((Old.refl H).push [ABlk.mp [] []]) hv
 refine zc ?_; refine sMkmap ?_; refine sLenN l.length hv0 hlm ?_; refine zBB (fun i : Nat=>[(9,zJ i),(3,.mp H.length),(7,lv),(8,zJ l.length)]) (fun i H'=>Old H H' ∧ i ≤ l.length ∧ H'[H.length]? = some (.mp ((l.take i).map zAj) ((l.take i).map txV))) (fun i=>l.length - i) 0 rfl ⟨(Old.refl H).push _,by simp,zD⟩ (fun i H1 hi=>?_)
 obtain ⟨hO,hi,hb⟩:=hi
 dsimp only
 have hv1:=zDU hO hv
 by_cases hlt : i < l.length
 ·obtain ⟨g,hg⟩ : ∃ g,l[i]? = some g:=⟨_,zMf hlt⟩
  have hgm : (l.map zb)[i]? = some (zb g):=by rw [zMq,hg]; rfl
  have htk : l.take (i + 1) = l.take i ++ [g]:=by rw [zNi,hg]; rfl
  have hput:=mput_new (l:=l.take i) (f:=g) (by rw [← htk]; exact hs.sublist (List.take_sublist _ _))
  rw [← htk] at hput
  have hbl:=(zg hb).1
  refine zP tT ?_; refine zHG i (zb g) hv1 rfl hgm (fun p hp=>?_)
  refine zz (zb g) hp rfl ?_; refine zF (v:=zb g) (AV.cells (zb g)) zD rfl rfl rfl rfl ?_; refine zB (zr g.col g.row) (zE zD) rfl ?_; refine zB (AV.str g.text) (zE zD) rfl ?_; refine sMset (zA tO (zC hb)) rfl rfl hput ?_; refine zM (r:=i + 1) rfl tO ?_; refine zAA (i + 1) rfl ⟨((hO.push _).set hO.1 _).set (zMh _) _,by omega, ?_⟩ tO
  exact set_atL (by simp; omega)
 ·have he : l.take i = l:=zM7 tO
  rw [he] at hb
  refine zO tF ?_
  exact zKj rfl rfl (frz_mp (zMh _) hb) rfl (hO.set (zMh _) _)
theorem mcheck_ev (hG : ∀ lv l H,view H 3 lv = some (l.map zb) → C zDZ [lv] H (eV (zBH l)) H) (v : AV) (vs : List AV) (ls : List (List Fil)) (H : Heap) (hv : view H 1 v = some vs) (hl : vs.length = ls.length) (hll : ls.length ≤ 1000)
  (hvs : ∀ (i : Nat) (x : AV) (l : List Fil),vs[i]? = some x → ls[i]? = some l → x.cells = [x] ∧ view H 3 x = some (l.map zb)) : EFun C GT zI5 [v] H (eV (zAa ls)) H:=by
 obtain ⟨R,hR⟩ : ∃ R,zAa ls = R:=⟨_,rfl⟩
 rw [hR]
 refine zc ?_; refine sLenN ls.length hv hl ?_; refine zBB (fun i : Nat=>[(8,zJ i),(6,v),(7,zJ ls.length)]) (fun i H'=>H' = H ∧ i ≤ ls.length ∧ zAa (ls.drop i) = R) (fun i=>ls.length - i) 0 rfl ⟨rfl,by simp,hR⟩ (fun i H1 hi=>?_)
 obtain ⟨hH,hi,hk⟩:=hi
 subst hH
 dsimp only
 by_cases hlt : i < ls.length
 ·obtain ⟨l,hli⟩ : ∃ l,ls[i]? = some l:=⟨_,zMf hlt⟩
  obtain ⟨x,hx⟩ : ∃ x,vs[i]? = some x:=⟨_,zMf tO⟩
  obtain ⟨hc,hxv⟩:=hvs i x l hx hli
  have hg:=hG x l H1 hxv
  rw [checkAll_drop ls i l hli] at hk
  have hpt : part x.cells 0 1 false = some x:=by rw [hc]; rfl
  by_cases h0 : zBH l = 0
  ·rw [zMg h0] at hk
   rw [h0] at hg
   have hg : C zDZ [x] H1 .nili H1:=hg
   refine zP tT ?_; refine zHG i x hv rfl hx (fun p hp=>?_)
   refine zz x hp hpt ?_; refine zI hg ?_; refine zS rfl ?_; refine zG ?_; refine zM (r:=i + 1) rfl tO ?_; refine zAA (i + 1) rfl ⟨rfl,by omega,hk⟩ tO
  ·rw [zMe h0] at hk
   rw [hk] at hg h0
   have he : eV R = zFX (R : Nat):=by unfold eV; rw [zMe h0]
   rw [he] at hg ⊢
   refine zP tT ?_; refine zHG i x hv rfl hx (fun p hp=>?_)
   refine zz x hp hpt ?_; refine zI hg ?_; refine zS rfl ?_; refine zH ?_
   exact sRr
 ·have : ls.drop i = []:=List.drop_of_length_le tO
  rw [this] at hk
  have hk : R = 0:=hk.symm
  subst hk
  refine zO tF ?_
  exact sRr
end
end Go.AM
set_option maxRecDepth 20000
namespace Go.AM
theorem flat_take (ls : List (List Fil)) (i : Nat) (l : List Fil) (h : ls[i]? = some l) : (ls.take (i + 1)).flatMap (fun l=>l.map zAj) = (ls.take i).flatMap (fun l=>l.map zAj) ++ l.map zAj:=by
 rw [zNi,h,zPT]
 simp
section
variable {C : CSpec} {GT : Nat → Option AV}
set_option maxHeartbeats 4000000 in
theorem cells_ev (hS : ∀ (b : Nat) (xs : List (Int × Int)) H,H[b]? = some (.row 2 (xs.map cV)) → xs ≠ [] → xs.length ≤ 1000 → C zAW [.sl (some true) b 2 0 xs.length,.fn zBk [] []] H (.tup []) (H.set b (.row 2 ((zDI xs).map cV))))
  (hS0 : ∀ H,C zAW [.lst (some true) 0 [],.fn zBk [] []] H (.tup []) H) (hC0 : ∀ H,C zo [.lst (some true) 0 []] H (.lst (some true) 0 []) H)
  (hC : ∀ (b : Nat) (xs : List (Int × Int)) H,H[b]? = some (.row 2 (xs.map cV)) → xs ≠ [] → xs.length ≤ 1000 → C zo [.sl (some true) b 2 0 xs.length] H (.sl (some true) b 2 0 (zj xs).length) (H.set b (.row 2 ((padL xs).map cV))))
  (v : AV) (vs : List AV) (ls : List (List Fil)) (H : Heap) (hv : view H 1 v = some vs) (hl : vs.length = ls.length) (hll : ls.length ≤ 3) (hle : ∀ l ∈ ls,l.length ≤ 200)
  (hvs : ∀ (i : Nat) (x : AV) (l : List Fil),vs[i]? = some x → ls[i]? = some l → x.cells = [x] ∧ x.one = true ∧ view H 3 x = some (l.map zb)) : EFun C GT zI7 [v] H (zFi 2 ((zB6 ls).map cV)) H:=by
 have hvl:=zLF hv
 obtain ⟨F,hF⟩ : ∃ F,ls.flatMap (fun l=>l.map zAj) = F:=⟨_,rfl⟩
 have hFl : F.length ≤ 600:=by
  rw [← hF,zPS]
  have : ∀ ls : List (List Fil),(∀ l ∈ ls,l.length ≤ 200) → (ls.map fun l=>(l.map zAj).length).sum ≤ 200 * ls.length:=fun ls h=>by
   induction ls with
   | nil=>simp
   | cons l r ih=>
    have h1:=h l (by simp)
    have h2:=ih fun x hx=>h x (zNl _ hx)
    simp only [zMp,List.sum_cons,zMl,zMi] at *
    omega
  have:=this ls hle
  omega
 refine zc ?_; refine sLenN ls.length hv hl ?_; refine zBB (fun x : Nat × AV=>[(3,x.2),(10,zJ x.1),(8,v),(9,zJ ls.length)]) (fun x H'=>Old H H' ∧ x.1 ≤ ls.length ∧ Owns H H' x.2 2 (((ls.take x.1).flatMap fun l=>l.map zAj).map cV)) (fun x=>ls.length - x.1) (0,.lst (some true) 0 []) rfl ⟨Old.refl H,by simp,.inl ⟨rfl,by simp⟩⟩ (fun x H1 hi=>?_)
 obtain ⟨i,out⟩:=x
 obtain ⟨hO,hi,ho⟩:=hi
 dsimp only at hi ho ⊢
 have hv1:=zDU hO hv
 by_cases hlt : i < ls.length
 ·obtain ⟨l,hli⟩ : ∃ l,ls[i]? = some l:=⟨_,zMf hlt⟩
  obtain ⟨x,hx⟩ : ∃ x,vs[i]? = some x:=⟨_,zMf tO⟩
  obtain ⟨hc,hx1,hxv⟩:=hvs i x l hx hli
  have hll2:=hle l (zM3 hli)
  have hxv1:=zDU hO hxv
  have hlm : (l.map zb).length = l.length:=zMl _
  have hpt : part x.cells 0 1 false = some x:=by rw [hc]; rfl
  obtain ⟨base,hbase⟩ : ∃ base,(ls.take i).flatMap (fun l=>l.map zAj) = base:=⟨_,rfl⟩
  have hbl : base.length ≤ 600:=by
   have e : ls = ls.take i ++ ls.drop i:=(zOt i ls).symm
   have : F = base ++ (ls.drop i).flatMap (fun l=>l.map zAj):=by rw [← hF,← hbase,← List.flatMap_append,← e]
   rw [this,zMn] at hFl; omega
  have hbn:=flat_take ls i l hli
  rw [hbase] at ho hbn
  refine zP tT ?_; refine zHG i x hv1 rfl hx (fun p hp=>?_)
  refine zz x hp hpt ?_; refine sLenN l.length hxv1 hlm ?_; refine zBB (fun y : Nat × AV=>[(16,zJ y.1),(3,y.2),(14,x),(8,v),(9,zJ ls.length),(10,zJ i),(15,zJ l.length)]) (fun y H'=>Old H H' ∧ y.1 ≤ l.length ∧ Owns H H' y.2 2 ((base ++ (l.take y.1).map zAj).map cV)) (fun y=>l.length - y.1) (0,out) rfl ⟨hO,by simp,by simpa using ho⟩ (fun y H2 hi2=>?_)
  obtain ⟨j,out2⟩:=y
  obtain ⟨hO2,hj,ho2⟩:=hi2
  dsimp only at hj ho2 ⊢
  by_cases hlt2 : j < l.length
  ·obtain ⟨g,hg⟩ : ∃ g,l[j]? = some g:=⟨_,zMf hlt2⟩
   have hgm : (l.map zb)[j]? = some (zb g):=by rw [zMq,hg]; rfl
   have hxv2:=zDU hO2 hxv
   have htk : (l.take (j + 1)).map zAj = (l.take j).map zAj ++ [zAj g]:=by rw [zNi,hg]; simp
   refine zP tT ?_; refine zHG j (zb g) hxv2 rfl hgm (fun p hp=>?_)
   refine zz (zb g) hp rfl ?_; refine zF (v:=zb g) (AV.cells (zb g)) zD rfl rfl rfl rfl ?_; refine zB (zr g.col g.row) (zE zD) rfl ?_; refine zAD rfl rfl ?_; refine zAV (H0:=H) (ys:=[cV (zAj g)]) ((ho2.pushSet _ _).push _) (((hO2.push _).set hO2.1 _).push _) zAB (by decide) (by simp only [zMl,zMn,zMy,zNs]; omega) (by simp) (fun v' H' ho' hO' _ hfr=>?_)
   refine zM (r:=j + 1) rfl tO ?_; refine zAA (j + 1,v') rfl ⟨hO',by simp only; omega, ?_⟩ (by simp only; omega)
   have e : [cV (zAj g)] = [zAj g].map cV:=rfl
   rw [e,← List.map_append] at ho'
   rw [htk,← List.append_assoc]
   exact ho'
  ·have he : l.take j = l:=zM7 tO
   rw [he,← hbn] at ho2
   refine zO tF ?_; refine zM (r:=i + 1) rfl tO ?_; refine zAA (i + 1,out2) rfl ⟨hO2,by simp only; omega,ho2⟩ (by simp only; omega)
 ·have he : ls.take i = ls:=zM7 tO
  rw [he,hF] at ho
  refine zO tF ?_
  rcases ho with ⟨rfl,hnil⟩ | ⟨b,rfl,hb0,hb,hne⟩
  ·have hF0 : F = []:=zOR.1 hnil
   have hcs : zB6 ls = []:=by unfold zB6; rw [hF,hF0,show zDI [] = [] from zOP.1 (zER []).length_eq]; rfl
   rw [hcs]
   refine zI (hS0 _) ?_; refine zI (hC0 _) ?_
   exact zBO rfl rfl rfl rfl hO
  ·have hFn : F ≠ []:=fun e=>hne (by rw [e]; rfl)
   have hbl:=(zg hb).1
   have hs:=hS b F H1 hb hFn tO
   have hsl : (zDI F).length = F.length:=(zER F).length_eq
   have hsn : zDI F ≠ []:=fun e=>hFn (zOP.1 (by rw [← hsl,e]; rfl))
   have hc:=hC b (zDI F) (H1.set b (.row 2 ((zDI F).map cV))) (zMz hbl) hsn tO
   have hcs : zB6 ls = zj (zDI F):=by unfold zB6; rw [hF]
   rw [zMl]
   rw [hsl,zOJ] at hc
   have hcn : (zB6 ls).map cV ≠ []:=by
    rw [hcs]
    intro e
    have e:=zOR.1 e
    obtain ⟨z,r,hz⟩:=zN6 hsn
    have:=(zDN (zDI F) z).2 (by rw [hz]; simp)
    rw [e] at this; simp at this
   have hfz : zDR H.length (.sl (some true) b 2 0 (zj (zDI F)).length) (H1.set b (.row 2 ((padL (zDI F)).map cV))) = some (zFi 2 ((zB6 ls).map cV),(H1.set b (.row 2 ((padL (zDI F)).map cV))).set b (.frz 2 ((padL (zDI F)).map cV))):=by
    simp only [zDR]
    rw [zMe tO,zMz hbl]
    have hle : 0 + (zj (zDI F)).length ≤ ((padL (zDI F)).map cV).length:=by unfold padL; simp
    have htk : (((padL (zDI F)).map cV).drop 0).take (zj (zDI F)).length = (zB6 ls).map cV:=by
     rw [zOs,← List.map_take,hcs]
     unfold padL
     rw [List.take_left]
    simp only [true_and,zMg hle,htk]
    rw [hcs] at hcn ⊢
    cases hq : (zj (zDI F)).map cV with
    | nil=>exact absurd hq hcn
    | cons z r=>rfl
   refine zp hs (fun h=>by cases h) ?_; refine zp hc (fun h=>by cases h) ?_
   exact zKj rfl rfl hfz (zLG _ _ _) ((hO.set hb0 _).set hb0 _)
end
end Go.AM
set_option maxRecDepth 20000
namespace Go.AM
section
variable {C : CSpec} {GT : Nat → Option AV}
structure MergC (C : CSpec) : Prop where
 check : ∀ (v : AV) (vs : List AV) (ls : List (List Fil)) H,view H 1 v = some vs → vs.length = ls.length → ls.length ≤ 1000 → (∀ (i : Nat) (x : AV) (l : List Fil),vs[i]? = some x → ls[i]? = some l → x.cells = [x] ∧ view H 3 x = some (l.map zb)) → C zEK [v] H (eV (zAa ls)) H
 texts : ∀ (lv : AV) (l : List Fil) H,view H 3 lv = some (l.map zb) → Srtd l → l.length ≤ 1000 → C zDX [lv] H (.mps (l.map zAj) (l.map txV)) H
 cells : ∀ (v : AV) (vs : List AV) (ls : List (List Fil)) H,view H 1 v = some vs → vs.length = ls.length → ls.length ≤ 3 → (∀ l ∈ ls,l.length ≤ 200) → (∀ (i : Nat) (x : AV) (l : List Fil),vs[i]? = some x → ls[i]? = some l → x.cells = [x] ∧ x.one = true ∧ view H 3 x = some (l.map zb)) → C zGG [v] H (zFi 2 ((zB6 ls).map cV)) H
end
end Go.AM
