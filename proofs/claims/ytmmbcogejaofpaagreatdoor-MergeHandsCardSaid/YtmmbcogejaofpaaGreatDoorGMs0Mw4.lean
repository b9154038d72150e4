/- Several texts of mine in one (Ms0, Mw1, Mw2, Mw3, Mw4). Own work. -/
import Derived.Test.YtmmbcogejaofpaaGreatDoorGMg4Mcp
import Derived.Test.YtmmbcogejaofpaaGreatDoorGMkAm27
import Derived.Test.YtmmbcogejaofpaaGreatDoorGInsDlg
set_option linter.all false
set_option maxRecDepth 100000
namespace Go.Proofs.YtmmbcogejaofpaaGreatDoor
open Go.AM Go.Shelf Go.RowKit Go.Lib Go.Sort Go.Proofs
set_option maxHeartbeats 2000000 in
theorem ins_nil (fv : Value) (w : World) : Calls Tryz.prog 57 #[.slice none 0 0,.int .i64 0,.int .i64 0,fv] w fun e w'=>e = .returned (.tuple #[]) ∧ w' = w:=by
 go_enter Tryz.func57,Tryz.ntmps57
 go_wp2
 refine _root_.Go.wp_loop_rounds 1 ?_
 rw [rounds_succ]
 go_wp2
 go_end0
 exact ⟨rfl,rfl⟩
set_option maxHeartbeats 2000000 in
theorem pdq_nil (lim : Int) (fv : Value) (w : World) : Calls Tryz.prog 41 #[.slice none 0 0,.int .i64 0,.int .i64 0,.int .i64 lim,fv] w fun e w'=>e = .returned (.tuple #[]) ∧ w' = w:=by
 have hi:=fun W=>ins_nil fv W
 go_enter Tryz.func41,Tryz.ntmps41
 go_wp2
 refine _root_.Go.wp_loop_rounds 1 ?_
 rw [rounds_succ]
 go_wp2_with (go_at_call 57; refine (hi _).mono ?_; rintro e w' ⟨rfl,rfl⟩)
 (try simp only [Exit.inBlock,Exit.then]); refine bodyPost_ret (results_none rfl _ _ _) rfl ?_
 exact ⟨rfl,rfl⟩
set_option maxHeartbeats 2000000 in
theorem sort_nil (fv : Value) (w : World) : Calls Tryz.prog 27 #[.slice none 0 0,fv] w fun e w'=>e = .returned (.tuple #[]) ∧ w' = w:=by
 have hp:=fun lim W=>pdq_nil lim fv W
 have hl : ∀ W,Calls Tryz.prog 42 #[.int .u64 0] W fun e w'=>e = .returned (.int .i64 (Lib.bitLen 0 : Nat)) ∧ w' = W:=fun W=>by
  have h:=Any.bits_Len (SlLaysF0.n15.bits (P:=Tryz.prog) (ρ:=Tryz.ownSort_ren) { Tryz.ownSort with }) 0 W tO tO
  exact h
 go_enter Tryz.func27,Tryz.ntmps27
 go_wp2_with (first | (go_at_call 42; refine (hl _).mono ?_; rintro e w' ⟨rfl,rfl⟩) | (go_at_call 41; refine (hp _ _).mono ?_; rintro e w' ⟨rfl,rfl⟩))
 go_end0
 exact ⟨rfl,rfl⟩
theorem good_sort0 {GT : Nat → Option AV} (H : Heap) : Go.AM.Good Tryz.prog GT 27 [.lst (some true) 0 [],.fn 28 [] []] H (.tup []) H:=by
 refine zCu Tryz.func27 (by kernel_rfl) (by kernel_rfl) rfl fun w M I cargs hS hA=>?_
 obtain ⟨v1,v2,rfl,r1,r2⟩:=relL_two hA
 obtain rfl : v1 = .slice none 0 0:=by
  cases r1 with
  | lnil=>rfl
  | lemp _ _ _ hq=>exact absurd rfl hq
  | lst _ _ _ _ _ _ _ hq=>exact absurd rfl hq
 refine Calls.mono (sort_nil v2 w) ?_
 rintro e' w' ⟨rfl,rfl⟩
 exact ⟨_,rfl,M,I,Go.AM.Grow.refl _ _ _ _,hS,.tup [] [] rfl fun i c v h _=>by simp at h⟩
section
variable {C : CSpec} {GT : Nat → Option AV}
theorem compact0_ev (H : Heap) : EFun C GT zAD [.lst (some true) 0 []] H (.lst (some true) 0 []) H:=by
 refine zW ?_; refine zAG 0 (⟨_,_,rfl,.inr rfl⟩ : zAE (.lst (some true) 0 []) 2 []) rfl ?_; refine zi tT ?_
 exact sRr
end
end Go.Proofs.YtmmbcogejaofpaaGreatDoor
set_option maxRecDepth 20000
namespace Go.AM
section
variable {C : CSpec} {GT : Nat → Option AV}
theorem texts_ev (lv : AV) (l : List Fil) (H : Heap) (hv : view H 3 lv = some (l.map zO)) (hs : Srtd l) (hl : l.length ≤ 1000) : EFun C GT zGr [lv] H (.mps (l.map zA1) (l.map txV)) H:=by
 have hlm : (l.map zO).length = l.length:=List.length_map _
 have hv0:=zEc ((Old.refl H).push [ABlk.mp [] []]) hv
 refine zW ?_; refine sMkmap ?_; refine zHR l.length hv0 hlm ?_; refine zCC (fun i : Nat=>[(9,zR i),(3,.mp H.length),(7,lv),(8,zR l.length)]) (fun i H'=>Old H H' ∧ i ≤ l.length ∧ H'[H.length]? = some (.mp ((l.take i).map zA1) ((l.take i).map txV))) (fun i=>l.length - i) 0 rfl ⟨(Old.refl H).push _,by simp,zD⟩ (fun i H1 hi=>?_)
 obtain ⟨hO,hi,hb⟩:=hi
 dsimp only
 have hv1:=zEc hO hv
 by_cases hlt : i < l.length
 ·obtain ⟨g,hg⟩ : ∃ g,l[i]? = some g:=⟨_,List.getElem?_eq_getElem hlt⟩
  have hgm : (l.map zO)[i]? = some (zO g):=by rw [List.getElem?_map,hg]; rfl
  have htk : l.take (i + 1) = l.take i ++ [g]:=by rw [List.take_succ,hg]; rfl
  have hput:=mput_new (l:=l.take i) (f:=g) (by rw [← htk]; exact hs.sublist (List.take_sublist _ _))
  rw [← htk] at hput
  have hbl:=(zg hb).1
  refine zi tT ?_; refine zDX i (zO g) hv1 rfl hgm (fun p hp=>?_)
  refine zBD (zO g) hp rfl ?_; refine zH (v:=zO g) (AV.cells (zO g)) zD rfl rfl rfl rfl ?_; refine zC (zAu g.col g.row) (zE zD) rfl ?_; refine zC (AV.str g.text) (zE zD) rfl ?_; refine sMset (zB tO (zA hb)) rfl rfl hput ?_; refine zh (r:=i + 1) rfl tO ?_; refine zAq (i + 1) rfl ⟨((hO.push _).set hO.1 _).set (Nat.le_refl _) _,by omega, ?_⟩ tO
  exact set_atL (by simp; omega)
 ·have he : l.take i = l:=List.take_of_length_le tO
  rw [he] at hb
  refine zY tF ?_
  exact sRetF rfl rfl (frz_mp (Nat.le_refl _) hb) rfl (hO.set (Nat.le_refl _) _)
theorem mcheck_ev (hG : ∀ lv l H,view H 3 lv = some (l.map zO) → C zCW [lv] H (eV (zCl l)) H) (v : AV) (vs : List AV) (ls : List (List Fil)) (H : Heap) (hv : view H 1 v = some vs) (hl : vs.length = ls.length) (hll : ls.length ≤ 1000)
  (hvs : ∀ (i : Nat) (x : AV) (l : List Fil),vs[i]? = some x → ls[i]? = some l → x.cells = [x] ∧ view H 3 x = some (l.map zO)) : EFun C GT zGq [v] H (eV (zk ls)) H:=by
 obtain ⟨R,hR⟩ : ∃ R,zk ls = R:=⟨_,rfl⟩
 rw [hR]
 refine zW ?_; refine zHR ls.length hv hl ?_; refine zCC (fun i : Nat=>[(8,zR i),(6,v),(7,zR ls.length)]) (fun i H'=>H' = H ∧ i ≤ ls.length ∧ zk (ls.drop i) = R) (fun i=>ls.length - i) 0 rfl ⟨rfl,by simp,hR⟩ (fun i H1 hi=>?_)
 obtain ⟨hH,hi,hk⟩:=hi
 subst hH
 dsimp only
 by_cases hlt : i < ls.length
 ·obtain ⟨l,hli⟩ : ∃ l,ls[i]? = some l:=⟨_,List.getElem?_eq_getElem hlt⟩
  obtain ⟨x,hx⟩ : ∃ x,vs[i]? = some x:=⟨_,List.getElem?_eq_getElem tO⟩
  obtain ⟨hc,hxv⟩:=hvs i x l hx hli
  have hg:=hG x l H1 hxv
  rw [checkAll_drop ls i l hli] at hk
  have hpt : part x.cells 0 1 false = some x:=by rw [hc]; rfl
  by_cases h0 : zCl l = 0
  ·rw [if_pos h0] at hk
   rw [h0] at hg
   have hg : C zCW [x] H1 .nili H1:=hg
   refine zi tT ?_; refine zDX i x hv rfl hx (fun p hp=>?_)
   refine zBD x hp hpt ?_; refine zG hg ?_; refine zJ rfl ?_; refine zF ?_; refine zh (r:=i + 1) rfl tO ?_; refine zAq (i + 1) rfl ⟨rfl,by omega,hk⟩ tO
  ·rw [if_neg h0] at hk
   rw [hk] at hg h0
   have he : eV R = zEX (R : Nat):=by unfold eV; rw [if_neg h0]
   rw [he] at hg ⊢
   refine zi tT ?_; refine zDX i x hv rfl hx (fun p hp=>?_)
   refine zBD x hp hpt ?_; refine zG hg ?_; refine zJ rfl ?_; refine zI ?_
   exact sRr
 ·have : ls.drop i = []:=List.drop_of_length_le tO
  rw [this] at hk
  have hk : R = 0:=hk.symm
  subst hk
  refine zY tF ?_
  exact sRr
end
end Go.AM
set_option maxRecDepth 20000
namespace Go.AM
theorem flat_take (ls : List (List Fil)) (i : Nat) (l : List Fil) (h : ls[i]? = some l) : (ls.take (i + 1)).flatMap (fun l=>l.map zA1) = (ls.take i).flatMap (fun l=>l.map zA1) ++ l.map zA1:=by
 rw [List.take_succ,h,List.flatMap_append]
 simp
section
variable {C : CSpec} {GT : Nat → Option AV}
set_option maxHeartbeats 4000000 in
theorem cells_ev (hS : ∀ (b : Nat) (xs : List (Int × Int)) H,H[b]? = some (.row 2 (xs.map cV)) → xs ≠ [] → xs.length ≤ 1000 → C zAC [.sl (some true) b 2 0 xs.length,.fn zAk [] []] H (.tup []) (H.set b (.row 2 ((zCO xs).map cV))))
  (hS0 : ∀ H,C zAC [.lst (some true) 0 [],.fn zAk [] []] H (.tup []) H) (hC0 : ∀ H,C zZ [.lst (some true) 0 []] H (.lst (some true) 0 []) H)
  (hC : ∀ (b : Nat) (xs : List (Int × Int)) H,H[b]? = some (.row 2 (xs.map cV)) → xs ≠ [] → xs.length ≤ 1000 → C zZ [.sl (some true) b 2 0 xs.length] H (.sl (some true) b 2 0 (zT xs).length) (H.set b (.row 2 ((padL xs).map cV))))
  (v : AV) (vs : List AV) (ls : List (List Fil)) (H : Heap) (hv : view H 1 v = some vs) (hl : vs.length = ls.length) (hll : ls.length ≤ 3) (hle : ∀ l ∈ ls,l.length ≤ 200)
  (hvs : ∀ (i : Nat) (x : AV) (l : List Fil),vs[i]? = some x → ls[i]? = some l → x.cells = [x] ∧ x.one = true ∧ view H 3 x = some (l.map zO)) : EFun C GT zGs [v] H (zCU 2 ((zA5 ls).map cV)) H:=by
 have hvl:=zFh hv
 obtain ⟨F,hF⟩ : ∃ F,ls.flatMap (fun l=>l.map zA1) = F:=⟨_,rfl⟩
 have hFl : F.length ≤ 600:=by
  rw [← hF,List.length_flatMap]
  have : ∀ ls : List (List Fil),(∀ l ∈ ls,l.length ≤ 200) → (ls.map fun l=>(l.map zA1).length).sum ≤ 200 * ls.length:=fun ls h=>by
   induction ls with
   | nil=>simp
   | cons l r ih=>
    have h1:=h l (by simp)
    have h2:=ih fun x hx=>h x (List.mem_cons_of_mem _ hx)
    simp only [List.map_cons,List.sum_cons,List.length_map,List.length_cons] at *
    omega
  have:=this ls hle
  omega
 refine zW ?_; refine zHR ls.length hv hl ?_; refine zCC (fun x : Nat × AV=>[(3,x.2),(10,zR x.1),(8,v),(9,zR ls.length)]) (fun x H'=>Old H H' ∧ x.1 ≤ ls.length ∧ Owns H H' x.2 2 (((ls.take x.1).flatMap fun l=>l.map zA1).map cV)) (fun x=>ls.length - x.1) (0,.lst (some true) 0 []) rfl ⟨Old.refl H,by simp,.inl ⟨rfl,by simp⟩⟩ (fun x H1 hi=>?_)
 obtain ⟨i,out⟩:=x
 obtain ⟨hO,hi,ho⟩:=hi
 dsimp only at hi ho ⊢
 have hv1:=zEc hO hv
 by_cases hlt : i < ls.length
 ·obtain ⟨l,hli⟩ : ∃ l,ls[i]? = some l:=⟨_,List.getElem?_eq_getElem hlt⟩
  obtain ⟨x,hx⟩ : ∃ x,vs[i]? = some x:=⟨_,List.getElem?_eq_getElem tO⟩
  obtain ⟨hc,hx1,hxv⟩:=hvs i x l hx hli
  have hll2:=hle l (List.mem_of_getElem? hli)
  have hxv1:=zEc hO hxv
  have hlm : (l.map zO).length = l.length:=List.length_map _
  have hpt : part x.cells 0 1 false = some x:=by rw [hc]; rfl
  obtain ⟨base,hbase⟩ : ∃ base,(ls.take i).flatMap (fun l=>l.map zA1) = base:=⟨_,rfl⟩
  have hbl : base.length ≤ 600:=by
   have e : ls = ls.take i ++ ls.drop i:=(List.take_append_drop i ls).symm
   have : F = base ++ (ls.drop i).flatMap (fun l=>l.map zA1):=by rw [← hF,← hbase,← List.flatMap_append,← e]
   rw [this,List.length_append] at hFl; omega
  have hbn:=flat_take ls i l hli
  rw [hbase] at ho hbn
  refine zi tT ?_; refine zDX i x hv1 rfl hx (fun p hp=>?_)
  refine zBD x hp hpt ?_; refine zHR l.length hxv1 hlm ?_; refine zCC (fun y : Nat × AV=>[(16,zR y.1),(3,y.2),(14,x),(8,v),(9,zR ls.length),(10,zR i),(15,zR l.length)]) (fun y H'=>Old H H' ∧ y.1 ≤ l.length ∧ Owns H H' y.2 2 ((base ++ (l.take y.1).map zA1).map cV)) (fun y=>l.length - y.1) (0,out) rfl ⟨hO,by simp,by simpa using ho⟩ (fun y H2 hi2=>?_)
  obtain ⟨j,out2⟩:=y
  obtain ⟨hO2,hj,ho2⟩:=hi2
  dsimp only at hj ho2 ⊢
  by_cases hlt2 : j < l.length
  ·obtain ⟨g,hg⟩ : ∃ g,l[j]? = some g:=⟨_,List.getElem?_eq_getElem hlt2⟩
   have hgm : (l.map zO)[j]? = some (zO g):=by rw [List.getElem?_map,hg]; rfl
   have hxv2:=zEc hO2 hxv
   have htk : (l.take (j + 1)).map zA1 = (l.take j).map zA1 ++ [zA1 g]:=by rw [List.take_succ,hg]; simp
   refine zi tT ?_; refine zDX j (zO g) hxv2 rfl hgm (fun p hp=>?_)
   refine zBD (zO g) hp rfl ?_; refine zH (v:=zO g) (AV.cells (zO g)) zD rfl rfl rfl rfl ?_; refine zC (zAu g.col g.row) (zE zD) rfl ?_; refine zAt rfl rfl ?_; refine zC1 (H0:=H) (ys:=[cV (zA1 g)]) ((ho2.pushSet _ _).push _) (((hO2.push _).set hO2.1 _).push _) zBE (by decide) (by simp only [List.length_map,List.length_append,List.length_take,List.length_singleton]; omega) (by simp) (fun v' H' ho' hO' _ hfr=>?_)
   refine zh (r:=j + 1) rfl tO ?_; refine zAq (j + 1,v') rfl ⟨hO',by simp only; omega, ?_⟩ (by simp only; omega)
   have e : [cV (zA1 g)] = [zA1 g].map cV:=rfl
   rw [e,← List.map_append] at ho'
   rw [htk,← List.append_assoc]
   exact ho'
  ·have he : l.take j = l:=List.take_of_length_le tO
   rw [he,← hbn] at ho2
   refine zY tF ?_; refine zh (r:=i + 1) rfl tO ?_; refine zAq (i + 1,out2) rfl ⟨hO2,by simp only; omega,ho2⟩ (by simp only; omega)
 ·have he : ls.take i = ls:=List.take_of_length_le tO
  rw [he,hF] at ho
  refine zY tF ?_
  rcases ho with ⟨rfl,hnil⟩ | ⟨b,rfl,hb0,hb,hne⟩
  ·have hF0 : F = []:=List.map_eq_nil_iff.1 hnil
   have hcs : zA5 ls = []:=by unfold zA5; rw [hF,hF0,show zCO [] = [] from List.length_eq_zero_iff.1 (zDI []).length_eq]; rfl
   rw [hcs]
   refine zG (hS0 _) ?_; refine zG (hC0 _) ?_
   exact zBv rfl rfl rfl rfl hO
  ·have hFn : F ≠ []:=fun e=>hne (by rw [e]; rfl)
   have hbl:=(zg hb).1
   have hs:=hS b F H1 hb hFn tO
   have hsl : (zCO F).length = F.length:=(zDI F).length_eq
   have hsn : zCO F ≠ []:=fun e=>hFn (List.length_eq_zero_iff.1 (by rw [← hsl,e]; rfl))
   have hc:=hC b (zCO F) (H1.set b (.row 2 ((zCO F).map cV))) (List.getElem?_set_self hbl) hsn tO
   have hcs : zA5 ls = zT (zCO F):=by unfold zA5; rw [hF]
   rw [List.length_map]
   rw [hsl,List.set_set] at hc
   have hcn : (zA5 ls).map cV ≠ []:=by
    rw [hcs]
    intro e
    have e:=List.map_eq_nil_iff.1 e
    obtain ⟨z,r,hz⟩:=List.exists_cons_of_ne_nil hsn
    have:=(zCS (zCO F) z).2 (by rw [hz]; simp)
    rw [e] at this; simp at this
   have hfz : zCh H.length (.sl (some true) b 2 0 (zT (zCO F)).length) (H1.set b (.row 2 ((padL (zCO F)).map cV))) = some (zCU 2 ((zA5 ls).map cV),(H1.set b (.row 2 ((padL (zCO F)).map cV))).set b (.frz 2 ((padL (zCO F)).map cV))):=by
    simp only [zCh]
    rw [if_neg tO,List.getElem?_set_self hbl]
    have hle : 0 + (zT (zCO F)).length ≤ ((padL (zCO F)).map cV).length:=by unfold padL; simp
    have htk : (((padL (zCO F)).map cV).drop 0).take (zT (zCO F)).length = (zA5 ls).map cV:=by
     rw [List.drop_zero,← List.map_take,hcs]
     unfold padL
     rw [List.take_left]
    simp only [true_and,if_pos hle,htk]
    rw [hcs] at hcn ⊢
    cases hq : (zT (zCO F)).map cV with
    | nil=>exact absurd hq hcn
    | cons z r=>rfl
   refine z7 hs (fun h=>by cases h) ?_; refine z7 hc (fun h=>by cases h) ?_
   exact sRetF rfl rfl hfz (lstF_bel _ _ _) ((hO.set hb0 _).set hb0 _)
end
end Go.AM
set_option maxRecDepth 20000
namespace Go.AM
theorem frz_pair2 {n : Nat} {v v' y : AV} {H H' : Heap} (h : zCh n v H = some (v',H')) (hy : ∀ H,zCh n y H = some (y,H)) : zCh n (.tup [v,y]) H = some (.tup [v',y],H'):=by
 simp only [zCh,zHG,h,hy]
theorem bel_pair (n k : Nat) (xs : List AV) : (AV.tup [zCU k xs,.nili]).bel n = true:=by simp [AV.bel,AV.belL,lstF_bel]
theorem diffK_take (a b : List Fil) (cs : List (Int × Int)) (i : Nat) (p : Int × Int) (h : cs[i]? = some p) : zDG a b (cs.take (i + 1)) = zDG a b (cs.take i) ++ (if zS a p ≠ zS b p then [⟨p.1,p.2,zS b p⟩] else []):=by
 unfold zDG
 rw [List.take_succ,h,List.filter_append,List.map_append]
 by_cases e : zS a p ≠ zS b p
 ·rw [if_pos e]; simp [e]
 ·rw [if_neg e]; simp [e]
section
variable {C : CSpec} {GT : Nat → Option AV}
structure MergC (C : CSpec) : Prop where
 check : ∀ (v : AV) (vs : List AV) (ls : List (List Fil)) H,view H 1 v = some vs → vs.length = ls.length → ls.length ≤ 1000 → (∀ (i : Nat) (x : AV) (l : List Fil),vs[i]? = some x → ls[i]? = some l → x.cells = [x] ∧ view H 3 x = some (l.map zO)) → C zBF [v] H (eV (zk ls)) H
 texts : ∀ (lv : AV) (l : List Fil) H,view H 3 lv = some (l.map zO) → Srtd l → l.length ≤ 1000 → C zBe [lv] H (.mps (l.map zA1) (l.map txV)) H
 cells : ∀ (v : AV) (vs : List AV) (ls : List (List Fil)) H,view H 1 v = some vs → vs.length = ls.length → ls.length ≤ 3 → (∀ l ∈ ls,l.length ≤ 200) → (∀ (i : Nat) (x : AV) (l : List Fil),vs[i]? = some x → ls[i]? = some l → x.cells = [x] ∧ x.one = true ∧ view H 3 x = some (l.map zO)) → C zDD [v] H (zCU 2 ((zA5 ls).map cV)) H
set_option maxHeartbeats 4000000 in
theorem diff_ev (hM : MergC C) (av bv : AV) (a b : List Fil) (hav : zAE av 3 (a.map zO)) (hbv : zAE bv 3 (b.map zO)) (H : Heap) : EFun C GT zHp [av,bv] H (.tup [diffV a b,eV (zk [a,b])]) H:=by
 have hva:=fun H=>hav.view H
 have hvb:=fun H=>hbv.view H
 have fra : ∀ H,zHG 0 [av,bv] H = some ([av,bv],H):=fun H=>by
  obtain ⟨q,k,rfl,_⟩:=hav
  obtain ⟨q',k',rfl,_⟩:=hbv
  rfl
 have hel : [av,bv].all (fun v=>v.elem 1) = true:=by
  obtain ⟨q,k,rfl,_⟩:=hav
  obtain ⟨q',k',rfl,_⟩:=hbv
  rfl
 have h2 : ∀ H,∀ (i : Nat) (x : AV) (l : List Fil),[av,bv][i]? = some x → [a,b][i]? = some l → x.cells = [x] ∧ x.one = true ∧ view H 3 x = some (l.map zO):=fun H i x l hx hl=>by
  match i,hx,hl with
  | 0,hx,hl=>cases hx; cases hl; exact ⟨hav.cells,(zFh (hva H)).2,hva H⟩
  | 1,hx,hl=>cases hx; cases hl; exact ⟨hbv.cells,(zFh (hvb H)).2,hvb H⟩
  | i + 2,hx,_=>simp at hx
 have hck:=hM.check (.sl (some false) H.length 1 0 [av,bv].length) [av,bv] [a,b] (H ++ [.row 1 [av,bv]]) zBE rfl (by simp) (fun i x l hx hl=>⟨(h2 (H ++ [.row 1 [av,bv]]) i x l hx hl).1,(h2 (H ++ [.row 1 [av,bv]]) i x l hx hl).2.2⟩)
 by_cases c0 : zk [a,b] = 0
 ·have hga:=zA6 c0 a (by simp)
  have hgb:=zA6 c0 b (by simp)
  have hla:=hga.len
  have hlb:=hgb.len
  have hta:=fun H=>hM.texts av a H (hva H) hga.srt tO
  have htb:=fun H=>hM.texts bv b H (hvb H) hgb.srt tO
  have hce:=hM.cells (.sl (some false) (H ++ [ABlk.row 1 [av,bv]]).length 1 0 [av,bv].length) [av,bv] [a,b] (H ++ [ABlk.row 1 [av,bv]] ++ [.row 1 [av,bv]]) zBE rfl (by simp) (fun l hl=>by simp at hl; rcases hl with rfl | rfl <;> omega) (h2 _)
  have hcl:=zHf [a,b]
  have hcl : (zA5 [a,b]).length ≤ 400:=by simp at hcl; omega
  have hdv : diffV a b = zCU 3 ((zDG a b (zA5 [a,b])).map zO):=by unfold diffV; rw [if_pos c0]; rfl
  rw [c0] at hck ⊢
  rw [hdv]
  have hck : C zBF [.sl (some false) H.length 1 0 [av,bv].length] (H ++ [.row 1 [av,bv]]) .nili (H ++ [.row 1 [av,bv]]):=hck
  clear hM hdv
  generalize zA5 [a,b] = cs at *
  have hcm : (cs.map cV).length = cs.length:=List.length_map _
  obtain ⟨cv,hcv⟩ : ∃ cv,zCU 2 (cs.map cV) = cv:=⟨_,rfl⟩
  have hcvl : zAE cv 2 (cs.map cV):=by rw [← hcv]; exact zAy _ _
  rw [hcv] at hce
  clear hcv
  refine zW ?_; refine zAt (fra _) hel ?_; refine zG hck ?_; refine zJ rfl ?_; refine zF ?_; refine zG (hta _) ?_; refine zG (htb _) ?_; refine zAt (fra _) hel ?_; refine zG hce ?_; refine zAG cs.length hcvl hcm ?_; refine zCC (fun x : Nat × AV=>[(28,zR x.1),(8,.mps (b.map zA1) (b.map txV)),(9,x.2),(7,.mps (a.map zA1) (a.map txV)),(26,cv),(27,zR cs.length)]) (fun x H'=>Old H H' ∧ x.1 ≤ cs.length ∧ Owns H H' x.2 3 ((zDG a b (cs.take x.1)).map zO)) (fun x=>cs.length - x.1) (0,.lst (some true) 0 []) rfl ⟨((Old.refl H).push _).push _,by simp,.inl ⟨rfl,by simp [zDG]⟩⟩ (fun x H1 hi=>?_)
  obtain ⟨i,out⟩:=x
  obtain ⟨hO,hi,ho⟩:=hi
  dsimp only at hi ho ⊢
  by_cases hlt : i < cs.length
  ·obtain ⟨p,hp⟩ : ∃ p,cs[i]? = some p:=⟨_,List.getElem?_eq_getElem hlt⟩
   have hpm : (cs.map cV)[i]? = some (cV p):=by rw [List.getElem?_map,hp]; rfl
   have htk:=diffK_take a b cs i p hp
   have hga2 : ∀ H,zIV H (.str []) false (.mps (a.map zA1) (a.map txV)) (cV p) = some (.str (zS a p)):=fun H=>zEU rfl p.1 p.2
   have hgb2 : ∀ H,zIV H (.str []) false (.mps (b.map zA1) (b.map txV)) (cV p) = some (.str (zS b p)):=fun H=>zEU rfl p.1 p.2
   have hdl : (zDG a b (cs.take i)).length ≤ 400:=by
    unfold zDG
    rw [List.length_map]
    have:=List.length_filter_le (fun p=>decide (zS a p ≠ zS b p)) (cs.take i)
    rw [List.length_take] at this; omega
   generalize zS a p = ta at *
   generalize zS b p = tb at *
   by_cases e : ta = tb
   ·rw [if_neg (by simp [e]),List.append_nil] at htk
    have ex : (!(ta == tb)) = false:=by rw [e]; simp
    refine zi tT ?_; refine zGE i _ hcvl rfl hpm ?_; refine zBb (cV p) rfl ?_; refine zH (v:=cV p) (AV.cells (cV p)) zD rfl rfl rfl rfl ?_; refine zC (cV p) (zE zD) rfl ?_; refine zCk (hga2 _) ?_; refine zC (cV p) (zE zD) rfl ?_; refine zCk (hgb2 _) ?_; refine zY ex ?_; refine zh (r:=i + 1) rfl tO ?_; refine zAq (i + 1,out) rfl ⟨(hO.push _).set hO.1 _,by simp only; omega, ?_⟩ (by simp only; omega)
    simp only
    rw [htk]
    exact ho.pushSet _ _
   ·rw [if_pos e] at htk
    have ex : (!(ta == tb)) = true:=by simpa using e
    refine zi tT ?_; refine zGE i _ hcvl rfl hpm ?_; refine zBb (cV p) rfl ?_; refine zH (v:=cV p) (AV.cells (cV p)) zD rfl rfl rfl rfl ?_; refine zC (cV p) (zE zD) rfl ?_; refine zCk (hga2 _) ?_; refine zC (cV p) (zE zD) rfl ?_; refine zCk (hgb2 _) ?_; refine zi ex ?_; refine zC (cV p) (zE zD) rfl ?_; refine zC (cV p) (zE zD) rfl ?_; refine zCk (hgb2 _) ?_; refine zJ (v:=[zr p.fst,zr p.snd,AV.str tb]) rfl ?_
    refine zAt rfl rfl ?_; refine zC1 (H0:=H) (ys:=[zO ⟨p.1,p.2,tb⟩]) ((ho.pushSet _ _).push _) (((hO.push _).set hO.1 _).push _) zBE (by decide) (by simp only [List.length_map,List.length_singleton]; omega) (by simp) (fun v' H' ho' hO' _ hfr=>?_)
    refine zh (r:=i + 1) rfl tO ?_; refine zAq (i + 1,v') rfl ⟨hO',by simp only; omega, ?_⟩ (by simp only; omega)
    have e2 : [zO ⟨p.1,p.2,tb⟩] = [(⟨p.1,p.2,tb⟩ : Fil)].map zO:=rfl
    rw [e2,← List.map_append,← htk] at ho'
    exact ho'
  ·have he : cs.take i = cs:=List.take_of_length_le tO
   rw [he] at ho
   obtain ⟨H2,hf,hO2,_⟩:=ho.frz hO
   refine zY tF ?_
   exact sRetF rfl rfl (frz_pair2 hf fun _=>rfl) (bel_pair _ _ _) hO2
 ·have hdv : diffV a b = .lst (some true) 0 []:=if_neg c0
  have he : eV (zk [a,b]) = zEX (zk [a,b] : Nat):=by unfold eV; rw [if_neg c0]
  rw [hdv,he]
  rw [he] at hck
  generalize zk [a,b] = n at *
  clear hM
  refine zW ?_; refine zAt (fra _) hel ?_; refine zG hck ?_; refine zJ rfl ?_; refine zI ?_
  exact zBv rfl rfl rfl rfl ((Old.refl _).push _)
end
end Go.AM
set_option maxRecDepth 20000
namespace Go.AM
theorem withS_grow (l : List Fil) (c r : Int) (t : Bs) : (zCN l c r t).length ≤ l.length + 1:=by
 have h : ∀ l : List Fil,(l.filter (aheadC c r)).length + (l.filter (zB2 c r)).length ≤ l.length:=fun l=>by
  induction l with
  | nil=>simp
  | cons f l ih=>
   simp only [List.filter_cons,List.length_cons]
   by_cases h1 : aheadC c r f = true
   ·have h2 : zB2 c r f = false:=by
     unfold aheadC at h1
     unfold zB2
     simp only [decide_eq_true_eq] at h1
     exact tF
    rw [if_pos h1,h2,if_neg (by simp),List.length_cons]
    omega
   ·rw [if_neg h1]
    split <;> (try simp only [List.length_cons]) <;> omega
 have:=h l
 unfold zCN
 simp only [List.length_append]
 split <;> simp <;> omega
theorem foldW_grow : ∀ (d l : List Fil),(zCA l d).length ≤ l.length + d.length
 | [],l=>by simp [zCA]
 | g :: d,l=>by
  have h1:=foldW_grow d (zCN l g.col g.row g.text)
  have h2:=withS_grow l g.col g.row g.text
  have : zCA l (g :: d) = zCA (zCN l g.col g.row g.text) d:=rfl
  rw [this,List.length_cons]
  omega
def ShV (v : AV) (l : List Fil) : Prop:=∃ q k,v = .lst (some q) k (l.map zO) ∧ (k = 3 ∨ l = []) ∧ (q = true → l = [])
theorem ShV.of {v : AV} {l : List Fil} (h : ShV v l) : zAE v 3 (l.map zO):=by
 obtain ⟨q,k,rfl,h1,_⟩:=h
 exact ⟨_,_,rfl,h1.imp id fun h=>by rw [h]; rfl⟩
theorem ShV.view {v : AV} {l : List Fil} (h : ShV v l) (H : Heap) : view H 3 v = some (l.map zO):=h.of.view H
section
variable {C : CSpec} {GT : Nat → Option AV}
def nilQ (q : Bool) (d : List Fil) : Bool:=q && d.all fun f=>decide (f.text = [])
theorem zJl {q : Bool} {a : List Fil} (hq : q = true → a = []) : ∀ {d : List Fil},nilQ q d = true → zCA a d = []:=by
 intro d
 unfold nilQ
 rw [Bool.and_eq_true]
 rintro ⟨h1,h2⟩
 obtain rfl:=hq h1
 induction d with
 | nil=>rfl
 | cons g d ih=>
  rw [List.all_cons,Bool.and_eq_true,decide_eq_true_eq] at h2
  have : zCA [] (g :: d) = zCA (zCN [] g.col g.row g.text) d:=rfl
  rw [this,h2.1,withS_nil]
  exact ih h2.2
set_option maxHeartbeats 4000000 in
theorem apply_ev (hM : MergC C) (hA : ∀ c r H,C zBc [zAu c r] H (if okC c r = true then .nili else zEX 1) H) (hL : ∀ (a b : Fil) H,C zCo [zAu a.col a.row,zAu b.col b.row] H (.bool (zFG a b)) H)
  (hT : ∀ s H,C zAm [.str s] H (eV (zCe s)) H)
  (hW : ∀ q k (l : List Fil) c r t H,(k = 3 ∨ l = []) → (q = true → l = []) → l.length ≤ 1000 → Srtd l → C zDj [.lst (some q) k (l.map zO),zAu c r,.str t] H (opV (q && decide (t = [])) (zCN l c r t)) H)
  (hC0 : ∀ k H,C zM [.lst (some true) k []] H (.lst (some true) 0 []) H)
  (hC1 : ∀ k (l : List Fil) H,(k = 3 ∨ l = []) → l.length ≤ 1000 → C zM [.lst (some false) k (l.map zO)] H (.sl (some false) (H.length + 1) 3 0 l.length) ((H ++ [ABlk.row 3 []]).set H.length .dead ++ [.row 3 (l.map zO)]))
  (q : Bool) (k : Nat) (dv : AV) (a d : List Fil) (hk : k = 3 ∨ a = []) (hq : q = true → a = []) (hdv : zAE dv 3 (d.map zO)) (hg : Goods a) (hds : Srtd d) (hde : ∀ f ∈ d,okC f.col f.row = true ∧ zCe f.text = 0) (hdl : d.length ≤ 400) (hfin : (zCA a d).length ≤ 200) (H : Heap) :
  EFun C GT zGn [.lst (some q) k (a.map zO),dv] H (.tup [opV (nilQ q d) (zCA a d),.nili]) H:=by
 have hla:=hg.len
 have hav : zAE (.lst (some q) k (a.map zO)) 3 (a.map zO):=⟨_,_,rfl,hk.imp id fun h=>by rw [h]; rfl⟩
 obtain ⟨av,hav0⟩ : ∃ av,AV.lst (some q) k (a.map zO) = av:=⟨_,rfl⟩
 rw [hav0] at hav
 have fra : ∀ H,zHG 0 [av] H = some ([av],H):=fun H=>by
  obtain ⟨q,k,rfl,_⟩:=hav
  rfl
 have hel : [av].all (fun v=>v.elem 1) = true:=by
  obtain ⟨q,k,rfl,_⟩:=hav
  rfl
 have hck:=hM.check (.sl (some false) H.length 1 0 [av].length) [av] [a] (H ++ [.row 1 [av]]) zBE rfl (by simp) (fun i x l hx hl=>by
  match i,hx,hl with
  | 0,hx,hl=>cases hx; cases hl; exact ⟨hav.cells,hav.view _⟩
  | i + 1,hx,_=>simp at hx)
 have c0 : zk [a] = 0:=zCv fun l hl=>by simp at hl; rw [hl]; exact hg
 rw [c0] at hck
 have hck : C zBF [.sl (some false) H.length 1 0 [av].length] (H ++ [.row 1 [av]]) .nili (H ++ [.row 1 [av]]):=hck
 have hdm : (d.map zO).length = d.length:=List.length_map _
 clear hM
 rw [hav0]
 refine zW ?_; refine zAt (fra _) hel ?_; refine zG hck ?_; refine zJ rfl ?_; refine zF ?_; refine zAG d.length hdv hdm ?_; refine zCC (fun i : Nat=>[(20,zR i),(1,dv),(18,dv),(0,av),(19,zR d.length)]) (fun i H'=>Old H H' ∧ i ≤ d.length) (fun i=>d.length - i) 0 rfl ⟨(Old.refl H).push _,by simp⟩ (fun i H1 hi=>?_)
 obtain ⟨hO,hi⟩:=hi
 dsimp only
 by_cases hlt : i < d.length
 ·obtain ⟨g,hgi⟩ : ∃ g,d[i]? = some g:=⟨_,List.getElem?_eq_getElem hlt⟩
  have hgm : (d.map zO)[i]? = some (zO g):=by rw [List.getElem?_map,hgi]; rfl
  obtain ⟨e1,e2⟩:=hde g (List.mem_of_getElem? hgi)
  have ha:=fun H=>hA g.col g.row H
  have ht:=fun H=>hT g.text H
  rw [e1] at ha
  rw [e2] at ht
  have ha : ∀ H,C zBc [zAu g.col g.row] H .nili H:=ha
  have ht : ∀ H,C zAm [.str g.text] H .nili H:=ht
  cases i with
  | zero=>
   refine zi tT ?_; refine zGE 0 _ hdv rfl hgm ?_; refine zBb (zO g) rfl ?_; refine zH (v:=zO g) (AV.cells (zO g)) zD rfl rfl rfl rfl ?_; refine zC (zAu g.col g.row) (zE zD) rfl ?_; refine zG (ha _) ?_; refine zJ rfl ?_; refine zF ?_; refine zF ?_; refine zF ?_; refine zF ?_; refine zC (AV.str g.text) (zE zD) rfl ?_; refine zG (ht _) ?_; refine zJ rfl ?_; refine zF ?_; refine zh (r:=1) rfl tO ?_
   refine zAq 1 rfl ⟨(hO.push _).set hO.1 _,by omega⟩ tO
  | succ j=>
   obtain ⟨f,hfj⟩ : ∃ f,d[j]? = some f:=⟨_,List.getElem?_eq_getElem tO⟩
   have hfm : (d.map zO)[j]? = some (zO f):=by rw [List.getElem?_map,hfj]; rfl
   have hls : zFG f g = true:=by
    rw [zJb]
    have:=List.pairwise_iff_getElem.1 hds j (j + 1) tO hlt tO
    rw [(zg hfj).2,(zg hgi).2] at this
    exact this
   have hl:=fun H=>hL f g H
   rw [hls] at hl
   refine zi tT ?_; refine zGE (j + 1) _ hdv rfl hgm ?_; refine zBb (zO g) rfl ?_; refine zH (v:=zO g) (AV.cells (zO g)) zD rfl rfl rfl rfl ?_; refine zC (zAu g.col g.row) (zE zD) rfl ?_; refine zG (ha _) ?_; refine zJ rfl ?_; refine zF ?_; refine zi tT ?_; refine zh (r:=j) (by simp) tO ?_; refine zGE j _ hdv rfl hfm ?_; refine zBb (zAu f.col f.row) rfl ?_; refine zC (zAu g.col g.row) (zE zD) rfl ?_
   refine zG (hl _) ?_; refine zI ?_; refine zF ?_; refine zC (AV.str g.text) (zE zD) rfl ?_; refine zG (ht _) ?_; refine zJ rfl ?_; refine zF ?_; refine zh (r:=j + 1 + 1) rfl tO ?_; refine zAq (j + 1 + 1) rfl ⟨(hO.push _).set hO.1 _,by omega⟩ tO
 ·clear hA hL hT
  refine zY tF ?_; refine zAG d.length hdv hdm ?_; refine zCC (fun x : Nat × Nat=>[(56,zR x.1),(0,.lst (some (nilQ q (d.take x.1))) x.2 ((zCA a (d.take x.1)).map zO)),(54,dv),(55,zR d.length)]) (fun x H'=>Old H H' ∧ x.1 ≤ d.length ∧ (x.2 = 3 ∨ zCA a (d.take x.1) = [])) (fun x=>d.length - x.1) (0,k) (by rw [← hav0]; cases q <;> rfl) ⟨hO,by simp,hk⟩ (fun x H2 hi2=>?_)
  obtain ⟨i2,k2⟩:=x
  obtain ⟨hO2,hi2,hk2⟩:=hi2
  dsimp only at hi2 hk2 ⊢
  have hqq : nilQ q (d.take i2) = true → zCA a (d.take i2) = []:=zJl hq
  by_cases hlt2 : i2 < d.length
  ·obtain ⟨g,hgi⟩ : ∃ g,d[i2]? = some g:=⟨_,List.getElem?_eq_getElem hlt2⟩
   have hgm : (d.map zO)[i2]? = some (zO g):=by rw [List.getElem?_map,hgi]; rfl
   have htk : d.take (i2 + 1) = d.take i2 ++ [g]:=by rw [List.take_succ,hgi]; rfl
   have hfw:=foldW_snoc a (d.take i2) g
   rw [← htk] at hfw
   have hnq : nilQ q (d.take (i2 + 1)) = (nilQ q (d.take i2) && decide (g.text = [])):=by unfold nilQ; rw [htk,List.all_append,Bool.and_assoc]; simp
   have hgr:=foldW_grow (d.take i2) a
   rw [List.length_take] at hgr
   have hsr:=(zHd (d.take i2) a hg.srt fun f hf=>(hg.each f hf).2).1
   have hw:=fun H=>hW (nilQ q (d.take i2)) k2 (zCA a (d.take i2)) g.col g.row g.text H hk2 hqq tO hsr
   rw [← hfw,← hnq] at hw
   refine zi tT ?_; refine zGE i2 _ hdv rfl hgm ?_; refine zBb (zO g) rfl ?_; refine zH (v:=zO g) (AV.cells (zO g)) zD rfl rfl rfl rfl ?_; refine zC (zAu g.col g.row) (zE zD) rfl ?_; refine zC (AV.str g.text) (zE zD) rfl ?_; refine zG (hw _) ?_; refine zh (r:=i2 + 1) rfl tO ?_
   have hqq2 : nilQ q (d.take (i2 + 1)) = true → zCA a (d.take (i2 + 1)) = []:=zJl hq
   refine zAq (i2 + 1,if nilQ q (d.take (i2 + 1)) = true then 0 else 3) rfl ⟨(hO2.push _).set hO2.1 _,by simp only; omega, ?_⟩ (by simp only; omega)
   simp only
   cases hz : nilQ q (d.take (i2 + 1)) with
   | true=>exact .inr (hqq2 hz)
   | false=>exact .inl rfl
  ·have he : d.take i2 = d:=List.take_of_length_le tO
   rw [he] at hk2 hqq ⊢
   have hfl : ((zCA a d).map zO).length = (zCA a d).length:=List.length_map _
   have hfo : zAE (.lst (some (nilQ q d)) k2 ((zCA a d).map zO)) 3 ((zCA a d).map zO):=⟨_,_,rfl,hk2.imp id fun h=>by rw [h]; rfl⟩
   have hc0:=fun h=>hC0 k2 h
   have hc1:=fun h=>hC1 k2 (zCA a d) h hk2 tO
   clear hC0 hC1 hW
   generalize nilQ q d = Q at *
   generalize zCA a d = L at *
   cases Q with
   | true=>
    obtain rfl:=hqq rfl
    refine zY tF ?_; refine zAG 0 hfo rfl ?_; refine zY tF ?_; refine z7 (hc0 _) (fun h=>by cases h) ?_
    exact zBv rfl rfl rfl rfl hO2
   | false=>
    have hgt : decide ((L.length : Int) > 200) = false:=tF
    refine zY tF ?_; refine zAG L.length hfo hfl ?_; refine zY tF ?_; refine z7 (hc1 _) (fun h=>by cases h) ?_
    exact sRetF rfl rfl (frz_pair2 (zJf (by have:=hO2.1; omega) (by rw [List.getElem?_append_right (by simp)]; simp) (List.length_map _).symm) fun _=>rfl) rfl (((hO2.push _).set hO2.1 _ |>.push _).set (by have:=hO2.1; omega) _)
end
end Go.AM
