/- Several texts of mine in one (Mw6, Mw7, Mw8, Gmh, Mhl). Own work. -/
import Derived.Test.YtmmbcogejaofpaaGreatDoorGMw5Gmb
import Derived.Test.YtmmbcogejaofpaaGreatDoorGSshGds
import Derived.Test.YtmmbcogejaofpaaGreatDoorLdQ4
import Derived.SevenTiedAt
import Derived.SizedLaws
set_option linter.all false
set_option maxRecDepth 20000
namespace Go.AM
theorem frz_trip {n : Nat} {v v' y y' : AV} {H H' H'' : Heap} (h : zCh n v H = some (v',H')) (hy : zCh n y H' = some (y',H'')) : zCh n (.tup [v,y,.nili]) H = some (.tup [v',y',.nili],H''):=by
 simp only [zCh,zHG,h,hy]
theorem bel_trip (n k k' : Nat) (xs ys : List AV) : (AV.tup [zCU k xs,zCU k' ys,.nili]).bel n = true:=by simp [AV.bel,AV.belL,lstF_bel]
theorem threeO_take (w a b : List Fil) (cs : List (Int × Int)) (i : Nat) (p : Int × Int) (h : cs[i]? = some p) : zAN w a b (cs.take (i + 1)) = zAN w a b (cs.take i) ++ (if txT w a b p ≠ [] then [⟨p.1,p.2,txT w a b p⟩] else []):=by
 unfold zAN
 rw [List.take_succ,h,List.filter_append,List.map_append]
 by_cases e : txT w a b p ≠ []
 ·rw [if_pos e]; simp [e]
 ·rw [if_neg e]; simp [e]
theorem threeB_take (w a b : List Fil) (cs : List (Int × Int)) (i : Nat) (p : Int × Int) (h : cs[i]? = some p) : zB3 w a b (cs.take (i + 1)) = zB3 w a b (cs.take i) ++ (if zS a p ≠ zS w p ∧ zS b p ≠ zS w p ∧ zS a p ≠ zS b p then [p] else []):=by
 unfold zB3
 rw [List.take_succ,h,List.filter_append]
 by_cases e : zIH w a b p
 ·rw [if_pos (show zS a p ≠ zS w p ∧ zS b p ≠ zS w p ∧ zS a p ≠ zS b p from e)]; simp [e]
 ·rw [if_neg (show ¬ (zS a p ≠ zS w p ∧ zS b p ≠ zS w p ∧ zS a p ≠ zS b p) from e)]; simp [e]
theorem threeO_le (w a b : List Fil) (cs : List (Int × Int)) : (zAN w a b cs).length ≤ cs.length:=by
 unfold zAN
 rw [List.length_map]
 exact List.length_filter_le _ _
theorem threeB_le (w a b : List Fil) (cs : List (Int × Int)) : (zB3 w a b cs).length ≤ cs.length:=List.length_filter_le _ _
def zEV (w a b : List Fil) : AV:=if zAU w a b = 0 then .tup [zCU 3 ((zAx w a b).map zO),zCU 2 ((zBV w a b).map cV),.nili] else .tup [.lst (some true) 0 [],.lst (some true) 0 [],zEX (zAU w a b : Nat)]
theorem fil_cel {x y : AV} {l : List Fil} {c : List (Int × Int)} (hx : x ∈ c.map cV) (hy : y ∈ l.map zO) : x ≠ y:=by
 obtain ⟨p,_,rfl⟩:=List.mem_map.1 hx
 obtain ⟨f,_,rfl⟩:=List.mem_map.1 hy
 intro e
 simp [cV,zAu,zO] at e
section
variable {C : CSpec} {GT : Nat → Option AV}
set_option maxHeartbeats 8000000 in
theorem three_ev (hM : MergC C) (wv av bv : AV) (w a b : List Fil) (hwv : zAE wv 3 (w.map zO)) (hav : zAE av 3 (a.map zO)) (hbv : zAE bv 3 (b.map zO)) (H : Heap) : EFun C GT zGp [wv,av,bv] H (zEV w a b) H:=by
 have fra : ∀ H,zHG 0 [wv,av,bv] H = some ([wv,av,bv],H):=fun H=>by
  obtain ⟨q,k,rfl,_⟩:=hwv
  obtain ⟨q',k',rfl,_⟩:=hav
  obtain ⟨q'',k'',rfl,_⟩:=hbv
  rfl
 have hel : [wv,av,bv].all (fun v=>v.elem 1) = true:=by
  obtain ⟨q,k,rfl,_⟩:=hwv
  obtain ⟨q',k',rfl,_⟩:=hav
  obtain ⟨q'',k'',rfl,_⟩:=hbv
  rfl
 have h2 : ∀ H,∀ (i : Nat) (x : AV) (l : List Fil),[wv,av,bv][i]? = some x → [w,a,b][i]? = some l → x.cells = [x] ∧ x.one = true ∧ view H 3 x = some (l.map zO):=fun H i x l hx hl=>by
  match i,hx,hl with
  | 0,hx,hl=>cases hx; cases hl; exact ⟨hwv.cells,(zFh (hwv.view H)).2,hwv.view H⟩
  | 1,hx,hl=>cases hx; cases hl; exact ⟨hav.cells,(zFh (hav.view H)).2,hav.view H⟩
  | 2,hx,hl=>cases hx; cases hl; exact ⟨hbv.cells,(zFh (hbv.view H)).2,hbv.view H⟩
  | i + 3,hx,_=>simp at hx
 have hck:=hM.check (.sl (some false) H.length 1 0 [wv,av,bv].length) [wv,av,bv] [w,a,b] (H ++ [.row 1 [wv,av,bv]]) zBE rfl (by simp) (fun i x l hx hl=>⟨(h2 (H ++ [.row 1 [wv,av,bv]]) i x l hx hl).1,(h2 (H ++ [.row 1 [wv,av,bv]]) i x l hx hl).2.2⟩)
 by_cases c0 : zk [w,a,b] = 0
 ·have hgw:=zA6 c0 w (by simp)
  have hga:=zA6 c0 a (by simp)
  have hgb:=zA6 c0 b (by simp)
  have hlw:=hgw.len
  have hla:=hga.len
  have hlb:=hgb.len
  have htw:=fun H=>hM.texts wv w H (hwv.view H) hgw.srt tO
  have hta:=fun H=>hM.texts av a H (hav.view H) hga.srt tO
  have htb:=fun H=>hM.texts bv b H (hbv.view H) hgb.srt tO
  have hce:=hM.cells (.sl (some false) (H ++ [ABlk.row 1 [wv,av,bv]]).length 1 0 [wv,av,bv].length) [wv,av,bv] [w,a,b] (H ++ [ABlk.row 1 [wv,av,bv]] ++ [.row 1 [wv,av,bv]]) zBE rfl (by simp) (fun l hl=>by simp at hl; rcases hl with rfl | rfl | rfl <;> omega) (h2 _)
  have hcl:=zHf [w,a,b]
  have hcl : (zA5 [w,a,b]).length ≤ 600:=by simp at hcl; omega
  have hdv : zEV w a b = if 200 < (zAN w a b (zA5 [w,a,b])).length then .tup [.lst (some true) 0 [],.lst (some true) 0 [],zEX 4] else .tup [zCU 3 ((zAN w a b (zA5 [w,a,b])).map zO),zCU 2 ((zB3 w a b (zA5 [w,a,b])).map cV),.nili]:=by
   unfold zEV zAU zAx zBV
   by_cases hx : 200 < (zAN w a b (zA5 [w,a,b])).length <;> simp [c0,hx]
  rw [c0] at hck
  rw [hdv]
  have hck' : C zBF [.sl (some false) H.length 1 0 [wv,av,bv].length] (H ++ [.row 1 [wv,av,bv]]) .nili (H ++ [.row 1 [wv,av,bv]]):=hck
  clear hM hdv hck
  generalize zA5 [w,a,b] = cs at *
  have hcm : (cs.map cV).length = cs.length:=List.length_map _
  obtain ⟨cv,hcv⟩ : ∃ cv,zCU 2 (cs.map cV) = cv:=⟨_,rfl⟩
  have hcvl : zAE cv 2 (cs.map cV):=by rw [← hcv]; exact zAy _ _
  rw [hcv] at hce
  clear hcv
  refine zW ?_; refine zAt (fra _) hel ?_; refine zG hck' ?_; refine zJ rfl ?_; refine zF ?_; refine zG (htw _) ?_; refine zG (hta _) ?_; refine zG (htb _) ?_; refine zAt (fra _) hel ?_; refine zG hce ?_; refine zAG cs.length hcvl hcm ?_; refine zCC (fun x : Nat × AV × AV=>[(38,zR x.1),(13,x.2.1),(12,.mps (b.map zA1) (b.map txV)),(14,x.2.2),(11,.mps (a.map zA1) (a.map txV)),(10,.mps (w.map zA1) (w.map txV)),(36,cv),(37,zR cs.length)]) (fun x H'=>Old H H' ∧ x.1 ≤ cs.length ∧ Owns H H' x.2.1 3 ((zAN w a b (cs.take x.1)).map zO) ∧ Owns H H' x.2.2 2 ((zB3 w a b (cs.take x.1)).map cV)) (fun x=>cs.length - x.1) (0,.lst (some true) 0 [],.lst (some true) 0 []) rfl ⟨((Old.refl H).push _).push _,by simp,.inl ⟨rfl,by simp [zAN]⟩,.inl ⟨rfl,by simp [zB3]⟩⟩ (fun x H1 hi=>?_)
  obtain ⟨i,out,both⟩:=x
  obtain ⟨hO,hi,ho,hq⟩:=hi
  dsimp only at hi ho hq ⊢
  by_cases hlt : i < cs.length
  ·obtain ⟨p,hp⟩ : ∃ p,cs[i]? = some p:=⟨_,List.getElem?_eq_getElem hlt⟩
   have hpm : (cs.map cV)[i]? = some (cV p):=by rw [List.getElem?_map,hp]; rfl
   have hto:=threeO_take w a b cs i p hp
   have htb':=threeB_take w a b cs i p hp
   have hlo : ((zAN w a b (cs.take i)).map zO).length ≤ 600:=by have:=threeO_le w a b (cs.take i); rw [List.length_take] at this; rw [List.length_map]; omega
   have hlq : ((zB3 w a b (cs.take i)).map cV).length ≤ 600:=by have:=threeB_le w a b (cs.take i); rw [List.length_take] at this; rw [List.length_map]; omega
   have hgw2 : ∀ H,zIV H (.str []) false (.mps (w.map zA1) (w.map txV)) (cV p) = some (.str (zS w p)):=fun H=>zEU rfl p.1 p.2
   have hga2 : ∀ H,zIV H (.str []) false (.mps (a.map zA1) (a.map txV)) (cV p) = some (.str (zS a p)):=fun H=>zEU rfl p.1 p.2
   have hgb2 : ∀ H,zIV H (.str []) false (.mps (b.map zA1) (b.map txV)) (cV p) = some (.str (zS b p)):=fun H=>zEU rfl p.1 p.2
   unfold txT at hto
   have hne : ∀ (x y : AV),x ∈ (zB3 w a b (cs.take i)).map cV → y ∈ (zAN w a b (cs.take i)).map zO → x ≠ y:=fun x y hx hy=>fil_cel hx hy
   generalize zS a p = ta at *
   generalize zS b p = tb at *
   generalize zS w p = tw at *
   refine zi tT ?_; refine zGE i _ hcvl rfl hpm ?_; refine zBb (cV p) rfl ?_; refine zH (v:=cV p) (AV.cells (cV p)) zD rfl rfl rfl rfl ?_; refine zC (cV p) (zE zD) rfl ?_
   obtain ⟨H2,hH2⟩ : ∃ H2,(H1 ++ [ABlk.box [AV.int IntKind.i64 0,AV.int IntKind.i64 0]]).set H1.length (ABlk.box (cV p).cells) = H2:=⟨_,rfl⟩
   rw [hH2]
   have hb2 : H2[H1.length]? = some (.box (cV p).cells):=by rw [← hH2]; exact zE zD
   have hO2 : Old H H2:=by rw [← hH2]; exact (hO.push _).set hO.1 _
   have ho2 : Owns H H2 out 3 ((zAN w a b (cs.take i)).map zO):=by rw [← hH2]; exact ho.pushSet _ _
   have hq2 : Owns H H2 both 2 ((zB3 w a b (cs.take i)).map cV):=by rw [← hH2]; exact hq.pushSet _ _
   have hap : ∀ b,out.blk = some b → both.blk ≠ some b:=fun b hb=>Owns.apart hq2 ho2 (fun x y hx hy=>hne x y hx hy) hb
   have hn1 : out.blk ≠ some H1.length:=ho2.ne_box hb2
   have hn2 : both.blk ≠ some H1.length:=hq2.ne_box hb2
   clear hH2 ho hq hO
   by_cases ea : ta = tw
   ·have e1 : (ta == tw) = true:=by simpa using ea
    rw [if_pos ea] at hto
    rw [if_neg (fun h=>h.1 ea),List.append_nil] at htb'
    refine zCk (hga2 _) ?_; refine zC (cV p) hb2 rfl ?_; refine zCk (hga2 _) ?_; refine zC (cV p) hb2 rfl ?_; refine zCk (hgw2 _) ?_; refine zi e1 ?_; refine zC (cV p) hb2 rfl ?_; refine zCk (hgb2 _) ?_
    by_cases et : tb = []
    ·have ex : (!(tb == [])) = false:=by rw [et]; rfl
     rw [if_neg (by simp [et]),List.append_nil] at hto
     refine zY ex ?_; refine zh (r:=i + 1) rfl tO ?_; refine zAq (i + 1,out,both) rfl ⟨hO2,by simp only; omega, ?_, ?_⟩ (by simp only; omega)
     ·simp only; rw [hto]; exact ho2
     ·simp only; rw [htb']; exact hq2
    ·have ex : (!(tb == [])) = true:=by simpa using et
     rw [if_pos et] at hto
     refine zi ex ?_; refine zC (cV p) hb2 rfl ?_; refine zJ (v:=[zr p.fst,zr p.snd,AV.str tb]) rfl ?_; refine zAt rfl rfl ?_; refine zC1 (H0:=H) (ys:=[zO ⟨p.1,p.2,tb⟩]) (ho2.push _) (hO2.push _) zBE (by decide) (by simp only [List.length_singleton]; omega) (by simp) (fun v' H9 ho9 hO9 _ hfr9=>?_)
     have hq9:=(hq2.push (.row 3 [zO ⟨p.1,p.2,tb⟩])).after (v:=out) (fun b hb e=>hap b e hb) hfr9
     refine zh (r:=i + 1) rfl tO ?_; refine zAq (i + 1,v',both) rfl ⟨hO9,by simp only; omega, ?_, ?_⟩ (by simp only; omega)
     ·have e2 : [zO ⟨p.1,p.2,tb⟩] = [(⟨p.1,p.2,tb⟩ : Fil)].map zO:=rfl
      rw [e2,← List.map_append,← hto] at ho9
      exact ho9
     ·simp only; rw [htb']; exact hq9
   ·have e1 : (ta == tw) = false:=by simpa using ea
    rw [if_neg ea] at hto
    by_cases eb : tb = tw
    ·have e2 : (!(tb == tw)) = false:=by simpa using eb
     rw [if_neg (fun h=>h.2.1 eb),List.append_nil] at htb'
     refine zCk (hga2 _) ?_; refine zC (cV p) hb2 rfl ?_; refine zCk (hga2 _) ?_; refine zC (cV p) hb2 rfl ?_; refine zCk (hgw2 _) ?_; refine zY e1 ?_; refine zC (cV p) hb2 rfl ?_; refine zCk (hgb2 _) ?_; refine zC (cV p) hb2 rfl ?_; refine zCk (hgw2 _) ?_; refine zY e2 ?_; refine zF ?_; refine zF ?_
     by_cases et : ta = []
     ·have ex : (!(ta == [])) = false:=by rw [et]; rfl
      rw [if_neg (by simp [et]),List.append_nil] at hto
      refine zY ex ?_; refine zh (r:=i + 1) rfl tO ?_; refine zAq (i + 1,out,both) rfl ⟨hO2,by simp only; omega, ?_, ?_⟩ (by simp only; omega)
      ·simp only; rw [hto]; exact ho2
      ·simp only; rw [htb']; exact hq2
     ·have ex : (!(ta == [])) = true:=by simpa using et
      rw [if_pos et] at hto
      refine zi ex ?_; refine zC (cV p) hb2 rfl ?_; refine zJ (v:=[zr p.fst,zr p.snd,AV.str ta]) rfl ?_; refine zAt rfl rfl ?_; refine zC1 (H0:=H) (ys:=[zO ⟨p.1,p.2,ta⟩]) (ho2.push _) (hO2.push _) zBE (by decide) (by simp only [List.length_singleton]; omega) (by simp) (fun v' H9 ho9 hO9 _ hfr9=>?_)
      have hq9:=(hq2.push (.row 3 [zO ⟨p.1,p.2,ta⟩])).after (v:=out) (fun b hb e=>hap b e hb) hfr9
      refine zh (r:=i + 1) rfl tO ?_; refine zAq (i + 1,v',both) rfl ⟨hO9,by simp only; omega, ?_, ?_⟩ (by simp only; omega)
      ·have e2 : [zO ⟨p.1,p.2,ta⟩] = [(⟨p.1,p.2,ta⟩ : Fil)].map zO:=rfl
       rw [e2,← List.map_append,← hto] at ho9
       exact ho9
      ·simp only; rw [htb']; exact hq9
    ·have e2 : (!(tb == tw)) = true:=by simpa using eb
     by_cases ec : ta = tb
     ·have e3 : (!(ta == tb)) = false:=by simpa using ec
      rw [if_neg (fun h=>h.2.2 ec),List.append_nil] at htb'
      refine zCk (hga2 _) ?_; refine zC (cV p) hb2 rfl ?_; refine zCk (hga2 _) ?_; refine zC (cV p) hb2 rfl ?_; refine zCk (hgw2 _) ?_; refine zY e1 ?_; refine zC (cV p) hb2 rfl ?_; refine zCk (hgb2 _) ?_; refine zC (cV p) hb2 rfl ?_; refine zCk (hgw2 _) ?_; refine zi e2 ?_; refine zC (cV p) hb2 rfl ?_; refine zCk (hga2 _) ?_; refine zC (cV p) hb2 rfl ?_; refine zCk (hgb2 _) ?_; refine zI ?_; refine zY e3 ?_
      by_cases et : ta = []
      ·have ex : (!(ta == [])) = false:=by rw [et]; rfl
       rw [if_neg (by simp [et]),List.append_nil] at hto
       refine zY ex ?_; refine zh (r:=i + 1) rfl tO ?_; refine zAq (i + 1,out,both) rfl ⟨hO2,by simp only; omega, ?_, ?_⟩ (by simp only; omega)
       ·simp only; rw [hto]; exact ho2
       ·simp only; rw [htb']; exact hq2
      ·have ex : (!(ta == [])) = true:=by simpa using et
       rw [if_pos et] at hto
       refine zi ex ?_; refine zC (cV p) hb2 rfl ?_; refine zJ (v:=[zr p.fst,zr p.snd,AV.str ta]) rfl ?_; refine zAt rfl rfl ?_; refine zC1 (H0:=H) (ys:=[zO ⟨p.1,p.2,ta⟩]) (ho2.push _) (hO2.push _) zBE (by decide) (by simp only [List.length_singleton]; omega) (by simp) (fun v' H9 ho9 hO9 _ hfr9=>?_)
       have hq9:=(hq2.push (.row 3 [zO ⟨p.1,p.2,ta⟩])).after (v:=out) (fun b hb e=>hap b e hb) hfr9
       refine zh (r:=i + 1) rfl tO ?_; refine zAq (i + 1,v',both) rfl ⟨hO9,by simp only; omega, ?_, ?_⟩ (by simp only; omega)
       ·have e2 : [zO ⟨p.1,p.2,ta⟩] = [(⟨p.1,p.2,ta⟩ : Fil)].map zO:=rfl
        rw [e2,← List.map_append,← hto] at ho9
        exact ho9
       ·simp only; rw [htb']; exact hq9
     ·have e3 : (!(ta == tb)) = true:=by simpa using ec
      rw [if_pos ⟨ea,eb,ec⟩] at htb'
      refine zCk (hga2 _) ?_; refine zC (cV p) hb2 rfl ?_; refine zCk (hga2 _) ?_; refine zC (cV p) hb2 rfl ?_; refine zCk (hgw2 _) ?_; refine zY e1 ?_; refine zC (cV p) hb2 rfl ?_; refine zCk (hgb2 _) ?_; refine zC (cV p) hb2 rfl ?_; refine zCk (hgw2 _) ?_; refine zi e2 ?_; refine zC (cV p) hb2 rfl ?_; refine zCk (hga2 _) ?_; refine zC (cV p) hb2 rfl ?_; refine zCk (hgb2 _) ?_; refine zI ?_; refine zi e3 ?_
      refine zC (cV p) hb2 rfl ?_; refine zAt rfl rfl ?_; refine zC1 (H0:=H) (ys:=[cV p]) (hq2.push _) (hO2.push _) zBE (by decide) (by simp only [List.length_singleton]; omega) (by simp) (fun bo2 H3 hq3 hO3 hbl hfr=>?_)
      have ho3:=(ho2.push (.row 2 [cV p])).after (v:=both) hap hfr
      have hb3:=hfr _ _ hn2 (zA hb2)
      have hap3 : ∀ b,out.blk = some b → bo2.blk ≠ some b:=fun b hb e=>by
       rw [hbl] at e
       have h1:=(ho2.lt hb).2
       simp only [Option.some.injEq,List.length_append,List.length_cons,List.length_nil] at e
       omega
      have e2b : [cV p] = [p].map cV:=rfl
      rw [e2b,← List.map_append,← htb'] at hq3
      clear htb' hq2 hO2 hb2 hap
      by_cases et : ta = []
      ·have ex : (!(ta == [])) = false:=by rw [et]; rfl
       rw [if_neg (by simp [et]),List.append_nil] at hto
       refine zY ex ?_; refine zh (r:=i + 1) rfl tO ?_; refine zAq (i + 1,out,bo2) rfl ⟨hO3,by simp only; omega, ?_, ?_⟩ (by simp only; omega)
       ·simp only; rw [hto]; exact ho3
       ·simp only; exact hq3
      ·have ex : (!(ta == [])) = true:=by simpa using et
       rw [if_pos et] at hto
       refine zi ex ?_; refine zC (cV p) hb3 rfl ?_; refine zJ (v:=[zr p.fst,zr p.snd,AV.str ta]) rfl ?_; refine zAt rfl rfl ?_; refine zC1 (H0:=H) (ys:=[zO ⟨p.1,p.2,ta⟩]) (ho3.push _) (hO3.push _) zBE (by decide) (by simp only [List.length_singleton]; omega) (by simp) (fun v' H9 ho9 hO9 _ hfr9=>?_)
       have hq9:=(hq3.push (.row 3 [zO ⟨p.1,p.2,ta⟩])).after (v:=out) (fun b hb e=>hap3 b e hb) hfr9
       refine zh (r:=i + 1) rfl tO ?_; refine zAq (i + 1,v',bo2) rfl ⟨hO9,by simp only; omega, ?_, ?_⟩ (by simp only; omega)
       ·have e2 : [zO ⟨p.1,p.2,ta⟩] = [(⟨p.1,p.2,ta⟩ : Fil)].map zO:=rfl
        rw [e2,← List.map_append,← hto] at ho9
        exact ho9
       ·simp only; exact hq9
  ·have he : cs.take i = cs:=List.take_of_length_le tO
   rw [he] at ho hq
   have hlm : ((zAN w a b cs).map zO).length = (zAN w a b cs).length:=List.length_map _
   have hlo:=threeO_le w a b cs
   have hne : ∀ (x y : AV),x ∈ (zAN w a b cs).map zO → y ∈ (zB3 w a b cs).map cV → x ≠ y:=fun x y hx hy e=>fil_cel hy hx e.symm
   have hap : ∀ b,both.blk = some b → out.blk ≠ some b:=fun b hb=>Owns.apart ho hq hne hb
   by_cases hbig : 200 < (zAN w a b cs).length
   ·rw [if_pos hbig]
    refine zY tF ?_; refine zHR (zAN w a b cs).length ho.view hlm ?_; refine zi (tT) ?_
    exact zBv rfl rfl rfl rfl hO
   ·rw [if_neg hbig]
    obtain ⟨H2,hf,hO2,hfr⟩:=ho.frz hO
    have hq2:=hq.after hap hfr
    obtain ⟨H3,hf3,hO3,_⟩:=hq2.frz hO2
    refine zY tF ?_; refine zHR (zAN w a b cs).length ho.view hlm ?_; refine zY tF ?_
    exact sRetF rfl rfl (frz_trip hf hf3) (bel_trip _ _ _ _ _) hO3
 ·have hdv : zEV w a b = .tup [.lst (some true) 0 [],.lst (some true) 0 [],zEX (zk [w,a,b] : Nat)]:=by
   unfold zEV zAU
   simp [c0]
  have he : eV (zk [w,a,b]) = zEX (zk [w,a,b] : Nat):=by unfold eV; rw [if_neg c0]
  rw [hdv]
  rw [he] at hck
  generalize zk [w,a,b] = n at *
  clear hM
  refine zW ?_; refine zAt (fra _) hel ?_; refine zG hck ?_; refine zJ rfl ?_; refine zI ?_
  exact zBv rfl rfl rfl rfl ((Old.refl _).push _)
end
end Go.AM
set_option maxRecDepth 20000
namespace Go.AM
theorem three_two {w a : List Fil} {cs : List (Int × Int)} (ha : Goods a) (hc : zCr [w,a,w] cs) : zAN w a w cs = a ∧ zB3 w a w cs = []:=by
 refine ⟨zHC (zDV _ _ _ hc.1) ha.srt (zHE _ _ _ _) (fun f hf=>(ha.each f hf).2) fun p=>?_, ?_⟩
 ·rw [zBi hc]; unfold txT; by_cases h : zS a p = zS w p
  ·rw [if_pos h,h]
  ·rw [if_neg h]
 ·unfold zB3
  exact List.filter_eq_nil_iff.2 fun p _=>by simp [zIH]
theorem zAg {w a b : List Fil} (h : zAU w a b = 0) : Goods w ∧ Goods a ∧ Goods b ∧ (zAx w a b).length ≤ 200:=by
 unfold zAU at h
 by_cases h1 : zk [w,a,b] ≠ 0
 ·rw [if_pos h1] at h; exact absurd h h1
 ·rw [if_neg h1] at h
  have h1 : zk [w,a,b] = 0:=by omega
  refine ⟨zA6 h1 w (by simp),zA6 h1 a (by simp),zA6 h1 b (by simp), ?_⟩
  by_cases h2 : 200 < (zAx w a b).length
  ·rw [if_pos h2] at h; cases h
  ·omega
theorem zAh {w a b : List Fil} (h : zAU w a b ≠ 0) : zEV w a b = .tup [.lst (some true) 0 [],.lst (some true) 0 [],zEX (zAU w a b : Nat)]:=if_neg h
theorem zAO {w a b : List Fil} (h : zAU w a b = 0) : zEV w a b = .tup [zCU 3 ((zAx w a b).map zO),zCU 2 ((zBV w a b).map cV),.nili]:=if_pos h
theorem threeL_one {w b : List Fil} (h : zAU w w b = 0) : zAx w w b = b ∧ zBV w w b = []:=three_one (zAg h).2.2.1 (zAM _)
theorem zJo {w a : List Fil} (h : zAU w a a = 0) : zAx w a a = a ∧ zBV w a a = []:=three_both (zAg h).2.1 (zAM _)
theorem small_three : zAU [] zBW [] = 0 ∧ zAx [] zBW [] = zBW ∧ zBV [] zBW [] = []:=by
 obtain ⟨h1,h2⟩:=three_two (w:=[]) zEs (zAM _)
 have h3 : zAx [] zBW [] = zBW:=h1
 refine ⟨?_,h3,h2⟩
 unfold zAU
 rw [if_neg (by
  rw [zCv fun l hl=>?_]
  ·simp
  ·simp at hl
   rcases hl with rfl | rfl | rfl
   ·exact zJm
   ·exact zEs
   ·exact zJm),h3,if_neg (by decide)]
theorem zJp (w a b : List Fil) : zA5 [w,b,a] = zA5 [w,a,b]:=(cells_perm (zAM _) (zAM _)).symm
theorem zEu (w a b : List Fil) : zBV w b a = zBV w a b:=by
 unfold zBV
 rw [zJp,both_perm]
theorem zFo (w a b : List Fil) : (zAP (zAx w a b) (zAx w b a)).map zA1 = zBV w a b:=by
 have h:=both_diff (w:=w) (a:=a) (b:=b) (zAM [w,a,b]) (zAM [zAN w a b (zA5 [w,a,b]),zAN w b a (zA5 [w,a,b])])
 unfold zAP zAx zBV
 rw [zJp w a b]
 exact h
section
variable {C : CSpec} {GT : Nat → Option AV}
theorem ssheetsG_ev (v w : AV) (l m : List Fil) (H : Heap) (hv : view H 3 v = some (l.map zO)) (hw : view H 3 w = some (m.map zO)) (hl : l.length ≤ 1000000) : EFun C GT zC3 [v,w] H (.bool (decide (l = m))) H:=by
 have hlm : (l.map zO).length = l.length:=List.length_map _
 have hmm : (m.map zO).length = m.length:=List.length_map _
 refine zW ?_
 by_cases hn : l.length = m.length
 ·have hx : (!((l.length : Int) == (m.length : Int))) = false:=by rw [hn]; simp
  refine zHR l.length hv hlm ?_; refine zHR m.length hw hmm ?_; refine zY hx ?_; refine zCC (fun i : Nat=>[(5,zR i),(1,w),(0,v)]) (fun i H'=>H' = H ∧ i ≤ l.length ∧ l.take i = m.take i) (fun i=>l.length - i) 0 rfl ⟨rfl,by omega,by simp⟩ (fun i H1 hi=>?_)
  obtain ⟨hH,hi,ht⟩:=hi
  subst hH
  dsimp only
  by_cases hlt : i < l.length
  ·obtain ⟨c,hc⟩ : ∃ c,l[i]? = some c:=⟨_,List.getElem?_eq_getElem hlt⟩
   obtain ⟨d,hd⟩ : ∃ d,m[i]? = some d:=⟨_,List.getElem?_eq_getElem tO⟩
   have hcm : (l.map zO)[i]? = some (zO c):=by rw [List.getElem?_map,hc]; rfl
   have hdm : (m.map zO)[i]? = some (zO d):=by rw [List.getElem?_map,hd]; rfl
   refine zHR l.length hv hlm <| zi tT ?_; refine zDX i (zO c) hv rfl hcm (fun p hp=>?_)
   refine zBD (zO c) hp rfl ?_; refine zDX i (zO d) hw rfl hdm (fun p2 hp2=>?_)
   refine zBD (zO d) hp2 rfl ?_
   by_cases e : c = d
   ·subst e
    refine zJ rfl <| zY (show zH5 true (c.col == c.col && (c.row == c.row && (c.text == c.text && true))) = false from by simp [zH5]) <| zh (r:=i + 1) rfl tO ?_; refine zAq (i + 1) rfl ⟨rfl,by omega, ?_⟩ tO
    rw [List.take_succ,List.take_succ,ht,hc,hd]
   ·have hne : decide (l = m) = false:=decide_eq_false fun e2=>e (by rw [e2,hd] at hc; exact (Option.some.inj hc).symm)
    rw [hne]
    refine zJ rfl <| zi (show zH5 true (c.col == d.col && (c.row == d.row && (c.text == d.text && true))) = true from ?_) ?_
    ·cases hx : (c.col == d.col && (c.row == d.row && (c.text == d.text && true))) with
     | false=>rfl
     | true=>
      simp at hx
      exact absurd (by cases c; cases d; simp_all) e
    ·exact sRr
  ·have h1 : l.take i = l:=List.take_of_length_le tO
   have h2 : m.take i = m:=List.take_of_length_le tO
   rw [h1,h2] at ht
   rw [decide_eq_true ht]
   refine zHR l.length hv hlm <| zY tF ?_
   exact sRr
 ·have hx : (!((l.length : Int) == (m.length : Int))) = true:=by simp; omega
  rw [decide_eq_false fun e=>hn (congrArg List.length e)]
  refine zHR l.length hv hlm ?_; refine zHR m.length hw hmm ?_; refine zi hx ?_
  exact sRr
theorem scells_ev (v w : AV) (l : List (Int × Int)) (H : Heap) (hv : view H 2 v = some (l.map cV)) (hw : view H 2 w = some (l.map cV)) (hl : l.length ≤ 1000000) : EFun C GT zFS [v,w] H (.bool true) H:=by
 have hlm : (l.map cV).length = l.length:=List.length_map _
 refine zW ?_; refine zHQ hv <| zHQ hw <| zY (bne_eq_false_iff_eq.2 rfl) ?_; refine zCC (fun i : Nat=>[(5,zR i),(1,w),(0,v)]) (fun i H'=>H' = H ∧ i ≤ l.length) (fun i=>l.length - i) 0 rfl ⟨rfl,by omega⟩ (fun i H1 hi=>?_)
 obtain ⟨hH,hi⟩:=hi
 subst hH
 dsimp only
 by_cases hlt : i < l.length
 ·obtain ⟨c,hc⟩ : ∃ c,l[i]? = some c:=⟨_,List.getElem?_eq_getElem hlt⟩
  have hcm : (l.map cV)[i]? = some (cV c):=by rw [List.getElem?_map,hc]; rfl
  refine zHQ hv <| zi tT ?_; refine zDX i (cV c) hv rfl hcm (fun p hp=>?_)
  refine zBD (cV c) hp rfl ?_; refine zDX i (cV c) hw rfl hcm (fun p2 hp2=>?_)
  refine zBD (cV c) hp2 rfl <| zJ rfl <| zY (show zH5 true (c.1 == c.1 && (c.2 == c.2 && true)) = false from by simp [zH5]) <| zh (r:=i + 1) rfl tO ?_; refine zAq (i + 1) rfl ⟨rfl,by omega⟩ tO
 ·refine zHQ hv <| zY tF ?_
  exact sRr
end
end Go.AM
set_option maxRecDepth 20000
namespace Go.AM
section
variable {C : CSpec} {GT : Nat → Option AV}
set_option maxHeartbeats 16000000 in
theorem mhands_ev (hC : ∀ H,C zBN [] H (.lst (some false) 3 (zBW.map zO)) H)
  (hT : ∀ (wv av bv : AV) (w a b : List Fil),zAE wv 3 (w.map zO) → zAE av 3 (a.map zO) → zAE bv 3 (b.map zO) → ∀ H,C zc [wv,av,bv] H (zEV w a b) H)
  (hD : ∀ (av bv : AV) (a b : List Fil),zAE av 3 (a.map zO) → zAE bv 3 (b.map zO) → ∀ H,C zo [av,bv] H (.tup [diffV a b,eV (zk [a,b])]) H)
  (hS : ∀ v w (l m : List Fil) H,view H 3 v = some (l.map zO) → view H 3 w = some (m.map zO) → l.length ≤ 1000000 → C zAX [v,w] H (.bool (decide (l = m))) H)
  (hK : ∀ v w (l : List (Int × Int)) H,view H 2 v = some (l.map cV) → view H 2 w = some (l.map cV) → l.length ≤ 1000000 → C zCV [v,w] H (.bool true) H)
  (wv av bv : AV) (w a b : List Fil) (hwv : zAE wv 3 (w.map zO)) (hav : zAE av 3 (a.map zO)) (hbv : zAE bv 3 (b.map zO)) (H : Heap) : EFun C GT zC8 [wv,av,bv] H (.bool true) H:=by
 have h0:=hC H
 have hnil : ∀ k,zAE (.lst (some true) 0 []) k []:=fun k=>⟨_,_,rfl,.inr rfl⟩
 obtain ⟨x1,x2,x3⟩:=small_three
 have h1:=hT (.lst (some true) 0 []) (.lst (some false) 3 (zBW.map zO)) (.lst (some true) 0 []) [] zBW [] (hnil 3) ⟨_,_,rfl,.inl rfl⟩ (hnil 3) H
 rw [zAO x1,x2,x3] at h1
 have hsl : zAE (.lst (some false) 3 (zBW.map zO)) 3 (zBW.map zO):=⟨_,_,rfl,.inl rfl⟩
 have hsn : (zBW.map zO).length = 2:=rfl
 have h1' : C zc [.lst (some true) 0 [],.lst (some false) 3 (zBW.map zO),.lst (some true) 0 []] H (.tup [.lst (some false) 3 (zBW.map zO),.lst (some true) 0 [],.nili]) H:=h1
 clear x1 x2 x3 h1
 generalize zBW.map zO = sl at *
 generalize AV.lst (some false) 3 sl = sv at *
 have h2:=hT wv wv bv w w b hwv hwv hbv H
 have h3:=hT wv av av w a a hwv hav hav H
 have h4:=hT wv av bv w a b hwv hav hbv H
 have h5:=hT wv bv av w b a hwv hbv hav H
 have hsz:=fun v w l m hv hw hl=>hS v w l m H hv hw hl
 clear hT hC hS
 by_cases c2 : zAU w w b = 0
 ·rw [zAO c2] at h2
  obtain ⟨y1,y2⟩:=threeL_one c2
  have hbl:=(zAg c2).2.2.1.len
  rw [y1,y2] at h2
  obtain ⟨xv,hxv⟩ : ∃ xv,zCU 3 (b.map zO) = xv:=⟨_,rfl⟩
  have hxl : zAE xv 3 (b.map zO):=by rw [← hxv]; exact zAy _ _
  have s2:=hsz xv bv b b (hxl.view H) (hbv.view H) tO
  rw [decide_eq_true rfl] at s2
  have h2' : C zc [wv,wv,bv] H (.tup [xv,.lst (some true) 0 [],.nili]) H:=by rw [← hxv]; exact h2
  clear h2 hxv y1 y2 hbl hxl
  by_cases c3 : zAU w a a = 0
  ·rw [zAO c3] at h3
   obtain ⟨z1,z2⟩:=zJo c3
   have hal:=(zAg c3).2.1.len
   rw [z1,z2] at h3
   obtain ⟨zv,hzv⟩ : ∃ zv,zCU 3 (a.map zO) = zv:=⟨_,rfl⟩
   have hzl : zAE zv 3 (a.map zO):=by rw [← hzv]; exact zAy _ _
   have s3:=hsz zv av a a (hzl.view H) (hav.view H) tO
   rw [decide_eq_true rfl] at s3
   have h3' : C zc [wv,av,av] H (.tup [zv,.lst (some true) 0 [],.nili]) H:=by rw [← hzv]; exact h3
   clear h3 hzv z1 z2 hal hzl
   by_cases c4 : zAU w a b = 0
   ·by_cases c5 : zAU w b a = 0
    ·have g4:=zAg c4
     have g5:=zAg c5
     have hg4 : Goods (zAx w a b):=zBd (zAM _) g4.2.1 g4.2.2.1 g4.2.2.2
     have hg5 : Goods (zAx w b a):=zBd (zAM _) g5.2.1 g5.2.2.1 g5.2.2.2
     have hl4:=hg4.len
     have hl5:=hg5.len
     have hk4:=zFo w a b
     rw [zAO c4] at h4
     rw [zAO c5,zEu w a b] at h5
     have hcl : (zBV w a b).length ≤ 600:=by
      rw [← hk4,List.length_map]
      have:=zFd hg4 hg5
      omega
     generalize zAx w a b = X at *
     generalize zAx w b a = Y at *
     obtain ⟨d1,d2⟩:=zEt hg4 hg5
     obtain ⟨Xv,hXv⟩ : ∃ v,zCU 3 (X.map zO) = v:=⟨_,rfl⟩
     have hXl : zAE Xv 3 (X.map zO):=by rw [← hXv]; exact zAy _ _
     obtain ⟨Yv,hYv⟩ : ∃ v,zCU 3 (Y.map zO) = v:=⟨_,rfl⟩
     have hYl : zAE Yv 3 (Y.map zO):=by rw [← hYv]; exact zAy _ _
     have hd:=hD Xv Yv X Y hXl hYl H
     rw [d1,d2] at hd
     have hel : ((zAP X Y).map zO).length = (zBV w a b).length:=by rw [← hk4,List.length_map,List.length_map]
     generalize zBV w a b = K at *
     obtain ⟨Kv,hKv⟩ : ∃ v,zCU 2 (K.map cV) = v:=⟨_,rfl⟩
     have hKl : zAE Kv 2 (K.map cV):=by rw [← hKv]; exact zAy _ _
     have hKn : (K.map cV).length = K.length:=List.length_map _
     have hk:=hK Kv Kv K H (hKl.view H) (hKl.view H) tO
     obtain ⟨Ev,hEv⟩ : ∃ v,zCU 3 ((zAP X Y).map zO) = v:=⟨_,rfl⟩
     have hEl : zAE Ev 3 ((zAP X Y).map zO):=by rw [← hEv]; exact zAy _ _
     have hd' : C zo [Xv,Yv] H (.tup [Ev,.nili]) H:=by rw [← hEv]; exact hd
     have h4' : C zc [wv,av,bv] H (.tup [Xv,Kv,.nili]) H:=by rw [← hXv,← hKv]; exact h4
     have h5' : C zc [wv,bv,av] H (.tup [Yv,Kv,.nili]) H:=by rw [← hYv,← hKv]; exact h5
     have hcell : ∀ i p,K[i]? = some p → ∃ f,(zAP X Y)[i]? = some f ∧ p = zA1 f:=fun i p hp=>by
      rw [← hk4,List.getElem?_map] at hp
      obtain ⟨f,hf,e⟩:=Option.map_eq_some_iff.1 hp
      exact ⟨f,hf,e.symm⟩
     clear hD hK hsz hd h4 h5 hXv hYv hKv hEv d1 d2 hk4
     generalize zAP X Y = E at *
     refine zW ?_; refine zG h0 ?_; refine zG h1' ?_; refine zJ rfl ?_; refine zJ rfl ?_; refine zJ rfl ?_; refine zJ rfl ?_; refine zF ?_; refine zAG 2 hsl hsn ?_; refine zF ?_; refine zY (bne_eq_false_iff_eq.2 rfl) ?_; refine zAG 0 (hnil 2) rfl ?_; refine zF ?_; refine zY (bne_eq_false_iff_eq.2 rfl) ?_; refine zG h2' ?_; refine zJ rfl ?_; refine zJ rfl ?_; refine zJ rfl ?_; refine zG s2 ?_; refine zJ rfl ?_
     refine zI ?_; refine zF ?_; refine zAG 0 (hnil 2) rfl ?_; refine zF ?_; refine zI ?_; refine zY (bne_eq_false_iff_eq.2 rfl) ?_; refine zG h3' ?_; refine zJ rfl ?_; refine zJ rfl ?_; refine zJ rfl ?_; refine zG s3 ?_; refine zJ rfl ?_; refine zI ?_; refine zF ?_; refine zAG 0 (hnil 2) rfl ?_; refine zF ?_; refine zI ?_; refine zY (bne_eq_false_iff_eq.2 rfl) ?_; refine zG h4' ?_; refine zJ rfl ?_
     refine zJ rfl ?_; refine zJ rfl ?_; refine zG h5' ?_; refine zJ rfl ?_; refine zJ rfl ?_; refine zJ rfl ?_; refine zJ rfl ?_; refine zF ?_; refine zJ rfl ?_; refine zF ?_; refine zF ?_; refine zG hk ?_; refine zG hd' ?_; refine zJ rfl ?_; refine zJ rfl ?_; refine zJ rfl ?_; refine zF ?_; refine zF ?_; refine zF ?_; refine zAG K.length hEl hel ?_; refine zAG K.length hKl hKn ?_; refine zF ?_; refine zY (bne_eq_false_iff_eq.2 rfl) ?_
     refine zCC (fun i : Nat=>[(19,zR i),(11,Kv),(17,Ev)]) (fun i H'=>H' = H ∧ i ≤ K.length) (fun i=>K.length - i) 0 rfl ⟨rfl,by omega⟩ (fun i H1 hi=>?_)
     obtain ⟨hH,hi⟩:=hi
     subst hH
     dsimp only
     by_cases hlt : i < K.length
     ·obtain ⟨p,hp⟩ : ∃ p,K[i]? = some p:=⟨_,List.getElem?_eq_getElem hlt⟩
      obtain ⟨f,hf,hpf⟩:=hcell i p hp
      have hpm : (K.map cV)[i]? = some (cV p):=by rw [List.getElem?_map,hp]; rfl
      have hfm : (E.map zO)[i]? = some (zO f):=by rw [List.getElem?_map,hf]; rfl
      have hx : zH5 true (f.col == p.1 && (f.row == p.2 && true)) = false:=by rw [hpf]; simp [zH5,zA1]
      refine zAG K.length hEl hel ?_; refine zi tT ?_; refine zGE i (zO f) hEl rfl hfm ?_; refine zBb (zAu f.col f.row) rfl ?_; refine zGE i (cV p) hKl rfl hpm ?_; refine zBb (cV p) rfl ?_; refine zJ rfl ?_; refine zY hx ?_; refine zh (r:=i + 1) rfl tO ?_; refine zAq (i + 1) rfl ⟨rfl,by omega⟩ tO
     ·refine zAG K.length hEl hel ?_; refine zY tF ?_
      exact sRr
    ·rw [zAO c4] at h4
     rw [zAh c5] at h5
     generalize zAU w b a = n5 at *
     generalize zCU 3 ((zAx w a b).map zO) = Xv at *
     generalize zCU 2 ((zBV w a b).map cV) = Kv at *
     have h4':=h4
     have h5':=h5
     clear h4 h5
     clear hD hK hsz
     refine zW ?_; refine zG h0 ?_; refine zG h1' ?_; refine zJ rfl ?_; refine zJ rfl ?_; refine zJ rfl ?_; refine zJ rfl ?_; refine zF ?_; refine zAG 2 hsl hsn ?_; refine zF ?_; refine zF ?_; refine zAG 0 (hnil 2) rfl ?_; refine zF ?_; refine zF ?_; refine zG h2' ?_; refine zJ rfl ?_; refine zJ rfl ?_; refine zJ rfl ?_; refine zG s2 ?_; refine zJ rfl ?_; refine zI ?_; refine zF ?_; refine zAG 0 (hnil 2) rfl ?_
     refine zF ?_; refine zI ?_; refine zF ?_; refine zG h3' ?_; refine zJ rfl ?_; refine zJ rfl ?_; refine zJ rfl ?_; refine zG s3 ?_; refine zJ rfl ?_; refine zI ?_; refine zF ?_; refine zAG 0 (hnil 2) rfl ?_; refine zF ?_; refine zI ?_; refine zF ?_; refine zG h4' ?_; refine zJ rfl ?_; refine zJ rfl ?_; refine zJ rfl ?_; refine zG h5' ?_; refine zJ rfl ?_; refine zJ rfl ?_; refine zJ rfl ?_; refine zJ rfl ?_
     refine zF ?_; refine zJ rfl ?_; refine zF ?_; refine zI ?_
     exact sRr
   ·rw [zAh c4] at h4
    generalize zAU w a b = n4 at *
    obtain ⟨v51,v52,v53,e5⟩ : ∃ x y z,zEV w b a = .tup [x,y,z]:=by
     by_cases c5 : zAU w b a = 0
     ·exact ⟨_,_,_,zAO c5⟩
     ·exact ⟨_,_,_,zAh c5⟩
    rw [e5] at h5
    clear e5
    have h4':=h4
    have h5':=h5
    clear h4 h5
    clear hD hK hsz
    refine zW ?_; refine zG h0 ?_; refine zG h1' ?_; refine zJ rfl ?_; refine zJ rfl ?_; refine zJ rfl ?_; refine zJ rfl ?_; refine zF ?_; refine zAG 2 hsl hsn ?_; refine zF ?_; refine zF ?_; refine zAG 0 (hnil 2) rfl ?_; refine zF ?_; refine zF ?_; refine zG h2' ?_; refine zJ rfl ?_; refine zJ rfl ?_; refine zJ rfl ?_; refine zG s2 ?_; refine zJ rfl ?_; refine zI ?_; refine zF ?_; refine zAG 0 (hnil 2) rfl ?_
    refine zF ?_; refine zI ?_; refine zF ?_; refine zG h3' ?_; refine zJ rfl ?_; refine zJ rfl ?_; refine zJ rfl ?_; refine zG s3 ?_; refine zJ rfl ?_; refine zI ?_; refine zF ?_; refine zAG 0 (hnil 2) rfl ?_; refine zF ?_; refine zI ?_; refine zF ?_; refine zG h4' ?_; refine zJ rfl ?_; refine zJ rfl ?_; refine zJ rfl ?_; refine zG h5' ?_; refine zJ rfl ?_; refine zJ rfl ?_; refine zJ rfl ?_; refine zJ rfl ?_
    refine zI ?_; refine zI ?_; refine zI ?_
    exact sRr
  ·rw [zAh c3] at h3
   have s3:=hsz (.lst (some true) 0 []) av [] a ((hnil 3).view H) (hav.view H) (by simp)
   generalize decide ([] = a) = q3 at *
   generalize zAU w a a = n3 at *
   have h3':=h3
   clear h3
   by_cases c4 : zAU w a b = 0
   ·by_cases c5 : zAU w b a = 0
    ·have g4:=zAg c4
     have g5:=zAg c5
     have hg4 : Goods (zAx w a b):=zBd (zAM _) g4.2.1 g4.2.2.1 g4.2.2.2
     have hg5 : Goods (zAx w b a):=zBd (zAM _) g5.2.1 g5.2.2.1 g5.2.2.2
     have hl4:=hg4.len
     have hl5:=hg5.len
     have hk4:=zFo w a b
     rw [zAO c4] at h4
     rw [zAO c5,zEu w a b] at h5
     have hcl : (zBV w a b).length ≤ 600:=by
      rw [← hk4,List.length_map]
      have:=zFd hg4 hg5
      omega
     generalize zAx w a b = X at *
     generalize zAx w b a = Y at *
     obtain ⟨d1,d2⟩:=zEt hg4 hg5
     obtain ⟨Xv,hXv⟩ : ∃ v,zCU 3 (X.map zO) = v:=⟨_,rfl⟩
     have hXl : zAE Xv 3 (X.map zO):=by rw [← hXv]; exact zAy _ _
     obtain ⟨Yv,hYv⟩ : ∃ v,zCU 3 (Y.map zO) = v:=⟨_,rfl⟩
     have hYl : zAE Yv 3 (Y.map zO):=by rw [← hYv]; exact zAy _ _
     have hd:=hD Xv Yv X Y hXl hYl H
     rw [d1,d2] at hd
     have hel : ((zAP X Y).map zO).length = (zBV w a b).length:=by rw [← hk4,List.length_map,List.length_map]
     generalize zBV w a b = K at *
     obtain ⟨Kv,hKv⟩ : ∃ v,zCU 2 (K.map cV) = v:=⟨_,rfl⟩
     have hKl : zAE Kv 2 (K.map cV):=by rw [← hKv]; exact zAy _ _
     have hKn : (K.map cV).length = K.length:=List.length_map _
     have hk:=hK Kv Kv K H (hKl.view H) (hKl.view H) tO
     obtain ⟨Ev,hEv⟩ : ∃ v,zCU 3 ((zAP X Y).map zO) = v:=⟨_,rfl⟩
     have hEl : zAE Ev 3 ((zAP X Y).map zO):=by rw [← hEv]; exact zAy _ _
     have hd' : C zo [Xv,Yv] H (.tup [Ev,.nili]) H:=by rw [← hEv]; exact hd
     have h4' : C zc [wv,av,bv] H (.tup [Xv,Kv,.nili]) H:=by rw [← hXv,← hKv]; exact h4
     have h5' : C zc [wv,bv,av] H (.tup [Yv,Kv,.nili]) H:=by rw [← hYv,← hKv]; exact h5
     have hcell : ∀ i p,K[i]? = some p → ∃ f,(zAP X Y)[i]? = some f ∧ p = zA1 f:=fun i p hp=>by
      rw [← hk4,List.getElem?_map] at hp
      obtain ⟨f,hf,e⟩:=Option.map_eq_some_iff.1 hp
      exact ⟨f,hf,e.symm⟩
     clear hD hK hsz hd h4 h5 hXv hYv hKv hEv d1 d2 hk4
     generalize zAP X Y = E at *
     refine zW ?_; refine zG h0 ?_; refine zG h1' ?_; refine zJ rfl ?_; refine zJ rfl ?_; refine zJ rfl ?_; refine zJ rfl ?_; refine zF ?_; refine zAG 2 hsl hsn ?_; refine zF ?_; refine zY (bne_eq_false_iff_eq.2 rfl) ?_; refine zAG 0 (hnil 2) rfl ?_; refine zF ?_; refine zY (bne_eq_false_iff_eq.2 rfl) ?_; refine zG h2' ?_; refine zJ rfl ?_; refine zJ rfl ?_; refine zJ rfl ?_; refine zG s2 ?_; refine zJ rfl ?_
     refine zI ?_; refine zF ?_; refine zAG 0 (hnil 2) rfl ?_; refine zF ?_; refine zI ?_; refine zY (bne_eq_false_iff_eq.2 rfl) ?_; refine zG h3' ?_; refine zJ rfl ?_; refine zJ rfl ?_; refine zJ rfl ?_; refine zG s3 ?_; refine zJ rfl ?_; refine zF ?_; refine zF ?_; refine zF ?_; refine zG h4' ?_; refine zJ rfl ?_; refine zJ rfl ?_; refine zJ rfl ?_; refine zG h5' ?_; refine zJ rfl ?_; refine zJ rfl ?_
     refine zJ rfl ?_; refine zJ rfl ?_; refine zF ?_; refine zJ rfl ?_; refine zF ?_; refine zF ?_; refine zG hk ?_; refine zG hd' ?_; refine zJ rfl ?_; refine zJ rfl ?_; refine zJ rfl ?_; refine zF ?_; refine zF ?_; refine zF ?_; refine zAG K.length hEl hel ?_; refine zAG K.length hKl hKn ?_; refine zF ?_; refine zY (bne_eq_false_iff_eq.2 rfl) ?_; refine zCC (fun i : Nat=>[(19,zR i),(11,Kv),(17,Ev)]) (fun i H'=>H' = H ∧ i ≤ K.length) (fun i=>K.length - i) 0 rfl ⟨rfl,by omega⟩ (fun i H1 hi=>?_)
     obtain ⟨hH,hi⟩:=hi
     subst hH
     dsimp only
     by_cases hlt : i < K.length
     ·obtain ⟨p,hp⟩ : ∃ p,K[i]? = some p:=⟨_,List.getElem?_eq_getElem hlt⟩
      obtain ⟨f,hf,hpf⟩:=hcell i p hp
      have hpm : (K.map cV)[i]? = some (cV p):=by rw [List.getElem?_map,hp]; rfl
      have hfm : (E.map zO)[i]? = some (zO f):=by rw [List.getElem?_map,hf]; rfl
      have hx : zH5 true (f.col == p.1 && (f.row == p.2 && true)) = false:=by rw [hpf]; simp [zH5,zA1]
      refine zAG K.length hEl hel ?_; refine zi tT ?_; refine zGE i (zO f) hEl rfl hfm ?_; refine zBb (zAu f.col f.row) rfl ?_; refine zGE i (cV p) hKl rfl hpm ?_; refine zBb (cV p) rfl ?_; refine zJ rfl ?_; refine zY hx ?_; refine zh (r:=i + 1) rfl tO ?_; refine zAq (i + 1) rfl ⟨rfl,by omega⟩ tO
     ·refine zAG K.length hEl hel ?_; refine zY tF ?_
      exact sRr
    ·rw [zAO c4] at h4
     rw [zAh c5] at h5
     generalize zAU w b a = n5 at *
     generalize zCU 3 ((zAx w a b).map zO) = Xv at *
     generalize zCU 2 ((zBV w a b).map cV) = Kv at *
     have h4':=h4
     have h5':=h5
     clear h4 h5
     clear hD hK hsz
     refine zW ?_; refine zG h0 ?_; refine zG h1' ?_; refine zJ rfl ?_; refine zJ rfl ?_; refine zJ rfl ?_; refine zJ rfl ?_; refine zF ?_; refine zAG 2 hsl hsn ?_; refine zF ?_; refine zF ?_; refine zAG 0 (hnil 2) rfl ?_; refine zF ?_; refine zF ?_; refine zG h2' ?_; refine zJ rfl ?_; refine zJ rfl ?_; refine zJ rfl ?_; refine zG s2 ?_; refine zJ rfl ?_; refine zI ?_; refine zF ?_; refine zAG 0 (hnil 2) rfl ?_
     refine zF ?_; refine zI ?_; refine zF ?_; refine zG h3' ?_; refine zJ rfl ?_; refine zJ rfl ?_; refine zJ rfl ?_; refine zG s3 ?_; refine zJ rfl ?_; refine zF ?_; refine zF ?_; refine zF ?_; refine zG h4' ?_; refine zJ rfl ?_; refine zJ rfl ?_; refine zJ rfl ?_; refine zG h5' ?_; refine zJ rfl ?_; refine zJ rfl ?_; refine zJ rfl ?_; refine zJ rfl ?_; refine zF ?_; refine zJ rfl ?_; refine zF ?_
     refine zI ?_
     exact sRr
   ·rw [zAh c4] at h4
    generalize zAU w a b = n4 at *
    obtain ⟨v51,v52,v53,e5⟩ : ∃ x y z,zEV w b a = .tup [x,y,z]:=by
     by_cases c5 : zAU w b a = 0
     ·exact ⟨_,_,_,zAO c5⟩
     ·exact ⟨_,_,_,zAh c5⟩
    rw [e5] at h5
    clear e5
    have h4':=h4
    have h5':=h5
    clear h4 h5
    clear hD hK hsz
    refine zW ?_; refine zG h0 ?_; refine zG h1' ?_; refine zJ rfl ?_; refine zJ rfl ?_; refine zJ rfl ?_; refine zJ rfl ?_; refine zF ?_; refine zAG 2 hsl hsn ?_; refine zF ?_; refine zF ?_; refine zAG 0 (hnil 2) rfl ?_; refine zF ?_; refine zF ?_; refine zG h2' ?_; refine zJ rfl ?_; refine zJ rfl ?_; refine zJ rfl ?_; refine zG s2 ?_; refine zJ rfl ?_; refine zI ?_; refine zF ?_; refine zAG 0 (hnil 2) rfl ?_
    refine zF ?_; refine zI ?_; refine zF ?_; refine zG h3' ?_; refine zJ rfl ?_; refine zJ rfl ?_; refine zJ rfl ?_; refine zG s3 ?_; refine zJ rfl ?_; refine zF ?_; refine zF ?_; refine zF ?_; refine zG h4' ?_; refine zJ rfl ?_; refine zJ rfl ?_; refine zJ rfl ?_; refine zG h5' ?_; refine zJ rfl ?_; refine zJ rfl ?_; refine zJ rfl ?_; refine zJ rfl ?_; refine zI ?_; refine zI ?_; refine zI ?_
    exact sRr
 ·rw [zAh c2] at h2
  have s2:=hsz (.lst (some true) 0 []) bv [] b ((hnil 3).view H) (hbv.view H) (by simp)
  generalize decide ([] = b) = q2 at *
  generalize zAU w w b = n2 at *
  have h2':=h2
  clear h2
  by_cases c3 : zAU w a a = 0
  ·rw [zAO c3] at h3
   obtain ⟨z1,z2⟩:=zJo c3
   have hal:=(zAg c3).2.1.len
   rw [z1,z2] at h3
   obtain ⟨zv,hzv⟩ : ∃ zv,zCU 3 (a.map zO) = zv:=⟨_,rfl⟩
   have hzl : zAE zv 3 (a.map zO):=by rw [← hzv]; exact zAy _ _
   have s3:=hsz zv av a a (hzl.view H) (hav.view H) tO
   rw [decide_eq_true rfl] at s3
   have h3' : C zc [wv,av,av] H (.tup [zv,.lst (some true) 0 [],.nili]) H:=by rw [← hzv]; exact h3
   clear h3 hzv z1 z2 hal hzl
   by_cases c4 : zAU w a b = 0
   ·by_cases c5 : zAU w b a = 0
    ·have g4:=zAg c4
     have g5:=zAg c5
     have hg4 : Goods (zAx w a b):=zBd (zAM _) g4.2.1 g4.2.2.1 g4.2.2.2
     have hg5 : Goods (zAx w b a):=zBd (zAM _) g5.2.1 g5.2.2.1 g5.2.2.2
     have hl4:=hg4.len
     have hl5:=hg5.len
     have hk4:=zFo w a b
     rw [zAO c4] at h4
     rw [zAO c5,zEu w a b] at h5
     have hcl : (zBV w a b).length ≤ 600:=by
      rw [← hk4,List.length_map]
      have:=zFd hg4 hg5
      omega
     generalize zAx w a b = X at *
     generalize zAx w b a = Y at *
     obtain ⟨d1,d2⟩:=zEt hg4 hg5
     obtain ⟨Xv,hXv⟩ : ∃ v,zCU 3 (X.map zO) = v:=⟨_,rfl⟩
     have hXl : zAE Xv 3 (X.map zO):=by rw [← hXv]; exact zAy _ _
     obtain ⟨Yv,hYv⟩ : ∃ v,zCU 3 (Y.map zO) = v:=⟨_,rfl⟩
     have hYl : zAE Yv 3 (Y.map zO):=by rw [← hYv]; exact zAy _ _
     have hd:=hD Xv Yv X Y hXl hYl H
     rw [d1,d2] at hd
     have hel : ((zAP X Y).map zO).length = (zBV w a b).length:=by rw [← hk4,List.length_map,List.length_map]
     generalize zBV w a b = K at *
     obtain ⟨Kv,hKv⟩ : ∃ v,zCU 2 (K.map cV) = v:=⟨_,rfl⟩
     have hKl : zAE Kv 2 (K.map cV):=by rw [← hKv]; exact zAy _ _
     have hKn : (K.map cV).length = K.length:=List.length_map _
     have hk:=hK Kv Kv K H (hKl.view H) (hKl.view H) tO
     obtain ⟨Ev,hEv⟩ : ∃ v,zCU 3 ((zAP X Y).map zO) = v:=⟨_,rfl⟩
     have hEl : zAE Ev 3 ((zAP X Y).map zO):=by rw [← hEv]; exact zAy _ _
     have hd' : C zo [Xv,Yv] H (.tup [Ev,.nili]) H:=by rw [← hEv]; exact hd
     have h4' : C zc [wv,av,bv] H (.tup [Xv,Kv,.nili]) H:=by rw [← hXv,← hKv]; exact h4
     have h5' : C zc [wv,bv,av] H (.tup [Yv,Kv,.nili]) H:=by rw [← hYv,← hKv]; exact h5
     have hcell : ∀ i p,K[i]? = some p → ∃ f,(zAP X Y)[i]? = some f ∧ p = zA1 f:=fun i p hp=>by
      rw [← hk4,List.getElem?_map] at hp
      obtain ⟨f,hf,e⟩:=Option.map_eq_some_iff.1 hp
      exact ⟨f,hf,e.symm⟩
     clear hD hK hsz hd h4 h5 hXv hYv hKv hEv d1 d2 hk4
     generalize zAP X Y = E at *
     refine zW ?_; refine zG h0 ?_; refine zG h1' ?_; refine zJ rfl ?_; refine zJ rfl ?_; refine zJ rfl ?_; refine zJ rfl ?_; refine zF ?_; refine zAG 2 hsl hsn ?_; refine zF ?_; refine zY (bne_eq_false_iff_eq.2 rfl) ?_; refine zAG 0 (hnil 2) rfl ?_; refine zF ?_; refine zY (bne_eq_false_iff_eq.2 rfl) ?_; refine zG h2' ?_; refine zJ rfl ?_; refine zJ rfl ?_; refine zJ rfl ?_; refine zG s2 ?_; refine zJ rfl ?_
     refine zF ?_; refine zF ?_; refine zF ?_; refine zG h3' ?_; refine zJ rfl ?_; refine zJ rfl ?_; refine zJ rfl ?_; refine zG s3 ?_; refine zJ rfl ?_; refine zI ?_; refine zF ?_; refine zAG 0 (hnil 2) rfl ?_; refine zF ?_; refine zI ?_; refine zY (bne_eq_false_iff_eq.2 rfl) ?_; refine zG h4' ?_; refine zJ rfl ?_; refine zJ rfl ?_; refine zJ rfl ?_; refine zG h5' ?_; refine zJ rfl ?_; refine zJ rfl ?_
     refine zJ rfl ?_; refine zJ rfl ?_; refine zF ?_; refine zJ rfl ?_; refine zF ?_; refine zF ?_; refine zG hk ?_; refine zG hd' ?_; refine zJ rfl ?_; refine zJ rfl ?_; refine zJ rfl ?_; refine zF ?_; refine zF ?_; refine zF ?_; refine zAG K.length hEl hel ?_; refine zAG K.length hKl hKn ?_; refine zF ?_; refine zY (bne_eq_false_iff_eq.2 rfl) ?_; refine zCC (fun i : Nat=>[(19,zR i),(11,Kv),(17,Ev)]) (fun i H'=>H' = H ∧ i ≤ K.length) (fun i=>K.length - i) 0 rfl ⟨rfl,by omega⟩ (fun i H1 hi=>?_)
     obtain ⟨hH,hi⟩:=hi
     subst hH
     dsimp only
     by_cases hlt : i < K.length
     ·obtain ⟨p,hp⟩ : ∃ p,K[i]? = some p:=⟨_,List.getElem?_eq_getElem hlt⟩
      obtain ⟨f,hf,hpf⟩:=hcell i p hp
      have hpm : (K.map cV)[i]? = some (cV p):=by rw [List.getElem?_map,hp]; rfl
      have hfm : (E.map zO)[i]? = some (zO f):=by rw [List.getElem?_map,hf]; rfl
      have hx : zH5 true (f.col == p.1 && (f.row == p.2 && true)) = false:=by rw [hpf]; simp [zH5,zA1]
      refine zAG K.length hEl hel ?_; refine zi tT ?_; refine zGE i (zO f) hEl rfl hfm ?_; refine zBb (zAu f.col f.row) rfl ?_; refine zGE i (cV p) hKl rfl hpm ?_; refine zBb (cV p) rfl ?_; refine zJ rfl ?_; refine zY hx ?_; refine zh (r:=i + 1) rfl tO ?_; refine zAq (i + 1) rfl ⟨rfl,by omega⟩ tO
     ·refine zAG K.length hEl hel ?_; refine zY tF ?_
      exact sRr
    ·rw [zAO c4] at h4
     rw [zAh c5] at h5
     generalize zAU w b a = n5 at *
     generalize zCU 3 ((zAx w a b).map zO) = Xv at *
     generalize zCU 2 ((zBV w a b).map cV) = Kv at *
     have h4':=h4
     have h5':=h5
     clear h4 h5
     clear hD hK hsz
     refine zW ?_; refine zG h0 ?_; refine zG h1' ?_; refine zJ rfl ?_; refine zJ rfl ?_; refine zJ rfl ?_; refine zJ rfl ?_; refine zF ?_; refine zAG 2 hsl hsn ?_; refine zF ?_; refine zF ?_; refine zAG 0 (hnil 2) rfl ?_; refine zF ?_; refine zF ?_; refine zG h2' ?_; refine zJ rfl ?_; refine zJ rfl ?_; refine zJ rfl ?_; refine zG s2 ?_; refine zJ rfl ?_; refine zF ?_; refine zF ?_; refine zF ?_; refine zG h3' ?_
     refine zJ rfl ?_; refine zJ rfl ?_; refine zJ rfl ?_; refine zG s3 ?_; refine zJ rfl ?_; refine zI ?_; refine zF ?_; refine zAG 0 (hnil 2) rfl ?_; refine zF ?_; refine zI ?_; refine zF ?_; refine zG h4' ?_; refine zJ rfl ?_; refine zJ rfl ?_; refine zJ rfl ?_; refine zG h5' ?_; refine zJ rfl ?_; refine zJ rfl ?_; refine zJ rfl ?_; refine zJ rfl ?_; refine zF ?_; refine zJ rfl ?_; refine zF ?_
     refine zI ?_
     exact sRr
   ·rw [zAh c4] at h4
    generalize zAU w a b = n4 at *
    obtain ⟨v51,v52,v53,e5⟩ : ∃ x y z,zEV w b a = .tup [x,y,z]:=by
     by_cases c5 : zAU w b a = 0
     ·exact ⟨_,_,_,zAO c5⟩
     ·exact ⟨_,_,_,zAh c5⟩
    rw [e5] at h5
    clear e5
    have h4':=h4
    have h5':=h5
    clear h4 h5
    clear hD hK hsz
    refine zW ?_; refine zG h0 ?_; refine zG h1' ?_; refine zJ rfl ?_; refine zJ rfl ?_; refine zJ rfl ?_; refine zJ rfl ?_; refine zF ?_; refine zAG 2 hsl hsn ?_; refine zF ?_; refine zF ?_; refine zAG 0 (hnil 2) rfl ?_; refine zF ?_; refine zF ?_; refine zG h2' ?_; refine zJ rfl ?_; refine zJ rfl ?_; refine zJ rfl ?_; refine zG s2 ?_; refine zJ rfl ?_; refine zF ?_; refine zF ?_; refine zF ?_; refine zG h3' ?_
    refine zJ rfl ?_; refine zJ rfl ?_; refine zJ rfl ?_; refine zG s3 ?_; refine zJ rfl ?_; refine zI ?_; refine zF ?_; refine zAG 0 (hnil 2) rfl ?_; refine zF ?_; refine zI ?_; refine zF ?_; refine zG h4' ?_; refine zJ rfl ?_; refine zJ rfl ?_; refine zJ rfl ?_; refine zG h5' ?_; refine zJ rfl ?_; refine zJ rfl ?_; refine zJ rfl ?_; refine zJ rfl ?_; refine zI ?_; refine zI ?_; refine zI ?_
    exact sRr
  ·rw [zAh c3] at h3
   have s3:=hsz (.lst (some true) 0 []) av [] a ((hnil 3).view H) (hav.view H) (by simp)
   generalize decide ([] = a) = q3 at *
   generalize zAU w a a = n3 at *
   have h3':=h3
   clear h3
   by_cases c4 : zAU w a b = 0
   ·by_cases c5 : zAU w b a = 0
    ·have g4:=zAg c4
     have g5:=zAg c5
     have hg4 : Goods (zAx w a b):=zBd (zAM _) g4.2.1 g4.2.2.1 g4.2.2.2
     have hg5 : Goods (zAx w b a):=zBd (zAM _) g5.2.1 g5.2.2.1 g5.2.2.2
     have hl4:=hg4.len
     have hl5:=hg5.len
     have hk4:=zFo w a b
     rw [zAO c4] at h4
     rw [zAO c5,zEu w a b] at h5
     have hcl : (zBV w a b).length ≤ 600:=by
      rw [← hk4,List.length_map]
      have:=zFd hg4 hg5
      omega
     generalize zAx w a b = X at *
     generalize zAx w b a = Y at *
     obtain ⟨d1,d2⟩:=zEt hg4 hg5
     obtain ⟨Xv,hXv⟩ : ∃ v,zCU 3 (X.map zO) = v:=⟨_,rfl⟩
     have hXl : zAE Xv 3 (X.map zO):=by rw [← hXv]; exact zAy _ _
     obtain ⟨Yv,hYv⟩ : ∃ v,zCU 3 (Y.map zO) = v:=⟨_,rfl⟩
     have hYl : zAE Yv 3 (Y.map zO):=by rw [← hYv]; exact zAy _ _
     have hd:=hD Xv Yv X Y hXl hYl H
     rw [d1,d2] at hd
     have hel : ((zAP X Y).map zO).length = (zBV w a b).length:=by rw [← hk4,List.length_map,List.length_map]
     generalize zBV w a b = K at *
     obtain ⟨Kv,hKv⟩ : ∃ v,zCU 2 (K.map cV) = v:=⟨_,rfl⟩
     have hKl : zAE Kv 2 (K.map cV):=by rw [← hKv]; exact zAy _ _
     have hKn : (K.map cV).length = K.length:=List.length_map _
     have hk:=hK Kv Kv K H (hKl.view H) (hKl.view H) tO
     obtain ⟨Ev,hEv⟩ : ∃ v,zCU 3 ((zAP X Y).map zO) = v:=⟨_,rfl⟩
     have hEl : zAE Ev 3 ((zAP X Y).map zO):=by rw [← hEv]; exact zAy _ _
     have hd' : C zo [Xv,Yv] H (.tup [Ev,.nili]) H:=by rw [← hEv]; exact hd
     have h4' : C zc [wv,av,bv] H (.tup [Xv,Kv,.nili]) H:=by rw [← hXv,← hKv]; exact h4
     have h5' : C zc [wv,bv,av] H (.tup [Yv,Kv,.nili]) H:=by rw [← hYv,← hKv]; exact h5
     have hcell : ∀ i p,K[i]? = some p → ∃ f,(zAP X Y)[i]? = some f ∧ p = zA1 f:=fun i p hp=>by
      rw [← hk4,List.getElem?_map] at hp
      obtain ⟨f,hf,e⟩:=Option.map_eq_some_iff.1 hp
      exact ⟨f,hf,e.symm⟩
     clear hD hK hsz hd h4 h5 hXv hYv hKv hEv d1 d2 hk4
     generalize zAP X Y = E at *
     refine zW ?_; refine zG h0 ?_; refine zG h1' ?_; refine zJ rfl ?_; refine zJ rfl ?_; refine zJ rfl ?_; refine zJ rfl ?_; refine zF ?_; refine zAG 2 hsl hsn ?_; refine zF ?_; refine zY (bne_eq_false_iff_eq.2 rfl) ?_; refine zAG 0 (hnil 2) rfl ?_; refine zF ?_; refine zY (bne_eq_false_iff_eq.2 rfl) ?_; refine zG h2' ?_; refine zJ rfl ?_; refine zJ rfl ?_; refine zJ rfl ?_; refine zG s2 ?_; refine zJ rfl ?_
     refine zF ?_; refine zF ?_; refine zF ?_; refine zG h3' ?_; refine zJ rfl ?_; refine zJ rfl ?_; refine zJ rfl ?_; refine zG s3 ?_; refine zJ rfl ?_; refine zF ?_; refine zF ?_; refine zF ?_; refine zG h4' ?_; refine zJ rfl ?_; refine zJ rfl ?_; refine zJ rfl ?_; refine zG h5' ?_; refine zJ rfl ?_; refine zJ rfl ?_; refine zJ rfl ?_; refine zJ rfl ?_; refine zF ?_; refine zJ rfl ?_; refine zF ?_
     refine zF ?_; refine zG hk ?_; refine zG hd' ?_; refine zJ rfl ?_; refine zJ rfl ?_; refine zJ rfl ?_; refine zF ?_; refine zF ?_; refine zF ?_; refine zAG K.length hEl hel ?_; refine zAG K.length hKl hKn ?_; refine zF ?_; refine zY (bne_eq_false_iff_eq.2 rfl) ?_; refine zCC (fun i : Nat=>[(19,zR i),(11,Kv),(17,Ev)]) (fun i H'=>H' = H ∧ i ≤ K.length) (fun i=>K.length - i) 0 rfl ⟨rfl,by omega⟩ (fun i H1 hi=>?_)
     obtain ⟨hH,hi⟩:=hi
     subst hH
     dsimp only
     by_cases hlt : i < K.length
     ·obtain ⟨p,hp⟩ : ∃ p,K[i]? = some p:=⟨_,List.getElem?_eq_getElem hlt⟩
      obtain ⟨f,hf,hpf⟩:=hcell i p hp
      have hpm : (K.map cV)[i]? = some (cV p):=by rw [List.getElem?_map,hp]; rfl
      have hfm : (E.map zO)[i]? = some (zO f):=by rw [List.getElem?_map,hf]; rfl
      have hx : zH5 true (f.col == p.1 && (f.row == p.2 && true)) = false:=by rw [hpf]; simp [zH5,zA1]
      refine zAG K.length hEl hel ?_; refine zi tT ?_; refine zGE i (zO f) hEl rfl hfm ?_; refine zBb (zAu f.col f.row) rfl ?_; refine zGE i (cV p) hKl rfl hpm ?_; refine zBb (cV p) rfl ?_; refine zJ rfl ?_; refine zY hx ?_; refine zh (r:=i + 1) rfl tO ?_; refine zAq (i + 1) rfl ⟨rfl,by omega⟩ tO
     ·refine zAG K.length hEl hel ?_; refine zY tF ?_
      exact sRr
    ·rw [zAO c4] at h4
     rw [zAh c5] at h5
     generalize zAU w b a = n5 at *
     generalize zCU 3 ((zAx w a b).map zO) = Xv at *
     generalize zCU 2 ((zBV w a b).map cV) = Kv at *
     have h4':=h4
     have h5':=h5
     clear h4 h5
     clear hD hK hsz
     refine zW ?_; refine zG h0 ?_; refine zG h1' ?_; refine zJ rfl ?_; refine zJ rfl ?_; refine zJ rfl ?_; refine zJ rfl ?_; refine zF ?_; refine zAG 2 hsl hsn ?_; refine zF ?_; refine zF ?_; refine zAG 0 (hnil 2) rfl ?_; refine zF ?_; refine zF ?_; refine zG h2' ?_; refine zJ rfl ?_; refine zJ rfl ?_; refine zJ rfl ?_; refine zG s2 ?_; refine zJ rfl ?_; refine zF ?_; refine zF ?_; refine zF ?_; refine zG h3' ?_
     refine zJ rfl ?_; refine zJ rfl ?_; refine zJ rfl ?_; refine zG s3 ?_; refine zJ rfl ?_; refine zF ?_; refine zF ?_; refine zF ?_; refine zG h4' ?_; refine zJ rfl ?_; refine zJ rfl ?_; refine zJ rfl ?_; refine zG h5' ?_; refine zJ rfl ?_; refine zJ rfl ?_; refine zJ rfl ?_; refine zJ rfl ?_; refine zF ?_; refine zJ rfl ?_; refine zF ?_; refine zI ?_
     exact sRr
   ·rw [zAh c4] at h4
    generalize zAU w a b = n4 at *
    obtain ⟨v51,v52,v53,e5⟩ : ∃ x y z,zEV w b a = .tup [x,y,z]:=by
     by_cases c5 : zAU w b a = 0
     ·exact ⟨_,_,_,zAO c5⟩
     ·exact ⟨_,_,_,zAh c5⟩
    rw [e5] at h5
    clear e5
    have h4':=h4
    have h5':=h5
    clear h4 h5
    clear hD hK hsz
    refine zW ?_; refine zG h0 ?_; refine zG h1' ?_; refine zJ rfl ?_; refine zJ rfl ?_; refine zJ rfl ?_; refine zJ rfl ?_; refine zF ?_; refine zAG 2 hsl hsn ?_; refine zF ?_; refine zF ?_; refine zAG 0 (hnil 2) rfl ?_; refine zF ?_; refine zF ?_; refine zG h2' ?_; refine zJ rfl ?_; refine zJ rfl ?_; refine zJ rfl ?_; refine zG s2 ?_; refine zJ rfl ?_; refine zF ?_; refine zF ?_; refine zF ?_; refine zG h3' ?_
    refine zJ rfl ?_; refine zJ rfl ?_; refine zJ rfl ?_; refine zG s3 ?_; refine zJ rfl ?_; refine zF ?_; refine zF ?_; refine zF ?_; refine zG h4' ?_; refine zJ rfl ?_; refine zJ rfl ?_; refine zJ rfl ?_; refine zG h5' ?_; refine zJ rfl ?_; refine zJ rfl ?_; refine zJ rfl ?_; refine zJ rfl ?_; refine zI ?_; refine zI ?_; refine zI ?_
    exact sRr
end
end Go.AM
set_option maxRecDepth 100000
namespace Go.Proofs.YtmmbcogejaofpaaGreatDoor
open Go.AM
section
variable {m : Int} {ev : Value} (hev : ∃ te pe,ev = .iface te pe)
theorem g_sheetsG (v w : AV) (l l' : List Fil) (H : Heap) (hv : view H 3 v = some (l.map zO)) (hw : view H 3 w = some (l'.map zO)) (hl : l.length ≤ 1000000) : GQ m ev zAX [v,w] H (.bool (decide (l = l'))) H:=
 zP mixed zEx (ssheetsG_ev v w l l' H hv hw hl)
theorem g_scells (v w : AV) (l : List (Int × Int)) (H : Heap) (hv : view H 2 v = some (l.map cV)) (hw : view H 2 w = some (l.map cV)) (hl : l.length ≤ 1000000) : GQ m ev zCV [v,w] H (.bool true) H:=
 zP mixed zJE (scells_ev v w l H hv hw hl)
include hev in
theorem g_three (wv av bv : AV) (w a b : List Fil) (hwv : zAE wv 3 (w.map zO)) (hav : zAE av 3 (a.map zO)) (hbv : zAE bv 3 (b.map zO)) (H : Heap) : GQ m ev zc [wv,av,bv] H (zEV w a b) H:=
 zP mixed k_merge_Three (three_ev (mergC hev) wv av bv w a b hwv hav hbv H)
include hev in
theorem g_mergeHands {x0 x1 x2 : AV} (h0 : Fits (.sl true shFil) x0) (h1 : Fits (.sl true shFil) x1) (h2 : Fits (.sl true shFil) x2) (H : Heap) : GQ m ev zC7 [x0,x1,x2] H (.bool true) H:=by
 obtain ⟨w,q,rfl,_⟩:=zHF h0
 obtain ⟨a,q',rfl,_⟩:=zHF h1
 obtain ⟨b,q'',rfl,_⟩:=zHF h2
 exact zP mixed zFs (mhands_ev g_small (g_three hev) (g_diff hev) g_sheetsG g_scells _ _ _ w a b ⟨_,_,rfl,.inl rfl⟩ ⟨_,_,rfl,.inl rfl⟩ ⟨_,_,rfl,.inl rfl⟩ H)
end
end Go.Proofs.YtmmbcogejaofpaaGreatDoor
set_option maxRecDepth 100000
namespace Go.Proofs.YtmmbcogejaofpaaGreatDoor.mergeHands
open Go.ChangeShapes Go.WideShapes Go.RowKit Go.AM
open Go.ChangeMaps (open_string shut_string)
theorem law_walk (v0 v1 v2 : Value) (W : World) (hL : laidMetH Tryz.prog Rows.mergeHandsRow.laid W) (hsh : W.ShapedOpen Tryz.prog) {r : Reach} {bb0 bb1 bb2 : Nat} {held : Bool} {H : Type} {enc : TypeId × Value → H} {dd0 dd1 dd2 : DataW H} {pp0 pp1 pp2 : List MemPlace}
  (o0 : Value.okWide Tryz.prog W r bb0 22 v0) (h0 : DataW.Trod enc Tryz.prog W 0 (fun _=>true) held 22 v0 dd0 pp0) (o1 : Value.okWide Tryz.prog W r bb1 22 v1) (h1 : DataW.Trod enc Tryz.prog W 0 (fun _=>true) held 22 v1 dd1 pp1) (o2 : Value.okWide Tryz.prog W r bb2 22 v2) (h2 : DataW.Trod enc Tryz.prog W 0 (fun _=>true) held 22 v2 dd2 pp2)
  (hsz : (DataW.weightsEach Tryz.prog (Tryz.f4.params.toList ++ Rows.mergeHandsSpec.plain.varTypes Tryz.prog) ([dd0,dd1,dd2] ++ [])).all (· ≤ reachBytes) = true) :
  Calls Tryz.prog 4 #[v0,v1,v2] W fun e w'=>e = .returned (.bool true) ∧ Below W.heap.size W w':=by
 obtain ⟨ev,hV⟩:=zHx hL
 obtain ⟨⟨m,hm⟩,hms⟩:=zG9 hsh
 obtain ⟨x0,e0,r0⟩:=zDU (m:=9) (s:=.sl true [.int .i64,.int .i64,.str]) (by kernel_rfl) o0 h0
 obtain ⟨l0,q0,g0,k0,m0⟩:=zHb e0
 obtain ⟨x1,e1,r1⟩:=zDU (m:=9) (s:=.sl true [.int .i64,.int .i64,.str]) (by kernel_rfl) o1 h1
 obtain ⟨l1,q1,g1,k1,m1⟩:=zHb e1
 obtain ⟨x2,e2,r2⟩:=zDU (m:=9) (s:=.sl true [.int .i64,.int .i64,.str]) (by kernel_rfl) o2 h2
 obtain ⟨l2,q2,g2,k2,m2⟩:=zHb e2
 exact zHA hV hm hms Tryz.func4 (by kernel_rfl) (by kernel_rfl) (g_mergeHands hV.isI e0 e1 e2 []) (zFX r0 (zFX r1 (zFX r2 (relL_nil _ _ _ _))))
set_option maxRecDepth 100000 in
theorem lifted (os : Os) (started : os.Started) (H : Type) (enc : TypeId × Value → H) :
  ReturnsInHanded {} Tryz.checked os 4 .any (fun w args=>(Rows.mergeHandsSpec.pre enc Tryz.prog Tryz.f4 [] false w args ∧ laidMetH Tryz.prog Rows.mergeHandsRow.laid w) ∧ sizedMet enc Tryz.prog Tryz.f4 (OpenSpec.ofChange Rows.mergeHandsSpec) false w args)
   (Rows.mergeHandsSpec.post enc Tryz.prog Tryz.f4 false true false false):=by
 refine zCm (C:=Tryz.checked) (X:=fun w _=>laidMetH Tryz.prog Rows.mergeHandsRow.laid w) (fun _ _ _ hh h=>h.of_heap hh) own started (by kernel_rfl) Tryz.func4
  (zF2 (enc:=enc) (C:=Tryz.checked) (os:=os) (X:=fun w _=>laidMetH Tryz.prog Rows.mergeHandsRow.laid w) false (zC0 os) #[.slice none 0 0,.slice none 0 0,.slice none 0 0] 8 (zHw os) (zEz os _) (by kernel_rfl) (by kernel_rfl) (by kernel_rfl) (laidWorld_met os _)) ?_
 intro W base args ds gs before hval0 hW _ hsz hL hsh
 have hval : ∀ (j : Nat) t v,Tryz.f4.params[j]? = some t → args[j]? = some v → Value.okWide Tryz.prog W .any base t v:=hval0
 have hW':=hW
 obtain ⟨p,q,hA0,hV,rfl,hfz,hnd⟩:=hW
 have hA : DataW.TrodAll enc Tryz.prog W 0 (fun _=>true) true Tryz.f4.params.toList args.toList ds p:=hA0
 rw [Tryz.params4] at hA hval
 obtain ⟨v0,vs0,d0,ds0,p0,q0,hargs,rfl,rfl,h0,r0⟩:=trodAll_cons hA
 obtain ⟨v1,vs1,d1,ds1,p1,q1,rfl,rfl,rfl,h1,r1⟩:=trodAll_cons r0
 obtain ⟨v2,vs2,d2,ds2,p2,q2,rfl,rfl,rfl,h2,r2⟩:=trodAll_cons r1
 obtain ⟨rfl,rfl,rfl⟩:=trodAll_nil r2
 obtain rfl : args = #[v0,v1,v2]:=by cases args; simp_all
 obtain ⟨rfl,rfl⟩:=trodVars_none hV
 have lt0 : ∀ x ∈ p0,x.block < W.heap.size:=by obtain ⟨m,hm⟩:=h0; exact DataW.trod_lt m _ _ _ hm
 have lt1 : ∀ x ∈ p1,x.block < W.heap.size:=by obtain ⟨m,hm⟩:=h1; exact DataW.trod_lt m _ _ _ hm
 have lt2 : ∀ x ∈ p2,x.block < W.heap.size:=by obtain ⟨m,hm⟩:=h2; exact DataW.trod_lt m _ _ _ hm
 refine (law_walk v0 v1 v2 W hL hsh (hval 0 22 v0 rfl rfl) h0 (hval 1 22 v1 rfl rfl) h1 (hval 2 22 v2 rfl rfl) h2 hsz).mono fun e W' ⟨he,bel⟩=>?_
 subst he
 exact ⟨_,rfl,_,_,_,[],_,[],hW',trodAll_mk1 (shut_bool Tryz.underlying4 _),(trodAll_cons_mk (Below.trod zJX (by kernel_rfl) (of_decide_eq_true (by kernel_rfl)) h0 bel lt0) (trodAll_cons_mk (Below.trod zJX (by kernel_rfl) (of_decide_eq_true (by kernel_rfl)) h1 bel lt1) (trodAll_cons_mk (Below.trod zJX (by kernel_rfl) (of_decide_eq_true (by kernel_rfl)) h2 bel lt2) trodAll_mk0))),rfl,bel.frame _,fun h=>by cases h⟩
end Go.Proofs.YtmmbcogejaofpaaGreatDoor.mergeHands
