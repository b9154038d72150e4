/- Several texts of mine in one (Mw6, Rd3, Scl, Gm3). Own work. -/
import Derived.Test.YthllabjbdobpgaaGreatDoorGMg5Mw4
set_option linter.all false
set_option maxRecDepth 20000
namespace Go.AM
theorem frz_trip {n : Nat} {v v' y y' : AV} {H H' H'' : Heap} (h : zDR n v H = some (v',H')) (hy : zDR n y H' = some (y',H'')) : zDR n (.tup [v,y,.nili]) H = some (.tup [v',y',.nili],H''):=by
 simp only [zDR,zIi,h,hy]
theorem bel_trip (n k k' : Nat) (xs ys : List AV) : (AV.tup [zFi k xs,zFi k' ys,.nili]).bel n = true:=by simp [AV.bel,AV.belL,zLG]
theorem threeO_take (w a b : List Fil) (cs : List (Int × Int)) (i : Nat) (p : Int × Int) (h : cs[i]? = some p) : zCW w a b (cs.take (i + 1)) = zCW w a b (cs.take i) ++ (if txT w a b p ≠ [] then [⟨p.1,p.2,txT w a b p⟩] else []):=by
 unfold zCW
 rw [zNi,h,zOl,zM2]
 by_cases e : txT w a b p ≠ []
 ·rw [zMg e]; simp [e]
 ·rw [zMe e]; simp [e]
theorem threeB_take (w a b : List Fil) (cs : List (Int × Int)) (i : Nat) (p : Int × Int) (h : cs[i]? = some p) : zF8 w a b (cs.take (i + 1)) = zF8 w a b (cs.take i) ++ (if zh a p ≠ zh w p ∧ zh b p ≠ zh w p ∧ zh a p ≠ zh b p then [p] else []):=by
 unfold zF8
 rw [zNi,h,zOl]
 by_cases e : bothP w a b p
 ·rw [zMg (show zh a p ≠ zh w p ∧ zh b p ≠ zh w p ∧ zh a p ≠ zh b p from e)]; simp [e]
 ·rw [zMe (show ¬ (zh a p ≠ zh w p ∧ zh b p ≠ zh w p ∧ zh a p ≠ zh b p) from e)]; simp [e]
theorem threeO_le (w a b : List Fil) (cs : List (Int × Int)) : (zCW w a b cs).length ≤ cs.length:=by
 unfold zCW
 rw [zMl]
 exact zN0 _ _
theorem threeB_le (w a b : List Fil) (cs : List (Int × Int)) : (zF8 w a b cs).length ≤ cs.length:=zN0 _ _
def zJg (w a b : List Fil) : AV:=if zHf w a b = 0 then .tup [zFi 3 ((zFF w a b).map zb),zFi 2 ((zGm w a b).map cV),.nili] else .tup [.lst (some true) 0 [],.lst (some true) 0 [],zFX (zHf w a b : Nat)]
theorem fil_cel {x y : AV} {l : List Fil} {c : List (Int × Int)} (hx : x ∈ c.map cV) (hy : y ∈ l.map zb) : x ≠ y:=by
 obtain ⟨p,_,rfl⟩:=zM9.1 hx
 obtain ⟨f,_,rfl⟩:=zM9.1 hy
 intro e
 simp [cV,zr,zb] at e
section
variable {C : CSpec} {GT : Nat → Option AV}
set_option maxHeartbeats 8000000 in
theorem three_ev (hM : MergC C) (wv av bv : AV) (w a b : List Fil) (hwv : zAs wv 3 (w.map zb)) (hav : zAs av 3 (a.map zb)) (hbv : zAs bv 3 (b.map zb)) (H : Heap) : EFun C GT zI4 [wv,av,bv] H (zJg w a b) H:=by
 have fra : ∀ H,zIi 0 [wv,av,bv] H = some ([wv,av,bv],H):=fun H=>by
  obtain ⟨q,k,rfl,_⟩:=hwv
  obtain ⟨q',k',rfl,_⟩:=hav
  obtain ⟨q'',k'',rfl,_⟩:=hbv
  rfl
 have hel : [wv,av,bv].all (fun v=>v.elem 1) = true:=by
  obtain ⟨q,k,rfl,_⟩:=hwv
  obtain ⟨q',k',rfl,_⟩:=hav
  obtain ⟨q'',k'',rfl,_⟩:=hbv
  rfl
 have h2 : ∀ H,∀ (i : Nat) (x : AV) (l : List Fil),[wv,av,bv][i]? = some x → [w,a,b][i]? = some l → x.cells = [x] ∧ x.one = true ∧ view H 3 x = some (l.map zb):=fun H i x l hx hl=>by
  match i,hx,hl with
  | 0,hx,hl=>cases hx; cases hl; exact ⟨hwv.cells,(zLF (hwv.view H)).2,hwv.view H⟩
  | 1,hx,hl=>cases hx; cases hl; exact ⟨hav.cells,(zLF (hav.view H)).2,hav.view H⟩
  | 2,hx,hl=>cases hx; cases hl; exact ⟨hbv.cells,(zLF (hbv.view H)).2,hbv.view H⟩
  | i + 3,hx,_=>simp at hx
 have hck:=hM.check (.sl (some false) H.length 1 0 [wv,av,bv].length) [wv,av,bv] [w,a,b] (H ++ [.row 1 [wv,av,bv]]) zAB rfl (by simp) (fun i x l hx hl=>⟨(h2 (H ++ [.row 1 [wv,av,bv]]) i x l hx hl).1,(h2 (H ++ [.row 1 [wv,av,bv]]) i x l hx hl).2.2⟩)
 by_cases c0 : zAa [w,a,b] = 0
 ·have hgw:=zGg c0 w (by simp)
  have hga:=zGg c0 a (by simp)
  have hgb:=zGg c0 b (by simp)
  have hlw:=hgw.len
  have hla:=hga.len
  have hlb:=hgb.len
  have htw:=fun H=>hM.texts wv w H (hwv.view H) hgw.srt tO
  have hta:=fun H=>hM.texts av a H (hav.view H) hga.srt tO
  have htb:=fun H=>hM.texts bv b H (hbv.view H) hgb.srt tO
  have hce:=hM.cells (.sl (some false) (H ++ [ABlk.row 1 [wv,av,bv]]).length 1 0 [wv,av,bv].length) [wv,av,bv] [w,a,b] (H ++ [ABlk.row 1 [wv,av,bv]] ++ [.row 1 [wv,av,bv]]) zAB rfl (by simp) (fun l hl=>by simp at hl; rcases hl with rfl | rfl | rfl <;> omega) (h2 _)
  have hcl:=zKI [w,a,b]
  have hcl : (zB6 [w,a,b]).length ≤ 600:=by simp at hcl; omega
  have hdv : zJg w a b = if 200 < (zCW w a b (zB6 [w,a,b])).length then .tup [.lst (some true) 0 [],.lst (some true) 0 [],zFX 4] else .tup [zFi 3 ((zCW w a b (zB6 [w,a,b])).map zb),zFi 2 ((zF8 w a b (zB6 [w,a,b])).map cV),.nili]:=by
   unfold zJg zHf zFF zGm
   by_cases hx : 200 < (zCW w a b (zB6 [w,a,b])).length <;> simp [c0,hx]
  rw [c0] at hck
  rw [hdv]
  have hck' : C zEK [.sl (some false) H.length 1 0 [wv,av,bv].length] (H ++ [.row 1 [wv,av,bv]]) .nili (H ++ [.row 1 [wv,av,bv]]):=hck
  clear hM hdv hck
  generalize zB6 [w,a,b] = cs at *
  have hcm : (cs.map cV).length = cs.length:=zMl _
  obtain ⟨cv,hcv⟩ : ∃ cv,zFi 2 (cs.map cV) = cv:=⟨_,rfl⟩
  have hcvl : zAs cv 2 (cs.map cV):=by rw [← hcv]; exact zIT _ _
  rw [hcv] at hce
  clear hcv
  refine zc ?_; refine zAD (fra _) hel ?_; refine zI hck' ?_; refine zS rfl ?_; refine zG ?_; refine zI (htw _) ?_; refine zI (hta _) ?_; refine zI (htb _) ?_; refine zAD (fra _) hel ?_; refine zI hce ?_; refine zA8 cs.length hcvl hcm ?_; refine zBB (fun x : Nat × AV × AV=>[(38,zJ x.1),(13,x.2.1),(12,.mps (b.map zAj) (b.map txV)),(14,x.2.2),(11,.mps (a.map zAj) (a.map txV)),(10,.mps (w.map zAj) (w.map txV)),(36,cv),(37,zJ cs.length)]) (fun x H'=>Old H H' ∧ x.1 ≤ cs.length ∧ Owns H H' x.2.1 3 ((zCW w a b (cs.take x.1)).map zb) ∧ Owns H H' x.2.2 2 ((zF8 w a b (cs.take x.1)).map cV)) (fun x=>cs.length - x.1) (0,.lst (some true) 0 [],.lst (some true) 0 []) rfl ⟨((Old.refl H).push _).push _,by simp,.inl ⟨rfl,by simp [zCW]⟩,.inl ⟨rfl,by simp [zF8]⟩⟩ (fun x H1 hi=>?_)
  obtain ⟨i,out,both⟩:=x
  obtain ⟨hO,hi,ho,hq⟩:=hi
  dsimp only at hi ho hq ⊢
  by_cases hlt : i < cs.length
  ·obtain ⟨p,hp⟩ : ∃ p,cs[i]? = some p:=⟨_,zMf hlt⟩
   have hpm : (cs.map cV)[i]? = some (cV p):=by rw [zMq,hp]; rfl
   have hto:=threeO_take w a b cs i p hp
   have htb':=threeB_take w a b cs i p hp
   have hlo : ((zCW w a b (cs.take i)).map zb).length ≤ 600:=by have:=threeO_le w a b (cs.take i); rw [zMy] at this; rw [zMl]; omega
   have hlq : ((zF8 w a b (cs.take i)).map cV).length ≤ 600:=by have:=threeB_le w a b (cs.take i); rw [zMy] at this; rw [zMl]; omega
   have hgw2 : ∀ H,mgetV H (.str []) false (.mps (w.map zAj) (w.map txV)) (cV p) = some (.str (zh w p)):=fun H=>zKH rfl p.1 p.2
   have hga2 : ∀ H,mgetV H (.str []) false (.mps (a.map zAj) (a.map txV)) (cV p) = some (.str (zh a p)):=fun H=>zKH rfl p.1 p.2
   have hgb2 : ∀ H,mgetV H (.str []) false (.mps (b.map zAj) (b.map txV)) (cV p) = some (.str (zh b p)):=fun H=>zKH rfl p.1 p.2
   unfold txT at hto
   have hne : ∀ (x y : AV),x ∈ (zF8 w a b (cs.take i)).map cV → y ∈ (zCW w a b (cs.take i)).map zb → x ≠ y:=fun x y hx hy=>fil_cel hx hy
   generalize zh a p = ta at *
   generalize zh b p = tb at *
   generalize zh w p = tw at *
   refine zP tT ?_; refine zCl i _ hcvl rfl hpm ?_; refine zk (cV p) rfl ?_; refine zF (v:=cV p) (AV.cells (cV p)) zD rfl rfl rfl rfl ?_; refine zB (cV p) (zE zD) rfl ?_
   obtain ⟨H2,hH2⟩ : ∃ H2,(H1 ++ [ABlk.box [AV.int IntKind.i64 0,AV.int IntKind.i64 0]]).set H1.length (ABlk.box (cV p).cells) = H2:=⟨_,rfl⟩
   rw [hH2]
   have hb2 : H2[H1.length]? = some (.box (cV p).cells):=by rw [← hH2]; exact zE zD
   have hO2 : Old H H2:=by rw [← hH2]; exact (hO.push _).set hO.1 _
   have ho2 : Owns H H2 out 3 ((zCW w a b (cs.take i)).map zb):=by rw [← hH2]; exact ho.pushSet _ _
   have hq2 : Owns H H2 both 2 ((zF8 w a b (cs.take i)).map cV):=by rw [← hH2]; exact hq.pushSet _ _
   have hap : ∀ b,out.blk = some b → both.blk ≠ some b:=fun b hb=>Owns.apart hq2 ho2 (fun x y hx hy=>hne x y hx hy) hb
   have hn1 : out.blk ≠ some H1.length:=ho2.ne_box hb2
   have hn2 : both.blk ≠ some H1.length:=hq2.ne_box hb2
   clear hH2 ho hq hO
   by_cases ea : ta = tw
   ·have e1 : (ta == tw) = true:=by simpa using ea
    rw [zMg ea] at hto
    rw [zMe (fun h=>h.1 ea),zNS] at htb'
    refine zEn (hga2 _) ?_; refine zB (cV p) hb2 rfl ?_; refine zEn (hga2 _) ?_; refine zB (cV p) hb2 rfl ?_; refine zEn (hgw2 _) ?_; refine zP e1 ?_; refine zB (cV p) hb2 rfl ?_; refine zEn (hgb2 _) ?_
    by_cases et : tb = []
    ·have ex : (!(tb == [])) = false:=by rw [et]; rfl
     rw [zMe (by simp [et]),zNS] at hto
     refine zO ex ?_; refine zM (r:=i + 1) rfl tO ?_; refine zAA (i + 1,out,both) rfl ⟨hO2,by simp only; omega, ?_, ?_⟩ (by simp only; omega)
     ·simp only; rw [hto]; exact ho2
     ·simp only; rw [htb']; exact hq2
    ·have ex : (!(tb == [])) = true:=by simpa using et
     rw [zMg et] at hto
     refine zP ex ?_; refine zB (cV p) hb2 rfl ?_; refine zS (v:=[zK p.fst,zK p.snd,AV.str tb]) rfl ?_; refine zAD rfl rfl ?_; refine zAV (H0:=H) (ys:=[zb ⟨p.1,p.2,tb⟩]) (ho2.push _) (hO2.push _) zAB (by decide) (by simp only [zNs]; omega) (by simp) (fun v' H9 ho9 hO9 _ hfr9=>?_)
     have hq9:=(hq2.push (.row 3 [zb ⟨p.1,p.2,tb⟩])).after (v:=out) (fun b hb e=>hap b e hb) hfr9
     refine zM (r:=i + 1) rfl tO ?_; refine zAA (i + 1,v',both) rfl ⟨hO9,by simp only; omega, ?_, ?_⟩ (by simp only; omega)
     ·have e2 : [zb ⟨p.1,p.2,tb⟩] = [(⟨p.1,p.2,tb⟩ : Fil)].map zb:=rfl
      rw [e2,← List.map_append,← hto] at ho9
      exact ho9
     ·simp only; rw [htb']; exact hq9
   ·have e1 : (ta == tw) = false:=by simpa using ea
    rw [zMe ea] at hto
    by_cases eb : tb = tw
    ·have e2 : (!(tb == tw)) = false:=by simpa using eb
     rw [zMe (fun h=>h.2.1 eb),zNS] at htb'
     refine zEn (hga2 _) ?_; refine zB (cV p) hb2 rfl ?_; refine zEn (hga2 _) ?_; refine zB (cV p) hb2 rfl ?_; refine zEn (hgw2 _) ?_; refine zO e1 ?_; refine zB (cV p) hb2 rfl ?_; refine zEn (hgb2 _) ?_; refine zB (cV p) hb2 rfl ?_; refine zEn (hgw2 _) ?_; refine zO e2 ?_; refine zG ?_; refine zG ?_
     by_cases et : ta = []
     ·have ex : (!(ta == [])) = false:=by rw [et]; rfl
      rw [zMe (by simp [et]),zNS] at hto
      refine zO ex ?_; refine zM (r:=i + 1) rfl tO ?_; refine zAA (i + 1,out,both) rfl ⟨hO2,by simp only; omega, ?_, ?_⟩ (by simp only; omega)
      ·simp only; rw [hto]; exact ho2
      ·simp only; rw [htb']; exact hq2
     ·have ex : (!(ta == [])) = true:=by simpa using et
      rw [zMg et] at hto
      refine zP ex ?_; refine zB (cV p) hb2 rfl ?_; refine zS (v:=[zK p.fst,zK p.snd,AV.str ta]) rfl ?_; refine zAD rfl rfl ?_; refine zAV (H0:=H) (ys:=[zb ⟨p.1,p.2,ta⟩]) (ho2.push _) (hO2.push _) zAB (by decide) (by simp only [zNs]; omega) (by simp) (fun v' H9 ho9 hO9 _ hfr9=>?_)
      have hq9:=(hq2.push (.row 3 [zb ⟨p.1,p.2,ta⟩])).after (v:=out) (fun b hb e=>hap b e hb) hfr9
      refine zM (r:=i + 1) rfl tO ?_; refine zAA (i + 1,v',both) rfl ⟨hO9,by simp only; omega, ?_, ?_⟩ (by simp only; omega)
      ·have e2 : [zb ⟨p.1,p.2,ta⟩] = [(⟨p.1,p.2,ta⟩ : Fil)].map zb:=rfl
       rw [e2,← List.map_append,← hto] at ho9
       exact ho9
      ·simp only; rw [htb']; exact hq9
    ·have e2 : (!(tb == tw)) = true:=by simpa using eb
     by_cases ec : ta = tb
     ·have e3 : (!(ta == tb)) = false:=by simpa using ec
      rw [zMe (fun h=>h.2.2 ec),zNS] at htb'
      refine zEn (hga2 _) ?_; refine zB (cV p) hb2 rfl ?_; refine zEn (hga2 _) ?_; refine zB (cV p) hb2 rfl ?_; refine zEn (hgw2 _) ?_; refine zO e1 ?_; refine zB (cV p) hb2 rfl ?_; refine zEn (hgb2 _) ?_; refine zB (cV p) hb2 rfl ?_; refine zEn (hgw2 _) ?_; refine zP e2 ?_; refine zB (cV p) hb2 rfl ?_; refine zEn (hga2 _) ?_; refine zB (cV p) hb2 rfl ?_; refine zEn (hgb2 _) ?_; refine zH ?_; refine zO e3 ?_
      by_cases et : ta = []
      ·have ex : (!(ta == [])) = false:=by rw [et]; rfl
       rw [zMe (by simp [et]),zNS] at hto
       refine zO ex ?_; refine zM (r:=i + 1) rfl tO ?_; refine zAA (i + 1,out,both) rfl ⟨hO2,by simp only; omega, ?_, ?_⟩ (by simp only; omega)
       ·simp only; rw [hto]; exact ho2
       ·simp only; rw [htb']; exact hq2
      ·have ex : (!(ta == [])) = true:=by simpa using et
       rw [zMg et] at hto
       refine zP ex ?_; refine zB (cV p) hb2 rfl ?_; refine zS (v:=[zK p.fst,zK p.snd,AV.str ta]) rfl ?_; refine zAD rfl rfl ?_; refine zAV (H0:=H) (ys:=[zb ⟨p.1,p.2,ta⟩]) (ho2.push _) (hO2.push _) zAB (by decide) (by simp only [zNs]; omega) (by simp) (fun v' H9 ho9 hO9 _ hfr9=>?_)
       have hq9:=(hq2.push (.row 3 [zb ⟨p.1,p.2,ta⟩])).after (v:=out) (fun b hb e=>hap b e hb) hfr9
       refine zM (r:=i + 1) rfl tO ?_; refine zAA (i + 1,v',both) rfl ⟨hO9,by simp only; omega, ?_, ?_⟩ (by simp only; omega)
       ·have e2 : [zb ⟨p.1,p.2,ta⟩] = [(⟨p.1,p.2,ta⟩ : Fil)].map zb:=rfl
        rw [e2,← List.map_append,← hto] at ho9
        exact ho9
       ·simp only; rw [htb']; exact hq9
     ·have e3 : (!(ta == tb)) = true:=by simpa using ec
      rw [zMg ⟨ea,eb,ec⟩] at htb'
      refine zEn (hga2 _) ?_; refine zB (cV p) hb2 rfl ?_; refine zEn (hga2 _) ?_; refine zB (cV p) hb2 rfl ?_; refine zEn (hgw2 _) ?_; refine zO e1 ?_; refine zB (cV p) hb2 rfl ?_; refine zEn (hgb2 _) ?_; refine zB (cV p) hb2 rfl ?_; refine zEn (hgw2 _) ?_; refine zP e2 ?_; refine zB (cV p) hb2 rfl ?_; refine zEn (hga2 _) ?_; refine zB (cV p) hb2 rfl ?_; refine zEn (hgb2 _) ?_; refine zH ?_; refine zP e3 ?_
      refine zB (cV p) hb2 rfl ?_; refine zAD rfl rfl ?_; refine zAV (H0:=H) (ys:=[cV p]) (hq2.push _) (hO2.push _) zAB (by decide) (by simp only [zNs]; omega) (by simp) (fun bo2 H3 hq3 hO3 hbl hfr=>?_)
      have ho3:=(ho2.push (.row 2 [cV p])).after (v:=both) hap hfr
      have hb3:=hfr _ _ hn2 (zC hb2)
      have hap3 : ∀ b,out.blk = some b → bo2.blk ≠ some b:=fun b hb e=>by
       rw [hbl] at e
       have h1:=(ho2.lt hb).2
       simp only [zMc,zMn,zMi,zMt] at e
       omega
      have e2b : [cV p] = [p].map cV:=rfl
      rw [e2b,← List.map_append,← htb'] at hq3
      clear htb' hq2 hO2 hb2 hap
      by_cases et : ta = []
      ·have ex : (!(ta == [])) = false:=by rw [et]; rfl
       rw [zMe (by simp [et]),zNS] at hto
       refine zO ex ?_; refine zM (r:=i + 1) rfl tO ?_; refine zAA (i + 1,out,bo2) rfl ⟨hO3,by simp only; omega, ?_, ?_⟩ (by simp only; omega)
       ·simp only; rw [hto]; exact ho3
       ·simp only; exact hq3
      ·have ex : (!(ta == [])) = true:=by simpa using et
       rw [zMg et] at hto
       refine zP ex ?_; refine zB (cV p) hb3 rfl ?_; refine zS (v:=[zK p.fst,zK p.snd,AV.str ta]) rfl ?_; refine zAD rfl rfl ?_; refine zAV (H0:=H) (ys:=[zb ⟨p.1,p.2,ta⟩]) (ho3.push _) (hO3.push _) zAB (by decide) (by simp only [zNs]; omega) (by simp) (fun v' H9 ho9 hO9 _ hfr9=>?_)
       have hq9:=(hq3.push (.row 3 [zb ⟨p.1,p.2,ta⟩])).after (v:=out) (fun b hb e=>hap3 b e hb) hfr9
       refine zM (r:=i + 1) rfl tO ?_; refine zAA (i + 1,v',bo2) rfl ⟨hO9,by simp only; omega, ?_, ?_⟩ (by simp only; omega)
       ·have e2 : [zb ⟨p.1,p.2,ta⟩] = [(⟨p.1,p.2,ta⟩ : Fil)].map zb:=rfl
        rw [e2,← List.map_append,← hto] at ho9
        exact ho9
       ·simp only; exact hq9
  ·have he : cs.take i = cs:=zM7 tO
   rw [he] at ho hq
   have hlm : ((zCW w a b cs).map zb).length = (zCW w a b cs).length:=zMl _
   have hlo:=threeO_le w a b cs
   have hne : ∀ (x y : AV),x ∈ (zCW w a b cs).map zb → y ∈ (zF8 w a b cs).map cV → x ≠ y:=fun x y hx hy e=>fil_cel hy hx e.symm
   have hap : ∀ b,both.blk = some b → out.blk ≠ some b:=fun b hb=>Owns.apart ho hq hne hb
   by_cases hbig : 200 < (zCW w a b cs).length
   ·rw [zMg hbig]
    refine zO tF ?_; refine sLenN (zCW w a b cs).length ho.view hlm ?_; refine zP (tT) ?_
    exact zBO rfl rfl rfl rfl hO
   ·rw [zMe hbig]
    obtain ⟨H2,hf,hO2,hfr⟩:=ho.frz hO
    have hq2:=hq.after hap hfr
    obtain ⟨H3,hf3,hO3,_⟩:=hq2.frz hO2
    refine zO tF ?_; refine sLenN (zCW w a b cs).length ho.view hlm ?_; refine zO tF ?_
    exact zKj rfl rfl (frz_trip hf hf3) (bel_trip _ _ _ _ _) hO3
 ·have hdv : zJg w a b = .tup [.lst (some true) 0 [],.lst (some true) 0 [],zFX (zAa [w,a,b] : Nat)]:=by
   unfold zJg zHf
   simp [c0]
  have he : eV (zAa [w,a,b]) = zFX (zAa [w,a,b] : Nat):=by unfold eV; rw [zMe c0]
  rw [hdv]
  rw [he] at hck
  generalize zAa [w,a,b] = n at *
  clear hM
  refine zc ?_; refine zAD (fra _) hel ?_; refine zI hck ?_; refine zS rfl ?_; refine zH ?_
  exact zBO rfl rfl rfl rfl ((Old.refl _).push _)
end
end Go.AM
set_option maxRecDepth 20000
namespace Go.AM
theorem rthree_is {wv : AV} {w a b : List Fil} (hw : Goods w) (ha : Goods a) (hb : Goods b) : zKL wv w (zBA w a) (zBA w b) = if 200 < (zFF w a b).length then .tup [.lst (some true) 0 [],.lst (some true) 0 [],zJ 4] else .tup [outV wv w (zBA w b ++ zBA w a),zFi 2 ((zGm w a b).map cV),zJ 0]:=by
 have e : zDo w (zBA w b ++ zBA w a) = zFF w a b:=by
  rw [← three_ref hw ha hb]
  unfold zDo
  rw [zPb]
 unfold zKL
 rw [e,both_ref]
theorem outV_three {wv : AV} {w a b : List Fil} (h : zAs wv 3 (w.map zb)) (hw : Goods w) (ha : Goods a) (hb : Goods b) : zAs (outV wv w (zBA w b ++ zBA w a)) 3 ((zFF w a b).map zb):=by
 have e : zDo w (zBA w b ++ zBA w a) = zFF w a b:=by
  rw [← three_ref hw ha hb]
  unfold zDo
  rw [zPb]
 rw [← e]
 exact outV_of h _
section
variable {C : CSpec} {GT : Nat → Option AV}
set_option maxHeartbeats 8000000 in
theorem mthree_ev (hG : ∀ lv l H,view H 3 lv = some (l.map zb) → C zA1 [lv] H (zJ (zBH l)) H)
  (hR : ∀ (wv av bv : AV) (w a b : List Fil) H,zAs wv 3 (w.map zb) → zAs av 3 (a.map zb) → zAs bv 3 (b.map zb) → Goods w → Goods a → Goods b → C zDV [wv,av,bv] H (zKL wv w (zBA w a) (zBA w b)) H)
  (hT : ∀ (wv av bv : AV) (w a b : List Fil) H,zAs wv 3 (w.map zb) → zAs av 3 (a.map zb) → zAs bv 3 (b.map zb) → C zEJ [wv,av,bv] H (zJg w a b) H)
  (hM : ∀ (v v' : AV) (l : List Fil) (n : Nat) H,view H 3 v = some (l.map zb) → view H 3 v' = some (l.map zb) → l.length ≤ 1000000 → C zCF [v,eV n,v',zJ n] H (.bool true) H)
  (hK : ∀ v v' (l : List (Int × Int)) H,view H 2 v = some (l.map cV) → view H 2 v' = some (l.map cV) → l.length ≤ 1000000 → C zDW [v,v'] H (.bool true) H)
  (wv av bv : AV) (w a b : List Fil) (hwv : zAs wv 3 (w.map zb)) (hav : zAs av 3 (a.map zb)) (hbv : zAs bv 3 (b.map zb)) (H : Heap) : EFun C GT zEE [wv,av,bv] H (.bool true) H:=by
 have g1:=hG wv w H (hwv.view H)
 have g2:=hG av a H (hav.view H)
 have g3:=hG bv b H (hbv.view H)
 have t1:=hT wv av bv w a b H hwv hav hbv
 have n0 : ∀ H,view H 3 (.lst (some true) 0 []) = some (([] : List Fil).map zb):=fun H=>by simp [view]
 have n2 : ∀ H,view H 2 (.lst (some true) 0 []) = some (([] : List (Int × Int)).map cV):=fun H=>by simp [view]
 have k0:=hK (.lst (some true) 0 []) (.lst (some true) 0 []) [] H (n2 H) (n2 H) (by simp)
 have bad : ∀ n : Nat,n ≠ 0 → C zCF [.lst (some true) 0 [],zFX (n : Nat),.lst (some true) 0 [],zJ n] H (.bool true) H:=fun n hn=>by
  have:=hM (.lst (some true) 0 []) (.lst (some true) 0 []) [] n H (n0 H) (n0 H) (by simp)
  rwa [show eV n = zFX (n : Nat) from zMe hn] at this
 have hbadV : ∀ n : Nat,n ≠ 0 → zHf w a b = n → zJg w a b = .tup [.lst (some true) 0 [],.lst (some true) 0 [],zFX (n : Nat)]:=fun n hn e=>by
  subst e
  exact zMe hn
 have tst : ∀ n : Nat,n ≠ 0 → ((n : Int) == 0) = false:=fun n hn=>by simp; omega
 clear hG hT
 by_cases c1 : zBH w = 0
 case neg=>
  have hb1:=bad _ c1
  rw [hbadV (zBH w) c1 (by unfold zHf zAa; simp [c1])] at t1
  have ex:=tst _ c1
  clear hR hM hK bad hbadV g2 g3
  generalize zBH w = n at *
  refine zc ?_; refine zI g1 ?_; refine zO ex ?_; refine zO ex ?_; refine zO ex ?_; refine zI t1 ?_; refine zS rfl ?_; refine zS rfl ?_; refine zS rfl ?_; refine zI hb1 ?_; refine zI k0 ?_; refine zH ?_; refine zH ?_
  exact sRr
 rw [c1] at g1
 by_cases c2 : zBH a = 0
 case neg=>
  have hb1:=bad _ c2
  rw [hbadV (zBH a) c2 (by unfold zHf zAa zAa; simp [c1,c2])] at t1
  have ex:=tst _ c2
  clear hR hM hK bad hbadV g3
  generalize zBH a = n at *
  refine zc ?_; refine zI g1 ?_; refine zP (show ((0 : Int) == 0) = true from rfl) ?_; refine zI g2 ?_; refine zO ex ?_; refine zO ex ?_; refine zI t1 ?_; refine zS rfl ?_; refine zS rfl ?_; refine zS rfl ?_; refine zI hb1 ?_; refine zI k0 ?_; refine zP (show ((0 : Int) == 0) = true from rfl) ?_; refine zP (show ((0 : Int) == 0) = true from rfl) ?_
  exact sRr
 rw [c2] at g2
 by_cases c3 : zBH b = 0
 case neg=>
  have hb1:=bad _ c3
  rw [hbadV (zBH b) c3 (by unfold zHf zAa zAa zAa; simp [c1,c2,c3])] at t1
  have ex:=tst _ c3
  clear hR hM hK bad hbadV
  generalize zBH b = n at *
  refine zc ?_; refine zI g1 ?_; refine zH ?_; refine zI g2 ?_; refine zH ?_; refine zI g3 ?_; refine zO ex ?_; refine zI t1 ?_; refine zS rfl ?_; refine zS rfl ?_; refine zS rfl ?_; refine zI hb1 ?_; refine zI k0 ?_; refine zH ?_; refine zH ?_
  exact sRr
 rw [c3] at g3
 have gw:=zLM c1
 have ga:=zLM c2
 have gb:=zLM c3
 have r1:=hR wv av bv w a b H hwv hav hbv gw ga gb
 rw [rthree_is gw ga gb] at r1
 have hov:=outV_three hwv gw ga gb
 have hca : zAa [w,a,b] = 0:=zIK fun l hl=>by simp at hl; rcases hl with rfl | rfl | rfl <;> assumption
 have hcl : (zGm w a b).length ≤ 600:=by
  have h1:=threeB_le w a b (zB6 [w,a,b])
  have h2:=zKI [w,a,b]
  have h3:=gw.len
  have h4:=ga.len
  have h5:=gb.len
  simp at h2
  unfold zGm
  omega
 by_cases hbig : 200 < (zFF w a b).length
 ·have hb1:=bad 4 (by decide)
  rw [zMg hbig] at r1
  rw [hbadV 4 (by decide) (by unfold zHf; rw [zMe tO,zMg hbig])] at t1
  clear hR hM hK bad hbadV tst hov
  refine zc ?_; refine zI g1 ?_; refine zH ?_; refine zI g2 ?_; refine zH ?_; refine zI g3 ?_; refine zH ?_; refine zI r1 ?_; refine zS rfl ?_; refine zS rfl ?_; refine zS rfl ?_; refine zI t1 ?_; refine zS rfl ?_; refine zS rfl ?_; refine zS rfl ?_; refine zI hb1 ?_; refine zI k0 ?_; refine zH ?_; refine zH ?_
  exact sRr
 ·rw [zMe hbig] at r1
  have e0 : zHf w a b = 0:=by unfold zHf; rw [zMe tO,zMe hbig]
  have ev : zJg w a b = .tup [zFi 3 ((zFF w a b).map zb),zFi 2 ((zGm w a b).map cV),.nili]:=zMg e0
  rw [ev] at t1
  have hmd:=hM (zFi 3 ((zFF w a b).map zb)) (outV wv w (zBA w b ++ zBA w a)) (zFF w a b) 0 H ((zIT _ _).view H) (hov.view H) tO
  have hkk:=hK (zFi 2 ((zGm w a b).map cV)) (zFi 2 ((zGm w a b).map cV)) (zGm w a b) H ((zIT _ _).view H) ((zIT _ _).view H) tO
  generalize outV wv w (zBA w b ++ zBA w a) = ov at *
  generalize zFi 3 ((zFF w a b).map zb) = gv at *
  generalize zFi 2 ((zGm w a b).map cV) = kv at *
  have hmd' : C zCF [gv,.nili,ov,zJ 0] H (.bool true) H:=hmd
  clear hR hM hK bad hbadV tst hov hmd
  refine zc ?_; refine zI g1 ?_; refine zH ?_; refine zI g2 ?_; refine zH ?_; refine zI g3 ?_; refine zH ?_; refine zI r1 ?_; refine zS rfl ?_; refine zS rfl ?_; refine zS rfl ?_; refine zI t1 ?_; refine zS rfl ?_; refine zS rfl ?_; refine zS rfl ?_; refine zI hmd' ?_; refine zI hkk ?_; refine zH ?_; refine zH ?_
  exact sRr
end
end Go.AM
set_option maxRecDepth 20000
namespace Go.AM
section
variable {C : CSpec} {GT : Nat → Option AV}
theorem scells_ev (v w : AV) (l : List (Int × Int)) (H : Heap) (hv : view H 2 v = some (l.map cV)) (hw : view H 2 w = some (l.map cV)) (hl : l.length ≤ 1000000) : EFun C GT zHJ [v,w] H (.bool true) H:=by
 have hlm : (l.map cV).length = l.length:=zMl _
 refine zc ?_; refine zBV hv <| zBV hw <| zO (zNA.2 rfl) ?_; refine zBB (fun i : Nat=>[(5,zJ i),(1,w),(0,v)]) (fun i H'=>H' = H ∧ i ≤ l.length) (fun i=>l.length - i) 0 rfl ⟨rfl,by omega⟩ (fun i H1 hi=>?_)
 obtain ⟨hH,hi⟩:=hi
 subst hH
 dsimp only
 by_cases hlt : i < l.length
 ·obtain ⟨c,hc⟩ : ∃ c,l[i]? = some c:=⟨_,zMf hlt⟩
  have hcm : (l.map cV)[i]? = some (cV c):=by rw [zMq,hc]; rfl
  refine zBV hv <| zP tT ?_; refine zHG i (cV c) hv rfl hcm (fun p hp=>?_)
  refine zz (cV c) hp rfl ?_; refine zHG i (cV c) hw rfl hcm (fun p2 hp2=>?_)
  refine zz (cV c) hp2 rfl <| zS rfl <| zO (show zG6 true (c.1 == c.1 && (c.2 == c.2 && true)) = false from by simp [zG6]) <| zM (r:=i + 1) rfl tO ?_; refine zAA (i + 1) rfl ⟨rfl,by omega⟩ tO
 ·refine zBV hv <| zO tF ?_
  exact sRr
end
end Go.AM
set_option maxRecDepth 100000
namespace Go.Proofs.YthllabjbdobpgaaGreatDoor
open Go.AM
open Go.AM Go.RowKit
section
variable {m : Int} {ev : Value} (hev : ∃ te pe,ev = .iface te pe)
theorem g_scells (v w : AV) (l : List (Int × Int)) (H : Heap) (hv : view H 2 v = some (l.map cV)) (hw : view H 2 w = some (l.map cV)) (hl : l.length ≤ 1000000) : GQ m ev zDW [v,w] H (.bool true) H:=
 zN mixed zMB (scells_ev v w l H hv hw hl)
include hev in
theorem g_three (wv av bv : AV) (w a b : List Fil) (H : Heap) (hwv : zAs wv 3 (w.map zb)) (hav : zAs av 3 (a.map zb)) (hbv : zAs bv 3 (b.map zb)) : GQ m ev zEJ [wv,av,bv] H (zJg w a b) H:=
 zN mixed k_merge_Three (three_ev (mergC hev) wv av bv w a b hwv hav hbv H)
theorem g_rthree (wv av bv : AV) (w a b : List Fil) (H : Heap) (hwv : zAs wv 3 (w.map zb)) (hav : zAs av 3 (a.map zb)) (hbv : zAs bv 3 (b.map zb)) (hw : Goods w) (ha : Goods a) (hb : Goods b) : GQ m ev zDV [wv,av,bv] H (zKL wv w (zBA w a) (zBA w b)) H:=
 zN mixed zMA (rthree_ev g_rdiff g_rwith wv av bv w a b hwv hav hbv hw ha hb H)
include hev in
theorem g_mergeThree {x0 x1 x2 : AV} (h0 : Fits (.sl true shFil) x0) (h1 : Fits (.sl true shFil) x1) (h2 : Fits (.sl true shFil) x2) (H : Heap) : GQ m ev zED [x0,x1,x2] H (.bool true) H:=by
 obtain ⟨w,q,rfl,_⟩:=fl_filsq h0
 obtain ⟨a,q',rfl,_⟩:=fl_filsq h1
 obtain ⟨b,q'',rfl,_⟩:=fl_filsq h2
 exact zN mixed zH1 (mthree_ev g_rcheck g_rthree (g_three hev) (g_made hev) g_scells _ _ _ w a b ⟨_,_,rfl,.inl rfl⟩ ⟨_,_,rfl,.inl rfl⟩ ⟨_,_,rfl,.inl rfl⟩ H)
end
end Go.Proofs.YthllabjbdobpgaaGreatDoor
