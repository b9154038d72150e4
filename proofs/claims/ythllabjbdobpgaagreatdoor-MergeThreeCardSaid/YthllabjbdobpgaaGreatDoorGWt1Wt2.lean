/- Several texts of mine in one (Wt1, Wt3, Wtc, Dlg, Wt2). Own work. -/
import Derived.Test.YthllabjbdobpgaaGreatDoorGSk1Ins
import Derived.Test.YthllabjbdobpgaaGreatDoorGAm23Am29
import Derived.Test.YthllabjbdobpgaaGreatDoorGRfhSk0
set_option linter.all false
set_option maxRecDepth 20000
namespace Go.AM
theorem aheadC_cmp (c r : Int) (f : Fil) : decide (cmpC f.col f.row c r < 0) = aheadC c r f:=by
 unfold aheadC
 congr 1
 exact propext (cmpC_lt _ _ _ _)
section
variable {C : CSpec} {GT : Nat → Option AV}
structure BsS where
 i : Nat
 j : Nat
end
end Go.AM
set_option maxRecDepth 20000
namespace Go.AM
section
variable {C : CSpec} {GT : Nat → Option AV}
end
end Go.AM
set_option maxRecDepth 20000
namespace Go.AM
theorem sRetW {F : AF} {H H1 H2 H' : Heap} {fr : Fr} {v0 v : AV} (hk : F.keep = false) (hr : (zBa fr H1 F.results).map tupled = some v0) (hf : zDR H.length v0 H1 = some (v,H2)) (hb : v.bel H.length = true) (ho : OldOK H H2) (hH : H' = H2.take H.length) : retP F H fr H1 v H':=by
 refine sRet ?_
 unfold zGn
 cases hs : zBa fr H1 F.results with
 | none=>rw [hs] at hr; cases hr
 | some vs=>
  rw [hs] at hr
  simp only [zMv,zMc] at hr
  subst hr
  simp only [hk,hf,zMm,zNB]
  exact ⟨hb,ho,trivial,hH⟩
section
variable {C : CSpec} {GT : Nat → Option AV}
end
end Go.AM
set_option maxRecDepth 1000000
namespace Go.AM
open Go Go.Lib Go.Proofs
def AtC (w : World) (g o : Nat) (vs : List Value) : Prop:=∀ j v,vs[j]? = some v → w.cell? ⟨g,o + j,none⟩ = some v
theorem AtC.app {w : World} {g o : Nat} {a b : List Value} (h : AtC w g o a) (k : AtC w g (o + a.length) b) : AtC w g o (a ++ b):=by
 intro j v hj
 by_cases e : j < a.length
 ·rw [zMo e] at hj; exact h j v hj
 ·rw [zMu tO] at hj
  have:=k _ v hj
  rwa [show o + a.length + (j - a.length) = o + j by omega] at this
theorem AtC.take {w : World} {g o : Nat} {a : List Value} (n : Nat) (h : AtC w g o a) : AtC w g o (a.take n):=fun j v hj=>by
 rw [zNC] at hj
 split at hj
 ·exact h j v hj
 ·cases hj
theorem AtC.out {w : World} {g o : Nat} {a : List Value} (h : AtC w g o a) (p : Nat) (vs : List Value) (hd : o + a.length ≤ p ∨ p + vs.length ≤ o) : AtC (w.setCells g p vs) g o a:=fun j v hj=>by
 have hjl:=(zg hj).1
 rw [World.cell?_setCells_out g _ _ _ _ (fun _ _=>by show o + j < p ∨ p + vs.length ≤ o + j; omega)]
 exact h j v hj
theorem AtC.drew {w : World} {g o : Nat} {a : List Value} (h : AtC w g o a) : AtC w.drew g o a:=h
theorem AtC.set {w : World} {g p : Nat} {vs : List Value} (hs : ∀ j,j < vs.length → (w.cell? ⟨g,p + j,none⟩).isSome = true) : AtC (w.setCells g p vs) g p vs:=fun j v hj=>by
 obtain ⟨hl,rfl⟩:=zg hj
 exact World.cell?_setCells_in g vs p w hs j hl
theorem SameBut.new {w w' : World} (h : SameBut w.heap.size w w') (g : Nat) : SameBut g w w':=⟨h.os,h.tape,h.out,h.size,fun j hj _=>h.other j hj tO,h.shape⟩
end Go.AM
namespace Go.Proofs.YthllabjbdobpgaaGreatDoor
open Go.AM Go.Shelf Go.RowKit Go.Lib Go.Proofs
end Go.Proofs.YthllabjbdobpgaaGreatDoor
set_option maxRecDepth 20000
namespace Go.AM
def zIh (l : List Fil) (c r : Int) : Bool:=l.any fun f=>!aheadC c r f
def zD7 (l : List Fil) (c r : Int) (t : Bs) : List Fil:=l.filter (aheadC c r) ++ (if t ≠ [] ∧ zIh l c r = true then [⟨c,r,t⟩] else []) ++ l.filter (zCB c r)
theorem anyN_snoc (l : List Fil) (f : Fil) (c r : Int) : zIh (l ++ [f]) c r = (zIh l c r || !aheadC c r f):=by unfold zIh; simp
theorem anyN_no {l : List Fil} {c r : Int} (h : zIh l c r = false) : l.filter (zCB c r) = []:=by
 refine List.filter_eq_nil_iff.2 fun f hf=>?_
 unfold zIh at h
 rw [List.any_eq_false] at h
 have:=h f hf
 simp only [zNV,aheadC,zNR] at this
 simp only [zCB,zMr]
 omega
theorem outW_snoc (l : List Fil) (f : Fil) (c r : Int) (t : Bs) : (aheadC c r f = true → zIh l c r = false → zD7 (l ++ [f]) c r t = zD7 l c r t ++ [f]) ∧
  (isC c r f = true → zIh l c r = false → zD7 (l ++ [f]) c r t = zD7 l c r t ++ (if t ≠ [] then [⟨c,r,t⟩] else [])) ∧ (isC c r f = true → zIh l c r = true → zD7 (l ++ [f]) c r t = zD7 l c r t) ∧
  (zCB c r f = true → zIh l c r = false → zD7 (l ++ [f]) c r t = zD7 l c r t ++ (if t ≠ [] then [⟨c,r,t⟩] else []) ++ [f]) ∧ (zCB c r f = true → zIh l c r = true → zD7 (l ++ [f]) c r t = zD7 l c r t ++ [f]):=by
 have ex : ∀ g : Fil,(isC c r g = true → aheadC c r g = false ∧ zCB c r g = false) ∧ (zCB c r g = true → aheadC c r g = false) ∧ (aheadC c r g = true → zCB c r g = false):=fun g=>by
  simp only [isC,aheadC,zCB,zMr,zNR]
  refine ⟨fun h=>⟨by omega,by omega⟩,fun h=>by omega,fun h=>by omega⟩
 have ff : ∀ (p : Fil → Bool),(l ++ [f]).filter p = l.filter p ++ (if p f = true then [f] else []):=fun p=>by
  rw [zOl]; cases hp : p f <;> simp [hp]
 unfold zD7
 rw [anyN_snoc,ff,ff]
 refine ⟨fun h1 h2=>?_,fun h1 h2=>?_,fun h1 h2=>?_,fun h1 h2=>?_,fun h1 h2=>?_⟩
 ·have:=(ex f).2.2 h1
  rw [anyN_no h2,h1,h2,this]
  simp
 ·obtain ⟨a,b⟩:=(ex f).1 h1
  rw [anyN_no h2,a,h2,b]
  by_cases ht : t = [] <;> simp [ht]
 ·obtain ⟨a,b⟩:=(ex f).1 h1
  rw [a,h2,b]
  simp
 ·have a:=(ex f).2.1 h1
  rw [anyN_no h2,a,h2,h1]
  by_cases ht : t = [] <;> simp [ht]
 ·have a:=(ex f).2.1 h1
  rw [a,h2,h1]
  simp
theorem withS_outW {l : List Fil} (c r : Int) (t : Bs) : zDn l c r t = if t ≠ [] ∧ zIh l c r = false then zD7 l c r t ++ [⟨c,r,t⟩] else zD7 l c r t:=by
 unfold zDn zD7
 by_cases ht : t = []
 ·simp [ht]
 ·cases h : zIh l c r with
  | true=>simp [ht]
  | false=>simp [ht,anyN_no h]
theorem outW_len (l : List Fil) (c r : Int) (t : Bs) : (zD7 l c r t).length ≤ 2 * l.length + 1:=by
 unfold zD7
 have h1:=zN0 (aheadC c r) l
 have h2:=zN0 (zCB c r) l
 simp only [zMn]
 split
 ·simp only [zMi,zMt]; omega
 ·simp only [zMt]; omega
theorem ahead_before {l : List Fil} (hs : Srtd l) {i : Nat} {f : Fil} (hf : l[i]? = some f) {c r : Int} (ha : aheadC c r f = true) : zIh (l.take i) c r = false:=by
 unfold zIh
 rw [List.any_eq_false]
 intro g hg
 obtain ⟨k,hk⟩:=zNO hg
 have hki:=(zg hk).1
 rw [zMy] at hki
 rw [List.getElem?_take_of_lt tO] at hk
 obtain ⟨h1,rfl⟩:=zg hk
 obtain ⟨h2,rfl⟩:=zg hf
 have:=List.pairwise_iff_getElem.1 hs k i h1 h2 tO
 simp only [aheadC,zMr] at ha
 simp only [zNV,aheadC,zNR]
 omega
structure RwS where
 i : Nat
 v : AV
section
variable {C : CSpec} {GT : Nat → Option AV}
set_option maxHeartbeats 4000000 in
theorem rwith_ev (hA : ∀ a b H,C zA2 [zr a.col a.row,zr b.col b.row] H (.bool (zDQ a b)) H) (lv : AV) (l : List Fil) (hl : l.length ≤ 3000) (hs : Srtd l) (c r : Int) (t : Bs) (H : Heap) (hv : view H 3 lv = some (l.map zb)) :
  EFun C GT zID [lv,zr c r,.str t] H (zFi 3 ((zDn l c r t).map zb)) H:=by
 have hlm : (l.map zb).length = l.length:=zMl _
 have hah : ∀ f H,C zA2 [zr f.col f.row,zr c r] H (.bool (aheadC c r f)) H:=fun f H=>by
  have:=hA f ⟨c,r,[]⟩ H
  have e : zDQ f ⟨c,r,[]⟩ = aheadC c r f:=by unfold zDQ; exact aheadC_cmp c r f
  rwa [e] at this
 clear hA
 refine zc ?_; refine zD6 (x:=zr c r) rfl ?_; refine zBB (fun x : RwS=>[(9,zJ x.i),(0,lv),(4,pR H.length),(2,.str t),(7,x.v),(8,.bool ((t == ([] : Bs)) || zIh (l.take x.i) c r))]) (fun x H'=>Old (H ++ [ABlk.box (zr c r).cells]) H' ∧ x.i ≤ l.length ∧ Owns (H ++ [ABlk.box (zr c r).cells]) H' x.v 3 ((zD7 (l.take x.i) c r t).map zb)) (fun x=>l.length - x.i) ⟨0,.lst (some true) 0 []⟩ (by simp only [zPU,zIh,List.any_nil,zOM] <;> rfl) ⟨Old.refl _,zNX _,.inl ⟨rfl,by simp [zD7,zIh]⟩⟩ (fun ⟨i,v⟩ H1 ⟨hO,hi,ho⟩=>?_)
 dsimp only at hi ho ⊢
 have hO0 : Old H H1:=((Old.refl H).push _).trans hO
 have hb4 : H1[H.length]? = some (.box (zr c r).cells):=by rw [hO.2 _ (by simp)]; exact zD
 have hv1:=zDU hO0 hv
 have hol:=outW_len (l.take i) c r t
 have htl : (l.take i).length ≤ 3000:=by rw [zMy]; omega
 by_cases hlt : i < l.length
 case neg=>
  have he : l.take i = l:=zM7 tO
  rw [he] at ho hol ⊢
  have hw:=withS_outW (l:=l) c r t
  cases hp : ((t == ([] : Bs)) || zIh l c r) with
  | true=>
   have hw2 : zDn l c r t = zD7 l c r t:=by
    rw [hw,zMe]
    rintro ⟨a,b⟩
    rw [b,zOM] at hp
    exact a (zM6.1 hp)
   rw [← hw2] at ho
   refine zBV hv1 <| zO (tF) <| zG ?_
   obtain ⟨H3,hz,hO3,_⟩:=(ho.weaken (H0:=H) (by simp)).frz hO0
   exact zKj rfl rfl hz (by generalize (zDn l c r t).map zb = xs; cases xs <;> rfl) hO3
  | false=>
   rw [zOb] at hp
   have hw2 : zDn l c r t = zD7 l c r t ++ [⟨c,r,t⟩]:=by rw [hw,zMg ⟨fun h=>by rw [h] at hp; exact absurd hp.1 (by decide),hp.2⟩]
   refine zBV hv1 <| zO (tF) <| zH <| zB (zr c r) hb4 rfl <| zS (v:=[zK c,zK r,AV.str t]) rfl <| zAD (vs':=[AV.agg [zK c,zK r,AV.str t]]) rfl rfl ?_; refine zAV (H0:=H ++ [ABlk.box (zr c r).cells]) (ys:=[AV.agg [zK c,zK r,.str t]]) (ho.push _) (hO.push _) zAB (by decide) (by simp only [zMl,zMi,zMt]; omega) (by simp) (fun v' H' ho' hO' _ _=>?_)
   have ho' : Owns (H ++ [ABlk.box (zr c r).cells]) H' v' 3 ((zDn l c r t).map zb):=by rw [hw2,zM2]; exact ho'
   have hO0' : Old H H':=((Old.refl H).push _).trans hO'
   obtain ⟨H3,hz,hO3,_⟩:=(ho'.weaken (H0:=H) (by simp)).frz hO0'
   exact zKj rfl rfl hz (by generalize (zDn l c r t).map zb = xs; cases xs <;> rfl) hO3
 obtain ⟨f,hf⟩ : ∃ f,l[i]? = some f:=⟨_,zMf hlt⟩
 have hfm : (l.map zb)[i]? = some (zb f):=by rw [zMq,hf]; rfl
 have htk : l.take (i + 1) = l.take i ++ [f]:=by rw [zNi,hf]; rfl
 obtain ⟨q1,q2,q3,q4,q5⟩:=outW_snoc (l.take i) f c r t
 have qa:=anyN_snoc (l.take i) f c r
 rw [← htk] at q1 q2 q3 q4 q5 qa
 have hab:=fun h=>ahead_before hs hf (c:=c) (r:=r) h
 have hfa:=hah f
 clear hah
 have three : (aheadC c r f = true ∧ (f.col == c && (f.row == r && true)) = false) ∨ (aheadC c r f = false ∧ isC c r f = true ∧ f.col = c ∧ f.row = r) ∨ (aheadC c r f = false ∧ zCB c r f = true ∧ (f.col == c && (f.row == r && true)) = false):=by
  simp only [aheadC,isC,zCB,zMr,zNR,zOE,zOu,zPR]
  omega
 generalize hps : ((t == ([] : Bs)) || zIh (l.take i) c r) = ps at *
 rcases zKG hv1 with hx | hx
 ·rcases three with ⟨ta,tc⟩ | ⟨ta,ti,tc,tr⟩ | ⟨ta,tb,tc⟩
  ·have hno:=hab ta
   rw [ta] at qa hfa
   rw [hno,zOM] at hps
   have hpn : ps = ((t == ([] : Bs)) || zIh (l.take (i + 1)) c r):=by rw [qa,hno,hps]; simp
   have hoo : zD7 (l.take (i + 1)) c r t = zD7 (l.take i) c r t ++ [f]:=q1 ta hno
   cases ps with
   | true=>
    refine zBV hv1 <| zP (tT) <| zG <| zG <| zG ?_; refine hx _ i (zb f) _ rfl hfm ?_; refine zk (zr f.col f.row) rfl <| zB (zr c r) hb4 rfl <| zS rfl <| zP (show zG6 true (f.col == c && (f.row == r && true)) = true from by rw [tc]; rfl) ?_; refine hx _ i (zb f) _ rfl hfm ?_; refine zk (zb f) rfl <| zAD (vs':=[zb f]) rfl rfl ?_; refine zAV (H0:=H ++ [ABlk.box (zr c r).cells]) (ys:=[zb f]) (ho.push _) (hO.push _) zAB (by decide) (by simp only [zMl,zMn,zMi,zMt]; omega) (by simp) (fun v' H' ho' hO' _ _=>?_)
    have ho' : Owns (H ++ [ABlk.box (zr c r).cells]) H' v' 3 ((zD7 (l.take (i + 1)) c r t).map zb):=by rw [hoo,zM2]; exact ho'
    refine zM (r:=i + 1) rfl tO ?_; refine zAA (RwS.mk (i + 1) v') (by rw [← hpn] <;> rfl) ⟨hO',by simp only; omega,ho'⟩ (by simp only; omega)
   | false=>
    refine zBV hv1 <| zP (tT) <| zH ?_; refine hx _ i (zb f) _ rfl hfm ?_; refine zk (zr f.col f.row) rfl <| zB (zr c r) hb4 rfl <| zI (hfa _) <| zH <| zG ?_; refine hx _ i (zb f) _ rfl hfm ?_; refine zk (zr f.col f.row) rfl <| zB (zr c r) hb4 rfl <| zS rfl <| zP (show zG6 true (f.col == c && (f.row == r && true)) = true from by rw [tc]; rfl) ?_; refine hx _ i (zb f) _ rfl hfm ?_; refine zk (zb f) rfl <| zAD (vs':=[zb f]) rfl rfl ?_
    refine zAV (H0:=H ++ [ABlk.box (zr c r).cells]) (ys:=[zb f]) (ho.push _) (hO.push _) zAB (by decide) (by simp only [zMl,zMn,zMi,zMt]; omega) (by simp) (fun v' H' ho' hO' _ _=>?_)
    have ho' : Owns (H ++ [ABlk.box (zr c r).cells]) H' v' 3 ((zD7 (l.take (i + 1)) c r t).map zb):=by rw [hoo,zM2]; exact ho'
    refine zM (r:=i + 1) rfl tO ?_; refine zAA (RwS.mk (i + 1) v') (by rw [← hpn] <;> rfl) ⟨hO',by simp only; omega,ho'⟩ (by simp only; omega)
  ·rw [ta] at qa hfa
   have hpn : true = ((t == ([] : Bs)) || zIh (l.take (i + 1)) c r):=by rw [qa]; simp
   cases ps with
   | true=>
    have hoo : zD7 (l.take (i + 1)) c r t = zD7 (l.take i) c r t:=by
     cases ha : zIh (l.take i) c r with
     | true=>exact q3 ti ha
     | false=>
      rw [ha,zOM] at hps
      rw [q2 ti ha,zM6.1 hps]
      simp
    refine zBV hv1 <| zP (tT) <| zG <| zG <| zG ?_; refine hx _ i (zb f) _ rfl hfm ?_; refine zk (zr f.col f.row) rfl <| zB (zr c r) hb4 rfl <| zS rfl <| zO (show zG6 true (f.col == c && (f.row == r && true)) = false from by rw [tE tc,tE tr]; rfl) <| zM (r:=i + 1) rfl tO ?_; refine zAA (RwS.mk (i + 1) v) (by rw [← hpn] <;> rfl) ⟨hO,by simp only; omega,by rw [hoo]; exact ho⟩ (by simp only; omega)
   | false=>
    rw [zOb] at hps
    have hne : t ≠ []:=fun h=>by rw [h] at hps; exact absurd hps.1 (by decide)
    have hoo : zD7 (l.take (i + 1)) c r t = zD7 (l.take i) c r t ++ [⟨c,r,t⟩]:=by rw [q2 ti hps.2,zMg hne]
    refine zBV hv1 <| zP (tT) <| zH ?_; refine hx _ i (zb f) _ rfl hfm ?_; refine zk (zr f.col f.row) rfl <| zB (zr c r) hb4 rfl <| zI (hfa _) <| zH <| zH <| zB (zr c r) hb4 rfl ?_; refine zS (v:=[zK c,zK r,AV.str t]) rfl <| zAD (vs':=[AV.agg [zK c,zK r,AV.str t]]) rfl rfl ?_; refine zAV (H0:=H ++ [ABlk.box (zr c r).cells]) (ys:=[AV.agg [zK c,zK r,.str t]]) (ho.push _) (hO.push _) zAB (by decide) (by simp only [zMl,zMn,zMi,zMt]; omega) (by simp) (fun v' H' ho' hO' _ _=>?_)
    have ho' : Owns (H ++ [ABlk.box (zr c r).cells]) H' v' 3 ((zD7 (l.take (i + 1)) c r t).map zb):=by rw [hoo,zM2]; exact ho'
    have hv2:=zDU (((Old.refl H).push _).trans hO') hv
    have hb5 : H'[H.length]? = some (.box (zr c r).cells):=by rw [hO'.2 _ (by simp)]; exact zD
    rcases zKG hv2 with hy | hy
    ·refine hy _ i (zb f) _ rfl hfm ?_; refine zk (zr f.col f.row) rfl <| zB (zr c r) hb5 rfl <| zS rfl <| zO (show zG6 true (f.col == c && (f.row == r && true)) = false from by rw [tE tc,tE tr]; rfl) <| zM (r:=i + 1) rfl tO ?_; refine zAA (RwS.mk (i + 1) v') (by rw [← hpn] <;> rfl) ⟨hO',by simp only; omega,ho'⟩ (by simp only; omega)
    ·refine hy _ i (zb f) _ rfl hfm (fun b2 j2 hp2=>?_)
     refine zz (zr f.col f.row) (hp2 _) rfl <| zB (zr c r) hb5 rfl <| zS rfl <| zO (show zG6 true (f.col == c && (f.row == r && true)) = false from by rw [tE tc,tE tr]; rfl) <| zM (r:=i + 1) rfl tO ?_; refine zAA (RwS.mk (i + 1) v') (by rw [← hpn] <;> rfl) ⟨hO',by simp only; omega,ho'⟩ (by simp only; omega)
  ·rw [ta] at qa hfa
   have hpn : true = ((t == ([] : Bs)) || zIh (l.take (i + 1)) c r):=by rw [qa]; simp
   cases ps with
   | true=>
    have hoo : zD7 (l.take (i + 1)) c r t = zD7 (l.take i) c r t ++ [f]:=by
     cases ha : zIh (l.take i) c r with
     | true=>exact q5 tb ha
     | false=>
      rw [ha,zOM] at hps
      rw [q4 tb ha,zM6.1 hps]
      simp
    refine zBV hv1 <| zP (tT) <| zG <| zG <| zG ?_; refine hx _ i (zb f) _ rfl hfm ?_; refine zk (zr f.col f.row) rfl <| zB (zr c r) hb4 rfl <| zS rfl <| zP (show zG6 true (f.col == c && (f.row == r && true)) = true from by rw [tc]; rfl) ?_; refine hx _ i (zb f) _ rfl hfm ?_; refine zk (zb f) rfl <| zAD (vs':=[zb f]) rfl rfl ?_; refine zAV (H0:=H ++ [ABlk.box (zr c r).cells]) (ys:=[zb f]) (ho.push _) (hO.push _) zAB (by decide) (by simp only [zMl,zMn,zMi,zMt]; omega) (by simp) (fun v' H' ho' hO' _ _=>?_)
    have ho' : Owns (H ++ [ABlk.box (zr c r).cells]) H' v' 3 ((zD7 (l.take (i + 1)) c r t).map zb):=by rw [hoo,zM2]; exact ho'
    refine zM (r:=i + 1) rfl tO ?_; refine zAA (RwS.mk (i + 1) v') (by rw [← hpn] <;> rfl) ⟨hO',by simp only; omega,ho'⟩ (by simp only; omega)
   | false=>
    rw [zOb] at hps
    have hne : t ≠ []:=fun h=>by rw [h] at hps; exact absurd hps.1 (by decide)
    have hoo : zD7 (l.take (i + 1)) c r t = zD7 (l.take i) c r t ++ [⟨c,r,t⟩] ++ [f]:=by rw [q4 tb hps.2,zMg hne]
    refine zBV hv1 <| zP (tT) <| zH ?_; refine hx _ i (zb f) _ rfl hfm ?_; refine zk (zr f.col f.row) rfl <| zB (zr c r) hb4 rfl <| zI (hfa _) <| zH <| zH <| zB (zr c r) hb4 rfl ?_; refine zS (v:=[zK c,zK r,AV.str t]) rfl <| zAD (vs':=[AV.agg [zK c,zK r,AV.str t]]) rfl rfl ?_; refine zAV (H0:=H ++ [ABlk.box (zr c r).cells]) (ys:=[AV.agg [zK c,zK r,.str t]]) (ho.push _) (hO.push _) zAB (by decide) (by simp only [zMl,zMn,zMi,zMt]; omega) (by simp) (fun v' H' ho' hO' _ _=>?_)
    have hv2:=zDU (((Old.refl H).push _).trans hO') hv
    have hb5 : H'[H.length]? = some (.box (zr c r).cells):=by rw [hO'.2 _ (by simp)]; exact zD
    rcases zKG hv2 with hy | hy
    ·refine hy _ i (zb f) _ rfl hfm ?_; refine zk (zr f.col f.row) rfl <| zB (zr c r) hb5 rfl <| zS rfl <| zP (show zG6 true (f.col == c && (f.row == r && true)) = true from by rw [tc]; rfl) ?_; refine hy _ i (zb f) _ rfl hfm ?_; refine zk (zb f) rfl <| zAD (vs':=[zb f]) rfl rfl ?_; refine zAV (H0:=H ++ [ABlk.box (zr c r).cells]) (ys:=[zb f]) (ho'.push _) (hO'.push _) zAB (by decide) (by simp only [zMl,zMn,zMi,zMt]; omega) (by simp) (fun v'' H'' ho'' hO'' _ _=>?_)
     have ho'' : Owns (H ++ [ABlk.box (zr c r).cells]) H'' v'' 3 ((zD7 (l.take (i + 1)) c r t).map zb):=by rw [hoo,zM2,zM2]; exact ho''
     refine zM (r:=i + 1) rfl tO ?_; refine zAA (RwS.mk (i + 1) v'') (by rw [← hpn] <;> rfl) ⟨hO'',by simp only; omega,ho''⟩ (by simp only; omega)
    ·refine hy _ i (zb f) _ rfl hfm (fun b2 j2 hp2=>?_)
     refine zz (zr f.col f.row) (hp2 _) rfl <| zB (zr c r) hb5 rfl <| zS rfl <| zP (show zG6 true (f.col == c && (f.row == r && true)) = true from by rw [tc]; rfl) ?_; refine hy _ i (zb f) _ rfl hfm (fun b2 j2 hp2=>?_)
     refine zz (zb f) (hp2 _) rfl <| zAD (vs':=[zb f]) rfl rfl ?_; refine zAV (H0:=H ++ [ABlk.box (zr c r).cells]) (ys:=[zb f]) (ho'.push _) (hO'.push _) zAB (by decide) (by simp only [zMl,zMn,zMi,zMt]; omega) (by simp) (fun v'' H'' ho'' hO'' _ _=>?_)
     have ho'' : Owns (H ++ [ABlk.box (zr c r).cells]) H'' v'' 3 ((zD7 (l.take (i + 1)) c r t).map zb):=by rw [hoo,zM2,zM2]; exact ho''
     refine zM (r:=i + 1) rfl tO ?_; refine zAA (RwS.mk (i + 1) v'') (by rw [← hpn] <;> rfl) ⟨hO'',by simp only; omega,ho''⟩ (by simp only; omega)
 ·rcases three with ⟨ta,tc⟩ | ⟨ta,ti,tc,tr⟩ | ⟨ta,tb,tc⟩
  ·have hno:=hab ta
   rw [ta] at qa hfa
   rw [hno,zOM] at hps
   have hpn : ps = ((t == ([] : Bs)) || zIh (l.take (i + 1)) c r):=by rw [qa,hno,hps]; simp
   have hoo : zD7 (l.take (i + 1)) c r t = zD7 (l.take i) c r t ++ [f]:=q1 ta hno
   cases ps with
   | true=>
    refine zBV hv1 <| zP (tT) <| zG <| zG <| zG ?_; refine hx _ i (zb f) _ rfl hfm (fun b2 j2 hp2=>?_)
    refine zz (zr f.col f.row) (hp2 _) rfl <| zB (zr c r) hb4 rfl <| zS rfl <| zP (show zG6 true (f.col == c && (f.row == r && true)) = true from by rw [tc]; rfl) ?_; refine hx _ i (zb f) _ rfl hfm (fun b2 j2 hp2=>?_)
    refine zz (zb f) (hp2 _) rfl <| zAD (vs':=[zb f]) rfl rfl ?_; refine zAV (H0:=H ++ [ABlk.box (zr c r).cells]) (ys:=[zb f]) (ho.push _) (hO.push _) zAB (by decide) (by simp only [zMl,zMn,zMi,zMt]; omega) (by simp) (fun v' H' ho' hO' _ _=>?_)
    have ho' : Owns (H ++ [ABlk.box (zr c r).cells]) H' v' 3 ((zD7 (l.take (i + 1)) c r t).map zb):=by rw [hoo,zM2]; exact ho'
    refine zM (r:=i + 1) rfl tO ?_; refine zAA (RwS.mk (i + 1) v') (by rw [← hpn] <;> rfl) ⟨hO',by simp only; omega,ho'⟩ (by simp only; omega)
   | false=>
    refine zBV hv1 <| zP (tT) <| zH ?_; refine hx _ i (zb f) _ rfl hfm (fun b2 j2 hp2=>?_)
    refine zz (zr f.col f.row) (hp2 _) rfl <| zB (zr c r) hb4 rfl <| zI (hfa _) <| zH <| zG ?_; refine hx _ i (zb f) _ rfl hfm (fun b2 j2 hp2=>?_)
    refine zz (zr f.col f.row) (hp2 _) rfl <| zB (zr c r) hb4 rfl <| zS rfl <| zP (show zG6 true (f.col == c && (f.row == r && true)) = true from by rw [tc]; rfl) ?_; refine hx _ i (zb f) _ rfl hfm (fun b2 j2 hp2=>?_)
    refine zz (zb f) (hp2 _) rfl <| zAD (vs':=[zb f]) rfl rfl ?_; refine zAV (H0:=H ++ [ABlk.box (zr c r).cells]) (ys:=[zb f]) (ho.push _) (hO.push _) zAB (by decide) (by simp only [zMl,zMn,zMi,zMt]; omega) (by simp) (fun v' H' ho' hO' _ _=>?_)
    have ho' : Owns (H ++ [ABlk.box (zr c r).cells]) H' v' 3 ((zD7 (l.take (i + 1)) c r t).map zb):=by rw [hoo,zM2]; exact ho'
    refine zM (r:=i + 1) rfl tO ?_; refine zAA (RwS.mk (i + 1) v') (by rw [← hpn] <;> rfl) ⟨hO',by simp only; omega,ho'⟩ (by simp only; omega)
  ·rw [ta] at qa hfa
   have hpn : true = ((t == ([] : Bs)) || zIh (l.take (i + 1)) c r):=by rw [qa]; simp
   cases ps with
   | true=>
    have hoo : zD7 (l.take (i + 1)) c r t = zD7 (l.take i) c r t:=by
     cases ha : zIh (l.take i) c r with
     | true=>exact q3 ti ha
     | false=>
      rw [ha,zOM] at hps
      rw [q2 ti ha,zM6.1 hps]
      simp
    refine zBV hv1 <| zP (tT) <| zG <| zG <| zG ?_; refine hx _ i (zb f) _ rfl hfm (fun b2 j2 hp2=>?_)
    refine zz (zr f.col f.row) (hp2 _) rfl <| zB (zr c r) hb4 rfl <| zS rfl <| zO (show zG6 true (f.col == c && (f.row == r && true)) = false from by rw [tE tc,tE tr]; rfl) <| zM (r:=i + 1) rfl tO ?_; refine zAA (RwS.mk (i + 1) v) (by rw [← hpn] <;> rfl) ⟨hO,by simp only; omega,by rw [hoo]; exact ho⟩ (by simp only; omega)
   | false=>
    rw [zOb] at hps
    have hne : t ≠ []:=fun h=>by rw [h] at hps; exact absurd hps.1 (by decide)
    have hoo : zD7 (l.take (i + 1)) c r t = zD7 (l.take i) c r t ++ [⟨c,r,t⟩]:=by rw [q2 ti hps.2,zMg hne]
    refine zBV hv1 <| zP (tT) <| zH ?_; refine hx _ i (zb f) _ rfl hfm (fun b2 j2 hp2=>?_)
    refine zz (zr f.col f.row) (hp2 _) rfl <| zB (zr c r) hb4 rfl <| zI (hfa _) <| zH <| zH <| zB (zr c r) hb4 rfl ?_; refine zS (v:=[zK c,zK r,AV.str t]) rfl <| zAD (vs':=[AV.agg [zK c,zK r,AV.str t]]) rfl rfl ?_; refine zAV (H0:=H ++ [ABlk.box (zr c r).cells]) (ys:=[AV.agg [zK c,zK r,.str t]]) (ho.push _) (hO.push _) zAB (by decide) (by simp only [zMl,zMn,zMi,zMt]; omega) (by simp) (fun v' H' ho' hO' _ _=>?_)
    have ho' : Owns (H ++ [ABlk.box (zr c r).cells]) H' v' 3 ((zD7 (l.take (i + 1)) c r t).map zb):=by rw [hoo,zM2]; exact ho'
    have hv2:=zDU (((Old.refl H).push _).trans hO') hv
    have hb5 : H'[H.length]? = some (.box (zr c r).cells):=by rw [hO'.2 _ (by simp)]; exact zD
    rcases zKG hv2 with hy | hy
    ·refine hy _ i (zb f) _ rfl hfm ?_; refine zk (zr f.col f.row) rfl <| zB (zr c r) hb5 rfl <| zS rfl <| zO (show zG6 true (f.col == c && (f.row == r && true)) = false from by rw [tE tc,tE tr]; rfl) <| zM (r:=i + 1) rfl tO ?_; refine zAA (RwS.mk (i + 1) v') (by rw [← hpn] <;> rfl) ⟨hO',by simp only; omega,ho'⟩ (by simp only; omega)
    ·refine hy _ i (zb f) _ rfl hfm (fun b2 j2 hp2=>?_)
     refine zz (zr f.col f.row) (hp2 _) rfl <| zB (zr c r) hb5 rfl <| zS rfl <| zO (show zG6 true (f.col == c && (f.row == r && true)) = false from by rw [tE tc,tE tr]; rfl) <| zM (r:=i + 1) rfl tO ?_; refine zAA (RwS.mk (i + 1) v') (by rw [← hpn] <;> rfl) ⟨hO',by simp only; omega,ho'⟩ (by simp only; omega)
  ·rw [ta] at qa hfa
   have hpn : true = ((t == ([] : Bs)) || zIh (l.take (i + 1)) c r):=by rw [qa]; simp
   cases ps with
   | true=>
    have hoo : zD7 (l.take (i + 1)) c r t = zD7 (l.take i) c r t ++ [f]:=by
     cases ha : zIh (l.take i) c r with
     | true=>exact q5 tb ha
     | false=>
      rw [ha,zOM] at hps
      rw [q4 tb ha,zM6.1 hps]
      simp
    refine zBV hv1 <| zP (tT) <| zG <| zG <| zG ?_; refine hx _ i (zb f) _ rfl hfm (fun b2 j2 hp2=>?_)
    refine zz (zr f.col f.row) (hp2 _) rfl <| zB (zr c r) hb4 rfl <| zS rfl <| zP (show zG6 true (f.col == c && (f.row == r && true)) = true from by rw [tc]; rfl) ?_; refine hx _ i (zb f) _ rfl hfm (fun b2 j2 hp2=>?_)
    refine zz (zb f) (hp2 _) rfl <| zAD (vs':=[zb f]) rfl rfl ?_; refine zAV (H0:=H ++ [ABlk.box (zr c r).cells]) (ys:=[zb f]) (ho.push _) (hO.push _) zAB (by decide) (by simp only [zMl,zMn,zMi,zMt]; omega) (by simp) (fun v' H' ho' hO' _ _=>?_)
    have ho' : Owns (H ++ [ABlk.box (zr c r).cells]) H' v' 3 ((zD7 (l.take (i + 1)) c r t).map zb):=by rw [hoo,zM2]; exact ho'
    refine zM (r:=i + 1) rfl tO ?_; refine zAA (RwS.mk (i + 1) v') (by rw [← hpn] <;> rfl) ⟨hO',by simp only; omega,ho'⟩ (by simp only; omega)
   | false=>
    rw [zOb] at hps
    have hne : t ≠ []:=fun h=>by rw [h] at hps; exact absurd hps.1 (by decide)
    have hoo : zD7 (l.take (i + 1)) c r t = zD7 (l.take i) c r t ++ [⟨c,r,t⟩] ++ [f]:=by rw [q4 tb hps.2,zMg hne]
    refine zBV hv1 <| zP (tT) <| zH ?_; refine hx _ i (zb f) _ rfl hfm (fun b2 j2 hp2=>?_)
    refine zz (zr f.col f.row) (hp2 _) rfl <| zB (zr c r) hb4 rfl <| zI (hfa _) <| zH <| zH <| zB (zr c r) hb4 rfl ?_; refine zS (v:=[zK c,zK r,AV.str t]) rfl <| zAD (vs':=[AV.agg [zK c,zK r,AV.str t]]) rfl rfl ?_; refine zAV (H0:=H ++ [ABlk.box (zr c r).cells]) (ys:=[AV.agg [zK c,zK r,.str t]]) (ho.push _) (hO.push _) zAB (by decide) (by simp only [zMl,zMn,zMi,zMt]; omega) (by simp) (fun v' H' ho' hO' _ _=>?_)
    have hv2:=zDU (((Old.refl H).push _).trans hO') hv
    have hb5 : H'[H.length]? = some (.box (zr c r).cells):=by rw [hO'.2 _ (by simp)]; exact zD
    rcases zKG hv2 with hy | hy
    ·refine hy _ i (zb f) _ rfl hfm ?_; refine zk (zr f.col f.row) rfl <| zB (zr c r) hb5 rfl <| zS rfl <| zP (show zG6 true (f.col == c && (f.row == r && true)) = true from by rw [tc]; rfl) ?_; refine hy _ i (zb f) _ rfl hfm ?_; refine zk (zb f) rfl <| zAD (vs':=[zb f]) rfl rfl ?_; refine zAV (H0:=H ++ [ABlk.box (zr c r).cells]) (ys:=[zb f]) (ho'.push _) (hO'.push _) zAB (by decide) (by simp only [zMl,zMn,zMi,zMt]; omega) (by simp) (fun v'' H'' ho'' hO'' _ _=>?_)
     have ho'' : Owns (H ++ [ABlk.box (zr c r).cells]) H'' v'' 3 ((zD7 (l.take (i + 1)) c r t).map zb):=by rw [hoo,zM2,zM2]; exact ho''
     refine zM (r:=i + 1) rfl tO ?_; refine zAA (RwS.mk (i + 1) v'') (by rw [← hpn] <;> rfl) ⟨hO'',by simp only; omega,ho''⟩ (by simp only; omega)
    ·refine hy _ i (zb f) _ rfl hfm (fun b2 j2 hp2=>?_)
     refine zz (zr f.col f.row) (hp2 _) rfl <| zB (zr c r) hb5 rfl <| zS rfl <| zP (show zG6 true (f.col == c && (f.row == r && true)) = true from by rw [tc]; rfl) ?_; refine hy _ i (zb f) _ rfl hfm (fun b2 j2 hp2=>?_)
     refine zz (zb f) (hp2 _) rfl <| zAD (vs':=[zb f]) rfl rfl ?_; refine zAV (H0:=H ++ [ABlk.box (zr c r).cells]) (ys:=[zb f]) (ho'.push _) (hO'.push _) zAB (by decide) (by simp only [zMl,zMn,zMi,zMt]; omega) (by simp) (fun v'' H'' ho'' hO'' _ _=>?_)
     have ho'' : Owns (H ++ [ABlk.box (zr c r).cells]) H'' v'' 3 ((zD7 (l.take (i + 1)) c r t).map zb):=by rw [hoo,zM2,zM2]; exact ho''
     refine zM (r:=i + 1) rfl tO ?_; refine zAA (RwS.mk (i + 1) v'') (by rw [← hpn] <;> rfl) ⟨hO'',by simp only; omega,ho''⟩ (by simp only; omega)
end
end Go.AM
