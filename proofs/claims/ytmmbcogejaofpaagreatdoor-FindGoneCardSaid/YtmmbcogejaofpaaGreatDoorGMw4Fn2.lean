/- Several texts of mine in one (Mw4, Mw5, Gmb, Fn1, Fn2). Own work. -/
import Derived.Test.YtmmbcogejaofpaaGreatDoorGMcpMw3
import Derived.Test.YtmmbcogejaofpaaGreatDoorGDelWtc
import Derived.Test.YtmmbcogejaofpaaGreatDoorGAm31Gq
import Derived.Test.YtmmbcogejaofpaaGreatDoorGDlgArf
import Derived.Test.YtmmbcogejaofpaaGreatDoorGItQItg
import Derived.Test.YtmmbcogejaofpaaGreatDoorGAm33Wt0
import Derived.Test.YtmmbcogejaofpaaGreatDoorGGdsMg2
set_option linter.all false
set_option maxRecDepth 20000
namespace Go.AM
def ShV (v : AV) (l : List Fil) : Prop:=∃ q k,v = .lst (some q) k (l.map zZ) ∧ (k = 3 ∨ l = []) ∧ (q = true → l = [])
theorem ShV.of {v : AV} {l : List Fil} (h : ShV v l) : zCJ v 3 (l.map zZ):=by
 obtain ⟨q,k,rfl,h1,_⟩:=h
 exact ⟨_,_,rfl,h1.imp id fun h=>by rw [h]; rfl⟩
theorem ShV.view {v : AV} {l : List Fil} (h : ShV v l) (H : Heap) : view H 3 v = some (l.map zZ):=h.of.view H
section
variable {C : CSpec} {GT : Nat → Option AV}
end
end Go.AM
set_option maxRecDepth 20000
namespace Go.AM
def zCP : List Fil:=[⟨1,1,[50]⟩,⟨2,1,[61,65,49,43,49]⟩]
theorem diffV_ok {a b : List Fil} (ha : Goods a) (hb : Goods b) : diffV a b = zFh 3 ((diffL a b).map zZ) ∧ zAN [a,b] = 0:=by
 have : zAN [a,b] = 0:=zE3 fun l hl=>by simp at hl; rcases hl with rfl | rfl <;> assumption
 exact ⟨if_pos this,this⟩
section
variable {C : CSpec} {GT : Nat → Option AV}
theorem cell4_ev (c r : Int) (H : Heap) : EFun C GT zEy [zf c,zf r] H (zB7 c r) H:=by
 refine ze ?_; refine zT (v:=[zf c,zf r]) rfl <| zG (v:=AV.agg [zf c,zf r]) (AV.cells (AV.agg [zf c,zf r])) zD rfl rfl rfl rfl ?_
 exact zHB (o:=0) rfl rfl (zQ (zE zD)) rfl rfl rfl (((Old.refl _).push _).set tA _)
theorem small_ev (hC : ∀ c r H,C zBY [zf c,zf r] H (zB7 c r) H) (H : Heap) : EFun C GT zEZ [] H (.lst (some false) 3 (zCP.map zZ)) H:=by
 have h1:=hC 1 1 H
 have h2:=hC 2 1 H
 clear hC
 refine ze ?_; refine zI (h1) ?_; refine zT (v:=[zf 1,zf 1,AV.str [50]]) rfl ?_; refine zI h2 ?_; refine zT (v:=[zf 2,zf 1,AV.str [61,65,49,43,49]]) rfl ?_; refine zAv (vs':=[zZ ⟨1,1,[50]⟩,zZ ⟨2,1,[61,65,49,43,49]⟩]) rfl rfl ?_
 exact sRetF rfl rfl (frz_slw (Nat.le_refl _) zD rfl) rfl (((Old.refl H).push _).set (Nat.le_refl _) _)
end
end Go.AM
set_option maxRecDepth 100000
namespace Go.Proofs.YtmmbcogejaofpaaGreatDoor
open Go.AM
open Go.AM Go.RowKit
section
variable {GT : Nat → Option AV}
theorem g_compact (b : Nat) (xs : List (Int × Int)) (H : Heap) (hb : H[b]? = some (.row 2 (xs.map cV))) (hne : xs ≠ []) (hl : xs.length ≤ 1000) : Go.AM.Good Tryz.prog GT zR [.sl (some true) b 2 0 xs.length] H (.sl (some true) b 2 0 (zM xs).length) (H.set b (.row 2 ((padL xs).map cV))):=
 zO mixed zAY (compact_ev b xs H hb hne hl)
theorem g_compact0 (H : Heap) : Go.AM.Good Tryz.prog GT zR [.lst (some true) 0 []] H (.lst (some true) 0 []) H:=
 zO mixed zAY (compact0_ev H)
end
theorem fl_filsq {x : AV} (h : Fits (.sl true shFil) x) : ∃ l : List Fil,∃ q,x = .lst (some q) 3 (l.map zZ) ∧ (q = true → l = []):=by
 obtain ⟨q,xs,e,hq,_⟩:=fl_sl h
 obtain ⟨l,q',e',_⟩:=fl_fils h
 rw [e] at e'
 simp only [AV.lst.injEq,Option.some.injEq] at e'
 obtain ⟨rfl,_,rfl⟩:=e'
 exact ⟨l,q,e,fun h=>List.map_eq_nil_iff.1 (hq h)⟩
section
variable {m : Int} {ev : Value} (hev : ∃ te pe,ev = .iface te pe)
include hev in
theorem mergC : MergC (GQ m ev) where
 check v vs ls H hv hl hll hvs:=zO mixed k_merge_check (mcheck_ev (fun lv l H hv=>g_check hev lv l H hv) v vs ls H hv hl hll hvs)
 texts lv l H hv hs hl:=zO mixed k_merge_texts (texts_ev lv l H hv hs hl)
 cells v vs ls H hv hl hll hle hvs:=zO mixed k_merge_cells (cells_ev (fun b xs H hb hne hl=>good_sort b xs H hb hne hl) (fun H=>good_sort0 H) (fun H=>g_compact0 H) (fun b xs H hb hne hl=>g_compact b xs H hb hne hl) v vs ls H hv hl hll hle hvs)
include hev in
theorem g_diff (av bv : AV) (a b : List Fil) (hav : zCJ av 3 (a.map zZ)) (hbv : zCJ bv 3 (b.map zZ)) (H : Heap) : GQ m ev zCC [av,bv] H (.tup [diffV a b,eV (zAN [a,b])]) H:=
 zO mixed k_merge_Diff (diff_ev (mergC hev) av bv a b hav hbv H)
theorem g_cell4 (c r : Int) (H : Heap) : GQ m ev zBY [zf c,zf r] H (zB7 c r) H:=zO mixed k_scclaw4_cell (cell4_ev c r H)
theorem g_small (H : Heap) : GQ m ev zBo [] H (.lst (some false) 3 (zCP.map zZ)) H:=zO mixed zHv (small_ev g_cell4 H)
end
end Go.Proofs.YtmmbcogejaofpaaGreatDoor
set_option maxRecDepth 20000
namespace Go.AM
theorem frz_pair {n : Nat} {v v' y : AV} {H H' : Heap} (h : zB0 n v H = some (v',H')) (hy : ∀ H,zB0 n y H = some (y,H)) : zB0 n (.tup [v,y]) H = some (.tup [v',y],H'):=by
 simp only [zB0,zGR,h,hy]
section
variable {C : CSpec} {GT : Nat → Option AV}
def hasF (part : Bs) (whole : Bool) (f : Fil) : Bool:=(f.text == part) || (!whole && decide (0 < (zDI part [] f.text).1))
def zGP (part : Bs) (whole : Bool) (l : List Fil) : List Fil:=l.filter (hasF part whole)
def fcel (f : Fil) : AV:=zB7 f.col f.row
theorem fnd_take (part : Bs) (whole : Bool) (l : List Fil) (i : Nat) (f : Fil) (h : l[i]? = some f) : zGP part whole (l.take (i + 1)) = zGP part whole (l.take i) ++ (if hasF part whole f = true then [f] else []):=by
 unfold zGP
 rw [List.take_succ,h,List.filter_append]
 by_cases hh : hasF part whole f = true
 ·simp [hh]
 ·simp [hh]
def zGz (l : List Fil) (part : Bs) : Nat:=if zAV l ≠ 0 then zAV l else if part = [] then 2 else 0
def findV (l : List Fil) (part : Bs) (whole : Bool) : AV:=if zGz l part = 0 then zFh 2 ((zGP part whole l).map fcel) else .lst (some true) 0 []
theorem find_ev (hG : ∀ lv l H,view H 3 lv = some (l.map zZ) → C zAA [lv] H (eV (zAV l)) H) (hS : ∀ s part H,1 ≤ part.length → s.length ≤ 1000 → C zBL [.str s,.str part] H (.bool (decide (0 < (zDI part [] s).1))) H)
  (lv : AV) (l : List Fil) (part : Bs) (whole : Bool) (H : Heap) (hv : view H 3 lv = some (l.map zZ)) : EFun C GT zHl [lv,.str part,.bool whole] H (.tup [findV l part whole,eV (zGz l part)]) H:=by
 have hlm : (l.map zZ).length = l.length:=List.length_map _
 have hg:=hG lv l H hv
 clear hG
 refine ze ?_
 unfold findV
 by_cases c0 : zAV l = 0
 ·obtain ⟨hl,hok⟩:=zIF c0
  rw [c0] at hg
  have hg : C zAA [lv] H .nili H:=hg
  by_cases hp0 : part = []
  ·have hn : zGz l part = 2:=by unfold zGz; rw [if_neg tO,if_pos hp0]
   rw [hn,if_neg (by decide)]
   clear hS
   refine zI hg ?_; refine zT rfl ?_; refine zF <| za (tE hp0) ?_
   exact sRr
  ·have hn : zGz l part = 0:=by unfold zGz; rw [if_neg tO,if_neg hp0]
   have hp : 1 ≤ part.length:=by
    cases part with
    | nil=>exact absurd rfl hp0
    | cons a t=>simp
   rw [hn,if_pos rfl]
   refine zI hg ?_; refine zT rfl ?_; refine zF <| zV (tN hp0) ?_; refine sLenV hv ?_; refine zCI (fun x : Nat × AV=>[(22,zP x.1),(9,x.2),(1,.str part),(2,.bool whole),(20,lv),(21,.int .i64 ((l.map zZ).length : Nat))]) (fun x H'=>Old H H' ∧ x.1 ≤ l.length ∧ Owns H H' x.2 2 ((zGP part whole (l.take x.1)).map fcel)) (fun x=>l.length - x.1) (0,.lst (some true) 0 []) rfl ⟨Old.refl _,by simp,.inl ⟨rfl,rfl⟩⟩ (fun ⟨i,v⟩ H1 ⟨hO,hi,ho⟩=>?_)
   dsimp only at hi ho ⊢
   have hv1:=zCv hO hv
   by_cases hlt : i < l.length
   ·obtain ⟨f,hf⟩ : ∃ f,l[i]? = some f:=⟨_,List.getElem?_eq_getElem hlt⟩
    have hfm : (l.map zZ)[i]? = some (zZ f):=by rw [List.getElem?_map,hf]; rfl
    have hfo:=hok f (List.mem_of_getElem? hf)
    have hs:=fun H=>hS f.text part H hp (by have:=hfo.2.2; omega)
    have hft:=fnd_take part whole l i f hf
    have hfl : (zGP part whole (l.take i)).length ≤ 200:=by
     have:=List.length_filter_le (hasF part whole) (l.take i)
     rw [List.length_take] at this
     unfold zGP
     omega
    clear hS
    have go : hasF part whole f = true → ∀ K : Post,True:=fun _ _=>trivial
    by_cases h1 : f.text = part
    ·have hh : hasF part whole f = true:=by unfold hasF; rw [tE h1]; rfl
     rw [if_pos hh] at hft
     refine za tT ?_; refine zB4 i (zZ f) hv1 rfl hfm (fun p hp=>?_)
     refine zAT (zZ f) hp rfl ?_; refine zG (v:=zZ f) (AV.cells (zZ f)) zD rfl rfl rfl rfl ?_; refine zC (AV.str f.text) (zE zD) rfl ?_; refine za (tE h1) <| zH <| zH ?_; refine zC (AV.agg [zf f.col,zf f.row]) (zE zD) rfl ?_; refine zAv (vs':=[AV.agg [zf f.col,zf f.row]]) rfl rfl ?_; refine zB5 (H0:=H) (ys:=[fcel f]) ((ho.pushSet _ _).push _) ((hO.pushSet _ _).push _) zAt (by decide) (by simp only [List.length_map,List.length_cons,List.length_nil]; omega) (by simp) (fun v' H' ho' hO' _ _=>?_)
     have ho' : Owns H H' v' 2 ((zGP part whole (l.take (i + 1))).map fcel):=by rw [hft,List.map_append]; exact ho'
     refine zb (r:=i + 1) rfl tO ?_; refine zAf (i + 1,v') rfl ⟨hO',by simp only; omega,ho'⟩ (by simp only; omega)
    ·cases whole with
     | true=>
      have hh : hasF part true f = false:=by unfold hasF; rw [tN h1]; rfl
      rw [if_neg (by rw [hh]; simp),List.append_nil] at hft
      refine za tT ?_; refine zB4 i (zZ f) hv1 rfl hfm (fun p hp=>?_)
      refine zAT (zZ f) hp rfl ?_; refine zG (v:=zZ f) (AV.cells (zZ f)) zD rfl rfl rfl rfl ?_; refine zC (AV.str f.text) (zE zD) rfl ?_; refine zV (tN h1) <| zF <| zF <| zF <| zF ?_; refine zb (r:=i + 1) rfl tO ?_; refine zAf (i + 1,v) rfl ⟨hO.pushSet _ _,by simp only; omega,by rw [hft]; exact ho.pushSet _ _⟩ (by simp only; omega)
     | false=>
      by_cases h2 : 0 < (zDI part [] f.text).1
      ·have hh : hasF part false f = true:=by unfold hasF; rw [decide_eq_true h2]; simp
       rw [if_pos hh] at hft
       rw [decide_eq_true h2] at hs
       refine za tT ?_; refine zB4 i (zZ f) hv1 rfl hfm (fun p hp=>?_)
       refine zAT (zZ f) hp rfl ?_; refine zG (v:=zZ f) (AV.cells (zZ f)) zD rfl rfl rfl rfl ?_; refine zC (AV.str f.text) (zE zD) rfl ?_; refine zV (tN h1) <| zH ?_; refine zC (AV.str f.text) (zE zD) rfl ?_; refine zI (hs _) ?_; refine zH <| zF <| zH ?_; refine zC (AV.agg [zf f.col,zf f.row]) (zE zD) rfl ?_; refine zAv (vs':=[AV.agg [zf f.col,zf f.row]]) rfl rfl ?_; refine zB5 (H0:=H) (ys:=[fcel f]) ((ho.pushSet _ _).push _) ((hO.pushSet _ _).push _) zAt (by decide) (by simp only [List.length_map,List.length_cons,List.length_nil]; omega) (by simp) (fun v' H' ho' hO' _ _=>?_)
       have ho' : Owns H H' v' 2 ((zGP part false (l.take (i + 1))).map fcel):=by rw [hft,List.map_append]; exact ho'
       refine zb (r:=i + 1) rfl tO ?_; refine zAf (i + 1,v') rfl ⟨hO',by simp only; omega,ho'⟩ (by simp only; omega)
      ·have hh : hasF part false f = false:=by unfold hasF; rw [tN h1,decide_eq_false h2]; rfl
       rw [if_neg (by rw [hh]; simp),List.append_nil] at hft
       rw [decide_eq_false h2] at hs
       refine za tT ?_; refine zB4 i (zZ f) hv1 rfl hfm (fun p hp=>?_)
       refine zAT (zZ f) hp rfl ?_; refine zG (v:=zZ f) (AV.cells (zZ f)) zD rfl rfl rfl rfl ?_; refine zC (AV.str f.text) (zE zD) rfl ?_; refine zV (tN h1) <| zH ?_; refine zC (AV.str f.text) (zE zD) rfl ?_; refine zI (hs _) ?_; refine zH <| zF <| zF ?_; refine zb (r:=i + 1) rfl tO ?_; refine zAf (i + 1,v) rfl ⟨hO.pushSet _ _,by simp only; omega,by rw [hft]; exact ho.pushSet _ _⟩ (by simp only; omega)
   ·have he : l.take i = l:=List.take_of_length_le tO
    rw [he] at ho
    refine zV tF ?_
    obtain ⟨H3,hz,hO3,_⟩:=ho.frz hO
    exact sRetF rfl rfl (frz_pair hz fun _=>rfl) (by show (AV.tup [zFh 2 _,.nili]).bel _ = true; generalize (zGP part whole l).map fcel = xs; cases xs <;> rfl) hO3
 ·have hn : zGz l part = zAV l:=if_pos c0
  rw [hn,if_neg c0]
  have he : eV (zAV l) = zD6 (zAV l : Nat):=by unfold eV; rw [if_neg c0]
  rw [he] at hg ⊢
  clear hS
  refine zI hg ?_; refine zT rfl ?_; refine zH ?_
  exact sRr
end
end Go.AM
namespace Go.AM
end Go.AM
