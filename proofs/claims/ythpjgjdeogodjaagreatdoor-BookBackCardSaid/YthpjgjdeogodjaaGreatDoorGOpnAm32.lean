/- Several texts of mine in one (Opn, Opo, Gbo, Am26, Am32). Own work. -/
import Derived.Test.YthpjgjdeogodjaaGreatDoorGOp1Ssh
import Derived.Test.YthpjgjdeogodjaaGreatDoorGGqBe0
import Derived.Test.YthpjgjdeogodjaaGreatDoorGInsDlg
import Derived.Test.YthpjgjdeogodjaaGreatDoorGWt2Opl
import Derived.Test.YthpjgjdeogodjaaGreatDoorGFmAm24
import Derived.SizedLaws
import Derived.Handed
import Derived.DataWitness
set_option linter.all false
set_option maxRecDepth 20000
namespace Go.AM
theorem goods_ok {l : List Fil} (h : Goods l) : ∀ f ∈ l,okF f:=(zJH h.check).2
section
variable {C : CSpec} {GT : Nat → Option AV}
theorem pack_ev (hO : ∀ q k (b : Bs) H,(k = 1 ∨ b = []) → b.length ≤ 140737488355328 → C zAv [.lst q k (b.map zO)] H (.tup [opV (zA1 b).2.2 (zA1 b).1,zP (zA1 b).2.1]) H)
  (hW : ∀ lv l H,view H 3 lv = some (l.map zd) → C zBC [lv] H (.tup [wriV l,eV (zBD l)]) H) (q : Option Bool) (k : Nat) (b : Bs) (hk : k = 1 ∨ b = []) (hbl : b.length ≤ 140737488355328) (H : Heap) :
  EFun C GT zId [.lst q k (b.map zO)] H (.tup [bsV (zW (zA1 b).1),.nili]) H:=by
 have ho:=hO q k b H hk hbl
 obtain ⟨hg,_,_,hq⟩:=zEx b
 generalize (zA1 b).1 = L at *
 generalize (zA1 b).2.2 = Q at *
 generalize (zA1 b).2.1 = n at *
 have hw:=hW (opV Q L) L H (zE6 _ _ hq H)
 have e1 : wriV L = bsV (zW L):=if_pos hg.check
 rw [e1,hg.check] at hw
 have hw : C zBC [opV Q L] H (.tup [bsV (zW L),.nili]) H:=hw
 clear hO hW
 generalize opV Q L = ov at *
 obtain ⟨bv,hbv⟩ : ∃ bv,bsV (zW L) = bv:=⟨_,rfl⟩
 have hf : ∀ H,zCb H.length bv H = some (bv,H):=fun H=>by rw [← hbv]; exact frz_plain (lstF_plain _ _)
 have hb : ∀ n,bv.bel n = true:=fun n=>by rw [← hbv]; exact lstF_bel _ _ _
 rw [hbv] at hw ⊢
 refine zb ?_; refine zI ho <| zT rfl <| zT rfl <| zI hw <| zT rfl <| zT rfl ?_; refine zBW rfl rfl ?_ ?_ (Old.refl H)
 ·exact frz_pair (hf _) (fun _=>rfl)
 ·simp [AV.bel,AV.belL,hb]
end
end Go.AM
set_option maxRecDepth 20000
namespace Go.AM
theorem slice_to {v : AV} {k n : Nat} {xs : List AV} (h : zDy v k xs) (hn : n ≤ xs.length) : ∃ v',zAq (some k) v none (some (zP n)) = some v' ∧ zDy v' k (xs.take n):=by
 obtain ⟨q,k',rfl,hk⟩:=h
 have hc : k' = k ∨ xs.isEmpty = true:=by
  rcases hk with h | h
  ·exact .inl h
  ·exact .inr (by rw [h]; rfl)
 have hb : zBo xs.length none (some (zP n)) = some (0,n):=by simp [zBo,aHi,aLo,zP,hn]
 refine ⟨.lst (zGd q 0 n) k' (xs.take n), ?_,_,_,rfl, ?_⟩
 ·simp only [zAq]
  rw [if_pos hc,hb]
  simp
 ·rcases hk with h | h
  ·exact .inl h
  ·exact .inr (by rw [h]; simp)
theorem opV_of (q : Bool) (l : List Fil) (hq : q = true → l = []) : zDy (opV q l) 3 (l.map zd):=by
 cases q with
 | true=>rw [hq rfl]; exact ⟨_,_,rfl,.inr rfl⟩
 | false=>exact ⟨_,_,rfl,.inl rfl⟩
section
variable {C : CSpec} {GT : Nat → Option AV}
theorem cell4_ev (c r : Int) (H : Heap) : EFun C GT zFK [zl c,zl r] H (zAa c r) H:=by
 refine zb ?_; refine zT (v:=[zl c,zl r]) rfl <| zG (v:=AV.agg [zl c,zl r]) (AV.cells (AV.agg [zl c,zl r])) zD rfl rfl rfl rfl ?_
 exact zH3 (o:=0) rfl rfl (zU (zE zD)) rfl rfl rfl (((Old.refl _).push _).set tA _)
set_option maxHeartbeats 8000000 in
theorem bback_ev (hC : ∀ c r H,C zCK [zl c,zl r] H (zAa c r) H) (hK : ∀ f n,mayN f = n → ∀ H,C zCO [zd f] H (.tup [if n = 0 then bsV (zGc f) else .lst (some true) 0 [],eV n]) H)
  (hO : ∀ q k (b : Bs) H,(k = 1 ∨ b = []) → b.length ≤ 140737488355328 → C zAv [.lst q k (b.map zO)] H (.tup [opV (zA1 b).2.2 (zA1 b).1,zP (zA1 b).2.1]) H)
  (hP : ∀ q k (b : Bs) H,(k = 1 ∨ b = []) → b.length ≤ 140737488355328 → C zDz [.lst q k (b.map zO)] H (.tup [bsV (zW (zA1 b).1),.nili]) H)
  (hW : ∀ lv l H,view H 3 lv = some (l.map zd) → C zBC [lv] H (.tup [wriV l,eV (zBD l)]) H)
  (hS : ∀ v w (l : List Fil) H,view H 3 v = some (l.map zd) → view H 3 w = some (l.map zd) → l.length ≤ 1000000 → C zAo [v,w] H (.bool true) H)
  (lv : AV) (l : List Fil) (hlv : zDy lv 3 (l.map zd)) (cut : Int) (q : Option Bool) (k : Nat) (b : Bs) (hk : k = 1 ∨ b = []) (hbl : b.length ≤ 140737488355328) (H : Heap) :
  EFun C GT zDA [lv,zl cut,.lst q k (b.map zO)] H (.bool true) H:=by
 have hc:=hC 1 1 H
 have hk0:=hK ⟨1,1,[120]⟩ 0 rfl H
 obtain ⟨ev,hev⟩ : ∃ ev,bsV (zGc ⟨1,1,[120]⟩) = ev:=⟨_,rfl⟩
 have hel : zDy ev 1 ((zGc ⟨1,1,[120]⟩).map zO):=by rw [← hev]; exact lstF_of _ _
 have hk0 : C zCO [zd ⟨1,1,[120]⟩] H (.tup [ev,.nili]) H:=by rw [← hev]; exact hk0
 clear hev
 have hell : ((zGc ⟨1,1,[120]⟩).map zO).length = 6:=rfl
 have x2 : ((zGc ⟨1,1,[120]⟩).map zO)[2]? = some (zO 1):=rfl
 have hoV : ∀ v (b : Bs),zDy v 1 (b.map zO) → b.length ≤ 140737488355328 → C zAv [v] H (.tup [opV (zA1 b).2.2 (zA1 b).1,zP (zA1 b).2.1]) H:=fun v b hv hb=>by
  obtain ⟨q,k,rfl,h⟩:=hv
  exact hO q k b H (h.elim .inl fun h=>.inr (List.map_eq_nil_iff.1 h)) hb
 have ho:=hO q k b H hk hbl
 have hp:=hP q k b H hk hbl
 obtain ⟨hg,hn1,hn2,hq⟩:=zEx b
 generalize (zA1 b).1 = L at *
 generalize (zA1 b).2.2 = Q at *
 generalize (zA1 b).2.1 = n at *
 have hlenL:=hg.len
 have hleL:=zH8 L (goods_ok hg)
 obtain ⟨pv,hpv⟩ : ∃ pv,bsV (zW L) = pv:=⟨_,rfl⟩
 have hpl : zDy pv 1 ((zW L).map zO):=by rw [← hpv]; exact lstF_of _ _
 rw [hpv] at hp
 clear hpv
 have hpn : ((zW L).map zO).length = (zW L).length:=List.length_map _
 have ho2:=hoV pv (zW L) hpl tO
 obtain ⟨e1,e2⟩:=open_all hg.check
 obtain ⟨_,_,_,hq2⟩:=zEx (zW L)
 rw [e1] at ho2 hq2
 rw [e2] at ho2
 generalize (zA1 (zW L)).2.2 = Q2 at *
 have hs2:=hS (opV Q L) (opV Q2 L) L H (zE6 _ _ hq H) (zE6 _ _ hq2 H) tO
 generalize opV Q L = mv at *
 generalize opV Q2 L = mv2 at *
 generalize (zW L).length = pn at *
 have hbm : (b.map zO).length = b.length:=List.length_map _
 have hw:=hW lv l H (hlv.view H)
 clear hC hK hW hO hP
 by_cases c0 : zBD l = 0
 ·have hgl:=goods_of c0
  have hlen:=hgl.len
  have hle:=zH8 l (goods_ok hgl)
  have e1 : wriV l = bsV (zW l):=if_pos c0
  rw [e1,c0] at hw
  obtain ⟨wv,hwv⟩ : ∃ wv,bsV (zW l) = wv:=⟨_,rfl⟩
  have hwl : zDy wv 1 ((zW l).map zO):=by rw [← hwv]; exact lstF_of _ _
  have hw : C zBC [lv] H (.tup [wv,.nili]) H:=by rw [← hwv]; exact hw
  clear hwv e1
  have hwn : ((zW l).map zO).length = (zW l).length:=List.length_map _
  have ho3:=hoV wv (zW l) hwl tO
  obtain ⟨e3,e4⟩:=open_all c0
  obtain ⟨_,_,_,hq3⟩:=zEx (zW l)
  rw [e3] at ho3 hq3
  rw [e4] at ho3
  generalize (zA1 (zW l)).2.2 = Q3 at *
  have hs3:=hS (opV Q3 l) lv l H (zE6 _ _ hq3 H) (hlv.view H) tO
  generalize opV Q3 l = mv3 at *
  by_cases c1 : 0 ≤ cut
  ·obtain ⟨c,rfl⟩:=Int.eq_ofNat_of_zero_le c1
   by_cases c2 : c ≤ (zW l).length
   ·obtain ⟨cv,hcs,hcl⟩:=slice_to hwl (n:=c) tO
    rw [← List.map_take] at hcl
    have ho4:=hoV cv ((zW l).take c) hcl (by rw [List.length_take]; omega)
    obtain ⟨j,j1,j2,j3,_⟩:=open_cut c0 c2
    obtain ⟨_,_,_,hq4⟩:=zEx ((zW l).take c)
    rw [j2] at ho4 hq4
    generalize (zA1 ((zW l).take c)).2.2 = Q4 at *
    generalize (zA1 ((zW l).take c)).2.1 = n4 at *
    have hl4:=opV_of Q4 (l.take j) hq4
    have hl4n : ((l.take j).map zd).length = j:=by rw [List.length_map,List.length_take]; omega
    have hlm : (l.map zd).length = l.length:=List.length_map _
    obtain ⟨lv4,hls,hll⟩:=slice_to hlv (n:=j) tO
    rw [← List.map_take] at hll
    have hs4:=hS (opV Q4 (l.take j)) lv4 (l.take j) H (hl4.view H) (hll.view H) (by rw [List.length_take]; omega)
    generalize opV Q4 (l.take j) = mv4 at *
    generalize (zW l).length = wn at *
    refine zb ?_; refine zI hc <| zT (v:=[zl 1,zl 1,AV.str [120]]) rfl <| zI hk0 <| zT rfl <| zT rfl <| zT rfl ?_; refine zF <| zDY 6 hel hell <| zF <| zc (bne_eq_false_iff_eq.2 rfl) <| sIdxO 2 _ hel rfl x2 <| zBk (zO 1) rfl ?_; refine zF <| zc (bne_eq_false_iff_eq.2 rfl) <| zI hw <| zT rfl <| zT rfl <| zT rfl ?_; refine zH <| zI ho3 <| zT rfl <| zT rfl <| zI hs3 <| zF ?_; refine zDY wn hwl hwn <| zF <| zc (bne_eq_false_iff_eq.2 rfl) <| zi tT <| zDY wn hwl hwn ?_
    refine zH <| zi tT <| zT hcs <| zI ho4 <| zT rfl <| zT rfl ?_; refine zc tF <| zDY j hl4 hl4n <| zDY l.length hlv hlm <| zF <| zc tF <| zDY j hl4 hl4n ?_; refine zT hls <| zI hs4 <| zF <| zI ho <| zT rfl <| zT rfl ?_; refine zI hp <| zT rfl <| zT rfl <| zI ho2 <| zT rfl <| zT rfl ?_; refine zI hs2 <| zT rfl <| zH <| zH <| zH <| zDY pn hpl hpn ?_; refine zH <| zi tT <| zDY pn hpl hpn <| zH <| zi tT <| sLenB ?_
    refine zH ?_
    exact zFc (v0:=.bool (decide ((n : Int) ≤ (b.length : Int)))) (by rw [tT]) rfl rfl rfl rfl (Old.refl H)
   ·generalize (zW l).length = wn at *
    refine zb ?_; refine zI hc <| zT (v:=[zl 1,zl 1,AV.str [120]]) rfl <| zI hk0 <| zT rfl <| zT rfl <| zT rfl ?_; refine zF <| zDY 6 hel hell <| zF <| zc (bne_eq_false_iff_eq.2 rfl) <| sIdxO 2 _ hel rfl x2 <| zBk (zO 1) rfl ?_; refine zF <| zc (bne_eq_false_iff_eq.2 rfl) <| zI hw <| zT rfl <| zT rfl <| zT rfl ?_; refine zH <| zI ho3 <| zT rfl <| zT rfl <| zI hs3 <| zF ?_; refine zDY wn hwl hwn <| zF <| zc (bne_eq_false_iff_eq.2 rfl) <| zi tT <| zDY wn hwl hwn ?_
    refine zH <| zc tF <| zI ho <| zT rfl <| zT rfl <| zI hp ?_; refine zT rfl <| zT rfl <| zI ho2 <| zT rfl <| zT rfl <| zI hs2 ?_; refine zT rfl <| zH <| zH <| zH <| zDY pn hpl hpn ?_; refine zH <| zi tT <| zDY pn hpl hpn <| zH <| zi tT <| sLenB ?_; refine zH ?_
    exact zFc (v0:=.bool (decide ((n : Int) ≤ (b.length : Int)))) (by rw [tT]) rfl rfl rfl rfl (Old.refl H)
  ·generalize (zW l).length = wn at *
   refine zb ?_; refine zI hc <| zT (v:=[zl 1,zl 1,AV.str [120]]) rfl <| zI hk0 <| zT rfl <| zT rfl <| zT rfl ?_; refine zF <| zDY 6 hel hell <| zF <| zc (bne_eq_false_iff_eq.2 rfl) <| sIdxO 2 _ hel rfl x2 <| zBk (zO 1) rfl ?_; refine zF <| zc (bne_eq_false_iff_eq.2 rfl) <| zI hw <| zT rfl <| zT rfl <| zT rfl ?_; refine zH <| zI ho3 <| zT rfl <| zT rfl <| zI hs3 <| zF ?_; refine zDY wn hwl hwn <| zF <| zc (bne_eq_false_iff_eq.2 rfl) <| zc tF <| zF <| zF ?_
   refine zI ho <| zT rfl <| zT rfl <| zI hp <| zT rfl <| zT rfl ?_; refine zI ho2 <| zT rfl <| zT rfl <| zI hs2 <| zT rfl ?_; refine zH <| zH <| zH <| zDY pn hpl hpn <| zH <| zi tT ?_; refine zDY pn hpl hpn <| zH <| zi tT <| sLenB <| zH ?_
   exact zFc (v0:=.bool (decide ((n : Int) ≤ (b.length : Int)))) (by rw [tT]) rfl rfl rfl rfl (Old.refl H)
 ·have e1 : wriV l = .lst (some true) 0 []:=if_neg c0
  have e2 : eV (zBD l) = zEJ (zBD l : Nat):=by unfold eV; rw [if_neg c0]
  rw [e1,e2] at hw
  generalize zBD l = cn at *
  refine zb ?_; refine zI hc <| zT (v:=[zl 1,zl 1,AV.str [120]]) rfl <| zI hk0 <| zT rfl <| zT rfl <| zT rfl ?_; refine zF <| zDY 6 hel hell <| zF <| zc (bne_eq_false_iff_eq.2 rfl) <| sIdxO 2 _ hel rfl x2 <| zBk (zO 1) rfl ?_; refine zF <| zc (bne_eq_false_iff_eq.2 rfl) <| zI hw <| zT rfl <| zT rfl <| zT rfl ?_; refine zF <| zI ho <| zT rfl <| zT rfl <| zI hp <| zT rfl ?_; refine zT rfl <| zI ho2 <| zT rfl <| zT rfl <| zI hs2 <| zT rfl ?_
  refine zH <| zH <| zH <| zDY pn hpl hpn <| zH <| zi tT ?_; refine zDY pn hpl hpn <| zH <| zi tT <| sLenB <| zH ?_
  exact zFc (v0:=.bool (decide ((n : Int) ≤ (b.length : Int)))) (by rw [tT]) rfl rfl rfl rfl (Old.refl H)
end
end Go.AM
set_option maxRecDepth 100000
namespace Go.Proofs.YthpjgjdeogodjaaGreatDoor
open Go.AM
theorem len_of1 {n m N : Nat} (h : n * m < N) (hm : m = 1) : n ≤ N:=by subst hm; omega
section
variable {m : Int} {ev : Value} (hev : ∃ te pe,ev = .iface te pe)
theorem g_bsum16 (v : AV) (l : List UInt8) (H : Heap) (hv : view H 1 v = some (l.map zO)) (hl : l.length ≤ 1000) : GQ m ev zCH [v] H (.int .u16 (sumN 1 l : Nat)) H:=zN mixed k_book_sum (bksum_ev v l H hv hl)
theorem g_bentry (f : Fil) (hf : okF f) (H : Heap) : GQ m ev zBu [zd f] H (bsV (zGc f)) H:=zN mixed k_book_entry (bentry_ev g_bsum16 f hf H)
include hev in
theorem g_may (f : Fil) (H : Heap) : GQ m ev zBE [zAa f.col f.row,.str f.text] H (eV (mayN f)) H:=zN mixed k_sheet_May (may_ev g_acheck (g_text hev) f H)
include hev in
theorem g_kentry (f : Fil) (n : Nat) (hn : mayN f = n) (H : Heap) : GQ m ev zCO [zd f] H (.tup [if n = 0 then bsV (zGc f) else .lst (some true) 0 [],eV n]) H:=zN mixed k_book_Entry (kentry_ev (g_may hev) g_bentry f n hn H)
include hev in
theorem g_write (lv : AV) (l : List Fil) (H : Heap) (hv : view H 3 lv = some (l.map zd)) : GQ m ev zBC [lv] H (.tup [wriV l,eV (zBD l)]) H:=zN mixed k_book_Write (write_ev (g_check hev) g_bentry lv l H hv)
theorem g_sheets (v w : AV) (l : List Fil) (H : Heap) (hv : view H 3 v = some (l.map zd)) (hw : view H 3 w = some (l.map zd)) (hl : l.length ≤ 1000000) : GQ m ev zAo [v,w] H (.bool true) H:=
 zN mixed zHm (ssheets_ev v w l H hv hw hl)
theorem g_withc (f : Fil) (c r : Int) (H : Heap) : GQ m ev zAW [zd f,zAa c r] H (zl (cmpC f.col f.row c r)) H:=zN mixed zIx (withc_ev g_acomp f c r H)
theorem g_bsearch (lv : AV) (l : List Fil) (c r : Int) (H : Heap) (found : Bool) (hl : l.length ≤ 1000) (hs : Srtd l) (hv : view H 3 lv = some (l.map zd)) (hf : found = (match l[zFo l c r]? with | some f=>isC c r f | none=>false)) :
  GQ m ev zS [lv,zAa c r,.fn zAW [] []] H (.tup [zP (zFo l c r),.bool found]) H:=
 zN mixed zAS (bsearch_ev g_withc lv l hl hs c r H hv found hf)
theorem g_kwith (q : Bool) (l : List Fil) (c r : Int) (t : Bs) (H : Heap) (hq : q = true → l = []) (hl : l.length ≤ 1000) (hs : Srtd l) : GQ m ev zC9 [opV q l,zAa c r,.str t] H (opV (q && decide (t = [])) (zCC l c r t)) H:=by
 rw [← withV_op q l hq c r t]
 refine zN mixed k_sheet_With (kwith_ev (fun lv l c r H found a b c d=>g_bsearch lv l _ _ H found a b c d) (fun k H=>good_clone0 k H) (fun k l H h1 h2=>good_clone k l H h1 h2) (fun b i l H h1 h2 h3=>good_delete b i l H h1 h2 h3) (fun b b' i l f H h1 h2 h3 h4 h5=>good_insert b b' i l f H h1 h2 h3 h4 h5) (fun b' f H h=>good_insert0 b' f H h) q _ l ?_ hq hl hs c r t H)
 cases q with
 | true=>exact .inr (hq rfl)
 | false=>exact .inl rfl
include hev in
theorem g_kopen (q : Option Bool) (k : Nat) (b : Bs) (H : Heap) (hk : k = 1 ∨ b = []) (hb : b.length ≤ 140737488355328) : GQ m ev zAv [.lst q k (b.map zO)] H (.tup [opV (zA1 b).2.2 (zA1 b).1,zP (zA1 b).2.1]) H:=
 zN mixed k_book_Open (bopen_ev g_bsum16 (g_may hev) g_kwith q k b hk hb H)
include hev in
theorem g_pack (q : Option Bool) (k : Nat) (b : Bs) (H : Heap) (hk : k = 1 ∨ b = []) (hb : b.length ≤ 140737488355328) : GQ m ev zDz [.lst q k (b.map zO)] H (.tup [bsV (zW (zA1 b).1),.nili]) H:=
 zN mixed k_book_Pack (pack_ev (g_kopen hev) (g_write hev) q k b hk hb H)
theorem g_cell4 (c r : Int) (H : Heap) : GQ m ev zCK [zl c,zl r] H (zAa c r) H:=zN mixed k_scclaw4_cell (cell4_ev c r H)
include hev in
theorem g_bookBack (lv : AV) (l : List Fil) (hlv : ∃ q,lv = .lst (some q) 3 (l.map zd)) (cut : Int) (q : Option Bool) (b : Bs) (H : Heap) (hb : (b.map zO).length ≤ 140737488355328) : GQ m ev zC8 [lv,zl cut,.lst q 1 (b.map zO)] H (.bool true) H:=by
 obtain ⟨q',rfl⟩:=hlv
 exact zN mixed zGM (bback_ev g_cell4 (g_kentry hev) (g_kopen hev) (g_pack hev) (g_write hev) g_sheets _ l ⟨_,_,rfl,.inl rfl⟩ cut q 1 b (.inl rfl) (by rwa [List.length_map] at hb) H)
end
end Go.Proofs.YthpjgjdeogodjaaGreatDoor
namespace Go.AM
section
variable {H : Type} {enc : TypeId × Value → H} {P : Program} {w : World} {held : Bool} {base : Nat} {sp : Nat → Bool}
theorem len_of_trod {t e : TypeId} {v : Value} {d : DataW H} {ps : List MemPlace} {M : AMap} {I : Nat → Prop} {n : Nat} {q : Option Bool} {k : Nat} {xs : List AV} (hu : P.underlying t = some (.slice e)) (h : DataW.Trod enc P w base sp held t v d ps) (hr : Rel w M I n (.lst q k xs) v) :
  xs = [] ∨ ∃ elems spare,d = .slice elems spare ∧ elems.length = xs.length:=by
 obtain ⟨fuel,h⟩:=h
 cases fuel with
 | zero=>simp [DataW.trod] at h
 | succ fuel=>
 cases hr with
 | lnil=>exact .inl rfl
 | lemp=>exact .inl rfl
 | lst q k xs g o cap V hq hc hm hI he hv hr=>
  refine .inr ?_
  have hcs : (Value.slice (some ⟨g,o,none⟩) xs.length cap).cells.toList = [Value.slice (some ⟨g,o,none⟩) xs.length cap]:=rfl
  rw [hcs] at h
  simp only [DataW.trod,hu] at h
  split at h
  ·obtain ⟨elems,he,h⟩:=Option.bind_eq_some_iff.1 h
   obtain ⟨rest,_,h⟩:=Option.map_eq_some_iff.1 h
   obtain ⟨h1,_⟩:=zCv he
   rw [List.length_range] at h1
   simp only [Prod.mk.injEq] at h
   exact ⟨_,_,h.1.symm,by rw [List.length_map,h1]⟩
  ·cases h
theorem sized_list {t e : TypeId} {v : Value} {d : DataW H} {ps : List MemPlace} {M : AMap} {I : Nat → Prop} {n : Nat} {q : Option Bool} {k : Nat} {xs : List AV} {ts : List TypeId} {ds : List (DataW H)} {j : Nat}
  (hsz : (DataW.weightsEach P ts ds).all (· ≤ reachBytes) = true) (ht : ts[j]? = some t) (hd : ds[j]? = some d) (hu : P.underlying t = some (.slice e)) (h : DataW.Trod enc P w base sp held t v d ps) (hr : Rel w M I n (.lst q k xs) v) :
  xs.length * P.bytesOf e < 140737488355328:=by
 have hb : reachBytes < 140737488355328:=reachBytes_lt
 rcases len_of_trod hu h hr with rfl | ⟨elems,spare,rfl,hl⟩
 ·simp
 ·have:=sized_slice hsz ht hd hu
  rw [Nat.add_mul] at this
  rw [← hl]
  omega
end
end Go.AM
namespace Go.AM
section
variable {H : Type} {enc : TypeId × Value → H} {P : Program} {w : World} {held : Bool}
end
end Go.AM
namespace Go.Proofs
open Go.RowKit Go.AM
section
variable {H : Type} {enc : TypeId × Value → H}
theorem zEa {a : Assume} {C : Checked} {os : Os} {f : FuncId} {fn : Func} {s : ChangeSpec} {conds : List PathCond} {apart fresh handsOn again : Bool} {X : World → Array Value → Prop}
  (hX : ∀ (w w' : World) (args : Array Value),w.heap = w'.heap → X w args → X w' args)
  (own : ownKnob C.prog.godebug = none) (started : os.Started) (noInit : C.prog.inits.idxOf? f = none) (hfn : C.prog.funcs[f]? = some fn)
  (witness : ∃ (w : World) (tape : Tape) (i : Input),w.os = os ∧ (w.forCall tape i).Shaped C.prog ∧ i.vars = [] ∧ Input.okWide C.prog (w.forCall tape i) .any w.heap.size f i ∧
   ((s.pre enc C.prog fn conds apart (w.forCall tape i).memory i.args ∧ X (w.forCall tape i).memory i.args) ∧ sizedMet enc C.prog fn (OpenSpec.ofChange s) apart (w.forCall tape i).memory i.args) ∧ a.holds C.prog (lone (Frame.enter C.prog f i.args .normal) [] (w.forCall tape i)))
  (contract : ∀ (W : World) (base : Nat) (args : Array Value) (ds gs : List (DataW H)) (before : List MemPlace),
   (∀ (j : Nat) t v,fn.params[j]? = some t → args[j]? = some v → Value.okWide C.prog W .any base t v) →
   DataW.Whole enc C.prog fn.params.toList s.vars apart W args.toList ds gs before →
   conds.all (PathCond.test C.prog ⟨fn.params.toList,ds,s.plain.varTypes C.prog,gs⟩) = true →
   (DataW.weightsEach C.prog (fn.params.toList ++ s.plain.varTypes C.prog) (ds ++ gs)).all (· ≤ reachBytes) = true → X W args → W.ShapedOpen C.prog →
   Calls C.prog f args W fun e W'=>∃ v,e = .returned v ∧ s.post enc C.prog fn apart fresh handsOn again W args v W') :
  ReturnsInHanded a C os f .any (fun w args=>(s.pre enc C.prog fn conds apart w args ∧ X w args) ∧ sizedMet enc C.prog fn (OpenSpec.ofChange s) apart w args) (s.post enc C.prog fn apart fresh handsOn again):=by
 refine returnsInHanded_of_calls own started noInit witness ?_
 intro w tape i _ hsh _ hok hpre hholds
 obtain ⟨_,_,_,fn',hfn',_,_,_,_,hval⟩:=hok
 have e : fn' = fn:=Option.some.inj (hfn'.symm.trans hfn)
 subst e
 obtain ⟨⟨⟨ds,gs,before,hw,hc⟩,hx⟩,hz⟩:=hpre
 have hw':=DataW.Whole.of_heap (w':=w.forCall tape i) (by rfl) hw
 refine (contract (w.forCall tape i) w.heap.size i.args ds gs before hval hw' hc (hz.weights hw) (hX _ _ _ (by rfl) hx) hsh).mono fun e W' ⟨v,he,hp⟩=>?_
 subst he
 exact ChangeSpec.post_blind hp
def varsRefB (P : Program) (w : World) : Bool:=
 let w₀:=(begin P (fun _ _=>0) default).world
 (List.range P.globals.size).all fun g=>
  match (w₀.heap[g]?).bind Obj.row? with
  | none=>true
  | some (zero,t)=>
   match w.heap[g]? with
   | some (.cells cs t' frozen)=>decide (t' = t) && decide (frozen = (0,0)) && cs.size == zero.size && (!P.buildable t || Row.okRefB P w t cs)
   | _=>false
theorem shaped_of_refB {P : Program} {w : World} (hv : varsRefB P w = true)
  (hr : (w.heap.toList.drop P.globals.size).take ((begin P (fun _ _=>0) default).world.heap.size - P.globals.size) =
   (begin P (fun _ _=>0) default).world.heap.toList.drop P.globals.size) : w.Shaped P:=by
 refine ⟨fun g zero t hg hz=>?_,fun k h1 h2=>?_⟩
 case refine_2=>
  have:=congrArg (·[k - P.globals.size]?) hr
  simp only [List.getElem?_take,List.getElem?_drop,Array.getElem?_toList] at this
  rw [if_pos tO,Nat.add_sub_cancel' h1] at this
  exact this
 unfold varsRefB at hv
 simp only [List.all_eq_true,List.mem_range] at hv
 have:=hv g hg
 rw [hz] at this
 simp only at this
 split at this
 ·rename_i cs t' fr hw
  simp only [Bool.and_eq_true,decide_eq_true_eq,beq_iff_eq,Bool.or_eq_true,Bool.not_eq_true'] at this
  obtain ⟨⟨⟨rfl,rfl⟩,hs⟩,hb⟩:=this
  refine ⟨cs,hw,hs,fun hbuild=>?_⟩
  rcases hb with hb | hb
  ·rw [hbuild] at hb; cases hb
  ·exact Row.ok_of_okRefB hb
 ·cases this
theorem witness_shaped {C : Checked} {os : Os} {f : FuncId} {fn : Func} {s : ChangeSpec} {conds : List PathCond} {apart : Bool} {X : World → Array Value → Prop} (modest : Bool) (w0 : World) (args : Array Value) (fuel : Nat) (hos : w0.os = os)
  (hsh : (w0.forCall (fun _ _=>0) ⟨#[],args,[]⟩).Shaped C.prog)
  (hok : Input.okWideB C.prog (w0.forCall (fun _ _=>0) ⟨#[],args,[]⟩) f ⟨#[],args,[]⟩ = true)
  (hpre : s.preB enc C.prog fn conds apart (w0.forCall (fun _ _=>0) ⟨#[],args,[]⟩).memory args fuel = true)
  (hsz : s.sizedB enc C.prog fn apart (w0.forCall (fun _ _=>0) ⟨#[],args,[]⟩).memory args fuel = true)
  (hx : X (w0.forCall (fun _ _=>0) ⟨#[],args,[]⟩).memory args) :
  ∃ (w : World) (tape : Tape) (i : Input),w.os = os ∧ (w.forCall tape i).Shaped C.prog ∧ i.vars = [] ∧ Input.okWide C.prog (w.forCall tape i) .any w.heap.size f i ∧
   ((s.pre enc C.prog fn conds apart (w.forCall tape i).memory i.args ∧ X (w.forCall tape i).memory i.args) ∧ sizedMet enc C.prog fn (OpenSpec.ofChange s) apart (w.forCall tape i).memory i.args) ∧ ({ modest:=modest } : Assume).holds C.prog (lone (Frame.enter C.prog f i.args .normal) [] (w.forCall tape i)):=
 ⟨w0,fun _ _=>0,⟨#[],args,[]⟩,hos,hsh,(Input.okWide_of_okWideB (base:=0) hok).1,(Input.okWide_of_okWideB hok).2,⟨⟨ChangeSpec.pre_of_preB hpre,hx⟩,sizedMet_of_sizedB hsz⟩,by
  simp only [Assume.holds]
  exact ⟨by simp,by simp,fun _=>Modest.zero,by simp,by simp⟩⟩
end
end Go.Proofs
