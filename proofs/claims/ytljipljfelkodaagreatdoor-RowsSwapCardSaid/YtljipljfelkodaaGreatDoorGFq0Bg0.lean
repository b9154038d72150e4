/- Several texts of mine in one (Fq0, Zp, Trm, Pre, Bg0). Own work. -/
import Derived.Test.YtljipljfelkodaaGreatDoorGAm30Fp1
import Derived.Test.YtljipljfelkodaaGreatDoorGAm23Am29
import Derived.Test.YtljipljfelkodaaGreatDoorVc
set_option linter.all false
set_option maxRecDepth 20000
namespace Go.AM
abbrev rdB (s : Bs) (p d : Nat) : ABlk:=.box [.str s,zK p,zK d]
abbrev pR (b : Nat) : AV:=.ref b 0 0 0
abbrev wkC (s : Bs) : List AV:=[.str s,.undef,.undef]
abbrev byV (c : UInt8) : AV:=.int .u8 c.toNat
def zEs : AV:=.iface zDJ (.agg [.sca,.iface zQ .undef])
theorem wkSca (k : IntKind) (n : Int) : Wk (.int k n) .sca:=fun _ _ _ _ _ h=>by cases h; exact .sca _ rfl
theorem wkRd (s : Bs) (p d : Nat) : WkL [.str s,zK p,zK d] (wkC s):=.cons (.refl _) (.cons (.undef _) (.cons (.undef _) .nil))
theorem wkFlt (a : Int) (y : AV) : Wk (.iface zDJ (.agg [.int .i64 a,.iface zQ y])) zEs:=.iface (.agg (.cons (wkSca _ _) (.cons (.iface (.undef _)) .nil)))
theorem zCr (s : Bs) (a b : Nat) (h : a ≤ b) (hb : b ≤ s.length) : zAx none (.str s) (some (.int .i64 (a : Int))) (some (.int .i64 (b : Int))) = some (.str (sub s a b)):=by
 simp only [zAx,zCN,aHi,aLo]
 have h1 : ¬ ((a : Int) < 0):=by omega
 have h2 : ¬ ((b : Int) < 0):=by omega
 have e1 : (a : Int).toNat = a:=zMh a
 have e2 : (b : Int).toNat = b:=zMh b
 simp [h1,h2,e1,e2,h,hb,sub,List.drop_take]
theorem zCw (s : Bs) (a : Nat) (h : a ≤ s.length) : zAx none (.str s) (some (.int .i64 (a : Int))) none = some (.str (s.drop a)):=by
 simp only [zAx,zCN,aHi,aLo]
 have h1 : ¬ ((a : Int) < 0):=by omega
 have e1 : (a : Int).toNat = a:=zMh a
 simp [h1,e1,h]
theorem slice_up (s : Bs) (b : Nat) (hb : b ≤ s.length) : zAx none (.str s) none (some (.int .i64 (b : Int))) = some (.str (s.take b)):=by
 simp only [zAx,zCN,aHi,aLo]
 have h2 : ¬ ((b : Int) < 0):=by omega
 have e2 : (b : Int).toNat = b:=zMh b
 simp [h2,e2,hb]
section
variable {C : CSpec} {GT : Nat → Option AV}
theorem fwordly_ev (c : UInt8) (H : Heap) : EFun C GT zCv [byV c] H (.bool (zu c)) H:=by
 obtain ⟨r,hr⟩ : ∃ r,zu c = r:=⟨_,rfl⟩
 rw [hr]
 unfold zu at hr
 have hc : c.toNat < 256:=zM4 c
 change EFun C GT zCv [.int .u8 (c.toNat : Int)] H (.bool r) H
 generalize c.toNat = n at *
 refine zZ ?_
 by_cases h365 : n = 36
 ·have : r = true:=by rw [← hr]; simp; omega
  subst this
  refine zb tT <| zG <| zG <| zG <| zG <| zG ?_
  exact sRr
 by_cases h618 : n < 48
 ·have : r = false:=by rw [← hr]; simp; omega
  subst this
  refine zY tF <| zY tF <| zF <| zF <| zF <| zY tF <| zF <| zF ?_; refine zF <| zY tF <| zF <| zF ?_
  exact sRr
 by_cases h872 : n ≤ 57
 ·have : r = true:=by rw [← hr]; simp; omega
  subst this
  refine zY tF <| zb tT <| zG <| zF <| zb tT <| zG <| zG <| zG ?_
  exact sRr
 by_cases h1125 : n < 65
 ·have : r = false:=by rw [← hr]; simp; omega
  subst this
  refine zY tF <| zb tT <| zG <| zF <| zY tF <| zY tF <| zF <| zF ?_; refine zF <| zY tF <| zF <| zF ?_
  exact sRr
 by_cases h1380 : n ≤ 90
 ·have : r = true:=by rw [← hr]; simp; omega
  subst this
  refine zY tF <| zb tT <| zG <| zF <| zY tF <| zb tT <| zG <| zF ?_; refine zb tT <| zG ?_
  exact sRr
 by_cases h1634 : n < 97
 ·have : r = false:=by rw [← hr]; simp; omega
  subst this
  refine zY tF <| zb tT <| zG <| zF <| zY tF <| zb tT <| zG <| zF ?_; refine zY tF <| zY tF <| zF <| zF ?_
  exact sRr
 by_cases h1889 : n ≤ 122
 ·have : r = true:=by rw [← hr]; simp; omega
  subst this
  refine zY tF <| zb tT <| zG <| zF <| zY tF <| zb tT <| zG <| zF ?_; refine zY tF <| zb tT <| zG <| zF ?_
  exact zGx (v0:=.bool (decide ((n : Int) ≤ 122))) (zML AV.bool (tT).symm) rfl rfl rfl rfl (Old.refl _)
 ·have : r = false:=by rw [← hr]; simp; omega
  subst this
  refine zY tF <| zb tT <| zG <| zF <| zY tF <| zb tT <| zG <| zF ?_; refine zY tF <| zb tT <| zG <| zF ?_
  exact zGx (v0:=.bool (decide ((n : Int) ≤ 122))) (zML AV.bool (tF).symm) rfl rfl rfl rfl (Old.refl _)
theorem ffail_ev (b : Nat) (s : Bs) (p d : Nat) (a : Int) (e : Int) (H : Heap) (hb : H[b]? = some (rdB s p d)) : zB3 C GT zCB [pR b,.int .i64 a,zGl e] H b (wkC s) zEs none:=by
 refine zz ?_; refine zl (v:=[.int .i64 a,zGl e]) rfl ?_
 exact sPanO (by first | rfl | assumption) rfl rfl rfl (OldB.start hb) rfl (by first | exact WkL.refl _ | exact wkRd _ _ _) (by first | exact Wk.refl _ | exact wkFlt _ _)
theorem blanks_ev (b : Nat) (s : Bs) (p d : Nat) (H : Heap) (hb : H[b]? = some (rdB s p d)) (hp : p ≤ s.length) (hl : s.length ≤ 200) :
  zB3 C GT zBq [pR b] H b (wkC s) zEs (some (.tup [],rdB s (skip s p) d)):=by
 obtain ⟨q,hq⟩ : ∃ q,skip s p = q:=⟨_,rfl⟩
 rw [hq]
 refine zz ?_; refine zBm (fun k : Nat=>[(0,pR b)]) (fun k H'=>H' = H.set b (rdB s k d) ∧ k ≤ s.length ∧ skip s k = q) (fun k=>s.length - k) p rfl ⟨(zKh hb).symm,hp,hq⟩ (fun k H1 ⟨e,hk,hs⟩=>?_)
 subst e
 by_cases hlt : k < s.length
 ·obtain ⟨c,hc⟩ : ∃ c,s[k]? = some c:=⟨_,zLy hlt⟩
  refine zD (zK k) (zE hb) rfl <| zD (AV.str s) (zE hb) rfl <| zb tT <| zD (AV.str s) (zE hb) rfl <| zD (zK k) (zE hb) rfl <| zr rfl hc ?_; refine zG ?_
  by_cases h32 : c = 32
  ·subst h32
   rw [zJe hc] at hs
   refine zG <| zD (zK k) (zE hb) rfl <| zN (r:=k + 1) rfl tO <| zH (v:=.int .i64 ↑(k + 1)) [AV.str s,.int .i64 ↑(k + 1),zK d] (zE hb) rfl rfl rfl rfl ?_
   exact zAU (k + 1) rfl ⟨zOB ..,by omega,hs⟩ tO
  ·rw [zDR (by rw [hc]; intro h; exact h32 (zMI h))] at hs
   subst hs
   have h33 : c.toNat ≠ 32:=fun h=>h32 (zME.1 h)
   refine zY tN ?_
   exact zGf _ (by first | rfl | assumption) rfl rfl rfl rfl ((OldB.start hb).setB _) rfl
 ·rw [zDR (by rw [zMo tO]; simp)] at hs
  subst hs
  refine zD (zK k) (zE hb) rfl <| zD (AV.str s) (zE hb) rfl <| zY tF <| zF <| zF ?_
  exact zGf _ (by first | rfl | assumption) rfl rfl rfl rfl ((OldB.start hb).setB _) rfl
theorem word_ev (hW : ∀ c H,C zAQ [byV c] H (.bool (zu c)) H) (b : Nat) (s : Bs) (p d : Nat) (H : Heap) (hb : H[b]? = some (rdB s p d)) (hp : p ≤ s.length) (hl : s.length ≤ 200) :
  zB3 C GT zCE [pR b] H b (wkC s) zEs (some (.str (sub s p (zB5 s p)),rdB s (zB5 s p) d)):=by
 obtain ⟨q,hq⟩ : ∃ q,zB5 s p = q:=⟨_,rfl⟩
 have hpq:=zIA s p
 have hql:=zHC hp
 rw [hq] at hpq hql ⊢
 refine zz ?_; refine zD (zK p) hb rfl ?_; refine zBm (fun k : Nat=>[(0,pR b),(3,zK p)]) (fun k H'=>H' = H.set b (rdB s k d) ∧ k ≤ s.length ∧ zB5 s k = q) (fun k=>s.length - k) p rfl ⟨(zKh hb).symm,hp,hq⟩ (fun k H1 ⟨e,hk,hs⟩=>?_)
 subst e
 dsimp only
 by_cases hlt : k < s.length
 ·obtain ⟨c,hc⟩ : ∃ c,s[k]? = some c:=⟨_,zLy hlt⟩
  have hw:=hW c
  by_cases hwc : zu c = true
  ·rw [zFf hc hwc] at hs
   rw [hwc] at hw
   clear hW
   refine zD (zK k) (zE hb) rfl <| zD (AV.str s) (zE hb) rfl <| zb tT <| zD (AV.str s) (zE hb) rfl <| zD (zK k) (zE hb) rfl <| zr rfl hc ?_; refine zL (hw _) <| zG <| zG <| zD (zK k) (zE hb) rfl <| zN (r:=k + 1) rfl tO <| zH (v:=.int .i64 ↑(k + 1)) [AV.str s,.int .i64 ↑(k + 1),zK d] (zE hb) rfl rfl rfl rfl ?_
   exact zAU (k + 1) rfl ⟨zOB ..,by omega,hs⟩ tO
  ·have hwc:=zMe.2 hwc
   rw [zFg (fun c' h=>by rw [hc] at h; cases h; exact hwc)] at hs
   subst hs
   rw [hwc] at hw
   clear hW
   refine zD (zK k) (zE hb) rfl <| zD (AV.str s) (zE hb) rfl <| zb tT <| zD (AV.str s) (zE hb) rfl <| zD (zK k) (zE hb) rfl <| zr rfl hc ?_; refine zL (hw _) <| zG <| zF <| zD (AV.str s) (zE hb) rfl <| zD (zK k) (zE hb) rfl <| zl (v:=.str (sub s p k)) (zCr s p k tO tO) ?_
   exact zGf _ (by first | rfl | assumption) rfl rfl rfl rfl ((OldB.start hb).setB _) rfl
 ·rw [zFg (fun c' h=>by rw [zMo tO] at h; cases h)] at hs
  subst hs
  clear hW
  refine zD (zK k) (zE hb) rfl <| zD (AV.str s) (zE hb) rfl <| zY tF <| zF <| zF <| zD (AV.str s) (zE hb) rfl ?_; refine zD (zK k) (zE hb) rfl <| zl (v:=.str (sub s p k)) (zCr s p k tO tO) ?_
  exact zGf _ (by first | rfl | assumption) rfl rfl rfl rfl ((OldB.start hb).setB _) rfl
end
end Go.AM
namespace Go.AM
theorem sP {P : Prop} (h : P:=by exact sPanO (by first | rfl | assumption) rfl rfl rfl hO rfl (by first | exact WkL.refl _ | exact wkRd _ _ _) (by first | exact Wk.refl _ | exact wkFlt _ _)) : P:=h
end Go.AM
set_option maxRecDepth 20000
namespace Go.AM
def zHf (g : Nat → Bool) : List AV:=rowF 256 (fB g)
def zGo (cs : Bs) (i : Nat) : Bool:=cs.any fun c=>c.toNat == i
def zKW (s cs : Bs) : Bs:=(s.reverse.dropWhile (fun c=>zGo cs c.toNat)).reverse
def trimS (s cs : Bs) : Bs:=(zKW s cs).dropWhile (fun c=>zGo cs c.toNat)
theorem splice_one {cs : List AV} {o : Nat} {v : AV} (h : o < cs.length) : splice cs o [v] = cs.set o v:=by
 unfold splice
 rw [List.set_eq_take_append_cons_drop,zLx h]
 simp
theorem zEt (g : Nat → Bool) : (zHf g).length = 256:=rowF_len _ _
theorem setV_get {g : Nat → Bool} {i : Nat} (h : i < 256) : (zHf g)[i]? = some (.bool (g i)):=rowF_get h
theorem setV_step {cs : Bs} {k : Nat} {c : UInt8} (h : cs[k]? = some c) : splice (zHf (zGo (cs.take k))) c.toNat [.bool true] = zHf (zGo (cs.take (k + 1))):=by
 have hc : c.toNat < 256:=zM4 c
 rw [splice_one (by rw [zEt]; exact hc)]
 unfold zHf
 rw [rowF_set]
 refine rowF_congr fun i hi=>?_
 obtain ⟨h1,h2⟩:=zg h
 have e : cs.take (k + 1) = cs.take k ++ [c]:=by rw [zNQ h1,h2]
 unfold upd fB zGo
 rw [e,List.any_append]
 by_cases he : i = c.toNat
 ·subst he; simp
 ·rw [zLv he]; simp [zMq he]
theorem off0 {cs cs' : List AV} {n : Nat} {v : List AV} (h : splice cs n v = cs') : splice cs (0 + ((n : Int)).toNat * 1) v = cs':=by
 have e : 0 + ((n : Int)).toNat * 1 = n:=by omega
 rw [e]; exact h
theorem part_all (g : Nat → Bool) : part (zHf g) 0 256 true = some (.agg (zHf g)):=by
 simp only [part,zMR,zEt,zOD]
 rw [zMZ (by rw [zEt]; exact zL0 _)]
 simp
theorem setV_frz (n : Nat) (g : Nat → Bool) (b : Bool) (H : Heap) : zDq n (.tup [.agg (zHf g),.bool b]) H = some (.tup [.agg (zHf g),.bool b],H):=by
 have h : ∀ l : List Nat,zJH n (l.map fun i=>AV.bool (g i)) H = some (l.map fun i=>AV.bool (g i),H):=by
  intro l
  induction l with
  | nil=>rfl
  | cons x l ih=>simp only [zL8,zJH,zDq,ih]
 have h2 : zJH n (List.map (fB g) (List.range 256)) H = some (List.map (fB g) (List.range 256),H):=h (List.range 256)
 simp only [zDq,zJH,zHf,rowF,h2]
theorem setV_bel (n : Nat) (g : Nat → Bool) (b : Bool) : (AV.tup [.agg (zHf g),.bool b]).bel n = true:=by
 have h : AV.belL n (zHf g) = true:=by
  rw [AV.belL_iff]
  intro c hc
  unfold zHf rowF fB at hc
  obtain ⟨i,_,rfl⟩:=zNI.1 hc
  rfl
 simp [AV.bel,AV.belL,h]
section
variable {C : CSpec} {GT : Nat → Option AV}
theorem contains_ev (b : Nat) (g : Nat → Bool) (c : UInt8) (H : Heap) (hb : H[b]? = some (.box (zHf g))) : EFun C GT zAy [pR b,byV c] H (.bool (g c.toNat)) H:=by
 have hc : c.toNat < 256:=zM4 c
 refine zZ ?_; refine zFp ⟨by omega,by omega⟩ <| zD (.bool (g c.toNat)) hb (by simpa [part] using setV_get hc) ?_
 exact sRr
theorem mkSet_ev (cs : Bs) (H : Heap) (hcs : ∀ c ∈ cs,c.toNat < 128) (hl : cs.length ≤ 1000) : EFun C GT zCF [.str cs] H (.tup [.agg (zHf (zGo cs)),.bool true]) H:=by
 refine zZ ?_; refine zBm (fun k : Nat=>[(2,pR H.length),(4,zK k),(0,.str cs)]) (fun k H'=>H' = H ++ [.box (zHf (zGo (cs.take k)))] ∧ k ≤ cs.length) (fun k=>cs.length - k) 0 rfl ⟨rfl,zMm _⟩ (fun k H1 ⟨e,hk⟩=>?_)
 subst e
 by_cases hlt : k < cs.length
 ·obtain ⟨c,hc⟩ : ∃ c,cs[k]? = some c:=⟨_,zLy hlt⟩
  have h128:=hcs c (zMH hc)
  have hst:=setV_step hc
  refine zb tT <| zr rfl hc <| zY tF <| zFp ⟨by omega,by omega⟩ <| zH (v:=.bool true) (zHf (zGo (cs.take (k + 1)))) zB rfl rfl (Nat.ble_eq_true_of_le (by rw [zEt]; omega)) (off0 hst) <| zN (r:=k + 1) rfl tO ?_; refine zAU (k + 1) rfl ⟨?_,by omega⟩ tO
  rw [zNc _ _ (zL0 _),Nat.sub_self]; rfl
 ·have : k = cs.length:=by omega
  subst this
  rw [zOI]
  refine zY tF <| zD (.agg (zHf (zGo cs))) zB (part_all _) <| zH (v:=.agg (zHf (zGo cs))) (zHf (zGo cs)) zB (zEt _) rfl rfl (by simp [splice,AV.cells,zEt]) ?_
  exact zP (o:=0) rfl rfl (zJ (zE zB)) (part_all _) rfl (setV_frz _ _ _ _) (setV_bel _ _ _) ((Old.push (Old.refl _) _).set (zL0 _) _)
theorem trimR_ev (hC : ∀ b g c H,H[b]? = some (.box (zHf g)) → C zm [pR b,byV c] H (.bool (g c.toNat)) H) (s cs : Bs) (b : Nat) (H : Heap) (hb : H[b]? = some (.box (zHf (zGo cs)))) (hl : s.length ≤ 1000) :
  EFun C GT zBt [.str s,pR b] H (.str (zKW s cs)) H:=by
 obtain ⟨r,hr⟩ : ∃ r,zKW s cs = r:=⟨_,rfl⟩
 rw [hr]
 refine zZ ?_; refine zBm (fun t : Bs=>[(0,.str t),(1,pR b)]) (fun t H'=>H' = H ∧ t.length ≤ 1000 ∧ zKW t cs = r) (fun t=>t.length) s rfl ⟨rfl,hl,hr⟩ (fun t H1 ⟨e,htl,ht⟩=>?_)
 subst e
 by_cases h0 : t = []
 ·subst h0
  unfold zKW at ht
  simp only [List.reverse_nil,List.dropWhile_nil] at ht
  subst ht
  refine zY (tF (by simp)) ?_
  exact sRr
 ·obtain ⟨u,c,rfl⟩ : ∃ u c,t = u ++ [c]:=⟨t.dropLast,t.getLast h0,(List.dropLast_concat_getLast h0).symm⟩
  have hlen : (u ++ [c]).length = u.length + 1:=by simp
  have hg : (u ++ [c])[u.length]? = some c:=by simp
  have hcc:=hC b (zGo cs) c H1 hb
  unfold zKW at ht
  rw [List.reverse_append,List.reverse_singleton,zNG,zN5] at ht
  by_cases hc : zGo cs c.toNat = true
  ·rw [zLx hc] at ht
   rw [hc] at hcc
   clear hC
   refine zb tT <| zN (r:=u.length) tO tO <| zr rfl hg <| zL (hcc) <| zF <| zN (r:=u.length) tO tO ?_; refine zl (v:=.str ((u ++ [c]).take u.length)) (slice_up _ _ tO) ?_; refine zAU u ?_ ⟨rfl,by omega,ht⟩ tO
   rw [List.take_left]; rfl
  ·have hc:=zMe.2 hc
   rw [hc] at hcc ht
   simp only [zL5,zMP,List.reverse_cons,List.reverse_reverse] at ht
   subst ht
   clear hC
   refine zb tT <| zN (r:=u.length) tO tO <| zr rfl hg <| zL (hcc) <| zG ?_
   exact sRr
theorem trimL_ev (hC : ∀ b g c H,H[b]? = some (.box (zHf g)) → C zm [pR b,byV c] H (.bool (g c.toNat)) H) (s cs : Bs) (b : Nat) (H : Heap) (hb : H[b]? = some (.box (zHf (zGo cs)))) (hl : s.length ≤ 1000) :
  EFun C GT zB2 [.str s,pR b] H (.str (s.dropWhile fun c=>zGo cs c.toNat)) H:=by
 obtain ⟨r,hr⟩ : ∃ r,(s.dropWhile fun c=>zGo cs c.toNat) = r:=⟨_,rfl⟩
 rw [hr]
 refine zZ ?_; refine zBm (fun t : Bs=>[(0,.str t),(1,pR b)]) (fun t H'=>H' = H ∧ t.length ≤ 1000 ∧ (t.dropWhile fun c=>zGo cs c.toNat) = r) (fun t=>t.length) s rfl ⟨rfl,hl,hr⟩ (fun t H1 ⟨e,htl,ht⟩=>?_)
 subst e
 cases t with
 | nil=>
  simp only [List.dropWhile_nil] at ht
  subst ht
  refine zY (tF (by simp)) ?_
  exact sRr
 | cons c u=>
  have hcc:=hC b (zGo cs) c H1 hb
  rw [zN5] at ht
  have hlen : (c :: u).length = u.length + 1:=zLw
  by_cases hc : zGo cs c.toNat = true
  ·rw [zLx hc] at ht
   rw [hc] at hcc
   clear hC
   refine zb tT <| zr (i:=0) rfl rfl <| zL (hcc) <| zF <| zl (v:=.str ((c :: u).drop 1)) (zCw _ 1 tO) ?_
   exact zAU u rfl ⟨rfl,by omega,ht⟩ tO
  ·have hc:=zMe.2 hc
   rw [hc] at hcc ht
   simp only [zL5,zMP] at ht
   subst ht
   clear hC
   refine zb tT <| zr (i:=0) rfl rfl <| zL (hcc) <| zG ?_
   exact sRr
theorem dropW_nil (p : UInt8 → Bool) : ∀ l : Bs,(l.dropWhile p = []) ↔ l.all p = true
 | []=>by simp
 | c :: r=>by
  rw [zN5,zNK]
  by_cases h : p c = true
  ·rw [zLx h,h,zM7]; exact dropW_nil p r
  ·have h:=zMe.2 h
   rw [h]; simp
theorem dropW_all (p : UInt8 → Bool) : ∀ l : Bs,(l.dropWhile p).all p = l.all p
 | []=>rfl
 | c :: r=>by
  rw [zN5]
  by_cases h : p c = true
  ·rw [zLx h,zNK,h,zM7]; exact dropW_all p r
  ·have h:=zMe.2 h
   rw [h]; simp
theorem trim_nil (s cs : Bs) : (trimS s cs = []) ↔ s.all (fun c=>zGo cs c.toNat) = true:=by
 unfold trimS zKW
 rw [dropW_nil,List.all_reverse,dropW_all,List.all_reverse]
theorem trim_ev' (hM : ∀ cs H,(∀ c ∈ cs,c.toNat < 128) → cs.length ≤ 1000 → C zAp [.str cs] H (.tup [.agg (zHf (zGo cs)),.bool true]) H)
  (hR : ∀ s cs b H,H[b]? = some (.box (zHf (zGo cs))) → s.length ≤ 1000 → C zAZ [.str s,pR b] H (.str (zKW s cs)) H)
  (hL : ∀ s cs b H,H[b]? = some (.box (zHf (zGo cs))) → s.length ≤ 1000 → C zAg [.str s,pR b] H (.str (s.dropWhile fun c=>zGo cs c.toNat)) H)
  (s cs : Bs) (H : Heap) (hcs : ∀ c ∈ cs,c.toNat < 128) (hc2 : 2 ≤ cs.length) (hcl : cs.length ≤ 1000) (hl : s.length ≤ 1000) : EFun C GT zE5 [.str s,.str cs] H (.str (trimS s cs)) H:=by
 refine zZ ?_
 have hne : cs ≠ []:=fun e=>by subst e; simp at hc2
 have hml:=hM cs H hcs hcl
 have hle : (zKW s cs).length ≤ s.length:=by
  unfold zKW
  rw [zOT]
  have:=(List.dropWhile_suffix (l:=s.reverse) (fun c=>zGo cs c.toNat)).length_le
  rwa [zOT] at this
 by_cases h0 : s = []
 ·subst h0
  refine zG <| zG <| zG ?_
  exact sRr
 have hst : ∀ (H : Heap),H[H.length]? = none:=fun H=>by simp
 have hrr:=hR s cs H.length
 have hll:=hL (zKW s cs) cs H.length
 clear hM hR hL
 refine zY (tN h0) <| zF <| zY (tN hne) <| zY tN <| zF <| zF ?_; refine zL (hml) <| zl rfl <| zl rfl <| zH (v:=.agg (zHf (zGo cs))) (zHf (zGo cs)) zB (zEt _) rfl rfl (by simp [splice,AV.cells,zEt]) <| zG <| zL (hrr _ (zE zB) hl) ?_; refine zL (hll _ (zE zB) tO) ?_
 exact zBW rfl rfl rfl rfl (((Old.refl _).push _).set (by first | assumption | exact zL0 _ | simp | omega) _)
end
end Go.AM
namespace Go.AM
theorem slice_to' (s : List UInt8) (n : Nat) (h : n ≤ s.length) : zAx none (.str s) none (some (.int .i64 (n : Int))) = some (.str (s.take n)):=by
 simp only [zAx,zCN,aHi,aLo]
 rw [zLx ⟨by omega,by omega⟩]
 simp
theorem zD6 : ∀ (p s : List UInt8),p.isPrefixOf s = (decide (p.length ≤ s.length) && (s.take p.length == p))
 | [],s=>by simp
 | a :: p,[]=>by simp
 | a :: p,b :: s=>by
  simp only [List.isPrefixOf,zD6 p s,zLw,List.take_succ_cons]
  rw [zNp]
  simp only [zLu,zMO,zMF,zM5]
  constructor
  ·rintro ⟨h1,h2,h3⟩; exact ⟨by omega,h1.symm,h3⟩
  ·rintro ⟨h1,h2,h3⟩; exact ⟨h2.symm,by omega,h3⟩
section
variable {C : CSpec} {GT : Nat → Option AV}
theorem sl_prefix_ev (s p : List UInt8) (H : Heap) : EFun C GT zB1 [.str s,.str p] H (.bool (p.isPrefixOf s)) H:=by
 refine zDh (fun h=>?_) (fun h=>?_)
 ·have h : p.length ≤ s.length:=by
   have:=zMb h
   omega
  have e : p.isPrefixOf s = (s.take p.length == p):=by rw [zD6,zMM h,zM7]
  rw [e]
  refine zl (slice_to' s p.length h) <| zG ?_
  exact sRr
 ·have h : ¬ p.length ≤ s.length:=by
   have:=zMf h
   omega
  have e : p.isPrefixOf s = false:=by rw [zD6,zMV h,zNM]
  rw [e]
  refine zF ?_
  exact sRr
theorem prefix_ev (hS : ∀ s p H,C zAF [.str s,.str p] H (.bool (p.isPrefixOf s)) H) (s p : List UInt8) (H : Heap) : EFun C GT zCz [.str s,.str p] H (.bool (p.isPrefixOf s)) H:=by
 refine zL (hS s p H) ?_
 exact sRr
end
end Go.AM
namespace Go.AM
def zDC (n : Int) : Prop:=-9223372036854775808 ≤ n ∧ n ≤ 9223372036854775807
instance (n : Int) : Decidable (zDC n):=by unfold zDC; exact inferInstance
def wdsF : Nat → Nat → List Nat
 | 0,_=>[]
 | f + 1,n=>if n = 0 then [] else (n % 4294967296) :: wdsF f (n / 4294967296)
def wds (n : Nat) : List Nat:=wdsF n n
def wval : List Nat → Nat
 | []=>0
 | w :: ws=>w + 4294967296 * wval ws
def Small (ws : List Nat) : Prop:=∀ w ∈ ws,w < 4294967296
theorem wdsF_fuel : ∀ f g n,n ≤ f → n ≤ g → wdsF f n = wdsF g n
 | 0,0,_,_,_=>rfl
 | 0,g + 1,n,h,_=>by
  have : n = 0:=by omega
  subst this; rfl
 | f + 1,0,n,_,h=>by
  have : n = 0:=by omega
  subst this; rfl
 | f + 1,g + 1,n,h,k=>by
  simp only [wdsF]
  split
  ·rfl
  ·rw [wdsF_fuel f g (n / 4294967296) tO tO]
theorem zDd : wds 0 = []:=rfl
theorem zC4 {n : Nat} (h : n ≠ 0) : wds n = (n % 4294967296) :: wds (n / 4294967296):=by
 unfold wds
 obtain ⟨m,rfl⟩ : ∃ m,n = m + 1:=⟨n - 1,by omega⟩
 rw [wdsF,zLv h,wdsF_fuel m ((m + 1) / 4294967296) _ tO (zL0 _)]
theorem zDe (n : Nat) : wval (wds n) = n:=by
 induction n using Nat.strongRecOn with
 | ind n ih=>
  by_cases h : n = 0
  ·subst h; rfl
  ·rw [zC4 h,wval,ih _ tO]; omega
theorem zBe (n : Nat) : Small (wds n):=by
 induction n using Nat.strongRecOn with
 | ind n ih=>
  by_cases h : n = 0
  ·subst h; intro w hw; cases hw
  ·rw [zC4 h]
   intro w hw
   rcases zNP.1 hw with rfl | hw
   ·omega
   ·exact ih _ tO w hw
theorem wds_cons {w : Nat} {v : Nat} (hw : w < 4294967296) (h : w ≠ 0 ∨ v ≠ 0) : wds (w + 4294967296 * v) = w :: wds v:=by
 rw [zC4 tO]
 have e1 : (w + 4294967296 * v) % 4294967296 = w:=by omega
 have e2 : (w + 4294967296 * v) / 4294967296 = v:=by omega
 rw [e1,e2]
theorem wds_pad : ∀ ws : List Nat,Small ws → ∃ k,ws = wds (wval ws) ++ List.replicate k 0
 | [],_=>⟨0,rfl⟩
 | w :: ws,h=>by
  obtain ⟨k,hk⟩:=wds_pad ws fun x hx=>h x (zNL _ hx)
  have hw:=h w (by simp)
  by_cases hz : w = 0 ∧ wval ws = 0
  ·refine ⟨k + 1, ?_⟩
   rw [wval,hz.1,hz.2]
   rw [hz.2] at hk
   simp only [Nat.mul_zero,zNj,zDd,zM1] at hk ⊢
   rw [zN6,← hk]
  ·refine ⟨k, ?_⟩
   rw [wval,wds_cons hw tO,zNi,← hk]
theorem wds_take {ws : List Nat} (h : Small ws) : (wds (wval ws)).length ≤ ws.length ∧ ws.take (wds (wval ws)).length = wds (wval ws):=by
 obtain ⟨k,hk⟩:=wds_pad ws h
 constructor
 ·conv=>rhs; rw [hk]
  simp
 ·conv=>lhs; rw [hk]
  have : wval (wds (wval ws) ++ List.replicate k 0) = wval ws:=by rw [← hk]
  rw [this]
  simp
theorem wds_val {ws : List Nat} (h : Small ws) (hl : ∀ w,ws.getLast? = some w → w ≠ 0) : wds (wval ws) = ws:=by
 obtain ⟨k,hk⟩:=wds_pad ws h
 cases k with
 | zero=>rw [zOU,List.append_nil] at hk; exact hk.symm
 | succ k=>
  exfalso
  refine hl 0 ?_ rfl
  rw [hk,List.replicate_succ',← List.append_assoc,List.getLast?_append]
  simp
theorem zGD : ∀ xs ys : List Nat,wval (xs ++ ys) = wval xs + 4294967296 ^ xs.length * wval ys
 | [],ys=>by simp [wval]
 | x :: xs,ys=>by
  simp only [zNi,wval,zGD xs ys,zLw]
  rw [zN3,← Nat.mul_assoc,zMp,zNC (4294967296 ^ xs.length) 4294967296]
  omega
theorem zDT (xs : List Nat) (y : Nat) : wval (xs ++ [y]) = wval xs + 4294967296 ^ xs.length * y:=by
 rw [zGD]; simp [wval]
theorem zCs {ws : List Nat} {i : Nat} (h : i < ws.length) : wval (ws.take (i + 1)) = wval (ws.take i) + 4294967296 ^ i * ws[i]:=by
 rw [zNQ h,zDT,zMA,zNb tO]
theorem wval_lt : ∀ {ws : List Nat},Small ws → wval ws < 4294967296 ^ ws.length
 | [],_=>by simp [wval]
 | w :: ws,h=>by
  have h1:=h w (by simp)
  have h2:=wval_lt (ws:=ws) fun x hx=>h x (zNL _ hx)
  simp only [wval,zLw]
  rw [zMp,zNC (4294967296 ^ ws.length) 4294967296]
  omega
theorem wds_ge : ∀ (n : Nat),n ≠ 0 → 4294967296 ^ ((wds n).length - 1) ≤ n:=by
 intro n
 induction n using Nat.strongRecOn with
 | ind n ih=>
  intro h
  rw [zC4 h,zLw,zMw]
  by_cases h2 : n / 4294967296 = 0
  ·rw [h2]; simp [zDd]; omega
  ·have h3:=ih _ tO h2
   have h4 : (wds (n / 4294967296)).length ≠ 0:=by rw [zC4 h2]; simp
   obtain ⟨m,hm⟩ : ∃ m,(wds (n / 4294967296)).length = m + 1:=⟨(wds (n / 4294967296)).length - 1,by omega⟩
   rw [hm] at h3 ⊢
   simp only [zMw] at h3
   rw [zMp]
   omega
theorem wds_lt (n : Nat) : n < 4294967296 ^ (wds n).length:=by
 have:=wval_lt (zBe n); rwa [zDe] at this
theorem zJg {a b : Nat} (h : (wds a).length < (wds b).length) : a < b:=by
 have hb : b ≠ 0:=fun e=>by subst e; simp [zDd] at h
 have h1:=wds_lt a
 have h2:=wds_ge b hb
 have h3 : 4294967296 ^ (wds a).length ≤ 4294967296 ^ ((wds b).length - 1):=zMz tO tO
 omega
theorem wds_len_mono {a b : Nat} (h : a ≤ b) : (wds a).length ≤ (wds b).length:=by
 rcases zNJ (wds b).length (wds a).length with h2 | h2
 ·have:=zJg h2; omega
 ·exact h2
theorem cmp_top {xs ys : List Nat} (hx : Small xs) (hy : Small ys) (hl : xs.length = ys.length) {i : Nat} (hi : i < xs.length) (he : xs.drop (i + 1) = ys.drop (i + 1)) (hlt : xs[i] < ys[i]'tO) : wval xs < wval ys:=by
 have h1 : xs = xs.take i ++ xs[i] :: xs.drop (i + 1):=by rw [zNs,zOL]
 have h2 : ys = ys.take i ++ ys[i]'tO :: ys.drop (i + 1):=by rw [zNs,zOL]
 have g1 : wval xs = wval (xs.take i) + 4294967296 ^ i * (xs[i] + 4294967296 * wval (xs.drop (i + 1))):=by
  conv=>lhs; rw [h1]
  rw [zGD,zMA,zNb tO,wval]
 have g2 : wval ys = wval (ys.take i) + 4294967296 ^ i * (ys[i]'tO + 4294967296 * wval (ys.drop (i + 1))):=by
  conv=>lhs; rw [h2]
  rw [zGD,zMA,zNb tO,wval]
 have g3 : wval (xs.take i) < 4294967296 ^ i:=by
  have:=wval_lt (ws:=xs.take i) fun w hw=>hx w (zNB hw)
  rwa [zMA,zNb tO] at this
 rw [g1,g2,he]
 have g4 : 4294967296 ^ i * (xs[i] + 4294967296 * wval (ys.drop (i + 1)) + 1) ≤ 4294967296 ^ i * (ys[i]'tO + 4294967296 * wval (ys.drop (i + 1))):=Nat.mul_le_mul_left _ tO
 rw [zN3,zOX] at g4
 omega
def bitsF : Nat → Nat → Nat
 | 0,_=>0
 | f + 1,n=>if n = 0 then 0 else bitsF f (n / 2) + 1
def bits (n : Nat) : Nat:=bitsF n n
theorem bitsF_fuel : ∀ f g n,n ≤ f → n ≤ g → bitsF f n = bitsF g n
 | 0,0,_,_,_=>rfl
 | 0,g + 1,n,h,_=>by
  have : n = 0:=by omega
  subst this; rfl
 | f + 1,0,n,_,h=>by
  have : n = 0:=by omega
  subst this; rfl
 | f + 1,g + 1,n,h,k=>by
  simp only [bitsF]
  split
  ·rfl
  ·rw [bitsF_fuel f g (n / 2) tO tO]
theorem zKi {n : Nat} (h : n ≠ 0) : bits n = bits (n / 2) + 1:=by
 unfold bits
 obtain ⟨m,rfl⟩ : ∃ m,n = m + 1:=⟨n - 1,by omega⟩
 rw [bitsF,zLv h,bitsF_fuel m ((m + 1) / 2) _ tO (zL0 _)]
theorem bits_le (k : Nat) : ∀ n,bits n ≤ k ↔ n < 2 ^ k:=by
 induction k with
 | zero=>
  intro n
  by_cases h : n = 0
  ·subst h; simp [bits,bitsF]
  ·rw [zKi h]; simp; omega
 | succ k ih=>
  intro n
  by_cases h : n = 0
  ·subst h; simp [bits,bitsF]; exact Nat.two_pow_pos _
  ·rw [zKi h,zMp]
   have:=ih (n / 2)
   constructor
   ·intro h2
    have:=this.1 tO
    omega
   ·intro h2
    have:=this.2 tO
    omega
end Go.AM
