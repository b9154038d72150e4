/- Several texts of mine in one (Rfg, Rfh, Rfi, Gq, Be1). Own work. -/
import Derived.Test.YtaohficjbicfgaaGreatDoorGRfcChk
import Derived.Test.YtaohficjbicfgaaGreatDoorLdQ3
import Derived.Test.YtaohficjbicfgaaGreatDoorGRf5Rf3
import Derived.Test.YtaohficjbicfgaaGreatDoorGAm23Am29
set_option linter.all false
set_option maxRecDepth 20000
namespace Go.AM
theorem cmpC_less (a b : Fil) : zE1 a b = if a.row ≠ b.row then decide (a.row < b.row) else decide (a.col < b.col):=by
 unfold zE1 cmpC cmp3
 by_cases h1 : a.row < b.row
 ·have h2 : a.row ≠ b.row:=by omega
  simp [h1,h2]
 ·by_cases h2 : b.row < a.row
  ·have h3 : a.row ≠ b.row:=by omega
   simp [h1,h2,h3]
  ·have h3 : a.row = b.row:=by omega
   by_cases h4 : a.col < b.col
   ·simp [h3,h4]
   ·by_cases h5 : b.col < a.col
    ·simp [h3,h4,h5]
    ·simp [h3,h4,h5]
theorem zCO {F : AF} {a s t1 t2 : Nat} {ag : Bool} {H H1 : Heap} {fr : Fr} {v v1 v2 : AV} {cs : List AV} {o : Nat} (hF : F.results = [.cell a s ag,.tmp t1,.tmp t2]) (hk : F.keep = false) (hp : z6 H1 (getF fr a) = some (cs,o)) (hpt : part cs o s ag = some v) (ht1 : getF fr t1 = v1) (ht2 : getF fr t2 = v2)
  (hf : zDo H.length (.tup [v,v1,v2]) H1 = some (.tup [v,v1,v2],H1)) (hb : (AV.tup [v,v1,v2]).bel H.length = true) (ho : Old H H1) : retP F H fr H1 (.tup [v,v1,v2]) H:=by
 refine zc hk ?_ hf hb ho
 rw [zFd] at hp ht1 ht2
 simp only [hF,zBo,zKD,hp,hpt,ht1,ht2,Option.map_some]
 rfl
section
variable {C : CSpec} {GT : Nat → Option AV}
theorem rin_ev (c r : Int) (H : Heap) : EFun C GT zGd [zBH c r] H (.bool (okC c r)) H:=by
 refine zf ?_
 unfold okC
 by_cases h1 : 1 ≤ c
 ·rw [decide_eq_true h1]
  by_cases h2 : c ≤ 26
  ·rw [decide_eq_true h2]
   by_cases h3 : 1 ≤ r
   ·rw [decide_eq_true h3]
    refine zDl (x:=zBH c r) rfl ?_; refine zB (zK c) zC rfl ?_; refine zP tT ?_; refine zB (zK c) zC rfl ?_; refine zH <| zP tT ?_; refine zB (zK r) zC rfl ?_; refine zH <| zP tT ?_; refine zB (zK r) zC rfl ?_; refine zH ?_
    exact zc rfl rfl rfl rfl ((Old.refl _).push _)
   ·rw [decide_eq_false h3]
    refine zDl (x:=zBH c r) rfl ?_; refine zB (zK c) zC rfl ?_; refine zP tT ?_; refine zB (zK c) zC rfl ?_; refine zH <| zP tT ?_; refine zB (zK r) zC rfl ?_; refine zH <| zN tF <| zG ?_
    exact zc rfl rfl rfl rfl ((Old.refl _).push _)
  ·rw [decide_eq_false h2]
   refine zDl (x:=zBH c r) rfl ?_; refine zB (zK c) zC rfl ?_; refine zP tT ?_; refine zB (zK c) zC rfl ?_; refine zH <| zN tF <| zG <| zG <| zG ?_
   exact zc rfl rfl rfl rfl ((Old.refl _).push _)
 ·rw [decide_eq_false h1]
  refine zDl (x:=zBH c r) rfl ?_; refine zB (zK c) zC rfl ?_; refine zN tF <| zG <| zG <| zG <| zG <| zG ?_
  exact zc rfl rfl rfl rfl ((Old.refl _).push _)
theorem rahead_ev (a b : Fil) (H : Heap) : EFun C GT zD3 [zBH a.col a.row,zBH b.col b.row] H (.bool (zE1 a b)) H:=by
 rw [cmpC_less]
 refine zf ?_
 by_cases h : a.row ≠ b.row
 ·rw [if_pos h]
  refine zDl (x:=zBH a.col a.row) rfl ?_; refine zDl (x:=zBH b.col b.row) rfl ?_; refine zB (zK a.row) (zD zC) rfl ?_; refine zB (zK b.row) zC rfl ?_; refine zP (bne_iff_ne.2 h) ?_; refine zB (zK a.row) (zD zC) rfl ?_; refine zB (zK b.row) zC rfl ?_
  exact zc rfl rfl rfl rfl (((Old.refl _).push _).push _)
 ·rw [if_neg h]
  have h : a.row = b.row:=Classical.not_not.1 h
  refine zDl (x:=zBH a.col a.row) rfl ?_; refine zDl (x:=zBH b.col b.row) rfl ?_; refine zB (zK a.row) (zD zC) rfl ?_; refine zB (zK b.row) zC rfl ?_; refine zN (bne_eq_false_iff_eq.2 h) ?_; refine zB (zK a.col) (zD zC) rfl ?_; refine zB (zK b.col) zC rfl ?_
  exact zc rfl rfl rfl rfl (((Old.refl _).push _).push _)
def RPar (C : CSpec) (s : Bs) : Prop:=
 (∀ n,zDn s = some n → ∀ H,C zCI [.str s] H (.tup [ndV n,zK 0,zK 0]) H) ∧ (zDn s = none → ∀ H,∃ w e : Int,e ≠ 0 ∧ C zCI [.str s] H (.tup [ndV zY,zK w,zK e]) H)
theorem rparse_ok (hT : ∀ s a H,a ≤ s.length → s.length ≤ 1000 → C zV [.str s,zJ a] H (tkV s a) H) (s : Bs) (hl : s.length ≤ 200) (h61 : s[0]? = some 61) (n : Nd) (e : Nat) (he : e ≤ s.length) (hk : tok s e = .fin)
  (hLo : ∀ b H,H[b]? = some (rP s 1 0) → C zW [pR b,.int .i64 1] H (ndV n) (H.set b (rP s e 0))) (H : Heap) : EFun C GT zCK [.str s] H (.tup [ndV n,zK 0,zK 0]) H:=by
 have htk:=fun H=>hT s e H he tO
 rw [zEi,hk] at htk
 clear hT
 refine zf ?_
 have hne : s ≠ []:=fun x=>by subst x; cases h61
 generalize skip s e = q at *
 refine zN tF <| zN (tN hne) ?_; refine zl rfl h61 ?_; refine zG <| zG ?_; refine zU (v:=[AV.str s,.int .i64 1,.int .i64 0,.int .i64 0,.int .i64 0]) rfl ?_; refine zDl (x:=AV.agg [AV.str s,.int .i64 1,.int .i64 0,.int .i64 0,.int .i64 0]) rfl ?_; refine zm (hLo _ _ hP) (fun h=>by cases h) ?_; refine zF (v:=ndV n) (AV.cells (ndV n)) zC rfl rfl rfl rfl ?_; refine zB (zK ↑e) (zA tA (zD (zE zC))) rfl ?_
 refine zI (htk _) ?_; refine zF (v:=kV (tkK Tok.fin) q (tkE q Tok.fin) (tkT Tok.fin)) (AV.cells (kV (tkK Tok.fin) q (tkE q Tok.fin) (tkT Tok.fin))) zC rfl rfl rfl rfl ?_; refine zB (zK 0) (zA tA (zD (zA tA (zD (zE zC))))) rfl ?_; refine zH ?_; refine zB (zJ (tkK Tok.fin)) (zE zC) rfl ?_; refine zH <| zG ?_; refine zB (zK 0) (zA tA (zD (zA tA (zD (zE zC))))) rfl ?_; refine zG ?_; refine zB (ndV n) (zA tA (zD (zE zC))) rfl ?_
 refine zF (v:=ndV n) (AV.cells (ndV n)) (zA tA (zD (zA tA (zD (zA tA (zD zC)))))) rfl rfl rfl rfl ?_
 exact zCO (o:=0) rfl rfl (zL hP) rfl rfl rfl rfl rfl (by repeat' (first | exact Old.refl _ | refine Old.set ?_ tC _ | refine Old.push ?_ _))
theorem rparse_tail (hT : ∀ s a H,a ≤ s.length → s.length ≤ 1000 → C zV [.str s,zJ a] H (tkV s a) H)
  (hF : ∀ b s p d a e H,H[b]? = some (pB s p 0 0 d) → C zd [pR b,zK a,zK e] H (.tup []) (H.set b (pB s p a e d)))
  (s : Bs) (hl : s.length ≤ 200) (h61 : s[0]? = some 61) (n : Nd) (e : Nat) (he : e ≤ s.length) (hk : tkK (tok s e) ≠ 0)
  (hLo : ∀ b H,H[b]? = some (rP s 1 0) → C zW [pR b,.int .i64 1] H (ndV n) (H.set b (rP s e 0))) (H : Heap) : EFun C GT zCK [.str s] H (.tup [ndV zY,zJ (skip s e),zK 2]) H:=by
 have htk:=fun H=>hT s e H he tO
 rw [zEi] at htk
 have hf:=fun b H=>hF b s e 0 (skip s e : Nat) 2 H
 clear hT hF
 refine zf ?_
 have hne : s ≠ []:=fun x=>by subst x; cases h61
 generalize tkE (skip s e) (tok s e) = ee at *
 generalize tkK (tok s e) = kk at *
 generalize tkT (tok s e) = t at *
 generalize skip s e = q at *
 refine zN tF <| zN (tN hne) ?_; refine zl rfl h61 ?_; refine zG <| zG ?_; refine zU (v:=[AV.str s,.int .i64 1,.int .i64 0,.int .i64 0,.int .i64 0]) rfl ?_; refine zDl (x:=AV.agg [AV.str s,.int .i64 1,.int .i64 0,.int .i64 0,.int .i64 0]) rfl ?_; refine zm (hLo _ _ hP) (fun h=>by cases h) ?_; refine zF (v:=ndV n) (AV.cells (ndV n)) zC rfl rfl rfl rfl ?_; refine zB (zK ↑e) (zA tA (zD (zE zC))) rfl ?_
 refine zI (htk _) ?_; refine zF (v:=kV kk q ee t) (AV.cells (kV kk q ee t)) zC rfl rfl rfl rfl ?_; refine zB (zK 0) (zA tA (zD (zA tA (zD (zE zC))))) rfl ?_; refine zP (tE (by rfl)) ?_; refine zB (zJ kk) (zE zC) rfl ?_; refine zH <| zP (bne_iff_ne.2 tO) ?_; refine zB (zJ q) (zE zC) rfl ?_; refine zm (hf _ _ hP) (fun h=>by cases h) ?_; refine zB (zK 2) (zE (zA tA (zD (zA tA (zD (zE zC)))))) rfl ?_
 refine zP (bne_iff_ne.2 tO) ?_; refine zU (v:=[.int .i64 0,.int .i64 0,AV.str [],.int .i64 0,.int .i64 0,AV.bool false,AV.bool false,.int .i64 0,.int .i64 0,AV.bool false,AV.bool false,AV.lst (some true) 0 []]) rfl ?_; refine zGU ?_ ?_
 ·refine zB (zK ↑q) (zE (zA tA (zD (zA tA (zD (zE zC)))))) rfl ?_; refine zGU ?_ ?_
  ·refine zB (zK 2) (zE (zA tA (zD (zA tA (zD (zE zC)))))) rfl ?_; refine zF (v:=AV.agg [.int .i64 0,.int .i64 0,AV.str [],.int .i64 0,.int .i64 0,AV.bool false,AV.bool false,.int .i64 0,.int .i64 0,AV.bool false,AV.bool false,AV.lst (some true) 0 []]) (AV.cells (AV.agg [.int .i64 0,.int .i64 0,AV.str [],.int .i64 0,.int .i64 0,AV.bool false,AV.bool false,.int .i64 0,.int .i64 0,AV.bool false,AV.bool false,AV.lst (some true) 0 []])) (zA tA (zA tA (zD (zA tA (zD (zA tA (zD zC))))))) rfl rfl rfl rfl ?_
   exact zCO (o:=0) rfl rfl (zL hP) rfl rfl rfl rfl rfl (by repeat' (first | exact Old.refl _ | refine Old.set ?_ tC _ | refine Old.push ?_ _))
  ·refine zF (v:=AV.agg [.int .i64 0,.int .i64 0,AV.str [],.int .i64 0,.int .i64 0,AV.bool false,AV.bool false,.int .i64 0,.int .i64 0,AV.bool false,AV.bool false,AV.lst (some true) 0 []]) (AV.cells (AV.agg [.int .i64 0,.int .i64 0,AV.str [],.int .i64 0,.int .i64 0,AV.bool false,AV.bool false,.int .i64 0,.int .i64 0,AV.bool false,AV.bool false,AV.lst (some true) 0 []])) (zA tA (zA tA (zD (zA tA (zD (zA tA (zD zC))))))) rfl rfl rfl rfl ?_
   refine zB (zK 2) (zA tA (zE (zA tA (zD (zA tA (zD (zE zC))))))) rfl ?_
   exact zCO (o:=0) rfl rfl (zL hP) rfl rfl rfl rfl rfl (by repeat' (first | exact Old.refl _ | refine Old.set ?_ tC _ | refine Old.push ?_ _))
 ·refine zGU ?_ ?_
  ·refine zB (zK 2) (zE (zA tA (zD (zA tA (zD (zE zC)))))) rfl ?_; refine zGU ?_ ?_
   ·refine zB (zK ↑q) (zE (zA tA (zD (zA tA (zD (zE zC)))))) rfl ?_; refine zF (v:=AV.agg [.int .i64 0,.int .i64 0,AV.str [],.int .i64 0,.int .i64 0,AV.bool false,AV.bool false,.int .i64 0,.int .i64 0,AV.bool false,AV.bool false,AV.lst (some true) 0 []]) (AV.cells (AV.agg [.int .i64 0,.int .i64 0,AV.str [],.int .i64 0,.int .i64 0,AV.bool false,AV.bool false,.int .i64 0,.int .i64 0,AV.bool false,AV.bool false,AV.lst (some true) 0 []])) (zA tA (zA tA (zD (zA tA (zD (zA tA (zD zC))))))) rfl rfl rfl rfl ?_
    exact zCO (o:=0) rfl rfl (zL hP) rfl rfl rfl rfl rfl (by repeat' (first | exact Old.refl _ | refine Old.set ?_ tC _ | refine Old.push ?_ _))
   ·refine zF (v:=AV.agg [.int .i64 0,.int .i64 0,AV.str [],.int .i64 0,.int .i64 0,AV.bool false,AV.bool false,.int .i64 0,.int .i64 0,AV.bool false,AV.bool false,AV.lst (some true) 0 []]) (AV.cells (AV.agg [.int .i64 0,.int .i64 0,AV.str [],.int .i64 0,.int .i64 0,AV.bool false,AV.bool false,.int .i64 0,.int .i64 0,AV.bool false,AV.bool false,AV.lst (some true) 0 []])) (zA tA (zA tA (zD (zA tA (zD (zA tA (zD zC))))))) rfl rfl rfl rfl ?_
    refine zB (zK ↑q) (zA tA (zE (zA tA (zD (zA tA (zD (zE zC))))))) rfl ?_
    exact zCO (o:=0) rfl rfl (zL hP) rfl rfl rfl rfl rfl (by repeat' (first | exact Old.refl _ | refine Old.set ?_ tC _ | refine Old.push ?_ _))
  ·refine zF (v:=AV.agg [.int .i64 0,.int .i64 0,AV.str [],.int .i64 0,.int .i64 0,AV.bool false,AV.bool false,.int .i64 0,.int .i64 0,AV.bool false,AV.bool false,AV.lst (some true) 0 []]) (AV.cells (AV.agg [.int .i64 0,.int .i64 0,AV.str [],.int .i64 0,.int .i64 0,AV.bool false,AV.bool false,.int .i64 0,.int .i64 0,AV.bool false,AV.bool false,AV.lst (some true) 0 []])) (zA tA (zA tA (zD (zA tA (zD (zA tA (zD zC))))))) rfl rfl rfl rfl ?_
   refine zB (zK ↑q) (zA tA (zE (zA tA (zD (zA tA (zD (zE zC))))))) rfl ?_; refine zB (zK 2) (zA tA (zE (zA tA (zD (zA tA (zD (zE zC))))))) rfl ?_
   exact zCO (o:=0) rfl rfl (zL hP) rfl rfl rfl rfl rfl (by repeat' (first | exact Old.refl _ | refine Old.set ?_ tC _ | refine Old.push ?_ _))
theorem rparse_bad (hT : ∀ s a H,a ≤ s.length → s.length ≤ 1000 → C zV [.str s,zJ a] H (tkV s a) H)
  (s : Bs) (hl : s.length ≤ 200) (h61 : s[0]? = some 61) (n : Nd) (a : Nat) (w e d : Int) (ha : a ≤ s.length) (he : e ≠ 0) (H : Heap)
  (hLo : ∀ H',H'[(H ++ [ABlk.box (ndC zY)]).length]? = some (rP s 1 0) → C zW [pR (H ++ [ABlk.box (ndC zY)]).length,.int .i64 1] H' (ndV n) (H'.set (H ++ [ABlk.box (ndC zY)]).length (pB s a w e d))) : EFun C GT zCK [.str s] H (.tup [ndV zY,zK w,zK e]) H:=by
 have htk:=fun H=>hT s a H ha tO
 rw [zEi] at htk
 clear hT
 refine zf ?_
 have hne : s ≠ []:=fun x=>by subst x; cases h61
 generalize tkE (skip s a) (tok s a) = ee at *
 generalize tkK (tok s a) = kk at *
 generalize tkT (tok s a) = t at *
 generalize skip s a = q at *
 refine zN tF <| zN (tN hne) ?_; refine zl rfl h61 ?_; refine zG <| zG ?_; refine zU (v:=[AV.str s,.int .i64 1,.int .i64 0,.int .i64 0,.int .i64 0]) rfl ?_; refine zDl (x:=AV.agg [AV.str s,.int .i64 1,.int .i64 0,.int .i64 0,.int .i64 0]) rfl ?_; refine zm (hLo _ hP) (fun h=>by cases h) ?_; refine zF (v:=ndV n) (AV.cells (ndV n)) zC rfl rfl rfl rfl ?_; refine zB (zK ↑a) (zA tA (zD (zE zC))) rfl ?_
 refine zI (htk _) ?_; refine zF (v:=kV kk q ee t) (AV.cells (kV kk q ee t)) zC rfl rfl rfl rfl ?_; refine zB (zK e) (zA tA (zD (zA tA (zD (zE zC))))) rfl ?_; refine zN tF <| zG <| zG ?_; refine zB (zK e) (zA tA (zD (zA tA (zD (zE zC))))) rfl ?_; refine zP (bne_iff_ne.2 he) ?_; refine zU (v:=[.int .i64 0,.int .i64 0,AV.str [],.int .i64 0,.int .i64 0,AV.bool false,AV.bool false,.int .i64 0,.int .i64 0,AV.bool false,AV.bool false,AV.lst (some true) 0 []]) rfl ?_
 refine zGU ?_ ?_
 ·refine zB (zK w) (zA tA (zD (zA tA (zD (zE zC))))) rfl ?_; refine zGU ?_ ?_
  ·refine zB (zK e) (zA tA (zD (zA tA (zD (zE zC))))) rfl ?_; refine zF (v:=AV.agg [.int .i64 0,.int .i64 0,AV.str [],.int .i64 0,.int .i64 0,AV.bool false,AV.bool false,.int .i64 0,.int .i64 0,AV.bool false,AV.bool false,AV.lst (some true) 0 []]) (AV.cells (AV.agg [.int .i64 0,.int .i64 0,AV.str [],.int .i64 0,.int .i64 0,AV.bool false,AV.bool false,.int .i64 0,.int .i64 0,AV.bool false,AV.bool false,AV.lst (some true) 0 []])) (zA tA (zD (zA tA (zD (zA tA (zD zC)))))) rfl rfl rfl rfl ?_
   exact zCO (o:=0) rfl rfl (zL hP) rfl rfl rfl rfl rfl (by repeat' (first | exact Old.refl _ | refine Old.set ?_ tC _ | refine Old.push ?_ _))
  ·refine zF (v:=AV.agg [.int .i64 0,.int .i64 0,AV.str [],.int .i64 0,.int .i64 0,AV.bool false,AV.bool false,.int .i64 0,.int .i64 0,AV.bool false,AV.bool false,AV.lst (some true) 0 []]) (AV.cells (AV.agg [.int .i64 0,.int .i64 0,AV.str [],.int .i64 0,.int .i64 0,AV.bool false,AV.bool false,.int .i64 0,.int .i64 0,AV.bool false,AV.bool false,AV.lst (some true) 0 []])) (zA tA (zD (zA tA (zD (zA tA (zD zC)))))) rfl rfl rfl rfl ?_
   refine zB (zK e) (zA tA (zA tA (zD (zA tA (zD (zE zC)))))) rfl ?_
   exact zCO (o:=0) rfl rfl (zL hP) rfl rfl rfl rfl rfl (by repeat' (first | exact Old.refl _ | refine Old.set ?_ tC _ | refine Old.push ?_ _))
 ·refine zGU ?_ ?_
  ·refine zB (zK e) (zA tA (zD (zA tA (zD (zE zC))))) rfl ?_; refine zGU ?_ ?_
   ·refine zB (zK w) (zA tA (zD (zA tA (zD (zE zC))))) rfl ?_; refine zF (v:=AV.agg [.int .i64 0,.int .i64 0,AV.str [],.int .i64 0,.int .i64 0,AV.bool false,AV.bool false,.int .i64 0,.int .i64 0,AV.bool false,AV.bool false,AV.lst (some true) 0 []]) (AV.cells (AV.agg [.int .i64 0,.int .i64 0,AV.str [],.int .i64 0,.int .i64 0,AV.bool false,AV.bool false,.int .i64 0,.int .i64 0,AV.bool false,AV.bool false,AV.lst (some true) 0 []])) (zA tA (zD (zA tA (zD (zA tA (zD zC)))))) rfl rfl rfl rfl ?_
    exact zCO (o:=0) rfl rfl (zL hP) rfl rfl rfl rfl rfl (by repeat' (first | exact Old.refl _ | refine Old.set ?_ tC _ | refine Old.push ?_ _))
   ·refine zF (v:=AV.agg [.int .i64 0,.int .i64 0,AV.str [],.int .i64 0,.int .i64 0,AV.bool false,AV.bool false,.int .i64 0,.int .i64 0,AV.bool false,AV.bool false,AV.lst (some true) 0 []]) (AV.cells (AV.agg [.int .i64 0,.int .i64 0,AV.str [],.int .i64 0,.int .i64 0,AV.bool false,AV.bool false,.int .i64 0,.int .i64 0,AV.bool false,AV.bool false,AV.lst (some true) 0 []])) (zA tA (zD (zA tA (zD (zA tA (zD zC)))))) rfl rfl rfl rfl ?_
    refine zB (zK w) (zA tA (zA tA (zD (zA tA (zD (zE zC)))))) rfl ?_
    exact zCO (o:=0) rfl rfl (zL hP) rfl rfl rfl rfl rfl (by repeat' (first | exact Old.refl _ | refine Old.set ?_ tC _ | refine Old.push ?_ _))
  ·refine zF (v:=AV.agg [.int .i64 0,.int .i64 0,AV.str [],.int .i64 0,.int .i64 0,AV.bool false,AV.bool false,.int .i64 0,.int .i64 0,AV.bool false,AV.bool false,AV.lst (some true) 0 []]) (AV.cells (AV.agg [.int .i64 0,.int .i64 0,AV.str [],.int .i64 0,.int .i64 0,AV.bool false,AV.bool false,.int .i64 0,.int .i64 0,AV.bool false,AV.bool false,AV.lst (some true) 0 []])) (zA tA (zD (zA tA (zD (zA tA (zD zC)))))) rfl rfl rfl rfl ?_
   refine zB (zK w) (zA tA (zA tA (zD (zA tA (zD (zE zC)))))) rfl ?_; refine zB (zK e) (zA tA (zA tA (zD (zA tA (zD (zE zC)))))) rfl ?_
   exact zCO (o:=0) rfl rfl (zL hP) rfl rfl rfl rfl rfl (by repeat' (first | exact Old.refl _ | refine Old.set ?_ tC _ | refine Old.push ?_ _))
end
end Go.AM
set_option maxRecDepth 20000
namespace Go.AM
theorem idx_two {v : AV} {H : Heap} {k : Nat} {xs : List AV} (hv : view H k v = some xs) : (∀ (n : Int) (i : Nat) (x : AV) (K : AV → Prop),n = (i : Int) → xs[i]? = some x → K (.lref x 0) → idxN k v n K) ∨
  (∀ (n : Int) (i : Nat) (x : AV) (K : AV → Prop),n = (i : Int) → xs[i]? = some x → (∀ b j,(∀ o,z6 H (.ref b k j o) = some (x.cells,o)) → K (.ref b k j 0)) → idxN k v n K):=by
 unfold view at hv
 split at hv
 ·split at hv
  ·rename_i hk
   cases hv; subst hk
   exact .inl fun n i x K hn hx q=>sIdx hn hx q
  ·split at hv
   ·cases hv
    exact .inl fun n i x K hn hx q=>by simp at hx
   ·cases hv
 ·refine .inr fun n i x K hn hx q2=>?_
  have hlt:=(zg hx).1
  rw [zG0]; unfold idxNW
  simp only
  split at hv
  ·rename_i hk
   subst hk
   split at hv
   ·rename_i hb
    split at hv
    ·rename_i hc
     cases hv
     rw [List.length_take,List.length_drop] at hlt
     rw [List.getElem?_take,if_pos tO,List.getElem?_drop] at hx
     subst hn
     rw [hc.1] at hb
     refine zFc ⟨rfl,by omega,by omega⟩ (q2 _ _ fun o=>?_)
     show z6 H (.ref _ _ _ _) = _
     simp only [z6,hb,if_true,Int.toNat_natCast,hx,Option.map_some]
    ·cases hv
   ·rename_i hb
    split at hv
    ·rename_i hc
     cases hv
     rw [List.length_take,List.length_drop] at hlt
     rw [List.getElem?_take,if_pos tO,List.getElem?_drop] at hx
     subst hn
     rw [hc.1] at hb
     refine zFc ⟨rfl,by omega,by omega⟩ (q2 _ _ fun o=>?_)
     show z6 H (.ref _ _ _ _) = _
     simp only [z6,hb,if_true,Int.toNat_natCast,hx,Option.map_some]
    ·cases hv
   ·cases hv
  ·cases hv
 ·cases hv
section
variable {C : CSpec} {GT : Nat → Option AV}
theorem rtext_ev (hP : ∀ s,s.length ≤ 200 → s.head? = some 61 → RPar C s) (s : Bs) (H : Heap) : EFun C GT zEp [.str s] H (zJ (zBE s)) H:=by
 have hp:=hP s
 clear hP
 refine zf ?_
 unfold zBE
 by_cases hl : 200 < s.length
 ·rw [if_pos hl]
  clear hp
  refine zP tT ?_
  exact zc rfl rfl rfl rfl (Old.refl _)
 ·rw [if_neg hl]
  cases s with
  | nil=>
   clear hp
   refine zN tF <| zG <| zG <| zG ?_
   exact zc rfl rfl rfl rfl (Old.refl _)
  | cons c r=>
   have hne : (c :: r) ≠ []:=by simp
   have h0 : (c :: r)[0]? = some c:=rfl
   by_cases h : c = 61
   ·subst h
    have hp:=hp tO rfl
    rw [if_pos (show (61 :: r : Bs).head? = some 61 from rfl)]
    obtain ⟨s,hs⟩ : ∃ s : Bs,(61 :: r : Bs) = s:=⟨_,rfl⟩
    rw [hs] at hl hp hne h0 ⊢
    cases hq : zDn s with
    | some n=>
     have hp:=hp.1 n hq
     refine zN tF <| zP (bne_iff_ne.2 hne) ?_; refine zl rfl h0 ?_; refine zH <| zH ?_; refine zI (hp _) ?_; refine zU rfl ?_; refine zU rfl ?_; refine zU rfl ?_; refine zF (v:=ndV n) (AV.cells (ndV n)) zC rfl rfl rfl rfl ?_; refine zG ?_
     exact zc rfl rfl rfl rfl (((Old.refl _).push _).set tA _)
    | none=>
     obtain ⟨w,e,he,hp⟩:=hp.2 hq H
     refine zN tF <| zP (bne_iff_ne.2 hne) ?_; refine zl rfl h0 ?_; refine zH <| zH ?_; refine zI hp ?_; refine zU rfl ?_; refine zU rfl ?_; refine zU rfl ?_; refine zF (v:=ndV zY) (AV.cells (ndV zY)) zC rfl rfl rfl rfl ?_; refine zP (bne_iff_ne.2 he) ?_
     exact zc rfl rfl rfl rfl (((Old.refl _).push _).set tA _)
   ·rw [if_neg (show ¬ (c :: r : Bs).head? = some 61 from fun x=>h (Option.some.inj x))]
    clear hp
    obtain ⟨s,hs⟩ : ∃ s : Bs,(c :: r : Bs) = s:=⟨_,rfl⟩
    rw [hs] at hl hne h0 ⊢
    refine zN tF <| zP (bne_iff_ne.2 hne) ?_; refine zl rfl h0 ?_; refine zH <| zN (tN (fun x=>h (UInt8.toNat_inj.1 (by have : (61 : UInt8).toNat = 61:=rfl; omega)))) ?_
    exact zc rfl rfl rfl rfl (Old.refl _)
end
structure RefK2 (PR : Program) : Prop extends RefK PR where
 parse : zAC PR zCI zCK = true
 isIn : zAC PR zDa zGd = true
 ahead : zAC PR zCJ zD3 = true
 text : zAC PR zA0 zEp = true
section
variable {PR : Program} {GT : Nat → Option AV}
theorem q_parse (k : RefK2 PR) (g : BigG PR GT) (s : Bs) (hl : s.length ≤ 200) (h61 : s.head? = some 61) : RPar (Good PR GT) s:=by
 have h0 : s[0]? = some 61:=by rw [← List.head?_eq_getElem?]; exact h61
 have h1 : 1 ≤ s.length:=by cases s with
  | nil=>cases h61
  | cons c r=>simp
 have lo:=fun b=>(q_all k.toRefK g b s hl (s.length - 1) 1 h1 rfl 0 tO).2 1
 cases hlo : (P s).loose 1 1 0 with
 | none=>
  have hpp : zDn s = none:=by unfold zDn; rw [if_pos ⟨hl,h61⟩,hlo]; rfl
  refine ⟨fun n h=>(by rw [hpp] at h; cases h),fun _ H=>?_⟩
  obtain ⟨n,a,w,e,d,h2,h3,h4⟩:=(lo (H ++ [ABlk.box (ndC zY)]).length).2 hlo
  exact ⟨w,e,h2,zO k.hm k.parse (rparse_bad (zF3 k.toRefK) s hl h0 n a w e d h3 h2 H h4)⟩
 | some x=>
  obtain ⟨n,e⟩:=x
  have hx:=(zBx s).loose 1 1 0 _ h1 hlo
  simp only at hx
  have hl2:=fun b=>(lo b).1 n e hlo
  by_cases hk : tok s e = .fin
  ·have hpp : zDn s = some n:=by unfold zDn; rw [if_pos ⟨hl,h61⟩,hlo]; simp only [Option.bind_some,hk]
   refine ⟨fun n' h H=>?_,fun h=>by rw [hpp] at h; cases h⟩
   rw [hpp] at h; cases h
   exact zO k.hm k.parse (rparse_ok (zF3 k.toRefK) s hl h0 n e hx.2 hk hl2 H)
  ·have hpp : zDn s = none:=by
    unfold zDn
    rw [if_pos ⟨hl,h61⟩,hlo]
    simp only [Option.bind_some]
   refine ⟨fun n h=>(by rw [hpp] at h; cases h),fun _ H=>⟨_,2,by decide,zO k.hm k.parse (rparse_tail (zF3 k.toRefK) (q_fail k.toRefK) s hl h0 n e hx.2 (fun h=>hk ?_) hl2 H)⟩⟩
   cases ht : tok s e <;> rw [ht] at h <;> first | rfl | (simp only [tkK] at h; omega)
theorem q_in (k : RefK2 PR) (c r : Int) (H : Heap) : Good PR GT zDa [zBH c r] H (.bool (okC c r)) H:=zO k.hm k.isIn (rin_ev c r H)
theorem q_ahead (k : RefK2 PR) (a b : Fil) (H : Heap) : Good PR GT zCJ [zBH a.col a.row,zBH b.col b.row] H (.bool (zE1 a b)) H:=zO k.hm k.ahead (rahead_ev a b H)
theorem q_text (k : RefK2 PR) (g : BigG PR GT) (s : Bs) (H : Heap) : Good PR GT zA0 [.str s] H (zJ (zBE s)) H:=zO k.hm k.text (rtext_ev (q_parse k g) s H)
end
end Go.AM
set_option maxRecDepth 20000
namespace Go.AM
section
variable {C : CSpec} {GT : Nat → Option AV}
theorem rcheck_ev (hA : ∀ c r H,C zDa [zBH c r] H (.bool (okC c r)) H) (hL : ∀ a b H,C zCJ [zBH a.col a.row,zBH b.col b.row] H (.bool (zE1 a b)) H) (hT : ∀ s H,C zA0 [.str s] H (zJ (zBE s)) H)
  (lv : AV) (l : List Fil) (H : Heap) (hv : view H 3 lv = some (l.map zk)) : EFun C GT zD2 [lv] H (zJ (zCW l)) H:=by
 have hlm : (l.map zk).length = l.length:=List.length_map _
 refine zf ?_
 unfold zCW
 by_cases hl : 200 < l.length
 ·rw [if_pos hl]
  clear hA hL hT
  refine zBp hv ?_; refine zP tT ?_
  exact zc rfl rfl rfl rfl (Old.refl _)
 rw [if_neg hl]
 obtain ⟨r,hr⟩ : ∃ r,zHK none l = r:=⟨_,rfl⟩
 rw [hr]
 refine zBp hv ?_; refine zN tF ?_; refine zBu (fun i : Nat=>[(3,zJ i),(0,lv)]) (fun i H'=>H' = H ∧ i ≤ l.length ∧ zHK (if i = 0 then none else l[i - 1]?) (l.drop i) = r) (fun i=>l.length - i) 0 rfl ⟨rfl,by omega,hr⟩ (fun i H1 ⟨hH,hi,hq⟩=>?_)
 subst hH
 dsimp only
 by_cases hlt : i < l.length
 ·obtain ⟨f,hf⟩ : ∃ f,l[i]? = some f:=⟨_,List.getElem?_eq_getElem hlt⟩
  have hfm : (l.map zk)[i]? = some (zk f):=by rw [List.getElem?_map,hf]; rfl
  rw [filsN_drop l i f hf] at hq
  have ha:=hA f.col f.row
  have ht:=hT f.text
  clear hA hT
  unfold filN at hq
  rcases idx_two hv with hx | hx
  ·cases hok : okC f.col f.row with
   | false=>
    rw [hok] at ha hq
    have hq : 1 = r:=hq
    subst hq
    clear hL ht
    refine zBp hv ?_; refine zP tT ?_; refine hx _ i (zk f) _ rfl hfm ?_; refine zz (zBH f.col f.row) rfl ?_; refine zI (ha _) ?_; refine zH ?_
    exact zc rfl rfl rfl rfl (Old.refl _)
   | true=>
    rw [hok] at ha hq
    rw [if_neg (by simp : ¬ (true = false))] at hq
    by_cases hi0 : i = 0
    ·rw [if_pos hi0] at hq
     have hq : (if (if f.text = [] then 3 else zBE f.text) = 0 then zHK (some f) (l.drop (i + 1)) else if f.text = [] then 3 else zBE f.text) = r:=hq
     clear hL
     by_cases h0 : f.text = []
     ·rw [if_pos h0] at hq
      have hq : 3 = r:=hq
      subst hq
      clear ht
      refine zBp hv ?_; refine zP tT ?_; refine hx _ i (zk f) _ rfl hfm ?_; refine zz (zBH f.col f.row) rfl ?_; refine zI (ha _) ?_; refine zG <| zN tF <| zG <| zG ?_; refine hx _ i (zk f) _ rfl hfm ?_; refine zz (.str f.text) rfl ?_; refine zP (tE h0) ?_
      exact zc rfl rfl rfl rfl (Old.refl _)
     ·rw [if_neg h0] at hq
      by_cases hz : zBE f.text = 0
      ·rw [if_pos hz] at hq
       rw [hz] at ht
       refine zBp hv ?_; refine zP tT ?_; refine hx _ i (zk f) _ rfl hfm ?_; refine zz (zBH f.col f.row) rfl ?_; refine zI (ha _) ?_; refine zG <| zN tF <| zG <| zG ?_; refine hx _ i (zk f) _ rfl hfm ?_; refine zz (.str f.text) rfl ?_; refine zN (tN h0) ?_; refine hx _ i (zk f) _ rfl hfm ?_; refine zz (.str f.text) rfl ?_; refine zI (ht _) ?_; refine zG ?_; refine zM (r:=i + 1) rfl tO ?_; refine zAM (i + 1) rfl ⟨rfl,by omega, ?_⟩ tO
       rw [if_neg tO,Nat.add_sub_cancel,hf]
       exact hq
      ·rw [if_neg hz] at hq
       subst hq
       refine zBp hv ?_; refine zP tT ?_; refine hx _ i (zk f) _ rfl hfm ?_; refine zz (zBH f.col f.row) rfl ?_; refine zI (ha _) ?_; refine zG <| zN tF <| zG <| zG ?_; refine hx _ i (zk f) _ rfl hfm ?_; refine zz (.str f.text) rfl ?_; refine zN (tN h0) ?_; refine hx _ i (zk f) _ rfl hfm ?_; refine zz (.str f.text) rfl ?_; refine zI (ht _) ?_; refine zP (bne_iff_ne.2 tO) ?_
       exact zc rfl rfl rfl rfl (Old.refl _)
    ·obtain ⟨g,hg⟩ : ∃ g,l[i - 1]? = some g:=⟨_,List.getElem?_eq_getElem tO⟩
     have hgm : (l.map zk)[i - 1]? = some (zk g):=by rw [List.getElem?_map,hg]; rfl
     rw [if_neg hi0,hg] at hq
     have hq : (if (if zE1 g f = false then 5 else if f.text = [] then 3 else zBE f.text) = 0 then zHK (some f) (l.drop (i + 1)) else if zE1 g f = false then 5 else if f.text = [] then 3 else zBE f.text) = r:=hq
     have hls:=hL g f
     clear hL
     cases hlp : zE1 g f with
     | false=>
      rw [hlp] at hls hq
      have hq : 5 = r:=hq
      subst hq
      clear ht
      refine zBp hv ?_; refine zP tT ?_; refine hx _ i (zk f) _ rfl hfm ?_; refine zz (zBH f.col f.row) rfl ?_; refine zI (ha _) ?_; refine zG <| zP tT ?_; refine zM (r:=i - 1) tO tO ?_; refine hx _ (i - 1) (zk g) _ tO hgm ?_; refine zz (zBH g.col g.row) rfl ?_; refine hx _ i (zk f) _ rfl hfm ?_; refine zz (zBH f.col f.row) rfl ?_; refine zI (hls _) ?_; refine zH <| zH ?_
      exact zc rfl rfl rfl rfl (Old.refl _)
     | true=>
      rw [hlp] at hls hq
      rw [if_neg (by simp : ¬ (true = false))] at hq
      by_cases h0 : f.text = []
      ·rw [if_pos h0] at hq
       have hq : 3 = r:=hq
       subst hq
       clear ht
       refine zBp hv ?_; refine zP tT ?_; refine hx _ i (zk f) _ rfl hfm ?_; refine zz (zBH f.col f.row) rfl ?_; refine zI (ha _) ?_; refine zG <| zP tT ?_; refine zM (r:=i - 1) tO tO ?_; refine hx _ (i - 1) (zk g) _ tO hgm ?_; refine zz (zBH g.col g.row) rfl ?_; refine hx _ i (zk f) _ rfl hfm ?_; refine zz (zBH f.col f.row) rfl ?_; refine zI (hls _) ?_; refine zH <| zG ?_; refine hx _ i (zk f) _ rfl hfm ?_
       refine zz (.str f.text) rfl ?_; refine zP (tE h0) ?_
       exact zc rfl rfl rfl rfl (Old.refl _)
      ·rw [if_neg h0] at hq
       by_cases hz : zBE f.text = 0
       ·rw [if_pos hz] at hq
        rw [hz] at ht
        refine zBp hv ?_; refine zP tT ?_; refine hx _ i (zk f) _ rfl hfm ?_; refine zz (zBH f.col f.row) rfl ?_; refine zI (ha _) ?_; refine zG <| zP tT ?_; refine zM (r:=i - 1) tO tO ?_; refine hx _ (i - 1) (zk g) _ tO hgm ?_; refine zz (zBH g.col g.row) rfl ?_; refine hx _ i (zk f) _ rfl hfm ?_; refine zz (zBH f.col f.row) rfl ?_; refine zI (hls _) ?_; refine zH <| zG ?_; refine hx _ i (zk f) _ rfl hfm ?_
        refine zz (.str f.text) rfl ?_; refine zN (tN h0) ?_; refine hx _ i (zk f) _ rfl hfm ?_; refine zz (.str f.text) rfl ?_; refine zI (ht _) ?_; refine zG ?_; refine zM (r:=i + 1) rfl tO ?_; refine zAM (i + 1) rfl ⟨rfl,by omega, ?_⟩ tO
        rw [if_neg tO,Nat.add_sub_cancel,hf]
        exact hq
       ·rw [if_neg hz] at hq
        subst hq
        refine zBp hv ?_; refine zP tT ?_; refine hx _ i (zk f) _ rfl hfm ?_; refine zz (zBH f.col f.row) rfl ?_; refine zI (ha _) ?_; refine zG <| zP tT ?_; refine zM (r:=i - 1) tO tO ?_; refine hx _ (i - 1) (zk g) _ tO hgm ?_; refine zz (zBH g.col g.row) rfl ?_; refine hx _ i (zk f) _ rfl hfm ?_; refine zz (zBH f.col f.row) rfl ?_; refine zI (hls _) ?_; refine zH <| zG ?_; refine hx _ i (zk f) _ rfl hfm ?_
        refine zz (.str f.text) rfl ?_; refine zN (tN h0) ?_; refine hx _ i (zk f) _ rfl hfm ?_; refine zz (.str f.text) rfl ?_; refine zI (ht _) ?_; refine zP (bne_iff_ne.2 tO) ?_
        exact zc rfl rfl rfl rfl (Old.refl _)
  ·cases hok : okC f.col f.row with
   | false=>
    rw [hok] at ha hq
    have hq : 1 = r:=hq
    subst hq
    clear hL ht
    refine zBp hv ?_; refine zP tT ?_; refine hx _ i (zk f) _ rfl hfm (fun b2 j2 hp2=>?_)
    refine zw (zBH f.col f.row) (hp2 _) rfl ?_; refine zI (ha _) ?_; refine zH ?_
    exact zc rfl rfl rfl rfl (Old.refl _)
   | true=>
    rw [hok] at ha hq
    rw [if_neg (by simp : ¬ (true = false))] at hq
    by_cases hi0 : i = 0
    ·rw [if_pos hi0] at hq
     have hq : (if (if f.text = [] then 3 else zBE f.text) = 0 then zHK (some f) (l.drop (i + 1)) else if f.text = [] then 3 else zBE f.text) = r:=hq
     clear hL
     by_cases h0 : f.text = []
     ·rw [if_pos h0] at hq
      have hq : 3 = r:=hq
      subst hq
      clear ht
      refine zBp hv ?_; refine zP tT ?_; refine hx _ i (zk f) _ rfl hfm (fun b2 j2 hp2=>?_)
      refine zw (zBH f.col f.row) (hp2 _) rfl ?_; refine zI (ha _) ?_; refine zG <| zN tF <| zG <| zG ?_; refine hx _ i (zk f) _ rfl hfm (fun b2 j2 hp2=>?_)
      refine zw (.str f.text) (hp2 _) rfl ?_; refine zP (tE h0) ?_
      exact zc rfl rfl rfl rfl (Old.refl _)
     ·rw [if_neg h0] at hq
      by_cases hz : zBE f.text = 0
      ·rw [if_pos hz] at hq
       rw [hz] at ht
       refine zBp hv ?_; refine zP tT ?_; refine hx _ i (zk f) _ rfl hfm (fun b2 j2 hp2=>?_)
       refine zw (zBH f.col f.row) (hp2 _) rfl ?_; refine zI (ha _) ?_; refine zG <| zN tF <| zG <| zG ?_; refine hx _ i (zk f) _ rfl hfm (fun b2 j2 hp2=>?_)
       refine zw (.str f.text) (hp2 _) rfl ?_; refine zN (tN h0) ?_; refine hx _ i (zk f) _ rfl hfm (fun b2 j2 hp2=>?_)
       refine zw (.str f.text) (hp2 _) rfl ?_; refine zI (ht _) ?_; refine zG ?_; refine zM (r:=i + 1) rfl tO ?_; refine zAM (i + 1) rfl ⟨rfl,by omega, ?_⟩ tO
       rw [if_neg tO,Nat.add_sub_cancel,hf]
       exact hq
      ·rw [if_neg hz] at hq
       subst hq
       refine zBp hv ?_; refine zP tT ?_; refine hx _ i (zk f) _ rfl hfm (fun b2 j2 hp2=>?_)
       refine zw (zBH f.col f.row) (hp2 _) rfl ?_; refine zI (ha _) ?_; refine zG <| zN tF <| zG <| zG ?_; refine hx _ i (zk f) _ rfl hfm (fun b2 j2 hp2=>?_)
       refine zw (.str f.text) (hp2 _) rfl ?_; refine zN (tN h0) ?_; refine hx _ i (zk f) _ rfl hfm (fun b2 j2 hp2=>?_)
       refine zw (.str f.text) (hp2 _) rfl ?_; refine zI (ht _) ?_; refine zP (bne_iff_ne.2 tO) ?_
       exact zc rfl rfl rfl rfl (Old.refl _)
    ·obtain ⟨g,hg⟩ : ∃ g,l[i - 1]? = some g:=⟨_,List.getElem?_eq_getElem tO⟩
     have hgm : (l.map zk)[i - 1]? = some (zk g):=by rw [List.getElem?_map,hg]; rfl
     rw [if_neg hi0,hg] at hq
     have hq : (if (if zE1 g f = false then 5 else if f.text = [] then 3 else zBE f.text) = 0 then zHK (some f) (l.drop (i + 1)) else if zE1 g f = false then 5 else if f.text = [] then 3 else zBE f.text) = r:=hq
     have hls:=hL g f
     clear hL
     cases hlp : zE1 g f with
     | false=>
      rw [hlp] at hls hq
      have hq : 5 = r:=hq
      subst hq
      clear ht
      refine zBp hv ?_; refine zP tT ?_; refine hx _ i (zk f) _ rfl hfm (fun b2 j2 hp2=>?_)
      refine zw (zBH f.col f.row) (hp2 _) rfl ?_; refine zI (ha _) ?_; refine zG <| zP tT ?_; refine zM (r:=i - 1) tO tO ?_; refine hx _ (i - 1) (zk g) _ tO hgm (fun b2 j2 hp2=>?_)
      refine zw (zBH g.col g.row) (hp2 _) rfl ?_; refine hx _ i (zk f) _ rfl hfm (fun b2 j2 hp2=>?_)
      refine zw (zBH f.col f.row) (hp2 _) rfl ?_; refine zI (hls _) ?_; refine zH <| zH ?_
      exact zc rfl rfl rfl rfl (Old.refl _)
     | true=>
      rw [hlp] at hls hq
      rw [if_neg (by simp : ¬ (true = false))] at hq
      by_cases h0 : f.text = []
      ·rw [if_pos h0] at hq
       have hq : 3 = r:=hq
       subst hq
       clear ht
       refine zBp hv ?_; refine zP tT ?_; refine hx _ i (zk f) _ rfl hfm (fun b2 j2 hp2=>?_)
       refine zw (zBH f.col f.row) (hp2 _) rfl ?_; refine zI (ha _) ?_; refine zG <| zP tT ?_; refine zM (r:=i - 1) tO tO ?_; refine hx _ (i - 1) (zk g) _ tO hgm (fun b2 j2 hp2=>?_)
       refine zw (zBH g.col g.row) (hp2 _) rfl ?_; refine hx _ i (zk f) _ rfl hfm (fun b2 j2 hp2=>?_)
       refine zw (zBH f.col f.row) (hp2 _) rfl ?_; refine zI (hls _) ?_; refine zH <| zG ?_; refine hx _ i (zk f) _ rfl hfm (fun b2 j2 hp2=>?_)
       refine zw (.str f.text) (hp2 _) rfl ?_; refine zP (tE h0) ?_
       exact zc rfl rfl rfl rfl (Old.refl _)
      ·rw [if_neg h0] at hq
       by_cases hz : zBE f.text = 0
       ·rw [if_pos hz] at hq
        rw [hz] at ht
        refine zBp hv ?_; refine zP tT ?_; refine hx _ i (zk f) _ rfl hfm (fun b2 j2 hp2=>?_)
        refine zw (zBH f.col f.row) (hp2 _) rfl ?_; refine zI (ha _) ?_; refine zG <| zP tT ?_; refine zM (r:=i - 1) tO tO ?_; refine hx _ (i - 1) (zk g) _ tO hgm (fun b2 j2 hp2=>?_)
        refine zw (zBH g.col g.row) (hp2 _) rfl ?_; refine hx _ i (zk f) _ rfl hfm (fun b2 j2 hp2=>?_)
        refine zw (zBH f.col f.row) (hp2 _) rfl ?_; refine zI (hls _) ?_; refine zH <| zG ?_; refine hx _ i (zk f) _ rfl hfm (fun b2 j2 hp2=>?_)
        refine zw (.str f.text) (hp2 _) rfl ?_; refine zN (tN h0) ?_; refine hx _ i (zk f) _ rfl hfm (fun b2 j2 hp2=>?_)
        refine zw (.str f.text) (hp2 _) rfl ?_; refine zI (ht _) ?_; refine zG ?_; refine zM (r:=i + 1) rfl tO ?_; refine zAM (i + 1) rfl ⟨rfl,by omega, ?_⟩ tO
        rw [if_neg tO,Nat.add_sub_cancel,hf]
        exact hq
       ·rw [if_neg hz] at hq
        subst hq
        refine zBp hv ?_; refine zP tT ?_; refine hx _ i (zk f) _ rfl hfm (fun b2 j2 hp2=>?_)
        refine zw (zBH f.col f.row) (hp2 _) rfl ?_; refine zI (ha _) ?_; refine zG <| zP tT ?_; refine zM (r:=i - 1) tO tO ?_; refine hx _ (i - 1) (zk g) _ tO hgm (fun b2 j2 hp2=>?_)
        refine zw (zBH g.col g.row) (hp2 _) rfl ?_; refine hx _ i (zk f) _ rfl hfm (fun b2 j2 hp2=>?_)
        refine zw (zBH f.col f.row) (hp2 _) rfl ?_; refine zI (hls _) ?_; refine zH <| zG ?_; refine hx _ i (zk f) _ rfl hfm (fun b2 j2 hp2=>?_)
        refine zw (.str f.text) (hp2 _) rfl ?_; refine zN (tN h0) ?_; refine hx _ i (zk f) _ rfl hfm (fun b2 j2 hp2=>?_)
        refine zw (.str f.text) (hp2 _) rfl ?_; refine zI (ht _) ?_; refine zP (bne_iff_ne.2 tO) ?_
        exact zc rfl rfl rfl rfl (Old.refl _)
 ·have hd : l.drop i = []:=List.drop_eq_nil_of_le tO
  rw [hd] at hq
  have hq : 0 = r:=hq
  subst hq
  clear hA hL hT
  refine zBp hv ?_; refine zN tF ?_
  exact zc rfl rfl rfl rfl (Old.refl _)
end
structure RefK3 (PR : Program) : Prop extends RefK2 PR where
 check : zAC PR zBd zD2 = true
section
variable {PR : Program} {GT : Nat → Option AV}
theorem q_check (k : RefK3 PR) (g : BigG PR GT) (lv : AV) (l : List Fil) (H : Heap) (hv : view H 3 lv = some (l.map zk)) : Good PR GT zBd [lv] H (zJ (zCW l)) H:=zO k.hm k.check (rcheck_ev (q_in k.toRefK2) (q_ahead k.toRefK2) (q_text k.toRefK2 g) lv l H hv)
end
end Go.AM
set_option maxRecDepth 100000
namespace Go.Proofs.YtaohficjbicfgaaGreatDoor
open Go.AM
theorem parK : ParK Tryz.prog:={ hm:=mixed,contains:=zDf,mkSet:=zGP,trimR:=zFN,trimL:=zFv,trim:=k_strings_Trim,slPre:=zFs,pre:=zHk,slTrim:=zFO,trimP:=zHG,wrong:=k_value_Wrong,is:=k_value_Is,whole:=k_value_Whole,lit:=zK1,ref:=k_addr_Ref,dollar:=k_addr_Ref_c1,wordly:=zJw,called:=zJx,plain:=zK2,opOf:=k_formula_opOf,fail:=zGJ,blanks:=zFK,word:=zGN,want:=zGL,within:=zFL,text:=zGM,neg:=zGo,negc:=zFM,prim:=zGK,prim1:=zEy,prim2:=zEz,call:=zGO,argument:=zEO,two:=zGn }
theorem parK2 : ParK2 Tryz.prog:={ parK with const:=zIU,parse:=zKx,clos:=zIV,dfr:=by kernel_rfl,rcv:=by kernel_rfl }
theorem refK : RefK Tryz.prog:={ hm:=mixed,wordly:=zJs,wrongs:=zJt,bad:=k_sccref1_Bad,named:=zK0,token:=zKw,called:=zJu,whole:=zKz,ref:=k_sccref1_Ref,sign:=k_sccref1_Sign,tight:=zKy,fail:=zJC,deeper:=zHl,close:=zIW,one:=zJr,call:=zJD,loose:=zIT }
theorem refK2 : RefK2 Tryz.prog:={ refK with parse:=zKu,isIn:=k_sccref1_In,ahead:=zKv,text:=k_sccref2_Text }
theorem refK3 : RefK3 Tryz.prog:={ refK2 with check:=zKs }
section
variable {m : Int} {ev : Value}
theorem parG (hev : ∃ te pe,ev = .iface te pe) : ParG Tryz.prog (gtQ m ev):={ atoi:=atoi_ok,atoi2:=atoi_bad hev,texts:=rfl,loose:=rfl }
end
section
variable {GT : Nat → Option AV}
theorem g_trim (b m : Nat) (ws : List Nat) (H : Heap) (hm : ws.length = m) (hb : H[b]? = some (.row 1 (ws.map zA5))) (hw : Small ws) (hl : m ≤ 1000000) : Go.AM.Good Tryz.prog GT zx [.sl (some false) b 1 0 m] H (.sl (some false) b 1 0 (wds (wval ws)).length) H:=
 zO mixed zHm (trim_ev b m ws H hm hb hw hl)
theorem g_words (x : Nat) (H : Heap) (hx : x < 18446744073709551616) : Go.AM.Good Tryz.prog GT zBa [u64V x] H (zDw x) H:=zO mixed zHF (words_ev g_trim x hx H)
theorem g_badd (av bv : AV) (x y : Nat) (H : Heap) (ha : Mag av x) (hb : Mag bv y) (h1 : (wds x).length ≤ 100000) (h2 : (wds y).length ≤ 100000) : Go.AM.Good Tryz.prog GT zCB [av,bv] H (zDw (x + y)) H:=
 zO mixed zIa (add_ev g_trim av bv x y H ha hb h1 h2)
theorem g_bsub (av bv : AV) (x y : Nat) (H : Heap) (ha : Mag av x) (hb : Mag bv y) (h : y ≤ x) (h1 : (wds x).length ≤ 100000) : Go.AM.Good Tryz.prog GT zBL [av,bv] H (zDw (x - y)) H:=
 zO mixed zIc (sub_ev g_trim av bv x y _ H ha hb h rfl h1)
theorem g_bcmp (av bv : AV) (x y : Nat) (H : Heap) (ha : Mag av x) (hb : Mag bv y) (h1 : (wds x).length ≤ 100000) (h2 : (wds y).length ≤ 100000) : Go.AM.Good Tryz.prog GT zCC [av,bv] H (zK (cmpN x y)) H:=
 zO mixed zIb (bcmp_ev av bv x y H ha hb h1 h2)
theorem g_bsum (av bv : AV) (xn yn : Bool) (x y : Nat) (H : Heap) (ha : Mag av x) (hb : Mag bv y) (h1 : (wds x).length ≤ 100000) (h2 : (wds y).length ≤ 100000) :
  Go.AM.Good Tryz.prog GT zCA [.bool xn,av,.bool yn,bv] H (.tup [.bool (sumS xn x yn y).1,zDw (sumS xn x yn y).2]) H:=zO mixed zIZ (bsum_ev g_badd g_bsub g_bcmp av bv xn yn x y H ha hb h1 h2)
theorem g_bit (av : AV) (m i : Nat) (H : Heap) (ha : Mag av m) (hl : (wds m).length ≤ 100000) (hi : i ≤ 1000000) : Go.AM.Good Tryz.prog GT zCD [av,zK i] H (u64V (m / 2 ^ i % 2)) H:=zO mixed zId (bit_ev av m i H ha hl hi)
theorem g_tzb (b m n : Nat) (x av : AV) (H : Heap) (hb : H[b]? = some (.box [x,av])) (ha : Mag av m) (h0 : m ≠ 0) (hl : (wds m).length ≤ 100) (hn : n ≤ 10000) (h1 : m % 2 ^ n = 0) (h2 : m / 2 ^ n % 2 = 1) :
  Go.AM.Good Tryz.prog GT zAD [.ref b 0 0 0] H (u64V n) H:=zO mixed zCe (tzb_ev g_bit b m n x av H hb ha h0 hl hn h1 h2)
theorem g_blen (av : AV) (m : Nat) (H : Heap) (ha : Mag av m) (hl : (wds m).length ≤ 1000) : Go.AM.Good Tryz.prog GT zBM [av] H (zJ (Go.AM.bits m)) H:=zO mixed zGp (length_ev av m H ha hl)
theorem g_uint64 (b m : Nat) (x av : AV) (H : Heap) (hb : H[b]? = some (.box [x,av])) (ha : Mag av m) (hm : m < 18446744073709551616) : Go.AM.Good Tryz.prog GT zAj [.ref b 0 0 0] H (u64V m) H:=
 zO mixed zEN (uint64_ev b m x av H hb ha hm)
theorem g_int64 (b : Nat) (v : Int) (H : Heap) (hb : H[b]? = some (.box (zFZ v))) (hv : zCz v) : Go.AM.Good Tryz.prog GT zAQ [.ref b 0 0 0] H (zK v) H:=zO mixed zEx (int64_ev g_uint64 b v H hb hv)
theorem g_isInt64 (b : Nat) (v : Int) (H : Heap) (hb : H[b]? = some (.box (zFZ v))) (hv : (wds v.natAbs).length ≤ 100) : Go.AM.Good Tryz.prog GT zAe [.ref b 0 0 0] H (.bool (decide (zCz v))) H:=
 zO mixed zEB (isInt64_ev g_blen g_tzb b v H hb hv)
theorem g_give (b n : Nat) (neg : Bool) (x0 x1 : AV) (H : Heap) (hb : H[b]? = some (.box [x0,x1])) : Go.AM.Good Tryz.prog GT zp [.ref b 0 0 0,.bool neg,zDw n] H (.ref b 0 0 0) (H.set b (.box [.bool (neg && decide (0 < n)),zDw n])):=
 zO mixed zCw (give_ev b n neg x0 x1 H hb)
theorem g_setInt64 (b : Nat) (v : Int) (x0 x1 : AV) (H : Heap) (hb : H[b]? = some (.box [x0,x1])) (hv : zCz v) : Go.AM.Good Tryz.prog GT zAY [.ref b 0 0 0,zK v] H (.ref b 0 0 0) (H.set b (.box (zFZ v))):=
 zO mixed zDt (setInt64_ev g_words g_give b v x0 x1 H hb hv)
theorem k_bigNew : zAC Tryz.prog zAU a_bigNew = true:=by kernel_rfl
theorem g_newInt (v : Int) (H : Heap) (hv : zCz v) : Go.AM.Good Tryz.prog GT zAU [zK v] H (.ref H.length 0 0 0) (H ++ [.box (zFZ v)]):=zO mixed k_bigNew (newInt_ev g_setInt64 v H hv)
theorem g_fits (b : Nat) (v : Int) (H : Heap) (hb : H[b]? = some (.box (zFZ v))) (hv : (wds v.natAbs).length ≤ 100) : Go.AM.Good Tryz.prog GT zCb [.ref b 0 0 0] H (.bool (decide (zCz v))) H:=zO mixed k_sccref1_Fits (fits_ev g_isInt64 b v H hb hv)
theorem g_give0 (b : Nat) (xs : List AV) (nv x0 x1 : AV) (H : Heap) (hb : H[b]? = some (.box [x0,x1])) (hv : zG5 nv 1 xs) : Go.AM.Good Tryz.prog GT zp [.ref b 0 0 0,.bool false,nv] H (.ref b 0 0 0) (H.set b (.box [.bool false,nv])):=
 zO mixed zCw (give0_ev b xs nv x0 x1 H hb hv) (hn:=by obtain ⟨q,k',rfl,_⟩:=hv; rfl)
theorem g_mul10 (av : AV) (x : Nat) (H : Heap) (ha : Mag av x) (hl : (wds x).length ≤ 100000) : Go.AM.Good Tryz.prog GT zB9 [av,zDw 10] H (mulV x) H:=zO mixed zIY (mul10_ev g_trim av x _ H ha rfl hl)
theorem g_bigMul (b t v : Nat) (av : AV) (H : Heap) (hb : H[b]? = some (.box [.bool false,av])) (ht : H[t]? = some (.box (zFZ 10))) (ha : Mag av v) (hl : (wds v).length ≤ 1000) : Go.AM.Good Tryz.prog GT zAc [.ref b 0 0 0,.ref b 0 0 0,.ref t 0 0 0] H (.ref b 0 0 0) (H.set b (.box [.bool false,mulV v])):=
 zO mixed zFt (bigMul_ev g_mul10 g_give0 b t v av H hb ht ha hl)
theorem g_bigAddM (b t v d : Nat) (av : AV) (H : Heap) (hb : H[b]? = some (.box [.bool false,av])) (ht : H[t]? = some (.box (zFZ d))) (ha : Mag av v) (hl : (wds v).length ≤ 1000) (hd : (wds d).length ≤ 1000) : Go.AM.Good Tryz.prog GT zAd [.ref b 0 0 0,.ref b 0 0 0,.ref t 0 0 0] H (.ref b 0 0 0) (H.set b (.box (zFZ ((v + d : Nat) : Int)))):=
 zO mixed zFu (bigAddM_ev g_bsum g_give b t v d av H hb ht ha hl hd)
theorem bigG : BigG Tryz.prog GT:={ new:=fun v H h=>g_newInt v H h,mul:=fun b t v av H h1 h2 h3 h4=>g_bigMul b t v av H h1 h2 h3 h4,add:=fun b t v d av H h1 h2 h3 h4 h5=>g_bigAddM b t v d av H h1 h2 h3 h4 h5,fit:=fun b v H h1 h2=>g_fits b v H h1 h2,i64:=fun b v H h1 h2=>g_int64 b v H h1 h2 }
theorem g_aok (c r : Int) (H : Heap) : Go.AM.Good Tryz.prog GT zID [zBH c r] H (.bool (okC c r)) H:=zO mixed k_addr_ok (aok_ev c r H)
theorem g_acheck (c r : Int) (H : Heap) : Go.AM.Good Tryz.prog GT zDb [zBH c r] H (if okC c r = true then .nili else zF7 1) H:=zO mixed k_addr_Check (acheck_ev g_aok c r H)
theorem g_nan (a : Int) (H : Heap) : Go.AM.Good Tryz.prog GT zBv [zK a] H (.bool false) H:=zO mixed zJv (nan_ev a H)
theorem g_ccmp (a b : Int) (H : Heap) : Go.AM.Good Tryz.prog GT zBK [zK a,zK b] H (zK (cmp3 a b)) H:=zO mixed zIX (ccmp_ev g_nan a b H)
theorem g_cor (b : Nat) (x y : Int) (H : Heap) (hb : H[b]? = some (.row 1 [zK x,zK y])) : Go.AM.Good Tryz.prog GT zDr [.sl (some false) b 1 0 2] H (zK (if x ≠ 0 then x else y)) H:=zO mixed k_cmp_Or_int_ (cor_ev b x y H hb)
theorem g_acomp (c1 r1 c2 r2 : Int) (H : Heap) : Go.AM.Good Tryz.prog GT zDT [zBH c1 r1,zBH c2 r2] H (zK (cmpC c1 r1 c2 r2)) H:=zO mixed k_addr_Compare (acomp_ev g_ccmp g_cor c1 r1 c2 r2 H)
theorem g_aless (a b : Fil) (H : Heap) : Go.AM.Good Tryz.prog GT zFe [zBH a.col a.row,zBH b.col b.row] H (.bool (zE1 a b)) H:=zO mixed k_addr_Less (aless_ev g_acomp a b H)
theorem g_told_nil (H : Heap) : Go.AM.Good Tryz.prog GT zCt [.nili] H (.int .i64 0) H:=zO mixed zJY (told_nil_ev H)
end
section
variable {m : Int} {ev : Value} (hev : ∃ te pe,ev = .iface te pe)
abbrev GQ (m : Int) (ev : Value) : CSpec:=Go.AM.Good Tryz.prog (gtQ m ev)
include hev in
theorem g_text (s : Bs) (H : Heap) : GQ m ev zAr [.str s] H (eV (zBE s)) H:=zO mixed k_graph_Text (gtext_ev (p_const parK2) (p_parse parK2 (parG hev)) s H)
include hev in
theorem g_check (lv : AV) (l : List Fil) (H : Heap) (hv : view H 3 lv = some (l.map zk)) : GQ m ev zC4 [lv] H (eV (zCW l)) H:=zO mixed k_graph_Check (gcheck_ev g_acheck g_aless (g_text hev) lv l H hv)
theorem g_rcheck (lv : AV) (l : List Fil) (H : Heap) (hv : view H 3 lv = some (l.map zk)) : GQ m ev zBd [lv] H (zJ (zCW l)) H:=q_check refK3 bigG lv l H hv
theorem g_rtext (s : Bs) (H : Heap) : GQ m ev zA0 [.str s] H (zJ (zBE s)) H:=q_text refK2 bigG s H
theorem g_told_err (n : Int) (H : Heap) : GQ m ev zCt [zF7 n] H (.int .i64 n) H:=zO mixed zJY (told_err_ev (fun n old b H hb=>as_good n old b H hb) n H)
theorem g_errN (n : Nat) (H : Heap) : GQ m ev zC2 [eV n,zJ n] H (.bool true) H:=by
 have h : ErrIs (eV n) n:=by
  unfold eV
  by_cases h0 : n = 0
  ·rw [if_pos h0]; exact .inl ⟨rfl,by omega⟩
  ·rw [if_neg h0]; exact .inr rfl
 have:=zO (GT:=gtQ m ev) mixed zKr (same_ev g_told_nil g_told_err (eV n) n n h H) (hn:=by rcases h with ⟨h,_⟩ | h <;> rw [h] <;> rfl)
 rwa [show ((n : Int) == (n : Int)) = true from beq_self_eq_true _] at this
end
end Go.Proofs.YtaohficjbicfgaaGreatDoor
set_option maxRecDepth 20000
namespace Go.AM
def okF (f : Fil) : Prop:=(1 ≤ f.col ∧ f.col ≤ 26) ∧ (1 ≤ f.row ∧ f.row ≤ 99) ∧ f.text.length ≤ 200
theorem okC_iff (c r : Int) : okC c r = true ↔ (1 ≤ c ∧ c ≤ 26) ∧ (1 ≤ r ∧ r ≤ 99):=by
 unfold okC
 simp only [Bool.and_eq_true,decide_eq_true_eq]
 constructor
 ·rintro ⟨⟨⟨h1,h2⟩,h3⟩,h4⟩; exact ⟨⟨h1,h2⟩,h3,h4⟩
 ·rintro ⟨⟨h1,h2⟩,h3,h4⟩; exact ⟨⟨⟨h1,h2⟩,h3⟩,h4⟩
theorem textN_len {s : Bs} (h : zBE s = 0) : s.length ≤ 200:=by
 unfold zBE at h
 by_cases hl : 200 < s.length
 ·rw [if_pos hl] at h; cases h
 ·omega
theorem okF_of {f : Fil} (h1 : okC f.col f.row = true) (h2 : zBE f.text = 0) : okF f:=⟨((okC_iff _ _).1 h1).1,((okC_iff _ _).1 h1).2,textN_len h2⟩
theorem filsN_ok : ∀ (l : List Fil) (prev : Option Fil),zHK prev l = 0 → ∀ f ∈ l,okF f:=by
 intro l
 induction l with
 | nil=>intro _ _ f h; cases h
 | cons g r ih=>
  intro prev h f hf
  unfold zHK at h
  by_cases h0 : filN prev g = 0
  ·rw [if_pos h0] at h
   rcases List.mem_cons.1 hf with rfl | hf
   ·unfold filN at h0
    by_cases h1 : okC f.col f.row = false
    ·rw [if_pos h1] at h0; cases h0
    ·rw [if_neg h1] at h0
     have h1 : okC f.col f.row = true:=by simpa using h1
     have h2 : zBE f.text = 0:=by
      by_cases he : f.text = []
      ·rw [he]; rfl
      ·cases prev with
       | none=>
        have h0 : (if f.text = [] then 3 else zBE f.text) = 0:=h0
        rwa [if_neg he] at h0
       | some p=>
        have h0 : (if zE1 p f = false then 5 else if f.text = [] then 3 else zBE f.text) = 0:=h0
        cases hp : zE1 p f with
        | true=>rw [hp,if_neg (by simp),if_neg he] at h0; exact h0
        | false=>rw [hp,if_pos rfl] at h0; cases h0
     exact okF_of h1 h2
   ·exact ih _ h f hf
  ·rw [if_neg h0] at h; exact absurd h h0
theorem zLD {l : List Fil} (h : zCW l = 0) : l.length ≤ 200 ∧ ∀ f ∈ l,okF f:=by
 unfold zCW at h
 by_cases hl : 200 < l.length
 ·rw [if_pos hl] at h; cases h
 ·rw [if_neg hl] at h
  exact ⟨by omega,filsN_ok l none h⟩
structure SumS where
 i : Nat
 s : Nat
section
variable {C : CSpec} {GT : Nat → Option AV}
structure EntS where
 i : Nat
 s : Nat
def OwnF (H0 H : Heap) (v : AV) (k : Nat) (xs : List AV) : Prop:=∃ b,v = .sl (some false) b k 0 xs.length ∧ H0.length ≤ b ∧ H[b]? = some (.row k xs) ∧ xs ≠ []
theorem OwnF.view {H0 H : Heap} {v : AV} {k : Nat} {xs : List AV} (h : OwnF H0 H v k xs) : view H k v = some xs:=by
 obtain ⟨b,rfl,_,h2,_⟩:=h
 simp [Go.AM.view,h2]
theorem OwnF.keep {H0 H H' : Heap} {v : AV} {k : Nat} {xs : List AV} (h : OwnF H0 H v k xs) (hk : ∀ b x,v.blk = some b → H[b]? = some x → H'[b]? = some x) : OwnF H0 H' v k xs:=by
 obtain ⟨b,rfl,h1,h2,h3⟩:=h
 exact ⟨b,rfl,h1,hk b _ rfl h2,h3⟩
theorem OwnF.push {H0 H : Heap} {v : AV} {k : Nat} {xs : List AV} (h : OwnF H0 H v k xs) (x : ABlk) : OwnF H0 (H ++ [x]) v k xs:=h.keep fun _ _ _ hx=>zD hx
theorem OwnF.frz {H0 H : Heap} {v : AV} {k : Nat} {xs : List AV} (h : OwnF H0 H v k xs) (hO : Old H0 H) : ∃ H',zDo H0.length v H = some (lstF k xs,H') ∧ Old H0 H':=by
 obtain ⟨b,rfl,h1,h2,h3⟩:=h
 refine ⟨H.set b (.frz k xs), ?_,hO.set h1 _⟩
 cases xs with
 | nil=>exact absurd rfl h3
 | cons x xs=>
  simp only [zDo]
  rw [if_neg tO,h2]
  simp [lstF,frzQ]
end
end Go.AM
