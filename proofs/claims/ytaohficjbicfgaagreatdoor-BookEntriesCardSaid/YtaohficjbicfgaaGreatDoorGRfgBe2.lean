/- Several texts of mine in one (Rfg, Rfh, Gq, Be1, Be2). Own work. -/
import Derived.Test.YtaohficjbicfgaaGreatDoorGRfcChk
import Derived.Test.YtaohficjbicfgaaGreatDoorLdQ3
import Derived.Test.YtaohficjbicfgaaGreatDoorGRf5Rf3
import Derived.Test.YtaohficjbicfgaaGreatDoorGAm23Am29
set_option linter.all false
set_option maxRecDepth 20000
namespace Go.AM
theorem cmpC_less (a b : Fil) : zE0 a b = if a.row ≠ b.row then decide (a.row < b.row) else decide (a.col < b.col) := by
 unfold zE0 cmpC cmp3
 by_cases h1 : a.row < b.row
 ·have h2 : a.row ≠ b.row := by omega
  simp [h1, h2]
 ·by_cases h2 : b.row < a.row
  ·have h3 : a.row ≠ b.row := by omega
   simp [h1, h2, h3]
  ·have h3 : a.row = b.row := by omega
   by_cases h4 : a.col < b.col
   ·simp [h3, h4]
   ·by_cases h5 : b.col < a.col
    ·simp [h3, h4, h5]
    ·simp [h3, h4, h5]
theorem zCQ {F : AF} {a s t1 t2 : Nat} {ag : Bool} {H H1 : Heap} {fr : Fr} {v v1 v2 : AV} {cs : List AV} {o : Nat} (hF : F.results = [.cell a s ag, .tmp t1, .tmp t2]) (hk : F.keep = false) (hp : z6 H1 (getF fr a) = some (cs, o)) (hpt : part cs o s ag = some v) (ht1 : getF fr t1 = v1) (ht2 : getF fr t2 = v2)
  (hf : zDj H.length (.tup [v, v1, v2]) H1 = some (.tup [v, v1, v2], H1)) (hb : (AV.tup [v, v1, v2]).bel H.length = true) (ho : Old H H1) : retP F H fr H1 (.tup [v, v1, v2]) H := by
 refine zc hk ?_ hf hb ho
 rw [zFc] at hp ht1 ht2
 simp only [hF, zBq, zJ8, hp, hpt, ht1, ht2, Option.map_some]
 rfl
section
variable {C : CSpec} {GT : Nat → Option AV}
theorem rin_ev (c r : Int) (H : Heap) : EFun C GT zGY [zAu c r] H (.bool (okC c r)) H := by
 refine zf ?_
 unfold okC
 by_cases h1 : 1 ≤ c
 ·rw [decide_eq_true h1]
  by_cases h2 : c ≤ 26
  ·rw [decide_eq_true h2]
   by_cases h3 : 1 ≤ r
   ·rw [decide_eq_true h3]
    refine zCw (x := zAu c r) rfl ?_; refine zB (zK c) zD rfl ?_; refine zR tT ?_; refine zB (zK c) zD rfl ?_; refine zH <| zR tT ?_; refine zB (zK r) zD rfl ?_; refine zH <| zR tT ?_; refine zB (zK r) zD rfl ?_; refine zH ?_
    exact zc rfl rfl rfl rfl ((Old.refl _).push _)
   ·rw [decide_eq_false h3]
    refine zCw (x := zAu c r) rfl ?_; refine zB (zK c) zD rfl ?_; refine zR tT ?_; refine zB (zK c) zD rfl ?_; refine zH <| zR tT ?_; refine zB (zK r) zD rfl ?_; refine zH <| zN tF <| zF ?_
    exact zc rfl rfl rfl rfl ((Old.refl _).push _)
  ·rw [decide_eq_false h2]
   refine zCw (x := zAu c r) rfl ?_; refine zB (zK c) zD rfl ?_; refine zR tT ?_; refine zB (zK c) zD rfl ?_; refine zH <| zN tF <| zF <| zF <| zF ?_
   exact zc rfl rfl rfl rfl ((Old.refl _).push _)
 ·rw [decide_eq_false h1]
  refine zCw (x := zAu c r) rfl ?_; refine zB (zK c) zD rfl ?_; refine zN tF <| zF <| zF <| zF <| zF <| zF ?_
  exact zc rfl rfl rfl rfl ((Old.refl _).push _)
theorem rahead_ev (a b : Fil) (H : Heap) : EFun C GT zD3 [zAu a.col a.row, zAu b.col b.row] H (.bool (zE0 a b)) H := by
 rw [cmpC_less]
 refine zf ?_
 by_cases h : a.row ≠ b.row
 ·rw [if_pos h]
  refine zCw (x := zAu a.col a.row) rfl ?_; refine zCw (x := zAu b.col b.row) rfl ?_; refine zB (zK a.row) (zC zD) rfl ?_; refine zB (zK b.row) zD rfl ?_; refine zR (bne_iff_ne.2 h) ?_; refine zB (zK a.row) (zC zD) rfl ?_; refine zB (zK b.row) zD rfl ?_
  exact zc rfl rfl rfl rfl (((Old.refl _).push _).push _)
 ·rw [if_neg h]
  have h : a.row = b.row := Classical.not_not.1 h
  refine zCw (x := zAu a.col a.row) rfl ?_; refine zCw (x := zAu b.col b.row) rfl ?_; refine zB (zK a.row) (zC zD) rfl ?_; refine zB (zK b.row) zD rfl ?_; refine zN (bne_eq_false_iff_eq.2 h) ?_; refine zB (zK a.col) (zC zD) rfl ?_; refine zB (zK b.col) zD rfl ?_
  exact zc rfl rfl rfl rfl (((Old.refl _).push _).push _)
def RPar (C : CSpec) (s : Bs) : Prop :=
 (∀ n, zDm s = some n → ∀ H, C zCK [.str s] H (.tup [ndV n, zK 0, zK 0]) H) ∧ (zDm s = none → ∀ H, ∃ w e : Int, e ≠ 0 ∧ C zCK [.str s] H (.tup [ndV zY, zK w, zK e]) H)
theorem rparse_ok (hT : ∀ s a H, a ≤ s.length → s.length ≤ 1000 → C zV [.str s, zJ a] H (tkV s a) H) (s : Bs) (hl : s.length ≤ 200) (h61 : s[0]? = some 61) (n : Nd) (e : Nat) (he : e ≤ s.length) (hk : tok s e = .fin)
  (hLo : ∀ b H, H[b]? = some (rP s 1 0) → C zW [pR b, .int .i64 1] H (ndV n) (H.set b (rP s e 0))) (H : Heap) : EFun C GT zCM [.str s] H (.tup [ndV n, zK 0, zK 0]) H := by
 have htk := fun H => hT s e H he tO
 rw [zEg, hk] at htk
 clear hT
 refine zf ?_
 have hne : s ≠ [] := fun x => by subst x; cases h61
 generalize skip s e = q at *
 refine zN tF <| zN (tN hne) ?_; refine zk rfl h61 ?_; refine zF <| zF ?_; refine zU (v := [AV.str s, .int .i64 1, .int .i64 0, .int .i64 0, .int .i64 0]) rfl ?_; refine zCw (x := AV.agg [AV.str s, .int .i64 1, .int .i64 0, .int .i64 0, .int .i64 0]) rfl ?_; refine zm (hLo _ _ hP) (fun h => by cases h) ?_; refine zG (v := ndV n) (AV.cells (ndV n)) zD rfl rfl rfl rfl ?_; refine zB (zK ↑e) (zA tA (zC (zE zD))) rfl ?_
 refine zI (htk _) ?_; refine zG (v := kV (tkK Tok.fin) q (tkE q Tok.fin) (tkT Tok.fin)) (AV.cells (kV (tkK Tok.fin) q (tkE q Tok.fin) (tkT Tok.fin))) zD rfl rfl rfl rfl ?_; refine zB (zK 0) (zA tA (zC (zA tA (zC (zE zD))))) rfl ?_; refine zH ?_; refine zB (zJ (tkK Tok.fin)) (zE zD) rfl ?_; refine zH <| zF ?_; refine zB (zK 0) (zA tA (zC (zA tA (zC (zE zD))))) rfl ?_; refine zF ?_; refine zB (ndV n) (zA tA (zC (zE zD))) rfl ?_
 refine zG (v := ndV n) (AV.cells (ndV n)) (zA tA (zC (zA tA (zC (zA tA (zC zD)))))) rfl rfl rfl rfl ?_
 exact zCQ (o := 0) rfl rfl (zL hP) rfl rfl rfl rfl rfl (by repeat' (first | exact Old.refl _ | refine Old.set ?_ tC _ | refine Old.push ?_ _))
theorem rparse_tail (hT : ∀ s a H, a ≤ s.length → s.length ≤ 1000 → C zV [.str s, zJ a] H (tkV s a) H)
  (hF : ∀ b s p d a e H, H[b]? = some (pB s p 0 0 d) → C zd [pR b, zK a, zK e] H (.tup []) (H.set b (pB s p a e d)))
  (s : Bs) (hl : s.length ≤ 200) (h61 : s[0]? = some 61) (n : Nd) (e : Nat) (he : e ≤ s.length) (hk : tkK (tok s e) ≠ 0)
  (hLo : ∀ b H, H[b]? = some (rP s 1 0) → C zW [pR b, .int .i64 1] H (ndV n) (H.set b (rP s e 0))) (H : Heap) : EFun C GT zCM [.str s] H (.tup [ndV zY, zJ (skip s e), zK 2]) H := by
 have htk := fun H => hT s e H he tO
 rw [zEg] at htk
 have hf := fun b H => hF b s e 0 (skip s e : Nat) 2 H
 clear hT hF
 refine zf ?_
 have hne : s ≠ [] := fun x => by subst x; cases h61
 generalize tkE (skip s e) (tok s e) = ee at *
 generalize tkK (tok s e) = kk at *
 generalize tkT (tok s e) = t at *
 generalize skip s e = q at *
 refine zN tF <| zN (tN hne) ?_; refine zk rfl h61 ?_; refine zF <| zF ?_; refine zU (v := [AV.str s, .int .i64 1, .int .i64 0, .int .i64 0, .int .i64 0]) rfl ?_; refine zCw (x := AV.agg [AV.str s, .int .i64 1, .int .i64 0, .int .i64 0, .int .i64 0]) rfl ?_; refine zm (hLo _ _ hP) (fun h => by cases h) ?_; refine zG (v := ndV n) (AV.cells (ndV n)) zD rfl rfl rfl rfl ?_; refine zB (zK ↑e) (zA tA (zC (zE zD))) rfl ?_
 refine zI (htk _) ?_; refine zG (v := kV kk q ee t) (AV.cells (kV kk q ee t)) zD rfl rfl rfl rfl ?_; refine zB (zK 0) (zA tA (zC (zA tA (zC (zE zD))))) rfl ?_; refine zR (tE (by rfl)) ?_; refine zB (zJ kk) (zE zD) rfl ?_; refine zH <| zR (bne_iff_ne.2 tO) ?_; refine zB (zJ q) (zE zD) rfl ?_; refine zm (hf _ _ hP) (fun h => by cases h) ?_; refine zB (zK 2) (zE (zA tA (zC (zA tA (zC (zE zD)))))) rfl ?_
 refine zR (bne_iff_ne.2 tO) ?_; refine zU (v := [.int .i64 0, .int .i64 0, AV.str [], .int .i64 0, .int .i64 0, AV.bool false, AV.bool false, .int .i64 0, .int .i64 0, AV.bool false, AV.bool false, AV.lst (some true) 0 []]) rfl ?_; refine zGP ?_ ?_
 ·refine zB (zK ↑q) (zE (zA tA (zC (zA tA (zC (zE zD)))))) rfl ?_; refine zGP ?_ ?_
  ·refine zB (zK 2) (zE (zA tA (zC (zA tA (zC (zE zD)))))) rfl ?_; refine zG (v := AV.agg [.int .i64 0, .int .i64 0, AV.str [], .int .i64 0, .int .i64 0, AV.bool false, AV.bool false, .int .i64 0, .int .i64 0, AV.bool false, AV.bool false, AV.lst (some true) 0 []]) (AV.cells (AV.agg [.int .i64 0, .int .i64 0, AV.str [], .int .i64 0, .int .i64 0, AV.bool false, AV.bool false, .int .i64 0, .int .i64 0, AV.bool false, AV.bool false, AV.lst (some true) 0 []])) (zA tA (zA tA (zC (zA tA (zC (zA tA (zC zD))))))) rfl rfl rfl rfl ?_
   exact zCQ (o := 0) rfl rfl (zL hP) rfl rfl rfl rfl rfl (by repeat' (first | exact Old.refl _ | refine Old.set ?_ tC _ | refine Old.push ?_ _))
  ·refine zG (v := AV.agg [.int .i64 0, .int .i64 0, AV.str [], .int .i64 0, .int .i64 0, AV.bool false, AV.bool false, .int .i64 0, .int .i64 0, AV.bool false, AV.bool false, AV.lst (some true) 0 []]) (AV.cells (AV.agg [.int .i64 0, .int .i64 0, AV.str [], .int .i64 0, .int .i64 0, AV.bool false, AV.bool false, .int .i64 0, .int .i64 0, AV.bool false, AV.bool false, AV.lst (some true) 0 []])) (zA tA (zA tA (zC (zA tA (zC (zA tA (zC zD))))))) rfl rfl rfl rfl ?_
   refine zB (zK 2) (zA tA (zE (zA tA (zC (zA tA (zC (zE zD))))))) rfl ?_
   exact zCQ (o := 0) rfl rfl (zL hP) rfl rfl rfl rfl rfl (by repeat' (first | exact Old.refl _ | refine Old.set ?_ tC _ | refine Old.push ?_ _))
 ·refine zGP ?_ ?_
  ·refine zB (zK 2) (zE (zA tA (zC (zA tA (zC (zE zD)))))) rfl ?_; refine zGP ?_ ?_
   ·refine zB (zK ↑q) (zE (zA tA (zC (zA tA (zC (zE zD)))))) rfl ?_; refine zG (v := AV.agg [.int .i64 0, .int .i64 0, AV.str [], .int .i64 0, .int .i64 0, AV.bool false, AV.bool false, .int .i64 0, .int .i64 0, AV.bool false, AV.bool false, AV.lst (some true) 0 []]) (AV.cells (AV.agg [.int .i64 0, .int .i64 0, AV.str [], .int .i64 0, .int .i64 0, AV.bool false, AV.bool false, .int .i64 0, .int .i64 0, AV.bool false, AV.bool false, AV.lst (some true) 0 []])) (zA tA (zA tA (zC (zA tA (zC (zA tA (zC zD))))))) rfl rfl rfl rfl ?_
    exact zCQ (o := 0) rfl rfl (zL hP) rfl rfl rfl rfl rfl (by repeat' (first | exact Old.refl _ | refine Old.set ?_ tC _ | refine Old.push ?_ _))
   ·refine zG (v := AV.agg [.int .i64 0, .int .i64 0, AV.str [], .int .i64 0, .int .i64 0, AV.bool false, AV.bool false, .int .i64 0, .int .i64 0, AV.bool false, AV.bool false, AV.lst (some true) 0 []]) (AV.cells (AV.agg [.int .i64 0, .int .i64 0, AV.str [], .int .i64 0, .int .i64 0, AV.bool false, AV.bool false, .int .i64 0, .int .i64 0, AV.bool false, AV.bool false, AV.lst (some true) 0 []])) (zA tA (zA tA (zC (zA tA (zC (zA tA (zC zD))))))) rfl rfl rfl rfl ?_
    refine zB (zK ↑q) (zA tA (zE (zA tA (zC (zA tA (zC (zE zD))))))) rfl ?_
    exact zCQ (o := 0) rfl rfl (zL hP) rfl rfl rfl rfl rfl (by repeat' (first | exact Old.refl _ | refine Old.set ?_ tC _ | refine Old.push ?_ _))
  ·refine zG (v := AV.agg [.int .i64 0, .int .i64 0, AV.str [], .int .i64 0, .int .i64 0, AV.bool false, AV.bool false, .int .i64 0, .int .i64 0, AV.bool false, AV.bool false, AV.lst (some true) 0 []]) (AV.cells (AV.agg [.int .i64 0, .int .i64 0, AV.str [], .int .i64 0, .int .i64 0, AV.bool false, AV.bool false, .int .i64 0, .int .i64 0, AV.bool false, AV.bool false, AV.lst (some true) 0 []])) (zA tA (zA tA (zC (zA tA (zC (zA tA (zC zD))))))) rfl rfl rfl rfl ?_
   refine zB (zK ↑q) (zA tA (zE (zA tA (zC (zA tA (zC (zE zD))))))) rfl ?_; refine zB (zK 2) (zA tA (zE (zA tA (zC (zA tA (zC (zE zD))))))) rfl ?_
   exact zCQ (o := 0) rfl rfl (zL hP) rfl rfl rfl rfl rfl (by repeat' (first | exact Old.refl _ | refine Old.set ?_ tC _ | refine Old.push ?_ _))
theorem rparse_bad (hT : ∀ s a H, a ≤ s.length → s.length ≤ 1000 → C zV [.str s, zJ a] H (tkV s a) H)
  (s : Bs) (hl : s.length ≤ 200) (h61 : s[0]? = some 61) (n : Nd) (a : Nat) (w e d : Int) (ha : a ≤ s.length) (he : e ≠ 0) (H : Heap)
  (hLo : ∀ H', H'[(H ++ [ABlk.box (ndC zY)]).length]? = some (rP s 1 0) → C zW [pR (H ++ [ABlk.box (ndC zY)]).length, .int .i64 1] H' (ndV n) (H'.set (H ++ [ABlk.box (ndC zY)]).length (pB s a w e d))) : EFun C GT zCM [.str s] H (.tup [ndV zY, zK w, zK e]) H := by
 have htk := fun H => hT s a H ha tO
 rw [zEg] at htk
 clear hT
 refine zf ?_
 have hne : s ≠ [] := fun x => by subst x; cases h61
 generalize tkE (skip s a) (tok s a) = ee at *
 generalize tkK (tok s a) = kk at *
 generalize tkT (tok s a) = t at *
 generalize skip s a = q at *
 refine zN tF <| zN (tN hne) ?_; refine zk rfl h61 ?_; refine zF <| zF ?_; refine zU (v := [AV.str s, .int .i64 1, .int .i64 0, .int .i64 0, .int .i64 0]) rfl ?_; refine zCw (x := AV.agg [AV.str s, .int .i64 1, .int .i64 0, .int .i64 0, .int .i64 0]) rfl ?_; refine zm (hLo _ hP) (fun h => by cases h) ?_; refine zG (v := ndV n) (AV.cells (ndV n)) zD rfl rfl rfl rfl ?_; refine zB (zK ↑a) (zA tA (zC (zE zD))) rfl ?_
 refine zI (htk _) ?_; refine zG (v := kV kk q ee t) (AV.cells (kV kk q ee t)) zD rfl rfl rfl rfl ?_; refine zB (zK e) (zA tA (zC (zA tA (zC (zE zD))))) rfl ?_; refine zN tF <| zF <| zF ?_; refine zB (zK e) (zA tA (zC (zA tA (zC (zE zD))))) rfl ?_; refine zR (bne_iff_ne.2 he) ?_; refine zU (v := [.int .i64 0, .int .i64 0, AV.str [], .int .i64 0, .int .i64 0, AV.bool false, AV.bool false, .int .i64 0, .int .i64 0, AV.bool false, AV.bool false, AV.lst (some true) 0 []]) rfl ?_
 refine zGP ?_ ?_
 ·refine zB (zK w) (zA tA (zC (zA tA (zC (zE zD))))) rfl ?_; refine zGP ?_ ?_
  ·refine zB (zK e) (zA tA (zC (zA tA (zC (zE zD))))) rfl ?_; refine zG (v := AV.agg [.int .i64 0, .int .i64 0, AV.str [], .int .i64 0, .int .i64 0, AV.bool false, AV.bool false, .int .i64 0, .int .i64 0, AV.bool false, AV.bool false, AV.lst (some true) 0 []]) (AV.cells (AV.agg [.int .i64 0, .int .i64 0, AV.str [], .int .i64 0, .int .i64 0, AV.bool false, AV.bool false, .int .i64 0, .int .i64 0, AV.bool false, AV.bool false, AV.lst (some true) 0 []])) (zA tA (zC (zA tA (zC (zA tA (zC zD)))))) rfl rfl rfl rfl ?_
   exact zCQ (o := 0) rfl rfl (zL hP) rfl rfl rfl rfl rfl (by repeat' (first | exact Old.refl _ | refine Old.set ?_ tC _ | refine Old.push ?_ _))
  ·refine zG (v := AV.agg [.int .i64 0, .int .i64 0, AV.str [], .int .i64 0, .int .i64 0, AV.bool false, AV.bool false, .int .i64 0, .int .i64 0, AV.bool false, AV.bool false, AV.lst (some true) 0 []]) (AV.cells (AV.agg [.int .i64 0, .int .i64 0, AV.str [], .int .i64 0, .int .i64 0, AV.bool false, AV.bool false, .int .i64 0, .int .i64 0, AV.bool false, AV.bool false, AV.lst (some true) 0 []])) (zA tA (zC (zA tA (zC (zA tA (zC zD)))))) rfl rfl rfl rfl ?_
   refine zB (zK e) (zA tA (zA tA (zC (zA tA (zC (zE zD)))))) rfl ?_
   exact zCQ (o := 0) rfl rfl (zL hP) rfl rfl rfl rfl rfl (by repeat' (first | exact Old.refl _ | refine Old.set ?_ tC _ | refine Old.push ?_ _))
 ·refine zGP ?_ ?_
  ·refine zB (zK e) (zA tA (zC (zA tA (zC (zE zD))))) rfl ?_; refine zGP ?_ ?_
   ·refine zB (zK w) (zA tA (zC (zA tA (zC (zE zD))))) rfl ?_; refine zG (v := AV.agg [.int .i64 0, .int .i64 0, AV.str [], .int .i64 0, .int .i64 0, AV.bool false, AV.bool false, .int .i64 0, .int .i64 0, AV.bool false, AV.bool false, AV.lst (some true) 0 []]) (AV.cells (AV.agg [.int .i64 0, .int .i64 0, AV.str [], .int .i64 0, .int .i64 0, AV.bool false, AV.bool false, .int .i64 0, .int .i64 0, AV.bool false, AV.bool false, AV.lst (some true) 0 []])) (zA tA (zC (zA tA (zC (zA tA (zC zD)))))) rfl rfl rfl rfl ?_
    exact zCQ (o := 0) rfl rfl (zL hP) rfl rfl rfl rfl rfl (by repeat' (first | exact Old.refl _ | refine Old.set ?_ tC _ | refine Old.push ?_ _))
   ·refine zG (v := AV.agg [.int .i64 0, .int .i64 0, AV.str [], .int .i64 0, .int .i64 0, AV.bool false, AV.bool false, .int .i64 0, .int .i64 0, AV.bool false, AV.bool false, AV.lst (some true) 0 []]) (AV.cells (AV.agg [.int .i64 0, .int .i64 0, AV.str [], .int .i64 0, .int .i64 0, AV.bool false, AV.bool false, .int .i64 0, .int .i64 0, AV.bool false, AV.bool false, AV.lst (some true) 0 []])) (zA tA (zC (zA tA (zC (zA tA (zC zD)))))) rfl rfl rfl rfl ?_
    refine zB (zK w) (zA tA (zA tA (zC (zA tA (zC (zE zD)))))) rfl ?_
    exact zCQ (o := 0) rfl rfl (zL hP) rfl rfl rfl rfl rfl (by repeat' (first | exact Old.refl _ | refine Old.set ?_ tC _ | refine Old.push ?_ _))
  ·refine zG (v := AV.agg [.int .i64 0, .int .i64 0, AV.str [], .int .i64 0, .int .i64 0, AV.bool false, AV.bool false, .int .i64 0, .int .i64 0, AV.bool false, AV.bool false, AV.lst (some true) 0 []]) (AV.cells (AV.agg [.int .i64 0, .int .i64 0, AV.str [], .int .i64 0, .int .i64 0, AV.bool false, AV.bool false, .int .i64 0, .int .i64 0, AV.bool false, AV.bool false, AV.lst (some true) 0 []])) (zA tA (zC (zA tA (zC (zA tA (zC zD)))))) rfl rfl rfl rfl ?_
   refine zB (zK w) (zA tA (zA tA (zC (zA tA (zC (zE zD)))))) rfl ?_; refine zB (zK e) (zA tA (zA tA (zC (zA tA (zC (zE zD)))))) rfl ?_
   exact zCQ (o := 0) rfl rfl (zL hP) rfl rfl rfl rfl rfl (by repeat' (first | exact Old.refl _ | refine Old.set ?_ tC _ | refine Old.push ?_ _))
end
end Go.AM
set_option maxRecDepth 20000
namespace Go.AM
theorem idx_two {v : AV} {H : Heap} {k : Nat} {xs : List AV} (hv : view H k v = some xs) : (∀ (n : Int) (i : Nat) (x : AV) (K : AV → Prop), n = (i : Int) → xs[i]? = some x → K (.lref x 0) → idxN k v n K) ∨
  (∀ (n : Int) (i : Nat) (x : AV) (K : AV → Prop), n = (i : Int) → xs[i]? = some x → (∀ b j, (∀ o, z6 H (.ref b k j o) = some (x.cells, o)) → K (.ref b k j 0)) → idxN k v n K) := by
 unfold view at hv
 split at hv
 ·split at hv
  ·rename_i hk
   cases hv; subst hk
   exact .inl fun n i x K hn hx q => sIdx hn hx q
  ·split at hv
   ·cases hv
    exact .inl fun n i x K hn hx q => by simp at hx
   ·cases hv
 ·refine .inr fun n i x K hn hx q2 => ?_
  have hlt := (zg hx).1
  rw [zGx]; unfold idxNW
  simp only
  split at hv
  ·rename_i hk
   subst hk
   split at hv
   ·rename_i hb
    split at hv
    ·rename_i hc
     cases hv
     rw [List.length_take, List.length_drop] at hlt
     rw [List.getElem?_take, if_pos tO, List.getElem?_drop] at hx
     subst hn
     rw [hc.1] at hb
     refine zDz ⟨rfl, by omega, by omega⟩ (q2 _ _ fun o => ?_)
     show z6 H (.ref _ _ _ _) = _
     simp only [z6, hb, if_true, Int.toNat_natCast, hx, Option.map_some]
    ·cases hv
   ·rename_i hb
    split at hv
    ·rename_i hc
     cases hv
     rw [List.length_take, List.length_drop] at hlt
     rw [List.getElem?_take, if_pos tO, List.getElem?_drop] at hx
     subst hn
     rw [hc.1] at hb
     refine zDz ⟨rfl, by omega, by omega⟩ (q2 _ _ fun o => ?_)
     show z6 H (.ref _ _ _ _) = _
     simp only [z6, hb, if_true, Int.toNat_natCast, hx, Option.map_some]
    ·cases hv
   ·cases hv
  ·cases hv
 ·cases hv
section
variable {C : CSpec} {GT : Nat → Option AV}
theorem rtext_ev (hP : ∀ s, s.length ≤ 200 → s.head? = some 61 → RPar C s) (s : Bs) (H : Heap) : EFun C GT zEo [.str s] H (zJ (zBG s)) H := by
 have hp := hP s
 clear hP
 refine zf ?_
 unfold zBG
 by_cases hl : 200 < s.length
 ·rw [if_pos hl]
  clear hp
  refine zR tT ?_
  exact zc rfl rfl rfl rfl (Old.refl _)
 ·rw [if_neg hl]
  cases s with
  | nil =>
   clear hp
   refine zN tF <| zF <| zF <| zF ?_
   exact zc rfl rfl rfl rfl (Old.refl _)
  | cons c r =>
   have hne : (c :: r) ≠ [] := by simp
   have h0 : (c :: r)[0]? = some c := rfl
   by_cases h : c = 61
   ·subst h
    have hp := hp tO rfl
    rw [if_pos (show (61 :: r : Bs).head? = some 61 from rfl)]
    obtain ⟨s, hs⟩ : ∃ s : Bs, (61 :: r : Bs) = s := ⟨_, rfl⟩
    rw [hs] at hl hp hne h0 ⊢
    cases hq : zDm s with
    | some n =>
     have hp := hp.1 n hq
     refine zN tF <| zR (bne_iff_ne.2 hne) ?_; refine zk rfl h0 ?_; refine zH <| zH ?_; refine zI (hp _) ?_; refine zU rfl ?_; refine zU rfl ?_; refine zU rfl ?_; refine zG (v := ndV n) (AV.cells (ndV n)) zD rfl rfl rfl rfl ?_; refine zF ?_
     exact zc rfl rfl rfl rfl (((Old.refl _).push _).set tA _)
    | none =>
     obtain ⟨w, e, he, hp⟩ := hp.2 hq H
     refine zN tF <| zR (bne_iff_ne.2 hne) ?_; refine zk rfl h0 ?_; refine zH <| zH ?_; refine zI hp ?_; refine zU rfl ?_; refine zU rfl ?_; refine zU rfl ?_; refine zG (v := ndV zY) (AV.cells (ndV zY)) zD rfl rfl rfl rfl ?_; refine zR (bne_iff_ne.2 he) ?_
     exact zc rfl rfl rfl rfl (((Old.refl _).push _).set tA _)
   ·rw [if_neg (show ¬ (c :: r : Bs).head? = some 61 from fun x => h (Option.some.inj x))]
    clear hp
    obtain ⟨s, hs⟩ : ∃ s : Bs, (c :: r : Bs) = s := ⟨_, rfl⟩
    rw [hs] at hl hne h0 ⊢
    refine zN tF <| zR (bne_iff_ne.2 hne) ?_; refine zk rfl h0 ?_; refine zH <| zN (tN (fun x => h (UInt8.toNat_inj.1 (by have : (61 : UInt8).toNat = 61 := rfl; omega)))) ?_
    exact zc rfl rfl rfl rfl (Old.refl _)
theorem rcheck_ev (hA : ∀ c r H, C zCH [zAu c r] H (.bool (okC c r)) H) (hL : ∀ a b H, C zCL [zAu a.col a.row, zAu b.col b.row] H (.bool (zE0 a b)) H) (hT : ∀ s H, C zA0 [.str s] H (zJ (zBG s)) H)
  (lv : AV) (l : List Fil) (H : Heap) (hv : view H 3 lv = some (l.map zu)) : EFun C GT zD2 [lv] H (zJ (zAx l)) H := by
 have hlm : (l.map zu).length = l.length := List.length_map _
 refine zf ?_
 unfold zAx
 by_cases hl : 200 < l.length
 ·rw [if_pos hl]
  clear hA hL hT
  refine zB1 hv ?_; refine zR tT ?_
  exact zc rfl rfl rfl rfl (Old.refl _)
 rw [if_neg hl]
 obtain ⟨r, hr⟩ : ∃ r, zHH none l = r := ⟨_, rfl⟩
 rw [hr]
 refine zB1 hv ?_; refine zN tF ?_; refine zBL (fun i : Nat => [(3, zJ i), (0, lv)]) (fun i H' => H' = H ∧ i ≤ l.length ∧ zHH (if i = 0 then none else l[i - 1]?) (l.drop i) = r) (fun i => l.length - i) 0 rfl ⟨rfl, by omega, hr⟩ (fun i H1 ⟨hH, hi, hq⟩ => ?_)
 subst hH
 dsimp only
 by_cases hlt : i < l.length
 ·obtain ⟨f, hf⟩ : ∃ f, l[i]? = some f := ⟨_, List.getElem?_eq_getElem hlt⟩
  have hfm : (l.map zu)[i]? = some (zu f) := by rw [List.getElem?_map, hf]; rfl
  rw [filsN_drop l i f hf] at hq
  have ha := hA f.col f.row
  have ht := hT f.text
  clear hA hT
  unfold filN at hq
  rcases idx_two hv with hx | hx
  ·cases hok : okC f.col f.row with
   | false =>
    rw [hok] at ha hq
    have hq : 1 = r := hq
    subst hq
    clear hL ht
    refine zB1 hv ?_; refine zR tT ?_; refine hx _ i (zu f) _ rfl hfm ?_; refine zz (zAu f.col f.row) rfl ?_; refine zI (ha _) ?_; refine zH ?_
    exact zc rfl rfl rfl rfl (Old.refl _)
   | true =>
    rw [hok] at ha hq
    rw [if_neg (by simp : ¬ (true = false))] at hq
    by_cases hi0 : i = 0
    ·rw [if_pos hi0] at hq
     have hq : (if (if f.text = [] then 3 else zBG f.text) = 0 then zHH (some f) (l.drop (i + 1)) else if f.text = [] then 3 else zBG f.text) = r := hq
     clear hL
     by_cases h0 : f.text = []
     ·rw [if_pos h0] at hq
      have hq : 3 = r := hq
      subst hq
      clear ht
      refine zB1 hv ?_; refine zR tT ?_; refine hx _ i (zu f) _ rfl hfm ?_; refine zz (zAu f.col f.row) rfl ?_; refine zI (ha _) ?_; refine zF <| zN tF <| zF <| zF ?_; refine hx _ i (zu f) _ rfl hfm ?_; refine zz (.str f.text) rfl ?_; refine zR (tE h0) ?_
      exact zc rfl rfl rfl rfl (Old.refl _)
     ·rw [if_neg h0] at hq
      by_cases hz : zBG f.text = 0
      ·rw [if_pos hz] at hq
       rw [hz] at ht
       refine zB1 hv ?_; refine zR tT ?_; refine hx _ i (zu f) _ rfl hfm ?_; refine zz (zAu f.col f.row) rfl ?_; refine zI (ha _) ?_; refine zF <| zN tF <| zF <| zF ?_; refine hx _ i (zu f) _ rfl hfm ?_; refine zz (.str f.text) rfl ?_; refine zN (tN h0) ?_; refine hx _ i (zu f) _ rfl hfm ?_; refine zz (.str f.text) rfl ?_; refine zI (ht _) ?_; refine zF ?_; refine zO (r := i + 1) rfl tO ?_; refine zAb (i + 1) rfl ⟨rfl, by omega, ?_⟩ tO
       rw [if_neg tO, Nat.add_sub_cancel, hf]
       exact hq
      ·rw [if_neg hz] at hq
       subst hq
       refine zB1 hv ?_; refine zR tT ?_; refine hx _ i (zu f) _ rfl hfm ?_; refine zz (zAu f.col f.row) rfl ?_; refine zI (ha _) ?_; refine zF <| zN tF <| zF <| zF ?_; refine hx _ i (zu f) _ rfl hfm ?_; refine zz (.str f.text) rfl ?_; refine zN (tN h0) ?_; refine hx _ i (zu f) _ rfl hfm ?_; refine zz (.str f.text) rfl ?_; refine zI (ht _) ?_; refine zR (bne_iff_ne.2 tO) ?_
       exact zc rfl rfl rfl rfl (Old.refl _)
    ·obtain ⟨g, hg⟩ : ∃ g, l[i - 1]? = some g := ⟨_, List.getElem?_eq_getElem tO⟩
     have hgm : (l.map zu)[i - 1]? = some (zu g) := by rw [List.getElem?_map, hg]; rfl
     rw [if_neg hi0, hg] at hq
     have hq : (if (if zE0 g f = false then 5 else if f.text = [] then 3 else zBG f.text) = 0 then zHH (some f) (l.drop (i + 1)) else if zE0 g f = false then 5 else if f.text = [] then 3 else zBG f.text) = r := hq
     have hls := hL g f
     clear hL
     cases hlp : zE0 g f with
     | false =>
      rw [hlp] at hls hq
      have hq : 5 = r := hq
      subst hq
      clear ht
      refine zB1 hv ?_; refine zR tT ?_; refine hx _ i (zu f) _ rfl hfm ?_; refine zz (zAu f.col f.row) rfl ?_; refine zI (ha _) ?_; refine zF <| zR tT ?_; refine zO (r := i - 1) tO tO ?_; refine hx _ (i - 1) (zu g) _ tO hgm ?_; refine zz (zAu g.col g.row) rfl ?_; refine hx _ i (zu f) _ rfl hfm ?_; refine zz (zAu f.col f.row) rfl ?_; refine zI (hls _) ?_; refine zH <| zH ?_
      exact zc rfl rfl rfl rfl (Old.refl _)
     | true =>
      rw [hlp] at hls hq
      rw [if_neg (by simp : ¬ (true = false))] at hq
      by_cases h0 : f.text = []
      ·rw [if_pos h0] at hq
       have hq : 3 = r := hq
       subst hq
       clear ht
       refine zB1 hv ?_; refine zR tT ?_; refine hx _ i (zu f) _ rfl hfm ?_; refine zz (zAu f.col f.row) rfl ?_; refine zI (ha _) ?_; refine zF <| zR tT ?_; refine zO (r := i - 1) tO tO ?_; refine hx _ (i - 1) (zu g) _ tO hgm ?_; refine zz (zAu g.col g.row) rfl ?_; refine hx _ i (zu f) _ rfl hfm ?_; refine zz (zAu f.col f.row) rfl ?_; refine zI (hls _) ?_; refine zH <| zF ?_; refine hx _ i (zu f) _ rfl hfm ?_
       refine zz (.str f.text) rfl ?_; refine zR (tE h0) ?_
       exact zc rfl rfl rfl rfl (Old.refl _)
      ·rw [if_neg h0] at hq
       by_cases hz : zBG f.text = 0
       ·rw [if_pos hz] at hq
        rw [hz] at ht
        refine zB1 hv ?_; refine zR tT ?_; refine hx _ i (zu f) _ rfl hfm ?_; refine zz (zAu f.col f.row) rfl ?_; refine zI (ha _) ?_; refine zF <| zR tT ?_; refine zO (r := i - 1) tO tO ?_; refine hx _ (i - 1) (zu g) _ tO hgm ?_; refine zz (zAu g.col g.row) rfl ?_; refine hx _ i (zu f) _ rfl hfm ?_; refine zz (zAu f.col f.row) rfl ?_; refine zI (hls _) ?_; refine zH <| zF ?_; refine hx _ i (zu f) _ rfl hfm ?_
        refine zz (.str f.text) rfl ?_; refine zN (tN h0) ?_; refine hx _ i (zu f) _ rfl hfm ?_; refine zz (.str f.text) rfl ?_; refine zI (ht _) ?_; refine zF ?_; refine zO (r := i + 1) rfl tO ?_; refine zAb (i + 1) rfl ⟨rfl, by omega, ?_⟩ tO
        rw [if_neg tO, Nat.add_sub_cancel, hf]
        exact hq
       ·rw [if_neg hz] at hq
        subst hq
        refine zB1 hv ?_; refine zR tT ?_; refine hx _ i (zu f) _ rfl hfm ?_; refine zz (zAu f.col f.row) rfl ?_; refine zI (ha _) ?_; refine zF <| zR tT ?_; refine zO (r := i - 1) tO tO ?_; refine hx _ (i - 1) (zu g) _ tO hgm ?_; refine zz (zAu g.col g.row) rfl ?_; refine hx _ i (zu f) _ rfl hfm ?_; refine zz (zAu f.col f.row) rfl ?_; refine zI (hls _) ?_; refine zH <| zF ?_; refine hx _ i (zu f) _ rfl hfm ?_
        refine zz (.str f.text) rfl ?_; refine zN (tN h0) ?_; refine hx _ i (zu f) _ rfl hfm ?_; refine zz (.str f.text) rfl ?_; refine zI (ht _) ?_; refine zR (bne_iff_ne.2 tO) ?_
        exact zc rfl rfl rfl rfl (Old.refl _)
  ·cases hok : okC f.col f.row with
   | false =>
    rw [hok] at ha hq
    have hq : 1 = r := hq
    subst hq
    clear hL ht
    refine zB1 hv ?_; refine zR tT ?_; refine hx _ i (zu f) _ rfl hfm (fun b2 j2 hp2 => ?_)
    refine zAL (zAu f.col f.row) (hp2 _) rfl ?_; refine zI (ha _) ?_; refine zH ?_
    exact zc rfl rfl rfl rfl (Old.refl _)
   | true =>
    rw [hok] at ha hq
    rw [if_neg (by simp : ¬ (true = false))] at hq
    by_cases hi0 : i = 0
    ·rw [if_pos hi0] at hq
     have hq : (if (if f.text = [] then 3 else zBG f.text) = 0 then zHH (some f) (l.drop (i + 1)) else if f.text = [] then 3 else zBG f.text) = r := hq
     clear hL
     by_cases h0 : f.text = []
     ·rw [if_pos h0] at hq
      have hq : 3 = r := hq
      subst hq
      clear ht
      refine zB1 hv ?_; refine zR tT ?_; refine hx _ i (zu f) _ rfl hfm (fun b2 j2 hp2 => ?_)
      refine zAL (zAu f.col f.row) (hp2 _) rfl ?_; refine zI (ha _) ?_; refine zF <| zN tF <| zF <| zF ?_; refine hx _ i (zu f) _ rfl hfm (fun b2 j2 hp2 => ?_)
      refine zAL (.str f.text) (hp2 _) rfl ?_; refine zR (tE h0) ?_
      exact zc rfl rfl rfl rfl (Old.refl _)
     ·rw [if_neg h0] at hq
      by_cases hz : zBG f.text = 0
      ·rw [if_pos hz] at hq
       rw [hz] at ht
       refine zB1 hv ?_; refine zR tT ?_; refine hx _ i (zu f) _ rfl hfm (fun b2 j2 hp2 => ?_)
       refine zAL (zAu f.col f.row) (hp2 _) rfl ?_; refine zI (ha _) ?_; refine zF <| zN tF <| zF <| zF ?_; refine hx _ i (zu f) _ rfl hfm (fun b2 j2 hp2 => ?_)
       refine zAL (.str f.text) (hp2 _) rfl ?_; refine zN (tN h0) ?_; refine hx _ i (zu f) _ rfl hfm (fun b2 j2 hp2 => ?_)
       refine zAL (.str f.text) (hp2 _) rfl ?_; refine zI (ht _) ?_; refine zF ?_; refine zO (r := i + 1) rfl tO ?_; refine zAb (i + 1) rfl ⟨rfl, by omega, ?_⟩ tO
       rw [if_neg tO, Nat.add_sub_cancel, hf]
       exact hq
      ·rw [if_neg hz] at hq
       subst hq
       refine zB1 hv ?_; refine zR tT ?_; refine hx _ i (zu f) _ rfl hfm (fun b2 j2 hp2 => ?_)
       refine zAL (zAu f.col f.row) (hp2 _) rfl ?_; refine zI (ha _) ?_; refine zF <| zN tF <| zF <| zF ?_; refine hx _ i (zu f) _ rfl hfm (fun b2 j2 hp2 => ?_)
       refine zAL (.str f.text) (hp2 _) rfl ?_; refine zN (tN h0) ?_; refine hx _ i (zu f) _ rfl hfm (fun b2 j2 hp2 => ?_)
       refine zAL (.str f.text) (hp2 _) rfl ?_; refine zI (ht _) ?_; refine zR (bne_iff_ne.2 tO) ?_
       exact zc rfl rfl rfl rfl (Old.refl _)
    ·obtain ⟨g, hg⟩ : ∃ g, l[i - 1]? = some g := ⟨_, List.getElem?_eq_getElem tO⟩
     have hgm : (l.map zu)[i - 1]? = some (zu g) := by rw [List.getElem?_map, hg]; rfl
     rw [if_neg hi0, hg] at hq
     have hq : (if (if zE0 g f = false then 5 else if f.text = [] then 3 else zBG f.text) = 0 then zHH (some f) (l.drop (i + 1)) else if zE0 g f = false then 5 else if f.text = [] then 3 else zBG f.text) = r := hq
     have hls := hL g f
     clear hL
     cases hlp : zE0 g f with
     | false =>
      rw [hlp] at hls hq
      have hq : 5 = r := hq
      subst hq
      clear ht
      refine zB1 hv ?_; refine zR tT ?_; refine hx _ i (zu f) _ rfl hfm (fun b2 j2 hp2 => ?_)
      refine zAL (zAu f.col f.row) (hp2 _) rfl ?_; refine zI (ha _) ?_; refine zF <| zR tT ?_; refine zO (r := i - 1) tO tO ?_; refine hx _ (i - 1) (zu g) _ tO hgm (fun b2 j2 hp2 => ?_)
      refine zAL (zAu g.col g.row) (hp2 _) rfl ?_; refine hx _ i (zu f) _ rfl hfm (fun b2 j2 hp2 => ?_)
      refine zAL (zAu f.col f.row) (hp2 _) rfl ?_; refine zI (hls _) ?_; refine zH <| zH ?_
      exact zc rfl rfl rfl rfl (Old.refl _)
     | true =>
      rw [hlp] at hls hq
      rw [if_neg (by simp : ¬ (true = false))] at hq
      by_cases h0 : f.text = []
      ·rw [if_pos h0] at hq
       have hq : 3 = r := hq
       subst hq
       clear ht
       refine zB1 hv ?_; refine zR tT ?_; refine hx _ i (zu f) _ rfl hfm (fun b2 j2 hp2 => ?_)
       refine zAL (zAu f.col f.row) (hp2 _) rfl ?_; refine zI (ha _) ?_; refine zF <| zR tT ?_; refine zO (r := i - 1) tO tO ?_; refine hx _ (i - 1) (zu g) _ tO hgm (fun b2 j2 hp2 => ?_)
       refine zAL (zAu g.col g.row) (hp2 _) rfl ?_; refine hx _ i (zu f) _ rfl hfm (fun b2 j2 hp2 => ?_)
       refine zAL (zAu f.col f.row) (hp2 _) rfl ?_; refine zI (hls _) ?_; refine zH <| zF ?_; refine hx _ i (zu f) _ rfl hfm (fun b2 j2 hp2 => ?_)
       refine zAL (.str f.text) (hp2 _) rfl ?_; refine zR (tE h0) ?_
       exact zc rfl rfl rfl rfl (Old.refl _)
      ·rw [if_neg h0] at hq
       by_cases hz : zBG f.text = 0
       ·rw [if_pos hz] at hq
        rw [hz] at ht
        refine zB1 hv ?_; refine zR tT ?_; refine hx _ i (zu f) _ rfl hfm (fun b2 j2 hp2 => ?_)
        refine zAL (zAu f.col f.row) (hp2 _) rfl ?_; refine zI (ha _) ?_; refine zF <| zR tT ?_; refine zO (r := i - 1) tO tO ?_; refine hx _ (i - 1) (zu g) _ tO hgm (fun b2 j2 hp2 => ?_)
        refine zAL (zAu g.col g.row) (hp2 _) rfl ?_; refine hx _ i (zu f) _ rfl hfm (fun b2 j2 hp2 => ?_)
        refine zAL (zAu f.col f.row) (hp2 _) rfl ?_; refine zI (hls _) ?_; refine zH <| zF ?_; refine hx _ i (zu f) _ rfl hfm (fun b2 j2 hp2 => ?_)
        refine zAL (.str f.text) (hp2 _) rfl ?_; refine zN (tN h0) ?_; refine hx _ i (zu f) _ rfl hfm (fun b2 j2 hp2 => ?_)
        refine zAL (.str f.text) (hp2 _) rfl ?_; refine zI (ht _) ?_; refine zF ?_; refine zO (r := i + 1) rfl tO ?_; refine zAb (i + 1) rfl ⟨rfl, by omega, ?_⟩ tO
        rw [if_neg tO, Nat.add_sub_cancel, hf]
        exact hq
       ·rw [if_neg hz] at hq
        subst hq
        refine zB1 hv ?_; refine zR tT ?_; refine hx _ i (zu f) _ rfl hfm (fun b2 j2 hp2 => ?_)
        refine zAL (zAu f.col f.row) (hp2 _) rfl ?_; refine zI (ha _) ?_; refine zF <| zR tT ?_; refine zO (r := i - 1) tO tO ?_; refine hx _ (i - 1) (zu g) _ tO hgm (fun b2 j2 hp2 => ?_)
        refine zAL (zAu g.col g.row) (hp2 _) rfl ?_; refine hx _ i (zu f) _ rfl hfm (fun b2 j2 hp2 => ?_)
        refine zAL (zAu f.col f.row) (hp2 _) rfl ?_; refine zI (hls _) ?_; refine zH <| zF ?_; refine hx _ i (zu f) _ rfl hfm (fun b2 j2 hp2 => ?_)
        refine zAL (.str f.text) (hp2 _) rfl ?_; refine zN (tN h0) ?_; refine hx _ i (zu f) _ rfl hfm (fun b2 j2 hp2 => ?_)
        refine zAL (.str f.text) (hp2 _) rfl ?_; refine zI (ht _) ?_; refine zR (bne_iff_ne.2 tO) ?_
        exact zc rfl rfl rfl rfl (Old.refl _)
 ·have hd : l.drop i = [] := List.drop_eq_nil_of_le tO
  rw [hd] at hq
  have hq : 0 = r := hq
  subst hq
  clear hA hL hT
  refine zB1 hv ?_; refine zN tF ?_
  exact zc rfl rfl rfl rfl (Old.refl _)
end
structure RefK2 (PR : Program) : Prop extends RefK PR where
 parse : zAB PR zCK zCM = true
 isIn : zAB PR zCH zGY = true
 ahead : zAB PR zCL zD3 = true
 text : zAB PR zA0 zEo = true
 check : zAB PR zBf zD2 = true
section
variable {PR : Program} {GT : Nat → Option AV}
theorem q_parse (k : RefK2 PR) (g : BigG PR GT) (s : Bs) (hl : s.length ≤ 200) (h61 : s.head? = some 61) : RPar (Good PR GT) s := by
 have h0 : s[0]? = some 61 := by rw [← List.head?_eq_getElem?]; exact h61
 have h1 : 1 ≤ s.length := by cases s with
  | nil => cases h61
  | cons c r => simp
 have lo := fun b => (q_all k.toRefK g b s hl (s.length - 1) 1 h1 rfl 0 tO).2 1
 cases hlo : (P s).loose 1 1 0 with
 | none =>
  have hpp : zDm s = none := by unfold zDm; rw [if_pos ⟨hl, h61⟩, hlo]; rfl
  refine ⟨fun n h => (by rw [hpp] at h; cases h), fun _ H => ?_⟩
  obtain ⟨n, a, w, e, d, h2, h3, h4⟩ := (lo (H ++ [ABlk.box (ndC zY)]).length).2 hlo
  exact ⟨w, e, h2, zM k.hm k.parse (rparse_bad (zF2 k.toRefK) s hl h0 n a w e d h3 h2 H h4)⟩
 | some x =>
  obtain ⟨n, e⟩ := x
  have hx := (zBx s).loose 1 1 0 _ h1 hlo
  simp only at hx
  have hl2 := fun b => (lo b).1 n e hlo
  by_cases hk : tok s e = .fin
  ·have hpp : zDm s = some n := by unfold zDm; rw [if_pos ⟨hl, h61⟩, hlo]; simp only [Option.bind_some, hk]
   refine ⟨fun n' h H => ?_, fun h => by rw [hpp] at h; cases h⟩
   rw [hpp] at h; cases h
   exact zM k.hm k.parse (rparse_ok (zF2 k.toRefK) s hl h0 n e hx.2 hk hl2 H)
  ·have hpp : zDm s = none := by
    unfold zDm
    rw [if_pos ⟨hl, h61⟩, hlo]
    simp only [Option.bind_some]
   refine ⟨fun n h => (by rw [hpp] at h; cases h), fun _ H => ⟨_, 2, by decide, zM k.hm k.parse (rparse_tail (zF2 k.toRefK) (q_fail k.toRefK) s hl h0 n e hx.2 (fun h => hk ?_) hl2 H)⟩⟩
   cases ht : tok s e <;> rw [ht] at h <;> first | rfl | (simp only [tkK] at h; omega)
theorem q_in (k : RefK2 PR) (c r : Int) (H : Heap) : Good PR GT zCH [zAu c r] H (.bool (okC c r)) H := zM k.hm k.isIn (rin_ev c r H)
theorem q_ahead (k : RefK2 PR) (a b : Fil) (H : Heap) : Good PR GT zCL [zAu a.col a.row, zAu b.col b.row] H (.bool (zE0 a b)) H := zM k.hm k.ahead (rahead_ev a b H)
theorem q_text (k : RefK2 PR) (g : BigG PR GT) (s : Bs) (H : Heap) : Good PR GT zA0 [.str s] H (zJ (zBG s)) H := zM k.hm k.text (rtext_ev (q_parse k g) s H)
theorem q_check (k : RefK2 PR) (g : BigG PR GT) (lv : AV) (l : List Fil) (H : Heap) (hv : view H 3 lv = some (l.map zu)) : Good PR GT zBf [lv] H (zJ (zAx l)) H := zM k.hm k.check (rcheck_ev (q_in k) (q_ahead k) (q_text k g) lv l H hv)
end
end Go.AM
set_option maxRecDepth 100000
namespace Go.Proofs.YtaohficjbicfgaaGreatDoor
open Go.AM
theorem parK : ParK Tryz.prog := { hm := mixed, contains := zDc, mkSet := zGK, trimR := zFN, trimL := zFv, trim := k_strings_Trim, slPre := zFs, pre := zHf, slTrim := zFO, trimP := zHD, wrong := k_value_Wrong, is := k_value_Is, whole := k_value_Whole, lit := zKz, ref := k_addr_Ref, dollar := k_addr_Ref_c1, wordly := zJp, called := zJq, plain := zK0, opOf := k_formula_opOf, fail := zGE, blanks := zFK, word := zGI, want := zGG, within := zFL, text := zGH, neg := zGl, negc := zFM, prim := zGF, prim1 := zEx, prim2 := zEy, call := zGJ, argument := zEO, two := zGk }
theorem parK2 : ParK2 Tryz.prog := { parK with const := zIO, parse := zKv, clos := zIP, dfr := by kernel_rfl, rcv := by kernel_rfl }
theorem refK : RefK Tryz.prog := { hm := mixed, wordly := zJl, wrongs := zJm, bad := k_sccref1_Bad, named := zKy, token := zKu, called := zJn, whole := zKx, ref := k_sccref1_Ref, sign := k_sccref1_Sign, tight := zKw, fail := zI5, deeper := zHg, close := zIQ, one := zJk, call := zI6, loose := zIN }
theorem refK2 : RefK2 Tryz.prog := { refK with parse := zKs, isIn := k_sccref1_In, ahead := zKt, text := k_sccref2_Text, check := zKr }
section
variable {m : Int} {ev : Value}
theorem parG (hev : ∃ te pe, ev = .iface te pe) : ParG Tryz.prog (gtQ m ev) := { atoi := atoi_ok, atoi2 := atoi_bad hev, texts := rfl, loose := rfl }
end
section
variable {GT : Nat → Option AV}
theorem g_trim (b m : Nat) (ws : List Nat) (H : Heap) (hm : ws.length = m) (hb : H[b]? = some (.row 1 (ws.map zA6))) (hw : Small ws) (hl : m ≤ 1000000) : Go.AM.Good Tryz.prog GT zx [.sl (some false) b 1 0 m] H (.sl (some false) b 1 0 (wds (wval ws)).length) H :=
 zM mixed zHh (trim_ev b m ws H hm hb hw hl)
theorem g_words (x : Nat) (H : Heap) (hx : x < 18446744073709551616) : Go.AM.Good Tryz.prog GT zBb [u64V x] H (zDt x) H := zM mixed zHC (words_ev g_trim x hx H)
theorem g_badd (av bv : AV) (x y : Nat) (H : Heap) (ha : Mag av x) (hb : Mag bv y) (h1 : (wds x).length ≤ 100000) (h2 : (wds y).length ≤ 100000) : Go.AM.Good Tryz.prog GT zCA [av, bv] H (zDt (x + y)) H :=
 zM mixed zIU (add_ev g_trim av bv x y H ha hb h1 h2)
theorem g_bsub (av bv : AV) (x y : Nat) (H : Heap) (ha : Mag av x) (hb : Mag bv y) (h : y ≤ x) (h1 : (wds x).length ≤ 100000) : Go.AM.Good Tryz.prog GT zBO [av, bv] H (zDt (x - y)) H :=
 zM mixed zIW (sub_ev g_trim av bv x y _ H ha hb h rfl h1)
theorem g_bcmp (av bv : AV) (x y : Nat) (H : Heap) (ha : Mag av x) (hb : Mag bv y) (h1 : (wds x).length ≤ 100000) (h2 : (wds y).length ≤ 100000) : Go.AM.Good Tryz.prog GT zCB [av, bv] H (zK (cmpN x y)) H :=
 zM mixed zIV (bcmp_ev av bv x y H ha hb h1 h2)
theorem g_bsum (av bv : AV) (xn yn : Bool) (x y : Nat) (H : Heap) (ha : Mag av x) (hb : Mag bv y) (h1 : (wds x).length ≤ 100000) (h2 : (wds y).length ≤ 100000) :
  Go.AM.Good Tryz.prog GT zB9 [.bool xn, av, .bool yn, bv] H (.tup [.bool (sumS xn x yn y).1, zDt (sumS xn x yn y).2]) H := zM mixed zIT (bsum_ev g_badd g_bsub g_bcmp av bv xn yn x y H ha hb h1 h2)
theorem g_bit (av : AV) (m i : Nat) (H : Heap) (ha : Mag av m) (hl : (wds m).length ≤ 100000) (hi : i ≤ 1000000) : Go.AM.Good Tryz.prog GT zCC [av, zK i] H (u64V (m / 2 ^ i % 2)) H := zM mixed zIX (bit_ev av m i H ha hl hi)
theorem g_tzb (b m n : Nat) (x av : AV) (H : Heap) (hb : H[b]? = some (.box [x, av])) (ha : Mag av m) (h0 : m ≠ 0) (hl : (wds m).length ≤ 100) (hn : n ≤ 10000) (h1 : m % 2 ^ n = 0) (h2 : m / 2 ^ n % 2 = 1) :
  Go.AM.Good Tryz.prog GT zAD [.ref b 0 0 0] H (u64V n) H := zM mixed zCg (tzb_ev g_bit b m n x av H hb ha h0 hl hn h1 h2)
theorem g_blen (av : AV) (m : Nat) (H : Heap) (ha : Mag av m) (hl : (wds m).length ≤ 1000) : Go.AM.Good Tryz.prog GT zBP [av] H (zJ (Go.AM.bits m)) H := zM mixed zGm (length_ev av m H ha hl)
theorem g_uint64 (b m : Nat) (x av : AV) (H : Heap) (hb : H[b]? = some (.box [x, av])) (ha : Mag av m) (hm : m < 18446744073709551616) : Go.AM.Good Tryz.prog GT zAj [.ref b 0 0 0] H (u64V m) H :=
 zM mixed zEN (uint64_ev b m x av H hb ha hm)
theorem g_int64 (b : Nat) (v : Int) (H : Heap) (hb : H[b]? = some (.box (zFZ v))) (hv : zC4 v) : Go.AM.Good Tryz.prog GT zAR [.ref b 0 0 0] H (zK v) H := zM mixed zEw (int64_ev g_uint64 b v H hb hv)
theorem g_isInt64 (b : Nat) (v : Int) (H : Heap) (hb : H[b]? = some (.box (zFZ v))) (hv : (wds v.natAbs).length ≤ 100) : Go.AM.Good Tryz.prog GT zAf [.ref b 0 0 0] H (.bool (decide (zC4 v))) H :=
 zM mixed zEB (isInt64_ev g_blen g_tzb b v H hb hv)
theorem g_give (b n : Nat) (neg : Bool) (x0 x1 : AV) (H : Heap) (hb : H[b]? = some (.box [x0, x1])) : Go.AM.Good Tryz.prog GT zp [.ref b 0 0 0, .bool neg, zDt n] H (.ref b 0 0 0) (H.set b (.box [.bool (neg && decide (0 < n)), zDt n])) :=
 zM mixed zC2 (give_ev b n neg x0 x1 H hb)
theorem g_setInt64 (b : Nat) (v : Int) (x0 x1 : AV) (H : Heap) (hb : H[b]? = some (.box [x0, x1])) (hv : zC4 v) : Go.AM.Good Tryz.prog GT zAZ [.ref b 0 0 0, zK v] H (.ref b 0 0 0) (H.set b (.box (zFZ v))) :=
 zM mixed zDr (setInt64_ev g_words g_give b v x0 x1 H hb hv)
theorem k_bigNew : zAB Tryz.prog zAV a_bigNew = true := by kernel_rfl
theorem g_newInt (v : Int) (H : Heap) (hv : zC4 v) : Go.AM.Good Tryz.prog GT zAV [zK v] H (.ref H.length 0 0 0) (H ++ [.box (zFZ v)]) := zM mixed k_bigNew (newInt_ev g_setInt64 v H hv)
theorem g_fits (b : Nat) (v : Int) (H : Heap) (hb : H[b]? = some (.box (zFZ v))) (hv : (wds v.natAbs).length ≤ 100) : Go.AM.Good Tryz.prog GT zCd [.ref b 0 0 0] H (.bool (decide (zC4 v))) H := zM mixed k_sccref1_Fits (fits_ev g_isInt64 b v H hb hv)
theorem g_give0 (b : Nat) (xs : List AV) (nv x0 x1 : AV) (H : Heap) (hb : H[b]? = some (.box [x0, x1])) (hv : zHZ nv 1 xs) : Go.AM.Good Tryz.prog GT zp [.ref b 0 0 0, .bool false, nv] H (.ref b 0 0 0) (H.set b (.box [.bool false, nv])) :=
 zM mixed zC2 (give0_ev b xs nv x0 x1 H hb hv) (hn := by obtain ⟨q, k', rfl, _⟩ := hv; rfl)
theorem g_mul10 (av : AV) (x : Nat) (H : Heap) (ha : Mag av x) (hl : (wds x).length ≤ 100000) : Go.AM.Good Tryz.prog GT zB8 [av, zDt 10] H (mulV x) H := zM mixed zIS (mul10_ev g_trim av x _ H ha rfl hl)
theorem g_bigMul (b t v : Nat) (av : AV) (H : Heap) (hb : H[b]? = some (.box [.bool false, av])) (ht : H[t]? = some (.box (zFZ 10))) (ha : Mag av v) (hl : (wds v).length ≤ 1000) : Go.AM.Good Tryz.prog GT zAd [.ref b 0 0 0, .ref b 0 0 0, .ref t 0 0 0] H (.ref b 0 0 0) (H.set b (.box [.bool false, mulV v])) :=
 zM mixed zFt (bigMul_ev g_mul10 g_give0 b t v av H hb ht ha hl)
theorem g_bigAddM (b t v d : Nat) (av : AV) (H : Heap) (hb : H[b]? = some (.box [.bool false, av])) (ht : H[t]? = some (.box (zFZ d))) (ha : Mag av v) (hl : (wds v).length ≤ 1000) (hd : (wds d).length ≤ 1000) : Go.AM.Good Tryz.prog GT zAe [.ref b 0 0 0, .ref b 0 0 0, .ref t 0 0 0] H (.ref b 0 0 0) (H.set b (.box (zFZ ((v + d : Nat) : Int)))) :=
 zM mixed zFu (bigAddM_ev g_bsum g_give b t v d av H hb ht ha hl hd)
theorem bigG : BigG Tryz.prog GT := { new := fun v H h => g_newInt v H h, mul := fun b t v av H h1 h2 h3 h4 => g_bigMul b t v av H h1 h2 h3 h4, add := fun b t v d av H h1 h2 h3 h4 h5 => g_bigAddM b t v d av H h1 h2 h3 h4 h5, fit := fun b v H h1 h2 => g_fits b v H h1 h2, i64 := fun b v H h1 h2 => g_int64 b v H h1 h2 }
theorem g_aok (c r : Int) (H : Heap) : Go.AM.Good Tryz.prog GT zIA [zAu c r] H (.bool (okC c r)) H := zM mixed k_addr_ok (aok_ev c r H)
theorem g_acheck (c r : Int) (H : Heap) : Go.AM.Good Tryz.prog GT zBM [zAu c r] H (if okC c r = true then .nili else zEP 1) H := zM mixed k_addr_Check (acheck_ev g_aok c r H)
theorem g_nan (a : Int) (H : Heap) : Go.AM.Good Tryz.prog GT zBv [zK a] H (.bool false) H := zM mixed zJo (nan_ev a H)
theorem g_ccmp (a b : Int) (H : Heap) : Go.AM.Good Tryz.prog GT zBN [zK a, zK b] H (zK (cmp3 a b)) H := zM mixed zIR (ccmp_ev g_nan a b H)
theorem g_cor (b : Nat) (x y : Int) (H : Heap) (hb : H[b]? = some (.row 1 [zK x, zK y])) : Go.AM.Good Tryz.prog GT zDp [.sl (some false) b 1 0 2] H (zK (if x ≠ 0 then x else y)) H := zM mixed k_cmp_Or_int_ (cor_ev b x y H hb)
theorem g_acomp (c1 r1 c2 r2 : Int) (H : Heap) : Go.AM.Good Tryz.prog GT zDR [zAu c1 r1, zAu c2 r2] H (zK (cmpC c1 r1 c2 r2)) H := zM mixed k_addr_Compare (acomp_ev g_ccmp g_cor c1 r1 c2 r2 H)
theorem g_aless (a b : Fil) (H : Heap) : Go.AM.Good Tryz.prog GT zFd [zAu a.col a.row, zAu b.col b.row] H (.bool (zE0 a b)) H := zM mixed k_addr_Less (aless_ev g_acomp a b H)
theorem g_told_nil (H : Heap) : Go.AM.Good Tryz.prog GT zCz [.nili] H (.int .i64 0) H := zM mixed zJU (told_nil_ev H)
end
section
variable {m : Int} {ev : Value} (hev : ∃ te pe, ev = .iface te pe)
abbrev GQ (m : Int) (ev : Value) : CSpec := Go.AM.Good Tryz.prog (gtQ m ev)
include hev in
theorem g_text (s : Bs) (H : Heap) : GQ m ev zA1 [.str s] H (eV (zBG s)) H := zM mixed k_graph_Text (gtext_ev (p_const parK2) (p_parse parK2 (parG hev)) s H)
include hev in
theorem g_check (lv : AV) (l : List Fil) (H : Heap) (hv : view H 3 lv = some (l.map zu)) : GQ m ev zC8 [lv] H (eV (zAx l)) H := zM mixed k_graph_Check (gcheck_ev g_acheck g_aless (g_text hev) lv l H hv)
theorem g_rcheck (lv : AV) (l : List Fil) (H : Heap) (hv : view H 3 lv = some (l.map zu)) : GQ m ev zBf [lv] H (zJ (zAx l)) H := q_check refK2 bigG lv l H hv
theorem g_rtext (s : Bs) (H : Heap) : GQ m ev zA0 [.str s] H (zJ (zBG s)) H := q_text refK2 bigG s H
theorem g_told_err (n : Int) (H : Heap) : GQ m ev zCz [zEP n] H (.int .i64 n) H := zM mixed zJU (told_err_ev (fun n old b H hb => as_good n old b H hb) n H)
theorem g_errN (n : Nat) (H : Heap) : GQ m ev zAQ [eV n, zJ n] H (.bool true) H := by
 have h : ErrIs (eV n) n := by
  unfold eV
  by_cases h0 : n = 0
  ·rw [if_pos h0]; exact .inl ⟨rfl, by omega⟩
  ·rw [if_neg h0]; exact .inr rfl
 have := zM (GT := gtQ m ev) mixed zKp (same_ev g_told_nil g_told_err (eV n) n n h H) (hn := by rcases h with ⟨h, _⟩ | h <;> rw [h] <;> rfl)
 rwa [show ((n : Int) == (n : Int)) = true from beq_self_eq_true _] at this
end
end Go.Proofs.YtaohficjbicfgaaGreatDoor
set_option maxRecDepth 20000
namespace Go.AM
def sumN (s : Nat) : Bs → Nat
 | [] => s
 | c :: r => sumN ((s * 257 + c.toNat) % 65521) r
theorem sumN_lt (l : Bs) : ∀ s, s < 65521 → sumN s l < 65521 := by
 induction l with
 | nil => exact fun s h => h
 | cons c r ih => exact fun s _ => ih _ (Nat.mod_lt _ (by decide))
theorem sumN_drop (l : Bs) (i : Nat) (c : UInt8) (h : l[i]? = some c) (s : Nat) : sumN s (l.drop i) = sumN ((s * 257 + c.toNat) % 65521) (l.drop (i + 1)) := by
 have hi := (zg h).1
 rw [List.drop_eq_getElem_cons hi, (zg h).2]
 rfl
def u8N (n : Nat) : UInt8 := UInt8.ofNat n
def zJ7 (f : Fil) : Bs := [u8N f.col.toNat, u8N f.row.toNat, u8N f.text.length] ++ f.text
def zHo (f : Fil) : Bs := zJ7 f ++ [u8N (sumN 1 (zJ7 f) % 256), u8N (sumN 1 (zJ7 f) / 256)]
def zDd : List Fil → Bs
 | [] => []
 | f :: r => zHo f ++ zDd r
def okF (f : Fil) : Prop := (1 ≤ f.col ∧ f.col ≤ 26) ∧ (1 ≤ f.row ∧ f.row ≤ 99) ∧ f.text.length ≤ 200
theorem okC_iff (c r : Int) : okC c r = true ↔ (1 ≤ c ∧ c ≤ 26) ∧ (1 ≤ r ∧ r ≤ 99) := by
 unfold okC
 simp only [Bool.and_eq_true, decide_eq_true_eq]
 constructor
 ·rintro ⟨⟨⟨h1, h2⟩, h3⟩, h4⟩; exact ⟨⟨h1, h2⟩, h3, h4⟩
 ·rintro ⟨⟨h1, h2⟩, h3, h4⟩; exact ⟨⟨⟨h1, h2⟩, h3⟩, h4⟩
theorem textN_len {s : Bs} (h : zBG s = 0) : s.length ≤ 200 := by
 unfold zBG at h
 by_cases hl : 200 < s.length
 ·rw [if_pos hl] at h; cases h
 ·omega
theorem okF_of {f : Fil} (h1 : okC f.col f.row = true) (h2 : zBG f.text = 0) : okF f := ⟨((okC_iff _ _).1 h1).1, ((okC_iff _ _).1 h1).2, textN_len h2⟩
theorem filsN_ok : ∀ (l : List Fil) (prev : Option Fil), zHH prev l = 0 → ∀ f ∈ l, okF f := by
 intro l
 induction l with
 | nil => intro _ _ f h; cases h
 | cons g r ih =>
  intro prev h f hf
  unfold zHH at h
  by_cases h0 : filN prev g = 0
  ·rw [if_pos h0] at h
   rcases List.mem_cons.1 hf with rfl | hf
   ·unfold filN at h0
    by_cases h1 : okC f.col f.row = false
    ·rw [if_pos h1] at h0; cases h0
    ·rw [if_neg h1] at h0
     have h1 : okC f.col f.row = true := by simpa using h1
     have h2 : zBG f.text = 0 := by
      by_cases he : f.text = []
      ·rw [he]; rfl
      ·cases prev with
       | none =>
        have h0 : (if f.text = [] then 3 else zBG f.text) = 0 := h0
        rwa [if_neg he] at h0
       | some p =>
        have h0 : (if zE0 p f = false then 5 else if f.text = [] then 3 else zBG f.text) = 0 := h0
        cases hp : zE0 p f with
        | true => rw [hp, if_neg (by simp), if_neg he] at h0; exact h0
        | false => rw [hp, if_pos rfl] at h0; cases h0
     exact okF_of h1 h2
   ·exact ih _ h f hf
  ·rw [if_neg h0] at h; exact absurd h h0
theorem zIg {l : List Fil} (h : zAx l = 0) : l.length ≤ 200 ∧ ∀ f ∈ l, okF f := by
 unfold zAx at h
 by_cases hl : 200 < l.length
 ·rw [if_pos hl] at h; cases h
 ·rw [if_neg hl] at h
  exact ⟨by omega, filsN_ok l none h⟩
theorem entB_len (f : Fil) : (zHo f).length = f.text.length + 5 := by simp [zHo, zJ7]
theorem zC3 (l : List Fil) (i : Nat) (f : Fil) (h : l[i]? = some f) : zDd (l.take (i + 1)) = zDd (l.take i) ++ zHo f := by
 have hi := (zg h).1
 have e : ∀ a b, zDd (a ++ b) = zDd a ++ zDd b := by
  intro a b
  induction a with
  | nil => rfl
  | cons x r ih => simp only [List.cons_append, zDd, ih, List.append_assoc]
 rw [List.take_succ, h, e]
 simp [zDd]
theorem zE1 (n : Nat) (h : n < 256) : zl (u8N n) = .int .u8 n := by
 unfold zl u8N
 rw [UInt8.toNat_ofNat', Nat.mod_eq_of_lt tO]
theorem zEh (l : List Fil) (h : ∀ f ∈ l, okF f) : (zDd l).length ≤ 205 * l.length := by
 induction l with
 | nil => simp [zDd]
 | cons f r ih =>
  have := ih fun g hg => h g (List.mem_cons_of_mem _ hg)
  have := (h f (List.mem_cons_self ..)).2.2
  simp only [zDd, List.length_append, entB_len, List.length_cons]
  omega
def bsV (s : Bs) : AV := lstF 1 (s.map zl)
theorem zDu (s : Bs) (H : Heap) : view H 1 (bsV s) = some (s.map zl) := by
 cases s <;> rfl
structure SumS where
 i : Nat
 s : Nat
section
variable {C : CSpec} {GT : Nat → Option AV}
theorem sWu16 {x : Int} {K : Int → Prop} (r : Nat) (h : x % 65536 = r) (k : K (r : Int)) : valP (IntKind.wrap .u16 x) K := zJ0 (by rw [IntKind.wrap_u16]; omega) k
theorem bksum_ev (v : AV) (l : Bs) (H : Heap) (hv : view H 1 v = some (l.map zl)) (hl : l.length ≤ 1000) : EFun C GT a_book_sum [v] H (.int .u16 (sumN 1 l : Nat)) H := by
 have hlm : (l.map zl).length = l.length := List.length_map _
 obtain ⟨r, hr⟩ : ∃ r, sumN 1 l = r := ⟨_, rfl⟩
 have hrl : r < 65521 := by rw [← hr]; exact sumN_lt l 1 (by decide)
 rw [hr]
 refine zf ?_; refine zB1 hv ?_; refine zBL (fun x : SumS => [(8, zJ x.i), (3, .int .u32 (x.s : Nat)), (6, v), (7, .int .i64 ((l.map zl).length : Nat))]) (fun x H' => H' = H ∧ x.i ≤ l.length ∧ x.s < 65521 ∧ sumN x.s (l.drop x.i) = r) (fun x => l.length - x.i) ⟨0, 1⟩ rfl ⟨rfl, by simp, by simp, hr⟩ (fun ⟨i, s⟩ H1 ⟨hH, hi, hs, hq⟩ => ?_)
 subst hH
 dsimp only at hi hs hq ⊢
 by_cases hlt : i < l.length
 ·obtain ⟨c, hc⟩ : ∃ c, l[i]? = some c := ⟨_, List.getElem?_eq_getElem hlt⟩
  have hcm : (l.map zl)[i]? = some (zl c) := by rw [List.getElem?_map, hc]; rfl
  have hc2 := c.toNat_lt
  rw [sumN_drop l i c hc] at hq
  refine zR tT ?_; refine zG3 i (zl c) hv rfl hcm (fun p hp => ?_)
  refine zAL (zl c) hp rfl ?_; refine zJu (s * 257) tO ?_; refine zJu c.toNat tO ?_; refine zJu (s * 257 + c.toNat) tO ?_; refine zDz (by decide) ?_; refine zJ0 (r := ((s * 257 + c.toNat) % 65521 : Nat)) (Int.ofNat_tmod (s * 257 + c.toNat) 65521).symm ?_; refine zO (r := i + 1) rfl tO ?_; refine zAb (SumS.mk (i + 1) ((s * 257 + c.toNat) % 65521)) rfl ⟨rfl, by simp only; omega, Nat.mod_lt _ (by decide), hq⟩ (by simp only; omega)
 ·have hd : l.drop i = [] := List.drop_eq_nil_of_le tO
  rw [hd] at hq
  have hq : s = r := hq
  subst hq
  refine zN tF ?_; refine sWu16 s tO ?_
  exact zc rfl rfl rfl rfl (Old.refl _)
structure EntS where
 i : Nat
 s : Nat
def OwnF (H0 H : Heap) (v : AV) (k : Nat) (xs : List AV) : Prop := ∃ b, v = .sl (some false) b k 0 xs.length ∧ H0.length ≤ b ∧ H[b]? = some (.row k xs) ∧ xs ≠ []
theorem OwnF.view {H0 H : Heap} {v : AV} {k : Nat} {xs : List AV} (h : OwnF H0 H v k xs) : view H k v = some xs := by
 obtain ⟨b, rfl, _, h2, _⟩ := h
 simp [Go.AM.view, h2]
theorem OwnF.keep {H0 H H' : Heap} {v : AV} {k : Nat} {xs : List AV} (h : OwnF H0 H v k xs) (hk : ∀ b x, v.blk = some b → H[b]? = some x → H'[b]? = some x) : OwnF H0 H' v k xs := by
 obtain ⟨b, rfl, h1, h2, h3⟩ := h
 exact ⟨b, rfl, h1, hk b _ rfl h2, h3⟩
theorem OwnF.push {H0 H : Heap} {v : AV} {k : Nat} {xs : List AV} (h : OwnF H0 H v k xs) (x : ABlk) : OwnF H0 (H ++ [x]) v k xs := h.keep fun _ _ _ hx => zC hx
theorem OwnF.frz {H0 H : Heap} {v : AV} {k : Nat} {xs : List AV} (h : OwnF H0 H v k xs) (hO : Old H0 H) : ∃ H', zDj H0.length v H = some (lstF k xs, H') ∧ Old H0 H' := by
 obtain ⟨b, rfl, h1, h2, h3⟩ := h
 refine ⟨H.set b (.frz k xs), ?_, hO.set h1 _⟩
 cases xs with
 | nil => exact absurd rfl h3
 | cons x xs =>
  simp only [zDj]
  rw [if_neg tO, h2]
  simp [lstF, frzQ]
theorem sAppStrF {H0 H : Heap} {v : AV} {xs : List AV} {s : List UInt8} {K : AV → Heap → Prop} (ho : OwnF H0 H v 1 xs) (hH : Old H0 H) (hl : xs.length + s.length ≤ 140737488355328)
  (q : ∀ v' H', OwnF H0 H' v' 1 (xs ++ s.map zl) → Old H0 H' → (∀ c y, v.blk ≠ some c → H[c]? = some y → H'[c]? = some y) → K v' H') : actP .appendS [v, .str s] H K := by
 obtain ⟨b, rfl, h1, h2, h3⟩ := ho
 by_cases he : s = []
 ·subst he
  refine sAct (v := .sl (some false) b 1 0 xs.length) (H' := H) ?_ (q _ H ⟨b, by simp, h1, by simpa using h2, by simpa using h3⟩ hH fun c y _ h => h)
  simp [astep]
 have hne : s.isEmpty = false := by simpa using he
 refine sAct (v := .sl (some false) H.length 1 0 (xs.length + s.length)) (H' := H.set b .dead ++ [.row 1 (xs ++ s.map zl)]) ?_ ?_
 ·simp only [astep, hne, h2]
  rw [if_neg (by simp), if_pos ⟨trivial, trivial, by omega, by omega⟩]
  simp
 ·refine q _ _ ⟨_, by rw [List.length_append, List.length_map], hH.1, ?_, by simp [h3]⟩ ((hH.set h1 _).push _) fun c x hc hx => ?_
  ·have : (H.set b .dead).length = H.length := List.length_set
   rw [← this]; exact zD
  ·exact zC (zA (fun e => hc (by rw [e]; rfl)) hx)
theorem sAppendF {H0 H : Heap} {v y : AV} {k bytes : Nat} {xs ys : List AV} {K : AV → Heap → Prop} (ho : OwnF H0 H v k xs) (hH : Old H0 H) (hy : view H k y = some ys) (hb : bytes ≤ 1024) (hl : xs.length + ys.length ≤ 137438953472)
  (q : ∀ v' H', OwnF H0 H' v' k (xs ++ ys) → Old H0 H' → K v' H') : actP (.append k bytes) [v, y] H K := by
 have hm : (xs.length + ys.length) * bytes ≤ 137438953472 * 1024 := Nat.mul_le_mul hl hb
 obtain ⟨b, rfl, h1, h2, h3⟩ := ho
 refine sAct (v := .sl (some false) H.length k 0 (xs.length + ys.length)) (H' := H.set b .dead ++ [.row k (xs ++ ys)]) ?_ ?_
 ·simp only [astep, hy, h2]
  rw [if_pos ⟨trivial, trivial, by omega, by omega, by omega⟩]
  simp
 ·refine q _ _ ⟨_, by rw [List.length_append], hH.1, ?_, by simp [h3]⟩ ((hH.set h1 _).push _)
  have : (H.set b .dead).length = H.length := List.length_set
  rw [← this]; exact zD
theorem sWu8n {x : Int} {K : Int → Prop} (r : Nat) (h : x % 256 = r) (k : K (r : Int)) : valP (IntKind.wrap .u8 x) K := zJ0 (by rw [IntKind.wrap_u8]; omega) k
theorem shr8 (n : Nat) (h : n < 65536) : ((n : Int).fdiv (2 ^ ((Int.toNat 8).min IntKind.u16.bits))) % 256 = ((n / 256 : Nat) : Int) := by
 have e : (2 : Int) ^ ((Int.toNat 8).min IntKind.u16.bits) = 256 := by decide
 rw [e, Int.fdiv_eq_ediv_of_nonneg _ (by decide)]
 omega
theorem bentry_ev (hS : ∀ v l H, view H 1 v = some (l.map zl) → l.length ≤ 1000 → C zGy [v] H (.int .u16 (sumN 1 l : Nat)) H) (f : Fil) (hf : okF f) (H : Heap) : EFun C GT zJR [zu f] H (bsV (zHo f)) H := by
 obtain ⟨⟨hc1, hc2⟩, ⟨hr1, hr2⟩, hl⟩ := hf
 have hsl : sumN 1 (zJ7 f) < 65521 := sumN_lt _ _ (by decide)
 have hel : (zJ7 f).length = f.text.length + 3 := by simp [zJ7]
 have hs := fun v H h => hS v (zJ7 f) H h tO
 clear hS
 refine zf ?_
 have e0 : [AV.int .u8 f.col, .int .u8 f.row, .int .u8 (f.text.length : Nat)] = [u8N f.col.toNat, u8N f.row.toNat, u8N f.text.length].map zl := by
  simp only [List.map_cons, List.map_nil]
  rw [zE1 _ tO, zE1 _ tO, zE1 _ tO]
  have h1 : ((f.col.toNat : Nat) : Int) = f.col := by omega
  have h2 : ((f.row.toNat : Nat) : Int) = f.row := by omega
  rw [h1, h2]
 refine zCw (x := zu f) rfl ?_; refine zB (zK f.col) zD rfl ?_; refine sWu8 tO ?_; refine zB (zK f.row) zD rfl ?_; refine sWu8 tO ?_; refine zB (AV.str f.text) zD rfl ?_; refine sWu8 tO ?_; refine zBD (vs' := [AV.int IntKind.u8 f.col, AV.int IntKind.u8 f.row, AV.int IntKind.u8 ↑(List.length f.text)]) rfl rfl ?_; refine zB (AV.str f.text) (zC zD) rfl ?_; refine sAppStrF (H0 := H) (xs := [u8N f.col.toNat, u8N f.row.toNat, u8N f.text.length].map zl) ⟨_, rfl, by simp, by rw [← e0]; exact zD, by simp⟩ (((Old.refl H).push _).push _) (by simp; omega) (fun v1 H1 ho1 hO1 _ => ?_)
 rw [← List.map_append] at ho1
 have ho1 : OwnF H H1 v1 1 ((zJ7 f).map zl) := ho1
 have hs1 := hs v1 H1 ho1.view
 obtain ⟨sn, hsn⟩ : ∃ sn, sumN 1 (zJ7 f) = sn := ⟨_, rfl⟩
 have hen : zHo f = zJ7 f ++ [u8N (sn % 256), u8N (sn / 256)] := by rw [← hsn]; rfl
 rw [hsn] at hs1 hsl
 clear hs
 refine zI hs1 ?_; refine sWu8n (sn % 256) tO ?_; refine zU rfl ?_; refine sWu8n (sn / 256) (shr8 sn tO) ?_; refine zBD (vs' := [AV.int IntKind.u8 ↑(sn % 256), AV.int IntKind.u8 ↑(sn / 256)]) rfl rfl ?_
 have e1 : [AV.int .u8 (sn % 256 : Nat), .int .u8 (sn / 256 : Nat)] = [u8N (sn % 256), u8N (sn / 256)].map zl := by
  simp only [List.map_cons, List.map_nil]
  rw [zE1 _ tO, zE1 _ tO]
 refine sAppendF (H0 := H) (xs := (zJ7 f).map zl) (ys := [u8N (sn % 256), u8N (sn / 256)].map zl) (ho1.push _) (hO1.push _) (by rw [← e1]; exact zCV) (by decide) (by simp; omega) (fun v2 H2 ho2 hO2 => ?_)
 rw [← List.map_append, ← hen] at ho2
 obtain ⟨H3, hz, hO3⟩ := ho2.frz hO2
 exact sRetF rfl rfl hz (lstF_bel _ _ _) hO3
end
end Go.AM
set_option maxRecDepth 20000
namespace Go.AM
section
variable {C : CSpec} {GT : Nat → Option AV}
theorem mentry_ev (f : Fil) (hf : okF f) (H : Heap) : EFun C GT zGZ [zu f] H (bsV (zHo f)) H := by
 obtain ⟨⟨hc1, hc2⟩, ⟨hr1, hr2⟩, hl⟩ := hf
 obtain ⟨sn, hsn⟩ : ∃ sn, sumN 1 (zJ7 f) = sn := ⟨_, rfl⟩
 have hsl : sn < 65521 := by rw [← hsn]; exact sumN_lt _ _ (by decide)
 have hel : (zJ7 f).length = f.text.length + 3 := by simp [zJ7]
 have hen : zHo f = zJ7 f ++ [u8N (sn % 256), u8N (sn / 256)] := by rw [← hsn]; rfl
 refine zf ?_
 have e0 : [AV.int .u8 f.col, .int .u8 f.row, .int .u8 (f.text.length : Nat)] = [u8N f.col.toNat, u8N f.row.toNat, u8N f.text.length].map zl := by
  simp only [List.map_cons, List.map_nil]
  rw [zE1 _ tO, zE1 _ tO, zE1 _ tO]
  have h1 : ((f.col.toNat : Nat) : Int) = f.col := by omega
  have h2 : ((f.row.toNat : Nat) : Int) = f.row := by omega
  rw [h1, h2]
 refine zCw (x := zu f) rfl ?_; refine zB (zK f.col) zD rfl ?_; refine sWu8 tO ?_; refine zB (zK f.row) zD rfl ?_; refine sWu8 tO ?_; refine zB (AV.str f.text) zD rfl ?_; refine sWu8 tO ?_; refine zBD (vs' := [AV.int IntKind.u8 f.col, AV.int IntKind.u8 f.row, AV.int IntKind.u8 ↑(List.length f.text)]) rfl rfl ?_; refine zB (AV.str f.text) (zC zD) rfl ?_; refine sAppStrF (H0 := H) (xs := [u8N f.col.toNat, u8N f.row.toNat, u8N f.text.length].map zl) ⟨_, rfl, by simp, by rw [← e0]; exact zD, by simp⟩ (((Old.refl H).push _).push _) (by simp; omega) (fun v1 H1 ho1 hO1 _ => ?_)
 rw [← List.map_append] at ho1
 have ho1 : OwnF H H1 v1 1 ((zJ7 f).map zl) := ho1
 have hv1 := ho1.view
 have hlm : ((zJ7 f).map zl).length = (zJ7 f).length := List.length_map _
 generalize zJ7 f = l at *
 refine zBL (fun x : SumS => [(5, zJ x.i), (3, v1), (4, zJ x.s)]) (fun x H' => H' = H1 ∧ x.i ≤ l.length ∧ x.s < 65521 ∧ sumN x.s (l.drop x.i) = sn) (fun x => l.length - x.i) ⟨0, 1⟩ rfl ⟨rfl, by simp, by simp, hsn⟩ (fun ⟨i, s⟩ H2 ⟨hH, hi, hs, hq⟩ => ?_)
 subst hH
 dsimp only at hi hs hq ⊢
 by_cases hlt : i < l.length
 ·obtain ⟨c, hc⟩ : ∃ c, l[i]? = some c := ⟨_, List.getElem?_eq_getElem hlt⟩
  have hcm : (l.map zl)[i]? = some (zl c) := by rw [List.getElem?_map, hc]; rfl
  have hc2 := c.toNat_lt
  rw [sumN_drop l i c hc] at hq
  refine zB1 hv1 ?_; refine zR tT ?_; refine zO (r := s * 257) tO tO ?_; refine zG3 i (zl c) hv1 rfl hcm (fun p hp => ?_)
  refine zAL (zl c) hp rfl ?_; refine zO (r := c.toNat) tO tO ?_; refine zO (r := s * 257 + c.toNat) tO tO ?_; refine zDz (by decide) ?_; refine zJ0 (r := ((s * 257 + c.toNat) % 65521 : Nat)) (Int.ofNat_tmod (s * 257 + c.toNat) 65521).symm ?_; refine zO (r := i + 1) rfl tO ?_; refine zAb (SumS.mk (i + 1) ((s * 257 + c.toNat) % 65521)) rfl ⟨rfl, by simp only; omega, Nat.mod_lt _ (by decide), hq⟩ (by simp only; omega)
 ·have hd : l.drop i = [] := List.drop_eq_nil_of_le tO
  rw [hd] at hq
  have hq : s = sn := hq
  subst hq
  have e1 : [AV.int .u8 (s % 256 : Nat), .int .u8 (s / 256 : Nat)] = [u8N (s % 256), u8N (s / 256)].map zl := by
   simp only [List.map_cons, List.map_nil]
   rw [zE1 _ tO, zE1 _ tO]
  refine zB1 hv1 ?_; refine zN tF ?_; refine zDz (by decide) ?_; refine zJ0 (r := (s % 256 : Nat)) (Int.ofNat_tmod s 256).symm ?_; refine sWu8n (s % 256) tO ?_; refine zDz (by decide) ?_; refine zO (r := s / 256) (Int.ofNat_tdiv s 256).symm tO ?_; refine sWu8n (s / 256) tO ?_; refine zBD (vs' := [AV.int IntKind.u8 ↑(s % 256), AV.int IntKind.u8 ↑(s / 256)]) rfl rfl ?_; refine sAppendF (H0 := H) (xs := l.map zl) (ys := [u8N (s % 256), u8N (s / 256)].map zl) (ho1.push _) (hO1.push _) (by rw [← e1]; exact zCV) (by decide) (by simp; omega) (fun v2 H2 ho2 hO2 => ?_)
  rw [← List.map_append, ← hen] at ho2
  obtain ⟨H3, hz, hO3⟩ := ho2.frz hO2
  exact sRetF rfl rfl hz (lstF_bel _ _ _) hO3
theorem may_ev (hA : ∀ c r H, C zBM [zAu c r] H (if okC c r = true then .nili else zEP 1) H) (hT : ∀ s H, C zA1 [.str s] H (eV (zBG s)) H) (f : Fil) (H : Heap) :
  EFun C GT zKe [zAu f.col f.row, .str f.text] H (eV (if okC f.col f.row = true then zBG f.text else 1)) H := by
 have ha := hA f.col f.row
 have ht := hT f.text
 clear hA hT
 refine zf ?_
 cases hk : okC f.col f.row with
 | true =>
  rw [hk] at ha
  rw [if_pos rfl]
  have ha : ∀ H, C zBM [zAu f.col f.row] H .nili H := ha
  generalize zBG f.text = n at *
  have hb : (eV n).bel H.length = true := by unfold eV; split <;> rfl
  have hz : ∀ H1 : Heap, zDj H.length (eV n) H1 = some (eV n, H1) := fun H1 => by unfold eV; split <;> rfl
  refine zCw (x := zAu f.col f.row) rfl ?_; refine zB (zAu f.col f.row) zD rfl ?_; refine zI (ha _) ?_; refine zU rfl ?_; refine zF ?_; refine zI (ht _) ?_
  exact zc rfl rfl (hz _) hb ((Old.refl H).push _)
 | false =>
  rw [hk] at ha
  have ha : ∀ H, C zBM [zAu f.col f.row] H (zEP 1) H := ha
  clear ht
  refine zCw (x := zAu f.col f.row) rfl ?_; refine zB (zAu f.col f.row) zD rfl ?_; refine zI (ha _) ?_; refine zU rfl ?_; refine zH ?_
  exact zc rfl rfl rfl rfl ((Old.refl _).push _)
theorem kentry_ev (hM : ∀ (f : Fil) H, C zD1 [zAu f.col f.row, .str f.text] H (eV (if okC f.col f.row = true then zBG f.text else 1)) H) (hE : ∀ f, okF f → ∀ H, C zCy [zu f] H (bsV (zHo f)) H) (f : Fil) (n : Nat) (hn : (if okC f.col f.row = true then zBG f.text else 1) = n) (H : Heap) :
  EFun C GT zJP [zu f] H (.tup [if n = 0 then bsV (zHo f) else .lst (some true) 0 [], eV n]) H := by
 have hm := hM f
 rw [hn] at hm
 clear hM
 refine zf ?_
 by_cases h0 : n = 0
 ·rw [if_pos h0]
  subst h0
  have hok : okF f := by
   by_cases h1 : okC f.col f.row = true
   ·rw [if_pos h1] at hn; exact okF_of h1 hn
   ·rw [if_neg h1] at hn; cases hn
  have he := hE f hok
  clear hE
  have hm : ∀ H, C zD1 [zAu f.col f.row, .str f.text] H .nili H := hm
  refine zCw (x := zu f) rfl ?_; refine zB (AV.agg [zK f.col, zK f.row]) zD rfl ?_; refine zB (AV.str f.text) zD rfl ?_; refine zI (hm _) ?_; refine zU rfl ?_; refine zF ?_; refine zB (zu f) zD rfl ?_; refine zI (he _) ?_
  exact zc rfl rfl rfl rfl ((Old.refl _).push _)
 ·rw [if_neg h0]
  have he : eV n = zEP n := by unfold eV; rw [if_neg h0]
  rw [he] at hm ⊢
  clear hE
  refine zCw (x := zu f) rfl ?_; refine zB (AV.agg [zK f.col, zK f.row]) zD rfl ?_; refine zB (AV.str f.text) zD rfl ?_; refine zI (hm _) ?_; refine zU rfl ?_; refine zH ?_
  exact zc rfl rfl rfl rfl ((Old.refl _).push _)
theorem sbytes_ev (v w : AV) (l : List UInt8) (H : Heap) (hv : view H 1 v = some (l.map zl)) (hw : view H 1 w = some (l.map zl)) (hl : l.length ≤ 1000000) : EFun C GT zGb [v, w] H (.bool true) H := by
 have hlm : (l.map zl).length = l.length := List.length_map _
 refine zf ?_; refine zB1 hv ?_; refine zB1 hw ?_; refine zN (bne_eq_false_iff_eq.2 rfl) ?_; refine zBL (fun i : Nat => [(5, zJ i), (1, w), (0, v)]) (fun i H' => H' = H ∧ i ≤ l.length) (fun i => l.length - i) 0 rfl ⟨rfl, by omega⟩ (fun i H1 ⟨hH, hi⟩ => ?_)
 subst hH
 dsimp only
 by_cases hlt : i < l.length
 ·obtain ⟨c, hc⟩ : ∃ c, l[i]? = some c := ⟨_, List.getElem?_eq_getElem hlt⟩
  have hcm : (l.map zl)[i]? = some (zl c) := by rw [List.getElem?_map, hc]; rfl
  refine zB1 hv ?_; refine zR tT ?_; refine zG3 i (zl c) hv rfl hcm (fun p hp => ?_)
  refine zAL (zl c) hp rfl ?_; refine zG3 i (zl c) hw rfl hcm (fun p2 hp2 => ?_)
  refine zAL (zl c) hp2 rfl ?_; refine zN (bne_eq_false_iff_eq.2 rfl) ?_; refine zO (r := i + 1) rfl tO ?_; refine zAb (i + 1) rfl ⟨rfl, by omega⟩ tO
 ·refine zB1 hv ?_; refine zN tF ?_
  exact zc rfl rfl rfl rfl (Old.refl _)
theorem frz_pair {n : Nat} {v v' y : AV} {H H' : Heap} (h : zDj n v H = some (v', H')) (hy : ∀ H, zDj n y H = some (y, H)) : zDj n (.tup [v, y]) H = some (.tup [v', y], H') := by
 simp only [zDj, zIi, h, hy]
def wriV (l : List Fil) : AV := if zAx l = 0 then bsV (zDd l) else .lst (some true) 0 []
theorem write_ev (hG : ∀ lv l H, view H 3 lv = some (l.map zu) → C zC8 [lv] H (eV (zAx l)) H) (hE : ∀ f, okF f → ∀ H, C zCy [zu f] H (bsV (zHo f)) H) (lv : AV) (l : List Fil) (H : Heap) (hv : view H 3 lv = some (l.map zu)) :
  EFun C GT zJQ [lv] H (.tup [wriV l, eV (zAx l)]) H := by
 have hlm : (l.map zu).length = l.length := List.length_map _
 have hg := hG lv l H hv
 clear hG
 refine zf ?_
 unfold wriV
 by_cases h0 : zAx l = 0
 ·obtain ⟨hl, hok⟩ := zIg h0
  rw [if_pos h0]
  rw [h0] at hg ⊢
  have hg : C zC8 [lv] H .nili H := hg
  have hle := zEh l hok
  refine zI hg ?_; refine zU rfl ?_; refine zF ?_; refine zB1 hv ?_; refine zBL (fun x : Nat × AV => [(15, zJ x.1), (5, x.2), (13, lv), (14, .int .i64 ((l.map zu).length : Nat))]) (fun x H' => Old H H' ∧ view H' 3 lv = some (l.map zu) ∧ x.1 ≤ l.length ∧ Owns H H' x.2 1 ((zDd (l.take x.1)).map zl)) (fun x => l.length - x.1) (0, .lst (some true) 0 []) rfl ⟨Old.refl _, hv, by simp, .inl ⟨rfl, rfl⟩⟩ (fun ⟨i, v⟩ H1 ⟨hO, hv1, hi, ho⟩ => ?_)
  dsimp only at hi ho ⊢
  by_cases hlt : i < l.length
  ·obtain ⟨f, hf⟩ : ∃ f, l[i]? = some f := ⟨_, List.getElem?_eq_getElem hlt⟩
   have hfm : (l.map zu)[i]? = some (zu f) := by rw [List.getElem?_map, hf]; rfl
   have hfo := hok f (List.mem_of_getElem? hf)
   have he := hE f hfo
   have hlt2 := zEh (l.take (i + 1)) fun g hg => hok g (List.mem_of_mem_take hg)
   have hll : (l.take (i + 1)).length ≤ 200 := by rw [List.length_take]; omega
   have hvo : view ((H1 ++ [ABlk.box [.int .i64 0, .int .i64 0, AV.str []]]).set (List.length H1) (ABlk.box (zu f).cells)) 3 lv = some (l.map zu) := zCk (((Old.refl H1).push _).set (Nat.le_refl _) _) hv1
   rw [zC3 l i f hf, List.length_append] at hlt2
   refine zR tT ?_; refine zG3 i (zu f) hv1 rfl hfm (fun p hp => ?_)
   refine zAL (zu f) hp rfl ?_; refine zG (v := zu f) (AV.cells (zu f)) zD rfl rfl rfl rfl ?_; refine zB (zu f) (zE zD) rfl ?_; refine zI (he _) ?_; refine zCq (H0 := H) (ys := (zHo f).map zl) (ho.pushSet _ _) (hO.pushSet _ _) (zDu (zHo f) _) (by decide) (by simp only [List.length_map]; omega) (by simp [zHo, zJ7]) (fun v' H' ho' hO' _ hfr => ?_)
   refine zO (r := i + 1) rfl tO ?_; refine zAb (i + 1, v') rfl ⟨hO', ?_, by simp only; omega, ?_⟩ (by simp only; omega)
   ·exact zCk hO' hv
   ·rw [← List.map_append, ← zC3 l i f hf] at ho'
    exact ho'
  ·have he : l.take i = l := List.take_of_length_le tO
   rw [he] at ho
   refine zN tF ?_
   obtain ⟨H3, hz, hO3, _⟩ := ho.frz hO
   exact sRetF rfl rfl (frz_pair hz fun _ => rfl) (by show (AV.tup [lstF 1 _, .nili]).bel _ = true; generalize (zDd l).map zl = xs; cases xs <;> rfl) hO3
 ·rw [if_neg h0]
  have he : eV (zAx l) = zEP (zAx l : Nat) := by unfold eV; rw [if_neg h0]
  rw [he] at hg ⊢
  clear hE
  refine zI hg ?_; refine zU rfl ?_; refine zH ?_
  exact zc rfl rfl rfl rfl (Old.refl _)
end
end Go.AM
