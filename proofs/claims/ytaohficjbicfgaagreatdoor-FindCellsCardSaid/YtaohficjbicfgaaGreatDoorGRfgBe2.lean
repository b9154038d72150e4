/- Several texts of mine in one (Rfg, Rfh, Gq, Be1, Be2). Own work. -/
import Derived.Test.YtaohficjbicfgaaGreatDoorGRfcChk
import Derived.Test.YtaohficjbicfgaaGreatDoorLdQ3
import Derived.Test.YtaohficjbicfgaaGreatDoorGRf5Rf3
import Derived.Test.YtaohficjbicfgaaGreatDoorGAm23Am29
set_option linter.all false
set_option maxRecDepth 20000
namespace Go.AM
theorem cmpC_less (a b : Fil) : zEr a b = if a.row ≠ b.row then decide (a.row < b.row) else decide (a.col < b.col) := by
 unfold zEr cmpC cmp3
 by_cases h1 : a.row < b.row
 ·have h2 : a.row ≠ b.row := by omega
  simp [h1, h2]
 ·by_cases h2 : b.row < a.row
  ·have h3 : a.row ≠ b.row := by omega
   simp [h1, h2, h3]
  ·have h3 : a.row = b.row := by omega
   by_cases h4 : a.col < b.col
   ·simp [h3, h4]
   ·by_cases h5 : b.col < a.col
    ·simp [h3, h4, h5]
    ·simp [h3, h4, h5]
theorem zCN {F : AF} {a s t1 t2 : Nat} {ag : Bool} {H H1 : Heap} {fr : Fr} {v v1 v2 : AV} {cs : List AV} {o : Nat} (hF : F.results = [.cell a s ag, .tmp t1, .tmp t2]) (hk : F.keep = false) (hp : zy H1 (getF fr a) = some (cs, o)) (hpt : part cs o s ag = some v) (ht1 : getF fr t1 = v1) (ht2 : getF fr t2 = v2)
  (hf : zDf H.length (.tup [v, v1, v2]) H1 = some (.tup [v, v1, v2], H1)) (hb : (AV.tup [v, v1, v2]).bel H.length = true) (ho : Old H H1) : retP F H fr H1 (.tup [v, v1, v2]) H := by
 refine ze hk ?_ hf hb ho
 rw [zFT] at hp ht1 ht2
 simp only [hF, zBl, zJw, hp, hpt, ht1, ht2, Option.map_some]
 rfl
section
variable {C : CSpec} {GT : Nat → Option AV}
theorem rin_ev (c r : Int) (H : Heap) : EFun C GT zGR [zAt c r] H (.bool (okC c r)) H := by
 refine zh ?_
 unfold okC
 by_cases h1 : 1 ≤ c
 ·rw [decide_eq_true h1]
  by_cases h2 : c ≤ 26
  ·rw [decide_eq_true h2]
   by_cases h3 : 1 ≤ r
   ·rw [decide_eq_true h3]
    refine zDc (x := zAt c r) rfl ?_; refine zB (zK c) zD rfl ?_; refine zR tT ?_; refine zB (zK c) zD rfl ?_; refine zH <| zR tT ?_; refine zB (zK r) zD rfl ?_; refine zH <| zR tT ?_; refine zB (zK r) zD rfl ?_; refine zH ?_
    exact ze rfl rfl rfl rfl ((Old.refl _).push _)
   ·rw [decide_eq_false h3]
    refine zDc (x := zAt c r) rfl ?_; refine zB (zK c) zD rfl ?_; refine zR tT ?_; refine zB (zK c) zD rfl ?_; refine zH <| zR tT ?_; refine zB (zK r) zD rfl ?_; refine zH <| zN tF <| zF ?_
    exact ze rfl rfl rfl rfl ((Old.refl _).push _)
  ·rw [decide_eq_false h2]
   refine zDc (x := zAt c r) rfl ?_; refine zB (zK c) zD rfl ?_; refine zR tT ?_; refine zB (zK c) zD rfl ?_; refine zH <| zN tF <| zF <| zF <| zF ?_
   exact ze rfl rfl rfl rfl ((Old.refl _).push _)
 ·rw [decide_eq_false h1]
  refine zDc (x := zAt c r) rfl ?_; refine zB (zK c) zD rfl ?_; refine zN tF <| zF <| zF <| zF <| zF <| zF ?_
  exact ze rfl rfl rfl rfl ((Old.refl _).push _)
theorem rahead_ev (a b : Fil) (H : Heap) : EFun C GT zDv [zAt a.col a.row, zAt b.col b.row] H (.bool (zEr a b)) H := by
 rw [cmpC_less]
 refine zh ?_
 by_cases h : a.row ≠ b.row
 ·rw [if_pos h]
  refine zDc (x := zAt a.col a.row) rfl ?_; refine zDc (x := zAt b.col b.row) rfl ?_; refine zB (zK a.row) (zC zD) rfl ?_; refine zB (zK b.row) zD rfl ?_; refine zR (bne_iff_ne.2 h) ?_; refine zB (zK a.row) (zC zD) rfl ?_; refine zB (zK b.row) zD rfl ?_
  exact ze rfl rfl rfl rfl (((Old.refl _).push _).push _)
 ·rw [if_neg h]
  have h : a.row = b.row := Classical.not_not.1 h
  refine zDc (x := zAt a.col a.row) rfl ?_; refine zDc (x := zAt b.col b.row) rfl ?_; refine zB (zK a.row) (zC zD) rfl ?_; refine zB (zK b.row) zD rfl ?_; refine zN (bne_eq_false_iff_eq.2 h) ?_; refine zB (zK a.col) (zC zD) rfl ?_; refine zB (zK b.col) zD rfl ?_
  exact ze rfl rfl rfl rfl (((Old.refl _).push _).push _)
def RPar (C : CSpec) (s : Bs) : Prop :=
 (∀ n, zDe s = some n → ∀ H, C zCG [.str s] H (.tup [ndV n, zK 0, zK 0]) H) ∧ (zDe s = none → ∀ H, ∃ w e : Int, e ≠ 0 ∧ C zCG [.str s] H (.tup [ndV zY, zK w, zK e]) H)
theorem rparse_ok (hT : ∀ s a H, a ≤ s.length → s.length ≤ 1000 → C zV [.str s, zJ a] H (tkV s a) H) (s : Bs) (hl : s.length ≤ 200) (h61 : s[0]? = some 61) (n : Nd) (e : Nat) (he : e ≤ s.length) (hk : tok s e = .fin)
  (hLo : ∀ b H, H[b]? = some (rP s 1 0) → C zW [pR b, .int .i64 1] H (ndV n) (H.set b (rP s e 0))) (H : Heap) : EFun C GT zCI [.str s] H (.tup [ndV n, zK 0, zK 0]) H := by
 have htk := fun H => hT s e H he tO
 rw [zEY, hk] at htk
 clear hT
 refine zh ?_
 have hne : s ≠ [] := fun x => by subst x; cases h61
 generalize skip s e = q at *
 refine zN tF <| zN (tN hne) ?_; refine zk rfl h61 ?_; refine zF <| zF ?_; refine zU (v := [AV.str s, .int .i64 1, .int .i64 0, .int .i64 0, .int .i64 0]) rfl ?_; refine zDc (x := AV.agg [AV.str s, .int .i64 1, .int .i64 0, .int .i64 0, .int .i64 0]) rfl ?_; refine zl (hLo _ _ hP) (fun h => by cases h) ?_; refine zG (v := ndV n) (AV.cells (ndV n)) zD rfl rfl rfl rfl ?_; refine zB (zK ↑e) (zA tA (zC (zE zD))) rfl ?_
 refine zI (htk _) ?_; refine zG (v := kV (tkK Tok.fin) q (tkE q Tok.fin) (tkT Tok.fin)) (AV.cells (kV (tkK Tok.fin) q (tkE q Tok.fin) (tkT Tok.fin))) zD rfl rfl rfl rfl ?_; refine zB (zK 0) (zA tA (zC (zA tA (zC (zE zD))))) rfl ?_; refine zH ?_; refine zB (zJ (tkK Tok.fin)) (zE zD) rfl ?_; refine zH <| zF ?_; refine zB (zK 0) (zA tA (zC (zA tA (zC (zE zD))))) rfl ?_; refine zF ?_; refine zB (ndV n) (zA tA (zC (zE zD))) rfl ?_
 refine zG (v := ndV n) (AV.cells (ndV n)) (zA tA (zC (zA tA (zC (zA tA (zC zD)))))) rfl rfl rfl rfl ?_
 exact zCN (o := 0) rfl rfl (zL hP) rfl rfl rfl rfl rfl (by repeat' (first | exact Old.refl _ | refine Old.set ?_ tC _ | refine Old.push ?_ _))
theorem rparse_tail (hT : ∀ s a H, a ≤ s.length → s.length ≤ 1000 → C zV [.str s, zJ a] H (tkV s a) H)
  (hF : ∀ b s p d a e H, H[b]? = some (pB s p 0 0 d) → C zc [pR b, zK a, zK e] H (.tup []) (H.set b (pB s p a e d)))
  (s : Bs) (hl : s.length ≤ 200) (h61 : s[0]? = some 61) (n : Nd) (e : Nat) (he : e ≤ s.length) (hk : tkK (tok s e) ≠ 0)
  (hLo : ∀ b H, H[b]? = some (rP s 1 0) → C zW [pR b, .int .i64 1] H (ndV n) (H.set b (rP s e 0))) (H : Heap) : EFun C GT zCI [.str s] H (.tup [ndV zY, zJ (skip s e), zK 2]) H := by
 have htk := fun H => hT s e H he tO
 rw [zEY] at htk
 have hf := fun b H => hF b s e 0 (skip s e : Nat) 2 H
 clear hT hF
 refine zh ?_
 have hne : s ≠ [] := fun x => by subst x; cases h61
 generalize tkE (skip s e) (tok s e) = ee at *
 generalize tkK (tok s e) = kk at *
 generalize tkT (tok s e) = t at *
 generalize skip s e = q at *
 refine zN tF <| zN (tN hne) ?_; refine zk rfl h61 ?_; refine zF <| zF ?_; refine zU (v := [AV.str s, .int .i64 1, .int .i64 0, .int .i64 0, .int .i64 0]) rfl ?_; refine zDc (x := AV.agg [AV.str s, .int .i64 1, .int .i64 0, .int .i64 0, .int .i64 0]) rfl ?_; refine zl (hLo _ _ hP) (fun h => by cases h) ?_; refine zG (v := ndV n) (AV.cells (ndV n)) zD rfl rfl rfl rfl ?_; refine zB (zK ↑e) (zA tA (zC (zE zD))) rfl ?_
 refine zI (htk _) ?_; refine zG (v := kV kk q ee t) (AV.cells (kV kk q ee t)) zD rfl rfl rfl rfl ?_; refine zB (zK 0) (zA tA (zC (zA tA (zC (zE zD))))) rfl ?_; refine zR (tE (by rfl)) ?_; refine zB (zJ kk) (zE zD) rfl ?_; refine zH <| zR (bne_iff_ne.2 tO) ?_; refine zB (zJ q) (zE zD) rfl ?_; refine zl (hf _ _ hP) (fun h => by cases h) ?_; refine zB (zK 2) (zE (zA tA (zC (zA tA (zC (zE zD)))))) rfl ?_
 refine zR (bne_iff_ne.2 tO) ?_; refine zU (v := [.int .i64 0, .int .i64 0, AV.str [], .int .i64 0, .int .i64 0, AV.bool false, AV.bool false, .int .i64 0, .int .i64 0, AV.bool false, AV.bool false, AV.lst (some true) 0 []]) rfl ?_; refine zGH ?_ ?_
 ·refine zB (zK ↑q) (zE (zA tA (zC (zA tA (zC (zE zD)))))) rfl ?_; refine zGH ?_ ?_
  ·refine zB (zK 2) (zE (zA tA (zC (zA tA (zC (zE zD)))))) rfl ?_; refine zG (v := AV.agg [.int .i64 0, .int .i64 0, AV.str [], .int .i64 0, .int .i64 0, AV.bool false, AV.bool false, .int .i64 0, .int .i64 0, AV.bool false, AV.bool false, AV.lst (some true) 0 []]) (AV.cells (AV.agg [.int .i64 0, .int .i64 0, AV.str [], .int .i64 0, .int .i64 0, AV.bool false, AV.bool false, .int .i64 0, .int .i64 0, AV.bool false, AV.bool false, AV.lst (some true) 0 []])) (zA tA (zA tA (zC (zA tA (zC (zA tA (zC zD))))))) rfl rfl rfl rfl ?_
   exact zCN (o := 0) rfl rfl (zL hP) rfl rfl rfl rfl rfl (by repeat' (first | exact Old.refl _ | refine Old.set ?_ tC _ | refine Old.push ?_ _))
  ·refine zG (v := AV.agg [.int .i64 0, .int .i64 0, AV.str [], .int .i64 0, .int .i64 0, AV.bool false, AV.bool false, .int .i64 0, .int .i64 0, AV.bool false, AV.bool false, AV.lst (some true) 0 []]) (AV.cells (AV.agg [.int .i64 0, .int .i64 0, AV.str [], .int .i64 0, .int .i64 0, AV.bool false, AV.bool false, .int .i64 0, .int .i64 0, AV.bool false, AV.bool false, AV.lst (some true) 0 []])) (zA tA (zA tA (zC (zA tA (zC (zA tA (zC zD))))))) rfl rfl rfl rfl ?_
   refine zB (zK 2) (zA tA (zE (zA tA (zC (zA tA (zC (zE zD))))))) rfl ?_
   exact zCN (o := 0) rfl rfl (zL hP) rfl rfl rfl rfl rfl (by repeat' (first | exact Old.refl _ | refine Old.set ?_ tC _ | refine Old.push ?_ _))
 ·refine zGH ?_ ?_
  ·refine zB (zK 2) (zE (zA tA (zC (zA tA (zC (zE zD)))))) rfl ?_; refine zGH ?_ ?_
   ·refine zB (zK ↑q) (zE (zA tA (zC (zA tA (zC (zE zD)))))) rfl ?_; refine zG (v := AV.agg [.int .i64 0, .int .i64 0, AV.str [], .int .i64 0, .int .i64 0, AV.bool false, AV.bool false, .int .i64 0, .int .i64 0, AV.bool false, AV.bool false, AV.lst (some true) 0 []]) (AV.cells (AV.agg [.int .i64 0, .int .i64 0, AV.str [], .int .i64 0, .int .i64 0, AV.bool false, AV.bool false, .int .i64 0, .int .i64 0, AV.bool false, AV.bool false, AV.lst (some true) 0 []])) (zA tA (zA tA (zC (zA tA (zC (zA tA (zC zD))))))) rfl rfl rfl rfl ?_
    exact zCN (o := 0) rfl rfl (zL hP) rfl rfl rfl rfl rfl (by repeat' (first | exact Old.refl _ | refine Old.set ?_ tC _ | refine Old.push ?_ _))
   ·refine zG (v := AV.agg [.int .i64 0, .int .i64 0, AV.str [], .int .i64 0, .int .i64 0, AV.bool false, AV.bool false, .int .i64 0, .int .i64 0, AV.bool false, AV.bool false, AV.lst (some true) 0 []]) (AV.cells (AV.agg [.int .i64 0, .int .i64 0, AV.str [], .int .i64 0, .int .i64 0, AV.bool false, AV.bool false, .int .i64 0, .int .i64 0, AV.bool false, AV.bool false, AV.lst (some true) 0 []])) (zA tA (zA tA (zC (zA tA (zC (zA tA (zC zD))))))) rfl rfl rfl rfl ?_
    refine zB (zK ↑q) (zA tA (zE (zA tA (zC (zA tA (zC (zE zD))))))) rfl ?_
    exact zCN (o := 0) rfl rfl (zL hP) rfl rfl rfl rfl rfl (by repeat' (first | exact Old.refl _ | refine Old.set ?_ tC _ | refine Old.push ?_ _))
  ·refine zG (v := AV.agg [.int .i64 0, .int .i64 0, AV.str [], .int .i64 0, .int .i64 0, AV.bool false, AV.bool false, .int .i64 0, .int .i64 0, AV.bool false, AV.bool false, AV.lst (some true) 0 []]) (AV.cells (AV.agg [.int .i64 0, .int .i64 0, AV.str [], .int .i64 0, .int .i64 0, AV.bool false, AV.bool false, .int .i64 0, .int .i64 0, AV.bool false, AV.bool false, AV.lst (some true) 0 []])) (zA tA (zA tA (zC (zA tA (zC (zA tA (zC zD))))))) rfl rfl rfl rfl ?_
   refine zB (zK ↑q) (zA tA (zE (zA tA (zC (zA tA (zC (zE zD))))))) rfl ?_; refine zB (zK 2) (zA tA (zE (zA tA (zC (zA tA (zC (zE zD))))))) rfl ?_
   exact zCN (o := 0) rfl rfl (zL hP) rfl rfl rfl rfl rfl (by repeat' (first | exact Old.refl _ | refine Old.set ?_ tC _ | refine Old.push ?_ _))
theorem rparse_bad (hT : ∀ s a H, a ≤ s.length → s.length ≤ 1000 → C zV [.str s, zJ a] H (tkV s a) H)
  (s : Bs) (hl : s.length ≤ 200) (h61 : s[0]? = some 61) (n : Nd) (a : Nat) (w e d : Int) (ha : a ≤ s.length) (he : e ≠ 0) (H : Heap)
  (hLo : ∀ H', H'[(H ++ [ABlk.box (ndC zY)]).length]? = some (rP s 1 0) → C zW [pR (H ++ [ABlk.box (ndC zY)]).length, .int .i64 1] H' (ndV n) (H'.set (H ++ [ABlk.box (ndC zY)]).length (pB s a w e d))) : EFun C GT zCI [.str s] H (.tup [ndV zY, zK w, zK e]) H := by
 have htk := fun H => hT s a H ha tO
 rw [zEY] at htk
 clear hT
 refine zh ?_
 have hne : s ≠ [] := fun x => by subst x; cases h61
 generalize tkE (skip s a) (tok s a) = ee at *
 generalize tkK (tok s a) = kk at *
 generalize tkT (tok s a) = t at *
 generalize skip s a = q at *
 refine zN tF <| zN (tN hne) ?_; refine zk rfl h61 ?_; refine zF <| zF ?_; refine zU (v := [AV.str s, .int .i64 1, .int .i64 0, .int .i64 0, .int .i64 0]) rfl ?_; refine zDc (x := AV.agg [AV.str s, .int .i64 1, .int .i64 0, .int .i64 0, .int .i64 0]) rfl ?_; refine zl (hLo _ hP) (fun h => by cases h) ?_; refine zG (v := ndV n) (AV.cells (ndV n)) zD rfl rfl rfl rfl ?_; refine zB (zK ↑a) (zA tA (zC (zE zD))) rfl ?_
 refine zI (htk _) ?_; refine zG (v := kV kk q ee t) (AV.cells (kV kk q ee t)) zD rfl rfl rfl rfl ?_; refine zB (zK e) (zA tA (zC (zA tA (zC (zE zD))))) rfl ?_; refine zN tF <| zF <| zF ?_; refine zB (zK e) (zA tA (zC (zA tA (zC (zE zD))))) rfl ?_; refine zR (bne_iff_ne.2 he) ?_; refine zU (v := [.int .i64 0, .int .i64 0, AV.str [], .int .i64 0, .int .i64 0, AV.bool false, AV.bool false, .int .i64 0, .int .i64 0, AV.bool false, AV.bool false, AV.lst (some true) 0 []]) rfl ?_
 refine zGH ?_ ?_
 ·refine zB (zK w) (zA tA (zC (zA tA (zC (zE zD))))) rfl ?_; refine zGH ?_ ?_
  ·refine zB (zK e) (zA tA (zC (zA tA (zC (zE zD))))) rfl ?_; refine zG (v := AV.agg [.int .i64 0, .int .i64 0, AV.str [], .int .i64 0, .int .i64 0, AV.bool false, AV.bool false, .int .i64 0, .int .i64 0, AV.bool false, AV.bool false, AV.lst (some true) 0 []]) (AV.cells (AV.agg [.int .i64 0, .int .i64 0, AV.str [], .int .i64 0, .int .i64 0, AV.bool false, AV.bool false, .int .i64 0, .int .i64 0, AV.bool false, AV.bool false, AV.lst (some true) 0 []])) (zA tA (zC (zA tA (zC (zA tA (zC zD)))))) rfl rfl rfl rfl ?_
   exact zCN (o := 0) rfl rfl (zL hP) rfl rfl rfl rfl rfl (by repeat' (first | exact Old.refl _ | refine Old.set ?_ tC _ | refine Old.push ?_ _))
  ·refine zG (v := AV.agg [.int .i64 0, .int .i64 0, AV.str [], .int .i64 0, .int .i64 0, AV.bool false, AV.bool false, .int .i64 0, .int .i64 0, AV.bool false, AV.bool false, AV.lst (some true) 0 []]) (AV.cells (AV.agg [.int .i64 0, .int .i64 0, AV.str [], .int .i64 0, .int .i64 0, AV.bool false, AV.bool false, .int .i64 0, .int .i64 0, AV.bool false, AV.bool false, AV.lst (some true) 0 []])) (zA tA (zC (zA tA (zC (zA tA (zC zD)))))) rfl rfl rfl rfl ?_
   refine zB (zK e) (zA tA (zA tA (zC (zA tA (zC (zE zD)))))) rfl ?_
   exact zCN (o := 0) rfl rfl (zL hP) rfl rfl rfl rfl rfl (by repeat' (first | exact Old.refl _ | refine Old.set ?_ tC _ | refine Old.push ?_ _))
 ·refine zGH ?_ ?_
  ·refine zB (zK e) (zA tA (zC (zA tA (zC (zE zD))))) rfl ?_; refine zGH ?_ ?_
   ·refine zB (zK w) (zA tA (zC (zA tA (zC (zE zD))))) rfl ?_; refine zG (v := AV.agg [.int .i64 0, .int .i64 0, AV.str [], .int .i64 0, .int .i64 0, AV.bool false, AV.bool false, .int .i64 0, .int .i64 0, AV.bool false, AV.bool false, AV.lst (some true) 0 []]) (AV.cells (AV.agg [.int .i64 0, .int .i64 0, AV.str [], .int .i64 0, .int .i64 0, AV.bool false, AV.bool false, .int .i64 0, .int .i64 0, AV.bool false, AV.bool false, AV.lst (some true) 0 []])) (zA tA (zC (zA tA (zC (zA tA (zC zD)))))) rfl rfl rfl rfl ?_
    exact zCN (o := 0) rfl rfl (zL hP) rfl rfl rfl rfl rfl (by repeat' (first | exact Old.refl _ | refine Old.set ?_ tC _ | refine Old.push ?_ _))
   ·refine zG (v := AV.agg [.int .i64 0, .int .i64 0, AV.str [], .int .i64 0, .int .i64 0, AV.bool false, AV.bool false, .int .i64 0, .int .i64 0, AV.bool false, AV.bool false, AV.lst (some true) 0 []]) (AV.cells (AV.agg [.int .i64 0, .int .i64 0, AV.str [], .int .i64 0, .int .i64 0, AV.bool false, AV.bool false, .int .i64 0, .int .i64 0, AV.bool false, AV.bool false, AV.lst (some true) 0 []])) (zA tA (zC (zA tA (zC (zA tA (zC zD)))))) rfl rfl rfl rfl ?_
    refine zB (zK w) (zA tA (zA tA (zC (zA tA (zC (zE zD)))))) rfl ?_
    exact zCN (o := 0) rfl rfl (zL hP) rfl rfl rfl rfl rfl (by repeat' (first | exact Old.refl _ | refine Old.set ?_ tC _ | refine Old.push ?_ _))
  ·refine zG (v := AV.agg [.int .i64 0, .int .i64 0, AV.str [], .int .i64 0, .int .i64 0, AV.bool false, AV.bool false, .int .i64 0, .int .i64 0, AV.bool false, AV.bool false, AV.lst (some true) 0 []]) (AV.cells (AV.agg [.int .i64 0, .int .i64 0, AV.str [], .int .i64 0, .int .i64 0, AV.bool false, AV.bool false, .int .i64 0, .int .i64 0, AV.bool false, AV.bool false, AV.lst (some true) 0 []])) (zA tA (zC (zA tA (zC (zA tA (zC zD)))))) rfl rfl rfl rfl ?_
   refine zB (zK w) (zA tA (zA tA (zC (zA tA (zC (zE zD)))))) rfl ?_; refine zB (zK e) (zA tA (zA tA (zC (zA tA (zC (zE zD)))))) rfl ?_
   exact zCN (o := 0) rfl rfl (zL hP) rfl rfl rfl rfl rfl (by repeat' (first | exact Old.refl _ | refine Old.set ?_ tC _ | refine Old.push ?_ _))
end
end Go.AM
set_option maxRecDepth 20000
namespace Go.AM
theorem idx_two {v : AV} {H : Heap} {k : Nat} {xs : List AV} (hv : view H k v = some xs) : (∀ (n : Int) (i : Nat) (x : AV) (K : AV → Prop), n = (i : Int) → xs[i]? = some x → K (.lref x 0) → idxN k v n K) ∨
  (∀ (n : Int) (i : Nat) (x : AV) (K : AV → Prop), n = (i : Int) → xs[i]? = some x → (∀ b j, (∀ o, zy H (.ref b k j o) = some (x.cells, o)) → K (.ref b k j 0)) → idxN k v n K) := by
 unfold view at hv
 split at hv
 ·split at hv
  ·rename_i hk
   cases hv; subst hk
   exact .inl fun n i x K hn hx q => sIdx hn hx q
  ·split at hv
   ·cases hv
    exact .inl fun n i x K hn hx q => by simp at hx
   ·cases hv
 ·refine .inr fun n i x K hn hx q2 => ?_
  have hlt := (zg hx).1
  rw [zGp]; unfold idxNW
  simp only
  split at hv
  ·rename_i hk
   subst hk
   split at hv
   ·rename_i hb
    split at hv
    ·rename_i hc
     cases hv
     rw [List.length_take, List.length_drop] at hlt
     rw [List.getElem?_take, if_pos tO, List.getElem?_drop] at hx
     subst hn
     rw [hc.1] at hb
     refine zFS ⟨rfl, by omega, by omega⟩ (q2 _ _ fun o => ?_)
     show zy H (.ref _ _ _ _) = _
     simp only [zy, hb, if_true, Int.toNat_natCast, hx, Option.map_some]
    ·cases hv
   ·rename_i hb
    split at hv
    ·rename_i hc
     cases hv
     rw [List.length_take, List.length_drop] at hlt
     rw [List.getElem?_take, if_pos tO, List.getElem?_drop] at hx
     subst hn
     rw [hc.1] at hb
     refine zFS ⟨rfl, by omega, by omega⟩ (q2 _ _ fun o => ?_)
     show zy H (.ref _ _ _ _) = _
     simp only [zy, hb, if_true, Int.toNat_natCast, hx, Option.map_some]
    ·cases hv
   ·cases hv
  ·cases hv
 ·cases hv
section
variable {C : CSpec} {GT : Nat → Option AV}
theorem rtext_ev (hP : ∀ s, s.length ≤ 200 → s.head? = some 61 → RPar C s) (s : Bs) (H : Heap) : EFun C GT zEf [.str s] H (zJ (zCM s)) H := by
 have hp := hP s
 clear hP
 refine zh ?_
 unfold zCM
 by_cases hl : 200 < s.length
 ·rw [if_pos hl]
  clear hp
  refine zR tT ?_
  exact ze rfl rfl rfl rfl (Old.refl _)
 ·rw [if_neg hl]
  cases s with
  | nil =>
   clear hp
   refine zN tF <| zF <| zF <| zF ?_
   exact ze rfl rfl rfl rfl (Old.refl _)
  | cons c r =>
   have hne : (c :: r) ≠ [] := by simp
   have h0 : (c :: r)[0]? = some c := rfl
   by_cases h : c = 61
   ·subst h
    have hp := hp tO rfl
    rw [if_pos (show (61 :: r : Bs).head? = some 61 from rfl)]
    obtain ⟨s, hs⟩ : ∃ s : Bs, (61 :: r : Bs) = s := ⟨_, rfl⟩
    rw [hs] at hl hp hne h0 ⊢
    cases hq : zDe s with
    | some n =>
     have hp := hp.1 n hq
     refine zN tF <| zR (bne_iff_ne.2 hne) ?_; refine zk rfl h0 ?_; refine zH <| zH ?_; refine zI (hp _) ?_; refine zU rfl ?_; refine zU rfl ?_; refine zU rfl ?_; refine zG (v := ndV n) (AV.cells (ndV n)) zD rfl rfl rfl rfl ?_; refine zF ?_
     exact ze rfl rfl rfl rfl (((Old.refl _).push _).set tA _)
    | none =>
     obtain ⟨w, e, he, hp⟩ := hp.2 hq H
     refine zN tF <| zR (bne_iff_ne.2 hne) ?_; refine zk rfl h0 ?_; refine zH <| zH ?_; refine zI hp ?_; refine zU rfl ?_; refine zU rfl ?_; refine zU rfl ?_; refine zG (v := ndV zY) (AV.cells (ndV zY)) zD rfl rfl rfl rfl ?_; refine zR (bne_iff_ne.2 he) ?_
     exact ze rfl rfl rfl rfl (((Old.refl _).push _).set tA _)
   ·rw [if_neg (show ¬ (c :: r : Bs).head? = some 61 from fun x => h (Option.some.inj x))]
    clear hp
    obtain ⟨s, hs⟩ : ∃ s : Bs, (c :: r : Bs) = s := ⟨_, rfl⟩
    rw [hs] at hl hne h0 ⊢
    refine zN tF <| zR (bne_iff_ne.2 hne) ?_; refine zk rfl h0 ?_; refine zH <| zN (tN (fun x => h (UInt8.toNat_inj.1 (by have : (61 : UInt8).toNat = 61 := rfl; omega)))) ?_
    exact ze rfl rfl rfl rfl (Old.refl _)
theorem rcheck_ev (hA : ∀ c r H, C zDR [zAt c r] H (.bool (okC c r)) H) (hL : ∀ a b H, C zCH [zAt a.col a.row, zAt b.col b.row] H (.bool (zEr a b)) H) (hT : ∀ s H, C zCa [.str s] H (zJ (zCM s)) H)
  (lv : AV) (l : List Fil) (H : Heap) (hv : view H 3 lv = some (l.map zAD)) : EFun C GT zDu [lv] H (zJ (zCV l)) H := by
 have hlm : (l.map zAD).length = l.length := List.length_map _
 refine zh ?_
 unfold zCV
 by_cases hl : 200 < l.length
 ·rw [if_pos hl]
  clear hA hL hT
  refine zBz hv ?_; refine zR tT ?_
  exact ze rfl rfl rfl rfl (Old.refl _)
 rw [if_neg hl]
 obtain ⟨r, hr⟩ : ∃ r, zG8 none l = r := ⟨_, rfl⟩
 rw [hr]
 refine zBz hv ?_; refine zN tF ?_; refine zBi (fun i : Nat => [(3, zJ i), (0, lv)]) (fun i H' => H' = H ∧ i ≤ l.length ∧ zG8 (if i = 0 then none else l[i - 1]?) (l.drop i) = r) (fun i => l.length - i) 0 rfl ⟨rfl, by omega, hr⟩ (fun i H1 ⟨hH, hi, hq⟩ => ?_)
 subst hH
 dsimp only
 by_cases hlt : i < l.length
 ·obtain ⟨f, hf⟩ : ∃ f, l[i]? = some f := ⟨_, List.getElem?_eq_getElem hlt⟩
  have hfm : (l.map zAD)[i]? = some (zAD f) := by rw [List.getElem?_map, hf]; rfl
  rw [filsN_drop l i f hf] at hq
  have ha := hA f.col f.row
  have ht := hT f.text
  clear hA hT
  unfold filN at hq
  rcases idx_two hv with hx | hx
  ·cases hok : okC f.col f.row with
   | false =>
    rw [hok] at ha hq
    have hq : 1 = r := hq
    subst hq
    clear hL ht
    refine zBz hv ?_; refine zR tT ?_; refine hx _ i (zAD f) _ rfl hfm ?_; refine zo (zAt f.col f.row) rfl ?_; refine zI (ha _) ?_; refine zH ?_
    exact ze rfl rfl rfl rfl (Old.refl _)
   | true =>
    rw [hok] at ha hq
    rw [if_neg (by simp : ¬ (true = false))] at hq
    by_cases hi0 : i = 0
    ·rw [if_pos hi0] at hq
     have hq : (if (if f.text = [] then 3 else zCM f.text) = 0 then zG8 (some f) (l.drop (i + 1)) else if f.text = [] then 3 else zCM f.text) = r := hq
     clear hL
     by_cases h0 : f.text = []
     ·rw [if_pos h0] at hq
      have hq : 3 = r := hq
      subst hq
      clear ht
      refine zBz hv ?_; refine zR tT ?_; refine hx _ i (zAD f) _ rfl hfm ?_; refine zo (zAt f.col f.row) rfl ?_; refine zI (ha _) ?_; refine zF <| zN tF <| zF <| zF ?_; refine hx _ i (zAD f) _ rfl hfm ?_; refine zo (.str f.text) rfl ?_; refine zR (tE h0) ?_
      exact ze rfl rfl rfl rfl (Old.refl _)
     ·rw [if_neg h0] at hq
      by_cases hz : zCM f.text = 0
      ·rw [if_pos hz] at hq
       rw [hz] at ht
       refine zBz hv ?_; refine zR tT ?_; refine hx _ i (zAD f) _ rfl hfm ?_; refine zo (zAt f.col f.row) rfl ?_; refine zI (ha _) ?_; refine zF <| zN tF <| zF <| zF ?_; refine hx _ i (zAD f) _ rfl hfm ?_; refine zo (.str f.text) rfl ?_; refine zN (tN h0) ?_; refine hx _ i (zAD f) _ rfl hfm ?_; refine zo (.str f.text) rfl ?_; refine zI (ht _) ?_; refine zF ?_; refine zM (r := i + 1) rfl tO ?_; refine zAO (i + 1) rfl ⟨rfl, by omega, ?_⟩ tO
       rw [if_neg tO, Nat.add_sub_cancel, hf]
       exact hq
      ·rw [if_neg hz] at hq
       subst hq
       refine zBz hv ?_; refine zR tT ?_; refine hx _ i (zAD f) _ rfl hfm ?_; refine zo (zAt f.col f.row) rfl ?_; refine zI (ha _) ?_; refine zF <| zN tF <| zF <| zF ?_; refine hx _ i (zAD f) _ rfl hfm ?_; refine zo (.str f.text) rfl ?_; refine zN (tN h0) ?_; refine hx _ i (zAD f) _ rfl hfm ?_; refine zo (.str f.text) rfl ?_; refine zI (ht _) ?_; refine zR (bne_iff_ne.2 tO) ?_
       exact ze rfl rfl rfl rfl (Old.refl _)
    ·obtain ⟨g, hg⟩ : ∃ g, l[i - 1]? = some g := ⟨_, List.getElem?_eq_getElem tO⟩
     have hgm : (l.map zAD)[i - 1]? = some (zAD g) := by rw [List.getElem?_map, hg]; rfl
     rw [if_neg hi0, hg] at hq
     have hq : (if (if zEr g f = false then 5 else if f.text = [] then 3 else zCM f.text) = 0 then zG8 (some f) (l.drop (i + 1)) else if zEr g f = false then 5 else if f.text = [] then 3 else zCM f.text) = r := hq
     have hls := hL g f
     clear hL
     cases hlp : zEr g f with
     | false =>
      rw [hlp] at hls hq
      have hq : 5 = r := hq
      subst hq
      clear ht
      refine zBz hv ?_; refine zR tT ?_; refine hx _ i (zAD f) _ rfl hfm ?_; refine zo (zAt f.col f.row) rfl ?_; refine zI (ha _) ?_; refine zF <| zR tT ?_; refine zM (r := i - 1) tO tO ?_; refine hx _ (i - 1) (zAD g) _ tO hgm ?_; refine zo (zAt g.col g.row) rfl ?_; refine hx _ i (zAD f) _ rfl hfm ?_; refine zo (zAt f.col f.row) rfl ?_; refine zI (hls _) ?_; refine zH <| zH ?_
      exact ze rfl rfl rfl rfl (Old.refl _)
     | true =>
      rw [hlp] at hls hq
      rw [if_neg (by simp : ¬ (true = false))] at hq
      by_cases h0 : f.text = []
      ·rw [if_pos h0] at hq
       have hq : 3 = r := hq
       subst hq
       clear ht
       refine zBz hv ?_; refine zR tT ?_; refine hx _ i (zAD f) _ rfl hfm ?_; refine zo (zAt f.col f.row) rfl ?_; refine zI (ha _) ?_; refine zF <| zR tT ?_; refine zM (r := i - 1) tO tO ?_; refine hx _ (i - 1) (zAD g) _ tO hgm ?_; refine zo (zAt g.col g.row) rfl ?_; refine hx _ i (zAD f) _ rfl hfm ?_; refine zo (zAt f.col f.row) rfl ?_; refine zI (hls _) ?_; refine zH <| zF ?_; refine hx _ i (zAD f) _ rfl hfm ?_
       refine zo (.str f.text) rfl ?_; refine zR (tE h0) ?_
       exact ze rfl rfl rfl rfl (Old.refl _)
      ·rw [if_neg h0] at hq
       by_cases hz : zCM f.text = 0
       ·rw [if_pos hz] at hq
        rw [hz] at ht
        refine zBz hv ?_; refine zR tT ?_; refine hx _ i (zAD f) _ rfl hfm ?_; refine zo (zAt f.col f.row) rfl ?_; refine zI (ha _) ?_; refine zF <| zR tT ?_; refine zM (r := i - 1) tO tO ?_; refine hx _ (i - 1) (zAD g) _ tO hgm ?_; refine zo (zAt g.col g.row) rfl ?_; refine hx _ i (zAD f) _ rfl hfm ?_; refine zo (zAt f.col f.row) rfl ?_; refine zI (hls _) ?_; refine zH <| zF ?_; refine hx _ i (zAD f) _ rfl hfm ?_
        refine zo (.str f.text) rfl ?_; refine zN (tN h0) ?_; refine hx _ i (zAD f) _ rfl hfm ?_; refine zo (.str f.text) rfl ?_; refine zI (ht _) ?_; refine zF ?_; refine zM (r := i + 1) rfl tO ?_; refine zAO (i + 1) rfl ⟨rfl, by omega, ?_⟩ tO
        rw [if_neg tO, Nat.add_sub_cancel, hf]
        exact hq
       ·rw [if_neg hz] at hq
        subst hq
        refine zBz hv ?_; refine zR tT ?_; refine hx _ i (zAD f) _ rfl hfm ?_; refine zo (zAt f.col f.row) rfl ?_; refine zI (ha _) ?_; refine zF <| zR tT ?_; refine zM (r := i - 1) tO tO ?_; refine hx _ (i - 1) (zAD g) _ tO hgm ?_; refine zo (zAt g.col g.row) rfl ?_; refine hx _ i (zAD f) _ rfl hfm ?_; refine zo (zAt f.col f.row) rfl ?_; refine zI (hls _) ?_; refine zH <| zF ?_; refine hx _ i (zAD f) _ rfl hfm ?_
        refine zo (.str f.text) rfl ?_; refine zN (tN h0) ?_; refine hx _ i (zAD f) _ rfl hfm ?_; refine zo (.str f.text) rfl ?_; refine zI (ht _) ?_; refine zR (bne_iff_ne.2 tO) ?_
        exact ze rfl rfl rfl rfl (Old.refl _)
  ·cases hok : okC f.col f.row with
   | false =>
    rw [hok] at ha hq
    have hq : 1 = r := hq
    subst hq
    clear hL ht
    refine zBz hv ?_; refine zR tT ?_; refine hx _ i (zAD f) _ rfl hfm (fun b2 j2 hp2 => ?_)
    refine z8 (zAt f.col f.row) (hp2 _) rfl ?_; refine zI (ha _) ?_; refine zH ?_
    exact ze rfl rfl rfl rfl (Old.refl _)
   | true =>
    rw [hok] at ha hq
    rw [if_neg (by simp : ¬ (true = false))] at hq
    by_cases hi0 : i = 0
    ·rw [if_pos hi0] at hq
     have hq : (if (if f.text = [] then 3 else zCM f.text) = 0 then zG8 (some f) (l.drop (i + 1)) else if f.text = [] then 3 else zCM f.text) = r := hq
     clear hL
     by_cases h0 : f.text = []
     ·rw [if_pos h0] at hq
      have hq : 3 = r := hq
      subst hq
      clear ht
      refine zBz hv ?_; refine zR tT ?_; refine hx _ i (zAD f) _ rfl hfm (fun b2 j2 hp2 => ?_)
      refine z8 (zAt f.col f.row) (hp2 _) rfl ?_; refine zI (ha _) ?_; refine zF <| zN tF <| zF <| zF ?_; refine hx _ i (zAD f) _ rfl hfm (fun b2 j2 hp2 => ?_)
      refine z8 (.str f.text) (hp2 _) rfl ?_; refine zR (tE h0) ?_
      exact ze rfl rfl rfl rfl (Old.refl _)
     ·rw [if_neg h0] at hq
      by_cases hz : zCM f.text = 0
      ·rw [if_pos hz] at hq
       rw [hz] at ht
       refine zBz hv ?_; refine zR tT ?_; refine hx _ i (zAD f) _ rfl hfm (fun b2 j2 hp2 => ?_)
       refine z8 (zAt f.col f.row) (hp2 _) rfl ?_; refine zI (ha _) ?_; refine zF <| zN tF <| zF <| zF ?_; refine hx _ i (zAD f) _ rfl hfm (fun b2 j2 hp2 => ?_)
       refine z8 (.str f.text) (hp2 _) rfl ?_; refine zN (tN h0) ?_; refine hx _ i (zAD f) _ rfl hfm (fun b2 j2 hp2 => ?_)
       refine z8 (.str f.text) (hp2 _) rfl ?_; refine zI (ht _) ?_; refine zF ?_; refine zM (r := i + 1) rfl tO ?_; refine zAO (i + 1) rfl ⟨rfl, by omega, ?_⟩ tO
       rw [if_neg tO, Nat.add_sub_cancel, hf]
       exact hq
      ·rw [if_neg hz] at hq
       subst hq
       refine zBz hv ?_; refine zR tT ?_; refine hx _ i (zAD f) _ rfl hfm (fun b2 j2 hp2 => ?_)
       refine z8 (zAt f.col f.row) (hp2 _) rfl ?_; refine zI (ha _) ?_; refine zF <| zN tF <| zF <| zF ?_; refine hx _ i (zAD f) _ rfl hfm (fun b2 j2 hp2 => ?_)
       refine z8 (.str f.text) (hp2 _) rfl ?_; refine zN (tN h0) ?_; refine hx _ i (zAD f) _ rfl hfm (fun b2 j2 hp2 => ?_)
       refine z8 (.str f.text) (hp2 _) rfl ?_; refine zI (ht _) ?_; refine zR (bne_iff_ne.2 tO) ?_
       exact ze rfl rfl rfl rfl (Old.refl _)
    ·obtain ⟨g, hg⟩ : ∃ g, l[i - 1]? = some g := ⟨_, List.getElem?_eq_getElem tO⟩
     have hgm : (l.map zAD)[i - 1]? = some (zAD g) := by rw [List.getElem?_map, hg]; rfl
     rw [if_neg hi0, hg] at hq
     have hq : (if (if zEr g f = false then 5 else if f.text = [] then 3 else zCM f.text) = 0 then zG8 (some f) (l.drop (i + 1)) else if zEr g f = false then 5 else if f.text = [] then 3 else zCM f.text) = r := hq
     have hls := hL g f
     clear hL
     cases hlp : zEr g f with
     | false =>
      rw [hlp] at hls hq
      have hq : 5 = r := hq
      subst hq
      clear ht
      refine zBz hv ?_; refine zR tT ?_; refine hx _ i (zAD f) _ rfl hfm (fun b2 j2 hp2 => ?_)
      refine z8 (zAt f.col f.row) (hp2 _) rfl ?_; refine zI (ha _) ?_; refine zF <| zR tT ?_; refine zM (r := i - 1) tO tO ?_; refine hx _ (i - 1) (zAD g) _ tO hgm (fun b2 j2 hp2 => ?_)
      refine z8 (zAt g.col g.row) (hp2 _) rfl ?_; refine hx _ i (zAD f) _ rfl hfm (fun b2 j2 hp2 => ?_)
      refine z8 (zAt f.col f.row) (hp2 _) rfl ?_; refine zI (hls _) ?_; refine zH <| zH ?_
      exact ze rfl rfl rfl rfl (Old.refl _)
     | true =>
      rw [hlp] at hls hq
      rw [if_neg (by simp : ¬ (true = false))] at hq
      by_cases h0 : f.text = []
      ·rw [if_pos h0] at hq
       have hq : 3 = r := hq
       subst hq
       clear ht
       refine zBz hv ?_; refine zR tT ?_; refine hx _ i (zAD f) _ rfl hfm (fun b2 j2 hp2 => ?_)
       refine z8 (zAt f.col f.row) (hp2 _) rfl ?_; refine zI (ha _) ?_; refine zF <| zR tT ?_; refine zM (r := i - 1) tO tO ?_; refine hx _ (i - 1) (zAD g) _ tO hgm (fun b2 j2 hp2 => ?_)
       refine z8 (zAt g.col g.row) (hp2 _) rfl ?_; refine hx _ i (zAD f) _ rfl hfm (fun b2 j2 hp2 => ?_)
       refine z8 (zAt f.col f.row) (hp2 _) rfl ?_; refine zI (hls _) ?_; refine zH <| zF ?_; refine hx _ i (zAD f) _ rfl hfm (fun b2 j2 hp2 => ?_)
       refine z8 (.str f.text) (hp2 _) rfl ?_; refine zR (tE h0) ?_
       exact ze rfl rfl rfl rfl (Old.refl _)
      ·rw [if_neg h0] at hq
       by_cases hz : zCM f.text = 0
       ·rw [if_pos hz] at hq
        rw [hz] at ht
        refine zBz hv ?_; refine zR tT ?_; refine hx _ i (zAD f) _ rfl hfm (fun b2 j2 hp2 => ?_)
        refine z8 (zAt f.col f.row) (hp2 _) rfl ?_; refine zI (ha _) ?_; refine zF <| zR tT ?_; refine zM (r := i - 1) tO tO ?_; refine hx _ (i - 1) (zAD g) _ tO hgm (fun b2 j2 hp2 => ?_)
        refine z8 (zAt g.col g.row) (hp2 _) rfl ?_; refine hx _ i (zAD f) _ rfl hfm (fun b2 j2 hp2 => ?_)
        refine z8 (zAt f.col f.row) (hp2 _) rfl ?_; refine zI (hls _) ?_; refine zH <| zF ?_; refine hx _ i (zAD f) _ rfl hfm (fun b2 j2 hp2 => ?_)
        refine z8 (.str f.text) (hp2 _) rfl ?_; refine zN (tN h0) ?_; refine hx _ i (zAD f) _ rfl hfm (fun b2 j2 hp2 => ?_)
        refine z8 (.str f.text) (hp2 _) rfl ?_; refine zI (ht _) ?_; refine zF ?_; refine zM (r := i + 1) rfl tO ?_; refine zAO (i + 1) rfl ⟨rfl, by omega, ?_⟩ tO
        rw [if_neg tO, Nat.add_sub_cancel, hf]
        exact hq
       ·rw [if_neg hz] at hq
        subst hq
        refine zBz hv ?_; refine zR tT ?_; refine hx _ i (zAD f) _ rfl hfm (fun b2 j2 hp2 => ?_)
        refine z8 (zAt f.col f.row) (hp2 _) rfl ?_; refine zI (ha _) ?_; refine zF <| zR tT ?_; refine zM (r := i - 1) tO tO ?_; refine hx _ (i - 1) (zAD g) _ tO hgm (fun b2 j2 hp2 => ?_)
        refine z8 (zAt g.col g.row) (hp2 _) rfl ?_; refine hx _ i (zAD f) _ rfl hfm (fun b2 j2 hp2 => ?_)
        refine z8 (zAt f.col f.row) (hp2 _) rfl ?_; refine zI (hls _) ?_; refine zH <| zF ?_; refine hx _ i (zAD f) _ rfl hfm (fun b2 j2 hp2 => ?_)
        refine z8 (.str f.text) (hp2 _) rfl ?_; refine zN (tN h0) ?_; refine hx _ i (zAD f) _ rfl hfm (fun b2 j2 hp2 => ?_)
        refine z8 (.str f.text) (hp2 _) rfl ?_; refine zI (ht _) ?_; refine zR (bne_iff_ne.2 tO) ?_
        exact ze rfl rfl rfl rfl (Old.refl _)
 ·have hd : l.drop i = [] := List.drop_eq_nil_of_le tO
  rw [hd] at hq
  have hq : 0 = r := hq
  subst hq
  clear hA hL hT
  refine zBz hv ?_; refine zN tF ?_
  exact ze rfl rfl rfl rfl (Old.refl _)
end
structure RefK2 (PR : Program) : Prop extends RefK PR where
 parse : zAB PR zCG zCI = true
 isIn : zAB PR zDR zGR = true
 ahead : zAB PR zCH zDv = true
 text : zAB PR zCa zEf = true
 check : zAB PR zBZ zDu = true
section
variable {PR : Program} {GT : Nat → Option AV}
theorem q_parse (k : RefK2 PR) (g : BigG PR GT) (s : Bs) (hl : s.length ≤ 200) (h61 : s.head? = some 61) : RPar (Good PR GT) s := by
 have h0 : s[0]? = some 61 := by rw [← List.head?_eq_getElem?]; exact h61
 have h1 : 1 ≤ s.length := by cases s with
  | nil => cases h61
  | cons c r => simp
 have lo := fun b => (q_all k.toRefK g b s hl (s.length - 1) 1 h1 rfl 0 tO).2 1
 cases hlo : (P s).loose 1 1 0 with
 | none =>
  have hpp : zDe s = none := by unfold zDe; rw [if_pos ⟨hl, h61⟩, hlo]; rfl
  refine ⟨fun n h => (by rw [hpp] at h; cases h), fun _ H => ?_⟩
  obtain ⟨n, a, w, e, d, h2, h3, h4⟩ := (lo (H ++ [ABlk.box (ndC zY)]).length).2 hlo
  exact ⟨w, e, h2, zO k.hm k.parse (rparse_bad (zFu k.toRefK) s hl h0 n a w e d h3 h2 H h4)⟩
 | some x =>
  obtain ⟨n, e⟩ := x
  have hx := (zBu s).loose 1 1 0 _ h1 hlo
  simp only at hx
  have hl2 := fun b => (lo b).1 n e hlo
  by_cases hk : tok s e = .fin
  ·have hpp : zDe s = some n := by unfold zDe; rw [if_pos ⟨hl, h61⟩, hlo]; simp only [Option.bind_some, hk]
   refine ⟨fun n' h H => ?_, fun h => by rw [hpp] at h; cases h⟩
   rw [hpp] at h; cases h
   exact zO k.hm k.parse (rparse_ok (zFu k.toRefK) s hl h0 n e hx.2 hk hl2 H)
  ·have hpp : zDe s = none := by
    unfold zDe
    rw [if_pos ⟨hl, h61⟩, hlo]
    simp only [Option.bind_some]
   refine ⟨fun n h => (by rw [hpp] at h; cases h), fun _ H => ⟨_, 2, by decide, zO k.hm k.parse (rparse_tail (zFu k.toRefK) (q_fail k.toRefK) s hl h0 n e hx.2 (fun h => hk ?_) hl2 H)⟩⟩
   cases ht : tok s e <;> rw [ht] at h <;> first | rfl | (simp only [tkK] at h; omega)
theorem q_in (k : RefK2 PR) (c r : Int) (H : Heap) : Good PR GT zDR [zAt c r] H (.bool (okC c r)) H := zO k.hm k.isIn (rin_ev c r H)
theorem q_ahead (k : RefK2 PR) (a b : Fil) (H : Heap) : Good PR GT zCH [zAt a.col a.row, zAt b.col b.row] H (.bool (zEr a b)) H := zO k.hm k.ahead (rahead_ev a b H)
theorem q_text (k : RefK2 PR) (g : BigG PR GT) (s : Bs) (H : Heap) : Good PR GT zCa [.str s] H (zJ (zCM s)) H := zO k.hm k.text (rtext_ev (q_parse k g) s H)
theorem q_check (k : RefK2 PR) (g : BigG PR GT) (lv : AV) (l : List Fil) (H : Heap) (hv : view H 3 lv = some (l.map zAD)) : Good PR GT zBZ [lv] H (zJ (zCV l)) H := zO k.hm k.check (rcheck_ev (q_in k) (q_ahead k) (q_text k g) lv l H hv)
end
end Go.AM
set_option maxRecDepth 100000
namespace Go.Proofs.YtaohficjbicfgaaGreatDoor
open Go.AM
theorem parK : ParK Tryz.prog := { hm := mixed, contains := zDW, mkSet := zGC, trimR := zFD, trimL := zFl, trim := k_strings_Trim, slPre := zFi, pre := zHY, slTrim := zFE, trimP := zG4, wrong := k_value_Wrong, is := k_value_Is, whole := k_value_Whole, lit := zKn, ref := k_addr_Ref, dollar := k_addr_Ref_c1, wordly := zJf, called := zJg, plain := zKo, opOf := k_formula_opOf, fail := zF6, blanks := zFA, word := zGA, want := zF8, within := zFB, text := zF9, neg := zGd, negc := zFC, prim := zF7, prim1 := zEo, prim2 := zEp, call := zGB, argument := zEG, two := zGc }
theorem parK2 : ParK2 Tryz.prog := { parK with const := zII, parse := zKj, clos := zIJ, dfr := by kernel_rfl, rcv := by kernel_rfl }
theorem refK : RefK Tryz.prog := { hm := mixed, wordly := zJb, wrongs := zJc, bad := k_sccref1_Bad, named := zKm, token := zKi, called := zJd, whole := zKl, ref := k_sccref1_Ref, sign := k_sccref1_Sign, tight := zKk, fail := zIy, deeper := zHZ, close := zIK, one := zJa, call := zIz, loose := zIH }
theorem refK2 : RefK2 Tryz.prog := { refK with parse := zKg, isIn := k_sccref1_In, ahead := zKh, text := k_sccref2_Text, check := zKd }
section
variable {m : Int} {ev : Value}
theorem parG (hev : ∃ te pe, ev = .iface te pe) : ParG Tryz.prog (gtQ m ev) := { atoi := atoi_ok, atoi2 := atoi_bad hev, texts := rfl, loose := rfl }
end
section
variable {GT : Nat → Option AV}
theorem g_trim (b m : Nat) (ws : List Nat) (H : Heap) (hm : ws.length = m) (hb : H[b]? = some (.row 1 (ws.map zA4))) (hw : Small ws) (hl : m ≤ 1000000) : Go.AM.Good Tryz.prog GT zw [.sl (some false) b 1 0 m] H (.sl (some false) b 1 0 (wds (wval ws)).length) H :=
 zO mixed zHa (trim_ev b m ws H hm hb hw hl)
theorem g_words (x : Nat) (H : Heap) (hx : x < 18446744073709551616) : Go.AM.Good Tryz.prog GT zBV [u64V x] H (zDm x) H := zO mixed zG3 (words_ev g_trim x hx H)
theorem g_badd (av bv : AV) (x y : Nat) (H : Heap) (ha : Mag av x) (hb : Mag bv y) (h1 : (wds x).length ≤ 100000) (h2 : (wds y).length ≤ 100000) : Go.AM.Good Tryz.prog GT zB9 [av, bv] H (zDm (x + y)) H :=
 zO mixed zIO (add_ev g_trim av bv x y H ha hb h1 h2)
theorem g_bsub (av bv : AV) (x y : Nat) (H : Heap) (ha : Mag av x) (hb : Mag bv y) (h : y ≤ x) (h1 : (wds x).length ≤ 100000) : Go.AM.Good Tryz.prog GT zBI [av, bv] H (zDm (x - y)) H :=
 zO mixed zIQ (sub_ev g_trim av bv x y _ H ha hb h rfl h1)
theorem g_bcmp (av bv : AV) (x y : Nat) (H : Heap) (ha : Mag av x) (hb : Mag bv y) (h1 : (wds x).length ≤ 100000) (h2 : (wds y).length ≤ 100000) : Go.AM.Good Tryz.prog GT zCA [av, bv] H (zK (cmpN x y)) H :=
 zO mixed zIP (bcmp_ev av bv x y H ha hb h1 h2)
theorem g_bsum (av bv : AV) (xn yn : Bool) (x y : Nat) (H : Heap) (ha : Mag av x) (hb : Mag bv y) (h1 : (wds x).length ≤ 100000) (h2 : (wds y).length ≤ 100000) :
  Go.AM.Good Tryz.prog GT zB8 [.bool xn, av, .bool yn, bv] H (.tup [.bool (sumS xn x yn y).1, zDm (sumS xn x yn y).2]) H := zO mixed zIN (bsum_ev g_badd g_bsub g_bcmp av bv xn yn x y H ha hb h1 h2)
theorem g_bit (av : AV) (m i : Nat) (H : Heap) (ha : Mag av m) (hl : (wds m).length ≤ 100000) (hi : i ≤ 1000000) : Go.AM.Good Tryz.prog GT zCB [av, zK i] H (u64V (m / 2 ^ i % 2)) H := zO mixed zIR (bit_ev av m i H ha hl hi)
theorem g_tzb (b m n : Nat) (x av : AV) (H : Heap) (hb : H[b]? = some (.box [x, av])) (ha : Mag av m) (h0 : m ≠ 0) (hl : (wds m).length ≤ 100) (hn : n ≤ 10000) (h1 : m % 2 ^ n = 0) (h2 : m / 2 ^ n % 2 = 1) :
  Go.AM.Good Tryz.prog GT zAC [.ref b 0 0 0] H (u64V n) H := zO mixed zCe (tzb_ev g_bit b m n x av H hb ha h0 hl hn h1 h2)
theorem g_blen (av : AV) (m : Nat) (H : Heap) (ha : Mag av m) (hl : (wds m).length ≤ 1000) : Go.AM.Good Tryz.prog GT zBJ [av] H (zJ (Go.AM.bits m)) H := zO mixed zGe (length_ev av m H ha hl)
theorem g_uint64 (b m : Nat) (x av : AV) (H : Heap) (hb : H[b]? = some (.box [x, av])) (ha : Mag av m) (hm : m < 18446744073709551616) : Go.AM.Good Tryz.prog GT zAi [.ref b 0 0 0] H (u64V m) H :=
 zO mixed zEF (uint64_ev b m x av H hb ha hm)
theorem g_int64 (b : Nat) (v : Int) (H : Heap) (hb : H[b]? = some (.box (zFP v))) (hv : zCv v) : Go.AM.Good Tryz.prog GT zAQ [.ref b 0 0 0] H (zK v) H := zO mixed zEn (int64_ev g_uint64 b v H hb hv)
theorem g_isInt64 (b : Nat) (v : Int) (H : Heap) (hb : H[b]? = some (.box (zFP v))) (hv : (wds v.natAbs).length ≤ 100) : Go.AM.Good Tryz.prog GT zAe [.ref b 0 0 0] H (.bool (decide (zCv v))) H :=
 zO mixed zD3 (isInt64_ev g_blen g_tzb b v H hb hv)
theorem g_give (b n : Nat) (neg : Bool) (x0 x1 : AV) (H : Heap) (hb : H[b]? = some (.box [x0, x1])) : Go.AM.Good Tryz.prog GT zp [.ref b 0 0 0, .bool neg, zDm n] H (.ref b 0 0 0) (H.set b (.box [.bool (neg && decide (0 < n)), zDm n])) :=
 zO mixed zCu (give_ev b n neg x0 x1 H hb)
theorem g_setInt64 (b : Nat) (v : Int) (x0 x1 : AV) (H : Heap) (hb : H[b]? = some (.box [x0, x1])) (hv : zCv v) : Go.AM.Good Tryz.prog GT zAY [.ref b 0 0 0, zK v] H (.ref b 0 0 0) (H.set b (.box (zFP v))) :=
 zO mixed zDk (setInt64_ev g_words g_give b v x0 x1 H hb hv)
theorem k_bigNew : zAB Tryz.prog zAU a_bigNew = true := by kernel_rfl
theorem g_newInt (v : Int) (H : Heap) (hv : zCv v) : Go.AM.Good Tryz.prog GT zAU [zK v] H (.ref H.length 0 0 0) (H ++ [.box (zFP v)]) := zO mixed k_bigNew (newInt_ev g_setInt64 v H hv)
theorem g_fits (b : Nat) (v : Int) (H : Heap) (hb : H[b]? = some (.box (zFP v))) (hv : (wds v.natAbs).length ≤ 100) : Go.AM.Good Tryz.prog GT zCb [.ref b 0 0 0] H (.bool (decide (zCv v))) H := zO mixed k_sccref1_Fits (fits_ev g_isInt64 b v H hb hv)
theorem g_give0 (b : Nat) (xs : List AV) (nv x0 x1 : AV) (H : Heap) (hb : H[b]? = some (.box [x0, x1])) (hv : zGu nv 1 xs) : Go.AM.Good Tryz.prog GT zp [.ref b 0 0 0, .bool false, nv] H (.ref b 0 0 0) (H.set b (.box [.bool false, nv])) :=
 zO mixed zCu (give0_ev b xs nv x0 x1 H hb hv) (hn := by obtain ⟨q, k', rfl, _⟩ := hv; rfl)
theorem g_mul10 (av : AV) (x : Nat) (H : Heap) (ha : Mag av x) (hl : (wds x).length ≤ 100000) : Go.AM.Good Tryz.prog GT zB7 [av, zDm 10] H (mulV x) H := zO mixed zIM (mul10_ev g_trim av x _ H ha rfl hl)
theorem g_bigMul (b t v : Nat) (av : AV) (H : Heap) (hb : H[b]? = some (.box [.bool false, av])) (ht : H[t]? = some (.box (zFP 10))) (ha : Mag av v) (hl : (wds v).length ≤ 1000) : Go.AM.Good Tryz.prog GT zAc [.ref b 0 0 0, .ref b 0 0 0, .ref t 0 0 0] H (.ref b 0 0 0) (H.set b (.box [.bool false, mulV v])) :=
 zO mixed zFj (bigMul_ev g_mul10 g_give0 b t v av H hb ht ha hl)
theorem g_bigAddM (b t v d : Nat) (av : AV) (H : Heap) (hb : H[b]? = some (.box [.bool false, av])) (ht : H[t]? = some (.box (zFP d))) (ha : Mag av v) (hl : (wds v).length ≤ 1000) (hd : (wds d).length ≤ 1000) : Go.AM.Good Tryz.prog GT zAd [.ref b 0 0 0, .ref b 0 0 0, .ref t 0 0 0] H (.ref b 0 0 0) (H.set b (.box (zFP ((v + d : Nat) : Int)))) :=
 zO mixed zFk (bigAddM_ev g_bsum g_give b t v d av H hb ht ha hl hd)
theorem bigG : BigG Tryz.prog GT := { new := fun v H h => g_newInt v H h, mul := fun b t v av H h1 h2 h3 h4 => g_bigMul b t v av H h1 h2 h3 h4, add := fun b t v d av H h1 h2 h3 h4 h5 => g_bigAddM b t v d av H h1 h2 h3 h4 h5, fit := fun b v H h1 h2 => g_fits b v H h1 h2, i64 := fun b v H h1 h2 => g_int64 b v H h1 h2 }
theorem g_aok (c r : Int) (H : Heap) : Go.AM.Good Tryz.prog GT zH4 [zAt c r] H (.bool (okC c r)) H := zO mixed k_addr_ok (aok_ev c r H)
theorem g_acheck (c r : Int) (H : Heap) : Go.AM.Good Tryz.prog GT zDS [zAt c r] H (if okC c r = true then .nili else zFo 1) H := zO mixed k_addr_Check (acheck_ev g_aok c r H)
theorem g_nan (a : Int) (H : Heap) : Go.AM.Good Tryz.prog GT zBs [zK a] H (.bool false) H := zO mixed zJe (nan_ev a H)
theorem g_ccmp (a b : Int) (H : Heap) : Go.AM.Good Tryz.prog GT zBH [zK a, zK b] H (zK (cmp3 a b)) H := zO mixed zIL (ccmp_ev g_nan a b H)
theorem g_cor (b : Nat) (x y : Int) (H : Heap) (hb : H[b]? = some (.row 1 [zK x, zK y])) : Go.AM.Good Tryz.prog GT zDi [.sl (some false) b 1 0 2] H (zK (if x ≠ 0 then x else y)) H := zO mixed k_cmp_Or_int_ (cor_ev b x y H hb)
theorem g_acomp (c1 r1 c2 r2 : Int) (H : Heap) : Go.AM.Good Tryz.prog GT zDL [zAt c1 r1, zAt c2 r2] H (zK (cmpC c1 r1 c2 r2)) H := zO mixed k_addr_Compare (acomp_ev g_ccmp g_cor c1 r1 c2 r2 H)
theorem g_aless (a b : Fil) (H : Heap) : Go.AM.Good Tryz.prog GT zFU [zAt a.col a.row, zAt b.col b.row] H (.bool (zEr a b)) H := zO mixed k_addr_Less (aless_ev g_acomp a b H)
theorem g_told_nil (H : Heap) : Go.AM.Good Tryz.prog GT zCr [.nili] H (.int .i64 0) H := zO mixed zJK (told_nil_ev H)
end
section
variable {m : Int} {ev : Value} (hev : ∃ te pe, ev = .iface te pe)
abbrev GQ (m : Int) (ev : Value) : CSpec := Go.AM.Good Tryz.prog (gtQ m ev)
include hev in
theorem g_text (s : Bs) (H : Heap) : GQ m ev zBm [.str s] H (eV (zCM s)) H := zO mixed k_graph_Text (gtext_ev (p_const parK2) (p_parse parK2 (parG hev)) s H)
include hev in
theorem g_check (lv : AV) (l : List Fil) (H : Heap) (hv : view H 3 lv = some (l.map zAD)) : GQ m ev zC1 [lv] H (eV (zCV l)) H := zO mixed k_graph_Check (gcheck_ev g_acheck g_aless (g_text hev) lv l H hv)
theorem g_rcheck (lv : AV) (l : List Fil) (H : Heap) (hv : view H 3 lv = some (l.map zAD)) : GQ m ev zBZ [lv] H (zJ (zCV l)) H := q_check refK2 bigG lv l H hv
theorem g_told_err (n : Int) (H : Heap) : GQ m ev zCr [zFo n] H (.int .i64 n) H := zO mixed zJK (told_err_ev (fun n old b H hb => as_good n old b H hb) n H)
theorem g_errN (n : Nat) (H : Heap) : GQ m ev zBY [eV n, zJ n] H (.bool true) H := by
 have h : ErrIs (eV n) n := by
  unfold eV
  by_cases h0 : n = 0
  ·rw [if_pos h0]; exact .inl ⟨rfl, by omega⟩
  ·rw [if_neg h0]; exact .inr rfl
 have := zO (GT := gtQ m ev) mixed zKc (same_ev g_told_nil g_told_err (eV n) n n h H) (hn := by rcases h with ⟨h, _⟩ | h <;> rw [h] <;> rfl)
 rwa [show ((n : Int) == (n : Int)) = true from beq_self_eq_true _] at this
end
end Go.Proofs.YtaohficjbicfgaaGreatDoor
set_option maxRecDepth 20000
namespace Go.AM
def okF (f : Fil) : Prop := (1 ≤ f.col ∧ f.col ≤ 26) ∧ (1 ≤ f.row ∧ f.row ≤ 99) ∧ f.text.length ≤ 200
theorem okC_iff (c r : Int) : okC c r = true ↔ (1 ≤ c ∧ c ≤ 26) ∧ (1 ≤ r ∧ r ≤ 99) := by
 unfold okC
 simp only [Bool.and_eq_true, decide_eq_true_eq]
 constructor
 ·rintro ⟨⟨⟨h1, h2⟩, h3⟩, h4⟩; exact ⟨⟨h1, h2⟩, h3, h4⟩
 ·rintro ⟨⟨h1, h2⟩, h3, h4⟩; exact ⟨⟨⟨h1, h2⟩, h3⟩, h4⟩
theorem textN_len {s : Bs} (h : zCM s = 0) : s.length ≤ 200 := by
 unfold zCM at h
 by_cases hl : 200 < s.length
 ·rw [if_pos hl] at h; cases h
 ·omega
theorem okF_of {f : Fil} (h1 : okC f.col f.row = true) (h2 : zCM f.text = 0) : okF f := ⟨((okC_iff _ _).1 h1).1, ((okC_iff _ _).1 h1).2, textN_len h2⟩
theorem filsN_ok : ∀ (l : List Fil) (prev : Option Fil), zG8 prev l = 0 → ∀ f ∈ l, okF f := by
 intro l
 induction l with
 | nil => intro _ _ f h; cases h
 | cons g r ih =>
  intro prev h f hf
  unfold zG8 at h
  by_cases h0 : filN prev g = 0
  ·rw [if_pos h0] at h
   rcases List.mem_cons.1 hf with rfl | hf
   ·unfold filN at h0
    by_cases h1 : okC f.col f.row = false
    ·rw [if_pos h1] at h0; cases h0
    ·rw [if_neg h1] at h0
     have h1 : okC f.col f.row = true := by simpa using h1
     have h2 : zCM f.text = 0 := by
      by_cases he : f.text = []
      ·rw [he]; rfl
      ·cases prev with
       | none =>
        have h0 : (if f.text = [] then 3 else zCM f.text) = 0 := h0
        rwa [if_neg he] at h0
       | some p =>
        have h0 : (if zEr p f = false then 5 else if f.text = [] then 3 else zCM f.text) = 0 := h0
        cases hp : zEr p f with
        | true => rw [hp, if_neg (by simp), if_neg he] at h0; exact h0
        | false => rw [hp, if_pos rfl] at h0; cases h0
     exact okF_of h1 h2
   ·exact ih _ h f hf
  ·rw [if_neg h0] at h; exact absurd h h0
theorem checkN_ok {l : List Fil} (h : zCV l = 0) : l.length ≤ 200 ∧ ∀ f ∈ l, okF f := by
 unfold zCV at h
 by_cases hl : 200 < l.length
 ·rw [if_pos hl] at h; cases h
 ·rw [if_neg hl] at h
  exact ⟨by omega, filsN_ok l none h⟩
structure SumS where
 i : Nat
 s : Nat
section
variable {C : CSpec} {GT : Nat → Option AV}
structure EntS where
 i : Nat
 s : Nat
def OwnF (H0 H : Heap) (v : AV) (k : Nat) (xs : List AV) : Prop := ∃ b, v = .sl (some false) b k 0 xs.length ∧ H0.length ≤ b ∧ H[b]? = some (.row k xs) ∧ xs ≠ []
theorem OwnF.view {H0 H : Heap} {v : AV} {k : Nat} {xs : List AV} (h : OwnF H0 H v k xs) : view H k v = some xs := by
 obtain ⟨b, rfl, _, h2, _⟩ := h
 simp [Go.AM.view, h2]
theorem OwnF.keep {H0 H H' : Heap} {v : AV} {k : Nat} {xs : List AV} (h : OwnF H0 H v k xs) (hk : ∀ b x, v.blk = some b → H[b]? = some x → H'[b]? = some x) : OwnF H0 H' v k xs := by
 obtain ⟨b, rfl, h1, h2, h3⟩ := h
 exact ⟨b, rfl, h1, hk b _ rfl h2, h3⟩
theorem OwnF.push {H0 H : Heap} {v : AV} {k : Nat} {xs : List AV} (h : OwnF H0 H v k xs) (x : ABlk) : OwnF H0 (H ++ [x]) v k xs := h.keep fun _ _ _ hx => zC hx
theorem OwnF.frz {H0 H : Heap} {v : AV} {k : Nat} {xs : List AV} (h : OwnF H0 H v k xs) (hO : Old H0 H) : ∃ H', zDf H0.length v H = some (lstF k xs, H') ∧ Old H0 H' := by
 obtain ⟨b, rfl, h1, h2, h3⟩ := h
 refine ⟨H.set b (.frz k xs), ?_, hO.set h1 _⟩
 cases xs with
 | nil => exact absurd rfl h3
 | cons x xs =>
  simp only [zDf]
  rw [if_neg tO, h2]
  simp [lstF, frzQ]
end
end Go.AM
set_option maxRecDepth 20000
namespace Go.AM
section
variable {C : CSpec} {GT : Nat → Option AV}
theorem frz_pair {n : Nat} {v v' y : AV} {H H' : Heap} (h : zDf n v H = some (v', H')) (hy : ∀ H, zDf n y H = some (y, H)) : zDf n (.tup [v, y]) H = some (.tup [v', y], H') := by
 simp only [zDf, zIb, h, hy]
end
end Go.AM
