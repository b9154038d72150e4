/- Several texts of mine in one (Rf6, Rf7). Own work. -/
import Derived.Test.YtljipljfelkodaaGreatDoorGAm30Fp1
import Derived.Test.YtljipljfelkodaaGreatDoorGRf5Rf3
set_option linter.all false
set_option maxRecDepth 20000
namespace Go.AM
def CF (C : CSpec) (f : Nat) (args : List AV) (b : Nat) (s : Bs) (p d : Nat) (r : Option (Nd × Nat)) : Prop:=
 (∀ n e,r = some (n,e) → ∀ H,H[b]? = some (rP s p d) → C f args H (ndV n) (H.set b (rP s e d))) ∧
 (r = none → ∃ (n : Nd) (a : Nat) (w e d' : Int),e ≠ 0 ∧ a ≤ s.length ∧ ∀ H,H[b]? = some (rP s p d) → C f args H (ndV n) (H.set b (pB s a w e d')))
def EF (C : CSpec) (GT : Nat → Option AV) (F : AF) (args : List AV) (b : Nat) (s : Bs) (p d : Nat) (r : Option (Nd × Nat)) : Prop:=
 (∀ n e,r = some (n,e) → ∀ H,H[b]? = some (rP s p d) → zB3 C GT F args H b [] .undef (some (ndV n,rP s e d))) ∧
 (r = none → ∃ (n : Nd) (a : Nat) (w e d' : Int),e ≠ 0 ∧ a ≤ s.length ∧ ∀ H,H[b]? = some (rP s p d) → zB3 C GT F args H b [] .undef (some (ndV n,pB s a w e d')))
theorem OldB.setE {H H1 : Heap} {b : Nat} (h : ∃ B,OldB H b B H1) (B' : ABlk) : OldB H b B' (H1.set b B'):=h.elim fun _ h=>h.setB B'
theorem exO_push {H H1 : Heap} {b : Nat} (h : ∃ B,OldB H b B H1) (x : List ABlk) : ∃ B,OldB H b B (H1 ++ x):=h.imp fun _ h=>h.push x
theorem exO_set {H H1 : Heap} {b : Nat} (h : ∃ B,OldB H b B H1) {c : Nat} (hc : H.length ≤ c) (x : ABlk) : ∃ B,OldB H b B (H1.set c x):=h.imp fun _ h=>h.set hc x
theorem exO_setB {H H1 : Heap} {b : Nat} (h : ∃ B,OldB H b B H1) (B' : ABlk) : ∃ B,OldB H b B (H1.set b B'):=h.elim fun _ h=>⟨_,h.setB B'⟩
abbrev zJG : AC:=zGL.behind 2
section
variable {C : CSpec} {GT : Nat → Option AV}
theorem one_start (hT : ∀ s a H,a ≤ s.length → s.length ≤ 1000 → C zT [.str s,zK a] H (tkV s a) H)
  (b : Nat) (s : Bs) (p d : Nat) (H : Heap) (hb : H[b]? = some (rP s p d)) (hp : p ≤ s.length) (hl : s.length ≤ 200) (r : Option (AV × ABlk))
  (h : ∀ H3,OldB H b (rP s p d) H3 → H3[b]? = some (rP s p d) → H3[H.length]? = some (.box (ndC zW)) → H3[(H ++ [ABlk.box (ndC zW)]).length]? = some (.box [zK (tkK (tok s p)),zK (skip s p),zK (tkE (skip s p) (tok s p)),.str (tkT (tok s p))]) →
   EW C GT zJG (zHe zO H b [] .undef r) [(2,pR H.length),(3,pR (H ++ [ABlk.box (ndC zW)]).length),(0,pR b)] H3) :
  zB3 C GT zO [pR b] H b [] .undef r:=by
 have hbl : b < H.length:=(zg hb).1
 have ht:=fun H=>hT s p H hp tO
 rw [zEv] at ht
 clear hT
 generalize tkE (skip s p) (tok s p) = ee at *
 generalize tkK (tok s p) = kk at *
 generalize tkT (tok s p) = t at *
 generalize skip s p = q at *
 refine zz <| sW ?_
 have ho : OldB H b (rP s p d) (((H ++ [ABlk.box (ndC zW)]) ++ [ABlk.box zV4]).set (H ++ [ABlk.box (ndC zW)]).length (.box [zK kk,zK q,zK ee,.str t])):=((((OldB.start hb).push _).push _).set (by simp) _)
 have key:=h _ ho hP hP (zE zB)
 refine zGk ?_ ?_
 all_goals
  refine sW ?_; refine sS (kV kk q ee t) [zK kk,zK q,zK ee,.str t] ?_
  exact key
theorem rone_txt (b : Nat) (s : Bs) (p d q e : Nat) (t : Bs) (H H3 : Heap) (n3 : Nat) (hn3 : n3 = H.length + 1) (hob : OldB H b (rP s p d) H3) (hb3 : H3[b]? = some (rP s p d)) (h2 : H3[H.length]? = some (.box (ndC zW))) (h3 : H3[n3]? = some (.box [zK 2,zK q,zK e,.str t])) (hl : s.length ≤ 200) :
  EW C GT zJG (zHe zO H b [] .undef (some (ndV (txtN t),rP s e d))) [(2,pR H.length),(3,pR n3),(0,pR b)] H3:=by
 have hbl:=hob.lt
 have hn3l:=(zg h3).1
 refine sW ?_; refine sS (zK e) [AV.str s,zK e,zI 0,zI 0,zI ↑d] ?_; refine sW ?_; refine sS (AV.agg [.int .i64 2,.int .i64 0,AV.str t,.int .i64 0,.int .i64 0,AV.bool false,AV.bool false,.int .i64 0,.int .i64 0,AV.bool false,AV.bool false,AV.lst (some true) 0 []]) (AV.cells (AV.agg [.int .i64 2,.int .i64 0,AV.str t,.int .i64 0,.int .i64 0,AV.bool false,AV.bool false,.int .i64 0,.int .i64 0,AV.bool false,AV.bool false,AV.lst (some true) 0 []])) ?_
 all_goals exact zx (o:=0) (ndV (txtN t)) rfl rfl rfl (zJ hP) rfl rfl rfl hO rfl
theorem rone_bad (b : Nat) (s : Bs) (p d q e : Nat) (t : Bs) (H H3 : Heap) (n3 : Nat) (hn3 : n3 = H.length + 1) (hob : OldB H b (rP s p d) H3) (hb3 : H3[b]? = some (rP s p d)) (h2 : H3[H.length]? = some (.box (ndC zW))) (h3 : H3[n3]? = some (.box [zK 3,zK q,zK e,.str t])) (hl : s.length ≤ 200) (k : Nat) (hnm : ∀ H,C zBp [.str t] H (.tup [.agg [.int .i64 4,zK k,.str []],.bool true]) H) :
  EW C GT zJG (zHe zO H b [] .undef (some (ndV (badN k),rP s e d))) [(2,pR H.length),(3,pR n3),(0,pR b)] H3:=by
 have hbl:=hob.lt
 have hn3l:=(zg h3).1
 refine sW ?_; refine sS (zK e) [AV.str s,zK e,zI 0,zI 0,zI ↑d] ?_; refine sW ?_; refine sS (AV.agg [.int .i64 4,zK k,AV.str []]) (AV.cells (AV.agg [.int .i64 4,zK k,AV.str []])) ?_; refine sW ?_; refine sS (AV.agg [.int .i64 4,zK k,AV.str [],.int .i64 0,.int .i64 0,AV.bool false,AV.bool false,.int .i64 0,.int .i64 0,AV.bool false,AV.bool false,AV.lst (some true) 0 []]) (AV.cells (AV.agg [.int .i64 4,zK k,AV.str [],.int .i64 0,.int .i64 0,AV.bool false,AV.bool false,.int .i64 0,.int .i64 0,AV.bool false,AV.bool false,AV.lst (some true) 0 []])) ?_
 all_goals exact zx (o:=0) (ndV (badN k)) rfl rfl rfl (zJ hP) rfl rfl rfl hO rfl
theorem rone_none (kk : Nat) (b : Nat) (s : Bs) (p d q e : Nat) (t : Bs) (H H3 : Heap) (n3 : Nat) (hn3 : n3 = H.length + 1) (hob : OldB H b (rP s p d) H3) (hb3 : H3[b]? = some (rP s p d)) (h2 : H3[H.length]? = some (.box (ndC zW))) (h3 : H3[n3]? = some (.box [zK kk,zK q,zK e,.str t])) (hl : s.length ≤ 200) (h1 : kk ≠ 1) (h22 : kk ≠ 2) (h33 : kk ≠ 3) (h4 : kk ≠ 4) (hf : ∀ H,H[b]? = some (rP s e d) → C zd [pR b,zK q,.int .i64 2] H (.tup []) (H.set b (pB s e q 2 d))) :
  EW C GT zJG (zHe zO H b [] .undef (some (ndV zW,pB s e q 2 d))) [(2,pR H.length),(3,pR n3),(0,pR b)] H3:=by
 have hbl:=hob.lt
 have hn3l:=(zg h3).1
 refine sW ?_; refine sS (zK e) [AV.str s,zK e,zI 0,zI 0,zI ↑d] ?_; refine sW ?_; refine sS (AV.agg zV0) (AV.cells (AV.agg zV0)) ?_
 all_goals exact zx (o:=0) (ndV zW) rfl rfl rfl (zJ hP) rfl rfl rfl hO rfl
theorem rone_sign (b : Nat) (s : Bs) (p d q e : Nat) (t : Bs) (H H3 : Heap) (n3 : Nat) (hn3 : n3 = H.length + 1) (hob : OldB H b (rP s p d) H3) (hb3 : H3[b]? = some (rP s p d)) (h2 : H3[H.length]? = some (.box (ndC zW))) (h3 : H3[n3]? = some (.box [zK 4,zK q,zK e,.str t])) (hl : s.length ≤ 200) (h45 : t ≠ [45]) (h40 : t ≠ [40]) (hf : ∀ H,H[b]? = some (rP s e d) → C zd [pR b,zK q,.int .i64 2] H (.tup []) (H.set b (pB s e q 2 d))) :
  EW C GT zJG (zHe zO H b [] .undef (some (ndV zW,pB s e q 2 d))) [(2,pR H.length),(3,pR n3),(0,pR b)] H3:=by
 have hbl:=hob.lt
 have hn3l:=(zg h3).1
 refine sW ?_; refine sS (zK e) [AV.str s,zK e,zI 0,zI 0,zI ↑d] ?_; refine sW ?_; refine sS (AV.agg zV0) (AV.cells (AV.agg zV0)) ?_
 all_goals exact zx (o:=0) (ndV zW) rfl rfl rfl (zJ hP) rfl rfl rfl hO rfl
theorem rone_min30 (b : Nat) (s : Bs) (p d q e : Nat) (t : Bs) (H H3 : Heap) (n3 : Nat) (hn3 : n3 = H.length + 1) (hob : OldB H b (rP s p d) H3) (hb3 : H3[b]? = some (rP s p d)) (h2 : H3[H.length]? = some (.box (ndC zW))) (h3 : H3[n3]? = some (.box [zK 4,zK q,zK e,.str t])) (hl : s.length ≤ 200) (ht : t = [45]) (hd : ∀ H,H[b]? = some (rP s e d) → C ze [pR b,zK q] H (.bool false) (H.set b (pB s e q 4 d))) :
  EW C GT zJG (zHe zO H b [] .undef (some (ndV zW,pB s e q 4 d))) [(2,pR H.length),(3,pR n3),(0,pR b)] H3:=by
 have hbl:=hob.lt
 have hn3l:=(zg h3).1
 refine sW ?_; refine sS (zK e) [AV.str s,zK e,zI 0,zI 0,zI ↑d] ?_; refine sW ?_; refine sS (AV.agg zV0) (AV.cells (AV.agg zV0)) ?_
 all_goals exact zx (o:=0) (ndV zW) rfl rfl rfl (zJ hP) rfl rfl rfl hO rfl
theorem rone_minok (b : Nat) (s : Bs) (p d q e : Nat) (t : Bs) (H H3 : Heap) (n3 : Nat) (hn3 : n3 = H.length + 1) (hob : OldB H b (rP s p d) H3) (hb3 : H3[b]? = some (rP s p d)) (h2 : H3[H.length]? = some (.box (ndC zW))) (h3 : H3[n3]? = some (.box [zK 4,zK q,zK e,.str t])) (hl : s.length ≤ 200) (ht : t = [45]) (n : Nd) (e2 : Nat) (hdd : d ≤ 1000) (hd : ∀ H,H[b]? = some (rP s e d) → C ze [pR b,zK q] H (.bool true) (H.set b (rP s e (d + 1 : Nat)))) (ho : ∀ H,H[b]? = some (rP s e (d + 1 : Nat)) → C zAB [pR b] H (ndV n) (H.set b (rP s e2 (d + 1 : Nat)))) :
  EW C GT zJG (zHe zO H b [] .undef (some (ndV (negN n),rP s e2 d))) [(2,pR H.length),(3,pR n3),(0,pR b)] H3:=by
 have hbl:=hob.lt
 have hn3l:=(zg h3).1
 refine sW ?_; refine sS (zK e) [AV.str s,zK e,zI 0,zI 0,zI ↑d] ?_; refine sW ?_; refine sS (ndV n) (AV.cells (ndV n)) ?_; refine sW ?_; refine zN (r:=d) tO tO <| sS (.int .i64 ↑d) [AV.str s,zI ↑e2,zI 0,zI 0,.int .i64 ↑d] ?_; refine sW ?_; refine zAs (vs':=[ndV n]) rfl rfl <| sW ?_; refine sS (AV.agg [.int .i64 7,.int .i64 0,AV.str [],.int .i64 0,.int .i64 0,AV.bool false,AV.bool false,.int .i64 0,.int .i64 0,AV.bool false,AV.bool false,AV.sl (some false) (((((List.set H3 b (ABlk.box [AV.str s,zK e,zI 0,zI 0,zI ↑d])).set b (rP s e (d + 1))).set b (rP s e2 (d + 1)) ++ [ABlk.box zV0]).set (((List.set H3 b (ABlk.box [AV.str s,zK e,zI 0,zI 0,zI ↑d])).set b (rP s e (d + 1))).set b (rP s e2 (d + 1))).length (ABlk.box (ndV n).cells)).set b (ABlk.box [AV.str s,zI ↑e2,zI 0,zI 0,.int .i64 ↑d])).length 12 0 [ndV n].length]) (AV.cells (AV.agg [.int .i64 7,.int .i64 0,AV.str [],.int .i64 0,.int .i64 0,AV.bool false,AV.bool false,.int .i64 0,.int .i64 0,AV.bool false,AV.bool false,AV.sl (some false) (((((List.set H3 b (ABlk.box [AV.str s,zK e,zI 0,zI 0,zI ↑d])).set b (rP s e (d + 1))).set b (rP s e2 (d + 1)) ++ [ABlk.box zV0]).set (((List.set H3 b (ABlk.box [AV.str s,zK e,zI 0,zI 0,zI ↑d])).set b (rP s e (d + 1))).set b (rP s e2 (d + 1))).length (ABlk.box (ndV n).cells)).set b (ABlk.box [AV.str s,zI ↑e2,zI 0,zI 0,.int .i64 ↑d])).length 12 0 [ndV n].length])) ?_
 all_goals exact zx (o:=0) (nodeW 7 0 [] (.sl (some false) _ 12 0 1)) rfl rfl rfl (zJ hP) rfl (frz_node (xs:=[ndV n]) hP tC rfl) rfl hO rfl
theorem rone_minno (b : Nat) (s : Bs) (p d q e : Nat) (t : Bs) (H H3 : Heap) (n3 : Nat) (hn3 : n3 = H.length + 1) (hob : OldB H b (rP s p d) H3) (hb3 : H3[b]? = some (rP s p d)) (h2 : H3[H.length]? = some (.box (ndC zW))) (h3 : H3[n3]? = some (.box [zK 4,zK q,zK e,.str t])) (hl : s.length ≤ 200) (ht : t = [45]) (n : Nd) (a w ee d' : Int) (hd : ∀ H,H[b]? = some (rP s e d) → C ze [pR b,zK q] H (.bool true) (H.set b (rP s e (d + 1 : Nat)))) (ho : ∀ H,H[b]? = some (rP s e (d + 1 : Nat)) → C zAB [pR b] H (ndV n) (H.set b (pB s a w ee d'))) :
  EW C GT zJG (zHe zO H b [] .undef (some (ndV (negN n),pB s a w ee (IntKind.wrap .i64 (d' - 1))))) [(2,pR H.length),(3,pR n3),(0,pR b)] H3:=by
 have hbl:=hob.lt
 have hn3l:=(zg h3).1
 refine sW ?_; refine sS (zK e) [AV.str s,zK e,zI 0,zI 0,zI ↑d] ?_; refine sW ?_; refine sS (ndV n) (AV.cells (ndV n)) ?_; refine sW ?_; refine sVal rfl <| sS (.int .i64 (IntKind.i64.wrap (d' - 1))) [AV.str s,zI a,zI w,zI ee,.int .i64 (IntKind.i64.wrap (d' - 1))] ?_; refine sW ?_; refine zAs (vs':=[ndV n]) rfl rfl <| sW ?_; refine sS (AV.agg [.int .i64 7,.int .i64 0,AV.str [],.int .i64 0,.int .i64 0,AV.bool false,AV.bool false,.int .i64 0,.int .i64 0,AV.bool false,AV.bool false,AV.sl (some false) (((((List.set H3 b (ABlk.box [AV.str s,zK e,zI 0,zI 0,zI ↑d])).set b (rP s e (d + 1))).set b (pB s a w ee d') ++ [ABlk.box zV0]).set (((List.set H3 b (ABlk.box [AV.str s,zK e,zI 0,zI 0,zI ↑d])).set b (rP s e (d + 1))).set b (pB s a w ee d')).length (ABlk.box (ndV n).cells)).set b (ABlk.box [AV.str s,zI a,zI w,zI ee,.int .i64 (IntKind.i64.wrap (d' - 1))])).length 12 0 [ndV n].length]) (AV.cells (AV.agg [.int .i64 7,.int .i64 0,AV.str [],.int .i64 0,.int .i64 0,AV.bool false,AV.bool false,.int .i64 0,.int .i64 0,AV.bool false,AV.bool false,AV.sl (some false) (((((List.set H3 b (ABlk.box [AV.str s,zK e,zI 0,zI 0,zI ↑d])).set b (rP s e (d + 1))).set b (pB s a w ee d') ++ [ABlk.box zV0]).set (((List.set H3 b (ABlk.box [AV.str s,zK e,zI 0,zI 0,zI ↑d])).set b (rP s e (d + 1))).set b (pB s a w ee d')).length (ABlk.box (ndV n).cells)).set b (ABlk.box [AV.str s,zI a,zI w,zI ee,.int .i64 (IntKind.i64.wrap (d' - 1))])).length 12 0 [ndV n].length])) ?_
 all_goals exact zx (o:=0) (nodeW 7 0 [] (.sl (some false) _ 12 0 1)) rfl rfl rfl (zJ hP) rfl (frz_node (xs:=[ndV n]) hP tC rfl) rfl hO rfl
theorem rone_par30 (b : Nat) (s : Bs) (p d q e : Nat) (t : Bs) (H H3 : Heap) (n3 : Nat) (hn3 : n3 = H.length + 1) (hob : OldB H b (rP s p d) H3) (hb3 : H3[b]? = some (rP s p d)) (h2 : H3[H.length]? = some (.box (ndC zW))) (h3 : H3[n3]? = some (.box [zK 4,zK q,zK e,.str t])) (hl : s.length ≤ 200) (ht : t = [40]) (h45 : t ≠ [45]) (hd : ∀ H,H[b]? = some (rP s e d) → C ze [pR b,zK q] H (.bool false) (H.set b (pB s e q 4 d))) :
  EW C GT zJG (zHe zO H b [] .undef (some (ndV zW,pB s e q 4 d))) [(2,pR H.length),(3,pR n3),(0,pR b)] H3:=by
 have hbl:=hob.lt
 have hn3l:=(zg h3).1
 refine sW ?_; refine sS (zK e) [AV.str s,zK e,zI 0,zI 0,zI ↑d] ?_; refine sW ?_; refine sS (AV.agg zV0) (AV.cells (AV.agg zV0)) ?_
 all_goals exact zx (o:=0) (ndV zW) rfl rfl rfl (zJ hP) rfl rfl rfl hO rfl
theorem rone_par (b : Nat) (s : Bs) (p d q e : Nat) (t : Bs) (H H3 : Heap) (n3 : Nat) (hn3 : n3 = H.length + 1) (hob : OldB H b (rP s p d) H3) (hb3 : H3[b]? = some (rP s p d)) (h2 : H3[H.length]? = some (.box (ndC zW))) (h3 : H3[n3]? = some (.box [zK 4,zK q,zK e,.str t])) (hl : s.length ≤ 200) (ht : t = [40]) (h45 : t ≠ [45]) (n : Nd) (B1 B2 : ABlk) (hd : ∀ H,H[b]? = some (rP s e d) → C ze [pR b,zK q] H (.bool true) (H.set b (rP s e (d + 1 : Nat)))) (ho : ∀ H,H[b]? = some (rP s e (d + 1 : Nat)) → C zU [pR b,.int .i64 1] H (ndV n) (H.set b B1)) (hc : ∀ H,H[b]? = some B1 → C zc [pR b] H (.tup []) (H.set b B2)) (hB2 : ∀ k,zFE k B2 = true) :
  EW C GT zJG (zHe zO H b [] .undef (some (ndV n,B2))) [(2,pR H.length),(3,pR n3),(0,pR b)] H3:=by
 have hbl:=hob.lt
 have hn3l:=(zg h3).1
 refine sW ?_; refine sS (zK e) [AV.str s,zK e,zI 0,zI 0,zI ↑d] ?_; refine sW ?_; refine sS (ndV n) (AV.cells (ndV n)) ?_; refine sW ?_; refine sS (ndV n) (AV.cells (ndV n)) ?_
 all_goals exact zx (o:=0) (ndV n) rfl rfl rfl (zJ hP) rfl rfl rfl hO (hB2 _)
theorem rone_cal30 (b : Nat) (s : Bs) (p d q e : Nat) (t : Bs) (H H3 : Heap) (n3 : Nat) (hn3 : n3 = H.length + 1) (hob : OldB H b (rP s p d) H3) (hb3 : H3[b]? = some (rP s p d)) (h2 : H3[H.length]? = some (.box (ndC zW))) (h3 : H3[n3]? = some (.box [zK 1,zK q,zK e,.str t])) (hl : s.length ≤ 200) (hcd : ∀ H,C zf [.str t] H (.bool true) H) (h40 : s[e]? = some 40) (hd : ∀ H,H[b]? = some (rP s e d) → C ze [pR b,zK q] H (.bool false) (H.set b (pB s e q 4 d))) :
  EW C GT zJG (zHe zO H b [] .undef (some (ndV zW,pB s e q 4 d))) [(2,pR H.length),(3,pR n3),(0,pR b)] H3:=by
 have hbl:=hob.lt
 have hn3l:=(zg h3).1
 have hel:=(zg h40).1
 refine sW ?_; refine sS (zK e) [AV.str s,zK e,zI 0,zI 0,zI ↑d] ?_; refine sW ?_; refine sS (AV.agg zV0) (AV.cells (AV.agg zV0)) ?_
 all_goals exact zx (o:=0) (ndV zW) rfl rfl rfl (zJ hP) rfl rfl rfl hO rfl
theorem rone_cal (b : Nat) (s : Bs) (p d q e : Nat) (t : Bs) (H H3 : Heap) (n3 : Nat) (hn3 : n3 = H.length + 1) (hob : OldB H b (rP s p d) H3) (hb3 : H3[b]? = some (rP s p d)) (h2 : H3[H.length]? = some (.box (ndC zW))) (h3 : H3[n3]? = some (.box [zK 1,zK q,zK e,.str t])) (hl : s.length ≤ 200) (hcd : ∀ H,C zf [.str t] H (.bool true) H) (h40 : s[e]? = some 40) (n : Nd) (B1 : ABlk) (hd : ∀ H,H[b]? = some (rP s e d) → C ze [pR b,zK q] H (.bool true) (H.set b (rP s e (d + 1 : Nat)))) (ho : ∀ H,H[b]? = some (rP s e (d + 1 : Nat)) → C zBo [pR b,.str t] H (ndV n) (H.set b B1)) (hB1 : ∀ k,zFE k B1 = true) :
  EW C GT zJG (zHe zO H b [] .undef (some (ndV n,B1))) [(2,pR H.length),(3,pR n3),(0,pR b)] H3:=by
 have hbl:=hob.lt
 have hn3l:=(zg h3).1
 have hel:=(zg h40).1
 refine sW ?_; refine sS (zK e) [AV.str s,zK e,zI 0,zI 0,zI ↑d] ?_; refine sW ?_; refine sS (ndV n) (AV.cells (ndV n)) ?_
 all_goals exact zx (o:=0) (ndV n) rfl rfl rfl (zJ hP) rfl rfl rfl hO (hB1 _)
theorem rone_numa (b : Nat) (s : Bs) (p d q e : Nat) (t : Bs) (H H3 : Heap) (n3 : Nat) (hn3 : n3 = H.length + 1) (hob : OldB H b (rP s p d) H3) (hb3 : H3[b]? = some (rP s p d)) (h2 : H3[H.length]? = some (.box (ndC zW))) (h3 : H3[n3]? = some (.box [zK 1,zK q,zK e,.str t])) (hl : s.length ≤ 200) (hcd : ∀ H,C zf [.str t] H (.bool false) H) (n : Int) (hw : ∀ H,C zS [.str t,.bool false] H (.tup [zI n,.bool true]) H) :
  EW C GT zJG (zHe zO H b [] .undef (some (ndV (numN n),rP s e d))) [(2,pR H.length),(3,pR n3),(0,pR b)] H3:=by
 have hbl:=hob.lt
 have hn3l:=(zg h3).1
 refine sW ?_; refine sS (zK e) [AV.str s,zK e,zI 0,zI 0,zI ↑d] ?_; refine sW ?_; refine sS (AV.agg [.int .i64 1,zI n,AV.str [],.int .i64 0,.int .i64 0,AV.bool false,AV.bool false,.int .i64 0,.int .i64 0,AV.bool false,AV.bool false,AV.lst (some true) 0 []]) (AV.cells (AV.agg [.int .i64 1,zI n,AV.str [],.int .i64 0,.int .i64 0,AV.bool false,AV.bool false,.int .i64 0,.int .i64 0,AV.bool false,AV.bool false,AV.lst (some true) 0 []])) ?_
 all_goals exact zx (o:=0) (ndV (numN n)) rfl rfl rfl (zJ hP) rfl rfl rfl hO rfl
theorem rone_trua (b : Nat) (s : Bs) (p d q e : Nat) (t : Bs) (H H3 : Heap) (n3 : Nat) (hn3 : n3 = H.length + 1) (hob : OldB H b (rP s p d) H3) (hb3 : H3[b]? = some (rP s p d)) (h2 : H3[H.length]? = some (.box (ndC zW))) (h3 : H3[n3]? = some (.box [zK 1,zK q,zK e,.str t])) (hl : s.length ≤ 200) (hcd : ∀ H,C zf [.str t] H (.bool false) H) (hw : ∀ H,C zS [.str t,.bool false] H (.tup [zI 0,.bool false]) H) (ht : t = [84,82,85,69]) :
  EW C GT zJG (zHe zO H b [] .undef (some (ndV (truN true),rP s e d))) [(2,pR H.length),(3,pR n3),(0,pR b)] H3:=by
 have hbl:=hob.lt
 have hn3l:=(zg h3).1
 refine sW ?_; refine sS (zK e) [AV.str s,zK e,zI 0,zI 0,zI ↑d] ?_; refine sW ?_; refine sS (AV.agg zV2) (AV.cells (AV.agg zV2)) ?_
 all_goals exact zx (o:=0) (ndV (truN true)) rfl rfl rfl (zJ hP) rfl rfl rfl hO rfl
theorem rone_fala (b : Nat) (s : Bs) (p d q e : Nat) (t : Bs) (H H3 : Heap) (n3 : Nat) (hn3 : n3 = H.length + 1) (hob : OldB H b (rP s p d) H3) (hb3 : H3[b]? = some (rP s p d)) (h2 : H3[H.length]? = some (.box (ndC zW))) (h3 : H3[n3]? = some (.box [zK 1,zK q,zK e,.str t])) (hl : s.length ≤ 200) (hcd : ∀ H,C zf [.str t] H (.bool false) H) (hw : ∀ H,C zS [.str t,.bool false] H (.tup [zI 0,.bool false]) H) (h1 : t ≠ [84,82,85,69]) (ht : t = [70,65,76,83,69]) :
  EW C GT zJG (zHe zO H b [] .undef (some (ndV (truN false),rP s e d))) [(2,pR H.length),(3,pR n3),(0,pR b)] H3:=by
 have hbl:=hob.lt
 have hn3l:=(zg h3).1
 refine sW ?_; refine sS (zK e) [AV.str s,zK e,zI 0,zI 0,zI ↑d] ?_; refine sW ?_; refine sS (AV.agg zV3) (AV.cells (AV.agg zV3)) ?_
 all_goals exact zx (o:=0) (ndV (truN false)) rfl rfl rfl (zJ hP) rfl rfl rfl hO rfl
theorem rone_refa (b : Nat) (s : Bs) (p d q e : Nat) (t : Bs) (H H3 : Heap) (n3 : Nat) (hn3 : n3 = H.length + 1) (hob : OldB H b (rP s p d) H3) (hb3 : H3[b]? = some (rP s p d)) (h2 : H3[H.length]? = some (.box (ndC zW))) (h3 : H3[n3]? = some (.box [zK 1,zK q,zK e,.str t])) (hl : s.length ≤ 200) (hcd : ∀ H,C zf [.str t] H (.bool false) H) (hw : ∀ H,C zS [.str t,.bool false] H (.tup [zI 0,.bool false]) H) (h1 : t ≠ [84,82,85,69]) (h22 : t ≠ [70,65,76,83,69]) (x : RefP) (hr : ∀ H,C zj [.str t] H (.tup [.agg [zI x.col,zI x.row,.bool x.fc,.bool x.fr],.bool true]) H) :
  EW C GT zJG (zHe zO H b [] .undef (some (ndV (refN x),rP s e d))) [(2,pR H.length),(3,pR n3),(0,pR b)] H3:=by
 have hbl:=hob.lt
 have hn3l:=(zg h3).1
 refine sW ?_; refine sS (zK e) [AV.str s,zK e,zI 0,zI 0,zI ↑d] ?_; refine sW ?_; refine sS (AV.agg [zI x.col,zI x.row,AV.bool x.fc,AV.bool x.fr]) (AV.cells (AV.agg [zI x.col,zI x.row,AV.bool x.fc,AV.bool x.fr])) ?_; refine sW ?_; refine sS (AV.agg [.int .i64 5,.int .i64 0,AV.str [],zI x.col,zI x.row,AV.bool x.fc,AV.bool x.fr,.int .i64 0,.int .i64 0,AV.bool false,AV.bool false,AV.lst (some true) 0 []]) (AV.cells (AV.agg [.int .i64 5,.int .i64 0,AV.str [],zI x.col,zI x.row,AV.bool x.fc,AV.bool x.fr,.int .i64 0,.int .i64 0,AV.bool false,AV.bool false,AV.lst (some true) 0 []])) ?_
 all_goals exact zx (o:=0) (ndV (refN x)) rfl rfl rfl (zJ hP) rfl rfl rfl hO rfl
theorem rone_wnoa (b : Nat) (s : Bs) (p d q e : Nat) (t : Bs) (H H3 : Heap) (n3 : Nat) (hn3 : n3 = H.length + 1) (hob : OldB H b (rP s p d) H3) (hb3 : H3[b]? = some (rP s p d)) (h2 : H3[H.length]? = some (.box (ndC zW))) (h3 : H3[n3]? = some (.box [zK 1,zK q,zK e,.str t])) (hl : s.length ≤ 200) (hcd : ∀ H,C zf [.str t] H (.bool false) H) (hw : ∀ H,C zS [.str t,.bool false] H (.tup [zI 0,.bool false]) H) (h1 : t ≠ [84,82,85,69]) (h22 : t ≠ [70,65,76,83,69]) (hr : ∀ H,C zj [.str t] H (.tup [.agg zV1,.bool false]) H) (hf : ∀ H,H[b]? = some (rP s e d) → C zd [pR b,zK q,.int .i64 2] H (.tup []) (H.set b (pB s e q 2 d))) :
  EW C GT zJG (zHe zO H b [] .undef (some (ndV zW,pB s e q 2 d))) [(2,pR H.length),(3,pR n3),(0,pR b)] H3:=by
 have hbl:=hob.lt
 have hn3l:=(zg h3).1
 refine sW ?_; refine sS (zK e) [AV.str s,zK e,zI 0,zI 0,zI ↑d] ?_; refine sW ?_; refine sS (AV.agg zV1) (AV.cells (AV.agg zV1)) ?_; refine sW ?_; refine sS (AV.agg zV0) (AV.cells (AV.agg zV0)) ?_
 all_goals exact zx (o:=0) (ndV zW) rfl rfl rfl (zJ hP) rfl rfl rfl hO rfl
theorem rone_numb (b : Nat) (s : Bs) (p d q e : Nat) (t : Bs) (H H3 : Heap) (n3 : Nat) (hn3 : n3 = H.length + 1) (hob : OldB H b (rP s p d) H3) (hb3 : H3[b]? = some (rP s p d)) (h2 : H3[H.length]? = some (.box (ndC zW))) (h3 : H3[n3]? = some (.box [zK 1,zK q,zK e,.str t])) (hl : s.length ≤ 200) (hcd : ∀ H,C zf [.str t] H (.bool true) H) (hel : s.length ≤ e) (n : Int) (hw : ∀ H,C zS [.str t,.bool false] H (.tup [zI n,.bool true]) H) :
  EW C GT zJG (zHe zO H b [] .undef (some (ndV (numN n),rP s e d))) [(2,pR H.length),(3,pR n3),(0,pR b)] H3:=by
 have hbl:=hob.lt
 have hn3l:=(zg h3).1
 refine sW ?_; refine sS (zK e) [AV.str s,zK e,zI 0,zI 0,zI ↑d] ?_; refine sW ?_; refine sS (AV.agg [.int .i64 1,zI n,AV.str [],.int .i64 0,.int .i64 0,AV.bool false,AV.bool false,.int .i64 0,.int .i64 0,AV.bool false,AV.bool false,AV.lst (some true) 0 []]) (AV.cells (AV.agg [.int .i64 1,zI n,AV.str [],.int .i64 0,.int .i64 0,AV.bool false,AV.bool false,.int .i64 0,.int .i64 0,AV.bool false,AV.bool false,AV.lst (some true) 0 []])) ?_
 all_goals exact zx (o:=0) (ndV (numN n)) rfl rfl rfl (zJ hP) rfl rfl rfl hO rfl
theorem rone_trub (b : Nat) (s : Bs) (p d q e : Nat) (t : Bs) (H H3 : Heap) (n3 : Nat) (hn3 : n3 = H.length + 1) (hob : OldB H b (rP s p d) H3) (hb3 : H3[b]? = some (rP s p d)) (h2 : H3[H.length]? = some (.box (ndC zW))) (h3 : H3[n3]? = some (.box [zK 1,zK q,zK e,.str t])) (hl : s.length ≤ 200) (hcd : ∀ H,C zf [.str t] H (.bool true) H) (hel : s.length ≤ e) (hw : ∀ H,C zS [.str t,.bool false] H (.tup [zI 0,.bool false]) H) (ht : t = [84,82,85,69]) :
  EW C GT zJG (zHe zO H b [] .undef (some (ndV (truN true),rP s e d))) [(2,pR H.length),(3,pR n3),(0,pR b)] H3:=by
 have hbl:=hob.lt
 have hn3l:=(zg h3).1
 refine sW ?_; refine sS (zK e) [AV.str s,zK e,zI 0,zI 0,zI ↑d] ?_; refine sW ?_; refine sS (AV.agg zV2) (AV.cells (AV.agg zV2)) ?_
 all_goals exact zx (o:=0) (ndV (truN true)) rfl rfl rfl (zJ hP) rfl rfl rfl hO rfl
theorem rone_falb (b : Nat) (s : Bs) (p d q e : Nat) (t : Bs) (H H3 : Heap) (n3 : Nat) (hn3 : n3 = H.length + 1) (hob : OldB H b (rP s p d) H3) (hb3 : H3[b]? = some (rP s p d)) (h2 : H3[H.length]? = some (.box (ndC zW))) (h3 : H3[n3]? = some (.box [zK 1,zK q,zK e,.str t])) (hl : s.length ≤ 200) (hcd : ∀ H,C zf [.str t] H (.bool true) H) (hel : s.length ≤ e) (hw : ∀ H,C zS [.str t,.bool false] H (.tup [zI 0,.bool false]) H) (h1 : t ≠ [84,82,85,69]) (ht : t = [70,65,76,83,69]) :
  EW C GT zJG (zHe zO H b [] .undef (some (ndV (truN false),rP s e d))) [(2,pR H.length),(3,pR n3),(0,pR b)] H3:=by
 have hbl:=hob.lt
 have hn3l:=(zg h3).1
 refine sW ?_; refine sS (zK e) [AV.str s,zK e,zI 0,zI 0,zI ↑d] ?_; refine sW ?_; refine sS (AV.agg zV3) (AV.cells (AV.agg zV3)) ?_
 all_goals exact zx (o:=0) (ndV (truN false)) rfl rfl rfl (zJ hP) rfl rfl rfl hO rfl
theorem rone_refb (b : Nat) (s : Bs) (p d q e : Nat) (t : Bs) (H H3 : Heap) (n3 : Nat) (hn3 : n3 = H.length + 1) (hob : OldB H b (rP s p d) H3) (hb3 : H3[b]? = some (rP s p d)) (h2 : H3[H.length]? = some (.box (ndC zW))) (h3 : H3[n3]? = some (.box [zK 1,zK q,zK e,.str t])) (hl : s.length ≤ 200) (hcd : ∀ H,C zf [.str t] H (.bool true) H) (hel : s.length ≤ e) (hw : ∀ H,C zS [.str t,.bool false] H (.tup [zI 0,.bool false]) H) (h1 : t ≠ [84,82,85,69]) (h22 : t ≠ [70,65,76,83,69]) (x : RefP) (hr : ∀ H,C zj [.str t] H (.tup [.agg [zI x.col,zI x.row,.bool x.fc,.bool x.fr],.bool true]) H) :
  EW C GT zJG (zHe zO H b [] .undef (some (ndV (refN x),rP s e d))) [(2,pR H.length),(3,pR n3),(0,pR b)] H3:=by
 have hbl:=hob.lt
 have hn3l:=(zg h3).1
 refine sW ?_; refine sS (zK e) [AV.str s,zK e,zI 0,zI 0,zI ↑d] ?_; refine sW ?_; refine sS (AV.agg [zI x.col,zI x.row,AV.bool x.fc,AV.bool x.fr]) (AV.cells (AV.agg [zI x.col,zI x.row,AV.bool x.fc,AV.bool x.fr])) ?_; refine sW ?_; refine sS (AV.agg [.int .i64 5,.int .i64 0,AV.str [],zI x.col,zI x.row,AV.bool x.fc,AV.bool x.fr,.int .i64 0,.int .i64 0,AV.bool false,AV.bool false,AV.lst (some true) 0 []]) (AV.cells (AV.agg [.int .i64 5,.int .i64 0,AV.str [],zI x.col,zI x.row,AV.bool x.fc,AV.bool x.fr,.int .i64 0,.int .i64 0,AV.bool false,AV.bool false,AV.lst (some true) 0 []])) ?_
 all_goals exact zx (o:=0) (ndV (refN x)) rfl rfl rfl (zJ hP) rfl rfl rfl hO rfl
theorem rone_wnob (b : Nat) (s : Bs) (p d q e : Nat) (t : Bs) (H H3 : Heap) (n3 : Nat) (hn3 : n3 = H.length + 1) (hob : OldB H b (rP s p d) H3) (hb3 : H3[b]? = some (rP s p d)) (h2 : H3[H.length]? = some (.box (ndC zW))) (h3 : H3[n3]? = some (.box [zK 1,zK q,zK e,.str t])) (hl : s.length ≤ 200) (hcd : ∀ H,C zf [.str t] H (.bool true) H) (hel : s.length ≤ e) (hw : ∀ H,C zS [.str t,.bool false] H (.tup [zI 0,.bool false]) H) (h1 : t ≠ [84,82,85,69]) (h22 : t ≠ [70,65,76,83,69]) (hr : ∀ H,C zj [.str t] H (.tup [.agg zV1,.bool false]) H) (hf : ∀ H,H[b]? = some (rP s e d) → C zd [pR b,zK q,.int .i64 2] H (.tup []) (H.set b (pB s e q 2 d))) :
  EW C GT zJG (zHe zO H b [] .undef (some (ndV zW,pB s e q 2 d))) [(2,pR H.length),(3,pR n3),(0,pR b)] H3:=by
 have hbl:=hob.lt
 have hn3l:=(zg h3).1
 refine sW ?_; refine sS (zK e) [AV.str s,zK e,zI 0,zI 0,zI ↑d] ?_; refine sW ?_; refine sS (AV.agg zV1) (AV.cells (AV.agg zV1)) ?_; refine sW ?_; refine sS (AV.agg zV0) (AV.cells (AV.agg zV0)) ?_
 all_goals exact zx (o:=0) (ndV zW) rfl rfl rfl (zJ hP) rfl rfl rfl hO rfl
theorem rone_numc (b : Nat) (s : Bs) (p d q e : Nat) (t : Bs) (H H3 : Heap) (n3 : Nat) (hn3 : n3 = H.length + 1) (hob : OldB H b (rP s p d) H3) (hb3 : H3[b]? = some (rP s p d)) (h2 : H3[H.length]? = some (.box (ndC zW))) (h3 : H3[n3]? = some (.box [zK 1,zK q,zK e,.str t])) (hl : s.length ≤ 200) (hcd : ∀ H,C zf [.str t] H (.bool true) H) (c : UInt8) (hc : s[e]? = some c) (hc40 : c.toNat ≠ 40) (n : Int) (hw : ∀ H,C zS [.str t,.bool false] H (.tup [zI n,.bool true]) H) :
  EW C GT zJG (zHe zO H b [] .undef (some (ndV (numN n),rP s e d))) [(2,pR H.length),(3,pR n3),(0,pR b)] H3:=by
 have hbl:=hob.lt
 have hn3l:=(zg h3).1
 have hel:=(zg hc).1
 refine sW ?_; refine sS (zK e) [AV.str s,zK e,zI 0,zI 0,zI ↑d] ?_; refine sW ?_; refine sS (AV.agg [.int .i64 1,zI n,AV.str [],.int .i64 0,.int .i64 0,AV.bool false,AV.bool false,.int .i64 0,.int .i64 0,AV.bool false,AV.bool false,AV.lst (some true) 0 []]) (AV.cells (AV.agg [.int .i64 1,zI n,AV.str [],.int .i64 0,.int .i64 0,AV.bool false,AV.bool false,.int .i64 0,.int .i64 0,AV.bool false,AV.bool false,AV.lst (some true) 0 []])) ?_
 all_goals exact zx (o:=0) (ndV (numN n)) rfl rfl rfl (zJ hP) rfl rfl rfl hO rfl
theorem rone_truc (b : Nat) (s : Bs) (p d q e : Nat) (t : Bs) (H H3 : Heap) (n3 : Nat) (hn3 : n3 = H.length + 1) (hob : OldB H b (rP s p d) H3) (hb3 : H3[b]? = some (rP s p d)) (h2 : H3[H.length]? = some (.box (ndC zW))) (h3 : H3[n3]? = some (.box [zK 1,zK q,zK e,.str t])) (hl : s.length ≤ 200) (hcd : ∀ H,C zf [.str t] H (.bool true) H) (c : UInt8) (hc : s[e]? = some c) (hc40 : c.toNat ≠ 40) (hw : ∀ H,C zS [.str t,.bool false] H (.tup [zI 0,.bool false]) H) (ht : t = [84,82,85,69]) :
  EW C GT zJG (zHe zO H b [] .undef (some (ndV (truN true),rP s e d))) [(2,pR H.length),(3,pR n3),(0,pR b)] H3:=by
 have hbl:=hob.lt
 have hn3l:=(zg h3).1
 have hel:=(zg hc).1
 refine sW ?_; refine sS (zK e) [AV.str s,zK e,zI 0,zI 0,zI ↑d] ?_; refine sW ?_; refine sS (AV.agg zV2) (AV.cells (AV.agg zV2)) ?_
 all_goals exact zx (o:=0) (ndV (truN true)) rfl rfl rfl (zJ hP) rfl rfl rfl hO rfl
theorem rone_falc (b : Nat) (s : Bs) (p d q e : Nat) (t : Bs) (H H3 : Heap) (n3 : Nat) (hn3 : n3 = H.length + 1) (hob : OldB H b (rP s p d) H3) (hb3 : H3[b]? = some (rP s p d)) (h2 : H3[H.length]? = some (.box (ndC zW))) (h3 : H3[n3]? = some (.box [zK 1,zK q,zK e,.str t])) (hl : s.length ≤ 200) (hcd : ∀ H,C zf [.str t] H (.bool true) H) (c : UInt8) (hc : s[e]? = some c) (hc40 : c.toNat ≠ 40) (hw : ∀ H,C zS [.str t,.bool false] H (.tup [zI 0,.bool false]) H) (h1 : t ≠ [84,82,85,69]) (ht : t = [70,65,76,83,69]) :
  EW C GT zJG (zHe zO H b [] .undef (some (ndV (truN false),rP s e d))) [(2,pR H.length),(3,pR n3),(0,pR b)] H3:=by
 have hbl:=hob.lt
 have hn3l:=(zg h3).1
 have hel:=(zg hc).1
 refine sW ?_; refine sS (zK e) [AV.str s,zK e,zI 0,zI 0,zI ↑d] ?_; refine sW ?_; refine sS (AV.agg zV3) (AV.cells (AV.agg zV3)) ?_
 all_goals exact zx (o:=0) (ndV (truN false)) rfl rfl rfl (zJ hP) rfl rfl rfl hO rfl
theorem rone_refc (b : Nat) (s : Bs) (p d q e : Nat) (t : Bs) (H H3 : Heap) (n3 : Nat) (hn3 : n3 = H.length + 1) (hob : OldB H b (rP s p d) H3) (hb3 : H3[b]? = some (rP s p d)) (h2 : H3[H.length]? = some (.box (ndC zW))) (h3 : H3[n3]? = some (.box [zK 1,zK q,zK e,.str t])) (hl : s.length ≤ 200) (hcd : ∀ H,C zf [.str t] H (.bool true) H) (c : UInt8) (hc : s[e]? = some c) (hc40 : c.toNat ≠ 40) (hw : ∀ H,C zS [.str t,.bool false] H (.tup [zI 0,.bool false]) H) (h1 : t ≠ [84,82,85,69]) (h22 : t ≠ [70,65,76,83,69]) (x : RefP) (hr : ∀ H,C zj [.str t] H (.tup [.agg [zI x.col,zI x.row,.bool x.fc,.bool x.fr],.bool true]) H) :
  EW C GT zJG (zHe zO H b [] .undef (some (ndV (refN x),rP s e d))) [(2,pR H.length),(3,pR n3),(0,pR b)] H3:=by
 have hbl:=hob.lt
 have hn3l:=(zg h3).1
 have hel:=(zg hc).1
 refine sW ?_; refine sS (zK e) [AV.str s,zK e,zI 0,zI 0,zI ↑d] ?_; refine sW ?_; refine sS (AV.agg [zI x.col,zI x.row,AV.bool x.fc,AV.bool x.fr]) (AV.cells (AV.agg [zI x.col,zI x.row,AV.bool x.fc,AV.bool x.fr])) ?_; refine sW ?_; refine sS (AV.agg [.int .i64 5,.int .i64 0,AV.str [],zI x.col,zI x.row,AV.bool x.fc,AV.bool x.fr,.int .i64 0,.int .i64 0,AV.bool false,AV.bool false,AV.lst (some true) 0 []]) (AV.cells (AV.agg [.int .i64 5,.int .i64 0,AV.str [],zI x.col,zI x.row,AV.bool x.fc,AV.bool x.fr,.int .i64 0,.int .i64 0,AV.bool false,AV.bool false,AV.lst (some true) 0 []])) ?_
 all_goals exact zx (o:=0) (ndV (refN x)) rfl rfl rfl (zJ hP) rfl rfl rfl hO rfl
theorem rone_wnoc (b : Nat) (s : Bs) (p d q e : Nat) (t : Bs) (H H3 : Heap) (n3 : Nat) (hn3 : n3 = H.length + 1) (hob : OldB H b (rP s p d) H3) (hb3 : H3[b]? = some (rP s p d)) (h2 : H3[H.length]? = some (.box (ndC zW))) (h3 : H3[n3]? = some (.box [zK 1,zK q,zK e,.str t])) (hl : s.length ≤ 200) (hcd : ∀ H,C zf [.str t] H (.bool true) H) (c : UInt8) (hc : s[e]? = some c) (hc40 : c.toNat ≠ 40) (hw : ∀ H,C zS [.str t,.bool false] H (.tup [zI 0,.bool false]) H) (h1 : t ≠ [84,82,85,69]) (h22 : t ≠ [70,65,76,83,69]) (hr : ∀ H,C zj [.str t] H (.tup [.agg zV1,.bool false]) H) (hf : ∀ H,H[b]? = some (rP s e d) → C zd [pR b,zK q,.int .i64 2] H (.tup []) (H.set b (pB s e q 2 d))) :
  EW C GT zJG (zHe zO H b [] .undef (some (ndV zW,pB s e q 2 d))) [(2,pR H.length),(3,pR n3),(0,pR b)] H3:=by
 have hbl:=hob.lt
 have hn3l:=(zg h3).1
 have hel:=(zg hc).1
 refine sW ?_; refine sS (zK e) [AV.str s,zK e,zI 0,zI 0,zI ↑d] ?_; refine sW ?_; refine sS (AV.agg zV1) (AV.cells (AV.agg zV1)) ?_; refine sW ?_; refine sS (AV.agg zV0) (AV.cells (AV.agg zV0)) ?_
 all_goals exact zx (o:=0) (ndV zW) rfl rfl rfl (zJ hP) rfl rfl rfl hO rfl
end
end Go.AM
set_option maxRecDepth 20000
namespace Go.AM
theorem quo_len : ∀ (l : Bs) (i : Nat) (t : Bs) (e : Nat),quo l i = some (t,e) → t.length ≤ l.length
 | [],_,_,_,h=>by simp [quo] at h
 | [c],i,t,e,h=>by
  simp only [quo] at h
  split at h
  ·simp only [zLt,zLz] at h; obtain ⟨rfl,_⟩:=h; simp
  ·cases h
 | c :: d :: r,i,t,e,h=>by
  simp only [quo] at h
  split at h
  ·split at h
   ·rw [zL2] at h
    obtain ⟨⟨t',e'⟩,h1,h2⟩:=h
    simp only [zLz] at h2
    have:=quo_len r (i + 2) t' e' h1
    rw [← h2.1]; simp; omega
   ·simp only [zLt,zLz] at h; obtain ⟨rfl,_⟩:=h; simp
  ·rw [zL2] at h
   obtain ⟨⟨t',e'⟩,h1,h2⟩:=h
   simp only [zLz] at h2
   have:=quo_len (d :: r) (i + 1) t' e' h1
   rw [← h2.1]; simp at this ⊢; omega
theorem badL_k (l : Bs) : ∀ (ts : List Bs) (k j n : Nat),zIG l ts k = some (j,n) → k ≤ j ∧ j < k + ts.length
 | [],_,_,_,h=>by simp [zIG] at h
 | t :: ts,k,j,n,h=>by
  unfold zIG at h
  split at h
  ·simp only [zLt,zLz] at h; simp; omega
  ·have:=badL_k l ts (k + 1) j n h
   simp; omega
theorem tok_bad {s : Bs} {a e k : Nat} (h : tok s a = .bad e k) : 1 ≤ k ∧ k ≤ 6:=by
 unfold tok zB4 at h
 split at h
 ·cases h
 ·split at h
  ·cases h
  ·split at h
   ·split at h <;> cases h
   ·split at h
    ·split at h
     ·rename_i hb
      cases h
      have:=badL_k _ _ _ _ _ hb
      have h6 : wrongs.length = 6:=rfl
      omega
     ·cases h
    ·split at h
     ·split at h <;> cases h
     ·cases h
theorem tkT_len {s : Bs} {a : Nat} (ha : a ≤ s.length) (hl : s.length ≤ 200) : (tkT (tok s a)).length ≤ 200:=by
 cases hk : tok s a with
 | fin=>simp [tkT]
 | none=>simp [tkT]
 | bad e k=>
  have:=tok_bad hk
  obtain ⟨h1,h6⟩:=this
  have : ∀ j : Fin 7,(wrongs.getD (j.val - 1) []).length ≤ 200:=by decide
  exact this ⟨k,by omega⟩
 | word e t=>
  unfold tok zB4 at hk
  split at hk
  ·cases hk
  ·split at hk
   ·cases hk
    simp only [tkT,sub,zMA,zMX]; omega
   ·split at hk
    ·split at hk <;> cases hk
    ·split at hk
     ·split at hk <;> cases hk
     ·split at hk
      ·split at hk <;> cases hk
      ·cases hk
 | txt e t=>
  unfold tok zB4 at hk
  split at hk
  ·cases hk
  ·split at hk
   ·cases hk
   ·split at hk
    ·split at hk
     ·rename_i hq
      cases hk
      have:=quo_len _ _ _ _ hq
      rw [zMX] at this
      simp only [tkT]; omega
     ·cases hk
    ·split at hk
     ·split at hk <;> cases hk
     ·split at hk
      ·split at hk <;> cases hk
      ·cases hk
 | sign e t=>
  unfold tok zB4 at hk
  split at hk
  ·cases hk
  ·split at hk
   ·cases hk
   ·split at hk
    ·split at hk <;> cases hk
    ·split at hk
     ·split at hk <;> cases hk
     ·split at hk
      ·split at hk <;> (cases hk; simp [tkT])
      ·cases hk; simp [tkT]
theorem wrL_apart : ∀ k : Fin 7,∀ i : Fin 7,i < k → wrL.getD i.val [] ≠ wrL.getD k.val []:=by decide
section
variable {C : CSpec} {GT : Nat → Option AV}
theorem rbad_ev (n : Nat) (H : Heap) : EFun C GT zF2 [zK n] H (.agg [.int .i64 4,zK n,.str []]) H:=by
 refine zZ ?_; refine zl (v:=[.int .i64 4,zK n,AV.str []]) rfl <| zH (v:=AV.agg [.int .i64 4,zK n,AV.str []]) (AV.cells (AV.agg [.int .i64 4,zK n,AV.str []])) zB rfl rfl rfl rfl ?_
 exact zBd (o:=0) rfl rfl (zJ (zE zB)) rfl rfl rfl (((Old.refl _).push _).set tA _)
theorem rnamed_ev (hR : ∀ H,C zA2 [] H (.lst (some false) 1 (wrL.map AV.str)) H) (hB : ∀ n H,C zDH [zK n] H (.agg [.int .i64 4,zK n,.str []]) H)
  (k : Nat) (h1 : 1 ≤ k) (h6 : k ≤ 6) (H : Heap) : EFun C GT zEI [.str (wrongs.getD (k - 1) [])] H (.tup [.agg [.int .i64 4,zK k,.str []],.bool true]) H:=by
 obtain ⟨t,ht⟩ : ∃ t,wrongs.getD (k - 1) [] = t:=⟨_,rfl⟩
 have htk : wrL.getD k [] = t:=by
  obtain ⟨j,rfl⟩ : ∃ j,k = j + 1:=⟨k - 1,by omega⟩
  rw [zMw] at ht
  exact ht
 have n1 : (t == ([84,82,85,69] : Bs)) = false ∧ (t == ([70,65,76,83,69] : Bs)) = false:=by
  have : ∀ j : Fin 7,((wrL.getD j.val [] == ([84,82,85,69] : Bs)) = false ∧ (wrL.getD j.val [] == ([70,65,76,83,69] : Bs)) = false):=by decide
  have:=this ⟨k,by omega⟩
  rw [← htk]; exact this
 rw [ht]
 have hb:=hB k
 clear hB
 refine zZ ?_; refine zY n1.1 <| zF <| zY n1.2 <| zL (hR _) ?_
 have hwl : (List.map AV.str wrL).length = 7:=rfl
 refine zBm (fun i : Nat=>[(2,pR H.length),(5,zK i),(0,.str t),(4,.lst (some false) 1 (wrL.map AV.str))]) (fun i H'=>H' = H ++ [.box zV5] ∧ 1 ≤ i ∧ i ≤ k) (fun i=>k - i) 1 rfl ⟨rfl,by omega,h1⟩ (fun i H1 ⟨e,hi1,hik⟩=>?_)
 subst e
 try dsimp only
 obtain ⟨u,hu⟩ : ∃ u,wrL[i]? = some u:=⟨_,zLy (by have : wrL.length = 7:=rfl; omega)⟩
 have hum : (wrL.map AV.str)[i]? = some (AV.str u):=by rw [zL9,hu]; rfl
 have hud : wrL.getD i [] = u:=by rw [zNe,hu]; rfl
 by_cases hlt : i < k
 ·have hne : u ≠ t:=by
   have:=wrL_apart ⟨k,by omega⟩ ⟨i,by omega⟩ hlt
   rw [← hud,← htk]; exact this
  clear hb
  refine sLenL <| zb tT <| sIdx rfl hum <| zt (.str u) rfl <| zY (tN hne) <| zN (r:=i + 1) rfl tO ?_
  exact zAU (i + 1) rfl ⟨rfl,by omega,by omega⟩ tO
 ·have hi : i = k:=by omega
  subst hi
  have he : u = t:=by rw [← hud,← htk]
  refine sLenL <| zb tT <| sIdx rfl hum <| zt (.str u) rfl <| zb (tE he) <| zL (hb _) ?_; refine zH (v:=AV.agg [.int .i64 4,zK i,AV.str []]) (AV.cells (AV.agg [.int .i64 4,zK i,AV.str []])) zB rfl rfl rfl rfl ?_
  all_goals exact zP (v:=.agg [.int .i64 4,zK i,.str []]) (v1:=.bool true) (o:=0) rfl rfl (zJ (zE zB)) rfl rfl rfl rfl (((Old.refl _).push _).set (zL0 _) _)
end
end Go.AM
