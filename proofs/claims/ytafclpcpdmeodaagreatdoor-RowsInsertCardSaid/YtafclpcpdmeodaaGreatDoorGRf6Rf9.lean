/- Several texts of mine in one (Rf6, Rf7, Rf4, Rf8, Rf9). Own work. -/
import Derived.Test.YtafclpcpdmeodaaGreatDoorGAm30Fp1
import Derived.Test.YtafclpcpdmeodaaGreatDoorGRf5Rf3
set_option linter.all false
set_option maxRecDepth 20000
namespace Go.AM
def CF (C:CSpec) (f:Nat) (args:List AV) (b:Nat) (s:Bs) (p d:Nat) (r:Option (Nd×Nat)):Prop:=
 (∀ n e,r=some (n,e)->∀ H,H[b]?=some (rP s p d)->C f args H (ndV n) (H.set b (rP s e d))) /\
 (r=none->∃ (n:Nd) (a:Nat) (w e d':Int),e≠0/\a<=s.length/\∀ H,H[b]?=some (rP s p d)->C f args H (ndV n) (H.set b (pB s a w e d')))
def EF (C:CSpec) (GT:Nat->Option AV) (F:AF) (args:List AV) (b:Nat) (s:Bs) (p d:Nat) (r:Option (Nd×Nat)):Prop:=
 (∀ n e,r=some (n,e)->∀ H,H[b]?=some (rP s p d)->zCr C GT F args H b [] .undef (some (ndV n,rP s e d))) /\
 (r=none->∃ (n:Nd) (a:Nat) (w e d':Int),e≠0/\a<=s.length/\∀ H,H[b]?=some (rP s p d)->zCr C GT F args H b [] .undef (some (ndV n,pB s a w e d')))
section
variable {H H1:Heap} {b:Nat} (h:∃ B,OldB H b B H1)
include H H1 b h
theorem OldB.setE (B':ABlk):OldB H b B' (H1.set b B'):=h.elim fun _ h=>h.setB B'
theorem exO_push (x:List ABlk):∃ B,OldB H b B (H1++x):=h.imp fun _ h=>h.push x
theorem exO_set {c:Nat} (hc:H.length<=c) (x:ABlk):∃ B,OldB H b B (H1.set c x):=h.imp fun _ h=>h.set hc x
theorem exO_setB (B':ABlk):∃ B,OldB H b B (H1.set b B'):=h.elim fun _ h=>⟨_,h.setB B'⟩
end
abbrev zMj:AC:=zIv.behind 2
section
variable {C:CSpec} {GT:Nat->Option AV}
theorem one_start (hT:∀ s a H,a<=s.length->s.length<=1000->C zY [.str s,zK a] H (tkV s a) H)
  (b:Nat) (s:Bs) (p d:Nat) (H:Heap) (hb:H[b]?=some (rP s p d)) (hp:p<=s.length) (hl:s.length<=200) (r:Option (AV×ABlk))
  (h:∀ H3,OldB H b (rP s p d) H3->H3[b]?=some (rP s p d)->H3[H.length]?=some (.box (ndC zZ))->H3[(H++[ABlk.box (ndC zZ)]).length]?=some (.box [zK (tkK (tok s p)),zK (skip s p),zK (tkE (skip s p) (tok s p)),.str (tkT (tok s p))]) ->
   EW C GT zMj (zKW zQ H b [] .undef r) [(2,pR H.length),(3,pR (H++[ABlk.box (ndC zZ)]).length),(0,pR b)] H3) :
  zCr C GT zQ [pR b] H b [] .undef r:=by
 have hbl:b<H.length:=(zg hb).1;have ht:=fun H=>hT s p H hp tO;rw [zG6] at ht;clear hT;generalize tkE (skip s p) (tok s p)=ee at *;generalize tkK (tok s p)=kk at *;generalize tkT (tok s p)=t at *;generalize skip s p=q at *;refine zAH<|sW ?_
 have ho:OldB H b (rP s p d) (((H++[ABlk.box (ndC zZ)])++[ABlk.box zV4]).set (H++[ABlk.box (ndC zZ)]).length (.box [zK kk,zK q,zK ee,.str t])):=((((OldB.start hb).push _).push _).set (by simp) _);have key:=h _ ho hP hP hP;refine zHB ?_ ?_
 all_goals
  refine sW ?_;refine sS (kV kk q ee t) [zK kk,zK q,zK ee,.str t] ?_;exact key
section
variable (b:Nat) (s:Bs) (p d q e:Nat) (t:Bs) (H H3:Heap) (n3:Nat) (hn3:n3=H.length+1) (hob:OldB H b (rP s p d) H3) (hb3:H3[b]?=some (rP s p d)) (h2:H3[H.length]?=some (.box (ndC zZ)))
include b s p d q e t H H3 n3 hn3 hob hb3 h2
theorem rone_txt (h3:H3[n3]?=some (.box [zK 2,zK q,zK e,.str t])) (hl:s.length<=200) :
  EW C GT zMj (zKW zQ H b [] .undef (some (ndV (zHP t),rP s e d))) [(2,pR H.length),(3,pR n3),(0,pR b)] H3:=by
 have hbl:=hob.lt;have hn3l:=(zg h3).1;refine sW ?_;refine sS (zK e) [AV.str s,zK e,zJ 0,zJ 0,zJ ↑d] ?_;refine sW ?_;refine sSA (.agg (zN 2 0 t)) ?_
 all_goals exact zAF (o:=0) (ndV (zHP t)) rfl rfl rfl (zH hP) rfl rfl rfl hO rfl
theorem rone_bad (h3:H3[n3]?=some (.box [zK 3,zK q,zK e,.str t])) (hl:s.length<=200) (k:Nat) (hnm:∀ H,C zCg [.str t] H (.tup [.agg [.int .i64 4,zK k,.str []],.bool true]) H) :
  EW C GT zMj (zKW zQ H b [] .undef (some (ndV (zHR k),rP s e d))) [(2,pR H.length),(3,pR n3),(0,pR b)] H3:=by
 have hbl:=hob.lt;have hn3l:=(zg h3).1;refine sW ?_;refine sS (zK e) [AV.str s,zK e,zJ 0,zJ 0,zJ ↑d] ?_;refine sW ?_;refine sSA (AV.agg [.int .i64 4,zK k,AV.str []]) ?_;refine sW ?_;refine sSA (AV.agg [.int .i64 4,zK k,AV.str [],.int .i64 0,.int .i64 0,AV.bool false,AV.bool false,.int .i64 0,.int .i64 0,AV.bool false,AV.bool false,AV.lst (some true) 0 []]) ?_
 all_goals exact zAF (o:=0) (ndV (zHR k)) rfl rfl rfl (zH hP) rfl rfl rfl hO rfl
end
theorem rone_none (kk:Nat) (b:Nat) (s:Bs) (p d q e:Nat) (t:Bs) (H H3:Heap) (n3:Nat) (hn3:n3=H.length+1) (hob:OldB H b (rP s p d) H3) (hb3:H3[b]?=some (rP s p d)) (h2:H3[H.length]?=some (.box (ndC zZ))) (h3:H3[n3]?=some (.box [zK kk,zK q,zK e,.str t])) (hl:s.length<=200) (h1:kk≠1) (h22:kk≠2) (h33:kk≠3) (h4:kk≠4) (hf:∀ H,H[b]?=some (rP s e d)->C zc [pR b,zK q,.int .i64 2] H (.tup []) (H.set b (pB s e q 2 d))) :
  EW C GT zMj (zKW zQ H b [] .undef (some (ndV zZ,pB s e q 2 d))) [(2,pR H.length),(3,pR n3),(0,pR b)] H3:=by
 have hbl:=hob.lt;have hn3l:=(zg h3).1;refine sW ?_;refine sS (zK e) [AV.str s,zK e,zJ 0,zJ 0,zJ ↑d] ?_;refine sW ?_;refine sSA (.agg (zN 0 0 [])) ?_
 all_goals exact zAF (o:=0) (ndV zZ) rfl rfl rfl (zH hP) rfl rfl rfl hO rfl
section
variable (b:Nat) (s:Bs) (p d q e:Nat) (t:Bs) (H H3:Heap) (n3:Nat) (hn3:n3=H.length+1) (hob:OldB H b (rP s p d) H3) (hb3:H3[b]?=some (rP s p d)) (h2:H3[H.length]?=some (.box (ndC zZ))) (h3:H3[n3]?=some (.box [zK 4,zK q,zK e,.str t])) (hl:s.length<=200)
include b s p d q e t H H3 n3 hn3 hob hb3 h2 h3 hl
theorem rone_sign (h45:t≠[45]) (h40:t≠[40]) (hf:∀ H,H[b]?=some (rP s e d)->C zc [pR b,zK q,.int .i64 2] H (.tup []) (H.set b (pB s e q 2 d))) :
  EW C GT zMj (zKW zQ H b [] .undef (some (ndV zZ,pB s e q 2 d))) [(2,pR H.length),(3,pR n3),(0,pR b)] H3:=by
 have hbl:=hob.lt;have hn3l:=(zg h3).1;refine sW ?_;refine sS (zK e) [AV.str s,zK e,zJ 0,zJ 0,zJ ↑d] ?_;refine sW ?_;refine sSA (.agg (zN 0 0 [])) ?_
 all_goals exact zAF (o:=0) (ndV zZ) rfl rfl rfl (zH hP) rfl rfl rfl hO rfl
theorem rone_min30 (ht:t=[45]) (hd:∀ H,H[b]?=some (rP s e d)->C ze [pR b,zK q] H (.bool false) (H.set b (pB s e q 4 d))) :
  EW C GT zMj (zKW zQ H b [] .undef (some (ndV zZ,pB s e q 4 d))) [(2,pR H.length),(3,pR n3),(0,pR b)] H3:=by
 have hbl:=hob.lt;have hn3l:=(zg h3).1;refine sW ?_;refine sS (zK e) [AV.str s,zK e,zJ 0,zJ 0,zJ ↑d] ?_;refine sW ?_;refine sSA (.agg (zN 0 0 [])) ?_
 all_goals exact zAF (o:=0) (ndV zZ) rfl rfl rfl (zH hP) rfl rfl rfl hO rfl
theorem rone_minok (ht:t=[45]) (n:Nd) (e2:Nat) (hdd:d<=1000) (hd:∀ H,H[b]?=some (rP s e d)->C ze [pR b,zK q] H (.bool true) (H.set b (rP s e (d+1:Nat)))) (ho:∀ H,H[b]?=some (rP s e (d+1:Nat))->C zAL [pR b] H (ndV n) (H.set b (rP s e2 (d+1:Nat)))) :
  EW C GT zMj (zKW zQ H b [] .undef (some (ndV (zDJ n),rP s e2 d))) [(2,pR H.length),(3,pR n3),(0,pR b)] H3:=by
 have hbl:=hob.lt;have hn3l:=(zg h3).1;refine sW ?_;refine sS (zK e) [AV.str s,zK e,zJ 0,zJ 0,zJ ↑d] ?_;refine sW ?_;refine sSA (ndV n) ?_;refine sW ?_;refine zS (r:=d) tO tO<|sS (.int .i64 ↑d) [AV.str s,zJ ↑e2,zJ 0,zJ 0,.int .i64 ↑d] ?_;refine sW ?_;refine zAW (vs':=[ndV n]) rfl rfl<|sW ?_;refine sSA (AV.agg [.int .i64 7,.int .i64 0,AV.str [],.int .i64 0,.int .i64 0,AV.bool false,AV.bool false,.int .i64 0,.int .i64 0,AV.bool false,AV.bool false,AV.sl (some false) (((((List.set H3 b (ABlk.box [AV.str s,zK e,zJ 0,zJ 0,zJ ↑d])).set b (rP s e (d+1))).set b (rP s e2 (d+1))++[ABlk.box (zN 0 0 [])]).set (((List.set H3 b (ABlk.box [AV.str s,zK e,zJ 0,zJ 0,zJ ↑d])).set b (rP s e (d+1))).set b (rP s e2 (d+1))).length (ABlk.box (ndV n).cells)).set b (ABlk.box [AV.str s,zJ ↑e2,zJ 0,zJ 0,.int .i64 ↑d])).length 12 0 [ndV n].length]) ?_
 all_goals exact zAF (o:=0) (nodeW 7 0 [] (.sl (some false) _ 12 0 1)) rfl rfl rfl (zH hP) rfl (frz_node (xs:=[ndV n]) hP tC rfl) rfl hO rfl
theorem rone_minno (ht:t=[45]) (n:Nd) (a w ee d':Int) (hd:∀ H,H[b]?=some (rP s e d)->C ze [pR b,zK q] H (.bool true) (H.set b (rP s e (d+1:Nat)))) (ho:∀ H,H[b]?=some (rP s e (d+1:Nat))->C zAL [pR b] H (ndV n) (H.set b (pB s a w ee d'))) :
  EW C GT zMj (zKW zQ H b [] .undef (some (ndV (zDJ n),pB s a w ee (IntKind.wrap .i64 (d'-1))))) [(2,pR H.length),(3,pR n3),(0,pR b)] H3:=by
 have hbl:=hob.lt;have hn3l:=(zg h3).1;refine sW ?_;refine sS (zK e) [AV.str s,zK e,zJ 0,zJ 0,zJ ↑d] ?_;refine sW ?_;refine sSA (ndV n) ?_;refine sW ?_;refine zFR rfl<|sS (.int .i64 (IntKind.i64.wrap (d'-1))) [AV.str s,zJ a,zJ w,zJ ee,.int .i64 (IntKind.i64.wrap (d'-1))] ?_;refine sW ?_;refine zAW (vs':=[ndV n]) rfl rfl<|sW ?_;refine sSA (AV.agg [.int .i64 7,.int .i64 0,AV.str [],.int .i64 0,.int .i64 0,AV.bool false,AV.bool false,.int .i64 0,.int .i64 0,AV.bool false,AV.bool false,AV.sl (some false) (((((List.set H3 b (ABlk.box [AV.str s,zK e,zJ 0,zJ 0,zJ ↑d])).set b (rP s e (d+1))).set b (pB s a w ee d')++[ABlk.box (zN 0 0 [])]).set (((List.set H3 b (ABlk.box [AV.str s,zK e,zJ 0,zJ 0,zJ ↑d])).set b (rP s e (d+1))).set b (pB s a w ee d')).length (ABlk.box (ndV n).cells)).set b (ABlk.box [AV.str s,zJ a,zJ w,zJ ee,.int .i64 (IntKind.i64.wrap (d'-1))])).length 12 0 [ndV n].length]) ?_
 all_goals exact zAF (o:=0) (nodeW 7 0 [] (.sl (some false) _ 12 0 1)) rfl rfl rfl (zH hP) rfl (frz_node (xs:=[ndV n]) hP tC rfl) rfl hO rfl
theorem rone_par30 (ht:t=[40]) (h45:t≠[45]) (hd:∀ H,H[b]?=some (rP s e d)->C ze [pR b,zK q] H (.bool false) (H.set b (pB s e q 4 d))) :
  EW C GT zMj (zKW zQ H b [] .undef (some (ndV zZ,pB s e q 4 d))) [(2,pR H.length),(3,pR n3),(0,pR b)] H3:=by
 have hbl:=hob.lt;have hn3l:=(zg h3).1;refine sW ?_;refine sS (zK e) [AV.str s,zK e,zJ 0,zJ 0,zJ ↑d] ?_;refine sW ?_;refine sSA (.agg (zN 0 0 [])) ?_
 all_goals exact zAF (o:=0) (ndV zZ) rfl rfl rfl (zH hP) rfl rfl rfl hO rfl
theorem rone_par (ht:t=[40]) (h45:t≠[45]) (n:Nd) (B1 B2:ABlk) (hd:∀ H,H[b]?=some (rP s e d)->C ze [pR b,zK q] H (.bool true) (H.set b (rP s e (d+1:Nat)))) (ho:∀ H,H[b]?=some (rP s e (d+1:Nat))->C zX [pR b,.int .i64 1] H (ndV n) (H.set b B1)) (hc:∀ H,H[b]?=some B1->C zb [pR b] H (.tup []) (H.set b B2)) (hB2:∀ k,zHT k B2=true) :
  EW C GT zMj (zKW zQ H b [] .undef (some (ndV n,B2))) [(2,pR H.length),(3,pR n3),(0,pR b)] H3:=by
 have hbl:=hob.lt;have hn3l:=(zg h3).1;refine sW ?_;refine sS (zK e) [AV.str s,zK e,zJ 0,zJ 0,zJ ↑d] ?_;refine sW ?_;refine sSA (ndV n) ?_;refine sW ?_;refine sSA (ndV n) ?_
 all_goals exact zAF (o:=0) (ndV n) rfl rfl rfl (zH hP) rfl rfl rfl hO (hB2 _)
end
section
variable (b:Nat) (s:Bs) (p d q e:Nat) (t:Bs) (H H3:Heap) (n3:Nat) (hn3:n3=H.length+1) (hob:OldB H b (rP s p d) H3) (hb3:H3[b]?=some (rP s p d)) (h2:H3[H.length]?=some (.box (ndC zZ))) (h3:H3[n3]?=some (.box [zK 1,zK q,zK e,.str t])) (hl:s.length<=200)
include b s p d q e t H H3 n3 hn3 hob hb3 h2 h3 hl
section
variable (hcd:∀ H,C z8 [.str t] H (.bool true) H) (h40:s[e]?=some 40)
include hcd h40
theorem rone_cal30 (hd:∀ H,H[b]?=some (rP s e d)->C ze [pR b,zK q] H (.bool false) (H.set b (pB s e q 4 d))) :
  EW C GT zMj (zKW zQ H b [] .undef (some (ndV zZ,pB s e q 4 d))) [(2,pR H.length),(3,pR n3),(0,pR b)] H3:=by
 have hbl:=hob.lt;have hn3l:=(zg h3).1;have hel:=(zg h40).1;refine sW ?_;refine sS (zK e) [AV.str s,zK e,zJ 0,zJ 0,zJ ↑d] ?_;refine sW ?_;refine sSA (.agg (zN 0 0 [])) ?_
 all_goals exact zAF (o:=0) (ndV zZ) rfl rfl rfl (zH hP) rfl rfl rfl hO rfl
theorem rone_cal (n:Nd) (B1:ABlk) (hd:∀ H,H[b]?=some (rP s e d)->C ze [pR b,zK q] H (.bool true) (H.set b (rP s e (d+1:Nat)))) (ho:∀ H,H[b]?=some (rP s e (d+1:Nat))->C zCf [pR b,.str t] H (ndV n) (H.set b B1)) (hB1:∀ k,zHT k B1=true) :
  EW C GT zMj (zKW zQ H b [] .undef (some (ndV n,B1))) [(2,pR H.length),(3,pR n3),(0,pR b)] H3:=by
 have hbl:=hob.lt;have hn3l:=(zg h3).1;have hel:=(zg h40).1;refine sW ?_;refine sS (zK e) [AV.str s,zK e,zJ 0,zJ 0,zJ ↑d] ?_;refine sW ?_;refine sSA (ndV n) ?_
 all_goals exact zAF (o:=0) (ndV n) rfl rfl rfl (zH hP) rfl rfl rfl hO (hB1 _)
end
theorem rone_numa (hcd:∀ H,C z8 [.str t] H (.bool false) H) (n:Int) (hw:∀ H,C zr [.str t,.bool false] H (.tup [zJ n,.bool true]) H) :
  EW C GT zMj (zKW zQ H b [] .undef (some (ndV (zJ7 n),rP s e d))) [(2,pR H.length),(3,pR n3),(0,pR b)] H3:=by
 have hbl:=hob.lt;have hn3l:=(zg h3).1;refine sW ?_;refine sS (zK e) [AV.str s,zK e,zJ 0,zJ 0,zJ ↑d] ?_;refine sW ?_;refine sSA (.agg (zN 1 n [])) ?_
 all_goals exact zAF (o:=0) (ndV (zJ7 n)) rfl rfl rfl (zH hP) rfl rfl rfl hO rfl
section
variable (hcd:∀ H,C z8 [.str t] H (.bool false) H) (hw:∀ H,C zr [.str t,.bool false] H (.tup [zJ 0,.bool false]) H)
include hcd hw
theorem rone_trua (ht:t=[84,82,85,69]) :
  EW C GT zMj (zKW zQ H b [] .undef (some (ndV (zE5 true),rP s e d))) [(2,pR H.length),(3,pR n3),(0,pR b)] H3:=by
 have hbl:=hob.lt;have hn3l:=(zg h3).1;refine sW ?_;refine sS (zK e) [AV.str s,zK e,zJ 0,zJ 0,zJ ↑d] ?_;refine sW ?_;refine sSA (.agg (zN 3 1 [])) ?_
 all_goals exact zAF (o:=0) (ndV (zE5 true)) rfl rfl rfl (zH hP) rfl rfl rfl hO rfl
theorem rone_fala (h1:t≠[84,82,85,69]) (ht:t=[70,65,76,83,69]) :
  EW C GT zMj (zKW zQ H b [] .undef (some (ndV (zE5 false),rP s e d))) [(2,pR H.length),(3,pR n3),(0,pR b)] H3:=by
 have hbl:=hob.lt;have hn3l:=(zg h3).1;refine sW ?_;refine sS (zK e) [AV.str s,zK e,zJ 0,zJ 0,zJ ↑d] ?_;refine sW ?_;refine sSA (.agg (zN 3 0 [])) ?_
 all_goals exact zAF (o:=0) (ndV (zE5 false)) rfl rfl rfl (zH hP) rfl rfl rfl hO rfl
theorem rone_refa (h1:t≠[84,82,85,69]) (h22:t≠[70,65,76,83,69]) (x:RefP) (hr:∀ H,C zm [.str t] H (.tup [.agg [zJ x.col,zJ x.row,.bool x.fc,.bool x.fr],.bool true]) H) :
  EW C GT zMj (zKW zQ H b [] .undef (some (ndV (zBz x),rP s e d))) [(2,pR H.length),(3,pR n3),(0,pR b)] H3:=by
 have hbl:=hob.lt;have hn3l:=(zg h3).1;refine sW ?_;refine sS (zK e) [AV.str s,zK e,zJ 0,zJ 0,zJ ↑d] ?_;refine sW ?_;refine sSA (AV.agg [zJ x.col,zJ x.row,AV.bool x.fc,AV.bool x.fr]) ?_;refine sW ?_;refine sSA (AV.agg [.int .i64 5,.int .i64 0,AV.str [],zJ x.col,zJ x.row,AV.bool x.fc,AV.bool x.fr,.int .i64 0,.int .i64 0,AV.bool false,AV.bool false,AV.lst (some true) 0 []]) ?_
 all_goals exact zAF (o:=0) (ndV (zBz x)) rfl rfl rfl (zH hP) rfl rfl rfl hO rfl
theorem rone_wnoa (h1:t≠[84,82,85,69]) (h22:t≠[70,65,76,83,69]) (hr:∀ H,C zm [.str t] H (.tup [.agg zP,.bool false]) H) (hf:∀ H,H[b]?=some (rP s e d)->C zc [pR b,zK q,.int .i64 2] H (.tup []) (H.set b (pB s e q 2 d))) :
  EW C GT zMj (zKW zQ H b [] .undef (some (ndV zZ,pB s e q 2 d))) [(2,pR H.length),(3,pR n3),(0,pR b)] H3:=by
 have hbl:=hob.lt;have hn3l:=(zg h3).1;refine sW ?_;refine sS (zK e) [AV.str s,zK e,zJ 0,zJ 0,zJ ↑d] ?_;refine sW ?_;refine sSA (.agg zP) ?_;refine sW ?_;refine sSA (.agg (zN 0 0 [])) ?_
 all_goals exact zAF (o:=0) (ndV zZ) rfl rfl rfl (zH hP) rfl rfl rfl hO rfl
end
theorem rone_numb (hcd:∀ H,C z8 [.str t] H (.bool true) H) (hel:s.length<=e) (n:Int) (hw:∀ H,C zr [.str t,.bool false] H (.tup [zJ n,.bool true]) H) :
  EW C GT zMj (zKW zQ H b [] .undef (some (ndV (zJ7 n),rP s e d))) [(2,pR H.length),(3,pR n3),(0,pR b)] H3:=by
 have hbl:=hob.lt;have hn3l:=(zg h3).1;refine sW ?_;refine sS (zK e) [AV.str s,zK e,zJ 0,zJ 0,zJ ↑d] ?_;refine sW ?_;refine sSA (.agg (zN 1 n [])) ?_
 all_goals exact zAF (o:=0) (ndV (zJ7 n)) rfl rfl rfl (zH hP) rfl rfl rfl hO rfl
section
variable (hcd:∀ H,C z8 [.str t] H (.bool true) H) (hel:s.length<=e) (hw:∀ H,C zr [.str t,.bool false] H (.tup [zJ 0,.bool false]) H)
include hcd hel hw
theorem rone_trub (ht:t=[84,82,85,69]) :
  EW C GT zMj (zKW zQ H b [] .undef (some (ndV (zE5 true),rP s e d))) [(2,pR H.length),(3,pR n3),(0,pR b)] H3:=by
 have hbl:=hob.lt;have hn3l:=(zg h3).1;refine sW ?_;refine sS (zK e) [AV.str s,zK e,zJ 0,zJ 0,zJ ↑d] ?_;refine sW ?_;refine sSA (.agg (zN 3 1 [])) ?_
 all_goals exact zAF (o:=0) (ndV (zE5 true)) rfl rfl rfl (zH hP) rfl rfl rfl hO rfl
theorem rone_falb (h1:t≠[84,82,85,69]) (ht:t=[70,65,76,83,69]) :
  EW C GT zMj (zKW zQ H b [] .undef (some (ndV (zE5 false),rP s e d))) [(2,pR H.length),(3,pR n3),(0,pR b)] H3:=by
 have hbl:=hob.lt;have hn3l:=(zg h3).1;refine sW ?_;refine sS (zK e) [AV.str s,zK e,zJ 0,zJ 0,zJ ↑d] ?_;refine sW ?_;refine sSA (.agg (zN 3 0 [])) ?_
 all_goals exact zAF (o:=0) (ndV (zE5 false)) rfl rfl rfl (zH hP) rfl rfl rfl hO rfl
theorem rone_refb (h1:t≠[84,82,85,69]) (h22:t≠[70,65,76,83,69]) (x:RefP) (hr:∀ H,C zm [.str t] H (.tup [.agg [zJ x.col,zJ x.row,.bool x.fc,.bool x.fr],.bool true]) H) :
  EW C GT zMj (zKW zQ H b [] .undef (some (ndV (zBz x),rP s e d))) [(2,pR H.length),(3,pR n3),(0,pR b)] H3:=by
 have hbl:=hob.lt;have hn3l:=(zg h3).1;refine sW ?_;refine sS (zK e) [AV.str s,zK e,zJ 0,zJ 0,zJ ↑d] ?_;refine sW ?_;refine sSA (AV.agg [zJ x.col,zJ x.row,AV.bool x.fc,AV.bool x.fr]) ?_;refine sW ?_;refine sSA (AV.agg [.int .i64 5,.int .i64 0,AV.str [],zJ x.col,zJ x.row,AV.bool x.fc,AV.bool x.fr,.int .i64 0,.int .i64 0,AV.bool false,AV.bool false,AV.lst (some true) 0 []]) ?_
 all_goals exact zAF (o:=0) (ndV (zBz x)) rfl rfl rfl (zH hP) rfl rfl rfl hO rfl
theorem rone_wnob (h1:t≠[84,82,85,69]) (h22:t≠[70,65,76,83,69]) (hr:∀ H,C zm [.str t] H (.tup [.agg zP,.bool false]) H) (hf:∀ H,H[b]?=some (rP s e d)->C zc [pR b,zK q,.int .i64 2] H (.tup []) (H.set b (pB s e q 2 d))) :
  EW C GT zMj (zKW zQ H b [] .undef (some (ndV zZ,pB s e q 2 d))) [(2,pR H.length),(3,pR n3),(0,pR b)] H3:=by
 have hbl:=hob.lt;have hn3l:=(zg h3).1;refine sW ?_;refine sS (zK e) [AV.str s,zK e,zJ 0,zJ 0,zJ ↑d] ?_;refine sW ?_;refine sSA (.agg zP) ?_;refine sW ?_;refine sSA (.agg (zN 0 0 [])) ?_
 all_goals exact zAF (o:=0) (ndV zZ) rfl rfl rfl (zH hP) rfl rfl rfl hO rfl
end
theorem rone_numc (hcd:∀ H,C z8 [.str t] H (.bool true) H) (c:UInt8) (hc:s[e]?=some c) (hc40:c.toNat≠40) (n:Int) (hw:∀ H,C zr [.str t,.bool false] H (.tup [zJ n,.bool true]) H) :
  EW C GT zMj (zKW zQ H b [] .undef (some (ndV (zJ7 n),rP s e d))) [(2,pR H.length),(3,pR n3),(0,pR b)] H3:=by
 have hbl:=hob.lt;have hn3l:=(zg h3).1;have hel:=(zg hc).1;refine sW ?_;refine sS (zK e) [AV.str s,zK e,zJ 0,zJ 0,zJ ↑d] ?_;refine sW ?_;refine sSA (.agg (zN 1 n [])) ?_
 all_goals exact zAF (o:=0) (ndV (zJ7 n)) rfl rfl rfl (zH hP) rfl rfl rfl hO rfl
section
variable (hcd:∀ H,C z8 [.str t] H (.bool true) H) (c:UInt8) (hc:s[e]?=some c) (hc40:c.toNat≠40) (hw:∀ H,C zr [.str t,.bool false] H (.tup [zJ 0,.bool false]) H)
include hcd c hc hc40 hw
theorem rone_truc (ht:t=[84,82,85,69]) :
  EW C GT zMj (zKW zQ H b [] .undef (some (ndV (zE5 true),rP s e d))) [(2,pR H.length),(3,pR n3),(0,pR b)] H3:=by
 have hbl:=hob.lt;have hn3l:=(zg h3).1;have hel:=(zg hc).1;refine sW ?_;refine sS (zK e) [AV.str s,zK e,zJ 0,zJ 0,zJ ↑d] ?_;refine sW ?_;refine sSA (.agg (zN 3 1 [])) ?_
 all_goals exact zAF (o:=0) (ndV (zE5 true)) rfl rfl rfl (zH hP) rfl rfl rfl hO rfl
theorem rone_falc (h1:t≠[84,82,85,69]) (ht:t=[70,65,76,83,69]) :
  EW C GT zMj (zKW zQ H b [] .undef (some (ndV (zE5 false),rP s e d))) [(2,pR H.length),(3,pR n3),(0,pR b)] H3:=by
 have hbl:=hob.lt;have hn3l:=(zg h3).1;have hel:=(zg hc).1;refine sW ?_;refine sS (zK e) [AV.str s,zK e,zJ 0,zJ 0,zJ ↑d] ?_;refine sW ?_;refine sSA (.agg (zN 3 0 [])) ?_
 all_goals exact zAF (o:=0) (ndV (zE5 false)) rfl rfl rfl (zH hP) rfl rfl rfl hO rfl
theorem rone_refc (h1:t≠[84,82,85,69]) (h22:t≠[70,65,76,83,69]) (x:RefP) (hr:∀ H,C zm [.str t] H (.tup [.agg [zJ x.col,zJ x.row,.bool x.fc,.bool x.fr],.bool true]) H) :
  EW C GT zMj (zKW zQ H b [] .undef (some (ndV (zBz x),rP s e d))) [(2,pR H.length),(3,pR n3),(0,pR b)] H3:=by
 have hbl:=hob.lt;have hn3l:=(zg h3).1;have hel:=(zg hc).1;refine sW ?_;refine sS (zK e) [AV.str s,zK e,zJ 0,zJ 0,zJ ↑d] ?_;refine sW ?_;refine sSA (AV.agg [zJ x.col,zJ x.row,AV.bool x.fc,AV.bool x.fr]) ?_;refine sW ?_;refine sSA (AV.agg [.int .i64 5,.int .i64 0,AV.str [],zJ x.col,zJ x.row,AV.bool x.fc,AV.bool x.fr,.int .i64 0,.int .i64 0,AV.bool false,AV.bool false,AV.lst (some true) 0 []]) ?_
 all_goals exact zAF (o:=0) (ndV (zBz x)) rfl rfl rfl (zH hP) rfl rfl rfl hO rfl
theorem rone_wnoc (h1:t≠[84,82,85,69]) (h22:t≠[70,65,76,83,69]) (hr:∀ H,C zm [.str t] H (.tup [.agg zP,.bool false]) H) (hf:∀ H,H[b]?=some (rP s e d)->C zc [pR b,zK q,.int .i64 2] H (.tup []) (H.set b (pB s e q 2 d))) :
  EW C GT zMj (zKW zQ H b [] .undef (some (ndV zZ,pB s e q 2 d))) [(2,pR H.length),(3,pR n3),(0,pR b)] H3:=by
 have hbl:=hob.lt;have hn3l:=(zg h3).1;have hel:=(zg hc).1;refine sW ?_;refine sS (zK e) [AV.str s,zK e,zJ 0,zJ 0,zJ ↑d] ?_;refine sW ?_;refine sSA (.agg zP) ?_;refine sW ?_;refine sSA (.agg (zN 0 0 [])) ?_
 all_goals exact zAF (o:=0) (ndV zZ) rfl rfl rfl (zH hP) rfl rfl rfl hO rfl
end
end
end
end Go.AM
set_option maxRecDepth 20000
namespace Go.AM
theorem quo_len:∀ (l:Bs) (i:Nat) (t:Bs) (e:Nat),quo l i=some (t,e)->t.length<=l.length
 |[],_,_,_,h=>by simp [quo] at h
 |[c],i,t,e,h=>by
  simp only [quo] at h;split at h
  ·simp only [zQT,zQd] at h;obtain ⟨rfl,_⟩:=h;simp
  ·cases h
 |c::d::r,i,t,e,h=>by
  simp only [quo] at h;split at h
  ·split at h
   ·rw [zQX] at h;obtain ⟨⟨t',e'⟩,h1,h2⟩:=h;simp only [zQd] at h2;have:=quo_len r (i+2) t' e' h1;rw [<-h2.1];simp;omega
   ·simp only [zQT,zQd] at h;obtain ⟨rfl,_⟩:=h;simp
  ·rw [zQX] at h;obtain ⟨⟨t',e'⟩,h1,h2⟩:=h;simp only [zQd] at h2;have:=quo_len (d::r) (i+1) t' e' h1;rw [<-h2.1];simp at this ⊢;omega
theorem badL_k (l:Bs):∀ (ts:List Bs) (k j n:Nat),zKk l ts k=some (j,n)->k<=j/\j<k+ts.length
 |[],_,_,_,h=>by simp [zKk] at h
 |t::ts,k,j,n,h=>by
  unfold zKk at h;split at h
  ·simp only [zQT,zQd] at h;simp;omega
  ·have:=badL_k l ts (k+1) j n h;simp;omega
theorem tok_bad {s:Bs} {a e k:Nat} (h:tok s a=.bad e k):1<=k/\k<=6:=by
 unfold tok zBg at h;split at h
 ·cases h
 ·split at h
  ·cases h
  ·split at h
   ·split at h <;> cases h
   ·split at h
    ·split at h
     ·rename_i hb;cases h;have:=badL_k _ _ _ _ _ hb;have h6:wrongs.length=6:=rfl;omega
     ·cases h
    ·split at h
     ·split at h <;> cases h
     ·cases h
theorem tkT_len {s:Bs} {a:Nat} (ha:a<=s.length) (hl:s.length<=200):(tkT (tok s a)).length<=200:=by
 cases hk:tok s a with
 |fin=>simp [tkT]
 |none=>simp [tkT]
 |bad e k=>
  have:=tok_bad hk;obtain ⟨h1,h6⟩:=this;have:∀ j:Fin 7,(wrongs.getD (j.val-1) []).length<=200:=by decide
  exact this ⟨k,by omega⟩
 |word e t=>
  unfold tok zBg at hk;split at hk
  ·cases hk
  ·split at hk
   ·cases hk;simp only [tkT,sub,zQk,zQp];omega
   ·split at hk
    ·split at hk <;> cases hk
    ·split at hk
     ·split at hk <;> cases hk
     ·split at hk
      ·split at hk <;> cases hk
      ·cases hk
 |txt e t=>
  unfold tok zBg at hk;split at hk
  ·cases hk
  ·split at hk
   ·cases hk
   ·split at hk
    ·split at hk
     ·rename_i hq;cases hk;have:=quo_len _ _ _ _ hq;rw [zQp] at this;simp only [tkT];omega
     ·cases hk
    ·split at hk
     ·split at hk <;> cases hk
     ·split at hk
      ·split at hk <;> cases hk
      ·cases hk
 |sign e t=>
  unfold tok zBg at hk;split at hk
  ·cases hk
  ·split at hk
   ·cases hk
   ·split at hk
    ·split at hk <;> cases hk
    ·split at hk
     ·split at hk <;> cases hk
     ·split at hk
      ·split at hk <;> (cases hk;simp [tkT])
      ·cases hk;simp [tkT]
theorem wrL_apart:∀ k:Fin 7,∀ i:Fin 7,i<k->wrL.getD i.val []≠wrL.getD k.val []:=by decide
section
variable {C:CSpec} {GT:Nat->Option AV}
theorem rbad_ev (n:Nat) (H:Heap):EFun C GT zIL [zK n] H (.agg [.int .i64 4,zK n,.str []]) H:=by
 refine zI ?_;refine zy (v:=[.int .i64 4,zK n,AV.str []]) rfl<|zL (v:=AV.agg [.int .i64 4,zK n,AV.str []]) (AV.cells (AV.agg [.int .i64 4,zK n,AV.str []])) zB rfl rfl rfl rfl ?_
 exact zAV (o:=0) rfl rfl (zH hP) rfl rfl rfl (((Old.refl _).push _).set tA _)
theorem rnamed_ev (hR:∀ H,C zAy [] H (.lst (some false) 1 (wrL.map AV.str)) H) (hB:∀ n H,C zCx [zK n] H (.agg [.int .i64 4,zK n,.str []]) H)
  (k:Nat) (h1:1<=k) (h6:k<=6) (H:Heap):EFun C GT zGI [.str (wrongs.getD (k-1) [])] H (.tup [.agg [.int .i64 4,zK k,.str []],.bool true]) H:=by
 obtain ⟨t,ht⟩:∃ t,wrongs.getD (k-1) []=t:=⟨_,rfl⟩;have htk:wrL.getD k []=t:=by
  obtain ⟨j,rfl⟩:∃ j,k=j+1:=⟨k-1,by omega⟩;rw [zRX] at ht;exact ht
 have n1:(t==([84,82,85,69]:Bs))=false/\(t==([70,65,76,83,69]:Bs))=false:=by
  have:∀ j:Fin 7,((wrL.getD j.val []==([84,82,85,69]:Bs))=false/\(wrL.getD j.val []==([70,65,76,83,69]:Bs))=false):=by decide
  have:=this ⟨k,by omega⟩;rw [<-htk];exact this
 rw [ht];have hb:=hB k;clear hB;refine zI ?_;refine zk n1.1<|zG<|zk n1.2<|zM (hR _) ?_
 have hwl:(List.map AV.str wrL).length=7:=rfl;refine zBB (fun i:Nat=>[(2,pR H.length),(5,zK i),(0,.str t),(4,.lst (some false) 1 (wrL.map AV.str))]) (fun i H'=>H'=H++[.box zV3]/\1<=i/\i<=k) (fun i=>k-i) 1 rfl ⟨rfl,by omega,h1⟩ (fun i H1 ⟨e,hi1,hik⟩=>?_);subst e
 try dsimp only
 obtain ⟨u,hu⟩:∃ u,wrL[i]?=some u:=⟨_,zQS (by have:wrL.length=7:=rfl;omega)⟩;have hum:(wrL.map AV.str)[i]?=some (AV.str u):=by rw [zQa,hu];rfl
 have hud:wrL.getD i []=u:=by rw [zRT,hu];rfl
 by_cases hlt:i<k
 ·have hne:u≠t:=by
   have:=wrL_apart ⟨k,by omega⟩ ⟨i,by omega⟩ hlt;rw [<-hud,<-htk];exact this
  clear hb;refine sLenL<|zp tT<|sIdx rfl hum<|zA4 (.str u) rfl<|zk (tN hne)<|zS (r:=i+1) rfl tO ?_
  exact zAP (i+1) rfl ⟨rfl,by omega,by omega⟩ tO
 ·have hi:i=k:=by omega
  subst hi;have he:u=t:=by rw [<-hud,<-htk]
  refine sLenL<|zp tT<|sIdx rfl hum<|zA4 (.str u) rfl<|zp (tE he)<|zM (hb _) ?_;refine zL (v:=AV.agg [.int .i64 4,zK i,AV.str []]) (AV.cells (AV.agg [.int .i64 4,zK i,AV.str []])) zB rfl rfl rfl rfl ?_
  all_goals exact zn (v:=.agg [.int .i64 4,zK i,.str []]) (v1:=.bool true) (o:=0) rfl rfl (zH hP) rfl rfl rfl rfl (((Old.refl _).push _).set (zQU _) _)
end
end Go.AM
set_option maxRecDepth 20000
namespace Go.AM
def refRV:Option RefP->AV
 |some r=>.tup [.agg [zJ r.col,zJ r.row,.bool r.fc,.bool r.fr],.bool true]
 |none=>.tup [.agg zP,.bool false]
theorem rdrop_cons {s r:Bs} {i:Nat} {c:UInt8} (h:s.drop i=c::r):s[i]?=some c/\s.drop (i+1)=r:=by
 refine ⟨?_, ?_⟩
 ·rw [<-List.head?_drop,h];rfl
 ·rw [<-List.tail_drop,h];rfl
theorem rdrop_lt {s:Bs} {i:Nat} {c:UInt8} (h:s[i]?=some c):i<s.length:=(zg h).1
section
variable {C:CSpec} {GT:Nat->Option AV} (hW:∀ s H,s.length<=200->C zr [.str s,.bool false] H (zLG (zCL s)) H) {s t:Bs} {H H1:Heap} {i n4:Nat} (ht:s.drop i=t) (hi:i<=s.length) (hl:s.length<=200) (hn:H.length<n4) (ho:Old H H1) (h2:H1[H.length]?=some (.box zP)) {fc:Bool}
include hW ht hi hl hn ho h2
theorem rref_row {x:Int} {fr:Bool} (h4:H1[n4]?=some (.box [.int .i64 x,.int .i64 0,.bool fc,.bool fr])) :
  EW C GT (zIM.behind 8) (finF zDr H (refRV (rowP fc x (fr,t))) H) [(2,pR H.length),(4,pR n4),(5,zK i),(0,.str s)] H1:=by
 have hw:=fun H=>hW t H (by rw [<-ht,zQp];omega);have hsl:zB5 none (.str s) (some (zK i)) none=some (.str t):=ht ▸ zIf s i hi;have hg2:=(zg h2).1;have hg4:=(zg h4).1;unfold rowP;dsimp only;clear hW;cases hwp:zCL t with
 |none=>
  rw [hwp] at hw;have hw:∀ H,C zr _ H (.tup [zJ 0,.bool false]) H:=hw;refine zy hsl<|zM (hw _)<|zy rfl<|zy rfl ?_;refine zD<|zD<|zD<|zD<|zD<|zy (v:=zP) rfl ?_;refine zL (v:=.agg zP) (AV.cells (.agg zP)) h2 rfl rfl rfl rfl ?_
  all_goals exact zn (v:=.agg zP) (v1:=.bool false) (o:=0) rfl rfl (zH hP) rfl rfl rfl rfl (ho.set (zQU _) _)
 |some n=>
  rw [hwp] at hw;have hw:∀ H,C zr _ H (.tup [zJ n,.bool true]) H:=hw;by_cases h:1<=n/\n<=99
  ·simp only [zQQ h];refine zy hsl<|zM (hw _)<|zy rfl<|zy rfl ?_;refine zG<|zG<|zk tF<|zG<|zk tF<|zL (v:=zJ n) [.int .i64 x,zJ n,AV.bool fc,AV.bool fr] h4 rfl rfl rfl rfl ?_;refine zA (AV.agg [.int .i64 x,zJ n,AV.bool fc,AV.bool fr]) (zV h4) rfl<|zL (v:=AV.agg [.int .i64 x,zJ n,AV.bool fc,AV.bool fr]) (AV.cells (AV.agg [.int .i64 x,zJ n,AV.bool fc,AV.bool fr])) (zC tA h2) rfl rfl rfl rfl ?_
   all_goals exact zn (v:=.agg [zJ x,zJ n,.bool fc,.bool fr]) (v1:=.bool true) (o:=0) rfl rfl (zH hP) rfl rfl rfl rfl ((ho.set (zS6 hn) _).set (zQU _) _)
  ·simp only [zQN h];by_cases h1:n<1
   ·refine zy hsl<|zM (hw _)<|zy rfl<|zy rfl ?_;refine zG<|zG<|zp tT<|zD<|zD<|zy (v:=zP) rfl ?_;refine zL (v:=.agg zP) (AV.cells (.agg zP)) h2 rfl rfl rfl rfl ?_
    all_goals exact zn (v:=.agg zP) (v1:=.bool false) (o:=0) rfl rfl (zH hP) rfl rfl rfl rfl (ho.set (zQU _) _)
   ·have h99:99<n:=by omega
    refine zy hsl<|zM (hw _)<|zy rfl<|zy rfl ?_;refine zG<|zG<|zk tF<|zG<|zp tT<|zy (v:=zP) rfl ?_;refine zL (v:=.agg zP) (AV.cells (.agg zP)) h2 rfl rfl rfl rfl ?_
    all_goals exact zn (v:=.agg zP) (v1:=.bool false) (o:=0) rfl rfl (zH hP) rfl rfl rfl rfl (ho.set (zQU _) _)
theorem rref_col (h4:H1[n4]?=some (.box [.int .i64 0,.int .i64 0,.bool fc,.bool false])) :
  EW C GT (zIM.behind 4) (finF zDr H (refRV (colP (fc,t))) H) [(2,pR H.length),(4,pR n4),(0,.str s),(5,zK i)] H1:=by
 have hg2:=(zg h2).1;have hg4:=(zg h4).1;cases t with
 |nil=>
  have hi2:s.length<=i:=by have:=zQb List.length ht;rw [zQp] at this;simp at this;omega
  show EW C GT _ (finF zDr H (.tup [.agg zP,.bool false]) H) _ _;refine zp tT<|zD<|zD<|zD<|zD<|zy (v:=zP) rfl ?_;refine zL (v:=.agg zP) (AV.cells (.agg zP)) h2 rfl rfl rfl rfl ?_
  all_goals exact zn (v:=.agg zP) (v1:=.bool false) (o:=0) rfl rfl (zH hP) rfl rfl rfl rfl (ho.set (zQU _) _)
 |cons c r=>
  obtain ⟨hc,hr⟩:=rdrop_cons ht;have hi2:=rdrop_lt hc;have hcn:c.toNat<256:=zR2 c;by_cases g1:c.toNat<65
  ·have e:colP (fc,c::r)=none:=zQN fun h=>by unfold capB at h;simp only [zQP,zQf] at h;omega
   rw [e];refine zk tF<|zCB rfl hc<|zG<|zp tT<|zD<|zD ?_;refine zy (v:=zP) rfl<|zL (v:=.agg zP) (AV.cells (.agg zP)) h2 rfl rfl rfl rfl ?_
   all_goals exact zn (v:=.agg zP) (v1:=.bool false) (o:=0) rfl rfl (zH hP) rfl rfl rfl rfl (ho.set (zQU _) _)
  by_cases g2:90<c.toNat
  ·have e:colP (fc,c::r)=none:=zQN fun h=>by unfold capB at h;simp only [zQP,zQf] at h;omega
   rw [e];refine zk tF<|zCB rfl hc<|zG<|zk tF<|zCB rfl hc ?_;refine zG<|zp tT<|zy (v:=zP) rfl<|zL (v:=.agg zP) (AV.cells (.agg zP)) h2 rfl rfl rfl rfl ?_
   all_goals exact zn (v:=.agg zP) (v1:=.bool false) (o:=0) rfl rfl (zH hP) rfl rfl rfl rfl (ho.set (zQU _) _)
  have e:colP (fc,c::r)=rowP fc ((c.toNat-64:Nat):Int) (dollar r):=(zQQ (by unfold capB;simp only [zQP,zQf];omega)).trans (by rw [show ((c.toNat-64:Nat):Int)=(c.toNat:Int)-64 by omega]);rw [e];have hq:=fun x=>ho.set (b:=n4) (zS6 hn) x;cases r with
  |nil=>
   have hi3:s.length<=i+1:=by have:=zQb List.length hr;rw [zQp] at this;simp at this;omega
   have key:=rref_row (GT:=GT) hW hr tO hl hn (hq _) (zC tO h2) (fc:=fc) (x:=((c.toNat-64:Nat):Int)) (fr:=false) (zV h4);refine zk tF<|zCB rfl hc<|zG<|zk tF<|zCB rfl hc ?_;refine zG<|zk tF<|zCB rfl hc<|zS (r:=c.toNat) tO tO<|zS (r:=c.toNat-64) tO tO<|zL (v:=.int .i64 ↑(c.toNat-64)) [.int .i64 ↑(c.toNat-64),.int .i64 0,AV.bool fc,AV.bool false] h4 rfl rfl rfl rfl ?_;refine zS (r:=i+1) tO tO<|zk tF<|zG<|zG<|sTail rfl key ?_
   rfl
  |cons c2 r2=>
   obtain ⟨hc2,hr2⟩:=rdrop_cons hr;have hi3:=rdrop_lt hc2;by_cases h36:c2=36
   ·subst h36;have key:=rref_row (GT:=GT) hW hr2 tO hl hn ((hq (.box [.int .i64 ((c.toNat-64:Nat):Int),.int .i64 0,.bool fc,.bool false])).set (b:=n4) (zS6 hn) _) (zC tO (zC tO h2)) (fc:=fc) (x:=((c.toNat-64:Nat):Int)) (fr:=true) (zV (zV h4));refine zk tF<|zCB rfl hc<|zG<|zk tF<|zCB rfl hc ?_;refine zG<|zk tF<|zCB rfl hc<|zS (r:=c.toNat) tO tO<|zS (r:=c.toNat-64) tO tO<|zL (v:=.int .i64 ↑(c.toNat-64)) [.int .i64 ↑(c.toNat-64),.int .i64 0,AV.bool fc,AV.bool false] h4 rfl rfl rfl rfl ?_;refine zS (r:=i+1) tO tO<|zp tT<|zCB rfl hc2<|zD<|zD<|zL (v:=AV.bool true) [.int .i64 ↑(c.toNat-64),.int .i64 0,AV.bool fc,AV.bool true] (zV h4) rfl rfl rfl rfl ?_
    refine zS (r:=i+1+1) tO tO<|sTail rfl key ?_
    rfl
   ·have h36':c2.toNat≠36:=fun e=>h36 (zQm.1 e);have key:=rref_row (GT:=GT) hW hr tO hl hn (hq _) (zC tO h2) (fc:=fc) (x:=((c.toNat-64:Nat):Int)) (fr:=false) (zV h4);rw [show dollar (c2::r2)=(false,c2::r2) by simp [dollar,h36]];refine zk tF<|zCB rfl hc<|zG<|zk tF<|zCB rfl hc ?_;refine zG<|zk tF<|zCB rfl hc<|zS (r:=c.toNat) tO tO<|zS (r:=c.toNat-64) tO tO<|zL (v:=.int .i64 ↑(c.toNat-64)) [.int .i64 ↑(c.toNat-64),.int .i64 0,AV.bool fc,AV.bool false] h4 rfl rfl rfl rfl ?_;refine zS (r:=i+1) tO tO<|zp tT<|zCB rfl hc2<|zD<|zk tF<|sTail rfl key ?_
    rfl
end
section
variable {C:CSpec} {GT:Nat->Option AV}
theorem rref_ev (hW:∀ s H,s.length<=200->C zr [.str s,.bool false] H (zLG (zCL s)) H) (s:Bs) (H:Heap) (hl:s.length<=200):EFun C GT zDr [.str s] H (refRV (zE9 s)) H:=by
 have h2:((H++[ABlk.box zP])++[ABlk.box zP])[H.length]?=_:=zF zB;have h4:=zB (H:=H++[ABlk.box zP]) (x:=ABlk.box zP);have ho:=((Old.refl H).push [ABlk.box zP]).push [ABlk.box zP];have hn:H.length<(H++[ABlk.box zP]).length:=by simp
 refine zI ?_;cases s with
 |nil=>
  have key:=rref_col (GT:=GT) hW (s:=[]) (t:=[]) (i:=0) (fc:=false) rfl (zQU _) hl hn ho h2 h4;refine zG<|zG<|zG<|sTail rfl key ?_
  rfl
 |cons c r=>
  have hc:(c::r)[0]?=some c:=rfl;have hr:(c::r).length=r.length+1:=rfl;by_cases h36:c=36
  ·subst h36;have key:=rref_col (GT:=GT) hW (s:=36::r) (t:=r) (i:=1) (fc:=true) rfl (by simp) hl hn (ho.set (zS6 hn) _) (zC tO h2) (zV h4);rw [show zE9 (36::r)=colP (true,r) by simp [zE9,dollar]];refine zp tT<|zCB rfl hc<|zD<|zD<|zL (v:=AV.bool true) [.int .i64 0,.int .i64 0,AV.bool true,AV.bool false] zB rfl rfl rfl rfl<|zS (r:=1) rfl tO ?_
   exact sTail rfl key rfl
  ·have h36':c.toNat≠36:=fun e=>h36 (zQm.1 e);have key:=rref_col (GT:=GT) hW (s:=c::r) (t:=c::r) (i:=0) (fc:=false) rfl (zRG _) hl hn ho h2 h4;rw [show zE9 (c::r)=colP (false,c::r) by simp [zE9,dollar,h36]];refine zp tT<|zCB rfl hc<|zD<|zk tF<|sTail rfl key ?_
   rfl
end
end Go.AM
set_option maxRecDepth 20000
namespace Go.AM
def CFd (C:CSpec) (f:Nat) (args:List AV) (b:Nat) (s:Bs) (p d d2:Nat) (r:Option (Nd×Nat)):Prop:=
 (∀ n e,r=some (n,e)->∀ H,H[b]?=some (rP s p d)->C f args H (ndV n) (H.set b (rP s e d2))) /\
 (r=none->∃ (n:Nd) (a:Nat) (w e d':Int),e≠0/\a<=s.length/\∀ H,H[b]?=some (rP s p d)->C f args H (ndV n) (H.set b (pB s a w e d')))
section
variable {C:CSpec} {GT:Nat->Option AV}
theorem rone_ef (hT:∀ s a H,a<=s.length->s.length<=1000->C zY [.str s,zK a] H (tkV s a) H)
  (hCd:∀ s H,s.length<=1000->C z8 [.str s] H (.bool (zA3 s)) H)
  (hW:∀ s H,s.length<=200->C zr [.str s,.bool false] H (zLG (zCL s)) H)
  (hR:∀ s H,s.length<=200->C zm [.str s] H (refRV (zE9 s)) H)
  (hNm:∀ k H,1<=k->k<=6->C zCg [.str (wrongs.getD (k-1) [])] H (.tup [.agg [.int .i64 4,zK k,.str []],.bool true]) H)
  (hF:∀ b s p d a e H,H[b]?=some (pB s p 0 0 d)->C zc [pR b,zJ a,zJ e] H (.tup []) (H.set b (pB s p a e d)))
  (hD:∀ b s p (d:Nat) a H,H[b]?=some (pB s p 0 0 d)->d<=1000->(d=30->C ze [pR b,zJ a] H (.bool false) (H.set b (pB s p a 4 d)))/\(d≠30->C ze [pR b,zJ a] H (.bool true) (H.set b (pB s p 0 0 (d+1:Nat)))))
  (hC1:∀ b s p d e H,H[b]?=some (rP s p (d+1))->p<=s.length->s.length<=200->d<=1000->tok s p=.sign e [41]->C zb [pR b] H (.tup []) (H.set b (rP s e d)))
  (hC2:∀ b s p d H,H[b]?=some (rP s p (d+1))->p<=s.length->s.length<=200->d<=1000->(¬ ∃ e,tok s p=.sign e [41])->C zb [pR b] H (.tup []) (H.set b (pB s (tkE (skip s p) (tok s p):Nat) (skip s p:Nat) 2 d)))
  (hC3:∀ b s (p:Nat) w e d H,H[b]?=some (pB s p w e d)->e≠0->p<=s.length->s.length<=200->C zb [pR b] H (.tup []) (H.set b (pB s (tkE (skip s p) (tok s p):Nat) w e (IntKind.wrap .i64 (d-1)))))
  (b:Nat) (s:Bs) (p d:Nat) (hp:p<=s.length) (hl:s.length<=200) (hd:d<=1000)
  (hOne:∀ a,p<a->a<=s.length->CF C zAL [pR b] b s a (d+1) ((P s).one a (d+1)))
  (hLo:∀ a,p<a->a<=s.length->CF C zX [pR b,.int .i64 1] b s a (d+1) ((P s).loose 1 a (d+1)))
  (hCa:∀ e t,s[e]?=some 40->p<e->t.length<=200->CFd C zCf [pR b,.str t] b s e (d+1) d (zJH s t e (d+1))) :
  EF C GT zQ [pR b] b s p d ((P s).one p d):=by
 rw [P_one d hp];have hn3:∀ H:Heap,(H++[ABlk.box (ndC zZ)]).length=H.length+1:=fun H=>by simp
 have hel:=zKo hp;have htl:=tkT_len hp hl;have hend:=zB3 s p;have go:∀ (k:Tok) (r:AV×ABlk),tok s p=k->(∀ (H H3:Heap) (n3:Nat),n3=H.length+1->OldB H b (rP s p d) H3->H3[b]?=some (rP s p d)->H3[H.length]?=some (.box (ndC zZ))->H3[n3]?=some (.box [zK (tkK k),zK (skip s p),zK (tkE (skip s p) k),.str (tkT k)]) ->
   EW C GT zMj (zKW zQ H b [] .undef (some r)) [(2,pR H.length),(3,pR n3),(0,pR b)] H3)->∀ H,H[b]?=some (rP s p d)->zCr C GT zQ [pR b] H b [] .undef (some r):=fun k r hk h H hb=>by
  refine one_start hT b s p d H hb hp hl _ fun H3 g1 g2 g3 g4=>?_;rw [hk] at g4;exact h H H3 _ (hn3 H) g1 g2 g3 g4
 have fail:∀ k:Tok,tok s p=k->(∀ H:Heap,H[b]?=some (rP s (tkE (skip s p) k) d)->C zc [pR b,zK (skip s p),.int .i64 2] H (.tup []) (H.set b (pB s (tkE (skip s p) k:Nat) (skip s p:Nat) 2 d))):=fun k _ H h=>hF b s _ _ _ _ H h;unfold zB4;cases hk:tok s p with
 |fin=>
  rw [hk] at hel;refine ⟨fun n e h=>(by cases h),fun _=>⟨zZ,_,_,2,_,by decide,hel,go _ _ hk fun H H3 n3 g0 g1 g2 g3 g4=>rone_none 0 b s p d _ _ _ H H3 n3 g0 g1 g2 g3 g4 hl (by decide) (by decide) (by decide) (by decide) (fail _ hk)⟩⟩
 |none=>
  rw [hk] at hel;refine ⟨fun n e h=>(by cases h),fun _=>⟨zZ,_,_,2,_,by decide,hel,go _ _ hk fun H H3 n3 g0 g1 g2 g3 g4=>rone_none 9 b s p d _ _ _ H H3 n3 g0 g1 g2 g3 g4 hl (by decide) (by decide) (by decide) (by decide) (fail _ hk)⟩⟩
 |txt e t=>
  exact ⟨fun n e' h=>by cases h;exact go _ _ hk fun H H3 n3 g0 g1 g2 g3 g4=>rone_txt b s p d _ _ _ H H3 n3 g0 g1 g2 g3 g4 hl,fun h=>by cases h⟩
 |bad e k=>
  have hkk:=tok_bad hk;exact ⟨fun n e' h=>by cases h;exact go _ _ hk fun H H3 n3 g0 g1 g2 g3 g4=>rone_bad b s p d _ _ _ H H3 n3 g0 g1 g2 g3 g4 hl k (fun H=>hNm k H hkk.1 hkk.2),fun h=>by cases h⟩
 |sign e t=>
  rw [hk] at hel hend;have hee:p<e/\e<=s.length:=hend;have hd30:d=30->∀ H:Heap,H[b]?=some (rP s e d)->C ze [pR b,zK (skip s p)] H (.bool false) (H.set b (pB s e (skip s p:Nat) 4 d)):=fun h H hb=>(hD b s e d _ H hb hd).1 h;have hdok:d≠30->∀ H:Heap,H[b]?=some (rP s e d)->C ze [pR b,zK (skip s p)] H (.bool true) (H.set b (rP s e (d+1:Nat))):=fun h H hb=>(hD b s e d _ H hb hd).2 h;by_cases h45:t=[45]
  ·subst h45;show EF C GT zQ [pR b] b s p d (if d=30 then none else ((P s).one e (d+1)).map fun p=>(zDJ p.1,p.2));by_cases h30:d=30
   ·rw [zQQ h30];exact ⟨fun n e h=>(by cases h),fun _=>⟨zZ,_,_,4,_,by decide,hee.2,go _ _ hk fun H H3 n3 g0 g1 g2 g3 g4=>rone_min30 b s p d _ _ _ H H3 n3 g0 g1 g2 g3 g4 hl rfl (hd30 h30)⟩⟩
   rw [zQN h30];have ho:=hOne e hee.1 hee.2;cases hr:(P s).one e (d+1) with
   |some x=>
    obtain ⟨n,e2⟩:=x;exact ⟨fun n' e' h=>by cases h;exact go _ _ hk fun H H3 n3 g0 g1 g2 g3 g4=>rone_minok b s p d _ _ _ H H3 n3 g0 g1 g2 g3 g4 hl rfl n e2 hd (hdok h30) (ho.1 n e2 hr),fun h=>by cases h⟩
   |none=>
    obtain ⟨n,a,w,ee,d',he0,hal,hh⟩:=ho.2 hr;exact ⟨fun n e h=>(by cases h),fun _=>⟨zDJ n,a,w,ee,_,he0,hal,go _ _ hk fun H H3 n3 g0 g1 g2 g3 g4=>rone_minno b s p d _ _ _ H H3 n3 g0 g1 g2 g3 g4 hl rfl n a w ee d' (hdok h30) hh⟩⟩
  by_cases h40:t=[40]
  ·subst h40;show EF C GT zQ [pR b] b s p d (if d=30 then none else ((P s).loose 1 e (d+1)).bind fun p=>match tok s p.2 with
    |.sign e2 [41]=>some (p.1,e2)
    |_=>none)
   by_cases h30:d=30
   ·rw [zQQ h30];exact ⟨fun n e h=>(by cases h),fun _=>⟨zZ,_,_,4,_,by decide,hee.2,go _ _ hk fun H H3 n3 g0 g1 g2 g3 g4=>rone_par30 b s p d _ _ _ H H3 n3 g0 g1 g2 g3 g4 hl rfl h45 (hd30 h30)⟩⟩
   rw [zQN h30];have ho:=hLo e hee.1 hee.2;cases hr:(P s).loose 1 e (d+1) with
   |some x=>
    obtain ⟨n,e2⟩:=x;have hxe:=(zCv s).loose 1 e (d+1) _ hee.2 hr;simp only at hxe;have ho:=ho.1 n e2 hr;by_cases h41:∃ e3,tok s e2=.sign e3 [41]
    ·obtain ⟨e3,h41⟩:=h41;have e0:(match tok s (n,e2).2 with
      |.sign e2 [41]=>some ((n,e2).1,e2)
      |_=>none)=some (n,e3):=by simp only [h41]
     have e0:((some (n,e2)).bind fun p:Nd×Nat=>match tok s p.2 with
      |.sign e2 [41]=>some (p.1,e2)
      |_=>none)=some (n,e3):=by simp only [zRO,h41]
     rw [e0];exact ⟨fun n' e' h=>by cases h;exact go _ _ hk fun H H3 n3 g0 g1 g2 g3 g4=>rone_par b s p d _ _ _ H H3 n3 g0 g1 g2 g3 g4 hl rfl h45 n _ _ (hdok h30) ho (fun H h=>hC1 b s e2 d e3 H h hxe.2 hl hd h41) (fun _=>rfl),fun h=>by cases h⟩
    ·have e0:((some (n,e2)).bind fun p:Nd×Nat=>match tok s p.2 with
      |.sign e2 [41]=>some (p.1,e2)
      |_=>none)=none:=by
      simp only [zRO];split
      ·rename_i e3 hk3;exact absurd ⟨e3,hk3⟩ h41
      ·rfl
     rw [e0];exact ⟨fun n e h=>(by cases h),fun _=>⟨n,_,_,2,_,by decide,zKo hxe.2,go _ _ hk fun H H3 n3 g0 g1 g2 g3 g4=>rone_par b s p d _ _ _ H H3 n3 g0 g1 g2 g3 g4 hl rfl h45 n _ _ (hdok h30) ho (fun H h=>hC2 b s e2 d H h hxe.2 hl hd h41) (fun _=>rfl)⟩⟩
   |none=>
    obtain ⟨n,a,w,ee,d',he0,hal,hh⟩:=ho.2 hr;exact ⟨fun n e h=>(by cases h),fun _=>⟨n,_,w,ee,_,he0,zKo hal,go _ _ hk fun H H3 n3 g0 g1 g2 g3 g4=>rone_par b s p d _ _ _ H H3 n3 g0 g1 g2 g3 g4 hl rfl h45 n _ _ (hdok h30) hh (fun H h=>hC3 b s a w ee d' H h he0 hal hl) (fun _=>rfl)⟩⟩
  ·have main:EF C GT zQ [pR b] b s p d none:=⟨fun n e h=>(by cases h),fun _=>⟨zZ,_,_,2,_,by decide,hee.2,go _ _ hk fun H H3 n3 g0 g1 g2 g3 g4=>rone_sign b s p d _ _ _ H H3 n3 g0 g1 g2 g3 g4 hl h45 h40 (fail _ hk)⟩⟩;split <;> first
    |(rename_i heq;cases heq;done)
    |(rename_i heq;cases heq;exact absurd rfl h45)
    |(rename_i heq;cases heq;exact absurd rfl h40)
    |exact main
 |word e t=>
  rw [hk] at hel hend htl;have hee:p<e/\e<=s.length:=hend;have htl:t.length<=200:=htl;have hd30:d=30->∀ H:Heap,H[b]?=some (rP s e d)->C ze [pR b,zK (skip s p)] H (.bool false) (H.set b (pB s e (skip s p:Nat) 4 d)):=fun h H hb=>(hD b s e d _ H hb hd).1 h;have hdok:d≠30->∀ H:Heap,H[b]?=some (rP s e d)->C ze [pR b,zK (skip s p)] H (.bool true) (H.set b (rP s e (d+1:Nat))):=fun h H hb=>(hD b s e d _ H hb hd).2 h;have hcd:=fun H=>hCd t H tO;have hw:=fun H=>hW t H htl;have hr:=fun H=>hR t H htl;show EF C GT zQ [pR b] b s p d (if zA3 t=true/\s[e]?=some 40 then (if d=30 then none else zJH s t e (d+1)) else (zIe t).map fun n=>(n,e));by_cases hcl:zA3 t=true/\s[e]?=some 40
  ·rw [zQQ hcl];obtain ⟨hc1,hc2⟩:=hcl;rw [hc1] at hcd;by_cases h30:d=30
   ·rw [zQQ h30];exact ⟨fun n e h=>(by cases h),fun _=>⟨zZ,_,_,4,_,by decide,hee.2,go _ _ hk fun H H3 n3 g0 g1 g2 g3 g4=>rone_cal30 b s p d _ _ _ H H3 n3 g0 g1 g2 g3 g4 hl hcd hc2 (hd30 h30)⟩⟩
   rw [zQN h30];have ho:=hCa e t hc2 hee.1 htl;cases hrr:zJH s t e (d+1) with
   |some x=>
    obtain ⟨n,e2⟩:=x;exact ⟨fun n' e' h=>by cases h;exact go _ _ hk fun H H3 n3 g0 g1 g2 g3 g4=>rone_cal b s p d _ _ _ H H3 n3 g0 g1 g2 g3 g4 hl hcd hc2 n _ (hdok h30) (ho.1 n e2 hrr) (fun _=>rfl),fun h=>by cases h⟩
   |none=>
    obtain ⟨n,a,w,ee,d',he0,hal,hh⟩:=ho.2 hrr;exact ⟨fun n e h=>(by cases h),fun _=>⟨n,a,w,ee,d',he0,hal,go _ _ hk fun H H3 n3 g0 g1 g2 g3 g4=>rone_cal b s p d _ _ _ H H3 n3 g0 g1 g2 g3 g4 hl hcd hc2 n _ (hdok h30) hh (fun _=>rfl)⟩⟩
  rw [zQN hcl];have ways:(zA3 t=false)\/(zA3 t=true/\s.length<=e)\/(zA3 t=true/\∃ c,s[e]?=some c/\c.toNat≠40):=by
   cases hb:zA3 t with
   |false=>exact .inl rfl
   |true=>
    by_cases hlt:s.length<=e
    ·exact .inr (.inl ⟨rfl,hlt⟩)
    ·obtain ⟨c,hc⟩:∃ c,s[e]?=some c:=⟨_,zQS tO⟩;exact .inr (.inr ⟨rfl,c,hc,fun h=>hcl ⟨hb,by rw [hc,show c=40 from zQm.1 h]⟩⟩)
  unfold zIe;cases hwp:zCL t with
  |some n=>
   rw [hwp] at hw;have hw:∀ H,C zr [.str t,.bool false] H (.tup [zJ n,.bool true]) H:=hw;refine ⟨fun n' e' h=>?_,fun h=>by cases h⟩;cases h;refine go _ _ hk fun H H3 n3 g0 g1 g2 g3 g4=>?_;rcases ways with hb|⟨hb,hle⟩|⟨hb,c,hc,hc40⟩ <;> rw [hb] at hcd
   ·exact rone_numa b s p d _ _ _ H H3 n3 g0 g1 g2 g3 g4 hl hcd n hw
   ·exact rone_numb b s p d _ _ _ H H3 n3 g0 g1 g2 g3 g4 hl hcd hle n hw
   ·exact rone_numc b s p d _ _ _ H H3 n3 g0 g1 g2 g3 g4 hl hcd c hc hc40 n hw
  |none=>
   rw [hwp] at hw;have hw:∀ H,C zr [.str t,.bool false] H (.tup [zJ 0,.bool false]) H:=hw;simp only;by_cases h1:t=zFz
   ·rw [zQQ h1];refine ⟨fun n' e' h=>?_,fun h=>by cases h⟩;cases h;refine go _ _ hk fun H H3 n3 g0 g1 g2 g3 g4=>?_;rcases ways with hb|⟨hb,hle⟩|⟨hb,c,hc,hc40⟩ <;> rw [hb] at hcd
    ·exact rone_trua b s p d _ _ _ H H3 n3 g0 g1 g2 g3 g4 hl hcd hw h1
    ·exact rone_trub b s p d _ _ _ H H3 n3 g0 g1 g2 g3 g4 hl hcd hle hw h1
    ·exact rone_truc b s p d _ _ _ H H3 n3 g0 g1 g2 g3 g4 hl hcd c hc hc40 hw h1
   rw [zQN h1];by_cases h2:t=zDY
   ·rw [zQQ h2];refine ⟨fun n' e' h=>?_,fun h=>by cases h⟩;cases h;refine go _ _ hk fun H H3 n3 g0 g1 g2 g3 g4=>?_;rcases ways with hb|⟨hb,hle⟩|⟨hb,c,hc,hc40⟩ <;> rw [hb] at hcd
    ·exact rone_fala b s p d _ _ _ H H3 n3 g0 g1 g2 g3 g4 hl hcd hw h1 h2
    ·exact rone_falb b s p d _ _ _ H H3 n3 g0 g1 g2 g3 g4 hl hcd hle hw h1 h2
    ·exact rone_falc b s p d _ _ _ H H3 n3 g0 g1 g2 g3 g4 hl hcd c hc hc40 hw h1 h2
   rw [zQN h2];cases hrp:zE9 t with
   |some x=>
    rw [hrp] at hr;have hr:∀ H,C zm [.str t] H (.tup [.agg [zJ x.col,zJ x.row,.bool x.fc,.bool x.fr],.bool true]) H:=hr;refine ⟨fun n' e' h=>?_,fun h=>by cases h⟩;cases h;refine go _ _ hk fun H H3 n3 g0 g1 g2 g3 g4=>?_;rcases ways with hb|⟨hb,hle⟩|⟨hb,c,hc,hc40⟩ <;> rw [hb] at hcd
    ·exact rone_refa b s p d _ _ _ H H3 n3 g0 g1 g2 g3 g4 hl hcd hw h1 h2 x hr
    ·exact rone_refb b s p d _ _ _ H H3 n3 g0 g1 g2 g3 g4 hl hcd hle hw h1 h2 x hr
    ·exact rone_refc b s p d _ _ _ H H3 n3 g0 g1 g2 g3 g4 hl hcd c hc hc40 hw h1 h2 x hr
   |none=>
    rw [hrp] at hr;have hr:∀ H,C zm [.str t] H (.tup [.agg zP,.bool false]) H:=hr;refine ⟨fun n e h=>(by cases h),fun _=>⟨zZ,e,(skip s p:Nat),2,(d:Nat),by decide,hee.2,go _ _ hk fun H H3 n3 g0 g1 g2 g3 g4=>?_⟩⟩;rcases ways with hb|⟨hb,hle⟩|⟨hb,c,hc,hc40⟩ <;> rw [hb] at hcd
    ·exact rone_wnoa b s p d _ _ _ H H3 n3 g0 g1 g2 g3 g4 hl hcd hw h1 h2 hr (fail _ hk)
    ·exact rone_wnob b s p d _ _ _ H H3 n3 g0 g1 g2 g3 g4 hl hcd hle hw h1 h2 hr (fail _ hk)
    ·exact rone_wnoc b s p d _ _ _ H H3 n3 g0 g1 g2 g3 g4 hl hcd c hc hc40 hw h1 h2 hr (fail _ hk)
end
end Go.AM
set_option maxRecDepth 20000
namespace Go.AM
structure Bd where
 a:Nat
 w:Int
 e:Int
 d:Int
def Bd.ok (s:Bs) (W:Bd):Prop:=W.e≠0/\W.a<=s.length
def Bd.blk (s:Bs) (W:Bd):ABlk:=pB s W.a W.w W.e W.d
def LoF (C:CSpec) (b:Nat) (s:Bs) (d l a:Nat) (W:Bd):Prop:=W.ok s/\∃ n:Nd,∀ H,H[b]?=some (rP s a d)->C zX [pR b,zK l] H (ndV n) (H.set b (W.blk s))
inductive LF (C:CSpec) (b:Nat) (s:Bs) (d l:Nat):Nd->Nat->Bd->Prop where
 |now (n:Nd) (a op e:Nat) (W:Bd) (ho:zH1 s a=some (op,e)) (ht:¬ tight op<l) (h:LoF C b s d (tight op+1) e W):LF C b s d l n a W
 |later (n m:Nd) (a op e e2:Nat) (W:Bd) (ho:zH1 s a=some (op,e)) (ht:¬ tight op<l) (h:(P s).loose (tight op+1) e d=some (m,e2)) (k:LF C b s d l (zAl op n m) e2 W):LF C b s d l n a W
theorem LF.ok {C:CSpec} {b:Nat} {s:Bs} {d l:Nat} {n:Nd} {a:Nat} {W:Bd} (h:LF C b s d l n a W):W.ok s:=by
 induction h with
 |now _ _ _ _ _ _ _ h=>exact h.1
 |later _ _ _ _ _ _ _ _ _ _ _ ih=>exact ih
theorem ll_fail {C:CSpec} {b:Nat} {s:Bs} {d l:Nat} (p:Nat) (hLo:∀ a l',p<a->a<=s.length->CF C zX [pR b,zK l'] b s a d ((P s).loose l' a d)):∀ (k:Nat) (n:Nd) (a:Nat),p<a->a<=s.length->s.length-a<=k->(P s).ll l n a d=none->∃ W,LF C b s d l n a W:=by
 intro k;induction k with
 |zero=>
  intro n a hpa ha hk h;rw [P_ll l n d ha] at h;unfold zOd at h;split at h
  ·cases h
  ·rename_i op e ho;have:=zDi ho;omega
 |succ k ih=>
  intro n a hpa ha hk h;rw [P_ll l n d ha] at h;unfold zOd at h;split at h
  ·cases h
  ·rename_i op e ho;have he:=zDi ho;split at h
   ·cases h
   ·rename_i ht;cases hl:(P s).loose (tight op+1) e d with
    |none=>
     obtain ⟨n',a',w,e',d',h1,h2,h3⟩:=(hLo e (tight op+1) tO he.2).2 hl;exact ⟨⟨a',w,e',d'⟩,.now n a op e _ ho ht ⟨⟨h1,h2⟩,n',h3⟩⟩
    |some q=>
     obtain ⟨m,e2⟩:=q;rw [hl] at h;have hq:=(zCv s).loose _ e d _ he.2 hl;simp only at hq;obtain ⟨W,hW⟩:=ih (zAl op n m) e2 tO hq.2 tO h;exact ⟨W,.later n m a op e e2 W ho ht hl hW⟩
structure LSt where
 m:Nat
 a:Nat
 n:Nd
 x:AV
section
variable {C:CSpec} {GT:Nat->Option AV}
def LoR (C:CSpec) (b:Nat) (s:Bs) (d l:Nat) (n:Nd) (a:Nat) (RV:AV) (RB:ABlk):Prop:=
 (∃ n' e',(P s).ll l n a d=some (n',e')/\RV=ndV n'/\RB=rP s e' d)\/(∃ W:Bd,LF C b s d l n a W/\RV=ndV zZ/\RB=W.blk s)
theorem LoR.stop {b:Nat} {s:Bs} {d l:Nat} {n:Nd} {a:Nat} {RV:AV} {RB:ABlk} (h:LoR C b s d l n a RV RB) (ha:a<=s.length) (ho:∀ op e,zH1 s a=some (op,e)->tight op<l):RV=ndV n/\RB=rP s a d:=by
 rcases h with ⟨n',e',h1,h2,h3⟩|⟨W,hW,_⟩
 ·rw [P_ll l n d ha] at h1;unfold zOd at h1;split at h1
  ·cases h1;exact ⟨h2,h3⟩
  ·rename_i op e hop;rw [zQQ (ho op e hop)] at h1;cases h1;exact ⟨h2,h3⟩
 ·cases hW with
  |now _ _ op e _ hop ht h=>exact absurd (ho _ _ hop) ht
  |later _ m _ op e e2 _ hop ht h k=>exact absurd (ho _ _ hop) ht
theorem LoR.go {b:Nat} {s:Bs} {d l:Nat} {n:Nd} {a op e:Nat} {RV:AV} {RB:ABlk} (h:LoR C b s d l n a RV RB) (ha:a<=s.length) (ho:zH1 s a=some (op,e)) (ht:¬ tight op<l) :
  (∃ m e2,(P s).loose (tight op+1) e d=some (m,e2)/\LoR C b s d l (zAl op n m) e2 RV RB)\/(∃ W:Bd,LoF C b s d (tight op+1) e W/\RV=ndV zZ/\RB=W.blk s):=by
 rcases h with ⟨n',e',h1,h2,h3⟩|⟨W,hW,h2,h3⟩
 ·rw [P_ll l n d ha] at h1;unfold zOd at h1;rw [ho] at h1;simp only at h1;rw [zQN ht,zQ0] at h1;obtain ⟨⟨m,e2⟩,h4,h5⟩:=h1;exact .inl ⟨m,e2,h4,.inl ⟨n',e',h5,h2,h3⟩⟩
 ·cases hW with
  |now _ _ op' e' _ ho' ht' h=>rw [ho] at ho';cases ho';exact .inr ⟨W,h,h2,h3⟩
  |later _ m _ op' e' e2 _ ho' ht' h k=>rw [ho] at ho';cases ho';exact .inl ⟨m,e2,h,.inr ⟨W,k,h2,h3⟩⟩
set_option maxHeartbeats 8000000 in
theorem rloose_ev (hT:∀ s a H,a<=s.length->s.length<=1000->C zY [.str s,zK a] H (tkV s a) H)
  (hSg:∀ t H,C zDK [.str t] H (zK (zCA t)) H) (hTi:∀ op H,op<=1000->C zAg [zK op] H (zK (tight op)) H)
  (b:Nat) (s:Bs) (p d l:Nat) (hp:p<=s.length) (hl:s.length<=200)
  (hLo:∀ a l' m e,p<a->a<=s.length->(P s).loose l' a d=some (m,e)->∀ H,H[b]?=some (rP s a d)->C zX [pR b,zK l'] H (ndV m) (H.set b (rP s e d)))
  (n0:Nd) (e0:Nat) (hpe:p<e0) (hel:e0<=s.length) (RV:AV) (RB:ABlk) (hRB:∀ k,zHT k RB=true) (hRV:∃ n',RV=ndV n') (hR:LoR C b s d l n0 e0 RV RB)
  (H:Heap) (hb:H[b]?=some (rP s p d)) (ho:∀ H,H[b]?=some (rP s p d)->C zAL [pR b] H (ndV n0) (H.set b (rP s e0 d))) :
  zCr C GT zCI [pR b,zK l] H b [] .undef (some (RV,RB)):=by
 have hbl:b<H.length:=(zg hb).1;have hT:=fun a H h=>hT s a H h tO;obtain ⟨n',rfl⟩:=hRV;refine zAH ?_;clear hp;refine sX ?_;refine sSA (ndV n0) ?_;refine zBB (fun st:LSt=>[(4,pR H.length),(5,pR st.m),(0,pR b),(1,zK l)])
  (fun st H'=>(st.m=H.length+1/\H'[H.length]?=some (.box (ndC zZ))/\H'[H.length+1]?=some (.box (ndX st.n st.x))/\NdO H H' st.n st.x) /\
   ((OldB H b (rP s st.a d) H'/\H'[b]?=some (rP s st.a d)/\st.a<=s.length/\p<st.a/\LoR C b s d l st.n st.a (ndV n') RB)\/(∃ W:Bd,W.ok s/\OldB H b (W.blk s) H'/\H'[b]?=some (W.blk s)/\ndV n'=ndV zZ/\RB=W.blk s/\st.a=s.length+1)))
  (fun st=>s.length+1-st.a) ⟨_,e0,n0,.lst (some n0.kq) n0.kk (kxs n0)⟩ rfl ⟨⟨(by simp),hP,(by rw [show H.length+1=((H++[ABlk.box (ndC zZ)]).set b (rP s e0 d)).length from by simp];exact hP),.inl rfl⟩,.inl ⟨((((((OldB.start hb).push _).setB _).push _).set (by simp) _)),hP,hel,hpe,hR⟩⟩ (fun ⟨m,a,n,x⟩ H1 ⟨⟨hm,h4,h5,hnd⟩,hst⟩=>?_)
 dsimp only at hm h4 h5 hnd hst ⊢;subst hm;clear ho hR hb hpe hel;have h5l:=(zg h5).1;rcases hst with ⟨hob,hb1,ha,hpa,hR⟩|⟨W,hW,hob,hb1,hv,hB,hae⟩
 case inr=>
  have hb1':H1[b]?=some (.box [.str s,zJ W.a,zJ W.w,zJ W.e,zJ W.d]):=hb1;have hwe:=hW.1;rw [hv,hB];clear hLo hT hSg hTi;refine zA (zJ W.e) hb1' rfl<|zk (tN hwe)<|sX ?_;refine sSA (.agg (zN 0 0 [])) ?_
  exact zAF (o:=0) (ndV zZ) rfl rfl rfl (zH hP) rfl rfl rfl hO rfl
 have htk:=fun H=>hT a H ha;rw [zG6] at htk;have hnd1:=hnd.push (ABlk.box zV4);clear hT;have hle:=zKo ha;by_cases hsg:∃ e t,tok s a=.sign e t
 ·obtain ⟨e,t,hk⟩:=hsg;have hoa:zH1 s a=if zCA t=0 then none else some (zCA t,e):=by unfold zH1;rw [hk]
  rw [hk] at htk hle;have hle:e<=s.length:=hle;have htk:∀ H,C zY [.str s,zK a] H (kV 4 (skip s a) e t) H:=htk;have hs:=fun H=>hSg t H;have hop:zCA t<=11:=by unfold zCA;repeat' (first|omega|split)
  have hti:=fun H=>hTi (zCA t) H tO;clear hSg hTi;by_cases h0:zCA t=0
  ·obtain ⟨rv,rb⟩:=hR.stop ha (fun op e' h=>by rw [hoa,zQQ h0] at h;cases h);rw [rv,rb];rw [h0] at hs;clear hti hLo;generalize skip s a=q at *;refine sX ?_;refine zHB ?_ ?_
   all_goals
    refine zM (htk _)<|sSA (kV 4 q e t) ?_;refine zA (zK 4) hP rfl<|zD<|zA (AV.str t) hP rfl<|zM (hs _)<|zD<|zD<|zD<|zA (.agg (ndX n x)) hP rfl<|zL (v:=.agg (ndX n x)) (ndX n x) hP rfl hnd.one rfl rfl ?_
    obtain ⟨H4,hz,hl4',hbx,hol⟩:=(((hnd.push (ABlk.box [AV.int .i64 0,.int .i64 0,.int .i64 0,.str []])).set zB (.box (kV 4 q e t).cells)).set (b:=H.length) (cs:=ndC zZ) hP (.box (ndX n x))).frz H.length (zQU _);exact zAF (o:=0) (.agg (ndX n x)) rfl rfl rfl (zH hP) rfl hz (zJv _ _) ⟨hbl,hol hbl (((hob.push _).set tO _).set (zQU _) _).old⟩ rfl
  ·rw [zQN h0] at hoa;by_cases hti2:tight (zCA t)<l
   ·obtain ⟨rv,rb⟩:=hR.stop ha (fun op e' h=>by rw [hoa] at h;cases h;exact hti2);rw [rv,rb];clear hLo;generalize skip s a=q at *;generalize tight (zCA t)=ti at *;refine sX ?_;refine zHB ?_ ?_
    all_goals
     refine zM (htk _)<|sSA (kV 4 q e t) ?_;refine zA (zK 4) hP rfl<|zp tT<|zA (AV.str t) hP rfl<|zM (hs _)<|zk tN<|zM (hti _)<|zG<|zp tT<|zA (.agg (ndX n x)) hP rfl<|zL (v:=.agg (ndX n x)) (ndX n x) hP rfl hnd.one rfl rfl ?_
     obtain ⟨H4,hz,hl4',hbx,hol⟩:=(((hnd.push (ABlk.box [AV.int .i64 0,.int .i64 0,.int .i64 0,.str []])).set zB (.box (kV 4 q e t).cells)).set (b:=H.length) (cs:=ndC zZ) hP (.box (ndX n x))).frz H.length (zQU _);exact zAF (o:=0) (.agg (ndX n x)) rfl rfl rfl (zH hP) rfl hz (zJv _ _) ⟨hbl,hol hbl (((hob.push _).set tO _).set (zQU _) _).old⟩ rfl
   ·have hae:=zDi hoa;have htl:=tight_le (zCA t);rcases hR.go ha hoa hti2 with ⟨m2,e2,hl2,hR2⟩|⟨W,⟨hW,nw,hlo⟩,hv,hB⟩
    ·have hx:=(zCv s).loose _ e d _ hle hl2;simp only at hx;have hlo:=hLo e (tight (zCA t)+1) m2 e2 tO hle hl2;clear hLo hR;generalize skip s a=q at *;generalize hgt:tight (zCA t)=ti at *;refine sX ?_;refine zHB ?_ ?_
     all_goals
      refine zM (htk _)<|sSA (kV 4 q e t) ?_;refine sX ?_;refine sS (zK e) [AV.str s,zK e,zJ 0,zJ 0,zJ ↑d] ?_;refine sX ?_;refine zS (r:=ti+1) rfl tO<|sX ?_;refine sSA (ndV m2) ?_;refine sX ?_
      have hndA:=(((((hnd.push (ABlk.box [AV.int .i64 0,.int .i64 0,.int .i64 0,.str []])).set zB (.box (kV 4 q e t).cells)).set (b:=b) (cs:=[.str s,zJ a,zJ 0,zJ 0,zJ d]) hP (rP s e d)).set (b:=b) (cs:=[.str s,zJ e,zJ 0,zJ 0,zJ d]) hP (rP s e2 d)).push (ABlk.box (ndC zZ))).set zB (.box (ndC m2));have hoA:OldB H b (rP s e2 d) _:=((((((hob.push [ABlk.box [AV.int .i64 0,.int .i64 0,.int .i64 0,.str []]]).set (c:=H1.length) tO (.box (kV 4 q e t).cells)).setB (rP s e d)).setB (rP s e2 d)).push [ABlk.box (ndC zZ)]).set (c:=((((H1++[ABlk.box [AV.int .i64 0,.int .i64 0,.int .i64 0,.str []]]).set H1.length (.box (kV 4 q e t).cells)).set b (rP s e d)).set b (rP s e2 d)).length) (by simp;omega) (.box (ndC m2)));obtain ⟨H4,hz,hl4',hbx,hol⟩:=hndA.frz 0 (zRG _);have hz2:=zHc hz (show zLP 0 [ndV m2] H4=some ([ndV m2],H4) from rfl);have hb4:=hbx b [.str s,zJ e2,zJ 0,zJ 0,zJ d] hP;have h44:=hbx H.length (ndC zZ) hP;have h54:=hbx (H.length+1) (ndX n x) hP;have h54l:=(zg h54).1;have hob4:OldB H b (rP s e2 d) H4:=⟨hbl,hol hbl hoA.old⟩;clear hbx hol hz hndA hoA;refine zGm [ndV n,ndV m2] H4 hz2 rfl<|sX ?_;refine sS (.agg (ndX (zAl (zCA t) n m2) (.sl (some false) H4.length 12 0 2))) (ndX (zAl (zCA t) n m2) (.sl (some false) H4.length 12 0 2)) ?_;refine zAP (LSt.mk (H.length+1) e2 (zAl (zCA t) n m2) (.sl (some false) H4.length 12 0 2)) rfl ⟨⟨rfl,hP,hP,.inr ⟨zCA t,n,m2,H4.length,rfl,rfl,hP,by omega⟩⟩,.inl ⟨(hob4.push _).set tO _,hP,hx.2,by simp only;omega,hR2⟩⟩ (by simp only;omega)
    ·clear hLo hR;rw [hv,hB];generalize skip s a=q at *;generalize hgt:tight (zCA t)=ti at *;refine sX ?_;refine zHB ?_ ?_
     all_goals
      refine zM (htk _)<|sSA (kV 4 q e t) ?_;refine sX ?_;refine sS (zK e) [AV.str s,zK e,zJ 0,zJ 0,zJ ↑d] ?_;refine sX ?_;refine zS (r:=ti+1) rfl tO<|sX ?_;refine sSA (ndV nw) ?_;refine sX ?_
      have hndA:=(((((hnd.push (ABlk.box [AV.int .i64 0,.int .i64 0,.int .i64 0,.str []])).set zB (.box (kV 4 q e t).cells)).set (b:=b) (cs:=[.str s,zJ a,zJ 0,zJ 0,zJ d]) hP (rP s e d)).set (b:=b) (cs:=[.str s,zJ e,zJ 0,zJ 0,zJ d]) hP (W.blk s)).push (ABlk.box (ndC zZ))).set zB (.box (ndC nw));have hoA:OldB H b (W.blk s) _:=((((((hob.push [ABlk.box [AV.int .i64 0,.int .i64 0,.int .i64 0,.str []]]).set (c:=H1.length) tO (.box (kV 4 q e t).cells)).setB (rP s e d)).setB (W.blk s)).push [ABlk.box (ndC zZ)]).set (c:=((((H1++[ABlk.box [AV.int .i64 0,.int .i64 0,.int .i64 0,.str []]]).set H1.length (.box (kV 4 q e t).cells)).set b (rP s e d)).set b (W.blk s)).length) (by simp;omega) (.box (ndC nw)));obtain ⟨H4,hz,hl4',hbx,hol⟩:=hndA.frz 0 (zRG _);have hz2:=zHc hz (show zLP 0 [ndV nw] H4=some ([ndV nw],H4) from rfl);have hb4:=hbx b [.str s,zJ W.a,zJ W.w,zJ W.e,zJ W.d] hP;have h44:=hbx H.length (ndC zZ) hP;have h54:=hbx (H.length+1) (ndX n x) hP;have h54l:=(zg h54).1;have hob4:OldB H b (W.blk s) H4:=⟨hbl,hol hbl hoA.old⟩;clear hbx hol hz hndA hoA;refine zGm [ndV n,ndV nw] H4 hz2 rfl<|sX ?_;refine sS (.agg (ndX (zAl (zCA t) n nw) (.sl (some false) H4.length 12 0 2))) (ndX (zAl (zCA t) n nw) (.sl (some false) H4.length 12 0 2)) ?_;refine zAP (LSt.mk (H.length+1) (s.length+1) (zAl (zCA t) n nw) (.sl (some false) H4.length 12 0 2)) rfl ⟨⟨rfl,hP,hP,.inr ⟨zCA t,n,nw,H4.length,rfl,rfl,hP,by omega⟩⟩,.inr ⟨W,hW,(hob4.push _).set tO _,hP,rfl,rfl,rfl⟩⟩ (by simp only;omega)
 ·have hk4:tkK (tok s a)≠4:=fun h=>by
   cases hk:tok s a <;> rw [hk] at h <;> simp only [tkK] at h
   all_goals first|omega|exact hsg ⟨_,_,hk⟩
  obtain ⟨rv,rb⟩:=hR.stop ha (fun op e' h=>by
   unfold zH1 at h;split at h
   ·rename_i e t hk;exact absurd ⟨e,t,hk⟩ hsg
   ·cases h)
  rw [rv,rb];clear hLo hSg hTi;generalize tkE (skip s a) (tok s a)=ee at *;generalize tkK (tok s a)=kk at *;generalize tkT (tok s a)=t at *;generalize skip s a=q at *;refine sX ?_;refine zHB ?_ ?_
  all_goals
   refine zM (htk _) ?_;refine sSA (kV kk q ee t) ?_;refine sW ?_;refine zL (v:=.agg (ndX n x)) (ndX n x) hP rfl hnd.one rfl rfl ?_;obtain ⟨H4,hz,hl4',hbx,hol⟩:=(((hnd.push (ABlk.box [AV.int .i64 0,.int .i64 0,.int .i64 0,.str []])).set zB (.box (kV kk q ee t).cells)).set (b:=H.length) (cs:=ndC zZ) hP (.box (ndX n x))).frz H.length (zQU _);exact zAF (o:=0) (.agg (ndX n x)) rfl rfl rfl (zH hP) rfl hz (zJv _ _) ⟨hbl,hol hbl (((hob.push _).set tO _).set (zQU _) _).old⟩ rfl
end
end Go.AM
