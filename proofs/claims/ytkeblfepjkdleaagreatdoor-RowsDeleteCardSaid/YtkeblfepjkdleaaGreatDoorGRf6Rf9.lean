/- Several texts of mine in one (Rf6, Rf7, Rf4, Rf8, Rf9). Own work. -/
import Derived.Test.YtkeblfepjkdleaaGreatDoorGAm30Fp1
import Derived.Test.YtkeblfepjkdleaaGreatDoorGRf5Rf3
set_option maxHeartbeats 8000000
set_option maxRecDepth 20000
set_option linter.all false
namespace Go.AM
def CF (C:CSpec) (f:Nat) (args:List AV) (b:Nat) (s:Bs) (p d:Nat) (r:Option (Nd×Nat)):Prop:=
 (∀ n e,r=some (n,e)->∀ H,H[b]?=some (rP s p d)->C f args H (ndV n) (H.set b (rP s e d))) /\
 (r=none->∃ (n:Nd) (a:Nat) (w e d':Int),e≠0/\a<=s.length/\∀ H,H[b]?=some (rP s p d)->C f args H (ndV n) (H.set b (pB s a w e d')))
def EF (C:CSpec) (GT:zG_) (F:AF) (args:List AV) (b:Nat) (s:Bs) (p d:Nat) (r:Option (Nd×Nat)):Prop:=
 (∀ n e,r=some (n,e)->∀ H,H[b]?=some (rP s p d)->zCw C GT F args H b [] .undef (some (ndV n,rP s e d))) /\
 (r=none->∃ (n:Nd) (a:Nat) (w e d':Int),e≠0/\a<=s.length/\∀ H,H[b]?=some (rP s p d)->zCw C GT F args H b [] .undef (some (ndV n,pB s a w e d')))
section
variable {H H1:Heap} {b:Nat} (h:∃ B,OldB H b B H1)
include H H1 b h
theorem OldB.setE (B':ABlk):OldB H b B' (H1.set b B'):=h.elim fun _ h=>h.setB B'
theorem zXQ (x:List ABlk):∃ B,OldB H b B (H1++x):=h.imp fun _ h=>h.push x
theorem zbQ {c:Nat} (hc:H.length<=c) (x:ABlk):∃ B,OldB H b B (H1.set c x):=h.imp fun _ h=>h.set hc x
theorem zXR (B':ABlk):∃ B,OldB H b B (H1.set b B'):=h.elim fun _ h=>⟨_,h.setB B'⟩
end
abbrev zMy:AC:=zJB.behind 2
section
variable {C:CSpec} {GT:zG_}
theorem zbR (hT:∀ s a H,a<=s.length->s.length<=1000->C zY [.str s,zK a] H (tkV s a) H)
  (b:Nat) (s:Bs) (p d:Nat) (H:Heap) (hb:H[b]?=some (rP s p d)) (hp:p<=s.length) (hl:s.length<=200) (r:Option (AV×ABlk))
  (h:∀ H3,OldB H b (rP s p d) H3->H3[b]?=some (rP s p d)->H3[H.length]?=some (.box (ndC zZ))->H3[(H++[ABlk.box (ndC zZ)]).length]?=some (.box [zK (tkK (tok s p)),zK (skip s p),zK (tkE (skip s p) (tok s p)),.str (tkT (tok s p))]) ->
   EW C GT zMy (zKo zQ H b [] .undef r) [(2,pR H.length),(3,pR (H++[ABlk.box (ndC zZ)]).length),(0,pR b)] H3) :
  zCw C GT zQ [pR b] H b [] .undef r:=by
 have hbl:=zl_ hb;have ht:=fun H=>hT s p H hp tO;rw [zHI] at ht;clear hT;generalize tkE (skip s p) (tok s p)=ee at *;generalize tkK (tok s p)=kk at *;generalize tkT (tok s p)=t at *;generalize skip s p=q at *;refine zAJ<|sW ?_
 have ho:OldB H b (rP s p d) (((H++[ABlk.box (ndC zZ)])++[ABlk.box zV4]).set (H++[ABlk.box (ndC zZ)]).length (.box [zK kk,zK q,zK ee,.str t])):=((((OldB.start hb).push _).push _).set zS_ _);have key:=h _ ho hP hP hP;refine zHN ?_ ?_
 all_goals
  refine sW ?_;refine sS (kV kk q ee t) [zK kk,zK q,zK ee,.str t] ?_;exact key
section
variable (b:Nat) (s:Bs) (p d q e:Nat) (t:Bs) (H H3:Heap) (n3:Nat) (hn3:n3=H.length+1) (hob:OldB H b (rP s p d) H3) (hb3:H3[b]?=some (rP s p d)) (h2:H3[H.length]?=some (.box (ndC zZ)))
include b s p d q e t H H3 n3 hn3 hob hb3 h2
theorem ze3 (h3:H3[n3]?=some (.box [zK 2,zK q,zK e,.str t])) (hl:s.length<=200) :
  EW C GT zMy (zKo zQ H b [] .undef (some (ndV (zHd t),rP s e d))) [(2,pR H.length),(3,pR n3),(0,pR b)] H3:=by
 have hbl:=hob.lt;have hn3l:=(zl_ h3);refine sW ?_;refine sS (zK e) [.str s,zK e,zH 0,zH 0,zH ↑d] ?_;refine sW ?_;refine sSA (.agg (zN 2 0 t)) ?_
 all_goals exact zAH (o:=0) (ndV (zHd t)) rfl rfl rfl (zI hP) rfl rfl rfl hO rfl
theorem ze4 (h3:H3[n3]?=some (.box [zK 3,zK q,zK e,.str t])) (hl:s.length<=200) (k:Nat) (hnm:∀ H,C zCl [.str t] H (.tup [.agg [.int .i64 4,zK k,.str []],.bool true]) H) :
  EW C GT zMy (zKo zQ H b [] .undef (some (ndV (zHg k),rP s e d))) [(2,pR H.length),(3,pR n3),(0,pR b)] H3:=by
 have hbl:=hob.lt;have hn3l:=(zl_ h3);refine sW ?_;refine sS (zK e) [.str s,zK e,zH 0,zH 0,zH ↑d] ?_;refine sW ?_;refine sSA (.agg [.int .i64 4,zK k,.str []]) ?_;refine sW ?_;refine sSA (.agg [.int .i64 4,zK k,.str [],.int .i64 0,.int .i64 0,.bool false,.bool false,.int .i64 0,.int .i64 0,.bool false,.bool false,.lst (some true) 0 []]) ?_
 all_goals exact zAH (o:=0) (ndV (zHg k)) rfl rfl rfl (zI hP) rfl rfl rfl hO rfl
end
theorem zUi (kk:Nat) (b:Nat) (s:Bs) (p d q e:Nat) (t:Bs) (H H3:Heap) (n3:Nat) (hn3:n3=H.length+1) (hob:OldB H b (rP s p d) H3) (hb3:H3[b]?=some (rP s p d)) (h2:H3[H.length]?=some (.box (ndC zZ))) (h3:H3[n3]?=some (.box [zK kk,zK q,zK e,.str t])) (hl:s.length<=200) (h1:kk≠1) (h22:kk≠2) (h33:kk≠3) (h4:kk≠4) (hf:∀ H,H[b]?=some (rP s e d)->C zc [pR b,zK q,.int .i64 2] H (.tup []) (H.set b (pB s e q 2 d))) :
  EW C GT zMy (zKo zQ H b [] .undef (some (ndV zZ,pB s e q 2 d))) [(2,pR H.length),(3,pR n3),(0,pR b)] H3:=by
 have hbl:=hob.lt;have hn3l:=(zl_ h3);refine sW ?_;refine sS (zK e) [.str s,zK e,zH 0,zH 0,zH ↑d] ?_;refine sW ?_;refine sSA (.agg (zN 0 0 [])) ?_
 all_goals exact zAH (o:=0) (ndV zZ) rfl rfl rfl (zI hP) rfl rfl rfl hO rfl
section
variable (b:Nat) (s:Bs) (p d q e:Nat) (t:Bs) (H H3:Heap) (n3:Nat) (hn3:n3=H.length+1) (hob:OldB H b (rP s p d) H3) (hb3:H3[b]?=some (rP s p d)) (h2:H3[H.length]?=some (.box (ndC zZ))) (h3:H3[n3]?=some (.box [zK 4,zK q,zK e,.str t])) (hl:s.length<=200)
include b s p d q e t H H3 n3 hn3 hob hb3 h2 h3 hl
theorem zbS (h45:t≠[45]) (h40:t≠[40]) (hf:∀ H,H[b]?=some (rP s e d)->C zc [pR b,zK q,.int .i64 2] H (.tup []) (H.set b (pB s e q 2 d))) :
  EW C GT zMy (zKo zQ H b [] .undef (some (ndV zZ,pB s e q 2 d))) [(2,pR H.length),(3,pR n3),(0,pR b)] H3:=by
 have hbl:=hob.lt;have hn3l:=(zl_ h3);refine sW ?_;refine sS (zK e) [.str s,zK e,zH 0,zH 0,zH ↑d] ?_;refine sW ?_;refine sSA (.agg (zN 0 0 [])) ?_
 all_goals exact zAH (o:=0) (ndV zZ) rfl rfl rfl (zI hP) rfl rfl rfl hO rfl
theorem zYv (ht:t=[45]) (hd:∀ H,H[b]?=some (rP s e d)->C ze [pR b,zK q] H (.bool false) (H.set b (pB s e q 4 d))) :
  EW C GT zMy (zKo zQ H b [] .undef (some (ndV zZ,pB s e q 4 d))) [(2,pR H.length),(3,pR n3),(0,pR b)] H3:=by
 have hbl:=hob.lt;have hn3l:=(zl_ h3);refine sW ?_;refine sS (zK e) [.str s,zK e,zH 0,zH 0,zH ↑d] ?_;refine sW ?_;refine sSA (.agg (zN 0 0 [])) ?_
 all_goals exact zAH (o:=0) (ndV zZ) rfl rfl rfl (zI hP) rfl rfl rfl hO rfl
theorem zYw (ht:t=[45]) (n:Nd) (e2:Nat) (hdd:d<=1000) (hd:∀ H,H[b]?=some (rP s e d)->C ze [pR b,zK q] H (.bool true) (H.set b (rP s e (d+1:Nat)))) (ho:∀ H,H[b]?=some (rP s e (d+1:Nat))->C zAP [pR b] H (ndV n) (H.set b (rP s e2 (d+1:Nat)))) :
  EW C GT zMy (zKo zQ H b [] .undef (some (ndV (zDO n),rP s e2 d))) [(2,pR H.length),(3,pR n3),(0,pR b)] H3:=by
 have hbl:=hob.lt;have hn3l:=(zl_ h3);refine sW ?_;refine sS (zK e) [.str s,zK e,zH 0,zH 0,zH ↑d] ?_;refine sW ?_;refine sSA (ndV n) ?_;refine sW ?_;refine zS (r:=d) tO tO<|sS (.int .i64 ↑d) [.str s,zH ↑e2,zH 0,zH 0,.int .i64 ↑d] ?_;refine sW ?_;refine zAb (vs':=[ndV n]) rfl rfl<|sW ?_;refine sSA (.agg [.int .i64 7,.int .i64 0,.str [],.int .i64 0,.int .i64 0,.bool false,.bool false,.int .i64 0,.int .i64 0,.bool false,.bool false,.sl (some false) (((((List.set H3 b (ABlk.box [.str s,zK e,zH 0,zH 0,zH ↑d])).set b (rP s e (d+1))).set b (rP s e2 (d+1))++[ABlk.box (zN 0 0 [])]).set (((List.set H3 b (ABlk.box [.str s,zK e,zH 0,zH 0,zH ↑d])).set b (rP s e (d+1))).set b (rP s e2 (d+1))).length (ABlk.box (ndV n).cells)).set b (ABlk.box [.str s,zH ↑e2,zH 0,zH 0,.int .i64 ↑d])).length 12 0 [ndV n].length]) ?_
 all_goals exact zAH (o:=0) (zYc 7 0 [] (.sl (some false) _ 12 0 1)) rfl rfl rfl (zI hP) rfl (zS1 (xs:=[ndV n]) hP tC rfl) rfl hO rfl
theorem zYx (ht:t=[45]) (n:Nd) (a w ee d':Int) (hd:∀ H,H[b]?=some (rP s e d)->C ze [pR b,zK q] H (.bool true) (H.set b (rP s e (d+1:Nat)))) (ho:∀ H,H[b]?=some (rP s e (d+1:Nat))->C zAP [pR b] H (ndV n) (H.set b (pB s a w ee d'))) :
  EW C GT zMy (zKo zQ H b [] .undef (some (ndV (zDO n),pB s a w ee (IntKind.wrap .i64 (d'-1))))) [(2,pR H.length),(3,pR n3),(0,pR b)] H3:=by
 have hbl:=hob.lt;have hn3l:=(zl_ h3);refine sW ?_;refine sS (zK e) [.str s,zK e,zH 0,zH 0,zH ↑d] ?_;refine sW ?_;refine sSA (ndV n) ?_;refine sW ?_;refine zDh rfl<|sS (.int .i64 (IntKind.i64.wrap (d'-1))) [.str s,zH a,zH w,zH ee,.int .i64 (IntKind.i64.wrap (d'-1))] ?_;refine sW ?_;refine zAb (vs':=[ndV n]) rfl rfl<|sW ?_;refine sSA (.agg [.int .i64 7,.int .i64 0,.str [],.int .i64 0,.int .i64 0,.bool false,.bool false,.int .i64 0,.int .i64 0,.bool false,.bool false,.sl (some false) (((((List.set H3 b (ABlk.box [.str s,zK e,zH 0,zH 0,zH ↑d])).set b (rP s e (d+1))).set b (pB s a w ee d')++[ABlk.box (zN 0 0 [])]).set (((List.set H3 b (ABlk.box [.str s,zK e,zH 0,zH 0,zH ↑d])).set b (rP s e (d+1))).set b (pB s a w ee d')).length (ABlk.box (ndV n).cells)).set b (ABlk.box [.str s,zH a,zH w,zH ee,.int .i64 (IntKind.i64.wrap (d'-1))])).length 12 0 [ndV n].length]) ?_
 all_goals exact zAH (o:=0) (zYc 7 0 [] (.sl (some false) _ 12 0 1)) rfl rfl rfl (zI hP) rfl (zS1 (xs:=[ndV n]) hP tC rfl) rfl hO rfl
theorem zYy (ht:t=[40]) (h45:t≠[45]) (hd:∀ H,H[b]?=some (rP s e d)->C ze [pR b,zK q] H (.bool false) (H.set b (pB s e q 4 d))) :
  EW C GT zMy (zKo zQ H b [] .undef (some (ndV zZ,pB s e q 4 d))) [(2,pR H.length),(3,pR n3),(0,pR b)] H3:=by
 have hbl:=hob.lt;have hn3l:=(zl_ h3);refine sW ?_;refine sS (zK e) [.str s,zK e,zH 0,zH 0,zH ↑d] ?_;refine sW ?_;refine sSA (.agg (zN 0 0 [])) ?_
 all_goals exact zAH (o:=0) (ndV zZ) rfl rfl rfl (zI hP) rfl rfl rfl hO rfl
theorem zTC (ht:t=[40]) (h45:t≠[45]) (n:Nd) (B1 B2:ABlk) (hd:∀ H,H[b]?=some (rP s e d)->C ze [pR b,zK q] H (.bool true) (H.set b (rP s e (d+1:Nat)))) (ho:∀ H,H[b]?=some (rP s e (d+1:Nat))->C zX [pR b,.int .i64 1] H (ndV n) (H.set b B1)) (hc:∀ H,H[b]?=some B1->C zb [pR b] H (.tup []) (H.set b B2)) (hB2:∀ k,zHi k B2=true) :
  EW C GT zMy (zKo zQ H b [] .undef (some (ndV n,B2))) [(2,pR H.length),(3,pR n3),(0,pR b)] H3:=by
 have hbl:=hob.lt;have hn3l:=(zl_ h3);refine sW ?_;refine sS (zK e) [.str s,zK e,zH 0,zH 0,zH ↑d] ?_;refine sW ?_;refine sSA (ndV n) ?_;refine sW ?_;refine sSA (ndV n) ?_
 all_goals exact zAH (o:=0) (ndV n) rfl rfl rfl (zI hP) rfl rfl rfl hO (hB2 _)
end
section
variable (b:Nat) (s:Bs) (p d q e:Nat) (t:Bs) (H H3:Heap) (n3:Nat) (hn3:n3=H.length+1) (hob:OldB H b (rP s p d) H3) (hb3:H3[b]?=some (rP s p d)) (h2:H3[H.length]?=some (.box (ndC zZ))) (h3:H3[n3]?=some (.box [zK 1,zK q,zK e,.str t])) (hl:s.length<=200)
include b s p d q e t H H3 n3 hn3 hob hb3 h2 h3 hl
section
variable (hcd:∀ H,C zAB [.str t] H (.bool true) H) (h40:s[e]?=some 40)
include hcd h40
theorem zYz (hd:∀ H,H[b]?=some (rP s e d)->C ze [pR b,zK q] H (.bool false) (H.set b (pB s e q 4 d))) :
  EW C GT zMy (zKo zQ H b [] .undef (some (ndV zZ,pB s e q 4 d))) [(2,pR H.length),(3,pR n3),(0,pR b)] H3:=by
 have hbl:=hob.lt;have hn3l:=(zl_ h3);have hel:=(zl_ h40);refine sW ?_;refine sS (zK e) [.str s,zK e,zH 0,zH 0,zH ↑d] ?_;refine sW ?_;refine sSA (.agg (zN 0 0 [])) ?_
 all_goals exact zAH (o:=0) (ndV zZ) rfl rfl rfl (zI hP) rfl rfl rfl hO rfl
theorem zXS (n:Nd) (B1:ABlk) (hd:∀ H,H[b]?=some (rP s e d)->C ze [pR b,zK q] H (.bool true) (H.set b (rP s e (d+1:Nat)))) (ho:∀ H,H[b]?=some (rP s e (d+1:Nat))->C zCk [pR b,.str t] H (ndV n) (H.set b B1)) (hB1:∀ k,zHi k B1=true) :
  EW C GT zMy (zKo zQ H b [] .undef (some (ndV n,B1))) [(2,pR H.length),(3,pR n3),(0,pR b)] H3:=by
 have hbl:=hob.lt;have hn3l:=(zl_ h3);have hel:=(zl_ h40);refine sW ?_;refine sS (zK e) [.str s,zK e,zH 0,zH 0,zH ↑d] ?_;refine sW ?_;refine sSA (ndV n) ?_
 all_goals exact zAH (o:=0) (ndV n) rfl rfl rfl (zI hP) rfl rfl rfl hO (hB1 _)
end
theorem zbT (hcd:∀ H,C zAB [.str t] H (.bool false) H) (n:Int) (hw:∀ H,C zq [.str t,.bool false] H (.tup [zH n,.bool true]) H) :
  EW C GT zMy (zKo zQ H b [] .undef (some (ndV (zKP n),rP s e d))) [(2,pR H.length),(3,pR n3),(0,pR b)] H3:=by
 have hbl:=hob.lt;have hn3l:=(zl_ h3);refine sW ?_;refine sS (zK e) [.str s,zK e,zH 0,zH 0,zH ↑d] ?_;refine sW ?_;refine sSA (.agg (zN 1 n [])) ?_
 all_goals exact zAH (o:=0) (ndV (zKP n)) rfl rfl rfl (zI hP) rfl rfl rfl hO rfl
section
variable (hcd:∀ H,C zAB [.str t] H (.bool false) H) (hw:∀ H,C zq [.str t,.bool false] H (.tup [zH 0,.bool false]) H)
include hcd hw
theorem zbU (ht:t=[84,82,85,69]) :
  EW C GT zMy (zKo zQ H b [] .undef (some (ndV (zFC true),rP s e d))) [(2,pR H.length),(3,pR n3),(0,pR b)] H3:=by
 have hbl:=hob.lt;have hn3l:=(zl_ h3);refine sW ?_;refine sS (zK e) [.str s,zK e,zH 0,zH 0,zH ↑d] ?_;refine sW ?_;refine sSA (.agg (zN 3 1 [])) ?_
 all_goals exact zAH (o:=0) (ndV (zFC true)) rfl rfl rfl (zI hP) rfl rfl rfl hO rfl
theorem zbV (h1:t≠[84,82,85,69]) (ht:t=[70,65,76,83,69]) :
  EW C GT zMy (zKo zQ H b [] .undef (some (ndV (zFC false),rP s e d))) [(2,pR H.length),(3,pR n3),(0,pR b)] H3:=by
 have hbl:=hob.lt;have hn3l:=(zl_ h3);refine sW ?_;refine sS (zK e) [.str s,zK e,zH 0,zH 0,zH ↑d] ?_;refine sW ?_;refine sSA (.agg (zN 3 0 [])) ?_
 all_goals exact zAH (o:=0) (ndV (zFC false)) rfl rfl rfl (zI hP) rfl rfl rfl hO rfl
theorem zbW (h1:t≠[84,82,85,69]) (h22:t≠[70,65,76,83,69]) (x:RefP) (hr:∀ H,C zm [.str t] H (.tup [.agg [zH x.col,zH x.row,.bool x.fc,.bool x.fr],.bool true]) H) :
  EW C GT zMy (zKo zQ H b [] .undef (some (ndV (zB3 x),rP s e d))) [(2,pR H.length),(3,pR n3),(0,pR b)] H3:=by
 have hbl:=hob.lt;have hn3l:=(zl_ h3);refine sW ?_;refine sS (zK e) [.str s,zK e,zH 0,zH 0,zH ↑d] ?_;refine sW ?_;refine sSA (.agg [zH x.col,zH x.row,.bool x.fc,.bool x.fr]) ?_;refine sW ?_;refine sSA (.agg [.int .i64 5,.int .i64 0,.str [],zH x.col,zH x.row,.bool x.fc,.bool x.fr,.int .i64 0,.int .i64 0,.bool false,.bool false,.lst (some true) 0 []]) ?_
 all_goals exact zAH (o:=0) (ndV (zB3 x)) rfl rfl rfl (zI hP) rfl rfl rfl hO rfl
theorem zbX (h1:t≠[84,82,85,69]) (h22:t≠[70,65,76,83,69]) (hr:∀ H,C zm [.str t] H (.tup [.agg zP,.bool false]) H) (hf:∀ H,H[b]?=some (rP s e d)->C zc [pR b,zK q,.int .i64 2] H (.tup []) (H.set b (pB s e q 2 d))) :
  EW C GT zMy (zKo zQ H b [] .undef (some (ndV zZ,pB s e q 2 d))) [(2,pR H.length),(3,pR n3),(0,pR b)] H3:=by
 have hbl:=hob.lt;have hn3l:=(zl_ h3);refine sW ?_;refine sS (zK e) [.str s,zK e,zH 0,zH 0,zH ↑d] ?_;refine sW ?_;refine sSA (.agg zP) ?_;refine sW ?_;refine sSA (.agg (zN 0 0 [])) ?_
 all_goals exact zAH (o:=0) (ndV zZ) rfl rfl rfl (zI hP) rfl rfl rfl hO rfl
end
theorem zbY (hcd:∀ H,C zAB [.str t] H (.bool true) H) (hel:s.length<=e) (n:Int) (hw:∀ H,C zq [.str t,.bool false] H (.tup [zH n,.bool true]) H) :
  EW C GT zMy (zKo zQ H b [] .undef (some (ndV (zKP n),rP s e d))) [(2,pR H.length),(3,pR n3),(0,pR b)] H3:=by
 have hbl:=hob.lt;have hn3l:=(zl_ h3);refine sW ?_;refine sS (zK e) [.str s,zK e,zH 0,zH 0,zH ↑d] ?_;refine sW ?_;refine sSA (.agg (zN 1 n [])) ?_
 all_goals exact zAH (o:=0) (ndV (zKP n)) rfl rfl rfl (zI hP) rfl rfl rfl hO rfl
section
variable (hcd:∀ H,C zAB [.str t] H (.bool true) H) (hel:s.length<=e) (hw:∀ H,C zq [.str t,.bool false] H (.tup [zH 0,.bool false]) H)
include hcd hel hw
theorem zbZ (ht:t=[84,82,85,69]) :
  EW C GT zMy (zKo zQ H b [] .undef (some (ndV (zFC true),rP s e d))) [(2,pR H.length),(3,pR n3),(0,pR b)] H3:=by
 have hbl:=hob.lt;have hn3l:=(zl_ h3);refine sW ?_;refine sS (zK e) [.str s,zK e,zH 0,zH 0,zH ↑d] ?_;refine sW ?_;refine sSA (.agg (zN 3 1 [])) ?_
 all_goals exact zAH (o:=0) (ndV (zFC true)) rfl rfl rfl (zI hP) rfl rfl rfl hO rfl
theorem zba (h1:t≠[84,82,85,69]) (ht:t=[70,65,76,83,69]) :
  EW C GT zMy (zKo zQ H b [] .undef (some (ndV (zFC false),rP s e d))) [(2,pR H.length),(3,pR n3),(0,pR b)] H3:=by
 have hbl:=hob.lt;have hn3l:=(zl_ h3);refine sW ?_;refine sS (zK e) [.str s,zK e,zH 0,zH 0,zH ↑d] ?_;refine sW ?_;refine sSA (.agg (zN 3 0 [])) ?_
 all_goals exact zAH (o:=0) (ndV (zFC false)) rfl rfl rfl (zI hP) rfl rfl rfl hO rfl
theorem zbb (h1:t≠[84,82,85,69]) (h22:t≠[70,65,76,83,69]) (x:RefP) (hr:∀ H,C zm [.str t] H (.tup [.agg [zH x.col,zH x.row,.bool x.fc,.bool x.fr],.bool true]) H) :
  EW C GT zMy (zKo zQ H b [] .undef (some (ndV (zB3 x),rP s e d))) [(2,pR H.length),(3,pR n3),(0,pR b)] H3:=by
 have hbl:=hob.lt;have hn3l:=(zl_ h3);refine sW ?_;refine sS (zK e) [.str s,zK e,zH 0,zH 0,zH ↑d] ?_;refine sW ?_;refine sSA (.agg [zH x.col,zH x.row,.bool x.fc,.bool x.fr]) ?_;refine sW ?_;refine sSA (.agg [.int .i64 5,.int .i64 0,.str [],zH x.col,zH x.row,.bool x.fc,.bool x.fr,.int .i64 0,.int .i64 0,.bool false,.bool false,.lst (some true) 0 []]) ?_
 all_goals exact zAH (o:=0) (ndV (zB3 x)) rfl rfl rfl (zI hP) rfl rfl rfl hO rfl
theorem zbc (h1:t≠[84,82,85,69]) (h22:t≠[70,65,76,83,69]) (hr:∀ H,C zm [.str t] H (.tup [.agg zP,.bool false]) H) (hf:∀ H,H[b]?=some (rP s e d)->C zc [pR b,zK q,.int .i64 2] H (.tup []) (H.set b (pB s e q 2 d))) :
  EW C GT zMy (zKo zQ H b [] .undef (some (ndV zZ,pB s e q 2 d))) [(2,pR H.length),(3,pR n3),(0,pR b)] H3:=by
 have hbl:=hob.lt;have hn3l:=(zl_ h3);refine sW ?_;refine sS (zK e) [.str s,zK e,zH 0,zH 0,zH ↑d] ?_;refine sW ?_;refine sSA (.agg zP) ?_;refine sW ?_;refine sSA (.agg (zN 0 0 [])) ?_
 all_goals exact zAH (o:=0) (ndV zZ) rfl rfl rfl (zI hP) rfl rfl rfl hO rfl
end
theorem zbd (hcd:∀ H,C zAB [.str t] H (.bool true) H) (c:UInt8) (hc:s[e]?=some c) (hc40:c.toNat≠40) (n:Int) (hw:∀ H,C zq [.str t,.bool false] H (.tup [zH n,.bool true]) H) :
  EW C GT zMy (zKo zQ H b [] .undef (some (ndV (zKP n),rP s e d))) [(2,pR H.length),(3,pR n3),(0,pR b)] H3:=by
 have hbl:=hob.lt;have hn3l:=(zl_ h3);have hel:=(zl_ hc);refine sW ?_;refine sS (zK e) [.str s,zK e,zH 0,zH 0,zH ↑d] ?_;refine sW ?_;refine sSA (.agg (zN 1 n [])) ?_
 all_goals exact zAH (o:=0) (ndV (zKP n)) rfl rfl rfl (zI hP) rfl rfl rfl hO rfl
section
variable (hcd:∀ H,C zAB [.str t] H (.bool true) H) (c:UInt8) (hc:s[e]?=some c) (hc40:c.toNat≠40) (hw:∀ H,C zq [.str t,.bool false] H (.tup [zH 0,.bool false]) H)
include hcd c hc hc40 hw
theorem zbe (ht:t=[84,82,85,69]) :
  EW C GT zMy (zKo zQ H b [] .undef (some (ndV (zFC true),rP s e d))) [(2,pR H.length),(3,pR n3),(0,pR b)] H3:=by
 have hbl:=hob.lt;have hn3l:=(zl_ h3);have hel:=(zl_ hc);refine sW ?_;refine sS (zK e) [.str s,zK e,zH 0,zH 0,zH ↑d] ?_;refine sW ?_;refine sSA (.agg (zN 3 1 [])) ?_
 all_goals exact zAH (o:=0) (ndV (zFC true)) rfl rfl rfl (zI hP) rfl rfl rfl hO rfl
theorem zbf (h1:t≠[84,82,85,69]) (ht:t=[70,65,76,83,69]) :
  EW C GT zMy (zKo zQ H b [] .undef (some (ndV (zFC false),rP s e d))) [(2,pR H.length),(3,pR n3),(0,pR b)] H3:=by
 have hbl:=hob.lt;have hn3l:=(zl_ h3);have hel:=(zl_ hc);refine sW ?_;refine sS (zK e) [.str s,zK e,zH 0,zH 0,zH ↑d] ?_;refine sW ?_;refine sSA (.agg (zN 3 0 [])) ?_
 all_goals exact zAH (o:=0) (ndV (zFC false)) rfl rfl rfl (zI hP) rfl rfl rfl hO rfl
theorem zbg (h1:t≠[84,82,85,69]) (h22:t≠[70,65,76,83,69]) (x:RefP) (hr:∀ H,C zm [.str t] H (.tup [.agg [zH x.col,zH x.row,.bool x.fc,.bool x.fr],.bool true]) H) :
  EW C GT zMy (zKo zQ H b [] .undef (some (ndV (zB3 x),rP s e d))) [(2,pR H.length),(3,pR n3),(0,pR b)] H3:=by
 have hbl:=hob.lt;have hn3l:=(zl_ h3);have hel:=(zl_ hc);refine sW ?_;refine sS (zK e) [.str s,zK e,zH 0,zH 0,zH ↑d] ?_;refine sW ?_;refine sSA (.agg [zH x.col,zH x.row,.bool x.fc,.bool x.fr]) ?_;refine sW ?_;refine sSA (.agg [.int .i64 5,.int .i64 0,.str [],zH x.col,zH x.row,.bool x.fc,.bool x.fr,.int .i64 0,.int .i64 0,.bool false,.bool false,.lst (some true) 0 []]) ?_
 all_goals exact zAH (o:=0) (ndV (zB3 x)) rfl rfl rfl (zI hP) rfl rfl rfl hO rfl
theorem zbh (h1:t≠[84,82,85,69]) (h22:t≠[70,65,76,83,69]) (hr:∀ H,C zm [.str t] H (.tup [.agg zP,.bool false]) H) (hf:∀ H,H[b]?=some (rP s e d)->C zc [pR b,zK q,.int .i64 2] H (.tup []) (H.set b (pB s e q 2 d))) :
  EW C GT zMy (zKo zQ H b [] .undef (some (ndV zZ,pB s e q 2 d))) [(2,pR H.length),(3,pR n3),(0,pR b)] H3:=by
 have hbl:=hob.lt;have hn3l:=(zl_ h3);have hel:=(zl_ hc);refine sW ?_;refine sS (zK e) [.str s,zK e,zH 0,zH 0,zH ↑d] ?_;refine sW ?_;refine sSA (.agg zP) ?_;refine sW ?_;refine sSA (.agg (zN 0 0 [])) ?_
 all_goals exact zAH (o:=0) (ndV zZ) rfl rfl rfl (zI hP) rfl rfl rfl hO rfl
end
end
end
theorem zWH:∀ (l:Bs) (i:Nat) (t:Bs) (e:Nat),quo l i=some (t,e)->t.length<=l.length
 |[],_,_,_,h=>by simp [quo] at h
 |[c],i,t,e,h=>by
  simp only [quo] at h;split at h
  ·simp only [zlJ,zlT] at h;obtain ⟨rfl,_⟩:=h;simp
  ·cases h
 |c::d::r,i,t,e,h=>by
  simp only [quo] at h;split at h
  ·split at h
   ·rw [zlN] at h;obtain ⟨⟨t',e'⟩,h1,h2⟩:=h;simp only [zlT] at h2;have:=zWH r (i+2) t' e' h1;rw [<-h2.1];simp;omega
   ·simp only [zlJ,zlT] at h;obtain ⟨rfl,_⟩:=h;simp
  ·rw [zlN] at h;obtain ⟨⟨t',e'⟩,h1,h2⟩:=h;simp only [zlT] at h2;have:=zWH (d::r) (i+1) t' e' h1;rw [<-h2.1];simp at this ⊢;omega
theorem zgq (l:Bs):∀ (ts:List Bs) (k j n:Nat),zK1 l ts k=some (j,n)->k<=j/\j<k+ts.length
 |[],_,_,_,h=>by simp [zK1] at h
 |t::ts,k,j,n,h=>by
  unfold zK1 at h;split at h
  ·simp only [zlJ,zlT] at h;simp;omega
  ·have:=zgq l ts (k+1) j n h;simp;omega
theorem zbi {s:Bs} {a e k:Nat} (h:tok s a=.bad e k):1<=k/\k<=6:=by
 unfold tok zBk at h;split at h
 ·cases h
 ·split at h
  ·cases h
  ·split at h
   ·split at h <;> cases h
   ·split at h
    ·split at h
     ·rename_i hb;cases h;have:=zgq _ _ _ _ _ hb;have h6:wrongs.length=6:=rfl;omega
     ·cases h
    ·split at h
     ·split at h <;> cases h
     ·cases h
theorem zWI {s:Bs} {a:Nat} (ha:a<=s.length) (hl:s.length<=200):(tkT (tok s a)).length<=200:=by
 cases hk:tok s a with
 |fin=>simp [tkT]
 |none=>simp [tkT]
 |bad e k=>
  have:=zbi hk;obtain ⟨h1,h6⟩:=this;have:∀ j:Fin 7,(wrongs.getD (j.val-1) []).length<=200:=by decide
  exact this ⟨k,by omega⟩
 |word e t=>
  unfold tok zBk at hk;split at hk
  ·cases hk
  ·split at hk
   ·cases hk;simp only [tkT,sub,zla,zlg];omega
   ·split at hk
    ·split at hk <;> cases hk
    ·split at hk
     ·split at hk <;> cases hk
     ·split at hk
      ·split at hk <;> cases hk
      ·cases hk
 |txt e t=>
  unfold tok zBk at hk;split at hk
  ·cases hk
  ·split at hk
   ·cases hk
   ·split at hk
    ·split at hk
     ·rename_i hq;cases hk;have:=zWH _ _ _ _ hq;rw [zlg] at this;simp only [tkT];omega
     ·cases hk
    ·split at hk
     ·split at hk <;> cases hk
     ·split at hk
      ·split at hk <;> cases hk
      ·cases hk
 |sign e t=>
  unfold tok zBk at hk;split at hk
  ·cases hk
  ·split at hk
   ·cases hk
   ·split at hk
    ·split at hk <;> cases hk
    ·split at hk
     ·split at hk <;> cases hk
     ·split at hk
      ·split at hk <;> (cases hk;simp [tkT])
      ·cases hk;simp [tkT]
theorem zbj:∀ k:Fin 7,∀ i:Fin 7,i<k->wrL.getD i.val []≠wrL.getD k.val []:=by decide
section
variable {C:CSpec} {GT:zG_}
theorem zh9 (n:Nat) (H:Heap):EFun C GT zIc [zK n] H (.agg [.int .i64 4,zK n,.str []]) H:=by
 refine zJ ?_;refine zx (v:=[.int .i64 4,zK n,.str []]) rfl<|zL (v:=AV.agg [.int .i64 4,zK n,.str []]) (AV.cells (.agg [.int .i64 4,zK n,.str []])) zB rfl rfl rfl rfl ?_
 exact zAa (o:=0) rfl rfl (zI hP) rfl rfl rfl (((Old.refl _).push _).set tA _)
theorem zbk (hR:∀ H,C zA3 [] H (.lst (some false) 1 (wrL.map AV.str)) H) (hB:∀ n H,C zDB [zK n] H (.agg [.int .i64 4,zK n,.str []]) H)
  (k:Nat) (h1:1<=k) (h6:k<=6) (H:Heap):EFun C GT zGT [.str (wrongs.getD (k-1) [])] H (.tup [.agg [.int .i64 4,zK k,.str []],.bool true]) H:=by
 obtain ⟨t,ht⟩:∃ t,wrongs.getD (k-1) []=t:=⟨_,rfl⟩;have htk:wrL.getD k []=t:=by
  obtain ⟨j,rfl⟩:∃ j,k=j+1:=⟨k-1,by omega⟩;rw [zmO] at ht;exact ht
 have n1:(t==([84,82,85,69]:Bs))=false/\(t==([70,65,76,83,69]:Bs))=false:=by
  have:∀ j:Fin 7,((wrL.getD j.val []==([84,82,85,69]:Bs))=false/\(wrL.getD j.val []==([70,65,76,83,69]:Bs))=false):=by decide
  have:=this ⟨k,by omega⟩;rw [<-htk];exact this
 rw [ht];have hb:=hB k;clear hB;refine zJ ?_;refine zi n1.1<|zG<|zi n1.2<|zM (hR _) ?_
 have hwl:(List.map AV.str wrL).length=7:=rfl;refine zBG (fun i:Nat=>[(2,pR H.length),(5,zK i),(0,.str t),(4,.lst (some false) 1 (wrL.map AV.str))]) (fun i H'=>H'=H++[.box zV3]/\1<=i/\i<=k) (fun i=>k-i) 1 rfl ⟨rfl,by omega,h1⟩ (fun i H1 ⟨e,hi1,hik⟩=>?_);subst e
 try dsimp only
 obtain ⟨u,hu⟩:∃ u,wrL[i]?=some u:=⟨_,zlI (by have:wrL.length=7:=rfl;omega)⟩;have hum:(wrL.map AV.str)[i]?=some (.str u):=by rw [zlQ,hu];rfl
 have hud:wrL.getD i []=u:=by rw [zmJ,hu];rfl
 by_cases hlt:i<k
 ·have hne:u≠t:=by
   have:=zbj ⟨k,by omega⟩ ⟨i,by omega⟩ hlt;rw [<-hud,<-htk];exact this
  clear hb;refine zQq<|zn tT<|zT9 rfl hum<|zA9 (.str u) rfl<|zi (tN hne)<|zS (r:=i+1) rfl tO ?_
  exact zAR (i+1) rfl ⟨rfl,by omega,by omega⟩ tO
 ·have hi:i=k:=by omega
  subst hi;have he:u=t:=by rw [<-hud,<-htk]
  refine zQq<|zn tT<|zT9 rfl hum<|zA9 (.str u) rfl<|zn (tE he)<|zM (hb _) ?_;refine zL (v:=AV.agg [.int .i64 4,zK i,.str []]) (AV.cells (.agg [.int .i64 4,zK i,.str []])) zB rfl rfl rfl rfl ?_
  all_goals exact zr (v:=.agg [.int .i64 4,zK i,.str []]) (v1:=.bool true) (o:=0) rfl rfl (zI hP) rfl rfl rfl rfl (((Old.refl _).push _).set (zlK _) _)
end
def zUj:Option RefP->AV
 |some r=>.tup [.agg [zH r.col,zH r.row,.bool r.fc,.bool r.fr],.bool true]
 |none=>.tup [.agg zP,.bool false]
theorem zRy {s r:Bs} {i:Nat} {c:UInt8} (h:s.drop i=c::r):s[i]?=some c/\s.drop (i+1)=r:=by
 refine ⟨?_, ?_⟩
 ·rw [<-List.head?_drop,h];rfl
 ·rw [<-List.tail_drop,h];rfl
theorem zXT {s:Bs} {i:Nat} {c:UInt8} (h:s[i]?=some c):i<s.length:=(zl_ h)
section
variable {C:CSpec} {GT:zG_} (hW:∀ s H,s.length<=200->C zq [.str s,.bool false] H (zLX (zCQ s)) H) {s t:Bs} {H H1:Heap} {i n4:Nat} (ht:s.drop i=t) (hi:i<=s.length) (hl:s.length<=200) (hn:H.length<n4) (ho:Old H H1) (h2:H1[H.length]?=some (.box zP)) {fc:Bool}
include hW ht hi hl hn ho h2
theorem zTD {x:Int} {fr:Bool} (h4:H1[n4]?=some (.box [.int .i64 x,.int .i64 0,.bool fc,.bool fr])) :
  EW C GT (zId.behind 8) (zaO zDy H (zUj (zd7 fc x (fr,t))) H) [(2,pR H.length),(4,pR n4),(5,zK i),(0,.str s)] H1:=by
 have hw:=fun H=>hW t H (by rw [<-ht,zlg];omega);have hsl:zB9 none (.str s) (some (zK i)) none=some (.str t):=ht ▸ zIv s i hi;have hg2:=(zl_ h2);have hg4:=(zl_ h4);unfold zd7;dsimp only;clear hW;cases hwp:zCQ t with
 |none=>
  rw [hwp] at hw;have hw:∀ H,C zq _ H (.tup [zH 0,.bool false]) H:=hw;refine zx hsl<|zM (hw _)<|zx rfl<|zx rfl ?_;refine zE<|zE<|zE<|zE<|zE<|zx (v:=zP) rfl ?_;refine zL (v:=.agg zP) (AV.cells (.agg zP)) h2 rfl rfl rfl rfl ?_
  all_goals exact zr (v:=.agg zP) (v1:=.bool false) (o:=0) rfl rfl (zI hP) rfl rfl rfl rfl (ho.set (zlK _) _)
 |some n=>
  rw [hwp] at hw;have hw:∀ H,C zq _ H (.tup [zH n,.bool true]) H:=hw;by_cases h:1<=n/\n<=99
  ·simp only [zlF h];refine zx hsl<|zM (hw _)<|zx rfl<|zx rfl ?_;refine zG<|zG<|zi tF<|zG<|zi tF<|zL (v:=zH n) [.int .i64 x,zH n,.bool fc,.bool fr] h4 rfl rfl rfl rfl ?_;refine zA (.agg [.int .i64 x,zH n,.bool fc,.bool fr]) (zU h4) rfl<|zL (v:=AV.agg [.int .i64 x,zH n,.bool fc,.bool fr]) (AV.cells (.agg [.int .i64 x,zH n,.bool fc,.bool fr])) (zC tA h2) rfl rfl rfl rfl ?_
   all_goals exact zr (v:=.agg [zH x,zH n,.bool fc,.bool fr]) (v1:=.bool true) (o:=0) rfl rfl (zI hP) rfl rfl rfl rfl ((ho.set (znx hn) _).set (zlK _) _)
  ·simp only [zlD h];by_cases h1:n<1
   ·refine zx hsl<|zM (hw _)<|zx rfl<|zx rfl ?_;refine zG<|zG<|zn tT<|zE<|zE<|zx (v:=zP) rfl ?_;refine zL (v:=.agg zP) (AV.cells (.agg zP)) h2 rfl rfl rfl rfl ?_
    all_goals exact zr (v:=.agg zP) (v1:=.bool false) (o:=0) rfl rfl (zI hP) rfl rfl rfl rfl (ho.set (zlK _) _)
   ·have h99:99<n:=by omega
    refine zx hsl<|zM (hw _)<|zx rfl<|zx rfl ?_;refine zG<|zG<|zi tF<|zG<|zn tT<|zx (v:=zP) rfl ?_;refine zL (v:=.agg zP) (AV.cells (.agg zP)) h2 rfl rfl rfl rfl ?_
    all_goals exact zr (v:=.agg zP) (v1:=.bool false) (o:=0) rfl rfl (zI hP) rfl rfl rfl rfl (ho.set (zlK _) _)
theorem zTE (h4:H1[n4]?=some (.box [.int .i64 0,.int .i64 0,.bool fc,.bool false])) :
  EW C GT (zId.behind 4) (zaO zDy H (zUj (zTb (fc,t))) H) [(2,pR H.length),(4,pR n4),(0,.str s),(5,zK i)] H1:=by
 have hg2:=(zl_ h2);have hg4:=(zl_ h4);cases t with
 |nil=>
  have hi2:s.length<=i:=by have:=zlR List.length ht;rw [zlg] at this;simp at this;omega
  show EW C GT _ (zaO zDy H (.tup [.agg zP,.bool false]) H) _ _;refine zn tT<|zE<|zE<|zE<|zE<|zx (v:=zP) rfl ?_;refine zL (v:=.agg zP) (AV.cells (.agg zP)) h2 rfl rfl rfl rfl ?_
  all_goals exact zr (v:=.agg zP) (v1:=.bool false) (o:=0) rfl rfl (zI hP) rfl rfl rfl rfl (ho.set (zlK _) _)
 |cons c r=>
  obtain ⟨hc,hr⟩:=zRy ht;have hi2:=zXT hc;have hcn:c.toNat<256:=zms c;by_cases g1:c.toNat<65
  ·have e:zTb (fc,c::r)=none:=zlD fun h=>by unfold zQj at h;simp only [zlG,zlV] at h;omega
   rw [e];refine zi tF<|zCF rfl hc<|zG<|zn tT<|zE<|zE ?_;refine zx (v:=zP) rfl<|zL (v:=.agg zP) (AV.cells (.agg zP)) h2 rfl rfl rfl rfl ?_
   all_goals exact zr (v:=.agg zP) (v1:=.bool false) (o:=0) rfl rfl (zI hP) rfl rfl rfl rfl (ho.set (zlK _) _)
  by_cases g2:90<c.toNat
  ·have e:zTb (fc,c::r)=none:=zlD fun h=>by unfold zQj at h;simp only [zlG,zlV] at h;omega
   rw [e];refine zi tF<|zCF rfl hc<|zG<|zi tF<|zCF rfl hc ?_;refine zG<|zn tT<|zx (v:=zP) rfl<|zL (v:=.agg zP) (AV.cells (.agg zP)) h2 rfl rfl rfl rfl ?_
   all_goals exact zr (v:=.agg zP) (v1:=.bool false) (o:=0) rfl rfl (zI hP) rfl rfl rfl rfl (ho.set (zlK _) _)
  have e:zTb (fc,c::r)=zd7 fc ((c.toNat-64:Nat):Int) (dollar r):=(zlF (by unfold zQj;simp only [zlG,zlV];omega)).trans (by rw [show ((c.toNat-64:Nat):Int)=(c.toNat:Int)-64 by omega]);rw [e];have hq:=fun x=>ho.set (b:=n4) (znx hn) x;cases r with
  |nil=>
   have hi3:s.length<=i+1:=by have:=zlR List.length hr;rw [zlg] at this;simp at this;omega
   have key:=zTD (GT:=GT) hW hr tO hl hn (hq _) (zC tO h2) (fc:=fc) (x:=((c.toNat-64:Nat):Int)) (fr:=false) (zU h4);refine zi tF<|zCF rfl hc<|zG<|zi tF<|zCF rfl hc ?_;refine zG<|zi tF<|zCF rfl hc<|zS (r:=c.toNat) tO tO<|zS (r:=c.toNat-64) tO tO<|zL (v:=.int .i64 ↑(c.toNat-64)) [.int .i64 ↑(c.toNat-64),.int .i64 0,.bool fc,.bool false] h4 rfl rfl rfl rfl ?_;refine zS (r:=i+1) tO tO<|zi tF<|zG<|zG<|zFM rfl key ?_
   rfl
  |cons c2 r2=>
   obtain ⟨hc2,hr2⟩:=zRy hr;have hi3:=zXT hc2;by_cases h36:c2=36
   ·subst h36;have key:=zTD (GT:=GT) hW hr2 tO hl hn ((hq (.box [.int .i64 ((c.toNat-64:Nat):Int),.int .i64 0,.bool fc,.bool false])).set (b:=n4) (znx hn) _) (zC tO (zC tO h2)) (fc:=fc) (x:=((c.toNat-64:Nat):Int)) (fr:=true) (zU (zU h4));refine zi tF<|zCF rfl hc<|zG<|zi tF<|zCF rfl hc ?_;refine zG<|zi tF<|zCF rfl hc<|zS (r:=c.toNat) tO tO<|zS (r:=c.toNat-64) tO tO<|zL (v:=.int .i64 ↑(c.toNat-64)) [.int .i64 ↑(c.toNat-64),.int .i64 0,.bool fc,.bool false] h4 rfl rfl rfl rfl ?_;refine zS (r:=i+1) tO tO<|zn tT<|zCF rfl hc2<|zE<|zE<|zL (v:=AV.bool true) [.int .i64 ↑(c.toNat-64),.int .i64 0,.bool fc,.bool true] (zU h4) rfl rfl rfl rfl ?_
    refine zS (r:=i+1+1) tO tO<|zFM rfl key ?_
    rfl
   ·have h36':c2.toNat≠36:=fun e=>h36 (zlc.1 e);have key:=zTD (GT:=GT) hW hr tO hl hn (hq _) (zC tO h2) (fc:=fc) (x:=((c.toNat-64:Nat):Int)) (fr:=false) (zU h4);rw [show dollar (c2::r2)=(false,c2::r2) by simp [dollar,h36]];refine zi tF<|zCF rfl hc<|zG<|zi tF<|zCF rfl hc ?_;refine zG<|zi tF<|zCF rfl hc<|zS (r:=c.toNat) tO tO<|zS (r:=c.toNat-64) tO tO<|zL (v:=.int .i64 ↑(c.toNat-64)) [.int .i64 ↑(c.toNat-64),.int .i64 0,.bool fc,.bool false] h4 rfl rfl rfl rfl ?_;refine zS (r:=i+1) tO tO<|zn tT<|zCF rfl hc2<|zE<|zi tF<|zFM rfl key ?_
    rfl
end
section
variable {C:CSpec} {GT:zG_}
theorem ziA (hW:∀ s H,s.length<=200->C zq [.str s,.bool false] H (zLX (zCQ s)) H) (s:Bs) (H:Heap) (hl:s.length<=200):EFun C GT zDy [.str s] H (zUj (zFG s)) H:=by
 have h2:((H++[ABlk.box zP])++[ABlk.box zP])[H.length]?=_:=zD zB;have h4:=zB (H:=H++[ABlk.box zP]) (x:=ABlk.box zP);have ho:=((Old.refl H).push [ABlk.box zP]).push [ABlk.box zP];have hn:H.length<(H++[ABlk.box zP]).length:=by simp
 refine zJ ?_;cases s with
 |nil=>
  have key:=zTE (GT:=GT) hW (s:=[]) (t:=[]) (i:=0) (fc:=false) rfl (zlK _) hl hn ho h2 h4;refine zG<|zG<|zG<|zFM rfl key ?_
  rfl
 |cons c r=>
  have hc:(c::r)[0]?=some c:=rfl;have hr:(c::r).length=r.length+1:=rfl;by_cases h36:c=36
  ·subst h36;have key:=zTE (GT:=GT) hW (s:=36::r) (t:=r) (i:=1) (fc:=true) rfl zS_ hl hn (ho.set (znx hn) _) (zC tO h2) (zU h4);rw [show zFG (36::r)=zTb (true,r) by simp [zFG,dollar]];refine zn tT<|zCF rfl hc<|zE<|zE<|zL (v:=AV.bool true) [.int .i64 0,.int .i64 0,.bool true,.bool false] zB rfl rfl rfl rfl<|zS (r:=1) rfl tO ?_
   exact zFM rfl key rfl
  ·have h36':c.toNat≠36:=fun e=>h36 (zlc.1 e);have key:=zTE (GT:=GT) hW (s:=c::r) (t:=c::r) (i:=0) (fc:=false) rfl (zl6 _) hl hn ho h2 h4;rw [show zFG (c::r)=zTb (false,c::r) by simp [zFG,dollar,h36]];refine zn tT<|zCF rfl hc<|zE<|zi tF<|zFM rfl key ?_
   rfl
end
def CFd (C:CSpec) (f:Nat) (args:List AV) (b:Nat) (s:Bs) (p d d2:Nat) (r:Option (Nd×Nat)):Prop:=
 (∀ n e,r=some (n,e)->∀ H,H[b]?=some (rP s p d)->C f args H (ndV n) (H.set b (rP s e d2))) /\
 (r=none->∃ (n:Nd) (a:Nat) (w e d':Int),e≠0/\a<=s.length/\∀ H,H[b]?=some (rP s p d)->C f args H (ndV n) (H.set b (pB s a w e d')))
section
variable {C:CSpec} {GT:zG_}
theorem ziB (hT:∀ s a H,a<=s.length->s.length<=1000->C zY [.str s,zK a] H (tkV s a) H)
  (hCd:∀ s H,s.length<=1000->C zAB [.str s] H (.bool (zA8 s)) H)
  (hW:∀ s H,s.length<=200->C zq [.str s,.bool false] H (zLX (zCQ s)) H)
  (hR:∀ s H,s.length<=200->C zm [.str s] H (zUj (zFG s)) H)
  (hNm:∀ k H,1<=k->k<=6->C zCl [.str (wrongs.getD (k-1) [])] H (.tup [.agg [.int .i64 4,zK k,.str []],.bool true]) H)
  (hF:∀ b s p d a e H,H[b]?=some (pB s p 0 0 d)->C zc [pR b,zH a,zH e] H (.tup []) (H.set b (pB s p a e d)))
  (hD:∀ b s p (d:Nat) a H,H[b]?=some (pB s p 0 0 d)->d<=1000->(d=30->C ze [pR b,zH a] H (.bool false) (H.set b (pB s p a 4 d)))/\(d≠30->C ze [pR b,zH a] H (.bool true) (H.set b (pB s p 0 0 (d+1:Nat)))))
  (hC1:∀ b s p d e H,H[b]?=some (rP s p (d+1))->p<=s.length->s.length<=200->d<=1000->tok s p=.sign e [41]->C zb [pR b] H (.tup []) (H.set b (rP s e d)))
  (hC2:∀ b s p d H,H[b]?=some (rP s p (d+1))->p<=s.length->s.length<=200->d<=1000->(¬ ∃ e,tok s p=.sign e [41])->C zb [pR b] H (.tup []) (H.set b (pB s (tkE (skip s p) (tok s p):Nat) (skip s p:Nat) 2 d)))
  (hC3:∀ b s (p:Nat) w e d H,H[b]?=some (pB s p w e d)->e≠0->p<=s.length->s.length<=200->C zb [pR b] H (.tup []) (H.set b (pB s (tkE (skip s p) (tok s p):Nat) w e (IntKind.wrap .i64 (d-1)))))
  (b:Nat) (s:Bs) (p d:Nat) (hp:p<=s.length) (hl:s.length<=200) (hd:d<=1000)
  (hOne:∀ a,p<a->a<=s.length->CF C zAP [pR b] b s a (d+1) ((P s).one a (d+1)))
  (hLo:∀ a,p<a->a<=s.length->CF C zX [pR b,.int .i64 1] b s a (d+1) ((P s).loose 1 a (d+1)))
  (hCa:∀ e t,s[e]?=some 40->p<e->t.length<=200->CFd C zCk [pR b,.str t] b s e (d+1) d (zJY s t e (d+1))) :
  EF C GT zQ [pR b] b s p d ((P s).one p d):=by
 rw [zRL d hp];have hn3:∀ H:Heap,(H++[ABlk.box (ndC zZ)]).length=H.length+1:=fun H=>by simp
 have hel:=zK5 hp;have htl:=zWI hp hl;have hend:=zB7 s p;have go:∀ (k:Tok) (r:AV×ABlk),tok s p=k->(∀ (H H3:Heap) (n3:Nat),n3=H.length+1->OldB H b (rP s p d) H3->H3[b]?=some (rP s p d)->H3[H.length]?=some (.box (ndC zZ))->H3[n3]?=some (.box [zK (tkK k),zK (skip s p),zK (tkE (skip s p) k),.str (tkT k)]) ->
   EW C GT zMy (zKo zQ H b [] .undef (some r)) [(2,pR H.length),(3,pR n3),(0,pR b)] H3)->∀ H,H[b]?=some (rP s p d)->zCw C GT zQ [pR b] H b [] .undef (some r):=fun k r hk h H hb=>by
  refine zbR hT b s p d H hb hp hl _ fun H3 g1 g2 g3 g4=>?_;rw [hk] at g4;exact h H H3 _ (hn3 H) g1 g2 g3 g4
 have fail:∀ k:Tok,tok s p=k->(∀ H:Heap,H[b]?=some (rP s (tkE (skip s p) k) d)->C zc [pR b,zK (skip s p),.int .i64 2] H (.tup []) (H.set b (pB s (tkE (skip s p) k:Nat) (skip s p:Nat) 2 d))):=fun k _ H h=>hF b s _ _ _ _ H h;unfold zB8;cases hk:tok s p with
 |fin=>
  rw [hk] at hel;refine ⟨fun n e h=>(by cases h),fun _=>⟨zZ,_,_,2,_,by decide,hel,go _ _ hk fun H H3 n3 g0 g1 g2 g3 g4=>zUi 0 b s p d _ _ _ H H3 n3 g0 g1 g2 g3 g4 hl zD_ zD_ zD_ zD_ (fail _ hk)⟩⟩
 |none=>
  rw [hk] at hel;refine ⟨fun n e h=>(by cases h),fun _=>⟨zZ,_,_,2,_,by decide,hel,go _ _ hk fun H H3 n3 g0 g1 g2 g3 g4=>zUi 9 b s p d _ _ _ H H3 n3 g0 g1 g2 g3 g4 hl zD_ zD_ zD_ zD_ (fail _ hk)⟩⟩
 |txt e t=>
  exact ⟨fun n e' h=>by cases h;exact go _ _ hk fun H H3 n3 g0 g1 g2 g3 g4=>ze3 b s p d _ _ _ H H3 n3 g0 g1 g2 g3 g4 hl,fun h=>by cases h⟩
 |bad e k=>
  have hkk:=zbi hk;exact ⟨fun n e' h=>by cases h;exact go _ _ hk fun H H3 n3 g0 g1 g2 g3 g4=>ze4 b s p d _ _ _ H H3 n3 g0 g1 g2 g3 g4 hl k (fun H=>hNm k H hkk.1 hkk.2),fun h=>by cases h⟩
 |sign e t=>
  rw [hk] at hel hend;have hee:p<e/\e<=s.length:=hend;have hd30:d=30->∀ H:Heap,H[b]?=some (rP s e d)->C ze [pR b,zK (skip s p)] H (.bool false) (H.set b (pB s e (skip s p:Nat) 4 d)):=fun h H hb=>(hD b s e d _ H hb hd).1 h;have hdok:d≠30->∀ H:Heap,H[b]?=some (rP s e d)->C ze [pR b,zK (skip s p)] H (.bool true) (H.set b (rP s e (d+1:Nat))):=fun h H hb=>(hD b s e d _ H hb hd).2 h;by_cases h45:t=[45]
  ·subst h45;show EF C GT zQ [pR b] b s p d (if d=30 then none else ((P s).one e (d+1)).map fun p=>(zDO p.1,p.2));by_cases h30:d=30
   ·rw [zlF h30];exact ⟨fun n e h=>(by cases h),fun _=>⟨zZ,_,_,4,_,by decide,hee.2,go _ _ hk fun H H3 n3 g0 g1 g2 g3 g4=>zYv b s p d _ _ _ H H3 n3 g0 g1 g2 g3 g4 hl rfl (hd30 h30)⟩⟩
   rw [zlD h30];have ho:=hOne e hee.1 hee.2;cases hr:(P s).one e (d+1) with
   |some x=>
    obtain ⟨n,e2⟩:=x;exact ⟨fun n' e' h=>by cases h;exact go _ _ hk fun H H3 n3 g0 g1 g2 g3 g4=>zYw b s p d _ _ _ H H3 n3 g0 g1 g2 g3 g4 hl rfl n e2 hd (hdok h30) (ho.1 n e2 hr),fun h=>by cases h⟩
   |none=>
    obtain ⟨n,a,w,ee,d',he0,hal,hh⟩:=ho.2 hr;exact ⟨fun n e h=>(by cases h),fun _=>⟨zDO n,a,w,ee,_,he0,hal,go _ _ hk fun H H3 n3 g0 g1 g2 g3 g4=>zYx b s p d _ _ _ H H3 n3 g0 g1 g2 g3 g4 hl rfl n a w ee d' (hdok h30) hh⟩⟩
  by_cases h40:t=[40]
  ·subst h40;show EF C GT zQ [pR b] b s p d (if d=30 then none else ((P s).loose 1 e (d+1)).bind fun p=>match tok s p.2 with
    |.sign e2 [41]=>some (p.1,e2)
    |_=>none)
   by_cases h30:d=30
   ·rw [zlF h30];exact ⟨fun n e h=>(by cases h),fun _=>⟨zZ,_,_,4,_,by decide,hee.2,go _ _ hk fun H H3 n3 g0 g1 g2 g3 g4=>zYy b s p d _ _ _ H H3 n3 g0 g1 g2 g3 g4 hl rfl h45 (hd30 h30)⟩⟩
   rw [zlD h30];have ho:=hLo e hee.1 hee.2;cases hr:(P s).loose 1 e (d+1) with
   |some x=>
    obtain ⟨n,e2⟩:=x;have hxe:=(zDA s).loose 1 e (d+1) _ hee.2 hr;simp only at hxe;have ho:=ho.1 n e2 hr;by_cases h41:∃ e3,tok s e2=.sign e3 [41]
    ·obtain ⟨e3,h41⟩:=h41;have e0:(match tok s (n,e2).2 with
      |.sign e2 [41]=>some ((n,e2).1,e2)
      |_=>none)=some (n,e3):=by simp only [h41]
     have e0:((some (n,e2)).bind fun p:Nd×Nat=>match tok s p.2 with
      |.sign e2 [41]=>some (p.1,e2)
      |_=>none)=some (n,e3):=by simp only [zmF,h41]
     rw [e0];exact ⟨fun n' e' h=>by cases h;exact go _ _ hk fun H H3 n3 g0 g1 g2 g3 g4=>zTC b s p d _ _ _ H H3 n3 g0 g1 g2 g3 g4 hl rfl h45 n _ _ (hdok h30) ho (fun H h=>hC1 b s e2 d e3 H h hxe.2 hl hd h41) (fun _=>rfl),fun h=>by cases h⟩
    ·have e0:((some (n,e2)).bind fun p:Nd×Nat=>match tok s p.2 with
      |.sign e2 [41]=>some (p.1,e2)
      |_=>none)=none:=by
      simp only [zmF];split
      ·rename_i e3 hk3;exact absurd ⟨e3,hk3⟩ h41
      ·rfl
     rw [e0];exact ⟨fun n e h=>(by cases h),fun _=>⟨n,_,_,2,_,by decide,zK5 hxe.2,go _ _ hk fun H H3 n3 g0 g1 g2 g3 g4=>zTC b s p d _ _ _ H H3 n3 g0 g1 g2 g3 g4 hl rfl h45 n _ _ (hdok h30) ho (fun H h=>hC2 b s e2 d H h hxe.2 hl hd h41) (fun _=>rfl)⟩⟩
   |none=>
    obtain ⟨n,a,w,ee,d',he0,hal,hh⟩:=ho.2 hr;exact ⟨fun n e h=>(by cases h),fun _=>⟨n,_,w,ee,_,he0,zK5 hal,go _ _ hk fun H H3 n3 g0 g1 g2 g3 g4=>zTC b s p d _ _ _ H H3 n3 g0 g1 g2 g3 g4 hl rfl h45 n _ _ (hdok h30) hh (fun H h=>hC3 b s a w ee d' H h he0 hal hl) (fun _=>rfl)⟩⟩
  ·have main:EF C GT zQ [pR b] b s p d none:=⟨fun n e h=>(by cases h),fun _=>⟨zZ,_,_,2,_,by decide,hee.2,go _ _ hk fun H H3 n3 g0 g1 g2 g3 g4=>zbS b s p d _ _ _ H H3 n3 g0 g1 g2 g3 g4 hl h45 h40 (fail _ hk)⟩⟩;split <;> first
    |(rename_i heq;cases heq;done)
    |(rename_i heq;cases heq;exact absurd rfl h45)
    |(rename_i heq;cases heq;exact absurd rfl h40)
    |exact main
 |word e t=>
  rw [hk] at hel hend htl;have hee:p<e/\e<=s.length:=hend;have htl:t.length<=200:=htl;have hd30:d=30->∀ H:Heap,H[b]?=some (rP s e d)->C ze [pR b,zK (skip s p)] H (.bool false) (H.set b (pB s e (skip s p:Nat) 4 d)):=fun h H hb=>(hD b s e d _ H hb hd).1 h;have hdok:d≠30->∀ H:Heap,H[b]?=some (rP s e d)->C ze [pR b,zK (skip s p)] H (.bool true) (H.set b (rP s e (d+1:Nat))):=fun h H hb=>(hD b s e d _ H hb hd).2 h;have hcd:=fun H=>hCd t H tO;have hw:=fun H=>hW t H htl;have hr:=fun H=>hR t H htl;show EF C GT zQ [pR b] b s p d (if zA8 t=true/\s[e]?=some 40 then (if d=30 then none else zJY s t e (d+1)) else (zIu t).map fun n=>(n,e));by_cases hcl:zA8 t=true/\s[e]?=some 40
  ·rw [zlF hcl];obtain ⟨hc1,hc2⟩:=hcl;rw [hc1] at hcd;by_cases h30:d=30
   ·rw [zlF h30];exact ⟨fun n e h=>(by cases h),fun _=>⟨zZ,_,_,4,_,by decide,hee.2,go _ _ hk fun H H3 n3 g0 g1 g2 g3 g4=>zYz b s p d _ _ _ H H3 n3 g0 g1 g2 g3 g4 hl hcd hc2 (hd30 h30)⟩⟩
   rw [zlD h30];have ho:=hCa e t hc2 hee.1 htl;cases hrr:zJY s t e (d+1) with
   |some x=>
    obtain ⟨n,e2⟩:=x;exact ⟨fun n' e' h=>by cases h;exact go _ _ hk fun H H3 n3 g0 g1 g2 g3 g4=>zXS b s p d _ _ _ H H3 n3 g0 g1 g2 g3 g4 hl hcd hc2 n _ (hdok h30) (ho.1 n e2 hrr) (fun _=>rfl),fun h=>by cases h⟩
   |none=>
    obtain ⟨n,a,w,ee,d',he0,hal,hh⟩:=ho.2 hrr;exact ⟨fun n e h=>(by cases h),fun _=>⟨n,a,w,ee,d',he0,hal,go _ _ hk fun H H3 n3 g0 g1 g2 g3 g4=>zXS b s p d _ _ _ H H3 n3 g0 g1 g2 g3 g4 hl hcd hc2 n _ (hdok h30) hh (fun _=>rfl)⟩⟩
  rw [zlD hcl];have ways:(zA8 t=false)\/(zA8 t=true/\s.length<=e)\/(zA8 t=true/\∃ c,s[e]?=some c/\c.toNat≠40):=by
   cases hb:zA8 t with
   |false=>exact .inl rfl
   |true=>
    by_cases hlt:s.length<=e
    ·exact .inr (.inl ⟨rfl,hlt⟩)
    ·obtain ⟨c,hc⟩:∃ c,s[e]?=some c:=⟨_,zlI tO⟩;exact .inr (.inr ⟨rfl,c,hc,fun h=>hcl ⟨hb,by rw [hc,show c=40 from zlc.1 h]⟩⟩)
  unfold zIu;cases hwp:zCQ t with
  |some n=>
   rw [hwp] at hw;have hw:∀ H,C zq [.str t,.bool false] H (.tup [zH n,.bool true]) H:=hw;refine ⟨fun n' e' h=>?_,fun h=>by cases h⟩;cases h;refine go _ _ hk fun H H3 n3 g0 g1 g2 g3 g4=>?_;rcases ways with hb|⟨hb,hle⟩|⟨hb,c,hc,hc40⟩ <;> rw [hb] at hcd
   ·exact zbT b s p d _ _ _ H H3 n3 g0 g1 g2 g3 g4 hl hcd n hw
   ·exact zbY b s p d _ _ _ H H3 n3 g0 g1 g2 g3 g4 hl hcd hle n hw
   ·exact zbd b s p d _ _ _ H H3 n3 g0 g1 g2 g3 g4 hl hcd c hc hc40 n hw
  |none=>
   rw [hwp] at hw;have hw:∀ H,C zq [.str t,.bool false] H (.tup [zH 0,.bool false]) H:=hw;simp only;by_cases h1:t=zGA
   ·rw [zlF h1];refine ⟨fun n' e' h=>?_,fun h=>by cases h⟩;cases h;refine go _ _ hk fun H H3 n3 g0 g1 g2 g3 g4=>?_;rcases ways with hb|⟨hb,hle⟩|⟨hb,c,hc,hc40⟩ <;> rw [hb] at hcd
    ·exact zbU b s p d _ _ _ H H3 n3 g0 g1 g2 g3 g4 hl hcd hw h1
    ·exact zbZ b s p d _ _ _ H H3 n3 g0 g1 g2 g3 g4 hl hcd hle hw h1
    ·exact zbe b s p d _ _ _ H H3 n3 g0 g1 g2 g3 g4 hl hcd c hc hc40 hw h1
   rw [zlD h1];by_cases h2:t=zDc
   ·rw [zlF h2];refine ⟨fun n' e' h=>?_,fun h=>by cases h⟩;cases h;refine go _ _ hk fun H H3 n3 g0 g1 g2 g3 g4=>?_;rcases ways with hb|⟨hb,hle⟩|⟨hb,c,hc,hc40⟩ <;> rw [hb] at hcd
    ·exact zbV b s p d _ _ _ H H3 n3 g0 g1 g2 g3 g4 hl hcd hw h1 h2
    ·exact zba b s p d _ _ _ H H3 n3 g0 g1 g2 g3 g4 hl hcd hle hw h1 h2
    ·exact zbf b s p d _ _ _ H H3 n3 g0 g1 g2 g3 g4 hl hcd c hc hc40 hw h1 h2
   rw [zlD h2];cases hrp:zFG t with
   |some x=>
    rw [hrp] at hr;have hr:∀ H,C zm [.str t] H (.tup [.agg [zH x.col,zH x.row,.bool x.fc,.bool x.fr],.bool true]) H:=hr;refine ⟨fun n' e' h=>?_,fun h=>by cases h⟩;cases h;refine go _ _ hk fun H H3 n3 g0 g1 g2 g3 g4=>?_;rcases ways with hb|⟨hb,hle⟩|⟨hb,c,hc,hc40⟩ <;> rw [hb] at hcd
    ·exact zbW b s p d _ _ _ H H3 n3 g0 g1 g2 g3 g4 hl hcd hw h1 h2 x hr
    ·exact zbb b s p d _ _ _ H H3 n3 g0 g1 g2 g3 g4 hl hcd hle hw h1 h2 x hr
    ·exact zbg b s p d _ _ _ H H3 n3 g0 g1 g2 g3 g4 hl hcd c hc hc40 hw h1 h2 x hr
   |none=>
    rw [hrp] at hr;have hr:∀ H,C zm [.str t] H (.tup [.agg zP,.bool false]) H:=hr;refine ⟨fun n e h=>(by cases h),fun _=>⟨zZ,e,(skip s p:Nat),2,(d:Nat),by decide,hee.2,go _ _ hk fun H H3 n3 g0 g1 g2 g3 g4=>?_⟩⟩;rcases ways with hb|⟨hb,hle⟩|⟨hb,c,hc,hc40⟩ <;> rw [hb] at hcd
    ·exact zbX b s p d _ _ _ H H3 n3 g0 g1 g2 g3 g4 hl hcd hw h1 h2 hr (fail _ hk)
    ·exact zbc b s p d _ _ _ H H3 n3 g0 g1 g2 g3 g4 hl hcd hle hw h1 h2 hr (fail _ hk)
    ·exact zbh b s p d _ _ _ H H3 n3 g0 g1 g2 g3 g4 hl hcd c hc hc40 hw h1 h2 hr (fail _ hk)
end
structure Bd where
 a:Nat
 w:Int
 e:Int
 d:Int
def Bd.ok (s:Bs) (W:Bd):Prop:=W.e≠0/\W.a<=s.length
def Bd.blk (s:Bs) (W:Bd):ABlk:=pB s W.a W.w W.e W.d
def LoF (C:CSpec) (b:Nat) (s:Bs) (d l a:Nat) (W:Bd):Prop:=W.ok s/\∃ n:Nd,∀ H,H[b]?=some (rP s a d)->C zX [pR b,zK l] H (ndV n) (H.set b (W.blk s))
inductive LF (C:CSpec) (b:Nat) (s:Bs) (d l:Nat):Nd->Nat->Bd->Prop where
 |now (n:Nd) (a op e:Nat) (W:Bd) (ho:zIK s a=some (op,e)) (ht:¬ tight op<l) (h:LoF C b s d (tight op+1) e W):LF C b s d l n a W
 |later (n m:Nd) (a op e e2:Nat) (W:Bd) (ho:zIK s a=some (op,e)) (ht:¬ tight op<l) (h:(P s).loose (tight op+1) e d=some (m,e2)) (k:LF C b s d l (zAr op n m) e2 W):LF C b s d l n a W
theorem LF.ok {C:CSpec} {b:Nat} {s:Bs} {d l:Nat} {n:Nd} {a:Nat} {W:Bd} (h:LF C b s d l n a W):W.ok s:=by
 induction h with
 |now _ _ _ _ _ _ _ h=>exact h.1
 |later _ _ _ _ _ _ _ _ _ _ _ ih=>exact ih
theorem ziC {C:CSpec} {b:Nat} {s:Bs} {d l:Nat} (p:Nat) (hLo:∀ a l',p<a->a<=s.length->CF C zX [pR b,zK l'] b s a d ((P s).loose l' a d)):∀ (k:Nat) (n:Nd) (a:Nat),p<a->a<=s.length->s.length-a<=k->(P s).ll l n a d=none->∃ W,LF C b s d l n a W:=by
 intro k;induction k with
 |zero=>
  intro n a hpa ha hk h;rw [zVR l n d ha] at h;unfold zOz at h;split at h
  ·cases h
  ·rename_i op e ho;have:=zDn ho;omega
 |succ k ih=>
  intro n a hpa ha hk h;rw [zVR l n d ha] at h;unfold zOz at h;split at h
  ·cases h
  ·rename_i op e ho;have he:=zDn ho;split at h
   ·cases h
   ·rename_i ht;cases hl:(P s).loose (tight op+1) e d with
    |none=>
     obtain ⟨n',a',w,e',d',h1,h2,h3⟩:=(hLo e (tight op+1) tO he.2).2 hl;exact ⟨⟨a',w,e',d'⟩,.now n a op e _ ho ht ⟨⟨h1,h2⟩,n',h3⟩⟩
    |some q=>
     obtain ⟨m,e2⟩:=q;rw [hl] at h;have hq:=(zDA s).loose _ e d _ he.2 hl;simp only at hq;obtain ⟨W,hW⟩:=ih (zAr op n m) e2 tO hq.2 tO h;exact ⟨W,.later n m a op e e2 W ho ht hl hW⟩
structure LSt where
 m:Nat
 a:Nat
 n:Nd
 x:AV
section
variable {C:CSpec} {GT:zG_}
def LoR (C:CSpec) (b:Nat) (s:Bs) (d l:Nat) (n:Nd) (a:Nat) (RV:AV) (RB:ABlk):Prop:=
 (∃ n' e',(P s).ll l n a d=some (n',e')/\RV=ndV n'/\RB=rP s e' d)\/(∃ W:Bd,LF C b s d l n a W/\RV=ndV zZ/\RB=W.blk s)
theorem LoR.stop {b:Nat} {s:Bs} {d l:Nat} {n:Nd} {a:Nat} {RV:AV} {RB:ABlk} (h:LoR C b s d l n a RV RB) (ha:a<=s.length) (ho:∀ op e,zIK s a=some (op,e)->tight op<l):RV=ndV n/\RB=rP s a d:=by
 rcases h with ⟨n',e',h1,h2,h3⟩|⟨W,hW,_⟩
 ·rw [zVR l n d ha] at h1;unfold zOz at h1;split at h1
  ·cases h1;exact ⟨h2,h3⟩
  ·rename_i op e hop;rw [zlF (ho op e hop)] at h1;cases h1;exact ⟨h2,h3⟩
 ·cases hW with
  |now _ _ op e _ hop ht h=>exact absurd (ho _ _ hop) ht
  |later _ m _ op e e2 _ hop ht h k=>exact absurd (ho _ _ hop) ht
theorem LoR.go {b:Nat} {s:Bs} {d l:Nat} {n:Nd} {a op e:Nat} {RV:AV} {RB:ABlk} (h:LoR C b s d l n a RV RB) (ha:a<=s.length) (ho:zIK s a=some (op,e)) (ht:¬ tight op<l) :
  (∃ m e2,(P s).loose (tight op+1) e d=some (m,e2)/\LoR C b s d l (zAr op n m) e2 RV RB)\/(∃ W:Bd,LoF C b s d (tight op+1) e W/\RV=ndV zZ/\RB=W.blk s):=by
 rcases h with ⟨n',e',h1,h2,h3⟩|⟨W,hW,h2,h3⟩
 ·rw [zVR l n d ha] at h1;unfold zOz at h1;rw [ho] at h1;simp only at h1;rw [zlD ht,zlq] at h1;obtain ⟨⟨m,e2⟩,h4,h5⟩:=h1;exact .inl ⟨m,e2,h4,.inl ⟨n',e',h5,h2,h3⟩⟩
 ·cases hW with
  |now _ _ op' e' _ ho' ht' h=>rw [ho] at ho';cases ho';exact .inr ⟨W,h,h2,h3⟩
  |later _ m _ op' e' e2 _ ho' ht' h k=>rw [ho] at ho';cases ho';exact .inl ⟨m,e2,h,.inr ⟨W,k,h2,h3⟩⟩
theorem zbl (hT:∀ s a H,a<=s.length->s.length<=1000->C zY [.str s,zK a] H (tkV s a) H)
  (hSg:∀ t H,C zDP [.str t] H (zK (zCE t)) H) (hTi:∀ op H,op<=1000->C zAl [zK op] H (zK (tight op)) H)
  (b:Nat) (s:Bs) (p d l:Nat) (hp:p<=s.length) (hl:s.length<=200)
  (hLo:∀ a l' m e,p<a->a<=s.length->(P s).loose l' a d=some (m,e)->∀ H,H[b]?=some (rP s a d)->C zX [pR b,zK l'] H (ndV m) (H.set b (rP s e d)))
  (n0:Nd) (e0:Nat) (hpe:p<e0) (hel:e0<=s.length) (RV:AV) (RB:ABlk) (hRB:∀ k,zHi k RB=true) (hRV:∃ n',RV=ndV n') (hR:LoR C b s d l n0 e0 RV RB)
  (H:Heap) (hb:H[b]?=some (rP s p d)) (ho:∀ H,H[b]?=some (rP s p d)->C zAP [pR b] H (ndV n0) (H.set b (rP s e0 d))) :
  zCw C GT zCN [pR b,zK l] H b [] .undef (some (RV,RB)):=by
 have hbl:=zl_ hb;have hT:=fun a H h=>hT s a H h tO;obtain ⟨n',rfl⟩:=hRV;refine zAJ ?_;clear hp;refine sX ?_;refine sSA (ndV n0) ?_;refine zBG (fun st:LSt=>[(4,pR H.length),(5,pR st.m),(0,pR b),(1,zK l)])
  (fun st H'=>(st.m=H.length+1/\H'[H.length]?=some (.box (ndC zZ))/\H'[H.length+1]?=some (.box (ndX st.n st.x))/\NdO H H' st.n st.x) /\
   ((OldB H b (rP s st.a d) H'/\H'[b]?=some (rP s st.a d)/\st.a<=s.length/\p<st.a/\LoR C b s d l st.n st.a (ndV n') RB)\/(∃ W:Bd,W.ok s/\OldB H b (W.blk s) H'/\H'[b]?=some (W.blk s)/\ndV n'=ndV zZ/\RB=W.blk s/\st.a=s.length+1)))
  (fun st=>s.length+1-st.a) ⟨_,e0,n0,.lst (some n0.kq) n0.kk (kxs n0)⟩ rfl ⟨⟨zS_,hP,(by rw [show H.length+1=((H++[ABlk.box (ndC zZ)]).set b (rP s e0 d)).length from by simp];exact hP),.inl rfl⟩,.inl ⟨((((((OldB.start hb).push _).setB _).push _).set zS_ _)),hP,hel,hpe,hR⟩⟩ (fun ⟨m,a,n,x⟩ H1 ⟨⟨hm,h4,h5,hnd⟩,hst⟩=>?_)
 dsimp only at hm h4 h5 hnd hst ⊢;subst hm;clear ho hR hb hpe hel;have h5l:=(zl_ h5);rcases hst with ⟨hob,hb1,ha,hpa,hR⟩|⟨W,hW,hob,hb1,hv,hB,hae⟩
 case inr=>
  have hb1':H1[b]?=some (.box [.str s,zH W.a,zH W.w,zH W.e,zH W.d]):=hb1;have hwe:=hW.1;rw [hv,hB];clear hLo hT hSg hTi;refine zA (zH W.e) hb1' rfl<|zi (tN hwe)<|sX ?_;refine sSA (.agg (zN 0 0 [])) ?_
  exact zAH (o:=0) (ndV zZ) rfl rfl rfl (zI hP) rfl rfl rfl hO rfl
 have htk:=fun H=>hT a H ha;rw [zHI] at htk;have hnd1:=hnd.push (ABlk.box zV4);clear hT;have hle:=zK5 ha;by_cases hsg:∃ e t,tok s a=.sign e t
 ·obtain ⟨e,t,hk⟩:=hsg;have hoa:zIK s a=if zCE t=0 then none else some (zCE t,e):=by unfold zIK;rw [hk]
  rw [hk] at htk hle;have hle:e<=s.length:=hle;have htk:∀ H,C zY [.str s,zK a] H (kV 4 (skip s a) e t) H:=htk;have hs:=fun H=>hSg t H;have hop:zCE t<=11:=by unfold zCE;repeat' (first|omega|split)
  have hti:=fun H=>hTi (zCE t) H tO;clear hSg hTi;by_cases h0:zCE t=0
  ·obtain ⟨rv,rb⟩:=hR.stop ha (fun op e' h=>by rw [hoa,zlF h0] at h;cases h);rw [rv,rb];rw [h0] at hs;clear hti hLo;generalize skip s a=q at *;refine sX ?_;refine zHN ?_ ?_
   all_goals
    refine zM (htk _)<|sSA (kV 4 q e t) ?_;refine zA (zK 4) hP rfl<|zE<|zA (.str t) hP rfl<|zM (hs _)<|zE<|zE<|zE<|zA (.agg (ndX n x)) hP rfl<|zL (v:=.agg (ndX n x)) (ndX n x) hP rfl hnd.one rfl rfl ?_
    obtain ⟨H4,hz,hl4',hbx,hol⟩:=(((hnd.push (ABlk.box [.int .i64 0,.int .i64 0,.int .i64 0,.str []])).set zB (.box (kV 4 q e t).cells)).set (b:=H.length) (cs:=ndC zZ) hP (.box (ndX n x))).frz H.length (zlK _);exact zAH (o:=0) (.agg (ndX n x)) rfl rfl rfl (zI hP) rfl hz (zKC _ _) ⟨hbl,hol hbl (((hob.push _).set tO _).set (zlK _) _).old⟩ rfl
  ·rw [zlD h0] at hoa;by_cases hti2:tight (zCE t)<l
   ·obtain ⟨rv,rb⟩:=hR.stop ha (fun op e' h=>by rw [hoa] at h;cases h;exact hti2);rw [rv,rb];clear hLo;generalize skip s a=q at *;generalize tight (zCE t)=ti at *;refine sX ?_;refine zHN ?_ ?_
    all_goals
     refine zM (htk _)<|sSA (kV 4 q e t) ?_;refine zA (zK 4) hP rfl<|zn tT<|zA (.str t) hP rfl<|zM (hs _)<|zi tN<|zM (hti _)<|zG<|zn tT<|zA (.agg (ndX n x)) hP rfl<|zL (v:=.agg (ndX n x)) (ndX n x) hP rfl hnd.one rfl rfl ?_
     obtain ⟨H4,hz,hl4',hbx,hol⟩:=(((hnd.push (ABlk.box [.int .i64 0,.int .i64 0,.int .i64 0,.str []])).set zB (.box (kV 4 q e t).cells)).set (b:=H.length) (cs:=ndC zZ) hP (.box (ndX n x))).frz H.length (zlK _);exact zAH (o:=0) (.agg (ndX n x)) rfl rfl rfl (zI hP) rfl hz (zKC _ _) ⟨hbl,hol hbl (((hob.push _).set tO _).set (zlK _) _).old⟩ rfl
   ·have hae:=zDn hoa;have htl:=zSy (zCE t);rcases hR.go ha hoa hti2 with ⟨m2,e2,hl2,hR2⟩|⟨W,⟨hW,nw,hlo⟩,hv,hB⟩
    ·have hx:=(zDA s).loose _ e d _ hle hl2;simp only at hx;have hlo:=hLo e (tight (zCE t)+1) m2 e2 tO hle hl2;clear hLo hR;generalize skip s a=q at *;generalize hgt:tight (zCE t)=ti at *;refine sX ?_;refine zHN ?_ ?_
     all_goals
      refine zM (htk _)<|sSA (kV 4 q e t) ?_;refine sX ?_;refine sS (zK e) [.str s,zK e,zH 0,zH 0,zH ↑d] ?_;refine sX ?_;refine zS (r:=ti+1) rfl tO<|sX ?_;refine sSA (ndV m2) ?_;refine sX ?_
      have hndA:=(((((hnd.push (ABlk.box [.int .i64 0,.int .i64 0,.int .i64 0,.str []])).set zB (.box (kV 4 q e t).cells)).set (b:=b) (cs:=[.str s,zH a,zH 0,zH 0,zH d]) hP (rP s e d)).set (b:=b) (cs:=[.str s,zH e,zH 0,zH 0,zH d]) hP (rP s e2 d)).push (ABlk.box (ndC zZ))).set zB (.box (ndC m2));have hoA:OldB H b (rP s e2 d) _:=((((((hob.push [ABlk.box [.int .i64 0,.int .i64 0,.int .i64 0,.str []]]).set (c:=H1.length) tO (.box (kV 4 q e t).cells)).setB (rP s e d)).setB (rP s e2 d)).push [ABlk.box (ndC zZ)]).set (c:=((((H1++[ABlk.box [.int .i64 0,.int .i64 0,.int .i64 0,.str []]]).set H1.length (.box (kV 4 q e t).cells)).set b (rP s e d)).set b (rP s e2 d)).length) (by simp;omega) (.box (ndC m2)));obtain ⟨H4,hz,hl4',hbx,hol⟩:=hndA.frz 0 (zl6 _);have hz2:=zHr hz (show zLg 0 [ndV m2] H4=some ([ndV m2],H4) from rfl);have hb4:=hbx b [.str s,zH e2,zH 0,zH 0,zH d] hP;have h44:=hbx H.length (ndC zZ) hP;have h54:=hbx (H.length+1) (ndX n x) hP;have h54l:=(zl_ h54);have hob4:OldB H b (rP s e2 d) H4:=⟨hbl,hol hbl hoA.old⟩;clear hbx hol hz hndA hoA;refine zG0 [ndV n,ndV m2] H4 hz2 rfl<|sX ?_;refine sS (.agg (ndX (zAr (zCE t) n m2) (.sl (some false) H4.length 12 0 2))) (ndX (zAr (zCE t) n m2) (.sl (some false) H4.length 12 0 2)) ?_;refine zAR (LSt.mk (H.length+1) e2 (zAr (zCE t) n m2) (.sl (some false) H4.length 12 0 2)) rfl ⟨⟨rfl,hP,hP,.inr ⟨zCE t,n,m2,H4.length,rfl,rfl,hP,by omega⟩⟩,.inl ⟨(hob4.push _).set tO _,hP,hx.2,by simp only;omega,hR2⟩⟩ (by simp only;omega)
    ·clear hLo hR;rw [hv,hB];generalize skip s a=q at *;generalize hgt:tight (zCE t)=ti at *;refine sX ?_;refine zHN ?_ ?_
     all_goals
      refine zM (htk _)<|sSA (kV 4 q e t) ?_;refine sX ?_;refine sS (zK e) [.str s,zK e,zH 0,zH 0,zH ↑d] ?_;refine sX ?_;refine zS (r:=ti+1) rfl tO<|sX ?_;refine sSA (ndV nw) ?_;refine sX ?_
      have hndA:=(((((hnd.push (ABlk.box [.int .i64 0,.int .i64 0,.int .i64 0,.str []])).set zB (.box (kV 4 q e t).cells)).set (b:=b) (cs:=[.str s,zH a,zH 0,zH 0,zH d]) hP (rP s e d)).set (b:=b) (cs:=[.str s,zH e,zH 0,zH 0,zH d]) hP (W.blk s)).push (ABlk.box (ndC zZ))).set zB (.box (ndC nw));have hoA:OldB H b (W.blk s) _:=((((((hob.push [ABlk.box [.int .i64 0,.int .i64 0,.int .i64 0,.str []]]).set (c:=H1.length) tO (.box (kV 4 q e t).cells)).setB (rP s e d)).setB (W.blk s)).push [ABlk.box (ndC zZ)]).set (c:=((((H1++[ABlk.box [.int .i64 0,.int .i64 0,.int .i64 0,.str []]]).set H1.length (.box (kV 4 q e t).cells)).set b (rP s e d)).set b (W.blk s)).length) (by simp;omega) (.box (ndC nw)));obtain ⟨H4,hz,hl4',hbx,hol⟩:=hndA.frz 0 (zl6 _);have hz2:=zHr hz (show zLg 0 [ndV nw] H4=some ([ndV nw],H4) from rfl);have hb4:=hbx b [.str s,zH W.a,zH W.w,zH W.e,zH W.d] hP;have h44:=hbx H.length (ndC zZ) hP;have h54:=hbx (H.length+1) (ndX n x) hP;have h54l:=(zl_ h54);have hob4:OldB H b (W.blk s) H4:=⟨hbl,hol hbl hoA.old⟩;clear hbx hol hz hndA hoA;refine zG0 [ndV n,ndV nw] H4 hz2 rfl<|sX ?_;refine sS (.agg (ndX (zAr (zCE t) n nw) (.sl (some false) H4.length 12 0 2))) (ndX (zAr (zCE t) n nw) (.sl (some false) H4.length 12 0 2)) ?_;refine zAR (LSt.mk (H.length+1) (s.length+1) (zAr (zCE t) n nw) (.sl (some false) H4.length 12 0 2)) rfl ⟨⟨rfl,hP,hP,.inr ⟨zCE t,n,nw,H4.length,rfl,rfl,hP,by omega⟩⟩,.inr ⟨W,hW,(hob4.push _).set tO _,hP,rfl,rfl,rfl⟩⟩ (by simp only;omega)
 ·have hk4:tkK (tok s a)≠4:=fun h=>by
   cases hk:tok s a <;> rw [hk] at h <;> simp only [tkK] at h
   all_goals first|omega|exact hsg ⟨_,_,hk⟩
  obtain ⟨rv,rb⟩:=hR.stop ha (fun op e' h=>by
   unfold zIK at h;split at h
   ·rename_i e t hk;exact absurd ⟨e,t,hk⟩ hsg
   ·cases h)
  rw [rv,rb];clear hLo hSg hTi;generalize tkE (skip s a) (tok s a)=ee at *;generalize tkK (tok s a)=kk at *;generalize tkT (tok s a)=t at *;generalize skip s a=q at *;refine sX ?_;refine zHN ?_ ?_
  all_goals
   refine zM (htk _) ?_;refine sSA (kV kk q ee t) ?_;refine sW ?_;refine zL (v:=.agg (ndX n x)) (ndX n x) hP rfl hnd.one rfl rfl ?_;obtain ⟨H4,hz,hl4',hbx,hol⟩:=(((hnd.push (ABlk.box [.int .i64 0,.int .i64 0,.int .i64 0,.str []])).set zB (.box (kV kk q ee t).cells)).set (b:=H.length) (cs:=ndC zZ) hP (.box (ndX n x))).frz H.length (zlK _);exact zAH (o:=0) (.agg (ndX n x)) rfl rfl rfl (zI hP) rfl hz (zKC _ _) ⟨hbl,hol hbl (((hob.push _).set tO _).set (zlK _) _).old⟩ rfl
end
end Go.AM
