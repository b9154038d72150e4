/- Texts of mine in one. Own work. -/
import Derived.Test.YtmfmhljpddpfnaaGreatDoorGAm23Am35
import Derived.Test.YtmfmhljpddpfnaaGreatDoorGRf5Rf3
set_option maxHeartbeats 8000000
set_option maxRecDepth 20000
set_option linter.all false
namespace Go.AM
def CF (C:CSpec) (f:Nat) (args:List AV) (b:Nat) (s:Bs) (p d:Nat) (r:Option (Nd×Nat)):Prop:=
  (∀ n e,r=some (n,e)->∀ H,H[b]?=some (rP s p d)->C f args H (ndV n) (H.set b (rP s e d))) /\
  (r=none->∃ (n:Nd) (a:Nat) (w e d':Int),e≠0/\a<=s.length/\∀ H,H[b]?=some (rP s p d)->C f args H (ndV n) (H.set b (pB s a w e d')))
def EF (C:CSpec) (GT:zG_) (F:AF) (args:List AV) (b:Nat) (s:Bs) (p d:Nat) (r:Option (Nd×Nat)):Prop:=
  (∀ n e,r=some (n,e)->∀ H,H[b]?=some (rP s p d)->zCk C GT F args H b [] .undef (some (ndV n,rP s e d))) /\
  (r=none->∃ (n:Nd) (a:Nat) (w e d':Int),e≠0/\a<=s.length/\∀ H,H[b]?=some (rP s p d)->zCk C GT F args H b [] .undef (some (ndV n,pB s a w e d')))
section
variable {H H1:Heap} {b:Nat} (h:∃ B,OldB H b B H1)
include H H1 b h
theorem OldB.setE (B':ABlk):OldB H b B' (H1.set b B'):=h.elim fun _ h=>h.setB B'
theorem zVr (x:List ABlk):∃ B,OldB H b B (H1++x):=h.imp fun _ h=>h.push x
theorem zaV {c:Nat} (hc:H.length<=c) (x:ABlk):∃ B,OldB H b B (H1.set c x):=h.imp fun _ h=>h.set hc x
theorem zVs (B':ABlk):∃ B,OldB H b B (H1.set b B'):=h.elim fun _ h=>⟨_,h.setB B'⟩
end
abbrev zLz:AC:=zIZ.behind 2
section
variable {C:CSpec} {GT:zG_}
theorem zaW (hT:∀ s a H,a<=s.length->s.length<=1000->C zm [.str s,zL a] H (tkV s a) H)
    (b:Nat) (s:Bs) (p d:Nat) (H:Heap) (hb:H[b]?=some (rP s p d)) (hp:p<=s.length) (hl:s.length<=200) (r:Option (AV×ABlk))
    (h:∀ H3,OldB H b (rP s p d) H3->H3[b]?=some (rP s p d)->H3[H.length]?=some (.box (ndC zU))->H3[(H++[ABlk.box (ndC zU)]).length]?=some (.box [zL (tkK (tok s p)),zL (skip s p),zL (tkE (skip s p) (tok s p)),.str (tkT (tok s p))]) ->
      EW C GT zLz (zJ1 zO H b [] .undef r) [(2,pR H.length),(3,pR (H++[ABlk.box (ndC zU)]).length),(0,pR b)] H3) :
    zCk C GT zO [pR b] H b [] .undef r:=by
  have hbl:=zl_ hb;have ht:=fun H=>hT s p H hp tO;rw [zGv] at ht;clear hT;generalize tkE (skip s p) (tok s p)=ee at *;generalize tkK (tok s p)=kk at *;generalize tkT (tok s p)=t at *;generalize skip s p=q at *;refine zAH<|sW ?_
  have ho:OldB H b (rP s p d) (((H++[ABlk.box (ndC zU)])++[ABlk.box zV2]).set (H++[ABlk.box (ndC zU)]).length (.box [zL kk,zL q,zL ee,.str t])):=((((OldB.start hb).push _).push _).set zS_ _);have key:=h _ ho hP hP hP;refine zG2 ?_ ?_
  · refine sW ?_
    refine sS (kV kk q ee t) [zL kk,zL q,zL ee,.str t] ?_;exact key
  · refine sW ?_
    refine sS (kV kk q ee t) [zL kk,zL q,zL ee,.str t] ?_;exact key
section
variable (b:Nat) (s:Bs) (p d q e:Nat) (t:Bs) (H H3:Heap) (n3:Nat) (hn3:n3=H.length+1) (hob:OldB H b (rP s p d) H3) (hb3:H3[b]?=some (rP s p d)) (h2:H3[H.length]?=some (.box (ndC zU)))
include b s p d q e t H H3 n3 hn3 hob hb3 h2
theorem zeN (h3:H3[n3]?=some (.box [zL 2,zL q,zL e,.str t])) (hl:s.length<=200) :
    EW C GT zLz (zJ1 zO H b [] .undef (some (ndV (zHG t),rP s e d))) [(2,pR H.length),(3,pR n3),(0,pR b)] H3:=by
  have hbl:=hob.lt;have hn3l:=(zl_ h3);refine sW ?_;refine sS (zL e) [.str s,zL e,zK 0,zK 0,zK ↑d] ?_;refine sW ?_;refine sSA (.agg (zN 2 0 t)) ?_
  all_goals exact zAC (o:=0) (ndV (zHG t)) rfl rfl rfl (zJ hP) rfl rfl rfl hO rfl
theorem zeO (h3:H3[n3]?=some (.box [zL 3,zL q,zL e,.str t])) (hl:s.length<=200) (k:Nat) (hnm:∀ H,C zCa [.str t] H (.tup [.agg [.int .i64 4,zL k,.str []],.bool true]) H) :
    EW C GT zLz (zJ1 zO H b [] .undef (some (ndV (zHJ k),rP s e d))) [(2,pR H.length),(3,pR n3),(0,pR b)] H3:=by
  have hbl:=hob.lt;have hn3l:=(zl_ h3);refine sW ?_;refine sS (zL e) [.str s,zL e,zK 0,zK 0,zK ↑d] ?_;refine sW ?_;refine sSA (.agg [.int .i64 4,zL k,.str []]) ?_;refine sW ?_;refine sSA (.agg [.int .i64 4,zL k,.str [],.int .i64 0,.int .i64 0,.bool false,.bool false,.int .i64 0,.int .i64 0,.bool false,.bool false,.lst (some true) 0 []]) ?_
  all_goals exact zAC (o:=0) (ndV (zHJ k)) rfl rfl rfl (zJ hP) rfl rfl rfl hO rfl
end
theorem zSw (kk:Nat) (b:Nat) (s:Bs) (p d q e:Nat) (t:Bs) (H H3:Heap) (n3:Nat) (hn3:n3=H.length+1) (hob:OldB H b (rP s p d) H3) (hb3:H3[b]?=some (rP s p d)) (h2:H3[H.length]?=some (.box (ndC zU))) (h3:H3[n3]?=some (.box [zL kk,zL q,zL e,.str t])) (hl:s.length<=200) (h1:kk≠1) (h22:kk≠2) (h33:kk≠3) (h4:kk≠4) (hf:∀ H,H[b]?=some (rP s e d)->C zl [pR b,zL q,.int .i64 2] H (.tup []) (H.set b (pB s e q 2 d))) :
    EW C GT zLz (zJ1 zO H b [] .undef (some (ndV zU,pB s e q 2 d))) [(2,pR H.length),(3,pR n3),(0,pR b)] H3:=by
  have hbl:=hob.lt;have hn3l:=(zl_ h3);refine sW ?_;refine sS (zL e) [.str s,zL e,zK 0,zK 0,zK ↑d] ?_;refine sW ?_;refine sSA (.agg (zN 0 0 [])) ?_
  all_goals exact zAC (o:=0) (ndV zU) rfl rfl rfl (zJ hP) rfl rfl rfl hO rfl
section
variable (b:Nat) (s:Bs) (p d q e:Nat) (t:Bs) (H H3:Heap) (n3:Nat) (hn3:n3=H.length+1) (hob:OldB H b (rP s p d) H3) (hb3:H3[b]?=some (rP s p d)) (h2:H3[H.length]?=some (.box (ndC zU))) (h3:H3[n3]?=some (.box [zL 4,zL q,zL e,.str t])) (hl:s.length<=200)
include b s p d q e t H H3 n3 hn3 hob hb3 h2 h3 hl
theorem zaX (h45:t≠[45]) (h40:t≠[40]) (hf:∀ H,H[b]?=some (rP s e d)->C zl [pR b,zL q,.int .i64 2] H (.tup []) (H.set b (pB s e q 2 d))) :
    EW C GT zLz (zJ1 zO H b [] .undef (some (ndV zU,pB s e q 2 d))) [(2,pR H.length),(3,pR n3),(0,pR b)] H3:=by
  have hbl:=hob.lt;have hn3l:=(zl_ h3);refine sW ?_;refine sS (zL e) [.str s,zL e,zK 0,zK 0,zK ↑d] ?_;refine sW ?_;refine sSA (.agg (zN 0 0 [])) ?_
  all_goals exact zAC (o:=0) (ndV zU) rfl rfl rfl (zJ hP) rfl rfl rfl hO rfl
theorem zXq (ht:t=[45]) (hd:∀ H,H[b]?=some (rP s e d)->C zZ [pR b,zL q] H (.bool false) (H.set b (pB s e q 4 d))) :
    EW C GT zLz (zJ1 zO H b [] .undef (some (ndV zU,pB s e q 4 d))) [(2,pR H.length),(3,pR n3),(0,pR b)] H3:=by
  have hbl:=hob.lt;have hn3l:=(zl_ h3);refine sW ?_;refine sS (zL e) [.str s,zL e,zK 0,zK 0,zK ↑d] ?_;refine sW ?_;refine sSA (.agg (zN 0 0 [])) ?_
  all_goals exact zAC (o:=0) (ndV zU) rfl rfl rfl (zJ hP) rfl rfl rfl hO rfl
theorem zXr (ht:t=[45]) (n:Nd) (e2:Nat) (hdd:d<=1000) (hd:∀ H,H[b]?=some (rP s e d)->C zZ [pR b,zL q] H (.bool true) (H.set b (rP s e (d+1:Nat)))) (ho:∀ H,H[b]?=some (rP s e (d+1:Nat))->C zAW [pR b] H (ndV n) (H.set b (rP s e2 (d+1:Nat)))) :
    EW C GT zLz (zJ1 zO H b [] .undef (some (ndV (zl1 n),rP s e2 d))) [(2,pR H.length),(3,pR n3),(0,pR b)] H3:=by
  have hbl:=hob.lt;have hn3l:=(zl_ h3);refine sW ?_;refine sS (zL e) [.str s,zL e,zK 0,zK 0,zK ↑d] ?_;refine sW ?_;refine sSA (ndV n) ?_;refine sW ?_;refine zQ (r:=d) tO tO<|sS (.int .i64 ↑d) [.str s,zK ↑e2,zK 0,zK 0,.int .i64 ↑d] ?_
  refine sW ?_;refine zAA (vs':=[ndV n]) rfl rfl<|sW ?_
  refine sSA (.agg [.int .i64 7,.int .i64 0,.str [],.int .i64 0,.int .i64 0,.bool false,.bool false,.int .i64 0,.int .i64 0,.bool false,.bool false,.sl (some false) (((((List.set H3 b (ABlk.box [.str s,zL e,zK 0,zK 0,zK ↑d])).set b (rP s e (d+1))).set b (rP s e2 (d+1))++[ABlk.box (zN 0 0 [])]).set (((List.set H3 b (ABlk.box [.str s,zL e,zK 0,zK 0,zK ↑d])).set b (rP s e (d+1))).set b (rP s e2 (d+1))).length (ABlk.box (ndV n).cells)).set b (ABlk.box [.str s,zK ↑e2,zK 0,zK 0,.int .i64 ↑d])).length 12 0 [ndV n].length]) ?_
  all_goals exact zAC (o:=0) (zXX 7 0 [] (.sl (some false) _ 12 0 1)) rfl rfl rfl (zJ hP) rfl (zRH (xs:=[ndV n]) hP tC rfl) rfl hO rfl
theorem zXs (ht:t=[45]) (n:Nd) (a w ee d':Int) (hd:∀ H,H[b]?=some (rP s e d)->C zZ [pR b,zL q] H (.bool true) (H.set b (rP s e (d+1:Nat)))) (ho:∀ H,H[b]?=some (rP s e (d+1:Nat))->C zAW [pR b] H (ndV n) (H.set b (pB s a w ee d'))) :
    EW C GT zLz (zJ1 zO H b [] .undef (some (ndV (zl1 n),pB s a w ee (IntKind.wrap .i64 (d'-1))))) [(2,pR H.length),(3,pR n3),(0,pR b)] H3:=by
  have hbl:=hob.lt;have hn3l:=(zl_ h3);refine sW ?_;refine sS (zL e) [.str s,zL e,zK 0,zK 0,zK ↑d] ?_;refine sW ?_;refine sSA (ndV n) ?_;refine sW ?_;refine zCl rfl<|sS (.int .i64 (IntKind.i64.wrap (d'-1))) [.str s,zK a,zK w,zK ee,.int .i64 (IntKind.i64.wrap (d'-1))] ?_
  refine sW ?_;refine zAA (vs':=[ndV n]) rfl rfl<|sW ?_
  refine sSA (.agg [.int .i64 7,.int .i64 0,.str [],.int .i64 0,.int .i64 0,.bool false,.bool false,.int .i64 0,.int .i64 0,.bool false,.bool false,.sl (some false) (((((List.set H3 b (ABlk.box [.str s,zL e,zK 0,zK 0,zK ↑d])).set b (rP s e (d+1))).set b (pB s a w ee d')++[ABlk.box (zN 0 0 [])]).set (((List.set H3 b (ABlk.box [.str s,zL e,zK 0,zK 0,zK ↑d])).set b (rP s e (d+1))).set b (pB s a w ee d')).length (ABlk.box (ndV n).cells)).set b (ABlk.box [.str s,zK a,zK w,zK ee,.int .i64 (IntKind.i64.wrap (d'-1))])).length 12 0 [ndV n].length]) ?_
  all_goals exact zAC (o:=0) (zXX 7 0 [] (.sl (some false) _ 12 0 1)) rfl rfl rfl (zJ hP) rfl (zRH (xs:=[ndV n]) hP tC rfl) rfl hO rfl
theorem zXt (ht:t=[40]) (h45:t≠[45]) (hd:∀ H,H[b]?=some (rP s e d)->C zZ [pR b,zL q] H (.bool false) (H.set b (pB s e q 4 d))) :
    EW C GT zLz (zJ1 zO H b [] .undef (some (ndV zU,pB s e q 4 d))) [(2,pR H.length),(3,pR n3),(0,pR b)] H3:=by
  have hbl:=hob.lt;have hn3l:=(zl_ h3);refine sW ?_;refine sS (zL e) [.str s,zL e,zK 0,zK 0,zK ↑d] ?_;refine sW ?_;refine sSA (.agg (zN 0 0 [])) ?_
  all_goals exact zAC (o:=0) (ndV zU) rfl rfl rfl (zJ hP) rfl rfl rfl hO rfl
theorem zRQ (ht:t=[40]) (h45:t≠[45]) (n:Nd) (B1 B2:ABlk) (hd:∀ H,H[b]?=some (rP s e d)->C zZ [pR b,zL q] H (.bool true) (H.set b (rP s e (d+1:Nat)))) (ho:∀ H,H[b]?=some (rP s e (d+1:Nat))->C zX [pR b,.int .i64 1] H (ndV n) (H.set b B1)) (hc:∀ H,H[b]?=some B1->C zY [pR b] H (.tup []) (H.set b B2)) (hB2:∀ k,zHL k B2=true) :
    EW C GT zLz (zJ1 zO H b [] .undef (some (ndV n,B2))) [(2,pR H.length),(3,pR n3),(0,pR b)] H3:=by
  have hbl:=hob.lt;have hn3l:=(zl_ h3);refine sW ?_;refine sS (zL e) [.str s,zL e,zK 0,zK 0,zK ↑d] ?_;refine sW ?_;refine sSA (ndV n) ?_;refine sW ?_;refine sSA (ndV n) ?_
  all_goals exact zAC (o:=0) (ndV n) rfl rfl rfl (zJ hP) rfl rfl rfl hO (hB2 _)
end
section
variable (b:Nat) (s:Bs) (p d q e:Nat) (t:Bs) (H H3:Heap) (n3:Nat) (hn3:n3=H.length+1) (hob:OldB H b (rP s p d) H3) (hb3:H3[b]?=some (rP s p d)) (h2:H3[H.length]?=some (.box (ndC zU))) (h3:H3[n3]?=some (.box [zL 1,zL q,zL e,.str t])) (hl:s.length<=200)
include b s p d q e t H H3 n3 hn3 hob hb3 h2 h3 hl
section
variable (hcd:∀ H,C z6 [.str t] H (.bool true) H) (h40:s[e]?=some 40)
include hcd h40
theorem zXu (hd:∀ H,H[b]?=some (rP s e d)->C zZ [pR b,zL q] H (.bool false) (H.set b (pB s e q 4 d))) :
    EW C GT zLz (zJ1 zO H b [] .undef (some (ndV zU,pB s e q 4 d))) [(2,pR H.length),(3,pR n3),(0,pR b)] H3:=by
  have hbl:=hob.lt;have hn3l:=(zl_ h3);have hel:=(zl_ h40);refine sW ?_;refine sS (zL e) [.str s,zL e,zK 0,zK 0,zK ↑d] ?_;refine sW ?_;refine sSA (.agg (zN 0 0 [])) ?_
  all_goals exact zAC (o:=0) (ndV zU) rfl rfl rfl (zJ hP) rfl rfl rfl hO rfl
theorem zVt (n:Nd) (B1:ABlk) (hd:∀ H,H[b]?=some (rP s e d)->C zZ [pR b,zL q] H (.bool true) (H.set b (rP s e (d+1:Nat)))) (ho:∀ H,H[b]?=some (rP s e (d+1:Nat))->C zCZ [pR b,.str t] H (ndV n) (H.set b B1)) (hB1:∀ k,zHL k B1=true) :
    EW C GT zLz (zJ1 zO H b [] .undef (some (ndV n,B1))) [(2,pR H.length),(3,pR n3),(0,pR b)] H3:=by
  have hbl:=hob.lt;have hn3l:=(zl_ h3);have hel:=(zl_ h40);refine sW ?_;refine sS (zL e) [.str s,zL e,zK 0,zK 0,zK ↑d] ?_;refine sW ?_;refine sSA (ndV n) ?_
  all_goals exact zAC (o:=0) (ndV n) rfl rfl rfl (zJ hP) rfl rfl rfl hO (hB1 _)
end
theorem zaY (hcd:∀ H,C z6 [.str t] H (.bool false) H) (n:Int) (hw:∀ H,C zw [.str t,.bool false] H (.tup [zK n,.bool true]) H) :
    EW C GT zLz (zJ1 zO H b [] .undef (some (ndV (zJj n),rP s e d))) [(2,pR H.length),(3,pR n3),(0,pR b)] H3:=by
  have hbl:=hob.lt;have hn3l:=(zl_ h3);refine sW ?_;refine sS (zL e) [.str s,zL e,zK 0,zK 0,zK ↑d] ?_;refine sW ?_;refine sSA (.agg (zN 1 n [])) ?_
  all_goals exact zAC (o:=0) (ndV (zJj n)) rfl rfl rfl (zJ hP) rfl rfl rfl hO rfl
section
variable (hcd:∀ H,C z6 [.str t] H (.bool false) H) (hw:∀ H,C zw [.str t,.bool false] H (.tup [zK 0,.bool false]) H)
include hcd hw
theorem zaZ (ht:t=[84,82,85,69]) :
    EW C GT zLz (zJ1 zO H b [] .undef (some (ndV (zE3 true),rP s e d))) [(2,pR H.length),(3,pR n3),(0,pR b)] H3:=by
  have hbl:=hob.lt;have hn3l:=(zl_ h3);refine sW ?_;refine sS (zL e) [.str s,zL e,zK 0,zK 0,zK ↑d] ?_;refine sW ?_;refine sSA (.agg (zN 3 1 [])) ?_
  all_goals exact zAC (o:=0) (ndV (zE3 true)) rfl rfl rfl (zJ hP) rfl rfl rfl hO rfl
theorem zaa (h1:t≠[84,82,85,69]) (ht:t=[70,65,76,83,69]) :
    EW C GT zLz (zJ1 zO H b [] .undef (some (ndV (zE3 false),rP s e d))) [(2,pR H.length),(3,pR n3),(0,pR b)] H3:=by
  have hbl:=hob.lt;have hn3l:=(zl_ h3);refine sW ?_;refine sS (zL e) [.str s,zL e,zK 0,zK 0,zK ↑d] ?_;refine sW ?_;refine sSA (.agg (zN 3 0 [])) ?_
  all_goals exact zAC (o:=0) (ndV (zE3 false)) rfl rfl rfl (zJ hP) rfl rfl rfl hO rfl
theorem zab (h1:t≠[84,82,85,69]) (h22:t≠[70,65,76,83,69]) (x:RefP) (hr:∀ H,C zp [.str t] H (.tup [.agg [zK x.col,zK x.row,.bool x.fc,.bool x.fr],.bool true]) H) :
    EW C GT zLz (zJ1 zO H b [] .undef (some (ndV (zB3 x),rP s e d))) [(2,pR H.length),(3,pR n3),(0,pR b)] H3:=by
  have hbl:=hob.lt;have hn3l:=(zl_ h3);refine sW ?_;refine sS (zL e) [.str s,zL e,zK 0,zK 0,zK ↑d] ?_;refine sW ?_;refine sSA (.agg [zK x.col,zK x.row,.bool x.fc,.bool x.fr]) ?_;refine sW ?_;refine sSA (.agg [.int .i64 5,.int .i64 0,.str [],zK x.col,zK x.row,.bool x.fc,.bool x.fr,.int .i64 0,.int .i64 0,.bool false,.bool false,.lst (some true) 0 []]) ?_
  all_goals exact zAC (o:=0) (ndV (zB3 x)) rfl rfl rfl (zJ hP) rfl rfl rfl hO rfl
theorem zac (h1:t≠[84,82,85,69]) (h22:t≠[70,65,76,83,69]) (hr:∀ H,C zp [.str t] H (.tup [.agg zP,.bool false]) H) (hf:∀ H,H[b]?=some (rP s e d)->C zl [pR b,zL q,.int .i64 2] H (.tup []) (H.set b (pB s e q 2 d))) :
    EW C GT zLz (zJ1 zO H b [] .undef (some (ndV zU,pB s e q 2 d))) [(2,pR H.length),(3,pR n3),(0,pR b)] H3:=by
  have hbl:=hob.lt;have hn3l:=(zl_ h3);refine sW ?_;refine sS (zL e) [.str s,zL e,zK 0,zK 0,zK ↑d] ?_;refine sW ?_;refine sSA (.agg zP) ?_;refine sW ?_;refine sSA (.agg (zN 0 0 [])) ?_
  all_goals exact zAC (o:=0) (ndV zU) rfl rfl rfl (zJ hP) rfl rfl rfl hO rfl
end
theorem zad (hcd:∀ H,C z6 [.str t] H (.bool true) H) (hel:s.length<=e) (n:Int) (hw:∀ H,C zw [.str t,.bool false] H (.tup [zK n,.bool true]) H) :
    EW C GT zLz (zJ1 zO H b [] .undef (some (ndV (zJj n),rP s e d))) [(2,pR H.length),(3,pR n3),(0,pR b)] H3:=by
  have hbl:=hob.lt;have hn3l:=(zl_ h3);refine sW ?_;refine sS (zL e) [.str s,zL e,zK 0,zK 0,zK ↑d] ?_;refine sW ?_;refine sSA (.agg (zN 1 n [])) ?_
  all_goals exact zAC (o:=0) (ndV (zJj n)) rfl rfl rfl (zJ hP) rfl rfl rfl hO rfl
section
variable (hcd:∀ H,C z6 [.str t] H (.bool true) H) (hel:s.length<=e) (hw:∀ H,C zw [.str t,.bool false] H (.tup [zK 0,.bool false]) H)
include hcd hel hw
theorem zae (ht:t=[84,82,85,69]) :
    EW C GT zLz (zJ1 zO H b [] .undef (some (ndV (zE3 true),rP s e d))) [(2,pR H.length),(3,pR n3),(0,pR b)] H3:=by
  have hbl:=hob.lt;have hn3l:=(zl_ h3);refine sW ?_;refine sS (zL e) [.str s,zL e,zK 0,zK 0,zK ↑d] ?_;refine sW ?_;refine sSA (.agg (zN 3 1 [])) ?_
  all_goals exact zAC (o:=0) (ndV (zE3 true)) rfl rfl rfl (zJ hP) rfl rfl rfl hO rfl
theorem zaf (h1:t≠[84,82,85,69]) (ht:t=[70,65,76,83,69]) :
    EW C GT zLz (zJ1 zO H b [] .undef (some (ndV (zE3 false),rP s e d))) [(2,pR H.length),(3,pR n3),(0,pR b)] H3:=by
  have hbl:=hob.lt;have hn3l:=(zl_ h3);refine sW ?_;refine sS (zL e) [.str s,zL e,zK 0,zK 0,zK ↑d] ?_;refine sW ?_;refine sSA (.agg (zN 3 0 [])) ?_
  all_goals exact zAC (o:=0) (ndV (zE3 false)) rfl rfl rfl (zJ hP) rfl rfl rfl hO rfl
theorem zag (h1:t≠[84,82,85,69]) (h22:t≠[70,65,76,83,69]) (x:RefP) (hr:∀ H,C zp [.str t] H (.tup [.agg [zK x.col,zK x.row,.bool x.fc,.bool x.fr],.bool true]) H) :
    EW C GT zLz (zJ1 zO H b [] .undef (some (ndV (zB3 x),rP s e d))) [(2,pR H.length),(3,pR n3),(0,pR b)] H3:=by
  have hbl:=hob.lt;have hn3l:=(zl_ h3);refine sW ?_;refine sS (zL e) [.str s,zL e,zK 0,zK 0,zK ↑d] ?_;refine sW ?_;refine sSA (.agg [zK x.col,zK x.row,.bool x.fc,.bool x.fr]) ?_;refine sW ?_;refine sSA (.agg [.int .i64 5,.int .i64 0,.str [],zK x.col,zK x.row,.bool x.fc,.bool x.fr,.int .i64 0,.int .i64 0,.bool false,.bool false,.lst (some true) 0 []]) ?_
  all_goals exact zAC (o:=0) (ndV (zB3 x)) rfl rfl rfl (zJ hP) rfl rfl rfl hO rfl
theorem zah (h1:t≠[84,82,85,69]) (h22:t≠[70,65,76,83,69]) (hr:∀ H,C zp [.str t] H (.tup [.agg zP,.bool false]) H) (hf:∀ H,H[b]?=some (rP s e d)->C zl [pR b,zL q,.int .i64 2] H (.tup []) (H.set b (pB s e q 2 d))) :
    EW C GT zLz (zJ1 zO H b [] .undef (some (ndV zU,pB s e q 2 d))) [(2,pR H.length),(3,pR n3),(0,pR b)] H3:=by
  have hbl:=hob.lt;have hn3l:=(zl_ h3);refine sW ?_;refine sS (zL e) [.str s,zL e,zK 0,zK 0,zK ↑d] ?_;refine sW ?_;refine sSA (.agg zP) ?_;refine sW ?_;refine sSA (.agg (zN 0 0 [])) ?_
  all_goals exact zAC (o:=0) (ndV zU) rfl rfl rfl (zJ hP) rfl rfl rfl hO rfl
end
theorem zai (hcd:∀ H,C z6 [.str t] H (.bool true) H) (c:UInt8) (hc:s[e]?=some c) (hc40:c.toNat≠40) (n:Int) (hw:∀ H,C zw [.str t,.bool false] H (.tup [zK n,.bool true]) H) :
    EW C GT zLz (zJ1 zO H b [] .undef (some (ndV (zJj n),rP s e d))) [(2,pR H.length),(3,pR n3),(0,pR b)] H3:=by
  have hbl:=hob.lt;have hn3l:=(zl_ h3);have hel:=(zl_ hc);refine sW ?_;refine sS (zL e) [.str s,zL e,zK 0,zK 0,zK ↑d] ?_;refine sW ?_;refine sSA (.agg (zN 1 n [])) ?_
  all_goals exact zAC (o:=0) (ndV (zJj n)) rfl rfl rfl (zJ hP) rfl rfl rfl hO rfl
section
variable (hcd:∀ H,C z6 [.str t] H (.bool true) H) (c:UInt8) (hc:s[e]?=some c) (hc40:c.toNat≠40) (hw:∀ H,C zw [.str t,.bool false] H (.tup [zK 0,.bool false]) H)
include hcd c hc hc40 hw
theorem zaj (ht:t=[84,82,85,69]) :
    EW C GT zLz (zJ1 zO H b [] .undef (some (ndV (zE3 true),rP s e d))) [(2,pR H.length),(3,pR n3),(0,pR b)] H3:=by
  have hbl:=hob.lt;have hn3l:=(zl_ h3);have hel:=(zl_ hc);refine sW ?_;refine sS (zL e) [.str s,zL e,zK 0,zK 0,zK ↑d] ?_;refine sW ?_;refine sSA (.agg (zN 3 1 [])) ?_
  all_goals exact zAC (o:=0) (ndV (zE3 true)) rfl rfl rfl (zJ hP) rfl rfl rfl hO rfl
theorem zak (h1:t≠[84,82,85,69]) (ht:t=[70,65,76,83,69]) :
    EW C GT zLz (zJ1 zO H b [] .undef (some (ndV (zE3 false),rP s e d))) [(2,pR H.length),(3,pR n3),(0,pR b)] H3:=by
  have hbl:=hob.lt;have hn3l:=(zl_ h3);have hel:=(zl_ hc);refine sW ?_;refine sS (zL e) [.str s,zL e,zK 0,zK 0,zK ↑d] ?_;refine sW ?_;refine sSA (.agg (zN 3 0 [])) ?_
  all_goals exact zAC (o:=0) (ndV (zE3 false)) rfl rfl rfl (zJ hP) rfl rfl rfl hO rfl
theorem zal (h1:t≠[84,82,85,69]) (h22:t≠[70,65,76,83,69]) (x:RefP) (hr:∀ H,C zp [.str t] H (.tup [.agg [zK x.col,zK x.row,.bool x.fc,.bool x.fr],.bool true]) H) :
    EW C GT zLz (zJ1 zO H b [] .undef (some (ndV (zB3 x),rP s e d))) [(2,pR H.length),(3,pR n3),(0,pR b)] H3:=by
  have hbl:=hob.lt;have hn3l:=(zl_ h3);have hel:=(zl_ hc);refine sW ?_;refine sS (zL e) [.str s,zL e,zK 0,zK 0,zK ↑d] ?_;refine sW ?_;refine sSA (.agg [zK x.col,zK x.row,.bool x.fc,.bool x.fr]) ?_;refine sW ?_;refine sSA (.agg [.int .i64 5,.int .i64 0,.str [],zK x.col,zK x.row,.bool x.fc,.bool x.fr,.int .i64 0,.int .i64 0,.bool false,.bool false,.lst (some true) 0 []]) ?_
  all_goals exact zAC (o:=0) (ndV (zB3 x)) rfl rfl rfl (zJ hP) rfl rfl rfl hO rfl
theorem zam (h1:t≠[84,82,85,69]) (h22:t≠[70,65,76,83,69]) (hr:∀ H,C zp [.str t] H (.tup [.agg zP,.bool false]) H) (hf:∀ H,H[b]?=some (rP s e d)->C zl [pR b,zL q,.int .i64 2] H (.tup []) (H.set b (pB s e q 2 d))) :
    EW C GT zLz (zJ1 zO H b [] .undef (some (ndV zU,pB s e q 2 d))) [(2,pR H.length),(3,pR n3),(0,pR b)] H3:=by
  have hbl:=hob.lt;have hn3l:=(zl_ h3);have hel:=(zl_ hc);refine sW ?_;refine sS (zL e) [.str s,zL e,zK 0,zK 0,zK ↑d] ?_;refine sW ?_;refine sSA (.agg zP) ?_;refine sW ?_;refine sSA (.agg (zN 0 0 [])) ?_
  all_goals exact zAC (o:=0) (ndV zU) rfl rfl rfl (zJ hP) rfl rfl rfl hO rfl
end
end
end
theorem zUe:∀ (l:Bs) (i:Nat) (t:Bs) (e:Nat),quo l i=some (t,e)->t.length<=l.length
  |[],_,_,_,h=>by simp [quo] at h
  | [c],i,t,e,h=>by
    simp only [quo] at h;split at h
    · grind
    · cases h
  | c::d::r,i,t,e,h=>by
    simp only [quo] at h;split at h
    · split at h
      · rw [zoV] at h
        obtain ⟨⟨t',e'⟩,h1,h2⟩:=h;simp only [zob] at h2;have:=zUe r (i+2) t' e' h1;rw [<-h2.1];simp;omega
      · simp only [zoS,zob] at h;obtain ⟨rfl,_⟩:=h;simp
    · rw [zoV] at h
      obtain ⟨⟨t',e'⟩,h1,h2⟩:=h;simp only [zob] at h2;have:=zUe (d::r) (i+1) t' e' h1;rw [<-h2.1];simp at this ⊢;omega
theorem zgC (l:Bs):∀ (ts:List Bs) (k j n:Nat),zKK l ts k=some (j,n)->k<=j/\j<k+ts.length
  |[],_,_,_,h=>by simp [zKK] at h
  | t::ts,k,j,n,h=>by
    unfold zKK at h;split at h
    · grind
    · have:=zgC l ts (k+1) j n h
      simp;omega
theorem zan {s:Bs} {a e k:Nat} (h:tok s a=.bad e k):1<=k/\k<=6:=by
  unfold tok zBi at h;split at h
  · cases h
  · split at h
    · cases h
    · split at h
      · split at h <;> cases h
      · split at h
        · split at h
          · rename_i hb
            cases h;have:=zgC _ _ _ _ _ hb;have h6:wrongs.length=6:=rfl;omega
          · cases h
        · split at h
          · split at h <;> cases h
          · cases h
theorem zUf {s:Bs} {a:Nat} (ha:a<=s.length) (hl:s.length<=200):(tkT (tok s a)).length<=200:=by
  cases hk:tok s a with
  |fin=>simp [tkT]
  |none=>simp [tkT]
  | bad e k=>
    have:=zan hk;obtain ⟨h1,h6⟩:=this;have:∀ j:Fin 7,(wrongs.getD (j.val-1) []).length<=200:=by decide
    exact this ⟨k,by omega⟩
  | word e t=>
    unfold tok zBi at hk;split at hk
    · cases hk
    · split at hk
      · cases hk
        simp only [tkT,sub,zon,zok];omega
      · split at hk
        · split at hk <;> cases hk
        · split at hk
          · split at hk <;> cases hk
          · split at hk
            · split at hk <;> cases hk
            · cases hk
  | txt e t=>
    unfold tok zBi at hk;split at hk
    · cases hk
    · split at hk
      · cases hk
      · split at hk
        · split at hk
          · rename_i hq
            cases hk;have:=zUe _ _ _ _ hq;rw [zok] at this;simp only [tkT];omega
          · cases hk
        · split at hk
          · split at hk <;> cases hk
          · split at hk
            · split at hk <;> cases hk
            · cases hk
  | sign e t=>
    unfold tok zBi at hk;split at hk
    · cases hk
    · split at hk
      · cases hk
      · split at hk
        · split at hk <;> cases hk
        · split at hk
          · split at hk <;> cases hk
          · split at hk
            · split at hk <;> (cases hk;simp [tkT])
            · cases hk;simp [tkT]
theorem zao:∀ k:Fin 7,∀ i:Fin 7,i<k->wrL.getD i.val []≠wrL.getD k.val []:=by decide
section
variable {C:CSpec} {GT:zG_}
theorem zhb (n:Nat) (H:Heap):EFun C GT zH7 [zL n] H (.agg [.int .i64 4,zL n,.str []]) H:=by
  refine zH ?_;refine za (v:=[.int .i64 4,zL n,.str []]) rfl<|zM (v:=AV.agg [.int .i64 4,zL n,.str []]) (AV.cells (.agg [.int .i64 4,zL n,.str []])) zB rfl rfl rfl rfl ?_
  exact zAU (o:=0) rfl rfl (zJ hP) rfl rfl rfl (((Old.refl _).push _).set tA _)
theorem zap (hR:∀ H,C zBf [] H (.lst (some false) 1 (wrL.map AV.str)) H) (hB:∀ n H,C zDr [zL n] H (.agg [.int .i64 4,zL n,.str []]) H)
    (k:Nat) (h1:1<=k) (h6:k<=6) (H:Heap):EFun C GT zGH [.str (wrongs.getD (k-1) [])] H (.tup [.agg [.int .i64 4,zL k,.str []],.bool true]) H:=by
  obtain ⟨t,ht⟩:∃ t,wrongs.getD (k-1) []=t:=⟨_,rfl⟩;have htk:wrL.getD k []=t:=by
    obtain ⟨j,rfl⟩:∃ j,k=j+1:=⟨k-1,by omega⟩;rw [zmT] at ht;exact ht
  have n1:(t==([84,82,85,69]:Bs))=false/\(t==([70,65,76,83,69]:Bs))=false:=by
    have:∀ j:Fin 7,((wrL.getD j.val []==([84,82,85,69]:Bs))=false/\(wrL.getD j.val []==([70,65,76,83,69]:Bs))=false):=by decide
    have:=this ⟨k,by omega⟩;rw [<-htk];exact this
  rw [ht];have hb:=hB k;clear hB;refine zH ?_;refine zc n1.1<|zC<|zc n1.2<|zI (hR _) ?_
  have hwl:(List.map AV.str wrL).length=7:=rfl;refine zAr (fun i:Nat=>[(2,pR H.length),(5,zL i),(0,.str t),(4,.lst (some false) 1 (wrL.map AV.str))]) (fun i H'=>H'=H++[.box zV3]/\1<=i/\i<=k) (fun i=>k-i) 1 rfl ⟨rfl,by omega,h1⟩ (fun i H1 ⟨e,hi1,hik⟩=>?_);subst e
  try dsimp only
  obtain ⟨u,hu⟩:∃ u,wrL[i]?=some u:=⟨_,zoO (by have:wrL.length=7:=rfl;omega)⟩;have hum:(wrL.map AV.str)[i]?=some (.str u):=by rw [zoX,hu];rfl
  have hud:wrL.getD i []=u:=by rw [zmd,hu];rfl
  by_cases hlt:i<k
  · have hne:u≠t:=by
      have:=zao ⟨k,by omega⟩ ⟨i,by omega⟩ hlt;rw [<-hud,<-htk];exact this
    clear hb;refine zPC<|zt tT<|zSO rfl hum<|z8 (.str u) rfl<|zc (tN hne)<|zQ (r:=i+1) rfl tO ?_
    exact zAJ (i+1) rfl ⟨rfl,by omega,by omega⟩ tO
  · have hi:i=k:=by omega
    subst hi;have he:u=t:=by rw [<-hud,<-htk]
    refine zPC<|zt tT<|zSO rfl hum<|z8 (.str u) rfl<|zt (tE he)<|zI (hb _) ?_
    refine zM (v:=AV.agg [.int .i64 4,zL i,.str []]) (AV.cells (.agg [.int .i64 4,zL i,.str []])) zB rfl rfl rfl rfl ?_
    all_goals exact zj (v:=.agg [.int .i64 4,zL i,.str []]) (v1:=.bool true) (o:=0) rfl rfl (zJ hP) rfl rfl rfl rfl (((Old.refl _).push _).set (zoR _) _)
end
def zSx:Option RefP->AV
  |some r=>.tup [.agg [zK r.col,zK r.row,.bool r.fc,.bool r.fr],.bool true]
  |none=>.tup [.agg zP,.bool false]
theorem zQI {s r:Bs} {i:Nat} {c:UInt8} (h:s.drop i=c::r):s[i]?=some c/\s.drop (i+1)=r:=by
  refine ⟨?_, ?_⟩
  · rw [<-List.head?_drop,h];rfl
  · rw [<-List.tail_drop,h];rfl
theorem zVu {s:Bs} {i:Nat} {c:UInt8} (h:s[i]?=some c):i<s.length:=(zl_ h)
section
variable {C:CSpec} {GT:zG_} (hW:∀ s H,s.length<=200->C zw [.str s,.bool false] H (zKr (zCL s)) H) {s t:Bs} {H H1:Heap} {i n4:Nat} (ht:s.drop i=t) (hi:i<=s.length) (hl:s.length<=200) (hn:H.length<n4) (ho:Old H H1) (h2:H1[H.length]?=some (.box zP)) {fc:Bool}
include hW ht hi hl hn ho h2
theorem zRR {x:Int} {fr:Bool} (h4:H1[n4]?=some (.box [.int .i64 x,.int .i64 0,.bool fc,.bool fr])) :
    EW C GT (zIA.behind 8) (zf2 zDt H (zSx (zdR fc x (fr,t))) H) [(2,pR H.length),(4,pR n4),(5,zL i),(0,.str s)] H1:=by
  have hw:=fun H=>hW t H (by rw [<-ht,zok];omega);have hsl:zCm none (.str s) (some (zL i)) none=some (.str t):=ht ▸ zIJ s i hi;have hg2:=(zl_ h2);have hg4:=(zl_ h4);unfold zdR;dsimp only;clear hW;cases hwp:zCL t with
  | none=>
    rw [hwp] at hw;have hw:∀ H,C zw _ H (.tup [zK 0,.bool false]) H:=hw;refine za hsl<|zI (hw _)<|za rfl<|za rfl ?_
    refine zD<|zD<|zD<|zD<|zD<|za (v:=zP) rfl ?_
    refine zM (v:=.agg zP) (AV.cells (.agg zP)) h2 rfl rfl rfl rfl ?_
    all_goals exact zj (v:=.agg zP) (v1:=.bool false) (o:=0) rfl rfl (zJ hP) rfl rfl rfl rfl (ho.set (zoR _) _)
  | some n=>
    rw [hwp] at hw;have hw:∀ H,C zw _ H (.tup [zK n,.bool true]) H:=hw;by_cases h:1<=n/\n<=99
    · simp only [zoQ h]
      refine za hsl<|zI (hw _)<|za rfl<|za rfl ?_
      refine zC<|zC<|zc tF<|zC<|zc tF<|zM (v:=zK n) [.int .i64 x,zK n,.bool fc,.bool fr] h4 rfl rfl rfl rfl ?_
      refine zA (.agg [.int .i64 x,zK n,.bool fc,.bool fr]) (zS h4) rfl<|zM (v:=AV.agg [.int .i64 x,zK n,.bool fc,.bool fr]) (AV.cells (.agg [.int .i64 x,zK n,.bool fc,.bool fr])) (zE tA h2) rfl rfl rfl rfl ?_
      all_goals exact zj (v:=.agg [zK x,zK n,.bool fc,.bool fr]) (v1:=.bool true) (o:=0) rfl rfl (zJ hP) rfl rfl rfl rfl ((ho.set (zoB hn) _).set (zoR _) _)
    · simp only [zWl h]
      by_cases h1:n<1
      · refine za hsl<|zI (hw _)<|za rfl<|za rfl ?_
        refine zC<|zC<|zt tT<|zD<|zD<|za (v:=zP) rfl ?_
        refine zM (v:=.agg zP) (AV.cells (.agg zP)) h2 rfl rfl rfl rfl ?_
        all_goals exact zj (v:=.agg zP) (v1:=.bool false) (o:=0) rfl rfl (zJ hP) rfl rfl rfl rfl (ho.set (zoR _) _)
      · have h99:99<n:=by omega
        refine za hsl<|zI (hw _)<|za rfl<|za rfl ?_
        refine zC<|zC<|zc tF<|zC<|zt tT<|za (v:=zP) rfl ?_
        refine zM (v:=.agg zP) (AV.cells (.agg zP)) h2 rfl rfl rfl rfl ?_
        all_goals exact zj (v:=.agg zP) (v1:=.bool false) (o:=0) rfl rfl (zJ hP) rfl rfl rfl rfl (ho.set (zoR _) _)
theorem zRS (h4:H1[n4]?=some (.box [.int .i64 0,.int .i64 0,.bool fc,.bool false])) :
    EW C GT (zIA.behind 4) (zf2 zDt H (zSx (zRq (fc,t))) H) [(2,pR H.length),(4,pR n4),(0,.str s),(5,zL i)] H1:=by
  have hg2:=(zl_ h2);have hg4:=(zl_ h4);cases t with
  | nil=>
    have hi2:s.length<=i:=by have:=zod List.length ht;rw [zok] at this;simp at this;omega
    show EW C GT _ (zf2 zDt H (.tup [.agg zP,.bool false]) H) _ _;refine zt tT<|zD<|zD<|zD<|zD<|za (v:=zP) rfl ?_
    refine zM (v:=.agg zP) (AV.cells (.agg zP)) h2 rfl rfl rfl rfl ?_
    all_goals exact zj (v:=.agg zP) (v1:=.bool false) (o:=0) rfl rfl (zJ hP) rfl rfl rfl rfl (ho.set (zoR _) _)
  | cons c r=>
    obtain ⟨hc,hr⟩:=zQI ht;have hi2:=zVu hc;have hcn:c.toNat<256:=zmv c;by_cases g1:c.toNat<65
    · have e:zRq (fc,c::r)=none:=zWl fun h=>by unfold zO7 at h;simp only [zTo,zoY] at h;omega
      rw [e];refine zc tF<|zCF rfl hc<|zC<|zt tT<|zD<|zD ?_
      refine za (v:=zP) rfl<|zM (v:=.agg zP) (AV.cells (.agg zP)) h2 rfl rfl rfl rfl ?_
      all_goals exact zj (v:=.agg zP) (v1:=.bool false) (o:=0) rfl rfl (zJ hP) rfl rfl rfl rfl (ho.set (zoR _) _)
    by_cases g2:90<c.toNat
    · have e:zRq (fc,c::r)=none:=zWl fun h=>by unfold zO7 at h;simp only [zTo,zoY] at h;omega
      rw [e];refine zc tF<|zCF rfl hc<|zC<|zc tF<|zCF rfl hc ?_
      refine zC<|zt tT<|za (v:=zP) rfl<|zM (v:=.agg zP) (AV.cells (.agg zP)) h2 rfl rfl rfl rfl ?_
      all_goals exact zj (v:=.agg zP) (v1:=.bool false) (o:=0) rfl rfl (zJ hP) rfl rfl rfl rfl (ho.set (zoR _) _)
    have e:zRq (fc,c::r)=zdR fc ((c.toNat-64:Nat):Int) (dollar r):=(zoQ (by unfold zO7;simp only [zTo,zoY];omega)).trans (by rw [show ((c.toNat-64:Nat):Int)=(c.toNat:Int)-64 by omega]);rw [e];have hq:=fun x=>ho.set (b:=n4) (zoB hn) x;cases r with
    | nil=>
      have hi3:s.length<=i+1:=by have:=zod List.length hr;rw [zok] at this;simp at this;omega
      have key:=zRR (GT:=GT) hW hr tO hl hn (hq _) (zE tO h2) (fc:=fc) (x:=((c.toNat-64:Nat):Int)) (fr:=false) (zS h4);refine zc tF<|zCF rfl hc<|zC<|zc tF<|zCF rfl hc ?_
      refine zC<|zc tF<|zCF rfl hc<|zQ (r:=c.toNat) tO tO<|zQ (r:=c.toNat-64) tO tO<|zM (v:=.int .i64 ↑(c.toNat-64)) [.int .i64 ↑(c.toNat-64),.int .i64 0,.bool fc,.bool false] h4 rfl rfl rfl rfl ?_
      refine zQ (r:=i+1) tO tO<|zc tF<|zC<|zC<|zPX rfl key ?_
      rfl
    | cons c2 r2=>
      obtain ⟨hc2,hr2⟩:=zQI hr;have hi3:=zVu hc2;by_cases h36:c2=36
      · subst h36
        have key:=zRR (GT:=GT) hW hr2 tO hl hn ((hq (.box [.int .i64 ((c.toNat-64:Nat):Int),.int .i64 0,.bool fc,.bool false])).set (b:=n4) (zoB hn) _) (zE tO (zE tO h2)) (fc:=fc) (x:=((c.toNat-64:Nat):Int)) (fr:=true) (zS (zS h4));refine zc tF<|zCF rfl hc<|zC<|zc tF<|zCF rfl hc ?_
        refine zC<|zc tF<|zCF rfl hc<|zQ (r:=c.toNat) tO tO<|zQ (r:=c.toNat-64) tO tO<|zM (v:=.int .i64 ↑(c.toNat-64)) [.int .i64 ↑(c.toNat-64),.int .i64 0,.bool fc,.bool false] h4 rfl rfl rfl rfl ?_
        refine zQ (r:=i+1) tO tO<|zt tT<|zCF rfl hc2<|zD<|zD<|zM (v:=AV.bool true) [.int .i64 ↑(c.toNat-64),.int .i64 0,.bool fc,.bool true] (zS h4) rfl rfl rfl rfl ?_
        refine zQ (r:=i+1+1) tO tO<|zPX rfl key ?_
        rfl
      · have h36':c2.toNat≠36:=fun e=>h36 (zoi.1 e)
        have key:=zRR (GT:=GT) hW hr tO hl hn (hq _) (zE tO h2) (fc:=fc) (x:=((c.toNat-64:Nat):Int)) (fr:=false) (zS h4);rw [show dollar (c2::r2)=(false,c2::r2) by simp [dollar,h36]];refine zc tF<|zCF rfl hc<|zC<|zc tF<|zCF rfl hc ?_
        refine zC<|zc tF<|zCF rfl hc<|zQ (r:=c.toNat) tO tO<|zQ (r:=c.toNat-64) tO tO<|zM (v:=.int .i64 ↑(c.toNat-64)) [.int .i64 ↑(c.toNat-64),.int .i64 0,.bool fc,.bool false] h4 rfl rfl rfl rfl ?_
        refine zQ (r:=i+1) tO tO<|zt tT<|zCF rfl hc2<|zD<|zc tF<|zPX rfl key ?_
        rfl
end
section
variable {C:CSpec} {GT:zG_}
theorem zhc (hW:∀ s H,s.length<=200->C zw [.str s,.bool false] H (zKr (zCL s)) H) (s:Bs) (H:Heap) (hl:s.length<=200):EFun C GT zDt [.str s] H (zSx (zE8 s)) H:=by
  have h2:((H++[ABlk.box zP])++[ABlk.box zP])[H.length]?=_:=zG zB;have h4:=zB (H:=H++[ABlk.box zP]) (x:=ABlk.box zP);have ho:=((Old.refl H).push [ABlk.box zP]).push [ABlk.box zP];have hn:H.length<(H++[ABlk.box zP]).length:=by simp
  refine zH ?_;cases s with
  | nil=>
    have key:=zRS (GT:=GT) hW (s:=[]) (t:=[]) (i:=0) (fc:=false) rfl (zoR _) hl hn ho h2 h4;refine zC<|zC<|zC<|zPX rfl key ?_
    rfl
  | cons c r=>
    have hc:(c::r)[0]?=some c:=rfl;have hr:(c::r).length=r.length+1:=rfl;by_cases h36:c=36
    · subst h36
      have key:=zRS (GT:=GT) hW (s:=36::r) (t:=r) (i:=1) (fc:=true) rfl zS_ hl hn (ho.set (zoB hn) _) (zE tO h2) (zS h4);rw [show zE8 (36::r)=zRq (true,r) by simp [zE8,dollar]];refine zt tT<|zCF rfl hc<|zD<|zD<|zM (v:=AV.bool true) [.int .i64 0,.int .i64 0,.bool true,.bool false] zB rfl rfl rfl rfl<|zQ (r:=1) rfl tO ?_
      exact zPX rfl key rfl
    · have h36':c.toNat≠36:=fun e=>h36 (zoi.1 e)
      have key:=zRS (GT:=GT) hW (s:=c::r) (t:=c::r) (i:=0) (fc:=false) rfl (zmB _) hl hn ho h2 h4;rw [show zE8 (c::r)=zRq (false,c::r) by simp [zE8,dollar,h36]];refine zt tT<|zCF rfl hc<|zD<|zc tF<|zPX rfl key ?_
      rfl
end
def CFd (C:CSpec) (f:Nat) (args:List AV) (b:Nat) (s:Bs) (p d d2:Nat) (r:Option (Nd×Nat)):Prop:=
  (∀ n e,r=some (n,e)->∀ H,H[b]?=some (rP s p d)->C f args H (ndV n) (H.set b (rP s e d2))) /\
  (r=none->∃ (n:Nd) (a:Nat) (w e d':Int),e≠0/\a<=s.length/\∀ H,H[b]?=some (rP s p d)->C f args H (ndV n) (H.set b (pB s a w e d')))
section
variable {C:CSpec} {GT:zG_}
theorem zhd (hT:∀ s a H,a<=s.length->s.length<=1000->C zm [.str s,zL a] H (tkV s a) H)
    (hCd:∀ s H,s.length<=1000->C z6 [.str s] H (.bool (zA3 s)) H)
    (hW:∀ s H,s.length<=200->C zw [.str s,.bool false] H (zKr (zCL s)) H)
    (hR:∀ s H,s.length<=200->C zp [.str s] H (zSx (zE8 s)) H)
    (hNm:∀ k H,1<=k->k<=6->C zCa [.str (wrongs.getD (k-1) [])] H (.tup [.agg [.int .i64 4,zL k,.str []],.bool true]) H)
    (hF:∀ b s p d a e H,H[b]?=some (pB s p 0 0 d)->C zl [pR b,zK a,zK e] H (.tup []) (H.set b (pB s p a e d)))
    (hD:∀ b s p (d:Nat) a H,H[b]?=some (pB s p 0 0 d)->d<=1000->(d=30->C zZ [pR b,zK a] H (.bool false) (H.set b (pB s p a 4 d)))/\(d≠30->C zZ [pR b,zK a] H (.bool true) (H.set b (pB s p 0 0 (d+1:Nat)))))
    (hC1:∀ b s p d e H,H[b]?=some (rP s p (d+1))->p<=s.length->s.length<=200->d<=1000->tok s p=.sign e [41]->C zY [pR b] H (.tup []) (H.set b (rP s e d)))
    (hC2:∀ b s p d H,H[b]?=some (rP s p (d+1))->p<=s.length->s.length<=200->d<=1000->(¬ ∃ e,tok s p=.sign e [41])->C zY [pR b] H (.tup []) (H.set b (pB s (tkE (skip s p) (tok s p):Nat) (skip s p:Nat) 2 d)))
    (hC3:∀ b s (p:Nat) w e d H,H[b]?=some (pB s p w e d)->e≠0->p<=s.length->s.length<=200->C zY [pR b] H (.tup []) (H.set b (pB s (tkE (skip s p) (tok s p):Nat) w e (IntKind.wrap .i64 (d-1)))))
    (b:Nat) (s:Bs) (p d:Nat) (hp:p<=s.length) (hl:s.length<=200) (hd:d<=1000)
    (hOne:∀ a,p<a->a<=s.length->CF C zAW [pR b] b s a (d+1) ((P s).one a (d+1)))
    (hLo:∀ a,p<a->a<=s.length->CF C zX [pR b,.int .i64 1] b s a (d+1) ((P s).loose 1 a (d+1)))
    (hCa:∀ e t,s[e]?=some 40->p<e->t.length<=200->CFd C zCZ [pR b,.str t] b s e (d+1) d (zIm s t e (d+1))) :
    EF C GT zO [pR b] b s p d ((P s).one p d):=by
  rw [zPZ d hp];have hn3:∀ H:Heap,(H++[ABlk.box (ndC zU)]).length=H.length+1:=fun H=>by simp
  have hel:=zKO hp;have htl:=zUf hp hl;have hend:=zB7 s p;have go:∀ (k:Tok) (r:AV×ABlk),tok s p=k->(∀ (H H3:Heap) (n3:Nat),n3=H.length+1->OldB H b (rP s p d) H3->H3[b]?=some (rP s p d)->H3[H.length]?=some (.box (ndC zU))->H3[n3]?=some (.box [zL (tkK k),zL (skip s p),zL (tkE (skip s p) k),.str (tkT k)]) ->
      EW C GT zLz (zJ1 zO H b [] .undef (some r)) [(2,pR H.length),(3,pR n3),(0,pR b)] H3)->∀ H,H[b]?=some (rP s p d)->zCk C GT zO [pR b] H b [] .undef (some r):=fun k r hk h H hb=>by
    refine zaW hT b s p d H hb hp hl _ fun H3 g1 g2 g3 g4=>?_;rw [hk] at g4;exact h H H3 _ (hn3 H) g1 g2 g3 g4
  have fail:∀ k:Tok,tok s p=k->(∀ H:Heap,H[b]?=some (rP s (tkE (skip s p) k) d)->C zl [pR b,zL (skip s p),.int .i64 2] H (.tup []) (H.set b (pB s (tkE (skip s p) k:Nat) (skip s p:Nat) 2 d))):=fun k _ H h=>hF b s _ _ _ _ H h;unfold zB8;cases hk:tok s p with
  | fin=>
    rw [hk] at hel;refine ⟨fun n e h=>(by cases h),fun _=>⟨zU,_,_,2,_,by decide,hel,go _ _ hk fun H H3 n3 g0 g1 g2 g3 g4=>zSw 0 b s p d _ _ _ H H3 n3 g0 g1 g2 g3 g4 hl zD_ zD_ zD_ zD_ (fail _ hk)⟩⟩
  | none=>
    rw [hk] at hel;refine ⟨fun n e h=>(by cases h),fun _=>⟨zU,_,_,2,_,by decide,hel,go _ _ hk fun H H3 n3 g0 g1 g2 g3 g4=>zSw 9 b s p d _ _ _ H H3 n3 g0 g1 g2 g3 g4 hl zD_ zD_ zD_ zD_ (fail _ hk)⟩⟩
  | txt e t=>
    exact ⟨fun n e' h=>by cases h;exact go _ _ hk fun H H3 n3 g0 g1 g2 g3 g4=>zeN b s p d _ _ _ H H3 n3 g0 g1 g2 g3 g4 hl,fun h=>by cases h⟩
  | bad e k=>
    have hkk:=zan hk;exact ⟨fun n e' h=>by cases h;exact go _ _ hk fun H H3 n3 g0 g1 g2 g3 g4=>zeO b s p d _ _ _ H H3 n3 g0 g1 g2 g3 g4 hl k (fun H=>hNm k H hkk.1 hkk.2),fun h=>by cases h⟩
  | sign e t=>
    rw [hk] at hel hend;have hee:p<e/\e<=s.length:=hend;have hd30:d=30->∀ H:Heap,H[b]?=some (rP s e d)->C zZ [pR b,zL (skip s p)] H (.bool false) (H.set b (pB s e (skip s p:Nat) 4 d)):=fun h H hb=>(hD b s e d _ H hb hd).1 h;have hdok:d≠30->∀ H:Heap,H[b]?=some (rP s e d)->C zZ [pR b,zL (skip s p)] H (.bool true) (H.set b (rP s e (d+1:Nat))):=fun h H hb=>(hD b s e d _ H hb hd).2 h;by_cases h45:t=[45]
    · subst h45
      show EF C GT zO [pR b] b s p d (if d=30 then none else ((P s).one e (d+1)).map fun p=>(zl1 p.1,p.2));by_cases h30:d=30
      · rw [zoQ h30]
        exact ⟨fun n e h=>(by cases h),fun _=>⟨zU,_,_,4,_,by decide,hee.2,go _ _ hk fun H H3 n3 g0 g1 g2 g3 g4=>zXq b s p d _ _ _ H H3 n3 g0 g1 g2 g3 g4 hl rfl (hd30 h30)⟩⟩
      rw [zWl h30];have ho:=hOne e hee.1 hee.2;cases hr:(P s).one e (d+1) with
      | some x=>
        obtain ⟨n,e2⟩:=x;exact ⟨fun n' e' h=>by cases h;exact go _ _ hk fun H H3 n3 g0 g1 g2 g3 g4=>zXr b s p d _ _ _ H H3 n3 g0 g1 g2 g3 g4 hl rfl n e2 hd (hdok h30) (ho.1 n e2 hr),fun h=>by cases h⟩
      | none=>
        obtain ⟨n,a,w,ee,d',he0,hal,hh⟩:=ho.2 hr;exact ⟨fun n e h=>(by cases h),fun _=>⟨zl1 n,a,w,ee,_,he0,hal,go _ _ hk fun H H3 n3 g0 g1 g2 g3 g4=>zXs b s p d _ _ _ H H3 n3 g0 g1 g2 g3 g4 hl rfl n a w ee d' (hdok h30) hh⟩⟩
    by_cases h40:t=[40]
    · subst h40
      show EF C GT zO [pR b] b s p d (if d=30 then none else ((P s).loose 1 e (d+1)).bind fun p=>match tok s p.2 with
        |.sign e2 [41]=>some (p.1,e2)
        |_=>none)
      by_cases h30:d=30
      · rw [zoQ h30]
        exact ⟨fun n e h=>(by cases h),fun _=>⟨zU,_,_,4,_,by decide,hee.2,go _ _ hk fun H H3 n3 g0 g1 g2 g3 g4=>zXt b s p d _ _ _ H H3 n3 g0 g1 g2 g3 g4 hl rfl h45 (hd30 h30)⟩⟩
      rw [zWl h30];have ho:=hLo e hee.1 hee.2;cases hr:(P s).loose 1 e (d+1) with
      | some x=>
        obtain ⟨n,e2⟩:=x;have hxe:=(zCr s).loose 1 e (d+1) _ hee.2 hr;simp only at hxe;have ho:=ho.1 n e2 hr;by_cases h41:∃ e3,tok s e2=.sign e3 [41]
        · obtain ⟨e3,h41⟩:=h41
          have e0:(match tok s (n,e2).2 with
            |.sign e2 [41]=>some ((n,e2).1,e2)
            |_=>none)=some (n,e3):=by simp only [h41]
          have e0:((some (n,e2)).bind fun p:Nd×Nat=>match tok s p.2 with
            |.sign e2 [41]=>some (p.1,e2)
            |_=>none)=some (n,e3):=by simp only [zmH,h41]
          rw [e0];exact ⟨fun n' e' h=>by cases h;exact go _ _ hk fun H H3 n3 g0 g1 g2 g3 g4=>zRQ b s p d _ _ _ H H3 n3 g0 g1 g2 g3 g4 hl rfl h45 n _ _ (hdok h30) ho (fun H h=>hC1 b s e2 d e3 H h hxe.2 hl hd h41) (fun _=>rfl),fun h=>by cases h⟩
        · have e0:((some (n,e2)).bind fun p:Nd×Nat=>match tok s p.2 with
            |.sign e2 [41]=>some (p.1,e2)
            |_=>none)=none:=by
            simp only [zmH];split
            · rename_i e3 hk3;exact absurd ⟨e3,hk3⟩ h41
            · rfl
          rw [e0];exact ⟨fun n e h=>(by cases h),fun _=>⟨n,_,_,2,_,by decide,zKO hxe.2,go _ _ hk fun H H3 n3 g0 g1 g2 g3 g4=>zRQ b s p d _ _ _ H H3 n3 g0 g1 g2 g3 g4 hl rfl h45 n _ _ (hdok h30) ho (fun H h=>hC2 b s e2 d H h hxe.2 hl hd h41) (fun _=>rfl)⟩⟩
      | none=>
        obtain ⟨n,a,w,ee,d',he0,hal,hh⟩:=ho.2 hr;exact ⟨fun n e h=>(by cases h),fun _=>⟨n,_,w,ee,_,he0,zKO hal,go _ _ hk fun H H3 n3 g0 g1 g2 g3 g4=>zRQ b s p d _ _ _ H H3 n3 g0 g1 g2 g3 g4 hl rfl h45 n _ _ (hdok h30) hh (fun H h=>hC3 b s a w ee d' H h he0 hal hl) (fun _=>rfl)⟩⟩
    · have main:EF C GT zO [pR b] b s p d none:=⟨fun n e h=>(by cases h),fun _=>⟨zU,_,_,2,_,by decide,hee.2,go _ _ hk fun H H3 n3 g0 g1 g2 g3 g4=>zaX b s p d _ _ _ H H3 n3 g0 g1 g2 g3 g4 hl h45 h40 (fail _ hk)⟩⟩
      split <;> first
        |(rename_i heq;cases heq;done)
        |(rename_i heq;cases heq;exact absurd rfl h45)
        |(rename_i heq;cases heq;exact absurd rfl h40)
        |exact main
  | word e t=>
    rw [hk] at hel hend htl;have hee:p<e/\e<=s.length:=hend;have htl:t.length<=200:=htl;have hd30:d=30->∀ H:Heap,H[b]?=some (rP s e d)->C zZ [pR b,zL (skip s p)] H (.bool false) (H.set b (pB s e (skip s p:Nat) 4 d)):=fun h H hb=>(hD b s e d _ H hb hd).1 h;have hdok:d≠30->∀ H:Heap,H[b]?=some (rP s e d)->C zZ [pR b,zL (skip s p)] H (.bool true) (H.set b (rP s e (d+1:Nat))):=fun h H hb=>(hD b s e d _ H hb hd).2 h;have hcd:=fun H=>hCd t H tO;have hw:=fun H=>hW t H htl;have hr:=fun H=>hR t H htl;show EF C GT zO [pR b] b s p d (if zA3 t=true/\s[e]?=some 40 then (if d=30 then none else zIm s t e (d+1)) else (zII t).map fun n=>(n,e));by_cases hcl:zA3 t=true/\s[e]?=some 40
    · rw [zoQ hcl]
      obtain ⟨hc1,hc2⟩:=hcl;rw [hc1] at hcd;by_cases h30:d=30
      · rw [zoQ h30]
        exact ⟨fun n e h=>(by cases h),fun _=>⟨zU,_,_,4,_,by decide,hee.2,go _ _ hk fun H H3 n3 g0 g1 g2 g3 g4=>zXu b s p d _ _ _ H H3 n3 g0 g1 g2 g3 g4 hl hcd hc2 (hd30 h30)⟩⟩
      rw [zWl h30];have ho:=hCa e t hc2 hee.1 htl;cases hrr:zIm s t e (d+1) with
      | some x=>
        obtain ⟨n,e2⟩:=x;exact ⟨fun n' e' h=>by cases h;exact go _ _ hk fun H H3 n3 g0 g1 g2 g3 g4=>zVt b s p d _ _ _ H H3 n3 g0 g1 g2 g3 g4 hl hcd hc2 n _ (hdok h30) (ho.1 n e2 hrr) (fun _=>rfl),fun h=>by cases h⟩
      | none=>
        obtain ⟨n,a,w,ee,d',he0,hal,hh⟩:=ho.2 hrr;exact ⟨fun n e h=>(by cases h),fun _=>⟨n,a,w,ee,d',he0,hal,go _ _ hk fun H H3 n3 g0 g1 g2 g3 g4=>zVt b s p d _ _ _ H H3 n3 g0 g1 g2 g3 g4 hl hcd hc2 n _ (hdok h30) hh (fun _=>rfl)⟩⟩
    rw [zWl hcl];have ways:(zA3 t=false)\/(zA3 t=true/\s.length<=e)\/(zA3 t=true/\∃ c,s[e]?=some c/\c.toNat≠40):=by
      cases hb:zA3 t with
      |false=>exact .inl rfl
      | true=>
        by_cases hlt:s.length<=e
        · exact .inr (.inl ⟨rfl,hlt⟩)
        · obtain ⟨c,hc⟩:∃ c,s[e]?=some c:=⟨_,zoO tO⟩
          exact .inr (.inr ⟨rfl,c,hc,fun h=>hcl ⟨hb,by rw [hc,show c=40 from zoi.1 h]⟩⟩)
    unfold zII;cases hwp:zCL t with
    | some n=>
      rw [hwp] at hw;have hw:∀ H,C zw [.str t,.bool false] H (.tup [zK n,.bool true]) H:=hw;refine ⟨fun n' e' h=>?_,fun h=>by cases h⟩;cases h;refine go _ _ hk fun H H3 n3 g0 g1 g2 g3 g4=>?_;rcases ways with hb|⟨hb,hle⟩|⟨hb,c,hc,hc40⟩ <;> rw [hb] at hcd
      · exact zaY b s p d _ _ _ H H3 n3 g0 g1 g2 g3 g4 hl hcd n hw
      · exact zad b s p d _ _ _ H H3 n3 g0 g1 g2 g3 g4 hl hcd hle n hw
      · exact zai b s p d _ _ _ H H3 n3 g0 g1 g2 g3 g4 hl hcd c hc hc40 n hw
    | none=>
      rw [hwp] at hw;have hw:∀ H,C zw [.str t,.bool false] H (.tup [zK 0,.bool false]) H:=hw;simp only;by_cases h1:t=zFx
      · rw [zoQ h1]
        refine ⟨fun n' e' h=>?_,fun h=>by cases h⟩;cases h;refine go _ _ hk fun H H3 n3 g0 g1 g2 g3 g4=>?_;rcases ways with hb|⟨hb,hle⟩|⟨hb,c,hc,hc40⟩ <;> rw [hb] at hcd
        · exact zaZ b s p d _ _ _ H H3 n3 g0 g1 g2 g3 g4 hl hcd hw h1
        · exact zae b s p d _ _ _ H H3 n3 g0 g1 g2 g3 g4 hl hcd hle hw h1
        · exact zaj b s p d _ _ _ H H3 n3 g0 g1 g2 g3 g4 hl hcd c hc hc40 hw h1
      rw [zWl h1];by_cases h2:t=zDS
      · rw [zoQ h2]
        refine ⟨fun n' e' h=>?_,fun h=>by cases h⟩;cases h;refine go _ _ hk fun H H3 n3 g0 g1 g2 g3 g4=>?_;rcases ways with hb|⟨hb,hle⟩|⟨hb,c,hc,hc40⟩ <;> rw [hb] at hcd
        · exact zaa b s p d _ _ _ H H3 n3 g0 g1 g2 g3 g4 hl hcd hw h1 h2
        · exact zaf b s p d _ _ _ H H3 n3 g0 g1 g2 g3 g4 hl hcd hle hw h1 h2
        · exact zak b s p d _ _ _ H H3 n3 g0 g1 g2 g3 g4 hl hcd c hc hc40 hw h1 h2
      rw [zWl h2];cases hrp:zE8 t with
      | some x=>
        rw [hrp] at hr;have hr:∀ H,C zp [.str t] H (.tup [.agg [zK x.col,zK x.row,.bool x.fc,.bool x.fr],.bool true]) H:=hr;refine ⟨fun n' e' h=>?_,fun h=>by cases h⟩;cases h;refine go _ _ hk fun H H3 n3 g0 g1 g2 g3 g4=>?_;rcases ways with hb|⟨hb,hle⟩|⟨hb,c,hc,hc40⟩ <;> rw [hb] at hcd
        · exact zab b s p d _ _ _ H H3 n3 g0 g1 g2 g3 g4 hl hcd hw h1 h2 x hr
        · exact zag b s p d _ _ _ H H3 n3 g0 g1 g2 g3 g4 hl hcd hle hw h1 h2 x hr
        · exact zal b s p d _ _ _ H H3 n3 g0 g1 g2 g3 g4 hl hcd c hc hc40 hw h1 h2 x hr
      | none=>
        rw [hrp] at hr;have hr:∀ H,C zp [.str t] H (.tup [.agg zP,.bool false]) H:=hr;refine ⟨fun n e h=>(by cases h),fun _=>⟨zU,e,(skip s p:Nat),2,(d:Nat),by decide,hee.2,go _ _ hk fun H H3 n3 g0 g1 g2 g3 g4=>?_⟩⟩;rcases ways with hb|⟨hb,hle⟩|⟨hb,c,hc,hc40⟩ <;> rw [hb] at hcd
        · exact zac b s p d _ _ _ H H3 n3 g0 g1 g2 g3 g4 hl hcd hw h1 h2 hr (fail _ hk)
        · exact zah b s p d _ _ _ H H3 n3 g0 g1 g2 g3 g4 hl hcd hle hw h1 h2 hr (fail _ hk)
        · exact zam b s p d _ _ _ H H3 n3 g0 g1 g2 g3 g4 hl hcd c hc hc40 hw h1 h2 hr (fail _ hk)
end
structure Bd where
  a:Nat
  w:Int
  e:Int
  d:Int
def Bd.ok (s:Bs) (W:Bd):Prop:=W.e≠0/\W.a<=s.length
def Bd.blk (s:Bs) (W:Bd):ABlk:=pB s W.a W.w W.e W.d
def LoF (C:CSpec) (b:Nat) (s:Bs) (d l a:Nat) (W:Bd):Prop:=W.ok s/\∃ n:Nd,∀ H,H[b]?=some (rP s a d)->C zX [pR b,zL l] H (ndV n) (H.set b (W.blk s))
inductive LF (C:CSpec) (b:Nat) (s:Bs) (d l:Nat):Nd->Nat->Bd->Prop where
  |now (n:Nd) (a op e:Nat) (W:Bd) (ho:zHl s a=some (op,e)) (ht:¬ tight op<l) (h:LoF C b s d (tight op+1) e W):LF C b s d l n a W
  |later (n m:Nd) (a op e e2:Nat) (W:Bd) (ho:zHl s a=some (op,e)) (ht:¬ tight op<l) (h:(P s).loose (tight op+1) e d=some (m,e2)) (k:LF C b s d l (zAn op n m) e2 W):LF C b s d l n a W
theorem LF.ok {C:CSpec} {b:Nat} {s:Bs} {d l:Nat} {n:Nd} {a:Nat} {W:Bd} (h:LF C b s d l n a W):W.ok s:=by
  induction h with
  |now _ _ _ _ _ _ _ h=>exact h.1
  |later _ _ _ _ _ _ _ _ _ _ _ ih=>exact ih
theorem zhe {C:CSpec} {b:Nat} {s:Bs} {d l:Nat} (p:Nat) (hLo:∀ a l',p<a->a<=s.length->CF C zX [pR b,zL l'] b s a d ((P s).loose l' a d)):∀ (k:Nat) (n:Nd) (a:Nat),p<a->a<=s.length->s.length-a<=k->(P s).ll l n a d=none->∃ W,LF C b s d l n a W:=by
  intro k;induction k with
  | zero=>
    intro n a hpa ha hk h;rw [zTf l n d ha] at h;unfold zNV at h;split at h
    · cases h
    · rename_i op e ho
      have:=zDh ho;omega
  | succ k ih=>
    intro n a hpa ha hk h;rw [zTf l n d ha] at h;unfold zNV at h;split at h
    · cases h
    · rename_i op e ho
      have he:=zDh ho;split at h
      · cases h
      · rename_i ht
        cases hl:(P s).loose (tight op+1) e d with
        | none=>
          obtain ⟨n',a',w,e',d',h1,h2,h3⟩:=(hLo e (tight op+1) tO he.2).2 hl;exact ⟨⟨a',w,e',d'⟩,.now n a op e _ ho ht ⟨⟨h1,h2⟩,n',h3⟩⟩
        | some q=>
          obtain ⟨m,e2⟩:=q;rw [hl] at h;have hq:=(zCr s).loose _ e d _ he.2 hl;simp only at hq;obtain ⟨W,hW⟩:=ih (zAn op n m) e2 tO hq.2 tO h;exact ⟨W,.later n m a op e e2 W ho ht hl hW⟩
structure LSt where
  m:Nat
  a:Nat
  n:Nd
  x:AV
section
variable {C:CSpec} {GT:zG_}
def LoR (C:CSpec) (b:Nat) (s:Bs) (d l:Nat) (n:Nd) (a:Nat) (RV:AV) (RB:ABlk):Prop:=
  (∃ n' e',(P s).ll l n a d=some (n',e')/\RV=ndV n'/\RB=rP s e' d)\/(∃ W:Bd,LF C b s d l n a W/\RV=ndV zU/\RB=W.blk s)
theorem LoR.stop {b:Nat} {s:Bs} {d l:Nat} {n:Nd} {a:Nat} {RV:AV} {RB:ABlk} (h:LoR C b s d l n a RV RB) (ha:a<=s.length) (ho:∀ op e,zHl s a=some (op,e)->tight op<l):RV=ndV n/\RB=rP s a d:=by
  rcases h with ⟨n',e',h1,h2,h3⟩|⟨W,hW,_⟩
  · rw [zTf l n d ha] at h1
    unfold zNV at h1;split at h1
    · cases h1;exact ⟨h2,h3⟩
    · rename_i op e hop
      rw [zoQ (ho op e hop)] at h1;cases h1;exact ⟨h2,h3⟩
  · cases hW with
    |now _ _ op e _ hop ht h=>exact absurd (ho _ _ hop) ht
    |later _ m _ op e e2 _ hop ht h k=>exact absurd (ho _ _ hop) ht
theorem LoR.go {b:Nat} {s:Bs} {d l:Nat} {n:Nd} {a op e:Nat} {RV:AV} {RB:ABlk} (h:LoR C b s d l n a RV RB) (ha:a<=s.length) (ho:zHl s a=some (op,e)) (ht:¬ tight op<l) :
    (∃ m e2,(P s).loose (tight op+1) e d=some (m,e2)/\LoR C b s d l (zAn op n m) e2 RV RB)\/(∃ W:Bd,LoF C b s d (tight op+1) e W/\RV=ndV zU/\RB=W.blk s):=by
  rcases h with ⟨n',e',h1,h2,h3⟩|⟨W,hW,h2,h3⟩
  · rw [zTf l n d ha] at h1
    unfold zNV at h1;rw [ho] at h1;simp only at h1;rw [zWl ht,zor] at h1;obtain ⟨⟨m,e2⟩,h4,h5⟩:=h1;exact .inl ⟨m,e2,h4,.inl ⟨n',e',h5,h2,h3⟩⟩
  · cases hW with
    |now _ _ op' e' _ ho' ht' h=>rw [ho] at ho';cases ho';exact .inr ⟨W,h,h2,h3⟩
    |later _ m _ op' e' e2 _ ho' ht' h k=>rw [ho] at ho';cases ho';exact .inl ⟨m,e2,h,.inr ⟨W,k,h2,h3⟩⟩
theorem zaq (hT:∀ s a H,a<=s.length->s.length<=1000->C zm [.str s,zL a] H (tkV s a) H)
    (hSg:∀ t H,C zDB [.str t] H (zL (zCE t)) H) (hTi:∀ op H,op<=1000->C zBa [zL op] H (zL (tight op)) H)
    (b:Nat) (s:Bs) (p d l:Nat) (hp:p<=s.length) (hl:s.length<=200)
    (hLo:∀ a l' m e,p<a->a<=s.length->(P s).loose l' a d=some (m,e)->∀ H,H[b]?=some (rP s a d)->C zX [pR b,zL l'] H (ndV m) (H.set b (rP s e d)))
    (n0:Nd) (e0:Nat) (hpe:p<e0) (hel:e0<=s.length) (RV:AV) (RB:ABlk) (hRB:∀ k,zHL k RB=true) (hRV:∃ n',RV=ndV n') (hR:LoR C b s d l n0 e0 RV RB)
    (H:Heap) (hb:H[b]?=some (rP s p d)) (ho:∀ H,H[b]?=some (rP s p d)->C zAW [pR b] H (ndV n0) (H.set b (rP s e0 d))) :
    zCk C GT zCI [pR b,zL l] H b [] .undef (some (RV,RB)):=by
  have hbl:=zl_ hb;have hT:=fun a H h=>hT s a H h tO;obtain ⟨n',rfl⟩:=hRV;refine zAH ?_;clear hp;refine sX ?_;refine sSA (ndV n0) ?_;refine zAr (fun st:LSt=>[(4,pR H.length),(5,pR st.m),(0,pR b),(1,zL l)])
    (fun st H'=>(st.m=H.length+1/\H'[H.length]?=some (.box (ndC zU))/\H'[H.length+1]?=some (.box (ndX st.n st.x))/\NdO H H' st.n st.x) /\
      ((OldB H b (rP s st.a d) H'/\H'[b]?=some (rP s st.a d)/\st.a<=s.length/\p<st.a/\LoR C b s d l st.n st.a (ndV n') RB)\/(∃ W:Bd,W.ok s/\OldB H b (W.blk s) H'/\H'[b]?=some (W.blk s)/\ndV n'=ndV zU/\RB=W.blk s/\st.a=s.length+1)))
    (fun st=>s.length+1-st.a) ⟨_,e0,n0,.lst (some n0.kq) n0.kk (kxs n0)⟩ rfl ⟨⟨zS_,hP,(by rw [show H.length+1=((H++[ABlk.box (ndC zU)]).set b (rP s e0 d)).length from by simp];exact hP),.inl rfl⟩,.inl ⟨((((((OldB.start hb).push _).setB _).push _).set zS_ _)),hP,hel,hpe,hR⟩⟩ (fun ⟨m,a,n,x⟩ H1 ⟨⟨hm,h4,h5,hnd⟩,hst⟩=>?_)
  dsimp only at hm h4 h5 hnd hst ⊢;subst hm;clear ho hR hb hpe hel;have h5l:=(zl_ h5);rcases hst with ⟨hob,hb1,ha,hpa,hR⟩|⟨W,hW,hob,hb1,hv,hB,hae⟩
  case inr=>
    have hb1':H1[b]?=some (.box [.str s,zK W.a,zK W.w,zK W.e,zK W.d]):=hb1;have hwe:=hW.1;rw [hv,hB];clear hLo hT hSg hTi;refine zA (zK W.e) hb1' rfl<|zc (tN hwe)<|sX ?_
    refine sSA (.agg (zN 0 0 [])) ?_;exact zAC (o:=0) (ndV zU) rfl rfl rfl (zJ hP) rfl rfl rfl hO rfl
  have htk:=fun H=>hT a H ha;rw [zGv] at htk;have hnd1:=hnd.push (ABlk.box zV2);clear hT;have hle:=zKO ha;by_cases hsg:∃ e t,tok s a=.sign e t
  · obtain ⟨e,t,hk⟩:=hsg
    have hoa:zHl s a=if zCE t=0 then none else some (zCE t,e):=by unfold zHl;rw [hk]
    rw [hk] at htk hle;have hle:e<=s.length:=hle;have htk:∀ H,C zm [.str s,zL a] H (kV 4 (skip s a) e t) H:=htk;have hs:=fun H=>hSg t H;have hop:zCE t<=11:=by unfold zCE;repeat' (first|omega|split)
    have hti:=fun H=>hTi (zCE t) H tO;clear hSg hTi;by_cases h0:zCE t=0
    · obtain ⟨rv,rb⟩:=hR.stop ha (fun op e' h=>by rw [hoa,zoQ h0] at h;cases h)
      rw [rv,rb];rw [h0] at hs;clear hti hLo;generalize skip s a=q at *;refine sX ?_;refine zG2 ?_ ?_
      · refine zI (htk _)<|sSA (kV 4 q e t) ?_
        refine zA (zL 4) hP rfl<|zD<|zA (.str t) hP rfl<|zI (hs _)<|zD<|zD<|zD<|zA (.agg (ndX n x)) hP rfl<|zM (v:=.agg (ndX n x)) (ndX n x) hP rfl hnd.one rfl rfl ?_
        obtain ⟨H4,hz,hl4',hbx,hol⟩:=(((hnd.push (ABlk.box [.int .i64 0,.int .i64 0,.int .i64 0,.str []])).set zB (.box (kV 4 q e t).cells)).set (b:=H.length) (cs:=ndC zU) hP (.box (ndX n x))).frz H.length (zoR _);exact zAC (o:=0) (.agg (ndX n x)) rfl rfl rfl (zJ hP) rfl hz (zJR _ _) ⟨hbl,hol hbl (((hob.push _).set tO _).set (zoR _) _).old⟩ rfl
      · refine zI (htk _)<|sSA (kV 4 q e t) ?_
        refine zA (zL 4) hP rfl<|zD<|zA (.str t) hP rfl<|zI (hs _)<|zD<|zD<|zD<|zA (.agg (ndX n x)) hP rfl<|zM (v:=.agg (ndX n x)) (ndX n x) hP rfl hnd.one rfl rfl ?_
        obtain ⟨H4,hz,hl4',hbx,hol⟩:=(((hnd.push (ABlk.box [.int .i64 0,.int .i64 0,.int .i64 0,.str []])).set zB (.box (kV 4 q e t).cells)).set (b:=H.length) (cs:=ndC zU) hP (.box (ndX n x))).frz H.length (zoR _);exact zAC (o:=0) (.agg (ndX n x)) rfl rfl rfl (zJ hP) rfl hz (zJR _ _) ⟨hbl,hol hbl (((hob.push _).set tO _).set (zoR _) _).old⟩ rfl
    · rw [zWl h0] at hoa
      by_cases hti2:tight (zCE t)<l
      · obtain ⟨rv,rb⟩:=hR.stop ha (fun op e' h=>by rw [hoa] at h;cases h;exact hti2)
        rw [rv,rb];clear hLo;generalize skip s a=q at *;generalize tight (zCE t)=ti at *;refine sX ?_;refine zG2 ?_ ?_
        · refine zI (htk _)<|sSA (kV 4 q e t) ?_
          refine zA (zL 4) hP rfl<|zt tT<|zA (.str t) hP rfl<|zI (hs _)<|zc tN<|zI (hti _)<|zC<|zt tT<|zA (.agg (ndX n x)) hP rfl<|zM (v:=.agg (ndX n x)) (ndX n x) hP rfl hnd.one rfl rfl ?_
          obtain ⟨H4,hz,hl4',hbx,hol⟩:=(((hnd.push (ABlk.box [.int .i64 0,.int .i64 0,.int .i64 0,.str []])).set zB (.box (kV 4 q e t).cells)).set (b:=H.length) (cs:=ndC zU) hP (.box (ndX n x))).frz H.length (zoR _);exact zAC (o:=0) (.agg (ndX n x)) rfl rfl rfl (zJ hP) rfl hz (zJR _ _) ⟨hbl,hol hbl (((hob.push _).set tO _).set (zoR _) _).old⟩ rfl
        · refine zI (htk _)<|sSA (kV 4 q e t) ?_
          refine zA (zL 4) hP rfl<|zt tT<|zA (.str t) hP rfl<|zI (hs _)<|zc tN<|zI (hti _)<|zC<|zt tT<|zA (.agg (ndX n x)) hP rfl<|zM (v:=.agg (ndX n x)) (ndX n x) hP rfl hnd.one rfl rfl ?_
          obtain ⟨H4,hz,hl4',hbx,hol⟩:=(((hnd.push (ABlk.box [.int .i64 0,.int .i64 0,.int .i64 0,.str []])).set zB (.box (kV 4 q e t).cells)).set (b:=H.length) (cs:=ndC zU) hP (.box (ndX n x))).frz H.length (zoR _);exact zAC (o:=0) (.agg (ndX n x)) rfl rfl rfl (zJ hP) rfl hz (zJR _ _) ⟨hbl,hol hbl (((hob.push _).set tO _).set (zoR _) _).old⟩ rfl
      · have hae:=zDh hoa
        have htl:=zRE (zCE t);rcases hR.go ha hoa hti2 with ⟨m2,e2,hl2,hR2⟩|⟨W,⟨hW,nw,hlo⟩,hv,hB⟩
        · have hx:=(zCr s).loose _ e d _ hle hl2
          simp only at hx;have hlo:=hLo e (tight (zCE t)+1) m2 e2 tO hle hl2;clear hLo hR;generalize skip s a=q at *;generalize hgt:tight (zCE t)=ti at *;refine sX ?_;refine zG2 ?_ ?_
          · refine zI (htk _)<|sSA (kV 4 q e t) ?_
            refine sX ?_;refine sS (zL e) [.str s,zL e,zK 0,zK 0,zK ↑d] ?_;refine sX ?_;refine zQ (r:=ti+1) rfl tO<|sX ?_
            refine sSA (ndV m2) ?_;refine sX ?_;have hndA:=(((((hnd.push (ABlk.box [.int .i64 0,.int .i64 0,.int .i64 0,.str []])).set zB (.box (kV 4 q e t).cells)).set (b:=b) (cs:=[.str s,zK a,zK 0,zK 0,zK d]) hP (rP s e d)).set (b:=b) (cs:=[.str s,zK e,zK 0,zK 0,zK d]) hP (rP s e2 d)).push (ABlk.box (ndC zU))).set zB (.box (ndC m2));have hoA:OldB H b (rP s e2 d) _:=((((((hob.push [ABlk.box [.int .i64 0,.int .i64 0,.int .i64 0,.str []]]).set (c:=H1.length) tO (.box (kV 4 q e t).cells)).setB (rP s e d)).setB (rP s e2 d)).push [ABlk.box (ndC zU)]).set (c:=((((H1++[ABlk.box [.int .i64 0,.int .i64 0,.int .i64 0,.str []]]).set H1.length (.box (kV 4 q e t).cells)).set b (rP s e d)).set b (rP s e2 d)).length) (by simp;omega) (.box (ndC m2)));obtain ⟨H4,hz,hl4',hbx,hol⟩:=hndA.frz 0 (zmB _);have hz2:=zHV hz (show zKR 0 [ndV m2] H4=some ([ndV m2],H4) from rfl);have hb4:=hbx b [.str s,zK e2,zK 0,zK 0,zK d] hP;have h44:=hbx H.length (ndC zU) hP;have h54:=hbx (H.length+1) (ndX n x) hP;have h54l:=(zl_ h54);have hob4:OldB H b (rP s e2 d) H4:=⟨hbl,hol hbl hoA.old⟩;clear hbx hol hz hndA hoA;refine zGc [ndV n,ndV m2] H4 hz2 rfl<|sX ?_
            refine sS (.agg (ndX (zAn (zCE t) n m2) (.sl (some false) H4.length 12 0 2))) (ndX (zAn (zCE t) n m2) (.sl (some false) H4.length 12 0 2)) ?_;refine zAJ (LSt.mk (H.length+1) e2 (zAn (zCE t) n m2) (.sl (some false) H4.length 12 0 2)) rfl ⟨⟨rfl,hP,hP,.inr ⟨zCE t,n,m2,H4.length,rfl,rfl,hP,by omega⟩⟩,.inl ⟨(hob4.push _).set tO _,hP,hx.2,by simp only;omega,hR2⟩⟩ (by simp only;omega)
          · refine zI (htk _)<|sSA (kV 4 q e t) ?_
            refine sX ?_;refine sS (zL e) [.str s,zL e,zK 0,zK 0,zK ↑d] ?_;refine sX ?_;refine zQ (r:=ti+1) rfl tO<|sX ?_
            refine sSA (ndV m2) ?_;refine sX ?_;have hndA:=(((((hnd.push (ABlk.box [.int .i64 0,.int .i64 0,.int .i64 0,.str []])).set zB (.box (kV 4 q e t).cells)).set (b:=b) (cs:=[.str s,zK a,zK 0,zK 0,zK d]) hP (rP s e d)).set (b:=b) (cs:=[.str s,zK e,zK 0,zK 0,zK d]) hP (rP s e2 d)).push (ABlk.box (ndC zU))).set zB (.box (ndC m2));have hoA:OldB H b (rP s e2 d) _:=((((((hob.push [ABlk.box [.int .i64 0,.int .i64 0,.int .i64 0,.str []]]).set (c:=H1.length) tO (.box (kV 4 q e t).cells)).setB (rP s e d)).setB (rP s e2 d)).push [ABlk.box (ndC zU)]).set (c:=((((H1++[ABlk.box [.int .i64 0,.int .i64 0,.int .i64 0,.str []]]).set H1.length (.box (kV 4 q e t).cells)).set b (rP s e d)).set b (rP s e2 d)).length) (by simp;omega) (.box (ndC m2)));obtain ⟨H4,hz,hl4',hbx,hol⟩:=hndA.frz 0 (zmB _);have hz2:=zHV hz (show zKR 0 [ndV m2] H4=some ([ndV m2],H4) from rfl);have hb4:=hbx b [.str s,zK e2,zK 0,zK 0,zK d] hP;have h44:=hbx H.length (ndC zU) hP;have h54:=hbx (H.length+1) (ndX n x) hP;have h54l:=(zl_ h54);have hob4:OldB H b (rP s e2 d) H4:=⟨hbl,hol hbl hoA.old⟩;clear hbx hol hz hndA hoA;refine zGc [ndV n,ndV m2] H4 hz2 rfl<|sX ?_
            refine sS (.agg (ndX (zAn (zCE t) n m2) (.sl (some false) H4.length 12 0 2))) (ndX (zAn (zCE t) n m2) (.sl (some false) H4.length 12 0 2)) ?_;refine zAJ (LSt.mk (H.length+1) e2 (zAn (zCE t) n m2) (.sl (some false) H4.length 12 0 2)) rfl ⟨⟨rfl,hP,hP,.inr ⟨zCE t,n,m2,H4.length,rfl,rfl,hP,by omega⟩⟩,.inl ⟨(hob4.push _).set tO _,hP,hx.2,by simp only;omega,hR2⟩⟩ (by simp only;omega)
        · clear hLo hR
          rw [hv,hB];generalize skip s a=q at *;generalize hgt:tight (zCE t)=ti at *;refine sX ?_;refine zG2 ?_ ?_
          · refine zI (htk _)<|sSA (kV 4 q e t) ?_
            refine sX ?_;refine sS (zL e) [.str s,zL e,zK 0,zK 0,zK ↑d] ?_;refine sX ?_;refine zQ (r:=ti+1) rfl tO<|sX ?_
            refine sSA (ndV nw) ?_;refine sX ?_;have hndA:=(((((hnd.push (ABlk.box [.int .i64 0,.int .i64 0,.int .i64 0,.str []])).set zB (.box (kV 4 q e t).cells)).set (b:=b) (cs:=[.str s,zK a,zK 0,zK 0,zK d]) hP (rP s e d)).set (b:=b) (cs:=[.str s,zK e,zK 0,zK 0,zK d]) hP (W.blk s)).push (ABlk.box (ndC zU))).set zB (.box (ndC nw));have hoA:OldB H b (W.blk s) _:=((((((hob.push [ABlk.box [.int .i64 0,.int .i64 0,.int .i64 0,.str []]]).set (c:=H1.length) tO (.box (kV 4 q e t).cells)).setB (rP s e d)).setB (W.blk s)).push [ABlk.box (ndC zU)]).set (c:=((((H1++[ABlk.box [.int .i64 0,.int .i64 0,.int .i64 0,.str []]]).set H1.length (.box (kV 4 q e t).cells)).set b (rP s e d)).set b (W.blk s)).length) (by simp;omega) (.box (ndC nw)));obtain ⟨H4,hz,hl4',hbx,hol⟩:=hndA.frz 0 (zmB _);have hz2:=zHV hz (show zKR 0 [ndV nw] H4=some ([ndV nw],H4) from rfl);have hb4:=hbx b [.str s,zK W.a,zK W.w,zK W.e,zK W.d] hP;have h44:=hbx H.length (ndC zU) hP;have h54:=hbx (H.length+1) (ndX n x) hP;have h54l:=(zl_ h54);have hob4:OldB H b (W.blk s) H4:=⟨hbl,hol hbl hoA.old⟩;clear hbx hol hz hndA hoA;refine zGc [ndV n,ndV nw] H4 hz2 rfl<|sX ?_
            refine sS (.agg (ndX (zAn (zCE t) n nw) (.sl (some false) H4.length 12 0 2))) (ndX (zAn (zCE t) n nw) (.sl (some false) H4.length 12 0 2)) ?_;refine zAJ (LSt.mk (H.length+1) (s.length+1) (zAn (zCE t) n nw) (.sl (some false) H4.length 12 0 2)) rfl ⟨⟨rfl,hP,hP,.inr ⟨zCE t,n,nw,H4.length,rfl,rfl,hP,by omega⟩⟩,.inr ⟨W,hW,(hob4.push _).set tO _,hP,rfl,rfl,rfl⟩⟩ (by simp only;omega)
          · refine zI (htk _)<|sSA (kV 4 q e t) ?_
            refine sX ?_;refine sS (zL e) [.str s,zL e,zK 0,zK 0,zK ↑d] ?_;refine sX ?_;refine zQ (r:=ti+1) rfl tO<|sX ?_
            refine sSA (ndV nw) ?_;refine sX ?_;have hndA:=(((((hnd.push (ABlk.box [.int .i64 0,.int .i64 0,.int .i64 0,.str []])).set zB (.box (kV 4 q e t).cells)).set (b:=b) (cs:=[.str s,zK a,zK 0,zK 0,zK d]) hP (rP s e d)).set (b:=b) (cs:=[.str s,zK e,zK 0,zK 0,zK d]) hP (W.blk s)).push (ABlk.box (ndC zU))).set zB (.box (ndC nw));have hoA:OldB H b (W.blk s) _:=((((((hob.push [ABlk.box [.int .i64 0,.int .i64 0,.int .i64 0,.str []]]).set (c:=H1.length) tO (.box (kV 4 q e t).cells)).setB (rP s e d)).setB (W.blk s)).push [ABlk.box (ndC zU)]).set (c:=((((H1++[ABlk.box [.int .i64 0,.int .i64 0,.int .i64 0,.str []]]).set H1.length (.box (kV 4 q e t).cells)).set b (rP s e d)).set b (W.blk s)).length) (by simp;omega) (.box (ndC nw)));obtain ⟨H4,hz,hl4',hbx,hol⟩:=hndA.frz 0 (zmB _);have hz2:=zHV hz (show zKR 0 [ndV nw] H4=some ([ndV nw],H4) from rfl);have hb4:=hbx b [.str s,zK W.a,zK W.w,zK W.e,zK W.d] hP;have h44:=hbx H.length (ndC zU) hP;have h54:=hbx (H.length+1) (ndX n x) hP;have h54l:=(zl_ h54);have hob4:OldB H b (W.blk s) H4:=⟨hbl,hol hbl hoA.old⟩;clear hbx hol hz hndA hoA;refine zGc [ndV n,ndV nw] H4 hz2 rfl<|sX ?_
            refine sS (.agg (ndX (zAn (zCE t) n nw) (.sl (some false) H4.length 12 0 2))) (ndX (zAn (zCE t) n nw) (.sl (some false) H4.length 12 0 2)) ?_;refine zAJ (LSt.mk (H.length+1) (s.length+1) (zAn (zCE t) n nw) (.sl (some false) H4.length 12 0 2)) rfl ⟨⟨rfl,hP,hP,.inr ⟨zCE t,n,nw,H4.length,rfl,rfl,hP,by omega⟩⟩,.inr ⟨W,hW,(hob4.push _).set tO _,hP,rfl,rfl,rfl⟩⟩ (by simp only;omega)
  · have hk4:tkK (tok s a)≠4:=fun h=>by
      cases hk:tok s a <;> rw [hk] at h <;> simp only [tkK] at h
      all_goals first|omega|exact hsg ⟨_,_,hk⟩
    obtain ⟨rv,rb⟩:=hR.stop ha (fun op e' h=>by
      unfold zHl at h;split at h
      · rename_i e t hk;exact absurd ⟨e,t,hk⟩ hsg
      · cases h)
    rw [rv,rb];clear hLo hSg hTi;generalize tkE (skip s a) (tok s a)=ee at *;generalize tkK (tok s a)=kk at *;generalize tkT (tok s a)=t at *;generalize skip s a=q at *;refine sX ?_;refine zG2 ?_ ?_
    · refine zI (htk _) ?_
      refine sSA (kV kk q ee t) ?_;refine sW ?_;refine zM (v:=.agg (ndX n x)) (ndX n x) hP rfl hnd.one rfl rfl ?_;obtain ⟨H4,hz,hl4',hbx,hol⟩:=(((hnd.push (ABlk.box [.int .i64 0,.int .i64 0,.int .i64 0,.str []])).set zB (.box (kV kk q ee t).cells)).set (b:=H.length) (cs:=ndC zU) hP (.box (ndX n x))).frz H.length (zoR _);exact zAC (o:=0) (.agg (ndX n x)) rfl rfl rfl (zJ hP) rfl hz (zJR _ _) ⟨hbl,hol hbl (((hob.push _).set tO _).set (zoR _) _).old⟩ rfl
    · refine zI (htk _) ?_
      refine sSA (kV kk q ee t) ?_;refine sW ?_;refine zM (v:=.agg (ndX n x)) (ndX n x) hP rfl hnd.one rfl rfl ?_;obtain ⟨H4,hz,hl4',hbx,hol⟩:=(((hnd.push (ABlk.box [.int .i64 0,.int .i64 0,.int .i64 0,.str []])).set zB (.box (kV kk q ee t).cells)).set (b:=H.length) (cs:=ndC zU) hP (.box (ndX n x))).frz H.length (zoR _);exact zAC (o:=0) (.agg (ndX n x)) rfl rfl rfl (zJ hP) rfl hz (zJR _ _) ⟨hbl,hol hbl (((hob.push _).set tO _).set (zoR _) _).old⟩ rfl
end
abbrev caI:AC:=(AC.rest zB2).body
abbrev caR1:AC:=caI.first
abbrev caR2:AC:=caI.rest.first
abbrev caR3:AC:=caI.rest.rest.first
abbrev caA:AC:=caI.rest.rest.rest.first
abbrev caT:AC:=caI.rest.rest.rest.rest
section
variable {C:CSpec} {GT:zG_}
theorem zHH {L:List Nat} {d:Bool} {ops:List AI} {c1 c2:AC} {K:Post} {fr fr2:Fr} {H:Heap} (h:zT fr L=zT fr2 L) (x:EW C GT (.seq (.seq (.reg L d ops) c1) c2) K fr2 H):EW C GT (.seq (.seq (.reg L d ops) c1) c2) K fr H:=by
  have x:EWops C GT ops [] (zT fr2 L) H (fun fr' H'=>zWb (EW C GT c1 (zWb (EW C GT c2 K) K)) (zWb (EW C GT c2 K) K) .normal fr' H'):=x;rw [<-h] at x;exact x
theorem zOn {L:List Nat} {d:Bool} {ops:List AI} {c2:AC} {K:Post} {fr fr2:Fr} {H:Heap} (h:zT fr L=zT fr2 L) (x:EW C GT (.seq (.reg L d ops) c2) K fr2 H):EW C GT (.seq (.reg L d ops) c2) K fr H:=by
  have x:EWops C GT ops [] (zT fr2 L) H (fun fr' H'=>zWb (EW C GT c2 K) K .normal fr' H'):=x;rw [<-h] at x;exact x
theorem zhf (T:AC) (K:Post) (b n4 n5 n6:Nat) (s:Bs) (a d:Nat) (kk q e:Nat) (t:Bs) (rv:List AV) (ok:Bool) (H:Heap) (c6:List AV) (hc6:c6.length=4) (c0 c1 c2 c3:AV) (hc6':c6=[c0,c1,c2,c3])
    (hb:H[b]?=some (rP s a d)) (h6:H[n6]?=some (.box c6)) (hbn:b≠n6)
    (htk:∀ H,C zm [.str s,zL a] H (kV kk q e t) H) (hr:∀ H,C zp [.str t] H (.tup [.agg rv,.bool ok]) H) (r0 r1 r2 r3:AV) (hrv:rv=[r0,r1,r2,r3]) (hro:(AV.agg rv).cells.all AV.one=true)
    (h:∀ fr' H' n7 n9,zT fr' [6,0,4,5,9,7,8]=[(6,pR n6),(0,pR b),(4,pR n4),(5,pR n5),(9,pR n9),(7,pR n7),(8,.bool ok)]->H'=((((H.set n6 (ABlk.box [zL kk,zL q,zL e,.str t]))++[ABlk.box zP]).set n7 (.box rv))++[ABlk.box (ndC zU)])->n7=H.length->n9=H.length+1->EW C GT T K fr' H') :
    EW C GT (.seq caR1 (.seq caR2 (.seq caR3 T))) K [(6,pR n6),(0,pR b),(4,pR n4),(5,pR n5)] H:=by
  subst hc6' hrv;have hl6:=(zl_ h6);refine sW ?_;refine sS (kV kk q e t) [zL kk,zL q,zL e,.str t] ?_;refine sW ?_;refine zM (v:=.agg [r0,r1,r2,r3]) [r0,r1,r2,r3] zB rfl hro rfl rfl ?_;exact h _ _ _ _ rfl rfl zS_ zS_
def Kp (H H':Heap) (b n9:Nat):Prop:=(∀ c x,H[c]?=some x->c≠b->c≠n9->H'[c]?=some x)/\H.length<=H'.length
section
variable (T:AC) (K:Post) (b n4 n5 n6 n7 n9:Nat) (ok:Bool) (s:Bs) (p D kk q e:Nat) (t:Bs) (H:Heap) (fr:Fr) (hfr:zT fr [6,0,4,5,9,7,8]=[(6,pR n6),(0,pR b),(4,pR n4),(5,pR n5),(9,pR n9),(7,pR n7),(8,.bool ok)]) (hb:H[b]?=some (rP s p D)) (h6:H[n6]?=some (.box [zL kk,zL q,zL e,.str t])) (h9:H[n9]?=some (.box (ndC zU))) (hb9:b≠n9) (h69:n6≠n9) (hb6:b≠n6) (hel:e<=s.length) (hl:s.length<=200)
include T K b n4 n5 n6 n7 n9 ok s p D kk q e t H fr hfr hb h6 h9 hb9 h69 hb6 hel hl
section
variable (m:Nd) (B:ABlk) (hlo:∀ H,H[b]?=some (rP s p D)->C zX [pR b,.int .i64 1] H (ndV m) (H.set b B))
include m B hlo
theorem zar
 (h1:kk≠1)
    (h:∀ fr' H',zT fr' [6,0,4,5,9]=[(6,pR n6),(0,pR b),(4,pR n4),(5,pR n5),(9,pR n9)]->H'[b]?=some B->H'[n9]?=some (.box (ndC m))->Kp H H' b n9->EW C GT T K fr' H') :
    EW C GT (.seq caA T) K fr H:=by
  refine zHH (fr2:=[(6,pR n6),(0,pR b),(4,pR n4),(5,pR n5),(9,pR n9),(7,pR n7),(8,.bool ok)]) hfr ?_;have hl9:=(zl_ h9);have hl6:=(zl_ h6);have hbl:=(zl_ hb);refine sW ?_;refine sSA (ndV m) ?_;exact h _ _ rfl hP hP ⟨(fun c x hc g1 g2=>by have hcl:=(zl_ hc);repeat' (first|exact hc|refine zG ?_|refine zE (by first|exact zmJ g1|exact zmJ g2|omega|(simp only [zoW,zoP,zoN,zoT];omega)|(simp;omega)) ?_)),tC⟩
theorem zhg
 (h1:kk=1) (ho:ok=false)
    (h:∀ fr' H',zT fr' [6,0,4,5,9]=[(6,pR n6),(0,pR b),(4,pR n4),(5,pR n5),(9,pR n9)]->H'[b]?=some B->H'[n9]?=some (.box (ndC m))->Kp H H' b n9->EW C GT T K fr' H') :
    EW C GT (.seq caA T) K fr H:=by
  refine zHH (fr2:=[(6,pR n6),(0,pR b),(4,pR n4),(5,pR n5),(9,pR n9),(7,pR n7),(8,.bool ok)]) hfr ?_;have hl9:=(zl_ h9);have hl6:=(zl_ h6);have hbl:=(zl_ hb);subst ho;refine sW ?_;refine sSA (ndV m) ?_;exact h _ _ rfl hP hP ⟨(fun c x hc g1 g2=>by have hcl:=(zl_ hc);repeat' (first|exact hc|refine zG ?_|refine zE (by first|exact zmJ g1|exact zmJ g2|omega|(simp only [zoW,zoP,zoN,zoT];omega)|(simp;omega)) ?_)),tC⟩
theorem zhh
 (h1:kk=1) (ho:ok=true) (hle:s.length<=e)
    (h:∀ fr' H',zT fr' [6,0,4,5,9]=[(6,pR n6),(0,pR b),(4,pR n4),(5,pR n5),(9,pR n9)]->H'[b]?=some B->H'[n9]?=some (.box (ndC m))->Kp H H' b n9->EW C GT T K fr' H') :
    EW C GT (.seq caA T) K fr H:=by
  refine zHH (fr2:=[(6,pR n6),(0,pR b),(4,pR n4),(5,pR n5),(9,pR n9),(7,pR n7),(8,.bool ok)]) hfr ?_;have hl9:=(zl_ h9);have hl6:=(zl_ h6);have hbl:=(zl_ hb);subst ho;refine sW ?_;refine sSA (ndV m) ?_;exact h _ _ rfl hP hP ⟨(fun c x hc g1 g2=>by have hcl:=(zl_ hc);repeat' (first|exact hc|refine zG ?_|refine zE (by first|exact zmJ g1|exact zmJ g2|omega|(simp only [zoW,zoP,zoN,zoT];omega)|(simp;omega)) ?_)),tC⟩
theorem zhi
 (h1:kk=1) (ho:ok=true) (c:UInt8) (hc:s[e]?=some c) (hc58:c.toNat≠58)
    (h:∀ fr' H',zT fr' [6,0,4,5,9]=[(6,pR n6),(0,pR b),(4,pR n4),(5,pR n5),(9,pR n9)]->H'[b]?=some B->H'[n9]?=some (.box (ndC m))->Kp H H' b n9->EW C GT T K fr' H') :
    EW C GT (.seq caA T) K fr H:=by
  refine zHH (fr2:=[(6,pR n6),(0,pR b),(4,pR n4),(5,pR n5),(9,pR n9),(7,pR n7),(8,.bool ok)]) hfr ?_;have hl9:=(zl_ h9);have hl6:=(zl_ h6);have hbl:=(zl_ hb);subst ho;have hce:=(zl_ hc);refine sW ?_;refine sSA (ndV m) ?_;exact h _ _ rfl hP hP ⟨(fun c x hc g1 g2=>by have hcl:=(zl_ hc);repeat' (first|exact hc|refine zG ?_|refine zE (by first|exact zmJ g1|exact zmJ g2|omega|(simp only [zoW,zoP,zoN,zoT];omega)|(simp;omega)) ?_)),tC⟩
end
section
variable (r1 r2:RefP) (h7:H[n7]?=some (.box [zK r1.col,zK r1.row,.bool r1.fc,.bool r1.fr])) (hn79:n7≠n9) (hn7b:n7≠b) (kk2 q2 e2:Nat) (t2:Bs) (htk:∀ H,C zm [.str s,zL (e+1)] H (kV kk2 q2 e2 t2) H)
include r1 r2 h7 hn79 hn7b kk2 q2 e2 t2 htk
theorem zeP
 (hr:∀ H,C zp [.str t2] H (.tup [.agg [zK r2.col,zK r2.row,.bool r2.fc,.bool r2.fr],.bool true]) H) (hq2:q2=e+1) (hk2:kk2=1)
    (h1:kk=1) (ho:ok=true) (hc:s[e]?=some 58) (m:Nd) (hm:m=zAy r1 r2) (B:ABlk) (hB:B=rP s e2 D)
    (h:∀ fr' H',zT fr' [6,0,4,5,9]=[(6,pR n6),(0,pR b),(4,pR n4),(5,pR n5),(9,pR n9)]->H'[b]?=some B->H'[n9]?=some (.box (ndC m))->Kp H H' b n9->EW C GT T K fr' H') :
    EW C GT (.seq caA T) K fr H:=by
  refine zHH (fr2:=[(6,pR n6),(0,pR b),(4,pR n4),(5,pR n5),(9,pR n9),(7,pR n7),(8,.bool ok)]) hfr ?_;have hl9:=(zl_ h9);have hl6:=(zl_ h6);have hl7:=(zl_ h7);have hbl:=(zl_ hb);have hce:=(zl_ hc);subst ho hm hB;refine sW ?_;refine zQ (r:=e+1) rfl tO ?_;refine zG2 ?_ ?_
  · refine sW ?_
    refine sSA (kV kk2 q2 e2 t2) ?_;refine sW ?_;refine sSA (.agg [zK r2.col,zK r2.row,.bool r2.fc,.bool r2.fr]) ?_;refine sW ?_;refine zQ (r:=e+1) rfl tO<|zc (zog.2 tO)<|sW ?_
    refine zc (zog.2 tO)<|sW ?_
    refine sS (zL e2) [.str s,zL e2,zK 0,zK 0,zK ↑D] ?_;refine sW ?_;refine sSA (.agg (zR 6 r1 r2)) ?_;exact h _ _ rfl hP hP ⟨(fun c x hc g1 g2=>by have hcl:=(zl_ hc);repeat' (first|exact hc|refine zG ?_|refine zE (by first|exact zmJ g1|exact zmJ g2|omega|(simp only [zoW,zoP,zoN,zoT];omega)|(simp;omega)) ?_)),tC⟩
  · refine sW ?_
    refine sSA (kV kk2 q2 e2 t2) ?_;refine sW ?_;refine sSA (.agg [zK r2.col,zK r2.row,.bool r2.fc,.bool r2.fr]) ?_;refine sW ?_;refine zQ (r:=e+1) rfl tO<|zc (zog.2 tO)<|sW ?_
    refine zc (zog.2 tO)<|sW ?_
    refine sS (zL e2) [.str s,zL e2,zK 0,zK 0,zK ↑D] ?_;refine sW ?_;refine sSA (.agg (zR 6 r1 r2)) ?_;exact h _ _ rfl hP hP ⟨(fun c x hc g1 g2=>by have hcl:=(zl_ hc);repeat' (first|exact hc|refine zG ?_|refine zE (by first|exact zmJ g1|exact zmJ g2|omega|(simp only [zoW,zoP,zoN,zoT];omega)|(simp;omega)) ?_)),tC⟩
section
variable (ok2:Bool) (hr:∀ H,C zp [.str t2] H (.tup [.agg [zK r2.col,zK r2.row,.bool r2.fc,.bool r2.fr],.bool ok2]) H)
include ok2 hr
theorem zeQ
 (hq2:q2≠e+1) (hf:∀ H,H[b]?=some (rP s p D)->C zl [pR b,zL (e+1),.int .i64 2] H (.tup []) (H.set b (pB s p (e+1:Nat) 2 D)))
    (h1:kk=1) (ho:ok=true) (hc:s[e]?=some 58) (m:Nd) (hm:m=zAy r1 r2) (B:ABlk) (hB:B=pB s e2 (e+1:Nat) 2 D)
    (h:∀ fr' H',zT fr' [6,0,4,5,9]=[(6,pR n6),(0,pR b),(4,pR n4),(5,pR n5),(9,pR n9)]->H'[b]?=some B->H'[n9]?=some (.box (ndC m))->Kp H H' b n9->EW C GT T K fr' H') :
    EW C GT (.seq caA T) K fr H:=by
  refine zHH (fr2:=[(6,pR n6),(0,pR b),(4,pR n4),(5,pR n5),(9,pR n9),(7,pR n7),(8,.bool ok)]) hfr ?_;have hl9:=(zl_ h9);have hl6:=(zl_ h6);have hl7:=(zl_ h7);have hbl:=(zl_ hb);have hce:=(zl_ hc);subst ho hm hB;refine sW ?_;refine zQ (r:=e+1) rfl tO ?_;refine zG2 ?_ ?_
  · refine sW ?_
    refine sSA (kV kk2 q2 e2 t2) ?_;refine sW ?_;refine sSA (.agg [zK r2.col,zK r2.row,.bool r2.fc,.bool r2.fr]) ?_;refine sW ?_;refine zQ (r:=e+1) rfl tO<|zt (zo0.2 tO)<|sW ?_
    refine zQ (r:=e+1) rfl tO<|sW ?_
    refine sS (zL e2) [.str s,zL e2,zK ↑(e+1),zK 2,zK ↑D] ?_;refine sW ?_;refine sSA (.agg (zR 6 r1 r2)) ?_;exact h _ _ rfl hP hP ⟨(fun c x hc g1 g2=>by have hcl:=(zl_ hc);repeat' (first|exact hc|refine zG ?_|refine zE (by first|exact zmJ g1|exact zmJ g2|omega|(simp only [zoW,zoP,zoN,zoT];omega)|(simp;omega)) ?_)),tC⟩
  · refine sW ?_
    refine sSA (kV kk2 q2 e2 t2) ?_;refine sW ?_;refine sSA (.agg [zK r2.col,zK r2.row,.bool r2.fc,.bool r2.fr]) ?_;refine sW ?_;refine zQ (r:=e+1) rfl tO<|zt (zo0.2 tO)<|sW ?_
    refine zQ (r:=e+1) rfl tO<|sW ?_
    refine sS (zL e2) [.str s,zL e2,zK ↑(e+1),zK 2,zK ↑D] ?_;refine sW ?_;refine sSA (.agg (zR 6 r1 r2)) ?_;exact h _ _ rfl hP hP ⟨(fun c x hc g1 g2=>by have hcl:=(zl_ hc);repeat' (first|exact hc|refine zG ?_|refine zE (by first|exact zmJ g1|exact zmJ g2|omega|(simp only [zoW,zoP,zoN,zoT];omega)|(simp;omega)) ?_)),tC⟩
theorem zeR
 (hq2:q2=e+1) (hk2:kk2≠1) (hf:∀ H,H[b]?=some (rP s p D)->C zl [pR b,zL (e+1),.int .i64 2] H (.tup []) (H.set b (pB s p (e+1:Nat) 2 D)))
    (h1:kk=1) (ho:ok=true) (hc:s[e]?=some 58) (m:Nd) (hm:m=zAy r1 r2) (B:ABlk) (hB:B=pB s e2 (e+1:Nat) 2 D)
    (h:∀ fr' H',zT fr' [6,0,4,5,9]=[(6,pR n6),(0,pR b),(4,pR n4),(5,pR n5),(9,pR n9)]->H'[b]?=some B->H'[n9]?=some (.box (ndC m))->Kp H H' b n9->EW C GT T K fr' H') :
    EW C GT (.seq caA T) K fr H:=by
  refine zHH (fr2:=[(6,pR n6),(0,pR b),(4,pR n4),(5,pR n5),(9,pR n9),(7,pR n7),(8,.bool ok)]) hfr ?_;have hl9:=(zl_ h9);have hl6:=(zl_ h6);have hl7:=(zl_ h7);have hbl:=(zl_ hb);have hce:=(zl_ hc);subst ho hm hB;refine sW ?_;refine zQ (r:=e+1) rfl tO ?_;refine zG2 ?_ ?_
  · refine sW ?_
    refine sSA (kV kk2 q2 e2 t2) ?_;refine sW ?_;refine sSA (.agg [zK r2.col,zK r2.row,.bool r2.fc,.bool r2.fr]) ?_;refine sW ?_;refine zQ (r:=e+1) rfl tO<|zc (zog.2 tO)<|sW ?_
    refine zt (zo0.2 tO)<|sW ?_
    refine zQ (r:=e+1) rfl tO<|sW ?_
    refine sS (zL e2) [.str s,zL e2,zK ↑(e+1),zK 2,zK ↑D] ?_;refine sW ?_;refine sSA (.agg (zR 6 r1 r2)) ?_;exact h _ _ rfl hP hP ⟨(fun c x hc g1 g2=>by have hcl:=(zl_ hc);repeat' (first|exact hc|refine zG ?_|refine zE (by first|exact zmJ g1|exact zmJ g2|omega|(simp only [zoW,zoP,zoN,zoT];omega)|(simp;omega)) ?_)),tC⟩
  · refine sW ?_
    refine sSA (kV kk2 q2 e2 t2) ?_;refine sW ?_;refine sSA (.agg [zK r2.col,zK r2.row,.bool r2.fc,.bool r2.fr]) ?_;refine sW ?_;refine zQ (r:=e+1) rfl tO<|zc (zog.2 tO)<|sW ?_
    refine zt (zo0.2 tO)<|sW ?_
    refine zQ (r:=e+1) rfl tO<|sW ?_
    refine sS (zL e2) [.str s,zL e2,zK ↑(e+1),zK 2,zK ↑D] ?_;refine sW ?_;refine sSA (.agg (zR 6 r1 r2)) ?_;exact h _ _ rfl hP hP ⟨(fun c x hc g1 g2=>by have hcl:=(zl_ hc);repeat' (first|exact hc|refine zG ?_|refine zE (by first|exact zmJ g1|exact zmJ g2|omega|(simp only [zoW,zoP,zoN,zoT];omega)|(simp;omega)) ?_)),tC⟩
end
theorem zeS
 (hr:∀ H,C zp [.str t2] H (.tup [.agg [zK r2.col,zK r2.row,.bool r2.fc,.bool r2.fr],.bool false]) H) (hq2:q2=e+1) (hk2:kk2=1) (hf:∀ H,H[b]?=some (rP s p D)->C zl [pR b,zL (e+1),.int .i64 2] H (.tup []) (H.set b (pB s p (e+1:Nat) 2 D)))
    (h1:kk=1) (ho:ok=true) (hc:s[e]?=some 58) (m:Nd) (hm:m=zAy r1 r2) (B:ABlk) (hB:B=pB s e2 (e+1:Nat) 2 D)
    (h:∀ fr' H',zT fr' [6,0,4,5,9]=[(6,pR n6),(0,pR b),(4,pR n4),(5,pR n5),(9,pR n9)]->H'[b]?=some B->H'[n9]?=some (.box (ndC m))->Kp H H' b n9->EW C GT T K fr' H') :
    EW C GT (.seq caA T) K fr H:=by
  refine zHH (fr2:=[(6,pR n6),(0,pR b),(4,pR n4),(5,pR n5),(9,pR n9),(7,pR n7),(8,.bool ok)]) hfr ?_;have hl9:=(zl_ h9);have hl6:=(zl_ h6);have hl7:=(zl_ h7);have hbl:=(zl_ hb);have hce:=(zl_ hc);subst ho hm hB;refine sW ?_;refine zQ (r:=e+1) rfl tO ?_;refine zG2 ?_ ?_
  · refine sW ?_
    refine sSA (kV kk2 q2 e2 t2) ?_;refine sW ?_;refine sSA (.agg [zK r2.col,zK r2.row,.bool r2.fc,.bool r2.fr]) ?_;refine sW ?_;refine zQ (r:=e+1) rfl tO<|zc (zog.2 tO)<|sW ?_
    refine zc (zog.2 tO)<|sW ?_
    refine zQ (r:=e+1) rfl tO<|sW ?_
    refine sS (zL e2) [.str s,zL e2,zK ↑(e+1),zK 2,zK ↑D] ?_;refine sW ?_;refine sSA (.agg (zR 6 r1 r2)) ?_;exact h _ _ rfl hP hP ⟨(fun c x hc g1 g2=>by have hcl:=(zl_ hc);repeat' (first|exact hc|refine zG ?_|refine zE (by first|exact zmJ g1|exact zmJ g2|omega|(simp only [zoW,zoP,zoN,zoT];omega)|(simp;omega)) ?_)),tC⟩
  · refine sW ?_
    refine sSA (kV kk2 q2 e2 t2) ?_;refine sW ?_;refine sSA (.agg [zK r2.col,zK r2.row,.bool r2.fc,.bool r2.fr]) ?_;refine sW ?_;refine zQ (r:=e+1) rfl tO<|zc (zog.2 tO)<|sW ?_
    refine zc (zog.2 tO)<|sW ?_
    refine zQ (r:=e+1) rfl tO<|sW ?_
    refine sS (zL e2) [.str s,zL e2,zK ↑(e+1),zK 2,zK ↑D] ?_;refine sW ?_;refine sSA (.agg (zR 6 r1 r2)) ?_;exact h _ _ rfl hP hP ⟨(fun c x hc g1 g2=>by have hcl:=(zl_ hc);repeat' (first|exact hc|refine zG ?_|refine zE (by first|exact zmJ g1|exact zmJ g2|omega|(simp only [zoW,zoP,zoN,zoT];omega)|(simp;omega)) ?_)),tC⟩
end
end
end
section
variable {C:CSpec} {GT:zG_}
section
variable (K:Post) (b n4 n5 n6 n9:Nat) (s:Bs) (D:Nat) (t:Bs) (m:Nd) (ks:List Nd) (v:AV) (B:ABlk) (H0 H:Heap) (fr:Fr) (hfr:zT fr [6,0,4,5,9]=[(6,pR n6),(0,pR b),(4,pR n4),(5,pR n5),(9,pR n9)]) (hob:OldB H0 b B H) (how:Owns H0 H v 12 (ks.map ndV)) (hkl:ks.length<=200) (h4:H[n4]?=some (.box (ndC zU))) (h5:H[n5]?=some (.box (zAc t v))) (c0 c1 c2 c3:AV) (h6:H[n6]?=some (.box [c0,c1,c2,c3])) (h9:H[n9]?=some (.box (ndC m))) (g4:H0.length<=n4) (g5:H0.length<=n5) (g6:H0.length<=n6) (g9:H0.length<=n9) (d45:n4≠n5) (d46:n4≠n6) (d56:n5≠n6) (e2 kk q e3:Nat) (tt:Bs) (htk:∀ H,C zm [.str s,zL e2] H (kV kk q e3 tt) H)
include K b n4 n5 n6 n9 s D t m ks v B H0 H fr hfr hob how hkl h4 h5 c0 c1 c2 c3 h6 h9 g4 g5 g6 g9 d45 d46 d56 e2 kk q e3 tt htk
theorem zXv
    (hk:kk=4) (ht:tt=[44]) (hB:B=rP s e2 D) (hb:H[b]?=some (rP s e2 D))
    (hcont:∀ fr' H' v',zT fr' [6,0,4,5]=[(6,pR n6),(0,pR b),(4,pR n4),(5,pR n5)]->H'[b]?=some (rP s e3 D)->H'[n5]?=some (.box (zAc t v'))->H'[n4]?=some (.box (ndC zU))->(∃ c0 c1 c2 c3,H'[n6]?=some (.box [c0,c1,c2,c3]))->Owns H0 H' v' 12 ((ks++[m]).map ndV)->OldB H0 b (rP s e3 D) H'->K (.exit 1) fr' H') :
    EW C GT caT K fr H:=by
  subst hB;refine zOn (fr2:=[(6,pR n6),(0,pR b),(4,pR n4),(5,pR n5),(9,pR n9)]) hfr ?_;have hbl:=hob.lt;have hlH0:(H0.set b (rP s e2 D)).length=H0.length:=zoW;have hel:(ndV m).elem 12=true:=rfl;refine sX ?_;refine zAA (vs':=[.agg [.int .i64 m.kind,.int .i64 m.num,.str m.text,.int .i64 m.ref.col,.int .i64 m.ref.row,.bool m.ref.fc,.bool m.ref.fr,.int .i64 m.to.col,.int .i64 m.to.row,.bool m.to.fc,.bool m.to.fr,.lst (some m.kq) m.kk (kxs m)]]) rfl rfl<|zA0 (H0:=H0.set b (rP s e2 D)) ((how.base hlH0).push _) (hob.old.push _) zAR tO (by simp only [zoU,zoN,zoT];omega) zS_ fun v' H' ho' hH' hb' hf=>?_
  have hxb:=hf b _ (how.notBox hb) (zG hb);have hx4:=hf n4 _ (how.notBox h4) (zG h4);have hx5:=hf n5 _ (how.notBox h5) (zG h5);have hx6:=hf n6 _ (how.notBox h6) (zG h6);have hob3:OldB H0 b (rP s e2 D) H':=⟨hbl,hH'⟩;have hlb:=(zl_ hxb);have hl4:=(zl_ hx4);have hl5:=(zl_ hx5);have hl6:=(zl_ hx6);have how3:Owns H0 H' v' 12 ((ks++[m]).map ndV):=by rw [zov];exact ho'.base hlH0.symm
  refine zD2 (zAc t v') hx5 how3.one rfl rfl<|sX ?_
  refine sS (kV kk q e3 tt) [zL kk,zL q,zL e3,.str tt] ?_;refine sX ?_;refine sS (zL e3) [.str s,zL e3,zK 0,zK 0,zK ↑D] ?_;exact hcont _ _ v' rfl hP hP hP ⟨_,_,_,_,hP⟩ (((how3.setBox hx5 (.box (zAc t v'))).setBox (cs:=[c0,c1,c2,c3]) hP (.box (kV kk q e3 tt).cells)).setBox (cs:=[.str s,zK e2,zK 0,zK 0,zK D]) hP _) (((hob3.set g5 _).set g6 _).setB _)
theorem zeT
    (hk:kk≠4) (hB:B=rP s e2 D) (hb:H[b]?=some (rP s e2 D))
    (RB:ABlk) (hc:∀ H,H[b]?=some B->C zY [pR b] H (.tup []) (H.set b RB))
    (hret:∀ fr' H' v',zMk fr' 4=pR n4->H'[n4]?=some (.box (zAc t v'))->Owns H0 H' v' 12 ((ks++[m]).map ndV)->OldB H0 b RB H'->K .ret fr' H') :
    EW C GT caT K fr H:=by
  subst hB;refine zOn (fr2:=[(6,pR n6),(0,pR b),(4,pR n4),(5,pR n5),(9,pR n9)]) hfr ?_;have hbl:=hob.lt;have hlH0:(H0.set b (rP s e2 D)).length=H0.length:=zoW;have hel:(ndV m).elem 12=true:=rfl;refine sX ?_;refine zAA (vs':=[.agg [.int .i64 m.kind,.int .i64 m.num,.str m.text,.int .i64 m.ref.col,.int .i64 m.ref.row,.bool m.ref.fc,.bool m.ref.fr,.int .i64 m.to.col,.int .i64 m.to.row,.bool m.to.fc,.bool m.to.fr,.lst (some m.kq) m.kk (kxs m)]]) rfl rfl<|zA0 (H0:=H0.set b (rP s e2 D)) ((how.base hlH0).push _) (hob.old.push _) zAR tO (by simp only [zoU,zoN,zoT];omega) zS_ fun v' H' ho' hH' hb' hf=>?_
  have hxb:=hf b _ (how.notBox hb) (zG hb);have hx4:=hf n4 _ (how.notBox h4) (zG h4);have hx5:=hf n5 _ (how.notBox h5) (zG h5);have hx6:=hf n6 _ (how.notBox h6) (zG h6);have hob3:OldB H0 b (rP s e2 D) H':=⟨hbl,hH'⟩;have hlb:=(zl_ hxb);have hl4:=(zl_ hx4);have hl5:=(zl_ hx5);have hl6:=(zl_ hx6);have how3:Owns H0 H' v' 12 ((ks++[m]).map ndV):=by rw [zov];exact ho'.base hlH0.symm
  refine zD2 (zAc t v') hx5 how3.one rfl rfl<|sX ?_
  refine sS (kV kk q e3 tt) [zL kk,zL q,zL e3,.str tt] ?_;refine sX ?_;refine zM (v:=.agg (zAc t v')) (zAc t v') hP rfl (zHo how3.one.2) rfl rfl ?_;exact hret _ _ v' rfl hP ((((how3.setBox hx5 (.box (zAc t v'))).setBox (cs:=[c0,c1,c2,c3]) hP (.box (kV kk q e3 tt).cells)).setBox (cs:=[.str s,zK e2,zK 0,zK 0,zK D]) hP _).setBox (cs:=ndC zU) hP _) ((((hob3.set g5 _).set g6 _).setB _).set g4 _)
theorem zVv
    (hk:kk=4) (ht:tt≠[44]) (hB:B=rP s e2 D) (hb:H[b]?=some (rP s e2 D))
    (RB:ABlk) (hc:∀ H,H[b]?=some B->C zY [pR b] H (.tup []) (H.set b RB))
    (hret:∀ fr' H' v',zMk fr' 4=pR n4->H'[n4]?=some (.box (zAc t v'))->Owns H0 H' v' 12 ((ks++[m]).map ndV)->OldB H0 b RB H'->K .ret fr' H') :
    EW C GT caT K fr H:=by
  subst hB;refine zOn (fr2:=[(6,pR n6),(0,pR b),(4,pR n4),(5,pR n5),(9,pR n9)]) hfr ?_;have hbl:=hob.lt;have hlH0:(H0.set b (rP s e2 D)).length=H0.length:=zoW;have hel:(ndV m).elem 12=true:=rfl;refine sX ?_;refine zAA (vs':=[.agg [.int .i64 m.kind,.int .i64 m.num,.str m.text,.int .i64 m.ref.col,.int .i64 m.ref.row,.bool m.ref.fc,.bool m.ref.fr,.int .i64 m.to.col,.int .i64 m.to.row,.bool m.to.fc,.bool m.to.fr,.lst (some m.kq) m.kk (kxs m)]]) rfl rfl<|zA0 (H0:=H0.set b (rP s e2 D)) ((how.base hlH0).push _) (hob.old.push _) zAR tO (by simp only [zoU,zoN,zoT];omega) zS_ fun v' H' ho' hH' hb' hf=>?_
  have hxb:=hf b _ (how.notBox hb) (zG hb);have hx4:=hf n4 _ (how.notBox h4) (zG h4);have hx5:=hf n5 _ (how.notBox h5) (zG h5);have hx6:=hf n6 _ (how.notBox h6) (zG h6);have hob3:OldB H0 b (rP s e2 D) H':=⟨hbl,hH'⟩;have hlb:=(zl_ hxb);have hl4:=(zl_ hx4);have hl5:=(zl_ hx5);have hl6:=(zl_ hx6);have how3:Owns H0 H' v' 12 ((ks++[m]).map ndV):=by rw [zov];exact ho'.base hlH0.symm
  refine zD2 (zAc t v') hx5 how3.one rfl rfl<|sX ?_
  refine sS (kV kk q e3 tt) [zL kk,zL q,zL e3,.str tt] ?_;refine zA (zK 0) (zE tA (zE tA hxb)) rfl<|zt tE<|zA (zL kk) (zS (zE tA hx6)) rfl<|zD<|zt tE<|zA (.str tt) (zS (zE tA hx6)) rfl<|zD<|zc (tN ht)<|sX ?_
  refine zM (v:=.agg (zAc t v')) (zAc t v') hP rfl (zHo how3.one.2) rfl rfl ?_;exact hret _ _ v' rfl hP ((((how3.setBox hx5 (.box (zAc t v'))).setBox (cs:=[c0,c1,c2,c3]) hP (.box (kV kk q e3 tt).cells)).setBox (cs:=[.str s,zK e2,zK 0,zK 0,zK D]) hP _).setBox (cs:=ndC zU) hP _) ((((hob3.set g5 _).set g6 _).setB _).set g4 _)
theorem zas
    (w ee dd:Int) (he:ee≠0) (hB:B=pB s e2 w ee dd) (hb:H[b]?=some (pB s e2 w ee dd))
    (RB:ABlk) (hc:∀ H,H[b]?=some B->C zY [pR b] H (.tup []) (H.set b RB))
    (hret:∀ fr' H' v',zMk fr' 4=pR n4->H'[n4]?=some (.box (zAc t v'))->Owns H0 H' v' 12 ((ks++[m]).map ndV)->OldB H0 b RB H'->K .ret fr' H') :
    EW C GT caT K fr H:=by
  subst hB;refine zOn (fr2:=[(6,pR n6),(0,pR b),(4,pR n4),(5,pR n5),(9,pR n9)]) hfr ?_;have hbl:=hob.lt;have hlH0:(H0.set b (pB s e2 w ee dd)).length=H0.length:=zoW;have hel:(ndV m).elem 12=true:=rfl;refine sX ?_;refine zAA (vs':=[.agg [.int .i64 m.kind,.int .i64 m.num,.str m.text,.int .i64 m.ref.col,.int .i64 m.ref.row,.bool m.ref.fc,.bool m.ref.fr,.int .i64 m.to.col,.int .i64 m.to.row,.bool m.to.fc,.bool m.to.fr,.lst (some m.kq) m.kk (kxs m)]]) rfl rfl<|zA0 (H0:=H0.set b (pB s e2 w ee dd)) ((how.base hlH0).push _) (hob.old.push _) zAR tO (by simp only [zoU,zoN,zoT];omega) zS_ fun v' H' ho' hH' hb' hf=>?_
  have hxb:=hf b _ (how.notBox hb) (zG hb);have hx4:=hf n4 _ (how.notBox h4) (zG h4);have hx5:=hf n5 _ (how.notBox h5) (zG h5);have hx6:=hf n6 _ (how.notBox h6) (zG h6);have hob3:OldB H0 b (pB s e2 w ee dd) H':=⟨hbl,hH'⟩;have hlb:=(zl_ hxb);have hl4:=(zl_ hx4);have hl5:=(zl_ hx5);have hl6:=(zl_ hx6);have how3:Owns H0 H' v' 12 ((ks++[m]).map ndV):=by rw [zov];exact ho'.base hlH0.symm
  refine zD2 (zAc t v') hx5 how3.one rfl rfl<|sX ?_
  refine sS (kV kk q e3 tt) [zL kk,zL q,zL e3,.str tt] ?_;refine zA (zK ee) (zE tA (zE tA hxb)) rfl<|zc (tN he)<|sX ?_
  refine zM (v:=.agg (zAc t v')) (zAc t v') hP rfl (zHo how3.one.2) rfl rfl ?_;exact hret _ _ v' rfl hP ((((how3.setBox hx5 (.box (zAc t v'))).setBox (cs:=[c0,c1,c2,c3]) hP (.box (kV kk q e3 tt).cells)).setBox (cs:=[.str s,zK e2,zK w,zK ee,zK dd]) hP _).setBox (cs:=ndC zU) hP _) ((((hob3.set g5 _).set g6 _).setB _).set g4 _)
end
end
theorem zkI {s:Bs} {a e1:Nat} {w1:Bs} {r1:RefP} (ht:tok s a=.word e1 w1) (hr:zE8 w1=some r1) (h58:s[e1]?=some 58) :
    zDw s a=some (if skip s (e1+1)=e1+1/\tkK (tok s (e1+1))=1 then (zE8 (tkT (tok s (e1+1)))).map fun r2=>(zAy r1 r2,tkE (skip s (e1+1)) (tok s (e1+1))) else none):=by
  unfold zDw;rw [ht];simp only [hr,h58,zoz];by_cases h32:s[e1+1]?=some 32
  · have h1:skip s (e1+1)≠e1+1:=by
      have:=zMP h32;have:=zFg s (e1+1+1);omega
    rw [zWl (fun x=>h1 x.1)];have:zBi s (e1+1)=.sign (e1+2) [32]:=by
      unfold zBi;rw [h32];have w32:zh 32=false:=by decide
      have n1:¬ ((32:UInt8)=34):=by decide
      have n2:¬ ((32:UInt8)=35):=by decide
      simp only [w32,zoZ,zot,n1,n2];cases s[e1+1+1]? with
      |none=>rfl
      | some d=>
        simp only;rw [zWl (by rintro (⟨h,_⟩|⟨h,_⟩|⟨h,_⟩) <;> revert h <;> decide)]
    rw [this]
  · have h1:=zDg h32
    have h2:=zMv h32;rw [h1,h2];cases zBi s (e1+1) with
    |word e2 t2=>simp [tkK,tkT,tkE]
    |fin=>simp [tkK]
    |txt e2 t2=>simp [tkK]
    |bad e2 t2=>simp [tkK]
    |sign e2 t2=>simp [tkK]
    |none=>simp [tkK]
theorem zUg {s:Bs} {a:Nat} (h:¬ ∃ e1 w1 r1,tok s a=.word e1 w1/\zE8 w1=some r1/\s[e1]?=some 58):zDw s a=none:=by
  unfold zDw;split
  · grind
  · rfl
def emB (s:Bs) (e1:Nat):Nat:=tkE (skip s (e1+1)) (tok s (e1+1))
def clB (s:Bs) (a:Nat) (w e d:Int):ABlk:=pB s (tkE (skip s a) (tok s a):Nat) w e (IntKind.wrap .i64 (d-1))
inductive AF' (C:CSpec) (b:Nat) (s:Bs) (d:Nat):List Nd->Nat->List Nd->ABlk->Prop where
  |box (ks:List Nd) (a e1:Nat) (w1:Bs) (r1:RefP) (ht:tok s a=.word e1 w1) (hr:zE8 w1=some r1) (h58:s[e1]?=some 58) (hn:zDw s a=some none) :
      AF' C b s d ks a (ks++[zAy r1 ((zE8 (tkT (tok s (e1+1)))).getD noRef)]) (clB s (emB s e1) (e1+1:Nat) 2 (d+1:Nat))
  |lo (ks:List Nd) (a:Nat) (nw:Nd) (W:Bd) (hn:zDw s a=none) (hl:(P s).loose 1 a (d+1)=none) (hW:W.ok s) (h:∀ H,H[b]?=some (rP s a (d+1))->C zX [pR b,.int .i64 1] H (ndV nw) (H.set b (W.blk s))) :
      AF' C b s d ks a (ks++[nw]) (clB s W.a W.w W.e W.d)
  |close (ks:List Nd) (a:Nat) (m:Nd) (e2:Nat) (h:zFX s (P s) a (d+1)=some (m,e2)) (h44:¬ ∃ e3,tok s e2=.sign e3 [44]) (h41:¬ ∃ e3,tok s e2=.sign e3 [41]) :
      AF' C b s d ks a (ks++[m]) (pB s (tkE (skip s e2) (tok s e2):Nat) (skip s e2:Nat) 2 d)
  |later (ks:List Nd) (a:Nat) (m:Nd) (e2 e3:Nat) (L:List Nd) (RB:ABlk) (h:zFX s (P s) a (d+1)=some (m,e2)) (h44:tok s e2=.sign e3 [44]) (k:AF' C b s d (ks++[m]) e3 L RB):AF' C b s d ks a L RB
theorem zat {C:CSpec} {b:Nat} {s:Bs} {d:Nat} {t:Bs} (e0:Nat) (hLo:∀ a,e0<a->a<=s.length->CF C zX [pR b,.int .i64 1] b s a (d+1) ((P s).loose 1 a (d+1))):∀ (k:Nat) (ks:List Nd) (a:Nat),e0<a->a<=s.length->s.length-a<=k->(P s).args t ks a (d+1)=none->∃ L RB,AF' C b s d ks a L RB:=by
  intro k;induction k with
  | zero=>
    intro ks a h0 ha hk h;have hae:a=s.length:=by omega
    have hb:zDw s a=none:=by
      refine zUg ?_;rintro ⟨e1,w1,r1,ht,_⟩;have:=zB7 s a;rw [ht] at this;simp only [Tok.endsBy] at this;omega
    have hl:(P s).loose 1 a (d+1)=none:=by
      cases hl:(P s).loose 1 a (d+1) with
      |none=>rfl
      |some q=>have:=(zCr s).loose 1 a (d+1) q ha hl;omega
    obtain ⟨n',a',w,e',d',h1,h2,h3⟩:=(hLo a h0 ha).2 hl;exact ⟨_,_,.lo ks a n' ⟨a',w,e',d'⟩ hb hl ⟨h1,h2⟩ h3⟩
  | succ k ih=>
    intro ks a h0 ha hk h;rw [zMt t ks (d+1) ha] at h;unfold zFp at h;cases hpa:zFX s (P s) a (d+1) with
    | none=>
      have hpa':=hpa;unfold zFX at hpa';cases hb:zDw s a with
      | some r=>
        rw [hb] at hpa';simp only at hpa';subst hpa';have:∃ e1 w1 r1,tok s a=.word e1 w1/\zE8 w1=some r1/\s[e1]?=some 58:=Classical.byContradiction fun x=>by rw [zUg x] at hb;cases hb
        obtain ⟨e1,w1,r1,ht,hr,h58⟩:=this;exact ⟨_,_,.box ks a e1 w1 r1 ht hr h58 hb⟩
      | none=>
        rw [hb] at hpa';simp only at hpa';obtain ⟨n',a',w,e',d',h1,h2,h3⟩:=(hLo a h0 ha).2 hpa';exact ⟨_,_,.lo ks a n' ⟨a',w,e',d'⟩ hb hpa' ⟨h1,h2⟩ h3⟩
    | some x=>
      obtain ⟨m,e2⟩:=x;have hx:=zHm (zCr s) a (d+1) _ ha hpa;simp only at hx;rw [hpa,zmH] at h;by_cases h44:∃ e3,tok s e2=.sign e3 [44]
      · obtain ⟨e3,h44⟩:=h44
        have ht:=zB7 s e2;simp only [h44] at h;rw [h44] at ht;simp only [Tok.endsBy] at ht;obtain ⟨L,RB,hL⟩:=ih (ks++[m]) e3 tO tO tO h;exact ⟨L,RB,.later ks a m e2 e3 L RB hpa h44 hL⟩
      · by_cases h41:∃ e3,tok s e2=.sign e3 [41]
        · obtain ⟨e3,h41⟩:=h41
          simp only [h41] at h;cases h
        · exact ⟨_,_,.close ks a m e2 hpa h44 h41⟩
def AR (C:CSpec) (b:Nat) (s:Bs) (d:Nat) (t:Bs) (ks:List Nd) (a:Nat) (RV:AV) (RB:ABlk):Prop:=
  (∃ n' e',(P s).args t ks a (d+1)=some (n',e')/\RV=ndV n'/\RB=rP s e' d)\/(∃ L,AF' C b s d ks a L RB/\RV=ndV (zAw t L))
def AN (C:CSpec) (b:Nat) (s:Bs) (d:Nat) (t:Bs) (L:List Nd) (e2:Nat) (RV:AV) (RB:ABlk):Prop:=
  (∃ e3,tok s e2=.sign e3 [44]/\AR C b s d t L e3 RV RB)\/(∃ e3,tok s e2=.sign e3 [41]/\RV=ndV (zAw t L)/\RB=rP s e3 d) \/
  ((¬ ∃ e3,tok s e2=.sign e3 [44])/\(¬ ∃ e3,tok s e2=.sign e3 [41])/\RV=ndV (zAw t L)/\RB=pB s (tkE (skip s e2) (tok s e2):Nat) (skip s e2:Nat) 2 d)
theorem AR.ok {C:CSpec} {b:Nat} {s:Bs} {d:Nat} {t:Bs} {ks:List Nd} {a:Nat} {RV:AV} {RB:ABlk} (h:AR C b s d t ks a RV RB) (ha:a<=s.length) {m:Nd} {e2:Nat} (hp:zFX s (P s) a (d+1)=some (m,e2)):AN C b s d t (ks++[m]) e2 RV RB:=by
  rcases h with ⟨n',e',h1,h2,h3⟩|⟨L,hL,hv⟩
  · rw [zMt t ks (d+1) ha] at h1
    unfold zFp at h1;rw [hp,zmH] at h1;by_cases h44:∃ e3,tok s e2=.sign e3 [44]
    · obtain ⟨e3,h44⟩:=h44
      simp only [h44] at h1;exact .inl ⟨e3,h44,.inl ⟨n',e',h1,h2,h3⟩⟩
    · by_cases h41:∃ e3,tok s e2=.sign e3 [41]
      · obtain ⟨e3,h41⟩:=h41
        simp only [h41] at h1;obtain ⟨rfl,rfl⟩:zAw t (ks++[m])=n'/\e3=e':=by cases h1;exact ⟨rfl,rfl⟩
        exact .inr (.inl ⟨_,h41,h2,h3⟩)
      · exfalso
        split at h1
        · rename_i e3 hk;exact h44 ⟨e3,hk⟩
        · rename_i e3 hk;exact h41 ⟨e3,hk⟩
        · cases h1
  · cases hL with
    |box _ _ e1 w1 r1 ht hr h58 hn=>unfold zFX at hp;rw [hn] at hp;cases hp
    |lo _ _ nw W hn hl hW h=>unfold zFX at hp;rw [hn] at hp;simp only at hp;rw [hl] at hp;cases hp
    |close _ _ m' e2' h h44 h41=>rw [hp] at h;cases h;exact .inr (.inr ⟨h44,h41,hv,rfl⟩)
    |later _ _ m' e2' e3 _ _ h h44 k=>rw [hp] at h;cases h;exact .inl ⟨_,h44,.inr ⟨L,k,hv⟩⟩
theorem AR.bx {C:CSpec} {b:Nat} {s:Bs} {d:Nat} {t:Bs} {ks:List Nd} {a:Nat} {RV:AV} {RB:ABlk} (h:AR C b s d t ks a RV RB) (ha:a<=s.length) (hb:zDw s a=some none) {e1:Nat} {w1:Bs} {r1:RefP} (ht:tok s a=.word e1 w1) (hr:zE8 w1=some r1) :
    RV=ndV (zAw t (ks++[zAy r1 ((zE8 (tkT (tok s (e1+1)))).getD noRef)]))/\RB=clB s (emB s e1) (e1+1:Nat) 2 (d+1:Nat):=by
  have hp:zFX s (P s) a (d+1)=none:=by unfold zFX;rw [hb]
  rcases h with ⟨n',e',h1,h2,h3⟩|⟨L,hL,hv⟩
  · rw [zMt t ks (d+1) ha] at h1
    unfold zFp at h1;rw [hp] at h1;cases h1
  · cases hL with
    |box _ _ e1' w1' r1' ht' hr' h58 hn=>rw [ht] at ht';cases ht';rw [hr] at hr';cases hr';exact ⟨hv,rfl⟩
    |lo _ _ nw W hn hl hW h=>rw [hb] at hn;cases hn
    |close _ _ m' e2' h h44 h41=>rw [hp] at h;cases h
    |later _ _ m' e2' e3 _ _ h h44 k=>rw [hp] at h;cases h
theorem AR.lw {C:CSpec} {b:Nat} {s:Bs} {d:Nat} {t:Bs} {ks:List Nd} {a:Nat} {RV:AV} {RB:ABlk} (h:AR C b s d t ks a RV RB) (ha:a<=s.length) (hb:zDw s a=none) (hl:(P s).loose 1 a (d+1)=none) :
    ∃ (nw:Nd) (W:Bd),W.ok s/\(∀ H,H[b]?=some (rP s a (d+1))->C zX [pR b,.int .i64 1] H (ndV nw) (H.set b (W.blk s)))/\RV=ndV (zAw t (ks++[nw]))/\RB=clB s W.a W.w W.e W.d:=by
  have hp:zFX s (P s) a (d+1)=none:=by unfold zFX;rw [hb];exact hl
  rcases h with ⟨n',e',h1,h2,h3⟩|⟨L,hL,hv⟩
  · rw [zMt t ks (d+1) ha] at h1
    unfold zFp at h1;rw [hp] at h1;cases h1
  · cases hL with
    |box _ _ e1' w1' r1' ht' hr' h58 hn=>rw [hb] at hn;cases hn
    |lo _ _ nw W hn hl' hW h=>exact ⟨nw,W,hW,h,hv,rfl⟩
    |close _ _ m' e2' h h44 h41=>rw [hp] at h;cases h
    |later _ _ m' e2' e3 _ _ h h44 k=>rw [hp] at h;cases h
structure CaS where
  a:Nat
  v:AV
  ks:List Nd
section
variable {C:CSpec} {GT:zG_}
theorem zhj (X:AC) (K:Post) (b n4 n5 n6:Nat) (s:Bs) (a d:Nat) (H:Heap) (hb:H[b]?=some (rP s a d)) (h:∀ fr',zT fr' [6,0,4,5]=[(6,pR n6),(0,pR b),(4,pR n4),(5,pR n5)]->EW C GT X K fr' H) :
    EW C GT (.seq zB2.first X) K [(6,pR n6),(0,pR b),(4,pR n4),(5,pR n5)] H:=by
  refine sX ?_;exact h _ rfl
theorem zau (T:AC) (K:Post) (b:Nat) (s t:Bs) (e d kk q e2:Nat) (tt:Bs) (H:Heap) (hb:H[b]?=some (rP s e d)) (hel:e<=200) (htk:∀ H,C zm [.str s,zL (e+1)] H (kV kk q e2 tt) H)
    (h:∀ fr' H' n4 n5 n6,n4=H.length->n5=H.length+1->n6=H.length+2->zT fr' [4,5,0,6]=[(4,pR n4),(5,pR n5),(0,pR b),(6,pR n6)]->OldB H b (rP s (e+1) d) H'->H'[b]?=some (rP s (e+1) d)->H'[n4]?=some (.box (ndC zU))->H'[n5]?=some (.box (zAc t (.lst (some true) 0 [])))->H'[n6]?=some (.box [zL kk,zL q,zL e2,.str tt])->EW C GT T K fr' H') :
    EW C GT (.seq zBr.first (.seq zBr.rest.first (.seq zBr.rest.rest.first (.seq zBr.rest.rest.rest.first T)))) K [(0,pR b),(1,.str t)] H:=by
  have hbl:=zl_ hb;refine sX ?_;refine sSA (.agg (zN 9 0 t)) ?_;refine sX ?_;refine zQ (r:=e+1) rfl tO<|sS (.int .i64 ↑(e+1)) [.str s,.int .i64 ↑(e+1),zK 0,zK 0,zK ↑d] ?_
  refine sX ?_;refine zG2 ?_ ?_
  · refine sX ?_
    refine sS (kV kk q e2 tt) [zL kk,zL q,zL e2,.str tt] ?_;exact h _ _ _ _ _ rfl zS_ zS_ rfl (by have hob:=OldB.start hb;repeat' (first|exact ⟨_,hob⟩|apply zVr|apply zVs|refine zaV ?_ tC _|apply OldB.push|apply OldB.setE|refine OldB.set ?_ tC _)) hP hP hP hP
  · refine sX ?_
    refine sS (kV kk q e2 tt) [zL kk,zL q,zL e2,.str tt] ?_;exact h _ _ _ _ _ rfl zS_ zS_ rfl (by have hob:=OldB.start hb;repeat' (first|exact ⟨_,hob⟩|apply zVr|apply zVs|refine zaV ?_ tC _|apply OldB.push|apply OldB.setE|refine OldB.set ?_ tC _)) hP hP hP hP
abbrev caE:AC:=zBr.rest.rest.rest.rest
theorem zhk (T:AC) (K:Post) (b n4 n5 n6 kk q e2:Nat) (tt:Bs) (H:Heap) (fr:Fr) (hfr:zT fr [4,5,0,6]=[(4,pR n4),(5,pR n5),(0,pR b),(6,pR n6)]) (h6:H[n6]?=some (.box [zL kk,zL q,zL e2,.str tt])) (hno:¬ (kk=4/\tt=[41]))
    (h:∀ fr',zT fr' [6,0,4,5]=[(6,pR n6),(0,pR b),(4,pR n4),(5,pR n5)]->EW C GT T K fr' H):EW C GT (.seq caE.first T) K fr H:=by
  refine zHH (fr2:=[(4,pR n4),(5,pR n5),(0,pR b),(6,pR n6)]) hfr ?_;by_cases h4:kk=4
  · have h41:tt≠[41]:=fun x=>hno ⟨h4,x⟩
    refine zA (zL kk) h6 rfl<|zt tE<|zA (.str tt) h6 rfl<|zD<|zc (tN h41) ?_
    exact h _ rfl
  · refine sX ?_
    exact h _ rfl
theorem zhl (T:AC) (K:Post) (b n4 n5 n6 kk q e2:Nat) (t tt:Bs) (B RB:ABlk) (H0 H:Heap) (fr:Fr) (hfr:zT fr [4,5,0,6]=[(4,pR n4),(5,pR n5),(0,pR b),(6,pR n6)]) (h6:H[n6]?=some (.box [zL kk,zL q,zL e2,.str tt])) (hk:kk=4) (ht:tt=[41])
    (hob:OldB H0 b B H) (hb:H[b]?=some B) (h4:H[n4]?=some (.box (ndC zU))) (h5:H[n5]?=some (.box (zAc t (.lst (some true) 0 [])))) (g4:H0.length<=n4) (g5:H0.length<=n5) (d45:n4≠n5) (hc:∀ H,H[b]?=some B->C zY [pR b] H (.tup []) (H.set b RB))
    (hret:∀ fr' H',zMk fr' 4=pR n4->H'[n4]?=some (.box (zAc t (.lst (some true) 0 [])))->OldB H0 b RB H'->K .ret fr' H'):EW C GT (.seq caE.first T) K fr H:=by
  refine zHH (fr2:=[(4,pR n4),(5,pR n5),(0,pR b),(6,pR n6)]) hfr ?_;have hbl:=hob.lt;have hl4:=(zl_ h4);have hl5:=(zl_ h5);refine sX ?_;refine sS (.agg (zAc t (.lst (some true) 0 []))) (zAc t (.lst (some true) 0 [])) ?_;exact hret _ _ rfl hP ((hob.setB _).set g4 _)
end
end Go.AM
