/- Several texts of mine in one (Rfa, Rfb, Rfc, Rfd, Rfe). Own work. -/
import Derived.Test.YtljipljfelkodaaGreatDoorGAm30Fp1
import Derived.Test.YtljipljfelkodaaGreatDoorGRf4Rf9
set_option linter.all false
set_option maxRecDepth 20000
namespace Go.AM
abbrev caI : AC:=(AC.rest zBH).body
abbrev caR1 : AC:=caI.first
abbrev caR2 : AC:=caI.rest.first
abbrev caR3 : AC:=caI.rest.rest.first
abbrev caA : AC:=caI.rest.rest.rest.first
abbrev caT : AC:=caI.rest.rest.rest.rest
section
variable {C : CSpec} {GT : Nat → Option AV}
theorem zFD {L : List Nat} {d : Bool} {ops : List AI} {c1 c2 : AC} {K : Post} {fr fr2 : Fr} {H : Heap} (h : zX fr L = zX fr2 L) (x : EW C GT (.seq (.seq (.reg L d ops) c1) c2) K fr2 H) : EW C GT (.seq (.seq (.reg L d ops) c1) c2) K fr H:=by
 have x : EWops C GT ops [] (zX fr2 L) H (fun fr' H'=>seqK (EW C GT c1 (seqK (EW C GT c2 K) K)) (seqK (EW C GT c2 K) K) .normal fr' H'):=x
 rw [← h] at x
 exact x
theorem zLp {L : List Nat} {d : Bool} {ops : List AI} {c2 : AC} {K : Post} {fr fr2 : Fr} {H : Heap} (h : zX fr L = zX fr2 L) (x : EW C GT (.seq (.reg L d ops) c2) K fr2 H) : EW C GT (.seq (.reg L d ops) c2) K fr H:=by
 have x : EWops C GT ops [] (zX fr2 L) H (fun fr' H'=>seqK (EW C GT c2 K) K .normal fr' H'):=x
 rw [← h] at x
 exact x
theorem call_p1 (T : AC) (K : Post) (b n4 n5 n6 : Nat) (s : Bs) (a d : Nat) (kk q e : Nat) (t : Bs) (rv : List AV) (ok : Bool) (H : Heap) (c6 : List AV) (hc6 : c6.length = 4) (c0 c1 c2 c3 : AV) (hc6' : c6 = [c0,c1,c2,c3])
  (hb : H[b]? = some (rP s a d)) (h6 : H[n6]? = some (.box c6)) (hbn : b ≠ n6)
  (htk : ∀ H,C zT [.str s,zK a] H (kV kk q e t) H) (hr : ∀ H,C zj [.str t] H (.tup [.agg rv,.bool ok]) H) (r0 r1 r2 r3 : AV) (hrv : rv = [r0,r1,r2,r3]) (hro : (AV.agg rv).cells.all AV.one = true)
  (h : ∀ fr' H' n7 n9,zX fr' [6,0,4,5,9,7,8] = [(6,pR n6),(0,pR b),(4,pR n4),(5,pR n5),(9,pR n9),(7,pR n7),(8,.bool ok)] → H' = ((((H.set n6 (ABlk.box [zK kk,zK q,zK e,.str t])) ++ [ABlk.box zV1]).set n7 (.box rv)) ++ [ABlk.box (ndC zW)]) → n7 = H.length → n9 = H.length + 1 → EW C GT T K fr' H') :
  EW C GT (.seq caR1 (.seq caR2 (.seq caR3 T))) K [(6,pR n6),(0,pR b),(4,pR n4),(5,pR n5)] H:=by
 subst hc6' hrv
 have hl6:=(zg h6).1
 refine sW ?_; refine sS (kV kk q e t) [zK kk,zK q,zK e,.str t] ?_; refine sW ?_; refine zH (v:=.agg [r0,r1,r2,r3]) [r0,r1,r2,r3] zB rfl hro rfl rfl ?_
 exact h _ _ _ _ rfl rfl (by simp) (by simp)
def Kp (H H' : Heap) (b n9 : Nat) : Prop:=(∀ c x,H[c]? = some x → c ≠ b → c ≠ n9 → H'[c]? = some x) ∧ H.length ≤ H'.length
theorem call_na (T : AC) (K : Post) (b n4 n5 n6 n7 n9 : Nat) (ok : Bool) (s : Bs) (p D kk q e : Nat) (t : Bs) (H : Heap) (fr : Fr) (hfr : zX fr [6,0,4,5,9,7,8] = [(6,pR n6),(0,pR b),(4,pR n4),(5,pR n5),(9,pR n9),(7,pR n7),(8,.bool ok)])
  (hb : H[b]? = some (rP s p D)) (h6 : H[n6]? = some (.box [zK kk,zK q,zK e,.str t])) (h9 : H[n9]? = some (.box (ndC zW))) (hb9 : b ≠ n9) (h69 : n6 ≠ n9) (hb6 : b ≠ n6) (hel : e ≤ s.length) (hl : s.length ≤ 200)
  (m : Nd) (B : ABlk) (hlo : ∀ H,H[b]? = some (rP s p D) → C zU [pR b,.int .i64 1] H (ndV m) (H.set b B)) (h1 : kk ≠ 1)
  (h : ∀ fr' H',zX fr' [6,0,4,5,9] = [(6,pR n6),(0,pR b),(4,pR n4),(5,pR n5),(9,pR n9)] → H'[b]? = some B → H'[n9]? = some (.box (ndC m)) → Kp H H' b n9 → EW C GT T K fr' H') :
  EW C GT (.seq caA T) K fr H:=by
 refine zFD (fr2:=[(6,pR n6),(0,pR b),(4,pR n4),(5,pR n5),(9,pR n9),(7,pR n7),(8,.bool ok)]) hfr ?_
 have hl9:=(zg h9).1
 have hl6:=(zg h6).1
 have hbl:=(zg hb).1
 refine sW ?_; refine sS (ndV m) (AV.cells (ndV m)) ?_
 exact h _ _ rfl hP hP ⟨(fun c x hc g1 g2=>by have hcl:=(zg hc).1; repeat' (first | exact hc | refine zC ?_ | refine zA (by first | exact zMq g1 | exact zMq g2 | omega | (simp only [zL3,zL1,zLw,zL4]; omega) | (simp; omega)) ?_)),tC⟩
theorem call_nb (T : AC) (K : Post) (b n4 n5 n6 n7 n9 : Nat) (ok : Bool) (s : Bs) (p D kk q e : Nat) (t : Bs) (H : Heap) (fr : Fr) (hfr : zX fr [6,0,4,5,9,7,8] = [(6,pR n6),(0,pR b),(4,pR n4),(5,pR n5),(9,pR n9),(7,pR n7),(8,.bool ok)])
  (hb : H[b]? = some (rP s p D)) (h6 : H[n6]? = some (.box [zK kk,zK q,zK e,.str t])) (h9 : H[n9]? = some (.box (ndC zW))) (hb9 : b ≠ n9) (h69 : n6 ≠ n9) (hb6 : b ≠ n6) (hel : e ≤ s.length) (hl : s.length ≤ 200)
  (m : Nd) (B : ABlk) (hlo : ∀ H,H[b]? = some (rP s p D) → C zU [pR b,.int .i64 1] H (ndV m) (H.set b B)) (h1 : kk = 1) (ho : ok = false)
  (h : ∀ fr' H',zX fr' [6,0,4,5,9] = [(6,pR n6),(0,pR b),(4,pR n4),(5,pR n5),(9,pR n9)] → H'[b]? = some B → H'[n9]? = some (.box (ndC m)) → Kp H H' b n9 → EW C GT T K fr' H') :
  EW C GT (.seq caA T) K fr H:=by
 refine zFD (fr2:=[(6,pR n6),(0,pR b),(4,pR n4),(5,pR n5),(9,pR n9),(7,pR n7),(8,.bool ok)]) hfr ?_
 have hl9:=(zg h9).1
 have hl6:=(zg h6).1
 have hbl:=(zg hb).1
 subst ho
 refine sW ?_; refine sS (ndV m) (AV.cells (ndV m)) ?_
 exact h _ _ rfl hP hP ⟨(fun c x hc g1 g2=>by have hcl:=(zg hc).1; repeat' (first | exact hc | refine zC ?_ | refine zA (by first | exact zMq g1 | exact zMq g2 | omega | (simp only [zL3,zL1,zLw,zL4]; omega) | (simp; omega)) ?_)),tC⟩
theorem call_nc (T : AC) (K : Post) (b n4 n5 n6 n7 n9 : Nat) (ok : Bool) (s : Bs) (p D kk q e : Nat) (t : Bs) (H : Heap) (fr : Fr) (hfr : zX fr [6,0,4,5,9,7,8] = [(6,pR n6),(0,pR b),(4,pR n4),(5,pR n5),(9,pR n9),(7,pR n7),(8,.bool ok)])
  (hb : H[b]? = some (rP s p D)) (h6 : H[n6]? = some (.box [zK kk,zK q,zK e,.str t])) (h9 : H[n9]? = some (.box (ndC zW))) (hb9 : b ≠ n9) (h69 : n6 ≠ n9) (hb6 : b ≠ n6) (hel : e ≤ s.length) (hl : s.length ≤ 200)
  (m : Nd) (B : ABlk) (hlo : ∀ H,H[b]? = some (rP s p D) → C zU [pR b,.int .i64 1] H (ndV m) (H.set b B)) (h1 : kk = 1) (ho : ok = true) (hle : s.length ≤ e)
  (h : ∀ fr' H',zX fr' [6,0,4,5,9] = [(6,pR n6),(0,pR b),(4,pR n4),(5,pR n5),(9,pR n9)] → H'[b]? = some B → H'[n9]? = some (.box (ndC m)) → Kp H H' b n9 → EW C GT T K fr' H') :
  EW C GT (.seq caA T) K fr H:=by
 refine zFD (fr2:=[(6,pR n6),(0,pR b),(4,pR n4),(5,pR n5),(9,pR n9),(7,pR n7),(8,.bool ok)]) hfr ?_
 have hl9:=(zg h9).1
 have hl6:=(zg h6).1
 have hbl:=(zg hb).1
 subst ho
 refine sW ?_; refine sS (ndV m) (AV.cells (ndV m)) ?_
 exact h _ _ rfl hP hP ⟨(fun c x hc g1 g2=>by have hcl:=(zg hc).1; repeat' (first | exact hc | refine zC ?_ | refine zA (by first | exact zMq g1 | exact zMq g2 | omega | (simp only [zL3,zL1,zLw,zL4]; omega) | (simp; omega)) ?_)),tC⟩
theorem call_nd (T : AC) (K : Post) (b n4 n5 n6 n7 n9 : Nat) (ok : Bool) (s : Bs) (p D kk q e : Nat) (t : Bs) (H : Heap) (fr : Fr) (hfr : zX fr [6,0,4,5,9,7,8] = [(6,pR n6),(0,pR b),(4,pR n4),(5,pR n5),(9,pR n9),(7,pR n7),(8,.bool ok)])
  (hb : H[b]? = some (rP s p D)) (h6 : H[n6]? = some (.box [zK kk,zK q,zK e,.str t])) (h9 : H[n9]? = some (.box (ndC zW))) (hb9 : b ≠ n9) (h69 : n6 ≠ n9) (hb6 : b ≠ n6) (hel : e ≤ s.length) (hl : s.length ≤ 200)
  (m : Nd) (B : ABlk) (hlo : ∀ H,H[b]? = some (rP s p D) → C zU [pR b,.int .i64 1] H (ndV m) (H.set b B)) (h1 : kk = 1) (ho : ok = true) (c : UInt8) (hc : s[e]? = some c) (hc58 : c.toNat ≠ 58)
  (h : ∀ fr' H',zX fr' [6,0,4,5,9] = [(6,pR n6),(0,pR b),(4,pR n4),(5,pR n5),(9,pR n9)] → H'[b]? = some B → H'[n9]? = some (.box (ndC m)) → Kp H H' b n9 → EW C GT T K fr' H') :
  EW C GT (.seq caA T) K fr H:=by
 refine zFD (fr2:=[(6,pR n6),(0,pR b),(4,pR n4),(5,pR n5),(9,pR n9),(7,pR n7),(8,.bool ok)]) hfr ?_
 have hl9:=(zg h9).1
 have hl6:=(zg h6).1
 have hbl:=(zg hb).1
 subst ho
 have hce:=(zg hc).1
 refine sW ?_; refine sS (ndV m) (AV.cells (ndV m)) ?_
 exact h _ _ rfl hP hP ⟨(fun c x hc g1 g2=>by have hcl:=(zg hc).1; repeat' (first | exact hc | refine zC ?_ | refine zA (by first | exact zMq g1 | exact zMq g2 | omega | (simp only [zL3,zL1,zLw,zL4]; omega) | (simp; omega)) ?_)),tC⟩
theorem call_xok (T : AC) (K : Post) (b n4 n5 n6 n7 n9 : Nat) (ok : Bool) (s : Bs) (p D kk q e : Nat) (t : Bs) (H : Heap) (fr : Fr) (hfr : zX fr [6,0,4,5,9,7,8] = [(6,pR n6),(0,pR b),(4,pR n4),(5,pR n5),(9,pR n9),(7,pR n7),(8,.bool ok)])
  (hb : H[b]? = some (rP s p D)) (h6 : H[n6]? = some (.box [zK kk,zK q,zK e,.str t])) (h9 : H[n9]? = some (.box (ndC zW))) (hb9 : b ≠ n9) (h69 : n6 ≠ n9) (hb6 : b ≠ n6) (hel : e ≤ s.length) (hl : s.length ≤ 200)
  (r1 r2 : RefP) (h7 : H[n7]? = some (.box [zI r1.col,zI r1.row,.bool r1.fc,.bool r1.fr])) (hn79 : n7 ≠ n9) (hn7b : n7 ≠ b) (kk2 q2 e2 : Nat) (t2 : Bs) (htk : ∀ H,C zT [.str s,zK (e + 1)] H (kV kk2 q2 e2 t2) H) (hr : ∀ H,C zj [.str t2] H (.tup [.agg [zI r2.col,zI r2.row,.bool r2.fc,.bool r2.fr],.bool true]) H) (hq2 : q2 = e + 1) (hk2 : kk2 = 1)
  (h1 : kk = 1) (ho : ok = true) (hc : s[e]? = some 58) (m : Nd) (hm : m = boxN r1 r2) (B : ABlk) (hB : B = rP s e2 D)
  (h : ∀ fr' H',zX fr' [6,0,4,5,9] = [(6,pR n6),(0,pR b),(4,pR n4),(5,pR n5),(9,pR n9)] → H'[b]? = some B → H'[n9]? = some (.box (ndC m)) → Kp H H' b n9 → EW C GT T K fr' H') :
  EW C GT (.seq caA T) K fr H:=by
 refine zFD (fr2:=[(6,pR n6),(0,pR b),(4,pR n4),(5,pR n5),(9,pR n9),(7,pR n7),(8,.bool ok)]) hfr ?_
 have hl9:=(zg h9).1
 have hl6:=(zg h6).1
 have hl7:=(zg h7).1
 have hbl:=(zg hb).1
 have hce:=(zg hc).1
 subst ho hm hB
 refine sW ?_; refine zN (r:=e + 1) rfl tO ?_; refine zGk ?_ ?_
 all_goals
  refine sW ?_; refine sS (kV kk2 q2 e2 t2) (AV.cells (kV kk2 q2 e2 t2)) ?_; refine sW ?_; refine sS (AV.agg [zI r2.col,zI r2.row,AV.bool r2.fc,AV.bool r2.fr]) (AV.cells (AV.agg [zI r2.col,zI r2.row,AV.bool r2.fc,AV.bool r2.fr])) ?_; refine sW ?_; refine zN (r:=e + 1) rfl tO <| zY (zMQ.2 tO) <| sW ?_; refine zY (zMQ.2 tO) <| sW ?_; refine sS (zK e2) [AV.str s,zK e2,zI 0,zI 0,zI ↑D] ?_
  refine sW ?_; refine sS (AV.agg [.int .i64 6,.int .i64 0,AV.str [],zI r1.col,zI r1.row,AV.bool r1.fc,AV.bool r1.fr,zI r2.col,zI r2.row,AV.bool r2.fc,AV.bool r2.fr,AV.lst (some true) 0 []]) (AV.cells (AV.agg [.int .i64 6,.int .i64 0,AV.str [],zI r1.col,zI r1.row,AV.bool r1.fc,AV.bool r1.fr,zI r2.col,zI r2.row,AV.bool r2.fc,AV.bool r2.fr,AV.lst (some true) 0 []])) ?_
  exact h _ _ rfl hP hP ⟨(fun c x hc g1 g2=>by have hcl:=(zg hc).1; repeat' (first | exact hc | refine zC ?_ | refine zA (by first | exact zMq g1 | exact zMq g2 | omega | (simp only [zL3,zL1,zLw,zL4]; omega) | (simp; omega)) ?_)),tC⟩
theorem call_xfa (T : AC) (K : Post) (b n4 n5 n6 n7 n9 : Nat) (ok : Bool) (s : Bs) (p D kk q e : Nat) (t : Bs) (H : Heap) (fr : Fr) (hfr : zX fr [6,0,4,5,9,7,8] = [(6,pR n6),(0,pR b),(4,pR n4),(5,pR n5),(9,pR n9),(7,pR n7),(8,.bool ok)])
  (hb : H[b]? = some (rP s p D)) (h6 : H[n6]? = some (.box [zK kk,zK q,zK e,.str t])) (h9 : H[n9]? = some (.box (ndC zW))) (hb9 : b ≠ n9) (h69 : n6 ≠ n9) (hb6 : b ≠ n6) (hel : e ≤ s.length) (hl : s.length ≤ 200)
  (r1 r2 : RefP) (h7 : H[n7]? = some (.box [zI r1.col,zI r1.row,.bool r1.fc,.bool r1.fr])) (hn79 : n7 ≠ n9) (hn7b : n7 ≠ b) (kk2 q2 e2 : Nat) (t2 : Bs) (htk : ∀ H,C zT [.str s,zK (e + 1)] H (kV kk2 q2 e2 t2) H) (ok2 : Bool) (hr : ∀ H,C zj [.str t2] H (.tup [.agg [zI r2.col,zI r2.row,.bool r2.fc,.bool r2.fr],.bool ok2]) H) (hq2 : q2 ≠ e + 1) (hf : ∀ H,H[b]? = some (rP s p D) → C zd [pR b,zK (e + 1),.int .i64 2] H (.tup []) (H.set b (pB s p (e + 1 : Nat) 2 D)))
  (h1 : kk = 1) (ho : ok = true) (hc : s[e]? = some 58) (m : Nd) (hm : m = boxN r1 r2) (B : ABlk) (hB : B = pB s e2 (e + 1 : Nat) 2 D)
  (h : ∀ fr' H',zX fr' [6,0,4,5,9] = [(6,pR n6),(0,pR b),(4,pR n4),(5,pR n5),(9,pR n9)] → H'[b]? = some B → H'[n9]? = some (.box (ndC m)) → Kp H H' b n9 → EW C GT T K fr' H') :
  EW C GT (.seq caA T) K fr H:=by
 refine zFD (fr2:=[(6,pR n6),(0,pR b),(4,pR n4),(5,pR n5),(9,pR n9),(7,pR n7),(8,.bool ok)]) hfr ?_
 have hl9:=(zg h9).1
 have hl6:=(zg h6).1
 have hl7:=(zg h7).1
 have hbl:=(zg hb).1
 have hce:=(zg hc).1
 subst ho hm hB
 refine sW ?_; refine zN (r:=e + 1) rfl tO ?_; refine zGk ?_ ?_
 all_goals
  refine sW ?_; refine sS (kV kk2 q2 e2 t2) (AV.cells (kV kk2 q2 e2 t2)) ?_; refine sW ?_; refine sS (AV.agg [zI r2.col,zI r2.row,AV.bool r2.fc,AV.bool r2.fr]) (AV.cells (AV.agg [zI r2.col,zI r2.row,AV.bool r2.fc,AV.bool r2.fr])) ?_; refine sW ?_; refine zN (r:=e + 1) rfl tO <| zb (zMg.2 tO) <| sW ?_; refine zN (r:=e + 1) rfl tO <| sW ?_; refine sS (zK e2) [AV.str s,zK e2,zI ↑(e + 1),zI 2,zI ↑D] ?_
  refine sW ?_; refine sS (AV.agg [.int .i64 6,.int .i64 0,AV.str [],zI r1.col,zI r1.row,AV.bool r1.fc,AV.bool r1.fr,zI r2.col,zI r2.row,AV.bool r2.fc,AV.bool r2.fr,AV.lst (some true) 0 []]) (AV.cells (AV.agg [.int .i64 6,.int .i64 0,AV.str [],zI r1.col,zI r1.row,AV.bool r1.fc,AV.bool r1.fr,zI r2.col,zI r2.row,AV.bool r2.fc,AV.bool r2.fr,AV.lst (some true) 0 []])) ?_
  exact h _ _ rfl hP hP ⟨(fun c x hc g1 g2=>by have hcl:=(zg hc).1; repeat' (first | exact hc | refine zC ?_ | refine zA (by first | exact zMq g1 | exact zMq g2 | omega | (simp only [zL3,zL1,zLw,zL4]; omega) | (simp; omega)) ?_)),tC⟩
theorem call_xfb (T : AC) (K : Post) (b n4 n5 n6 n7 n9 : Nat) (ok : Bool) (s : Bs) (p D kk q e : Nat) (t : Bs) (H : Heap) (fr : Fr) (hfr : zX fr [6,0,4,5,9,7,8] = [(6,pR n6),(0,pR b),(4,pR n4),(5,pR n5),(9,pR n9),(7,pR n7),(8,.bool ok)])
  (hb : H[b]? = some (rP s p D)) (h6 : H[n6]? = some (.box [zK kk,zK q,zK e,.str t])) (h9 : H[n9]? = some (.box (ndC zW))) (hb9 : b ≠ n9) (h69 : n6 ≠ n9) (hb6 : b ≠ n6) (hel : e ≤ s.length) (hl : s.length ≤ 200)
  (r1 r2 : RefP) (h7 : H[n7]? = some (.box [zI r1.col,zI r1.row,.bool r1.fc,.bool r1.fr])) (hn79 : n7 ≠ n9) (hn7b : n7 ≠ b) (kk2 q2 e2 : Nat) (t2 : Bs) (htk : ∀ H,C zT [.str s,zK (e + 1)] H (kV kk2 q2 e2 t2) H) (ok2 : Bool) (hr : ∀ H,C zj [.str t2] H (.tup [.agg [zI r2.col,zI r2.row,.bool r2.fc,.bool r2.fr],.bool ok2]) H) (hq2 : q2 = e + 1) (hk2 : kk2 ≠ 1) (hf : ∀ H,H[b]? = some (rP s p D) → C zd [pR b,zK (e + 1),.int .i64 2] H (.tup []) (H.set b (pB s p (e + 1 : Nat) 2 D)))
  (h1 : kk = 1) (ho : ok = true) (hc : s[e]? = some 58) (m : Nd) (hm : m = boxN r1 r2) (B : ABlk) (hB : B = pB s e2 (e + 1 : Nat) 2 D)
  (h : ∀ fr' H',zX fr' [6,0,4,5,9] = [(6,pR n6),(0,pR b),(4,pR n4),(5,pR n5),(9,pR n9)] → H'[b]? = some B → H'[n9]? = some (.box (ndC m)) → Kp H H' b n9 → EW C GT T K fr' H') :
  EW C GT (.seq caA T) K fr H:=by
 refine zFD (fr2:=[(6,pR n6),(0,pR b),(4,pR n4),(5,pR n5),(9,pR n9),(7,pR n7),(8,.bool ok)]) hfr ?_
 have hl9:=(zg h9).1
 have hl6:=(zg h6).1
 have hl7:=(zg h7).1
 have hbl:=(zg hb).1
 have hce:=(zg hc).1
 subst ho hm hB
 refine sW ?_; refine zN (r:=e + 1) rfl tO ?_; refine zGk ?_ ?_
 all_goals
  refine sW ?_; refine sS (kV kk2 q2 e2 t2) (AV.cells (kV kk2 q2 e2 t2)) ?_; refine sW ?_; refine sS (AV.agg [zI r2.col,zI r2.row,AV.bool r2.fc,AV.bool r2.fr]) (AV.cells (AV.agg [zI r2.col,zI r2.row,AV.bool r2.fc,AV.bool r2.fr])) ?_; refine sW ?_; refine zN (r:=e + 1) rfl tO <| zY (zMQ.2 tO) <| sW ?_; refine zb (zMg.2 tO) <| sW ?_; refine zN (r:=e + 1) rfl tO <| sW ?_
  refine sS (zK e2) [AV.str s,zK e2,zI ↑(e + 1),zI 2,zI ↑D] ?_; refine sW ?_; refine sS (AV.agg [.int .i64 6,.int .i64 0,AV.str [],zI r1.col,zI r1.row,AV.bool r1.fc,AV.bool r1.fr,zI r2.col,zI r2.row,AV.bool r2.fc,AV.bool r2.fr,AV.lst (some true) 0 []]) (AV.cells (AV.agg [.int .i64 6,.int .i64 0,AV.str [],zI r1.col,zI r1.row,AV.bool r1.fc,AV.bool r1.fr,zI r2.col,zI r2.row,AV.bool r2.fc,AV.bool r2.fr,AV.lst (some true) 0 []])) ?_
  exact h _ _ rfl hP hP ⟨(fun c x hc g1 g2=>by have hcl:=(zg hc).1; repeat' (first | exact hc | refine zC ?_ | refine zA (by first | exact zMq g1 | exact zMq g2 | omega | (simp only [zL3,zL1,zLw,zL4]; omega) | (simp; omega)) ?_)),tC⟩
theorem call_xfc (T : AC) (K : Post) (b n4 n5 n6 n7 n9 : Nat) (ok : Bool) (s : Bs) (p D kk q e : Nat) (t : Bs) (H : Heap) (fr : Fr) (hfr : zX fr [6,0,4,5,9,7,8] = [(6,pR n6),(0,pR b),(4,pR n4),(5,pR n5),(9,pR n9),(7,pR n7),(8,.bool ok)])
  (hb : H[b]? = some (rP s p D)) (h6 : H[n6]? = some (.box [zK kk,zK q,zK e,.str t])) (h9 : H[n9]? = some (.box (ndC zW))) (hb9 : b ≠ n9) (h69 : n6 ≠ n9) (hb6 : b ≠ n6) (hel : e ≤ s.length) (hl : s.length ≤ 200)
  (r1 r2 : RefP) (h7 : H[n7]? = some (.box [zI r1.col,zI r1.row,.bool r1.fc,.bool r1.fr])) (hn79 : n7 ≠ n9) (hn7b : n7 ≠ b) (kk2 q2 e2 : Nat) (t2 : Bs) (htk : ∀ H,C zT [.str s,zK (e + 1)] H (kV kk2 q2 e2 t2) H) (hr : ∀ H,C zj [.str t2] H (.tup [.agg [zI r2.col,zI r2.row,.bool r2.fc,.bool r2.fr],.bool false]) H) (hq2 : q2 = e + 1) (hk2 : kk2 = 1) (hf : ∀ H,H[b]? = some (rP s p D) → C zd [pR b,zK (e + 1),.int .i64 2] H (.tup []) (H.set b (pB s p (e + 1 : Nat) 2 D)))
  (h1 : kk = 1) (ho : ok = true) (hc : s[e]? = some 58) (m : Nd) (hm : m = boxN r1 r2) (B : ABlk) (hB : B = pB s e2 (e + 1 : Nat) 2 D)
  (h : ∀ fr' H',zX fr' [6,0,4,5,9] = [(6,pR n6),(0,pR b),(4,pR n4),(5,pR n5),(9,pR n9)] → H'[b]? = some B → H'[n9]? = some (.box (ndC m)) → Kp H H' b n9 → EW C GT T K fr' H') :
  EW C GT (.seq caA T) K fr H:=by
 refine zFD (fr2:=[(6,pR n6),(0,pR b),(4,pR n4),(5,pR n5),(9,pR n9),(7,pR n7),(8,.bool ok)]) hfr ?_
 have hl9:=(zg h9).1
 have hl6:=(zg h6).1
 have hl7:=(zg h7).1
 have hbl:=(zg hb).1
 have hce:=(zg hc).1
 subst ho hm hB
 refine sW ?_; refine zN (r:=e + 1) rfl tO ?_; refine zGk ?_ ?_
 all_goals
  refine sW ?_; refine sS (kV kk2 q2 e2 t2) (AV.cells (kV kk2 q2 e2 t2)) ?_; refine sW ?_; refine sS (AV.agg [zI r2.col,zI r2.row,AV.bool r2.fc,AV.bool r2.fr]) (AV.cells (AV.agg [zI r2.col,zI r2.row,AV.bool r2.fc,AV.bool r2.fr])) ?_; refine sW ?_; refine zN (r:=e + 1) rfl tO <| zY (zMQ.2 tO) <| sW ?_; refine zY (zMQ.2 tO) <| sW ?_; refine zN (r:=e + 1) rfl tO <| sW ?_
  refine sS (zK e2) [AV.str s,zK e2,zI ↑(e + 1),zI 2,zI ↑D] ?_; refine sW ?_; refine sS (AV.agg [.int .i64 6,.int .i64 0,AV.str [],zI r1.col,zI r1.row,AV.bool r1.fc,AV.bool r1.fr,zI r2.col,zI r2.row,AV.bool r2.fc,AV.bool r2.fr,AV.lst (some true) 0 []]) (AV.cells (AV.agg [.int .i64 6,.int .i64 0,AV.str [],zI r1.col,zI r1.row,AV.bool r1.fc,AV.bool r1.fr,zI r2.col,zI r2.row,AV.bool r2.fc,AV.bool r2.fr,AV.lst (some true) 0 []])) ?_
  exact h _ _ rfl hP hP ⟨(fun c x hc g1 g2=>by have hcl:=(zg hc).1; repeat' (first | exact hc | refine zC ?_ | refine zA (by first | exact zMq g1 | exact zMq g2 | omega | (simp only [zL3,zL1,zLw,zL4]; omega) | (simp; omega)) ?_)),tC⟩
end
end Go.AM
set_option maxRecDepth 20000
namespace Go.AM
section
variable {C : CSpec} {GT : Nat → Option AV}
theorem call_tcont (K : Post) (b n4 n5 n6 n9 : Nat) (s : Bs) (D : Nat) (t : Bs) (m : Nd) (ks : List Nd) (v : AV) (B : ABlk) (H0 H : Heap) (fr : Fr) (hfr : zX fr [6,0,4,5,9] = [(6,pR n6),(0,pR b),(4,pR n4),(5,pR n5),(9,pR n9)])
  (hob : OldB H0 b B H) (how : Owns H0 H v 12 (ks.map ndV)) (hkl : ks.length ≤ 200) (h4 : H[n4]? = some (.box (ndC zW))) (h5 : H[n5]? = some (.box (zAI t v))) (c0 c1 c2 c3 : AV) (h6 : H[n6]? = some (.box [c0,c1,c2,c3])) (h9 : H[n9]? = some (.box (ndC m)))
  (g4 : H0.length ≤ n4) (g5 : H0.length ≤ n5) (g6 : H0.length ≤ n6) (g9 : H0.length ≤ n9) (d45 : n4 ≠ n5) (d46 : n4 ≠ n6) (d56 : n5 ≠ n6) (e2 kk q e3 : Nat) (tt : Bs) (htk : ∀ H,C zT [.str s,zK e2] H (kV kk q e3 tt) H)
  (hk : kk = 4) (ht : tt = [44]) (hB : B = rP s e2 D) (hb : H[b]? = some (rP s e2 D))
  (hcont : ∀ fr' H' v',zX fr' [6,0,4,5] = [(6,pR n6),(0,pR b),(4,pR n4),(5,pR n5)] → H'[b]? = some (rP s e3 D) → H'[n5]? = some (.box (zAI t v')) → H'[n4]? = some (.box (ndC zW)) → (∃ c0 c1 c2 c3,H'[n6]? = some (.box [c0,c1,c2,c3])) → Owns H0 H' v' 12 ((ks ++ [m]).map ndV) → OldB H0 b (rP s e3 D) H' → K (.exit 1) fr' H') :
  EW C GT caT K fr H:=by
 subst hB
 refine zLp (fr2:=[(6,pR n6),(0,pR b),(4,pR n4),(5,pR n5),(9,pR n9)]) hfr ?_
 have hbl:=hob.lt
 have hlH0 : (H0.set b (rP s e2 D)).length = H0.length:=zL3
 have hel : (ndV m).elem 12 = true:=rfl
 refine zD (v) h5 rfl <| zD (AV.agg [.int .i64 m.kind,.int .i64 m.num,AV.str m.text,.int .i64 m.ref.col,.int .i64 m.ref.row,AV.bool m.ref.fc,AV.bool m.ref.fr,.int .i64 m.to.col,.int .i64 m.to.row,AV.bool m.to.fc,AV.bool m.to.fr,AV.lst (some m.kq) m.kk (kxs m)]) h9 rfl <| zAs (vs':=[AV.agg [.int .i64 m.kind,.int .i64 m.num,AV.str m.text,.int .i64 m.ref.col,.int .i64 m.ref.row,AV.bool m.ref.fc,AV.bool m.ref.fr,.int .i64 m.to.col,.int .i64 m.to.row,AV.bool m.to.fc,AV.bool m.to.fr,AV.lst (some m.kq) m.kk (kxs m)]]) rfl rfl ?_
 refine zCA (H0:=H0.set b (rP s e2 D)) ((how.base hlH0).push _) (hob.old.push _) zAz tO (by simp only [zL6,zLw,zL4]; omega) (by simp) fun v' H' ho' hH' hb' hf=>?_
 have hxb:=hf b _ (how.notBox hb) (zC hb)
 have hx4:=hf n4 _ (how.notBox h4) (zC h4)
 have hx5:=hf n5 _ (how.notBox h5) (zC h5)
 have hx6:=hf n6 _ (how.notBox h6) (zC h6)
 have hob3 : OldB H0 b (rP s e2 D) H':=⟨hbl,hH'⟩
 have hlb:=(zg hxb).1
 have hl4:=(zg hx4).1
 have hl5:=(zg hx5).1
 have hl6:=(zg hx6).1
 have how3 : Owns H0 H' v' 12 ((ks ++ [m]).map ndV):=by rw [zMW]; exact ho'.base hlH0.symm
 refine zCg (zAI t v') hx5 how3.one rfl rfl <| zD (AV.str s) (zA tA hxb) rfl <| zD (zI ↑e2) (zA tA hxb) rfl <| zL (htk _) <| zH (v:=kV kk q e3 tt) [zK kk,zK q,zK e3,.str tt] hP rfl rfl rfl rfl <| zD (zI 0) (zA tA (zA tA hxb)) rfl ?_; refine zb tE <| zD (zK kk) (zE (zA tA hx6)) rfl <| zG <| zb tE <| zD (AV.str tt) (zE (zA tA hx6)) rfl ?_; refine zG <| zb tE <| zD (zK e3) (zE (zA tA hx6)) rfl <| zH (v:=zK e3) [AV.str s,zK e3,zI 0,zI 0,zI ↑D] (zA tA (zA tA hxb)) rfl rfl rfl rfl ?_
 exact hcont _ _ v' rfl hP hP hP ⟨_,_,_,_,hP⟩ (((how3.setBox hx5 (.box (zAI t v'))).setBox (cs:=[c0,c1,c2,c3]) hP (.box (kV kk q e3 tt).cells)).setBox (cs:=[.str s,zI e2,zI 0,zI 0,zI D]) hP _) (((hob3.set g5 _).set g6 _).setB _)
theorem call_tra (K : Post) (b n4 n5 n6 n9 : Nat) (s : Bs) (D : Nat) (t : Bs) (m : Nd) (ks : List Nd) (v : AV) (B : ABlk) (H0 H : Heap) (fr : Fr) (hfr : zX fr [6,0,4,5,9] = [(6,pR n6),(0,pR b),(4,pR n4),(5,pR n5),(9,pR n9)])
  (hob : OldB H0 b B H) (how : Owns H0 H v 12 (ks.map ndV)) (hkl : ks.length ≤ 200) (h4 : H[n4]? = some (.box (ndC zW))) (h5 : H[n5]? = some (.box (zAI t v))) (c0 c1 c2 c3 : AV) (h6 : H[n6]? = some (.box [c0,c1,c2,c3])) (h9 : H[n9]? = some (.box (ndC m)))
  (g4 : H0.length ≤ n4) (g5 : H0.length ≤ n5) (g6 : H0.length ≤ n6) (g9 : H0.length ≤ n9) (d45 : n4 ≠ n5) (d46 : n4 ≠ n6) (d56 : n5 ≠ n6) (e2 kk q e3 : Nat) (tt : Bs) (htk : ∀ H,C zT [.str s,zK e2] H (kV kk q e3 tt) H)
  (hk : kk ≠ 4) (hB : B = rP s e2 D) (hb : H[b]? = some (rP s e2 D))
  (RB : ABlk) (hc : ∀ H,H[b]? = some B → C zc [pR b] H (.tup []) (H.set b RB))
  (hret : ∀ fr' H' v',getF fr' 4 = pR n4 → H'[n4]? = some (.box (zAI t v')) → Owns H0 H' v' 12 ((ks ++ [m]).map ndV) → OldB H0 b RB H' → K .ret fr' H') :
  EW C GT caT K fr H:=by
 subst hB
 refine zLp (fr2:=[(6,pR n6),(0,pR b),(4,pR n4),(5,pR n5),(9,pR n9)]) hfr ?_
 have hbl:=hob.lt
 have hlH0 : (H0.set b (rP s e2 D)).length = H0.length:=zL3
 have hel : (ndV m).elem 12 = true:=rfl
 refine zD (v) h5 rfl <| zD (AV.agg [.int .i64 m.kind,.int .i64 m.num,AV.str m.text,.int .i64 m.ref.col,.int .i64 m.ref.row,AV.bool m.ref.fc,AV.bool m.ref.fr,.int .i64 m.to.col,.int .i64 m.to.row,AV.bool m.to.fc,AV.bool m.to.fr,AV.lst (some m.kq) m.kk (kxs m)]) h9 rfl <| zAs (vs':=[AV.agg [.int .i64 m.kind,.int .i64 m.num,AV.str m.text,.int .i64 m.ref.col,.int .i64 m.ref.row,AV.bool m.ref.fc,AV.bool m.ref.fr,.int .i64 m.to.col,.int .i64 m.to.row,AV.bool m.to.fc,AV.bool m.to.fr,AV.lst (some m.kq) m.kk (kxs m)]]) rfl rfl ?_
 refine zCA (H0:=H0.set b (rP s e2 D)) ((how.base hlH0).push _) (hob.old.push _) zAz tO (by simp only [zL6,zLw,zL4]; omega) (by simp) fun v' H' ho' hH' hb' hf=>?_
 have hxb:=hf b _ (how.notBox hb) (zC hb)
 have hx4:=hf n4 _ (how.notBox h4) (zC h4)
 have hx5:=hf n5 _ (how.notBox h5) (zC h5)
 have hx6:=hf n6 _ (how.notBox h6) (zC h6)
 have hob3 : OldB H0 b (rP s e2 D) H':=⟨hbl,hH'⟩
 have hlb:=(zg hxb).1
 have hl4:=(zg hx4).1
 have hl5:=(zg hx5).1
 have hl6:=(zg hx6).1
 have how3 : Owns H0 H' v' 12 ((ks ++ [m]).map ndV):=by rw [zMW]; exact ho'.base hlH0.symm
 refine zCg (zAI t v') hx5 how3.one rfl rfl <| zD (AV.str s) (zA tA hxb) rfl <| zD (zI ↑e2) (zA tA hxb) rfl <| zL (htk _) <| zH (v:=kV kk q e3 tt) [zK kk,zK q,zK e3,.str tt] hP rfl rfl rfl rfl <| zD (zI 0) (zA tA (zA tA hxb)) rfl ?_; refine zG <| zD (zK kk) (zE (zA tA hx6)) rfl <| zG <| zY tN <| zF <| zF ?_; refine zAc (hc _ hP) (fun h=>by cases h) <| zD (AV.agg [.int .i64 9,.int .i64 0,AV.str t,.int .i64 0,.int .i64 0,AV.bool false,AV.bool false,.int .i64 0,.int .i64 0,AV.bool false,AV.bool false,v']) (zA tA (zA tA (zE hx5))) rfl <| zH (v:=.agg (zAI t v')) (zAI t v') hP rfl (zFj how3.one.2) rfl rfl ?_
 exact hret _ _ v' rfl hP ((((how3.setBox hx5 (.box (zAI t v'))).setBox (cs:=[c0,c1,c2,c3]) hP (.box (kV kk q e3 tt).cells)).setBox (cs:=[.str s,zI e2,zI 0,zI 0,zI D]) hP _).setBox (cs:=ndC zW) hP _) ((((hob3.set g5 _).set g6 _).setB _).set g4 _)
theorem call_trb (K : Post) (b n4 n5 n6 n9 : Nat) (s : Bs) (D : Nat) (t : Bs) (m : Nd) (ks : List Nd) (v : AV) (B : ABlk) (H0 H : Heap) (fr : Fr) (hfr : zX fr [6,0,4,5,9] = [(6,pR n6),(0,pR b),(4,pR n4),(5,pR n5),(9,pR n9)])
  (hob : OldB H0 b B H) (how : Owns H0 H v 12 (ks.map ndV)) (hkl : ks.length ≤ 200) (h4 : H[n4]? = some (.box (ndC zW))) (h5 : H[n5]? = some (.box (zAI t v))) (c0 c1 c2 c3 : AV) (h6 : H[n6]? = some (.box [c0,c1,c2,c3])) (h9 : H[n9]? = some (.box (ndC m)))
  (g4 : H0.length ≤ n4) (g5 : H0.length ≤ n5) (g6 : H0.length ≤ n6) (g9 : H0.length ≤ n9) (d45 : n4 ≠ n5) (d46 : n4 ≠ n6) (d56 : n5 ≠ n6) (e2 kk q e3 : Nat) (tt : Bs) (htk : ∀ H,C zT [.str s,zK e2] H (kV kk q e3 tt) H)
  (hk : kk = 4) (ht : tt ≠ [44]) (hB : B = rP s e2 D) (hb : H[b]? = some (rP s e2 D))
  (RB : ABlk) (hc : ∀ H,H[b]? = some B → C zc [pR b] H (.tup []) (H.set b RB))
  (hret : ∀ fr' H' v',getF fr' 4 = pR n4 → H'[n4]? = some (.box (zAI t v')) → Owns H0 H' v' 12 ((ks ++ [m]).map ndV) → OldB H0 b RB H' → K .ret fr' H') :
  EW C GT caT K fr H:=by
 subst hB
 refine zLp (fr2:=[(6,pR n6),(0,pR b),(4,pR n4),(5,pR n5),(9,pR n9)]) hfr ?_
 have hbl:=hob.lt
 have hlH0 : (H0.set b (rP s e2 D)).length = H0.length:=zL3
 have hel : (ndV m).elem 12 = true:=rfl
 refine zD (v) h5 rfl <| zD (AV.agg [.int .i64 m.kind,.int .i64 m.num,AV.str m.text,.int .i64 m.ref.col,.int .i64 m.ref.row,AV.bool m.ref.fc,AV.bool m.ref.fr,.int .i64 m.to.col,.int .i64 m.to.row,AV.bool m.to.fc,AV.bool m.to.fr,AV.lst (some m.kq) m.kk (kxs m)]) h9 rfl <| zAs (vs':=[AV.agg [.int .i64 m.kind,.int .i64 m.num,AV.str m.text,.int .i64 m.ref.col,.int .i64 m.ref.row,AV.bool m.ref.fc,AV.bool m.ref.fr,.int .i64 m.to.col,.int .i64 m.to.row,AV.bool m.to.fc,AV.bool m.to.fr,AV.lst (some m.kq) m.kk (kxs m)]]) rfl rfl ?_
 refine zCA (H0:=H0.set b (rP s e2 D)) ((how.base hlH0).push _) (hob.old.push _) zAz tO (by simp only [zL6,zLw,zL4]; omega) (by simp) fun v' H' ho' hH' hb' hf=>?_
 have hxb:=hf b _ (how.notBox hb) (zC hb)
 have hx4:=hf n4 _ (how.notBox h4) (zC h4)
 have hx5:=hf n5 _ (how.notBox h5) (zC h5)
 have hx6:=hf n6 _ (how.notBox h6) (zC h6)
 have hob3 : OldB H0 b (rP s e2 D) H':=⟨hbl,hH'⟩
 have hlb:=(zg hxb).1
 have hl4:=(zg hx4).1
 have hl5:=(zg hx5).1
 have hl6:=(zg hx6).1
 have how3 : Owns H0 H' v' 12 ((ks ++ [m]).map ndV):=by rw [zMW]; exact ho'.base hlH0.symm
 refine zCg (zAI t v') hx5 how3.one rfl rfl <| zD (AV.str s) (zA tA hxb) rfl <| zD (zI ↑e2) (zA tA hxb) rfl <| zL (htk _) <| zH (v:=kV kk q e3 tt) [zK kk,zK q,zK e3,.str tt] hP rfl rfl rfl rfl <| zD (zI 0) (zA tA (zA tA hxb)) rfl ?_; refine zb tE <| zD (zK kk) (zE (zA tA hx6)) rfl <| zG <| zb tE <| zD (AV.str tt) (zE (zA tA hx6)) rfl ?_; refine zG <| zY (tN ht) <| zAc (hc _ hP) (fun h=>by cases h) <| zD (AV.agg [.int .i64 9,.int .i64 0,AV.str t,.int .i64 0,.int .i64 0,AV.bool false,AV.bool false,.int .i64 0,.int .i64 0,AV.bool false,AV.bool false,v']) (zA tA (zA tA (zE hx5))) rfl <| zH (v:=.agg (zAI t v')) (zAI t v') hP rfl (zFj how3.one.2) rfl rfl ?_
 exact hret _ _ v' rfl hP ((((how3.setBox hx5 (.box (zAI t v'))).setBox (cs:=[c0,c1,c2,c3]) hP (.box (kV kk q e3 tt).cells)).setBox (cs:=[.str s,zI e2,zI 0,zI 0,zI D]) hP _).setBox (cs:=ndC zW) hP _) ((((hob3.set g5 _).set g6 _).setB _).set g4 _)
theorem call_tbad (K : Post) (b n4 n5 n6 n9 : Nat) (s : Bs) (D : Nat) (t : Bs) (m : Nd) (ks : List Nd) (v : AV) (B : ABlk) (H0 H : Heap) (fr : Fr) (hfr : zX fr [6,0,4,5,9] = [(6,pR n6),(0,pR b),(4,pR n4),(5,pR n5),(9,pR n9)])
  (hob : OldB H0 b B H) (how : Owns H0 H v 12 (ks.map ndV)) (hkl : ks.length ≤ 200) (h4 : H[n4]? = some (.box (ndC zW))) (h5 : H[n5]? = some (.box (zAI t v))) (c0 c1 c2 c3 : AV) (h6 : H[n6]? = some (.box [c0,c1,c2,c3])) (h9 : H[n9]? = some (.box (ndC m)))
  (g4 : H0.length ≤ n4) (g5 : H0.length ≤ n5) (g6 : H0.length ≤ n6) (g9 : H0.length ≤ n9) (d45 : n4 ≠ n5) (d46 : n4 ≠ n6) (d56 : n5 ≠ n6) (e2 kk q e3 : Nat) (tt : Bs) (htk : ∀ H,C zT [.str s,zK e2] H (kV kk q e3 tt) H)
  (w ee dd : Int) (he : ee ≠ 0) (hB : B = pB s e2 w ee dd) (hb : H[b]? = some (pB s e2 w ee dd))
  (RB : ABlk) (hc : ∀ H,H[b]? = some B → C zc [pR b] H (.tup []) (H.set b RB))
  (hret : ∀ fr' H' v',getF fr' 4 = pR n4 → H'[n4]? = some (.box (zAI t v')) → Owns H0 H' v' 12 ((ks ++ [m]).map ndV) → OldB H0 b RB H' → K .ret fr' H') :
  EW C GT caT K fr H:=by
 subst hB
 refine zLp (fr2:=[(6,pR n6),(0,pR b),(4,pR n4),(5,pR n5),(9,pR n9)]) hfr ?_
 have hbl:=hob.lt
 have hlH0 : (H0.set b (pB s e2 w ee dd)).length = H0.length:=zL3
 have hel : (ndV m).elem 12 = true:=rfl
 refine zD (v) h5 rfl <| zD (AV.agg [.int .i64 m.kind,.int .i64 m.num,AV.str m.text,.int .i64 m.ref.col,.int .i64 m.ref.row,AV.bool m.ref.fc,AV.bool m.ref.fr,.int .i64 m.to.col,.int .i64 m.to.row,AV.bool m.to.fc,AV.bool m.to.fr,AV.lst (some m.kq) m.kk (kxs m)]) h9 rfl <| zAs (vs':=[AV.agg [.int .i64 m.kind,.int .i64 m.num,AV.str m.text,.int .i64 m.ref.col,.int .i64 m.ref.row,AV.bool m.ref.fc,AV.bool m.ref.fr,.int .i64 m.to.col,.int .i64 m.to.row,AV.bool m.to.fc,AV.bool m.to.fr,AV.lst (some m.kq) m.kk (kxs m)]]) rfl rfl ?_
 refine zCA (H0:=H0.set b (pB s e2 w ee dd)) ((how.base hlH0).push _) (hob.old.push _) zAz tO (by simp only [zL6,zLw,zL4]; omega) (by simp) fun v' H' ho' hH' hb' hf=>?_
 have hxb:=hf b _ (how.notBox hb) (zC hb)
 have hx4:=hf n4 _ (how.notBox h4) (zC h4)
 have hx5:=hf n5 _ (how.notBox h5) (zC h5)
 have hx6:=hf n6 _ (how.notBox h6) (zC h6)
 have hob3 : OldB H0 b (pB s e2 w ee dd) H':=⟨hbl,hH'⟩
 have hlb:=(zg hxb).1
 have hl4:=(zg hx4).1
 have hl5:=(zg hx5).1
 have hl6:=(zg hx6).1
 have how3 : Owns H0 H' v' 12 ((ks ++ [m]).map ndV):=by rw [zMW]; exact ho'.base hlH0.symm
 refine zCg (zAI t v') hx5 how3.one rfl rfl <| zD (AV.str s) (zA tA hxb) rfl <| zD (zI ↑e2) (zA tA hxb) rfl <| zL (htk _) <| zH (v:=kV kk q e3 tt) [zK kk,zK q,zK e3,.str tt] hP rfl rfl rfl rfl <| zD (zI ee) (zA tA (zA tA hxb)) rfl ?_; refine zY (tN he) <| zF <| zF <| zF <| zF <| zAc (hc _ hP) (fun h=>by cases h) ?_; refine zD (AV.agg [.int .i64 9,.int .i64 0,AV.str t,.int .i64 0,.int .i64 0,AV.bool false,AV.bool false,.int .i64 0,.int .i64 0,AV.bool false,AV.bool false,v']) (zA tA (zA tA (zE hx5))) rfl <| zH (v:=.agg (zAI t v')) (zAI t v') hP rfl (zFj how3.one.2) rfl rfl ?_
 exact hret _ _ v' rfl hP ((((how3.setBox hx5 (.box (zAI t v'))).setBox (cs:=[c0,c1,c2,c3]) hP (.box (kV kk q e3 tt).cells)).setBox (cs:=[.str s,zI e2,zI w,zI ee,zI dd]) hP _).setBox (cs:=ndC zW) hP _) ((((hob3.set g5 _).set g6 _).setB _).set g4 _)
end
end Go.AM
set_option maxRecDepth 20000
namespace Go.AM
theorem box_in {s : Bs} {a e1 : Nat} {w1 : Bs} {r1 : RefP} (ht : tok s a = .word e1 w1) (hr : zCc w1 = some r1) (h58 : s[e1]? = some 58) :
  zDV s a = some (if skip s (e1 + 1) = e1 + 1 ∧ tkK (tok s (e1 + 1)) = 1 then (zCc (tkT (tok s (e1 + 1)))).map fun r2=>(boxN r1 r2,tkE (skip s (e1 + 1)) (tok s (e1 + 1))) else none):=by
 unfold zDV
 rw [ht]
 simp only [hr,h58,zMR]
 by_cases h32 : s[e1 + 1]? = some 32
 ·have h1 : skip s (e1 + 1) ≠ e1 + 1:=by
   have:=zJe h32
   have:=zDw s (e1 + 1 + 1)
   omega
  rw [zLv (fun x=>h1 x.1)]
  have : zB4 s (e1 + 1) = .sign (e1 + 2) [32]:=by
   unfold zB4
   rw [h32]
   have w32 : zu 32 = false:=by decide
   have n1 : ¬ ((32 : UInt8) = 34):=by decide
   have n2 : ¬ ((32 : UInt8) = 35):=by decide
   simp only [w32,zL5,zMP,n1,n2]
   cases s[e1 + 1 + 1]? with
   | none=>rfl
   | some d=>
    simp only
    rw [zLv (by rintro (⟨h,_⟩ | ⟨h,_⟩ | ⟨h,_⟩) <;> revert h <;> decide)]
  rw [this]
 ·have h1:=zDR h32
  have h2:=zJ5 h32
  rw [h1,h2]
  cases zB4 s (e1 + 1) with
  | word e2 t2=>simp [tkK,tkT,tkE]
  | fin=>simp [tkK]
  | txt e2 t2=>simp [tkK]
  | bad e2 t2=>simp [tkK]
  | sign e2 t2=>simp [tkK]
  | none=>simp [tkK]
theorem box_out {s : Bs} {a : Nat} (h : ¬ ∃ e1 w1 r1,tok s a = .word e1 w1 ∧ zCc w1 = some r1 ∧ s[e1]? = some 58) : zDV s a = none:=by
 unfold zDV
 split
 ·rename_i e t ht
  split
  ·rename_i r hr
   split
   ·rename_i h58
    exact absurd ⟨e,t,r,ht,hr,h58⟩ h
   ·rfl
  ·rfl
 ·rfl
def emB (s : Bs) (e1 : Nat) : Nat:=tkE (skip s (e1 + 1)) (tok s (e1 + 1))
def clB (s : Bs) (a : Nat) (w e d : Int) : ABlk:=pB s (tkE (skip s a) (tok s a) : Nat) w e (IntKind.wrap .i64 (d - 1))
inductive AF' (C : CSpec) (b : Nat) (s : Bs) (d : Nat) : List Nd → Nat → List Nd → ABlk → Prop where
 | box (ks : List Nd) (a e1 : Nat) (w1 : Bs) (r1 : RefP) (ht : tok s a = .word e1 w1) (hr : zCc w1 = some r1) (h58 : s[e1]? = some 58) (hn : zDV s a = some none) :
   AF' C b s d ks a (ks ++ [boxN r1 ((zCc (tkT (tok s (e1 + 1)))).getD noRef)]) (clB s (emB s e1) (e1 + 1 : Nat) 2 (d + 1 : Nat))
 | lo (ks : List Nd) (a : Nat) (nw : Nd) (W : Bd) (hn : zDV s a = none) (hl : (P s).loose 1 a (d + 1) = none) (hW : W.ok s) (h : ∀ H,H[b]? = some (rP s a (d + 1)) → C zU [pR b,.int .i64 1] H (ndV nw) (H.set b (W.blk s))) :
   AF' C b s d ks a (ks ++ [nw]) (clB s W.a W.w W.e W.d)
 | close (ks : List Nd) (a : Nat) (m : Nd) (e2 : Nat) (h : zD5 s (P s) a (d + 1) = some (m,e2)) (h44 : ¬ ∃ e3,tok s e2 = .sign e3 [44]) (h41 : ¬ ∃ e3,tok s e2 = .sign e3 [41]) :
   AF' C b s d ks a (ks ++ [m]) (pB s (tkE (skip s e2) (tok s e2) : Nat) (skip s e2 : Nat) 2 d)
 | later (ks : List Nd) (a : Nat) (m : Nd) (e2 e3 : Nat) (L : List Nd) (RB : ABlk) (h : zD5 s (P s) a (d + 1) = some (m,e2)) (h44 : tok s e2 = .sign e3 [44]) (k : AF' C b s d (ks ++ [m]) e3 L RB) : AF' C b s d ks a L RB
theorem args_fail {C : CSpec} {b : Nat} {s : Bs} {d : Nat} {t : Bs} (e0 : Nat) (hLo : ∀ a,e0 < a → a ≤ s.length → CF C zU [pR b,.int .i64 1] b s a (d + 1) ((P s).loose 1 a (d + 1))) : ∀ (k : Nat) (ks : List Nd) (a : Nat),e0 < a → a ≤ s.length → s.length - a ≤ k → (P s).args t ks a (d + 1) = none → ∃ L RB,AF' C b s d ks a L RB:=by
 intro k
 induction k with
 | zero=>
  intro ks a h0 ha hk h
  have hae : a = s.length:=by omega
  have hb : zDV s a = none:=by
   refine box_out ?_
   rintro ⟨e1,w1,r1,ht,_⟩
   have:=zBM s a
   rw [ht] at this
   simp only [Tok.endsBy] at this
   omega
  have hl : (P s).loose 1 a (d + 1) = none:=by
   cases hl : (P s).loose 1 a (d + 1) with
   | none=>rfl
   | some q=>have:=(zBz s).loose 1 a (d + 1) q ha hl; omega
  obtain ⟨n',a',w,e',d',h1,h2,h3⟩:=(hLo a h0 ha).2 hl
  exact ⟨_,_,.lo ks a n' ⟨a',w,e',d'⟩ hb hl ⟨h1,h2⟩ h3⟩
 | succ k ih=>
  intro ks a h0 ha hk h
  rw [zLj t ks (d + 1) ha] at h
  unfold zEP at h
  cases hpa : zD5 s (P s) a (d + 1) with
  | none=>
   have hpa':=hpa
   unfold zD5 at hpa'
   cases hb : zDV s a with
   | some r=>
    rw [hb] at hpa'
    simp only at hpa'
    subst hpa'
    have : ∃ e1 w1 r1,tok s a = .word e1 w1 ∧ zCc w1 = some r1 ∧ s[e1]? = some 58:=Classical.byContradiction fun x=>by rw [box_out x] at hb; cases hb
    obtain ⟨e1,w1,r1,ht,hr,h58⟩:=this
    exact ⟨_,_,.box ks a e1 w1 r1 ht hr h58 hb⟩
   | none=>
    rw [hb] at hpa'
    simp only at hpa'
    obtain ⟨n',a',w,e',d',h1,h2,h3⟩:=(hLo a h0 ha).2 hpa'
    exact ⟨_,_,.lo ks a n' ⟨a',w,e',d'⟩ hb hpa' ⟨h1,h2⟩ h3⟩
  | some x=>
   obtain ⟨m,e2⟩:=x
   have hx:=zFh (zBz s) a (d + 1) _ ha hpa
   simp only at hx
   rw [hpa,zMt] at h
   by_cases h44 : ∃ e3,tok s e2 = .sign e3 [44]
   ·obtain ⟨e3,h44⟩:=h44
    have ht:=zBM s e2
    simp only [h44] at h
    rw [h44] at ht
    simp only [Tok.endsBy] at ht
    obtain ⟨L,RB,hL⟩:=ih (ks ++ [m]) e3 tO tO tO h
    exact ⟨L,RB,.later ks a m e2 e3 L RB hpa h44 hL⟩
   ·by_cases h41 : ∃ e3,tok s e2 = .sign e3 [41]
    ·obtain ⟨e3,h41⟩:=h41
     simp only [h41] at h
     cases h
    ·exact ⟨_,_,.close ks a m e2 hpa h44 h41⟩
def AR (C : CSpec) (b : Nat) (s : Bs) (d : Nat) (t : Bs) (ks : List Nd) (a : Nat) (RV : AV) (RB : ABlk) : Prop:=
 (∃ n' e',(P s).args t ks a (d + 1) = some (n',e') ∧ RV = ndV n' ∧ RB = rP s e' d) ∨ (∃ L,AF' C b s d ks a L RB ∧ RV = ndV (zC2 t L))
def AN (C : CSpec) (b : Nat) (s : Bs) (d : Nat) (t : Bs) (L : List Nd) (e2 : Nat) (RV : AV) (RB : ABlk) : Prop:=
 (∃ e3,tok s e2 = .sign e3 [44] ∧ AR C b s d t L e3 RV RB) ∨ (∃ e3,tok s e2 = .sign e3 [41] ∧ RV = ndV (zC2 t L) ∧ RB = rP s e3 d) ∨
 ((¬ ∃ e3,tok s e2 = .sign e3 [44]) ∧ (¬ ∃ e3,tok s e2 = .sign e3 [41]) ∧ RV = ndV (zC2 t L) ∧ RB = pB s (tkE (skip s e2) (tok s e2) : Nat) (skip s e2 : Nat) 2 d)
theorem AR.ok {C : CSpec} {b : Nat} {s : Bs} {d : Nat} {t : Bs} {ks : List Nd} {a : Nat} {RV : AV} {RB : ABlk} (h : AR C b s d t ks a RV RB) (ha : a ≤ s.length) {m : Nd} {e2 : Nat} (hp : zD5 s (P s) a (d + 1) = some (m,e2)) : AN C b s d t (ks ++ [m]) e2 RV RB:=by
 rcases h with ⟨n',e',h1,h2,h3⟩ | ⟨L,hL,hv⟩
 ·rw [zLj t ks (d + 1) ha] at h1
  unfold zEP at h1
  rw [hp,zMt] at h1
  by_cases h44 : ∃ e3,tok s e2 = .sign e3 [44]
  ·obtain ⟨e3,h44⟩:=h44
   simp only [h44] at h1
   exact .inl ⟨e3,h44,.inl ⟨n',e',h1,h2,h3⟩⟩
  ·by_cases h41 : ∃ e3,tok s e2 = .sign e3 [41]
   ·obtain ⟨e3,h41⟩:=h41
    simp only [h41] at h1
    obtain ⟨rfl,rfl⟩ : zC2 t (ks ++ [m]) = n' ∧ e3 = e':=by cases h1; exact ⟨rfl,rfl⟩
    exact .inr (.inl ⟨_,h41,h2,h3⟩)
   ·exfalso
    split at h1
    ·rename_i e3 hk; exact h44 ⟨e3,hk⟩
    ·rename_i e3 hk; exact h41 ⟨e3,hk⟩
    ·cases h1
 ·cases hL with
  | box _ _ e1 w1 r1 ht hr h58 hn=>unfold zD5 at hp; rw [hn] at hp; cases hp
  | lo _ _ nw W hn hl hW h=>unfold zD5 at hp; rw [hn] at hp; simp only at hp; rw [hl] at hp; cases hp
  | close _ _ m' e2' h h44 h41=>rw [hp] at h; cases h; exact .inr (.inr ⟨h44,h41,hv,rfl⟩)
  | later _ _ m' e2' e3 _ _ h h44 k=>rw [hp] at h; cases h; exact .inl ⟨_,h44,.inr ⟨L,k,hv⟩⟩
theorem AR.bx {C : CSpec} {b : Nat} {s : Bs} {d : Nat} {t : Bs} {ks : List Nd} {a : Nat} {RV : AV} {RB : ABlk} (h : AR C b s d t ks a RV RB) (ha : a ≤ s.length) (hb : zDV s a = some none) {e1 : Nat} {w1 : Bs} {r1 : RefP} (ht : tok s a = .word e1 w1) (hr : zCc w1 = some r1) :
  RV = ndV (zC2 t (ks ++ [boxN r1 ((zCc (tkT (tok s (e1 + 1)))).getD noRef)])) ∧ RB = clB s (emB s e1) (e1 + 1 : Nat) 2 (d + 1 : Nat):=by
 have hp : zD5 s (P s) a (d + 1) = none:=by unfold zD5; rw [hb]
 rcases h with ⟨n',e',h1,h2,h3⟩ | ⟨L,hL,hv⟩
 ·rw [zLj t ks (d + 1) ha] at h1
  unfold zEP at h1
  rw [hp] at h1; cases h1
 ·cases hL with
  | box _ _ e1' w1' r1' ht' hr' h58 hn=>rw [ht] at ht'; cases ht'; rw [hr] at hr'; cases hr'; exact ⟨hv,rfl⟩
  | lo _ _ nw W hn hl hW h=>rw [hb] at hn; cases hn
  | close _ _ m' e2' h h44 h41=>rw [hp] at h; cases h
  | later _ _ m' e2' e3 _ _ h h44 k=>rw [hp] at h; cases h
theorem AR.lw {C : CSpec} {b : Nat} {s : Bs} {d : Nat} {t : Bs} {ks : List Nd} {a : Nat} {RV : AV} {RB : ABlk} (h : AR C b s d t ks a RV RB) (ha : a ≤ s.length) (hb : zDV s a = none) (hl : (P s).loose 1 a (d + 1) = none) :
  ∃ (nw : Nd) (W : Bd),W.ok s ∧ (∀ H,H[b]? = some (rP s a (d + 1)) → C zU [pR b,.int .i64 1] H (ndV nw) (H.set b (W.blk s))) ∧ RV = ndV (zC2 t (ks ++ [nw])) ∧ RB = clB s W.a W.w W.e W.d:=by
 have hp : zD5 s (P s) a (d + 1) = none:=by unfold zD5; rw [hb]; exact hl
 rcases h with ⟨n',e',h1,h2,h3⟩ | ⟨L,hL,hv⟩
 ·rw [zLj t ks (d + 1) ha] at h1
  unfold zEP at h1
  rw [hp] at h1; cases h1
 ·cases hL with
  | box _ _ e1' w1' r1' ht' hr' h58 hn=>rw [hb] at hn; cases hn
  | lo _ _ nw W hn hl' hW h=>exact ⟨nw,W,hW,h,hv,rfl⟩
  | close _ _ m' e2' h h44 h41=>rw [hp] at h; cases h
  | later _ _ m' e2' e3 _ _ h h44 k=>rw [hp] at h; cases h
structure CaS where
 a : Nat
 v : AV
 ks : List Nd
section
variable {C : CSpec} {GT : Nat → Option AV}
theorem call_c0 (X : AC) (K : Post) (b n4 n5 n6 : Nat) (s : Bs) (a d : Nat) (H : Heap) (hb : H[b]? = some (rP s a d)) (h : ∀ fr',zX fr' [6,0,4,5] = [(6,pR n6),(0,pR b),(4,pR n4),(5,pR n5)] → EW C GT X K fr' H) :
  EW C GT (.seq zBH.first X) K [(6,pR n6),(0,pR b),(4,pR n4),(5,pR n5)] H:=by
 refine zD (zI 0) hb rfl <| zb (tE (by rfl)) ?_
 exact h _ rfl
theorem call_s1 (T : AC) (K : Post) (b : Nat) (s t : Bs) (e d kk q e2 : Nat) (tt : Bs) (H : Heap) (hb : H[b]? = some (rP s e d)) (hel : e ≤ 200) (htk : ∀ H,C zT [.str s,zK (e + 1)] H (kV kk q e2 tt) H)
  (h : ∀ fr' H' n4 n5 n6,n4 = H.length → n5 = H.length + 1 → n6 = H.length + 2 → zX fr' [4,5,0,6] = [(4,pR n4),(5,pR n5),(0,pR b),(6,pR n6)] → OldB H b (rP s (e + 1) d) H' → H'[b]? = some (rP s (e + 1) d) → H'[n4]? = some (.box (ndC zW)) → H'[n5]? = some (.box (zAI t (.lst (some true) 0 []))) → H'[n6]? = some (.box [zK kk,zK q,zK e2,.str tt]) → EW C GT T K fr' H') :
  EW C GT (.seq zA8.first (.seq zA8.rest.first (.seq zA8.rest.rest.first (.seq zA8.rest.rest.rest.first T)))) K [(0,pR b),(1,.str t)] H:=by
 have hbl : b < H.length:=(zg hb).1
 refine zl (v:=[.int .i64 9,.int .i64 0,AV.str t,.int .i64 0,.int .i64 0,AV.bool false,AV.bool false,.int .i64 0,.int .i64 0,AV.bool false,AV.bool false,AV.lst (some true) 0 []]) rfl <| zH (v:=AV.agg [.int .i64 9,.int .i64 0,AV.str t,.int .i64 0,.int .i64 0,AV.bool false,AV.bool false,.int .i64 0,.int .i64 0,AV.bool false,AV.bool false,AV.lst (some true) 0 []]) (AV.cells (AV.agg [.int .i64 9,.int .i64 0,AV.str t,.int .i64 0,.int .i64 0,AV.bool false,AV.bool false,.int .i64 0,.int .i64 0,AV.bool false,AV.bool false,AV.lst (some true) 0 []])) zB rfl rfl rfl rfl <| zD (zI ↑e) (zA tA (zC (zC hb))) rfl <| zN (r:=e + 1) rfl tO <| zH (v:=.int .i64 ↑(e + 1)) [AV.str s,.int .i64 ↑(e + 1),zI 0,zI 0,zI ↑d] (zA tA (zC (zC hb))) rfl rfl rfl rfl <| zD (AV.str s) (zE (zA tA (zC (zC hb)))) rfl ?_
 refine zD (.int .i64 ↑(e + 1)) (zE (zA tA (zC (zC hb)))) rfl ?_; refine zGk ?_ ?_
 all_goals
  refine zL (htk _) <| zH (v:=kV kk q e2 tt) [zK kk,zK q,zK e2,.str tt] hP rfl rfl rfl rfl ?_
  exact h _ _ _ _ _ rfl (by simp) (by simp) rfl (by have hob:=OldB.start hb; repeat' (first | exact ⟨_,hob⟩ | apply exO_push | apply exO_setB | refine exO_set ?_ tC _ | apply OldB.push | apply OldB.setE | refine OldB.set ?_ tC _)) hP hP hP hP
abbrev caE : AC:=zA8.rest.rest.rest.rest
theorem call_s2 (T : AC) (K : Post) (b n4 n5 n6 kk q e2 : Nat) (tt : Bs) (H : Heap) (fr : Fr) (hfr : zX fr [4,5,0,6] = [(4,pR n4),(5,pR n5),(0,pR b),(6,pR n6)]) (h6 : H[n6]? = some (.box [zK kk,zK q,zK e2,.str tt])) (hno : ¬ (kk = 4 ∧ tt = [41]))
  (h : ∀ fr',zX fr' [6,0,4,5] = [(6,pR n6),(0,pR b),(4,pR n4),(5,pR n5)] → EW C GT T K fr' H) : EW C GT (.seq caE.first T) K fr H:=by
 refine zFD (fr2:=[(4,pR n4),(5,pR n5),(0,pR b),(6,pR n6)]) hfr ?_
 by_cases h4 : kk = 4
 ·have h41 : tt ≠ [41]:=fun x=>hno ⟨h4,x⟩
  refine zD (zK kk) h6 rfl <| zb tE <| zD (AV.str tt) h6 rfl <| zG <| zY (tN h41) ?_
  exact h _ rfl
 ·refine zD (zK kk) h6 rfl <| zY tN <| zF <| zF ?_
  exact h _ rfl
theorem call_s3 (T : AC) (K : Post) (b n4 n5 n6 kk q e2 : Nat) (t tt : Bs) (B RB : ABlk) (H0 H : Heap) (fr : Fr) (hfr : zX fr [4,5,0,6] = [(4,pR n4),(5,pR n5),(0,pR b),(6,pR n6)]) (h6 : H[n6]? = some (.box [zK kk,zK q,zK e2,.str tt])) (hk : kk = 4) (ht : tt = [41])
  (hob : OldB H0 b B H) (hb : H[b]? = some B) (h4 : H[n4]? = some (.box (ndC zW))) (h5 : H[n5]? = some (.box (zAI t (.lst (some true) 0 [])))) (g4 : H0.length ≤ n4) (g5 : H0.length ≤ n5) (d45 : n4 ≠ n5) (hc : ∀ H,H[b]? = some B → C zc [pR b] H (.tup []) (H.set b RB))
  (hret : ∀ fr' H',getF fr' 4 = pR n4 → H'[n4]? = some (.box (zAI t (.lst (some true) 0 []))) → OldB H0 b RB H' → K .ret fr' H') : EW C GT (.seq caE.first T) K fr H:=by
 refine zFD (fr2:=[(4,pR n4),(5,pR n5),(0,pR b),(6,pR n6)]) hfr ?_
 have hbl:=hob.lt
 have hl4:=(zg h4).1
 have hl5:=(zg h5).1
 refine zD (zK kk) h6 rfl <| zb tE <| zD (AV.str tt) h6 rfl <| zG <| zb tE <| zAc (hc _ hb) (fun h=>by cases h) ?_; refine zD (AV.agg [.int .i64 9,.int .i64 0,AV.str t,.int .i64 0,.int .i64 0,AV.bool false,AV.bool false,.int .i64 0,.int .i64 0,AV.bool false,AV.bool false,AV.lst (some true) 0 []]) (zA tA h5) rfl <| zH (v:=.agg (zAI t (.lst (some true) 0 []))) (zAI t (.lst (some true) 0 [])) hP rfl rfl rfl rfl ?_
 exact hret _ _ rfl hP ((hob.setB _).set g4 _)
end
end Go.AM
set_option maxRecDepth 20000
namespace Go.AM
theorem Kp.owns {H0 H H' : Heap} {b n9 : Nat} {v : AV} {xs cs cs9 : List AV} (k : Kp H H' b n9) (how : Owns H0 H v 12 xs) (hb : H[b]? = some (.box cs)) (h9 : H[n9]? = some (.box cs9)) : Owns H0 H' v 12 xs:=by
 rcases how with h | ⟨nb,h1,h2,h3,h4⟩
 ·exact .inl h
 ·exact .inr ⟨nb,h1,h2,k.1 nb _ h3 (fun e=>by subst e; rw [hb] at h3; cases h3) (fun e=>by subst e; rw [h9] at h3; cases h3),h4⟩
theorem Kp.old {H0 H H' : Heap} {b n9 : Nat} {B0 B : ABlk} (k : Kp H H' b n9) (hob : OldB H0 b B0 H) (g9 : H0.length ≤ n9) (hB : H'[b]? = some B) : OldB H0 b B H':=by
 have hl:=hob.old.1
 rw [zL3] at hl
 refine ⟨hob.lt,by rw [zL3]; exact zNH hl k.2,fun c hc=>?_⟩
 rw [zL3] at hc
 by_cases e : b = c
 ·subst e; rw [zMK hc]; exact hB
 ·rw [zMJ e]
  have h1:=hob.old.2 c (by rw [zL3]; exact hc)
  rw [zMJ e] at h1
  obtain ⟨x,hx⟩ : ∃ x,H0[c]? = some x:=⟨_,zLy hc⟩
  rw [hx] at h1 ⊢
  exact k.1 c x h1 (zMq e) tO
section
variable {C : CSpec} {GT : Nat → Option AV}
theorem rcall_loop (hT : ∀ s a H,a ≤ s.length → s.length ≤ 1000 → C zT [.str s,zK a] H (tkV s a) H)
  (hR : ∀ s H,s.length ≤ 200 → C zj [.str s] H (refRV (zCc s)) H)
  (hF : ∀ b s p d a e H,H[b]? = some (pB s p 0 0 d) → C zd [pR b,zI a,zI e] H (.tup []) (H.set b (pB s p a e d)))
  (hC1 : ∀ b s p d e H,H[b]? = some (rP s p (d + 1)) → p ≤ s.length → s.length ≤ 200 → d ≤ 1000 → tok s p = .sign e [41] → C zc [pR b] H (.tup []) (H.set b (rP s e d)))
  (hC2 : ∀ b s p d H,H[b]? = some (rP s p (d + 1)) → p ≤ s.length → s.length ≤ 200 → d ≤ 1000 → (¬ ∃ e,tok s p = .sign e [41]) → C zc [pR b] H (.tup []) (H.set b (pB s (tkE (skip s p) (tok s p) : Nat) (skip s p : Nat) 2 d)))
  (hC3 : ∀ b s (p : Nat) w e d H,H[b]? = some (pB s p w e d) → e ≠ 0 → p ≤ s.length → s.length ≤ 200 → C zc [pR b] H (.tup []) (H.set b (pB s (tkE (skip s p) (tok s p) : Nat) w e (IntKind.wrap .i64 (d - 1)))))
  (E : AC) (b : Nat) (s t : Bs) (d e0 a0 n4 n5 n6 : Nat) (v0 : AV) (ks0 : List Nd) (H0 H : Heap) (fr : Fr) (hfr : zX fr [6,0,4,5] = [(6,pR n6),(0,pR b),(4,pR n4),(5,pR n5)]) (hl : s.length ≤ 200) (hd : d ≤ 1000)
  (hn4 : n4 = H0.length) (hn5 : n5 = H0.length + 1) (hn6 : n6 = H0.length + 2) (hob : OldB H0 b (rP s a0 (d + 1)) H) (hb : H[b]? = some (rP s a0 (d + 1))) (h4 : H[n4]? = some (.box (ndC zW))) (h5 : H[n5]? = some (.box (zAI t v0))) (h6 : ∃ c0 c1 c2 c3,H[n6]? = some (.box [c0,c1,c2,c3])) (how : Owns H0 H v0 12 (ks0.map ndV))
  (hea : e0 < a0) (hal : a0 ≤ s.length) (hkl : ks0.length ≤ a0) (hLo : ∀ a,e0 < a → a ≤ s.length → CF C zU [pR b,.int .i64 1] b s a (d + 1) ((P s).loose 1 a (d + 1)))
  (RV : AV) (RB : ABlk) (hRB : ∀ k,zFE k RB = true) (hAR : AR C b s d t ks0 a0 RV RB) :
  EW C GT (.seq (.block 0 [4,5] (.loop [6,0,4,5] zBH)) E) (zHe zA9 H0 b [] .undef (some (RV,RB))) fr H:=by
 have hT:=fun a H h=>hT s a H h tO
 refine zBm (fun x : CaS=>[(6,pR n6),(0,pR b),(4,pR n4),(5,pR n5)])
  (fun x H'=>OldB H0 b (rP s x.a (d + 1)) H' ∧ H'[b]? = some (rP s x.a (d + 1)) ∧ H'[n4]? = some (.box (ndC zW)) ∧ H'[n5]? = some (.box (zAI t x.v)) ∧ (∃ c0 c1 c2 c3,H'[n6]? = some (.box [c0,c1,c2,c3])) ∧ Owns H0 H' x.v 12 (x.ks.map ndV) ∧ e0 < x.a ∧ x.a ≤ s.length ∧ x.ks.length ≤ x.a ∧ AR C b s d t x.ks x.a RV RB)
  (fun x=>s.length - x.a) ⟨a0,v0,ks0⟩ hfr ⟨hob,hb,h4,h5,h6,how,hea,hal,hkl,hAR⟩ (fun ⟨a,v,ks⟩ H1 ⟨hob,hb,h4,h5,⟨c0,c1,c2,c3,h6⟩,how,hea,hal,hkl,hAR⟩=>?_)
 dsimp only at hob hb h4 h5 h6 how hea hal hkl hAR ⊢
 have hbl:=hob.lt
 have hl4:=(zg h4).1
 have hl5:=(zg h5).1
 have hl6:=(zg h6).1
 refine call_c0 (.block 1 [6,0,4,5] caI) _ b n4 n5 n6 s a (d + 1) H1 hb (fun fr1 hfr1=>?_)
 suffices key : ∀ K : Post,(∀ (m : Nd) (fr' : Fr) (H' : Heap) (v' : AV),RV = ndV (zC2 t (ks ++ [m])) → getF fr' 4 = pR n4 → H'[n4]? = some (.box (zAI t v')) → Owns H0 H' v' 12 ((ks ++ [m]).map ndV) → OldB H0 b RB H' → K .ret fr' H') →
   (∀ (m : Nd) (e3 : Nat) (fr' : Fr) (H' : Heap) (v' : AV),zX fr' [6,0,4,5] = [(6,pR n6),(0,pR b),(4,pR n4),(5,pR n5)] → H'[b]? = some (rP s e3 (d + 1)) → H'[n5]? = some (.box (zAI t v')) → H'[n4]? = some (.box (ndC zW)) → (∃ c0 c1 c2 c3,H'[n6]? = some (.box [c0,c1,c2,c3])) → Owns H0 H' v' 12 ((ks ++ [m]).map ndV) → OldB H0 b (rP s e3 (d + 1)) H' → a < e3 → e3 ≤ s.length → AR C b s d t (ks ++ [m]) e3 RV RB → K (.exit 1) fr' H') →
   EW C GT caI K [(6,pR n6),(0,pR b),(4,pR n4),(5,pR n5)] H1 by
  have hgo:=fun K x y=>zLp (fr2:=[(6,pR n6),(0,pR b),(4,pR n4),(5,pR n5)]) hfr1 (key K x y)
  refine hgo _ (fun m fr' H' v' hv g1 g2 g3 g4=>?_) (fun m e3 fr' H' v' g1 g2 g3 g4 g5 g6 g7 g8 g9 g10=>?_)
  ·obtain ⟨H2',hz,hob2⟩:=zJC t g3 rfl g4
   exact zx (o:=0) (.agg (zAI t v')) (by rw [hv,zJB]) rfl rfl (by rw [g1]; exact zJ g2) rfl hz (zHD _ _ _) hob2 (hRB _)
  ·exact zAU (CaS.mk e3 v' (ks ++ [m])) (by show zX (zX fr' [6,0,4,5]) [6,0,4,5] = _; rw [g1]; rfl) ⟨g7,g2,g4,g3,g5,g6,by simp only; omega,g9,by simp only [zL1,zLw,zL4]; omega,g10⟩ (by simp only; omega)
 intro K hret hcont
 clear hfr1 fr1
 have htk:=fun H=>hT a H hal
 rw [zEv] at htk
 have htl:=tkT_len hal hl
 have hel:=zHt hal
 have p1 : ∀ (rv : List AV) (ok : Bool),(∃ r0 r1 r2 r3,rv = [r0,r1,r2,r3]) → (AV.agg rv).cells.all AV.one = true → (∀ H,C zj [.str (tkT (tok s a))] H (.tup [.agg rv,.bool ok]) H) →
   (∀ fr' H' n7 n9,zX fr' [6,0,4,5,9,7,8] = [(6,pR n6),(0,pR b),(4,pR n4),(5,pR n5),(9,pR n9),(7,pR n7),(8,.bool ok)] → n7 = H1.length → n9 = H1.length + 1 → H'[n7]? = some (.box rv) → H'[n9]? = some (.box (ndC zW)) → H'[n6]? = some (.box [zK (tkK (tok s a)),zK (skip s a),zK (tkE (skip s a) (tok s a)),.str (tkT (tok s a))]) → H'[b]? = some (rP s a (d + 1)) → H'[n4]? = some (.box (ndC zW)) → H'[n5]? = some (.box (zAI t v)) → Owns H0 H' v 12 (ks.map ndV) → OldB H0 b (rP s a (d + 1)) H' →
    EW C GT (.seq caA caT) K fr' H') → EW C GT caI K [(6,pR n6),(0,pR b),(4,pR n4),(5,pR n5)] H1:=by
  intro rv ok ⟨r0,r1,r2,r3,hrv⟩ hro hr h
  refine call_p1 (.seq caA caT) _ b n4 n5 n6 s a (d + 1) _ _ _ _ rv ok H1 [c0,c1,c2,c3] rfl c0 c1 c2 c3 rfl hb h6 tO htk hr r0 r1 r2 r3 hrv hro (fun fr' H' n7 n9 g1 g2 g3 g4=>?_)
  subst g2 g3 g4
  have ho1:=(((how.setBox h6 (.box [zK (tkK (tok s a)),zK (skip s a),zK (tkE (skip s a) (tok s a)),.str (tkT (tok s a))])).push (ABlk.box zV1)).setBox (c:=H1.length) (cs:=zV1) (by have:=zB (H:=H1.set n6 (.box [zK (tkK (tok s a)),zK (skip s a),zK (tkE (skip s a) (tok s a)),.str (tkT (tok s a))])) (x:=ABlk.box zV1); rw [zL3] at this; exact this) (.box rv)).push (ABlk.box (ndC zW))
  have hO1:=(((hob.set (c:=n6) tO (.box [zK (tkK (tok s a)),zK (skip s a),zK (tkE (skip s a) (tok s a)),.str (tkT (tok s a))])).push [ABlk.box zV1]).set (c:=H1.length) tO (.box rv)).push [ABlk.box (ndC zW)]
  exact h fr' _ _ _ g1 rfl rfl hP (by have:=zB (H:=((H1.set n6 (.box [zK (tkK (tok s a)),zK (skip s a),zK (tkE (skip s a) (tok s a)),.str (tkT (tok s a))])) ++ [ABlk.box zV1]).set H1.length (.box rv)) (x:=ABlk.box (ndC zW)); rw [show (((H1.set n6 (.box [zK (tkK (tok s a)),zK (skip s a),zK (tkE (skip s a) (tok s a)),.str (tkT (tok s a))])) ++ [ABlk.box zV1]).set H1.length (.box rv)).length = H1.length + 1 from by simp] at this; exact this) hP hP hP hP ho1 hO1
 have fin : ∀ (m : Nd) (e2 : Nat) (fr2 : Fr) (H' H2 : Heap) (n9 : Nat),a < e2 → e2 ≤ s.length → AN C b s d t (ks ++ [m]) e2 RV RB → zX fr2 [6,0,4,5,9] = [(6,pR n6),(0,pR b),(4,pR n4),(5,pR n5),(9,pR n9)] → H0.length ≤ n9 → n4 ≠ n9 → n5 ≠ n9 → n6 ≠ n9 → H'[n9]? = some (.box (ndC zW)) → H'[n6]? = some (.box [zK (tkK (tok s a)),zK (skip s a),zK (tkE (skip s a) (tok s a)),.str (tkT (tok s a))]) → H'[b]? = some (rP s a (d + 1)) → H'[n4]? = some (.box (ndC zW)) → H'[n5]? = some (.box (zAI t v)) → Owns H0 H' v 12 (ks.map ndV) → OldB H0 b (rP s a (d + 1)) H' →
   H2[b]? = some (rP s e2 (d + 1)) → H2[n9]? = some (.box (ndC m)) → Kp H' H2 b n9 → EW C GT caT K fr2 H2:=by
  intro m e2 fr2 H' H2 n9 ha2 he2 hAN g1 g9 d49 d59 d69 k9 k6 kb k4 k5 ko kO f1 f2 kp
  have htk2:=fun H=>hT e2 H he2
  rw [zEv] at htk2
  have hend:=zBM s e2
  rcases hAN with ⟨e3,hk,hA⟩ | ⟨e3,hk,hv,hB⟩ | ⟨n44,n41,hv,hB⟩
  ·rw [hk] at htk2 hend
   have hend : e2 < e3 ∧ e3 ≤ s.length:=hend
   exact call_tcont K b n4 n5 n6 n9 s (d + 1) t m ks v _ H0 H2 fr2 g1 (kp.old kO g9 f1) (kp.owns ko kb k9) tO (kp.1 _ _ k4 tO d49) (kp.1 _ _ k5 tO d59) _ _ _ _ (kp.1 _ _ k6 tO d69) f2 tO tO tO g9 tO tO tO e2 _ _ e3 _ htk2 rfl rfl rfl f1
    (fun fr' H' v' g1 g2 g3 g4 g5 g6 g7=>hcont m e3 fr' H' v' g1 g2 g3 g4 g5 g6 g7 tO hend.2 hA)
  ·rw [hk] at htk2
   have hc:=fun H h=>hC1 b s e2 d e3 H h he2 hl hd hk
   rw [← hB] at hc
   exact call_trb K b n4 n5 n6 n9 s (d + 1) t m ks v _ H0 H2 fr2 g1 (kp.old kO g9 f1) (kp.owns ko kb k9) tO (kp.1 _ _ k4 tO d49) (kp.1 _ _ k5 tO d59) _ _ _ _ (kp.1 _ _ k6 tO d69) f2 tO tO tO g9 tO tO tO e2 _ _ e3 _ htk2 rfl (fun h=>by cases h) rfl f1 RB hc
    (fun fr' H' v' g1 g2 g3 g4=>hret m fr' H' v' hv g1 g2 g3 g4)
  ·have hc:=fun H h=>hC2 b s e2 d H h he2 hl hd n41
   rw [← hB] at hc
   by_cases h4 : tkK (tok s e2) = 4
   ·have h44 : tkT (tok s e2) ≠ [44]:=fun x=>by
     cases hk : tok s e2 <;> rw [hk] at h4 x <;> simp only [tkK,tkT] at h4 x
     all_goals first | omega | (subst x; exact n44 ⟨_,hk⟩)
    exact call_trb K b n4 n5 n6 n9 s (d + 1) t m ks v _ H0 H2 fr2 g1 (kp.old kO g9 f1) (kp.owns ko kb k9) tO (kp.1 _ _ k4 tO d49) (kp.1 _ _ k5 tO d59) _ _ _ _ (kp.1 _ _ k6 tO d69) f2 tO tO tO g9 tO tO tO e2 _ _ _ _ htk2 h4 h44 rfl f1 RB hc
     (fun fr' H' v' g1 g2 g3 g4=>hret m fr' H' v' hv g1 g2 g3 g4)
   ·exact call_tra K b n4 n5 n6 n9 s (d + 1) t m ks v _ H0 H2 fr2 g1 (kp.old kO g9 f1) (kp.owns ko kb k9) tO (kp.1 _ _ k4 tO d49) (kp.1 _ _ k5 tO d59) _ _ _ _ (kp.1 _ _ k6 tO d69) f2 tO tO tO g9 tO tO tO e2 _ _ _ _ htk2 h4 rfl f1 RB hc
     (fun fr' H' v' g1 g2 g3 g4=>hret m fr' H' v' hv g1 g2 g3 g4)
 have fbad : ∀ (m : Nd) (a2 : Nat) (w ee dd : Int) (fr2 : Fr) (H' H2 : Heap) (n9 : Nat),ee ≠ 0 → a2 ≤ s.length → RV = ndV (zC2 t (ks ++ [m])) → RB = clB s a2 w ee dd → zX fr2 [6,0,4,5,9] = [(6,pR n6),(0,pR b),(4,pR n4),(5,pR n5),(9,pR n9)] → H0.length ≤ n9 → n4 ≠ n9 → n5 ≠ n9 → n6 ≠ n9 → H'[n9]? = some (.box (ndC zW)) → H'[n6]? = some (.box [zK (tkK (tok s a)),zK (skip s a),zK (tkE (skip s a) (tok s a)),.str (tkT (tok s a))]) → H'[b]? = some (rP s a (d + 1)) → H'[n4]? = some (.box (ndC zW)) → H'[n5]? = some (.box (zAI t v)) → Owns H0 H' v 12 (ks.map ndV) → OldB H0 b (rP s a (d + 1)) H' →
   H2[b]? = some (pB s a2 w ee dd) → H2[n9]? = some (.box (ndC m)) → Kp H' H2 b n9 → EW C GT caT K fr2 H2:=by
  intro m a2 w ee dd fr2 H' H2 n9 hee he2 hv hB g1 g9 d49 d59 d69 k9 k6 kb k4 k5 ko kO f1 f2 kp
  have htk2:=fun H=>hT a2 H he2
  rw [zEv] at htk2
  have hc:=fun H h=>hC3 b s a2 w ee dd H h hee he2 hl
  have hB' : pB s (tkE (skip s a2) (tok s a2) : Nat) w ee (IntKind.wrap .i64 (dd - 1)) = RB:=hB.symm
  rw [hB'] at hc
  exact call_tbad K b n4 n5 n6 n9 s (d + 1) t m ks v _ H0 H2 fr2 g1 (kp.old kO g9 f1) (kp.owns ko kb k9) tO (kp.1 _ _ k4 tO d49) (kp.1 _ _ k5 tO d59) _ _ _ _ (kp.1 _ _ k6 tO d69) f2 tO tO tO g9 tO tO tO a2 _ _ _ _ htk2 w ee dd hee rfl f1 RB hc
   (fun fr' H' v' g1 g2 g3 g4=>hret m fr' H' v' hv g1 g2 g3 g4)
 have hD30 : (d + 1 : Nat) = d + 1:=rfl
 have hRr:=fun H=>hR (tkT (tok s a)) H htl
 have lo : zDV s a = none → (∀ (fr' : Fr) (H' : Heap) (n9 : Nat) (m : Nd) (B : ABlk),(∀ H,H[b]? = some (rP s a (d + 1)) → C zU [pR b,.int .i64 1] H (ndV m) (H.set b B)) → (∀ fr2 H2,zX fr2 [6,0,4,5,9] = [(6,pR n6),(0,pR b),(4,pR n4),(5,pR n5),(9,pR n9)] → H2[b]? = some B → H2[n9]? = some (.box (ndC m)) → Kp H' H2 b n9 → EW C GT caT K fr2 H2) → True) → True:=fun _ _=>trivial
 have outs : zDV s a = none → ∃ (m : Nd) (B : ABlk),(∀ H,H[b]? = some (rP s a (d + 1)) → C zU [pR b,.int .i64 1] H (ndV m) (H.set b B)) ∧
   (∀ (fr2 : Fr) (H' H2 : Heap) (n9 : Nat),zX fr2 [6,0,4,5,9] = [(6,pR n6),(0,pR b),(4,pR n4),(5,pR n5),(9,pR n9)] → H0.length ≤ n9 → n4 ≠ n9 → n5 ≠ n9 → n6 ≠ n9 → H'[n9]? = some (.box (ndC zW)) → H'[n6]? = some (.box [zK (tkK (tok s a)),zK (skip s a),zK (tkE (skip s a) (tok s a)),.str (tkT (tok s a))]) → H'[b]? = some (rP s a (d + 1)) → H'[n4]? = some (.box (ndC zW)) → H'[n5]? = some (.box (zAI t v)) → Owns H0 H' v 12 (ks.map ndV) → OldB H0 b (rP s a (d + 1)) H' →
    H2[b]? = some B → H2[n9]? = some (.box (ndC m)) → Kp H' H2 b n9 → EW C GT caT K fr2 H2):=by
  intro hbn
  cases hlr : (P s).loose 1 a (d + 1) with
  | some x=>
   obtain ⟨m,e2⟩:=x
   have hx:=(zBz s).loose 1 a (d + 1) _ hal hlr
   simp only at hx
   have hps : zD5 s (P s) a (d + 1) = some (m,e2):=by unfold zD5; rw [hbn]; exact hlr
   exact ⟨m,rP s e2 (d + 1),(hLo a hea hal).1 m e2 hlr,fun fr2 H' H2 n9=>fin m e2 fr2 H' H2 n9 hx.1 hx.2 (hAR.ok hal hps)⟩
  | none=>
   obtain ⟨nw,W,hW,hlo,hv,hB⟩:=hAR.lw hal hbn hlr
   exact ⟨nw,W.blk s,hlo,fun fr2 H' H2 n9=>fbad nw W.a W.w W.e W.d fr2 H' H2 n9 hW.1 hW.2 hv hB⟩
 clear lo
 by_cases hbx : ∃ e1 w1 r1,tok s a = .word e1 w1 ∧ zCc w1 = some r1 ∧ s[e1]? = some 58
 ·obtain ⟨e1,w1,r1,ht,hr1,h58⟩:=hbx
  have he1:=(zg h58).1
  have hbi:=box_in ht hr1 h58
  have hal2 : e1 + 1 ≤ s.length:=by omega
  have htk2:=fun H=>hT (e1 + 1) H hal2
  rw [zEv] at htk2
  have hel2:=zHt hal2
  have hends:=zBM s (e1 + 1)
  have hend1:=zBM s a
  rw [ht] at hend1
  have hend1 : a < e1 ∧ e1 ≤ s.length:=hend1
  have hRr2:=fun H=>hR (tkT (tok s (e1 + 1))) H (tkT_len hal2 hl)
  have hsk2:=zDw s (e1 + 1)
  have hem : e1 < tkE (skip s (e1 + 1)) (tok s (e1 + 1)):=by
   cases hk : tok s (e1 + 1) <;> rw [hk] at hends <;> simp only [tkE,Tok.endsBy] at hends ⊢ <;> omega
  have hff:=fun H (h : H[b]? = some (rP s a (d + 1)))=>hF b s a (d + 1 : Nat) (e1 + 1 : Nat) 2 H h
  rw [ht] at hRr
  have hRr : ∀ H,C zj [.str w1] H (refRV (zCc w1)) H:=hRr
  rw [hr1] at hRr
  refine p1 [zI r1.col,zI r1.row,.bool r1.fc,.bool r1.fr] true ⟨_,_,_,_,rfl⟩ rfl (fun H=>by rw [ht]; exact hRr H) (fun fr' H' n7 n9 g1 g2 g3 k7 k9 k6 kb k4 k5 ko kO=>?_)
  have k6' : H'[n6]? = some (.box [zK 1,zK (skip s a),zK e1,.str w1]):=by rw [k6,ht]; rfl
  have q9 : H0.length ≤ n9:=by omega
  by_cases hq : skip s (e1 + 1) = e1 + 1
  ·by_cases hk1 : tkK (tok s (e1 + 1)) = 1
   ·cases hx2 : zCc (tkT (tok s (e1 + 1))) with
    | some r2=>
     rw [hx2] at hRr2
     have hps : zD5 s (P s) a (d + 1) = some (boxN r1 r2,tkE (skip s (e1 + 1)) (tok s (e1 + 1))):=by unfold zD5; rw [hbi,zLx ⟨hq,hk1⟩,hx2]; rfl
     have hAN:=hAR.ok hal hps
     exact call_xok caT K b n4 n5 n6 n7 n9 true s a (d + 1) 1 _ e1 w1 H' fr' g1 kb k6' k9 tO tO tO hend1.2 hl r1 r2 k7 tO tO _ _ _ _ htk2 hRr2 hq hk1 rfl rfl h58 _ rfl _ rfl
      (fun fr2 H2 z1 z2 z3 z4=>fin _ _ fr2 H' H2 n9 tO hel2 hAN z1 q9 tO tO tO k9 k6 kb k4 k5 ko kO z2 z3 z4)
    | none=>
     rw [hx2] at hRr2
     have hbn : zDV s a = some none:=by rw [hbi,zLx ⟨hq,hk1⟩,hx2]; rfl
     obtain ⟨hv,hB⟩:=hAR.bx hal hbn ht hr1
     rw [hx2] at hv
     exact call_xfc caT K b n4 n5 n6 n7 n9 true s a (d + 1) 1 _ e1 w1 H' fr' g1 kb k6' k9 tO tO tO hend1.2 hl r1 noRef k7 tO tO _ _ _ _ htk2 hRr2 hq hk1 hff rfl rfl h58 _ rfl _ rfl
      (fun fr2 H2 z1 z2 z3 z4=>fbad _ _ _ 2 _ fr2 H' H2 n9 (by decide) hel2 hv hB z1 q9 tO tO tO k9 k6 kb k4 k5 ko kO z2 z3 z4)
   ·have hbn : zDV s a = some none:=by rw [hbi,zLv (fun x=>hk1 x.2)]
    obtain ⟨hv,hB⟩:=hAR.bx hal hbn ht hr1
    have hrr : ∀ H,C zj [.str (tkT (tok s (e1 + 1)))] H (.tup [.agg [zI ((zCc (tkT (tok s (e1 + 1)))).getD noRef).col,zI ((zCc (tkT (tok s (e1 + 1)))).getD noRef).row,.bool ((zCc (tkT (tok s (e1 + 1)))).getD noRef).fc,.bool ((zCc (tkT (tok s (e1 + 1)))).getD noRef).fr],.bool (zCc (tkT (tok s (e1 + 1)))).isSome]) H:=fun H=>by
     have:=hRr2 H
     cases hx2 : zCc (tkT (tok s (e1 + 1))) with
     | some r2=>rw [hx2] at this; exact this
     | none=>rw [hx2] at this; exact this
    exact call_xfb caT K b n4 n5 n6 n7 n9 true s a (d + 1) 1 _ e1 w1 H' fr' g1 kb k6' k9 tO tO tO hend1.2 hl r1 _ k7 tO tO _ _ _ _ htk2 _ hrr hq hk1 hff rfl rfl h58 _ rfl _ rfl
     (fun fr2 H2 z1 z2 z3 z4=>fbad _ _ _ 2 _ fr2 H' H2 n9 (by decide) hel2 hv hB z1 q9 tO tO tO k9 k6 kb k4 k5 ko kO z2 z3 z4)
  ·have hbn : zDV s a = some none:=by rw [hbi,zLv (fun x=>hq x.1)]
   obtain ⟨hv,hB⟩:=hAR.bx hal hbn ht hr1
   have hrr : ∀ H,C zj [.str (tkT (tok s (e1 + 1)))] H (.tup [.agg [zI ((zCc (tkT (tok s (e1 + 1)))).getD noRef).col,zI ((zCc (tkT (tok s (e1 + 1)))).getD noRef).row,.bool ((zCc (tkT (tok s (e1 + 1)))).getD noRef).fc,.bool ((zCc (tkT (tok s (e1 + 1)))).getD noRef).fr],.bool (zCc (tkT (tok s (e1 + 1)))).isSome]) H:=fun H=>by
    have:=hRr2 H
    cases hx2 : zCc (tkT (tok s (e1 + 1))) with
    | some r2=>rw [hx2] at this; exact this
    | none=>rw [hx2] at this; exact this
   exact call_xfa caT K b n4 n5 n6 n7 n9 true s a (d + 1) 1 _ e1 w1 H' fr' g1 kb k6' k9 tO tO tO hend1.2 hl r1 _ k7 tO tO _ _ _ _ htk2 _ hrr hq hff rfl rfl h58 _ rfl _ rfl
    (fun fr2 H2 z1 z2 z3 z4=>fbad _ _ _ 2 _ fr2 H' H2 n9 (by decide) hel2 hv hB z1 q9 tO tO tO k9 k6 kb k4 k5 ko kO z2 z3 z4)
 ·obtain ⟨m,B,hlo,hfin⟩:=outs (box_out hbx)
  cases hx : zCc (tkT (tok s a)) with
  | none=>
   rw [hx] at hRr
   refine p1 zV1 false ⟨_,_,_,_,rfl⟩ rfl hRr (fun fr' H' n7 n9 g1 g2 g3 k7 k9 k6 kb k4 k5 ko kO=>?_)
   have q9 : H0.length ≤ n9:=by omega
   by_cases hk1 : tkK (tok s a) = 1
   ·exact call_nb caT K b n4 n5 n6 n7 n9 false s a (d + 1) _ _ _ _ H' fr' g1 kb k6 k9 tO tO tO hel hl m B hlo hk1 rfl
     (fun fr2 H2 z1 z2 z3 z4=>hfin fr2 H' H2 n9 z1 q9 tO tO tO k9 k6 kb k4 k5 ko kO z2 z3 z4)
   ·exact call_na caT K b n4 n5 n6 n7 n9 false s a (d + 1) _ _ _ _ H' fr' g1 kb k6 k9 tO tO tO hel hl m B hlo hk1
     (fun fr2 H2 z1 z2 z3 z4=>hfin fr2 H' H2 n9 z1 q9 tO tO tO k9 k6 kb k4 k5 ko kO z2 z3 z4)
  | some r1=>
   rw [hx] at hRr
   refine p1 [zI r1.col,zI r1.row,.bool r1.fc,.bool r1.fr] true ⟨_,_,_,_,rfl⟩ rfl hRr (fun fr' H' n7 n9 g1 g2 g3 k7 k9 k6 kb k4 k5 ko kO=>?_)
   have q9 : H0.length ≤ n9:=by omega
   by_cases hk1 : tkK (tok s a) = 1
   ·by_cases hle : s.length ≤ tkE (skip s a) (tok s a)
    ·exact call_nc caT K b n4 n5 n6 n7 n9 true s a (d + 1) _ _ _ _ H' fr' g1 kb k6 k9 tO tO tO hel hl m B hlo hk1 rfl hle
      (fun fr2 H2 z1 z2 z3 z4=>hfin fr2 H' H2 n9 z1 q9 tO tO tO k9 k6 kb k4 k5 ko kO z2 z3 z4)
    ·obtain ⟨c,hc⟩ : ∃ c,s[tkE (skip s a) (tok s a)]? = some c:=⟨_,zLy tO⟩
     have hc58 : c.toNat ≠ 58:=fun h=>by
      have h58 : c = 58:=zME.1 h
      subst h58
      cases hk : tok s a <;> rw [hk] at hk1 hc hx <;> simp only [tkK,tkE,tkT] at hk1 hc hx
      all_goals first | omega | exact hbx ⟨_,_,_,hk,hx,hc⟩
     exact call_nd caT K b n4 n5 n6 n7 n9 true s a (d + 1) _ _ _ _ H' fr' g1 kb k6 k9 tO tO tO hel hl m B hlo hk1 rfl c hc hc58
      (fun fr2 H2 z1 z2 z3 z4=>hfin fr2 H' H2 n9 z1 q9 tO tO tO k9 k6 kb k4 k5 ko kO z2 z3 z4)
   ·exact call_na caT K b n4 n5 n6 n7 n9 true s a (d + 1) _ _ _ _ H' fr' g1 kb k6 k9 tO tO tO hel hl m B hlo hk1
     (fun fr2 H2 z1 z2 z3 z4=>hfin fr2 H' H2 n9 z1 q9 tO tO tO k9 k6 kb k4 k5 ko kO z2 z3 z4)
end
end Go.AM
set_option maxRecDepth 20000
namespace Go.AM
theorem AF'.shape {C : CSpec} {b : Nat} {s : Bs} {d : Nat} {ks : List Nd} {a : Nat} {L : List Nd} {RB : ABlk} (h : AF' C b s d ks a L RB) : a ≤ s.length → ∃ (a' : Nat) (w e d' : Int),e ≠ 0 ∧ a' ≤ s.length ∧ RB = pB s a' w e d':=by
 induction h with
 | box ks a e1 w1 r1 ht hr h58 hn=>
  intro ha
  have h1 : e1 < s.length:=(zg h58).1
  exact ⟨_,_,2,_,by decide,zHt (zHt tO),rfl⟩
 | lo ks a nw W hn hl hW h=>intro ha; exact ⟨_,_,_,_,hW.1,zHt hW.2,rfl⟩
 | close ks a m e2 h h44 h41=>
  intro ha
  have hx:=zFh (zBz s) a (d + 1) _ ha h
  exact ⟨_,_,2,_,by decide,zHt hx.2,rfl⟩
 | later ks a m e2 e3 L RB h h44 k ih=>
  intro ha
  have ht:=zBM s e2
  rw [h44] at ht
  simp only [Tok.endsBy] at ht
  exact ih tO
section
variable {C : CSpec} {GT : Nat → Option AV}
theorem rcall_ef (hT : ∀ s a H,a ≤ s.length → s.length ≤ 1000 → C zT [.str s,zK a] H (tkV s a) H)
  (hR : ∀ s H,s.length ≤ 200 → C zj [.str s] H (refRV (zCc s)) H)
  (hF : ∀ b s p d a e H,H[b]? = some (pB s p 0 0 d) → C zd [pR b,zI a,zI e] H (.tup []) (H.set b (pB s p a e d)))
  (hC1 : ∀ b s p d e H,H[b]? = some (rP s p (d + 1)) → p ≤ s.length → s.length ≤ 200 → d ≤ 1000 → tok s p = .sign e [41] → C zc [pR b] H (.tup []) (H.set b (rP s e d)))
  (hC2 : ∀ b s p d H,H[b]? = some (rP s p (d + 1)) → p ≤ s.length → s.length ≤ 200 → d ≤ 1000 → (¬ ∃ e,tok s p = .sign e [41]) → C zc [pR b] H (.tup []) (H.set b (pB s (tkE (skip s p) (tok s p) : Nat) (skip s p : Nat) 2 d)))
  (hC3 : ∀ b s (p : Nat) w e d H,H[b]? = some (pB s p w e d) → e ≠ 0 → p ≤ s.length → s.length ≤ 200 → C zc [pR b] H (.tup []) (H.set b (pB s (tkE (skip s p) (tok s p) : Nat) w e (IntKind.wrap .i64 (d - 1)))))
  (b : Nat) (s t : Bs) (e d : Nat) (h40 : s[e]? = some 40) (hl : s.length ≤ 200) (hd : d ≤ 1000)
  (hLo : ∀ a,e < a → a ≤ s.length → CF C zU [pR b,.int .i64 1] b s a (d + 1) ((P s).loose 1 a (d + 1))) :
  (∀ n e2,zGg s t e (d + 1) = some (n,e2) → ∀ H,H[b]? = some (rP s e (d + 1)) → zB3 C GT zA9 [pR b,.str t] H b [] .undef (some (ndV n,rP s e2 d))) ∧
  (zGg s t e (d + 1) = none → ∃ (n : Nd) (a : Nat) (w e' d' : Int),e' ≠ 0 ∧ a ≤ s.length ∧ ∀ H,H[b]? = some (rP s e (d + 1)) → zB3 C GT zA9 [pR b,.str t] H b [] .undef (some (ndV n,pB s a w e' d'))):=by
 have he : e < s.length:=(zg h40).1
 have htk:=fun H=>hT s (e + 1) H tO tO
 have main : (¬ ∃ e2,tok s (e + 1) = .sign e2 [41]) → ∀ (RV : AV) (RB : ABlk),(∀ k,zFE k RB = true) → AR C b s d t [] (e + 1) RV RB → ∀ H,H[b]? = some (rP s e (d + 1)) → zB3 C GT zA9 [pR b,.str t] H b [] .undef (some (RV,RB)):=by
  intro hno RV RB hRB hAR H hb
  have htk:=htk
  rw [zEv] at htk
  refine zz ?_; refine call_s1 caE _ b s t e (d + 1) _ _ _ _ H hb tO (by exact_mod_cast htk) (fun fr' H' n4 n5 n6 e4 e5 e6 hfr hob hb1 h4 h5 h6=>?_)
  refine call_s2 (.seq (.block 0 [4,5] (.loop [6,0,4,5] zBH)) caE.rest.rest) _ b n4 n5 n6 _ _ _ _ H' fr' hfr h6 (fun hx=>?_) (fun fr2 hfr2=>?_)
  ·cases hk : tok s (e + 1) <;> rw [hk] at hx <;> simp only [tkK,tkT] at hx
   all_goals first | omega | (obtain ⟨_,rfl⟩:=hx; exact hno ⟨_,hk⟩)
  ·exact rcall_loop hT hR hF hC1 hC2 hC3 _ b s t d e (e + 1) n4 n5 n6 _ [] H H' fr2 hfr2 hl hd e4 e5 e6 hob hb1 h4 h5 ⟨_,_,_,_,h6⟩ (.inl ⟨rfl,rfl⟩) tO tO (by simp) hLo RV RB hRB hAR
 by_cases h41 : ∃ e2,tok s (e + 1) = .sign e2 [41]
 ·obtain ⟨e2,h41⟩:=h41
  have hcs : zGg s t e (d + 1) = some (zC2 t [],e2):=by unfold zGg; simp only [h41]
  rw [hcs]
  refine ⟨fun n e3 h H hb=>?_,fun h=>by cases h⟩
  cases h
  have htk:=htk
  rw [zEv,h41] at htk
  refine zz ?_; refine call_s1 caE _ b s t e (d + 1) _ _ _ _ H hb tO (by exact_mod_cast htk) (fun fr' H' n4 n5 n6 e4 e5 e6 hfr hob hb1 h4 h5 h6=>?_)
  refine call_s3 caE.rest _ b n4 n5 n6 _ _ _ t _ (rP s (e + 1) (d + 1)) (rP s e2 d) H H' fr' hfr h6 rfl rfl hob hb1 h4 h5 tO tO tO (fun H h=>hC1 b s (e + 1) d e2 H h tO hl hd h41) (fun fr2 H2 g1 g2 g3=>?_)
  obtain ⟨H2',hz,hob2⟩:=zJC (H0:=H) (xs:=[]) t (.inl ⟨rfl,rfl⟩) rfl g3
  exact zx (o:=0) (.agg (zAI t (.lst (some true) 0 []))) rfl rfl rfl (by rw [g1]; exact zJ g2) rfl hz (zHD _ _ []) hob2 rfl
 ·have hcs : zGg s t e (d + 1) = (P s).args t [] (e + 1) (d + 1):=by
   unfold zGg
   split
   ·rename_i e2 hk; exact absurd ⟨e2,hk⟩ h41
   ·rfl
  rw [hcs]
  refine ⟨fun n e2 h H hb=>main h41 _ _ (fun _=>rfl) (.inl ⟨n,e2,h,rfl,rfl⟩) H hb,fun h=>?_⟩
  obtain ⟨L,RB,hL⟩:=args_fail (C:=C) (t:=t) e hLo (s.length - (e + 1)) [] (e + 1) tO tO (zL0 _) h
  obtain ⟨a',w,ee,d',g1,g2,g3⟩:=hL.shape tO
  exact ⟨zC2 t L,a',w,ee,d',g1,g2,fun H hb=>by rw [← g3]; exact main h41 _ _ (by rw [g3]; exact fun _=>rfl) (.inr ⟨L,hL,rfl⟩) H hb⟩
end
end Go.AM
