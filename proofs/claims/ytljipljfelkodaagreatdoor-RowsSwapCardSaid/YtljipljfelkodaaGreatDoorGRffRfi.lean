/- Several texts of mine in one (Rff, Chk, Rfg, Rfh, Rfi). Own work. -/
import Derived.Test.YtljipljfelkodaaGreatDoorGRfaRfe
import Derived.Test.YtljipljfelkodaaGreatDoorGFr7ToldQ
import Derived.Test.YtljipljfelkodaaGreatDoorGFq0Bg0
import Derived.Test.YtljipljfelkodaaGreatDoorGAm31Rf1
set_option linter.all false
set_option maxRecDepth 20000
namespace Go.AM
section
variable {C : CSpec} {GT : Nat → Option AV}
theorem rloose_bad (b : Nat) (s : Bs) (p d l : Nat) (n0 : Nd) (W : Bd) (hW : W.ok s) (H : Heap) (hb : H[b]? = some (rP s p d)) (ho : ∀ H,H[b]? = some (rP s p d) → C zAB [pR b] H (ndV n0) (H.set b (W.blk s))) :
  zB3 C GT zBa [pR b,zK l] H b [] .undef (some (ndV zW,W.blk s)):=by
 have hbl : b < H.length:=(zg hb).1
 have hwe:=hW.1
 refine zz ?_; refine zAc (ho _ hP) (fun h=>by cases h) <| zH (v:=ndV n0) (AV.cells (ndV n0)) zB rfl rfl rfl rfl ?_; refine zBm (fun m : Nat=>[(4,pR H.length),(5,pR m),(0,pR b),(1,zK l)])
  (fun _ H'=>OldB H b (W.blk s) H' ∧ H'[b]? = some (W.blk s) ∧ H'[H.length]? = some (.box (ndC zW)))
  (fun _=>0) _ rfl ⟨((((((OldB.start hb).push _).setB _).push _).set (by simp) _)),hP,hP⟩ (fun _ H1 ⟨hob,hb1,h4⟩=>?_)
 have h4l:=(zg h4).1
 have hb1' : H1[b]? = some (.box [.str s,zI W.a,zI W.w,zI W.e,zI W.d]):=hb1
 refine zD (zI W.e) hb1' rfl <| zY (tN hwe) <| zl (v:=zV0) rfl <| zH (v:=AV.agg zV0) (AV.cells (AV.agg zV0)) h4 rfl rfl rfl rfl ?_
 exact zx (o:=0) (ndV zW) rfl rfl rfl (zJ hP) rfl rfl rfl (by repeat' (first | assumption | exact ⟨_,hob⟩ | apply exO_push | apply exO_setB | refine exO_set ?_ tC _ | apply OldB.push | apply OldB.setE | refine OldB.set ?_ tC _)) rfl
theorem rloose_ef (hT : ∀ s a H,a ≤ s.length → s.length ≤ 1000 → C zT [.str s,zK a] H (tkV s a) H)
  (hSg : ∀ t H,C zB8 [.str t] H (zK (zBO t)) H) (hTi : ∀ op H,op ≤ 1000 → C zBF [zK op] H (zK (tight op)) H)
  (b : Nat) (s : Bs) (p d l : Nat) (hp : p ≤ s.length) (hl : s.length ≤ 200)
  (hLo : ∀ a l',p < a → a ≤ s.length → CF C zU [pR b,zK l'] b s a d ((P s).loose l' a d))
  (hOne : CF C zAB [pR b] b s p d ((P s).one p d)) : EF C GT zBa [pR b,zK l] b s p d ((P s).loose l p d):=by
 rw [zIC l d hp]
 unfold zDS
 cases h1 : (P s).one p d with
 | none=>
  obtain ⟨n,a,w,e,d',h2,h3,h4⟩:=hOne.2 h1
  exact ⟨fun n e h=>(by cases h),fun _=>⟨zW,a,w,e,d',h2,h3,fun H hb=>rloose_bad b s p d l n ⟨a,w,e,d'⟩ ⟨h2,h3⟩ H hb h4⟩⟩
 | some x=>
  obtain ⟨n0,e0⟩:=x
  have hx:=(zBz s).one p d _ hp h1
  simp only at hx
  have ho:=hOne.1 n0 e0 h1
  have go:=fun RV RB h2 h3 h4 H hb=>rloose_ev (GT:=GT) hT hSg hTi b s p d l hp hl (fun a l' m e h1 h2 h3=>(hLo a l' h1 h2).1 m e h3) n0 e0 hx.1 hx.2 RV RB h2 h3 h4 H hb ho
  simp only [zMt]
  cases h2 : (P s).ll l n0 e0 d with
  | some y=>
   obtain ⟨n',e'⟩:=y
   refine ⟨fun n e h H hb=>?_,fun h=>by cases h⟩
   cases h
   exact go _ _ (fun _=>rfl) ⟨n',rfl⟩ (.inl ⟨n',e',h2,rfl,rfl⟩) H hb
  | none=>
   obtain ⟨W,hW⟩:=ll_fail (C:=C) p hLo (s.length - e0) n0 e0 hx.1 hx.2 (zL0 _) h2
   exact ⟨fun n e h=>(by cases h),fun _=>⟨zW,W.a,W.w,W.e,W.d,hW.ok.1,hW.ok.2,fun H hb=>go _ _ (fun _=>rfl) ⟨zW,rfl⟩ (.inr ⟨W,hW,rfl,rfl⟩) H hb⟩⟩
end
structure RefK (PR : Program) : Prop where
 hm : PR.follows .mixedOrders = true
 wordly : z7 PR zBR zCu = true
 wrongs : z7 PR zA2 zDt = true
 bad : z7 PR zDH zF2 = true
 named : z7 PR zBp zEI = true
 token : z7 PR zT zEG = true
 called : z7 PR zf zDv = true
 whole : z7 PR zS zCR = true
 ref : z7 PR zj zFz = true
 sign : z7 PR zB8 zE3 = true
 tight : z7 PR zBF zEH = true
 fail : z7 PR zd zDZ = true
 deeper : z7 PR ze zC0 = true
 close : z7 PR zc zBc = true
 one : z7 PR zAB zO = true
 call : z7 PR zBo zA9 = true
 loose : z7 PR zU zBa = true
structure BigG (PR : Program) (GT : Nat → Option AV) : Prop where
 new : ∀ v H,zDC v → Good PR GT zAY [zI v] H (.ref H.length 0 0 0) (H ++ [.box (zFm v)])
 mul : ∀ b t v av H,H[b]? = some (.box [.bool false,av]) → H[t]? = some (.box (zFm 10)) → Mag av v → (wds v).length ≤ 1000 → Good PR GT zAe [.ref b 0 0 0,.ref b 0 0 0,.ref t 0 0 0] H (.ref b 0 0 0) (H.set b (.box [.bool false,mulV v]))
 add : ∀ (b t v d : Nat) (av : AV) (H : Heap),H[b]? = some (.box [.bool false,av]) → H[t]? = some (.box (zFm d)) → Mag av v → (wds v).length ≤ 1000 → (wds d).length ≤ 1000 → Good PR GT zAf [.ref b 0 0 0,.ref b 0 0 0,.ref t 0 0 0] H (.ref b 0 0 0) (H.set b (.box (zFm ((v + d : Nat) : Int))))
 fit : ∀ b v H,H[b]? = some (.box (zFm v)) → (wds v.natAbs).length ≤ 100 → Good PR GT zCn [.ref b 0 0 0] H (.bool (decide (zDC v))) H
 i64 : ∀ b v H,H[b]? = some (.box (zFm v)) → zDC v → Good PR GT zAS [.ref b 0 0 0] H (zI v) H
section
variable {PR : Program} {GT : Nat → Option AV}
theorem cf_of (hm : PR.follows .mixedOrders = true) {f : Nat} {F : AF} {args : List AV} {b : Nat} {s : Bs} {p d : Nat} {r : Option (Nd × Nat)} (hc : z7 PR f F = true) (h : EF (Good PR GT) GT F args b s p d r) (hn : zHT args = true:=by rfl) : CF (Good PR GT) f args b s p d r:=
 ⟨fun n e hr H hb=>(zAW hm hc (h.1 n e hr H hb) hn).1 _ _ rfl,fun hr=>by
  obtain ⟨n,a,w,e,d',h1,h2,h3⟩:=h.2 hr
  exact ⟨n,a,w,e,d',h1,h2,fun H hb=>(zAW hm hc (h3 H hb) hn).1 _ _ rfl⟩⟩
theorem q_wordly (k : RefK PR) (c : UInt8) (H : Heap) : Good PR GT zBR [byV c] H (.bool (zu c)) H:=zM k.hm k.wordly (rwordly_ev c H)
theorem q_wrongs (k : RefK PR) (H : Heap) : Good PR GT zA2 [] H (.lst (some false) 1 (wrL.map AV.str)) H:=zM k.hm k.wrongs (rwrongs_ev H)
theorem q_bad (k : RefK PR) (n : Nat) (H : Heap) : Good PR GT zDH [zK n] H (.agg [.int .i64 4,zK n,.str []]) H:=zM k.hm k.bad (rbad_ev n H)
theorem q_named (k : RefK PR) (n : Nat) (H : Heap) (h1 : 1 ≤ n) (h6 : n ≤ 6) : Good PR GT zBp [.str (wrongs.getD (n - 1) [])] H (.tup [.agg [.int .i64 4,zK n,.str []],.bool true]) H:=zM k.hm k.named (rnamed_ev (q_wrongs k) (q_bad k) n h1 h6 H)
theorem zGH (k : RefK PR) (s : Bs) (a : Nat) (H : Heap) (ha : a ≤ s.length) (hl : s.length ≤ 1000) : Good PR GT zT [.str s,zK a] H (tkV s a) H:=zM k.hm k.token (rtoken_ev (q_wordly k) (q_wrongs k) s a H ha hl)
theorem q_called (k : RefK PR) (s : Bs) (H : Heap) (hl : s.length ≤ 1000) : Good PR GT zf [.str s] H (.bool (zBI s)) H:=zM k.hm k.called (rcalled_ev s H hl)
theorem q_whole (k : RefK PR) (g : BigG PR GT) (s : Bs) (H : Heap) (hl : s.length ≤ 200) : Good PR GT zS [.str s,.bool false] H (zJl (zAq s)) H:=zM k.hm k.whole (rwhole_ev g.new g.mul g.add g.fit g.i64 s H hl)
theorem q_ref (k : RefK PR) (g : BigG PR GT) (s : Bs) (H : Heap) (hl : s.length ≤ 200) : Good PR GT zj [.str s] H (refRV (zCc s)) H:=zM k.hm k.ref (rref_ev (q_whole k g) s H hl)
theorem q_sign (k : RefK PR) (t : Bs) (H : Heap) : Good PR GT zB8 [.str t] H (zK (zBO t)) H:=zM k.hm k.sign (rsign_ev t H)
theorem q_tight (k : RefK PR) (op : Nat) (H : Heap) (h : op ≤ 1000) : Good PR GT zBF [zK op] H (zK (tight op)) H:=zM k.hm k.tight (rtight_ev op H h)
theorem q_fail (k : RefK PR) (b : Nat) (s : Bs) (p d a e : Int) (H : Heap) (hb : H[b]? = some (pB s p 0 0 d)) : Good PR GT zd [pR b,zI a,zI e] H (.tup []) (H.set b (pB s p a e d)):=(zAW k.hm k.fail (rfail_ev b s p d a 0 e H hb .undef [])).1 _ _ rfl
theorem q_deeper (k : RefK PR) (b : Nat) (s : Bs) (p : Int) (d : Nat) (a : Int) (H : Heap) (hb : H[b]? = some (pB s p 0 0 d)) (hd : d ≤ 1000) :
  (d = 30 → Good PR GT ze [pR b,zI a] H (.bool false) (H.set b (pB s p a 4 d))) ∧ (d ≠ 30 → Good PR GT ze [pR b,zI a] H (.bool true) (H.set b (pB s p 0 0 (d + 1 : Nat)))):=
 have h:=zAW k.hm k.deeper (rdeeper_ev (GT:=GT) (q_fail k) b s p d a H hb hd .undef [])
 ⟨fun e=>h.1 _ _ (by rw [zLx e]),fun e=>h.1 _ _ (by rw [zLv e])⟩
theorem q_close1 (k : RefK PR) (b : Nat) (s : Bs) (p d e : Nat) (H : Heap) (hb : H[b]? = some (rP s p (d + 1))) (hp : p ≤ s.length) (hl : s.length ≤ 200) (hd : d ≤ 1000) (hk : tok s p = .sign e [41]) : Good PR GT zc [pR b] H (.tup []) (H.set b (rP s e d)):=(zAW k.hm k.close (rclose_ok (zGH k) b s p d e H hb hp hl hd hk)).1 _ _ rfl
theorem q_close2 (k : RefK PR) (b : Nat) (s : Bs) (p d : Nat) (H : Heap) (hb : H[b]? = some (rP s p (d + 1))) (hp : p ≤ s.length) (hl : s.length ≤ 200) (hd : d ≤ 1000) (hk : ¬ ∃ e,tok s p = .sign e [41]) : Good PR GT zc [pR b] H (.tup []) (H.set b (pB s (tkE (skip s p) (tok s p) : Nat) (skip s p : Nat) 2 d)):=(zAW k.hm k.close (rclose_no (zGH k) (q_fail k) b s p d H hb hp hl hd hk)).1 _ _ rfl
theorem q_close3 (k : RefK PR) (b : Nat) (s : Bs) (p : Nat) (w e d : Int) (H : Heap) (hb : H[b]? = some (pB s p w e d)) (he : e ≠ 0) (hp : p ≤ s.length) (hl : s.length ≤ 200) : Good PR GT zc [pR b] H (.tup []) (H.set b (pB s (tkE (skip s p) (tok s p) : Nat) w e (IntKind.wrap .i64 (d - 1)))):=(zAW k.hm k.close (rclose_bad (zGH k) b s p w e d H hb he hp hl)).1 _ _ rfl
theorem q_all (k : RefK PR) (g : BigG PR GT) (b : Nat) (s : Bs) (hl : s.length ≤ 200) : ∀ n p,p ≤ s.length → s.length - p = n → ∀ d,d + (s.length - p) ≤ 500 →
  CF (Good PR GT) zAB [pR b] b s p d ((P s).one p d) ∧ ∀ l,CF (Good PR GT) zU [pR b,zK l] b s p d ((P s).loose l p d):=by
 intro n
 induction n using Nat.strongRecOn with
 | _ n ih=>
  intro p hp hn d hd
  have ih':=fun p' (h1 : p < p') (h2 : p' ≤ s.length) d' h3=>ih (s.length - p') tO p' h2 rfl d' h3
  clear ih
  have one : CF (Good PR GT) zAB [pR b] b s p d ((P s).one p d):=by
   refine cf_of k.hm k.one (rone_ef (zGH k) (q_called k) (q_whole k g) (q_ref k g) (fun n H=>q_named k n H) (q_fail k) (fun b s p d a H=>q_deeper k b s p d a H) (q_close1 k) (q_close2 k) (q_close3 k) b s p d hp hl tO (fun a h1 h2=>(ih' a h1 h2 (d + 1) tO).1) (fun a h1 h2=>(ih' a h1 h2 (d + 1) tO).2 1) (fun e t h40 h1 h2=>?_))
   have he:=(zg h40).1
   have h:=rcall_ef (GT:=GT) (zGH k) (q_ref k g) (q_fail k) (q_close1 k) (q_close2 k) (q_close3 k) b s t e d h40 hl tO (fun a h1 h2=>(ih' a tO h2 (d + 1) tO).2 1)
   refine ⟨fun n e2 hr H hb=>(zAW k.hm k.call (h.1 n e2 hr H hb)).1 _ _ rfl,fun hr=>?_⟩
   obtain ⟨n,a,w,e',d',g1,g2,g3⟩:=h.2 hr
   exact ⟨n,a,w,e',d',g1,g2,fun H hb=>(zAW k.hm k.call (g3 H hb)).1 _ _ rfl⟩
  exact ⟨one,fun l=>cf_of k.hm k.loose (rloose_ef (zGH k) (q_sign k) (q_tight k) b s p d l hp hl (fun a l' h1 h2=>(ih' a h1 h2 d tO).2 l') one)⟩
end
end Go.AM
set_option maxRecDepth 20000
namespace Go.AM
structure Fil where
 col : Int
 row : Int
 text : Bs
 deriving DecidableEq
def zBP (c r : Int) : AV:=.agg [zI c,zI r]
def zh (f : Fil) : AV:=.agg [zI f.col,zI f.row,.str f.text]
def okC (c r : Int) : Bool:=decide (1 ≤ c) && decide (c ≤ 26) && decide (1 ≤ r) && decide (r ≤ 99)
def cmp3 (a b : Int) : Int:=if a < b then -1 else if b < a then 1 else 0
def cmpC (c1 r1 c2 r2 : Int) : Int:=if cmp3 r1 r2 ≠ 0 then cmp3 r1 r2 else cmp3 c1 c2
def zDU (a b : Fil) : Bool:=decide (cmpC a.col a.row b.col b.row < 0)
def zA4 (s : Bs) : Nat:=if 200 < s.length then 4 else if s.head? = some 61 then (match zCd s with
 | some _=>0
 | none=>2) else 0
def eV (n : Nat) : AV:=if n = 0 then .nili else zGl n
def filN (prev : Option Fil) (f : Fil) : Nat:=if okC f.col f.row = false then 1 else if (match prev with
 | some p=>zDU p f
 | none=>true) = false then 5 else if f.text = [] then 3 else zA4 f.text
def zEa (prev : Option Fil) : List Fil → Nat
 | []=>0
 | f :: r=>if filN prev f = 0 then zEa (some f) r else filN prev f
def zBJ (l : List Fil) : Nat:=if 200 < l.length then 4 else zEa none l
theorem zJm (l : List Fil) (i : Nat) (f : Fil) (h : l[i]? = some f) (prev : Option Fil) : zEa prev (l.drop i) = if filN prev f = 0 then zEa (some f) (l.drop (i + 1)) else filN prev f:=by
 have hi:=(zg h).1
 have e : l.drop i = f :: l.drop (i + 1):=by
  rw [zNR hi]
  rw [(zg h).2]
 rw [e]; rfl
theorem sIdxW {v : AV} {H : Heap} {k : Nat} {xs : List AV} {n : Int} {K : AV → Prop} (i : Nat) (x : AV) (hv : view H k v = some xs) (hn : n = (i : Int)) (hx : xs[i]? = some x) (q1 : K (.lref x 0)) (q2 : ∀ b j,zy H (.ref b k j 0) = some (x.cells,0) → K (.ref b k j 0)) : idxN k v n K:=by
 have hlt:=(zg hx).1
 unfold view at hv
 split at hv
 ·split at hv
  ·rename_i hk
   cases hv; subst hk
   exact sIdx hn hx q1
  ·split at hv
   ·cases hv; simp at hlt
   ·cases hv
 ·rw [zHM]; unfold idxNW
  simp only
  split at hv
  ·rename_i hk
   subst hk
   split at hv
   ·rename_i hb
    split at hv
    ·rename_i hc
     cases hv
     rw [zMA,zMX] at hlt
     rw [zMS,zLx tO,zMY] at hx
     subst hn
     rw [hc.1] at hb
     refine zFp ⟨rfl,by omega,by omega⟩ (q2 _ _ (ptr_row hb hx))
    ·cases hv
   ·rename_i hb
    split at hv
    ·rename_i hc
     cases hv
     rw [zMA,zMX] at hlt
     rw [zMS,zLx tO,zMY] at hx
     subst hn
     rw [hc.1] at hb
     refine zFp ⟨rfl,by omega,by omega⟩ (q2 _ _ ?_)
     show zy H (.ref _ _ _ _) = _
     simp only [zy,hb,zMR,zMh,hx,zMB]
    ·cases hv
   ·cases hv
  ·cases hv
 ·cases hv
section
variable {C : CSpec} {GT : Nat → Option AV}
theorem aok_ev (c r : Int) (H : Heap) : EFun C GT a_addr_ok [zBP c r] H (.bool (okC c r)) H:=by
 refine zZ ?_
 unfold okC
 by_cases h1 : 1 ≤ c
 ·rw [zMM h1]
  by_cases h2 : c ≤ 26
  ·rw [zMM h2]
   by_cases h3 : 1 ≤ r
   ·rw [zMM h3]
    refine zCj (x:=zBP c r) rfl <| sW ?_
    exact sRv
   ·rw [zMV h3]
    refine zCj (x:=zBP c r) rfl <| sW ?_
    exact sRv
  ·rw [zMV h2]
   refine zCj (x:=zBP c r) rfl <| sW ?_
   exact sRv
 ·rw [zMV h1]
  refine zCj (x:=zBP c r) rfl <| sW ?_
  exact sRv
theorem acheck_ev (hO : ∀ c r H,C zIb [zBP c r] H (.bool (okC c r)) H) (c r : Int) (H : Heap) : EFun C GT zJ1 [zBP c r] H (if okC c r = true then .nili else zGl 1) H:=by
 have ho:=hO c r
 clear hO
 refine zZ ?_
 cases hk : okC c r with
 | true=>
  rw [hk] at ho
  refine zCj (x:=zBP c r) rfl <| sW ?_
  exact sRv
 | false=>
  rw [hk] at ho
  refine zCj (x:=zBP c r) rfl <| sW ?_
  exact sRv
theorem nan_ev (a : Int) (H : Heap) : EFun C GT zGM [zI a] H (.bool false) H:=by
 refine zZ ?_; refine zGx ?_ rfl rfl rfl rfl (Old.refl _)
 show AV.bool false = AV.bool (a != a)
 simp
theorem ccmp_ev (hN : ∀ a H,C zB7 [zI a] H (.bool false) H) (a b : Int) (H : Heap) : EFun C GT zEj [zI a,zI b] H (zI (cmp3 a b)) H:=by
 have hn:=hN
 clear hN
 refine zZ ?_
 unfold cmp3
 by_cases h1 : a < b
 ·rw [zLx h1]
  refine sW ?_
  exact sRv
 ·rw [zLv h1]
  by_cases h2 : b < a
  ·rw [zLx h2]
   refine sW ?_
   exact sRv
  ·rw [zLv h2]
   refine sW ?_
   exact sRv
theorem cor_ev (b : Nat) (x y : Int) (H : Heap) (hb : H[b]? = some (.row 1 [zI x,zI y])) : EFun C GT zIk [.sl (some false) b 1 0 2] H (zI (if x ≠ 0 then x else y)) H:=by
 refine zZ ?_
 obtain ⟨r,hr⟩ : ∃ r,(if x ≠ 0 then x else y) = r:=⟨_,rfl⟩
 rw [hr]
 refine zGw ?_; refine zBm (fun i : Nat=>[(8,zK i),(3,zI 0),(6,.sl (some false) b 1 0 2),(7,zK 2)]) (fun i H'=>H' = H ∧ i ≤ 2 ∧ (1 ≤ i → x = 0) ∧ (2 ≤ i → y = 0)) (fun i=>2 - i) 0 rfl ⟨rfl,by omega,fun h=>by omega,fun h=>by omega⟩ (fun i H1 ⟨hH,hi,hx,hy⟩=>?_)
 subst hH
 dsimp only
 rcases (show i = 0 ∨ i = 1 ∨ i = 2 by omega) with rfl | rfl | rfl
 ·by_cases h0 : x = 0
  ·refine sW ?_; refine sAt ⟨by omega,by omega⟩ <| zBV 0 (zI x) (zI x) rfl hb rfl rfl <| zY (zMQ.2 tO) <| zN (r:=1) rfl tO ?_; refine zAU 1 rfl ⟨rfl,by omega,fun _=>h0,fun h=>by omega⟩ tO
  ·rw [zLx h0] at hr
   subst hr
   refine sW ?_; refine sAt ⟨by omega,by omega⟩ <| zBV 0 (zI x) (zI x) rfl hb rfl rfl <| zb (zMg.2 tO) ?_
   exact sRv
 ·have h0:=hx tO
  rw [zLv (fun h=>h h0)] at hr
  subst hr
  by_cases h1 : y = 0
  ·refine sW ?_; refine sAt ⟨by omega,by omega⟩ <| zBV 1 (zI y) (zI y) rfl hb rfl rfl <| zY (zMQ.2 tO) <| zN (r:=2) rfl tO ?_; refine zAU 2 rfl ⟨rfl,by omega,fun _=>h0,fun _=>h1⟩ tO
  ·refine sW ?_; refine sAt ⟨by omega,by omega⟩ <| zBV 1 (zI y) (zI y) rfl hb rfl rfl <| zb (zMg.2 tO) ?_
   exact sRv
 ·have h0:=hx tO
  have h1:=hy tO
  rw [zLv (fun h=>h h0),h1] at hr
  subst hr
  refine sW ?_
  exact sRv
theorem acomp_ev (hC : ∀ a b H,C zBX [zI a,zI b] H (zI (cmp3 a b)) H) (hO : ∀ b x y H,H[b]? = some (.row 1 [zI x,zI y]) → C zD2 [.sl (some false) b 1 0 2] H (zI (if x ≠ 0 then x else y)) H) (c1 r1 c2 r2 : Int) (H : Heap) :
  EFun C GT zHp [zBP c1 r1,zBP c2 r2] H (zI (cmpC c1 r1 c2 r2)) H:=by
 have hc:=hC
 have ho:=fun b H h=>hO b (cmp3 r1 r2) (cmp3 c1 c2) H h
 clear hO hC
 refine zZ ?_
 unfold cmpC
 refine zCj (x:=zBP c1 r1) rfl <| zCj (x:=zBP c2 r2) rfl <| sW ?_; refine zAs (vs':=[zI (cmp3 r1 r2),zI (cmp3 c1 c2)]) rfl rfl <| sW ?_
 exact sRv
theorem aless_ev (hC : ∀ c1 r1 c2 r2 H,C zDc [zBP c1 r1,zBP c2 r2] H (zI (cmpC c1 r1 c2 r2)) H) (a b : Fil) (H : Heap) : EFun C GT zLN [zBP a.col a.row,zBP b.col b.row] H (.bool (zDU a b)) H:=by
 have hc:=hC a.col a.row b.col b.row
 clear hC
 refine zZ ?_
 unfold zDU
 refine zCj (x:=zBP a.col a.row) rfl <| zCj (x:=zBP b.col b.row) rfl <| sW ?_
 exact sRv
theorem gtext_ev (hCo : ∀ s H,C zAK [.str s] H (.bool (decide (s.head? ≠ some 61))) H) (hP : ∀ s H,C zAN [.str s] H (zER s) H) (s : Bs) (H : Heap) : EFun C GT zJ2 [.str s] H (eV (zA4 s)) H:=by
 have hc:=hCo s
 have hp:=hP s
 clear hCo hP
 refine zZ ?_
 unfold zA4
 by_cases hl : 200 < s.length
 ·rw [zLx hl]
  refine sW ?_
  exact sRv
 ·rw [zLv hl]
  by_cases h : s.head? = some 61
  ·rw [zLx h]
   rw [tF (fun x=>x h)] at hc
   unfold zER at hp
   cases hq : zCd s with
   | some n=>
    rw [hq] at hp
    have hp : ∀ H,C zAN [.str s] H (.tup [ndV n,.int .i64 0,.nili]) H:=hp
    refine sW ?_; refine sS (ndV n) (AV.cells (ndV n)) ?_; refine sW ?_
    exact sRv
   | none=>
    rw [hq] at hp
    have hp : ∀ H,C zAN [.str s] H (.tup [ndV zW,.sca,.iface zQ .undef]) H:=hp
    refine sW ?_; refine sS (ndV zW) (AV.cells (ndV zW)) ?_; refine sW ?_
    exact sRv
  ·rw [zLv h]
   rw [zMM h] at hc
   refine sW ?_
   exact sRv
theorem gcheck_ev (hA : ∀ c r H,C zDj [zBP c r] H (if okC c r = true then .nili else zGl 1) H) (hL : ∀ a b H,C zFs [zBP a.col a.row,zBP b.col b.row] H (.bool (zDU a b)) H) (hT : ∀ s H,C zBy [.str s] H (eV (zA4 s)) H)
  (lv : AV) (l : List Fil) (H : Heap) (hv : view H 3 lv = some (l.map zh)) : EFun C GT zIf [lv] H (eV (zBJ l)) H:=by
 have hlm : (l.map zh).length = l.length:=zL6 _
 refine zZ ?_
 unfold zBJ
 by_cases hl : 200 < l.length
 ·rw [zLx hl]
  clear hA hL hT
  refine zDY hv <| sW ?_
  exact sRv
 rw [zLv hl]
 obtain ⟨r,hr⟩ : ∃ r,zEa none l = r:=⟨_,rfl⟩
 rw [hr]
 refine zDY hv <| sW ?_; refine zDY hv ?_; refine zBm (fun i : Nat=>[(12,zK i),(0,lv),(10,lv),(11,.int .i64 ((l.map zh).length : Nat))]) (fun i H'=>Old H H' ∧ view H' 3 lv = some (l.map zh) ∧ i ≤ l.length ∧ zEa (if i = 0 then none else l[i - 1]?) (l.drop i) = r) (fun i=>l.length - i) 0 rfl ⟨Old.refl _,hv,by omega,hr⟩ (fun i H1 ⟨hH,hv1,hi,hq⟩=>?_)
 dsimp only
 by_cases hlt : i < l.length
 ·obtain ⟨f,hf⟩ : ∃ f,l[i]? = some f:=⟨_,zLy hlt⟩
  have hfm : (l.map zh)[i]? = some (zh f):=by rw [zL9,hf]; rfl
  rw [zJm l i f hf] at hq
  have hvo : view ((H1 ++ [ABlk.box zV5]).set (List.length H1) (ABlk.box (zh f).cells)) 3 lv = some (l.map zh):=view_old (((Old.refl H1).push _).set (zL0 _) _) hv1
  have ha:=hA f.col f.row
  have ht:=hT f.text
  have hH2 : ∀ X Y,Old H ((H1 ++ [X]).set H1.length Y):=fun X Y=>(hH.push _).set hH.1 _
  clear hA hT
  unfold filN at hq
  cases hok : okC f.col f.row with
  | false=>
   rw [hok] at ha hq
   have hq : 1 = r:=hq
   subst hq
   clear hL ht
   refine sW ?_; refine sIdxV i (zh f) hv1 rfl hfm (fun p hp=>?_)
   refine zAR (zh f) hp rfl <| sS (zh f) (AV.cells (zh f)) ?_; refine sW ?_
   exact zBW rfl rfl rfl rfl (hH2 _ _)
  | true=>
   rw [hok] at ha hq
   rw [zLv (by simp : ¬ (true = false))] at hq
   have ha : ∀ H,C zDj [zBP f.col f.row] H .nili H:=ha
   by_cases hi0 : i = 0
   ·rw [zLx hi0] at hq
    have hq : (if (if f.text = [] then 3 else zA4 f.text) = 0 then zEa (some f) (l.drop (i + 1)) else if f.text = [] then 3 else zA4 f.text) = r:=hq
    clear hL
    by_cases h0 : f.text = []
    ·rw [zLx h0] at hq
     have hq : 3 = r:=hq
     subst hq
     clear ht
     refine sW ?_; refine sIdxV i (zh f) hv1 rfl hfm (fun p hp=>?_)
     refine zAR (zh f) hp rfl <| zH (v:=zh f) (AV.cells (zh f)) zB rfl rfl rfl rfl <| zD (AV.agg [zI f.col,zI f.row]) (zE zB) rfl <| zL (ha _) <| zl rfl ?_; refine zF <| zY tF <| zF <| zF <| zD (AV.str f.text) (zE zB) rfl <| zb (tE h0) ?_
     exact zBW rfl rfl rfl rfl (hH2 _ _)
    ·rw [zLv h0] at hq
     by_cases hz : zA4 f.text = 0
     ·rw [zLx hz] at hq
      rw [hz] at ht
      have ht : ∀ H,C zBy [.str f.text] H .nili H:=ht
      refine sW ?_; refine sIdxV i (zh f) hv1 rfl hfm (fun p hp=>?_)
      refine zAR (zh f) hp rfl <| zH (v:=zh f) (AV.cells (zh f)) zB rfl rfl rfl rfl <| zD (AV.agg [zI f.col,zI f.row]) (zE zB) rfl <| zL (ha _) <| zl rfl ?_; refine zF <| zY tF <| zF <| zF <| zD (AV.str f.text) (zE zB) rfl <| zY (tN h0) ?_; refine zD (AV.str f.text) (zE zB) rfl <| zL (ht _) <| zl rfl <| zF <| zN (r:=i + 1) rfl tO ?_; refine zAU (i + 1) rfl ⟨hH2 _ _,hvo,by omega, ?_⟩ tO
      rw [zLv tO,zMw,hf]
      exact hq
     ·rw [zLv hz] at hq
      subst hq
      have ht : ∀ H,C zBy [.str f.text] H (zGl (zA4 f.text)) H:=fun H=>by have:=ht H; rwa [eV,zLv hz] at this
      rw [eV,zLv hz]
      refine sW ?_; refine sIdxV i (zh f) hv1 rfl hfm (fun p hp=>?_)
      refine zAR (zh f) hp rfl <| zH (v:=zh f) (AV.cells (zh f)) zB rfl rfl rfl rfl <| zD (AV.agg [zI f.col,zI f.row]) (zE zB) rfl <| zL (ha _) <| zl rfl ?_; refine zF <| zY tF <| zF <| zF <| zD (AV.str f.text) (zE zB) rfl <| zY (tN h0) ?_; refine zD (AV.str f.text) (zE zB) rfl <| zL (ht _) <| zl rfl <| zG ?_
      exact zBW rfl rfl rfl rfl (hH2 _ _)
   ·obtain ⟨g,hg⟩ : ∃ g,l[i - 1]? = some g:=⟨_,zLy tO⟩
    have hgm : (l.map zh)[i - 1]? = some (zh g):=by rw [zL9,hg]; rfl
    rw [zLv hi0,hg] at hq
    have hq : (if (if zDU g f = false then 5 else if f.text = [] then 3 else zA4 f.text) = 0 then zEa (some f) (l.drop (i + 1)) else if zDU g f = false then 5 else if f.text = [] then 3 else zA4 f.text) = r:=hq
    have hls:=hL g f
    clear hL
    cases hlp : zDU g f with
    | false=>
     rw [hlp] at hls hq
     have hq : 5 = r:=hq
     subst hq
     clear ht
     refine sW ?_; refine sIdxV i (zh f) hv1 rfl hfm (fun p hp=>?_)
     refine zAR (zh f) hp rfl <| sS (zh f) (AV.cells (zh f)) ?_; refine sW ?_; refine zN (r:=i - 1) tO tO ?_; refine sIdxW (i - 1) (zh g) hvo rfl hgm ?_ (fun b2 j2 hp2=>?_)
     ·refine sW ?_
      exact zBW rfl rfl rfl rfl (hH2 _ _)
     ·refine zAR (zBP g.col g.row) hp2 rfl <| sW ?_
      exact zBW rfl rfl rfl rfl (hH2 _ _)
    | true=>
     rw [hlp] at hls hq
     rw [zLv (by simp : ¬ (true = false))] at hq
     by_cases h0 : f.text = []
     ·rw [zLx h0] at hq
      have hq : 3 = r:=hq
      subst hq
      clear ht
      refine sW ?_; refine sIdxV i (zh f) hv1 rfl hfm (fun p hp=>?_)
      refine zAR (zh f) hp rfl <| sS (zh f) (AV.cells (zh f)) ?_; refine sW ?_; refine zN (r:=i - 1) tO tO ?_; refine sIdxW (i - 1) (zh g) hvo rfl hgm ?_ (fun b2 j2 hp2=>?_)
      ·refine zt (zBP g.col g.row) rfl <| zD (AV.agg [zI f.col,zI f.row]) (zE zB) rfl <| zL (hls _) <| zG <| zF <| zD (AV.str f.text) (zE zB) rfl ?_; refine zb (tE h0) ?_
       exact zBW rfl rfl rfl rfl (hH2 _ _)
      ·refine zAR (zBP g.col g.row) hp2 rfl <| zD (AV.agg [zI f.col,zI f.row]) (zE zB) rfl <| zL (hls _) <| zG <| zF <| zD (AV.str f.text) (zE zB) rfl ?_; refine zb (tE h0) ?_
       exact zBW rfl rfl rfl rfl (hH2 _ _)
     ·rw [zLv h0] at hq
      by_cases hz : zA4 f.text = 0
      ·rw [zLx hz] at hq
       rw [hz] at ht
       have ht : ∀ H,C zBy [.str f.text] H .nili H:=ht
       refine sW ?_; refine sIdxV i (zh f) hv1 rfl hfm (fun p hp=>?_)
       refine zAR (zh f) hp rfl <| sS (zh f) (AV.cells (zh f)) ?_; refine sW ?_; refine zN (r:=i - 1) tO tO ?_; refine sIdxW (i - 1) (zh g) hvo rfl hgm ?_ (fun b2 j2 hp2=>?_)
       ·refine zt (zBP g.col g.row) rfl <| zD (AV.agg [zI f.col,zI f.row]) (zE zB) rfl <| zL (hls _) <| zG <| zF <| zD (AV.str f.text) (zE zB) rfl ?_; refine zY (tN h0) <| zD (AV.str f.text) (zE zB) rfl <| zL (ht _) <| zl rfl <| zF <| zN (r:=i + 1) rfl tO ?_; refine zAU (i + 1) rfl ⟨hH2 _ _,hvo,by omega, ?_⟩ tO
        rw [zLv tO,zMw,hf]
        exact hq
       ·refine zAR (zBP g.col g.row) hp2 rfl <| zD (AV.agg [zI f.col,zI f.row]) (zE zB) rfl <| zL (hls _) <| zG <| zF <| zD (AV.str f.text) (zE zB) rfl ?_; refine zY (tN h0) <| zD (AV.str f.text) (zE zB) rfl <| zL (ht _) <| zl rfl <| zF <| zN (r:=i + 1) rfl tO ?_; refine zAU (i + 1) rfl ⟨hH2 _ _,hvo,by omega, ?_⟩ tO
        rw [zLv tO,zMw,hf]
        exact hq
      ·rw [zLv hz] at hq
       subst hq
       have ht : ∀ H,C zBy [.str f.text] H (zGl (zA4 f.text)) H:=fun H=>by have:=ht H; rwa [eV,zLv hz] at this
       rw [eV,zLv hz]
       refine sW ?_; refine sIdxV i (zh f) hv1 rfl hfm (fun p hp=>?_)
       refine zAR (zh f) hp rfl <| sS (zh f) (AV.cells (zh f)) ?_; refine sW ?_; refine zN (r:=i - 1) tO tO ?_; refine sIdxW (i - 1) (zh g) hvo rfl hgm ?_ (fun b2 j2 hp2=>?_)
       ·refine zt (zBP g.col g.row) rfl <| zD (AV.agg [zI f.col,zI f.row]) (zE zB) rfl <| zL (hls _) <| zG <| zF <| zD (AV.str f.text) (zE zB) rfl ?_; refine zY (tN h0) <| zD (AV.str f.text) (zE zB) rfl <| zL (ht _) <| zl rfl <| zG ?_
        exact zBW rfl rfl rfl rfl (hH2 _ _)
       ·refine zAR (zBP g.col g.row) hp2 rfl <| zD (AV.agg [zI f.col,zI f.row]) (zE zB) rfl <| zL (hls _) <| zG <| zF <| zD (AV.str f.text) (zE zB) rfl ?_; refine zY (tN h0) <| zD (AV.str f.text) (zE zB) rfl <| zL (ht _) <| zl rfl <| zG ?_
        exact zBW rfl rfl rfl rfl (hH2 _ _)
 ·have hd : l.drop i = []:=zM6 tO
  rw [hd] at hq
  have hq : 0 = r:=hq
  subst hq
  clear hA hL hT
  refine sW ?_
  exact zBW rfl rfl rfl rfl hH
end
end Go.AM
set_option maxRecDepth 20000
namespace Go.AM
theorem cmpC_less (a b : Fil) : zDU a b = if a.row ≠ b.row then decide (a.row < b.row) else decide (a.col < b.col):=by
 unfold zDU cmpC cmp3
 by_cases h1 : a.row < b.row
 ·have h2 : a.row ≠ b.row:=by omega
  simp [h1,h2]
 ·by_cases h2 : b.row < a.row
  ·have h3 : a.row ≠ b.row:=by omega
   simp [h1,h2,h3]
  ·have h3 : a.row = b.row:=by omega
   by_cases h4 : a.col < b.col
   ·simp [h3,h4]
   ·by_cases h5 : b.col < a.col
    ·simp [h3,h4,h5]
    ·simp [h3,h4,h5]
theorem zCU {F : AF} {a s t1 t2 : Nat} {ag : Bool} {H H1 : Heap} {fr : Fr} {v v1 v2 : AV} {cs : List AV} {o : Nat} (hF : F.results = [.cell a s ag,.tmp t1,.tmp t2]) (hk : F.keep = false) (hp : zy H1 (getF fr a) = some (cs,o)) (hpt : part cs o s ag = some v) (ht1 : getF fr t1 = v1) (ht2 : getF fr t2 = v2)
  (hf : zDq H.length (.tup [v,v1,v2]) H1 = some (.tup [v,v1,v2],H1)) (hb : (AV.tup [v,v1,v2]).bel H.length = true) (ho : Old H H1) : retP F H fr H1 (.tup [v,v1,v2]) H:=by
 refine zBW hk ?_ hf hb ho
 rw [zFq] at hp ht1 ht2
 simp only [hF,zBT,zKm,hp,hpt,ht1,ht2,zMB]
 rfl
section
variable {C : CSpec} {GT : Nat → Option AV}
theorem rin_ev (c r : Int) (H : Heap) : EFun C GT zG0 [zBP c r] H (.bool (okC c r)) H:=by
 refine zZ ?_
 unfold okC
 by_cases h1 : 1 ≤ c
 ·rw [zMM h1]
  by_cases h2 : c ≤ 26
  ·rw [zMM h2]
   by_cases h3 : 1 ≤ r
   ·rw [zMM h3]
    refine zCj (x:=zBP c r) rfl <| zD (zI c) zB rfl <| zb tT <| zD (zI c) zB rfl <| zG <| zb tT ?_; refine zD (zI r) zB rfl <| zG <| zb tT <| zD (zI r) zB rfl <| zG ?_
    exact zBW rfl rfl rfl rfl ((Old.refl _).push _)
   ·rw [zMV h3]
    refine zCj (x:=zBP c r) rfl <| zD (zI c) zB rfl <| zb tT <| zD (zI c) zB rfl <| zG <| zb tT ?_; refine zD (zI r) zB rfl <| zG <| zY tF <| zF ?_
    exact zBW rfl rfl rfl rfl ((Old.refl _).push _)
  ·rw [zMV h2]
   refine zCj (x:=zBP c r) rfl <| zD (zI c) zB rfl <| zb tT <| zD (zI c) zB rfl ?_; refine zG <| zY tF <| zF <| zF <| zF ?_
   exact zBW rfl rfl rfl rfl ((Old.refl _).push _)
 ·rw [zMV h1]
  refine zCj (x:=zBP c r) rfl <| zD (zI c) zB rfl ?_; refine zY tF <| zF <| zF <| zF <| zF <| zF ?_
  exact zBW rfl rfl rfl rfl ((Old.refl _).push _)
theorem rahead_ev (a b : Fil) (H : Heap) : EFun C GT zEF [zBP a.col a.row,zBP b.col b.row] H (.bool (zDU a b)) H:=by
 rw [cmpC_less]
 refine zZ ?_
 by_cases h : a.row ≠ b.row
 ·rw [zLx h]
  refine zCj (x:=zBP a.col a.row) rfl <| zCj (x:=zBP b.col b.row) rfl <| zD (zI a.row) (zC zB) rfl <| zD (zI b.row) zB rfl <| zb (zMg.2 h) <| zD (zI a.row) (zC zB) rfl ?_; refine zD (zI b.row) zB rfl ?_
  exact zBW rfl rfl rfl rfl (((Old.refl _).push _).push _)
 ·rw [zLv h]
  have h : a.row = b.row:=Classical.not_not.1 h
  refine zCj (x:=zBP a.col a.row) rfl <| zCj (x:=zBP b.col b.row) rfl <| zD (zI a.row) (zC zB) rfl <| zD (zI b.row) zB rfl <| zY (zMQ.2 h) <| zD (zI a.col) (zC zB) rfl ?_; refine zD (zI b.col) zB rfl ?_
  exact zBW rfl rfl rfl rfl (((Old.refl _).push _).push _)
def RPar (C : CSpec) (s : Bs) : Prop:=
 (∀ n,zCd s = some n → ∀ H,C zCO [.str s] H (.tup [ndV n,zI 0,zI 0]) H) ∧ (zCd s = none → ∀ H,∃ w e : Int,e ≠ 0 ∧ C zCO [.str s] H (.tup [ndV zW,zI w,zI e]) H)
theorem rparse_ok (hT : ∀ s a H,a ≤ s.length → s.length ≤ 1000 → C zT [.str s,zK a] H (tkV s a) H) (s : Bs) (hl : s.length ≤ 200) (h61 : s[0]? = some 61) (n : Nd) (e : Nat) (he : e ≤ s.length) (hk : tok s e = .fin)
  (hLo : ∀ b H,H[b]? = some (rP s 1 0) → C zU [pR b,.int .i64 1] H (ndV n) (H.set b (rP s e 0))) (H : Heap) : EFun C GT zCP [.str s] H (.tup [ndV n,zI 0,zI 0]) H:=by
 have htk:=fun H=>hT s e H he tO
 rw [zEv,hk] at htk
 clear hT
 refine zZ ?_
 have hne : s ≠ []:=fun x=>by subst x; cases h61
 generalize skip s e = q at *
 refine zY tF <| zY (tN hne) <| zr rfl h61 <| zF <| zF <| zl (v:=[AV.str s,.int .i64 1,.int .i64 0,.int .i64 0,.int .i64 0]) rfl ?_; refine zCj (x:=AV.agg [AV.str s,.int .i64 1,.int .i64 0,.int .i64 0,.int .i64 0]) rfl <| zAc (hLo _ _ hP) (fun h=>by cases h) <| zH (v:=ndV n) (AV.cells (ndV n)) zB rfl rfl rfl rfl <| zD (zI ↑e) (zA tA (zC (zE zB))) rfl <| zL (htk _) <| zH (v:=kV (tkK Tok.fin) q (tkE q Tok.fin) (tkT Tok.fin)) (AV.cells (kV (tkK Tok.fin) q (tkE q Tok.fin) (tkT Tok.fin))) zB rfl rfl rfl rfl ?_
 refine zD (zI 0) (zA tA (zC (zA tA (zC (zE zB))))) rfl <| zG <| zD (zK (tkK Tok.fin)) (zE zB) rfl <| zG <| zF <| zD (zI 0) (zA tA (zC (zA tA (zC (zE zB))))) rfl ?_; refine zF <| zD (ndV n) (zA tA (zC (zE zB))) rfl <| zH (v:=ndV n) (AV.cells (ndV n)) (zA tA (zC (zA tA (zC (zA tA (zC zB)))))) rfl rfl rfl rfl ?_
 exact zCU (o:=0) rfl rfl (zJ hP) rfl rfl rfl rfl rfl (by repeat' (first | exact Old.refl _ | refine Old.set ?_ tC _ | refine Old.push ?_ _))
theorem rparse_tail (hT : ∀ s a H,a ≤ s.length → s.length ≤ 1000 → C zT [.str s,zK a] H (tkV s a) H)
  (hF : ∀ b s p d a e H,H[b]? = some (pB s p 0 0 d) → C zd [pR b,zI a,zI e] H (.tup []) (H.set b (pB s p a e d)))
  (s : Bs) (hl : s.length ≤ 200) (h61 : s[0]? = some 61) (n : Nd) (e : Nat) (he : e ≤ s.length) (hk : tkK (tok s e) ≠ 0)
  (hLo : ∀ b H,H[b]? = some (rP s 1 0) → C zU [pR b,.int .i64 1] H (ndV n) (H.set b (rP s e 0))) (H : Heap) : EFun C GT zCP [.str s] H (.tup [ndV zW,zK (skip s e),zI 2]) H:=by
 have htk:=fun H=>hT s e H he tO
 rw [zEv] at htk
 have hf:=fun b H=>hF b s e 0 (skip s e : Nat) 2 H
 clear hT hF
 refine zZ ?_
 have hne : s ≠ []:=fun x=>by subst x; cases h61
 generalize tkE (skip s e) (tok s e) = ee at *
 generalize tkK (tok s e) = kk at *
 generalize tkT (tok s e) = t at *
 generalize skip s e = q at *
 refine zY tF <| zY (tN hne) <| zr rfl h61 <| zF <| zF <| zl (v:=[AV.str s,.int .i64 1,.int .i64 0,.int .i64 0,.int .i64 0]) rfl ?_; refine zCj (x:=AV.agg [AV.str s,.int .i64 1,.int .i64 0,.int .i64 0,.int .i64 0]) rfl <| zAc (hLo _ _ hP) (fun h=>by cases h) <| zH (v:=ndV n) (AV.cells (ndV n)) zB rfl rfl rfl rfl <| zD (zI ↑e) (zA tA (zC (zE zB))) rfl <| zL (htk _) <| zH (v:=kV kk q ee t) (AV.cells (kV kk q ee t)) zB rfl rfl rfl rfl ?_
 refine zD (zI 0) (zA tA (zC (zA tA (zC (zE zB))))) rfl <| zb (tE (by rfl)) <| zD (zK kk) (zE zB) rfl <| zG <| zb (zMg.2 tO) <| zD (zK q) (zE zB) rfl ?_; refine zAc (hf _ _ hP) (fun h=>by cases h) <| zD (zI 2) (zE (zA tA (zC (zA tA (zC (zE zB)))))) rfl <| zb (zMg.2 tO) <| zl (v:=zV0) rfl ?_
 refine zGk ?_ ?_
 ·refine zD (zI ↑q) (zE (zA tA (zC (zA tA (zC (zE zB)))))) rfl ?_; refine zGk ?_ ?_
  ·refine zD (zI 2) (zE (zA tA (zC (zA tA (zC (zE zB)))))) rfl <| zH (v:=AV.agg zV0) (AV.cells (AV.agg zV0)) (zA tA (zA tA (zC (zA tA (zC (zA tA (zC zB))))))) rfl rfl rfl rfl ?_
   exact zCU (o:=0) rfl rfl (zJ hP) rfl rfl rfl rfl rfl (by repeat' (first | exact Old.refl _ | refine Old.set ?_ tC _ | refine Old.push ?_ _))
  ·refine zH (v:=AV.agg zV0) (AV.cells (AV.agg zV0)) (zA tA (zA tA (zC (zA tA (zC (zA tA (zC zB))))))) rfl rfl rfl rfl <| zD (zI 2) (zA tA (zE (zA tA (zC (zA tA (zC (zE zB))))))) rfl ?_
   exact zCU (o:=0) rfl rfl (zJ hP) rfl rfl rfl rfl rfl (by repeat' (first | exact Old.refl _ | refine Old.set ?_ tC _ | refine Old.push ?_ _))
 ·refine zGk ?_ ?_
  ·refine zD (zI 2) (zE (zA tA (zC (zA tA (zC (zE zB)))))) rfl ?_; refine zGk ?_ ?_
   ·refine zD (zI ↑q) (zE (zA tA (zC (zA tA (zC (zE zB)))))) rfl <| zH (v:=AV.agg zV0) (AV.cells (AV.agg zV0)) (zA tA (zA tA (zC (zA tA (zC (zA tA (zC zB))))))) rfl rfl rfl rfl ?_
    exact zCU (o:=0) rfl rfl (zJ hP) rfl rfl rfl rfl rfl (by repeat' (first | exact Old.refl _ | refine Old.set ?_ tC _ | refine Old.push ?_ _))
   ·refine zH (v:=AV.agg zV0) (AV.cells (AV.agg zV0)) (zA tA (zA tA (zC (zA tA (zC (zA tA (zC zB))))))) rfl rfl rfl rfl <| zD (zI ↑q) (zA tA (zE (zA tA (zC (zA tA (zC (zE zB))))))) rfl ?_
    exact zCU (o:=0) rfl rfl (zJ hP) rfl rfl rfl rfl rfl (by repeat' (first | exact Old.refl _ | refine Old.set ?_ tC _ | refine Old.push ?_ _))
  ·refine zH (v:=AV.agg zV0) (AV.cells (AV.agg zV0)) (zA tA (zA tA (zC (zA tA (zC (zA tA (zC zB))))))) rfl rfl rfl rfl <| zD (zI ↑q) (zA tA (zE (zA tA (zC (zA tA (zC (zE zB))))))) rfl <| zD (zI 2) (zA tA (zE (zA tA (zC (zA tA (zC (zE zB))))))) rfl ?_
   exact zCU (o:=0) rfl rfl (zJ hP) rfl rfl rfl rfl rfl (by repeat' (first | exact Old.refl _ | refine Old.set ?_ tC _ | refine Old.push ?_ _))
theorem rparse_bad (hT : ∀ s a H,a ≤ s.length → s.length ≤ 1000 → C zT [.str s,zK a] H (tkV s a) H)
  (s : Bs) (hl : s.length ≤ 200) (h61 : s[0]? = some 61) (n : Nd) (a : Nat) (w e d : Int) (ha : a ≤ s.length) (he : e ≠ 0) (H : Heap)
  (hLo : ∀ H',H'[(H ++ [ABlk.box (ndC zW)]).length]? = some (rP s 1 0) → C zU [pR (H ++ [ABlk.box (ndC zW)]).length,.int .i64 1] H' (ndV n) (H'.set (H ++ [ABlk.box (ndC zW)]).length (pB s a w e d))) : EFun C GT zCP [.str s] H (.tup [ndV zW,zI w,zI e]) H:=by
 have htk:=fun H=>hT s a H ha tO
 rw [zEv] at htk
 clear hT
 refine zZ ?_
 have hne : s ≠ []:=fun x=>by subst x; cases h61
 generalize tkE (skip s a) (tok s a) = ee at *
 generalize tkK (tok s a) = kk at *
 generalize tkT (tok s a) = t at *
 generalize skip s a = q at *
 refine zY tF <| zY (tN hne) <| zr rfl h61 <| zF <| zF <| zl (v:=[AV.str s,.int .i64 1,.int .i64 0,.int .i64 0,.int .i64 0]) rfl ?_; refine zCj (x:=AV.agg [AV.str s,.int .i64 1,.int .i64 0,.int .i64 0,.int .i64 0]) rfl <| zAc (hLo _ hP) (fun h=>by cases h) <| zH (v:=ndV n) (AV.cells (ndV n)) zB rfl rfl rfl rfl <| zD (zI ↑a) (zA tA (zC (zE zB))) rfl <| zL (htk _) <| zH (v:=kV kk q ee t) (AV.cells (kV kk q ee t)) zB rfl rfl rfl rfl ?_
 refine zD (zI e) (zA tA (zC (zA tA (zC (zE zB))))) rfl <| zY tF <| zF <| zF <| zD (zI e) (zA tA (zC (zA tA (zC (zE zB))))) rfl <| zb (zMg.2 he) ?_; refine zl (v:=zV0) rfl ?_; refine zGk ?_ ?_
 ·refine zD (zI w) (zA tA (zC (zA tA (zC (zE zB))))) rfl ?_; refine zGk ?_ ?_
  ·refine zD (zI e) (zA tA (zC (zA tA (zC (zE zB))))) rfl <| zH (v:=AV.agg zV0) (AV.cells (AV.agg zV0)) (zA tA (zC (zA tA (zC (zA tA (zC zB)))))) rfl rfl rfl rfl ?_
   exact zCU (o:=0) rfl rfl (zJ hP) rfl rfl rfl rfl rfl (by repeat' (first | exact Old.refl _ | refine Old.set ?_ tC _ | refine Old.push ?_ _))
  ·refine zH (v:=AV.agg zV0) (AV.cells (AV.agg zV0)) (zA tA (zC (zA tA (zC (zA tA (zC zB)))))) rfl rfl rfl rfl <| zD (zI e) (zA tA (zA tA (zC (zA tA (zC (zE zB)))))) rfl ?_
   exact zCU (o:=0) rfl rfl (zJ hP) rfl rfl rfl rfl rfl (by repeat' (first | exact Old.refl _ | refine Old.set ?_ tC _ | refine Old.push ?_ _))
 ·refine zGk ?_ ?_
  ·refine zD (zI e) (zA tA (zC (zA tA (zC (zE zB))))) rfl ?_; refine zGk ?_ ?_
   ·refine zD (zI w) (zA tA (zC (zA tA (zC (zE zB))))) rfl <| zH (v:=AV.agg zV0) (AV.cells (AV.agg zV0)) (zA tA (zC (zA tA (zC (zA tA (zC zB)))))) rfl rfl rfl rfl ?_
    exact zCU (o:=0) rfl rfl (zJ hP) rfl rfl rfl rfl rfl (by repeat' (first | exact Old.refl _ | refine Old.set ?_ tC _ | refine Old.push ?_ _))
   ·refine zH (v:=AV.agg zV0) (AV.cells (AV.agg zV0)) (zA tA (zC (zA tA (zC (zA tA (zC zB)))))) rfl rfl rfl rfl <| zD (zI w) (zA tA (zA tA (zC (zA tA (zC (zE zB)))))) rfl ?_
    exact zCU (o:=0) rfl rfl (zJ hP) rfl rfl rfl rfl rfl (by repeat' (first | exact Old.refl _ | refine Old.set ?_ tC _ | refine Old.push ?_ _))
  ·refine zH (v:=AV.agg zV0) (AV.cells (AV.agg zV0)) (zA tA (zC (zA tA (zC (zA tA (zC zB)))))) rfl rfl rfl rfl <| zD (zI w) (zA tA (zA tA (zC (zA tA (zC (zE zB)))))) rfl <| zD (zI e) (zA tA (zA tA (zC (zA tA (zC (zE zB)))))) rfl ?_
   exact zCU (o:=0) rfl rfl (zJ hP) rfl rfl rfl rfl rfl (by repeat' (first | exact Old.refl _ | refine Old.set ?_ tC _ | refine Old.push ?_ _))
end
end Go.AM
set_option maxRecDepth 20000
namespace Go.AM
theorem idx_two {v : AV} {H : Heap} {k : Nat} {xs : List AV} (hv : view H k v = some xs) : (∀ (n : Int) (i : Nat) (x : AV) (K : AV → Prop),n = (i : Int) → xs[i]? = some x → K (.lref x 0) → idxN k v n K) ∨
  (∀ (n : Int) (i : Nat) (x : AV) (K : AV → Prop),n = (i : Int) → xs[i]? = some x → (∀ b j,(∀ o,zy H (.ref b k j o) = some (x.cells,o)) → K (.ref b k j 0)) → idxN k v n K):=by
 unfold view at hv
 split at hv
 ·split at hv
  ·rename_i hk
   cases hv; subst hk
   exact .inl fun n i x K hn hx q=>sIdx hn hx q
  ·split at hv
   ·cases hv
    exact .inl fun n i x K hn hx q=>by simp at hx
   ·cases hv
 ·refine .inr fun n i x K hn hx q2=>?_
  have hlt:=(zg hx).1
  rw [zHM]; unfold idxNW
  simp only
  split at hv
  ·rename_i hk
   subst hk
   split at hv
   ·rename_i hb
    split at hv
    ·rename_i hc
     cases hv
     rw [zMA,zMX] at hlt
     rw [zMS,zLx tO,zMY] at hx
     subst hn
     rw [hc.1] at hb
     refine zFp ⟨rfl,by omega,by omega⟩ (q2 _ _ fun o=>?_)
     show zy H (.ref _ _ _ _) = _
     simp only [zy,hb,zMR,zMh,hx,zMB]
    ·cases hv
   ·rename_i hb
    split at hv
    ·rename_i hc
     cases hv
     rw [zMA,zMX] at hlt
     rw [zMS,zLx tO,zMY] at hx
     subst hn
     rw [hc.1] at hb
     refine zFp ⟨rfl,by omega,by omega⟩ (q2 _ _ fun o=>?_)
     show zy H (.ref _ _ _ _) = _
     simp only [zy,hb,zMR,zMh,hx,zMB]
    ·cases hv
   ·cases hv
  ·cases hv
 ·cases hv
section
variable {C : CSpec} {GT : Nat → Option AV}
theorem rtext_ev (hP : ∀ s,s.length ≤ 200 → s.head? = some 61 → RPar C s) (s : Bs) (H : Heap) : EFun C GT zE2 [.str s] H (zK (zA4 s)) H:=by
 have hp:=hP s
 clear hP
 refine zZ ?_
 unfold zA4
 by_cases hl : 200 < s.length
 ·rw [zLx hl]
  clear hp
  refine zb tT ?_
  exact sRr
 ·rw [zLv hl]
  cases s with
  | nil=>
   clear hp
   refine zY tF <| zF <| zF <| zF ?_
   exact sRr
  | cons c r=>
   have hne : (c :: r) ≠ []:=by simp
   have h0 : (c :: r)[0]? = some c:=rfl
   by_cases h : c = 61
   ·subst h
    have hp:=hp tO rfl
    rw [zLx (show (61 :: r : Bs).head? = some 61 from rfl)]
    obtain ⟨s,hs⟩ : ∃ s : Bs,(61 :: r : Bs) = s:=⟨_,rfl⟩
    rw [hs] at hl hp hne h0 ⊢
    cases hq : zCd s with
    | some n=>
     have hp:=hp.1 n hq
     refine zY tF <| zb (zMg.2 hne) <| zr rfl h0 <| zG <| zG <| zL (hp _) ?_; refine zl rfl <| zl rfl <| zl rfl <| zH (v:=ndV n) (AV.cells (ndV n)) zB rfl rfl rfl rfl <| zF ?_
     exact zBW rfl rfl rfl rfl (((Old.refl _).push _).set tA _)
    | none=>
     obtain ⟨w,e,he,hp⟩:=hp.2 hq H
     refine zY tF <| zb (zMg.2 hne) <| zr rfl h0 <| zG <| zG <| zL hp ?_; refine zl rfl <| zl rfl <| zl rfl <| zH (v:=ndV zW) (AV.cells (ndV zW)) zB rfl rfl rfl rfl <| zb (zMg.2 he) ?_
     exact zBW rfl rfl rfl rfl (((Old.refl _).push _).set tA _)
   ·rw [zLv (show ¬ (c :: r : Bs).head? = some 61 from fun x=>h (zMI x))]
    clear hp
    obtain ⟨s,hs⟩ : ∃ s : Bs,(c :: r : Bs) = s:=⟨_,rfl⟩
    rw [hs] at hl hne h0 ⊢
    refine zY tF <| zb (zMg.2 hne) <| zr rfl h0 <| zG <| zY (tN (fun x=>h (zME.1 (by have : (61 : UInt8).toNat = 61:=rfl; omega)))) ?_
    exact sRr
end
structure RefK2 (PR : Program) : Prop extends RefK PR where
 parse : z7 PR zCO zCP = true
 isIn : z7 PR zDi zG0 = true
 ahead : z7 PR zBE zEF = true
 text : z7 PR zCm zE2 = true
section
variable {PR : Program} {GT : Nat → Option AV}
theorem q_parse (k : RefK2 PR) (g : BigG PR GT) (s : Bs) (hl : s.length ≤ 200) (h61 : s.head? = some 61) : RPar (Good PR GT) s:=by
 have h0 : s[0]? = some 61:=by rw [← List.head?_eq_getElem?]; exact h61
 have h1 : 1 ≤ s.length:=by cases s with
  | nil=>cases h61
  | cons c r=>simp
 have lo:=fun b=>(q_all k.toRefK g b s hl (s.length - 1) 1 h1 rfl 0 tO).2 1
 cases hlo : (P s).loose 1 1 0 with
 | none=>
  have hpp : zCd s = none:=by unfold zCd; rw [zLx ⟨hl,h61⟩,hlo]; rfl
  refine ⟨fun n h=>(by rw [hpp] at h; cases h),fun _ H=>?_⟩
  obtain ⟨n,a,w,e,d,h2,h3,h4⟩:=(lo (H ++ [ABlk.box (ndC zW)]).length).2 hlo
  exact ⟨w,e,h2,zM k.hm k.parse (rparse_bad (zGH k.toRefK) s hl h0 n a w e d h3 h2 H h4)⟩
 | some x=>
  obtain ⟨n,e⟩:=x
  have hx:=(zBz s).loose 1 1 0 _ h1 hlo
  simp only at hx
  have hl2:=fun b=>(lo b).1 n e hlo
  by_cases hk : tok s e = .fin
  ·have hpp : zCd s = some n:=by unfold zCd; rw [zLx ⟨hl,h61⟩,hlo]; simp only [zMt,hk]
   refine ⟨fun n' h H=>?_,fun h=>by rw [hpp] at h; cases h⟩
   rw [hpp] at h; cases h
   exact zM k.hm k.parse (rparse_ok (zGH k.toRefK) s hl h0 n e hx.2 hk hl2 H)
  ·have hpp : zCd s = none:=by
    unfold zCd
    rw [zLx ⟨hl,h61⟩,hlo]
    simp only [zMt]
   refine ⟨fun n h=>(by rw [hpp] at h; cases h),fun _ H=>⟨_,2,by decide,zM k.hm k.parse (rparse_tail (zGH k.toRefK) (q_fail k.toRefK) s hl h0 n e hx.2 (fun h=>hk ?_) hl2 H)⟩⟩
   cases ht : tok s e <;> rw [ht] at h <;> first | rfl | (simp only [tkK] at h; omega)
theorem q_in (k : RefK2 PR) (c r : Int) (H : Heap) : Good PR GT zDi [zBP c r] H (.bool (okC c r)) H:=zM k.hm k.isIn (rin_ev c r H)
theorem q_ahead (k : RefK2 PR) (a b : Fil) (H : Heap) : Good PR GT zBE [zBP a.col a.row,zBP b.col b.row] H (.bool (zDU a b)) H:=zM k.hm k.ahead (rahead_ev a b H)
theorem q_text (k : RefK2 PR) (g : BigG PR GT) (s : Bs) (H : Heap) : Good PR GT zCm [.str s] H (zK (zA4 s)) H:=zM k.hm k.text (rtext_ev (q_parse k g) s H)
end
end Go.AM
set_option maxRecDepth 20000
namespace Go.AM
section
variable {C : CSpec} {GT : Nat → Option AV}
theorem rcheck_ev (hA : ∀ c r H,C zDi [zBP c r] H (.bool (okC c r)) H) (hL : ∀ a b H,C zBE [zBP a.col a.row,zBP b.col b.row] H (.bool (zDU a b)) H) (hT : ∀ s H,C zCm [.str s] H (zK (zA4 s)) H)
  (lv : AV) (l : List Fil) (H : Heap) (hv : view H 3 lv = some (l.map zh)) : EFun C GT zEE [lv] H (zK (zBJ l)) H:=by
 have hlm : (l.map zh).length = l.length:=zL6 _
 refine zZ ?_
 unfold zBJ
 by_cases hl : 200 < l.length
 ·rw [zLx hl]
  clear hA hL hT
  refine zDY hv <| zb tT ?_
  exact sRr
 rw [zLv hl]
 obtain ⟨r,hr⟩ : ∃ r,zEa none l = r:=⟨_,rfl⟩
 rw [hr]
 refine zDY hv <| zY tF ?_; refine zBm (fun i : Nat=>[(3,zK i),(0,lv)]) (fun i H'=>H' = H ∧ i ≤ l.length ∧ zEa (if i = 0 then none else l[i - 1]?) (l.drop i) = r) (fun i=>l.length - i) 0 rfl ⟨rfl,by omega,hr⟩ (fun i H1 ⟨hH,hi,hq⟩=>?_)
 subst hH
 dsimp only
 by_cases hlt : i < l.length
 ·obtain ⟨f,hf⟩ : ∃ f,l[i]? = some f:=⟨_,zLy hlt⟩
  have hfm : (l.map zh)[i]? = some (zh f):=by rw [zL9,hf]; rfl
  rw [zJm l i f hf] at hq
  have ha:=hA f.col f.row
  have ht:=hT f.text
  clear hA hT
  unfold filN at hq
  rcases idx_two hv with hx | hx
  ·cases hok : okC f.col f.row with
   | false=>
    rw [hok] at ha hq
    have hq : 1 = r:=hq
    subst hq
    clear hL ht
    refine zDY hv <| zb tT ?_; refine hx _ i (zh f) _ rfl hfm ?_; refine zt (zBP f.col f.row) rfl <| zL (ha _) <| zG ?_
    exact sRr
   | true=>
    rw [hok] at ha hq
    rw [zLv (by simp : ¬ (true = false))] at hq
    by_cases hi0 : i = 0
    ·rw [zLx hi0] at hq
     have hq : (if (if f.text = [] then 3 else zA4 f.text) = 0 then zEa (some f) (l.drop (i + 1)) else if f.text = [] then 3 else zA4 f.text) = r:=hq
     clear hL
     by_cases h0 : f.text = []
     ·rw [zLx h0] at hq
      have hq : 3 = r:=hq
      subst hq
      clear ht
      refine zDY hv <| zb tT ?_; refine hx _ i (zh f) _ rfl hfm ?_; refine zt (zBP f.col f.row) rfl <| zL (ha _) <| zF <| zY tF <| zF <| zF ?_; refine hx _ i (zh f) _ rfl hfm ?_; refine zt (.str f.text) rfl <| zb (tE h0) ?_
      exact sRr
     ·rw [zLv h0] at hq
      by_cases hz : zA4 f.text = 0
      ·rw [zLx hz] at hq
       rw [hz] at ht
       refine zDY hv <| zb tT ?_; refine hx _ i (zh f) _ rfl hfm ?_; refine zt (zBP f.col f.row) rfl <| zL (ha _) <| zF <| zY tF <| zF <| zF ?_; refine hx _ i (zh f) _ rfl hfm ?_; refine zt (.str f.text) rfl <| zY (tN h0) ?_; refine hx _ i (zh f) _ rfl hfm ?_; refine zt (.str f.text) rfl <| zL (ht _) <| zF <| zN (r:=i + 1) rfl tO ?_; refine zAU (i + 1) rfl ⟨rfl,by omega, ?_⟩ tO
       rw [zLv tO,zMw,hf]
       exact hq
      ·rw [zLv hz] at hq
       subst hq
       refine zDY hv <| zb tT ?_; refine hx _ i (zh f) _ rfl hfm ?_; refine zt (zBP f.col f.row) rfl <| zL (ha _) <| zF <| zY tF <| zF <| zF ?_; refine hx _ i (zh f) _ rfl hfm ?_; refine zt (.str f.text) rfl <| zY (tN h0) ?_; refine hx _ i (zh f) _ rfl hfm ?_; refine zt (.str f.text) rfl <| zL (ht _) <| zb (zMg.2 tO) ?_
       exact sRr
    ·obtain ⟨g,hg⟩ : ∃ g,l[i - 1]? = some g:=⟨_,zLy tO⟩
     have hgm : (l.map zh)[i - 1]? = some (zh g):=by rw [zL9,hg]; rfl
     rw [zLv hi0,hg] at hq
     have hq : (if (if zDU g f = false then 5 else if f.text = [] then 3 else zA4 f.text) = 0 then zEa (some f) (l.drop (i + 1)) else if zDU g f = false then 5 else if f.text = [] then 3 else zA4 f.text) = r:=hq
     have hls:=hL g f
     clear hL
     cases hlp : zDU g f with
     | false=>
      rw [hlp] at hls hq
      have hq : 5 = r:=hq
      subst hq
      clear ht
      refine zDY hv <| zb tT ?_; refine hx _ i (zh f) _ rfl hfm ?_; refine zt (zBP f.col f.row) rfl <| zL (ha _) <| zF <| zb tT <| zN (r:=i - 1) tO tO ?_; refine hx _ (i - 1) (zh g) _ tO hgm ?_; refine zt (zBP g.col g.row) rfl ?_; refine hx _ i (zh f) _ rfl hfm ?_; refine zt (zBP f.col f.row) rfl <| zL (hls _) <| zG <| zG ?_
      exact sRr
     | true=>
      rw [hlp] at hls hq
      rw [zLv (by simp : ¬ (true = false))] at hq
      by_cases h0 : f.text = []
      ·rw [zLx h0] at hq
       have hq : 3 = r:=hq
       subst hq
       clear ht
       refine zDY hv <| zb tT ?_; refine hx _ i (zh f) _ rfl hfm ?_; refine zt (zBP f.col f.row) rfl <| zL (ha _) <| zF <| zb tT <| zN (r:=i - 1) tO tO ?_; refine hx _ (i - 1) (zh g) _ tO hgm ?_; refine zt (zBP g.col g.row) rfl ?_; refine hx _ i (zh f) _ rfl hfm ?_; refine zt (zBP f.col f.row) rfl <| zL (hls _) <| zG <| zF ?_; refine hx _ i (zh f) _ rfl hfm ?_; refine zt (.str f.text) rfl <| zb (tE h0) ?_
       exact sRr
      ·rw [zLv h0] at hq
       by_cases hz : zA4 f.text = 0
       ·rw [zLx hz] at hq
        rw [hz] at ht
        refine zDY hv <| zb tT ?_; refine hx _ i (zh f) _ rfl hfm ?_; refine zt (zBP f.col f.row) rfl <| zL (ha _) <| zF <| zb tT <| zN (r:=i - 1) tO tO ?_; refine hx _ (i - 1) (zh g) _ tO hgm ?_; refine zt (zBP g.col g.row) rfl ?_; refine hx _ i (zh f) _ rfl hfm ?_; refine zt (zBP f.col f.row) rfl <| zL (hls _) <| zG <| zF ?_; refine hx _ i (zh f) _ rfl hfm ?_; refine zt (.str f.text) rfl <| zY (tN h0) ?_
        refine hx _ i (zh f) _ rfl hfm ?_; refine zt (.str f.text) rfl <| zL (ht _) <| zF <| zN (r:=i + 1) rfl tO ?_; refine zAU (i + 1) rfl ⟨rfl,by omega, ?_⟩ tO
        rw [zLv tO,zMw,hf]
        exact hq
       ·rw [zLv hz] at hq
        subst hq
        refine zDY hv <| zb tT ?_; refine hx _ i (zh f) _ rfl hfm ?_; refine zt (zBP f.col f.row) rfl <| zL (ha _) <| zF <| zb tT <| zN (r:=i - 1) tO tO ?_; refine hx _ (i - 1) (zh g) _ tO hgm ?_; refine zt (zBP g.col g.row) rfl ?_; refine hx _ i (zh f) _ rfl hfm ?_; refine zt (zBP f.col f.row) rfl <| zL (hls _) <| zG <| zF ?_; refine hx _ i (zh f) _ rfl hfm ?_; refine zt (.str f.text) rfl <| zY (tN h0) ?_
        refine hx _ i (zh f) _ rfl hfm ?_; refine zt (.str f.text) rfl <| zL (ht _) <| zb (zMg.2 tO) ?_
        exact sRr
  ·cases hok : okC f.col f.row with
   | false=>
    rw [hok] at ha hq
    have hq : 1 = r:=hq
    subst hq
    clear hL ht
    refine zDY hv <| zb tT ?_; refine hx _ i (zh f) _ rfl hfm (fun b2 j2 hp2=>?_)
    refine zAR (zBP f.col f.row) (hp2 _) rfl <| zL (ha _) <| zG ?_
    exact sRr
   | true=>
    rw [hok] at ha hq
    rw [zLv (by simp : ¬ (true = false))] at hq
    by_cases hi0 : i = 0
    ·rw [zLx hi0] at hq
     have hq : (if (if f.text = [] then 3 else zA4 f.text) = 0 then zEa (some f) (l.drop (i + 1)) else if f.text = [] then 3 else zA4 f.text) = r:=hq
     clear hL
     by_cases h0 : f.text = []
     ·rw [zLx h0] at hq
      have hq : 3 = r:=hq
      subst hq
      clear ht
      refine zDY hv <| zb tT ?_; refine hx _ i (zh f) _ rfl hfm (fun b2 j2 hp2=>?_)
      refine zAR (zBP f.col f.row) (hp2 _) rfl <| zL (ha _) <| zF <| zY tF <| zF <| zF ?_; refine hx _ i (zh f) _ rfl hfm (fun b2 j2 hp2=>?_)
      refine zAR (.str f.text) (hp2 _) rfl <| zb (tE h0) ?_
      exact sRr
     ·rw [zLv h0] at hq
      by_cases hz : zA4 f.text = 0
      ·rw [zLx hz] at hq
       rw [hz] at ht
       refine zDY hv <| zb tT ?_; refine hx _ i (zh f) _ rfl hfm (fun b2 j2 hp2=>?_)
       refine zAR (zBP f.col f.row) (hp2 _) rfl <| zL (ha _) <| zF <| zY tF <| zF <| zF ?_; refine hx _ i (zh f) _ rfl hfm (fun b2 j2 hp2=>?_)
       refine zAR (.str f.text) (hp2 _) rfl <| zY (tN h0) ?_; refine hx _ i (zh f) _ rfl hfm (fun b2 j2 hp2=>?_)
       refine zAR (.str f.text) (hp2 _) rfl <| zL (ht _) <| zF <| zN (r:=i + 1) rfl tO ?_; refine zAU (i + 1) rfl ⟨rfl,by omega, ?_⟩ tO
       rw [zLv tO,zMw,hf]
       exact hq
      ·rw [zLv hz] at hq
       subst hq
       refine zDY hv <| zb tT ?_; refine hx _ i (zh f) _ rfl hfm (fun b2 j2 hp2=>?_)
       refine zAR (zBP f.col f.row) (hp2 _) rfl <| zL (ha _) <| zF <| zY tF <| zF <| zF ?_; refine hx _ i (zh f) _ rfl hfm (fun b2 j2 hp2=>?_)
       refine zAR (.str f.text) (hp2 _) rfl <| zY (tN h0) ?_; refine hx _ i (zh f) _ rfl hfm (fun b2 j2 hp2=>?_)
       refine zAR (.str f.text) (hp2 _) rfl <| zL (ht _) <| zb (zMg.2 tO) ?_
       exact sRr
    ·obtain ⟨g,hg⟩ : ∃ g,l[i - 1]? = some g:=⟨_,zLy tO⟩
     have hgm : (l.map zh)[i - 1]? = some (zh g):=by rw [zL9,hg]; rfl
     rw [zLv hi0,hg] at hq
     have hq : (if (if zDU g f = false then 5 else if f.text = [] then 3 else zA4 f.text) = 0 then zEa (some f) (l.drop (i + 1)) else if zDU g f = false then 5 else if f.text = [] then 3 else zA4 f.text) = r:=hq
     have hls:=hL g f
     clear hL
     cases hlp : zDU g f with
     | false=>
      rw [hlp] at hls hq
      have hq : 5 = r:=hq
      subst hq
      clear ht
      refine zDY hv <| zb tT ?_; refine hx _ i (zh f) _ rfl hfm (fun b2 j2 hp2=>?_)
      refine zAR (zBP f.col f.row) (hp2 _) rfl <| zL (ha _) <| zF <| zb tT <| zN (r:=i - 1) tO tO ?_; refine hx _ (i - 1) (zh g) _ tO hgm (fun b2 j2 hp2=>?_)
      refine zAR (zBP g.col g.row) (hp2 _) rfl ?_; refine hx _ i (zh f) _ rfl hfm (fun b2 j2 hp2=>?_)
      refine zAR (zBP f.col f.row) (hp2 _) rfl <| zL (hls _) <| zG <| zG ?_
      exact sRr
     | true=>
      rw [hlp] at hls hq
      rw [zLv (by simp : ¬ (true = false))] at hq
      by_cases h0 : f.text = []
      ·rw [zLx h0] at hq
       have hq : 3 = r:=hq
       subst hq
       clear ht
       refine zDY hv <| zb tT ?_; refine hx _ i (zh f) _ rfl hfm (fun b2 j2 hp2=>?_)
       refine zAR (zBP f.col f.row) (hp2 _) rfl <| zL (ha _) <| zF <| zb tT <| zN (r:=i - 1) tO tO ?_; refine hx _ (i - 1) (zh g) _ tO hgm (fun b2 j2 hp2=>?_)
       refine zAR (zBP g.col g.row) (hp2 _) rfl ?_; refine hx _ i (zh f) _ rfl hfm (fun b2 j2 hp2=>?_)
       refine zAR (zBP f.col f.row) (hp2 _) rfl <| zL (hls _) <| zG <| zF ?_; refine hx _ i (zh f) _ rfl hfm (fun b2 j2 hp2=>?_)
       refine zAR (.str f.text) (hp2 _) rfl <| zb (tE h0) ?_
       exact sRr
      ·rw [zLv h0] at hq
       by_cases hz : zA4 f.text = 0
       ·rw [zLx hz] at hq
        rw [hz] at ht
        refine zDY hv <| zb tT ?_; refine hx _ i (zh f) _ rfl hfm (fun b2 j2 hp2=>?_)
        refine zAR (zBP f.col f.row) (hp2 _) rfl <| zL (ha _) <| zF <| zb tT <| zN (r:=i - 1) tO tO ?_; refine hx _ (i - 1) (zh g) _ tO hgm (fun b2 j2 hp2=>?_)
        refine zAR (zBP g.col g.row) (hp2 _) rfl ?_; refine hx _ i (zh f) _ rfl hfm (fun b2 j2 hp2=>?_)
        refine zAR (zBP f.col f.row) (hp2 _) rfl <| zL (hls _) <| zG <| zF ?_; refine hx _ i (zh f) _ rfl hfm (fun b2 j2 hp2=>?_)
        refine zAR (.str f.text) (hp2 _) rfl <| zY (tN h0) ?_; refine hx _ i (zh f) _ rfl hfm (fun b2 j2 hp2=>?_)
        refine zAR (.str f.text) (hp2 _) rfl <| zL (ht _) <| zF <| zN (r:=i + 1) rfl tO ?_; refine zAU (i + 1) rfl ⟨rfl,by omega, ?_⟩ tO
        rw [zLv tO,zMw,hf]
        exact hq
       ·rw [zLv hz] at hq
        subst hq
        refine zDY hv <| zb tT ?_; refine hx _ i (zh f) _ rfl hfm (fun b2 j2 hp2=>?_)
        refine zAR (zBP f.col f.row) (hp2 _) rfl <| zL (ha _) <| zF <| zb tT <| zN (r:=i - 1) tO tO ?_; refine hx _ (i - 1) (zh g) _ tO hgm (fun b2 j2 hp2=>?_)
        refine zAR (zBP g.col g.row) (hp2 _) rfl ?_; refine hx _ i (zh f) _ rfl hfm (fun b2 j2 hp2=>?_)
        refine zAR (zBP f.col f.row) (hp2 _) rfl <| zL (hls _) <| zG <| zF ?_; refine hx _ i (zh f) _ rfl hfm (fun b2 j2 hp2=>?_)
        refine zAR (.str f.text) (hp2 _) rfl <| zY (tN h0) ?_; refine hx _ i (zh f) _ rfl hfm (fun b2 j2 hp2=>?_)
        refine zAR (.str f.text) (hp2 _) rfl <| zL (ht _) <| zb (zMg.2 tO) ?_
        exact sRr
 ·have hd : l.drop i = []:=zM6 tO
  rw [hd] at hq
  have hq : 0 = r:=hq
  subst hq
  clear hA hL hT
  refine zDY hv <| zY tF ?_
  exact sRr
end
structure RefK3 (PR : Program) : Prop extends RefK2 PR where
 check : z7 PR zBn zEE = true
section
variable {PR : Program} {GT : Nat → Option AV}
theorem q_check (k : RefK3 PR) (g : BigG PR GT) (lv : AV) (l : List Fil) (H : Heap) (hv : view H 3 lv = some (l.map zh)) : Good PR GT zBn [lv] H (zK (zBJ l)) H:=zM k.hm k.check (rcheck_ev (q_in k.toRefK2) (q_ahead k.toRefK2) (q_text k.toRefK2 g) lv l H hv)
end
end Go.AM
