/- Several texts of mine in one (Rff, Chk, Rfg, Rfh, Rfi). Own work. -/
import Derived.Test.YthllabjbdobpgaaGreatDoorGRfaRfe
import Derived.Test.YthllabjbdobpgaaGreatDoorGFr7ToldQ
import Derived.Test.YthllabjbdobpgaaGreatDoorGFq0Bg0
import Derived.Test.YthllabjbdobpgaaGreatDoorGAm31Rf1
set_option linter.all false
set_option maxRecDepth 20000
namespace Go.AM
section
variable {C : CSpec} {GT : Nat → Option AV}
theorem rloose_bad (b : Nat) (s : Bs) (p d l : Nat) (n0 : Nd) (W : Bd) (hW : W.ok s) (H : Heap) (hb : H[b]? = some (rP s p d)) (ho : ∀ H,H[b]? = some (rP s p d) → C zAK [pR b] H (ndV n0) (H.set b (W.blk s))) :
  zCL C GT zBt [pR b,zK l] H b [] .undef (some (ndV zX,W.blk s)):=by
 have hbl : b < H.length:=(zg hb).1
 have hwe:=hW.1
 refine zAG ?_; refine zAZ (ho _ hP) (fun h=>by cases h) <| zH (v:=ndV n0) (AV.cells (ndV n0)) zB rfl rfl rfl rfl ?_; refine zBM (fun m : Nat=>[(4,pR H.length),(5,pR m),(0,pR b),(1,zK l)])
  (fun _ H'=>OldB H b (W.blk s) H' ∧ H'[b]? = some (W.blk s) ∧ H'[H.length]? = some (.box (ndC zX)))
  (fun _=>0) _ rfl ⟨((((((OldB.start hb).push _).setB _).push _).set (by simp) _)),hP,hP⟩ (fun _ H1 ⟨hob,hb1,h4⟩=>?_)
 have h4l:=(zg h4).1
 have hb1' : H1[b]? = some (.box [.str s,zJ W.a,zJ W.w,zJ W.e,zJ W.d]):=hb1
 refine zC (zJ W.e) hb1' rfl <| zW (tN hwe) <| zl (v:=zV0) rfl <| zH (v:=AV.agg zV0) (AV.cells (AV.agg zV0)) h4 rfl rfl rfl rfl ?_
 exact zAA (o:=0) (ndV zX) rfl rfl rfl (zL hP) rfl rfl rfl (by repeat' (first | assumption | exact ⟨_,hob⟩ | apply exO_push | apply exO_setB | refine exO_set ?_ tC _ | apply OldB.push | apply OldB.setE | refine OldB.set ?_ tC _)) rfl
theorem rloose_ef (hT : ∀ s a H,a ≤ s.length → s.length ≤ 1000 → C zT [.str s,zK a] H (tkV s a) H)
  (hSg : ∀ t H,C zCP [.str t] H (zK (zBx t)) H) (hTi : ∀ op H,op ≤ 1000 → C zBd [zK op] H (zK (tight op)) H)
  (b : Nat) (s : Bs) (p d l : Nat) (hp : p ≤ s.length) (hl : s.length ≤ 200)
  (hLo : ∀ a l',p < a → a ≤ s.length → CF C zU [pR b,zK l'] b s a d ((P s).loose l' a d))
  (hOne : CF C zAK [pR b] b s p d ((P s).one p d)) : EF C GT zBt [pR b,zK l] b s p d ((P s).loose l p d):=by
 rw [zIi l d hp]
 unfold zEL
 cases h1 : (P s).one p d with
 | none=>
  obtain ⟨n,a,w,e,d',h2,h3,h4⟩:=hOne.2 h1
  exact ⟨fun n e h=>(by cases h),fun _=>⟨zX,a,w,e,d',h2,h3,fun H hb=>rloose_bad b s p d l n ⟨a,w,e,d'⟩ ⟨h2,h3⟩ H hb h4⟩⟩
 | some x=>
  obtain ⟨n0,e0⟩:=x
  have hx:=(zCO s).one p d _ hp h1
  simp only at hx
  have ho:=hOne.1 n0 e0 h1
  have go:=fun RV RB h2 h3 h4 H hb=>rloose_ev (GT:=GT) hT hSg hTi b s p d l hp hl (fun a l' m e h1 h2 h3=>(hLo a l' h1 h2).1 m e h3) n0 e0 hx.1 hx.2 RV RB h2 h3 h4 H hb ho
  simp only [zNr]
  cases h2 : (P s).ll l n0 e0 d with
  | some y=>
   obtain ⟨n',e'⟩:=y
   refine ⟨fun n e h H hb=>?_,fun h=>by cases h⟩
   cases h
   exact go _ _ (fun _=>rfl) ⟨n',rfl⟩ (.inl ⟨n',e',h2,rfl,rfl⟩) H hb
  | none=>
   obtain ⟨W,hW⟩:=ll_fail (C:=C) p hLo (s.length - e0) n0 e0 hx.1 hx.2 (zMv _) h2
   exact ⟨fun n e h=>(by cases h),fun _=>⟨zX,W.a,W.w,W.e,W.d,hW.ok.1,hW.ok.2,fun H hb=>go _ _ (fun _=>rfl) ⟨zX,rfl⟩ (.inr ⟨W,hW,rfl,rfl⟩) H hb⟩⟩
end
structure RefK (PR : Program) : Prop where
 hm : PR.follows .mixedOrders = true
 wordly : zAE PR zBm zDF = true
 wrongs : zAE PR zBO zEG = true
 bad : zAE PR zDf zGS = true
 named : zAE PR zCA zEi = true
 token : zAE PR zT zEg = true
 called : zAE PR zj zEH = true
 whole : zAE PR zS zCo = true
 ref : zAE PR zp zGP = true
 sign : zAE PR zCP zFV = true
 tight : zAE PR zBd zEh = true
 fail : zAE PR ze zD0 = true
 deeper : zAE PR zf zDN = true
 close : zAE PR zd zBv = true
 one : zAE PR zAK zO = true
 call : zAE PR zB9 zBZ = true
 loose : zAE PR zU zBt = true
structure BigG (PR : Program) (GT : Nat → Option AV) : Prop where
 new : ∀ v H,zDZ v → Good PR GT zAk [zJ v] H (.ref H.length 0 0 0) (H ++ [.box (zGF v)])
 mul : ∀ b t v av H,H[b]? = some (.box [.bool false,av]) → H[t]? = some (.box (zGF 10)) → Mag av v → (wds v).length ≤ 1000 → Good PR GT zAt [.ref b 0 0 0,.ref b 0 0 0,.ref t 0 0 0] H (.ref b 0 0 0) (H.set b (.box [.bool false,mulV v]))
 add : ∀ (b t v d : Nat) (av : AV) (H : Heap),H[b]? = some (.box [.bool false,av]) → H[t]? = some (.box (zGF d)) → Mag av v → (wds v).length ≤ 1000 → (wds d).length ≤ 1000 → Good PR GT zAu [.ref b 0 0 0,.ref b 0 0 0,.ref t 0 0 0] H (.ref b 0 0 0) (H.set b (.box (zGF ((v + d : Nat) : Int))))
 fit : ∀ b v H,H[b]? = some (.box (zGF v)) → (wds v.natAbs).length ≤ 100 → Good PR GT zC6 [.ref b 0 0 0] H (.bool (decide (zDZ v))) H
 i64 : ∀ b v H,H[b]? = some (.box (zGF v)) → zDZ v → Good PR GT zAe [.ref b 0 0 0] H (zJ v) H
section
variable {PR : Program} {GT : Nat → Option AV}
theorem cf_of (hm : PR.follows .mixedOrders = true) {f : Nat} {F : AF} {args : List AV} {b : Nat} {s : Bs} {p d : Nat} {r : Option (Nd × Nat)} (hc : zAE PR f F = true) (h : EF (Good PR GT) GT F args b s p d r) (hn : zHu args = true:=by rfl) : CF (Good PR GT) f args b s p d r:=
 ⟨fun n e hr H hb=>(zAi hm hc (h.1 n e hr H hb) hn).1 _ _ rfl,fun hr=>by
  obtain ⟨n,a,w,e,d',h1,h2,h3⟩:=h.2 hr
  exact ⟨n,a,w,e,d',h1,h2,fun H hb=>(zAi hm hc (h3 H hb) hn).1 _ _ rfl⟩⟩
theorem q_wordly (k : RefK PR) (c : UInt8) (H : Heap) : Good PR GT zBm [byV c] H (.bool (z7 c)) H:=zM k.hm k.wordly (rwordly_ev c H)
theorem q_wrongs (k : RefK PR) (H : Heap) : Good PR GT zBO [] H (.lst (some false) 1 (wrL.map AV.str)) H:=zM k.hm k.wrongs (rwrongs_ev H)
theorem q_bad (k : RefK PR) (n : Nat) (H : Heap) : Good PR GT zDf [zK n] H (.agg [.int .i64 4,zK n,.str []]) H:=zM k.hm k.bad (rbad_ev n H)
theorem q_named (k : RefK PR) (n : Nat) (H : Heap) (h1 : 1 ≤ n) (h6 : n ≤ 6) : Good PR GT zCA [.str (wrongs.getD (n - 1) [])] H (.tup [.agg [.int .i64 4,zK n,.str []],.bool true]) H:=zM k.hm k.named (rnamed_ev (q_wrongs k) (q_bad k) n h1 h6 H)
theorem zGi (k : RefK PR) (s : Bs) (a : Nat) (H : Heap) (ha : a ≤ s.length) (hl : s.length ≤ 1000) : Good PR GT zT [.str s,zK a] H (tkV s a) H:=zM k.hm k.token (rtoken_ev (q_wordly k) (q_wrongs k) s a H ha hl)
theorem q_called (k : RefK PR) (s : Bs) (H : Heap) (hl : s.length ≤ 1000) : Good PR GT zj [.str s] H (.bool (zBl s)) H:=zM k.hm k.called (rcalled_ev s H hl)
theorem q_whole (k : RefK PR) (g : BigG PR GT) (s : Bs) (H : Heap) (hl : s.length ≤ 200) : Good PR GT zS [.str s,.bool false] H (zKO (zBS s)) H:=zM k.hm k.whole (rwhole_ev g.new g.mul g.add g.fit g.i64 s H hl)
theorem q_ref (k : RefK PR) (g : BigG PR GT) (s : Bs) (H : Heap) (hl : s.length ≤ 200) : Good PR GT zp [.str s] H (refRV (zC3 s)) H:=zM k.hm k.ref (rref_ev (q_whole k g) s H hl)
theorem q_sign (k : RefK PR) (t : Bs) (H : Heap) : Good PR GT zCP [.str t] H (zK (zBx t)) H:=zM k.hm k.sign (rsign_ev t H)
theorem q_tight (k : RefK PR) (op : Nat) (H : Heap) (h : op ≤ 1000) : Good PR GT zBd [zK op] H (zK (tight op)) H:=zM k.hm k.tight (rtight_ev op H h)
theorem q_fail (k : RefK PR) (b : Nat) (s : Bs) (p d a e : Int) (H : Heap) (hb : H[b]? = some (pB s p 0 0 d)) : Good PR GT ze [pR b,zJ a,zJ e] H (.tup []) (H.set b (pB s p a e d)):=(zAi k.hm k.fail (rfail_ev b s p d a 0 e H hb .undef [])).1 _ _ rfl
theorem q_deeper (k : RefK PR) (b : Nat) (s : Bs) (p : Int) (d : Nat) (a : Int) (H : Heap) (hb : H[b]? = some (pB s p 0 0 d)) (hd : d ≤ 1000) :
  (d = 30 → Good PR GT zf [pR b,zJ a] H (.bool false) (H.set b (pB s p a 4 d))) ∧ (d ≠ 30 → Good PR GT zf [pR b,zJ a] H (.bool true) (H.set b (pB s p 0 0 (d + 1 : Nat)))):=
 have h:=zAi k.hm k.deeper (rdeeper_ev (GT:=GT) (q_fail k) b s p d a H hb hd .undef [])
 ⟨fun e=>h.1 _ _ (by rw [zMt e]),fun e=>h.1 _ _ (by rw [zMq e])⟩
theorem q_close1 (k : RefK PR) (b : Nat) (s : Bs) (p d e : Nat) (H : Heap) (hb : H[b]? = some (rP s p (d + 1))) (hp : p ≤ s.length) (hl : s.length ≤ 200) (hd : d ≤ 1000) (hk : tok s p = .sign e [41]) : Good PR GT zd [pR b] H (.tup []) (H.set b (rP s e d)):=(zAi k.hm k.close (rclose_ok (zGi k) b s p d e H hb hp hl hd hk)).1 _ _ rfl
theorem q_close2 (k : RefK PR) (b : Nat) (s : Bs) (p d : Nat) (H : Heap) (hb : H[b]? = some (rP s p (d + 1))) (hp : p ≤ s.length) (hl : s.length ≤ 200) (hd : d ≤ 1000) (hk : ¬ ∃ e,tok s p = .sign e [41]) : Good PR GT zd [pR b] H (.tup []) (H.set b (pB s (tkE (skip s p) (tok s p) : Nat) (skip s p : Nat) 2 d)):=(zAi k.hm k.close (rclose_no (zGi k) (q_fail k) b s p d H hb hp hl hd hk)).1 _ _ rfl
theorem q_close3 (k : RefK PR) (b : Nat) (s : Bs) (p : Nat) (w e d : Int) (H : Heap) (hb : H[b]? = some (pB s p w e d)) (he : e ≠ 0) (hp : p ≤ s.length) (hl : s.length ≤ 200) : Good PR GT zd [pR b] H (.tup []) (H.set b (pB s (tkE (skip s p) (tok s p) : Nat) w e (IntKind.wrap .i64 (d - 1)))):=(zAi k.hm k.close (rclose_bad (zGi k) b s p w e d H hb he hp hl)).1 _ _ rfl
theorem q_all (k : RefK PR) (g : BigG PR GT) (b : Nat) (s : Bs) (hl : s.length ≤ 200) : ∀ n p,p ≤ s.length → s.length - p = n → ∀ d,d + (s.length - p) ≤ 500 →
  CF (Good PR GT) zAK [pR b] b s p d ((P s).one p d) ∧ ∀ l,CF (Good PR GT) zU [pR b,zK l] b s p d ((P s).loose l p d):=by
 intro n
 induction n using Nat.strongRecOn with
 | _ n ih=>
  intro p hp hn d hd
  have ih':=fun p' (h1 : p < p') (h2 : p' ≤ s.length) d' h3=>ih (s.length - p') tO p' h2 rfl d' h3
  clear ih
  have one : CF (Good PR GT) zAK [pR b] b s p d ((P s).one p d):=by
   refine cf_of k.hm k.one (rone_ef (zGi k) (q_called k) (q_whole k g) (q_ref k g) (fun n H=>q_named k n H) (q_fail k) (fun b s p d a H=>q_deeper k b s p d a H) (q_close1 k) (q_close2 k) (q_close3 k) b s p d hp hl tO (fun a h1 h2=>(ih' a h1 h2 (d + 1) tO).1) (fun a h1 h2=>(ih' a h1 h2 (d + 1) tO).2 1) (fun e t h40 h1 h2=>?_))
   have he:=(zg h40).1
   have h:=rcall_ef (GT:=GT) (zGi k) (q_ref k g) (q_fail k) (q_close1 k) (q_close2 k) (q_close3 k) b s t e d h40 hl tO (fun a h1 h2=>(ih' a tO h2 (d + 1) tO).2 1)
   refine ⟨fun n e2 hr H hb=>(zAi k.hm k.call (h.1 n e2 hr H hb)).1 _ _ rfl,fun hr=>?_⟩
   obtain ⟨n,a,w,e',d',g1,g2,g3⟩:=h.2 hr
   exact ⟨n,a,w,e',d',g1,g2,fun H hb=>(zAi k.hm k.call (g3 H hb)).1 _ _ rfl⟩
  exact ⟨one,fun l=>cf_of k.hm k.loose (rloose_ef (zGi k) (q_sign k) (q_tight k) b s p d l hp hl (fun a l' h1 h2=>(ih' a h1 h2 d tO).2 l') one)⟩
end
end Go.AM
set_option maxRecDepth 20000
namespace Go.AM
structure Fil where
 col : Int
 row : Int
 text : Bs
 deriving DecidableEq
def zn (c r : Int) : AV:=.agg [zJ c,zJ r]
def zR (f : Fil) : AV:=.agg [zJ f.col,zJ f.row,.str f.text]
def okC (c r : Int) : Bool:=decide (1 ≤ c) && decide (c ≤ 26) && decide (1 ≤ r) && decide (r ≤ 99)
def cmp3 (a b : Int) : Int:=if a < b then -1 else if b < a then 1 else 0
def zMd (c1 r1 c2 r2 : Int) : Int:=if cmp3 r1 r2 ≠ 0 then cmp3 r1 r2 else cmp3 c1 c2
def lessC (a b : Fil) : Bool:=decide (zMd a.col a.row b.col b.row < 0)
def zAo (s : Bs) : Nat:=if 200 < s.length then 4 else if s.head? = some 61 then (match zEP s with
 | some _=>0
 | none=>2) else 0
def eV (n : Nat) : AV:=if n = 0 then .nili else zEJ n
def filN (prev : Option Fil) (f : Fil) : Nat:=if okC f.col f.row = false then 1 else if (match prev with
 | some p=>lessC p f
 | none=>true) = false then 5 else if f.text = [] then 3 else zAo f.text
def zE4 (prev : Option Fil) : List Fil → Nat
 | []=>0
 | f :: r=>if filN prev f = 0 then zE4 (some f) r else filN prev f
def zAP (l : List Fil) : Nat:=if 200 < l.length then 4 else zE4 none l
theorem zKP (l : List Fil) (i : Nat) (f : Fil) (h : l[i]? = some f) (prev : Option Fil) : zE4 prev (l.drop i) = if filN prev f = 0 then zE4 (some f) (l.drop (i + 1)) else filN prev f:=by
 have hi:=(zg h).1
 have e : l.drop i = f :: l.drop (i + 1):=by
  rw [zN0 hi]
  rw [(zg h).2]
 rw [e]; rfl
theorem sIdxW {v : AV} {H : Heap} {k : Nat} {xs : List AV} {n : Int} {K : AV → Prop} (i : Nat) (x : AV) (hv : view H k v = some xs) (hn : n = (i : Int)) (hx : xs[i]? = some x) (q1 : K (.lref x 0)) (q2 : ∀ b j,zAD H (.ref b k j 0) = some (x.cells,0) → K (.ref b k j 0)) : idxN k v n K:=by
 have hlt:=(zg hx).1
 unfold view at hv
 split at hv
 ·split at hv
  ·rename_i hk
   cases hv; subst hk
   exact sIdx hn hx q1
  ·split at hv
   ·cases hv; simp at hlt
   ·cases hv
 ·rw [zHk]; unfold idxNW
  simp only
  split at hv
  ·rename_i hk
   subst hk
   split at hv
   ·rename_i hb
    split at hv
    ·rename_i hc
     cases hv
     rw [zM8,zNS] at hlt
     rw [zNL,zMt tO,zNO] at hx
     subst hn
     rw [hc.1] at hb
     refine zGI ⟨rfl,by omega,by omega⟩ (q2 _ _ (ptr_row hb hx))
    ·cases hv
   ·rename_i hb
    split at hv
    ·rename_i hc
     cases hv
     rw [zM8,zNS] at hlt
     rw [zNL,zMt tO,zNO] at hx
     subst hn
     rw [hc.1] at hb
     refine zGI ⟨rfl,by omega,by omega⟩ (q2 _ _ ?_)
     show zAD H (.ref _ _ _ _) = _
     simp only [zAD,hb,zNP,zN8,hx,zM9]
    ·cases hv
   ·cases hv
  ·cases hv
 ·cases hv
section
variable {C : CSpec} {GT : Nat → Option AV}
theorem aok_ev (c r : Int) (H : Heap) : EFun C GT a_addr_ok [zn c r] H (.bool (okC c r)) H:=by
 refine za ?_
 unfold okC
 by_cases h1 : 1 ≤ c
 ·rw [zNM h1]
  by_cases h2 : c ≤ 26
  ·rw [zNM h2]
   by_cases h3 : 1 ≤ r
   ·rw [zNM h3]
    refine zDw (x:=zn c r) rfl <| sW ?_
    exact sRv
   ·rw [zNV h3]
    refine zDw (x:=zn c r) rfl <| sW ?_
    exact sRv
  ·rw [zNV h2]
   refine zDw (x:=zn c r) rfl <| sW ?_
   exact sRv
 ·rw [zNV h1]
  refine zDw (x:=zn c r) rfl <| sW ?_
  exact sRv
theorem acheck_ev (hO : ∀ c r H,C zJE [zn c r] H (.bool (okC c r)) H) (c r : Int) (H : Heap) : EFun C GT zKf [zn c r] H (if okC c r = true then .nili else zEJ 1) H:=by
 have ho:=hO c r
 clear hO
 refine za ?_
 cases hk : okC c r with
 | true=>
  rw [hk] at ho
  refine zDw (x:=zn c r) rfl <| sW ?_
  exact sRv
 | false=>
  rw [hk] at ho
  refine zDw (x:=zn c r) rfl <| sW ?_
  exact sRv
theorem nan_ev (a : Int) (H : Heap) : EFun C GT zGm [zJ a] H (.bool false) H:=by
 refine za ?_; refine sRetE ?_ rfl rfl rfl rfl (Old.refl _)
 show AV.bool false = AV.bool (a != a)
 simp
theorem ccmp_ev (hN : ∀ a H,C zCM [zJ a] H (.bool false) H) (a b : Int) (H : Heap) : EFun C GT zFB [zJ a,zJ b] H (zJ (cmp3 a b)) H:=by
 have hn:=hN
 clear hN
 refine za ?_
 unfold cmp3
 by_cases h1 : a < b
 ·rw [zMt h1]
  refine sW ?_
  exact sRv
 ·rw [zMq h1]
  by_cases h2 : b < a
  ·rw [zMt h2]
   refine sW ?_
   exact sRv
  ·rw [zMq h2]
   refine sW ?_
   exact sRv
theorem cor_ev (b : Nat) (x y : Int) (H : Heap) (hb : H[b]? = some (.row 1 [zJ x,zJ y])) : EFun C GT zJN [.sl (some false) b 1 0 2] H (zJ (if x ≠ 0 then x else y)) H:=by
 refine za ?_
 obtain ⟨r,hr⟩ : ∃ r,(if x ≠ 0 then x else y) = r:=⟨_,rfl⟩
 rw [hr]
 refine zDv ?_; refine zBM (fun i : Nat=>[(8,zK i),(3,zJ 0),(6,.sl (some false) b 1 0 2),(7,zK 2)]) (fun i H'=>H' = H ∧ i ≤ 2 ∧ (1 ≤ i → x = 0) ∧ (2 ≤ i → y = 0)) (fun i=>2 - i) 0 rfl ⟨rfl,by omega,fun h=>by omega,fun h=>by omega⟩ (fun i H1 ⟨hH,hi,hx,hy⟩=>?_)
 subst hH
 dsimp only
 rcases (show i = 0 ∨ i = 1 ∨ i = 2 by omega) with rfl | rfl | rfl
 ·by_cases h0 : x = 0
  ·refine sW ?_; refine sAt ⟨by omega,by omega⟩ <| zBJ 0 (zJ x) (zJ x) rfl hb rfl rfl <| zW (zNQ.2 tO) <| zN (r:=1) rfl tO ?_; refine zAC 1 rfl ⟨rfl,by omega,fun _=>h0,fun h=>by omega⟩ tO
  ·rw [zMt h0] at hr
   subst hr
   refine sW ?_; refine sAt ⟨by omega,by omega⟩ <| zBJ 0 (zJ x) (zJ x) rfl hb rfl rfl <| zc (zNf.2 tO) ?_
   exact sRv
 ·have h0:=hx tO
  rw [zMq (fun h=>h h0)] at hr
  subst hr
  by_cases h1 : y = 0
  ·refine sW ?_; refine sAt ⟨by omega,by omega⟩ <| zBJ 1 (zJ y) (zJ y) rfl hb rfl rfl <| zW (zNQ.2 tO) <| zN (r:=2) rfl tO ?_; refine zAC 2 rfl ⟨rfl,by omega,fun _=>h0,fun _=>h1⟩ tO
  ·refine sW ?_; refine sAt ⟨by omega,by omega⟩ <| zBJ 1 (zJ y) (zJ y) rfl hb rfl rfl <| zc (zNf.2 tO) ?_
   exact sRv
 ·have h0:=hx tO
  have h1:=hy tO
  rw [zMq (fun h=>h h0),h1] at hr
  subst hr
  refine sW ?_
  exact sRv
theorem acomp_ev (hC : ∀ a b H,C zBq [zJ a,zJ b] H (zJ (cmp3 a b)) H) (hO : ∀ b x y H,H[b]? = some (.row 1 [zJ x,zJ y]) → C zEU [.sl (some false) b 1 0 2] H (zJ (if x ≠ 0 then x else y)) H) (c1 r1 c2 r2 : Int) (H : Heap) :
  EFun C GT zII [zn c1 r1,zn c2 r2] H (zJ (zMd c1 r1 c2 r2)) H:=by
 have hc:=hC
 have ho:=fun b H h=>hO b (cmp3 r1 r2) (cmp3 c1 c2) H h
 clear hO hC
 refine za ?_
 unfold zMd
 refine zDw (x:=zn c1 r1) rfl <| zDw (x:=zn c2 r2) rfl <| sW ?_; refine zAF (vs':=[zJ (cmp3 r1 r2),zJ (cmp3 c1 c2)]) rfl rfl <| sW ?_
 exact sRv
theorem aless_ev (hC : ∀ c1 r1 c2 r2 H,C zBC [zn c1 r1,zn c2 r2] H (zJ (zMd c1 r1 c2 r2)) H) (a b : Fil) (H : Heap) : EFun C GT zL6 [zn a.col a.row,zn b.col b.row] H (.bool (lessC a b)) H:=by
 have hc:=hC a.col a.row b.col b.row
 clear hC
 refine za ?_
 unfold lessC
 refine zDw (x:=zn a.col a.row) rfl <| zDw (x:=zn b.col b.row) rfl <| sW ?_
 exact sRv
theorem gtext_ev (hCo : ∀ s H,C zAs [.str s] H (.bool (decide (s.head? ≠ some 61))) H) (hP : ∀ s H,C zBF [.str s] H (zGh s) H) (s : Bs) (H : Heap) : EFun C GT zKg [.str s] H (eV (zAo s)) H:=by
 have hc:=hCo s
 have hp:=hP s
 clear hCo hP
 refine za ?_
 unfold zAo
 by_cases hl : 200 < s.length
 ·rw [zMt hl]
  refine sW ?_
  exact sRv
 ·rw [zMq hl]
  by_cases h : s.head? = some 61
  ·rw [zMt h]
   rw [tF (fun x=>x h)] at hc
   unfold zGh at hp
   cases hq : zEP s with
   | some n=>
    rw [hq] at hp
    have hp : ∀ H,C zBF [.str s] H (.tup [ndV n,.int .i64 0,.nili]) H:=hp
    refine sW ?_; refine sS (ndV n) (AV.cells (ndV n)) ?_; refine sW ?_
    exact sRv
   | none=>
    rw [hq] at hp
    have hp : ∀ H,C zBF [.str s] H (.tup [ndV zX,.sca,.iface zQ .undef]) H:=hp
    refine sW ?_; refine sS (ndV zX) (AV.cells (ndV zX)) ?_; refine sW ?_
    exact sRv
  ·rw [zMq h]
   rw [zNM h] at hc
   refine sW ?_
   exact sRv
theorem gcheck_ev (hA : ∀ c r H,C zBE [zn c r] H (if okC c r = true then .nili else zEJ 1) H) (hL : ∀ a b H,C zDz [zn a.col a.row,zn b.col b.row] H (.bool (lessC a b)) H) (hT : ∀ s H,C zA1 [.str s] H (eV (zAo s)) H)
  (lv : AV) (l : List Fil) (H : Heap) (hv : view H 3 lv = some (l.map zR)) : EFun C GT zJK [lv] H (eV (zAP l)) H:=by
 have hlm : (l.map zR).length = l.length:=zMx _
 refine za ?_
 unfold zAP
 by_cases hl : 200 < l.length
 ·rw [zMt hl]
  clear hA hL hT
  refine zB4 hv <| sW ?_
  exact sRv
 rw [zMq hl]
 obtain ⟨r,hr⟩ : ∃ r,zE4 none l = r:=⟨_,rfl⟩
 rw [hr]
 refine zB4 hv <| sW ?_; refine zB4 hv ?_; refine zBM (fun i : Nat=>[(12,zK i),(0,lv),(10,lv),(11,.int .i64 ((l.map zR).length : Nat))]) (fun i H'=>Old H H' ∧ view H' 3 lv = some (l.map zR) ∧ i ≤ l.length ∧ zE4 (if i = 0 then none else l[i - 1]?) (l.drop i) = r) (fun i=>l.length - i) 0 rfl ⟨Old.refl _,hv,by omega,hr⟩ (fun i H1 ⟨hH,hv1,hi,hq⟩=>?_)
 dsimp only
 by_cases hlt : i < l.length
 ·obtain ⟨f,hf⟩ : ∃ f,l[i]? = some f:=⟨_,zMr hlt⟩
  have hfm : (l.map zR)[i]? = some (zR f):=by rw [zM2,hf]; rfl
  rw [zKP l i f hf] at hq
  have hvo : view ((H1 ++ [ABlk.box zV4]).set (List.length H1) (ABlk.box (zR f).cells)) 3 lv = some (l.map zR):=zDD (((Old.refl H1).push _).set (zMv _) _) hv1
  have ha:=hA f.col f.row
  have ht:=hT f.text
  have hH2 : ∀ X Y,Old H ((H1 ++ [X]).set H1.length Y):=fun X Y=>(hH.push _).set hH.1 _
  clear hA hT
  unfold filN at hq
  cases hok : okC f.col f.row with
  | false=>
   rw [hok] at ha hq
   have hq : 1 = r:=hq
   subst hq
   clear hL ht
   refine sW ?_; refine zGp i (zR f) hv1 rfl hfm (fun p hp=>?_)
   refine z6 (zR f) hp rfl <| sS (zR f) (AV.cells (zR f)) ?_; refine sW ?_
   exact zBN rfl rfl rfl rfl (hH2 _ _)
  | true=>
   rw [hok] at ha hq
   rw [zMq (by simp : ¬ (true = false))] at hq
   have ha : ∀ H,C zBE [zn f.col f.row] H .nili H:=ha
   by_cases hi0 : i = 0
   ·rw [zMt hi0] at hq
    have hq : (if (if f.text = [] then 3 else zAo f.text) = 0 then zE4 (some f) (l.drop (i + 1)) else if f.text = [] then 3 else zAo f.text) = r:=hq
    clear hL
    by_cases h0 : f.text = []
    ·rw [zMt h0] at hq
     have hq : 3 = r:=hq
     subst hq
     clear ht
     refine sW ?_; refine zGp i (zR f) hv1 rfl hfm (fun p hp=>?_)
     refine z6 (zR f) hp rfl <| zH (v:=zR f) (AV.cells (zR f)) zB rfl rfl rfl rfl <| zC (AV.agg [zJ f.col,zJ f.row]) (zE zB) rfl <| zI (ha _) <| zl rfl ?_; refine zF <| zW tF <| zF <| zF <| zC (AV.str f.text) (zE zB) rfl <| zc (tE h0) ?_
     exact zBN rfl rfl rfl rfl (hH2 _ _)
    ·rw [zMq h0] at hq
     by_cases hz : zAo f.text = 0
     ·rw [zMt hz] at hq
      rw [hz] at ht
      have ht : ∀ H,C zA1 [.str f.text] H .nili H:=ht
      refine sW ?_; refine zGp i (zR f) hv1 rfl hfm (fun p hp=>?_)
      refine z6 (zR f) hp rfl <| zH (v:=zR f) (AV.cells (zR f)) zB rfl rfl rfl rfl <| zC (AV.agg [zJ f.col,zJ f.row]) (zE zB) rfl <| zI (ha _) <| zl rfl ?_; refine zF <| zW tF <| zF <| zF <| zC (AV.str f.text) (zE zB) rfl <| zW (tN h0) ?_; refine zC (AV.str f.text) (zE zB) rfl <| zI (ht _) <| zl rfl <| zF <| zN (r:=i + 1) rfl tO ?_; refine zAC (i + 1) rfl ⟨hH2 _ _,hvo,by omega, ?_⟩ tO
      rw [zMq tO,zNv,hf]
      exact hq
     ·rw [zMq hz] at hq
      subst hq
      have ht : ∀ H,C zA1 [.str f.text] H (zEJ (zAo f.text)) H:=fun H=>by have:=ht H; rwa [eV,zMq hz] at this
      rw [eV,zMq hz]
      refine sW ?_; refine zGp i (zR f) hv1 rfl hfm (fun p hp=>?_)
      refine z6 (zR f) hp rfl <| zH (v:=zR f) (AV.cells (zR f)) zB rfl rfl rfl rfl <| zC (AV.agg [zJ f.col,zJ f.row]) (zE zB) rfl <| zI (ha _) <| zl rfl ?_; refine zF <| zW tF <| zF <| zF <| zC (AV.str f.text) (zE zB) rfl <| zW (tN h0) ?_; refine zC (AV.str f.text) (zE zB) rfl <| zI (ht _) <| zl rfl <| zG ?_
      exact zBN rfl rfl rfl rfl (hH2 _ _)
   ·obtain ⟨g,hg⟩ : ∃ g,l[i - 1]? = some g:=⟨_,zMr tO⟩
    have hgm : (l.map zR)[i - 1]? = some (zR g):=by rw [zM2,hg]; rfl
    rw [zMq hi0,hg] at hq
    have hq : (if (if lessC g f = false then 5 else if f.text = [] then 3 else zAo f.text) = 0 then zE4 (some f) (l.drop (i + 1)) else if lessC g f = false then 5 else if f.text = [] then 3 else zAo f.text) = r:=hq
    have hls:=hL g f
    clear hL
    cases hlp : lessC g f with
    | false=>
     rw [hlp] at hls hq
     have hq : 5 = r:=hq
     subst hq
     clear ht
     refine sW ?_; refine zGp i (zR f) hv1 rfl hfm (fun p hp=>?_)
     refine z6 (zR f) hp rfl <| sS (zR f) (AV.cells (zR f)) ?_; refine sW ?_; refine zN (r:=i - 1) tO tO ?_; refine sIdxW (i - 1) (zR g) hvo rfl hgm ?_ (fun b2 j2 hp2=>?_)
     ·refine sW ?_
      exact zBN rfl rfl rfl rfl (hH2 _ _)
     ·refine z6 (zn g.col g.row) hp2 rfl <| sW ?_
      exact zBN rfl rfl rfl rfl (hH2 _ _)
    | true=>
     rw [hlp] at hls hq
     rw [zMq (by simp : ¬ (true = false))] at hq
     by_cases h0 : f.text = []
     ·rw [zMt h0] at hq
      have hq : 3 = r:=hq
      subst hq
      clear ht
      refine sW ?_; refine zGp i (zR f) hv1 rfl hfm (fun p hp=>?_)
      refine z6 (zR f) hp rfl <| sS (zR f) (AV.cells (zR f)) ?_; refine sW ?_; refine zN (r:=i - 1) tO tO ?_; refine sIdxW (i - 1) (zR g) hvo rfl hgm ?_ (fun b2 j2 hp2=>?_)
      ·refine zi (zn g.col g.row) rfl <| zC (AV.agg [zJ f.col,zJ f.row]) (zE zB) rfl <| zI (hls _) <| zG <| zF <| zC (AV.str f.text) (zE zB) rfl ?_; refine zc (tE h0) ?_
       exact zBN rfl rfl rfl rfl (hH2 _ _)
      ·refine z6 (zn g.col g.row) hp2 rfl <| zC (AV.agg [zJ f.col,zJ f.row]) (zE zB) rfl <| zI (hls _) <| zG <| zF <| zC (AV.str f.text) (zE zB) rfl ?_; refine zc (tE h0) ?_
       exact zBN rfl rfl rfl rfl (hH2 _ _)
     ·rw [zMq h0] at hq
      by_cases hz : zAo f.text = 0
      ·rw [zMt hz] at hq
       rw [hz] at ht
       have ht : ∀ H,C zA1 [.str f.text] H .nili H:=ht
       refine sW ?_; refine zGp i (zR f) hv1 rfl hfm (fun p hp=>?_)
       refine z6 (zR f) hp rfl <| sS (zR f) (AV.cells (zR f)) ?_; refine sW ?_; refine zN (r:=i - 1) tO tO ?_; refine sIdxW (i - 1) (zR g) hvo rfl hgm ?_ (fun b2 j2 hp2=>?_)
       ·refine zi (zn g.col g.row) rfl <| zC (AV.agg [zJ f.col,zJ f.row]) (zE zB) rfl <| zI (hls _) <| zG <| zF <| zC (AV.str f.text) (zE zB) rfl ?_; refine zW (tN h0) <| zC (AV.str f.text) (zE zB) rfl <| zI (ht _) <| zl rfl <| zF <| zN (r:=i + 1) rfl tO ?_; refine zAC (i + 1) rfl ⟨hH2 _ _,hvo,by omega, ?_⟩ tO
        rw [zMq tO,zNv,hf]
        exact hq
       ·refine z6 (zn g.col g.row) hp2 rfl <| zC (AV.agg [zJ f.col,zJ f.row]) (zE zB) rfl <| zI (hls _) <| zG <| zF <| zC (AV.str f.text) (zE zB) rfl ?_; refine zW (tN h0) <| zC (AV.str f.text) (zE zB) rfl <| zI (ht _) <| zl rfl <| zF <| zN (r:=i + 1) rfl tO ?_; refine zAC (i + 1) rfl ⟨hH2 _ _,hvo,by omega, ?_⟩ tO
        rw [zMq tO,zNv,hf]
        exact hq
      ·rw [zMq hz] at hq
       subst hq
       have ht : ∀ H,C zA1 [.str f.text] H (zEJ (zAo f.text)) H:=fun H=>by have:=ht H; rwa [eV,zMq hz] at this
       rw [eV,zMq hz]
       refine sW ?_; refine zGp i (zR f) hv1 rfl hfm (fun p hp=>?_)
       refine z6 (zR f) hp rfl <| sS (zR f) (AV.cells (zR f)) ?_; refine sW ?_; refine zN (r:=i - 1) tO tO ?_; refine sIdxW (i - 1) (zR g) hvo rfl hgm ?_ (fun b2 j2 hp2=>?_)
       ·refine zi (zn g.col g.row) rfl <| zC (AV.agg [zJ f.col,zJ f.row]) (zE zB) rfl <| zI (hls _) <| zG <| zF <| zC (AV.str f.text) (zE zB) rfl ?_; refine zW (tN h0) <| zC (AV.str f.text) (zE zB) rfl <| zI (ht _) <| zl rfl <| zG ?_
        exact zBN rfl rfl rfl rfl (hH2 _ _)
       ·refine z6 (zn g.col g.row) hp2 rfl <| zC (AV.agg [zJ f.col,zJ f.row]) (zE zB) rfl <| zI (hls _) <| zG <| zF <| zC (AV.str f.text) (zE zB) rfl ?_; refine zW (tN h0) <| zC (AV.str f.text) (zE zB) rfl <| zI (ht _) <| zl rfl <| zG ?_
        exact zBN rfl rfl rfl rfl (hH2 _ _)
 ·have hd : l.drop i = []:=zNs tO
  rw [hd] at hq
  have hq : 0 = r:=hq
  subst hq
  clear hA hL hT
  refine sW ?_
  exact zBN rfl rfl rfl rfl hH
end
end Go.AM
set_option maxRecDepth 20000
namespace Go.AM
theorem cmpC_less (a b : Fil) : lessC a b = if a.row ≠ b.row then decide (a.row < b.row) else decide (a.col < b.col):=by
 unfold lessC zMd cmp3
 by_cases h1 : a.row < b.row
 ·have h2 : a.row ≠ b.row:=by omega
  simp [h1,h2]
 ·by_cases h2 : b.row < a.row
  ·have h3 : a.row ≠ b.row:=by omega
   simp [h1,h2,h3]
  ·have h3 : a.row = b.row:=by omega
   by_cases h4 : a.col < b.col
   ·simp [h3,h4]
   ·by_cases h5 : b.col < a.col
    ·simp [h3,h4,h5]
    ·simp [h3,h4,h5]
theorem zCq {F : AF} {a s t1 t2 : Nat} {ag : Bool} {H H1 : Heap} {fr : Fr} {v v1 v2 : AV} {cs : List AV} {o : Nat} (hF : F.results = [.cell a s ag,.tmp t1,.tmp t2]) (hk : F.keep = false) (hp : zAD H1 (getF fr a) = some (cs,o)) (hpt : part cs o s ag = some v) (ht1 : getF fr t1 = v1) (ht2 : getF fr t2 = v2)
  (hf : zDJ H.length (.tup [v,v1,v2]) H1 = some (.tup [v,v1,v2],H1)) (hb : (AV.tup [v,v1,v2]).bel H.length = true) (ho : Old H H1) : retP F H fr H1 (.tup [v,v1,v2]) H:=by
 refine zBN hk ?_ hf hb ho
 rw [zGJ] at hp ht1 ht2
 simp only [hF,zBo,zLU,hp,hpt,ht1,ht2,zM9]
 rfl
section
variable {C : CSpec} {GT : Nat → Option AV}
theorem rin_ev (c r : Int) (H : Heap) : EFun C GT zHJ [zn c r] H (.bool (okC c r)) H:=by
 refine za ?_
 unfold okC
 by_cases h1 : 1 ≤ c
 ·rw [zNM h1]
  by_cases h2 : c ≤ 26
  ·rw [zNM h2]
   by_cases h3 : 1 ≤ r
   ·rw [zNM h3]
    refine zDw (x:=zn c r) rfl <| zC (zJ c) zB rfl <| zc tT <| zC (zJ c) zB rfl <| zG <| zc tT ?_; refine zC (zJ r) zB rfl <| zG <| zc tT <| zC (zJ r) zB rfl <| zG ?_
    exact zBN rfl rfl rfl rfl ((Old.refl _).push _)
   ·rw [zNV h3]
    refine zDw (x:=zn c r) rfl <| zC (zJ c) zB rfl <| zc tT <| zC (zJ c) zB rfl <| zG <| zc tT ?_; refine zC (zJ r) zB rfl <| zG <| zW tF <| zF ?_
    exact zBN rfl rfl rfl rfl ((Old.refl _).push _)
  ·rw [zNV h2]
   refine zDw (x:=zn c r) rfl <| zC (zJ c) zB rfl <| zc tT <| zC (zJ c) zB rfl ?_; refine zG <| zW tF <| zF <| zF <| zF ?_
   exact zBN rfl rfl rfl rfl ((Old.refl _).push _)
 ·rw [zNV h1]
  refine zDw (x:=zn c r) rfl <| zC (zJ c) zB rfl ?_; refine zW tF <| zF <| zF <| zF <| zF <| zF ?_
  exact zBN rfl rfl rfl rfl ((Old.refl _).push _)
theorem rahead_ev (a b : Fil) (H : Heap) : EFun C GT zEf [zn a.col a.row,zn b.col b.row] H (.bool (lessC a b)) H:=by
 rw [cmpC_less]
 refine za ?_
 by_cases h : a.row ≠ b.row
 ·rw [zMt h]
  refine zDw (x:=zn a.col a.row) rfl <| zDw (x:=zn b.col b.row) rfl <| zC (zJ a.row) (zD zB) rfl <| zC (zJ b.row) zB rfl <| zc (zNf.2 h) <| zC (zJ a.row) (zD zB) rfl ?_; refine zC (zJ b.row) zB rfl ?_
  exact zBN rfl rfl rfl rfl (((Old.refl _).push _).push _)
 ·rw [zMq h]
  have h : a.row = b.row:=Classical.not_not.1 h
  refine zDw (x:=zn a.col a.row) rfl <| zDw (x:=zn b.col b.row) rfl <| zC (zJ a.row) (zD zB) rfl <| zC (zJ b.row) zB rfl <| zW (zNQ.2 h) <| zC (zJ a.col) (zD zB) rfl ?_; refine zC (zJ b.col) zB rfl ?_
  exact zBN rfl rfl rfl rfl (((Old.refl _).push _).push _)
def RPar (C : CSpec) (s : Bs) : Prop:=
 (∀ n,zEP s = some n → ∀ H,C zCi [.str s] H (.tup [ndV n,zJ 0,zJ 0]) H) ∧ (zEP s = none → ∀ H,∃ w e : Int,e ≠ 0 ∧ C zCi [.str s] H (.tup [ndV zX,zJ w,zJ e]) H)
theorem rparse_ok (hT : ∀ s a H,a ≤ s.length → s.length ≤ 1000 → C zT [.str s,zK a] H (tkV s a) H) (s : Bs) (hl : s.length ≤ 200) (h61 : s[0]? = some 61) (n : Nd) (e : Nat) (he : e ≤ s.length) (hk : tok s e = .fin)
  (hLo : ∀ b H,H[b]? = some (rP s 1 0) → C zU [pR b,.int .i64 1] H (ndV n) (H.set b (rP s e 0))) (H : Heap) : EFun C GT zCk [.str s] H (.tup [ndV n,zJ 0,zJ 0]) H:=by
 have htk:=fun H=>hT s e H he tO
 rw [zFN,hk] at htk
 clear hT
 refine za ?_
 have hne : s ≠ []:=fun x=>by subst x; cases h61
 generalize skip s e = q at *
 refine zW tF <| zW (tN hne) <| zz rfl h61 <| zF <| zF <| zl (v:=[AV.str s,.int .i64 1,.int .i64 0,.int .i64 0,.int .i64 0]) rfl ?_; refine zDw (x:=AV.agg [AV.str s,.int .i64 1,.int .i64 0,.int .i64 0,.int .i64 0]) rfl <| zAZ (hLo _ _ hP) (fun h=>by cases h) <| zH (v:=ndV n) (AV.cells (ndV n)) zB rfl rfl rfl rfl <| zC (zJ ↑e) (zA tA (zD (zE zB))) rfl <| zI (htk _) <| zH (v:=kV (tkK Tok.fin) q (tkE q Tok.fin) (tkT Tok.fin)) (AV.cells (kV (tkK Tok.fin) q (tkE q Tok.fin) (tkT Tok.fin))) zB rfl rfl rfl rfl ?_
 refine zC (zJ 0) (zA tA (zD (zA tA (zD (zE zB))))) rfl <| zG <| zC (zK (tkK Tok.fin)) (zE zB) rfl <| zG <| zF <| zC (zJ 0) (zA tA (zD (zA tA (zD (zE zB))))) rfl ?_; refine zF <| zC (ndV n) (zA tA (zD (zE zB))) rfl <| zH (v:=ndV n) (AV.cells (ndV n)) (zA tA (zD (zA tA (zD (zA tA (zD zB)))))) rfl rfl rfl rfl ?_
 exact zCq (o:=0) rfl rfl (zL hP) rfl rfl rfl rfl rfl (by repeat' (first | exact Old.refl _ | refine Old.set ?_ tC _ | refine Old.push ?_ _))
theorem rparse_tail (hT : ∀ s a H,a ≤ s.length → s.length ≤ 1000 → C zT [.str s,zK a] H (tkV s a) H)
  (hF : ∀ b s p d a e H,H[b]? = some (pB s p 0 0 d) → C ze [pR b,zJ a,zJ e] H (.tup []) (H.set b (pB s p a e d)))
  (s : Bs) (hl : s.length ≤ 200) (h61 : s[0]? = some 61) (n : Nd) (e : Nat) (he : e ≤ s.length) (hk : tkK (tok s e) ≠ 0)
  (hLo : ∀ b H,H[b]? = some (rP s 1 0) → C zU [pR b,.int .i64 1] H (ndV n) (H.set b (rP s e 0))) (H : Heap) : EFun C GT zCk [.str s] H (.tup [ndV zX,zK (skip s e),zJ 2]) H:=by
 have htk:=fun H=>hT s e H he tO
 rw [zFN] at htk
 have hf:=fun b H=>hF b s e 0 (skip s e : Nat) 2 H
 clear hT hF
 refine za ?_
 have hne : s ≠ []:=fun x=>by subst x; cases h61
 generalize tkE (skip s e) (tok s e) = ee at *
 generalize tkK (tok s e) = kk at *
 generalize tkT (tok s e) = t at *
 generalize skip s e = q at *
 refine zW tF <| zW (tN hne) <| zz rfl h61 <| zF <| zF <| zl (v:=[AV.str s,.int .i64 1,.int .i64 0,.int .i64 0,.int .i64 0]) rfl ?_; refine zDw (x:=AV.agg [AV.str s,.int .i64 1,.int .i64 0,.int .i64 0,.int .i64 0]) rfl <| zAZ (hLo _ _ hP) (fun h=>by cases h) <| zH (v:=ndV n) (AV.cells (ndV n)) zB rfl rfl rfl rfl <| zC (zJ ↑e) (zA tA (zD (zE zB))) rfl <| zI (htk _) <| zH (v:=kV kk q ee t) (AV.cells (kV kk q ee t)) zB rfl rfl rfl rfl ?_
 refine zC (zJ 0) (zA tA (zD (zA tA (zD (zE zB))))) rfl <| zc (tE (by rfl)) <| zC (zK kk) (zE zB) rfl <| zG <| zc (zNf.2 tO) <| zC (zK q) (zE zB) rfl ?_; refine zAZ (hf _ _ hP) (fun h=>by cases h) <| zC (zJ 2) (zE (zA tA (zD (zA tA (zD (zE zB)))))) rfl <| zc (zNf.2 tO) <| zl (v:=zV0) rfl ?_
 refine zG9 ?_ ?_
 ·refine zC (zJ ↑q) (zE (zA tA (zD (zA tA (zD (zE zB)))))) rfl ?_; refine zG9 ?_ ?_
  ·refine zC (zJ 2) (zE (zA tA (zD (zA tA (zD (zE zB)))))) rfl <| zH (v:=AV.agg zV0) (AV.cells (AV.agg zV0)) (zA tA (zA tA (zD (zA tA (zD (zA tA (zD zB))))))) rfl rfl rfl rfl ?_
   exact zCq (o:=0) rfl rfl (zL hP) rfl rfl rfl rfl rfl (by repeat' (first | exact Old.refl _ | refine Old.set ?_ tC _ | refine Old.push ?_ _))
  ·refine zH (v:=AV.agg zV0) (AV.cells (AV.agg zV0)) (zA tA (zA tA (zD (zA tA (zD (zA tA (zD zB))))))) rfl rfl rfl rfl <| zC (zJ 2) (zA tA (zE (zA tA (zD (zA tA (zD (zE zB))))))) rfl ?_
   exact zCq (o:=0) rfl rfl (zL hP) rfl rfl rfl rfl rfl (by repeat' (first | exact Old.refl _ | refine Old.set ?_ tC _ | refine Old.push ?_ _))
 ·refine zG9 ?_ ?_
  ·refine zC (zJ 2) (zE (zA tA (zD (zA tA (zD (zE zB)))))) rfl ?_; refine zG9 ?_ ?_
   ·refine zC (zJ ↑q) (zE (zA tA (zD (zA tA (zD (zE zB)))))) rfl <| zH (v:=AV.agg zV0) (AV.cells (AV.agg zV0)) (zA tA (zA tA (zD (zA tA (zD (zA tA (zD zB))))))) rfl rfl rfl rfl ?_
    exact zCq (o:=0) rfl rfl (zL hP) rfl rfl rfl rfl rfl (by repeat' (first | exact Old.refl _ | refine Old.set ?_ tC _ | refine Old.push ?_ _))
   ·refine zH (v:=AV.agg zV0) (AV.cells (AV.agg zV0)) (zA tA (zA tA (zD (zA tA (zD (zA tA (zD zB))))))) rfl rfl rfl rfl <| zC (zJ ↑q) (zA tA (zE (zA tA (zD (zA tA (zD (zE zB))))))) rfl ?_
    exact zCq (o:=0) rfl rfl (zL hP) rfl rfl rfl rfl rfl (by repeat' (first | exact Old.refl _ | refine Old.set ?_ tC _ | refine Old.push ?_ _))
  ·refine zH (v:=AV.agg zV0) (AV.cells (AV.agg zV0)) (zA tA (zA tA (zD (zA tA (zD (zA tA (zD zB))))))) rfl rfl rfl rfl <| zC (zJ ↑q) (zA tA (zE (zA tA (zD (zA tA (zD (zE zB))))))) rfl <| zC (zJ 2) (zA tA (zE (zA tA (zD (zA tA (zD (zE zB))))))) rfl ?_
   exact zCq (o:=0) rfl rfl (zL hP) rfl rfl rfl rfl rfl (by repeat' (first | exact Old.refl _ | refine Old.set ?_ tC _ | refine Old.push ?_ _))
theorem rparse_bad (hT : ∀ s a H,a ≤ s.length → s.length ≤ 1000 → C zT [.str s,zK a] H (tkV s a) H)
  (s : Bs) (hl : s.length ≤ 200) (h61 : s[0]? = some 61) (n : Nd) (a : Nat) (w e d : Int) (ha : a ≤ s.length) (he : e ≠ 0) (H : Heap)
  (hLo : ∀ H',H'[(H ++ [ABlk.box (ndC zX)]).length]? = some (rP s 1 0) → C zU [pR (H ++ [ABlk.box (ndC zX)]).length,.int .i64 1] H' (ndV n) (H'.set (H ++ [ABlk.box (ndC zX)]).length (pB s a w e d))) : EFun C GT zCk [.str s] H (.tup [ndV zX,zJ w,zJ e]) H:=by
 have htk:=fun H=>hT s a H ha tO
 rw [zFN] at htk
 clear hT
 refine za ?_
 have hne : s ≠ []:=fun x=>by subst x; cases h61
 generalize tkE (skip s a) (tok s a) = ee at *
 generalize tkK (tok s a) = kk at *
 generalize tkT (tok s a) = t at *
 generalize skip s a = q at *
 refine zW tF <| zW (tN hne) <| zz rfl h61 <| zF <| zF <| zl (v:=[AV.str s,.int .i64 1,.int .i64 0,.int .i64 0,.int .i64 0]) rfl ?_; refine zDw (x:=AV.agg [AV.str s,.int .i64 1,.int .i64 0,.int .i64 0,.int .i64 0]) rfl <| zAZ (hLo _ hP) (fun h=>by cases h) <| zH (v:=ndV n) (AV.cells (ndV n)) zB rfl rfl rfl rfl <| zC (zJ ↑a) (zA tA (zD (zE zB))) rfl <| zI (htk _) <| zH (v:=kV kk q ee t) (AV.cells (kV kk q ee t)) zB rfl rfl rfl rfl ?_
 refine zC (zJ e) (zA tA (zD (zA tA (zD (zE zB))))) rfl <| zW tF <| zF <| zF <| zC (zJ e) (zA tA (zD (zA tA (zD (zE zB))))) rfl <| zc (zNf.2 he) ?_; refine zl (v:=zV0) rfl ?_; refine zG9 ?_ ?_
 ·refine zC (zJ w) (zA tA (zD (zA tA (zD (zE zB))))) rfl ?_; refine zG9 ?_ ?_
  ·refine zC (zJ e) (zA tA (zD (zA tA (zD (zE zB))))) rfl <| zH (v:=AV.agg zV0) (AV.cells (AV.agg zV0)) (zA tA (zD (zA tA (zD (zA tA (zD zB)))))) rfl rfl rfl rfl ?_
   exact zCq (o:=0) rfl rfl (zL hP) rfl rfl rfl rfl rfl (by repeat' (first | exact Old.refl _ | refine Old.set ?_ tC _ | refine Old.push ?_ _))
  ·refine zH (v:=AV.agg zV0) (AV.cells (AV.agg zV0)) (zA tA (zD (zA tA (zD (zA tA (zD zB)))))) rfl rfl rfl rfl <| zC (zJ e) (zA tA (zA tA (zD (zA tA (zD (zE zB)))))) rfl ?_
   exact zCq (o:=0) rfl rfl (zL hP) rfl rfl rfl rfl rfl (by repeat' (first | exact Old.refl _ | refine Old.set ?_ tC _ | refine Old.push ?_ _))
 ·refine zG9 ?_ ?_
  ·refine zC (zJ e) (zA tA (zD (zA tA (zD (zE zB))))) rfl ?_; refine zG9 ?_ ?_
   ·refine zC (zJ w) (zA tA (zD (zA tA (zD (zE zB))))) rfl <| zH (v:=AV.agg zV0) (AV.cells (AV.agg zV0)) (zA tA (zD (zA tA (zD (zA tA (zD zB)))))) rfl rfl rfl rfl ?_
    exact zCq (o:=0) rfl rfl (zL hP) rfl rfl rfl rfl rfl (by repeat' (first | exact Old.refl _ | refine Old.set ?_ tC _ | refine Old.push ?_ _))
   ·refine zH (v:=AV.agg zV0) (AV.cells (AV.agg zV0)) (zA tA (zD (zA tA (zD (zA tA (zD zB)))))) rfl rfl rfl rfl <| zC (zJ w) (zA tA (zA tA (zD (zA tA (zD (zE zB)))))) rfl ?_
    exact zCq (o:=0) rfl rfl (zL hP) rfl rfl rfl rfl rfl (by repeat' (first | exact Old.refl _ | refine Old.set ?_ tC _ | refine Old.push ?_ _))
  ·refine zH (v:=AV.agg zV0) (AV.cells (AV.agg zV0)) (zA tA (zD (zA tA (zD (zA tA (zD zB)))))) rfl rfl rfl rfl <| zC (zJ w) (zA tA (zA tA (zD (zA tA (zD (zE zB)))))) rfl <| zC (zJ e) (zA tA (zA tA (zD (zA tA (zD (zE zB)))))) rfl ?_
   exact zCq (o:=0) rfl rfl (zL hP) rfl rfl rfl rfl rfl (by repeat' (first | exact Old.refl _ | refine Old.set ?_ tC _ | refine Old.push ?_ _))
end
end Go.AM
set_option maxRecDepth 20000
namespace Go.AM
theorem zKQ {v : AV} {H : Heap} {k : Nat} {xs : List AV} (hv : view H k v = some xs) : (∀ (n : Int) (i : Nat) (x : AV) (K : AV → Prop),n = (i : Int) → xs[i]? = some x → K (.lref x 0) → idxN k v n K) ∨
  (∀ (n : Int) (i : Nat) (x : AV) (K : AV → Prop),n = (i : Int) → xs[i]? = some x → (∀ b j,(∀ o,zAD H (.ref b k j o) = some (x.cells,o)) → K (.ref b k j 0)) → idxN k v n K):=by
 unfold view at hv
 split at hv
 ·split at hv
  ·rename_i hk
   cases hv; subst hk
   exact .inl fun n i x K hn hx q=>sIdx hn hx q
  ·split at hv
   ·cases hv
    exact .inl fun n i x K hn hx q=>by simp at hx
   ·cases hv
 ·refine .inr fun n i x K hn hx q2=>?_
  have hlt:=(zg hx).1
  rw [zHk]; unfold idxNW
  simp only
  split at hv
  ·rename_i hk
   subst hk
   split at hv
   ·rename_i hb
    split at hv
    ·rename_i hc
     cases hv
     rw [zM8,zNS] at hlt
     rw [zNL,zMt tO,zNO] at hx
     subst hn
     rw [hc.1] at hb
     refine zGI ⟨rfl,by omega,by omega⟩ (q2 _ _ fun o=>?_)
     show zAD H (.ref _ _ _ _) = _
     simp only [zAD,hb,zNP,zN8,hx,zM9]
    ·cases hv
   ·rename_i hb
    split at hv
    ·rename_i hc
     cases hv
     rw [zM8,zNS] at hlt
     rw [zNL,zMt tO,zNO] at hx
     subst hn
     rw [hc.1] at hb
     refine zGI ⟨rfl,by omega,by omega⟩ (q2 _ _ fun o=>?_)
     show zAD H (.ref _ _ _ _) = _
     simp only [zAD,hb,zNP,zN8,hx,zM9]
    ·cases hv
   ·cases hv
  ·cases hv
 ·cases hv
section
variable {C : CSpec} {GT : Nat → Option AV}
theorem rtext_ev (hP : ∀ s,s.length ≤ 200 → s.head? = some 61 → RPar C s) (s : Bs) (H : Heap) : EFun C GT zFU [.str s] H (zK (zAo s)) H:=by
 have hp:=hP s
 clear hP
 refine za ?_
 unfold zAo
 by_cases hl : 200 < s.length
 ·rw [zMt hl]
  clear hp
  refine zc tT ?_
  exact sRr
 ·rw [zMq hl]
  cases s with
  | nil=>
   clear hp
   refine zW tF <| zF <| zF <| zF ?_
   exact sRr
  | cons c r=>
   have hne : (c :: r) ≠ []:=by simp
   have h0 : (c :: r)[0]? = some c:=rfl
   by_cases h : c = 61
   ·subst h
    have hp:=hp tO rfl
    rw [zMt (show (61 :: r : Bs).head? = some 61 from rfl)]
    obtain ⟨s,hs⟩ : ∃ s : Bs,(61 :: r : Bs) = s:=⟨_,rfl⟩
    rw [hs] at hl hp hne h0 ⊢
    cases hq : zEP s with
    | some n=>
     have hp:=hp.1 n hq
     refine zW tF <| zc (zNf.2 hne) <| zz rfl h0 <| zG <| zG <| zI (hp _) ?_; refine zl rfl <| zl rfl <| zl rfl <| zH (v:=ndV n) (AV.cells (ndV n)) zB rfl rfl rfl rfl <| zF ?_
     exact zBN rfl rfl rfl rfl (((Old.refl _).push _).set tA _)
    | none=>
     obtain ⟨w,e,he,hp⟩:=hp.2 hq H
     refine zW tF <| zc (zNf.2 hne) <| zz rfl h0 <| zG <| zG <| zI hp ?_; refine zl rfl <| zl rfl <| zl rfl <| zH (v:=ndV zX) (AV.cells (ndV zX)) zB rfl rfl rfl rfl <| zc (zNf.2 he) ?_
     exact zBN rfl rfl rfl rfl (((Old.refl _).push _).set tA _)
   ·rw [zMq (show ¬ (c :: r : Bs).head? = some 61 from fun x=>h (zNH x))]
    clear hp
    obtain ⟨s,hs⟩ : ∃ s : Bs,(c :: r : Bs) = s:=⟨_,rfl⟩
    rw [hs] at hl hne h0 ⊢
    refine zW tF <| zc (zNf.2 hne) <| zz rfl h0 <| zG <| zW (tN (fun x=>h (zND.1 (by have : (61 : UInt8).toNat = 61:=rfl; omega)))) ?_
    exact sRr
end
structure RefK2 (PR : Program) : Prop extends RefK PR where
 parse : zAE PR zCi zCk = true
 isIn : zAE PR zCh zHJ = true
 ahead : zAE PR zAd zEf = true
 text : zAE PR zBW zFU = true
section
variable {PR : Program} {GT : Nat → Option AV}
theorem q_parse (k : RefK2 PR) (g : BigG PR GT) (s : Bs) (hl : s.length ≤ 200) (h61 : s.head? = some 61) : RPar (Good PR GT) s:=by
 have h0 : s[0]? = some 61:=by rw [← List.head?_eq_getElem?]; exact h61
 have h1 : 1 ≤ s.length:=by cases s with
  | nil=>cases h61
  | cons c r=>simp
 have lo:=fun b=>(q_all k.toRefK g b s hl (s.length - 1) 1 h1 rfl 0 tO).2 1
 cases hlo : (P s).loose 1 1 0 with
 | none=>
  have hpp : zEP s = none:=by unfold zEP; rw [zMt ⟨hl,h61⟩,hlo]; rfl
  refine ⟨fun n h=>(by rw [hpp] at h; cases h),fun _ H=>?_⟩
  obtain ⟨n,a,w,e,d,h2,h3,h4⟩:=(lo (H ++ [ABlk.box (ndC zX)]).length).2 hlo
  exact ⟨w,e,h2,zM k.hm k.parse (rparse_bad (zGi k.toRefK) s hl h0 n a w e d h3 h2 H h4)⟩
 | some x=>
  obtain ⟨n,e⟩:=x
  have hx:=(zCO s).loose 1 1 0 _ h1 hlo
  simp only at hx
  have hl2:=fun b=>(lo b).1 n e hlo
  by_cases hk : tok s e = .fin
  ·have hpp : zEP s = some n:=by unfold zEP; rw [zMt ⟨hl,h61⟩,hlo]; simp only [zNr,hk]
   refine ⟨fun n' h H=>?_,fun h=>by rw [hpp] at h; cases h⟩
   rw [hpp] at h; cases h
   exact zM k.hm k.parse (rparse_ok (zGi k.toRefK) s hl h0 n e hx.2 hk hl2 H)
  ·have hpp : zEP s = none:=by
    unfold zEP
    rw [zMt ⟨hl,h61⟩,hlo]
    simp only [zNr]
   refine ⟨fun n h=>(by rw [hpp] at h; cases h),fun _ H=>⟨_,2,by decide,zM k.hm k.parse (rparse_tail (zGi k.toRefK) (q_fail k.toRefK) s hl h0 n e hx.2 (fun h=>hk ?_) hl2 H)⟩⟩
   cases ht : tok s e <;> rw [ht] at h <;> first | rfl | (simp only [tkK] at h; omega)
theorem q_in (k : RefK2 PR) (c r : Int) (H : Heap) : Good PR GT zCh [zn c r] H (.bool (okC c r)) H:=zM k.hm k.isIn (rin_ev c r H)
theorem q_ahead (k : RefK2 PR) (a b : Fil) (H : Heap) : Good PR GT zAd [zn a.col a.row,zn b.col b.row] H (.bool (lessC a b)) H:=zM k.hm k.ahead (rahead_ev a b H)
theorem q_text (k : RefK2 PR) (g : BigG PR GT) (s : Bs) (H : Heap) : Good PR GT zBW [.str s] H (zK (zAo s)) H:=zM k.hm k.text (rtext_ev (q_parse k g) s H)
end
end Go.AM
set_option maxRecDepth 20000
namespace Go.AM
section
variable {C : CSpec} {GT : Nat → Option AV}
theorem rcheck_ev (hA : ∀ c r H,C zCh [zn c r] H (.bool (okC c r)) H) (hL : ∀ a b H,C zAd [zn a.col a.row,zn b.col b.row] H (.bool (lessC a b)) H) (hT : ∀ s H,C zBW [.str s] H (zK (zAo s)) H)
  (lv : AV) (l : List Fil) (H : Heap) (hv : view H 3 lv = some (l.map zR)) : EFun C GT zEe [lv] H (zK (zAP l)) H:=by
 have hlm : (l.map zR).length = l.length:=zMx _
 refine za ?_
 unfold zAP
 by_cases hl : 200 < l.length
 ·rw [zMt hl]
  clear hA hL hT
  refine zB4 hv <| zc tT ?_
  exact sRr
 rw [zMq hl]
 obtain ⟨r,hr⟩ : ∃ r,zE4 none l = r:=⟨_,rfl⟩
 rw [hr]
 refine zB4 hv <| zW tF ?_; refine zBM (fun i : Nat=>[(3,zK i),(0,lv)]) (fun i H'=>H' = H ∧ i ≤ l.length ∧ zE4 (if i = 0 then none else l[i - 1]?) (l.drop i) = r) (fun i=>l.length - i) 0 rfl ⟨rfl,by omega,hr⟩ (fun i H1 ⟨hH,hi,hq⟩=>?_)
 subst hH
 dsimp only
 by_cases hlt : i < l.length
 ·obtain ⟨f,hf⟩ : ∃ f,l[i]? = some f:=⟨_,zMr hlt⟩
  have hfm : (l.map zR)[i]? = some (zR f):=by rw [zM2,hf]; rfl
  rw [zKP l i f hf] at hq
  have ha:=hA f.col f.row
  have ht:=hT f.text
  clear hA hT
  unfold filN at hq
  rcases zKQ hv with hx | hx
  ·cases hok : okC f.col f.row with
   | false=>
    rw [hok] at ha hq
    have hq : 1 = r:=hq
    subst hq
    clear hL ht
    refine zB4 hv <| zc tT ?_; refine hx _ i (zR f) _ rfl hfm ?_; refine zi (zn f.col f.row) rfl <| zI (ha _) <| zG ?_
    exact sRr
   | true=>
    rw [hok] at ha hq
    rw [zMq (by simp : ¬ (true = false))] at hq
    by_cases hi0 : i = 0
    ·rw [zMt hi0] at hq
     have hq : (if (if f.text = [] then 3 else zAo f.text) = 0 then zE4 (some f) (l.drop (i + 1)) else if f.text = [] then 3 else zAo f.text) = r:=hq
     clear hL
     by_cases h0 : f.text = []
     ·rw [zMt h0] at hq
      have hq : 3 = r:=hq
      subst hq
      clear ht
      refine zB4 hv <| zc tT ?_; refine hx _ i (zR f) _ rfl hfm ?_; refine zi (zn f.col f.row) rfl <| zI (ha _) <| zF <| zW tF <| zF <| zF ?_; refine hx _ i (zR f) _ rfl hfm ?_; refine zi (.str f.text) rfl <| zc (tE h0) ?_
      exact sRr
     ·rw [zMq h0] at hq
      by_cases hz : zAo f.text = 0
      ·rw [zMt hz] at hq
       rw [hz] at ht
       refine zB4 hv <| zc tT ?_; refine hx _ i (zR f) _ rfl hfm ?_; refine zi (zn f.col f.row) rfl <| zI (ha _) <| zF <| zW tF <| zF <| zF ?_; refine hx _ i (zR f) _ rfl hfm ?_; refine zi (.str f.text) rfl <| zW (tN h0) ?_; refine hx _ i (zR f) _ rfl hfm ?_; refine zi (.str f.text) rfl <| zI (ht _) <| zF <| zN (r:=i + 1) rfl tO ?_; refine zAC (i + 1) rfl ⟨rfl,by omega, ?_⟩ tO
       rw [zMq tO,zNv,hf]
       exact hq
      ·rw [zMq hz] at hq
       subst hq
       refine zB4 hv <| zc tT ?_; refine hx _ i (zR f) _ rfl hfm ?_; refine zi (zn f.col f.row) rfl <| zI (ha _) <| zF <| zW tF <| zF <| zF ?_; refine hx _ i (zR f) _ rfl hfm ?_; refine zi (.str f.text) rfl <| zW (tN h0) ?_; refine hx _ i (zR f) _ rfl hfm ?_; refine zi (.str f.text) rfl <| zI (ht _) <| zc (zNf.2 tO) ?_
       exact sRr
    ·obtain ⟨g,hg⟩ : ∃ g,l[i - 1]? = some g:=⟨_,zMr tO⟩
     have hgm : (l.map zR)[i - 1]? = some (zR g):=by rw [zM2,hg]; rfl
     rw [zMq hi0,hg] at hq
     have hq : (if (if lessC g f = false then 5 else if f.text = [] then 3 else zAo f.text) = 0 then zE4 (some f) (l.drop (i + 1)) else if lessC g f = false then 5 else if f.text = [] then 3 else zAo f.text) = r:=hq
     have hls:=hL g f
     clear hL
     cases hlp : lessC g f with
     | false=>
      rw [hlp] at hls hq
      have hq : 5 = r:=hq
      subst hq
      clear ht
      refine zB4 hv <| zc tT ?_; refine hx _ i (zR f) _ rfl hfm ?_; refine zi (zn f.col f.row) rfl <| zI (ha _) <| zF <| zc tT <| zN (r:=i - 1) tO tO ?_; refine hx _ (i - 1) (zR g) _ tO hgm ?_; refine zi (zn g.col g.row) rfl ?_; refine hx _ i (zR f) _ rfl hfm ?_; refine zi (zn f.col f.row) rfl <| zI (hls _) <| zG <| zG ?_
      exact sRr
     | true=>
      rw [hlp] at hls hq
      rw [zMq (by simp : ¬ (true = false))] at hq
      by_cases h0 : f.text = []
      ·rw [zMt h0] at hq
       have hq : 3 = r:=hq
       subst hq
       clear ht
       refine zB4 hv <| zc tT ?_; refine hx _ i (zR f) _ rfl hfm ?_; refine zi (zn f.col f.row) rfl <| zI (ha _) <| zF <| zc tT <| zN (r:=i - 1) tO tO ?_; refine hx _ (i - 1) (zR g) _ tO hgm ?_; refine zi (zn g.col g.row) rfl ?_; refine hx _ i (zR f) _ rfl hfm ?_; refine zi (zn f.col f.row) rfl <| zI (hls _) <| zG <| zF ?_; refine hx _ i (zR f) _ rfl hfm ?_; refine zi (.str f.text) rfl <| zc (tE h0) ?_
       exact sRr
      ·rw [zMq h0] at hq
       by_cases hz : zAo f.text = 0
       ·rw [zMt hz] at hq
        rw [hz] at ht
        refine zB4 hv <| zc tT ?_; refine hx _ i (zR f) _ rfl hfm ?_; refine zi (zn f.col f.row) rfl <| zI (ha _) <| zF <| zc tT <| zN (r:=i - 1) tO tO ?_; refine hx _ (i - 1) (zR g) _ tO hgm ?_; refine zi (zn g.col g.row) rfl ?_; refine hx _ i (zR f) _ rfl hfm ?_; refine zi (zn f.col f.row) rfl <| zI (hls _) <| zG <| zF ?_; refine hx _ i (zR f) _ rfl hfm ?_; refine zi (.str f.text) rfl <| zW (tN h0) ?_
        refine hx _ i (zR f) _ rfl hfm ?_; refine zi (.str f.text) rfl <| zI (ht _) <| zF <| zN (r:=i + 1) rfl tO ?_; refine zAC (i + 1) rfl ⟨rfl,by omega, ?_⟩ tO
        rw [zMq tO,zNv,hf]
        exact hq
       ·rw [zMq hz] at hq
        subst hq
        refine zB4 hv <| zc tT ?_; refine hx _ i (zR f) _ rfl hfm ?_; refine zi (zn f.col f.row) rfl <| zI (ha _) <| zF <| zc tT <| zN (r:=i - 1) tO tO ?_; refine hx _ (i - 1) (zR g) _ tO hgm ?_; refine zi (zn g.col g.row) rfl ?_; refine hx _ i (zR f) _ rfl hfm ?_; refine zi (zn f.col f.row) rfl <| zI (hls _) <| zG <| zF ?_; refine hx _ i (zR f) _ rfl hfm ?_; refine zi (.str f.text) rfl <| zW (tN h0) ?_
        refine hx _ i (zR f) _ rfl hfm ?_; refine zi (.str f.text) rfl <| zI (ht _) <| zc (zNf.2 tO) ?_
        exact sRr
  ·cases hok : okC f.col f.row with
   | false=>
    rw [hok] at ha hq
    have hq : 1 = r:=hq
    subst hq
    clear hL ht
    refine zB4 hv <| zc tT ?_; refine hx _ i (zR f) _ rfl hfm (fun b2 j2 hp2=>?_)
    refine z6 (zn f.col f.row) (hp2 _) rfl <| zI (ha _) <| zG ?_
    exact sRr
   | true=>
    rw [hok] at ha hq
    rw [zMq (by simp : ¬ (true = false))] at hq
    by_cases hi0 : i = 0
    ·rw [zMt hi0] at hq
     have hq : (if (if f.text = [] then 3 else zAo f.text) = 0 then zE4 (some f) (l.drop (i + 1)) else if f.text = [] then 3 else zAo f.text) = r:=hq
     clear hL
     by_cases h0 : f.text = []
     ·rw [zMt h0] at hq
      have hq : 3 = r:=hq
      subst hq
      clear ht
      refine zB4 hv <| zc tT ?_; refine hx _ i (zR f) _ rfl hfm (fun b2 j2 hp2=>?_)
      refine z6 (zn f.col f.row) (hp2 _) rfl <| zI (ha _) <| zF <| zW tF <| zF <| zF ?_; refine hx _ i (zR f) _ rfl hfm (fun b2 j2 hp2=>?_)
      refine z6 (.str f.text) (hp2 _) rfl <| zc (tE h0) ?_
      exact sRr
     ·rw [zMq h0] at hq
      by_cases hz : zAo f.text = 0
      ·rw [zMt hz] at hq
       rw [hz] at ht
       refine zB4 hv <| zc tT ?_; refine hx _ i (zR f) _ rfl hfm (fun b2 j2 hp2=>?_)
       refine z6 (zn f.col f.row) (hp2 _) rfl <| zI (ha _) <| zF <| zW tF <| zF <| zF ?_; refine hx _ i (zR f) _ rfl hfm (fun b2 j2 hp2=>?_)
       refine z6 (.str f.text) (hp2 _) rfl <| zW (tN h0) ?_; refine hx _ i (zR f) _ rfl hfm (fun b2 j2 hp2=>?_)
       refine z6 (.str f.text) (hp2 _) rfl <| zI (ht _) <| zF <| zN (r:=i + 1) rfl tO ?_; refine zAC (i + 1) rfl ⟨rfl,by omega, ?_⟩ tO
       rw [zMq tO,zNv,hf]
       exact hq
      ·rw [zMq hz] at hq
       subst hq
       refine zB4 hv <| zc tT ?_; refine hx _ i (zR f) _ rfl hfm (fun b2 j2 hp2=>?_)
       refine z6 (zn f.col f.row) (hp2 _) rfl <| zI (ha _) <| zF <| zW tF <| zF <| zF ?_; refine hx _ i (zR f) _ rfl hfm (fun b2 j2 hp2=>?_)
       refine z6 (.str f.text) (hp2 _) rfl <| zW (tN h0) ?_; refine hx _ i (zR f) _ rfl hfm (fun b2 j2 hp2=>?_)
       refine z6 (.str f.text) (hp2 _) rfl <| zI (ht _) <| zc (zNf.2 tO) ?_
       exact sRr
    ·obtain ⟨g,hg⟩ : ∃ g,l[i - 1]? = some g:=⟨_,zMr tO⟩
     have hgm : (l.map zR)[i - 1]? = some (zR g):=by rw [zM2,hg]; rfl
     rw [zMq hi0,hg] at hq
     have hq : (if (if lessC g f = false then 5 else if f.text = [] then 3 else zAo f.text) = 0 then zE4 (some f) (l.drop (i + 1)) else if lessC g f = false then 5 else if f.text = [] then 3 else zAo f.text) = r:=hq
     have hls:=hL g f
     clear hL
     cases hlp : lessC g f with
     | false=>
      rw [hlp] at hls hq
      have hq : 5 = r:=hq
      subst hq
      clear ht
      refine zB4 hv <| zc tT ?_; refine hx _ i (zR f) _ rfl hfm (fun b2 j2 hp2=>?_)
      refine z6 (zn f.col f.row) (hp2 _) rfl <| zI (ha _) <| zF <| zc tT <| zN (r:=i - 1) tO tO ?_; refine hx _ (i - 1) (zR g) _ tO hgm (fun b2 j2 hp2=>?_)
      refine z6 (zn g.col g.row) (hp2 _) rfl ?_; refine hx _ i (zR f) _ rfl hfm (fun b2 j2 hp2=>?_)
      refine z6 (zn f.col f.row) (hp2 _) rfl <| zI (hls _) <| zG <| zG ?_
      exact sRr
     | true=>
      rw [hlp] at hls hq
      rw [zMq (by simp : ¬ (true = false))] at hq
      by_cases h0 : f.text = []
      ·rw [zMt h0] at hq
       have hq : 3 = r:=hq
       subst hq
       clear ht
       refine zB4 hv <| zc tT ?_; refine hx _ i (zR f) _ rfl hfm (fun b2 j2 hp2=>?_)
       refine z6 (zn f.col f.row) (hp2 _) rfl <| zI (ha _) <| zF <| zc tT <| zN (r:=i - 1) tO tO ?_; refine hx _ (i - 1) (zR g) _ tO hgm (fun b2 j2 hp2=>?_)
       refine z6 (zn g.col g.row) (hp2 _) rfl ?_; refine hx _ i (zR f) _ rfl hfm (fun b2 j2 hp2=>?_)
       refine z6 (zn f.col f.row) (hp2 _) rfl <| zI (hls _) <| zG <| zF ?_; refine hx _ i (zR f) _ rfl hfm (fun b2 j2 hp2=>?_)
       refine z6 (.str f.text) (hp2 _) rfl <| zc (tE h0) ?_
       exact sRr
      ·rw [zMq h0] at hq
       by_cases hz : zAo f.text = 0
       ·rw [zMt hz] at hq
        rw [hz] at ht
        refine zB4 hv <| zc tT ?_; refine hx _ i (zR f) _ rfl hfm (fun b2 j2 hp2=>?_)
        refine z6 (zn f.col f.row) (hp2 _) rfl <| zI (ha _) <| zF <| zc tT <| zN (r:=i - 1) tO tO ?_; refine hx _ (i - 1) (zR g) _ tO hgm (fun b2 j2 hp2=>?_)
        refine z6 (zn g.col g.row) (hp2 _) rfl ?_; refine hx _ i (zR f) _ rfl hfm (fun b2 j2 hp2=>?_)
        refine z6 (zn f.col f.row) (hp2 _) rfl <| zI (hls _) <| zG <| zF ?_; refine hx _ i (zR f) _ rfl hfm (fun b2 j2 hp2=>?_)
        refine z6 (.str f.text) (hp2 _) rfl <| zW (tN h0) ?_; refine hx _ i (zR f) _ rfl hfm (fun b2 j2 hp2=>?_)
        refine z6 (.str f.text) (hp2 _) rfl <| zI (ht _) <| zF <| zN (r:=i + 1) rfl tO ?_; refine zAC (i + 1) rfl ⟨rfl,by omega, ?_⟩ tO
        rw [zMq tO,zNv,hf]
        exact hq
       ·rw [zMq hz] at hq
        subst hq
        refine zB4 hv <| zc tT ?_; refine hx _ i (zR f) _ rfl hfm (fun b2 j2 hp2=>?_)
        refine z6 (zn f.col f.row) (hp2 _) rfl <| zI (ha _) <| zF <| zc tT <| zN (r:=i - 1) tO tO ?_; refine hx _ (i - 1) (zR g) _ tO hgm (fun b2 j2 hp2=>?_)
        refine z6 (zn g.col g.row) (hp2 _) rfl ?_; refine hx _ i (zR f) _ rfl hfm (fun b2 j2 hp2=>?_)
        refine z6 (zn f.col f.row) (hp2 _) rfl <| zI (hls _) <| zG <| zF ?_; refine hx _ i (zR f) _ rfl hfm (fun b2 j2 hp2=>?_)
        refine z6 (.str f.text) (hp2 _) rfl <| zW (tN h0) ?_; refine hx _ i (zR f) _ rfl hfm (fun b2 j2 hp2=>?_)
        refine z6 (.str f.text) (hp2 _) rfl <| zI (ht _) <| zc (zNf.2 tO) ?_
        exact sRr
 ·have hd : l.drop i = []:=zNs tO
  rw [hd] at hq
  have hq : 0 = r:=hq
  subst hq
  clear hA hL hT
  refine zB4 hv <| zW tF ?_
  exact sRr
end
structure RefK3 (PR : Program) : Prop extends RefK2 PR where
 check : zAE PR zAr zEe = true
section
variable {PR : Program} {GT : Nat → Option AV}
theorem q_check (k : RefK3 PR) (g : BigG PR GT) (lv : AV) (l : List Fil) (H : Heap) (hv : view H 3 lv = some (l.map zR)) : Good PR GT zAr [lv] H (zK (zAP l)) H:=zM k.hm k.check (rcheck_ev (q_in k.toRefK2) (q_ahead k.toRefK2) (q_text k.toRefK2 g) lv l H hv)
end
end Go.AM
