/- Several texts of mine in one (Fm, ToldQ, Am24). Own work. -/
import Derived.Test.YthllabjbdobpgaaGreatDoorGFr5Fr7
import Derived.Test.YthllabjbdobpgaaGreatDoorGPreFr1
import Derived.Test.YthllabjbdobpgaaGreatDoorAsQ
import Derived.Test.YthllabjbdobpgaaGreatDoorUk
import Derived.Test.YthllabjbdobpgaaGreatDoorGAm23Am29
import Derived.WideShapes
set_option linter.all false
set_option maxRecDepth 20000
namespace Go.AM
structure ParK (PR : Program) : Prop where
 hm : PR.follows .mixedOrders = true
 contains : zAH PR zt zA4 = true
 mkSet : zAH PR zAx zCO = true
 trimR : zAH PR zAf zBz = true
 trimL : zAH PR zAp zB9 = true
 trim : zAH PR zBl zFS = true
 slPre : zAH PR zAL zB8 = true
 pre : zAH PR zAT zDD = true
 slTrim : zAH PR zAg zB0 = true
 trimP : zAH PR zAr zCq = true
 wrong : zAH PR zDb zGQ = true
 is : zAH PR zDK zJ2 = true
 whole : zAH PR zB7 zGR = true
 lit : zAH PR zAM zEb = true
 ref : zAH PR zA6 zJ3 = true
 dollar : zAH PR zDc zGU = true
 wordly : zAH PR zAU zC8 = true
 called : zAH PR zBZ zEA = true
 plain : zAH PR zAZ zEc = true
 opOf : zAH PR zCI zFO = true
 fail : zAH PR zX zCK = true
 blanks : zAH PR za zBv = true
 word : zAH PR zw zCN = true
 want : zAH PR zx zCL = true
 within : zAH PR zq zBw = true
 text : zAH PR zAw zCM = true
 neg : zAH PR zAK zCc = true
 negc : zAH PR zAd zBx = true
 prim : zAH PR zAv zy = true
 prim1 : zAH PR zAQ zBm = true
 prim2 : zAH PR zAG zBn = true
 call : zAH PR zBT zBU = true
 argument : zAH PR zAu zBW = true
 two : zAH PR zl zBg = true
structure ParG (PR : Program) (GT : Nat → Option AV) : Prop where
 atoi : ∀ s H,zDH s → zDP (zK5 s) → s.length ≤ 1000 → Good PR GT zA0 [.str s] H (.tup [zK (zK5 s),.nili]) H
 atoi2 : ∀ s H,zDH s → ¬ zDP (zK5 s) → s.length ≤ 1000 → ∃ n t,Good PR GT zA0 [.str s] H (.tup [zK n,.iface t .undef]) H
 texts : GT zGK = some textsV
 loose : GT zDe = some looseV
section
variable {PR : Program} {GT : Nat → Option AV}
theorem zMU (hm : PR.follows .mixedOrders = true) {f : Nat} {F : AF} {args : List AV} {H : Heap} {b : Nat} {s : Bs} {d : Nat} {r : Option (Nd × Nat)} (hc : zAH PR f F = true) (h : zCA (Good PR GT) GT F args H b (wkC s) zFB (mkR s d r)) (hn : zHr args = true:=by rfl) : CR (Good PR GT) f args H b s d r:=
 have h:=zAc hm hc h hn
 ⟨fun n e hr=>h.1 _ _ (by subst hr; rfl),fun hr=>h.2 (by subst hr; rfl)⟩
theorem p_contains (k : ParK PR) (b : Nat) (g : Nat → Bool) (c : UInt8) (H : Heap) (hb : H[b]? = some (.box (zH6 g))) : Good PR GT zt [pR b,byV c] H (.bool (g c.toNat)) H:=zN k.hm k.contains (contains_ev b g c H hb)
theorem p_mkSet (k : ParK PR) (cs : Bs) (H : Heap) (hcs : ∀ c ∈ cs,c.toNat < 128) (hl : cs.length ≤ 1000) : Good PR GT zAx [.str cs] H (.tup [.agg (zH6 (zG8 cs)),.bool true]) H:=zN k.hm k.mkSet (mkSet_ev cs H hcs hl)
theorem p_trimR (k : ParK PR) (s cs : Bs) (b : Nat) (H : Heap) (hb : H[b]? = some (.box (zH6 (zG8 cs)))) (hl : s.length ≤ 1000) : Good PR GT zAf [.str s,pR b] H (.str (zK4 s cs)) H:=zN k.hm k.trimR (trimR_ev (p_contains k) s cs b H hb hl)
theorem p_trimL (k : ParK PR) (s cs : Bs) (b : Nat) (H : Heap) (hb : H[b]? = some (.box (zH6 (zG8 cs)))) (hl : s.length ≤ 1000) : Good PR GT zAp [.str s,pR b] H (.str (s.dropWhile fun c=>zG8 cs c.toNat)) H:=zN k.hm k.trimL (trimL_ev (p_contains k) s cs b H hb hl)
theorem p_trim (k : ParK PR) (s cs : Bs) (H : Heap) (hcs : ∀ c ∈ cs,c.toNat < 128) (hc2 : 2 ≤ cs.length) (hcl : cs.length ≤ 1000) (hl : s.length ≤ 1000) : Good PR GT zBl [.str s,.str cs] H (.str (trimS s cs)) H:=zN k.hm k.trim (trim_ev' (p_mkSet k) (p_trimR k) (p_trimL k) s cs H hcs hc2 hcl hl)
theorem p_slPre (k : ParK PR) (s p : Bs) (H : Heap) : Good PR GT zAL [.str s,.str p] H (.bool (p.isPrefixOf s)) H:=zN k.hm k.slPre (sl_prefix_ev s p H)
theorem p_pre (k : ParK PR) (s p : Bs) (H : Heap) : Good PR GT zAT [.str s,.str p] H (.bool (p.isPrefixOf s)) H:=zN k.hm k.pre (prefix_ev (p_slPre k) s p H)
theorem p_slTrim (k : ParK PR) (s p : Bs) (H : Heap) : Good PR GT zAg [.str s,.str p] H (.str (if p.isPrefixOf s = true then s.drop p.length else s)) H:=zN k.hm k.slTrim (zK6 (p_slPre k) s p H)
theorem p_trimP (k : ParK PR) (s p : Bs) (H : Heap) : Good PR GT zAr [.str s,.str p] H (.str (if p.isPrefixOf s = true then s.drop p.length else s)) H:=zN k.hm k.trimP (trimPrefix_ev (p_slTrim k) s p H)
theorem p_minus (k : ParK PR) (s : Bs) (H : Heap) : Good PR GT zAr [.str s,.str [45]] H (.str (zCo s).2) H:=by
 have h:=p_trimP (GT:=GT) k s [45] H
 have e : (if ([45] : Bs).isPrefixOf s = true then s.drop ([45] : Bs).length else s) = (zCo s).2:=by
  cases s with
  | nil=>rfl
  | cons c r=>
   unfold zCo
   by_cases hc : c = 45
   ·subst hc; rfl
   ·have h1 : ([45] : Bs).isPrefixOf (c :: r) = false:=by
     simp only [List.isPrefixOf,zOE]
     exact tN (fun e=>hc e.symm)
    rw [h1]; simp only [zMe hc]; rfl
 rw [e] at h; exact h
theorem p_wrong (k : ParK PR) (n : Int) (H : Heap) : Good PR GT zDb [zK n] H (v3 4 n) H:=zN k.hm k.wrong (wrong_ev n H)
theorem p_is (k : ParK PR) (b : Bool) (H : Heap) : Good PR GT zDK [.bool b] H (v3 3 (if b = true then 1 else 0)) H:=zN k.hm k.is (is_ev b H)
theorem p_called (k : ParK PR) (s : Bs) (H : Heap) (hl : s.length ≤ 1000) : Good PR GT zBZ [.str s] H (.bool (zBX s)) H:=zN k.hm k.called (called_ev (p_trim k) s H hl)
theorem p_dollar (k : ParK PR) (b : Nat) (t : Bs) (H : Heap) (hb : H[b]? = some (.box [.str t])) : Good PR GT zDc [pR b] H (.bool (dollar t).1) (H.set b (.box [.str (dollar t).2])):=(zAc k.hm k.dollar (dollar_ev b t H hb .undef)).1 _ _ rfl
theorem p_ref (k : ParK PR) (s : Bs) (H : Heap) (hl : s.length ≤ 1000) : Good PR GT zA6 [.str s] H (refV (zCu s)) H:=zN k.hm k.ref (ref_ev (p_dollar k) s H hl)
theorem p_whole (k : ParK PR) (g : ParG PR GT) (s : Bs) (H : Heap) (hl : s.length ≤ 1000) : ∃ n0,Good PR GT zB7 [.str s] H (wholeV (wholeS s) n0) H:=by
 obtain ⟨n0,h⟩:=whole_ev (p_trim k) (p_minus k) g.atoi g.atoi2 s H hl
 exact ⟨n0,zN k.hm k.whole h⟩
theorem p_lit (k : ParK PR) (g : ParG PR GT) (s : Bs) (H : Heap) : Good PR GT zAM [.str s] H (litV (litP s)) H:=zN k.hm k.lit (literal_ev g.texts (p_is k) (p_wrong k) s H)
theorem zJc (k : ParK PR) (c : UInt8) (H : Heap) : Good PR GT zAU [byV c] H (.bool (z6 c)) H:=zN k.hm k.wordly (fwordly_ev c H)
theorem zIH (k : ParK PR) (b : Nat) (s : Bs) (p d : Nat) (a e : Int) (H : Heap) (hb : H[b]? = some (rdB s p d)) : Good PR GT zX (.pan .undef :: [pR b,.int .i64 a,zFX e]) H zFB (H.set b (.box (wkC s))):=(zAc k.hm k.fail (ffail_ev b s p d a e H hb)).2 rfl
theorem zGd (k : ParK PR) (b : Nat) (s : Bs) (p d : Nat) (H : Heap) (hb : H[b]? = some (rdB s p d)) (hp : p ≤ s.length) (hl : s.length ≤ 200) : Good PR GT za [pR b] H (.tup []) (H.set b (rdB s (skip s p) d)):=(zAc k.hm k.blanks (blanks_ev b s p d H hb hp hl)).1 _ _ rfl
theorem p_word (k : ParK PR) (b : Nat) (s : Bs) (p d : Nat) (H : Heap) (hb : H[b]? = some (rdB s p d)) (hp : p ≤ s.length) (hl : s.length ≤ 200) : Good PR GT zw [pR b] H (.str (sub s p (zCJ s p))) (H.set b (rdB s (zCJ s p) d)):=(zAc k.hm k.word (word_ev (zJc k) b s p d H hb hp hl)).1 _ _ rfl
theorem p_opOf (k : ParK PR) (t : Bs) (H : Heap) (h : zBK t ≠ 0) : Good PR GT zCI [.str t] H (zJ (zBK t)) H:=zN k.hm k.opOf (opOf_ev t H h)
theorem p_want (k : ParK PR) (c : UInt8) (b : Nat) (s : Bs) (p d : Nat) (H : Heap) (hb : H[b]? = some (rdB s p d)) (hp : p ≤ s.length) (hl : s.length ≤ 200) :
  (s[skip s p]? = some c → Good PR GT zx [pR b,byV c] H (.tup []) (H.set b (rdB s (skip s p + 1) d))) ∧ (s[skip s p]? ≠ some c → Good PR GT zx (.pan .undef :: [pR b,byV c]) H zFB (H.set b (.box (wkC s)))):=
 have h:=zAc k.hm k.want (want_ev (C:=Good PR GT) (GT:=GT) (zGd k) (zIH k) c b s p d H hb hp hl)
 ⟨fun hc=>h.1 _ _ (zMg hc),fun hc=>h.2 (zMe hc)⟩
theorem p_within (k : ParK PR) (f : Nat) (caps : List AV) (a : Int) (b : Nat) (s : Bs) (p d : Nat) (H : Heap) (r : Option (Nd × Nat)) (hb : H[b]? = some (rdB s p d)) (hd : d ≤ 1000)
  (hC : ∀ H',H'[b]? = some (rdB s p (d + 1)) → Off H b H' → CR (Good PR GT) f caps H' b s (d + 1) r) : CR (Good PR GT) zq [pR b,.int .i64 a,.fn f [] caps] H b s d (if d = 30 then none else r):=
 zMU k.hm k.within (within_ev (zIH k) f caps a b s p d H hb hd r hC)
theorem p_text (k : ParK PR) (b : Nat) (s : Bs) (p d : Nat) (H : Heap) (hb : H[b]? = some (rdB s p d)) (hp : p < s.length) (hl : s.length ≤ 200) : CR (Good PR GT) zAw [pR b] H b s d ((quo (s.drop (p + 1)) (p + 1)).map fun q=>(txtN q.1,q.2)):=
 zMU k.hm k.text (text_ev (zIH k) b s p d H hb hp hl)
theorem p_plain (k : ParK PR) (g : ParG PR GT) (t : Bs) (H : Heap) (hl : t.length ≤ 1000) (h45 : t.head? ≠ some 45) (h35 : t.head? ≠ some 35) : Good PR GT zAZ [.str t] H (zJZ (zMO t)) H:=zN k.hm k.plain (plain_ev (p_whole k g) (p_lit k g) (p_ref k) t H hl h45 h35)
theorem p_prim (k : ParK PR) (g : ParG PR GT) (b : Nat) (s : Bs) (p d : Nat) (H : Heap) (hb : H[b]? = some (rdB s p d)) (hp : p ≤ s.length) (hl : s.length ≤ 200) (hd : d ≤ 1000) (h32 : s[p]? ≠ some 32) (h45 : s[p]? ≠ some 45)
  (hPa : s[p]? = some 40 → ∀ H' rb,H'[b]? = some (rdB s p (d + 1)) → H'[rb]? = some (.box [pR b]) → CR (Good PR GT) zAQ [pR rb] H' b s (d + 1) (parS s p (d + 1)))
  (hCl : ∀ e t,s[e]? = some 40 → p < e → ∀ H' rb sb,H'[b]? = some (rdB s e (d + 1)) → H'[rb]? = some (.box [pR b]) → H'[sb]? = some (.box [.str t]) → CR (Good PR GT) zAG [pR rb,pR sb] H' b s (d + 1) (zG3 s t e (d + 1))) :
  CR (Good PR GT) zAv [pR b] H b s d (zCD s (P s) p d):=by
 refine zMU k.hm k.prim ?_
 by_cases hlt : p < s.length
 ·obtain ⟨c,hc⟩ : ∃ c,s[p]? = some c:=⟨_,zMf hlt⟩
  by_cases h40 : c = 40
  ·subst h40; exact prim_par (p_within k) b s p d H hb hp hl hd hc hPa
  by_cases h34 : c = 34
  ·subst h34; exact prim_txt (p_text k) b s p d H hb hp hl hd hc
  by_cases h35 : c = 35
  ·subst h35; exact prim_bad (zIH k) (p_lit k g) b s p d H hb hp hl hd hc
  by_cases hw : z6 c = true
  ·by_cases h41 : s[zCJ s p]? = some 40
   ·by_cases hcd : zBX (sub s p (zCJ s p)) = true
    ·exact prim_call (zJc k) (p_word k) (p_called k) (p_within k) b s p d H hb hp hl hd c hc hw h41 hcd hCl
    ·exact prim_plain1 (zIH k) (zJc k) (p_word k) (p_called k) (p_plain k g) b s p d H hb hp hl hd c hc hw h41 hcd
   ·exact prim_plain2 (zIH k) (zJc k) (p_word k) (p_plain k g) b s p d H hb hp hl hd c hc hw h41
  ·exact prim_else (zIH k) (zJc k) b s p d H hb hp hl hd c hc h32 h45 h40 h34 h35 hw
 ·exact prim_fin (zIH k) b s p d H hb hp hl hd hlt
theorem tw_zero (s : Bs) (p d : Nat) : twS s 0 p d = bl s ((P s).loose 1 p d):=zMe (by decide)
theorem p_two (k : ParK PR) (g : ParG PR GT) (b : Nat) (s : Bs) (hl : s.length ≤ 200) : ∀ n p,p ≤ s.length → s.length - p = n → ∀ d H,d + (s.length - p) ≤ 500 → H[b]? = some (rdB s p d) →
  CR (Good PR GT) zAK [pR b] H b s d ((P s).one p d) ∧ ∀ l,l ≤ 4 → CR (Good PR GT) zl [pR b,zJ l] H b s d (twS s l p d):=by
 intro n
 induction n using Nat.strongRecOn with
 | _ n ih=>
  intro p hp hn d H hd hb
  have ih':=fun p' (h1 : p < p') (h2 : p' ≤ s.length) d' H' h3 h4=>ih (s.length - p') tO p' h2 rfl d' H' h3 h4
  clear ih
  have h0 : ∀ p',p < p' → p' ≤ s.length → ∀ d' H',d' + (s.length - p') ≤ 500 → H'[b]? = some (rdB s p' d') → CR (Good PR GT) zl [pR b,zK 0] H' b s d' (bl s ((P s).loose 1 p' d')):=fun p' h1 h2 d' H' h3 h4=>by
   have:=(ih' p' h1 h2 d' H' h3 h4).2 0 tO
   rw [tw_zero] at this
   exact this
  have hneg : ∀ H,H[b]? = some (rdB s p d) → CR (Good PR GT) zAK [pR b] H b s d ((P s).one p d):=fun H hb=>by
   have hq:=zEg s p
   have hq2:=zBo hp
   refine zMU k.hm k.neg (neg_ev (zGd k) (p_within k) b s p d H hb hp hl tO (fun h45 H' rb h1 h2=>?_) (fun h45 H' h1=>?_))
   ·have hlt:=(zg h45).1
    exact zMU k.hm k.negc (negc_ev b rb s (skip s p) (d + 1) H' h1 h2 hlt hl fun H'' h3=>(ih' (skip s p + 1) tO tO (d + 1) H'' tO h3).1)
   ·refine p_prim k g b s (skip s p) d H' h1 hq2 hl tO (skip_at s p) h45 (fun h40 H'' rb h2 h3=>?_) (fun e t h40 he H'' rb sb h2 h3 h4=>?_)
    ·have hlt:=(zg h40).1
     exact zMU k.hm k.prim1 (par_ev (p_want k) b rb s (skip s p) (d + 1) H'' h2 h3 hlt hl fun H3 h4=>h0 (skip s p + 1) tO tO (d + 1) H3 tO h4)
    ·have hlt:=(zg h40).1
     refine zMU k.hm k.prim2 (callc_ev b rb sb s t e (d + 1) H'' h2 h3 h4 _ fun H3 h5=>?_)
     refine zMU k.hm k.call (call_ev (zGd k) (p_want k) t b s e (d + 1) H3 h5 hlt hl fun a H4 h6 h7 h8=>?_)
     have ha:=zEg s a
     have ha2:=zBo h7
     refine zMU k.hm k.argument (arg_ev (zGd k) (zIH k) (p_word k) (p_ref k) b s a (d + 1) H4 h8 h7 hl fun H5 h9=>?_)
     have:=h0 (skip s a) tO ha2 (d + 1) H5 tO h9
     rw [loose_skip 1 (d + 1) h7] at this
     exact this
  refine ⟨hneg H hb, ?_⟩
  have hall : ∀ j l,l + j = 4 → ∀ H,H[b]? = some (rdB s p d) → CR (Good PR GT) zl [pR b,zJ l] H b s d (twS s l p d):=by
   intro j
   induction j with
   | zero=>
    intro l hlj H hb
    exact zMU k.hm k.two (two_ev (zGd k) (p_opOf k) (p_pre k) g.loose l b s p d H hb hp hl tO (fun H' _ h=>hneg H' h) (fun a H' h=>by omega))
   | succ j ihj=>
    intro l hlj H hb
    refine zMU k.hm k.two (two_ev (zGd k) (p_opOf k) (p_pre k) g.loose l b s p d H hb hp hl tO (fun H' h=>by omega) (fun a H' h1 h2 h3 h4 h5=>?_))
    rcases h4 with rfl | h4
    ·exact ihj (l + 1) tO H' h5
    ·exact (ih' a h4 h3 d H' tO h5).2 (l + 1) tO
  exact fun l hl4=>hall (4 - l) l tO H hb
end
end Go.AM
namespace Go.AM
open Go.RowKit Go.Proofs
def zFD : Value:=.iface 151 (.agg #[.pointer (some ⟨11,28,none⟩)])
def gtQ (m : Int) (ev : Value) : Nat → Option AV
 | 0=>some (.raw zFD)
 | 1=>some looseV
 | 2=>some textsV
 | 6=>some (.raw ev)
 | _=>none
set_option maxRecDepth 100000 in
theorem as_good {m : Int} {ev : Value} (n old : Int) (b : Nat) (H : Heap) (hb : H[b]? = some (.box [.int .i64 old])) : Good Tryz.prog (gtQ m ev) zIU [.iface zT (.int .i64 n),.iface zHH (.ref b 0 0 0)] H (.bool true) (H.set b (.box [.int .i64 n])):=by
 intro w M I cargs hS hA
 obtain ⟨v,u,rfl,hv,hu⟩:=relL_two hA
 cases hv with
 | iface _ _ v' hv'=>
 obtain rfl:=rel_int' hv'
 cases hu with
 | iface _ _ u' hu'=>
 cases hu' with
 | ref _ _ _ _ g o hbn hM=>
 have h0:=hS.glob 0 (.raw zFD) rfl
 have hg : w.cell? ⟨0,0,none⟩ = some zFD:=by
  cases h0 with
  | lref _ _ _ _ V hI hx hvv hr=>
   have h1:=hvv 0 (.raw zFD) rfl
   have h2:=hr 0 (.raw zFD) rfl
   rw [h1,rel_raw' h2]
 obtain ⟨g',o',cur,h1,hC,h3,h4,h5⟩:=hS.blk b _ hb
 rw [hM] at h1
 simp only [zMc,zMj] at h1
 obtain ⟨rfl,rfl⟩:=h1
 obtain ⟨u0,e1,e2⟩:=h5 0 _ rfl
 obtain rfl:=rel_int' e2
 rw [zOd] at e1
 have ht0 : w.cell? ⟨g,o,none⟩ = some (.int .i64 old):=by rw [hC.cell?]; exact e1
 have hf0 : w.frozen? ⟨g,o,none⟩ = false:=by
  obtain ⟨e,fz,hg',hfz⟩:=hC
  have hlt:=(zMx.1 e1).1
  have:=hfz o hlt
  simp only [World.frozen?,hg',zOu,zNR]
  by_cases h : fz.1 ≤ o
  ·exact .inr fun h'=>this ⟨h,h'⟩
  ·exact .inl h
 rw [run_enter Tryz.func49 (by kernel_rfl) (by kernel_rfl)]
 refine (Go.Proofs.YthllabjbdobpgaaGreatDoor.As.as_hit n ⟨g,o,none⟩ (.int .i64 old) w hg ht0 hf0).mono ?_
 rintro e w' ⟨rfl,rfl⟩
 refine ⟨_,rfl,M,I, ?_⟩
 obtain ⟨G1,S1⟩:=zGZ hS (((((Below.refl w.heap.size w).alloc (zMh _) (.cells #[.pointer (some ⟨g,o,none⟩)] 93)).alloc (by simp <;> omega) (.cells #[.pointer (some ⟨11,93,none⟩),.pointer (some ⟨w.heap.size,0,none⟩),.int .u64 150] 125)).alloc (by simp <;> omega) (.cells #[.pointer (some ⟨11,93,none⟩),.pointer (some ⟨w.heap.size,0,none⟩),.int .u64 150] 125)).alloc (by simp <;> omega) (.cells #[.int .i64 n] 51))
 obtain ⟨G2,S2⟩:=grow_setBox S1 hb hM (x:=.int .i64 n) (v:=.int .i64 n) (fun _=>.int _ _)
 exact ⟨G1.trans G2,S2,.bool true⟩
section
variable {C : CSpec} {GT : Nat → Option AV}
theorem told_nil_ev (H : Heap) : EFun C GT zHM [.nili] H (.int .i64 0) H:=by
 refine zS rfl ?_; refine zH ?_
 exact sRr
theorem told_err_ev (hA : ∀ (n old : Int) (b : Nat) (H : Heap),H[b]? = some (.box [.int .i64 old]) → C zIU [.iface zT (.int .i64 n),.iface zHH (.ref b 0 0 0)] H (.bool true) (H.set b (.box [.int .i64 n])))
  (n : Int) (H : Heap) : EFun C GT zHM [zFX n] H (.int .i64 n) H:=by
 refine zS rfl ?_; refine zG ?_
 have h:=hA n 0 H.length (H ++ [ABlk.box [.int .i64 0]]) zD
 refine zp h (fun h=>by cases h) ?_; refine zH ?_; refine zB (.int .i64 n) (zE zD) rfl ?_
 exact zBO rfl rfl rfl rfl ((Old.refl H).pushSet _ _)
theorem same_ev (hT0 : ∀ H,C zDJ [.nili] H (.int .i64 0) H) (hT : ∀ n H,C zDJ [zFX n] H (.int .i64 n) H) (x : AV) (n e : Int) (hx : ErrIs x n) (H : Heap) : EFun C GT zHL [x,.int .i64 e] H (.bool (n == e)) H:=by
 rcases hx with ⟨rfl,rfl⟩ | rfl
 ·refine zI (hT0 H) ?_
  exact sRr
 ·refine zI (hT n H) ?_
  exact sRr
end
end Go.AM
namespace Go.AM
inductive Sh where
 | bool
 | int (k : IntKind)
 | str
 | sl (ag : Bool) (es : List Sh)
 deriving Inhabited
def formed (ag : Bool) (x : AV) : Prop:=
 match ag with
 | true=>∃ cs,x = .agg cs
 | false=>x.cells = [x]
inductive Fits : Sh → AV → Prop where
 | bool (b : Bool) : Fits .bool (.bool b)
 | int (k : IntKind) (n : Int) (h : (Lit.int k n).wf = true) : Fits (.int k) (.int k n)
 | str (s : List UInt8) (h : s.length ≤ maxLen) : Fits .str (.str s)
 | sl (ag : Bool) (es : List Sh) (q : Bool) (xs : List AV) (hl : xs.length ≤ maxLen) (hq : q = true → xs = []) (h1 : ∀ x ∈ xs,x.cells.length = es.length ∧ formed ag x)
   (h2 : ∀ x ∈ xs,∀ (i : Nat) (s : Sh) (c : AV),es[i]? = some s → x.cells[i]? = some c → Fits s c) : Fits (.sl ag es) (.lst (some q) es.length xs)
def shFs (r : TypeId → Option (Bool × List Sh)) (P : Program) : List Field → Nat → Option (List Sh)
 | [],_=>some []
 | f :: fs,o=>if f.offset = o then (match r f.type with
  | some (_,ss)=>if P.cellsOf f.type = ss.length then (shFs r P fs (o + ss.length)).map (ss ++ ·) else none
  | none=>none) else none
def shOf (P : Program) : Nat → TypeId → Option (Bool × List Sh)
 | 0,_=>none
 | m + 1,t=>match P.underlying t with
  | some .bool=>some (false,[.bool])
  | some (.int k)=>some (false,[.int k])
  | some .string=>some (false,[.str])
  | some (.slice e)=>(match shOf P m e with
   | some (ag,es)=>if P.cellsOf e = es.length ∧ 0 < es.length ∧ (ag = true ∨ es.length = 1) then some (false,[.sl ag es]) else none
   | none=>none)
  | some (.struct fs)=>(match shFs (shOf P m) P fs.toList 0 with
   | some ss=>if P.cellsOf t = ss.length then some (true,ss) else none
   | none=>none)
  | _=>none
theorem zF5 {α β : Type} {f : α → Option β} : ∀ {l : List α} {r : List β},l.mapM f = some r → r.length = l.length ∧ ∀ (i : Nat) (x : α),l[i]? = some x → ∃ y,r[i]? = some y ∧ f x = some y
 | [],r,h=>by
  simp at h; subst h; exact ⟨rfl,fun i x hx=>by simp at hx⟩
 | a :: l,r,h=>by
  simp only [zPB,Option.bind_eq_bind,Option.pure_def] at h
  obtain ⟨y,hy,h⟩:=zNH.1 h
  obtain ⟨ys,hys,h⟩:=zNH.1 h
  simp only [zMc] at h
  subst h
  obtain ⟨h1,h2⟩:=zF5 hys
  refine ⟨by simp [h1],fun i x hx=>?_⟩
  cases i with
  | zero=>simp at hx; subst hx; exact ⟨y,rfl,hy⟩
  | succ i=>simp at hx; obtain ⟨z,e1,e2⟩:=h2 i x hx; exact ⟨z,by simpa using e1,e2⟩
theorem list_of {p : Nat → AV → Prop} : ∀ n,(∀ i,i < n → ∃ x,p i x) → ∃ xs : List AV,xs.length = n ∧ ∀ i x,xs[i]? = some x → p i x
 | 0,_=>⟨[],rfl,fun i x h=>by simp at h⟩
 | n + 1,h=>by
  obtain ⟨xs,h1,h2⟩:=list_of n fun i hi=>h i tO
  obtain ⟨x,hx⟩:=h n tO
  refine ⟨xs ++ [x],by simp [h1],fun i y hy=>?_⟩
  by_cases hi : i < n
  ·rw [zMo tO] at hy; exact h2 i y hy
  ·rw [zMu tO] at hy
   have : i - xs.length = 0:=by
    have:=(zg hy).1
    simp at this; omega
   rw [this] at hy; simp at hy; subst hy
   have : i = n:=by omega
   subst this; exact hx
theorem Fits.free {s : Sh} {x : AV} (h : Fits s x) : x.noRef = true ∧ x.one = true ∧ x.cells = [x]:=by
 cases h <;> exact ⟨rfl,rfl,rfl⟩
theorem zKD {w : World} {a : Addr} {v : Value} (h : w.cell? a = some v) : a.block < w.heap.size ∧ a.spot = none:=by
 unfold World.cell? at h
 split at h
 ·rename_i hb
  split at h
  ·cases h
  ·rename_i hs
   refine ⟨?_,by simpa using hs⟩
   obtain ⟨hlt,_⟩:=zMx.1 hb
   exact hlt
 ·cases h
structure Stands (w : World) (ss : List Sh) (xs : List AV) (cs : List Value) : Prop where
 len : xs.length = ss.length
 clen : cs.length = ss.length
 fits : ∀ (i : Nat) (s : Sh) (x : AV),ss[i]? = some s → xs[i]? = some x → Fits s x
 rel : ∀ (i : Nat) (x : AV) (v : Value),xs[i]? = some x → cs[i]? = some v → Rel w (fun _=>none) (zFA w) 0 x v
theorem Stands.fits' {w : World} {ss : List Sh} {xs : List AV} {cs : List Value} (h : Stands w ss xs cs) {x : AV} (hx : x ∈ xs) : ∃ s,Fits s x:=by
 obtain ⟨i,hi⟩:=zNO hx
 have hlt:=(zg hi).1
 exact ⟨ss[i]'(by rw [← h.len]; exact hlt),h.fits i _ x (zMf _) hi⟩
theorem zF6 {w : World} {s : Sh} {x : AV} {v : Value} (hf : Fits s x) (hr : Rel w (fun _=>none) (zFA w) 0 x v) : Stands w [s] [x] [v] where
 len:=rfl
 clen:=rfl
 fits:=fun i s' x' h1 h2=>by
  cases i with
  | zero=>simp at h1 h2; subst h1; subst h2; exact hf
  | succ i=>simp at h1
 rel:=fun i x' v' h1 h2=>by
  cases i with
  | zero=>simp at h1 h2; subst h1; subst h2; exact hr
  | succ i=>simp at h1
section
variable {H : Type} {enc : TypeId × Value → H} {P : Program} {w : World} {held : Bool}
theorem stands_fields {fuel m : Nat} (ih : ∀ (t : TypeId) (cs : List Value) (d : DataW H) (ps : List MemPlace) (ag : Bool) (ss : List Sh),DataW.trod enc P w 0 (fun _=>true) held fuel t cs = some (d,ps) → shOf P m t = some (ag,ss) → ∃ xs,Stands w ss xs cs)
  (cs : List Value) : ∀ (fs : List Field) (o : Nat) (ss : List Sh) (r : List (DataW H × List MemPlace)),(fs.mapM fun f=>DataW.trod enc P w 0 (fun _=>true) held fuel f.type ((cs.drop f.offset).take (P.cellsOf f.type))) = some r → shFs (shOf P m) P fs o = some ss →
  ∃ xs : List AV,xs.length = ss.length ∧ (∀ (i : Nat) (s : Sh) (x : AV),ss[i]? = some s → xs[i]? = some x → Fits s x) ∧ ∀ (i : Nat) (x : AV) (v : Value),xs[i]? = some x → cs[o + i]? = some v → Rel w (fun _=>none) (zFA w) 0 x v:=by
 intro fs
 induction fs with
 | nil=>
  intro o ss r _ hs
  simp only [shFs,zMc] at hs
  subst hs
  exact ⟨[],rfl,fun i s x h=>by simp at h,fun i x v h=>by simp at h⟩
 | cons f fs ihf=>
  intro o ss r h hs
  unfold shFs at hs
  split at hs
  case isFalse=>cases hs
  rename_i ho
  split at hs
  case h_2=>cases hs
  rename_i ag ss1 h1
  split at hs
  case isFalse=>cases hs
  rename_i hc
  obtain ⟨ss2,h2,rfl⟩:=zMk.1 hs
  simp only [zPB,Option.bind_eq_bind,Option.pure_def] at h
  obtain ⟨⟨d,p⟩,hy,h⟩:=zNH.1 h
  obtain ⟨ys,hys,_⟩:=zNH.1 h
  obtain ⟨xs1,S1⟩:=ih _ _ _ _ _ _ hy h1
  obtain ⟨xs2,e1,e2,e3⟩:=ihf _ _ _ hys h2
  refine ⟨xs1 ++ xs2,by rw [zMn,zMn,S1.len,e1],fun i s x h3 h4=>?_,fun i x v h3 h4=>?_⟩
  ·by_cases hi : i < ss1.length
   ·rw [zMo hi] at h3
    rw [zMo (by rw [S1.len]; exact hi)] at h4
    exact S1.fits i s x h3 h4
   ·rw [zMu tO] at h3
    rw [zMu (by rw [S1.len]; omega),S1.len] at h4
    exact e2 _ s x h3 h4
  ·by_cases hi : i < ss1.length
   ·rw [zMo (by rw [S1.len]; exact hi)] at h3
    refine S1.rel i x v h3 ?_
    rw [zNC,zMg (by rw [hc]; exact hi),zNF,ho]
    exact h4
   ·rw [zMu (by rw [S1.len]; omega),S1.len] at h3
    refine e3 _ x v h3 ?_
    rw [← h4]; congr 1; omega
theorem cells_spec {a : Addr} {n : Nat} {cs : List Value} (h : w.cells? 0 a n = some cs) : cs.length = n ∧ ∀ j v,cs[j]? = some v → w.cell? (a.add j) = some v:=by
 unfold World.cells? at h
 rw [zMg (zNX _)] at h
 obtain ⟨h1,h2⟩:=zF5 h
 rw [zOK] at h1
 refine ⟨h1,fun j v hj=>?_⟩
 have hlt : j < n:=by rw [← h1]; exact (zg hj).1
 obtain ⟨y,e1,e2⟩:=h2 j j (by rw [zNr hlt])
 rw [e1] at hj
 simp only [zMc] at hj
 subst hj; exact e2
theorem stands_of_trod : ∀ (fuel : Nat) (t : TypeId) (cs : List Value) (d : DataW H) (ps : List MemPlace) (m : Nat) (ag : Bool) (ss : List Sh),
  DataW.trod enc P w 0 (fun _=>true) held fuel t cs = some (d,ps) → shOf P m t = some (ag,ss) → ∃ xs,Stands w ss xs cs:=by
 intro fuel
 induction fuel with
 | zero=>intro t cs d ps m ag ss h; simp [DataW.trod] at h
 | succ fuel ih=>
  intro t cs d ps m ag ss h hs
  cases m with
  | zero=>simp [shOf] at hs
  | succ m=>
  unfold shOf at hs
  split at hs
  ·-- bool
   rename_i hu
   simp only [zMc,zMj] at hs
   obtain ⟨_,rfl⟩:=hs
   rcases cs with _ | ⟨c,_ | ⟨c',cs⟩⟩
   ·simp [DataW.trod,hu] at h
   ·cases c <;> simp [DataW.trod,hu] at h
    exact ⟨_,zF6 (.bool _) (.bool _)⟩
   ·simp [DataW.trod,hu] at h
  ·rename_i k hu
   simp only [zMc,zMj] at hs
   obtain ⟨_,rfl⟩:=hs
   rcases cs with _ | ⟨c,_ | ⟨c',cs⟩⟩
   ·simp [DataW.trod,hu] at h
   ·cases c <;> simp [DataW.trod,hu] at h
    obtain ⟨⟨rfl,hw⟩,_⟩:=h
    exact ⟨_,zF6 (.int _ _ hw) (.int _ _)⟩
   ·simp [DataW.trod,hu] at h
  ·rename_i hu
   simp only [zMc,zMj] at hs
   obtain ⟨_,rfl⟩:=hs
   rcases cs with _ | ⟨c,_ | ⟨c',cs⟩⟩
   ·simp [DataW.trod,hu] at h
   ·cases c <;> simp [DataW.trod,hu] at h
    rename_i s
    have hl : s.data.toList.length ≤ maxLen:=by
     have h1 : s.size ≤ maxLen:=h.1
     exact h1
    exact ⟨_,zF6 (.str s.data.toList hl) (rel_str _ _ _ _ s)⟩
   ·simp [DataW.trod,hu] at h
  ·-- a slice
   rename_i e hu
   split at hs
   case h_2=>cases hs
   rename_i ag' es he
   split at hs
   case isFalse=>cases hs
   rename_i hk
   obtain ⟨hk,hk0,hk1⟩:=hk
   simp only [zMc,zMj] at hs
   obtain ⟨_,rfl⟩:=hs
   rcases cs with _ | ⟨c,_ | ⟨c',cs⟩⟩
   ·simp [DataW.trod,hu] at h
   rotate_left
   ·simp [DataW.trod,hu] at h
   cases c
   case slice a len cap=>
    cases a with
    | none=>
     cases len <;> cases cap <;> simp [DataW.trod,hu] at h
     exact ⟨_,zF6 (.sl ag' es true [] (zNX _) (fun _=>rfl) (fun x hx=>absurd hx (by simp)) (fun x hx=>absurd hx (by simp))) (.lnil _ _ (by simp))⟩
    | some a=>
     simp only [DataW.trod,hu] at h
     split at h
     case isFalse=>cases h
     rename_i hb
     obtain ⟨elems,h1,h⟩:=zNH.1 h
     obtain ⟨rest,h2,_⟩:=zMk.1 h
     simp only [zND] at h2
     have at_ : ∀ (i : Nat) (y : DataW H × List MemPlace),((w.cells? 0 (a.add (i * P.cellsOf e)) (P.cellsOf e)).bind (DataW.trod enc P w 0 (fun _=>true) held fuel e)) = some y →
       ∃ xs ci,Stands w es xs ci ∧ ∀ j v,ci[j]? = some v → w.cell? ((a.add (i * es.length)).add j) = some v:=by
      intro i y hy
      obtain ⟨ci,e1,e2⟩:=zNH.1 hy
      obtain ⟨xs,S⟩:=ih e ci y.1 y.2 m ag' es e2 he
      obtain ⟨e3,e4⟩:=cells_spec e1
      exact ⟨xs,ci,S,by rw [← hk]; exact e4⟩
     obtain ⟨l1,l2⟩:=zF5 h1
     obtain ⟨l3,l4⟩:=zF5 h2
     rw [zOK] at l1 l3
     have elem : ∀ i,i < len → ∃ x : AV,(x.cells.length = es.length ∧ formed ag' x) ∧ (∀ (j : Nat) (s : Sh) (c : AV),es[j]? = some s → x.cells[j]? = some c → Fits s c) ∧ x.elem es.length = true ∧
       ∀ j c,x.cells[j]? = some c → ∃ v,w.cell? ((a.add (i * es.length)).add j) = some v ∧ Rel w (fun _=>none) (zFA w) 0 c v:=by
      intro i hi
      obtain ⟨y,_,hy⟩:=l2 i i (by rw [zNr hi])
      obtain ⟨xs,ci,S,hci⟩:=at_ i y hy
      have hrel : ∀ j c,xs[j]? = some c → ∃ v,w.cell? ((a.add (i * es.length)).add j) = some v ∧ Rel w (fun _=>none) (zFA w) 0 c v:=fun j c hj=>by
       have hlt : j < ci.length:=by rw [S.clen,← S.len]; exact (zg hj).1
       exact ⟨ci[j],hci j _ (zMf hlt),S.rel j c _ hj (zMf hlt)⟩
      cases ag' with
      | true=>
       refine ⟨.agg xs,⟨S.len,xs,rfl⟩,S.fits,AV.elem_iff.2 ⟨S.len, ?_,fun c hc=>?_⟩,hrel⟩
       ·simp only [AV.noRef,AV.bel,AV.belL_iff]
        intro c hc
        obtain ⟨s,hs⟩:=S.fits' hc
        exact hs.free.1
       ·obtain ⟨s,hs⟩:=S.fits' hc
        exact hs.free.2.1
      | false=>
       have h1 : es.length = 1:=by
        rcases hk1 with h | h
        ·cases h
        ·exact h
       have hl:=S.len
       rw [h1] at hl
       obtain ⟨x,rfl⟩:=zPH.1 hl
       obtain ⟨s,hs⟩:=S.fits' (x:=x) (by simp)
       obtain ⟨f1,f2,f3⟩:=hs.free
       refine ⟨x,⟨by rw [f3,h1]; rfl,f3⟩,by rw [f3]; exact S.fits,AV.elem_iff.2 ⟨by rw [f3,h1]; rfl,f1,fun c hc=>?_⟩,by rw [f3]; exact hrel⟩
       rw [f3] at hc
       simp only [zNn] at hc
       rw [hc]; exact f2
     obtain ⟨X,x1,x2⟩:=list_of len elem
     have hmem : ∀ x ∈ X,∃ i,X[i]? = some x:=fun x hx=>zNO hx
     refine ⟨[.lst (some false) es.length X],zF6 (.sl ag' es false X tO (by simp) (fun x hx=>?_) (fun x hx=>?_)) ?_⟩
     ·obtain ⟨i,hi⟩:=hmem x hx; exact (x2 i x hi).1
     ·obtain ⟨i,hi⟩:=hmem x hx; exact (x2 i x hi).2.1
     ·by_cases hc0 : cap = 0
      ·have : len = 0:=by omega
       subst this; subst hc0
       obtain rfl:=zON x1
       exact .lemp _ _ a (by simp)
      ·have hcell : ∃ v,w.cell? a = some v:=by
        by_cases hl0 : len = 0
        ·obtain ⟨y,_,hy⟩:=l4 0 0 (by rw [zNr tO])
         obtain ⟨xs,ci,S,hci⟩:=at_ _ y hy
         have hlt : 0 < ci.length:=by rw [S.clen]; exact hk0
         have h0:=hci 0 _ (zMf hlt)
         simp only [hl0,zOd,zOp,Addr.add,zND] at h0
         exact ⟨_,h0⟩
        ·obtain ⟨y,_,hy⟩:=l2 0 0 (by rw [zNr tO])
         obtain ⟨xs,ci,S,hci⟩:=at_ _ y hy
         have hlt : 0 < ci.length:=by rw [S.clen]; exact hk0
         have h0:=hci 0 _ (zMf hlt)
         simp only [zOp,Addr.add,zND] at h0
         exact ⟨_,h0⟩
       obtain ⟨v0,hv0⟩:=hcell
       obtain ⟨g1,g2⟩:=zKD hv0
       obtain ⟨ab,ao,asp⟩:=a
       simp only at g1 g2
       subst g2
       rw [← x1]
       refine Rel.mk_lst (by simp) tO hb.2.2 g1 (fun x hx=>?_) (fun i j x c hi hj=>?_)
       ·obtain ⟨i,hi⟩:=hmem x hx; exact (x2 i x hi).2.2.1
       ·obtain ⟨v,e1,e2⟩:=(x2 i x hi).2.2.2 j c hj
        simp only [Addr.add_lit] at e1
        exact ⟨v,e1,e2⟩
   all_goals (simp [DataW.trod,hu] at h)
  ·rename_i fs hu
   split at hs
   case h_2=>cases hs
   rename_i ss' hs'
   split at hs
   case isFalse=>cases hs
   rename_i hc
   simp only [zMc,zMj] at hs
   obtain ⟨_,rfl⟩:=hs
   simp only [DataW.trod,hu] at h
   split at h
   case isFalse=>cases h
   rename_i hcl
   obtain ⟨r,hr,_⟩:=zMk.1 h
   obtain ⟨xs,e1,e2,e3⟩:=stands_fields (fun t cs d ps ag ss h1 h2=>ih t cs d ps m ag ss h1 h2) cs _ 0 ss' r hr hs'
   exact ⟨xs,e1,by rw [hcl,hc],e2,fun i x v h1 h2=>e3 i x v h1 (by rw [zNe]; exact h2)⟩
  ·cases hs
theorem zId {t : TypeId} {m : Nat} {s : Sh} {v : Value} {d : DataW H} {ps : List MemPlace} {r : Reach} {b0 : Nat} (hs : shOf P m t = some (false,[s])) (ho : Value.okWide P w r b0 t v) (h : DataW.Trod enc P w 0 (fun _=>true) held t v d ps) :
  ∃ x,Fits s x ∧ Rel w (fun _=>none) (zFA w) 0 x v:=by
 obtain ⟨fuel,h⟩:=h
 obtain ⟨xs,S⟩:=stands_of_trod fuel t _ d ps m false [s] h hs
 have hl:=S.len
 obtain ⟨x,rfl⟩:=zPH.1 hl
 have hv : v.cells.toList = [v]:=by
  cases m with
  | zero=>simp [shOf] at hs
  | succ m=>
  unfold shOf at hs
  unfold Value.okWide at ho
  split at hs
  all_goals first
   | (cases hs; done)
   | skip
  ·rename_i hu; rw [hu] at ho; simp only [Cell.okWide,hu,Cell.ok] at ho
   cases v <;> first | rfl | (simp at ho)
  ·rename_i hu; rw [hu] at ho; simp only [Cell.okWide,hu,Cell.ok] at ho
   cases v <;> first | rfl | (simp at ho)
  ·rename_i hu; rw [hu] at ho; simp only [Cell.okWide,hu,Cell.ok] at ho
   cases v <;> first | rfl | (simp at ho)
  ·rename_i hu; rw [hu] at ho; simp only [Cell.okWide,hu,Cell.ok] at ho
   cases v <;> first | rfl | (simp at ho)
  ·split at hs
   ·split at hs
    ·cases hs
    ·cases hs
   ·cases hs
 rw [hv] at S
 exact ⟨x,S.fits 0 s x rfl rfl,S.rel 0 x v rfl rfl⟩
end
end Go.AM
