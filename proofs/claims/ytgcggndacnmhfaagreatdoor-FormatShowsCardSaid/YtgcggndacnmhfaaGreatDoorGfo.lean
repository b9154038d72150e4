/- The contracts of FormatShows. Own work. -/
import Derived.Test.YtgcggndacnmhfaaGreatDoorLdQ3
import Derived.Test.YtgcggndacnmhfaaGreatDoorGItQFsb
import Derived.Test.YtgcggndacnmhfaaGreatDoorBk
import Derived.Test.YtgcggndacnmhfaaGreatDoorGFscPre
import Derived.Test.YtgcggndacnmhfaaGreatDoorFsh
import Derived.Test.YtgcggndacnmhfaaGreatDoorGFs8Bg0
set_option linter.all false
set_option maxRecDepth 100000
namespace Go.Proofs.YtgcggndacnmhfaaGreatDoor
open Go.AM Go.RowKit
abbrev GQ (m : Int) (ev : Value):=Go.AM.Good Tryz.prog (gtQ m ev)
section
variable {m : Int} {ev : Value}
theorem zL7 (b n : Nat) (ws : List Nat) (H : Heap) (hm : ws.length = n) (hb : H[b]? = some (.row 1 (ws.map zBX))) (hw : Small ws) (hl : n ≤ 1000000) : GQ m ev zb [.sl (some false) b 1 0 n] H (.sl (some false) b 1 0 (wds (wval ws)).length) H:=
 zG mixed zDA (zMh b n ws H hm hb hw hl)
theorem zMt (x : Nat) (H : Heap) (hx : x < 18446744073709551616) : GQ m ev z8 [zNZ x] H (zBs x) H:=zG mixed zCg (zLa zL7 x hx H)
theorem zL8 (b n : Nat) (neg : Bool) (x0 x1 : AV) (H : Heap) (hb : H[b]? = some (.box [x0,x1])) : GQ m ev zL [.ref b 0 0 0,.bool neg,zBs n] H (.ref b 0 0 0) (H.set b (.box [.bool (neg && decide (0 < n)),zBs n])):=
 zG mixed zAm (zMi b n neg x0 x1 H hb)
theorem zMu (b : Nat) (x0 x1 : AV) (H : Heap) (hb : H[b]? = some (.box [x0,x1])) : GQ m ev zL [.ref b 0 0 0,.bool false,.lst (some true) 1 []] H (.ref b 0 0 0) (H.set b (.box [.bool false,.lst (some true) 1 []])):=
 zG mixed zAm (zLg b x0 x1 H hb)
theorem zJA (b : Nat) (v : Int) (x0 x1 : AV) (H : Heap) (hb : H[b]? = some (.box [x0,x1])) (hv : zCf v) : GQ m ev zX [.ref b 0 0 0,zEK v] H (.ref b 0 0 0) (H.set b (.box (zFB v))):=
 zG mixed zBC (zHf zMt zL8 b v x0 x1 H hb hv)
theorem zLv : zCp Tryz.prog zV zIG = true:=by kernel_rfl
theorem zIJ (v : Int) (H : Heap) (hv : zCf v) : GQ m ev zV [zEK v] H (.ref H.length 0 0 0) (H ++ [.box (zFB v)]):=zG mixed zLv (zKU zJA v H hv)
theorem zL9 (av : AV) (n : Nat) (H : Heap) (ha : Mag av n) (hm : n ≠ 0) (hl : (wds n).length ≤ 100000) : GQ m ev zR [av] H (.lst (some false) 1 ((wds n).map zBX)) H:=zG mixed zBM (zMk av n H ha hm hl)
theorem zMv (H : Heap) : GQ m ev zR [zBs 0] H (.lst (some true) 1 []) H:=zG mixed zBM (zLf H)
theorem zMw (av : AV) (a d : Nat) (H : Heap) (ha : Mag av a) (hl : (wds a).length ≤ 100000) (hd0 : 0 < d) (hd : d < 4294967296) : GQ m ev zAA [av,zBX d] H (.tup [zBs (a / d),zBX (a % d)]) H:=
 zG mixed zCh (zLd zL7 av a d _ H ha rfl hl hd0 hd)
theorem zNl (b : Nat) (v : Int) (H : Heap) (hb : H[b]? = some (.box (zFB v))) (hv : v.natAbs < 10000000000000000000000) (hl : (wds v.natAbs).length ≤ 100) : GQ m ev zW [.ref b 0 0 0,zEK 10] H (.str (zHB v)) H:=
 zG mixed zAn (zLe zL9 zMw b v H hb hv hl)
theorem zIK (b : Nat) (v : Int) (H : Heap) (hb : H[b]? = some (.box (zFB v))) (hv : v.natAbs < 10000000000000000000000) (hl : (wds v.natAbs).length ≤ 100) : GQ m ev zN [.ref b 0 0 0] H (.str (zHB v)) H:=
 zG mixed zAX (zI4 zNl b v H hb hv hl)
theorem zLw (v : Int) (H : Heap) (hv : zCf v) : GQ m ev zAa [zEK v] H (.str (zHB v)) H:=zG mixed zD7 (zI5 zIJ zIK v H hv)
theorem zNm (b : Nat) (v : Int) (H : Heap) (hb : H[b]? = some (.box (zFB v))) : GQ m ev zh [.ref b 0 0 0] H (zEK (zLZ v)) H:=zG mixed zBr (zMn b v H hb)
theorem g_abs (b : Nat) (v : Int) (H : Heap) (hb : H[b]? = some (.box (zFB v))) (hv : zCf v) : GQ m ev zl [.ref b 0 0 0,.ref b 0 0 0] H (.ref b 0 0 0) (H.set b (.box (zMl v.natAbs))):=
 zG mixed zB4 (zNb zL9 zMv zL8 zMu b v H hb hv)
theorem zKj (b n : Nat) (H : Heap) (hb : H[b]? = some (.box (zMl n))) (hn : n ≤ 9223372036854775808) : GQ m ev zN [.ref b 0 0 0] H (.str (zBe n)) H:=by
 by_cases h0 : n = 0
 ·subst h0
  exact zG mixed zAX (zI6 H (zG mixed zAn (zLh b H hb)))
 ·have e2 : (4294967296 : Nat) ^ 2 = 18446744073709551616:=by decide
  have la : (wds n).length ≤ 2:=zHg (by rw [e2]; omega)
  have e : zMl n = zFB (n : Int):=by
   unfold zMl zFB
   rw [if_neg h0,tF,Int.natAbs_natCast]
  rw [e] at hb
  have h:=zIK (m:=m) (ev:=ev) b n H hb (by rw [Int.natAbs_natCast]; omega) (by rw [Int.natAbs_natCast]; omega)
  rw [zL6] at h
  exact h
theorem zFi (H : Heap) : GQ m ev zAj [.nili] H (.int .i64 0) H:=zG mixed zDy (zHh H)
theorem zFj (n : Int) (H : Heap) : GQ m ev zAj [zIx n] H (.int .i64 n) H:=zG mixed zDy (zHi (fun n old b H hb=>zMp n old b H hb) n H)
theorem zNn (H : Heap) : GQ m ev zw [.nili,zu 0] H (.bool true) H:=zG mixed zCW (zKa zFi zFj .nili 0 0 (.inl ⟨rfl,rfl⟩) H)
theorem zNo (H : Heap) : GQ m ev zw [zIx 2,zu 2] H (.bool true) H:=zG mixed zCW (zKa zFi zFj (zIx 2) 2 2 (.inr rfl) H)
theorem zHl (s p : List UInt8) (H : Heap) : GQ m ev zn [.str s,.str p] H (.bool (p.isPrefixOf s)) H:=zG mixed zB6 (zG9 s p H)
theorem zMx (s p : List UInt8) (H : Heap) : GQ m ev zm [.str s,.str p] H (.tup [.str (Lib.trimPrefix s p),.bool (Lib.hasPrefix s p)]) H:=zG mixed zB5 (zE1 zHl s p H)
theorem g_cpx : CpxH (GQ m ev):=fun s p H _=>zG mixed zC9 (zHA zMx s p H)
theorem zLx : QuoH (GQ m ev):=fun s H hl=>zG mixed zEz (zKK zLp s hl H)
theorem zMy : ZerH (GQ m ev):=fun s H hl=>zG mixed zFG (zLR zGI s hl H)
theorem zIL (s : Bs1) (H : Heap) : GQ m ev zAU [.str s] H (.tup [zC (zAL s).1,.bool (zAL s).2]) H:=zG mixed zGF (zMZ zLx zMy g_cpx s H)
theorem zKk (s : Bs1) (H : Heap) : GQ m ev zAZ [.str s] H (if (zAL s).2 = true then .nili else zIx 2) H:=zG mixed zFF (zGz zIL s H)
theorem zMA (s : Bs1) (H : Heap) : GQ m ev zAY [.str s] H (.tup [zC (zDm s).1,.bool (zDm s).2]) H:=zG mixed zFC (zMr s H)
theorem g_is (k n : Int) (t : Bs1) (H : Heap) : GQ m ev zAM [zBW k n t] H (.bool (isV k n t)) H:=zG mixed zG5 (is_ev k n t H)
theorem zLy (H : Heap) : GQ m ev zAb [] H (.lst (some false) 1 (wrF.map AV.str)) H:=zG mixed zD8 (zMo H)
theorem zMz (k n : Int) (t : Bs1) (h : isV k n t = true) (hn : zCf n) (H : Heap) : GQ m ev zAy [zBW k n t] H (.str (zGE k n t)) H:=zG mixed zFD (zLk zLw zLy k n t h hn H)
theorem zM0 (k n : Int) (t : Bs1) (h : isV k n t = true) (hk : k ≠ 1) (H : Heap) : GQ m ev zBU [zBW k n t] H (.str (zGE k n t)) H:=zG mixed zG6 (zLj rfl k n t h hk H)
theorem zM1 (f : FormP) (hf : 1 ≤ f.least ∧ f.least ≤ 40 ∧ f.point ≤ 6 ∧ f.ahead.length ≤ 40 ∧ f.behind.length ≤ 40) (n : Int) (hn : zCf n) (H : Heap) : GQ m ev zAz [zEK n,zC f] H (.str (zGC f n)) H:=
 zG mixed zFE (zKR zIJ (fun b v H h _=>zNm b v H h) g_abs zKj f tO hf.1 tO tO n hn (by have:=zNk hn; omega) H)
theorem zJB (k n : Int) (t s : Bs1) (h : (zAL s).2 = false) (H : Heap) : GQ m ev zAT [zBW k n t,.str s] H (.tup [.str [],zIx 2]) H:=zG mixed zB3 (zMb zIL k n t s h H)
theorem zM2 (k n : Int) (t s : Bs1) (f : FormP) (hk : isV k n t = true) (hn : zCf n) (h : zAL s = (f,true)) (hf : 1 ≤ f.least ∧ f.least ≤ 40 ∧ f.point ≤ 6 ∧ f.ahead.length ≤ 40 ∧ f.behind.length ≤ 40) (H : Heap) :
  GQ m ev zAT [zBW k n t,.str s] H (.tup [.str (if k = 1 then zGC f n else zGE k n t),.nili]) H:=by
 have h2 : (zAL s).2 = true:=by rw [h]
 by_cases hk1 : k = 1
 ·subst hk1
  rw [if_pos rfl]
  have e : (zAL s).1 = f:=by rw [h]
  have:=zG (GT:=gtQ m ev) mixed zB3 (zKN zIL n t s h2 hn (by rw [e]; omega) (by have:=zNk hn; omega) zE0 zHj H)
  rw [e] at this
  exact this
 ·rw [if_neg hk1]
  exact zG mixed zB3 (zI1 zIL k n t s _ h2 hk1 (zM0 k n t hk hk1) H)
theorem g_law (k n : Int) (t s : Bs1) (hn : zCf n) (H : Heap) : GQ m ev zA2 [zBW k n t,.str s] H (.bool true) H:=by
 cases hk : isV k n t with
 | false=>exact zG mixed zAO (zMc k n t s (fun H=>by have:=g_is (m:=m) (ev:=ev) k n t H; rwa [hk] at this) H)
 | true=>
  have hI : ∀ H,GQ m ev zAM [zBW k n t] H (.bool true) H:=fun H=>by have:=g_is (m:=m) (ev:=ev) k n t H; rwa [hk] at this
  rcases zKh s with ⟨f,h1,h2,h3⟩ | ⟨h2,h3⟩
  ·have hf:=zMs h1
   refine zG mixed zAO (zLT k n t s (zGE k n t) (if k = 1 then zGC f n else zGE k n t) f hI (fun H=>?_) (fun H=>?_) (zMz k n t hk hn) (fun e H=>?_) (fun e=>if_neg e) (zM2 k n t s f hk hn h3 hf) zNn H)
   ·have:=zMA (m:=m) (ev:=ev) s H; rwa [h2] at this
   ·have:=zKk (m:=m) (ev:=ev) s H; rwa [h3] at this
   ·rw [if_pos e]; exact zM1 f hf n hn H
  ·refine zG mixed zAO (zMd k n t s (zDm s).1 hI (fun H=>?_) (fun H=>?_) (zJB k n t s h3) zNo H)
   ·have:=zMA (m:=m) (ev:=ev) s H; rwa [h2] at this
   ·have:=zKk (m:=m) (ev:=ev) s H
    rw [h3] at this
    exact this
end
end Go.Proofs.YtgcggndacnmhfaaGreatDoor
