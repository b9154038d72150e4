/- Several texts of mine in one (Rf4, Rf8, Rf9). Own work. -/
import Derived.Test.YtljipljfelkodaaGreatDoorGRf5Rf3
import Derived.Test.YtljipljfelkodaaGreatDoorGRf6Rf7
import Derived.Test.YtljipljfelkodaaGreatDoorGAm30Fp1
set_option linter.all false
set_option maxRecDepth 20000
namespace Go.AM
def refRV : Option RefP → AV
 | some r=>.tup [.agg [zI r.col,zI r.row,.bool r.fc,.bool r.fr],.bool true]
 | none=>.tup [.agg zV1,.bool false]
theorem zHH {c : UInt8} {r r2 : Bs} {fr : Bool} (hc : capB c = true) (h : dollar r = (fr,r2)) : zCc (c :: r) = match zAq r2 with
  | some n=>if 1 ≤ n ∧ n ≤ 99 then some ⟨(c.toNat : Int) - 64,n,false,fr⟩ else none
  | none=>none:=by
 have h36 : c ≠ 36:=fun e=>by subst e; revert hc; decide
 unfold zCc
 have e : dollar (c :: r) = (false,c :: r):=by simp [dollar,h36]
 rw [e]
 unfold colP
 simp only [hc,zMR,h]
 rfl
theorem zIE {c : UInt8} {r r2 : Bs} {fr : Bool} (hc : capB c = true) (h : dollar r = (fr,r2)) : zCc (36 :: c :: r) = match zAq r2 with
  | some n=>if 1 ≤ n ∧ n ≤ 99 then some ⟨(c.toNat : Int) - 64,n,true,fr⟩ else none
  | none=>none:=by
 unfold zCc
 have e : dollar (36 :: c :: r) = (true,c :: r):=by simp [dollar]
 rw [e]
 unfold colP
 simp only [hc,zMR,h]
 rfl
section
variable {C : CSpec} {GT : Nat → Option AV}
set_option maxHeartbeats 8000000 in
theorem rref_ev (hW : ∀ s H,s.length ≤ 200 → C zS [.str s,.bool false] H (zJl (zAq s)) H) (s : Bs) (H : Heap) (hl : s.length ≤ 200) : EFun C GT zFz [.str s] H (refRV (zCc s)) H:=by
 refine zZ ?_
 cases s with
 | nil=>
  have e : zCc ([]) = none:=by rfl
  rw [e]
  clear hW
  refine zF <| zF <| zF <| zb tE <| zb tE <| zb tE <| zb tE <| zb tE ?_; refine zl (v:=zV1) rfl <| zH (v:=AV.agg zV1) (AV.cells (AV.agg zV1)) (zC zB) rfl rfl rfl rfl ?_
  exact zP (o:=0) rfl rfl (zJ (zE (zC zB))) rfl rfl rfl rfl ((((Old.refl _).push _).push _).set tA _)
  all_goals exact zP (v:=.agg zV1) (v1:=.bool false) (o:=0) rfl rfl (zJ hP) rfl rfl rfl rfl (by repeat' (first | exact Old.refl _ | refine Old.set ?_ tC _ | apply Old.push))
 | cons c r=>
  have hl1 : (c :: r).length = r.length + 1:=rfl
  have hc : (c :: r)[0]? = some c:=rfl
  have hcn : c.toNat < 256:=zM4 c
  by_cases h36 : c = 36
  ·subst h36
   cases r with
   | nil=>
    have e : zCc ([36]) = none:=by rfl
    rw [e]
    clear hW
    refine zb tT <| zr rfl hc <| zb tE <| zG <| zH (v:=AV.bool true) zV6 zB rfl rfl rfl rfl <| zN (r:=1) rfl tO ?_; refine zb tE <| zb tE <| zb tE <| zb tE <| zb tE <| zl (v:=zV1) rfl ?_; refine zH (v:=AV.agg zV1) (AV.cells (AV.agg zV1)) (zA tA (zC zB)) rfl rfl rfl rfl ?_
    exact zP (o:=0) rfl rfl (zJ (zE (zA tA (zC zB)))) rfl rfl rfl rfl (((((Old.refl _).push _).push _).set tA _).set tA _)
    all_goals exact zP (v:=.agg zV1) (v1:=.bool false) (o:=0) rfl rfl (zJ hP) rfl rfl rfl rfl (by repeat' (first | exact Old.refl _ | refine Old.set ?_ tC _ | apply Old.push))
   | cons c r=>
    have hc0:=hc
    clear hcn
    have hl2 : (c :: r).length = r.length + 1:=rfl
    have hc : (36 :: c :: r)[1]? = some c:=rfl
    have hcn : c.toNat < 256:=zM4 c
    by_cases hcap : capB c = true
    ·have hcap2:=hcap
     unfold capB at hcap2
     simp only [zLu,zMF] at hcap2
     cases r with
     | nil=>
      have hl3 : ([] : Bs).length = 0:=rfl
      have hw:=hW ([])
      have hsl : zAx none (.str (36 :: c :: [])) (some (.int .i64 ((2 : Nat) : Int))) none = some (.str ([])):=zCw (36 :: c :: []) 2 (by simp)
      have e : zCc (36 :: c :: []) = match zAq ([]) with
        | some n=>if 1 ≤ n ∧ n ≤ 99 then some ⟨(c.toNat : Int) - 64,n,true,false⟩ else none
        | none=>none:=by exact zIE (r:=[]) (fr:=false) (r2:=[]) hcap rfl
      rw [e]
      cases hwp : zAq ([]) with
      | none=>
       rw [hwp] at hw
       have hw : ∀ H,_ → C zS _ H (.tup [zI 0,.bool false]) H:=hw
       clear hW
       refine zb tT <| zr rfl hc0 <| zb tE <| zG <| zH (v:=AV.bool true) zV6 zB rfl rfl rfl rfl <| zN (r:=1) rfl tO ?_; refine zY tF <| zr rfl hc <| zF <| zY tF <| zr rfl hc ?_; refine zF <| zY tF <| zr rfl hc <| zN (r:=c.toNat) tO tO <| zN (r:=c.toNat - 64) tO tO <| zH (v:=.int .i64 ↑(c.toNat - 64)) [.int .i64 ↑(c.toNat - 64),.int .i64 0,AV.bool true,AV.bool false] (zE zB) rfl rfl rfl rfl ?_
       refine zN (r:=2) rfl tO <| zY tF <| zF <| zF <| zl hsl <| zL (hw _ (by simp only [zLw] at hl; omega)) ?_; refine zl rfl <| zl rfl ?_; refine zb tE <| zb tE <| zb tE <| zb tE <| zb tE <| zl (v:=zV1) rfl ?_; refine zH (v:=AV.agg zV1) (AV.cells (AV.agg zV1)) (zA tA (zA tA (zC zB))) rfl rfl rfl rfl ?_
       exact zP (o:=0) rfl rfl (zJ (zE (zA tA (zA tA (zC zB))))) rfl rfl rfl rfl ((((((Old.refl _).push _).push _).set tA _).set tA _).set tA _)
       all_goals exact zP (v:=.agg zV1) (v1:=.bool false) (o:=0) rfl rfl (zJ hP) rfl rfl rfl rfl (by repeat' (first | exact Old.refl _ | refine Old.set ?_ tC _ | apply Old.push))
      | some n=>
       rw [hwp] at hw
       have hw : ∀ H,_ → C zS _ H (.tup [zI n,.bool true]) H:=hw
       clear hW
       by_cases hn1 : n < 1
       ·have hnn : ¬ (1 ≤ n ∧ n ≤ 99):=by omega
        simp only [zLv hnn]
        refine zb tT <| zr rfl hc0 <| zG <| zG <| zH (v:=AV.bool true) zV6 zB rfl rfl rfl rfl <| zN (r:=1) rfl tO ?_; refine zY tF <| zr rfl hc <| zb tE <| zG <| zG <| zG ?_; refine zl (v:=zV1) rfl <| zH (v:=AV.agg zV1) (AV.cells (AV.agg zV1)) (zA tA (zC zB)) rfl rfl rfl rfl ?_
        exact zP (o:=0) rfl rfl (zJ (zE (zA tA (zC zB)))) rfl rfl rfl rfl (((((Old.refl _).push _).push _).set tA _).set tA _)
        all_goals exact zP (v:=.agg zV1) (v1:=.bool false) (o:=0) rfl rfl (zJ hP) rfl rfl rfl rfl (by repeat' (first | exact Old.refl _ | refine Old.set ?_ tC _ | apply Old.push))
       by_cases hn2 : 99 < n
       ·have hnn : ¬ (1 ≤ n ∧ n ≤ 99):=by omega
        simp only [zLv hnn]
        refine zb tT <| zr rfl hc0 <| zG <| zG <| zH (v:=AV.bool true) zV6 zB rfl rfl rfl rfl <| zN (r:=1) rfl tO ?_; refine zY tF <| zr rfl hc <| zb tE <| zG <| zG <| zG ?_; refine zl (v:=zV1) rfl <| zH (v:=AV.agg zV1) (AV.cells (AV.agg zV1)) (zA tA (zC zB)) rfl rfl rfl rfl ?_
        exact zP (o:=0) rfl rfl (zJ (zE (zA tA (zC zB)))) rfl rfl rfl rfl (((((Old.refl _).push _).push _).set tA _).set tA _)
        all_goals exact zP (v:=.agg zV1) (v1:=.bool false) (o:=0) rfl rfl (zJ hP) rfl rfl rfl rfl (by repeat' (first | exact Old.refl _ | refine Old.set ?_ tC _ | apply Old.push))
       ·have hnn : 1 ≤ n ∧ n ≤ 99:=by omega
        simp only [zLx hnn]
        have hcc : ((c.toNat - 64 : Nat) : Int) = (c.toNat : Int) - 64:=by omega
        rw [← hcc]
        refine zb tT <| zr rfl hc0 <| zG <| zG <| zH (v:=AV.bool true) zV6 zB rfl rfl rfl rfl <| zN (r:=1) rfl tO ?_; refine zY tF <| zr rfl hc <| zF <| zY tF <| zr rfl hc ?_; refine zF <| zY tF <| zr rfl hc <| zN (r:=c.toNat) tO tO <| zN (r:=c.toNat - 64) tO tO <| zH (v:=.int .i64 ↑(c.toNat - 64)) [.int .i64 ↑(c.toNat - 64),.int .i64 0,AV.bool true,AV.bool false] (zE zB) rfl rfl rfl rfl ?_
        refine zN (r:=2) rfl tO <| zY tF <| zF <| zF <| zl hsl <| zL (hw _ (by simp only [zLw] at hl; omega)) ?_; refine zl rfl <| zl rfl ?_; refine zF <| zF <| zY tF <| zF <| zY tF <| zH (v:=zI n) [.int .i64 ↑(c.toNat - 64),zI n,AV.bool true,AV.bool false] (zE (zE zB)) rfl rfl rfl rfl ?_; refine zD (AV.agg [.int .i64 ↑(c.toNat - 64),zI n,AV.bool true,AV.bool false]) (zE (zE (zE zB))) rfl <| zH (v:=AV.agg [.int .i64 ↑(c.toNat - 64),zI n,AV.bool true,AV.bool false]) (AV.cells (AV.agg [.int .i64 ↑(c.toNat - 64),zI n,AV.bool true,AV.bool false])) (zA tA (zA tA (zA tA (zC zB)))) rfl rfl rfl rfl ?_
        exact zP (o:=0) rfl rfl (zJ (zE (zA tA (zA tA (zA tA (zC zB)))))) rfl rfl rfl rfl (((((((Old.refl _).push _).push _).set tA _).set tA _).set tA _).set tA _)
        all_goals exact zP (v:=.agg [zI ((c.toNat - 64 : Nat) : Int),zI n,.bool true,.bool false]) (v1:=.bool true) (o:=0) rfl rfl (zJ hP) rfl rfl rfl rfl (by repeat' (first | exact Old.refl _ | refine Old.set ?_ tC _ | apply Old.push))
     | cons c2 r=>
      have hl3 : (c2 :: r).length = r.length + 1:=rfl
      have hc2 : (36 :: c :: c2 :: r)[2]? = some c2:=rfl
      have hcn2 : c2.toNat < 256:=zM4 c2
      by_cases h362 : c2 = 36
      ·subst h362
       have hw:=hW (r)
       have hsl : zAx none (.str (36 :: c :: 36 :: r)) (some (.int .i64 ((3 : Nat) : Int))) none = some (.str (r)):=zCw (36 :: c :: 36 :: r) 3 (by simp)
       have e : zCc (36 :: c :: 36 :: r) = match zAq (r) with
         | some n=>if 1 ≤ n ∧ n ≤ 99 then some ⟨(c.toNat : Int) - 64,n,true,true⟩ else none
         | none=>none:=by exact zIE (r:=36 :: r) (fr:=true) (r2:=r) hcap (by simp [dollar])
       rw [e]
       cases hwp : zAq (r) with
       | none=>
        rw [hwp] at hw
        have hw : ∀ H,_ → C zS _ H (.tup [zI 0,.bool false]) H:=hw
        clear hW
        refine zb tT <| zr rfl hc0 <| zG <| zG <| zH (v:=AV.bool true) zV6 zB rfl rfl rfl rfl <| zN (r:=1) rfl tO ?_; refine zY tF <| zr rfl hc <| zF <| zY tF <| zr rfl hc ?_; refine zF <| zY tF <| zr rfl hc <| zN (r:=c.toNat) tO tO <| zN (r:=c.toNat - 64) tO tO <| zH (v:=.int .i64 ↑(c.toNat - 64)) [.int .i64 ↑(c.toNat - 64),.int .i64 0,AV.bool true,AV.bool false] (zE zB) rfl rfl rfl rfl ?_
        refine zN (r:=2) rfl tO <| zb tT <| zr rfl hc0 <| zG <| zG <| zH (v:=AV.bool true) [.int .i64 ↑(c.toNat - 64),.int .i64 0,AV.bool true,AV.bool true] (zE (zE zB)) rfl rfl rfl rfl ?_; refine zN (r:=3) rfl tO <| zl hsl <| zL (hw _ (by simp only [zLw] at hl; omega)) <| zl rfl <| zl rfl ?_; refine zG <| zG <| zG <| zG <| zG <| zl (v:=zV1) rfl ?_
        refine zH (v:=AV.agg zV1) (AV.cells (AV.agg zV1)) (zA tA (zA tA (zA tA (zC zB)))) rfl rfl rfl rfl ?_
        exact zP (o:=0) rfl rfl (zJ (zE (zA tA (zA tA (zA tA (zC zB)))))) rfl rfl rfl rfl (((((((Old.refl _).push _).push _).set tA _).set tA _).set tA _).set tA _)
        all_goals exact zP (v:=.agg zV1) (v1:=.bool false) (o:=0) rfl rfl (zJ hP) rfl rfl rfl rfl (by repeat' (first | exact Old.refl _ | refine Old.set ?_ tC _ | apply Old.push))
       | some n=>
        rw [hwp] at hw
        have hw : ∀ H,_ → C zS _ H (.tup [zI n,.bool true]) H:=hw
        clear hW
        by_cases hn1 : n < 1
        ·have hnn : ¬ (1 ≤ n ∧ n ≤ 99):=by omega
         simp only [zLv hnn]
         refine zb tT <| zr rfl hc0 <| zG <| zG <| zH (v:=AV.bool true) zV6 zB rfl rfl rfl rfl <| zN (r:=1) rfl tO ?_; refine zY tF <| zr rfl hc <| zF <| zY tF <| zr rfl hc ?_; refine zF <| zY tF <| zr rfl hc <| zN (r:=c.toNat) tO tO <| zN (r:=c.toNat - 64) tO tO <| zH (v:=.int .i64 ↑(c.toNat - 64)) [.int .i64 ↑(c.toNat - 64),.int .i64 0,AV.bool true,AV.bool false] (zE zB) rfl rfl rfl rfl ?_
         refine zN (r:=2) rfl tO <| zb tT <| zr rfl hc0 <| zG <| zG <| zH (v:=AV.bool true) [.int .i64 ↑(c.toNat - 64),.int .i64 0,AV.bool true,AV.bool true] (zE (zE zB)) rfl rfl rfl rfl ?_; refine zN (r:=3) rfl tO <| zl hsl <| zL (hw _ (by simp only [zLw] at hl; omega)) <| zl rfl <| zl rfl ?_; refine zF <| zF <| zb tT <| zG <| zG <| zl (v:=zV1) rfl ?_
         refine zH (v:=AV.agg zV1) (AV.cells (AV.agg zV1)) (zA tA (zA tA (zA tA (zC zB)))) rfl rfl rfl rfl ?_
         exact zP (o:=0) rfl rfl (zJ (zE (zA tA (zA tA (zA tA (zC zB)))))) rfl rfl rfl rfl (((((((Old.refl _).push _).push _).set tA _).set tA _).set tA _).set tA _)
         all_goals exact zP (v:=.agg zV1) (v1:=.bool false) (o:=0) rfl rfl (zJ hP) rfl rfl rfl rfl (by repeat' (first | exact Old.refl _ | refine Old.set ?_ tC _ | apply Old.push))
        by_cases hn2 : 99 < n
        ·have hnn : ¬ (1 ≤ n ∧ n ≤ 99):=by omega
         simp only [zLv hnn]
         refine zb tT <| zr rfl hc0 <| zG <| zG <| zH (v:=AV.bool true) zV6 zB rfl rfl rfl rfl <| zN (r:=1) rfl tO ?_; refine zY tF <| zr rfl hc <| zF <| zY tF <| zr rfl hc ?_; refine zF <| zY tF <| zr rfl hc <| zN (r:=c.toNat) tO tO <| zN (r:=c.toNat - 64) tO tO <| zH (v:=.int .i64 ↑(c.toNat - 64)) [.int .i64 ↑(c.toNat - 64),.int .i64 0,AV.bool true,AV.bool false] (zE zB) rfl rfl rfl rfl ?_
         refine zN (r:=2) rfl tO <| zb tT <| zr rfl hc0 <| zG <| zG <| zH (v:=AV.bool true) [.int .i64 ↑(c.toNat - 64),.int .i64 0,AV.bool true,AV.bool true] (zE (zE zB)) rfl rfl rfl rfl ?_; refine zN (r:=3) rfl tO <| zl hsl <| zL (hw _ (by simp only [zLw] at hl; omega)) <| zl rfl <| zl rfl ?_; refine zF <| zF <| zY tF <| zF <| zb tT <| zl (v:=zV1) rfl ?_
         refine zH (v:=AV.agg zV1) (AV.cells (AV.agg zV1)) (zA tA (zA tA (zA tA (zC zB)))) rfl rfl rfl rfl ?_
         exact zP (o:=0) rfl rfl (zJ (zE (zA tA (zA tA (zA tA (zC zB)))))) rfl rfl rfl rfl (((((((Old.refl _).push _).push _).set tA _).set tA _).set tA _).set tA _)
         all_goals exact zP (v:=.agg zV1) (v1:=.bool false) (o:=0) rfl rfl (zJ hP) rfl rfl rfl rfl (by repeat' (first | exact Old.refl _ | refine Old.set ?_ tC _ | apply Old.push))
        ·have hnn : 1 ≤ n ∧ n ≤ 99:=by omega
         simp only [zLx hnn]
         have hcc : ((c.toNat - 64 : Nat) : Int) = (c.toNat : Int) - 64:=by omega
         rw [← hcc]
         refine zb tT <| zr rfl hc0 <| zG <| zG <| zH (v:=AV.bool true) zV6 zB rfl rfl rfl rfl <| zN (r:=1) rfl tO ?_; refine zY tF <| zr rfl hc <| zF <| zY tF <| zr rfl hc ?_; refine zF <| zY tF <| zr rfl hc <| zN (r:=c.toNat) tO tO <| zN (r:=c.toNat - 64) tO tO <| zH (v:=.int .i64 ↑(c.toNat - 64)) [.int .i64 ↑(c.toNat - 64),.int .i64 0,AV.bool true,AV.bool false] (zE zB) rfl rfl rfl rfl ?_
         refine zN (r:=2) rfl tO <| zb tT <| zr rfl hc0 <| zG <| zG <| zH (v:=AV.bool true) [.int .i64 ↑(c.toNat - 64),.int .i64 0,AV.bool true,AV.bool true] (zE (zE zB)) rfl rfl rfl rfl ?_; refine zN (r:=3) rfl tO <| zl hsl <| zL (hw _ (by simp only [zLw] at hl; omega)) <| zl rfl <| zl rfl ?_; refine zF <| zF <| zY tF <| zF <| zY tF <| zH (v:=zI n) [.int .i64 ↑(c.toNat - 64),zI n,AV.bool true,AV.bool true] (zE (zE (zE zB))) rfl rfl rfl rfl ?_
         refine zD (AV.agg [.int .i64 ↑(c.toNat - 64),zI n,AV.bool true,AV.bool true]) (zE (zE (zE (zE zB)))) rfl <| zH (v:=AV.agg [.int .i64 ↑(c.toNat - 64),zI n,AV.bool true,AV.bool true]) (AV.cells (AV.agg [.int .i64 ↑(c.toNat - 64),zI n,AV.bool true,AV.bool true])) (zA tA (zA tA (zA tA (zA tA (zC zB))))) rfl rfl rfl rfl ?_
         exact zP (o:=0) rfl rfl (zJ (zE (zA tA (zA tA (zA tA (zA tA (zC zB))))))) rfl rfl rfl rfl ((((((((Old.refl _).push _).push _).set tA _).set tA _).set tA _).set tA _).set tA _)
         all_goals exact zP (v:=.agg [zI ((c.toNat - 64 : Nat) : Int),zI n,.bool true,.bool true]) (v1:=.bool true) (o:=0) rfl rfl (zJ hP) rfl rfl rfl rfl (by repeat' (first | exact Old.refl _ | refine Old.set ?_ tC _ | apply Old.push))
      ·have h362' : c2.toNat ≠ 36:=fun e=>h362 (zME.1 e)
       have hw:=hW (c2 :: r)
       have hsl : zAx none (.str (36 :: c :: c2 :: r)) (some (.int .i64 ((2 : Nat) : Int))) none = some (.str (c2 :: r)):=zCw (36 :: c :: c2 :: r) 2 (by simp)
       have e : zCc (36 :: c :: c2 :: r) = match zAq (c2 :: r) with
         | some n=>if 1 ≤ n ∧ n ≤ 99 then some ⟨(c.toNat : Int) - 64,n,true,false⟩ else none
         | none=>none:=by exact zIE (r:=c2 :: r) (fr:=false) (r2:=c2 :: r) hcap (by simp [dollar,h362])
       rw [e]
       cases hwp : zAq (c2 :: r) with
       | none=>
        rw [hwp] at hw
        have hw : ∀ H,_ → C zS _ H (.tup [zI 0,.bool false]) H:=hw
        clear hW
        refine zb tT <| zr rfl hc0 <| zG <| zG <| zH (v:=AV.bool true) zV6 zB rfl rfl rfl rfl <| zN (r:=1) rfl tO ?_; refine zY tF <| zr rfl hc <| zF <| zY tF <| zr rfl hc ?_; refine zF <| zY tF <| zr rfl hc <| zN (r:=c.toNat) tO tO <| zN (r:=c.toNat - 64) tO tO <| zH (v:=.int .i64 ↑(c.toNat - 64)) [.int .i64 ↑(c.toNat - 64),.int .i64 0,AV.bool true,AV.bool false] (zE zB) rfl rfl rfl rfl ?_
        refine zN (r:=2) rfl tO <| zb tT <| zr rfl hc2 <| zG <| zY tF <| zl hsl ?_; refine zL (hw _ (by simp only [zLw] at hl; omega)) <| zl rfl <| zl rfl ?_; refine zG <| zG <| zG <| zG <| zG <| zl (v:=zV1) rfl ?_; refine zH (v:=AV.agg zV1) (AV.cells (AV.agg zV1)) (zA tA (zA tA (zC zB))) rfl rfl rfl rfl ?_
        exact zP (o:=0) rfl rfl (zJ (zE (zA tA (zA tA (zC zB))))) rfl rfl rfl rfl ((((((Old.refl _).push _).push _).set tA _).set tA _).set tA _)
        all_goals exact zP (v:=.agg zV1) (v1:=.bool false) (o:=0) rfl rfl (zJ hP) rfl rfl rfl rfl (by repeat' (first | exact Old.refl _ | refine Old.set ?_ tC _ | apply Old.push))
       | some n=>
        rw [hwp] at hw
        have hw : ∀ H,_ → C zS _ H (.tup [zI n,.bool true]) H:=hw
        clear hW
        by_cases hn1 : n < 1
        ·have hnn : ¬ (1 ≤ n ∧ n ≤ 99):=by omega
         simp only [zLv hnn]
         refine zb tT <| zr rfl hc0 <| zG <| zG <| zH (v:=AV.bool true) zV6 zB rfl rfl rfl rfl <| zN (r:=1) rfl tO ?_; refine zY tF <| zr rfl hc <| zF <| zY tF <| zr rfl hc ?_; refine zF <| zY tF <| zr rfl hc <| zN (r:=c.toNat) tO tO <| zN (r:=c.toNat - 64) tO tO <| zH (v:=.int .i64 ↑(c.toNat - 64)) [.int .i64 ↑(c.toNat - 64),.int .i64 0,AV.bool true,AV.bool false] (zE zB) rfl rfl rfl rfl ?_
         refine zN (r:=2) rfl tO <| zb tT <| zr rfl hc2 <| zG <| zY tF <| zl hsl ?_; refine zL (hw _ (by simp only [zLw] at hl; omega)) <| zl rfl <| zl rfl ?_; refine zF <| zF <| zb tT <| zG <| zG <| zl (v:=zV1) rfl ?_; refine zH (v:=AV.agg zV1) (AV.cells (AV.agg zV1)) (zA tA (zA tA (zC zB))) rfl rfl rfl rfl ?_
         exact zP (o:=0) rfl rfl (zJ (zE (zA tA (zA tA (zC zB))))) rfl rfl rfl rfl ((((((Old.refl _).push _).push _).set tA _).set tA _).set tA _)
         all_goals exact zP (v:=.agg zV1) (v1:=.bool false) (o:=0) rfl rfl (zJ hP) rfl rfl rfl rfl (by repeat' (first | exact Old.refl _ | refine Old.set ?_ tC _ | apply Old.push))
        by_cases hn2 : 99 < n
        ·have hnn : ¬ (1 ≤ n ∧ n ≤ 99):=by omega
         simp only [zLv hnn]
         refine zb tT <| zr rfl hc0 <| zG <| zG <| zH (v:=AV.bool true) zV6 zB rfl rfl rfl rfl <| zN (r:=1) rfl tO ?_; refine zY tF <| zr rfl hc <| zF <| zY tF <| zr rfl hc ?_; refine zF <| zY tF <| zr rfl hc <| zN (r:=c.toNat) tO tO <| zN (r:=c.toNat - 64) tO tO <| zH (v:=.int .i64 ↑(c.toNat - 64)) [.int .i64 ↑(c.toNat - 64),.int .i64 0,AV.bool true,AV.bool false] (zE zB) rfl rfl rfl rfl ?_
         refine zN (r:=2) rfl tO <| zb tT <| zr rfl hc2 <| zG <| zY tF <| zl hsl ?_; refine zL (hw _ (by simp only [zLw] at hl; omega)) <| zl rfl <| zl rfl ?_; refine zF <| zF <| zY tF <| zF <| zb tT <| zl (v:=zV1) rfl ?_; refine zH (v:=AV.agg zV1) (AV.cells (AV.agg zV1)) (zA tA (zA tA (zC zB))) rfl rfl rfl rfl ?_
         exact zP (o:=0) rfl rfl (zJ (zE (zA tA (zA tA (zC zB))))) rfl rfl rfl rfl ((((((Old.refl _).push _).push _).set tA _).set tA _).set tA _)
         all_goals exact zP (v:=.agg zV1) (v1:=.bool false) (o:=0) rfl rfl (zJ hP) rfl rfl rfl rfl (by repeat' (first | exact Old.refl _ | refine Old.set ?_ tC _ | apply Old.push))
        ·have hnn : 1 ≤ n ∧ n ≤ 99:=by omega
         simp only [zLx hnn]
         have hcc : ((c.toNat - 64 : Nat) : Int) = (c.toNat : Int) - 64:=by omega
         rw [← hcc]
         refine zb tT <| zr rfl hc0 <| zG <| zG <| zH (v:=AV.bool true) zV6 zB rfl rfl rfl rfl <| zN (r:=1) rfl tO ?_; refine zY tF <| zr rfl hc <| zF <| zY tF <| zr rfl hc ?_; refine zF <| zY tF <| zr rfl hc <| zN (r:=c.toNat) tO tO <| zN (r:=c.toNat - 64) tO tO <| zH (v:=.int .i64 ↑(c.toNat - 64)) [.int .i64 ↑(c.toNat - 64),.int .i64 0,AV.bool true,AV.bool false] (zE zB) rfl rfl rfl rfl ?_
         refine zN (r:=2) rfl tO <| zb tT <| zr rfl hc2 <| zG <| zY tF <| zl hsl ?_; refine zL (hw _ (by simp only [zLw] at hl; omega)) <| zl rfl <| zl rfl ?_; refine zF <| zF <| zY tF <| zF <| zY tF <| zH (v:=zI n) [.int .i64 ↑(c.toNat - 64),zI n,AV.bool true,AV.bool false] (zE (zE zB)) rfl rfl rfl rfl ?_; refine zD (AV.agg [.int .i64 ↑(c.toNat - 64),zI n,AV.bool true,AV.bool false]) (zE (zE (zE zB))) rfl <| zH (v:=AV.agg [.int .i64 ↑(c.toNat - 64),zI n,AV.bool true,AV.bool false]) (AV.cells (AV.agg [.int .i64 ↑(c.toNat - 64),zI n,AV.bool true,AV.bool false])) (zA tA (zA tA (zA tA (zC zB)))) rfl rfl rfl rfl ?_
         exact zP (o:=0) rfl rfl (zJ (zE (zA tA (zA tA (zA tA (zC zB)))))) rfl rfl rfl rfl (((((((Old.refl _).push _).push _).set tA _).set tA _).set tA _).set tA _)
         all_goals exact zP (v:=.agg [zI ((c.toNat - 64 : Nat) : Int),zI n,.bool true,.bool false]) (v1:=.bool true) (o:=0) rfl rfl (zJ hP) rfl rfl rfl rfl (by repeat' (first | exact Old.refl _ | refine Old.set ?_ tC _ | apply Old.push))
    ·have hcf:=zMe.2 hcap
     have hcf2:=hcf
     unfold capB at hcf2
     by_cases g1 : c.toNat < 65
     ·have g2 : True:=trivial
      have e : zCc (36 :: c :: r) = none:=by unfold zCc dollar colP; simp [hcf]
      rw [e]
      clear hW
      refine zb tT <| zr rfl hc0 <| zG <| zG <| zH (v:=AV.bool true) zV6 zB rfl rfl rfl rfl <| zN (r:=1) rfl tO ?_; refine zY tF <| zr rfl hc <| zF <| zb tT <| zG <| zG ?_; refine zl (v:=zV1) rfl <| zH (v:=AV.agg zV1) (AV.cells (AV.agg zV1)) (zA tA (zC zB)) rfl rfl rfl rfl ?_
      exact zP (o:=0) rfl rfl (zJ (zE (zA tA (zC zB)))) rfl rfl rfl rfl (((((Old.refl _).push _).push _).set tA _).set tA _)
      all_goals exact zP (v:=.agg zV1) (v1:=.bool false) (o:=0) rfl rfl (zJ hP) rfl rfl rfl rfl (by repeat' (first | exact Old.refl _ | refine Old.set ?_ tC _ | apply Old.push))
     ·have g2 : 90 < c.toNat:=by
       rw [tT (by omega : 65 ≤ c.toNat),zM7] at hcf2
       have:=zMf hcf2
       omega
      have e : zCc (36 :: c :: r) = none:=by unfold zCc dollar colP; simp [hcf]
      rw [e]
      clear hW
      refine zb tT <| zr rfl hc0 <| zG <| zG <| zH (v:=AV.bool true) zV6 zB rfl rfl rfl rfl <| zN (r:=1) rfl tO ?_; refine zY tF <| zr rfl hc <| zF <| zY tF <| zr rfl hc ?_; refine zF <| zb tT <| zl (v:=zV1) rfl <| zH (v:=AV.agg zV1) (AV.cells (AV.agg zV1)) (zA tA (zC zB)) rfl rfl rfl rfl ?_
      exact zP (o:=0) rfl rfl (zJ (zE (zA tA (zC zB)))) rfl rfl rfl rfl (((((Old.refl _).push _).push _).set tA _).set tA _)
      all_goals exact zP (v:=.agg zV1) (v1:=.bool false) (o:=0) rfl rfl (zJ hP) rfl rfl rfl rfl (by repeat' (first | exact Old.refl _ | refine Old.set ?_ tC _ | apply Old.push))
  ·have h36' : c.toNat ≠ 36:=fun e=>h36 (zME.1 e)
   by_cases hcap : capB c = true
   ·have hcap2:=hcap
    unfold capB at hcap2
    simp only [zLu,zMF] at hcap2
    cases r with
    | nil=>
     have hl3 : ([] : Bs).length = 0:=rfl
     have hw:=hW ([])
     have hsl : zAx none (.str (c :: [])) (some (.int .i64 ((1 : Nat) : Int))) none = some (.str ([])):=zCw (c :: []) 1 (by simp)
     have e : zCc (c :: []) = match zAq ([]) with
       | some n=>if 1 ≤ n ∧ n ≤ 99 then some ⟨(c.toNat : Int) - 64,n,false,false⟩ else none
       | none=>none:=by exact zHH (r:=[]) (fr:=false) (r2:=[]) hcap rfl
     rw [e]
     cases hwp : zAq ([]) with
     | none=>
      rw [hwp] at hw
      have hw : ∀ H,_ → C zS _ H (.tup [zI 0,.bool false]) H:=hw
      clear hW
      refine zb tT <| zr rfl hc <| zb tE <| zY tF <| zY tF <| zr rfl hc ?_; refine zF <| zY tF <| zr rfl hc <| zF <| zY tF <| zr rfl hc ?_; refine zN (r:=c.toNat) tO tO <| zN (r:=c.toNat - 64) tO tO <| zH (v:=.int .i64 ↑(c.toNat - 64)) [.int .i64 ↑(c.toNat - 64),.int .i64 0,AV.bool false,AV.bool false] zB rfl rfl rfl rfl <| zN (r:=1) rfl tO ?_; refine zY tF <| zF <| zF <| zl hsl <| zL (hw _ (by simp only [zLw] at hl; omega)) <| zl rfl ?_
      refine zl rfl <| zb tE <| zb tE <| zb tE <| zb tE <| zb tE ?_; refine zl (v:=zV1) rfl <| zH (v:=AV.agg zV1) (AV.cells (AV.agg zV1)) (zA tA (zC zB)) rfl rfl rfl rfl ?_
      exact zP (o:=0) rfl rfl (zJ (zE (zA tA (zC zB)))) rfl rfl rfl rfl (((((Old.refl _).push _).push _).set tA _).set tA _)
      all_goals exact zP (v:=.agg zV1) (v1:=.bool false) (o:=0) rfl rfl (zJ hP) rfl rfl rfl rfl (by repeat' (first | exact Old.refl _ | refine Old.set ?_ tC _ | apply Old.push))
     | some n=>
      rw [hwp] at hw
      have hw : ∀ H,_ → C zS _ H (.tup [zI n,.bool true]) H:=hw
      clear hW
      by_cases hn1 : n < 1
      ·have hnn : ¬ (1 ≤ n ∧ n ≤ 99):=by omega
       simp only [zLv hnn]
       refine zb tT <| zr rfl hc <| zG <| zY tF <| zY tF <| zr rfl hc ?_; refine zb tE <| zG <| zG <| zG <| zl (v:=zV1) rfl <| zH (v:=AV.agg zV1) (AV.cells (AV.agg zV1)) (zC zB) rfl rfl rfl rfl ?_
       exact zP (o:=0) rfl rfl (zJ (zE (zC zB))) rfl rfl rfl rfl ((((Old.refl _).push _).push _).set tA _)
       all_goals exact zP (v:=.agg zV1) (v1:=.bool false) (o:=0) rfl rfl (zJ hP) rfl rfl rfl rfl (by repeat' (first | exact Old.refl _ | refine Old.set ?_ tC _ | apply Old.push))
      by_cases hn2 : 99 < n
      ·have hnn : ¬ (1 ≤ n ∧ n ≤ 99):=by omega
       simp only [zLv hnn]
       refine zb tT <| zr rfl hc <| zG <| zY tF <| zY tF <| zr rfl hc ?_; refine zb tE <| zG <| zG <| zG <| zl (v:=zV1) rfl <| zH (v:=AV.agg zV1) (AV.cells (AV.agg zV1)) (zC zB) rfl rfl rfl rfl ?_
       exact zP (o:=0) rfl rfl (zJ (zE (zC zB))) rfl rfl rfl rfl ((((Old.refl _).push _).push _).set tA _)
       all_goals exact zP (v:=.agg zV1) (v1:=.bool false) (o:=0) rfl rfl (zJ hP) rfl rfl rfl rfl (by repeat' (first | exact Old.refl _ | refine Old.set ?_ tC _ | apply Old.push))
      ·have hnn : 1 ≤ n ∧ n ≤ 99:=by omega
       simp only [zLx hnn]
       have hcc : ((c.toNat - 64 : Nat) : Int) = (c.toNat : Int) - 64:=by omega
       rw [← hcc]
       refine zb tT <| zr rfl hc <| zG <| zY tF <| zY tF <| zr rfl hc ?_; refine zF <| zY tF <| zr rfl hc <| zF <| zY tF <| zr rfl hc ?_; refine zN (r:=c.toNat) tO tO <| zN (r:=c.toNat - 64) tO tO <| zH (v:=.int .i64 ↑(c.toNat - 64)) [.int .i64 ↑(c.toNat - 64),.int .i64 0,AV.bool false,AV.bool false] zB rfl rfl rfl rfl <| zN (r:=1) rfl tO ?_; refine zY tF <| zF <| zF <| zl hsl <| zL (hw _ (by simp only [zLw] at hl; omega)) <| zl rfl ?_
       refine zl rfl <| zF <| zF <| zY tF <| zF <| zY tF ?_; refine zH (v:=zI n) [.int .i64 ↑(c.toNat - 64),zI n,AV.bool false,AV.bool false] (zE zB) rfl rfl rfl rfl <| zD (AV.agg [.int .i64 ↑(c.toNat - 64),zI n,AV.bool false,AV.bool false]) (zE (zE zB)) rfl <| zH (v:=AV.agg [.int .i64 ↑(c.toNat - 64),zI n,AV.bool false,AV.bool false]) (AV.cells (AV.agg [.int .i64 ↑(c.toNat - 64),zI n,AV.bool false,AV.bool false])) (zA tA (zA tA (zC zB))) rfl rfl rfl rfl ?_
       exact zP (o:=0) rfl rfl (zJ (zE (zA tA (zA tA (zC zB))))) rfl rfl rfl rfl ((((((Old.refl _).push _).push _).set tA _).set tA _).set tA _)
       all_goals exact zP (v:=.agg [zI ((c.toNat - 64 : Nat) : Int),zI n,.bool false,.bool false]) (v1:=.bool true) (o:=0) rfl rfl (zJ hP) rfl rfl rfl rfl (by repeat' (first | exact Old.refl _ | refine Old.set ?_ tC _ | apply Old.push))
    | cons c2 r=>
     have hl3 : (c2 :: r).length = r.length + 1:=rfl
     have hc2 : (c :: c2 :: r)[1]? = some c2:=rfl
     have hcn2 : c2.toNat < 256:=zM4 c2
     by_cases h362 : c2 = 36
     ·subst h362
      have hw:=hW (r)
      have hsl : zAx none (.str (c :: 36 :: r)) (some (.int .i64 ((2 : Nat) : Int))) none = some (.str (r)):=zCw (c :: 36 :: r) 2 (by simp)
      have e : zCc (c :: 36 :: r) = match zAq (r) with
        | some n=>if 1 ≤ n ∧ n ≤ 99 then some ⟨(c.toNat : Int) - 64,n,false,true⟩ else none
        | none=>none:=by exact zHH (r:=36 :: r) (fr:=true) (r2:=r) hcap (by simp [dollar])
      rw [e]
      cases hwp : zAq (r) with
      | none=>
       rw [hwp] at hw
       have hw : ∀ H,_ → C zS _ H (.tup [zI 0,.bool false]) H:=hw
       clear hW
       refine zb tT <| zr rfl hc <| zG <| zY tF <| zY tF <| zr rfl hc ?_; refine zF <| zY tF <| zr rfl hc <| zF <| zY tF <| zr rfl hc ?_; refine zN (r:=c.toNat) tO tO <| zN (r:=c.toNat - 64) tO tO <| zH (v:=.int .i64 ↑(c.toNat - 64)) [.int .i64 ↑(c.toNat - 64),.int .i64 0,AV.bool false,AV.bool false] zB rfl rfl rfl rfl <| zN (r:=1) rfl tO <| zb tT <| zr rfl hc2 ?_; refine zG <| zG <| zH (v:=AV.bool true) [.int .i64 ↑(c.toNat - 64),.int .i64 0,AV.bool false,AV.bool true] (zE zB) rfl rfl rfl rfl <| zN (r:=2) rfl tO <| zl hsl <| zL (hw _ (by simp only [zLw] at hl; omega)) ?_
       refine zl rfl <| zl rfl ?_; refine zG <| zG <| zG <| zG <| zG <| zl (v:=zV1) rfl ?_; refine zH (v:=AV.agg zV1) (AV.cells (AV.agg zV1)) (zA tA (zA tA (zC zB))) rfl rfl rfl rfl ?_
       exact zP (o:=0) rfl rfl (zJ (zE (zA tA (zA tA (zC zB))))) rfl rfl rfl rfl ((((((Old.refl _).push _).push _).set tA _).set tA _).set tA _)
       all_goals exact zP (v:=.agg zV1) (v1:=.bool false) (o:=0) rfl rfl (zJ hP) rfl rfl rfl rfl (by repeat' (first | exact Old.refl _ | refine Old.set ?_ tC _ | apply Old.push))
      | some n=>
       rw [hwp] at hw
       have hw : ∀ H,_ → C zS _ H (.tup [zI n,.bool true]) H:=hw
       clear hW
       by_cases hn1 : n < 1
       ·have hnn : ¬ (1 ≤ n ∧ n ≤ 99):=by omega
        simp only [zLv hnn]
        refine zb tT <| zr rfl hc <| zG <| zY tF <| zY tF <| zr rfl hc ?_; refine zF <| zY tF <| zr rfl hc <| zF <| zY tF <| zr rfl hc ?_; refine zN (r:=c.toNat) tO tO <| zN (r:=c.toNat - 64) tO tO <| zH (v:=.int .i64 ↑(c.toNat - 64)) [.int .i64 ↑(c.toNat - 64),.int .i64 0,AV.bool false,AV.bool false] zB rfl rfl rfl rfl <| zN (r:=1) rfl tO <| zb tT <| zr rfl hc2 ?_; refine zG <| zG <| zH (v:=AV.bool true) [.int .i64 ↑(c.toNat - 64),.int .i64 0,AV.bool false,AV.bool true] (zE zB) rfl rfl rfl rfl <| zN (r:=2) rfl tO <| zl hsl <| zL (hw _ (by simp only [zLw] at hl; omega)) ?_
        refine zl rfl <| zl rfl ?_; refine zF <| zF <| zb tT <| zG <| zG <| zl (v:=zV1) rfl ?_; refine zH (v:=AV.agg zV1) (AV.cells (AV.agg zV1)) (zA tA (zA tA (zC zB))) rfl rfl rfl rfl ?_
        exact zP (o:=0) rfl rfl (zJ (zE (zA tA (zA tA (zC zB))))) rfl rfl rfl rfl ((((((Old.refl _).push _).push _).set tA _).set tA _).set tA _)
        all_goals exact zP (v:=.agg zV1) (v1:=.bool false) (o:=0) rfl rfl (zJ hP) rfl rfl rfl rfl (by repeat' (first | exact Old.refl _ | refine Old.set ?_ tC _ | apply Old.push))
       by_cases hn2 : 99 < n
       ·have hnn : ¬ (1 ≤ n ∧ n ≤ 99):=by omega
        simp only [zLv hnn]
        refine zb tT <| zr rfl hc <| zG <| zY tF <| zY tF <| zr rfl hc ?_; refine zF <| zY tF <| zr rfl hc <| zF <| zY tF <| zr rfl hc ?_; refine zN (r:=c.toNat) tO tO <| zN (r:=c.toNat - 64) tO tO <| zH (v:=.int .i64 ↑(c.toNat - 64)) [.int .i64 ↑(c.toNat - 64),.int .i64 0,AV.bool false,AV.bool false] zB rfl rfl rfl rfl <| zN (r:=1) rfl tO <| zb tT <| zr rfl hc2 ?_; refine zG <| zG <| zH (v:=AV.bool true) [.int .i64 ↑(c.toNat - 64),.int .i64 0,AV.bool false,AV.bool true] (zE zB) rfl rfl rfl rfl <| zN (r:=2) rfl tO <| zl hsl <| zL (hw _ (by simp only [zLw] at hl; omega)) ?_
        refine zl rfl <| zl rfl ?_; refine zF <| zF <| zY tF <| zF <| zb tT <| zl (v:=zV1) rfl ?_; refine zH (v:=AV.agg zV1) (AV.cells (AV.agg zV1)) (zA tA (zA tA (zC zB))) rfl rfl rfl rfl ?_
        exact zP (o:=0) rfl rfl (zJ (zE (zA tA (zA tA (zC zB))))) rfl rfl rfl rfl ((((((Old.refl _).push _).push _).set tA _).set tA _).set tA _)
        all_goals exact zP (v:=.agg zV1) (v1:=.bool false) (o:=0) rfl rfl (zJ hP) rfl rfl rfl rfl (by repeat' (first | exact Old.refl _ | refine Old.set ?_ tC _ | apply Old.push))
       ·have hnn : 1 ≤ n ∧ n ≤ 99:=by omega
        simp only [zLx hnn]
        have hcc : ((c.toNat - 64 : Nat) : Int) = (c.toNat : Int) - 64:=by omega
        rw [← hcc]
        refine zb tT <| zr rfl hc <| zG <| zY tF <| zY tF <| zr rfl hc ?_; refine zF <| zY tF <| zr rfl hc <| zF <| zY tF <| zr rfl hc ?_; refine zN (r:=c.toNat) tO tO <| zN (r:=c.toNat - 64) tO tO <| zH (v:=.int .i64 ↑(c.toNat - 64)) [.int .i64 ↑(c.toNat - 64),.int .i64 0,AV.bool false,AV.bool false] zB rfl rfl rfl rfl <| zN (r:=1) rfl tO <| zb tT <| zr rfl hc2 ?_; refine zG <| zG <| zH (v:=AV.bool true) [.int .i64 ↑(c.toNat - 64),.int .i64 0,AV.bool false,AV.bool true] (zE zB) rfl rfl rfl rfl <| zN (r:=2) rfl tO <| zl hsl <| zL (hw _ (by simp only [zLw] at hl; omega)) ?_
        refine zl rfl <| zl rfl ?_; refine zF <| zF <| zY tF <| zF <| zY tF <| zH (v:=zI n) [.int .i64 ↑(c.toNat - 64),zI n,AV.bool false,AV.bool true] (zE (zE zB)) rfl rfl rfl rfl ?_; refine zD (AV.agg [.int .i64 ↑(c.toNat - 64),zI n,AV.bool false,AV.bool true]) (zE (zE (zE zB))) rfl <| zH (v:=AV.agg [.int .i64 ↑(c.toNat - 64),zI n,AV.bool false,AV.bool true]) (AV.cells (AV.agg [.int .i64 ↑(c.toNat - 64),zI n,AV.bool false,AV.bool true])) (zA tA (zA tA (zA tA (zC zB)))) rfl rfl rfl rfl ?_
        exact zP (o:=0) rfl rfl (zJ (zE (zA tA (zA tA (zA tA (zC zB)))))) rfl rfl rfl rfl (((((((Old.refl _).push _).push _).set tA _).set tA _).set tA _).set tA _)
        all_goals exact zP (v:=.agg [zI ((c.toNat - 64 : Nat) : Int),zI n,.bool false,.bool true]) (v1:=.bool true) (o:=0) rfl rfl (zJ hP) rfl rfl rfl rfl (by repeat' (first | exact Old.refl _ | refine Old.set ?_ tC _ | apply Old.push))
     ·have h362' : c2.toNat ≠ 36:=fun e=>h362 (zME.1 e)
      have hw:=hW (c2 :: r)
      have hsl : zAx none (.str (c :: c2 :: r)) (some (.int .i64 ((1 : Nat) : Int))) none = some (.str (c2 :: r)):=zCw (c :: c2 :: r) 1 (by simp)
      have e : zCc (c :: c2 :: r) = match zAq (c2 :: r) with
        | some n=>if 1 ≤ n ∧ n ≤ 99 then some ⟨(c.toNat : Int) - 64,n,false,false⟩ else none
        | none=>none:=by exact zHH (r:=c2 :: r) (fr:=false) (r2:=c2 :: r) hcap (by simp [dollar,h362])
      rw [e]
      cases hwp : zAq (c2 :: r) with
      | none=>
       rw [hwp] at hw
       have hw : ∀ H,_ → C zS _ H (.tup [zI 0,.bool false]) H:=hw
       clear hW
       refine zb tT <| zr rfl hc <| zG <| zY tF <| zY tF <| zr rfl hc ?_; refine zF <| zY tF <| zr rfl hc <| zF <| zY tF <| zr rfl hc ?_; refine zN (r:=c.toNat) tO tO <| zN (r:=c.toNat - 64) tO tO <| zH (v:=.int .i64 ↑(c.toNat - 64)) [.int .i64 ↑(c.toNat - 64),.int .i64 0,AV.bool false,AV.bool false] zB rfl rfl rfl rfl <| zN (r:=1) rfl tO <| zb tT <| zr rfl hc2 ?_; refine zG <| zY tF <| zl hsl <| zL (hw _ (by simp only [zLw] at hl; omega)) <| zl rfl <| zl rfl ?_
       refine zG <| zG <| zG <| zG <| zG <| zl (v:=zV1) rfl ?_; refine zH (v:=AV.agg zV1) (AV.cells (AV.agg zV1)) (zA tA (zC zB)) rfl rfl rfl rfl ?_
       exact zP (o:=0) rfl rfl (zJ (zE (zA tA (zC zB)))) rfl rfl rfl rfl (((((Old.refl _).push _).push _).set tA _).set tA _)
       all_goals exact zP (v:=.agg zV1) (v1:=.bool false) (o:=0) rfl rfl (zJ hP) rfl rfl rfl rfl (by repeat' (first | exact Old.refl _ | refine Old.set ?_ tC _ | apply Old.push))
      | some n=>
       rw [hwp] at hw
       have hw : ∀ H,_ → C zS _ H (.tup [zI n,.bool true]) H:=hw
       clear hW
       by_cases hn1 : n < 1
       ·have hnn : ¬ (1 ≤ n ∧ n ≤ 99):=by omega
        simp only [zLv hnn]
        refine zb tT <| zr rfl hc <| zG <| zY tF <| zY tF <| zr rfl hc ?_; refine zF <| zY tF <| zr rfl hc <| zF <| zY tF <| zr rfl hc ?_; refine zN (r:=c.toNat) tO tO <| zN (r:=c.toNat - 64) tO tO <| zH (v:=.int .i64 ↑(c.toNat - 64)) [.int .i64 ↑(c.toNat - 64),.int .i64 0,AV.bool false,AV.bool false] zB rfl rfl rfl rfl <| zN (r:=1) rfl tO <| zb tT <| zr rfl hc2 ?_; refine zG <| zY tF <| zl hsl <| zL (hw _ (by simp only [zLw] at hl; omega)) <| zl rfl <| zl rfl ?_
        refine zF <| zF <| zb tT <| zG <| zG <| zl (v:=zV1) rfl ?_; refine zH (v:=AV.agg zV1) (AV.cells (AV.agg zV1)) (zA tA (zC zB)) rfl rfl rfl rfl ?_
        exact zP (o:=0) rfl rfl (zJ (zE (zA tA (zC zB)))) rfl rfl rfl rfl (((((Old.refl _).push _).push _).set tA _).set tA _)
        all_goals exact zP (v:=.agg zV1) (v1:=.bool false) (o:=0) rfl rfl (zJ hP) rfl rfl rfl rfl (by repeat' (first | exact Old.refl _ | refine Old.set ?_ tC _ | apply Old.push))
       by_cases hn2 : 99 < n
       ·have hnn : ¬ (1 ≤ n ∧ n ≤ 99):=by omega
        simp only [zLv hnn]
        refine zb tT <| zr rfl hc <| zG <| zY tF <| zY tF <| zr rfl hc ?_; refine zF <| zY tF <| zr rfl hc <| zF <| zY tF <| zr rfl hc ?_; refine zN (r:=c.toNat) tO tO <| zN (r:=c.toNat - 64) tO tO <| zH (v:=.int .i64 ↑(c.toNat - 64)) [.int .i64 ↑(c.toNat - 64),.int .i64 0,AV.bool false,AV.bool false] zB rfl rfl rfl rfl <| zN (r:=1) rfl tO <| zb tT <| zr rfl hc2 ?_; refine zG <| zY tF <| zl hsl <| zL (hw _ (by simp only [zLw] at hl; omega)) <| zl rfl <| zl rfl ?_
        refine zF <| zF <| zY tF <| zF <| zb tT <| zl (v:=zV1) rfl ?_; refine zH (v:=AV.agg zV1) (AV.cells (AV.agg zV1)) (zA tA (zC zB)) rfl rfl rfl rfl ?_
        exact zP (o:=0) rfl rfl (zJ (zE (zA tA (zC zB)))) rfl rfl rfl rfl (((((Old.refl _).push _).push _).set tA _).set tA _)
        all_goals exact zP (v:=.agg zV1) (v1:=.bool false) (o:=0) rfl rfl (zJ hP) rfl rfl rfl rfl (by repeat' (first | exact Old.refl _ | refine Old.set ?_ tC _ | apply Old.push))
       ·have hnn : 1 ≤ n ∧ n ≤ 99:=by omega
        simp only [zLx hnn]
        have hcc : ((c.toNat - 64 : Nat) : Int) = (c.toNat : Int) - 64:=by omega
        rw [← hcc]
        refine zb tT <| zr rfl hc <| zG <| zY tF <| zY tF <| zr rfl hc ?_; refine zF <| zY tF <| zr rfl hc <| zF <| zY tF <| zr rfl hc ?_; refine zN (r:=c.toNat) tO tO <| zN (r:=c.toNat - 64) tO tO <| zH (v:=.int .i64 ↑(c.toNat - 64)) [.int .i64 ↑(c.toNat - 64),.int .i64 0,AV.bool false,AV.bool false] zB rfl rfl rfl rfl <| zN (r:=1) rfl tO <| zb tT <| zr rfl hc2 ?_; refine zG <| zY tF <| zl hsl <| zL (hw _ (by simp only [zLw] at hl; omega)) <| zl rfl <| zl rfl ?_
        refine zF <| zF <| zY tF <| zF <| zY tF <| zH (v:=zI n) [.int .i64 ↑(c.toNat - 64),zI n,AV.bool false,AV.bool false] (zE zB) rfl rfl rfl rfl ?_; refine zD (AV.agg [.int .i64 ↑(c.toNat - 64),zI n,AV.bool false,AV.bool false]) (zE (zE zB)) rfl <| zH (v:=AV.agg [.int .i64 ↑(c.toNat - 64),zI n,AV.bool false,AV.bool false]) (AV.cells (AV.agg [.int .i64 ↑(c.toNat - 64),zI n,AV.bool false,AV.bool false])) (zA tA (zA tA (zC zB))) rfl rfl rfl rfl ?_
        exact zP (o:=0) rfl rfl (zJ (zE (zA tA (zA tA (zC zB))))) rfl rfl rfl rfl ((((((Old.refl _).push _).push _).set tA _).set tA _).set tA _)
        all_goals exact zP (v:=.agg [zI ((c.toNat - 64 : Nat) : Int),zI n,.bool false,.bool false]) (v1:=.bool true) (o:=0) rfl rfl (zJ hP) rfl rfl rfl rfl (by repeat' (first | exact Old.refl _ | refine Old.set ?_ tC _ | apply Old.push))
   ·have hcf:=zMe.2 hcap
    have hcf2:=hcf
    unfold capB at hcf2
    by_cases g1 : c.toNat < 65
    ·have g2 : True:=trivial
     have e : zCc (c :: r) = none:=by unfold zCc dollar colP; simp [hcf,h36]
     rw [e]
     clear hW
     refine zb tT <| zr rfl hc <| zG <| zY tF <| zY tF <| zr rfl hc ?_; refine zF <| zb tT <| zG <| zG <| zl (v:=zV1) rfl <| zH (v:=AV.agg zV1) (AV.cells (AV.agg zV1)) (zC zB) rfl rfl rfl rfl ?_
     exact zP (o:=0) rfl rfl (zJ (zE (zC zB))) rfl rfl rfl rfl ((((Old.refl _).push _).push _).set tA _)
     all_goals exact zP (v:=.agg zV1) (v1:=.bool false) (o:=0) rfl rfl (zJ hP) rfl rfl rfl rfl (by repeat' (first | exact Old.refl _ | refine Old.set ?_ tC _ | apply Old.push))
    ·have g2 : 90 < c.toNat:=by
      rw [tT (by omega : 65 ≤ c.toNat),zM7] at hcf2
      have:=zMf hcf2
      omega
     have e : zCc (c :: r) = none:=by unfold zCc dollar colP; simp [hcf,h36]
     rw [e]
     clear hW
     refine zb tT <| zr rfl hc <| zG <| zY tF <| zY tF <| zr rfl hc ?_; refine zF <| zY tF <| zr rfl hc <| zF <| zb tT <| zl (v:=zV1) rfl ?_; refine zH (v:=AV.agg zV1) (AV.cells (AV.agg zV1)) (zC zB) rfl rfl rfl rfl ?_
     exact zP (o:=0) rfl rfl (zJ (zE (zC zB))) rfl rfl rfl rfl ((((Old.refl _).push _).push _).set tA _)
     all_goals exact zP (v:=.agg zV1) (v1:=.bool false) (o:=0) rfl rfl (zJ hP) rfl rfl rfl rfl (by repeat' (first | exact Old.refl _ | refine Old.set ?_ tC _ | apply Old.push))
end
end Go.AM
set_option maxRecDepth 20000
namespace Go.AM
def CFd (C : CSpec) (f : Nat) (args : List AV) (b : Nat) (s : Bs) (p d d2 : Nat) (r : Option (Nd × Nat)) : Prop:=
 (∀ n e,r = some (n,e) → ∀ H,H[b]? = some (rP s p d) → C f args H (ndV n) (H.set b (rP s e d2))) ∧
 (r = none → ∃ (n : Nd) (a : Nat) (w e d' : Int),e ≠ 0 ∧ a ≤ s.length ∧ ∀ H,H[b]? = some (rP s p d) → C f args H (ndV n) (H.set b (pB s a w e d')))
section
variable {C : CSpec} {GT : Nat → Option AV}
theorem rone_ef (hT : ∀ s a H,a ≤ s.length → s.length ≤ 1000 → C zT [.str s,zK a] H (tkV s a) H)
  (hCd : ∀ s H,s.length ≤ 1000 → C zf [.str s] H (.bool (zBI s)) H)
  (hW : ∀ s H,s.length ≤ 200 → C zS [.str s,.bool false] H (zJl (zAq s)) H)
  (hR : ∀ s H,s.length ≤ 200 → C zj [.str s] H (refRV (zCc s)) H)
  (hNm : ∀ k H,1 ≤ k → k ≤ 6 → C zBp [.str (wrongs.getD (k - 1) [])] H (.tup [.agg [.int .i64 4,zK k,.str []],.bool true]) H)
  (hF : ∀ b s p d a e H,H[b]? = some (pB s p 0 0 d) → C zd [pR b,zI a,zI e] H (.tup []) (H.set b (pB s p a e d)))
  (hD : ∀ b s p (d : Nat) a H,H[b]? = some (pB s p 0 0 d) → d ≤ 1000 → (d = 30 → C ze [pR b,zI a] H (.bool false) (H.set b (pB s p a 4 d))) ∧ (d ≠ 30 → C ze [pR b,zI a] H (.bool true) (H.set b (pB s p 0 0 (d + 1 : Nat)))))
  (hC1 : ∀ b s p d e H,H[b]? = some (rP s p (d + 1)) → p ≤ s.length → s.length ≤ 200 → d ≤ 1000 → tok s p = .sign e [41] → C zc [pR b] H (.tup []) (H.set b (rP s e d)))
  (hC2 : ∀ b s p d H,H[b]? = some (rP s p (d + 1)) → p ≤ s.length → s.length ≤ 200 → d ≤ 1000 → (¬ ∃ e,tok s p = .sign e [41]) → C zc [pR b] H (.tup []) (H.set b (pB s (tkE (skip s p) (tok s p) : Nat) (skip s p : Nat) 2 d)))
  (hC3 : ∀ b s (p : Nat) w e d H,H[b]? = some (pB s p w e d) → e ≠ 0 → p ≤ s.length → s.length ≤ 200 → C zc [pR b] H (.tup []) (H.set b (pB s (tkE (skip s p) (tok s p) : Nat) w e (IntKind.wrap .i64 (d - 1)))))
  (b : Nat) (s : Bs) (p d : Nat) (hp : p ≤ s.length) (hl : s.length ≤ 200) (hd : d ≤ 1000)
  (hOne : ∀ a,p < a → a ≤ s.length → CF C zAB [pR b] b s a (d + 1) ((P s).one a (d + 1)))
  (hLo : ∀ a,p < a → a ≤ s.length → CF C zU [pR b,.int .i64 1] b s a (d + 1) ((P s).loose 1 a (d + 1)))
  (hCa : ∀ e t,s[e]? = some 40 → p < e → t.length ≤ 200 → CFd C zBo [pR b,.str t] b s e (d + 1) d (zGg s t e (d + 1))) :
  EF C GT zO [pR b] b s p d ((P s).one p d):=by
 rw [P_one d hp]
 have hn3 : ∀ H : Heap,(H ++ [ABlk.box (ndC zW)]).length = H.length + 1:=fun H=>by simp
 have hel:=zHt hp
 have htl:=tkT_len hp hl
 have hend:=zBM s p
 have go : ∀ (k : Tok) (r : AV × ABlk),tok s p = k → (∀ (H H3 : Heap) (n3 : Nat),n3 = H.length + 1 → OldB H b (rP s p d) H3 → H3[b]? = some (rP s p d) → H3[H.length]? = some (.box (ndC zW)) → H3[n3]? = some (.box [zK (tkK k),zK (skip s p),zK (tkE (skip s p) k),.str (tkT k)]) →
   EW C GT zJG (zHe zO H b [] .undef (some r)) [(2,pR H.length),(3,pR n3),(0,pR b)] H3) → ∀ H,H[b]? = some (rP s p d) → zB3 C GT zO [pR b] H b [] .undef (some r):=fun k r hk h H hb=>by
  refine one_start hT b s p d H hb hp hl _ fun H3 g1 g2 g3 g4=>?_
  rw [hk] at g4
  exact h H H3 _ (hn3 H) g1 g2 g3 g4
 have fail : ∀ k : Tok,tok s p = k → (∀ H : Heap,H[b]? = some (rP s (tkE (skip s p) k) d) → C zd [pR b,zK (skip s p),.int .i64 2] H (.tup []) (H.set b (pB s (tkE (skip s p) k : Nat) (skip s p : Nat) 2 d))):=fun k _ H h=>hF b s _ _ _ _ H h
 unfold zBw
 cases hk : tok s p with
 | fin=>
  rw [hk] at hel
  refine ⟨fun n e h=>(by cases h),fun _=>⟨zW,_,_,2,_,by decide,hel,go _ _ hk fun H H3 n3 g0 g1 g2 g3 g4=>rone_none 0 b s p d _ _ _ H H3 n3 g0 g1 g2 g3 g4 hl (by decide) (by decide) (by decide) (by decide) (fail _ hk)⟩⟩
 | none=>
  rw [hk] at hel
  refine ⟨fun n e h=>(by cases h),fun _=>⟨zW,_,_,2,_,by decide,hel,go _ _ hk fun H H3 n3 g0 g1 g2 g3 g4=>rone_none 9 b s p d _ _ _ H H3 n3 g0 g1 g2 g3 g4 hl (by decide) (by decide) (by decide) (by decide) (fail _ hk)⟩⟩
 | txt e t=>
  exact ⟨fun n e' h=>by cases h; exact go _ _ hk fun H H3 n3 g0 g1 g2 g3 g4=>rone_txt b s p d _ _ _ H H3 n3 g0 g1 g2 g3 g4 hl,fun h=>by cases h⟩
 | bad e k=>
  have hkk:=tok_bad hk
  exact ⟨fun n e' h=>by cases h; exact go _ _ hk fun H H3 n3 g0 g1 g2 g3 g4=>rone_bad b s p d _ _ _ H H3 n3 g0 g1 g2 g3 g4 hl k (fun H=>hNm k H hkk.1 hkk.2),fun h=>by cases h⟩
 | sign e t=>
  rw [hk] at hel hend
  have hee : p < e ∧ e ≤ s.length:=hend
  have hd30 : d = 30 → ∀ H : Heap,H[b]? = some (rP s e d) → C ze [pR b,zK (skip s p)] H (.bool false) (H.set b (pB s e (skip s p : Nat) 4 d)):=fun h H hb=>(hD b s e d _ H hb hd).1 h
  have hdok : d ≠ 30 → ∀ H : Heap,H[b]? = some (rP s e d) → C ze [pR b,zK (skip s p)] H (.bool true) (H.set b (rP s e (d + 1 : Nat))):=fun h H hb=>(hD b s e d _ H hb hd).2 h
  by_cases h45 : t = [45]
  ·subst h45
   show EF C GT zO [pR b] b s p d (if d = 30 then none else ((P s).one e (d + 1)).map fun p=>(negN p.1,p.2))
   by_cases h30 : d = 30
   ·rw [zLx h30]
    exact ⟨fun n e h=>(by cases h),fun _=>⟨zW,_,_,4,_,by decide,hee.2,go _ _ hk fun H H3 n3 g0 g1 g2 g3 g4=>rone_min30 b s p d _ _ _ H H3 n3 g0 g1 g2 g3 g4 hl rfl (hd30 h30)⟩⟩
   rw [zLv h30]
   have ho:=hOne e hee.1 hee.2
   cases hr : (P s).one e (d + 1) with
   | some x=>
    obtain ⟨n,e2⟩:=x
    exact ⟨fun n' e' h=>by cases h; exact go _ _ hk fun H H3 n3 g0 g1 g2 g3 g4=>rone_minok b s p d _ _ _ H H3 n3 g0 g1 g2 g3 g4 hl rfl n e2 hd (hdok h30) (ho.1 n e2 hr),fun h=>by cases h⟩
   | none=>
    obtain ⟨n,a,w,ee,d',he0,hal,hh⟩:=ho.2 hr
    exact ⟨fun n e h=>(by cases h),fun _=>⟨negN n,a,w,ee,_,he0,hal,go _ _ hk fun H H3 n3 g0 g1 g2 g3 g4=>rone_minno b s p d _ _ _ H H3 n3 g0 g1 g2 g3 g4 hl rfl n a w ee d' (hdok h30) hh⟩⟩
  by_cases h40 : t = [40]
  ·subst h40
   show EF C GT zO [pR b] b s p d (if d = 30 then none else ((P s).loose 1 e (d + 1)).bind fun p=>match tok s p.2 with
    | .sign e2 [41]=>some (p.1,e2)
    | _=>none)
   by_cases h30 : d = 30
   ·rw [zLx h30]
    exact ⟨fun n e h=>(by cases h),fun _=>⟨zW,_,_,4,_,by decide,hee.2,go _ _ hk fun H H3 n3 g0 g1 g2 g3 g4=>rone_par30 b s p d _ _ _ H H3 n3 g0 g1 g2 g3 g4 hl rfl h45 (hd30 h30)⟩⟩
   rw [zLv h30]
   have ho:=hLo e hee.1 hee.2
   cases hr : (P s).loose 1 e (d + 1) with
   | some x=>
    obtain ⟨n,e2⟩:=x
    have hxe:=(zBz s).loose 1 e (d + 1) _ hee.2 hr
    simp only at hxe
    have ho:=ho.1 n e2 hr
    by_cases h41 : ∃ e3,tok s e2 = .sign e3 [41]
    ·obtain ⟨e3,h41⟩:=h41
     have e0 : (match tok s (n,e2).2 with
      | .sign e2 [41]=>some ((n,e2).1,e2)
      | _=>none) = some (n,e3):=by simp only [h41]
     have e0 : ((some (n,e2)).bind fun p : Nd × Nat=>match tok s p.2 with
      | .sign e2 [41]=>some (p.1,e2)
      | _=>none) = some (n,e3):=by simp only [zMt,h41]
     rw [e0]
     exact ⟨fun n' e' h=>by cases h; exact go _ _ hk fun H H3 n3 g0 g1 g2 g3 g4=>rone_par b s p d _ _ _ H H3 n3 g0 g1 g2 g3 g4 hl rfl h45 n _ _ (hdok h30) ho (fun H h=>hC1 b s e2 d e3 H h hxe.2 hl hd h41) (fun _=>rfl),fun h=>by cases h⟩
    ·have e0 : ((some (n,e2)).bind fun p : Nd × Nat=>match tok s p.2 with
      | .sign e2 [41]=>some (p.1,e2)
      | _=>none) = none:=by
      simp only [zMt]
      split
      ·rename_i e3 hk3; exact absurd ⟨e3,hk3⟩ h41
      ·rfl
     rw [e0]
     exact ⟨fun n e h=>(by cases h),fun _=>⟨n,_,_,2,_,by decide,zHt hxe.2,go _ _ hk fun H H3 n3 g0 g1 g2 g3 g4=>rone_par b s p d _ _ _ H H3 n3 g0 g1 g2 g3 g4 hl rfl h45 n _ _ (hdok h30) ho (fun H h=>hC2 b s e2 d H h hxe.2 hl hd h41) (fun _=>rfl)⟩⟩
   | none=>
    obtain ⟨n,a,w,ee,d',he0,hal,hh⟩:=ho.2 hr
    exact ⟨fun n e h=>(by cases h),fun _=>⟨n,_,w,ee,_,he0,zHt hal,go _ _ hk fun H H3 n3 g0 g1 g2 g3 g4=>rone_par b s p d _ _ _ H H3 n3 g0 g1 g2 g3 g4 hl rfl h45 n _ _ (hdok h30) hh (fun H h=>hC3 b s a w ee d' H h he0 hal hl) (fun _=>rfl)⟩⟩
  ·have main : EF C GT zO [pR b] b s p d none:=⟨fun n e h=>(by cases h),fun _=>⟨zW,_,_,2,_,by decide,hee.2,go _ _ hk fun H H3 n3 g0 g1 g2 g3 g4=>rone_sign b s p d _ _ _ H H3 n3 g0 g1 g2 g3 g4 hl h45 h40 (fail _ hk)⟩⟩
   split <;> first
    | (rename_i heq; cases heq; done)
    | (rename_i heq; cases heq; exact absurd rfl h45)
    | (rename_i heq; cases heq; exact absurd rfl h40)
    | exact main
 | word e t=>
  rw [hk] at hel hend htl
  have hee : p < e ∧ e ≤ s.length:=hend
  have htl : t.length ≤ 200:=htl
  have hd30 : d = 30 → ∀ H : Heap,H[b]? = some (rP s e d) → C ze [pR b,zK (skip s p)] H (.bool false) (H.set b (pB s e (skip s p : Nat) 4 d)):=fun h H hb=>(hD b s e d _ H hb hd).1 h
  have hdok : d ≠ 30 → ∀ H : Heap,H[b]? = some (rP s e d) → C ze [pR b,zK (skip s p)] H (.bool true) (H.set b (rP s e (d + 1 : Nat))):=fun h H hb=>(hD b s e d _ H hb hd).2 h
  have hcd:=fun H=>hCd t H tO
  have hw:=fun H=>hW t H htl
  have hr:=fun H=>hR t H htl
  show EF C GT zO [pR b] b s p d (if zBI t = true ∧ s[e]? = some 40 then (if d = 30 then none else zGg s t e (d + 1)) else (zJf t).map fun n=>(n,e))
  by_cases hcl : zBI t = true ∧ s[e]? = some 40
  ·rw [zLx hcl]
   obtain ⟨hc1,hc2⟩:=hcl
   rw [hc1] at hcd
   by_cases h30 : d = 30
   ·rw [zLx h30]
    exact ⟨fun n e h=>(by cases h),fun _=>⟨zW,_,_,4,_,by decide,hee.2,go _ _ hk fun H H3 n3 g0 g1 g2 g3 g4=>rone_cal30 b s p d _ _ _ H H3 n3 g0 g1 g2 g3 g4 hl hcd hc2 (hd30 h30)⟩⟩
   rw [zLv h30]
   have ho:=hCa e t hc2 hee.1 htl
   cases hrr : zGg s t e (d + 1) with
   | some x=>
    obtain ⟨n,e2⟩:=x
    exact ⟨fun n' e' h=>by cases h; exact go _ _ hk fun H H3 n3 g0 g1 g2 g3 g4=>rone_cal b s p d _ _ _ H H3 n3 g0 g1 g2 g3 g4 hl hcd hc2 n _ (hdok h30) (ho.1 n e2 hrr) (fun _=>rfl),fun h=>by cases h⟩
   | none=>
    obtain ⟨n,a,w,ee,d',he0,hal,hh⟩:=ho.2 hrr
    exact ⟨fun n e h=>(by cases h),fun _=>⟨n,a,w,ee,d',he0,hal,go _ _ hk fun H H3 n3 g0 g1 g2 g3 g4=>rone_cal b s p d _ _ _ H H3 n3 g0 g1 g2 g3 g4 hl hcd hc2 n _ (hdok h30) hh (fun _=>rfl)⟩⟩
  rw [zLv hcl]
  have ways : (zBI t = false) ∨ (zBI t = true ∧ s.length ≤ e) ∨ (zBI t = true ∧ ∃ c,s[e]? = some c ∧ c.toNat ≠ 40):=by
   cases hb : zBI t with
   | false=>exact .inl rfl
   | true=>
    by_cases hlt : s.length ≤ e
    ·exact .inr (.inl ⟨rfl,hlt⟩)
    ·obtain ⟨c,hc⟩ : ∃ c,s[e]? = some c:=⟨_,zLy tO⟩
     exact .inr (.inr ⟨rfl,c,hc,fun h=>hcl ⟨hb,by rw [hc,show c = 40 from zME.1 h]⟩⟩)
  unfold zJf
  cases hwp : zAq t with
  | some n=>
   rw [hwp] at hw
   have hw : ∀ H,C zS [.str t,.bool false] H (.tup [zI n,.bool true]) H:=hw
   refine ⟨fun n' e' h=>?_,fun h=>by cases h⟩
   cases h
   refine go _ _ hk fun H H3 n3 g0 g1 g2 g3 g4=>?_
   rcases ways with hb | ⟨hb,hle⟩ | ⟨hb,c,hc,hc40⟩ <;> rw [hb] at hcd
   ·exact rone_numa b s p d _ _ _ H H3 n3 g0 g1 g2 g3 g4 hl hcd n hw
   ·exact rone_numb b s p d _ _ _ H H3 n3 g0 g1 g2 g3 g4 hl hcd hle n hw
   ·exact rone_numc b s p d _ _ _ H H3 n3 g0 g1 g2 g3 g4 hl hcd c hc hc40 n hw
  | none=>
   rw [hwp] at hw
   have hw : ∀ H,C zS [.str t,.bool false] H (.tup [zI 0,.bool false]) H:=hw
   simp only
   by_cases h1 : t = trueW
   ·rw [zLx h1]
    refine ⟨fun n' e' h=>?_,fun h=>by cases h⟩
    cases h
    refine go _ _ hk fun H H3 n3 g0 g1 g2 g3 g4=>?_
    rcases ways with hb | ⟨hb,hle⟩ | ⟨hb,c,hc,hc40⟩ <;> rw [hb] at hcd
    ·exact rone_trua b s p d _ _ _ H H3 n3 g0 g1 g2 g3 g4 hl hcd hw h1
    ·exact rone_trub b s p d _ _ _ H H3 n3 g0 g1 g2 g3 g4 hl hcd hle hw h1
    ·exact rone_truc b s p d _ _ _ H H3 n3 g0 g1 g2 g3 g4 hl hcd c hc hc40 hw h1
   rw [zLv h1]
   by_cases h2 : t = zHr
   ·rw [zLx h2]
    refine ⟨fun n' e' h=>?_,fun h=>by cases h⟩
    cases h
    refine go _ _ hk fun H H3 n3 g0 g1 g2 g3 g4=>?_
    rcases ways with hb | ⟨hb,hle⟩ | ⟨hb,c,hc,hc40⟩ <;> rw [hb] at hcd
    ·exact rone_fala b s p d _ _ _ H H3 n3 g0 g1 g2 g3 g4 hl hcd hw h1 h2
    ·exact rone_falb b s p d _ _ _ H H3 n3 g0 g1 g2 g3 g4 hl hcd hle hw h1 h2
    ·exact rone_falc b s p d _ _ _ H H3 n3 g0 g1 g2 g3 g4 hl hcd c hc hc40 hw h1 h2
   rw [zLv h2]
   cases hrp : zCc t with
   | some x=>
    rw [hrp] at hr
    have hr : ∀ H,C zj [.str t] H (.tup [.agg [zI x.col,zI x.row,.bool x.fc,.bool x.fr],.bool true]) H:=hr
    refine ⟨fun n' e' h=>?_,fun h=>by cases h⟩
    cases h
    refine go _ _ hk fun H H3 n3 g0 g1 g2 g3 g4=>?_
    rcases ways with hb | ⟨hb,hle⟩ | ⟨hb,c,hc,hc40⟩ <;> rw [hb] at hcd
    ·exact rone_refa b s p d _ _ _ H H3 n3 g0 g1 g2 g3 g4 hl hcd hw h1 h2 x hr
    ·exact rone_refb b s p d _ _ _ H H3 n3 g0 g1 g2 g3 g4 hl hcd hle hw h1 h2 x hr
    ·exact rone_refc b s p d _ _ _ H H3 n3 g0 g1 g2 g3 g4 hl hcd c hc hc40 hw h1 h2 x hr
   | none=>
    rw [hrp] at hr
    have hr : ∀ H,C zj [.str t] H (.tup [.agg zV1,.bool false]) H:=hr
    refine ⟨fun n e h=>(by cases h),fun _=>⟨zW,e,(skip s p : Nat),2,(d : Nat),by decide,hee.2,go _ _ hk fun H H3 n3 g0 g1 g2 g3 g4=>?_⟩⟩
    rcases ways with hb | ⟨hb,hle⟩ | ⟨hb,c,hc,hc40⟩ <;> rw [hb] at hcd
    ·exact rone_wnoa b s p d _ _ _ H H3 n3 g0 g1 g2 g3 g4 hl hcd hw h1 h2 hr (fail _ hk)
    ·exact rone_wnob b s p d _ _ _ H H3 n3 g0 g1 g2 g3 g4 hl hcd hle hw h1 h2 hr (fail _ hk)
    ·exact rone_wnoc b s p d _ _ _ H H3 n3 g0 g1 g2 g3 g4 hl hcd c hc hc40 hw h1 h2 hr (fail _ hk)
end
end Go.AM
set_option maxRecDepth 20000
namespace Go.AM
structure Bd where
 a : Nat
 w : Int
 e : Int
 d : Int
def Bd.ok (s : Bs) (W : Bd) : Prop:=W.e ≠ 0 ∧ W.a ≤ s.length
def Bd.blk (s : Bs) (W : Bd) : ABlk:=pB s W.a W.w W.e W.d
def LoF (C : CSpec) (b : Nat) (s : Bs) (d l a : Nat) (W : Bd) : Prop:=W.ok s ∧ ∃ n : Nd,∀ H,H[b]? = some (rP s a d) → C zU [pR b,zK l] H (ndV n) (H.set b (W.blk s))
inductive LF (C : CSpec) (b : Nat) (s : Bs) (d l : Nat) : Nd → Nat → Bd → Prop where
 | now (n : Nd) (a op e : Nat) (W : Bd) (ho : zGn s a = some (op,e)) (ht : ¬ tight op < l) (h : LoF C b s d (tight op + 1) e W) : LF C b s d l n a W
 | later (n m : Nd) (a op e e2 : Nat) (W : Bd) (ho : zGn s a = some (op,e)) (ht : ¬ tight op < l) (h : (P s).loose (tight op + 1) e d = some (m,e2)) (k : LF C b s d l (zFl op n m) e2 W) : LF C b s d l n a W
theorem LF.ok {C : CSpec} {b : Nat} {s : Bs} {d l : Nat} {n : Nd} {a : Nat} {W : Bd} (h : LF C b s d l n a W) : W.ok s:=by
 induction h with
 | now _ _ _ _ _ _ _ h=>exact h.1
 | later _ _ _ _ _ _ _ _ _ _ _ ih=>exact ih
theorem ll_fail {C : CSpec} {b : Nat} {s : Bs} {d l : Nat} (p : Nat) (hLo : ∀ a l',p < a → a ≤ s.length → CF C zU [pR b,zK l'] b s a d ((P s).loose l' a d)) : ∀ (k : Nat) (n : Nd) (a : Nat),p < a → a ≤ s.length → s.length - a ≤ k → (P s).ll l n a d = none → ∃ W,LF C b s d l n a W:=by
 intro k
 induction k with
 | zero=>
  intro n a hpa ha hk h
  rw [P_ll l n d ha] at h
  unfold psLl at h
  split at h
  ·cases h
  ·rename_i op e ho
   have:=zCT ho
   omega
 | succ k ih=>
  intro n a hpa ha hk h
  rw [P_ll l n d ha] at h
  unfold psLl at h
  split at h
  ·cases h
  ·rename_i op e ho
   have he:=zCT ho
   split at h
   ·cases h
   ·rename_i ht
    cases hl : (P s).loose (tight op + 1) e d with
    | none=>
     obtain ⟨n',a',w,e',d',h1,h2,h3⟩:=(hLo e (tight op + 1) tO he.2).2 hl
     exact ⟨⟨a',w,e',d'⟩,.now n a op e _ ho ht ⟨⟨h1,h2⟩,n',h3⟩⟩
    | some q=>
     obtain ⟨m,e2⟩:=q
     rw [hl] at h
     have hq:=(zBz s).loose _ e d _ he.2 hl
     simp only at hq
     obtain ⟨W,hW⟩:=ih (zFl op n m) e2 tO hq.2 tO h
     exact ⟨W,.later n m a op e e2 W ho ht hl hW⟩
structure LSt where
 m : Nat
 a : Nat
 n : Nd
 x : AV
section
variable {C : CSpec} {GT : Nat → Option AV}
def LoR (C : CSpec) (b : Nat) (s : Bs) (d l : Nat) (n : Nd) (a : Nat) (RV : AV) (RB : ABlk) : Prop:=
 (∃ n' e',(P s).ll l n a d = some (n',e') ∧ RV = ndV n' ∧ RB = rP s e' d) ∨ (∃ W : Bd,LF C b s d l n a W ∧ RV = ndV zW ∧ RB = W.blk s)
theorem LoR.stop {b : Nat} {s : Bs} {d l : Nat} {n : Nd} {a : Nat} {RV : AV} {RB : ABlk} (h : LoR C b s d l n a RV RB) (ha : a ≤ s.length) (ho : ∀ op e,zGn s a = some (op,e) → tight op < l) : RV = ndV n ∧ RB = rP s a d:=by
 rcases h with ⟨n',e',h1,h2,h3⟩ | ⟨W,hW,_⟩
 ·rw [P_ll l n d ha] at h1
  unfold psLl at h1
  split at h1
  ·cases h1; exact ⟨h2,h3⟩
  ·rename_i op e hop
   rw [zLx (ho op e hop)] at h1
   cases h1; exact ⟨h2,h3⟩
 ·cases hW with
  | now _ _ op e _ hop ht h=>exact absurd (ho _ _ hop) ht
  | later _ m _ op e e2 _ hop ht h k=>exact absurd (ho _ _ hop) ht
theorem LoR.go {b : Nat} {s : Bs} {d l : Nat} {n : Nd} {a op e : Nat} {RV : AV} {RB : ABlk} (h : LoR C b s d l n a RV RB) (ha : a ≤ s.length) (ho : zGn s a = some (op,e)) (ht : ¬ tight op < l) :
  (∃ m e2,(P s).loose (tight op + 1) e d = some (m,e2) ∧ LoR C b s d l (zFl op n m) e2 RV RB) ∨ (∃ W : Bd,LoF C b s d (tight op + 1) e W ∧ RV = ndV zW ∧ RB = W.blk s):=by
 rcases h with ⟨n',e',h1,h2,h3⟩ | ⟨W,hW,h2,h3⟩
 ·rw [P_ll l n d ha] at h1
  unfold psLl at h1
  rw [ho] at h1
  simp only at h1
  rw [zLv ht,zMN] at h1
  obtain ⟨⟨m,e2⟩,h4,h5⟩:=h1
  exact .inl ⟨m,e2,h4,.inl ⟨n',e',h5,h2,h3⟩⟩
 ·cases hW with
  | now _ _ op' e' _ ho' ht' h=>rw [ho] at ho'; cases ho'; exact .inr ⟨W,h,h2,h3⟩
  | later _ m _ op' e' e2 _ ho' ht' h k=>rw [ho] at ho'; cases ho'; exact .inl ⟨m,e2,h,.inr ⟨W,k,h2,h3⟩⟩
set_option maxHeartbeats 8000000 in
theorem rloose_ev (hT : ∀ s a H,a ≤ s.length → s.length ≤ 1000 → C zT [.str s,zK a] H (tkV s a) H)
  (hSg : ∀ t H,C zB8 [.str t] H (zK (zBO t)) H) (hTi : ∀ op H,op ≤ 1000 → C zBF [zK op] H (zK (tight op)) H)
  (b : Nat) (s : Bs) (p d l : Nat) (hp : p ≤ s.length) (hl : s.length ≤ 200)
  (hLo : ∀ a l' m e,p < a → a ≤ s.length → (P s).loose l' a d = some (m,e) → ∀ H,H[b]? = some (rP s a d) → C zU [pR b,zK l'] H (ndV m) (H.set b (rP s e d)))
  (n0 : Nd) (e0 : Nat) (hpe : p < e0) (hel : e0 ≤ s.length) (RV : AV) (RB : ABlk) (hRB : ∀ k,zFE k RB = true) (hRV : ∃ n',RV = ndV n') (hR : LoR C b s d l n0 e0 RV RB)
  (H : Heap) (hb : H[b]? = some (rP s p d)) (ho : ∀ H,H[b]? = some (rP s p d) → C zAB [pR b] H (ndV n0) (H.set b (rP s e0 d))) :
  zB3 C GT zBa [pR b,zK l] H b [] .undef (some (RV,RB)):=by
 have hbl : b < H.length:=(zg hb).1
 have hT:=fun a H h=>hT s a H h tO
 obtain ⟨n',rfl⟩:=hRV
 refine zz ?_
 clear hp
 refine sW ?_; refine sS (ndV n0) (AV.cells (ndV n0)) ?_; refine zBm (fun st : LSt=>[(4,pR H.length),(5,pR st.m),(0,pR b),(1,zK l)])
  (fun st H'=>(st.m = H.length + 1 ∧ H'[H.length]? = some (.box (ndC zW)) ∧ H'[H.length + 1]? = some (.box (ndX st.n st.x)) ∧ NdO H H' st.n st.x) ∧
   ((OldB H b (rP s st.a d) H' ∧ H'[b]? = some (rP s st.a d) ∧ st.a ≤ s.length ∧ p < st.a ∧ LoR C b s d l st.n st.a (ndV n') RB) ∨ (∃ W : Bd,W.ok s ∧ OldB H b (W.blk s) H' ∧ H'[b]? = some (W.blk s) ∧ ndV n' = ndV zW ∧ RB = W.blk s ∧ st.a = s.length + 1)))
  (fun st=>s.length + 1 - st.a) ⟨_,e0,n0,.lst (some n0.kq) n0.kk (kxs n0)⟩ rfl ⟨⟨(by simp),hP,(by rw [show H.length + 1 = ((H ++ [ABlk.box (ndC zW)]).set b (rP s e0 d)).length from by simp]; exact hP),.inl rfl⟩,.inl ⟨((((((OldB.start hb).push _).setB _).push _).set (by simp) _)),hP,hel,hpe,hR⟩⟩ (fun ⟨m,a,n,x⟩ H1 ⟨⟨hm,h4,h5,hnd⟩,hst⟩=>?_)
 dsimp only at hm h4 h5 hnd hst ⊢
 subst hm
 clear ho hR hb hpe hel
 have h5l:=(zg h5).1
 rcases hst with ⟨hob,hb1,ha,hpa,hR⟩ | ⟨W,hW,hob,hb1,hv,hB,hae⟩
 case inr=>
  have hb1' : H1[b]? = some (.box [.str s,zI W.a,zI W.w,zI W.e,zI W.d]):=hb1
  have hwe:=hW.1
  rw [hv,hB]
  clear hLo hT hSg hTi
  refine zD (zI W.e) hb1' rfl <| zY (tN hwe) <| zl (v:=zV0) rfl <| zH (v:=AV.agg zV0) (AV.cells (AV.agg zV0)) h4 rfl rfl rfl rfl ?_
  exact zx (o:=0) (ndV zW) rfl rfl rfl (zJ hP) rfl rfl rfl hO rfl
 have htk:=fun H=>hT a H ha
 rw [zEv] at htk
 have hnd1:=hnd.push (ABlk.box zV4)
 clear hT
 have hle:=zHt ha
 by_cases hsg : ∃ e t,tok s a = .sign e t
 ·obtain ⟨e,t,hk⟩:=hsg
  have hoa : zGn s a = if zBO t = 0 then none else some (zBO t,e):=by unfold zGn; rw [hk]
  rw [hk] at htk hle
  have hle : e ≤ s.length:=hle
  have htk : ∀ H,C zT [.str s,zK a] H (kV 4 (skip s a) e t) H:=htk
  have hs:=fun H=>hSg t H
  have hop : zBO t ≤ 11:=by unfold zBO; repeat' (first | omega | split)
  have hti:=fun H=>hTi (zBO t) H tO
  clear hSg hTi
  by_cases h0 : zBO t = 0
  ·obtain ⟨rv,rb⟩:=hR.stop ha (fun op e' h=>by rw [hoa,zLx h0] at h; cases h)
   rw [rv,rb]
   rw [h0] at hs
   clear hti hLo
   generalize skip s a = q at *
   refine sW ?_; refine zGk ?_ ?_
   all_goals
    refine zL (htk _) <| zH (v:=kV 4 q e t) (AV.cells (kV 4 q e t)) zB rfl rfl rfl rfl <| zD (zK 4) (zE zB) rfl <| zG <| zD (AV.str t) (zE zB) rfl <| zL (hs _) ?_; refine zG <| zG <| zG <| zD (.agg (ndX n x)) hP rfl <| zH (v:=.agg (ndX n x)) (ndX n x) hP rfl hnd.one rfl rfl ?_
    obtain ⟨H4,hz,hl4',hbx,hol⟩:=(((hnd.push (ABlk.box [AV.int .i64 0,.int .i64 0,.int .i64 0,.str []])).set zB (.box (kV 4 q e t).cells)).set (b:=H.length) (cs:=ndC zW) hP (.box (ndX n x))).frz H.length (zL0 _)
    exact zx (o:=0) (.agg (ndX n x)) rfl rfl rfl (zJ hP) rfl hz (zHE _ _) ⟨hbl,hol hbl (((hob.push _).set tO _).set (zL0 _) _).old⟩ rfl
  ·rw [zLv h0] at hoa
   by_cases hti2 : tight (zBO t) < l
   ·obtain ⟨rv,rb⟩:=hR.stop ha (fun op e' h=>by rw [hoa] at h; cases h; exact hti2)
    rw [rv,rb]
    clear hLo
    generalize skip s a = q at *
    generalize tight (zBO t) = ti at *
    refine sW ?_; refine zGk ?_ ?_
    all_goals
     refine zL (htk _) <| zH (v:=kV 4 q e t) (AV.cells (kV 4 q e t)) zB rfl rfl rfl rfl <| zD (zK 4) (zE zB) rfl <| zb tT <| zD (AV.str t) (zE zB) rfl <| zL (hs _) ?_; refine zY tN <| zL (hti _) <| zF <| zb tT <| zD (.agg (ndX n x)) hP rfl <| zH (v:=.agg (ndX n x)) (ndX n x) hP rfl hnd.one rfl rfl ?_
     obtain ⟨H4,hz,hl4',hbx,hol⟩:=(((hnd.push (ABlk.box [AV.int .i64 0,.int .i64 0,.int .i64 0,.str []])).set zB (.box (kV 4 q e t).cells)).set (b:=H.length) (cs:=ndC zW) hP (.box (ndX n x))).frz H.length (zL0 _)
     exact zx (o:=0) (.agg (ndX n x)) rfl rfl rfl (zJ hP) rfl hz (zHE _ _) ⟨hbl,hol hbl (((hob.push _).set tO _).set (zL0 _) _).old⟩ rfl
   ·have hae:=zCT hoa
    have htl:=tight_le (zBO t)
    rcases hR.go ha hoa hti2 with ⟨m2,e2,hl2,hR2⟩ | ⟨W,⟨hW,nw,hlo⟩,hv,hB⟩
    ·have hx:=(zBz s).loose _ e d _ hle hl2
     simp only at hx
     have hlo:=hLo e (tight (zBO t) + 1) m2 e2 tO hle hl2
     clear hLo hR
     generalize skip s a = q at *
     generalize hgt : tight (zBO t) = ti at *
     refine sW ?_; refine zGk ?_ ?_
     all_goals
      refine zL (htk _) <| zH (v:=kV 4 q e t) (AV.cells (kV 4 q e t)) zB rfl rfl rfl rfl <| zD (zK 4) (zE zB) rfl <| zG <| zD (AV.str t) (zE zB) rfl <| zL (hs _) ?_; refine zY tN <| zL (hti _) <| zF <| zY tF <| zD (zK e) (zE zB) rfl <| zH (v:=zK e) [AV.str s,zK e,zI 0,zI 0,zI ↑d] (zA tA (zC hb1)) rfl rfl rfl rfl ?_; refine zL (hti _) <| zN (r:=ti + 1) rfl tO <| zAc (hlo _ hP) (fun h=>by cases h) <| zH (v:=ndV m2) (AV.cells (ndV m2)) zB rfl rfl rfl rfl <| zD (.agg (ndX n x)) hP rfl <| zD (ndV m2) (zE zB) rfl ?_
      have hndA:=(((((hnd.push (ABlk.box [AV.int .i64 0,.int .i64 0,.int .i64 0,.str []])).set zB (.box (kV 4 q e t).cells)).set (b:=b) (cs:=[.str s,zI a,zI 0,zI 0,zI d]) hP (rP s e d)).set (b:=b) (cs:=[.str s,zI e,zI 0,zI 0,zI d]) hP (rP s e2 d)).push (ABlk.box (ndC zW))).set zB (.box (ndC m2))
      have hoA : OldB H b (rP s e2 d) _:=((((((hob.push [ABlk.box [AV.int .i64 0,.int .i64 0,.int .i64 0,.str []]]).set (c:=H1.length) tO (.box (kV 4 q e t).cells)).setB (rP s e d)).setB (rP s e2 d)).push [ABlk.box (ndC zW)]).set (c:=((((H1 ++ [ABlk.box [AV.int .i64 0,.int .i64 0,.int .i64 0,.str []]]).set H1.length (.box (kV 4 q e t).cells)).set b (rP s e d)).set b (rP s e2 d)).length) (by simp; omega) (.box (ndC m2)))
      obtain ⟨H4,hz,hl4',hbx,hol⟩:=hndA.frz 0 (zMm _)
      have hz2:=zFM hz (show zJH 0 [ndV m2] H4 = some ([ndV m2],H4) from rfl)
      have hb4:=hbx b [.str s,zI e2,zI 0,zI 0,zI d] hP
      have h44:=hbx H.length (ndC zW) hP
      have h54:=hbx (H.length + 1) (ndX n x) hP
      have h54l:=(zg h54).1
      have hob4 : OldB H b (rP s e2 d) H4:=⟨hbl,hol hbl hoA.old⟩
      clear hbx hol hz hndA hoA
      refine zEf [ndV n,ndV m2] H4 hz2 rfl <| sW ?_; refine sS (.agg (ndX (zFl (zBO t) n m2) (.sl (some false) H4.length 12 0 2))) (ndX (zFl (zBO t) n m2) (.sl (some false) H4.length 12 0 2)) ?_; refine zAU (LSt.mk (H.length + 1) e2 (zFl (zBO t) n m2) (.sl (some false) H4.length 12 0 2)) rfl ⟨⟨rfl,hP,hP,.inr ⟨zBO t,n,m2,H4.length,rfl,rfl,hP,by omega⟩⟩,.inl ⟨(hob4.push _).set tO _,hP,hx.2,by simp only; omega,hR2⟩⟩ (by simp only; omega)
    ·clear hLo hR
     rw [hv,hB]
     generalize skip s a = q at *
     generalize hgt : tight (zBO t) = ti at *
     refine sW ?_; refine zGk ?_ ?_
     all_goals
      refine zL (htk _) <| zH (v:=kV 4 q e t) (AV.cells (kV 4 q e t)) zB rfl rfl rfl rfl <| zD (zK 4) (zE zB) rfl <| zG <| zD (AV.str t) (zE zB) rfl <| zL (hs _) ?_; refine zY tN <| zL (hti _) <| zF <| zY tF <| zD (zK e) (zE zB) rfl <| zH (v:=zK e) [AV.str s,zK e,zI 0,zI 0,zI ↑d] (zA tA (zC hb1)) rfl rfl rfl rfl ?_; refine zL (hti _) <| zN (r:=ti + 1) rfl tO <| zAc (hlo _ hP) (fun h=>by cases h) <| zH (v:=ndV nw) (AV.cells (ndV nw)) zB rfl rfl rfl rfl <| zD (.agg (ndX n x)) hP rfl <| zD (ndV nw) (zE zB) rfl ?_
      have hndA:=(((((hnd.push (ABlk.box [AV.int .i64 0,.int .i64 0,.int .i64 0,.str []])).set zB (.box (kV 4 q e t).cells)).set (b:=b) (cs:=[.str s,zI a,zI 0,zI 0,zI d]) hP (rP s e d)).set (b:=b) (cs:=[.str s,zI e,zI 0,zI 0,zI d]) hP (W.blk s)).push (ABlk.box (ndC zW))).set zB (.box (ndC nw))
      have hoA : OldB H b (W.blk s) _:=((((((hob.push [ABlk.box [AV.int .i64 0,.int .i64 0,.int .i64 0,.str []]]).set (c:=H1.length) tO (.box (kV 4 q e t).cells)).setB (rP s e d)).setB (W.blk s)).push [ABlk.box (ndC zW)]).set (c:=((((H1 ++ [ABlk.box [AV.int .i64 0,.int .i64 0,.int .i64 0,.str []]]).set H1.length (.box (kV 4 q e t).cells)).set b (rP s e d)).set b (W.blk s)).length) (by simp; omega) (.box (ndC nw)))
      obtain ⟨H4,hz,hl4',hbx,hol⟩:=hndA.frz 0 (zMm _)
      have hz2:=zFM hz (show zJH 0 [ndV nw] H4 = some ([ndV nw],H4) from rfl)
      have hb4:=hbx b [.str s,zI W.a,zI W.w,zI W.e,zI W.d] hP
      have h44:=hbx H.length (ndC zW) hP
      have h54:=hbx (H.length + 1) (ndX n x) hP
      have h54l:=(zg h54).1
      have hob4 : OldB H b (W.blk s) H4:=⟨hbl,hol hbl hoA.old⟩
      clear hbx hol hz hndA hoA
      refine zEf [ndV n,ndV nw] H4 hz2 rfl <| sW ?_; refine sS (.agg (ndX (zFl (zBO t) n nw) (.sl (some false) H4.length 12 0 2))) (ndX (zFl (zBO t) n nw) (.sl (some false) H4.length 12 0 2)) ?_; refine zAU (LSt.mk (H.length + 1) (s.length + 1) (zFl (zBO t) n nw) (.sl (some false) H4.length 12 0 2)) rfl ⟨⟨rfl,hP,hP,.inr ⟨zBO t,n,nw,H4.length,rfl,rfl,hP,by omega⟩⟩,.inr ⟨W,hW,(hob4.push _).set tO _,hP,rfl,rfl,rfl⟩⟩ (by simp only; omega)
 ·have hk4 : tkK (tok s a) ≠ 4:=fun h=>by
   cases hk : tok s a <;> rw [hk] at h <;> simp only [tkK] at h
   all_goals first | omega | exact hsg ⟨_,_,hk⟩
  obtain ⟨rv,rb⟩:=hR.stop ha (fun op e' h=>by
   unfold zGn at h
   split at h
   ·rename_i e t hk; exact absurd ⟨e,t,hk⟩ hsg
   ·cases h)
  rw [rv,rb]
  clear hLo hSg hTi
  generalize tkE (skip s a) (tok s a) = ee at *
  generalize tkK (tok s a) = kk at *
  generalize tkT (tok s a) = t at *
  generalize skip s a = q at *
  refine sW ?_; refine zGk ?_ ?_
  all_goals
   refine zL (htk _) ?_; refine sS (kV kk q ee t) (AV.cells (kV kk q ee t)) ?_; refine sW ?_; refine zH (v:=.agg (ndX n x)) (ndX n x) hP rfl hnd.one rfl rfl ?_
   obtain ⟨H4,hz,hl4',hbx,hol⟩:=(((hnd.push (ABlk.box [AV.int .i64 0,.int .i64 0,.int .i64 0,.str []])).set zB (.box (kV kk q ee t).cells)).set (b:=H.length) (cs:=ndC zW) hP (.box (ndX n x))).frz H.length (zL0 _)
   exact zx (o:=0) (.agg (ndX n x)) rfl rfl rfl (zJ hP) rfl hz (zHE _ _) ⟨hbl,hol hbl (((hob.push _).set tO _).set (zL0 _) _).old⟩ rfl
end
end Go.AM
