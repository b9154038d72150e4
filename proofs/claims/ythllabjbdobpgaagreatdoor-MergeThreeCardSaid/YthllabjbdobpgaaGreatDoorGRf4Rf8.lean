/- Several texts of mine in one (Rf4, Rf8). Own work. -/
import Derived.Test.YthllabjbdobpgaaGreatDoorGRf5Rf3
import Derived.Test.YthllabjbdobpgaaGreatDoorGRf6Rf7
set_option linter.all false
set_option maxRecDepth 20000
namespace Go.AM
def refRV : Option RefP → AV
 | some r=>.tup [.agg [zK r.col,zK r.row,.bool r.fc,.bool r.fr],.bool true]
 | none=>.tup [.agg zV1,.bool false]
theorem zHd {c : UInt8} {r r2 : Bs} {fr : Bool} (hc : capB c = true) (h : dollar r = (fr,r2)) : zCu (c :: r) = match zBE r2 with
  | some n=>if 1 ≤ n ∧ n ≤ 99 then some ⟨(c.toNat : Int) - 64,n,false,fr⟩ else none
  | none=>none:=by
 have h36 : c ≠ 36:=fun e=>by subst e; revert hc; decide
 unfold zCu
 have e : dollar (c :: r) = (false,c :: r):=by simp [dollar,h36]
 rw [e]
 unfold colP
 simp only [hc,zND,h]
 rfl
theorem zIe {c : UInt8} {r r2 : Bs} {fr : Bool} (hc : capB c = true) (h : dollar r = (fr,r2)) : zCu (36 :: c :: r) = match zBE r2 with
  | some n=>if 1 ≤ n ∧ n ≤ 99 then some ⟨(c.toNat : Int) - 64,n,true,fr⟩ else none
  | none=>none:=by
 unfold zCu
 have e : dollar (36 :: c :: r) = (true,c :: r):=by simp [dollar]
 rw [e]
 unfold colP
 simp only [hc,zND,h]
 rfl
section
variable {C : CSpec} {GT : Nat → Option AV}
set_option maxHeartbeats 8000000 in
theorem rref_ev (hW : ∀ s H,s.length ≤ 200 → C zU [.str s,.bool false] H (zKE (zBE s)) H) (s : Bs) (H : Heap) (hl : s.length ≤ 200) : EFun C GT zGM [.str s] H (refRV (zCu s)) H:=by
 refine zc ?_
 cases s with
 | nil=>
  have e : zCu ([]) = none:=by rfl
  rw [e]
  clear hW
  refine zG <| zG <| zG <| zP tE <| zP tE <| zP tE <| zP tE <| zP tE ?_; refine zS (v:=zV1) rfl <| zF (v:=AV.agg zV1) (AV.cells (AV.agg zV1)) (zC zD) rfl rfl rfl rfl ?_
  exact zR (o:=0) rfl rfl (zL (zE (zC zD))) rfl rfl rfl rfl ((((Old.refl _).push _).push _).set tA _)
  all_goals exact zR (v:=.agg zV1) (v1:=.bool false) (o:=0) rfl rfl (zL hP) rfl rfl rfl rfl (by repeat' (first | exact Old.refl _ | refine Old.set ?_ tC _ | apply Old.push))
 | cons c r=>
  have hl1 : (c :: r).length = r.length + 1:=rfl
  have hc : (c :: r)[0]? = some c:=rfl
  have hcn : c.toNat < 256:=zNu c
  by_cases h36 : c = 36
  ·subst h36
   cases r with
   | nil=>
    have e : zCu ([36]) = none:=by rfl
    rw [e]
    clear hW
    refine zP tT <| zn rfl hc <| zP tE <| zH <| zF (v:=AV.bool true) zV6 zD rfl rfl rfl rfl <| zM (r:=1) rfl tO ?_; refine zP tE <| zP tE <| zP tE <| zP tE <| zP tE <| zS (v:=zV1) rfl ?_; refine zF (v:=AV.agg zV1) (AV.cells (AV.agg zV1)) (zA tA (zC zD)) rfl rfl rfl rfl ?_
    exact zR (o:=0) rfl rfl (zL (zE (zA tA (zC zD)))) rfl rfl rfl rfl (((((Old.refl _).push _).push _).set tA _).set tA _)
    all_goals exact zR (v:=.agg zV1) (v1:=.bool false) (o:=0) rfl rfl (zL hP) rfl rfl rfl rfl (by repeat' (first | exact Old.refl _ | refine Old.set ?_ tC _ | apply Old.push))
   | cons c r=>
    have hc0:=hc
    clear hcn
    have hl2 : (c :: r).length = r.length + 1:=rfl
    have hc : (36 :: c :: r)[1]? = some c:=rfl
    have hcn : c.toNat < 256:=zNu c
    by_cases hcap : capB c = true
    ·have hcap2:=hcap
     unfold capB at hcap2
     simp only [zMd,zMr] at hcap2
     cases r with
     | nil=>
      have hl3 : ([] : Bs).length = 0:=rfl
      have hw:=hW ([])
      have hsl : zAy none (.str (36 :: c :: [])) (some (.int .i64 ((2 : Nat) : Int))) none = some (.str ([])):=zC9 (36 :: c :: []) 2 (by simp)
      have e : zCu (36 :: c :: []) = match zBE ([]) with
        | some n=>if 1 ≤ n ∧ n ≤ 99 then some ⟨(c.toNat : Int) - 64,n,true,false⟩ else none
        | none=>none:=by exact zIe (r:=[]) (fr:=false) (r2:=[]) hcap rfl
      rw [e]
      cases hwp : zBE ([]) with
      | none=>
       rw [hwp] at hw
       have hw : ∀ H,_ → C zU _ H (.tup [zK 0,.bool false]) H:=hw
       clear hW
       refine zP tT <| zn rfl hc0 <| zP tE <| zH <| zF (v:=AV.bool true) zV6 zD rfl rfl rfl rfl <| zM (r:=1) rfl tO ?_; refine zO tF <| zn rfl hc <| zG <| zO tF <| zn rfl hc ?_; refine zG <| zO tF <| zn rfl hc <| zM (r:=c.toNat) tO tO <| zM (r:=c.toNat - 64) tO tO <| zF (v:=.int .i64 ↑(c.toNat - 64)) [.int .i64 ↑(c.toNat - 64),.int .i64 0,AV.bool true,AV.bool false] (zE zD) rfl rfl rfl rfl ?_
       refine zM (r:=2) rfl tO <| zO tF <| zG <| zG <| zS hsl <| zI (hw _ (by simp only [zMi] at hl; omega)) ?_; refine zS rfl <| zS rfl ?_; refine zP tE <| zP tE <| zP tE <| zP tE <| zP tE <| zS (v:=zV1) rfl ?_; refine zF (v:=AV.agg zV1) (AV.cells (AV.agg zV1)) (zA tA (zA tA (zC zD))) rfl rfl rfl rfl ?_
       exact zR (o:=0) rfl rfl (zL (zE (zA tA (zA tA (zC zD))))) rfl rfl rfl rfl ((((((Old.refl _).push _).push _).set tA _).set tA _).set tA _)
       all_goals exact zR (v:=.agg zV1) (v1:=.bool false) (o:=0) rfl rfl (zL hP) rfl rfl rfl rfl (by repeat' (first | exact Old.refl _ | refine Old.set ?_ tC _ | apply Old.push))
      | some n=>
       rw [hwp] at hw
       have hw : ∀ H,_ → C zU _ H (.tup [zK n,.bool true]) H:=hw
       clear hW
       by_cases hn1 : n < 1
       ·have hnn : ¬ (1 ≤ n ∧ n ≤ 99):=by omega
        simp only [zMe hnn]
        refine zP tT <| zn rfl hc0 <| zH <| zH <| zF (v:=AV.bool true) zV6 zD rfl rfl rfl rfl <| zM (r:=1) rfl tO ?_; refine zO tF <| zn rfl hc <| zP tE <| zH <| zH <| zH ?_; refine zS (v:=zV1) rfl <| zF (v:=AV.agg zV1) (AV.cells (AV.agg zV1)) (zA tA (zC zD)) rfl rfl rfl rfl ?_
        exact zR (o:=0) rfl rfl (zL (zE (zA tA (zC zD)))) rfl rfl rfl rfl (((((Old.refl _).push _).push _).set tA _).set tA _)
        all_goals exact zR (v:=.agg zV1) (v1:=.bool false) (o:=0) rfl rfl (zL hP) rfl rfl rfl rfl (by repeat' (first | exact Old.refl _ | refine Old.set ?_ tC _ | apply Old.push))
       by_cases hn2 : 99 < n
       ·have hnn : ¬ (1 ≤ n ∧ n ≤ 99):=by omega
        simp only [zMe hnn]
        refine zP tT <| zn rfl hc0 <| zH <| zH <| zF (v:=AV.bool true) zV6 zD rfl rfl rfl rfl <| zM (r:=1) rfl tO ?_; refine zO tF <| zn rfl hc <| zP tE <| zH <| zH <| zH ?_; refine zS (v:=zV1) rfl <| zF (v:=AV.agg zV1) (AV.cells (AV.agg zV1)) (zA tA (zC zD)) rfl rfl rfl rfl ?_
        exact zR (o:=0) rfl rfl (zL (zE (zA tA (zC zD)))) rfl rfl rfl rfl (((((Old.refl _).push _).push _).set tA _).set tA _)
        all_goals exact zR (v:=.agg zV1) (v1:=.bool false) (o:=0) rfl rfl (zL hP) rfl rfl rfl rfl (by repeat' (first | exact Old.refl _ | refine Old.set ?_ tC _ | apply Old.push))
       ·have hnn : 1 ≤ n ∧ n ≤ 99:=by omega
        simp only [zMg hnn]
        have hcc : ((c.toNat - 64 : Nat) : Int) = (c.toNat : Int) - 64:=by omega
        rw [← hcc]
        refine zP tT <| zn rfl hc0 <| zH <| zH <| zF (v:=AV.bool true) zV6 zD rfl rfl rfl rfl <| zM (r:=1) rfl tO ?_; refine zO tF <| zn rfl hc <| zG <| zO tF <| zn rfl hc ?_; refine zG <| zO tF <| zn rfl hc <| zM (r:=c.toNat) tO tO <| zM (r:=c.toNat - 64) tO tO <| zF (v:=.int .i64 ↑(c.toNat - 64)) [.int .i64 ↑(c.toNat - 64),.int .i64 0,AV.bool true,AV.bool false] (zE zD) rfl rfl rfl rfl ?_
        refine zM (r:=2) rfl tO <| zO tF <| zG <| zG <| zS hsl <| zI (hw _ (by simp only [zMi] at hl; omega)) ?_; refine zS rfl <| zS rfl ?_; refine zG <| zG <| zO tF <| zG <| zO tF <| zF (v:=zK n) [.int .i64 ↑(c.toNat - 64),zK n,AV.bool true,AV.bool false] (zE (zE zD)) rfl rfl rfl rfl ?_; refine zB (AV.agg [.int .i64 ↑(c.toNat - 64),zK n,AV.bool true,AV.bool false]) (zE (zE (zE zD))) rfl <| zF (v:=AV.agg [.int .i64 ↑(c.toNat - 64),zK n,AV.bool true,AV.bool false]) (AV.cells (AV.agg [.int .i64 ↑(c.toNat - 64),zK n,AV.bool true,AV.bool false])) (zA tA (zA tA (zA tA (zC zD)))) rfl rfl rfl rfl ?_
        exact zR (o:=0) rfl rfl (zL (zE (zA tA (zA tA (zA tA (zC zD)))))) rfl rfl rfl rfl (((((((Old.refl _).push _).push _).set tA _).set tA _).set tA _).set tA _)
        all_goals exact zR (v:=.agg [zK ((c.toNat - 64 : Nat) : Int),zK n,.bool true,.bool false]) (v1:=.bool true) (o:=0) rfl rfl (zL hP) rfl rfl rfl rfl (by repeat' (first | exact Old.refl _ | refine Old.set ?_ tC _ | apply Old.push))
     | cons c2 r=>
      have hl3 : (c2 :: r).length = r.length + 1:=rfl
      have hc2 : (36 :: c :: c2 :: r)[2]? = some c2:=rfl
      have hcn2 : c2.toNat < 256:=zNu c2
      by_cases h362 : c2 = 36
      ·subst h362
       have hw:=hW (r)
       have hsl : zAy none (.str (36 :: c :: 36 :: r)) (some (.int .i64 ((3 : Nat) : Int))) none = some (.str (r)):=zC9 (36 :: c :: 36 :: r) 3 (by simp)
       have e : zCu (36 :: c :: 36 :: r) = match zBE (r) with
         | some n=>if 1 ≤ n ∧ n ≤ 99 then some ⟨(c.toNat : Int) - 64,n,true,true⟩ else none
         | none=>none:=by exact zIe (r:=36 :: r) (fr:=true) (r2:=r) hcap (by simp [dollar])
       rw [e]
       cases hwp : zBE (r) with
       | none=>
        rw [hwp] at hw
        have hw : ∀ H,_ → C zU _ H (.tup [zK 0,.bool false]) H:=hw
        clear hW
        refine zP tT <| zn rfl hc0 <| zH <| zH <| zF (v:=AV.bool true) zV6 zD rfl rfl rfl rfl <| zM (r:=1) rfl tO ?_; refine zO tF <| zn rfl hc <| zG <| zO tF <| zn rfl hc ?_; refine zG <| zO tF <| zn rfl hc <| zM (r:=c.toNat) tO tO <| zM (r:=c.toNat - 64) tO tO <| zF (v:=.int .i64 ↑(c.toNat - 64)) [.int .i64 ↑(c.toNat - 64),.int .i64 0,AV.bool true,AV.bool false] (zE zD) rfl rfl rfl rfl ?_
        refine zM (r:=2) rfl tO <| zP tT <| zn rfl hc0 <| zH <| zH <| zF (v:=AV.bool true) [.int .i64 ↑(c.toNat - 64),.int .i64 0,AV.bool true,AV.bool true] (zE (zE zD)) rfl rfl rfl rfl ?_; refine zM (r:=3) rfl tO <| zS hsl <| zI (hw _ (by simp only [zMi] at hl; omega)) <| zS rfl <| zS rfl ?_; refine zH <| zH <| zH <| zH <| zH <| zS (v:=zV1) rfl ?_
        refine zF (v:=AV.agg zV1) (AV.cells (AV.agg zV1)) (zA tA (zA tA (zA tA (zC zD)))) rfl rfl rfl rfl ?_
        exact zR (o:=0) rfl rfl (zL (zE (zA tA (zA tA (zA tA (zC zD)))))) rfl rfl rfl rfl (((((((Old.refl _).push _).push _).set tA _).set tA _).set tA _).set tA _)
        all_goals exact zR (v:=.agg zV1) (v1:=.bool false) (o:=0) rfl rfl (zL hP) rfl rfl rfl rfl (by repeat' (first | exact Old.refl _ | refine Old.set ?_ tC _ | apply Old.push))
       | some n=>
        rw [hwp] at hw
        have hw : ∀ H,_ → C zU _ H (.tup [zK n,.bool true]) H:=hw
        clear hW
        by_cases hn1 : n < 1
        ·have hnn : ¬ (1 ≤ n ∧ n ≤ 99):=by omega
         simp only [zMe hnn]
         refine zP tT <| zn rfl hc0 <| zH <| zH <| zF (v:=AV.bool true) zV6 zD rfl rfl rfl rfl <| zM (r:=1) rfl tO ?_; refine zO tF <| zn rfl hc <| zG <| zO tF <| zn rfl hc ?_; refine zG <| zO tF <| zn rfl hc <| zM (r:=c.toNat) tO tO <| zM (r:=c.toNat - 64) tO tO <| zF (v:=.int .i64 ↑(c.toNat - 64)) [.int .i64 ↑(c.toNat - 64),.int .i64 0,AV.bool true,AV.bool false] (zE zD) rfl rfl rfl rfl ?_
         refine zM (r:=2) rfl tO <| zP tT <| zn rfl hc0 <| zH <| zH <| zF (v:=AV.bool true) [.int .i64 ↑(c.toNat - 64),.int .i64 0,AV.bool true,AV.bool true] (zE (zE zD)) rfl rfl rfl rfl ?_; refine zM (r:=3) rfl tO <| zS hsl <| zI (hw _ (by simp only [zMi] at hl; omega)) <| zS rfl <| zS rfl ?_; refine zG <| zG <| zP tT <| zH <| zH <| zS (v:=zV1) rfl ?_
         refine zF (v:=AV.agg zV1) (AV.cells (AV.agg zV1)) (zA tA (zA tA (zA tA (zC zD)))) rfl rfl rfl rfl ?_
         exact zR (o:=0) rfl rfl (zL (zE (zA tA (zA tA (zA tA (zC zD)))))) rfl rfl rfl rfl (((((((Old.refl _).push _).push _).set tA _).set tA _).set tA _).set tA _)
         all_goals exact zR (v:=.agg zV1) (v1:=.bool false) (o:=0) rfl rfl (zL hP) rfl rfl rfl rfl (by repeat' (first | exact Old.refl _ | refine Old.set ?_ tC _ | apply Old.push))
        by_cases hn2 : 99 < n
        ·have hnn : ¬ (1 ≤ n ∧ n ≤ 99):=by omega
         simp only [zMe hnn]
         refine zP tT <| zn rfl hc0 <| zH <| zH <| zF (v:=AV.bool true) zV6 zD rfl rfl rfl rfl <| zM (r:=1) rfl tO ?_; refine zO tF <| zn rfl hc <| zG <| zO tF <| zn rfl hc ?_; refine zG <| zO tF <| zn rfl hc <| zM (r:=c.toNat) tO tO <| zM (r:=c.toNat - 64) tO tO <| zF (v:=.int .i64 ↑(c.toNat - 64)) [.int .i64 ↑(c.toNat - 64),.int .i64 0,AV.bool true,AV.bool false] (zE zD) rfl rfl rfl rfl ?_
         refine zM (r:=2) rfl tO <| zP tT <| zn rfl hc0 <| zH <| zH <| zF (v:=AV.bool true) [.int .i64 ↑(c.toNat - 64),.int .i64 0,AV.bool true,AV.bool true] (zE (zE zD)) rfl rfl rfl rfl ?_; refine zM (r:=3) rfl tO <| zS hsl <| zI (hw _ (by simp only [zMi] at hl; omega)) <| zS rfl <| zS rfl ?_; refine zG <| zG <| zO tF <| zG <| zP tT <| zS (v:=zV1) rfl ?_
         refine zF (v:=AV.agg zV1) (AV.cells (AV.agg zV1)) (zA tA (zA tA (zA tA (zC zD)))) rfl rfl rfl rfl ?_
         exact zR (o:=0) rfl rfl (zL (zE (zA tA (zA tA (zA tA (zC zD)))))) rfl rfl rfl rfl (((((((Old.refl _).push _).push _).set tA _).set tA _).set tA _).set tA _)
         all_goals exact zR (v:=.agg zV1) (v1:=.bool false) (o:=0) rfl rfl (zL hP) rfl rfl rfl rfl (by repeat' (first | exact Old.refl _ | refine Old.set ?_ tC _ | apply Old.push))
        ·have hnn : 1 ≤ n ∧ n ≤ 99:=by omega
         simp only [zMg hnn]
         have hcc : ((c.toNat - 64 : Nat) : Int) = (c.toNat : Int) - 64:=by omega
         rw [← hcc]
         refine zP tT <| zn rfl hc0 <| zH <| zH <| zF (v:=AV.bool true) zV6 zD rfl rfl rfl rfl <| zM (r:=1) rfl tO ?_; refine zO tF <| zn rfl hc <| zG <| zO tF <| zn rfl hc ?_; refine zG <| zO tF <| zn rfl hc <| zM (r:=c.toNat) tO tO <| zM (r:=c.toNat - 64) tO tO <| zF (v:=.int .i64 ↑(c.toNat - 64)) [.int .i64 ↑(c.toNat - 64),.int .i64 0,AV.bool true,AV.bool false] (zE zD) rfl rfl rfl rfl ?_
         refine zM (r:=2) rfl tO <| zP tT <| zn rfl hc0 <| zH <| zH <| zF (v:=AV.bool true) [.int .i64 ↑(c.toNat - 64),.int .i64 0,AV.bool true,AV.bool true] (zE (zE zD)) rfl rfl rfl rfl ?_; refine zM (r:=3) rfl tO <| zS hsl <| zI (hw _ (by simp only [zMi] at hl; omega)) <| zS rfl <| zS rfl ?_; refine zG <| zG <| zO tF <| zG <| zO tF <| zF (v:=zK n) [.int .i64 ↑(c.toNat - 64),zK n,AV.bool true,AV.bool true] (zE (zE (zE zD))) rfl rfl rfl rfl ?_
         refine zB (AV.agg [.int .i64 ↑(c.toNat - 64),zK n,AV.bool true,AV.bool true]) (zE (zE (zE (zE zD)))) rfl <| zF (v:=AV.agg [.int .i64 ↑(c.toNat - 64),zK n,AV.bool true,AV.bool true]) (AV.cells (AV.agg [.int .i64 ↑(c.toNat - 64),zK n,AV.bool true,AV.bool true])) (zA tA (zA tA (zA tA (zA tA (zC zD))))) rfl rfl rfl rfl ?_
         exact zR (o:=0) rfl rfl (zL (zE (zA tA (zA tA (zA tA (zA tA (zC zD))))))) rfl rfl rfl rfl ((((((((Old.refl _).push _).push _).set tA _).set tA _).set tA _).set tA _).set tA _)
         all_goals exact zR (v:=.agg [zK ((c.toNat - 64 : Nat) : Int),zK n,.bool true,.bool true]) (v1:=.bool true) (o:=0) rfl rfl (zL hP) rfl rfl rfl rfl (by repeat' (first | exact Old.refl _ | refine Old.set ?_ tC _ | apply Old.push))
      ·have h362' : c2.toNat ≠ 36:=fun e=>h362 (zM0.1 e)
       have hw:=hW (c2 :: r)
       have hsl : zAy none (.str (36 :: c :: c2 :: r)) (some (.int .i64 ((2 : Nat) : Int))) none = some (.str (c2 :: r)):=zC9 (36 :: c :: c2 :: r) 2 (by simp)
       have e : zCu (36 :: c :: c2 :: r) = match zBE (c2 :: r) with
         | some n=>if 1 ≤ n ∧ n ≤ 99 then some ⟨(c.toNat : Int) - 64,n,true,false⟩ else none
         | none=>none:=by exact zIe (r:=c2 :: r) (fr:=false) (r2:=c2 :: r) hcap (by simp [dollar,h362])
       rw [e]
       cases hwp : zBE (c2 :: r) with
       | none=>
        rw [hwp] at hw
        have hw : ∀ H,_ → C zU _ H (.tup [zK 0,.bool false]) H:=hw
        clear hW
        refine zP tT <| zn rfl hc0 <| zH <| zH <| zF (v:=AV.bool true) zV6 zD rfl rfl rfl rfl <| zM (r:=1) rfl tO ?_; refine zO tF <| zn rfl hc <| zG <| zO tF <| zn rfl hc ?_; refine zG <| zO tF <| zn rfl hc <| zM (r:=c.toNat) tO tO <| zM (r:=c.toNat - 64) tO tO <| zF (v:=.int .i64 ↑(c.toNat - 64)) [.int .i64 ↑(c.toNat - 64),.int .i64 0,AV.bool true,AV.bool false] (zE zD) rfl rfl rfl rfl ?_
        refine zM (r:=2) rfl tO <| zP tT <| zn rfl hc2 <| zH <| zO tF <| zS hsl ?_; refine zI (hw _ (by simp only [zMi] at hl; omega)) <| zS rfl <| zS rfl ?_; refine zH <| zH <| zH <| zH <| zH <| zS (v:=zV1) rfl ?_; refine zF (v:=AV.agg zV1) (AV.cells (AV.agg zV1)) (zA tA (zA tA (zC zD))) rfl rfl rfl rfl ?_
        exact zR (o:=0) rfl rfl (zL (zE (zA tA (zA tA (zC zD))))) rfl rfl rfl rfl ((((((Old.refl _).push _).push _).set tA _).set tA _).set tA _)
        all_goals exact zR (v:=.agg zV1) (v1:=.bool false) (o:=0) rfl rfl (zL hP) rfl rfl rfl rfl (by repeat' (first | exact Old.refl _ | refine Old.set ?_ tC _ | apply Old.push))
       | some n=>
        rw [hwp] at hw
        have hw : ∀ H,_ → C zU _ H (.tup [zK n,.bool true]) H:=hw
        clear hW
        by_cases hn1 : n < 1
        ·have hnn : ¬ (1 ≤ n ∧ n ≤ 99):=by omega
         simp only [zMe hnn]
         refine zP tT <| zn rfl hc0 <| zH <| zH <| zF (v:=AV.bool true) zV6 zD rfl rfl rfl rfl <| zM (r:=1) rfl tO ?_; refine zO tF <| zn rfl hc <| zG <| zO tF <| zn rfl hc ?_; refine zG <| zO tF <| zn rfl hc <| zM (r:=c.toNat) tO tO <| zM (r:=c.toNat - 64) tO tO <| zF (v:=.int .i64 ↑(c.toNat - 64)) [.int .i64 ↑(c.toNat - 64),.int .i64 0,AV.bool true,AV.bool false] (zE zD) rfl rfl rfl rfl ?_
         refine zM (r:=2) rfl tO <| zP tT <| zn rfl hc2 <| zH <| zO tF <| zS hsl ?_; refine zI (hw _ (by simp only [zMi] at hl; omega)) <| zS rfl <| zS rfl ?_; refine zG <| zG <| zP tT <| zH <| zH <| zS (v:=zV1) rfl ?_; refine zF (v:=AV.agg zV1) (AV.cells (AV.agg zV1)) (zA tA (zA tA (zC zD))) rfl rfl rfl rfl ?_
         exact zR (o:=0) rfl rfl (zL (zE (zA tA (zA tA (zC zD))))) rfl rfl rfl rfl ((((((Old.refl _).push _).push _).set tA _).set tA _).set tA _)
         all_goals exact zR (v:=.agg zV1) (v1:=.bool false) (o:=0) rfl rfl (zL hP) rfl rfl rfl rfl (by repeat' (first | exact Old.refl _ | refine Old.set ?_ tC _ | apply Old.push))
        by_cases hn2 : 99 < n
        ·have hnn : ¬ (1 ≤ n ∧ n ≤ 99):=by omega
         simp only [zMe hnn]
         refine zP tT <| zn rfl hc0 <| zH <| zH <| zF (v:=AV.bool true) zV6 zD rfl rfl rfl rfl <| zM (r:=1) rfl tO ?_; refine zO tF <| zn rfl hc <| zG <| zO tF <| zn rfl hc ?_; refine zG <| zO tF <| zn rfl hc <| zM (r:=c.toNat) tO tO <| zM (r:=c.toNat - 64) tO tO <| zF (v:=.int .i64 ↑(c.toNat - 64)) [.int .i64 ↑(c.toNat - 64),.int .i64 0,AV.bool true,AV.bool false] (zE zD) rfl rfl rfl rfl ?_
         refine zM (r:=2) rfl tO <| zP tT <| zn rfl hc2 <| zH <| zO tF <| zS hsl ?_; refine zI (hw _ (by simp only [zMi] at hl; omega)) <| zS rfl <| zS rfl ?_; refine zG <| zG <| zO tF <| zG <| zP tT <| zS (v:=zV1) rfl ?_; refine zF (v:=AV.agg zV1) (AV.cells (AV.agg zV1)) (zA tA (zA tA (zC zD))) rfl rfl rfl rfl ?_
         exact zR (o:=0) rfl rfl (zL (zE (zA tA (zA tA (zC zD))))) rfl rfl rfl rfl ((((((Old.refl _).push _).push _).set tA _).set tA _).set tA _)
         all_goals exact zR (v:=.agg zV1) (v1:=.bool false) (o:=0) rfl rfl (zL hP) rfl rfl rfl rfl (by repeat' (first | exact Old.refl _ | refine Old.set ?_ tC _ | apply Old.push))
        ·have hnn : 1 ≤ n ∧ n ≤ 99:=by omega
         simp only [zMg hnn]
         have hcc : ((c.toNat - 64 : Nat) : Int) = (c.toNat : Int) - 64:=by omega
         rw [← hcc]
         refine zP tT <| zn rfl hc0 <| zH <| zH <| zF (v:=AV.bool true) zV6 zD rfl rfl rfl rfl <| zM (r:=1) rfl tO ?_; refine zO tF <| zn rfl hc <| zG <| zO tF <| zn rfl hc ?_; refine zG <| zO tF <| zn rfl hc <| zM (r:=c.toNat) tO tO <| zM (r:=c.toNat - 64) tO tO <| zF (v:=.int .i64 ↑(c.toNat - 64)) [.int .i64 ↑(c.toNat - 64),.int .i64 0,AV.bool true,AV.bool false] (zE zD) rfl rfl rfl rfl ?_
         refine zM (r:=2) rfl tO <| zP tT <| zn rfl hc2 <| zH <| zO tF <| zS hsl ?_; refine zI (hw _ (by simp only [zMi] at hl; omega)) <| zS rfl <| zS rfl ?_; refine zG <| zG <| zO tF <| zG <| zO tF <| zF (v:=zK n) [.int .i64 ↑(c.toNat - 64),zK n,AV.bool true,AV.bool false] (zE (zE zD)) rfl rfl rfl rfl ?_; refine zB (AV.agg [.int .i64 ↑(c.toNat - 64),zK n,AV.bool true,AV.bool false]) (zE (zE (zE zD))) rfl <| zF (v:=AV.agg [.int .i64 ↑(c.toNat - 64),zK n,AV.bool true,AV.bool false]) (AV.cells (AV.agg [.int .i64 ↑(c.toNat - 64),zK n,AV.bool true,AV.bool false])) (zA tA (zA tA (zA tA (zC zD)))) rfl rfl rfl rfl ?_
         exact zR (o:=0) rfl rfl (zL (zE (zA tA (zA tA (zA tA (zC zD)))))) rfl rfl rfl rfl (((((((Old.refl _).push _).push _).set tA _).set tA _).set tA _).set tA _)
         all_goals exact zR (v:=.agg [zK ((c.toNat - 64 : Nat) : Int),zK n,.bool true,.bool false]) (v1:=.bool true) (o:=0) rfl rfl (zL hP) rfl rfl rfl rfl (by repeat' (first | exact Old.refl _ | refine Old.set ?_ tC _ | apply Old.push))
    ·have hcf:=zNL.2 hcap
     have hcf2:=hcf
     unfold capB at hcf2
     by_cases g1 : c.toNat < 65
     ·have g2 : True:=trivial
      have e : zCu (36 :: c :: r) = none:=by unfold zCu dollar colP; simp [hcf]
      rw [e]
      clear hW
      refine zP tT <| zn rfl hc0 <| zH <| zH <| zF (v:=AV.bool true) zV6 zD rfl rfl rfl rfl <| zM (r:=1) rfl tO ?_; refine zO tF <| zn rfl hc <| zG <| zP tT <| zH <| zH ?_; refine zS (v:=zV1) rfl <| zF (v:=AV.agg zV1) (AV.cells (AV.agg zV1)) (zA tA (zC zD)) rfl rfl rfl rfl ?_
      exact zR (o:=0) rfl rfl (zL (zE (zA tA (zC zD)))) rfl rfl rfl rfl (((((Old.refl _).push _).push _).set tA _).set tA _)
      all_goals exact zR (v:=.agg zV1) (v1:=.bool false) (o:=0) rfl rfl (zL hP) rfl rfl rfl rfl (by repeat' (first | exact Old.refl _ | refine Old.set ?_ tC _ | apply Old.push))
     ·have g2 : 90 < c.toNat:=by
       rw [tT (by omega : 65 ≤ c.toNat),zNz] at hcf2
       have:=zNN hcf2
       omega
      have e : zCu (36 :: c :: r) = none:=by unfold zCu dollar colP; simp [hcf]
      rw [e]
      clear hW
      refine zP tT <| zn rfl hc0 <| zH <| zH <| zF (v:=AV.bool true) zV6 zD rfl rfl rfl rfl <| zM (r:=1) rfl tO ?_; refine zO tF <| zn rfl hc <| zG <| zO tF <| zn rfl hc ?_; refine zG <| zP tT <| zS (v:=zV1) rfl <| zF (v:=AV.agg zV1) (AV.cells (AV.agg zV1)) (zA tA (zC zD)) rfl rfl rfl rfl ?_
      exact zR (o:=0) rfl rfl (zL (zE (zA tA (zC zD)))) rfl rfl rfl rfl (((((Old.refl _).push _).push _).set tA _).set tA _)
      all_goals exact zR (v:=.agg zV1) (v1:=.bool false) (o:=0) rfl rfl (zL hP) rfl rfl rfl rfl (by repeat' (first | exact Old.refl _ | refine Old.set ?_ tC _ | apply Old.push))
  ·have h36' : c.toNat ≠ 36:=fun e=>h36 (zM0.1 e)
   by_cases hcap : capB c = true
   ·have hcap2:=hcap
    unfold capB at hcap2
    simp only [zMd,zMr] at hcap2
    cases r with
    | nil=>
     have hl3 : ([] : Bs).length = 0:=rfl
     have hw:=hW ([])
     have hsl : zAy none (.str (c :: [])) (some (.int .i64 ((1 : Nat) : Int))) none = some (.str ([])):=zC9 (c :: []) 1 (by simp)
     have e : zCu (c :: []) = match zBE ([]) with
       | some n=>if 1 ≤ n ∧ n ≤ 99 then some ⟨(c.toNat : Int) - 64,n,false,false⟩ else none
       | none=>none:=by exact zHd (r:=[]) (fr:=false) (r2:=[]) hcap rfl
     rw [e]
     cases hwp : zBE ([]) with
     | none=>
      rw [hwp] at hw
      have hw : ∀ H,_ → C zU _ H (.tup [zK 0,.bool false]) H:=hw
      clear hW
      refine zP tT <| zn rfl hc <| zP tE <| zO tF <| zO tF <| zn rfl hc ?_; refine zG <| zO tF <| zn rfl hc <| zG <| zO tF <| zn rfl hc ?_; refine zM (r:=c.toNat) tO tO <| zM (r:=c.toNat - 64) tO tO <| zF (v:=.int .i64 ↑(c.toNat - 64)) [.int .i64 ↑(c.toNat - 64),.int .i64 0,AV.bool false,AV.bool false] zD rfl rfl rfl rfl <| zM (r:=1) rfl tO ?_; refine zO tF <| zG <| zG <| zS hsl <| zI (hw _ (by simp only [zMi] at hl; omega)) <| zS rfl ?_
      refine zS rfl <| zP tE <| zP tE <| zP tE <| zP tE <| zP tE ?_; refine zS (v:=zV1) rfl <| zF (v:=AV.agg zV1) (AV.cells (AV.agg zV1)) (zA tA (zC zD)) rfl rfl rfl rfl ?_
      exact zR (o:=0) rfl rfl (zL (zE (zA tA (zC zD)))) rfl rfl rfl rfl (((((Old.refl _).push _).push _).set tA _).set tA _)
      all_goals exact zR (v:=.agg zV1) (v1:=.bool false) (o:=0) rfl rfl (zL hP) rfl rfl rfl rfl (by repeat' (first | exact Old.refl _ | refine Old.set ?_ tC _ | apply Old.push))
     | some n=>
      rw [hwp] at hw
      have hw : ∀ H,_ → C zU _ H (.tup [zK n,.bool true]) H:=hw
      clear hW
      by_cases hn1 : n < 1
      ·have hnn : ¬ (1 ≤ n ∧ n ≤ 99):=by omega
       simp only [zMe hnn]
       refine zP tT <| zn rfl hc <| zH <| zO tF <| zO tF <| zn rfl hc ?_; refine zP tE <| zH <| zH <| zH <| zS (v:=zV1) rfl <| zF (v:=AV.agg zV1) (AV.cells (AV.agg zV1)) (zC zD) rfl rfl rfl rfl ?_
       exact zR (o:=0) rfl rfl (zL (zE (zC zD))) rfl rfl rfl rfl ((((Old.refl _).push _).push _).set tA _)
       all_goals exact zR (v:=.agg zV1) (v1:=.bool false) (o:=0) rfl rfl (zL hP) rfl rfl rfl rfl (by repeat' (first | exact Old.refl _ | refine Old.set ?_ tC _ | apply Old.push))
      by_cases hn2 : 99 < n
      ·have hnn : ¬ (1 ≤ n ∧ n ≤ 99):=by omega
       simp only [zMe hnn]
       refine zP tT <| zn rfl hc <| zH <| zO tF <| zO tF <| zn rfl hc ?_; refine zP tE <| zH <| zH <| zH <| zS (v:=zV1) rfl <| zF (v:=AV.agg zV1) (AV.cells (AV.agg zV1)) (zC zD) rfl rfl rfl rfl ?_
       exact zR (o:=0) rfl rfl (zL (zE (zC zD))) rfl rfl rfl rfl ((((Old.refl _).push _).push _).set tA _)
       all_goals exact zR (v:=.agg zV1) (v1:=.bool false) (o:=0) rfl rfl (zL hP) rfl rfl rfl rfl (by repeat' (first | exact Old.refl _ | refine Old.set ?_ tC _ | apply Old.push))
      ·have hnn : 1 ≤ n ∧ n ≤ 99:=by omega
       simp only [zMg hnn]
       have hcc : ((c.toNat - 64 : Nat) : Int) = (c.toNat : Int) - 64:=by omega
       rw [← hcc]
       refine zP tT <| zn rfl hc <| zH <| zO tF <| zO tF <| zn rfl hc ?_; refine zG <| zO tF <| zn rfl hc <| zG <| zO tF <| zn rfl hc ?_; refine zM (r:=c.toNat) tO tO <| zM (r:=c.toNat - 64) tO tO <| zF (v:=.int .i64 ↑(c.toNat - 64)) [.int .i64 ↑(c.toNat - 64),.int .i64 0,AV.bool false,AV.bool false] zD rfl rfl rfl rfl <| zM (r:=1) rfl tO ?_; refine zO tF <| zG <| zG <| zS hsl <| zI (hw _ (by simp only [zMi] at hl; omega)) <| zS rfl ?_
       refine zS rfl <| zG <| zG <| zO tF <| zG <| zO tF ?_; refine zF (v:=zK n) [.int .i64 ↑(c.toNat - 64),zK n,AV.bool false,AV.bool false] (zE zD) rfl rfl rfl rfl <| zB (AV.agg [.int .i64 ↑(c.toNat - 64),zK n,AV.bool false,AV.bool false]) (zE (zE zD)) rfl <| zF (v:=AV.agg [.int .i64 ↑(c.toNat - 64),zK n,AV.bool false,AV.bool false]) (AV.cells (AV.agg [.int .i64 ↑(c.toNat - 64),zK n,AV.bool false,AV.bool false])) (zA tA (zA tA (zC zD))) rfl rfl rfl rfl ?_
       exact zR (o:=0) rfl rfl (zL (zE (zA tA (zA tA (zC zD))))) rfl rfl rfl rfl ((((((Old.refl _).push _).push _).set tA _).set tA _).set tA _)
       all_goals exact zR (v:=.agg [zK ((c.toNat - 64 : Nat) : Int),zK n,.bool false,.bool false]) (v1:=.bool true) (o:=0) rfl rfl (zL hP) rfl rfl rfl rfl (by repeat' (first | exact Old.refl _ | refine Old.set ?_ tC _ | apply Old.push))
    | cons c2 r=>
     have hl3 : (c2 :: r).length = r.length + 1:=rfl
     have hc2 : (c :: c2 :: r)[1]? = some c2:=rfl
     have hcn2 : c2.toNat < 256:=zNu c2
     by_cases h362 : c2 = 36
     ·subst h362
      have hw:=hW (r)
      have hsl : zAy none (.str (c :: 36 :: r)) (some (.int .i64 ((2 : Nat) : Int))) none = some (.str (r)):=zC9 (c :: 36 :: r) 2 (by simp)
      have e : zCu (c :: 36 :: r) = match zBE (r) with
        | some n=>if 1 ≤ n ∧ n ≤ 99 then some ⟨(c.toNat : Int) - 64,n,false,true⟩ else none
        | none=>none:=by exact zHd (r:=36 :: r) (fr:=true) (r2:=r) hcap (by simp [dollar])
      rw [e]
      cases hwp : zBE (r) with
      | none=>
       rw [hwp] at hw
       have hw : ∀ H,_ → C zU _ H (.tup [zK 0,.bool false]) H:=hw
       clear hW
       refine zP tT <| zn rfl hc <| zH <| zO tF <| zO tF <| zn rfl hc ?_; refine zG <| zO tF <| zn rfl hc <| zG <| zO tF <| zn rfl hc ?_; refine zM (r:=c.toNat) tO tO <| zM (r:=c.toNat - 64) tO tO <| zF (v:=.int .i64 ↑(c.toNat - 64)) [.int .i64 ↑(c.toNat - 64),.int .i64 0,AV.bool false,AV.bool false] zD rfl rfl rfl rfl <| zM (r:=1) rfl tO <| zP tT <| zn rfl hc2 ?_; refine zH <| zH <| zF (v:=AV.bool true) [.int .i64 ↑(c.toNat - 64),.int .i64 0,AV.bool false,AV.bool true] (zE zD) rfl rfl rfl rfl <| zM (r:=2) rfl tO <| zS hsl <| zI (hw _ (by simp only [zMi] at hl; omega)) ?_
       refine zS rfl <| zS rfl ?_; refine zH <| zH <| zH <| zH <| zH <| zS (v:=zV1) rfl ?_; refine zF (v:=AV.agg zV1) (AV.cells (AV.agg zV1)) (zA tA (zA tA (zC zD))) rfl rfl rfl rfl ?_
       exact zR (o:=0) rfl rfl (zL (zE (zA tA (zA tA (zC zD))))) rfl rfl rfl rfl ((((((Old.refl _).push _).push _).set tA _).set tA _).set tA _)
       all_goals exact zR (v:=.agg zV1) (v1:=.bool false) (o:=0) rfl rfl (zL hP) rfl rfl rfl rfl (by repeat' (first | exact Old.refl _ | refine Old.set ?_ tC _ | apply Old.push))
      | some n=>
       rw [hwp] at hw
       have hw : ∀ H,_ → C zU _ H (.tup [zK n,.bool true]) H:=hw
       clear hW
       by_cases hn1 : n < 1
       ·have hnn : ¬ (1 ≤ n ∧ n ≤ 99):=by omega
        simp only [zMe hnn]
        refine zP tT <| zn rfl hc <| zH <| zO tF <| zO tF <| zn rfl hc ?_; refine zG <| zO tF <| zn rfl hc <| zG <| zO tF <| zn rfl hc ?_; refine zM (r:=c.toNat) tO tO <| zM (r:=c.toNat - 64) tO tO <| zF (v:=.int .i64 ↑(c.toNat - 64)) [.int .i64 ↑(c.toNat - 64),.int .i64 0,AV.bool false,AV.bool false] zD rfl rfl rfl rfl <| zM (r:=1) rfl tO <| zP tT <| zn rfl hc2 ?_; refine zH <| zH <| zF (v:=AV.bool true) [.int .i64 ↑(c.toNat - 64),.int .i64 0,AV.bool false,AV.bool true] (zE zD) rfl rfl rfl rfl <| zM (r:=2) rfl tO <| zS hsl <| zI (hw _ (by simp only [zMi] at hl; omega)) ?_
        refine zS rfl <| zS rfl ?_; refine zG <| zG <| zP tT <| zH <| zH <| zS (v:=zV1) rfl ?_; refine zF (v:=AV.agg zV1) (AV.cells (AV.agg zV1)) (zA tA (zA tA (zC zD))) rfl rfl rfl rfl ?_
        exact zR (o:=0) rfl rfl (zL (zE (zA tA (zA tA (zC zD))))) rfl rfl rfl rfl ((((((Old.refl _).push _).push _).set tA _).set tA _).set tA _)
        all_goals exact zR (v:=.agg zV1) (v1:=.bool false) (o:=0) rfl rfl (zL hP) rfl rfl rfl rfl (by repeat' (first | exact Old.refl _ | refine Old.set ?_ tC _ | apply Old.push))
       by_cases hn2 : 99 < n
       ·have hnn : ¬ (1 ≤ n ∧ n ≤ 99):=by omega
        simp only [zMe hnn]
        refine zP tT <| zn rfl hc <| zH <| zO tF <| zO tF <| zn rfl hc ?_; refine zG <| zO tF <| zn rfl hc <| zG <| zO tF <| zn rfl hc ?_; refine zM (r:=c.toNat) tO tO <| zM (r:=c.toNat - 64) tO tO <| zF (v:=.int .i64 ↑(c.toNat - 64)) [.int .i64 ↑(c.toNat - 64),.int .i64 0,AV.bool false,AV.bool false] zD rfl rfl rfl rfl <| zM (r:=1) rfl tO <| zP tT <| zn rfl hc2 ?_; refine zH <| zH <| zF (v:=AV.bool true) [.int .i64 ↑(c.toNat - 64),.int .i64 0,AV.bool false,AV.bool true] (zE zD) rfl rfl rfl rfl <| zM (r:=2) rfl tO <| zS hsl <| zI (hw _ (by simp only [zMi] at hl; omega)) ?_
        refine zS rfl <| zS rfl ?_; refine zG <| zG <| zO tF <| zG <| zP tT <| zS (v:=zV1) rfl ?_; refine zF (v:=AV.agg zV1) (AV.cells (AV.agg zV1)) (zA tA (zA tA (zC zD))) rfl rfl rfl rfl ?_
        exact zR (o:=0) rfl rfl (zL (zE (zA tA (zA tA (zC zD))))) rfl rfl rfl rfl ((((((Old.refl _).push _).push _).set tA _).set tA _).set tA _)
        all_goals exact zR (v:=.agg zV1) (v1:=.bool false) (o:=0) rfl rfl (zL hP) rfl rfl rfl rfl (by repeat' (first | exact Old.refl _ | refine Old.set ?_ tC _ | apply Old.push))
       ·have hnn : 1 ≤ n ∧ n ≤ 99:=by omega
        simp only [zMg hnn]
        have hcc : ((c.toNat - 64 : Nat) : Int) = (c.toNat : Int) - 64:=by omega
        rw [← hcc]
        refine zP tT <| zn rfl hc <| zH <| zO tF <| zO tF <| zn rfl hc ?_; refine zG <| zO tF <| zn rfl hc <| zG <| zO tF <| zn rfl hc ?_; refine zM (r:=c.toNat) tO tO <| zM (r:=c.toNat - 64) tO tO <| zF (v:=.int .i64 ↑(c.toNat - 64)) [.int .i64 ↑(c.toNat - 64),.int .i64 0,AV.bool false,AV.bool false] zD rfl rfl rfl rfl <| zM (r:=1) rfl tO <| zP tT <| zn rfl hc2 ?_; refine zH <| zH <| zF (v:=AV.bool true) [.int .i64 ↑(c.toNat - 64),.int .i64 0,AV.bool false,AV.bool true] (zE zD) rfl rfl rfl rfl <| zM (r:=2) rfl tO <| zS hsl <| zI (hw _ (by simp only [zMi] at hl; omega)) ?_
        refine zS rfl <| zS rfl ?_; refine zG <| zG <| zO tF <| zG <| zO tF <| zF (v:=zK n) [.int .i64 ↑(c.toNat - 64),zK n,AV.bool false,AV.bool true] (zE (zE zD)) rfl rfl rfl rfl ?_; refine zB (AV.agg [.int .i64 ↑(c.toNat - 64),zK n,AV.bool false,AV.bool true]) (zE (zE (zE zD))) rfl <| zF (v:=AV.agg [.int .i64 ↑(c.toNat - 64),zK n,AV.bool false,AV.bool true]) (AV.cells (AV.agg [.int .i64 ↑(c.toNat - 64),zK n,AV.bool false,AV.bool true])) (zA tA (zA tA (zA tA (zC zD)))) rfl rfl rfl rfl ?_
        exact zR (o:=0) rfl rfl (zL (zE (zA tA (zA tA (zA tA (zC zD)))))) rfl rfl rfl rfl (((((((Old.refl _).push _).push _).set tA _).set tA _).set tA _).set tA _)
        all_goals exact zR (v:=.agg [zK ((c.toNat - 64 : Nat) : Int),zK n,.bool false,.bool true]) (v1:=.bool true) (o:=0) rfl rfl (zL hP) rfl rfl rfl rfl (by repeat' (first | exact Old.refl _ | refine Old.set ?_ tC _ | apply Old.push))
     ·have h362' : c2.toNat ≠ 36:=fun e=>h362 (zM0.1 e)
      have hw:=hW (c2 :: r)
      have hsl : zAy none (.str (c :: c2 :: r)) (some (.int .i64 ((1 : Nat) : Int))) none = some (.str (c2 :: r)):=zC9 (c :: c2 :: r) 1 (by simp)
      have e : zCu (c :: c2 :: r) = match zBE (c2 :: r) with
        | some n=>if 1 ≤ n ∧ n ≤ 99 then some ⟨(c.toNat : Int) - 64,n,false,false⟩ else none
        | none=>none:=by exact zHd (r:=c2 :: r) (fr:=false) (r2:=c2 :: r) hcap (by simp [dollar,h362])
      rw [e]
      cases hwp : zBE (c2 :: r) with
      | none=>
       rw [hwp] at hw
       have hw : ∀ H,_ → C zU _ H (.tup [zK 0,.bool false]) H:=hw
       clear hW
       refine zP tT <| zn rfl hc <| zH <| zO tF <| zO tF <| zn rfl hc ?_; refine zG <| zO tF <| zn rfl hc <| zG <| zO tF <| zn rfl hc ?_; refine zM (r:=c.toNat) tO tO <| zM (r:=c.toNat - 64) tO tO <| zF (v:=.int .i64 ↑(c.toNat - 64)) [.int .i64 ↑(c.toNat - 64),.int .i64 0,AV.bool false,AV.bool false] zD rfl rfl rfl rfl <| zM (r:=1) rfl tO <| zP tT <| zn rfl hc2 ?_; refine zH <| zO tF <| zS hsl <| zI (hw _ (by simp only [zMi] at hl; omega)) <| zS rfl <| zS rfl ?_
       refine zH <| zH <| zH <| zH <| zH <| zS (v:=zV1) rfl ?_; refine zF (v:=AV.agg zV1) (AV.cells (AV.agg zV1)) (zA tA (zC zD)) rfl rfl rfl rfl ?_
       exact zR (o:=0) rfl rfl (zL (zE (zA tA (zC zD)))) rfl rfl rfl rfl (((((Old.refl _).push _).push _).set tA _).set tA _)
       all_goals exact zR (v:=.agg zV1) (v1:=.bool false) (o:=0) rfl rfl (zL hP) rfl rfl rfl rfl (by repeat' (first | exact Old.refl _ | refine Old.set ?_ tC _ | apply Old.push))
      | some n=>
       rw [hwp] at hw
       have hw : ∀ H,_ → C zU _ H (.tup [zK n,.bool true]) H:=hw
       clear hW
       by_cases hn1 : n < 1
       ·have hnn : ¬ (1 ≤ n ∧ n ≤ 99):=by omega
        simp only [zMe hnn]
        refine zP tT <| zn rfl hc <| zH <| zO tF <| zO tF <| zn rfl hc ?_; refine zG <| zO tF <| zn rfl hc <| zG <| zO tF <| zn rfl hc ?_; refine zM (r:=c.toNat) tO tO <| zM (r:=c.toNat - 64) tO tO <| zF (v:=.int .i64 ↑(c.toNat - 64)) [.int .i64 ↑(c.toNat - 64),.int .i64 0,AV.bool false,AV.bool false] zD rfl rfl rfl rfl <| zM (r:=1) rfl tO <| zP tT <| zn rfl hc2 ?_; refine zH <| zO tF <| zS hsl <| zI (hw _ (by simp only [zMi] at hl; omega)) <| zS rfl <| zS rfl ?_
        refine zG <| zG <| zP tT <| zH <| zH <| zS (v:=zV1) rfl ?_; refine zF (v:=AV.agg zV1) (AV.cells (AV.agg zV1)) (zA tA (zC zD)) rfl rfl rfl rfl ?_
        exact zR (o:=0) rfl rfl (zL (zE (zA tA (zC zD)))) rfl rfl rfl rfl (((((Old.refl _).push _).push _).set tA _).set tA _)
        all_goals exact zR (v:=.agg zV1) (v1:=.bool false) (o:=0) rfl rfl (zL hP) rfl rfl rfl rfl (by repeat' (first | exact Old.refl _ | refine Old.set ?_ tC _ | apply Old.push))
       by_cases hn2 : 99 < n
       ·have hnn : ¬ (1 ≤ n ∧ n ≤ 99):=by omega
        simp only [zMe hnn]
        refine zP tT <| zn rfl hc <| zH <| zO tF <| zO tF <| zn rfl hc ?_; refine zG <| zO tF <| zn rfl hc <| zG <| zO tF <| zn rfl hc ?_; refine zM (r:=c.toNat) tO tO <| zM (r:=c.toNat - 64) tO tO <| zF (v:=.int .i64 ↑(c.toNat - 64)) [.int .i64 ↑(c.toNat - 64),.int .i64 0,AV.bool false,AV.bool false] zD rfl rfl rfl rfl <| zM (r:=1) rfl tO <| zP tT <| zn rfl hc2 ?_; refine zH <| zO tF <| zS hsl <| zI (hw _ (by simp only [zMi] at hl; omega)) <| zS rfl <| zS rfl ?_
        refine zG <| zG <| zO tF <| zG <| zP tT <| zS (v:=zV1) rfl ?_; refine zF (v:=AV.agg zV1) (AV.cells (AV.agg zV1)) (zA tA (zC zD)) rfl rfl rfl rfl ?_
        exact zR (o:=0) rfl rfl (zL (zE (zA tA (zC zD)))) rfl rfl rfl rfl (((((Old.refl _).push _).push _).set tA _).set tA _)
        all_goals exact zR (v:=.agg zV1) (v1:=.bool false) (o:=0) rfl rfl (zL hP) rfl rfl rfl rfl (by repeat' (first | exact Old.refl _ | refine Old.set ?_ tC _ | apply Old.push))
       ·have hnn : 1 ≤ n ∧ n ≤ 99:=by omega
        simp only [zMg hnn]
        have hcc : ((c.toNat - 64 : Nat) : Int) = (c.toNat : Int) - 64:=by omega
        rw [← hcc]
        refine zP tT <| zn rfl hc <| zH <| zO tF <| zO tF <| zn rfl hc ?_; refine zG <| zO tF <| zn rfl hc <| zG <| zO tF <| zn rfl hc ?_; refine zM (r:=c.toNat) tO tO <| zM (r:=c.toNat - 64) tO tO <| zF (v:=.int .i64 ↑(c.toNat - 64)) [.int .i64 ↑(c.toNat - 64),.int .i64 0,AV.bool false,AV.bool false] zD rfl rfl rfl rfl <| zM (r:=1) rfl tO <| zP tT <| zn rfl hc2 ?_; refine zH <| zO tF <| zS hsl <| zI (hw _ (by simp only [zMi] at hl; omega)) <| zS rfl <| zS rfl ?_
        refine zG <| zG <| zO tF <| zG <| zO tF <| zF (v:=zK n) [.int .i64 ↑(c.toNat - 64),zK n,AV.bool false,AV.bool false] (zE zD) rfl rfl rfl rfl ?_; refine zB (AV.agg [.int .i64 ↑(c.toNat - 64),zK n,AV.bool false,AV.bool false]) (zE (zE zD)) rfl <| zF (v:=AV.agg [.int .i64 ↑(c.toNat - 64),zK n,AV.bool false,AV.bool false]) (AV.cells (AV.agg [.int .i64 ↑(c.toNat - 64),zK n,AV.bool false,AV.bool false])) (zA tA (zA tA (zC zD))) rfl rfl rfl rfl ?_
        exact zR (o:=0) rfl rfl (zL (zE (zA tA (zA tA (zC zD))))) rfl rfl rfl rfl ((((((Old.refl _).push _).push _).set tA _).set tA _).set tA _)
        all_goals exact zR (v:=.agg [zK ((c.toNat - 64 : Nat) : Int),zK n,.bool false,.bool false]) (v1:=.bool true) (o:=0) rfl rfl (zL hP) rfl rfl rfl rfl (by repeat' (first | exact Old.refl _ | refine Old.set ?_ tC _ | apply Old.push))
   ·have hcf:=zNL.2 hcap
    have hcf2:=hcf
    unfold capB at hcf2
    by_cases g1 : c.toNat < 65
    ·have g2 : True:=trivial
     have e : zCu (c :: r) = none:=by unfold zCu dollar colP; simp [hcf,h36]
     rw [e]
     clear hW
     refine zP tT <| zn rfl hc <| zH <| zO tF <| zO tF <| zn rfl hc ?_; refine zG <| zP tT <| zH <| zH <| zS (v:=zV1) rfl <| zF (v:=AV.agg zV1) (AV.cells (AV.agg zV1)) (zC zD) rfl rfl rfl rfl ?_
     exact zR (o:=0) rfl rfl (zL (zE (zC zD))) rfl rfl rfl rfl ((((Old.refl _).push _).push _).set tA _)
     all_goals exact zR (v:=.agg zV1) (v1:=.bool false) (o:=0) rfl rfl (zL hP) rfl rfl rfl rfl (by repeat' (first | exact Old.refl _ | refine Old.set ?_ tC _ | apply Old.push))
    ·have g2 : 90 < c.toNat:=by
      rw [tT (by omega : 65 ≤ c.toNat),zNz] at hcf2
      have:=zNN hcf2
      omega
     have e : zCu (c :: r) = none:=by unfold zCu dollar colP; simp [hcf,h36]
     rw [e]
     clear hW
     refine zP tT <| zn rfl hc <| zH <| zO tF <| zO tF <| zn rfl hc ?_; refine zG <| zO tF <| zn rfl hc <| zG <| zP tT <| zS (v:=zV1) rfl ?_; refine zF (v:=AV.agg zV1) (AV.cells (AV.agg zV1)) (zC zD) rfl rfl rfl rfl ?_
     exact zR (o:=0) rfl rfl (zL (zE (zC zD))) rfl rfl rfl rfl ((((Old.refl _).push _).push _).set tA _)
     all_goals exact zR (v:=.agg zV1) (v1:=.bool false) (o:=0) rfl rfl (zL hP) rfl rfl rfl rfl (by repeat' (first | exact Old.refl _ | refine Old.set ?_ tC _ | apply Old.push))
end
end Go.AM
set_option maxRecDepth 20000
namespace Go.AM
def CFd (C : CSpec) (f : Nat) (args : List AV) (b : Nat) (s : Bs) (p d d2 : Nat) (r : Option (Nd × Nat)) : Prop:=
 (∀ n e,r = some (n,e) → ∀ H,H[b]? = some (rP s p d) → C f args H (ndV n) (H.set b (rP s e d2))) ∧
 (r = none → ∃ (n : Nd) (a : Nat) (w e d' : Int),e ≠ 0 ∧ a ≤ s.length ∧ ∀ H,H[b]? = some (rP s p d) → C f args H (ndV n) (H.set b (pB s a w e d')))
section
variable {C : CSpec} {GT : Nat → Option AV}
theorem rone_ef (hT : ∀ s a H,a ≤ s.length → s.length ≤ 1000 → C zV [.str s,zJ a] H (tkV s a) H)
  (hCd : ∀ s H,s.length ≤ 1000 → C zi [.str s] H (.bool (zBX s)) H)
  (hW : ∀ s H,s.length ≤ 200 → C zU [.str s,.bool false] H (zKE (zBE s)) H)
  (hR : ∀ s H,s.length ≤ 200 → C zm [.str s] H (refRV (zCu s)) H)
  (hNm : ∀ k H,1 ≤ k → k ≤ 6 → C zBu [.str (wrongs.getD (k - 1) [])] H (.tup [.agg [.int .i64 4,zJ k,.str []],.bool true]) H)
  (hF : ∀ b s p d a e H,H[b]? = some (pB s p 0 0 d) → C ze [pR b,zK a,zK e] H (.tup []) (H.set b (pB s p a e d)))
  (hD : ∀ b s p (d : Nat) a H,H[b]? = some (pB s p 0 0 d) → d ≤ 1000 → (d = 30 → C zf [pR b,zK a] H (.bool false) (H.set b (pB s p a 4 d))) ∧ (d ≠ 30 → C zf [pR b,zK a] H (.bool true) (H.set b (pB s p 0 0 (d + 1 : Nat)))))
  (hC1 : ∀ b s p d e H,H[b]? = some (rP s p (d + 1)) → p ≤ s.length → s.length ≤ 200 → d ≤ 1000 → tok s p = .sign e [41] → C zd [pR b] H (.tup []) (H.set b (rP s e d)))
  (hC2 : ∀ b s p d H,H[b]? = some (rP s p (d + 1)) → p ≤ s.length → s.length ≤ 200 → d ≤ 1000 → (¬ ∃ e,tok s p = .sign e [41]) → C zd [pR b] H (.tup []) (H.set b (pB s (tkE (skip s p) (tok s p) : Nat) (skip s p : Nat) 2 d)))
  (hC3 : ∀ b s (p : Nat) w e d H,H[b]? = some (pB s p w e d) → e ≠ 0 → p ≤ s.length → s.length ≤ 200 → C zd [pR b] H (.tup []) (H.set b (pB s (tkE (skip s p) (tok s p) : Nat) w e (IntKind.wrap .i64 (d - 1)))))
  (b : Nat) (s : Bs) (p d : Nat) (hp : p ≤ s.length) (hl : s.length ≤ 200) (hd : d ≤ 1000)
  (hOne : ∀ a,p < a → a ≤ s.length → CF C zAI [pR b] b s a (d + 1) ((P s).one a (d + 1)))
  (hLo : ∀ a,p < a → a ≤ s.length → CF C zW [pR b,.int .i64 1] b s a (d + 1) ((P s).loose 1 a (d + 1)))
  (hCa : ∀ e t,s[e]? = some 40 → p < e → t.length ≤ 200 → CFd C zBt [pR b,.str t] b s e (d + 1) d (zG3 s t e (d + 1))) :
  EF C GT zQ [pR b] b s p d ((P s).one p d):=by
 rw [P_one d hp]
 have hn3 : ∀ H : Heap,(H ++ [ABlk.box (ndC zY)]).length = H.length + 1:=fun H=>by simp
 have hel:=zII hp
 have htl:=tkT_len hp hl
 have hend:=zBr s p
 have go : ∀ (k : Tok) (r : AV × ABlk),tok s p = k → (∀ (H H3 : Heap) (n3 : Nat),n3 = H.length + 1 → OldB H b (rP s p d) H3 → H3[b]? = some (rP s p d) → H3[H.length]? = some (.box (ndC zY)) → H3[n3]? = some (.box [zJ (tkK k),zJ (skip s p),zJ (tkE (skip s p) k),.str (tkT k)]) →
   EW C GT zJh (zH5 zQ H b [] .undef (some r)) [(2,pR H.length),(3,pR n3),(0,pR b)] H3) → ∀ H,H[b]? = some (rP s p d) → zCA C GT zQ [pR b] H b [] .undef (some r):=fun k r hk h H hb=>by
  refine one_start hT b s p d H hb hp hl _ fun H3 g1 g2 g3 g4=>?_
  rw [hk] at g4
  exact h H H3 _ (hn3 H) g1 g2 g3 g4
 have fail : ∀ k : Tok,tok s p = k → (∀ H : Heap,H[b]? = some (rP s (tkE (skip s p) k) d) → C ze [pR b,zJ (skip s p),.int .i64 2] H (.tup []) (H.set b (pB s (tkE (skip s p) k : Nat) (skip s p : Nat) 2 d))):=fun k _ H h=>hF b s _ _ _ _ H h
 unfold zCD
 cases hk : tok s p with
 | fin=>
  rw [hk] at hel
  refine ⟨fun n e h=>(by cases h),fun _=>⟨zY,_,_,2,_,by decide,hel,go _ _ hk fun H H3 n3 g0 g1 g2 g3 g4=>rone_none 0 b s p d _ _ _ H H3 n3 g0 g1 g2 g3 g4 hl (by decide) (by decide) (by decide) (by decide) (fail _ hk)⟩⟩
 | none=>
  rw [hk] at hel
  refine ⟨fun n e h=>(by cases h),fun _=>⟨zY,_,_,2,_,by decide,hel,go _ _ hk fun H H3 n3 g0 g1 g2 g3 g4=>rone_none 9 b s p d _ _ _ H H3 n3 g0 g1 g2 g3 g4 hl (by decide) (by decide) (by decide) (by decide) (fail _ hk)⟩⟩
 | txt e t=>
  exact ⟨fun n e' h=>by cases h; exact go _ _ hk fun H H3 n3 g0 g1 g2 g3 g4=>rone_txt b s p d _ _ _ H H3 n3 g0 g1 g2 g3 g4 hl,fun h=>by cases h⟩
 | bad e k=>
  have hkk:=tok_bad hk
  exact ⟨fun n e' h=>by cases h; exact go _ _ hk fun H H3 n3 g0 g1 g2 g3 g4=>rone_bad b s p d _ _ _ H H3 n3 g0 g1 g2 g3 g4 hl k (fun H=>hNm k H hkk.1 hkk.2),fun h=>by cases h⟩
 | sign e t=>
  rw [hk] at hel hend
  have hee : p < e ∧ e ≤ s.length:=hend
  have hd30 : d = 30 → ∀ H : Heap,H[b]? = some (rP s e d) → C zf [pR b,zJ (skip s p)] H (.bool false) (H.set b (pB s e (skip s p : Nat) 4 d)):=fun h H hb=>(hD b s e d _ H hb hd).1 h
  have hdok : d ≠ 30 → ∀ H : Heap,H[b]? = some (rP s e d) → C zf [pR b,zJ (skip s p)] H (.bool true) (H.set b (rP s e (d + 1 : Nat))):=fun h H hb=>(hD b s e d _ H hb hd).2 h
  by_cases h45 : t = [45]
  ·subst h45
   show EF C GT zQ [pR b] b s p d (if d = 30 then none else ((P s).one e (d + 1)).map fun p=>(negN p.1,p.2))
   by_cases h30 : d = 30
   ·rw [zMg h30]
    exact ⟨fun n e h=>(by cases h),fun _=>⟨zY,_,_,4,_,by decide,hee.2,go _ _ hk fun H H3 n3 g0 g1 g2 g3 g4=>rone_min30 b s p d _ _ _ H H3 n3 g0 g1 g2 g3 g4 hl rfl (hd30 h30)⟩⟩
   rw [zMe h30]
   have ho:=hOne e hee.1 hee.2
   cases hr : (P s).one e (d + 1) with
   | some x=>
    obtain ⟨n,e2⟩:=x
    exact ⟨fun n' e' h=>by cases h; exact go _ _ hk fun H H3 n3 g0 g1 g2 g3 g4=>rone_minok b s p d _ _ _ H H3 n3 g0 g1 g2 g3 g4 hl rfl n e2 hd (hdok h30) (ho.1 n e2 hr),fun h=>by cases h⟩
   | none=>
    obtain ⟨n,a,w,ee,d',he0,hal,hh⟩:=ho.2 hr
    exact ⟨fun n e h=>(by cases h),fun _=>⟨negN n,a,w,ee,_,he0,hal,go _ _ hk fun H H3 n3 g0 g1 g2 g3 g4=>rone_minno b s p d _ _ _ H H3 n3 g0 g1 g2 g3 g4 hl rfl n a w ee d' (hdok h30) hh⟩⟩
  by_cases h40 : t = [40]
  ·subst h40
   show EF C GT zQ [pR b] b s p d (if d = 30 then none else ((P s).loose 1 e (d + 1)).bind fun p=>match tok s p.2 with
    | .sign e2 [41]=>some (p.1,e2)
    | _=>none)
   by_cases h30 : d = 30
   ·rw [zMg h30]
    exact ⟨fun n e h=>(by cases h),fun _=>⟨zY,_,_,4,_,by decide,hee.2,go _ _ hk fun H H3 n3 g0 g1 g2 g3 g4=>rone_par30 b s p d _ _ _ H H3 n3 g0 g1 g2 g3 g4 hl rfl h45 (hd30 h30)⟩⟩
   rw [zMe h30]
   have ho:=hLo e hee.1 hee.2
   cases hr : (P s).loose 1 e (d + 1) with
   | some x=>
    obtain ⟨n,e2⟩:=x
    have hxe:=(zCE s).loose 1 e (d + 1) _ hee.2 hr
    simp only at hxe
    have ho:=ho.1 n e2 hr
    by_cases h41 : ∃ e3,tok s e2 = .sign e3 [41]
    ·obtain ⟨e3,h41⟩:=h41
     have e0 : (match tok s (n,e2).2 with
      | .sign e2 [41]=>some ((n,e2).1,e2)
      | _=>none) = some (n,e3):=by simp only [h41]
     have e0 : ((some (n,e2)).bind fun p : Nd × Nat=>match tok s p.2 with
      | .sign e2 [41]=>some (p.1,e2)
      | _=>none) = some (n,e3):=by simp only [zNb,h41]
     rw [e0]
     exact ⟨fun n' e' h=>by cases h; exact go _ _ hk fun H H3 n3 g0 g1 g2 g3 g4=>rone_par b s p d _ _ _ H H3 n3 g0 g1 g2 g3 g4 hl rfl h45 n _ _ (hdok h30) ho (fun H h=>hC1 b s e2 d e3 H h hxe.2 hl hd h41) (fun _=>rfl),fun h=>by cases h⟩
    ·have e0 : ((some (n,e2)).bind fun p : Nd × Nat=>match tok s p.2 with
      | .sign e2 [41]=>some (p.1,e2)
      | _=>none) = none:=by
      simp only [zNb]
      split
      ·rename_i e3 hk3; exact absurd ⟨e3,hk3⟩ h41
      ·rfl
     rw [e0]
     exact ⟨fun n e h=>(by cases h),fun _=>⟨n,_,_,2,_,by decide,zII hxe.2,go _ _ hk fun H H3 n3 g0 g1 g2 g3 g4=>rone_par b s p d _ _ _ H H3 n3 g0 g1 g2 g3 g4 hl rfl h45 n _ _ (hdok h30) ho (fun H h=>hC2 b s e2 d H h hxe.2 hl hd h41) (fun _=>rfl)⟩⟩
   | none=>
    obtain ⟨n,a,w,ee,d',he0,hal,hh⟩:=ho.2 hr
    exact ⟨fun n e h=>(by cases h),fun _=>⟨n,_,w,ee,_,he0,zII hal,go _ _ hk fun H H3 n3 g0 g1 g2 g3 g4=>rone_par b s p d _ _ _ H H3 n3 g0 g1 g2 g3 g4 hl rfl h45 n _ _ (hdok h30) hh (fun H h=>hC3 b s a w ee d' H h he0 hal hl) (fun _=>rfl)⟩⟩
  ·have main : EF C GT zQ [pR b] b s p d none:=⟨fun n e h=>(by cases h),fun _=>⟨zY,_,_,2,_,by decide,hee.2,go _ _ hk fun H H3 n3 g0 g1 g2 g3 g4=>rone_sign b s p d _ _ _ H H3 n3 g0 g1 g2 g3 g4 hl h45 h40 (fail _ hk)⟩⟩
   split <;> first
    | (rename_i heq; cases heq; done)
    | (rename_i heq; cases heq; exact absurd rfl h45)
    | (rename_i heq; cases heq; exact absurd rfl h40)
    | exact main
 | word e t=>
  rw [hk] at hel hend htl
  have hee : p < e ∧ e ≤ s.length:=hend
  have htl : t.length ≤ 200:=htl
  have hd30 : d = 30 → ∀ H : Heap,H[b]? = some (rP s e d) → C zf [pR b,zJ (skip s p)] H (.bool false) (H.set b (pB s e (skip s p : Nat) 4 d)):=fun h H hb=>(hD b s e d _ H hb hd).1 h
  have hdok : d ≠ 30 → ∀ H : Heap,H[b]? = some (rP s e d) → C zf [pR b,zJ (skip s p)] H (.bool true) (H.set b (rP s e (d + 1 : Nat))):=fun h H hb=>(hD b s e d _ H hb hd).2 h
  have hcd:=fun H=>hCd t H tO
  have hw:=fun H=>hW t H htl
  have hr:=fun H=>hR t H htl
  show EF C GT zQ [pR b] b s p d (if zBX t = true ∧ s[e]? = some 40 then (if d = 30 then none else zG3 s t e (d + 1)) else (zMO t).map fun n=>(n,e))
  by_cases hcl : zBX t = true ∧ s[e]? = some 40
  ·rw [zMg hcl]
   obtain ⟨hc1,hc2⟩:=hcl
   rw [hc1] at hcd
   by_cases h30 : d = 30
   ·rw [zMg h30]
    exact ⟨fun n e h=>(by cases h),fun _=>⟨zY,_,_,4,_,by decide,hee.2,go _ _ hk fun H H3 n3 g0 g1 g2 g3 g4=>rone_cal30 b s p d _ _ _ H H3 n3 g0 g1 g2 g3 g4 hl hcd hc2 (hd30 h30)⟩⟩
   rw [zMe h30]
   have ho:=hCa e t hc2 hee.1 htl
   cases hrr : zG3 s t e (d + 1) with
   | some x=>
    obtain ⟨n,e2⟩:=x
    exact ⟨fun n' e' h=>by cases h; exact go _ _ hk fun H H3 n3 g0 g1 g2 g3 g4=>rone_cal b s p d _ _ _ H H3 n3 g0 g1 g2 g3 g4 hl hcd hc2 n _ (hdok h30) (ho.1 n e2 hrr) (fun _=>rfl),fun h=>by cases h⟩
   | none=>
    obtain ⟨n,a,w,ee,d',he0,hal,hh⟩:=ho.2 hrr
    exact ⟨fun n e h=>(by cases h),fun _=>⟨n,a,w,ee,d',he0,hal,go _ _ hk fun H H3 n3 g0 g1 g2 g3 g4=>rone_cal b s p d _ _ _ H H3 n3 g0 g1 g2 g3 g4 hl hcd hc2 n _ (hdok h30) hh (fun _=>rfl)⟩⟩
  rw [zMe hcl]
  have ways : (zBX t = false) ∨ (zBX t = true ∧ s.length ≤ e) ∨ (zBX t = true ∧ ∃ c,s[e]? = some c ∧ c.toNat ≠ 40):=by
   cases hb : zBX t with
   | false=>exact .inl rfl
   | true=>
    by_cases hlt : s.length ≤ e
    ·exact .inr (.inl ⟨rfl,hlt⟩)
    ·obtain ⟨c,hc⟩ : ∃ c,s[e]? = some c:=⟨_,zMf tO⟩
     exact .inr (.inr ⟨rfl,c,hc,fun h=>hcl ⟨hb,by rw [hc,show c = 40 from zM0.1 h]⟩⟩)
  unfold zMO
  cases hwp : zBE t with
  | some n=>
   rw [hwp] at hw
   have hw : ∀ H,C zU [.str t,.bool false] H (.tup [zK n,.bool true]) H:=hw
   refine ⟨fun n' e' h=>?_,fun h=>by cases h⟩
   cases h
   refine go _ _ hk fun H H3 n3 g0 g1 g2 g3 g4=>?_
   rcases ways with hb | ⟨hb,hle⟩ | ⟨hb,c,hc,hc40⟩ <;> rw [hb] at hcd
   ·exact rone_numa b s p d _ _ _ H H3 n3 g0 g1 g2 g3 g4 hl hcd n hw
   ·exact rone_numb b s p d _ _ _ H H3 n3 g0 g1 g2 g3 g4 hl hcd hle n hw
   ·exact rone_numc b s p d _ _ _ H H3 n3 g0 g1 g2 g3 g4 hl hcd c hc hc40 n hw
  | none=>
   rw [hwp] at hw
   have hw : ∀ H,C zU [.str t,.bool false] H (.tup [zK 0,.bool false]) H:=hw
   simp only
   by_cases h1 : t = trueW
   ·rw [zMg h1]
    refine ⟨fun n' e' h=>?_,fun h=>by cases h⟩
    cases h
    refine go _ _ hk fun H H3 n3 g0 g1 g2 g3 g4=>?_
    rcases ways with hb | ⟨hb,hle⟩ | ⟨hb,c,hc,hc40⟩ <;> rw [hb] at hcd
    ·exact rone_trua b s p d _ _ _ H H3 n3 g0 g1 g2 g3 g4 hl hcd hw h1
    ·exact rone_trub b s p d _ _ _ H H3 n3 g0 g1 g2 g3 g4 hl hcd hle hw h1
    ·exact rone_truc b s p d _ _ _ H H3 n3 g0 g1 g2 g3 g4 hl hcd c hc hc40 hw h1
   rw [zMe h1]
   by_cases h2 : t = zKZ
   ·rw [zMg h2]
    refine ⟨fun n' e' h=>?_,fun h=>by cases h⟩
    cases h
    refine go _ _ hk fun H H3 n3 g0 g1 g2 g3 g4=>?_
    rcases ways with hb | ⟨hb,hle⟩ | ⟨hb,c,hc,hc40⟩ <;> rw [hb] at hcd
    ·exact rone_fala b s p d _ _ _ H H3 n3 g0 g1 g2 g3 g4 hl hcd hw h1 h2
    ·exact rone_falb b s p d _ _ _ H H3 n3 g0 g1 g2 g3 g4 hl hcd hle hw h1 h2
    ·exact rone_falc b s p d _ _ _ H H3 n3 g0 g1 g2 g3 g4 hl hcd c hc hc40 hw h1 h2
   rw [zMe h2]
   cases hrp : zCu t with
   | some x=>
    rw [hrp] at hr
    have hr : ∀ H,C zm [.str t] H (.tup [.agg [zK x.col,zK x.row,.bool x.fc,.bool x.fr],.bool true]) H:=hr
    refine ⟨fun n' e' h=>?_,fun h=>by cases h⟩
    cases h
    refine go _ _ hk fun H H3 n3 g0 g1 g2 g3 g4=>?_
    rcases ways with hb | ⟨hb,hle⟩ | ⟨hb,c,hc,hc40⟩ <;> rw [hb] at hcd
    ·exact rone_refa b s p d _ _ _ H H3 n3 g0 g1 g2 g3 g4 hl hcd hw h1 h2 x hr
    ·exact rone_refb b s p d _ _ _ H H3 n3 g0 g1 g2 g3 g4 hl hcd hle hw h1 h2 x hr
    ·exact rone_refc b s p d _ _ _ H H3 n3 g0 g1 g2 g3 g4 hl hcd c hc hc40 hw h1 h2 x hr
   | none=>
    rw [hrp] at hr
    have hr : ∀ H,C zm [.str t] H (.tup [.agg zV1,.bool false]) H:=hr
    refine ⟨fun n e h=>(by cases h),fun _=>⟨zY,e,(skip s p : Nat),2,(d : Nat),by decide,hee.2,go _ _ hk fun H H3 n3 g0 g1 g2 g3 g4=>?_⟩⟩
    rcases ways with hb | ⟨hb,hle⟩ | ⟨hb,c,hc,hc40⟩ <;> rw [hb] at hcd
    ·exact rone_wnoa b s p d _ _ _ H H3 n3 g0 g1 g2 g3 g4 hl hcd hw h1 h2 hr (fail _ hk)
    ·exact rone_wnob b s p d _ _ _ H H3 n3 g0 g1 g2 g3 g4 hl hcd hle hw h1 h2 hr (fail _ hk)
    ·exact rone_wnoc b s p d _ _ _ H H3 n3 g0 g1 g2 g3 g4 hl hcd c hc hc40 hw h1 h2 hr (fail _ hk)
end
end Go.AM
