/- Several texts of mine in one (Cw2, Cvw, Cvq, Cw3, Pre). Own work. -/
import Derived.Test.YtmiknjjfgndddaaDoorGBu1Am33
import Derived.Test.YtmiknjjfgndddaaDoorGAm25Am29
import Derived.Test.YtmiknjjfgndddaaDoorGAm22Err
set_option linter.all false
set_option maxRecDepth 20000
namespace Go.AM
def rwV (t : List (List Fld)) : AV:=.tup [.str (zID t),zAI (zD0 t)]
theorem zJD {t : List (List Fld)} {i : Nat} (h : t[i]? = some []) : rwV t = .tup [.str [],.int .i64 3]:=by
 have e : zD0 t = 3:=by
  unfold zD0
  rw [if_pos (List.any_eq_true.2 ⟨[],List.mem_of_getElem? h,rfl⟩)]
 unfold rwV zID
 rw [e]; rfl
theorem zIQ {t : List (List Fld)} (h0 : ∀ r ∈ t,r ≠ []) (h : 4000 < (zj t).length) : rwV t = .tup [.str [],.int .i64 4]:=by
 have e : zD0 t = 4:=by
  unfold zD0
  rw [if_neg (fun h=>by obtain ⟨r,h1,h2⟩:=List.any_eq_true.1 h; exact h0 r h1 (of_decide_eq_true h2)),if_pos h]
 unfold rwV zID
 rw [e]; rfl
theorem rw_ok {t : List (List Fld)} (h0 : ∀ r ∈ t,r ≠ []) (h : ¬ 4000 < (zj t).length) : rwV t = .tup [.str (zj t),.int .i64 0]:=by
 have e : zD0 t = 0:=by
  unfold zD0
  rw [if_neg (fun h=>by obtain ⟨r,h1,h2⟩:=List.any_eq_true.1 h; exact h0 r h1 (of_decide_eq_true h2)),if_neg h]
 unfold rwV zID
 rw [e]; rfl
abbrev OwB (H0 H : Heap) (v : AV) (u : Fld) : Prop:=Owns H0 H v 1 (u.map zA)
theorem OwB.snoc {H0 H : Heap} {v : AV} {u : Fld} {c : UInt8} (h : Owns H0 H v 1 (u.map zA ++ [zA c])) : OwB H0 H v (u ++ [c]):=by
 have e : (u ++ [c]).map zA = u.map zA ++ [zA c]:=by rw [List.map_append]; rfl
 show Owns H0 H v 1 ((u ++ [c]).map zA)
 rw [e]; exact h
theorem zCm {f : Fld} {j : Nat} {c : UInt8} (h : f[j]? = some c) : (f.take (j + 1)).any zBZ = ((f.take j).any zBZ || zBZ c):=by
 have e : f.take (j + 1) = f.take j ++ [c]:=by rw [List.take_add_one,h]; rfl
 rw [e,List.any_append]; simp
theorem zAf {f : Fld} {j : Nat} {c : UInt8} (h : f[j]? = some c) : zu (f.take (j + 1)) = zu (f.take j) ++ (if c = 34 then [34,34] else [c]):=by
 have e : f.take (j + 1) = f.take j ++ [c]:=by rw [List.take_add_one,h]; rfl
 rw [e,zEf]
 show _ ++ (if c = 34 then 34 :: 34 :: [] else c :: []) = _
 rfl
theorem zCW (f : Fld) (j : Nat) : (zu (f.take j)).length ≤ (zu f).length:=by
 have e : f = f.take j ++ f.drop j:=(List.take_append_drop j f).symm
 have e2 : zu f = zu (f.take j) ++ zu (f.drop j):=by
  conv=>lhs; rw [e]
  rw [zEf]
 rw [e2,List.length_append]; omega
theorem zCA {f : Fld} {one : Bool} (h : zI5 one f = false) : zu f = f:=zIE fun c hc e=>by
 subst e
 unfold zI5 at h
 rw [Bool.or_eq_false_iff] at h
 have:=List.any_eq_false.1 h.2 34 hc
 exact this rfl
theorem zF {c d : UInt8} (h : c ≠ d) : (((c.toNat : Nat) : Int) == ((d.toNat : Nat) : Int)) = false:=tN fun e=>h (UInt8.toNat_inj.1 tO)
theorem zb {c d : UInt8} (h : c = d) : (((c.toNat : Nat) : Int) == ((d.toNat : Nat) : Int)) = true:=by rw [h]; exact beq_self_eq_true _
theorem zBT (c : UInt8) : (c = 44 ∧ zBZ c = true) ∨ (c ≠ 44 ∧ c = 34 ∧ zBZ c = true) ∨ (c ≠ 44 ∧ c ≠ 34 ∧ c = 10 ∧ zBZ c = true) ∨ (c ≠ 44 ∧ c ≠ 34 ∧ c ≠ 10 ∧ c = 13 ∧ zBZ c = true) ∨ (c ≠ 44 ∧ c ≠ 34 ∧ c ≠ 10 ∧ c ≠ 13 ∧ zBZ c = false):=by
 by_cases h1 : c = 44
 ·subst h1; exact .inl ⟨rfl,rfl⟩
 by_cases h2 : c = 34
 ·subst h2; exact .inr (.inl ⟨h1,rfl,rfl⟩)
 by_cases h3 : c = 10
 ·subst h3; exact .inr (.inr (.inl ⟨h1,h2,rfl,rfl⟩))
 by_cases h4 : c = 13
 ·subst h4; exact .inr (.inr (.inr (.inl ⟨h1,h2,h3,rfl,rfl⟩)))
 refine .inr (.inr (.inr (.inr ⟨h1,h2,h3,h4, ?_⟩)))
 unfold zBZ
 rw [tN h1,tN h2,tN h3,tN h4]; rfl
section
variable {C : CSpec} {GT : Nat → Option AV} {H0 : Heap}
set_option maxHeartbeats 32000000 in
theorem zJt (va : AV) (t : List (List Fld)) (ha : zCU va t) (hl : t.length ≤ 1048576) (hrl : ∀ r ∈ t,r.length ≤ 1048576) (hfl : ∀ r ∈ t,∀ f ∈ r,f.length ≤ 1048576) (hne : ∀ r ∈ t,r ≠ []) (v1 : AV) (H1 : Heap) (hB : OwB H0 H1 v1 []) (hO : Old H0 H1) :
  EW C GT (zB9.behind 3) (finF zA5 H0 (rwV t) H0) [(0,va),(4,v1)] H1:=by
 obtain ⟨xs,hv,hxl,hxr⟩:=ha
 refine zBA (fun x : Nat × AV=>[(6,zAI x.1),(0,va),(4,x.2)]) (fun x H2=>x.1 ≤ t.length ∧ OwB H0 H2 x.2 (zj (t.take x.1)) ∧ Old H0 H2 ∧ (zj (t.take x.1)).length ≤ 4001) (fun x=>t.length - x.1) (0,v1) rfl ⟨Nat.zero_le _,hB,hO,by simp [zj]⟩ (fun x H2 hi=>?_)
 obtain ⟨i,v2⟩:=x
 obtain ⟨hi,hB2,hO2,hu⟩:=hi
 dsimp only at hi hB2 hu ⊢
 by_cases hlt : i < t.length
 ·have dlt : decide (((i : Nat) : Int) < ((t.length : Nat) : Int)) = true:=tT
  obtain ⟨r,hr⟩ : ∃ r,t[i]? = some r:=⟨t[i],List.getElem?_eq_getElem hlt⟩
  obtain ⟨x,hx,hxo⟩:=hxr i r hr
  have hm:=List.mem_of_getElem? hr
  have hrl:=hrl r hm
  have hfl:=hfl r hm
  have hrn:=hne r hm
  have hrn0 : r.length ≠ 0:=fun e=>hrn (List.length_eq_zero_iff.1 e)
  have hnx:=zFR hr
  have hpart:=zGO t i
  have hone : decide (r.length = 1) = (((r.length : Nat) : Int) == 1):=by
   rw [Bool.eq_iff_iff,decide_eq_true_iff,beq_iff_eq]; omega
  rw [hone] at hnx
  obtain ⟨one,hone2⟩ : ∃ one,(((r.length : Nat) : Int) == 1) = one:=⟨_,rfl⟩
  rw [hone2] at hnx hone
  refine zAY t.length hv hxl ?_; refine zR dlt ?_; refine zBA (fun y : Nat × AV=>[(7,zAI y.1),(6,zAI i),(0,va),(4,y.2)]) (fun y H3=>y.1 ≤ r.length ∧ OwB H0 H3 y.2 (zj (t.take i) ++ zL one true (r.take y.1)) ∧ Old H0 H3 ∧ (zj (t.take i) ++ zL one true (r.take y.1)).length ≤ 4001 ∧ (y.1 ≠ 0 → (zj (t.take i) ++ zL one true (r.take y.1)).length ≤ 4000)) (fun y=>r.length - y.1) (0,v2) rfl ⟨Nat.zero_le _,by rw [List.take_zero]; show OwB H0 H2 v2 (zj (t.take i) ++ []); rw [List.append_nil]; exact hB2,hO2,by rw [List.take_zero]; show (zj (t.take i) ++ [] : Fld).length ≤ 4001; rw [List.append_nil]; exact hu,fun h=>absurd rfl h⟩ (fun y H3 hi3=>?_)
  obtain ⟨k,v3⟩:=y
  obtain ⟨hk,hB3,hO3,hu3,hu4⟩:=hi3
  dsimp only at hk hB3 hu3 hu4 ⊢
  refine zEO i x hv rfl hx ?_; refine zB7 x (by rw [hxo.cells]; rfl) ?_; refine zAY r.length hxo (by simp) ?_
  by_cases hlk : k < r.length
  ·have dlk : decide (((k : Nat) : Int) < ((r.length : Nat) : Int)) = true:=tT
   obtain ⟨f,hf⟩ : ∃ f,r[k]? = some f:=⟨r[k],List.getElem?_eq_getElem hlk⟩
   have hff:=hfl f (List.mem_of_getElem? hf)
   have hcn:=zD1 one hf
   have hpk:=hpart (k + 1) r hr
   rw [hone,hcn] at hpk
   have hes:=(zCl f).2
   obtain ⟨u,hu0⟩ : ∃ u,zj (t.take i) ++ zL one true (r.take k) = u:=⟨_,rfl⟩
   have hu2 : zj (t.take i) ++ zL one true (r.take (k + 1)) = (u ++ (if k = 0 then [] else [44])) ++ zAR one f:=by rw [hcn,← hu0]; simp only [List.append_assoc]
   rw [hu0] at hB3 hu3 hu4
   have hful : 4000 < ((u ++ (if k = 0 then [] else [44])) ++ zAR one f).length → rwV t = .tup [.str [],.int .i64 4]:=fun h=>zIQ hne (by
    rw [← hu2,List.length_append] at h
    rw [hcn] at h
    omega)
   have hque : ∀ {q : Bool},q = ((decide (f = []) && one) || (f.take f.length).any zBZ) → q = zI5 one f:=fun h=>by rw [h,List.take_length]; rfl
   refine zR dlk ?_; refine zEO i x hv rfl hx ?_; refine zB7 x (by rw [hxo.cells]; rfl) ?_; refine zEO k (.str f) hxo rfl (by rw [List.getElem?_map,hf]; rfl) ?_; refine zB7 (.str f) rfl ?_
   by_cases hk0 : k = 0
   ·rw [if_pos hk0,List.append_nil] at hu2 hful
    have dk : decide (((k : Nat) : Int) > 0) = false:=tF
    by_cases he : f = []
    ·have hfe : (f == ([] : Fld)) = true:=tE he
     have hq0 : (((r.length : Nat) : Int) == 1) = ((decide (f = []) && one) || (f.take 0).any zBZ):=by rw [hone2,decide_eq_true he]; cases one <;> rfl
     refine zS dk ?_; refine zR hfe ?_; refine zEO i x hv rfl hx ?_; refine zB7 x (by rw [hxo.cells]; rfl) ?_; refine zAY r.length hxo (by simp) ?_; refine zC ?_; refine zBA (fun z : Nat × Bool=>[(10,zAI z.1),(8,AV.str f),(6,zAI i),(0,va),(7,zAI k),(9,.bool z.2),(4,v3)]) (fun z H5=>H3 = H5 ∧ z.1 ≤ f.length ∧ z.2 = ((decide (f = []) && one) || (f.take z.1).any zBZ)) (fun z=>f.length - z.1) (0,(((r.length : Nat) : Int) == 1)) rfl ⟨rfl,Nat.zero_le _,hq0⟩ (fun z H5 hz=>?_)
     obtain ⟨j,q⟩:=z
     obtain ⟨hH5,hj,hq⟩:=hz
     dsimp only at hH5 hj hq ⊢
     subst hH5
     by_cases hlj : j < f.length
     ·have dlj : decide (((j : Nat) : Int) < ((f.length : Nat) : Int)) = true:=tT
      obtain ⟨c,hc⟩ : ∃ c,f[j]? = some c:=⟨f[j],List.getElem?_eq_getElem hlj⟩
      have han:=zCm hc
      rcases zBT c with ⟨c1,hb⟩ | ⟨c1,c2,hb⟩ | ⟨c1,c2,c3,hb⟩ | ⟨c1,c2,c3,c4,hb⟩ | ⟨c1,c2,c3,c4,hb⟩
      ·refine zR dlj ?_; refine zi (i:=j) rfl hc ?_; refine zR (zb (d:=44) c1) ?_; refine zC ?_; refine zC ?_; refine zC ?_; refine zC ?_; refine zC ?_; refine zC ?_; refine zW (r:=j + 1) tO tO ?_
       exact zV (j + 1,true) rfl ⟨rfl,by omega,by rw [han,hb]; simp⟩ (by show _ < _; omega)
      ·refine zR dlj ?_; refine zi (i:=j) rfl hc ?_; refine zS (zF (d:=44) c1) ?_; refine zi (i:=j) rfl hc ?_; refine zB ?_; refine zR (zb (d:=34) c2) ?_; refine zC ?_; refine zC ?_; refine zC ?_; refine zC ?_; refine zW (r:=j + 1) tO tO ?_
       exact zV (j + 1,true) rfl ⟨rfl,by omega,by rw [han,hb]; simp⟩ (by show _ < _; omega)
      ·refine zR dlj ?_; refine zi (i:=j) rfl hc ?_; refine zS (zF (d:=44) c1) ?_; refine zi (i:=j) rfl hc ?_; refine zB ?_; refine zS (zF (d:=34) c2) ?_; refine zi (i:=j) rfl hc ?_; refine zB ?_; refine zR (zb (d:=10) c3) ?_; refine zC ?_; refine zC ?_; refine zW (r:=j + 1) tO tO ?_
       exact zV (j + 1,true) rfl ⟨rfl,by omega,by rw [han,hb]; simp⟩ (by show _ < _; omega)
      ·refine zR dlj ?_; refine zi (i:=j) rfl hc ?_; refine zS (zF (d:=44) c1) ?_; refine zi (i:=j) rfl hc ?_; refine zB ?_; refine zS (zF (d:=34) c2) ?_; refine zi (i:=j) rfl hc ?_; refine zB ?_; refine zS (zF (d:=10) c3) ?_; refine zi (i:=j) rfl hc ?_; refine zB ?_; refine zR (zb (d:=13) c4) ?_; refine zW (r:=j + 1) tO tO ?_
       exact zV (j + 1,true) rfl ⟨rfl,by omega,by rw [han,hb]; simp⟩ (by show _ < _; omega)
      ·refine zR dlj ?_; refine zi (i:=j) rfl hc ?_; refine zS (zF (d:=44) c1) ?_; refine zi (i:=j) rfl hc ?_; refine zB ?_; refine zS (zF (d:=34) c2) ?_; refine zi (i:=j) rfl hc ?_; refine zB ?_; refine zS (zF (d:=10) c3) ?_; refine zi (i:=j) rfl hc ?_; refine zB ?_; refine zS (zF (d:=13) c4) ?_; refine zW (r:=j + 1) tO tO ?_
       exact zV (j + 1,q) rfl ⟨rfl,by omega,by rw [han,hb]; rw [hq,Bool.or_false]⟩ (by show _ < _; omega)
     ·have ej : j = f.length:=by omega
      subst ej
      have dlj : decide (((f.length : Nat) : Int) < ((f.length : Nat) : Int)) = false:=tF
      have hq:=hque hq
      refine zS dlj ?_
      cases q with
      | true=>
       refine zC ?_; refine zK (vs':=[AV.int IntKind.u8 34]) rfl rfl ?_; refine zN (H0:=H0) (ys:=[zA 34]) (hB3.push _) (hO3.push _) (zD) (by decide) (by simp only [List.length_map,List.length_append,List.length_cons,List.length_nil,List.length_singleton]; omega) (by simp) (fun v5 H6 hq5 hq5o _ _=>?_)
       have hq5:=OwB.snoc hq5
       have hfq : zAR one f = 34 :: (zu f ++ [34]):=by unfold zAR; rw [if_pos hq.symm]
       have hbl : (u ++ [34]).length ≤ 4003:=by first | omega | (simp only [List.length_append,List.length_cons,List.length_nil]; omega)
       refine zBA (fun z : Nat × AV=>[(11,zAI z.1),(8,AV.str f),(4,z.2),(6,zAI i),(0,va),(7,zAI k),(9,.bool true)]) (fun z H7=>z.1 ≤ f.length ∧ OwB H0 H7 z.2 ((u ++ [34]) ++ zu (f.take z.1)) ∧ Old H0 H7 ∧ ((u ++ [34]) ++ zu (f.take z.1)).length ≤ 4003) (fun z=>f.length - z.1) (0,v5) rfl ⟨Nat.zero_le _,by show OwB H0 H6 v5 ((u ++ [34]) ++ []); rw [List.append_nil]; exact hq5,hq5o,by show ((u ++ [34]) ++ [] : Fld).length ≤ 4003; rw [List.append_nil]; exact hbl⟩ (fun z H7 hz=>?_)
       obtain ⟨j,v7⟩:=z
       obtain ⟨hj,hB7,hO7,hl7⟩:=hz
       dsimp only at hj hB7 hl7 ⊢
       obtain ⟨w,hw⟩ : ∃ w,(u ++ [34]) ++ zu (f.take j) = w:=⟨_,rfl⟩
       rw [hw] at hB7 hl7
       have hwm : (w.map zA).length = w.length:=List.length_map _
       by_cases hlj : j < f.length
       ·have dlj : decide (((j : Nat) : Int) < ((f.length : Nat) : Int)) = true:=tT
        by_cases hwl : w.length ≤ 4000
        ·have dw : decide (((w.length : Nat) : Int) ≤ 4000) = true:=tT
         obtain ⟨c,hc⟩ : ∃ c,f[j]? = some c:=⟨f[j],List.getElem?_eq_getElem hlj⟩
         have hen:=zAf hc
         have hwn : (u ++ [34]) ++ zu (f.take (j + 1)) = w ++ (if c = 34 then [34,34] else [c]):=by rw [hen,← hw]; simp only [List.append_assoc]
         by_cases h34 : c = 34
         ·rw [if_pos h34] at hwn
          refine zR dlj ?_; refine za w.length hB7.view hwm ?_; refine zC ?_; refine zR dw ?_; refine zi (i:=j) rfl hc ?_; refine zK (vs':=[zA c]) rfl rfl ?_; refine zN (H0:=H0) (ys:=[zA c]) (hB7.push _) (hO7.push _) (zD) (by decide) (by simp only [List.length_map,List.length_append,List.length_cons,List.length_nil,List.length_singleton]; omega) (by simp) (fun v8 H8 hq8 hq8o _ _=>?_)
          have hq8:=OwB.snoc hq8
          refine zi (i:=j) rfl hc ?_; refine zR (zb (d:=34) h34) ?_; refine zK (vs':=[AV.int IntKind.u8 34]) rfl rfl ?_; refine zN (H0:=H0) (ys:=[zA 34]) (hq8.push _) (hq8o.push _) (zD) (by decide) (by simp only [List.length_map,List.length_append,List.length_cons,List.length_nil,List.length_singleton]; omega) (by simp) (fun v9 H9 hq9 hq9o _ _=>?_)
          have hq9:=OwB.snoc hq9
          refine zW (r:=j + 1) tO tO ?_
          exact zV (j + 1,v9) rfl ⟨by omega,by rw [hwn]; subst h34; rw [List.append_assoc] at hq9; exact hq9,hq9o,by rw [hwn,List.length_append]; simp only [List.length_cons,List.length_nil]; omega⟩ (by show _ < _; omega)
         ·rw [if_neg h34] at hwn
          refine zR dlj ?_; refine za w.length hB7.view hwm ?_; refine zC ?_; refine zR dw ?_; refine zi (i:=j) rfl hc ?_; refine zK (vs':=[zA c]) rfl rfl ?_; refine zN (H0:=H0) (ys:=[zA c]) (hB7.push _) (hO7.push _) (zD) (by decide) (by simp only [List.length_map,List.length_append,List.length_cons,List.length_nil,List.length_singleton]; omega) (by simp) (fun v8 H8 hq8 hq8o _ _=>?_)
          have hq8:=OwB.snoc hq8
          refine zi (i:=j) rfl hc ?_; refine zS (zF (d:=34) h34) ?_; refine zW (r:=j + 1) tO tO ?_
          exact zV (j + 1,v8) rfl ⟨by omega,by rw [hwn]; exact hq8,hq8o,by rw [hwn,List.length_append]; simp only [List.length_cons,List.length_nil]; omega⟩ (by show _ < _; omega)
        ·have dw : decide (((w.length : Nat) : Int) ≤ 4000) = false:=tF
         have hej:=zCW f j
         rw [hful (by rw [hfq]; have:=congrArg List.length hw; simp only [List.length_append,List.length_cons,List.length_nil] at this ⊢; omega)]
         refine zR dlj ?_; refine za w.length hB7.view hwm ?_; refine zC ?_; refine zS dw ?_; refine zC ?_; refine zK (vs':=[AV.int IntKind.u8 34]) rfl rfl ?_; refine zN (H0:=H0) (ys:=[zA 34]) (hB7.push _) (hO7.push _) (zD) (by decide) (by simp only [List.length_map,List.length_append,List.length_cons,List.length_nil,List.length_singleton]; omega) (by simp) (fun v8 H8 hq8 hq8o _ _=>?_)
         have hq8:=OwB.snoc hq8
         have d8 : decide ((((w ++ [34]).length : Nat) : Int) > 4000) = true:=tT (by rw [List.length_append]; omega)
         refine za (w ++ [34]).length hq8.view (List.length_map _) ?_; refine zR d8 ?_
         exact z2 rfl rfl rfl rfl hq8o
       ·have ej : j = f.length:=by omega
        subst ej
        have dlj : decide (((f.length : Nat) : Int) < ((f.length : Nat) : Int)) = false:=tF
        rw [List.take_length] at hw
        have hall : u ++ zAR one f = w ++ [34]:=by rw [hfq,← hw]; try simp only [List.append_assoc,List.cons_append,List.nil_append]
        rw [hall] at hful hu2
        refine zS dlj ?_; refine zB ?_; refine zB ?_; refine zC ?_; refine zK (vs':=[AV.int IntKind.u8 34]) rfl rfl ?_; refine zN (H0:=H0) (ys:=[zA 34]) (hB7.push _) (hO7.push _) (zD) (by decide) (by simp only [List.length_map,List.length_append,List.length_cons,List.length_nil,List.length_singleton]; omega) (by simp) (fun v8 H8 hq8 hq8o _ _=>?_)
        have hq8:=OwB.snoc hq8
        by_cases hF : 4000 < (w ++ [34]).length
        ·have dF : decide ((((w ++ [34]).length : Nat) : Int) > 4000) = true:=tT
         rw [hful hF]
         refine za (w ++ [34]).length hq8.view (List.length_map _) ?_; refine zR dF ?_
         exact z2 rfl rfl rfl rfl hq8o
        ·have dF : decide ((((w ++ [34]).length : Nat) : Int) > 4000) = false:=tF
         refine za (w ++ [34]).length hq8.view (List.length_map _) ?_; refine zS dF ?_; refine zW (r:=k + 1) tO tO ?_
         exact zV (k + 1,v8) rfl ⟨by omega,by show OwB H0 H8 v8 (zj (t.take i) ++ zL one true (r.take (k + 1))); rw [hu2]; exact hq8,hq8o,by show (zj (t.take i) ++ zL one true (r.take (k + 1))).length ≤ 4001; rw [hu2]; omega,fun _=>by show (zj (t.take i) ++ zL one true (r.take (k + 1))).length ≤ 4000; rw [hu2]; omega⟩ (by show _ < _; omega)
      | false=>
       have hfq : zAR one f = zu f:=by unfold zAR; rw [if_neg (by rw [← hq]; decide)]; exact (zCA hq.symm).symm
       refine zB ?_
       have hbl : u.length ≤ 4003:=by first | omega | (simp only [List.length_append,List.length_cons,List.length_nil]; omega)
       refine zBA (fun z : Nat × AV=>[(11,zAI z.1),(8,AV.str f),(4,z.2),(6,zAI i),(0,va),(7,zAI k),(9,.bool false)]) (fun z H7=>z.1 ≤ f.length ∧ OwB H0 H7 z.2 (u ++ zu (f.take z.1)) ∧ Old H0 H7 ∧ (u ++ zu (f.take z.1)).length ≤ 4003) (fun z=>f.length - z.1) (0,v3) rfl ⟨Nat.zero_le _,by show OwB H0 H3 v3 (u ++ []); rw [List.append_nil]; exact hB3,hO3,by show (u ++ [] : Fld).length ≤ 4003; rw [List.append_nil]; exact hbl⟩ (fun z H7 hz=>?_)
       obtain ⟨j,v7⟩:=z
       obtain ⟨hj,hB7,hO7,hl7⟩:=hz
       dsimp only at hj hB7 hl7 ⊢
       obtain ⟨w,hw⟩ : ∃ w,u ++ zu (f.take j) = w:=⟨_,rfl⟩
       rw [hw] at hB7 hl7
       have hwm : (w.map zA).length = w.length:=List.length_map _
       by_cases hlj : j < f.length
       ·have dlj : decide (((j : Nat) : Int) < ((f.length : Nat) : Int)) = true:=tT
        by_cases hwl : w.length ≤ 4000
        ·have dw : decide (((w.length : Nat) : Int) ≤ 4000) = true:=tT
         obtain ⟨c,hc⟩ : ∃ c,f[j]? = some c:=⟨f[j],List.getElem?_eq_getElem hlj⟩
         have hen:=zAf hc
         have hwn : u ++ zu (f.take (j + 1)) = w ++ (if c = 34 then [34,34] else [c]):=by rw [hen,← hw]; simp only [List.append_assoc]
         by_cases h34 : c = 34
         ·rw [if_pos h34] at hwn
          refine zR dlj ?_; refine za w.length hB7.view hwm ?_; refine zC ?_; refine zR dw ?_; refine zi (i:=j) rfl hc ?_; refine zK (vs':=[zA c]) rfl rfl ?_; refine zN (H0:=H0) (ys:=[zA c]) (hB7.push _) (hO7.push _) (zD) (by decide) (by simp only [List.length_map,List.length_append,List.length_cons,List.length_nil,List.length_singleton]; omega) (by simp) (fun v8 H8 hq8 hq8o _ _=>?_)
          have hq8:=OwB.snoc hq8
          refine zi (i:=j) rfl hc ?_; refine zR (zb (d:=34) h34) ?_; refine zK (vs':=[AV.int IntKind.u8 34]) rfl rfl ?_; refine zN (H0:=H0) (ys:=[zA 34]) (hq8.push _) (hq8o.push _) (zD) (by decide) (by simp only [List.length_map,List.length_append,List.length_cons,List.length_nil,List.length_singleton]; omega) (by simp) (fun v9 H9 hq9 hq9o _ _=>?_)
          have hq9:=OwB.snoc hq9
          refine zW (r:=j + 1) tO tO ?_
          exact zV (j + 1,v9) rfl ⟨by omega,by rw [hwn]; subst h34; rw [List.append_assoc] at hq9; exact hq9,hq9o,by rw [hwn,List.length_append]; simp only [List.length_cons,List.length_nil]; omega⟩ (by show _ < _; omega)
         ·rw [if_neg h34] at hwn
          refine zR dlj ?_; refine za w.length hB7.view hwm ?_; refine zC ?_; refine zR dw ?_; refine zi (i:=j) rfl hc ?_; refine zK (vs':=[zA c]) rfl rfl ?_; refine zN (H0:=H0) (ys:=[zA c]) (hB7.push _) (hO7.push _) (zD) (by decide) (by simp only [List.length_map,List.length_append,List.length_cons,List.length_nil,List.length_singleton]; omega) (by simp) (fun v8 H8 hq8 hq8o _ _=>?_)
          have hq8:=OwB.snoc hq8
          refine zi (i:=j) rfl hc ?_; refine zS (zF (d:=34) h34) ?_; refine zW (r:=j + 1) tO tO ?_
          exact zV (j + 1,v8) rfl ⟨by omega,by rw [hwn]; exact hq8,hq8o,by rw [hwn,List.length_append]; simp only [List.length_cons,List.length_nil]; omega⟩ (by show _ < _; omega)
        ·have dw : decide (((w.length : Nat) : Int) ≤ 4000) = false:=tF
         have hej:=zCW f j
         rw [hful (by rw [hfq]; have:=congrArg List.length hw; simp only [List.length_append,List.length_cons,List.length_nil] at this ⊢; omega)]
         have d8 : decide (((w.length : Nat) : Int) > 4000) = true:=tT
         refine zR dlj ?_; refine za w.length hB7.view hwm ?_; refine zC ?_; refine zS dw ?_; refine zB ?_; refine za w.length hB7.view hwm ?_; refine zR d8 ?_
         exact z2 rfl rfl rfl rfl hO7
       ·have ej : j = f.length:=by omega
        subst ej
        have dlj : decide (((f.length : Nat) : Int) < ((f.length : Nat) : Int)) = false:=tF
        rw [List.take_length] at hw
        have hall : u ++ zAR one f = w:=by rw [hfq,← hw]; try simp only [List.append_assoc,List.cons_append,List.nil_append]
        rw [hall] at hful hu2
        by_cases hF : 4000 < (w).length
        ·have dF : decide ((((w).length : Nat) : Int) > 4000) = true:=tT
         rw [hful hF]
         refine zS dlj ?_; refine zB ?_; refine zB ?_; refine zB ?_; refine za w.length hB7.view hwm ?_; refine zR dF ?_
         exact z2 rfl rfl rfl rfl hO7
        ·have dF : decide ((((w).length : Nat) : Int) > 4000) = false:=tF
         refine zS dlj ?_; refine zB ?_; refine zB ?_; refine zB ?_; refine za w.length hB7.view hwm ?_; refine zS dF ?_; refine zW (r:=k + 1) tO tO ?_
         exact zV (k + 1,v7) rfl ⟨by omega,by show OwB H0 H7 v7 (zj (t.take i) ++ zL one true (r.take (k + 1))); rw [hu2]; exact hB7,hO7,by show (zj (t.take i) ++ zL one true (r.take (k + 1))).length ≤ 4001; rw [hu2]; omega,fun _=>by show (zj (t.take i) ++ zL one true (r.take (k + 1))).length ≤ 4000; rw [hu2]; omega⟩ (by show _ < _; omega)
    ·have hfe : (f == ([] : Fld)) = false:=tN he
     have hq0 : false = ((decide (f = []) && one) || (f.take 0).any zBZ):=by rw [decide_eq_false he]; rfl
     refine zS dk ?_; refine zS hfe ?_; refine zB ?_; refine zBA (fun z : Nat × Bool=>[(10,zAI z.1),(8,AV.str f),(6,zAI i),(0,va),(7,zAI k),(9,.bool z.2),(4,v3)]) (fun z H5=>H3 = H5 ∧ z.1 ≤ f.length ∧ z.2 = ((decide (f = []) && one) || (f.take z.1).any zBZ)) (fun z=>f.length - z.1) (0,false) rfl ⟨rfl,Nat.zero_le _,hq0⟩ (fun z H5 hz=>?_)
     obtain ⟨j,q⟩:=z
     obtain ⟨hH5,hj,hq⟩:=hz
     dsimp only at hH5 hj hq ⊢
     subst hH5
     by_cases hlj : j < f.length
     ·have dlj : decide (((j : Nat) : Int) < ((f.length : Nat) : Int)) = true:=tT
      obtain ⟨c,hc⟩ : ∃ c,f[j]? = some c:=⟨f[j],List.getElem?_eq_getElem hlj⟩
      have han:=zCm hc
      rcases zBT c with ⟨c1,hb⟩ | ⟨c1,c2,hb⟩ | ⟨c1,c2,c3,hb⟩ | ⟨c1,c2,c3,c4,hb⟩ | ⟨c1,c2,c3,c4,hb⟩
      ·refine zR dlj ?_; refine zi (i:=j) rfl hc ?_; refine zR (zb (d:=44) c1) ?_; refine zC ?_; refine zC ?_; refine zC ?_; refine zC ?_; refine zC ?_; refine zC ?_; refine zW (r:=j + 1) tO tO ?_
       exact zV (j + 1,true) rfl ⟨rfl,by omega,by rw [han,hb]; simp⟩ (by show _ < _; omega)
      ·refine zR dlj ?_; refine zi (i:=j) rfl hc ?_; refine zS (zF (d:=44) c1) ?_; refine zi (i:=j) rfl hc ?_; refine zB ?_; refine zR (zb (d:=34) c2) ?_; refine zC ?_; refine zC ?_; refine zC ?_; refine zC ?_; refine zW (r:=j + 1) tO tO ?_
       exact zV (j + 1,true) rfl ⟨rfl,by omega,by rw [han,hb]; simp⟩ (by show _ < _; omega)
      ·refine zR dlj ?_; refine zi (i:=j) rfl hc ?_; refine zS (zF (d:=44) c1) ?_; refine zi (i:=j) rfl hc ?_; refine zB ?_; refine zS (zF (d:=34) c2) ?_; refine zi (i:=j) rfl hc ?_; refine zB ?_; refine zR (zb (d:=10) c3) ?_; refine zC ?_; refine zC ?_; refine zW (r:=j + 1) tO tO ?_
       exact zV (j + 1,true) rfl ⟨rfl,by omega,by rw [han,hb]; simp⟩ (by show _ < _; omega)
      ·refine zR dlj ?_; refine zi (i:=j) rfl hc ?_; refine zS (zF (d:=44) c1) ?_; refine zi (i:=j) rfl hc ?_; refine zB ?_; refine zS (zF (d:=34) c2) ?_; refine zi (i:=j) rfl hc ?_; refine zB ?_; refine zS (zF (d:=10) c3) ?_; refine zi (i:=j) rfl hc ?_; refine zB ?_; refine zR (zb (d:=13) c4) ?_; refine zW (r:=j + 1) tO tO ?_
       exact zV (j + 1,true) rfl ⟨rfl,by omega,by rw [han,hb]; simp⟩ (by show _ < _; omega)
      ·refine zR dlj ?_; refine zi (i:=j) rfl hc ?_; refine zS (zF (d:=44) c1) ?_; refine zi (i:=j) rfl hc ?_; refine zB ?_; refine zS (zF (d:=34) c2) ?_; refine zi (i:=j) rfl hc ?_; refine zB ?_; refine zS (zF (d:=10) c3) ?_; refine zi (i:=j) rfl hc ?_; refine zB ?_; refine zS (zF (d:=13) c4) ?_; refine zW (r:=j + 1) tO tO ?_
       exact zV (j + 1,q) rfl ⟨rfl,by omega,by rw [han,hb]; rw [hq,Bool.or_false]⟩ (by show _ < _; omega)
     ·have ej : j = f.length:=by omega
      subst ej
      have dlj : decide (((f.length : Nat) : Int) < ((f.length : Nat) : Int)) = false:=tF
      have hq:=hque hq
      refine zS dlj ?_
      cases q with
      | true=>
       refine zC ?_; refine zK (vs':=[AV.int IntKind.u8 34]) rfl rfl ?_; refine zN (H0:=H0) (ys:=[zA 34]) (hB3.push _) (hO3.push _) (zD) (by decide) (by simp only [List.length_map,List.length_append,List.length_cons,List.length_nil,List.length_singleton]; omega) (by simp) (fun v5 H6 hq5 hq5o _ _=>?_)
       have hq5:=OwB.snoc hq5
       have hfq : zAR one f = 34 :: (zu f ++ [34]):=by unfold zAR; rw [if_pos hq.symm]
       have hbl : (u ++ [34]).length ≤ 4003:=by first | omega | (simp only [List.length_append,List.length_cons,List.length_nil]; omega)
       refine zBA (fun z : Nat × AV=>[(11,zAI z.1),(8,AV.str f),(4,z.2),(6,zAI i),(0,va),(7,zAI k),(9,.bool true)]) (fun z H7=>z.1 ≤ f.length ∧ OwB H0 H7 z.2 ((u ++ [34]) ++ zu (f.take z.1)) ∧ Old H0 H7 ∧ ((u ++ [34]) ++ zu (f.take z.1)).length ≤ 4003) (fun z=>f.length - z.1) (0,v5) rfl ⟨Nat.zero_le _,by show OwB H0 H6 v5 ((u ++ [34]) ++ []); rw [List.append_nil]; exact hq5,hq5o,by show ((u ++ [34]) ++ [] : Fld).length ≤ 4003; rw [List.append_nil]; exact hbl⟩ (fun z H7 hz=>?_)
       obtain ⟨j,v7⟩:=z
       obtain ⟨hj,hB7,hO7,hl7⟩:=hz
       dsimp only at hj hB7 hl7 ⊢
       obtain ⟨w,hw⟩ : ∃ w,(u ++ [34]) ++ zu (f.take j) = w:=⟨_,rfl⟩
       rw [hw] at hB7 hl7
       have hwm : (w.map zA).length = w.length:=List.length_map _
       by_cases hlj : j < f.length
       ·have dlj : decide (((j : Nat) : Int) < ((f.length : Nat) : Int)) = true:=tT
        by_cases hwl : w.length ≤ 4000
        ·have dw : decide (((w.length : Nat) : Int) ≤ 4000) = true:=tT
         obtain ⟨c,hc⟩ : ∃ c,f[j]? = some c:=⟨f[j],List.getElem?_eq_getElem hlj⟩
         have hen:=zAf hc
         have hwn : (u ++ [34]) ++ zu (f.take (j + 1)) = w ++ (if c = 34 then [34,34] else [c]):=by rw [hen,← hw]; simp only [List.append_assoc]
         by_cases h34 : c = 34
         ·rw [if_pos h34] at hwn
          refine zR dlj ?_; refine za w.length hB7.view hwm ?_; refine zC ?_; refine zR dw ?_; refine zi (i:=j) rfl hc ?_; refine zK (vs':=[zA c]) rfl rfl ?_; refine zN (H0:=H0) (ys:=[zA c]) (hB7.push _) (hO7.push _) (zD) (by decide) (by simp only [List.length_map,List.length_append,List.length_cons,List.length_nil,List.length_singleton]; omega) (by simp) (fun v8 H8 hq8 hq8o _ _=>?_)
          have hq8:=OwB.snoc hq8
          refine zi (i:=j) rfl hc ?_; refine zR (zb (d:=34) h34) ?_; refine zK (vs':=[AV.int IntKind.u8 34]) rfl rfl ?_; refine zN (H0:=H0) (ys:=[zA 34]) (hq8.push _) (hq8o.push _) (zD) (by decide) (by simp only [List.length_map,List.length_append,List.length_cons,List.length_nil,List.length_singleton]; omega) (by simp) (fun v9 H9 hq9 hq9o _ _=>?_)
          have hq9:=OwB.snoc hq9
          refine zW (r:=j + 1) tO tO ?_
          exact zV (j + 1,v9) rfl ⟨by omega,by rw [hwn]; subst h34; rw [List.append_assoc] at hq9; exact hq9,hq9o,by rw [hwn,List.length_append]; simp only [List.length_cons,List.length_nil]; omega⟩ (by show _ < _; omega)
         ·rw [if_neg h34] at hwn
          refine zR dlj ?_; refine za w.length hB7.view hwm ?_; refine zC ?_; refine zR dw ?_; refine zi (i:=j) rfl hc ?_; refine zK (vs':=[zA c]) rfl rfl ?_; refine zN (H0:=H0) (ys:=[zA c]) (hB7.push _) (hO7.push _) (zD) (by decide) (by simp only [List.length_map,List.length_append,List.length_cons,List.length_nil,List.length_singleton]; omega) (by simp) (fun v8 H8 hq8 hq8o _ _=>?_)
          have hq8:=OwB.snoc hq8
          refine zi (i:=j) rfl hc ?_; refine zS (zF (d:=34) h34) ?_; refine zW (r:=j + 1) tO tO ?_
          exact zV (j + 1,v8) rfl ⟨by omega,by rw [hwn]; exact hq8,hq8o,by rw [hwn,List.length_append]; simp only [List.length_cons,List.length_nil]; omega⟩ (by show _ < _; omega)
        ·have dw : decide (((w.length : Nat) : Int) ≤ 4000) = false:=tF
         have hej:=zCW f j
         rw [hful (by rw [hfq]; have:=congrArg List.length hw; simp only [List.length_append,List.length_cons,List.length_nil] at this ⊢; omega)]
         refine zR dlj ?_; refine za w.length hB7.view hwm ?_; refine zC ?_; refine zS dw ?_; refine zC ?_; refine zK (vs':=[AV.int IntKind.u8 34]) rfl rfl ?_; refine zN (H0:=H0) (ys:=[zA 34]) (hB7.push _) (hO7.push _) (zD) (by decide) (by simp only [List.length_map,List.length_append,List.length_cons,List.length_nil,List.length_singleton]; omega) (by simp) (fun v8 H8 hq8 hq8o _ _=>?_)
         have hq8:=OwB.snoc hq8
         have d8 : decide ((((w ++ [34]).length : Nat) : Int) > 4000) = true:=tT (by rw [List.length_append]; omega)
         refine za (w ++ [34]).length hq8.view (List.length_map _) ?_; refine zR d8 ?_
         exact z2 rfl rfl rfl rfl hq8o
       ·have ej : j = f.length:=by omega
        subst ej
        have dlj : decide (((f.length : Nat) : Int) < ((f.length : Nat) : Int)) = false:=tF
        rw [List.take_length] at hw
        have hall : u ++ zAR one f = w ++ [34]:=by rw [hfq,← hw]; try simp only [List.append_assoc,List.cons_append,List.nil_append]
        rw [hall] at hful hu2
        refine zS dlj ?_; refine zB ?_; refine zB ?_; refine zC ?_; refine zK (vs':=[AV.int IntKind.u8 34]) rfl rfl ?_; refine zN (H0:=H0) (ys:=[zA 34]) (hB7.push _) (hO7.push _) (zD) (by decide) (by simp only [List.length_map,List.length_append,List.length_cons,List.length_nil,List.length_singleton]; omega) (by simp) (fun v8 H8 hq8 hq8o _ _=>?_)
        have hq8:=OwB.snoc hq8
        by_cases hF : 4000 < (w ++ [34]).length
        ·have dF : decide ((((w ++ [34]).length : Nat) : Int) > 4000) = true:=tT
         rw [hful hF]
         refine za (w ++ [34]).length hq8.view (List.length_map _) ?_; refine zR dF ?_
         exact z2 rfl rfl rfl rfl hq8o
        ·have dF : decide ((((w ++ [34]).length : Nat) : Int) > 4000) = false:=tF
         refine za (w ++ [34]).length hq8.view (List.length_map _) ?_; refine zS dF ?_; refine zW (r:=k + 1) tO tO ?_
         exact zV (k + 1,v8) rfl ⟨by omega,by show OwB H0 H8 v8 (zj (t.take i) ++ zL one true (r.take (k + 1))); rw [hu2]; exact hq8,hq8o,by show (zj (t.take i) ++ zL one true (r.take (k + 1))).length ≤ 4001; rw [hu2]; omega,fun _=>by show (zj (t.take i) ++ zL one true (r.take (k + 1))).length ≤ 4000; rw [hu2]; omega⟩ (by show _ < _; omega)
      | false=>
       have hfq : zAR one f = zu f:=by unfold zAR; rw [if_neg (by rw [← hq]; decide)]; exact (zCA hq.symm).symm
       refine zB ?_
       have hbl : u.length ≤ 4003:=by first | omega | (simp only [List.length_append,List.length_cons,List.length_nil]; omega)
       refine zBA (fun z : Nat × AV=>[(11,zAI z.1),(8,AV.str f),(4,z.2),(6,zAI i),(0,va),(7,zAI k),(9,.bool false)]) (fun z H7=>z.1 ≤ f.length ∧ OwB H0 H7 z.2 (u ++ zu (f.take z.1)) ∧ Old H0 H7 ∧ (u ++ zu (f.take z.1)).length ≤ 4003) (fun z=>f.length - z.1) (0,v3) rfl ⟨Nat.zero_le _,by show OwB H0 H3 v3 (u ++ []); rw [List.append_nil]; exact hB3,hO3,by show (u ++ [] : Fld).length ≤ 4003; rw [List.append_nil]; exact hbl⟩ (fun z H7 hz=>?_)
       obtain ⟨j,v7⟩:=z
       obtain ⟨hj,hB7,hO7,hl7⟩:=hz
       dsimp only at hj hB7 hl7 ⊢
       obtain ⟨w,hw⟩ : ∃ w,u ++ zu (f.take j) = w:=⟨_,rfl⟩
       rw [hw] at hB7 hl7
       have hwm : (w.map zA).length = w.length:=List.length_map _
       by_cases hlj : j < f.length
       ·have dlj : decide (((j : Nat) : Int) < ((f.length : Nat) : Int)) = true:=tT
        by_cases hwl : w.length ≤ 4000
        ·have dw : decide (((w.length : Nat) : Int) ≤ 4000) = true:=tT
         obtain ⟨c,hc⟩ : ∃ c,f[j]? = some c:=⟨f[j],List.getElem?_eq_getElem hlj⟩
         have hen:=zAf hc
         have hwn : u ++ zu (f.take (j + 1)) = w ++ (if c = 34 then [34,34] else [c]):=by rw [hen,← hw]; simp only [List.append_assoc]
         by_cases h34 : c = 34
         ·rw [if_pos h34] at hwn
          refine zR dlj ?_; refine za w.length hB7.view hwm ?_; refine zC ?_; refine zR dw ?_; refine zi (i:=j) rfl hc ?_; refine zK (vs':=[zA c]) rfl rfl ?_; refine zN (H0:=H0) (ys:=[zA c]) (hB7.push _) (hO7.push _) (zD) (by decide) (by simp only [List.length_map,List.length_append,List.length_cons,List.length_nil,List.length_singleton]; omega) (by simp) (fun v8 H8 hq8 hq8o _ _=>?_)
          have hq8:=OwB.snoc hq8
          refine zi (i:=j) rfl hc ?_; refine zR (zb (d:=34) h34) ?_; refine zK (vs':=[AV.int IntKind.u8 34]) rfl rfl ?_; refine zN (H0:=H0) (ys:=[zA 34]) (hq8.push _) (hq8o.push _) (zD) (by decide) (by simp only [List.length_map,List.length_append,List.length_cons,List.length_nil,List.length_singleton]; omega) (by simp) (fun v9 H9 hq9 hq9o _ _=>?_)
          have hq9:=OwB.snoc hq9
          refine zW (r:=j + 1) tO tO ?_
          exact zV (j + 1,v9) rfl ⟨by omega,by rw [hwn]; subst h34; rw [List.append_assoc] at hq9; exact hq9,hq9o,by rw [hwn,List.length_append]; simp only [List.length_cons,List.length_nil]; omega⟩ (by show _ < _; omega)
         ·rw [if_neg h34] at hwn
          refine zR dlj ?_; refine za w.length hB7.view hwm ?_; refine zC ?_; refine zR dw ?_; refine zi (i:=j) rfl hc ?_; refine zK (vs':=[zA c]) rfl rfl ?_; refine zN (H0:=H0) (ys:=[zA c]) (hB7.push _) (hO7.push _) (zD) (by decide) (by simp only [List.length_map,List.length_append,List.length_cons,List.length_nil,List.length_singleton]; omega) (by simp) (fun v8 H8 hq8 hq8o _ _=>?_)
          have hq8:=OwB.snoc hq8
          refine zi (i:=j) rfl hc ?_; refine zS (zF (d:=34) h34) ?_; refine zW (r:=j + 1) tO tO ?_
          exact zV (j + 1,v8) rfl ⟨by omega,by rw [hwn]; exact hq8,hq8o,by rw [hwn,List.length_append]; simp only [List.length_cons,List.length_nil]; omega⟩ (by show _ < _; omega)
        ·have dw : decide (((w.length : Nat) : Int) ≤ 4000) = false:=tF
         have hej:=zCW f j
         rw [hful (by rw [hfq]; have:=congrArg List.length hw; simp only [List.length_append,List.length_cons,List.length_nil] at this ⊢; omega)]
         have d8 : decide (((w.length : Nat) : Int) > 4000) = true:=tT
         refine zR dlj ?_; refine za w.length hB7.view hwm ?_; refine zC ?_; refine zS dw ?_; refine zB ?_; refine za w.length hB7.view hwm ?_; refine zR d8 ?_
         exact z2 rfl rfl rfl rfl hO7
       ·have ej : j = f.length:=by omega
        subst ej
        have dlj : decide (((f.length : Nat) : Int) < ((f.length : Nat) : Int)) = false:=tF
        rw [List.take_length] at hw
        have hall : u ++ zAR one f = w:=by rw [hfq,← hw]; try simp only [List.append_assoc,List.cons_append,List.nil_append]
        rw [hall] at hful hu2
        by_cases hF : 4000 < (w).length
        ·have dF : decide ((((w).length : Nat) : Int) > 4000) = true:=tT
         rw [hful hF]
         refine zS dlj ?_; refine zB ?_; refine zB ?_; refine zB ?_; refine za w.length hB7.view hwm ?_; refine zR dF ?_
         exact z2 rfl rfl rfl rfl hO7
        ·have dF : decide ((((w).length : Nat) : Int) > 4000) = false:=tF
         refine zS dlj ?_; refine zB ?_; refine zB ?_; refine zB ?_; refine za w.length hB7.view hwm ?_; refine zS dF ?_; refine zW (r:=k + 1) tO tO ?_
         exact zV (k + 1,v7) rfl ⟨by omega,by show OwB H0 H7 v7 (zj (t.take i) ++ zL one true (r.take (k + 1))); rw [hu2]; exact hB7,hO7,by show (zj (t.take i) ++ zL one true (r.take (k + 1))).length ≤ 4001; rw [hu2]; omega,fun _=>by show (zj (t.take i) ++ zL one true (r.take (k + 1))).length ≤ 4000; rw [hu2]; omega⟩ (by show _ < _; omega)
   ·rw [if_neg hk0] at hu2 hful
    have dk : decide (((k : Nat) : Int) > 0) = true:=tT
    refine zR dk ?_; refine zK (vs':=[AV.int IntKind.u8 44]) rfl rfl ?_; refine zN (H0:=H0) (ys:=[zA 44]) (hB3.push _) (hO3.push _) (zD) (by decide) (by simp only [List.length_map,List.length_append,List.length_cons,List.length_nil,List.length_singleton]; omega) (by simp) (fun v4 H4 hq4 hq4o _ _=>?_)
    have hq4:=OwB.snoc hq4
    by_cases he : f = []
    ·have hfe : (f == ([] : Fld)) = true:=tE he
     have hq0 : (((r.length : Nat) : Int) == 1) = ((decide (f = []) && one) || (f.take 0).any zBZ):=by rw [hone2,decide_eq_true he]; cases one <;> rfl
     refine zR hfe ?_; refine zEO i x hv rfl hx ?_; refine zB7 x (by rw [hxo.cells]; rfl) ?_; refine zAY r.length hxo (by simp) ?_; refine zC ?_; refine zBA (fun z : Nat × Bool=>[(10,zAI z.1),(8,AV.str f),(6,zAI i),(0,va),(7,zAI k),(9,.bool z.2),(4,v4)]) (fun z H5=>H4 = H5 ∧ z.1 ≤ f.length ∧ z.2 = ((decide (f = []) && one) || (f.take z.1).any zBZ)) (fun z=>f.length - z.1) (0,(((r.length : Nat) : Int) == 1)) rfl ⟨rfl,Nat.zero_le _,hq0⟩ (fun z H5 hz=>?_)
     obtain ⟨j,q⟩:=z
     obtain ⟨hH5,hj,hq⟩:=hz
     dsimp only at hH5 hj hq ⊢
     subst hH5
     by_cases hlj : j < f.length
     ·have dlj : decide (((j : Nat) : Int) < ((f.length : Nat) : Int)) = true:=tT
      obtain ⟨c,hc⟩ : ∃ c,f[j]? = some c:=⟨f[j],List.getElem?_eq_getElem hlj⟩
      have han:=zCm hc
      rcases zBT c with ⟨c1,hb⟩ | ⟨c1,c2,hb⟩ | ⟨c1,c2,c3,hb⟩ | ⟨c1,c2,c3,c4,hb⟩ | ⟨c1,c2,c3,c4,hb⟩
      ·refine zR dlj ?_; refine zi (i:=j) rfl hc ?_; refine zR (zb (d:=44) c1) ?_; refine zC ?_; refine zC ?_; refine zC ?_; refine zC ?_; refine zC ?_; refine zC ?_; refine zW (r:=j + 1) tO tO ?_
       exact zV (j + 1,true) rfl ⟨rfl,by omega,by rw [han,hb]; simp⟩ (by show _ < _; omega)
      ·refine zR dlj ?_; refine zi (i:=j) rfl hc ?_; refine zS (zF (d:=44) c1) ?_; refine zi (i:=j) rfl hc ?_; refine zB ?_; refine zR (zb (d:=34) c2) ?_; refine zC ?_; refine zC ?_; refine zC ?_; refine zC ?_; refine zW (r:=j + 1) tO tO ?_
       exact zV (j + 1,true) rfl ⟨rfl,by omega,by rw [han,hb]; simp⟩ (by show _ < _; omega)
      ·refine zR dlj ?_; refine zi (i:=j) rfl hc ?_; refine zS (zF (d:=44) c1) ?_; refine zi (i:=j) rfl hc ?_; refine zB ?_; refine zS (zF (d:=34) c2) ?_; refine zi (i:=j) rfl hc ?_; refine zB ?_; refine zR (zb (d:=10) c3) ?_; refine zC ?_; refine zC ?_; refine zW (r:=j + 1) tO tO ?_
       exact zV (j + 1,true) rfl ⟨rfl,by omega,by rw [han,hb]; simp⟩ (by show _ < _; omega)
      ·refine zR dlj ?_; refine zi (i:=j) rfl hc ?_; refine zS (zF (d:=44) c1) ?_; refine zi (i:=j) rfl hc ?_; refine zB ?_; refine zS (zF (d:=34) c2) ?_; refine zi (i:=j) rfl hc ?_; refine zB ?_; refine zS (zF (d:=10) c3) ?_; refine zi (i:=j) rfl hc ?_; refine zB ?_; refine zR (zb (d:=13) c4) ?_; refine zW (r:=j + 1) tO tO ?_
       exact zV (j + 1,true) rfl ⟨rfl,by omega,by rw [han,hb]; simp⟩ (by show _ < _; omega)
      ·refine zR dlj ?_; refine zi (i:=j) rfl hc ?_; refine zS (zF (d:=44) c1) ?_; refine zi (i:=j) rfl hc ?_; refine zB ?_; refine zS (zF (d:=34) c2) ?_; refine zi (i:=j) rfl hc ?_; refine zB ?_; refine zS (zF (d:=10) c3) ?_; refine zi (i:=j) rfl hc ?_; refine zB ?_; refine zS (zF (d:=13) c4) ?_; refine zW (r:=j + 1) tO tO ?_
       exact zV (j + 1,q) rfl ⟨rfl,by omega,by rw [han,hb]; rw [hq,Bool.or_false]⟩ (by show _ < _; omega)
     ·have ej : j = f.length:=by omega
      subst ej
      have dlj : decide (((f.length : Nat) : Int) < ((f.length : Nat) : Int)) = false:=tF
      have hq:=hque hq
      refine zS dlj ?_
      cases q with
      | true=>
       refine zC ?_; refine zK (vs':=[AV.int IntKind.u8 34]) rfl rfl ?_; refine zN (H0:=H0) (ys:=[zA 34]) (hq4.push _) (hq4o.push _) (zD) (by decide) (by simp only [List.length_map,List.length_append,List.length_cons,List.length_nil,List.length_singleton]; omega) (by simp) (fun v5 H6 hq5 hq5o _ _=>?_)
       have hq5:=OwB.snoc hq5
       have hfq : zAR one f = 34 :: (zu f ++ [34]):=by unfold zAR; rw [if_pos hq.symm]
       have hbl : ((u ++ [44]) ++ [34]).length ≤ 4003:=by first | omega | (simp only [List.length_append,List.length_cons,List.length_nil]; omega)
       refine zBA (fun z : Nat × AV=>[(11,zAI z.1),(8,AV.str f),(4,z.2),(6,zAI i),(0,va),(7,zAI k),(9,.bool true)]) (fun z H7=>z.1 ≤ f.length ∧ OwB H0 H7 z.2 (((u ++ [44]) ++ [34]) ++ zu (f.take z.1)) ∧ Old H0 H7 ∧ (((u ++ [44]) ++ [34]) ++ zu (f.take z.1)).length ≤ 4003) (fun z=>f.length - z.1) (0,v5) rfl ⟨Nat.zero_le _,by show OwB H0 H6 v5 (((u ++ [44]) ++ [34]) ++ []); rw [List.append_nil]; exact hq5,hq5o,by show (((u ++ [44]) ++ [34]) ++ [] : Fld).length ≤ 4003; rw [List.append_nil]; exact hbl⟩ (fun z H7 hz=>?_)
       obtain ⟨j,v7⟩:=z
       obtain ⟨hj,hB7,hO7,hl7⟩:=hz
       dsimp only at hj hB7 hl7 ⊢
       obtain ⟨w,hw⟩ : ∃ w,((u ++ [44]) ++ [34]) ++ zu (f.take j) = w:=⟨_,rfl⟩
       rw [hw] at hB7 hl7
       have hwm : (w.map zA).length = w.length:=List.length_map _
       by_cases hlj : j < f.length
       ·have dlj : decide (((j : Nat) : Int) < ((f.length : Nat) : Int)) = true:=tT
        by_cases hwl : w.length ≤ 4000
        ·have dw : decide (((w.length : Nat) : Int) ≤ 4000) = true:=tT
         obtain ⟨c,hc⟩ : ∃ c,f[j]? = some c:=⟨f[j],List.getElem?_eq_getElem hlj⟩
         have hen:=zAf hc
         have hwn : ((u ++ [44]) ++ [34]) ++ zu (f.take (j + 1)) = w ++ (if c = 34 then [34,34] else [c]):=by rw [hen,← hw]; simp only [List.append_assoc]
         by_cases h34 : c = 34
         ·rw [if_pos h34] at hwn
          refine zR dlj ?_; refine za w.length hB7.view hwm ?_; refine zC ?_; refine zR dw ?_; refine zi (i:=j) rfl hc ?_; refine zK (vs':=[zA c]) rfl rfl ?_; refine zN (H0:=H0) (ys:=[zA c]) (hB7.push _) (hO7.push _) (zD) (by decide) (by simp only [List.length_map,List.length_append,List.length_cons,List.length_nil,List.length_singleton]; omega) (by simp) (fun v8 H8 hq8 hq8o _ _=>?_)
          have hq8:=OwB.snoc hq8
          refine zi (i:=j) rfl hc ?_; refine zR (zb (d:=34) h34) ?_; refine zK (vs':=[AV.int IntKind.u8 34]) rfl rfl ?_; refine zN (H0:=H0) (ys:=[zA 34]) (hq8.push _) (hq8o.push _) (zD) (by decide) (by simp only [List.length_map,List.length_append,List.length_cons,List.length_nil,List.length_singleton]; omega) (by simp) (fun v9 H9 hq9 hq9o _ _=>?_)
          have hq9:=OwB.snoc hq9
          refine zW (r:=j + 1) tO tO ?_
          exact zV (j + 1,v9) rfl ⟨by omega,by rw [hwn]; subst h34; rw [List.append_assoc] at hq9; exact hq9,hq9o,by rw [hwn,List.length_append]; simp only [List.length_cons,List.length_nil]; omega⟩ (by show _ < _; omega)
         ·rw [if_neg h34] at hwn
          refine zR dlj ?_; refine za w.length hB7.view hwm ?_; refine zC ?_; refine zR dw ?_; refine zi (i:=j) rfl hc ?_; refine zK (vs':=[zA c]) rfl rfl ?_; refine zN (H0:=H0) (ys:=[zA c]) (hB7.push _) (hO7.push _) (zD) (by decide) (by simp only [List.length_map,List.length_append,List.length_cons,List.length_nil,List.length_singleton]; omega) (by simp) (fun v8 H8 hq8 hq8o _ _=>?_)
          have hq8:=OwB.snoc hq8
          refine zi (i:=j) rfl hc ?_; refine zS (zF (d:=34) h34) ?_; refine zW (r:=j + 1) tO tO ?_
          exact zV (j + 1,v8) rfl ⟨by omega,by rw [hwn]; exact hq8,hq8o,by rw [hwn,List.length_append]; simp only [List.length_cons,List.length_nil]; omega⟩ (by show _ < _; omega)
        ·have dw : decide (((w.length : Nat) : Int) ≤ 4000) = false:=tF
         have hej:=zCW f j
         rw [hful (by rw [hfq]; have:=congrArg List.length hw; simp only [List.length_append,List.length_cons,List.length_nil] at this ⊢; omega)]
         refine zR dlj ?_; refine za w.length hB7.view hwm ?_; refine zC ?_; refine zS dw ?_; refine zC ?_; refine zK (vs':=[AV.int IntKind.u8 34]) rfl rfl ?_; refine zN (H0:=H0) (ys:=[zA 34]) (hB7.push _) (hO7.push _) (zD) (by decide) (by simp only [List.length_map,List.length_append,List.length_cons,List.length_nil,List.length_singleton]; omega) (by simp) (fun v8 H8 hq8 hq8o _ _=>?_)
         have hq8:=OwB.snoc hq8
         have d8 : decide ((((w ++ [34]).length : Nat) : Int) > 4000) = true:=tT (by rw [List.length_append]; omega)
         refine za (w ++ [34]).length hq8.view (List.length_map _) ?_; refine zR d8 ?_
         exact z2 rfl rfl rfl rfl hq8o
       ·have ej : j = f.length:=by omega
        subst ej
        have dlj : decide (((f.length : Nat) : Int) < ((f.length : Nat) : Int)) = false:=tF
        rw [List.take_length] at hw
        have hall : (u ++ [44]) ++ zAR one f = w ++ [34]:=by rw [hfq,← hw]; try simp only [List.append_assoc,List.cons_append,List.nil_append]
        rw [hall] at hful hu2
        refine zS dlj ?_; refine zB ?_; refine zB ?_; refine zC ?_; refine zK (vs':=[AV.int IntKind.u8 34]) rfl rfl ?_; refine zN (H0:=H0) (ys:=[zA 34]) (hB7.push _) (hO7.push _) (zD) (by decide) (by simp only [List.length_map,List.length_append,List.length_cons,List.length_nil,List.length_singleton]; omega) (by simp) (fun v8 H8 hq8 hq8o _ _=>?_)
        have hq8:=OwB.snoc hq8
        by_cases hF : 4000 < (w ++ [34]).length
        ·have dF : decide ((((w ++ [34]).length : Nat) : Int) > 4000) = true:=tT
         rw [hful hF]
         refine za (w ++ [34]).length hq8.view (List.length_map _) ?_; refine zR dF ?_
         exact z2 rfl rfl rfl rfl hq8o
        ·have dF : decide ((((w ++ [34]).length : Nat) : Int) > 4000) = false:=tF
         refine za (w ++ [34]).length hq8.view (List.length_map _) ?_; refine zS dF ?_; refine zW (r:=k + 1) tO tO ?_
         exact zV (k + 1,v8) rfl ⟨by omega,by show OwB H0 H8 v8 (zj (t.take i) ++ zL one true (r.take (k + 1))); rw [hu2]; exact hq8,hq8o,by show (zj (t.take i) ++ zL one true (r.take (k + 1))).length ≤ 4001; rw [hu2]; omega,fun _=>by show (zj (t.take i) ++ zL one true (r.take (k + 1))).length ≤ 4000; rw [hu2]; omega⟩ (by show _ < _; omega)
      | false=>
       have hfq : zAR one f = zu f:=by unfold zAR; rw [if_neg (by rw [← hq]; decide)]; exact (zCA hq.symm).symm
       refine zB ?_
       have hbl : (u ++ [44]).length ≤ 4003:=by first | omega | (simp only [List.length_append,List.length_cons,List.length_nil]; omega)
       refine zBA (fun z : Nat × AV=>[(11,zAI z.1),(8,AV.str f),(4,z.2),(6,zAI i),(0,va),(7,zAI k),(9,.bool false)]) (fun z H7=>z.1 ≤ f.length ∧ OwB H0 H7 z.2 ((u ++ [44]) ++ zu (f.take z.1)) ∧ Old H0 H7 ∧ ((u ++ [44]) ++ zu (f.take z.1)).length ≤ 4003) (fun z=>f.length - z.1) (0,v4) rfl ⟨Nat.zero_le _,by show OwB H0 H4 v4 ((u ++ [44]) ++ []); rw [List.append_nil]; exact hq4,hq4o,by show ((u ++ [44]) ++ [] : Fld).length ≤ 4003; rw [List.append_nil]; exact hbl⟩ (fun z H7 hz=>?_)
       obtain ⟨j,v7⟩:=z
       obtain ⟨hj,hB7,hO7,hl7⟩:=hz
       dsimp only at hj hB7 hl7 ⊢
       obtain ⟨w,hw⟩ : ∃ w,(u ++ [44]) ++ zu (f.take j) = w:=⟨_,rfl⟩
       rw [hw] at hB7 hl7
       have hwm : (w.map zA).length = w.length:=List.length_map _
       by_cases hlj : j < f.length
       ·have dlj : decide (((j : Nat) : Int) < ((f.length : Nat) : Int)) = true:=tT
        by_cases hwl : w.length ≤ 4000
        ·have dw : decide (((w.length : Nat) : Int) ≤ 4000) = true:=tT
         obtain ⟨c,hc⟩ : ∃ c,f[j]? = some c:=⟨f[j],List.getElem?_eq_getElem hlj⟩
         have hen:=zAf hc
         have hwn : (u ++ [44]) ++ zu (f.take (j + 1)) = w ++ (if c = 34 then [34,34] else [c]):=by rw [hen,← hw]; simp only [List.append_assoc]
         by_cases h34 : c = 34
         ·rw [if_pos h34] at hwn
          refine zR dlj ?_; refine za w.length hB7.view hwm ?_; refine zC ?_; refine zR dw ?_; refine zi (i:=j) rfl hc ?_; refine zK (vs':=[zA c]) rfl rfl ?_; refine zN (H0:=H0) (ys:=[zA c]) (hB7.push _) (hO7.push _) (zD) (by decide) (by simp only [List.length_map,List.length_append,List.length_cons,List.length_nil,List.length_singleton]; omega) (by simp) (fun v8 H8 hq8 hq8o _ _=>?_)
          have hq8:=OwB.snoc hq8
          refine zi (i:=j) rfl hc ?_; refine zR (zb (d:=34) h34) ?_; refine zK (vs':=[AV.int IntKind.u8 34]) rfl rfl ?_; refine zN (H0:=H0) (ys:=[zA 34]) (hq8.push _) (hq8o.push _) (zD) (by decide) (by simp only [List.length_map,List.length_append,List.length_cons,List.length_nil,List.length_singleton]; omega) (by simp) (fun v9 H9 hq9 hq9o _ _=>?_)
          have hq9:=OwB.snoc hq9
          refine zW (r:=j + 1) tO tO ?_
          exact zV (j + 1,v9) rfl ⟨by omega,by rw [hwn]; subst h34; rw [List.append_assoc] at hq9; exact hq9,hq9o,by rw [hwn,List.length_append]; simp only [List.length_cons,List.length_nil]; omega⟩ (by show _ < _; omega)
         ·rw [if_neg h34] at hwn
          refine zR dlj ?_; refine za w.length hB7.view hwm ?_; refine zC ?_; refine zR dw ?_; refine zi (i:=j) rfl hc ?_; refine zK (vs':=[zA c]) rfl rfl ?_; refine zN (H0:=H0) (ys:=[zA c]) (hB7.push _) (hO7.push _) (zD) (by decide) (by simp only [List.length_map,List.length_append,List.length_cons,List.length_nil,List.length_singleton]; omega) (by simp) (fun v8 H8 hq8 hq8o _ _=>?_)
          have hq8:=OwB.snoc hq8
          refine zi (i:=j) rfl hc ?_; refine zS (zF (d:=34) h34) ?_; refine zW (r:=j + 1) tO tO ?_
          exact zV (j + 1,v8) rfl ⟨by omega,by rw [hwn]; exact hq8,hq8o,by rw [hwn,List.length_append]; simp only [List.length_cons,List.length_nil]; omega⟩ (by show _ < _; omega)
        ·have dw : decide (((w.length : Nat) : Int) ≤ 4000) = false:=tF
         have hej:=zCW f j
         rw [hful (by rw [hfq]; have:=congrArg List.length hw; simp only [List.length_append,List.length_cons,List.length_nil] at this ⊢; omega)]
         have d8 : decide (((w.length : Nat) : Int) > 4000) = true:=tT
         refine zR dlj ?_; refine za w.length hB7.view hwm ?_; refine zC ?_; refine zS dw ?_; refine zB ?_; refine za w.length hB7.view hwm ?_; refine zR d8 ?_
         exact z2 rfl rfl rfl rfl hO7
       ·have ej : j = f.length:=by omega
        subst ej
        have dlj : decide (((f.length : Nat) : Int) < ((f.length : Nat) : Int)) = false:=tF
        rw [List.take_length] at hw
        have hall : (u ++ [44]) ++ zAR one f = w:=by rw [hfq,← hw]; try simp only [List.append_assoc,List.cons_append,List.nil_append]
        rw [hall] at hful hu2
        by_cases hF : 4000 < (w).length
        ·have dF : decide ((((w).length : Nat) : Int) > 4000) = true:=tT
         rw [hful hF]
         refine zS dlj ?_; refine zB ?_; refine zB ?_; refine zB ?_; refine za w.length hB7.view hwm ?_; refine zR dF ?_
         exact z2 rfl rfl rfl rfl hO7
        ·have dF : decide ((((w).length : Nat) : Int) > 4000) = false:=tF
         refine zS dlj ?_; refine zB ?_; refine zB ?_; refine zB ?_; refine za w.length hB7.view hwm ?_; refine zS dF ?_; refine zW (r:=k + 1) tO tO ?_
         exact zV (k + 1,v7) rfl ⟨by omega,by show OwB H0 H7 v7 (zj (t.take i) ++ zL one true (r.take (k + 1))); rw [hu2]; exact hB7,hO7,by show (zj (t.take i) ++ zL one true (r.take (k + 1))).length ≤ 4001; rw [hu2]; omega,fun _=>by show (zj (t.take i) ++ zL one true (r.take (k + 1))).length ≤ 4000; rw [hu2]; omega⟩ (by show _ < _; omega)
    ·have hfe : (f == ([] : Fld)) = false:=tN he
     have hq0 : false = ((decide (f = []) && one) || (f.take 0).any zBZ):=by rw [decide_eq_false he]; rfl
     refine zS hfe ?_; refine zB ?_; refine zBA (fun z : Nat × Bool=>[(10,zAI z.1),(8,AV.str f),(6,zAI i),(0,va),(7,zAI k),(9,.bool z.2),(4,v4)]) (fun z H5=>H4 = H5 ∧ z.1 ≤ f.length ∧ z.2 = ((decide (f = []) && one) || (f.take z.1).any zBZ)) (fun z=>f.length - z.1) (0,false) rfl ⟨rfl,Nat.zero_le _,hq0⟩ (fun z H5 hz=>?_)
     obtain ⟨j,q⟩:=z
     obtain ⟨hH5,hj,hq⟩:=hz
     dsimp only at hH5 hj hq ⊢
     subst hH5
     by_cases hlj : j < f.length
     ·have dlj : decide (((j : Nat) : Int) < ((f.length : Nat) : Int)) = true:=tT
      obtain ⟨c,hc⟩ : ∃ c,f[j]? = some c:=⟨f[j],List.getElem?_eq_getElem hlj⟩
      have han:=zCm hc
      rcases zBT c with ⟨c1,hb⟩ | ⟨c1,c2,hb⟩ | ⟨c1,c2,c3,hb⟩ | ⟨c1,c2,c3,c4,hb⟩ | ⟨c1,c2,c3,c4,hb⟩
      ·refine zR dlj ?_; refine zi (i:=j) rfl hc ?_; refine zR (zb (d:=44) c1) ?_; refine zC ?_; refine zC ?_; refine zC ?_; refine zC ?_; refine zC ?_; refine zC ?_; refine zW (r:=j + 1) tO tO ?_
       exact zV (j + 1,true) rfl ⟨rfl,by omega,by rw [han,hb]; simp⟩ (by show _ < _; omega)
      ·refine zR dlj ?_; refine zi (i:=j) rfl hc ?_; refine zS (zF (d:=44) c1) ?_; refine zi (i:=j) rfl hc ?_; refine zB ?_; refine zR (zb (d:=34) c2) ?_; refine zC ?_; refine zC ?_; refine zC ?_; refine zC ?_; refine zW (r:=j + 1) tO tO ?_
       exact zV (j + 1,true) rfl ⟨rfl,by omega,by rw [han,hb]; simp⟩ (by show _ < _; omega)
      ·refine zR dlj ?_; refine zi (i:=j) rfl hc ?_; refine zS (zF (d:=44) c1) ?_; refine zi (i:=j) rfl hc ?_; refine zB ?_; refine zS (zF (d:=34) c2) ?_; refine zi (i:=j) rfl hc ?_; refine zB ?_; refine zR (zb (d:=10) c3) ?_; refine zC ?_; refine zC ?_; refine zW (r:=j + 1) tO tO ?_
       exact zV (j + 1,true) rfl ⟨rfl,by omega,by rw [han,hb]; simp⟩ (by show _ < _; omega)
      ·refine zR dlj ?_; refine zi (i:=j) rfl hc ?_; refine zS (zF (d:=44) c1) ?_; refine zi (i:=j) rfl hc ?_; refine zB ?_; refine zS (zF (d:=34) c2) ?_; refine zi (i:=j) rfl hc ?_; refine zB ?_; refine zS (zF (d:=10) c3) ?_; refine zi (i:=j) rfl hc ?_; refine zB ?_; refine zR (zb (d:=13) c4) ?_; refine zW (r:=j + 1) tO tO ?_
       exact zV (j + 1,true) rfl ⟨rfl,by omega,by rw [han,hb]; simp⟩ (by show _ < _; omega)
      ·refine zR dlj ?_; refine zi (i:=j) rfl hc ?_; refine zS (zF (d:=44) c1) ?_; refine zi (i:=j) rfl hc ?_; refine zB ?_; refine zS (zF (d:=34) c2) ?_; refine zi (i:=j) rfl hc ?_; refine zB ?_; refine zS (zF (d:=10) c3) ?_; refine zi (i:=j) rfl hc ?_; refine zB ?_; refine zS (zF (d:=13) c4) ?_; refine zW (r:=j + 1) tO tO ?_
       exact zV (j + 1,q) rfl ⟨rfl,by omega,by rw [han,hb]; rw [hq,Bool.or_false]⟩ (by show _ < _; omega)
     ·have ej : j = f.length:=by omega
      subst ej
      have dlj : decide (((f.length : Nat) : Int) < ((f.length : Nat) : Int)) = false:=tF
      have hq:=hque hq
      refine zS dlj ?_
      cases q with
      | true=>
       refine zC ?_; refine zK (vs':=[AV.int IntKind.u8 34]) rfl rfl ?_; refine zN (H0:=H0) (ys:=[zA 34]) (hq4.push _) (hq4o.push _) (zD) (by decide) (by simp only [List.length_map,List.length_append,List.length_cons,List.length_nil,List.length_singleton]; omega) (by simp) (fun v5 H6 hq5 hq5o _ _=>?_)
       have hq5:=OwB.snoc hq5
       have hfq : zAR one f = 34 :: (zu f ++ [34]):=by unfold zAR; rw [if_pos hq.symm]
       have hbl : ((u ++ [44]) ++ [34]).length ≤ 4003:=by first | omega | (simp only [List.length_append,List.length_cons,List.length_nil]; omega)
       refine zBA (fun z : Nat × AV=>[(11,zAI z.1),(8,AV.str f),(4,z.2),(6,zAI i),(0,va),(7,zAI k),(9,.bool true)]) (fun z H7=>z.1 ≤ f.length ∧ OwB H0 H7 z.2 (((u ++ [44]) ++ [34]) ++ zu (f.take z.1)) ∧ Old H0 H7 ∧ (((u ++ [44]) ++ [34]) ++ zu (f.take z.1)).length ≤ 4003) (fun z=>f.length - z.1) (0,v5) rfl ⟨Nat.zero_le _,by show OwB H0 H6 v5 (((u ++ [44]) ++ [34]) ++ []); rw [List.append_nil]; exact hq5,hq5o,by show (((u ++ [44]) ++ [34]) ++ [] : Fld).length ≤ 4003; rw [List.append_nil]; exact hbl⟩ (fun z H7 hz=>?_)
       obtain ⟨j,v7⟩:=z
       obtain ⟨hj,hB7,hO7,hl7⟩:=hz
       dsimp only at hj hB7 hl7 ⊢
       obtain ⟨w,hw⟩ : ∃ w,((u ++ [44]) ++ [34]) ++ zu (f.take j) = w:=⟨_,rfl⟩
       rw [hw] at hB7 hl7
       have hwm : (w.map zA).length = w.length:=List.length_map _
       by_cases hlj : j < f.length
       ·have dlj : decide (((j : Nat) : Int) < ((f.length : Nat) : Int)) = true:=tT
        by_cases hwl : w.length ≤ 4000
        ·have dw : decide (((w.length : Nat) : Int) ≤ 4000) = true:=tT
         obtain ⟨c,hc⟩ : ∃ c,f[j]? = some c:=⟨f[j],List.getElem?_eq_getElem hlj⟩
         have hen:=zAf hc
         have hwn : ((u ++ [44]) ++ [34]) ++ zu (f.take (j + 1)) = w ++ (if c = 34 then [34,34] else [c]):=by rw [hen,← hw]; simp only [List.append_assoc]
         by_cases h34 : c = 34
         ·rw [if_pos h34] at hwn
          refine zR dlj ?_; refine za w.length hB7.view hwm ?_; refine zC ?_; refine zR dw ?_; refine zi (i:=j) rfl hc ?_; refine zK (vs':=[zA c]) rfl rfl ?_; refine zN (H0:=H0) (ys:=[zA c]) (hB7.push _) (hO7.push _) (zD) (by decide) (by simp only [List.length_map,List.length_append,List.length_cons,List.length_nil,List.length_singleton]; omega) (by simp) (fun v8 H8 hq8 hq8o _ _=>?_)
          have hq8:=OwB.snoc hq8
          refine zi (i:=j) rfl hc ?_; refine zR (zb (d:=34) h34) ?_; refine zK (vs':=[AV.int IntKind.u8 34]) rfl rfl ?_; refine zN (H0:=H0) (ys:=[zA 34]) (hq8.push _) (hq8o.push _) (zD) (by decide) (by simp only [List.length_map,List.length_append,List.length_cons,List.length_nil,List.length_singleton]; omega) (by simp) (fun v9 H9 hq9 hq9o _ _=>?_)
          have hq9:=OwB.snoc hq9
          refine zW (r:=j + 1) tO tO ?_
          exact zV (j + 1,v9) rfl ⟨by omega,by rw [hwn]; subst h34; rw [List.append_assoc] at hq9; exact hq9,hq9o,by rw [hwn,List.length_append]; simp only [List.length_cons,List.length_nil]; omega⟩ (by show _ < _; omega)
         ·rw [if_neg h34] at hwn
          refine zR dlj ?_; refine za w.length hB7.view hwm ?_; refine zC ?_; refine zR dw ?_; refine zi (i:=j) rfl hc ?_; refine zK (vs':=[zA c]) rfl rfl ?_; refine zN (H0:=H0) (ys:=[zA c]) (hB7.push _) (hO7.push _) (zD) (by decide) (by simp only [List.length_map,List.length_append,List.length_cons,List.length_nil,List.length_singleton]; omega) (by simp) (fun v8 H8 hq8 hq8o _ _=>?_)
          have hq8:=OwB.snoc hq8
          refine zi (i:=j) rfl hc ?_; refine zS (zF (d:=34) h34) ?_; refine zW (r:=j + 1) tO tO ?_
          exact zV (j + 1,v8) rfl ⟨by omega,by rw [hwn]; exact hq8,hq8o,by rw [hwn,List.length_append]; simp only [List.length_cons,List.length_nil]; omega⟩ (by show _ < _; omega)
        ·have dw : decide (((w.length : Nat) : Int) ≤ 4000) = false:=tF
         have hej:=zCW f j
         rw [hful (by rw [hfq]; have:=congrArg List.length hw; simp only [List.length_append,List.length_cons,List.length_nil] at this ⊢; omega)]
         refine zR dlj ?_; refine za w.length hB7.view hwm ?_; refine zC ?_; refine zS dw ?_; refine zC ?_; refine zK (vs':=[AV.int IntKind.u8 34]) rfl rfl ?_; refine zN (H0:=H0) (ys:=[zA 34]) (hB7.push _) (hO7.push _) (zD) (by decide) (by simp only [List.length_map,List.length_append,List.length_cons,List.length_nil,List.length_singleton]; omega) (by simp) (fun v8 H8 hq8 hq8o _ _=>?_)
         have hq8:=OwB.snoc hq8
         have d8 : decide ((((w ++ [34]).length : Nat) : Int) > 4000) = true:=tT (by rw [List.length_append]; omega)
         refine za (w ++ [34]).length hq8.view (List.length_map _) ?_; refine zR d8 ?_
         exact z2 rfl rfl rfl rfl hq8o
       ·have ej : j = f.length:=by omega
        subst ej
        have dlj : decide (((f.length : Nat) : Int) < ((f.length : Nat) : Int)) = false:=tF
        rw [List.take_length] at hw
        have hall : (u ++ [44]) ++ zAR one f = w ++ [34]:=by rw [hfq,← hw]; try simp only [List.append_assoc,List.cons_append,List.nil_append]
        rw [hall] at hful hu2
        refine zS dlj ?_; refine zB ?_; refine zB ?_; refine zC ?_; refine zK (vs':=[AV.int IntKind.u8 34]) rfl rfl ?_; refine zN (H0:=H0) (ys:=[zA 34]) (hB7.push _) (hO7.push _) (zD) (by decide) (by simp only [List.length_map,List.length_append,List.length_cons,List.length_nil,List.length_singleton]; omega) (by simp) (fun v8 H8 hq8 hq8o _ _=>?_)
        have hq8:=OwB.snoc hq8
        by_cases hF : 4000 < (w ++ [34]).length
        ·have dF : decide ((((w ++ [34]).length : Nat) : Int) > 4000) = true:=tT
         rw [hful hF]
         refine za (w ++ [34]).length hq8.view (List.length_map _) ?_; refine zR dF ?_
         exact z2 rfl rfl rfl rfl hq8o
        ·have dF : decide ((((w ++ [34]).length : Nat) : Int) > 4000) = false:=tF
         refine za (w ++ [34]).length hq8.view (List.length_map _) ?_; refine zS dF ?_; refine zW (r:=k + 1) tO tO ?_
         exact zV (k + 1,v8) rfl ⟨by omega,by show OwB H0 H8 v8 (zj (t.take i) ++ zL one true (r.take (k + 1))); rw [hu2]; exact hq8,hq8o,by show (zj (t.take i) ++ zL one true (r.take (k + 1))).length ≤ 4001; rw [hu2]; omega,fun _=>by show (zj (t.take i) ++ zL one true (r.take (k + 1))).length ≤ 4000; rw [hu2]; omega⟩ (by show _ < _; omega)
      | false=>
       have hfq : zAR one f = zu f:=by unfold zAR; rw [if_neg (by rw [← hq]; decide)]; exact (zCA hq.symm).symm
       refine zB ?_
       have hbl : (u ++ [44]).length ≤ 4003:=by first | omega | (simp only [List.length_append,List.length_cons,List.length_nil]; omega)
       refine zBA (fun z : Nat × AV=>[(11,zAI z.1),(8,AV.str f),(4,z.2),(6,zAI i),(0,va),(7,zAI k),(9,.bool false)]) (fun z H7=>z.1 ≤ f.length ∧ OwB H0 H7 z.2 ((u ++ [44]) ++ zu (f.take z.1)) ∧ Old H0 H7 ∧ ((u ++ [44]) ++ zu (f.take z.1)).length ≤ 4003) (fun z=>f.length - z.1) (0,v4) rfl ⟨Nat.zero_le _,by show OwB H0 H4 v4 ((u ++ [44]) ++ []); rw [List.append_nil]; exact hq4,hq4o,by show ((u ++ [44]) ++ [] : Fld).length ≤ 4003; rw [List.append_nil]; exact hbl⟩ (fun z H7 hz=>?_)
       obtain ⟨j,v7⟩:=z
       obtain ⟨hj,hB7,hO7,hl7⟩:=hz
       dsimp only at hj hB7 hl7 ⊢
       obtain ⟨w,hw⟩ : ∃ w,(u ++ [44]) ++ zu (f.take j) = w:=⟨_,rfl⟩
       rw [hw] at hB7 hl7
       have hwm : (w.map zA).length = w.length:=List.length_map _
       by_cases hlj : j < f.length
       ·have dlj : decide (((j : Nat) : Int) < ((f.length : Nat) : Int)) = true:=tT
        by_cases hwl : w.length ≤ 4000
        ·have dw : decide (((w.length : Nat) : Int) ≤ 4000) = true:=tT
         obtain ⟨c,hc⟩ : ∃ c,f[j]? = some c:=⟨f[j],List.getElem?_eq_getElem hlj⟩
         have hen:=zAf hc
         have hwn : (u ++ [44]) ++ zu (f.take (j + 1)) = w ++ (if c = 34 then [34,34] else [c]):=by rw [hen,← hw]; simp only [List.append_assoc]
         by_cases h34 : c = 34
         ·rw [if_pos h34] at hwn
          refine zR dlj ?_; refine za w.length hB7.view hwm ?_; refine zC ?_; refine zR dw ?_; refine zi (i:=j) rfl hc ?_; refine zK (vs':=[zA c]) rfl rfl ?_; refine zN (H0:=H0) (ys:=[zA c]) (hB7.push _) (hO7.push _) (zD) (by decide) (by simp only [List.length_map,List.length_append,List.length_cons,List.length_nil,List.length_singleton]; omega) (by simp) (fun v8 H8 hq8 hq8o _ _=>?_)
          have hq8:=OwB.snoc hq8
          refine zi (i:=j) rfl hc ?_; refine zR (zb (d:=34) h34) ?_; refine zK (vs':=[AV.int IntKind.u8 34]) rfl rfl ?_; refine zN (H0:=H0) (ys:=[zA 34]) (hq8.push _) (hq8o.push _) (zD) (by decide) (by simp only [List.length_map,List.length_append,List.length_cons,List.length_nil,List.length_singleton]; omega) (by simp) (fun v9 H9 hq9 hq9o _ _=>?_)
          have hq9:=OwB.snoc hq9
          refine zW (r:=j + 1) tO tO ?_
          exact zV (j + 1,v9) rfl ⟨by omega,by rw [hwn]; subst h34; rw [List.append_assoc] at hq9; exact hq9,hq9o,by rw [hwn,List.length_append]; simp only [List.length_cons,List.length_nil]; omega⟩ (by show _ < _; omega)
         ·rw [if_neg h34] at hwn
          refine zR dlj ?_; refine za w.length hB7.view hwm ?_; refine zC ?_; refine zR dw ?_; refine zi (i:=j) rfl hc ?_; refine zK (vs':=[zA c]) rfl rfl ?_; refine zN (H0:=H0) (ys:=[zA c]) (hB7.push _) (hO7.push _) (zD) (by decide) (by simp only [List.length_map,List.length_append,List.length_cons,List.length_nil,List.length_singleton]; omega) (by simp) (fun v8 H8 hq8 hq8o _ _=>?_)
          have hq8:=OwB.snoc hq8
          refine zi (i:=j) rfl hc ?_; refine zS (zF (d:=34) h34) ?_; refine zW (r:=j + 1) tO tO ?_
          exact zV (j + 1,v8) rfl ⟨by omega,by rw [hwn]; exact hq8,hq8o,by rw [hwn,List.length_append]; simp only [List.length_cons,List.length_nil]; omega⟩ (by show _ < _; omega)
        ·have dw : decide (((w.length : Nat) : Int) ≤ 4000) = false:=tF
         have hej:=zCW f j
         rw [hful (by rw [hfq]; have:=congrArg List.length hw; simp only [List.length_append,List.length_cons,List.length_nil] at this ⊢; omega)]
         have d8 : decide (((w.length : Nat) : Int) > 4000) = true:=tT
         refine zR dlj ?_; refine za w.length hB7.view hwm ?_; refine zC ?_; refine zS dw ?_; refine zB ?_; refine za w.length hB7.view hwm ?_; refine zR d8 ?_
         exact z2 rfl rfl rfl rfl hO7
       ·have ej : j = f.length:=by omega
        subst ej
        have dlj : decide (((f.length : Nat) : Int) < ((f.length : Nat) : Int)) = false:=tF
        rw [List.take_length] at hw
        have hall : (u ++ [44]) ++ zAR one f = w:=by rw [hfq,← hw]; try simp only [List.append_assoc,List.cons_append,List.nil_append]
        rw [hall] at hful hu2
        by_cases hF : 4000 < (w).length
        ·have dF : decide ((((w).length : Nat) : Int) > 4000) = true:=tT
         rw [hful hF]
         refine zS dlj ?_; refine zB ?_; refine zB ?_; refine zB ?_; refine za w.length hB7.view hwm ?_; refine zR dF ?_
         exact z2 rfl rfl rfl rfl hO7
        ·have dF : decide ((((w).length : Nat) : Int) > 4000) = false:=tF
         refine zS dlj ?_; refine zB ?_; refine zB ?_; refine zB ?_; refine za w.length hB7.view hwm ?_; refine zS dF ?_; refine zW (r:=k + 1) tO tO ?_
         exact zV (k + 1,v7) rfl ⟨by omega,by show OwB H0 H7 v7 (zj (t.take i) ++ zL one true (r.take (k + 1))); rw [hu2]; exact hB7,hO7,by show (zj (t.take i) ++ zL one true (r.take (k + 1))).length ≤ 4001; rw [hu2]; omega,fun _=>by show (zj (t.take i) ++ zL one true (r.take (k + 1))).length ≤ 4000; rw [hu2]; omega⟩ (by show _ < _; omega)
  ·have ek : k = r.length:=by omega
   subst ek
   have dlk : decide (((r.length : Nat) : Int) < ((r.length : Nat) : Int)) = false:=tF
   have hu5:=hu4 hrn0
   rw [List.take_length] at hB3 hu5
   obtain ⟨u,hu0⟩ : ∃ u,zj (t.take i) ++ zL one true r = u:=⟨_,rfl⟩
   rw [hu0] at hB3 hu5 hnx
   refine zS dlk ?_; refine zK (vs':=[AV.int IntKind.u8 10]) rfl rfl ?_; refine zN (H0:=H0) (ys:=[zA 10]) (hB3.push _) (hO3.push _) zD (by decide) (by simp only [List.length_map,List.length_append,List.length_cons,List.length_nil,List.length_singleton]; omega) (by simp) (fun v4 H4 hq4 hq4o _ _=>?_)
   have hq4:=OwB.snoc hq4
   refine zW (r:=i + 1) tO tO ?_
   exact zV (i + 1,v4) rfl ⟨by omega,by show OwB H0 H4 v4 (zj (t.take (i + 1))); rw [hnx]; exact hq4,hq4o,by show (zj (t.take (i + 1))).length ≤ 4001; rw [hnx,List.length_append]; simp only [List.length_cons,List.length_nil]; omega⟩ (by show _ < _; omega)
 ·have ei : i = t.length:=by omega
  subst ei
  have dlt : decide (((t.length : Nat) : Int) < ((t.length : Nat) : Int)) = false:=tF
  rw [List.take_length] at hB2 hu
  have hwm : ((zj t).map zA).length = (zj t).length:=List.length_map _
  by_cases hF : 4000 < (zj t).length
  ·have dF : decide ((((zj t).length : Nat) : Int) > 4000) = true:=tT
   rw [zIQ hne hF]
   refine zAY t.length hv hxl ?_; refine zS dlt ?_; refine za (zj t).length hB2.view hwm ?_; refine zR dF ?_
   exact z2 rfl rfl rfl rfl hO2
  ·have dF : decide ((((zj t).length : Nat) : Int) > 4000) = false:=tF
   rw [rw_ok hne hF]
   refine zAY t.length hv hxl ?_; refine zS dlt ?_; refine za (zj t).length hB2.view hwm ?_; refine zS dF ?_; refine zHz hB2 ?_
   exact z2 rfl rfl rfl rfl hO2
set_option maxHeartbeats 8000000 in
theorem zJu (va : AV) (t : List (List Fld)) (ha : zCU va t) (hl : t.length ≤ 1048576) (hrl : ∀ r ∈ t,r.length ≤ 1048576) (hfl : ∀ r ∈ t,∀ f ∈ r,f.length ≤ 1048576) (H : Heap) : EFun C GT zA5 [va] H (rwV t) H:=by
 have key:=fun hne=>zJt (C:=C) (GT:=GT) (H0:=H) va t ha hl hrl hfl hne (.lst (some true) 0 []) H (.inl ⟨rfl,rfl⟩) (Old.refl H)
 obtain ⟨xs,hv,hxl,hxr⟩:=ha
 clear hfl
 refine zEd ?_; refine zBA (fun i : Nat=>[(5,zAI i),(0,va),(4,.lst (some true) 0 [])]) (fun i H2=>H2 = H ∧ i ≤ t.length ∧ ∀ j r,j < i → t[j]? = some r → r ≠ []) (fun i=>t.length - i) 0 rfl ⟨rfl,Nat.zero_le _,fun j r h=>absurd h (Nat.not_lt_zero _)⟩ (fun i H2 hi=>?_)
 obtain ⟨rfl,hi,hall⟩:=hi
 by_cases hlt : i < t.length
 ·have dlt : decide (((i : Nat) : Int) < ((t.length : Nat) : Int)) = true:=tT
  obtain ⟨r,hr⟩ : ∃ r,t[i]? = some r:=⟨t[i],List.getElem?_eq_getElem hlt⟩
  obtain ⟨x,hx,hxo⟩:=hxr i r hr
  by_cases h0 : r = []
  ·have d0 : (((r.length : Nat) : Int) == 0) = true:=by rw [h0]; rfl
   rw [zJD (by rw [hr,h0])]
   refine zAY t.length hv hxl ?_; refine zR dlt ?_; refine zEO i x hv rfl hx ?_; refine zB7 x (by rw [hxo.cells]; rfl) ?_; refine zAY r.length hxo (by simp) ?_; refine zR d0 ?_
   exact sRr
  ·have d0 : (((r.length : Nat) : Int) == 0) = false:=tN (fun e=>h0 (List.length_eq_zero_iff.1 tO))
   refine zAY t.length hv hxl ?_; refine zR dlt ?_; refine zEO i x hv rfl hx ?_; refine zB7 x (by rw [hxo.cells]; rfl) ?_; refine zAY r.length hxo (by simp) ?_; refine zS d0 ?_; refine zW (r:=i + 1) tO tO ?_; refine zV (i + 1) rfl ⟨rfl,by omega,fun j q hj hq=>?_⟩ (by show _ < _; omega)
   by_cases e : j = i
   ·subst e
    rw [hr] at hq
    cases hq
    exact h0
   ·exact hall j q tO hq
 ·have ei : i = t.length:=by omega
  subst ei
  have dlt : decide (((t.length : Nat) : Int) < ((t.length : Nat) : Int)) = false:=tF
  refine zAY t.length hv hxl ?_; refine zS dlt ?_
  exact zKB rfl (key (fun r hr=>by
   obtain ⟨j,hj,e⟩:=List.getElem_of_mem hr
   exact hall j r hj (by rw [List.getElem?_eq_getElem hj,e]))) rfl
end
end Go.AM
set_option maxRecDepth 20000
namespace Go.AM
section
variable {C : CSpec} {GT : Nat → Option AV}
structure SRd where
 i : Nat
 rv : AV
 row : List Fld
 ov : AV
 out : List (List Fld)
def headR (s : List UInt8) (i : Nat) (row : List Fld) (out : List (List Fld)) : CR:=if s = [] ∧ row ≠ [] then .ok (out ++ [row]) else mach s i 0 [] row out
structure InvRd (H0 : Heap) (s : List UInt8) (M : CR) (st : SRd) (H : Heap) : Prop where
 le : st.i ≤ s.length
 row : Owns H0 H st.rv 1 (st.row.map AV.str)
 out : Owns H0 H st.ov 1 (st.out.map zI4)
 old : Old H0 H
 m : headR (s.drop st.i) st.i st.row st.out = M
 nr : st.row.length ≤ st.i + 1
 nr2 : st.i < s.length → st.row.length ≤ st.i
 no : st.out.length ≤ st.i
theorem zJE {H0 H : Heap} {v w : AV} {r : List Fld} {u : List UInt8} (h : Owns H0 H v 1 (u.map zA)) (g : Owns H0 H w 1 (r.map AV.str)) : ∀ b,w.blk = some b → v.blk ≠ some b:=fun b hb=>
 h.apart g (fun x y hx hy e=>by
  obtain ⟨c,_,rfl⟩:=List.mem_map.1 hx
  obtain ⟨t,_,rfl⟩:=List.mem_map.1 hy
  cases e) hb
theorem zJF {H0 H : Heap} {v w : AV} {r : List (List Fld)} {u : List UInt8} (h : Owns H0 H v 1 (u.map zA)) (g : Owns H0 H w 1 (r.map zI4)) : ∀ b,w.blk = some b → v.blk ≠ some b:=fun b hb=>
 h.apart g (fun x y hx hy e=>by
  obtain ⟨c,_,rfl⟩:=List.mem_map.1 hx
  obtain ⟨t,_,rfl⟩:=List.mem_map.1 hy
  unfold zI4 zA at e
  cases t <;> cases e) hb
structure SF where
 i : Nat
 fv : AV
 f : Fld
structure InvF (H0 : Heap) (s : List UInt8) (M : CR) (i0 : Nat) (row : List Fld) (out : List (List Fld)) (rv ov : AV) (x : SF) (H : Heap) : Prop where
 ge : i0 ≤ x.i
 le : x.i ≤ s.length
 f : Owns H0 H x.fv 1 (x.f.map zA)
 row : Owns H0 H rv 1 (row.map AV.str)
 out : Owns H0 H ov 1 (out.map zI4)
 old : Old H0 H
 nf : x.f.length ≤ x.i
theorem InvF.push {H0 : Heap} {s : List UInt8} {M : CR} {i0 : Nat} {row : List Fld} {out : List (List Fld)} {rv ov : AV} {x : SF} {H H' : Heap} (h : InvF H0 s M i0 row out rv ov x H) {v' : AV} {c : UInt8} {j : Nat} (hv : Owns H0 H' v' 1 (x.f.map zA ++ [zA c])) (hO : Old H0 H') (hfr : ∀ c y,x.fv.blk ≠ some c → H[c]? = some y → H'[c]? = some y) (h1 : x.i < j) (h2 : j ≤ s.length) :
  InvF H0 s M i0 row out rv ov ⟨j,v',x.f ++ [c]⟩ H':=
 ⟨Nat.le_trans h.ge (Nat.le_of_lt h1),h2,by simpa using hv,h.row.after (zJE h.f h.row) hfr,h.out.after (zJF h.f h.out) hfr,hO,by simp only [List.length_append,List.length_cons,List.length_nil]; have:=h.nf; omega⟩
end
end Go.AM
set_option maxRecDepth 20000
namespace Go.AM
section
variable {C : CSpec} {GT : Nat → Option AV}
end
end Go.AM
set_option maxRecDepth 20000
namespace Go.AM
def Bnd (t : List (List Fld)) : Prop:=t.length ≤ 1048576 ∧ (∀ r ∈ t,r.length ≤ 1048576) ∧ ∀ r ∈ t,∀ f ∈ r,f.length ≤ 1048576
def WrC (C : CSpec) : Prop:=∀ va t H,zCV H va t → Bnd t → C zBk [va] H (cwV t) H
def RcC (C : CSpec) : Prop:=∀ va t H,zCU va t → Bnd t → C zA4 [va] H (rwV t) H
theorem zHC (t : List (List Fld)) : zD0 t = 0 ∨ zD0 t = 3 ∨ zD0 t = 4:=by
 unfold zD0
 split
 ·exact .inr (.inl rfl)
 ·split
  ·exact .inr (.inr rfl)
  ·exact .inl rfl
section
variable {C : CSpec} {GT : Nat → Option AV}
set_option maxHeartbeats 4000000 in
theorem zEk (hW : WrC C) (hR : RcC C) (hE0 : ∀ H,C zo [.nili,zAI 0] H (.bool true) H) (hE : ∀ (n : Nat) H,C zo [zH3 n,zAI n] H (.bool true) H) (va : AV) (t : List (List Fld)) (ha : zCU va t) (hb : Bnd t) (H : Heap) : EFun C GT zAa [va] H (.bool true) H:=by
 have hr:=fun H=>hR va t H ha hb
 have hw:=fun H=>hW va t H (zCV.of ha H) hb
 unfold rwV at hr
 unfold cwV at hw
 have hss : (zID t == zID t) = true:=beq_self_eq_true _
 refine zEd ?_
 generalize zID t = u at hr hw hss
 rcases zHC t with e | e | e
 ·rw [e] at hr hw
  clear hW hR
  refine zM (hr _) ?_; refine zE6 rfl ?_; refine zE6 rfl ?_; refine zM (hw _) ?_; refine zE6 rfl ?_; refine zE6 rfl ?_; refine zM (hE0 _) ?_; refine zC ?_; refine zC ?_
  exact zJh (v0:=.bool (u == u)) (by rw [hss]) rfl rfl rfl rfl (Old.refl _)
 ·rw [e] at hr hw
  have he:=hE 3
  clear hW hR hE hE0
  refine zM (hr _) ?_; refine zE6 rfl ?_; refine zE6 rfl ?_; refine zM (hw _) ?_; refine zE6 rfl ?_; refine zE6 rfl ?_; refine zM (he _) ?_; refine zC ?_; refine zC ?_
  exact zJh (v0:=.bool (u == u)) (by rw [hss]) rfl rfl rfl rfl (Old.refl _)
 ·rw [e] at hr hw
  have he:=hE 4
  clear hW hR hE hE0
  refine zM (hr _) ?_; refine zE6 rfl ?_; refine zE6 rfl ?_; refine zM (hw _) ?_; refine zE6 rfl ?_; refine zE6 rfl ?_; refine zM (he _) ?_; refine zC ?_; refine zC ?_
  exact zJh (v0:=.bool (u == u)) (by rw [hss]) rfl rfl rfl rfl (Old.refl _)
theorem zCV.one {H0 : Heap} {b : Nat} {x : AV} {r : List Fld} {q : Option Bool} (hb : H0[b]? = some (.row 1 [x])) (hx : zCI x 1 (r.map AV.str)) : zCV H0 (.sl q b 1 0 1) [r]:=by
 refine ⟨rfl,fun K hk=>zHy hk,fun i r' hr=>?_⟩
 match i,hr with
 | 0,hr=>
  cases hr
  exact ⟨x,hx,fun H K hO hk=>sAt ⟨by omega,by omega⟩ (hk _ fun K2 h2=>zIy 0 x x rfl (by rw [hO.2 _ (zg hb).1]; exact hb) rfl (by rw [hx.cells]; rfl) h2)⟩
 | i + 1,hr=>cases hr
end
end Go.AM
namespace Go.AM
section
variable {C : CSpec} {GT : Nat → Option AV}
end
end Go.AM
