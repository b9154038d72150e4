/- Several texts of mine in one (Cvw, Cvq, Cw3, Pre, Gcw). Own work. -/
import Derived.Test.YtmiknjjfgndddaaDoorGErrAm27
import Derived.Test.YtmiknjjfgndddaaDoorGAm33Cw2
import Derived.Test.YtmiknjjfgndddaaDoorGAm22Fc
import Derived.Test.YtmiknjjfgndddaaDoorLdQ3
import Derived.Test.YtmiknjjfgndddaaDoorFk
set_option linter.all false
set_option maxRecDepth 20000
namespace Go.AM
section
variable {C : CSpec} {GT : Nat → Option AV}
theorem zHU {c : UInt8} {n : Nat} (hn : n < 256) : ((c.toNat : Int) == (n : Int)) = (c == UInt8.ofNat n):=by
 rw [Bool.eq_iff_iff,beq_iff_eq,beq_iff_eq]
 constructor
 ·intro h
  have : c.toNat = n:=by omega
  rw [← this]; simp
 ·intro h
  subst h
  rw [UInt8.toNat_ofNat']; omega
theorem zKa {c : UInt8} (n : Nat) (hn : n < 256) (h : ((c.toNat : Int) == (n : Int)) = true) : c = UInt8.ofNat n:=by rw [zHU hn,beq_iff_eq] at h; exact h
theorem zKs {c : UInt8} (n : Nat) (hn : n < 256) (h : ((c.toNat : Int) == (n : Int)) = false) : c ≠ UInt8.ofNat n:=by rw [zHU hn,beq_eq_false_iff_ne] at h; exact h
theorem zKP (a b : UInt8) (c : UInt8) (s : List UInt8) : [a,b].isPrefixOf (c :: s) = (c == a && s.head? == some b):=by
 cases s with
 | nil=>simp [List.isPrefixOf]
 | cons d s=>
  simp only [List.isPrefixOf,List.head?_cons,Bool.and_true]
  rw [Bool.eq_iff_iff]
  simp only [Bool.and_eq_true,beq_iff_eq,Option.some.injEq]
  exact ⟨fun h=>⟨h.1.symm,h.2.symm⟩,fun h=>⟨h.1.symm,h.2.symm⟩⟩
theorem zKQ (hP : ∀ s p H,C zf [.str s,.str p] H (.bool (p.isPrefixOf s)) H) (s : List UInt8) (H : Heap) (hs : s ≠ []) : EFun C GT zDu [.str s] H (.bool (endsL s)) H:=by
 cases s with
 | nil=>exact absurd rfl hs
 | cons c s=>
  refine zH8 (i:=0) rfl rfl ?_; refine zAL (fun h=>?_) (fun h=>?_)
  ·have hc : (c == 44) = true:=by rw [← h]; exact (zHU (n:=44) tO).symm
   have e : endsL (c :: s) = true:=by show (c == 44 || _) = true; rw [hc]; rfl
   rw [e]
   refine zO ?_; refine zO ?_; refine zO ?_
   exact sRr
  ·have hc : (c == 44) = false:=by rw [← h]; exact (zHU (n:=44) tO).symm
   refine zH8 (i:=0) rfl rfl ?_; refine zD ?_; refine zAL (fun h2=>?_) (fun h2=>?_)
   ·have hc2 : (c == 10) = true:=by rw [← h2]; exact (zHU (n:=10) tO).symm
    have e : endsL (c :: s) = true:=by show (c == 44 || (c == 10 || _)) = true; rw [hc2]; simp
    rw [e]
    refine zO ?_
    exact sRr
   ·have hc2 : (c == 10) = false:=by rw [← h2]; exact (zHU (n:=10) tO).symm
    refine zB (hP _ _ _) ?_; refine zD ?_
    have e : endsL (c :: s) = [13,10].isPrefixOf (c :: s):=by
     show (c == 44 || (c == 10 || (c == 13 && s.head? == some 10))) = _
     rw [hc,hc2,zKP]; rfl
    rw [e]
    exact sRr
structure SRd where
 i : Nat
 rv : AV
 row : List Fld
 ov : AV
 out : List (List Fld)
def zKR (s : List UInt8) (st : SRd) : Fr:=[(5,st.ov),(0,.str s),(6,st.rv),(7,nV st.i)]
def zEi (s : List UInt8) (i : Nat) (row : List Fld) (out : List (List Fld)) : CR:=if s = [] ∧ row ≠ [] then .ok (out ++ [row]) else mach s i 0 [] row out
structure InvRd (H0 : Heap) (s : List UInt8) (M : CR) (st : SRd) (H : Heap) : Prop where
 le : st.i ≤ s.length
 row : Owns H0 H st.rv 1 (st.row.map AV.str)
 out : Owns H0 H st.ov 1 (st.out.map zB8)
 old : Old H0 H
 m : zEi (s.drop st.i) st.i st.row st.out = M
 nr : st.row.length ≤ st.i + 1
 nr2 : st.i < s.length → st.row.length ≤ st.i
 no : st.out.length ≤ st.i
theorem zJh {H0 H : Heap} {v w : AV} {r : List Fld} {u : List UInt8} (h : Owns H0 H v 1 (u.map zG)) (g : Owns H0 H w 1 (r.map AV.str)) : ∀ b,w.blk = some b → v.blk ≠ some b:=fun b hb=>
 h.apart g (fun x y hx hy e=>by
  obtain ⟨c,_,rfl⟩:=List.mem_map.1 hx
  obtain ⟨t,_,rfl⟩:=List.mem_map.1 hy
  cases e) hb
theorem zJi {H0 H : Heap} {v w : AV} {r : List (List Fld)} {u : List UInt8} (h : Owns H0 H v 1 (u.map zG)) (g : Owns H0 H w 1 (r.map zB8)) : ∀ b,w.blk = some b → v.blk ≠ some b:=fun b hb=>
 h.apart g (fun x y hx hy e=>by
  obtain ⟨c,_,rfl⟩:=List.mem_map.1 hx
  obtain ⟨t,_,rfl⟩:=List.mem_map.1 hy
  unfold zB8 zG at e
  cases t <;> cases e) hb
theorem zBM {H0 H : Heap} {v w : AV} {r : List (List Fld)} {u : List Fld} (h : Owns H0 H v 1 (u.map AV.str)) (g : Owns H0 H w 1 (r.map zB8)) : ∀ b,w.blk = some b → v.blk ≠ some b:=fun b hb=>
 h.apart g (fun x y hx hy e=>by
  obtain ⟨c,_,rfl⟩:=List.mem_map.1 hx
  obtain ⟨t,_,rfl⟩:=List.mem_map.1 hy
  unfold zB8 at e
  cases t <;> cases e) hb
theorem zDz (s : List UInt8) (n : Nat) (h : n ≤ s.length) : zAO none (.str s) (some (.int .i64 (n : Int))) none = some (.str (s.drop n)):=by
 simp only [zAO,zBX,aHi,aLo]
 rw [if_pos ⟨by omega,by omega⟩]
 simp
theorem zEj {s : List UInt8} {i : Nat} (h : i < s.length) : s.drop i ≠ []:=by
 intro e
 rw [List.drop_eq_nil_iff] at e
 omega
theorem zIr (hN : ∀ s H,s ≠ [] → C zAC [.str s] H (.bool (endsL s)) H) {K : Post} {H0 H : Heap} {s : List UInt8} {M : CR} {i st : Nat} {f : Fld} {row : List Fld} {out : List (List Fld)} {fv rv ov : AV}
  (h4 : s.length ≤ 4000) (hi : i ≤ s.length) (hf : Owns H0 H fv 1 (f.map zG)) (hr : Owns H0 H rv 1 (row.map AV.str)) (ho : Owns H0 H ov 1 (out.map zB8)) (hO : Old H0 H) (hnr : row.length ≤ i + 1) (hno : out.length ≤ i) (hnr2 : i < s.length → row.length ≤ i) (hno2 : i = s.length → out.length + 1 ≤ i)
  (hM : mach (s.drop i) i st f row out = M) (h2 : st ≠ 2) (hend : i = s.length → st ≠ 0) (hfin : st ≠ 3 → i = s.length ∨ endsL (s.drop i) = true)
  (hret : ∀ fr' H',M = .bad i → get fr' 2 = .lst (some true) 0 [] → get fr' 3 = nV i → get fr' 4 = zHZ 2 → Old H0 H' → K .ret fr' H')
  (hnext : ∀ e fr' H' st',(e = .normal ∨ e = .exit 1) → zE fr' [5,0,6,7] = zKR s st' → (i < st'.i ∨ (st'.i = i ∧ i = s.length)) → InvRd H0 s M st' H' → K e fr' H') :
  EW C GT (zAX.rest.body.behind 2) K [(0,.str s),(7,nV i),(5,ov),(8,fv),(6,rv)] H:=by
 refine zIR hf ?_; refine zIe (.str f) hr hO rfl rfl tO (by simp only [List.length_map]; omega) (fun s0 H1 rv2 H2 hr2 hO2 _ hfr=>?_)
 have ho2 : Owns H0 H2 ov 1 (out.map zB8):=ho.after (zBM hr ho) hfr
 rw [show row.map AV.str ++ [AV.str f] = (row ++ [f]).map AV.str by simp] at hr2
 clear hfr hr ho hf
 have hwr : (row ++ [f]) ≠ []:=by simp
 refine zAL (fun he=>?_) (fun he=>?_)
 ·have he : i = s.length:=by
   have : ((i : Int) == (s.length : Int)) = true:=he
   rw [beq_iff_eq] at this; omega
  have h0:=hend he
  rw [zB7 tO,if_neg h2,if_neg (fun h=>h0 h.1)] at hM
  refine zGa (H0:=H0) ho2 hr2 (by simp) (fun b hb=>zBM hr2 ho2 b hb) hO2 tO (by simp only [List.length_map]; omega) (fun s3 H3 ov3 H4 ho4 hO4 _=>?_)
  refine hnext .normal _ H4 ⟨i,.lst (some true) 0 [],[],ov3,out ++ [row ++ [f]]⟩ (.inl rfl) rfl (.inr ⟨rfl,he⟩) ⟨hi,Owns.nil _ _ _, ?_,hO4, ?_,by simp,by simp, ?_⟩
  ·simp only [List.map_append,List.map_cons,List.map_nil]
   exact ho4
  ·simp only
   unfold zEi
   rw [if_neg (by simp)]
   exact (by rw [zB7 tO,if_neg tO,if_pos ⟨rfl,rfl⟩]; exact hM)
  ·simp only [List.length_append,List.length_cons,List.length_nil]
   omega
 ·have he : i < s.length:=by
   have : ((i : Int) == (s.length : Int)) = false:=he
   rw [beq_eq_false_iff_ne] at this; omega
  obtain ⟨c,hc⟩ : ∃ c,s[i]? = some c:=⟨s[i],List.getElem?_eq_getElem he⟩
  rw [zEb hc,if_neg h2] at hM
  refine zH8 (i:=i) rfl hc ?_; refine zAL (fun h=>?_) (fun h=>?_)
  ·have h : c = 44:=zKa 44 tO h
   rw [if_neg (by rw [h]; decide),if_neg (fun x=>by rw [h] at x; exact absurd x.1 (by decide)),if_pos h] at hM
   refine zAl (r:=i + 1) rfl tO ?_; refine zAL (fun he2=>?_) (fun he2=>?_)
   ·have he2 : i + 1 = s.length:=by
     have : (((i + 1 : Nat) : Int) == (s.length : Int)) = true:=he2
     rw [beq_iff_eq] at this; omega
    refine zIe (.str []) hr2 hO2 rfl rfl tO (by simp only [List.length_map,List.length_append,List.length_cons,List.length_nil]; omega) (fun s3 H3 rv4 H4 hr4 hO4 _ hfr4=>?_)
    refine hnext (.exit 1) _ H4 ⟨i + 1,rv4,row ++ [f] ++ [[]],ov,out⟩ (.inr rfl) rfl (.inl (by simp only; omega)) ⟨by simp only; omega, ?_,ho2.after (zBM hr2 ho2) hfr4,hO4, ?_, ?_,fun x=>by simp only at x; omega, ?_⟩
    ·simp only [List.map_append,List.map_cons,List.map_nil] at hr4 ⊢
     exact hr4
    ·simp only
     unfold zEi
     rw [if_pos ⟨List.drop_eq_nil_of_le tO,by simp⟩]
     rw [zB7 tO,if_neg tO,if_neg (fun x=>hwr x.2)] at hM
     exact hM
    ·simp only [List.length_append,List.length_cons,List.length_nil]
     have:=hnr2 he; omega
    ·simp only; omega
   ·have he2 : i + 1 < s.length:=by
     have : (((i + 1 : Nat) : Int) == (s.length : Int)) = false:=he2
     rw [beq_eq_false_iff_ne] at this; omega
    refine hnext (.exit 1) _ H2 ⟨i + 1,rv2,row ++ [f],ov,out⟩ (.inr rfl) rfl (.inl (by simp only; omega)) ⟨by simp only; omega,hr2,ho2,hO2, ?_, ?_, ?_, ?_⟩
    ·simp only
     unfold zEi
     rw [if_neg (fun x=>zEj he2 x.1)]
     exact hM
    ·simp only [List.length_append,List.length_cons,List.length_nil]
     have:=hnr2 he; omega
    ·intro _
     simp only [List.length_append,List.length_cons,List.length_nil]
     have:=hnr2 he; omega
    ·simp only; omega
  ·have h : c ≠ 44:=zKs 44 tO h
   refine zt (zDz s i hi) ?_; refine zB (hN (s.drop i) _ (zEj he)) ?_
   have hea:=zId hc
   refine zAL (fun hb=>?_) (fun hb=>?_)
   ·have hb : endsL (s.drop i) = false:=by
     have : (!endsL (s.drop i)) = true:=hb
     simpa using this
    rw [hea] at hb
    simp only [Bool.or_eq_false_iff,Bool.and_eq_false_imp,beq_eq_false_iff_ne,beq_iff_eq] at hb
    have h3 : st = 3:=by
     apply Classical.not_not.1
     intro x
     rcases hfin x with y | y
     ·omega
     ·rw [hea] at y
      simp only [Bool.or_eq_true,Bool.and_eq_true,beq_iff_eq] at y
      rcases y with y | y | y
      ·exact h y
      ·exact hb.2.1 y
      ·exact hb.2.2 y.1 y.2
    rw [if_neg hb.2.1,if_neg (fun x=>hb.2.2 x.1 x.2),if_neg h,if_pos (.inl h3)] at hM
    exact hret _ _ hM.symm rfl rfl rfl hO2
   ·have hb : endsL (s.drop i) = true:=by
     have : (!endsL (s.drop i)) = false:=hb
     simpa using this
    rw [hea] at hb
    simp only [Bool.or_eq_true,Bool.and_eq_true,beq_iff_eq] at hb
    refine zH8 (i:=i) rfl hc ?_; refine zAL (fun h13=>?_) (fun h13=>?_)
    ·have h13 : c = 13:=zKa 13 tO h13
     have hnx : s[i + 1]? = some 10:=by
      rcases hb with x | x | x
      ·exact absurd x h
      ·rw [h13] at x; exact absurd x (by decide)
      ·exact x.2
     have hlt2:=(zg hnx).1
     rw [if_neg (by rw [h13]; decide),if_pos ⟨h13,hnx⟩] at hM
     refine zAl (r:=i + 2) rfl tO ?_; refine zGa (H0:=H0) ho2 hr2 (by simp) (fun b hb=>zBM hr2 ho2 b hb) hO2 tO (by simp only [List.length_map]; omega) (fun s3 H3 ov3 H4 ho4 hO4 _=>?_)
     refine hnext .normal _ H4 ⟨i + 2,.lst (some true) 0 [],[],ov3,out ++ [row ++ [f]]⟩ (.inl rfl) rfl (.inl (by simp only; omega)) ⟨by simp only; omega,Owns.nil _ _ _, ?_,hO4, ?_,by simp,by simp, ?_⟩
     ·simp only [List.map_append,List.map_cons,List.map_nil]
      exact ho4
     ·simp only
      unfold zEi
      rw [if_neg (by simp)]
      exact hM
     ·simp only [List.length_append,List.length_cons,List.length_nil]
      omega
    ·have h13 : c ≠ 13:=zKs 13 tO h13
     have h10 : c = 10:=by
      rcases hb with x | x | x
      ·exact absurd x h
      ·exact x
      ·exact absurd x.1 h13
     rw [if_pos h10] at hM
     refine zAl (r:=i + 1) rfl tO ?_; refine zGa (H0:=H0) ho2 hr2 (by simp) (fun b hb=>zBM hr2 ho2 b hb) hO2 tO (by simp only [List.length_map]; omega) (fun s3 H3 ov3 H4 ho4 hO4 _=>?_)
     refine hnext .normal _ H4 ⟨i + 1,.lst (some true) 0 [],[],ov3,out ++ [row ++ [f]]⟩ (.inl rfl) rfl (.inl (by simp only; omega)) ⟨by simp only; omega,Owns.nil _ _ _, ?_,hO4, ?_,by simp,by simp, ?_⟩
     ·simp only [List.map_append,List.map_cons,List.map_nil]
      exact ho4
     ·simp only
      unfold zEi
      rw [if_neg (by simp)]
      exact hM
     ·simp only [List.length_append,List.length_cons,List.length_nil]
      omega
structure SF where
 i : Nat
 fv : AV
 f : Fld
def stU (f : Fld) : Nat:=if f = [] then 0 else 1
structure InvF (H0 : Heap) (s : List UInt8) (M : CR) (i0 : Nat) (row : List Fld) (out : List (List Fld)) (rv ov : AV) (x : SF) (H : Heap) : Prop where
 ge : i0 ≤ x.i
 le : x.i ≤ s.length
 f : Owns H0 H x.fv 1 (x.f.map zG)
 row : Owns H0 H rv 1 (row.map AV.str)
 out : Owns H0 H ov 1 (out.map zB8)
 old : Old H0 H
 nf : x.f.length ≤ x.i
theorem InvF.push {H0 : Heap} {s : List UInt8} {M : CR} {i0 : Nat} {row : List Fld} {out : List (List Fld)} {rv ov : AV} {x : SF} {H H' : Heap} (h : InvF H0 s M i0 row out rv ov x H) {v' : AV} {c : UInt8} {j : Nat} (hv : Owns H0 H' v' 1 (x.f.map zG ++ [zG c])) (hO : Old H0 H') (hfr : ∀ c y,x.fv.blk ≠ some c → H[c]? = some y → H'[c]? = some y) (h1 : x.i < j) (h2 : j ≤ s.length) :
  InvF H0 s M i0 row out rv ov ⟨j,v',x.f ++ [c]⟩ H':=
 ⟨Nat.le_trans h.ge (Nat.le_of_lt h1),h2,by simpa using hv,h.row.after (zJh h.f h.row) hfr,h.out.after (zJi h.f h.out) hfr,hO,by simp only [List.length_append,List.length_cons,List.length_nil]; have:=h.nf; omega⟩
theorem zHV (hN : ∀ s H,s ≠ [] → C zAC [.str s] H (.bool (endsL s)) H) {K : Post} {H0 H : Heap} {s : List UInt8} {M : CR} {x : SRd} (h4 : s.length ≤ 4000) (hi : InvRd H0 s M x H)
  (hbad : ∀ fr' H' p,M = .bad p → get fr' 2 = .lst (some true) 0 [] → get fr' 3 = nV p → get fr' 4 = zHZ 2 → Old H0 H' → K .ret fr' H')
  (hdone : ∀ fr' H' x',M = (if x'.row = [] then .ok x'.out else .ok (x'.out ++ [x'.row])) → InvRd H0 s M x' H' → zE fr' [6,5] = [(6,x'.rv),(5,x'.ov)] → K (.exit 0) fr' H') :
  EW C GT zAX (zIL [5,0,6,7] (zKR s) (InvRd H0 s M) (fun y=>s.length - y.i) x K) (zKR s x) H:=by
 have hi':=hi
 obtain ⟨i,rv,row,ov,out⟩:=x
 obtain ⟨hle,hr,ho,hO,hm,hnr,hnr2,hno⟩:=hi
 simp only at hle hr ho hm hnr hnr2 hno
 dsimp only [zKR]
 refine zAL (fun hlt=>?_) (fun hlt=>?_)
 ·simp only [decide_eq_true_eq,Int.ofNat_lt] at hlt
  obtain ⟨c,hc⟩ : ∃ c,s[i]? = some c:=⟨s[i],List.getElem?_eq_getElem hlt⟩
  have hm0 : mach (s.drop i) i 0 [] row out = M:=by
   unfold zEi at hm
   rwa [if_neg (fun x=>zEj hlt x.1)] at hm
  have tail : ∀ (j st : Nat) (f : Fld) (fv : AV) (H2 : Heap),InvF H0 s M i row out rv ov ⟨j,fv,f⟩ H2 → (i < j ∨ j < s.length) → mach (s.drop j) j st f row out = M → st ≠ 2 → (j = s.length → st ≠ 0) → (st ≠ 3 → j = s.length ∨ endsL (s.drop j) = true) →
    EW C GT (zAX.rest.body.behind 2) (zCS 1 [5,0,6,7] (zIL [5,0,6,7] (zKR s) (InvRd H0 s M) (fun y=>s.length - y.i) ⟨i,rv,row,ov,out⟩ K)) [(0,.str s),(7,nV j),(5,ov),(8,fv),(6,rv)] H2:=fun j st f fv H2 I hj hM h2 hend hfin=>by
   have hge:=I.ge
   have hle2:=I.le
   simp only at hge hle2
   refine zIr hN h4 hle2 I.f I.row I.out I.old tO tO (fun h=>by have:=hnr2 hlt; omega) (fun h=>by omega) hM h2 hend hfin (fun fr' H' hb g2 g3 g4 hO'=>hbad fr' H' j hb g2 g3 g4 hO') (fun e fr' H' st' he hfr hl hinv=>?_)
   have fin : nextP [5,0,6,7] (zKR s) (InvRd H0 s M) (fun y=>s.length - y.i) ⟨i,rv,row,ov,out⟩ (zE fr' [5,0,6,7]) H':=by
    rw [hfr]
    refine zBN st' rfl hinv ?_
    have:=hinv.le
    simp only
    omega
   rcases he with rfl | rfl
   ·exact fin
   ·exact fin
  refine zH8 (i:=i) rfl hc ?_; refine zAL (fun hq=>?_) (fun hq=>?_)
  ·have hq : c = 34:=zKa 34 tO hq
   rw [zEb hc,if_neg tO,if_neg (by rw [hq]; decide),if_neg (fun x=>by rw [hq] at x; exact absurd x.1 (by decide)),if_neg (by rw [hq]; decide),if_neg tO,if_pos hq] at hm0
   refine zAl (r:=i + 1) rfl tO ?_; refine zFH (fun y : SF=>[(7,nV y.i),(0,.str s),(5,ov),(8,y.fv),(6,rv)]) (fun y H'=>InvF H0 s M i row out rv ov y H' ∧ i < y.i ∧ mach (s.drop y.i) y.i 2 y.f row out = M) (fun y=>s.length - y.i) ⟨i + 1,.lst (some true) 0 [],[]⟩ rfl
    ⟨⟨by simp only; omega,by simp only; omega,Owns.nil _ _ _,hr,ho,hO,by simp⟩,by simp only; omega,hm0⟩ (fun ⟨j,fv,f⟩ H1 ⟨I,hij,hM⟩=>?_)
   have hjle:=I.le
   have hfo:=I.f
   have hHo:=I.old
   have hnf:=I.nf
   simp only at hjle hij hM hfo hnf
   dsimp only
   refine zAL (fun he=>?_) (fun he=>?_)
   ·have he : j = s.length:=by
     have : ((j : Int) == (s.length : Int)) = true:=he
     rw [beq_iff_eq] at this; omega
    rw [zB7 tO,if_pos rfl] at hM
    exact hbad _ _ j hM.symm rfl rfl rfl hHo
   ·have he : j < s.length:=by
     have : ((j : Int) == (s.length : Int)) = false:=he
     rw [beq_eq_false_iff_ne] at this; omega
    obtain ⟨d,hd⟩ : ∃ d,s[j]? = some d:=⟨s[j],List.getElem?_eq_getElem he⟩
    rw [zEb hd,if_pos rfl] at hM
    refine zH8 (i:=j) rfl hd ?_; refine zAL (fun hq2=>?_) (fun hq2=>?_)
    ·have hq2 : d = 34:=zKa 34 tO hq2
     rw [if_pos hq2] at hM
     have I2 : InvF H0 s M i row out rv ov ⟨j + 1,fv,f⟩ H1:=⟨by simp only; omega,by simp only; omega,I.f,I.row,I.out,I.old,by simp only; omega⟩
     refine zAl (r:=j + 1) rfl tO ?_; refine zAL (fun he2=>?_) (fun he2=>?_)
     ·have he2 : j + 1 = s.length:=by
       have : (((j + 1 : Nat) : Int) == (s.length : Int)) = true:=he2
       rw [beq_iff_eq] at this; omega
      rw [if_neg (by rw [List.getElem?_eq_none tO]; simp)] at hM
      refine zO ?_; refine zO ?_
      exact tail (j + 1) 3 f fv H1 I2 (.inl tO) hM tO (fun _=>by omega) (fun h=>absurd rfl h)
     ·have he2 : j + 1 < s.length:=by
       have : (((j + 1 : Nat) : Int) == (s.length : Int)) = false:=he2
       rw [beq_eq_false_iff_ne] at this; omega
      obtain ⟨d2,hd2⟩ : ∃ d2,s[j + 1]? = some d2:=⟨s[j + 1],List.getElem?_eq_getElem he2⟩
      refine zH8 (i:=j + 1) rfl hd2 ?_; refine zD ?_; refine zAL (fun hq3=>?_) (fun hq3=>?_)
      ·have hq3 : d2 ≠ 34:=by
        intro e; subst e; exact absurd hq3 (by decide)
       rw [if_neg (by rw [hd2]; simpa using hq3)] at hM
       exact tail (j + 1) 3 f fv H1 I2 (.inl tO) hM tO (fun _=>by omega) (fun h=>absurd rfl h)
      ·have hq3 : d2 = 34:=by
        have h : ((d2.toNat : Int) == (34 : Int)) = true:=by
         have : ((d2.toNat : Int) != (34 : Int)) = false:=hq3
         simpa using this
        exact zKa 34 tO h
       rw [if_pos (by rw [hd2,hq3])] at hM
       refine zH8 (i:=j + 1) rfl hd2 ?_; refine zIe (zG d2) hfo hHo rfl rfl tO (by simp only [List.length_map]; omega) (fun s3 H3 fv2 H4 hf4 hO4 _ hfr4=>?_)
       refine zAl (r:=j + 2) rfl tO ?_; refine zBN (SF.mk (j + 2) fv2 (f ++ [d2])) rfl ⟨I.push hf4 hO4 hfr4 (by simp only; omega) tO,by simp only; omega, ?_⟩ (by simp only; omega)
       simp only
       rw [hq3]; exact hM
    ·have hq2 : d ≠ 34:=zKs 34 tO hq2
     rw [if_neg hq2] at hM
     refine zH8 (i:=j) rfl hd ?_; refine zIe (zG d) hfo hHo rfl rfl tO (by simp only [List.length_map]; omega) (fun s3 H3 fv2 H4 hf4 hO4 _ hfr4=>?_)
     refine zAl (r:=j + 1) rfl tO ?_
     exact zBN (SF.mk (j + 1) fv2 (f ++ [d])) rfl ⟨I.push hf4 hO4 hfr4 (by simp only; omega) tO,by simp only; omega,hM⟩ (by simp only; omega)
  ·have hq : c ≠ 34:=zKs 34 tO hq
   refine zFH (fun y : SF=>[(7,nV y.i),(0,.str s),(8,y.fv),(5,ov),(6,rv)]) (fun y H'=>InvF H0 s M i row out rv ov y H' ∧ (y.f = [] → y.i = i) ∧ mach (s.drop y.i) y.i (stU y.f) y.f row out = M) (fun y=>s.length - y.i) ⟨i,.lst (some true) 0 [],[]⟩ rfl
    ⟨⟨Nat.le_refl _,hle,Owns.nil _ _ _,hr,ho,hO,by simp⟩,fun _=>rfl,hm0⟩ (fun ⟨j,fv,f⟩ H1 ⟨I,hfi,hM⟩=>?_)
   have hjle:=I.le
   have hjge:=I.ge
   have hfo:=I.f
   have hHo:=I.old
   have hnf:=I.nf
   simp only at hjle hjge hfi hM hfo hnf
   dsimp only
   have hst2 : stU f ≠ 2:=by unfold stU; split <;> omega
   have hst3 : stU f ≠ 3:=by unfold stU; split <;> omega
   refine zAL (fun he=>?_) (fun he=>?_)
   ·simp only [decide_eq_true_eq,Int.ofNat_lt] at he
    obtain ⟨d,hd⟩ : ∃ d,s[j]? = some d:=⟨s[j],List.getElem?_eq_getElem he⟩
    have hea:=zId hd
    refine zt (zDz s j hjle) ?_; refine zB (hN (s.drop j) _ (zEj he)) ?_; refine zO ?_; refine zAL (fun hb=>?_) (fun hb=>?_)
    ·have hb : endsL (s.drop j) = false:=by
      have : (!endsL (s.drop j)) = true:=hb
      simpa using this
     rw [hea] at hb
     simp only [Bool.or_eq_false_iff,Bool.and_eq_false_imp,beq_eq_false_iff_ne,beq_iff_eq] at hb
     rw [zEb hd,if_neg hst2,if_neg hb.2.1,if_neg (fun x=>hb.2.2 x.1 x.2),if_neg hb.1] at hM
     refine zH8 (i:=j) rfl hd ?_; refine zAL (fun hq2=>?_) (fun hq2=>?_)
     ·have hq2 : d = 34:=zKa 34 tO hq2
      have hfne : f ≠ []:=by
       intro e
       have:=hfi e
       subst this
       rw [hc] at hd; cases hd
       exact hq hq2
      rw [if_pos (.inr ⟨by unfold stU; rw [if_neg hfne],hq2⟩)] at hM
      exact hbad _ _ j hM.symm rfl rfl rfl hHo
     ·have hq2 : d ≠ 34:=zKs 34 tO hq2
      rw [if_neg (by rintro (x | x); exact hst3 x; exact hq2 x.2),if_neg hq2] at hM
      refine zH8 (i:=j) rfl hd ?_; refine zIe (zG d) hfo hHo rfl rfl tO (by simp only [List.length_map]; omega) (fun s3 H3 fv2 H4 hf4 hO4 _ hfr4=>?_)
      refine zAl (r:=j + 1) rfl tO ?_; refine zBN (SF.mk (j + 1) fv2 (f ++ [d])) rfl ⟨I.push hf4 hO4 hfr4 (by simp only; omega) tO,fun h=>by simp at h, ?_⟩ (by simp only; omega)
      simp only
      have : stU (f ++ [d]) = 1:=by unfold stU; rw [if_neg (by simp)]
      rw [this]; exact hM
    ·have hb : endsL (s.drop j) = true:=by
      have : (!endsL (s.drop j)) = false:=hb
      simpa using this
     exact tail j (stU f) f fv H1 I (.inr he) hM hst2 (fun h=>by omega) (fun _=>.inr hb)
   ·simp only [decide_eq_false_iff_not,Int.ofNat_lt] at he
    have ej : j = s.length:=by omega
    refine zD ?_; refine zD ?_
    exact tail j (stU f) f fv H1 I (.inl tO) hM hst2 (fun _=>by
     unfold stU
     split
     ·rename_i e; have:=hfi e; omega
     ·omega) (fun _=>.inl ej)
 ·simp only [decide_eq_false_iff_not,Int.ofNat_lt] at hlt
  have ei : i = s.length:=by omega
  refine hdone _ H ⟨i,rv,row,ov,out⟩ ?_ hi' rfl
  simp only
  unfold zEi at hm
  by_cases e : row = []
  ·rw [if_pos e]
   rw [if_neg (fun x=>x.2 e),zB7 tO,if_neg tO,if_pos ⟨rfl,e⟩] at hm
   exact hm.symm
  ·rw [if_neg e]
   rw [if_pos ⟨List.drop_eq_nil_of_le tO,e⟩] at hm
   exact hm.symm
theorem zFX {H0 H : Heap} {v : AV} {k : Nat} {xs : List AV} (h : Owns H0 H v k xs) : zGe .sl true v (.lst (some true) 0 []) = some (decide (xs = [])):=by
 rcases h with ⟨rfl,rfl⟩ | ⟨b,rfl,_,_,h3⟩
 ·rfl
 ·have : xs.length ≠ 0:=fun e=>h3 (List.eq_nil_of_length_eq_zero e)
  simp only [zGe,nilness]
  rw [decide_eq_false h3]
  simp [this]
theorem zKS (hN : ∀ s H,s ≠ [] → C zAC [.str s] H (.bool (endsL s)) H) (s : List UInt8) (H : Heap) : EFun C GT zCH [.str s] H (zDW s) H:=by
 refine zAL (fun h=>?_) (fun h=>?_)
 ·simp only [decide_eq_true_eq,gt_iff_lt] at h
  have e : zDW s = .tup [.lst (some true) 0 [],.int .i64 0,zHZ 4]:=by unfold zDW; rw [if_pos tO]
  rw [e]
  exact sRr
 ·simp only [decide_eq_false_iff_not,gt_iff_lt] at h
  have h4 : s.length ≤ 4000:=by omega
  have e : zDW s = zJt (zHM s):=by unfold zDW; rw [if_neg tO]
  rw [e]
  refine zFH (zKR s) (InvRd H s (zHM s)) (fun y=>s.length - y.i) ⟨0,.lst (some true) 0 [],[],.lst (some true) 0 [],[]⟩ rfl ⟨Nat.zero_le _,Owns.nil _ _ _,Owns.nil _ _ _,Old.refl _, ?_,by simp,by simp,by simp⟩ (fun x H1 hi=>?_)
  ·simp only
   unfold zEi zHM
   rw [if_neg (by simp),List.drop_zero]
  refine zHV hN h4 hi (fun fr' H' p hp g2 g3 g4 hO=>?_) (fun fr' H' x' hM hi' hfr=>?_)
  ·have e2 : zJt (zHM s) = .tup [.lst (some true) 0 [],nV p,zHZ 2]:=by rw [hp]; rfl
   rw [e2]
   refine zAx rfl ?_ rfl rfl hO
   simp only [zCH,zAA,zFc,g2,g3,g4]
   rfl
  ·refine sBlk hfr ?_
   obtain ⟨hle,hr,ho,hO,hm,hnr,hnr2,hno⟩:=hi'
   refine zt (zFX hr) ?_; refine zAL (fun hn=>?_) (fun hn=>?_)
   ·have hn : x'.row ≠ []:=by
     intro e3
     have : zJp true (decide (x'.row.map AV.str = [])) = true:=hn
     rw [e3] at this
     simp [zJp] at this
    have e2 : zJt (zHM s) = .tup [zBF (x'.out ++ [x'.row]),.int .i64 0,.nili]:=by rw [hM,if_neg hn]; rfl
    rw [e2]
    refine zGa (H0:=H) ho hr (by simpa using hn) (fun b hb=>zBM hr ho b hb) hO tO (by simp only [List.length_map]; omega) (fun s3 H3 ov3 H4 ho4 hO4 _=>?_)
    have e3 : x'.out.map zB8 ++ [zHY 1 (x'.row.map AV.str)] = (x'.out ++ [x'.row]).map zB8:=by simp [zB8]
    rw [e3] at ho4
    obtain ⟨H5,hf5,hO5,_⟩:=ho4.frz hO4
    refine zKk (v0:=.tup [ov3,.int .i64 0,.nili]) rfl rfl (by simp only [zB9,zEm,hf5]; rfl) (by simp [AV.bel,AV.belL,zGT,zBF]) hO5
   ·have hn : x'.row = []:=by
     apply Classical.not_not.1
     intro e3
     have : zJp true (decide (x'.row.map AV.str = [])) = false:=hn
     rw [tF (by simpa using e3)] at this
     simp [zJp] at this
    have e2 : zJt (zHM s) = .tup [zBF x'.out,.int .i64 0,.nili]:=by rw [hM,if_pos hn]; rfl
    rw [e2]
    obtain ⟨H5,hf5,hO5,_⟩:=ho.frz hO
    refine zKk (v0:=.tup [x'.ov,.int .i64 0,.nili]) rfl rfl (by simp only [zB9,zEm,hf5]; rfl) (by simp [AV.bel,AV.belL,zGT,zBF]) hO5
end
end Go.AM
set_option maxRecDepth 20000
namespace Go.AM
section
variable {C : CSpec} {GT : Nat → Option AV}
theorem zDR {α : Type} {xs ys : List α} (hl : xs.length = ys.length) (h : ∀ k,k < xs.length → xs[k]? = ys[k]?) : xs = ys:=by
 apply List.ext_getElem?
 intro k
 by_cases hk : k < xs.length
 ·exact h k hk
 ·rw [List.getElem?_eq_none tO,List.getElem?_eq_none tO]
theorem zFY (va vb : AV) (t u : List (List Fld)) (H : Heap) (ha : zBU va t) (hb : zBU vb u) (hl : t.length ≤ 9223372036854775807) (hl2 : ∀ r ∈ t,r.length ≤ 9223372036854775807) : EFun C GT zBS [va,vb] H (.bool (decide (t = u))) H:=by
 obtain ⟨xs,ha,hxl,hxr⟩:=ha
 obtain ⟨ys,hb,hyl,hyr⟩:=hb
 refine zA7 t.length ha hxl ?_; refine zA7 u.length hb hyl ?_; refine zAL (fun h=>?_) (fun h=>?_)
 ·have e : ¬ t = u:=by intro e; subst e; simp at h
  rw [decide_eq_false e]; exact sRr
 have hlen : t.length = u.length:=by simp only [bne_eq_false_iff_eq] at h; omega
 refine zFH (σ:=Nat) (fun i=>[(5,nV i),(1,vb),(0,va)]) (fun i H1=>H1 = H ∧ i ≤ t.length ∧ ∀ k,k < i → t[k]? = u[k]?) (fun i=>t.length - i) 0 rfl ⟨rfl,Nat.zero_le _,fun k h=>absurd h (Nat.not_lt_zero _)⟩ (fun i H1 ⟨e,hi,hok⟩=>?_)
 subst e
 refine zA7 t.length ha hxl ?_; refine zAL (fun hlt=>?_) (fun hlt=>?_)
 ·simp only [decide_eq_true_eq,Int.ofNat_lt] at hlt
  obtain ⟨r,hr⟩ : ∃ r,t[i]? = some r:=⟨t[i],List.getElem?_eq_getElem hlt⟩
  obtain ⟨q,hq⟩ : ∃ q,u[i]? = some q:=⟨u[i]'tO,List.getElem?_eq_getElem tO⟩
  obtain ⟨x,hx,hxo⟩:=hxr i r hr
  obtain ⟨y,hy,hyo⟩:=hyr i q hq
  have hrl:=hl2 r (List.mem_of_getElem? hr)
  have no : r ≠ q → decide (t = u) = false:=fun hne=>decide_eq_false fun e=>by
   subst e; rw [hr] at hq; cases hq; exact hne rfl
  refine zEL i x ha rfl hx ?_; refine zB4 x (by rw [hxo.cells]; rfl) ?_; refine zA7 r.length hxo (by simp) ?_; refine zEL i y hb rfl hy ?_; refine zB4 y (by rw [hyo.cells]; rfl) ?_; refine zA7 q.length hyo (by simp) ?_; refine zAL (fun hne=>?_) (fun hne=>?_)
  ·rw [no (fun e=>by subst e; simp at hne)]
   exact sRr
  have hrq : r.length = q.length:=by simp only [bne_eq_false_iff_eq] at hne; omega
  refine zFH (σ:=Nat) (fun k=>[(6,nV k),(5,nV i),(1,vb),(0,va)]) (fun k H2=>H2 = H1 ∧ k ≤ r.length ∧ ∀ m,m < k → r[m]? = q[m]?) (fun k=>r.length - k) 0 rfl ⟨rfl,Nat.zero_le _,fun k h=>absurd h (Nat.not_lt_zero _)⟩ (fun k H2 ⟨e,hk,hok2⟩=>?_)
  subst e
  refine zEL i x ha rfl hx ?_; refine zB4 x (by rw [hxo.cells]; rfl) ?_; refine zA7 r.length hxo (by simp) ?_; refine zAL (fun hlt2=>?_) (fun hlt2=>?_)
  ·simp only [decide_eq_true_eq,Int.ofNat_lt] at hlt2
   obtain ⟨f,hf⟩ : ∃ f,r[k]? = some f:=⟨r[k],List.getElem?_eq_getElem hlt2⟩
   obtain ⟨g,hg⟩ : ∃ g,q[k]? = some g:=⟨q[k]'tO,List.getElem?_eq_getElem tO⟩
   refine zEL i x ha rfl hx ?_; refine zB4 x (by rw [hxo.cells]; rfl) ?_; refine zEL k (.str f) hxo rfl (by rw [List.getElem?_map,hf]; rfl) ?_; refine zB4 (.str f) rfl ?_; refine zEL i y hb rfl hy ?_; refine zB4 y (by rw [hyo.cells]; rfl) ?_; refine zEL k (.str g) hyo rfl (by rw [List.getElem?_map,hg]; rfl) ?_; refine zB4 (.str g) rfl ?_; refine zAL (fun hne2=>?_) (fun hne2=>?_)
   ·rw [no (fun e=>by subst e; rw [hf] at hg; cases hg; simp at hne2)]
    exact sRr
   ·have hfg : f = g:=by simpa using hne2
    refine zAl (r:=k + 1) rfl tO ?_; refine zBN (k + 1) rfl ⟨rfl,by omega,fun m hm=>?_⟩ (by show _ < _; omega)
    by_cases e : m = k
    ·subst e; rw [hf,hg,hfg]
    ·exact hok2 m tO
  ·simp only [decide_eq_false_iff_not,Int.ofNat_lt] at hlt2
   have erq : r = q:=zDR hrq fun m hm=>hok2 m tO
   refine zAl (r:=i + 1) rfl tO ?_; refine zBN (i + 1) rfl ⟨rfl,by omega,fun m hm=>?_⟩ (by show _ < _; omega)
   by_cases e : m = i
   ·subst e; rw [hr,hq,erq]
   ·exact hok m tO
 ·simp only [decide_eq_false_iff_not,Int.ofNat_lt] at hlt
  have e : t = u:=zDR hlen fun k hk=>hok k tO
  rw [decide_eq_true e]; exact sRr
end
end Go.AM
set_option maxRecDepth 20000
namespace Go.AM
def zJj (N : Nat) (t : List (List Fld)) : Prop:=t.length ≤ N + 1 ∧ ∀ r ∈ t,r ≠ [] ∧ r.length ≤ N + 1 ∧ ∀ g ∈ r,g.length ≤ N
theorem zIs (N : Nat) (s : List UInt8) : ∀ (st i : Nat) (f : Fld) (row : List Fld) (out : List (List Fld)) (t : List (List Fld)),f.length + s.length ≤ N → row.length + s.length ≤ N → out.length + s.length ≤ N → (∀ g ∈ row,g.length ≤ N) → (∀ r ∈ out,r ≠ [] ∧ r.length ≤ N + 1 ∧ ∀ g ∈ r,g.length ≤ N) → mach s i st f row out = .ok t → zJj N t:=by
 generalize hn : s.length = n
 induction n using Nat.strongRecOn generalizing s with
 | ind n ih=>
  intro st i f row out t h1 h2 h3 h4 h5 hm
  have app : ∀ r ∈ out ++ [row ++ [f]],r ≠ [] ∧ r.length ≤ N + 1 ∧ ∀ g ∈ r,g.length ≤ N:=fun r hr=>by
   rcases List.mem_append.1 hr with hr | hr
   ·exact h5 r hr
   ·simp only [List.mem_singleton] at hr
    subst hr
    refine ⟨by simp,by simp only [List.length_append,List.length_cons,List.length_nil]; omega,fun g hg=>?_⟩
    rcases List.mem_append.1 hg with hg | hg
    ·exact h4 g hg
    ·simp only [List.mem_singleton] at hg
     subst hg; omega
  have rw2 : ∀ g ∈ row ++ [f],g.length ≤ N:=fun g hg=>by
   rcases List.mem_append.1 hg with hg | hg
   ·exact h4 g hg
   ·simp only [List.mem_singleton] at hg
    subst hg; omega
  have al : (out ++ [row ++ [f]]).length = out.length + 1:=by simp
  have rl : (row ++ [f]).length = row.length + 1:=by simp
  have nil4 : ∀ g ∈ ([] : List Fld),g.length ≤ N:=fun g hg=>by cases hg
  cases s with
  | nil=>
   rw [zEa] at hm
   split at hm
   ·cases hm
   ·split at hm
    ·cases hm; exact ⟨by omega,h5⟩
    ·cases hm
     exact ⟨by rw [al]; omega,app⟩
  | cons c s=>
   simp only [List.length_cons] at hn
   have tl:=List.length_tail (l:=s)
   have fl : ∀ x : UInt8,(f ++ [x]).length = f.length + 1:=fun x=>by simp
   rw [z1] at hm
   split at hm
   ·split at hm
    ·split at hm
     ·rename_i hh
      have hs0 : s.length ≠ 0:=fun e=>by rw [List.length_eq_zero_iff.1 e] at hh; cases hh
      exact ih s.tail.length tO s.tail rfl _ _ _ _ _ _ (by rw [fl]; omega) tO tO h4 h5 hm
     ·exact ih s.length tO s rfl _ _ _ _ _ _ tO tO tO h4 h5 hm
    ·exact ih s.length tO s rfl _ _ _ _ _ _ (by rw [fl]; omega) tO tO h4 h5 hm
   ·split at hm
    ·exact ih s.length tO s rfl _ _ _ _ _ _ (by simp; omega) (by simp; omega) (by rw [al]; omega) nil4 app hm
    ·split at hm
     ·exact ih s.tail.length tO s.tail rfl _ _ _ _ _ _ (by simp; omega) (by simp; omega) (by rw [al]; omega) nil4 app hm
     ·split at hm
      ·exact ih s.length tO s rfl _ _ _ _ _ _ (by simp; omega) (by rw [rl]; omega) tO rw2 h5 hm
      ·split at hm
       ·cases hm
       ·split at hm
        ·exact ih s.length tO s rfl _ _ _ _ _ _ tO tO tO h4 h5 hm
        ·exact ih s.length tO s rfl _ _ _ _ _ _ (by rw [fl]; omega) tO tO h4 h5 hm
theorem zJk {s : Fld} {t : List (List Fld)} (hl : s.length ≤ 4000) (h : zHM s = .ok t) : zJj 4000 t:=zIs 4000 s 0 0 [] [] [] t (by simpa using hl) (by simpa using hl) (by simpa using hl) (fun g hg=>by cases hg) (fun r hr=>by cases hr) h
def Bnd (t : List (List Fld)) : Prop:=t.length ≤ 1048576 ∧ (∀ r ∈ t,r.length ≤ 1048576) ∧ ∀ r ∈ t,∀ f ∈ r,f.length ≤ 1048576
theorem zJj.bnd {t : List (List Fld)} (h : zJj 4000 t) : Bnd t:=⟨by have:=h.1; omega,fun r hr=>by have:=(h.2 r hr).2.1; omega,fun r hr f hf=>by have:=(h.2 r hr).2.2 f hf; omega⟩
def WrC (C : CSpec) : Prop:=∀ va t H,zBV H va t → Bnd t → C zAS [va] H (cwV t) H
def RdC (C : CSpec) : Prop:=∀ s H,C zn [.str s] H (zDW s) H
def SmC (C : CSpec) : Prop:=∀ va vb t u H,zBU va t → zBU vb u → t.length ≤ 9223372036854775807 → (∀ r ∈ t,r.length ≤ 9223372036854775807) → C zAF [va,vb] H (.bool (decide (t = u))) H
theorem zD0 (t : List (List Fld)) : zF4 t = 0 ∨ zF4 t = 3 ∨ zF4 t = 4:=by
 unfold zF4
 split
 ·exact .inr (.inl rfl)
 ·split
  ·exact .inr (.inr rfl)
  ·exact .inl rfl
section
variable {C : CSpec} {GT : Nat → Option AV}
set_option maxHeartbeats 4000000 in
theorem zIt (hW : WrC C) (hR : RdC C) (hS : SmC C) (s : Fld) {H H1 : Heap} (hO : Old H H1) : EW C GT (zAn.behind 5) (finF zAD H (.bool true) H) [(1,.str s)] H1:=by
 have hr:=fun H=>hR s H
 by_cases h4 : 4000 < s.length
 ·have e : zDW s = .tup [.lst (some true) 0 [],.int .i64 0,zHZ 4]:=if_pos h4
  rw [e] at hr
  clear hW hR hS
  refine zB (hr _) ?_; refine zt rfl ?_; refine zt rfl ?_; refine zt rfl ?_; refine zt rfl ?_; refine zO ?_
  exact zAx rfl rfl rfl rfl hO
 have e1 : zDW s = zJt (zHM s):=if_neg h4
 rw [e1] at hr
 cases hm : zHM s with
 | bad p=>
  rw [hm] at hr
  have hr : ∀ H,C zn [.str s] H (.tup [.lst (some true) 0 [],nV p,zHZ 2]) H:=hr
  clear hW hR hS
  refine zB (hr _) ?_; refine zt rfl ?_; refine zt rfl ?_; refine zt rfl ?_; refine zt rfl ?_; refine zO ?_
  exact zAx rfl rfl rfl rfl hO
 | ok u=>
  rw [hm] at hr
  have hr : ∀ H,C zn [.str s] H (.tup [zBF u,.int .i64 0,.nili]) H:=hr
  have hg:=zJk tO hm
  have hw:=fun H=>hW (zBF u) u H (zBV.of (zCl u) H) hg.bnd
  unfold cwV at hw
  have hq:=fun H=>hS (zBF u) (zBF u) u u H (zCl u) (zCl u) (by have:=hg.1; omega) (fun r hr=>by have:=(hg.2 r hr).2.1; omega)
  rw [decide_eq_true rfl] at hq
  rcases zD0 u with e | e | e
  ·rw [e] at hw
   obtain ⟨b1,b2⟩:=zGZ e
   have hs : zKZ u = z2 u:=if_pos e
   have hr2:=fun H=>hR (z2 u) H
   have e2 : zDW (z2 u) = zJt (zHM (z2 u)):=if_neg tO
   rw [e2,b1] at hr2
   rw [hs] at hw
   have hr2 : ∀ H,C zn [.str (z2 u)] H (.tup [zBF u,.int .i64 0,.nili]) H:=hr2
   generalize z2 u = y at hw hr2
   generalize zBF u = uv at hr hw hr2 hq
   clear hW hR hS
   refine zB (hr _) ?_; refine zt rfl ?_; refine zt rfl ?_; refine zt rfl ?_; refine zt rfl ?_; refine zD ?_; refine zB (hw _) ?_; refine zt rfl ?_; refine zt rfl ?_; refine zt rfl ?_; refine zD ?_; refine zB (hr2 _) ?_; refine zt rfl ?_; refine zt rfl ?_; refine zt rfl ?_; refine zB (hq _) ?_; refine zt rfl ?_; refine zO ?_; refine zO ?_
   exact zAx rfl rfl rfl rfl hO
  ·rw [e] at hw
   generalize zBF u = uv at hr hw hq
   clear hW hR hS
   refine zB (hr _) ?_; refine zt rfl ?_; refine zt rfl ?_; refine zt rfl ?_; refine zt rfl ?_; refine zD ?_; refine zB (hw _) ?_; refine zt rfl ?_; refine zt rfl ?_; refine zt rfl ?_; refine zO ?_
   exact zAx rfl rfl rfl rfl hO
  ·rw [e] at hw
   generalize zBF u = uv at hr hw hq
   clear hW hR hS
   refine zB (hr _) ?_; refine zt rfl ?_; refine zt rfl ?_; refine zt rfl ?_; refine zt rfl ?_; refine zD ?_; refine zB (hw _) ?_; refine zt rfl ?_; refine zt rfl ?_; refine zt rfl ?_; refine zO ?_
   exact zAx rfl rfl rfl rfl hO
theorem zBV.one {H0 : Heap} {b : Nat} {x : AV} {r : List Fld} {q : Option Bool} (hb : H0[b]? = some (.row 1 [x])) (hx : zB5 x 1 (r.map AV.str)) : zBV H0 (.sl q b 1 0 1) [r]:=by
 refine ⟨rfl,fun K hk=>zIO hk,fun i r' hr=>?_⟩
 match i,hr with
 | 0,hr=>
  cases hr
  exact ⟨x,hx,fun H K hO hk=>sAt ⟨by omega,by omega⟩ (hk _ fun K2 h2=>zJR 0 x x rfl (by rw [hO.2 _ (zg hb).1]; exact hb) rfl (by rw [hx.cells]; rfl) h2)⟩
 | i + 1,hr=>cases hr
def zKt : List (List Fld):=[[[97,44,98],[99]]]
theorem zJl : cwV zKt = .tup [.str [34,97,44,98,34,44,99,10],.nili]:=rfl
set_option maxHeartbeats 8000000 in
theorem zF7 (hW : WrC C) (hR : RdC C) (hS : SmC C) (va : AV) (t : List (List Fld)) (ha : zBU va t) (hb : Bnd t) (s : Fld) (H : Heap) : EFun C GT zAD [va,.str s] H (.bool true) H:=by
 have key:=fun (H1 : Heap) hO=>zIt (C:=C) (GT:=GT) (H:=H) (H1:=H1) hW hR hS s hO
 have hw:=fun H=>hW va t H (zBV.of ha H) hb
 unfold cwV at hw
 have hq:=fun H=>hS (zBF t) va t t H (zCl t) ha (by have:=hb.1; omega) (fun r hr=>by have:=hb.2.1 r hr; omega)
 rw [decide_eq_true rfl] at hq
 have hr:=fun H=>hR (z2 t) H
 refine zF2 ?_; refine zFv (vs':=[AV.str [97,44,98],AV.str [99]]) rfl rfl ?_; refine zGS (vs':=[AV.lst (some false) 1 [AV.str [97,44,98],AV.str [99]]]) ((H ++ [ABlk.row 1 [AV.str [97,44,98],AV.str [99]]]).set H.length (.frz 1 [AV.str [97,44,98],AV.str [99]])) (zIP (zKj zc rfl) rfl) rfl ?_
 obtain ⟨Hf,hf⟩ : ∃ Hf,(H ++ [ABlk.row 1 [AV.str [97,44,98],AV.str [99]]]).set H.length (.frz 1 [AV.str [97,44,98],AV.str [99]]) = Hf:=⟨_,rfl⟩
 have hOf : Old H Hf:=by rw [← hf]; exact ((Old.refl H).push _).set (Nat.le_refl _) _
 rw [hf]
 have hfw:=hW (.sl (some false) Hf.length 1 0 1) zKt (Hf ++ [ABlk.row 1 [AV.lst (some false) 1 [AV.str [97,44,98],AV.str [99]]]]) (zBV.one (x:=AV.lst (some false) 1 [AV.str [97,44,98],AV.str [99]]) (r:=[[97,44,98],[99]]) zc ⟨_,_,rfl,.inl rfl⟩) ⟨by decide,by decide,by decide⟩
 rw [zJl] at hfw
 have hOg:=hOf.push [ABlk.row 1 [AV.lst (some false) 1 [AV.str [97,44,98],AV.str [99]]]]
 obtain ⟨Hg,hg⟩ : ∃ Hg,Hf ++ [ABlk.row 1 [AV.lst (some false) 1 [AV.str [97,44,98],AV.str [99]]]] = Hg:=⟨_,rfl⟩
 rw [hg] at hfw hOg
 rw [hg]
 rcases zD0 t with e | e | e
 ·rw [e] at hw
  obtain ⟨b1,b2⟩:=zGZ e
  have hs : zKZ t = z2 t:=if_pos e
  have e2 : zDW (z2 t) = zJt (zHM (z2 t)):=if_neg tO
  rw [e2,b1] at hr
  rw [hs] at hw
  have hr : ∀ H,C zn [.str (z2 t)] H (.tup [zBF t,.int .i64 0,.nili]) H:=hr
  generalize z2 t = y at hw hr
  generalize zBF t = uv at hr hq
  clear hW hR hS
  refine zB hfw ?_; refine zt rfl ?_; refine zt rfl ?_; refine zt rfl ?_; refine zD ?_; refine zD ?_; refine zD ?_; refine zB (hw _) ?_; refine zt rfl ?_; refine zt rfl ?_; refine zt rfl ?_; refine zO ?_; refine zB (hr _) ?_; refine zt rfl ?_; refine zt rfl ?_; refine zt rfl ?_; refine zB (hq _) ?_; refine zt rfl ?_; refine zD ?_; refine zD ?_; refine zD ?_
  exact zJa rfl (key _ hOg) rfl
 ·rw [e] at hw
  clear hW hR hS
  refine zB hfw ?_; refine zt rfl ?_; refine zt rfl ?_; refine zt rfl ?_; refine zD ?_; refine zD ?_; refine zD ?_; refine zB (hw _) ?_; refine zt rfl ?_; refine zt rfl ?_; refine zt rfl ?_; refine zD ?_
  exact zJa rfl (key _ hOg) rfl
 ·rw [e] at hw
  clear hW hR hS
  refine zB hfw ?_; refine zt rfl ?_; refine zt rfl ?_; refine zt rfl ?_; refine zD ?_; refine zD ?_; refine zD ?_; refine zB (hw _) ?_; refine zt rfl ?_; refine zt rfl ?_; refine zt rfl ?_; refine zD ?_
  exact zJa rfl (key _ hOg) rfl
end
end Go.AM
namespace Go.AM
theorem zIu (s : List UInt8) (n : Nat) (h : n ≤ s.length) : zAO none (.str s) none (some (.int .i64 (n : Int))) = some (.str (s.take n)):=by
 simp only [zAO,zBX,aHi,aLo]
 rw [if_pos ⟨by omega,by omega⟩]
 simp
theorem zA2 : ∀ (p s : List UInt8),p.isPrefixOf s = (decide (p.length ≤ s.length) && (s.take p.length == p))
 | [],s=>by simp
 | a :: p,[]=>by simp
 | a :: p,b :: s=>by
  simp only [List.isPrefixOf,zA2 p s,List.length_cons,List.take_succ_cons]
  rw [Bool.eq_iff_iff]
  simp only [Bool.and_eq_true,beq_iff_eq,decide_eq_true_eq,List.cons.injEq]
  constructor
  ·rintro ⟨h1,h2,h3⟩; exact ⟨by omega,h1.symm,h3⟩
  ·rintro ⟨h1,h2,h3⟩; exact ⟨h2.symm,by omega,h3⟩
section
variable {C : CSpec} {GT : Nat → Option AV}
theorem zFZ (s p : List UInt8) (H : Heap) : EFun C GT zz [.str s,.str p] H (.bool (p.isPrefixOf s)) H:=by
 refine zAL (fun h=>?_) (fun h=>?_)
 ·have h : p.length ≤ s.length:=by
   have:=of_decide_eq_true h
   omega
  have e : p.isPrefixOf s = (s.take p.length == p):=by rw [zA2,decide_eq_true h,Bool.true_and]
  rw [e]
  refine zt (zIu s p.length h) <| zO ?_
  exact sRr
 ·have h : ¬ p.length ≤ s.length:=by
   have:=of_decide_eq_false h
   omega
  have e : p.isPrefixOf s = false:=by rw [zA2,decide_eq_false h,Bool.false_and]
  rw [e]
  refine zD ?_
  exact sRr
theorem zIv (hS : ∀ s p H,C zR [.str s,.str p] H (.bool (p.isPrefixOf s)) H) (s p : List UInt8) (H : Heap) : EFun C GT zAT [.str s,.str p] H (.bool (p.isPrefixOf s)) H:=by
 refine zB (hS s p H) ?_
 exact sRr
end
end Go.AM
set_option maxRecDepth 100000
namespace Go.Proofs.YtmiknjjfgndddaaDoor
open Go.AM Go.RowKit
abbrev GQ (m : Int) (ev : Value):=Go.AM.Good Tryd.prog (gtQ m ev)
section
variable {m : Int} {ev : Value}
theorem zKu : CkB (GQ m ev):=fun b a v H h1 h2 h3=>zHP b a v H h1 h2 h3
theorem g_wb : WbH (GQ m ev):=fun H0 b u c H hB hO hl=>by
 obtain ⟨v,H',⟨rfl,hT⟩,hg⟩:=zDP mixed (show zFa Tryd.prog zH zIi = true from zAI) (zJc zKu H0 b u c H hB hO hl)
 exact ⟨H',hg,hT⟩
theorem g_wt : WtL (GQ m ev):=fun H0 b u t H hB hO hl=>by
 obtain ⟨v,H',⟨rfl,hT⟩,hg⟩:=zDP mixed (show zFa Tryd.prog zJ zIj = true from z8) (zIl zKu H0 b u t H hB hO hl)
 exact ⟨H',hg,hT⟩
theorem g_len : LnH (GQ m ev):=fun H0 b u H hB hl=>zu mixed zAp (zKN b u H hB hl)
theorem zKT : WrC (GQ m ev):=fun va t H ha hb=>zu mixed zFw (zIo g_wb g_wt g_len zJg (zEh rfl) (fun H0 b u H h1 h2 h3=>zHR H0 b u H h1 h2 h3) zHT va t H ha hb.1 hb.2.1 hb.2.2) (hn:=ha.1)
end
end Go.Proofs.YtmiknjjfgndddaaDoor
