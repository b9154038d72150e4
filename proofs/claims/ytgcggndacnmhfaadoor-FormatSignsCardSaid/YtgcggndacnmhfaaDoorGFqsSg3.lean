/- Several texts of mine in one (Fqs, Trm, Fp2, Lew, Sg3). Own work. -/
import Derived.Test.YtgcggndacnmhfaaDoorGFp1Fs1
import Derived.Test.YtgcggndacnmhfaaDoorGItdErr
import Derived.Test.YtgcggndacnmhfaaDoorGAm22Cc
import Derived.Test.YtgcggndacnmhfaaDoorGFs2Fsh
import Derived.Test.YtgcggndacnmhfaaDoorGSg0Sg2
set_option linter.all false
set_option maxRecDepth 20000
namespace Go.AM
section
variable {C : CSpec} {GT : Nat → Option AV}
abbrev pR (b : Nat) : AV:=.ref b 0 0 0
abbrev byV (c : UInt8) : AV:=.int .u8 c.toNat
theorem zHN (s : Bs) (a : Nat) (h : a ≤ s.length) : zk none (.str s) (some (.int .i64 (a : Int))) none = some (.str (s.drop a)):=by
 simp only [zk,zAo,aHi,aLo]
 have h1 : ¬ ((a : Int) < 0):=by omega
 have e1 : (a : Int).toNat = a:=Int.toNat_natCast a
 simp [h1,e1,h]
theorem zKN (s : Bs) (b : Nat) (hb : b ≤ s.length) : zk none (.str s) none (some (.int .i64 (b : Int))) = some (.str (s.take b)):=by
 simp only [zk,zAo,aHi,aLo]
 have h2 : ¬ ((b : Int) < 0):=by omega
 have e2 : (b : Int).toNat = b:=Int.toNat_natCast b
 simp [h2,e2,hb]
end
end Go.AM
set_option maxRecDepth 20000
namespace Go.AM
def zBz (g : Nat → Bool) : List AV:=zH0 256 (fB g)
def zBw (cs : Bs) (i : Nat) : Bool:=cs.any fun c=>c.toNat == i
def zDH (s cs : Bs) : Bs:=(s.reverse.dropWhile (fun c=>zBw cs c.toNat)).reverse
def zIE (s cs : Bs) : Bs:=(zDH s cs).dropWhile (fun c=>zBw cs c.toNat)
theorem zIF {cs : List AV} {o : Nat} {v : AV} (h : o < cs.length) : splice cs o [v] = cs.set o v:=by
 unfold splice
 rw [List.set_eq_take_append_cons_drop,if_pos h]
 simp
theorem zA1 (g : Nat → Bool) : (zBz g).length = 256:=zJx _ _
theorem zKO {g : Nat → Bool} {i : Nat} (h : i < 256) : (zBz g)[i]? = some (.bool (g i)):=zJy h
theorem zJJ {cs : Bs} {k : Nat} {c : UInt8} (h : cs[k]? = some c) : splice (zBz (zBw (cs.take k))) c.toNat [.bool true] = zBz (zBw (cs.take (k + 1))):=by
 have hc : c.toNat < 256:=UInt8.toNat_lt c
 rw [zIF (by rw [zA1]; exact hc)]
 unfold zBz
 rw [zJz]
 refine zH1 fun i hi=>?_
 obtain ⟨h1,h2⟩:=zg h
 have e : cs.take (k + 1) = cs.take k ++ [c]:=by rw [List.take_succ_eq_append_getElem h1,h2]
 unfold upd fB zBw
 rw [e,List.any_append]
 by_cases he : i = c.toNat
 ·subst he; simp
 ·rw [if_neg he]; simp [Ne.symm he]
theorem off0 {cs cs' : List AV} {n : Nat} {v : List AV} (h : splice cs n v = cs') : splice cs (0 + ((n : Int)).toNat * 1) v = cs':=by
 have e : 0 + ((n : Int)).toNat * 1 = n:=by omega
 rw [e]; exact h
theorem zHO (g : Nat → Bool) : part (zBz g) 0 256 true = some (.agg (zBz g)):=by
 simp only [part,if_true,zA1,List.drop_zero]
 rw [List.take_of_length_le (by rw [zA1]; exact Nat.le_refl _)]
 simp
theorem zKP (n : Nat) (g : Nat → Bool) (b : Bool) (H : Heap) : zDW n (.tup [.agg (zBz g),.bool b]) H = some (.tup [.agg (zBz g),.bool b],H):=by
 have h : ∀ l : List Nat,zHR n (l.map fun i=>AV.bool (g i)) H = some (l.map fun i=>AV.bool (g i),H):=by
  intro l
  induction l with
  | nil=>rfl
  | cons x l ih=>simp only [List.map_cons,zHR,zDW,ih]
 have h2 : zHR n (List.map (fB g) (List.range 256)) H = some (List.map (fB g) (List.range 256),H):=h (List.range 256)
 simp only [zDW,zHR,zBz,zH0,h2]
theorem zKQ (n : Nat) (g : Nat → Bool) (b : Bool) : (AV.tup [.agg (zBz g),.bool b]).bel n = true:=by
 have h : AV.belL n (zBz g) = true:=by
  rw [AV.belL_iff]
  intro c hc
  unfold zBz zH0 fB at hc
  obtain ⟨i,_,rfl⟩:=List.mem_map.1 hc
  rfl
 simp [AV.bel,AV.belL,h]
section
variable {C : CSpec} {GT : Nat → Option AV}
theorem zGs (b : Nat) (g : Nat → Bool) (c : UInt8) (H : Heap) (hb : H[b]? = some (.box (zBz g))) : EFun C GT zp [pR b,byV c] H (.bool (g c.toNat)) H:=by
 have hc : c.toNat < 256:=UInt8.toNat_lt c
 refine zr ?_; refine zBo ⟨by omega,by omega⟩ <| zA (.bool (g c.toNat)) hb (by simpa [part] using zKO hc) ?_
 exact sRr
theorem zKR (cs : Bs) (H : Heap) (hcs : ∀ c ∈ cs,c.toNat < 128) (hl : cs.length ≤ 1000) : EFun C GT zAT [.str cs] H (.tup [.agg (zBz (zBw cs)),.bool true]) H:=by
 refine zr ?_; refine zHz (fun k : Nat=>[(2,pR H.length),(4,zAw k),(0,.str cs)]) (fun k H'=>H' = H ++ [.box (zBz (zBw (cs.take k)))] ∧ k ≤ cs.length) (fun k=>cs.length - k) 0 rfl ⟨rfl,Nat.zero_le _⟩ (fun k H1 ⟨e,hk⟩=>?_)
 subst e
 by_cases hlt : k < cs.length
 ·obtain ⟨c,hc⟩ : ∃ c,cs[k]? = some c:=⟨_,List.getElem?_eq_getElem hlt⟩
  have h128:=hcs c (List.mem_of_getElem? hc)
  have hst:=zJJ hc
  refine zBc tT <| zFv rfl hc <| zAI tF <| zBo ⟨by omega,by omega⟩ <| zI (v:=.bool true) (zBz (zBw (cs.take (k + 1)))) zF rfl rfl (Nat.ble_eq_true_of_le (by rw [zA1]; omega)) (off0 hst) <| zBq (r:=k + 1) rfl tO ?_; refine zEG (k + 1) rfl ⟨?_,by omega⟩ tO
  rw [List.set_append_right _ _ (Nat.le_refl _),Nat.sub_self]; rfl
 ·have : k = cs.length:=by omega
  subst this
  rw [List.take_length]
  refine zAI tF <| zA (.agg (zBz (zBw cs))) zF (zHO _) <| zI (v:=.agg (zBz (zBw cs))) (zBz (zBw cs)) zF (zA1 _) rfl rfl (by simp [splice,AV.cells,zA1]) ?_
  exact zAA (o:=0) rfl rfl (zAK hP) (zHO _) rfl (zKP _ _ _ _) (zKQ _ _ _) ((Old.push (Old.refl _) _).set (Nat.le_refl _) _)
theorem zKS (hC : ∀ b g c H,H[b]? = some (.box (zBz g)) → C zD [pR b,byV c] H (.bool (g c.toNat)) H) (s cs : Bs) (b : Nat) (H : Heap) (hb : H[b]? = some (.box (zBz (zBw cs)))) (hl : s.length ≤ 1000) :
  EFun C GT zAG [.str s,pR b] H (.str (zDH s cs)) H:=by
 obtain ⟨r,hr⟩ : ∃ r,zDH s cs = r:=⟨_,rfl⟩
 rw [hr]
 refine zr ?_; refine zHz (fun t : Bs=>[(0,.str t),(1,pR b)]) (fun t H'=>H' = H ∧ t.length ≤ 1000 ∧ zDH t cs = r) (fun t=>t.length) s rfl ⟨rfl,hl,hr⟩ (fun t H1 ⟨e,htl,ht⟩=>?_)
 subst e
 by_cases h0 : t = []
 ·subst h0
  unfold zDH at ht
  simp only [List.reverse_nil,List.dropWhile_nil] at ht
  subst ht
  refine zAI (tF (by simp)) ?_
  exact sRr
 ·obtain ⟨u,c,rfl⟩ : ∃ u c,t = u ++ [c]:=⟨t.dropLast,t.getLast h0,(List.dropLast_concat_getLast h0).symm⟩
  have hlen : (u ++ [c]).length = u.length + 1:=by simp
  have hg : (u ++ [c])[u.length]? = some c:=by simp
  have hcc:=hC b (zBw cs) c H1 hb
  unfold zDH at ht
  rw [List.reverse_append,List.reverse_singleton,List.singleton_append,List.dropWhile_cons] at ht
  by_cases hc : zBw cs c.toNat = true
  ·rw [if_pos hc] at ht
   rw [hc] at hcc
   clear hC
   refine zBc tT <| zBq (r:=u.length) tO tO <| zFv rfl hg <| zB (hcc) <| zG <| zBq (r:=u.length) tO tO ?_; refine zR (v:=.str ((u ++ [c]).take u.length)) (zKN _ _ tO) ?_; refine zEG u ?_ ⟨rfl,by omega,ht⟩ tO
   rw [List.take_left]; rfl
  ·have hc:=Bool.eq_false_iff.2 hc
   rw [hc] at hcc ht
   simp only [Bool.false_eq_true,if_false,List.reverse_cons,List.reverse_reverse] at ht
   subst ht
   clear hC
   refine zBc tT <| zBq (r:=u.length) tO tO <| zFv rfl hg <| zB (hcc) <| zP ?_
   exact sRr
theorem zKT (hC : ∀ b g c H,H[b]? = some (.box (zBz g)) → C zD [pR b,byV c] H (.bool (g c.toNat)) H) (s cs : Bs) (b : Nat) (H : Heap) (hb : H[b]? = some (.box (zBz (zBw cs)))) (hl : s.length ≤ 1000) :
  EFun C GT zAQ [.str s,pR b] H (.str (s.dropWhile fun c=>zBw cs c.toNat)) H:=by
 obtain ⟨r,hr⟩ : ∃ r,(s.dropWhile fun c=>zBw cs c.toNat) = r:=⟨_,rfl⟩
 rw [hr]
 refine zr ?_; refine zHz (fun t : Bs=>[(0,.str t),(1,pR b)]) (fun t H'=>H' = H ∧ t.length ≤ 1000 ∧ (t.dropWhile fun c=>zBw cs c.toNat) = r) (fun t=>t.length) s rfl ⟨rfl,hl,hr⟩ (fun t H1 ⟨e,htl,ht⟩=>?_)
 subst e
 cases t with
 | nil=>
  simp only [List.dropWhile_nil] at ht
  subst ht
  refine zAI (tF (by simp)) ?_
  exact sRr
 | cons c u=>
  have hcc:=hC b (zBw cs) c H1 hb
  rw [List.dropWhile_cons] at ht
  have hlen : (c :: u).length = u.length + 1:=List.length_cons
  by_cases hc : zBw cs c.toNat = true
  ·rw [if_pos hc] at ht
   rw [hc] at hcc
   clear hC
   refine zBc tT <| zFv (i:=0) rfl rfl <| zB (hcc) <| zG <| zR (v:=.str ((c :: u).drop 1)) (zHN _ 1 tO) ?_
   exact zEG u rfl ⟨rfl,by omega,ht⟩ tO
  ·have hc:=Bool.eq_false_iff.2 hc
   rw [hc] at hcc ht
   simp only [Bool.false_eq_true,if_false] at ht
   subst ht
   clear hC
   refine zBc tT <| zFv (i:=0) rfl rfl <| zB (hcc) <| zP ?_
   exact sRr
theorem zGN (p : UInt8 → Bool) : ∀ l : Bs,(l.dropWhile p = []) ↔ l.all p = true
 | []=>by simp
 | c :: r=>by
  rw [List.dropWhile_cons,List.all_cons]
  by_cases h : p c = true
  ·rw [if_pos h,h,Bool.true_and]; exact zGN p r
  ·have h:=Bool.eq_false_iff.2 h
   rw [h]; simp
theorem zGO (p : UInt8 → Bool) : ∀ l : Bs,(l.dropWhile p).all p = l.all p
 | []=>rfl
 | c :: r=>by
  rw [List.dropWhile_cons]
  by_cases h : p c = true
  ·rw [if_pos h,List.all_cons,h,Bool.true_and]; exact zGO p r
  ·have h:=Bool.eq_false_iff.2 h
   rw [h]; simp
theorem zKU (s cs : Bs) : (zIE s cs = []) ↔ s.all (fun c=>zBw cs c.toNat) = true:=by
 unfold zIE zDH
 rw [zGN,List.all_reverse,zGO,List.all_reverse]
theorem zKV (hM : ∀ cs H,(∀ c ∈ cs,c.toNat < 128) → cs.length ≤ 1000 → C zd [.str cs] H (.tup [.agg (zBz (zBw cs)),.bool true]) H)
  (hR : ∀ s cs b H,H[b]? = some (.box (zBz (zBw cs))) → s.length ≤ 1000 → C zV [.str s,pR b] H (.str (zDH s cs)) H)
  (hL : ∀ s cs b H,H[b]? = some (.box (zBz (zBw cs))) → s.length ≤ 1000 → C zY [.str s,pR b] H (.str (s.dropWhile fun c=>zBw cs c.toNat)) H)
  (s cs : Bs) (H : Heap) (hcs : ∀ c ∈ cs,c.toNat < 128) (hc2 : 2 ≤ cs.length) (hcl : cs.length ≤ 1000) (hl : s.length ≤ 1000) : EFun C GT zB5 [.str s,.str cs] H (.str (zIE s cs)) H:=by
 refine zr ?_
 have hne : cs ≠ []:=fun e=>by subst e; simp at hc2
 have hml:=hM cs H hcs hcl
 have hle : (zDH s cs).length ≤ s.length:=by
  unfold zDH
  rw [List.length_reverse]
  have:=(List.dropWhile_suffix (l:=s.reverse) (fun c=>zBw cs c.toNat)).length_le
  rwa [List.length_reverse] at this
 by_cases h0 : s = []
 ·subst h0
  refine zP <| zP <| zP ?_
  exact sRr
 have hst : ∀ (H : Heap),H[H.length]? = none:=fun H=>by simp
 have hrr:=hR s cs H.length
 have hll:=hL (zDH s cs) cs H.length
 clear hM hR hL
 refine zAI (tN h0) <| zG <| zAI (tN hne) <| zAI tN <| zG <| zG ?_; refine zB (hml) <| zR rfl <| zR rfl <| zI (v:=.agg (zBz (zBw cs))) (zBz (zBw cs)) zF (zA1 _) rfl rfl (by simp [splice,AV.cells,zA1]) <| zP <| zB (hrr _ hP hl) ?_; refine zB (hll _ hP tO) ?_
 exact zF8 rfl rfl rfl rfl (((Old.refl _).push _).set (by first | assumption | exact Nat.le_refl _ | simp | omega) _)
end
end Go.AM
set_option maxRecDepth 20000
namespace Go.AM
def zAU (s : Bs) : Bool × Bs:=
 match s with
 | []=>(false,[])
 | c :: r=>if c = 45 then (true,r) else (false,c :: r)
def zCO (s : Bs) : Prop:=(zAU s).2 ≠ [] ∧ ¬ ((zAU s).2.head? = some 48 ∧ s ≠ [48]) ∧ (zAU s).2.all zHD = true
instance (s : Bs) : Decidable (zCO s):=by unfold zCO; exact inferInstance
def zHP (s : Bs) : Int:=if (zAU s).1 = true then -(zEM (zAU s).2 : Int) else zEM (zAU s).2
theorem zEt {t : Bs} (h : t.head? ≠ some 45) : zAU t = (false,t):=by
 cases t with
 | nil=>rfl
 | cons c r=>
  unfold zAU
  simp only
  rw [if_neg (fun e=>h (by rw [e]; rfl))]
def zJK (t : Bs) : Prop:=t ≠ [] ∧ t.length ≤ 2 ∧ t.head? ≠ some 48 ∧ t.all zHD = true
instance (t : Bs) : Decidable (zJK t):=by unfold zJK; exact inferInstance
end Go.AM
set_option maxRecDepth 20000
namespace Go.AM
section
variable {C : CSpec} {GT : Nat → Option AV}
def v3 (k n : Int) : AV:=.agg [.int .i64 k,.int .i64 n,.str []]
theorem zDI (hP : ∀ s p H,C zM [.str s,.str p] H (.bool (p.isPrefixOf s)) H) (s p : Bs) (H : Heap) : EFun C GT zAF [.str s,.str p] H (.str (if p.isPrefixOf s = true then s.drop p.length else s)) H:=by
 have hp:=hP s p H
 clear hP
 refine zr ?_
 by_cases h : p.isPrefixOf s = true
 ·rw [h] at hp
  rw [if_pos h]
  have hl : p.length ≤ s.length:=by rw [zAR,Bool.and_eq_true,decide_eq_true_iff] at h; exact h.1
  refine sW ?_; refine zR (v:=.str (s.drop p.length)) (zHN s p.length hl) ?_
  exact sRv
 ·rw [Bool.eq_false_iff.2 h] at hp
  rw [if_neg h]
  refine sW ?_
  exact sRv
theorem zFY (hP : ∀ s p H,C zU [.str s,.str p] H (.str (if p.isPrefixOf s = true then s.drop p.length else s)) H) (s p : Bs) (H : Heap) : EFun C GT zAf [.str s,.str p] H (.str (if p.isPrefixOf s = true then s.drop p.length else s)) H:=by
 have hp:=hP s p H
 clear hP
 refine zr <| sW ?_
 exact sRv
theorem zIG (s : Bs) : (if ([45] : Bs).isPrefixOf s = true then s.drop ([45] : Bs).length else s) = (zAU s).2:=by
 cases s with
 | nil=>rfl
 | cons c r=>
  unfold zAU
  simp only [List.isPrefixOf,Bool.and_true]
  by_cases h : c = 45
  ·subst h; simp
  ·rw [if_neg h,if_neg (by rw [beq_iff_eq]; exact fun e=>h e.symm)]
theorem zKW (s : Bs) : (zIE s [48,49,50,51,52,53,54,55,56,57] = []) ↔ s.all zHD = true:=by
 rw [zKU]
 have : (fun c : UInt8=>zBw [48,49,50,51,52,53,54,55,56,57] c.toNat) = zHD:=by
  funext c
  unfold zBw zHD
  rw [Bool.eq_iff_iff]
  simp only [List.any_cons,List.any_nil,Bool.or_false,Bool.or_eq_true,Bool.and_eq_true,decide_eq_true_eq,beq_iff_eq]
  have e : ∀ n : Nat,n < 256 → (UInt8.ofNat n).toNat = n:=fun n h=>by simp; omega
  have e48 : (48 : UInt8).toNat = 48:=rfl
  have e49 : (49 : UInt8).toNat = 49:=rfl
  have e50 : (50 : UInt8).toNat = 50:=rfl
  have e51 : (51 : UInt8).toNat = 51:=rfl
  have e52 : (52 : UInt8).toNat = 52:=rfl
  have e53 : (53 : UInt8).toNat = 53:=rfl
  have e54 : (54 : UInt8).toNat = 54:=rfl
  have e55 : (55 : UInt8).toNat = 55:=rfl
  have e56 : (56 : UInt8).toNat = 56:=rfl
  have e57 : (57 : UInt8).toNat = 57:=rfl
  rw [e48,e49,e50,e51,e52,e53,e54,e55,e56,e57]
  omega
 rw [this]
end
end Go.AM
set_option maxRecDepth 20000
namespace Go.AM
theorem zEu (n : Int) : zAU (zDF n) = (decide (n < 0),zAH n.natAbs):=by
 rw [zCp]
 by_cases hn : n < 0
 ·rw [if_pos hn,decide_eq_true hn]; rfl
 ·rw [if_neg hn,decide_eq_false hn,List.nil_append]
  refine zEt (fun h=>?_)
  cases e : zAH n.natAbs with
  | nil=>exact zC0 _ e
  | cons c r=>
   rw [e] at h
   simp only [List.head?_cons,Option.some.injEq] at h
   have:=zFS n.natAbs c (by rw [e]; simp)
   rw [h] at this
   exact absurd this (by decide)
theorem zKX (n : Int) : zCO (zDF n) ∧ zHP (zDF n) = n:=by
 unfold zCO zHP
 rw [zEu]
 refine ⟨⟨zC0 _,fun h=>?_,List.all_eq_true.2 (zFS _)⟩, ?_⟩
 ·have h0:=zGG _ h.1
  by_cases hn : n < 0
  ·have hv:=zFT n.natAbs
   rw [h0] at hv
   have : zEM [48] = 0:=rfl
   omega
  ·refine h.2 ?_
   rw [zCp,if_neg hn,List.nil_append]; exact h0
 ·show (if decide (n < 0) = true then -(zEM (zAH n.natAbs) : Int) else zEM (zAH n.natAbs)) = n
  rw [zFT]
  by_cases hn : n < 0
  ·rw [if_pos (decide_eq_true hn)]; omega
  ·rw [if_neg (by rw [decide_eq_false hn]; decide)]; omega
theorem zJL : zFU zLH = some ⟨[36],[],true,1,2⟩:=rfl
theorem zJM : zDG ⟨[36],[],true,1,2⟩ (-1234567) = zL2:=by decide +kernel
section
variable {C : CSpec} {GT : Nat → Option AV}
theorem zLI (n : Int) (H : Heap) : EFun C GT zCi [zCM n] H (zB8 1 n []) H:=by
 refine zr ?_; refine zR (v:=[AV.int IntKind.i64 1,zCM n,AV.str []]) rfl ?_; refine zI (v:=AV.agg [AV.int IntKind.i64 1,zCM n,AV.str []]) (AV.cells (AV.agg [AV.int IntKind.i64 1,zCM n,AV.str []])) zF rfl rfl rfl rfl ?_
 exact zFR (o:=0) rfl rfl (zAK (zC zF)) rfl rfl rfl (((Old.refl _).push _).set (by first | assumption | exact Nat.le_refl _ | omega | (simp only [List.length_set,List.length_append,List.length_cons,List.length_nil]; omega) | (simp; done) | (simp; omega)) _)
theorem zLJ (n : Int) (H : Heap) : EFun C GT zD0 [zCM n] H (zB8 1 n []) H:=by
 refine zr ?_; refine zR (v:=[AV.int IntKind.i64 1,zCM n,AV.str []]) rfl ?_; refine zI (v:=AV.agg [AV.int IntKind.i64 1,zCM n,AV.str []]) (AV.cells (AV.agg [AV.int IntKind.i64 1,zCM n,AV.str []])) zF rfl rfl rfl rfl ?_
 exact zFR (o:=0) rfl rfl (zAK (zC zF)) rfl rfl rfl (((Old.refl _).push _).set (by first | assumption | exact Nat.le_refl _ | omega | (simp only [List.length_set,List.length_append,List.length_cons,List.length_nil]; omega) | (simp; done) | (simp; omega)) _)
set_option maxHeartbeats 4000000 in
theorem zJN (s : Bs1) (hT : ∀ H,C zAY [.str (zAU s).2,.str [48,49,50,51,52,53,54,55,56,57]] H (.str []) H) (hP : ∀ H,C zm [.str s,.str [45]] H (.str (zAU s).2) H)
  (hA : ∀ H,C zAZ [.str s] H (.tup [zCM (zHP s),.nili]) H) (hf : zCO s) (H : Heap) : EFun C GT zCj [.str s] H (.tup [zCM (zHP s),.bool true]) H:=by
 obtain ⟨h1,h2,h3⟩:=hf
 generalize zHP s = n at hA
 generalize (zAU s).2 = d at *
 obtain ⟨c,r,rfl⟩ : ∃ c r,d = c :: r:=List.exists_cons_of_ne_nil h1
 have hc0 : (c :: r)[0]? = some c:=rfl
 have hne : ((c :: r) == ([] : Bs1)) = false:=rfl
 by_cases hc : c = 48
 ·have hs : s = [48]:=Decidable.byContradiction fun h=>h2 ⟨by rw [hc]; rfl,h⟩
  subst hs
  subst hc
  refine zr ?_; refine zB (hP _) ?_; refine zAI hne ?_; refine zFv (i:=0) rfl hc0 ?_; refine zP ?_; refine zP ?_; refine zAI hne ?_; refine zAI hne ?_; refine zB (hT _) ?_; refine zAI hne ?_; refine zAI hne ?_; refine zB (hA _) ?_; refine zR rfl ?_; refine zR rfl ?_; refine zR rfl ?_
  exact sRr
 ·have hb : (((c.toNat : Nat) : Int) == 48) = false:=tN (fun e=>hc (UInt8.toNat_inj.1 (by show c.toNat = 48; omega)))
  refine zr ?_; refine zB (hP _) ?_; refine zAI hne ?_; refine zFv (i:=0) rfl hc0 ?_; refine zAI hb ?_; refine zAI hne ?_; refine zAI hne ?_; refine zAI hne ?_; refine zB (hT _) ?_; refine zAI hne ?_; refine zAI hne ?_; refine zB (hA _) ?_; refine zR rfl ?_; refine zR rfl ?_; refine zR rfl ?_
  exact sRr
set_option maxHeartbeats 4000000 in
theorem zKY (n : Int) (hW : ∀ H,C zAj [.str (zDF n)] H (.tup [zCM n,.bool true]) H) (hN : ∀ H,C zBQ [zCM n] H (zB8 1 n []) H) (H : Heap) : EFun C GT zDC [.str (zDF n)] H (zB8 1 n []) H:=by
 have hne : (zDF n == ([] : Bs1)) = false:=by
  rw [zCp]
  cases e : zAH n.natAbs with
  | nil=>exact absurd e (zC0 _)
  | cons c r=>
   by_cases hn : n < 0
   ·rw [if_pos hn]; rfl
   ·rw [if_neg hn]; rfl
 generalize zDF n = s at hW hne
 refine zr ?_; refine zAI hne ?_; refine zB (hW _) ?_; refine zR rfl ?_; refine zR rfl ?_; refine zP ?_; refine zB (hN _) ?_; refine zI (v:=zB8 1 n []) (AV.cells (zB8 1 n [])) zF rfl rfl rfl rfl ?_
 exact zFR (o:=0) rfl rfl (zAK (zC zF)) rfl rfl rfl (((Old.refl _).push _).set (by first | assumption | exact Nat.le_refl _ | omega | (simp only [List.length_set,List.length_append,List.length_cons,List.length_nil]; omega) | (simp; done) | (simp; omega)) _)
end
end Go.AM
