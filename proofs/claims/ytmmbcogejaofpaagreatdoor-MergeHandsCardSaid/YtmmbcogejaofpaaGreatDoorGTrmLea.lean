/- Several texts of mine in one (Trm, Pre, Bg0, Fp2, Lea). Own work. -/
import Derived.Test.YtmmbcogejaofpaaGreatDoorGAm29Fq0
import Derived.Test.YtmmbcogejaofpaaGreatDoorMc
set_option linter.all false
set_option maxRecDepth 20000
namespace Go.AM
def zFu (g : Nat → Bool) : List AV:=rowF 256 (fB g)
def zFI (cs : Bs) (i : Nat) : Bool:=cs.any fun c=>c.toNat == i
def zID (s cs : Bs) : Bs:=(s.reverse.dropWhile (fun c=>zFI cs c.toNat)).reverse
def trimS (s cs : Bs) : Bs:=(zID s cs).dropWhile (fun c=>zFI cs c.toNat)
theorem splice_one {cs : List AV} {o : Nat} {v : AV} (h : o < cs.length) : splice cs o [v] = cs.set o v:=by
  unfold splice
  rw [List.set_eq_take_append_cons_drop,if_pos h]
  simp
theorem zDq (g : Nat → Bool) : (zFu g).length = 256:=rowF_len _ _
theorem setV_get {g : Nat → Bool} {i : Nat} (h : i < 256) : (zFu g)[i]? = some (.bool (g i)):=rowF_get h
theorem setV_step {cs : Bs} {k : Nat} {c : UInt8} (h : cs[k]? = some c) : splice (zFu (zFI (cs.take k))) c.toNat [.bool true] = zFu (zFI (cs.take (k + 1))):=by
  have hc : c.toNat < 256:=UInt8.toNat_lt c
  rw [splice_one (by rw [zDq]; exact hc)]
  unfold zFu
  rw [rowF_set]
  refine rowF_congr fun i hi=>?_
  obtain ⟨h1,h2⟩:=zg h
  have e : cs.take (k + 1) = cs.take k ++ [c]:=by rw [List.take_succ_eq_append_getElem h1,h2]
  unfold upd fB zFI
  rw [e,List.any_append]
  by_cases he : i = c.toNat
  · subst he; simp
  · rw [if_neg he]; simp [Ne.symm he]
theorem off0 {cs cs' : List AV} {n : Nat} {v : List AV} (h : splice cs n v = cs') : splice cs (0 + ((n : Int)).toNat * 1) v = cs':=by
  have e : 0 + ((n : Int)).toNat * 1 = n:=by omega
  rw [e]; exact h
theorem part_all (g : Nat → Bool) : part (zFu g) 0 256 true = some (.agg (zFu g)):=by
  simp only [part,if_true,zDq,List.drop_zero]
  rw [List.take_of_length_le (by rw [zDq]; exact Nat.le_refl _)]
  simp
theorem setV_frz (n : Nat) (g : Nat → Bool) (b : Bool) (H : Heap) : zCh n (.tup [.agg (zFu g),.bool b]) H = some (.tup [.agg (zFu g),.bool b],H):=by
  have h : ∀ l : List Nat,zHG n (l.map fun i=>AV.bool (g i)) H = some (l.map fun i=>AV.bool (g i),H):=by
    intro l
    induction l with
    | nil=>rfl
    | cons x l ih=>simp only [List.map_cons,zHG,zCh,ih]
  have h2 : zHG n (List.map (fB g) (List.range 256)) H = some (List.map (fB g) (List.range 256),H):=h (List.range 256)
  simp only [zCh,zHG,zFu,rowF,h2]
theorem setV_bel (n : Nat) (g : Nat → Bool) (b : Bool) : (AV.tup [.agg (zFu g),.bool b]).bel n = true:=by
  have h : AV.belL n (zFu g) = true:=by
    rw [AV.belL_iff]
    intro c hc
    unfold zFu rowF fB at hc
    obtain ⟨i,_,rfl⟩:=List.mem_map.1 hc
    rfl
  simp [AV.bel,AV.belL,h]
section
variable {C : CSpec} {GT : Nat → Option AV}
theorem contains_ev (b : Nat) (g : Nat → Bool) (c : UInt8) (H : Heap) (hb : H[b]? = some (.box (zFu g))) : EFun C GT zAp [pR b,byV c] H (.bool (g c.toNat)) H:=by
  have hc : c.toNat < 256:=UInt8.toNat_lt c
  refine zW ?_
  refine zGf ⟨by omega,by omega⟩ <| zC (.bool (g c.toNat)) hb (by simpa [part] using setV_get hc) ?_
  exact sRr
theorem mkSet_ev (cs : Bs) (H : Heap) (hcs : ∀ c ∈ cs,c.toNat < 128) (hl : cs.length ≤ 1000) : EFun C GT zBq [.str cs] H (.tup [.agg (zFu (zFI cs)),.bool true]) H:=by
  refine zW ?_
  refine zCC (fun k : Nat=>[(2,pR H.length),(4,zR k),(0,.str cs)]) (fun k H'=>H' = H ++ [.box (zFu (zFI (cs.take k)))] ∧ k ≤ cs.length) (fun k=>cs.length - k) 0 rfl ⟨rfl,Nat.zero_le _⟩ (fun k H1 ⟨e,hk⟩=>?_)
  subst e
  by_cases hlt : k < cs.length
  · obtain ⟨c,hc⟩ : ∃ c,cs[k]? = some c:=⟨_,List.getElem?_eq_getElem hlt⟩
    have h128:=hcs c (List.mem_of_getElem? hc)
    have hst:=setV_step hc
    refine zi tT <| zBt rfl hc <| zY tF <| zGf ⟨by omega,by omega⟩ <| zH (v:=.bool true) (zFu (zFI (cs.take (k + 1)))) zD rfl rfl (Nat.ble_eq_true_of_le (by rw [zDq]; omega)) (off0 hst) <| zh (r:=k + 1) rfl tO ?_
    refine zAq (k + 1) rfl ⟨?_,by omega⟩ tO
    rw [List.set_append_right _ _ (Nat.le_refl _),Nat.sub_self]; rfl
  · have : k = cs.length:=by omega
    subst this
    rw [List.take_length]
    refine zY tF <| zC (.agg (zFu (zFI cs))) zD (part_all _) <| zH (v:=.agg (zFu (zFI cs))) (zFu (zFI cs)) zD (zDq _) rfl rfl (by simp [splice,AV.cells,zDq]) ?_
    exact zAT (o:=0) rfl rfl (zX (zE zD)) (part_all _) rfl (setV_frz _ _ _ _) (setV_bel _ _ _) ((Old.push (Old.refl _) _).set (Nat.le_refl _) _)
theorem trimR_ev (hC : ∀ b g c H,H[b]? = some (.box (zFu g)) → C zb [pR b,byV c] H (.bool (g c.toNat)) H) (s cs : Bs) (b : Nat) (H : Heap) (hb : H[b]? = some (.box (zFu (zFI cs)))) (hl : s.length ≤ 1000) :
    EFun C GT zBR [.str s,pR b] H (.str (zID s cs)) H:=by
  obtain ⟨r,hr⟩ : ∃ r,zID s cs = r:=⟨_,rfl⟩
  rw [hr]
  refine zW ?_
  refine zCC (fun t : Bs=>[(0,.str t),(1,pR b)]) (fun t H'=>H' = H ∧ t.length ≤ 1000 ∧ zID t cs = r) (fun t=>t.length) s rfl ⟨rfl,hl,hr⟩ (fun t H1 ⟨e,htl,ht⟩=>?_)
  subst e
  by_cases h0 : t = []
  · subst h0
    unfold zID at ht
    simp only [List.reverse_nil,List.dropWhile_nil] at ht
    subst ht
    refine zY (tF (by simp)) ?_
    exact sRr
  · obtain ⟨u,c,rfl⟩ : ∃ u c,t = u ++ [c]:=⟨t.dropLast,t.getLast h0,(List.dropLast_concat_getLast h0).symm⟩
    have hlen : (u ++ [c]).length = u.length + 1:=by simp
    have hg : (u ++ [c])[u.length]? = some c:=by simp
    have hcc:=hC b (zFI cs) c H1 hb
    unfold zID at ht
    rw [List.reverse_append,List.reverse_singleton,List.singleton_append,List.dropWhile_cons] at ht
    by_cases hc : zFI cs c.toNat = true
    · rw [if_pos hc] at ht
      rw [hc] at hcc
      clear hC
      refine zi tT <| zh (r:=u.length) tO tO <| zBt rfl hg <| zG (hcc) <| zF <| zh (r:=u.length) tO tO ?_
      refine zJ (v:=.str ((u ++ [c]).take u.length)) (slice_up _ _ tO) ?_
      refine zAq u ?_ ⟨rfl,by omega,ht⟩ tO
      rw [List.take_left]; rfl
    · have hc:=Bool.eq_false_iff.2 hc
      rw [hc] at hcc ht
      simp only [Bool.false_eq_true,if_false,List.reverse_cons,List.reverse_reverse] at ht
      subst ht
      clear hC
      refine zi tT <| zh (r:=u.length) tO tO <| zBt rfl hg <| zG (hcc) <| zI ?_
      exact sRr
theorem trimL_ev (hC : ∀ b g c H,H[b]? = some (.box (zFu g)) → C zb [pR b,byV c] H (.bool (g c.toNat)) H) (s cs : Bs) (b : Nat) (H : Heap) (hb : H[b]? = some (.box (zFu (zFI cs)))) (hl : s.length ≤ 1000) :
    EFun C GT zBh [.str s,pR b] H (.str (s.dropWhile fun c=>zFI cs c.toNat)) H:=by
  obtain ⟨r,hr⟩ : ∃ r,(s.dropWhile fun c=>zFI cs c.toNat) = r:=⟨_,rfl⟩
  rw [hr]
  refine zW ?_
  refine zCC (fun t : Bs=>[(0,.str t),(1,pR b)]) (fun t H'=>H' = H ∧ t.length ≤ 1000 ∧ (t.dropWhile fun c=>zFI cs c.toNat) = r) (fun t=>t.length) s rfl ⟨rfl,hl,hr⟩ (fun t H1 ⟨e,htl,ht⟩=>?_)
  subst e
  cases t with
  | nil=>
    simp only [List.dropWhile_nil] at ht
    subst ht
    refine zY (tF (by simp)) ?_
    exact sRr
  | cons c u=>
    have hcc:=hC b (zFI cs) c H1 hb
    rw [List.dropWhile_cons] at ht
    have hlen : (c :: u).length = u.length + 1:=List.length_cons
    by_cases hc : zFI cs c.toNat = true
    · rw [if_pos hc] at ht
      rw [hc] at hcc
      clear hC
      refine zi tT <| zBt (i:=0) rfl rfl <| zG (hcc) <| zF <| zJ (v:=.str ((c :: u).drop 1)) (zFi _ 1 tO) ?_
      exact zAq u rfl ⟨rfl,by omega,ht⟩ tO
    · have hc:=Bool.eq_false_iff.2 hc
      rw [hc] at hcc ht
      simp only [Bool.false_eq_true,if_false] at ht
      subst ht
      clear hC
      refine zi tT <| zBt (i:=0) rfl rfl <| zG (hcc) <| zI ?_
      exact sRr
theorem dropW_nil (p : UInt8 → Bool) : ∀ l : Bs,(l.dropWhile p = []) ↔ l.all p = true
  | []=>by simp
  | c :: r=>by
    rw [List.dropWhile_cons,List.all_cons]
    by_cases h : p c = true
    · rw [if_pos h,h,Bool.true_and]; exact dropW_nil p r
    · have h:=Bool.eq_false_iff.2 h
      rw [h]; simp
theorem dropW_all (p : UInt8 → Bool) : ∀ l : Bs,(l.dropWhile p).all p = l.all p
  | []=>rfl
  | c :: r=>by
    rw [List.dropWhile_cons]
    by_cases h : p c = true
    · rw [if_pos h,List.all_cons,h,Bool.true_and]; exact dropW_all p r
    · have h:=Bool.eq_false_iff.2 h
      rw [h]; simp
theorem trim_nil (s cs : Bs) : (trimS s cs = []) ↔ s.all (fun c=>zFI cs c.toNat) = true:=by
  unfold trimS zID
  rw [dropW_nil,List.all_reverse,dropW_all,List.all_reverse]
theorem trim_ev' (hM : ∀ cs H,(∀ c ∈ cs,c.toNat < 128) → cs.length ≤ 1000 → C zAd [.str cs] H (.tup [.agg (zFu (zFI cs)),.bool true]) H)
    (hR : ∀ s cs b H,H[b]? = some (.box (zFu (zFI cs))) → s.length ≤ 1000 → C zAK [.str s,pR b] H (.str (zID s cs)) H)
    (hL : ∀ s cs b H,H[b]? = some (.box (zFu (zFI cs))) → s.length ≤ 1000 → C zAS [.str s,pR b] H (.str (s.dropWhile fun c=>zFI cs c.toNat)) H)
    (s cs : Bs) (H : Heap) (hcs : ∀ c ∈ cs,c.toNat < 128) (hc2 : 2 ≤ cs.length) (hcl : cs.length ≤ 1000) (hl : s.length ≤ 1000) : EFun C GT zD1 [.str s,.str cs] H (.str (trimS s cs)) H:=by
  refine zW ?_
  have hne : cs ≠ []:=fun e=>by subst e; simp at hc2
  have hml:=hM cs H hcs hcl
  have hle : (zID s cs).length ≤ s.length:=by
    unfold zID
    rw [List.length_reverse]
    have:=(List.dropWhile_suffix (l:=s.reverse) (fun c=>zFI cs c.toNat)).length_le
    rwa [List.length_reverse] at this
  by_cases h0 : s = []
  · subst h0
    refine zI <| zI <| zI ?_
    exact sRr
  have hst : ∀ (H : Heap),H[H.length]? = none:=fun H=>by simp
  have hrr:=hR s cs H.length
  have hll:=hL (zID s cs) cs H.length
  clear hM hR hL
  refine zY (tN h0) <| zF <| zY (tN hne) <| zY tN <| zF <| zF ?_
  refine zG (hml) <| zJ rfl <| zJ rfl <| zH (v:=.agg (zFu (zFI cs))) (zFu (zFI cs)) zD (zDq _) rfl rfl (by simp [splice,AV.cells,zDq]) <| zI <| zG (hrr _ (zE zD) hl) ?_
  refine zG (hll _ (zE zD) tO) ?_
  exact zBv rfl rfl rfl rfl (((Old.refl _).push _).set (by first | assumption | exact Nat.le_refl _ | simp | omega) _)
end
end Go.AM
namespace Go.AM
theorem slice_to' (s : List UInt8) (n : Nat) (h : n ≤ s.length) : zA9 none (.str s) none (some (.int .i64 (n : Int))) = some (.str (s.take n)):=by
  simp only [zA9,zCH,aHi,aLo]
  rw [if_pos ⟨by omega,by omega⟩]
  simp
theorem zDF : ∀ (p s : List UInt8),p.isPrefixOf s = (decide (p.length ≤ s.length) && (s.take p.length == p))
  | [],s=>by simp
  | a :: p,[]=>by simp
  | a :: p,b :: s=>by
    simp only [List.isPrefixOf,zDF p s,List.length_cons,List.take_succ_cons]
    rw [Bool.eq_iff_iff]
    simp only [Bool.and_eq_true,beq_iff_eq,decide_eq_true_eq,List.cons.injEq]
    constructor
    · rintro ⟨h1,h2,h3⟩; exact ⟨by omega,h1.symm,h3⟩
    · rintro ⟨h1,h2,h3⟩; exact ⟨h2.symm,by omega,h3⟩
section
variable {C : CSpec} {GT : Nat → Option AV}
theorem sl_prefix_ev (s p : List UInt8) (H : Heap) : EFun C GT zBg [.str s,.str p] H (.bool (p.isPrefixOf s)) H:=by
  refine sCond (fun h=>?_) (fun h=>?_)
  · have h : p.length ≤ s.length:=by
      have:=of_decide_eq_true h
      omega
    have e : p.isPrefixOf s = (s.take p.length == p):=by rw [zDF,decide_eq_true h,Bool.true_and]
    rw [e]
    refine zJ (slice_to' s p.length h) <| zI ?_
    exact sRr
  · have h : ¬ p.length ≤ s.length:=by
      have:=of_decide_eq_false h
      omega
    have e : p.isPrefixOf s = false:=by rw [zDF,decide_eq_false h,Bool.false_and]
    rw [e]
    refine zF ?_
    exact sRr
theorem prefix_ev (hS : ∀ s p H,C zq [.str s,.str p] H (.bool (p.isPrefixOf s)) H) (s p : List UInt8) (H : Heap) : EFun C GT zCK [.str s,.str p] H (.bool (p.isPrefixOf s)) H:=by
  refine zG (hS s p H) ?_
  exact sRr
end
end Go.AM
namespace Go.AM
def zIE (n : Int) : Prop:=-9223372036854775808 ≤ n ∧ n ≤ 9223372036854775807
instance (n : Int) : Decidable (zIE n):=by unfold zIE; exact inferInstance
def bitsF : Nat → Nat → Nat
  | 0,_=>0
  | f + 1,n=>if n = 0 then 0 else bitsF f (n / 2) + 1
def bits (n : Nat) : Nat:=bitsF n n
end Go.AM
set_option maxRecDepth 20000
namespace Go.AM
def zB7 (s : Bs) : Bool × Bs:=
  match s with
  | []=>(false,[])
  | c :: r=>if c = 45 then (true,r) else (false,c :: r)
def zCM (s : Bs) : Prop:=(zB7 s).2 ≠ [] ∧ ¬ ((zB7 s).2.head? = some 48 ∧ s ≠ [48]) ∧ (zB7 s).2.all digB = true
instance (s : Bs) : Decidable (zCM s):=by unfold zCM; exact inferInstance
def zIF (s : Bs) : Int:=if (zB7 s).1 = true then -(zDo (zB7 s).2 : Int) else zDo (zB7 s).2
def wholeS (s : Bs) : Option Int:=if zCM s then (if zIE (zIF s) then some (zIF s) else none) else none
theorem zHY {t : Bs} (h : t.head? ≠ some 45) : zB7 t = (false,t):=by
  cases t with
  | nil=>rfl
  | cons c r=>
    unfold zB7
    simp only
    rw [if_neg (fun e=>h (by rw [e]; rfl))]
theorem zJQ {t : Bs} (h1 : t ≠ []) (h2 : ¬ (t.head? = some 48 ∧ t ≠ [48])) (h3 : t.all digB = true) : zHt t = if zDo t ≤ 9223372036854775807 then some (zDo t : Int) else none:=by
  unfold zHt
  rw [if_neg (fun x=>x.elim h1 h2),if_pos h3]
theorem wholeP_no {t : Bs} (h : ¬ (t ≠ [] ∧ ¬ (t.head? = some 48 ∧ t ≠ [48]) ∧ t.all digB = true)) : zHt t = none:=by
  unfold zHt
  split
  · rfl
  · rename_i h1
    rw [if_neg (fun h3=>h ⟨fun e=>h1 (.inl e),fun e=>h1 (.inr e),h3⟩)]
theorem wholeS_of {t : Bs} (h : t.head? ≠ some 45) : wholeS t = zHt t:=by
  have hd : zCM t ↔ (t ≠ [] ∧ ¬ (t.head? = some 48 ∧ t ≠ [48]) ∧ t.all digB = true):=by unfold zCM; rw [zHY h]
  have hv : zIF t = zDo t:=by unfold zIF; rw [zHY h]; rfl
  unfold wholeS
  rw [hv]
  by_cases hf : zCM t
  · obtain ⟨h1,h2,h3⟩:=hd.1 hf
    rw [if_pos hf,zJQ h1 h2 h3]
    by_cases h4 : zDo t ≤ 9223372036854775807
    · rw [if_pos h4,if_pos (show zIE (zDo t : Int) by unfold zIE; omega)]
    · rw [if_neg h4,if_neg (show ¬ zIE (zDo t : Int) by unfold zIE; omega)]
  · rw [if_neg hf,wholeP_no (fun x=>hf (hd.2 x))]
theorem decF (l : Bs) : ∀ n : Nat,l.foldl (fun n c=>n * 10 + (c.toNat - 48)) n = n * 10 ^ l.length + zDo l:=by
  unfold zDo
  induction l with
  | nil=>intro n; simp
  | cons c r ih=>
    intro n
    simp only [List.foldl_cons,List.length_cons]
    rw [ih,ih (0 * 10 + (c.toNat - 48)),Nat.pow_succ,Nat.add_mul,Nat.zero_mul,Nat.zero_add]
    have : n * 10 * 10 ^ r.length = n * (10 ^ r.length * 10):=by rw [Nat.mul_assoc,Nat.mul_comm 10]
    omega
theorem decV_cons (c : UInt8) (r : Bs) : zDo (c :: r) = (c.toNat - 48) * 10 ^ r.length + zDo r:=by
  show (c :: r).foldl _ 0 = _
  rw [List.foldl_cons,decF]; simp
theorem decV_snoc (l : Bs) (c : UInt8) : zDo (l ++ [c]) = zDo l * 10 + (c.toNat - 48):=by unfold zDo; rw [List.foldl_append]; rfl
theorem zIS (c : UInt8) : digB c = true ↔ 48 ≤ c.toNat ∧ c.toNat ≤ 57:=by unfold digB; rw [Bool.and_eq_true,decide_eq_true_iff,decide_eq_true_iff]
theorem capB_iff (c : UInt8) : capB c = true ↔ 65 ≤ c.toNat ∧ c.toNat ≤ 90:=by unfold capB; rw [Bool.and_eq_true,decide_eq_true_iff,decide_eq_true_iff]
theorem decV_lt : ∀ l : Bs,l.all digB = true → zDo l < 10 ^ l.length
  | [],_=>by simp [zDo]
  | c :: r,h=>by
    rw [List.all_cons,Bool.and_eq_true] at h
    have h1:=(zIS c).1 h.1
    have h2:=decV_lt r h.2
    rw [decV_cons,List.length_cons,Nat.pow_succ]
    have : (c.toNat - 48) * 10 ^ r.length ≤ 9 * 10 ^ r.length:=Nat.mul_le_mul_right _ tO
    omega
theorem decV_ge {c : UInt8} {r : Bs} (h : 49 ≤ c.toNat) : 10 ^ r.length ≤ zDo (c :: r):=by
  rw [decV_cons]
  have : 1 * 10 ^ r.length ≤ (c.toNat - 48) * 10 ^ r.length:=Nat.mul_le_mul_right _ tO
  omega
def zHZ (t : Bs) : Prop:=t ≠ [] ∧ t.length ≤ 2 ∧ t.head? ≠ some 48 ∧ t.all digB = true
instance (t : Bs) : Decidable (zHZ t):=by unfold zHZ; exact inferInstance
theorem rowP_is (fc : Bool) (col : Int) (p : Bool × Bs) : rowP fc col p = if zHZ p.2 then some ⟨col,zDo p.2,fc,p.1⟩ else none:=by
  obtain ⟨d,t⟩:=p
  unfold rowP
  simp only
  by_cases hf : zHZ t
  · obtain ⟨h1,h2,h3,h4⟩:=hf
    rw [if_pos ⟨h1,h2,h3,h4⟩,zJQ h1 (fun x=>h3 x.1) h4]
    obtain ⟨c,r,rfl⟩ : ∃ c r,t = c :: r:=List.exists_cons_of_ne_nil h1
    have hlt:=decV_lt _ h4
    have hc:=(zIS c).1 (by rw [List.all_cons,Bool.and_eq_true] at h4; exact h4.1)
    have h49 : 49 ≤ c.toNat:=by
      have : c.toNat ≠ 48:=fun e=>h3 (by rw [show c = 48 from UInt8.toNat_inj.1 e]; rfl)
      omega
    have hge:=decV_ge (r:=r) h49
    have hp : 10 ^ (c :: r).length ≤ 10 ^ 2:=Nat.pow_le_pow_right tO h2
    have hq : 0 < 10 ^ r.length:=Nat.pow_pos tO
    have e2 : (10 : Nat) ^ 2 = 100:=rfl
    rw [if_pos tO]
    simp only
    rw [if_pos ⟨by omega,by omega⟩]
  · rw [if_neg hf]
    by_cases hw : t ≠ [] ∧ ¬ (t.head? = some 48 ∧ t ≠ [48]) ∧ t.all digB = true
    · obtain ⟨h1,h2,h4⟩:=hw
      rw [zJQ h1 h2 h4]
      by_cases h0 : t.head? = some 48
      · have : t = [48]:=Decidable.byContradiction fun e=>h2 ⟨h0,e⟩
        subst this
        rfl
      · obtain ⟨c,r,rfl⟩ : ∃ c r,t = c :: r:=List.exists_cons_of_ne_nil h1
        have hc:=(zIS c).1 (by rw [List.all_cons,Bool.and_eq_true] at h4; exact h4.1)
        have h49 : 49 ≤ c.toNat:=by
          have : c.toNat ≠ 48:=fun e=>h0 (by rw [show c = 48 from UInt8.toNat_inj.1 e]; rfl)
          omega
        have hge:=decV_ge (r:=r) h49
        have hl : 2 ≤ r.length:=by
          rcases Nat.lt_or_ge r.length 2 with h | h
          · exact absurd ⟨h1,by simp only [List.length_cons]; omega,h0,h4⟩ hf
          · exact h
        have hp : 10 ^ 2 ≤ 10 ^ r.length:=Nat.pow_le_pow_right tO hl
        have e2 : (10 : Nat) ^ 2 = 100:=rfl
        split
        · rename_i n hn
          split at hn
          · cases hn
            rw [if_neg tO]
          · cases hn
        · rfl
    · rw [wholeP_no hw]
def litP (s : Bs) : Option (Int × Int):=
  if s = trueW then some (3,1) else if s = zJL then some (3,0) else
  if s = [35,68,73,86,33] then some (4,1) else if s = [35,86,65,76,85,69,33] then some (4,2) else if s = [35,82,69,70,33] then some (4,3) else
  if s = [35,78,65,77,69,33] then some (4,4) else if s = [35,78,85,77,33] then some (4,5) else if s = [35,78,79,78,69,33] then some (4,6) else none
end Go.AM
set_option maxRecDepth 20000
namespace Go.AM
def v3 (k n : Int) : AV:=.agg [.int .i64 k,.int .i64 n,.str []]
def textsV : AV:=.agg [.str [],.str [35,68,73,86,33],.str [35,86,65,76,85,69,33],.str [35,82,69,70,33],.str [35,78,65,77,69,33],.str [35,78,85,77,33],.str [35,78,79,78,69,33]]
def litV (r : Option (Int × Int)) : AV:=match r with
  | some (k,n)=>.tup [v3 k n,.bool true]
  | none=>.tup [v3 0 0,.bool false]
def wholeV (r : Option Int) (n0 : Int) : AV:=match r with
  | some n=>.tup [zr n,.bool true]
  | none=>.tup [zr n0,.bool false]
def rV (r : RefP) : AV:=.agg [.int .i64 r.col,.int .i64 r.row,.bool r.fc,.bool r.fr]
def refV (r : Option RefP) : AV:=match r with
  | some r=>.tup [rV r,.nili]
  | none=>.tup [rV noRef,zEX 2]
def zG7 (r : Option Nd) : AV:=match r with
  | some n=>.tup [ndV n,.bool true]
  | none=>.tup [ndV z6,.bool false]
section
variable {C : CSpec} {GT : Nat → Option AV}
theorem zIG (hP : ∀ s p H,C zq [.str s,.str p] H (.bool (p.isPrefixOf s)) H) (s p : Bs) (H : Heap) : EFun C GT zBS [.str s,.str p] H (.str (if p.isPrefixOf s = true then s.drop p.length else s)) H:=by
  have hp:=hP s p H
  clear hP
  refine zW ?_
  by_cases h : p.isPrefixOf s = true
  · rw [h] at hp
    rw [if_pos h]
    have hl : p.length ≤ s.length:=by rw [zDF,Bool.and_eq_true,decide_eq_true_iff] at h; exact h.1
    refine zG (hp) <| zI <| zJ (v:=.str (s.drop p.length)) (zFi s p.length hl) ?_
    exact sRr
  · rw [Bool.eq_false_iff.2 h] at hp
    rw [if_neg h]
    refine zG (hp) <| zF ?_
    exact sRr
theorem trimPrefix_ev (hP : ∀ s p H,C zAL [.str s,.str p] H (.str (if p.isPrefixOf s = true then s.drop p.length else s)) H) (s p : Bs) (H : Heap) : EFun C GT zB9 [.str s,.str p] H (.str (if p.isPrefixOf s = true then s.drop p.length else s)) H:=by
  have hp:=hP s p H
  clear hP
  refine zW ?_
  refine zG (hp) ?_
  exact sRr
theorem wrong_ev (n : Int) (H : Heap) : EFun C GT zEg [zr n] H (v3 4 n) H:=by
  refine zW ?_
  refine zJ (v:=[.int .i64 4,zr n,AV.str []]) rfl <| zH (v:=AV.agg [.int .i64 4,zr n,AV.str []]) (AV.cells (AV.agg [.int .i64 4,zr n,AV.str []])) zD rfl rfl rfl rfl ?_
  exact zIQ (o:=0) rfl rfl (zX (zE zD)) rfl rfl rfl (((Old.refl _).push _).set (by first | assumption | exact Nat.le_refl _ | simp | omega) _)
theorem is_ev (b : Bool) (H : Heap) : EFun C GT zHU [.bool b] H (v3 3 (if b = true then 1 else 0)) H:=by
  refine zW ?_
  cases b
  · refine zJ (v:=[.int .i64 3,.int .i64 0,AV.str []]) rfl <| zH (v:=AV.agg [.int .i64 3,.int .i64 0,AV.str []]) (AV.cells (AV.agg [.int .i64 3,.int .i64 0,AV.str []])) zD rfl rfl rfl rfl <| zF <| zC (AV.agg [.int .i64 3,.int .i64 0,AV.str []]) (zE zD) rfl <| zH (v:=AV.agg [.int .i64 3,.int .i64 0,AV.str []]) (AV.cells (AV.agg [.int .i64 3,.int .i64 0,AV.str []])) (zB (by first | assumption | simp | omega) (zA zD)) rfl rfl rfl rfl ?_
    exact zIQ (o:=0) rfl rfl (zX (zE (zB (by first | assumption | simp | omega) (zA zD)))) rfl rfl rfl (((((Old.refl _).push _).push _).set (by first | assumption | exact Nat.le_refl _ | simp | omega) _).set (by first | assumption | exact Nat.le_refl _ | simp | omega) _)
  · refine zJ (v:=[.int .i64 3,.int .i64 0,AV.str []]) rfl <| zH (v:=AV.agg [.int .i64 3,.int .i64 0,AV.str []]) (AV.cells (AV.agg [.int .i64 3,.int .i64 0,AV.str []])) zD rfl rfl rfl rfl <| zI <| zH (v:=.int .i64 1) [.int .i64 3,.int .i64 1,AV.str []] (zE zD) rfl rfl rfl rfl <| zC (AV.agg [.int .i64 3,.int .i64 1,AV.str []]) (zE (zE zD)) rfl <| zH (v:=AV.agg [.int .i64 3,.int .i64 1,AV.str []]) (AV.cells (AV.agg [.int .i64 3,.int .i64 1,AV.str []])) (zB (by first | assumption | simp | omega) (zB (by first | assumption | simp | omega) (zA zD))) rfl rfl rfl rfl ?_
    exact zIQ (o:=0) rfl rfl (zX (zE (zB (by first | assumption | simp | omega) (zB (by first | assumption | simp | omega) (zA zD))))) rfl rfl rfl ((((((Old.refl _).push _).push _).set (by first | assumption | exact Nat.le_refl _ | simp | omega) _).set (by first | assumption | exact Nat.le_refl _ | simp | omega) _).set (by first | assumption | exact Nat.le_refl _ | simp | omega) _)
theorem digs_all (s : Bs) : (trimS s [48,49,50,51,52,53,54,55,56,57] = []) ↔ s.all digB = true:=by
  rw [trim_nil]
  have : (fun c : UInt8=>zFI [48,49,50,51,52,53,54,55,56,57] c.toNat) = digB:=by
    funext c
    unfold zFI digB
    rw [Bool.eq_iff_iff]
    simp only [List.any_cons,List.any_nil,Bool.or_false,Bool.or_eq_true,Bool.and_eq_true,decide_eq_true_eq,beq_iff_eq]
    have e : ∀ n : Nat,n < 256 → (UInt8.ofNat n).toNat = n:=fun n h=>by simp; omega
    have e48 : (48 : UInt8).toNat = 48:=rfl
    have e49 : (49 : UInt8).toNat = 49:=rfl
    have e50 : (50 : UInt8).toNat = 50:=rfl
    have e51 : (51 : UInt8).toNat = 51:=rfl
    have e52 : (52 : UInt8).toNat = 52:=rfl
    have e53 : (53 : UInt8).toNat = 53:=rfl
    have e54 : (54 : UInt8).toNat = 54:=rfl
    have e55 : (55 : UInt8).toNat = 55:=rfl
    have e56 : (56 : UInt8).toNat = 56:=rfl
    have e57 : (57 : UInt8).toNat = 57:=rfl
    rw [e48,e49,e50,e51,e52,e53,e54,e55,e56,e57]
    omega
  rw [this]
def capsL : Bs:=[65,66,67,68,69,70,71,72,73,74,75,76,77,78,79,80,81,82,83,84,85,86,87,88,89,90]
theorem caps_tab : ∀ n : Fin 256,zFI capsL n.val = (decide (65 ≤ n.val) && decide (n.val ≤ 90)):=by decide +kernel
theorem caps_all (s : Bs) : (trimS s capsL = []) ↔ s.all capB = true:=by
  rw [trim_nil]
  have : (fun c : UInt8=>zFI capsL c.toNat) = capB:=by
    funext c
    exact caps_tab ⟨c.toNat,UInt8.toNat_lt c⟩
  rw [this]
theorem called_ev (hT : ∀ s cs H,(∀ c ∈ cs,c.toNat < 128) → 2 ≤ cs.length → cs.length ≤ 1000 → s.length ≤ 1000 → C zBI [.str s,.str cs] H (.str (trimS s cs)) H) (s : Bs) (H : Heap) (hl : s.length ≤ 1000) : EFun C GT zC4 [.str s] H (.bool (zDR s)) H:=by
  obtain ⟨r,hr⟩ : ∃ r,zDR s = r:=⟨_,rfl⟩
  rw [hr]
  unfold zDR at hr
  have ht:=hT s capsL H (by decide) (by decide) (by decide) hl
  clear hT
  refine zW ?_
  by_cases h1 : 2 ≤ s.length
  · by_cases h2 : s.length ≤ 10
    · rw [decide_eq_true h1,decide_eq_true h2,Bool.true_and,Bool.true_and] at hr
      refine zi tT <| zI <| zi tT <| zG (ht) <| zI ?_
      refine sRetE (v0:=.bool (trimS s capsL == [])) (congrArg AV.bool ?_) rfl rfl rfl rfl (Old.refl _)
      rw [← hr,Bool.eq_iff_iff,beq_iff_eq,caps_all]
    · rw [decide_eq_false h2,Bool.and_false,Bool.false_and] at hr
      subst hr
      refine zi tT <| zI <| zY tF <| zF ?_
      exact sRr
  · rw [decide_eq_false h1,Bool.false_and,Bool.false_and] at hr
    subst hr
    refine zY tF <| zF <| zF <| zF ?_
    exact sRr
theorem dollar_ev (b : Nat) (t : Bs) (H : Heap) (hb : H[b]? = some (.box [.str t])) (x' : AV) : zC5 C GT zEj [pR b] H b [.undef] x' (some (.bool (dollar t).1,.box [.str (dollar t).2])):=by
  refine zAH ?_
  cases t with
  | nil=>
    refine zC (AV.str []) hb rfl <| zF <| zF <| zF ?_
    exact sRetO _ (by first | rfl | assumption) rfl rfl rfl rfl (OldB.start hb) rfl
  | cons c r=>
    by_cases h : c = 36
    · subst h
      have e : dollar (36 :: r) = (true,r):=rfl
      rw [e]
      refine zC (AV.str (36 :: r)) hb rfl <| zI <| zC (AV.str (36 :: r)) hb rfl <| zBt (i:=0) rfl rfl <| zI <| zi (tE (by rfl)) ?_
      refine zC (AV.str (36 :: r)) hb rfl <| zJ (v:=.str r) (zFi (36 :: r) 1 (by simp)) <| zH (v:=AV.str r) [AV.str r] hb rfl rfl rfl rfl ?_
      exact sRetO _ (by first | rfl | assumption) rfl rfl rfl rfl ((OldB.start hb).setB _) rfl
    · have hn : c.toNat ≠ 36:=fun e=>h (UInt8.toNat_inj.1 e)
      have e : dollar (c :: r) = (false,c :: r):=if_neg h
      rw [e]
      refine zC (AV.str (c :: r)) hb rfl <| zI <| zC (AV.str (c :: r)) hb rfl <| zBt (i:=0) rfl rfl <| zI <| zY tN ?_
      exact sRetO _ (by first | rfl | assumption) rfl rfl rfl rfl (OldB.start hb) rfl
theorem whole_ev (hT : ∀ s cs H,(∀ c ∈ cs,c.toNat < 128) → 2 ≤ cs.length → cs.length ≤ 1000 → s.length ≤ 1000 → C zBI [.str s,.str cs] H (.str (trimS s cs)) H) (hP : ∀ s H,C zAW [.str s,.str [45]] H (.str (zB7 s).2) H)
    (hA : ∀ s H,zCM s → zIE (zIF s) → s.length ≤ 1000 → C zAl [.str s] H (.tup [zr (zIF s),.nili]) H) (hA2 : ∀ s H,zCM s → ¬ zIE (zIF s) → s.length ≤ 1000 → ∃ n t,C zAl [.str s] H (.tup [zr n,.iface t .undef]) H)
    (s : Bs) (H : Heap) (hl : s.length ≤ 1000) : ∃ n0,EFun C GT zEh [.str s] H (wholeV (wholeS s) n0) H:=by
  have hp:=hP s H
  have hdl : (zB7 s).2.length ≤ 1000:=by
    unfold zB7
    split
    · simp
    · rename_i c r
      simp only [List.length_cons] at hl
      split <;> simp only [List.length_cons] <;> omega
  have ht:=hT (zB7 s).2 [48,49,50,51,52,53,54,55,56,57] H (by decide) (by decide) (by decide) hdl
  have hda:=digs_all (zB7 s).2
  have hdf : zCM s ↔ ((zB7 s).2 ≠ [] ∧ ¬ ((zB7 s).2.head? = some 48 ∧ s ≠ [48]) ∧ (zB7 s).2.all digB = true):=Iff.rfl
  have ha:=hA s H
  have ha2:=hA2 s H
  clear hT hP hA hA2
  unfold wholeS
  obtain ⟨d,hd⟩ : ∃ d,(zB7 s).2 = d:=⟨_,rfl⟩
  rw [hd] at hp ht hda hdf
  generalize trimS d [48,49,50,51,52,53,54,55,56,57] = tr at *
  by_cases hf : zCM s
  · rw [if_pos hf]
    obtain ⟨h1,h2,h3⟩:=hdf.1 hf
    have htr : tr = []:=hda.2 h3
    subst htr
    obtain ⟨c,r,rfl⟩ : ∃ c r,d = c :: r:=List.exists_cons_of_ne_nil h1
    have hres : ∃ n x,C zAl [.str s] H (.tup [zr n,x]) H ∧ ((x = .nili ∧ (if zIE (zIF s) then some (zIF s) else none : Option Int) = some n) ∨ ((∃ t,x = .iface t .undef) ∧ (if zIE (zIF s) then some (zIF s) else none : Option Int) = none)):=by
      by_cases hi : zIE (zIF s)
      · exact ⟨_,_,ha hf hi hl,.inl ⟨rfl,by rw [if_pos hi]⟩⟩
      · obtain ⟨n,t,h⟩:=ha2 hf hi hl
        exact ⟨n,_,h,.inr ⟨⟨t,rfl⟩,by rw [if_neg hi]⟩⟩
    obtain ⟨n,x,hat,hx⟩:=hres
    clear ha ha2
    have h48 : c.toNat = 48 → s = [48]:=fun e=>Decidable.byContradiction fun h=>h2 ⟨by rw [show c = 48 from UInt8.toNat_inj.1 e]; rfl,h⟩
    by_cases hc : c.toNat = 48
    · have:=h48 hc
      rcases hx with ⟨rfl,e⟩ | ⟨⟨t,rfl⟩,e⟩
      · rw [e]
        refine ⟨n,zW ?_⟩
        refine zG (hp) <| zF <| zBt (i:=0) rfl rfl ?_
        refine zi tE <| zI <| zF <| zY (bne_eq_false_iff_eq.2 this) <| zG (ht) ?_
        refine zF <| zF <| zG (hat) <| zJ rfl <| zJ rfl <| zJ rfl ?_
        exact sRr
      · rw [e]
        refine ⟨n,zW ?_⟩
        refine zG (hp) <| zF <| zBt (i:=0) rfl rfl ?_
        refine zi tE <| zI <| zF <| zY (bne_eq_false_iff_eq.2 this) <| zG (ht) ?_
        refine zF <| zF <| zG (hat) <| zJ rfl <| zJ rfl <| zJ rfl ?_
        exact sRr
    · rcases hx with ⟨rfl,e⟩ | ⟨⟨t,rfl⟩,e⟩
      · rw [e]
        refine ⟨n,zW ?_⟩
        refine zG (hp) <| zY tN <| zBt (i:=0) rfl rfl ?_
        refine zY tN <| zF <| zF <| zF <| zG (ht) ?_
        refine zF <| zF <| zG (hat) <| zJ rfl <| zJ rfl <| zJ rfl ?_
        exact sRr
      · rw [e]
        refine ⟨n,zW ?_⟩
        refine zG (hp) <| zY tN <| zBt (i:=0) rfl rfl ?_
        refine zY tN <| zF <| zF <| zF <| zG (ht) ?_
        refine zF <| zF <| zG (hat) <| zJ rfl <| zJ rfl <| zJ rfl ?_
        exact sRr
  · rw [if_neg hf]
    refine ⟨0,zW ?_⟩
    clear ha ha2
    cases d with
    | nil => refine zG (hp) ?_
             refine zI <| zI <| zI <| zI <| zI ?_
             exact sRr
    | cons c r=>
      by_cases hc : c.toNat = 48
      · by_cases hs : s = [48]
        · have htr : tr ≠ []:=fun e=>hf (hdf.2 ⟨by simp,fun x=>x.2 hs,hda.1 e⟩)
          refine zG (hp) <| zF <| zBt (i:=0) rfl rfl ?_
          refine zi tE <| zI <| zF <| zY (bne_eq_false_iff_eq.2 hs) <| zG (ht) ?_
          refine zF <| zi (bne_iff_ne.2 htr) ?_
          exact sRr
        · refine zG (hp) <| zF <| zBt (i:=0) rfl rfl ?_
          refine zi tE <| zI <| zF <| zi (bne_iff_ne.2 hs) <| zI <| zI ?_
          exact sRr
      · have htr : tr ≠ []:=fun e=>hf (hdf.2 ⟨by simp,fun x=>hc (by have:=x.1; simp only [List.head?_cons,Option.some.injEq] at this; rw [this]; rfl),hda.1 e⟩)
        refine zG (hp) <| zF <| zBt (i:=0) rfl rfl ?_
        refine zY tN <| zF <| zF <| zF <| zG (ht) ?_
        refine zF <| zi (bne_iff_ne.2 htr) ?_
        exact sRr
theorem textsV_get (k : Nat) (h : k < 7) : ∃ t : Bs,[AV.str [],.str [35,68,73,86,33],.str [35,86,65,76,85,69,33],.str [35,82,69,70,33],.str [35,78,65,77,69,33],.str [35,78,85,77,33],.str [35,78,79,78,69,33]][k]? = some (.str t) ∧ (∀ s : Bs,s ≠ [] → s ≠ trueW → s ≠ zJL → (t = s → litP s = some (4,(k : Int)))) ∧ (k = 0 → t = []):=by
  rcases k with _ | _ | _ | _ | _ | _ | _ | k
  · exact ⟨_,rfl,fun s h _ _ e=>absurd e.symm h,fun _=>rfl⟩
  · exact ⟨_,rfl,fun s _ h1 h2 e=>by subst e; rfl,fun h=>by cases h⟩
  · exact ⟨_,rfl,fun s _ h1 h2 e=>by subst e; rfl,fun h=>by cases h⟩
  · exact ⟨_,rfl,fun s _ h1 h2 e=>by subst e; rfl,fun h=>by cases h⟩
  · exact ⟨_,rfl,fun s _ h1 h2 e=>by subst e; rfl,fun h=>by cases h⟩
  · exact ⟨_,rfl,fun s _ h1 h2 e=>by subst e; rfl,fun h=>by cases h⟩
  · exact ⟨_,rfl,fun s _ h1 h2 e=>by subst e; rfl,fun h=>by cases h⟩
  · omega
theorem literal_ev (hG : GT zEe = some textsV) (hI : ∀ b H,C zCQ [.bool b] H (v3 3 (if b = true then 1 else 0)) H) (hW : ∀ n H,C zCX [zr n] H (v3 4 n) H) (s : Bs) (H : Heap) :
    EFun C GT zDO [.str s] H (litV (litP s)) H:=by
  refine zW ?_
  by_cases h1 : s = trueW
  · have e : litP s = some (3,1):=if_pos h1
    have h1' : (s == [84,82,85,69]) = true:=tE h1
    have hi : C zCQ [.bool true] (H ++ [.box [.int .i64 0,.int .i64 0,.str []]]) (v3 3 1) (H ++ [.box [.int .i64 0,.int .i64 0,.str []]]):=hI true _
    clear hI hW
    rw [e]
    refine zi h1' <| zG (hi) <| zH (v:=v3 3 1) (AV.cells (v3 3 1)) zD rfl rfl rfl rfl ?_
    exact zAT (o:=0) rfl rfl (zX (zE zD)) rfl rfl rfl rfl (((Old.refl _).push _).set (by first | assumption | exact Nat.le_refl _ | simp | omega) _)
  by_cases h2 : s = zJL
  · have e : litP s = some (3,0):=by unfold litP; rw [if_neg h1,if_pos h2]
    have h1' : (s == [84,82,85,69]) = false:=tN h1
    have h2' : (s == [70,65,76,83,69]) = true:=tE h2
    have hi : C zCQ [.bool false] (H ++ [.box [.int .i64 0,.int .i64 0,.str []]]) (v3 3 0) (H ++ [.box [.int .i64 0,.int .i64 0,.str []]]):=hI false _
    clear hI hW
    rw [e]
    refine zY h1' <| zi h2' <| zG (hi) <| zH (v:=v3 3 0) (AV.cells (v3 3 0)) zD rfl rfl rfl rfl ?_
    exact zAT (o:=0) rfl rfl (zX (zE zD)) rfl rfl rfl rfl (((Old.refl _).push _).set (by first | assumption | exact Nat.le_refl _ | simp | omega) _)
  have h1' : (s == [84,82,85,69]) = false:=tN h1
  have h2' : (s == [70,65,76,83,69]) = false:=tN h2
  obtain ⟨r,hr⟩ : ∃ r,litP s = r:=⟨_,rfl⟩
  rw [hr]
  clear hI
  refine zY h1' <| zY h2' <| sLoadG textsV hG rfl ?_
  refine zCC (fun k : Nat=>[(2,pR H.length),(14,zR k),(0,.str s),(13,textsV)]) (fun k H'=>H' = H ++ [.box [.int .i64 0,.int .i64 0,.str []]] ∧ k ≤ 7 ∧ ∀ j t,j < k → [AV.str [],.str [35,68,73,86,33],.str [35,86,65,76,85,69,33],.str [35,82,69,70,33],.str [35,78,65,77,69,33],.str [35,78,85,77,33],.str [35,78,79,78,69,33]][j]? = some (.str t) → s = [] ∨ t ≠ s) (fun k=>7 - k) 0 rfl ⟨rfl,by omega,fun j t h=>by omega⟩ (fun k H1 ⟨e,hk,hno⟩=>?_)
  subst e
  by_cases hlt : k < 7
  · obtain ⟨t,ht,hts,ht0⟩:=textsV_get k hlt
    have hw:=hW k (H ++ [.box [.int .i64 0,.int .i64 0,.str []]])
    clear hW
    by_cases he : t = s
    · by_cases hs : s = []
      · refine zi tT <| zGf ⟨by omega,by omega⟩ <| zJ (v:=.str t) (by simpa [part] using ht) <| zi (tE he) <| zI <| zY (bne_eq_false_iff_eq.2 hs) ?_
        refine zh (r:=k + 1) rfl tO ?_
        exact zAq (k + 1) rfl ⟨rfl,by omega,fun j t' _ _=>.inl hs⟩ tO
      · have e:=hts s hs h1 h2 he
        rw [hr] at e
        subst e
        refine zi tT <| zGf ⟨by omega,by omega⟩ <| zJ (v:=.str t) (by simpa [part] using ht) <| zi (tE he) <| zI <| zi (bne_iff_ne.2 hs) ?_
        refine zG (hw) <| zH (v:=v3 4 ↑k) (AV.cells (v3 4 ↑k)) zD rfl rfl rfl rfl ?_
        exact zAT (v:=v3 4 k) (v1:=.bool true) (o:=0) rfl rfl (zX (zE zD)) rfl rfl rfl rfl (((Old.refl _).push _).set (Nat.le_refl _) _)
    · refine zi tT <| zGf ⟨by omega,by omega⟩ <| zJ (v:=.str t) (by simpa [part] using ht) <| zY (tN he) <| zF <| zF ?_
      refine zh (r:=k + 1) rfl tO ?_
      refine zAq (k + 1) rfl ⟨rfl,by omega,fun j t' hj hjt=>?_⟩ tO
      by_cases e : j = k
      · subst e
        rw [ht] at hjt
        cases hjt
        exact .inr he
      · exact hno j t' tO hjt
  · have e : k = 7:=by omega
    subst e
    have e : litP s = none:=by
      unfold litP
      rw [if_neg h1,if_neg h2]
      have n1:=hno 1 _ tO rfl
      have n2:=hno 2 _ tO rfl
      have n3:=hno 3 _ tO rfl
      have n4:=hno 4 _ tO rfl
      have n5:=hno 5 _ tO rfl
      have n6:=hno 6 _ tO rfl
      by_cases hs : s = []
      · subst hs; rfl
      · rw [if_neg (fun x=>n1.elim hs fun y=>y x.symm),if_neg (fun x=>n2.elim hs fun y=>y x.symm),if_neg (fun x=>n3.elim hs fun y=>y x.symm),if_neg (fun x=>n4.elim hs fun y=>y x.symm),if_neg (fun x=>n5.elim hs fun y=>y x.symm),if_neg (fun x=>n6.elim hs fun y=>y x.symm)]
    rw [e] at hr
    subst hr
    refine zF <| zJ (v:=[.int .i64 0,.int .i64 0,AV.str []]) rfl <| zH (v:=AV.agg [.int .i64 0,.int .i64 0,AV.str []]) (AV.cells (AV.agg [.int .i64 0,.int .i64 0,AV.str []])) zD rfl rfl rfl rfl ?_
    exact zAT (v:=v3 0 0) (v1:=.bool false) (o:=0) rfl rfl (zX (zE zD)) rfl rfl rfl rfl (((Old.refl _).push _).set (Nat.le_refl _) _)
theorem sGenA {a : AK} {vs : List AV} {H : Heap} {K : AV → Heap → Prop} (P : Heap → Prop) (h : P H) (k : ∀ H',P H' → actP a vs H' K) : actP a vs H K:=k H h
theorem sStrB {s : Bs} {H : Heap} {K : AV → Heap → Prop} (h : s.length ≤ 140737488355328) (q : K (.sl (some false) H.length 1 0 s.length) (H ++ [.row 1 (s.map zBj)])) : actP .strToBytes [.str s] H K:=by
  refine sAct (v:=.sl (some false) H.length 1 0 s.length) (H':=H ++ [.row 1 (s.map zBj)]) ?_ q
  simp only [astep]
  rw [if_pos h]
theorem Old.at {H0 H : Heap} (h : Old H0 H) (x : List ABlk) : Old H0 (H ++ x):=h.push x
theorem refP_of {s : Bs} {fc : Bool} {t : Bs} (h : dollar s = (fc,t)) : refP s = colP (fc,t):=by unfold refP; rw [h]
theorem colP_cap {fc : Bool} {c : UInt8} {r : Bs} (h : capB c = true) : colP (fc,c :: r) = if zHZ (dollar r).2 then some ⟨(c.toNat : Int) - 64,zDo (dollar r).2,fc,(dollar r).1⟩ else none:=by
  unfold colP
  simp only
  rw [if_pos h,rowP_is]
theorem colP_not {fc : Bool} {c : UInt8} {r : Bs} (h : capB c = false) : colP (fc,c :: r) = none:=by
  unfold colP
  simp only
  rw [h]; rfl
structure RSt where
  k : Nat
  b : Bool
theorem ref_ev (hD : ∀ b t H,H[b]? = some (.box [.str t]) → C zCY [pR b] H (.bool (dollar t).1) (H.set b (.box [.str (dollar t).2]))) (s : Bs) (H : Heap) (hl : s.length ≤ 1000) :
    EFun C GT zHV [.str s] H (refV (refP s)) H:=by
  have hd1:=hD H.length s
  have hd2:=fun t=>hD H.length t
  clear hD
  obtain ⟨⟨fc,t⟩,hds⟩ : ∃ p,dollar s = p:=⟨_,rfl⟩
  rw [hds] at hd1
  simp only at hd1
  rw [refP_of hds]
  refine zW ?_
  cases t with
  | nil=>
    have e : refV (colP (fc,[])) = .tup [rV noRef,zEX 2]:=rfl
    rw [e]
    refine zDw (x:=AV.str s) rfl <| z7 (hd1 _ (zA zD)) (fun h=>by cases h) <| zH (v:=AV.bool fc) [.int .i64 0,.int .i64 0,AV.bool fc,AV.bool false] (zB (by first | assumption | simp | omega) zD) rfl rfl rfl rfl <| zC (AV.str []) (zB (by first | assumption | simp | omega) (zE (zA zD))) rfl ?_
    refine zI <| zI <| zI <| zI <| zI <| zJ (v:=[.int .i64 0,.int .i64 0,AV.bool false,AV.bool false]) rfl ?_
    refine zH (v:=AV.agg [.int .i64 0,.int .i64 0,AV.bool false,AV.bool false]) (AV.cells (AV.agg [.int .i64 0,.int .i64 0,AV.bool false,AV.bool false])) (zE (zB (by first | assumption | simp | omega) zD)) rfl rfl rfl rfl ?_
    exact zAT (o:=0) rfl rfl (zX (zE (zE (zB (by first | assumption | simp | omega) zD)))) rfl rfl rfl rfl ((((((Old.refl _).push _).push _).set (by first | assumption | exact Nat.le_refl _ | simp | omega) _).set (by first | assumption | exact Nat.le_refl _ | simp | omega) _).set (by first | assumption | exact Nat.le_refl _ | simp | omega) _)
  | cons c r=>
    have hc256 : c.toNat < 256:=UInt8.toNat_lt c
    by_cases hcap : capB c = true
    case neg=>
      have hcap:=Bool.eq_false_iff.2 hcap
      rw [colP_not hcap]
      have e : refV none = .tup [rV noRef,zEX 2]:=rfl
      rw [e]
      by_cases h65 : c.toNat < 65
      · refine zDw (x:=AV.str s) rfl <| z7 (hd1 _ (zA zD)) (fun h=>by cases h) <| zH (v:=AV.bool fc) [.int .i64 0,.int .i64 0,AV.bool fc,AV.bool false] (zB (by first | assumption | simp | omega) zD) rfl rfl rfl rfl <| zC (AV.str (c :: r)) (zB (by first | assumption | simp | omega) (zE (zA zD))) rfl <| zF <| zC (AV.str (c :: r)) (zB (by first | assumption | simp | omega) (zE (zA zD))) rfl ?_
        refine zBt (i:=0) rfl rfl <| zF <| zi tT <| zI <| zI <| zJ (v:=[.int .i64 0,.int .i64 0,AV.bool false,AV.bool false]) rfl ?_
        refine zH (v:=AV.agg [.int .i64 0,.int .i64 0,AV.bool false,AV.bool false]) (AV.cells (AV.agg [.int .i64 0,.int .i64 0,AV.bool false,AV.bool false])) (zE (zB (by first | assumption | simp | omega) zD)) rfl rfl rfl rfl ?_
        exact zAT (o:=0) rfl rfl (zX (zE (zE (zB (by first | assumption | simp | omega) zD)))) rfl rfl rfl rfl ((((((Old.refl _).push _).push _).set (by first | assumption | exact Nat.le_refl _ | simp | omega) _).set (by first | assumption | exact Nat.le_refl _ | simp | omega) _).set (by first | assumption | exact Nat.le_refl _ | simp | omega) _)
      · have h90 : 90 < c.toNat:=by
          unfold capB at hcap
          rw [Bool.and_eq_false_iff,decide_eq_false_iff_not,decide_eq_false_iff_not] at hcap
          omega
        refine zDw (x:=AV.str s) rfl <| z7 (hd1 _ (zA zD)) (fun h=>by cases h) <| zH (v:=AV.bool fc) [.int .i64 0,.int .i64 0,AV.bool fc,AV.bool false] (zB (by first | assumption | simp | omega) zD) rfl rfl rfl rfl <| zC (AV.str (c :: r)) (zB (by first | assumption | simp | omega) (zE (zA zD))) rfl <| zF <| zC (AV.str (c :: r)) (zB (by first | assumption | simp | omega) (zE (zA zD))) rfl ?_
        refine zBt (i:=0) rfl rfl <| zF <| zY tF <| zC (AV.str (c :: r)) (zB (by first | assumption | simp | omega) (zE (zA zD))) rfl <| zBt (i:=0) rfl rfl ?_
        refine zF <| zi tT <| zJ (v:=[.int .i64 0,.int .i64 0,AV.bool false,AV.bool false]) rfl <| zH (v:=AV.agg [.int .i64 0,.int .i64 0,AV.bool false,AV.bool false]) (AV.cells (AV.agg [.int .i64 0,.int .i64 0,AV.bool false,AV.bool false])) (zE (zB (by first | assumption | simp | omega) zD)) rfl rfl rfl rfl ?_
        exact zAT (o:=0) rfl rfl (zX (zE (zE (zB (by first | assumption | simp | omega) zD)))) rfl rfl rfl rfl ((((((Old.refl _).push _).push _).set (by first | assumption | exact Nat.le_refl _ | simp | omega) _).set (by first | assumption | exact Nat.le_refl _ | simp | omega) _).set (by first | assumption | exact Nat.le_refl _ | simp | omega) _)
    case pos=>
      have hcc:=(capB_iff c).1 hcap
      rw [colP_cap hcap]
      obtain ⟨⟨fr,u⟩,hdr⟩ : ∃ p,dollar r = p:=⟨_,rfl⟩
      have hd3:=hd2 r
      rw [hdr] at hd3 ⊢
      simp only at hd3 ⊢
      clear hd2
      obtain ⟨w,hw⟩ : ∃ w,(if zHZ u then some (⟨(c.toNat : Int) - 64,zDo u,fc,fr⟩ : RefP) else none) = w:=⟨_,rfl⟩
      rw [hw]
      refine zDw (x:=AV.str s) rfl <| z7 (hd1 _ hP) (fun h=>by cases h) <| zH (v:=AV.bool fc) [.int .i64 0,.int .i64 0,AV.bool fc,AV.bool false] (zB (by first | assumption | simp | omega) zD) rfl rfl rfl rfl <| zC (AV.str (c :: r)) (zB (by first | assumption | simp | omega) (zE (zA zD))) rfl <| zF <| zC (AV.str (c :: r)) (zB (by first | assumption | simp | omega) (zE (zA zD))) rfl ?_
      refine zBt (i:=0) rfl rfl <| zF <| zY tF <| zC (AV.str (c :: r)) (zB (by first | assumption | simp | omega) (zE (zA zD))) rfl <| zBt (i:=0) rfl rfl ?_
      refine zF <| zY tF <| zC (AV.str (c :: r)) (zB (by first | assumption | simp | omega) (zE (zA zD))) rfl <| zBt (i:=0) rfl rfl <| sVal (r:=(c.toNat : Int) - 65) (by rw [IntKind.wrap_u8]; omega) <| sVal (r:=(c.toNat : Int) - 65) (by rw [IntKind.wrap_i64]; omega) ?_
      refine sVal (r:=(c.toNat : Int) - 64) (by rw [IntKind.wrap_i64]; omega) <| zH (v:=.int .i64 (↑c.toNat - 64)) [.int .i64 (↑c.toNat - 64),.int .i64 0,AV.bool fc,AV.bool false] (zE (zB (by first | assumption | simp | omega) zD)) rfl rfl rfl rfl <| zC (AV.str (c :: r)) (zB (by first | assumption | simp | omega) (zB (by first | assumption | simp | omega) (zE (zA zD)))) rfl <| zJ (v:=.str r) (zFi (c :: r) 1 (by simp)) <| zH (v:=AV.str r) [AV.str r] (zB (by first | assumption | simp | omega) (zB (by first | assumption | simp | omega) (zE (zA zD)))) rfl rfl rfl rfl <| z7 (hd3 _ hP) (fun h=>by cases h) ?_
      refine zH (v:=AV.bool fr) [.int .i64 (↑c.toNat - 64),.int .i64 0,AV.bool fc,AV.bool fr] (zB (by first | assumption | simp | omega) (zB (by first | assumption | simp | omega) (zE (zE (zB (by first | assumption | simp | omega) zD))))) rfl rfl rfl rfl <| zC (AV.str u) (zB (by first | assumption | simp | omega) (zE (zE (zB (by first | assumption | simp | omega) (zB (by first | assumption | simp | omega) (zE (zA zD))))))) rfl ?_
      by_cases h0 : u = []
      · subst h0
        rw [if_neg (fun x=>x.1 rfl)] at hw
        subst hw
        have ew : refV none = .tup [rV noRef,zEX 2]:=rfl
        rw [ew]
        refine zI <| zI <| zI <| zI <| zI <| zJ (v:=[.int .i64 0,.int .i64 0,AV.bool false,AV.bool false]) rfl ?_
        refine zH (v:=AV.agg [.int .i64 0,.int .i64 0,AV.bool false,AV.bool false]) (AV.cells (AV.agg [.int .i64 0,.int .i64 0,AV.bool false,AV.bool false])) (zE (zB (by first | assumption | simp | omega) (zB (by first | assumption | simp | omega) (zE (zE (zB (by first | assumption | simp | omega) zD)))))) rfl rfl rfl rfl ?_
        exact zAT (o:=0) rfl rfl (zX (zE (zE (zB (by first | assumption | simp | omega) (zB (by first | assumption | simp | omega) (zE (zE (zB (by first | assumption | simp | omega) zD)))))))) rfl rfl rfl rfl ((((((((((Old.refl _).push _).push _).set (by first | assumption | exact Nat.le_refl _ | simp | omega) _).set (by first | assumption | exact Nat.le_refl _ | simp | omega) _).set (by first | assumption | exact Nat.le_refl _ | simp | omega) _).set (by first | assumption | exact Nat.le_refl _ | simp | omega) _).set (by first | assumption | exact Nat.le_refl _ | simp | omega) _).set (by first | assumption | exact Nat.le_refl _ | simp | omega) _).set (by first | assumption | exact Nat.le_refl _ | simp | omega) _)
      obtain ⟨e,u',hu⟩ : ∃ e u',u = e :: u':=List.exists_cons_of_ne_nil h0
      have he0 : u[0]? = some e:=by rw [hu]; rfl
      by_cases h2' : u.length ≤ 2
      case neg=>
        rw [if_neg (fun x=>h2' x.2.1)] at hw
        subst hw
        have ew : refV none = .tup [rV noRef,zEX 2]:=rfl
        rw [ew]
        refine zY (tN h0) <| zC (AV.str u) (zB (by first | assumption | simp | omega) (zE (zE (zB (by first | assumption | simp | omega) (zB (by first | assumption | simp | omega) (zE (zA zD))))))) rfl <| zF <| zi tT <| zI <| zI ?_
        refine zJ (v:=[.int .i64 0,.int .i64 0,AV.bool false,AV.bool false]) rfl <| zH (v:=AV.agg [.int .i64 0,.int .i64 0,AV.bool false,AV.bool false]) (AV.cells (AV.agg [.int .i64 0,.int .i64 0,AV.bool false,AV.bool false])) (zE (zB (by first | assumption | simp | omega) (zB (by first | assumption | simp | omega) (zE (zE (zB (by first | assumption | simp | omega) zD)))))) rfl rfl rfl rfl ?_
        exact zAT (o:=0) rfl rfl (zX (zE (zE (zB (by first | assumption | simp | omega) (zB (by first | assumption | simp | omega) (zE (zE (zB (by first | assumption | simp | omega) zD)))))))) rfl rfl rfl rfl ((((((((((Old.refl _).push _).push _).set (by first | assumption | exact Nat.le_refl _ | simp | omega) _).set (by first | assumption | exact Nat.le_refl _ | simp | omega) _).set (by first | assumption | exact Nat.le_refl _ | simp | omega) _).set (by first | assumption | exact Nat.le_refl _ | simp | omega) _).set (by first | assumption | exact Nat.le_refl _ | simp | omega) _).set (by first | assumption | exact Nat.le_refl _ | simp | omega) _).set (by first | assumption | exact Nat.le_refl _ | simp | omega) _)
      by_cases h48 : e.toNat = 48
      · have he : e = 48:=UInt8.toNat_inj.1 h48
        subst he
        rw [if_neg (fun x=>x.2.2.1 (by rw [hu]; rfl))] at hw
        subst hw
        have ew : refV none = .tup [rV noRef,zEX 2]:=rfl
        rw [ew]
        refine zY (tN h0) <| zC (AV.str u) (zB (by first | assumption | simp | omega) (zE (zE (zB (by first | assumption | simp | omega) (zB (by first | assumption | simp | omega) (zE (zA zD))))))) rfl <| zF <| zY tF <| zC (AV.str u) (zB (by first | assumption | simp | omega) (zE (zE (zB (by first | assumption | simp | omega) (zB (by first | assumption | simp | omega) (zE (zA zD))))))) rfl <| zBt (i:=0) rfl he0 ?_
        refine zF <| zi tT <| zJ (v:=[.int .i64 0,.int .i64 0,AV.bool false,AV.bool false]) rfl <| zH (v:=AV.agg [.int .i64 0,.int .i64 0,AV.bool false,AV.bool false]) (AV.cells (AV.agg [.int .i64 0,.int .i64 0,AV.bool false,AV.bool false])) (zE (zB (by first | assumption | simp | omega) (zB (by first | assumption | simp | omega) (zE (zE (zB (by first | assumption | simp | omega) zD)))))) rfl rfl rfl rfl ?_
        exact zAT (o:=0) rfl rfl (zX (zE (zE (zB (by first | assumption | simp | omega) (zB (by first | assumption | simp | omega) (zE (zE (zB (by first | assumption | simp | omega) zD)))))))) rfl rfl rfl rfl ((((((((((Old.refl _).push _).push _).set (by first | assumption | exact Nat.le_refl _ | simp | omega) _).set (by first | assumption | exact Nat.le_refl _ | simp | omega) _).set (by first | assumption | exact Nat.le_refl _ | simp | omega) _).set (by first | assumption | exact Nat.le_refl _ | simp | omega) _).set (by first | assumption | exact Nat.le_refl _ | simp | omega) _).set (by first | assumption | exact Nat.le_refl _ | simp | omega) _).set (by first | assumption | exact Nat.le_refl _ | simp | omega) _)
      refine zY (tN h0) <| zC (AV.str u) (zB (by first | assumption | simp | omega) (zE (zE (zB (by first | assumption | simp | omega) (zB (by first | assumption | simp | omega) (zE (zA zD))))))) rfl <| zF <| zY tF <| zC (AV.str u) (zB (by first | assumption | simp | omega) (zE (zE (zB (by first | assumption | simp | omega) (zB (by first | assumption | simp | omega) (zE (zA zD))))))) rfl <| zBt (i:=0) rfl he0 ?_
      refine zF <| zY tF <| zC (AV.str u) (zB (by first | assumption | simp | omega) (zE (zE (zB (by first | assumption | simp | omega) (zB (by first | assumption | simp | omega) (zE (zA zD))))))) rfl ?_
      refine sGenA (fun H'=>Old H H' ∧ H'[(H ++ [ABlk.box [AV.str s]]).length]? = some (.box [.int .i64 ((c.toNat : Int) - 64),.int .i64 0,.bool fc,.bool fr])) ⟨?_,hP⟩ (fun H2 ⟨ho,hb2⟩=>?_)
      · have hp:=((Old.refl H).push [ABlk.box [AV.str s]]).push [ABlk.box [AV.int .i64 0,AV.int .i64 0,AV.bool false,AV.bool false]]
        have h1 : H.length ≤ H.length:=Nat.le_refl _
        have h2 : H.length ≤ (H ++ [ABlk.box [AV.str s]]).length:=by simp
        exact (((((hp.set h1 _).set h2 _).set h2 _).set h1 _).set h1 _).set h2 _
      have h2 : H.length ≤ (H ++ [ABlk.box [AV.str s]]).length:=by simp
      refine sStrB tO <| zDi ?_
      refine zCC (fun k : Nat=>[(2,pR (H ++ [ABlk.box [AV.str s]]).length),(54,zR k),(52,.sl (some false) H2.length 1 0 u.length),(53,zR u.length)])
        (fun k H'=>Old H H' ∧ H'[(H ++ [ABlk.box [AV.str s]]).length]? = some (.box [.int .i64 ((c.toNat : Int) - 64),zR (zDo (u.take k)),.bool fc,.bool fr]) ∧ H'[H2.length]? = some (.row 1 (u.map zBj)) ∧ k ≤ u.length ∧ (u.take k).all digB = true)
        (fun k=>u.length - k) 0 rfl ⟨ho.push _,zA hb2,zD,Nat.zero_le _,rfl⟩ (fun k H1 ⟨ho1,hb1,hr1,hk,hall⟩=>?_)
      have hbl : (H ++ [ABlk.box [AV.str s]]).length < H2.length:=(zg hb2).1
      by_cases hlt : k < u.length
      · obtain ⟨x,hx⟩ : ∃ x,u[k]? = some x:=⟨_,List.getElem?_eq_getElem hlt⟩
        have hx256 : x.toNat < 256:=UInt8.toNat_lt x
        have hxm : (u.map zBj)[k]? = some (byV x):=by rw [List.getElem?_map,hx]; rfl
        have etk : u.take (k + 1) = u.take k ++ [x]:=by
          obtain ⟨q1,q2⟩:=zg hx
          rw [List.take_succ_eq_append_getElem q1,q2]
        by_cases hd : digB x = true
        · have hdd:=(zIS x).1 hd
          have hv:=decV_lt _ hall
          have hpw : 10 ^ (u.take k).length ≤ 10 ^ 2:=Nat.pow_le_pow_right tO (by rw [List.length_take]; omega)
          have e2 : (10 : Nat) ^ 2 = 100:=rfl
          refine zi tT <| sAt ⟨by omega,by omega⟩ <| zBM k (byV x) (byV x) tO hr1 hxm rfl <| zY tF <| zF <| zY tF ?_
          refine zC (zR (zDo (List.take k u))) hb1 rfl <| zh (r:=zDo (u.take k) * 10) tO tO <| sVal (r:=(x.toNat : Int) - 48) (by rw [IntKind.wrap_u8]; omega) <| sVal (r:=(x.toNat : Int) - 48) (by rw [IntKind.wrap_i64]; omega) <| zh (r:=zDo (u.take k) * 10 + (x.toNat - 48)) tO tO <| zH (v:=.int .i64 ↑(zDo (List.take k u) * 10 + (x.toNat - 48))) [.int .i64 (↑c.toNat - 64),.int .i64 ↑(zDo (List.take k u) * 10 + (x.toNat - 48)),AV.bool fc,AV.bool fr] hb1 rfl rfl rfl rfl ?_
          refine zh (r:=k + 1) rfl tO ?_
          refine zAq (k + 1) rfl ⟨ho1.set h2 _, ?_,zB tO hr1,by omega, ?_⟩ tO
          · rw [etk,decV_snoc]; exact zE hb1
          · rw [etk,List.all_append,hall]; simp [hd]
        · have hd:=Bool.eq_false_iff.2 hd
          rw [if_neg (fun y=>by
            have:=List.all_eq_true.1 y.2.2.2 x (List.mem_of_getElem? hx)
            rw [hd] at this; cases this)] at hw
          subst hw
          have ew : refV none = .tup [rV noRef,zEX 2]:=rfl
          rw [ew]
          by_cases h48' : x.toNat < 48
          · refine zi tT <| sAt ⟨by omega,by omega⟩ <| zBM k (byV x) (byV x) tO hr1 hxm rfl <| zi tT <| zI <| zI ?_
            refine zJ (v:=[.int .i64 0,.int .i64 0,AV.bool false,AV.bool false]) rfl <| zH (v:=AV.agg [.int .i64 0,.int .i64 0,AV.bool false,AV.bool false]) (AV.cells (AV.agg [.int .i64 0,.int .i64 0,AV.bool false,AV.bool false])) hb1 rfl rfl rfl rfl ?_
            exact zAT (v:=rV noRef) (v1:=zEX 2) (o:=0) rfl rfl (zX (zE hb1)) rfl rfl rfl rfl (ho1.set h2 _)
          · have : 57 < x.toNat:=by
              unfold digB at hd
              rw [Bool.and_eq_false_iff,decide_eq_false_iff_not,decide_eq_false_iff_not] at hd
              omega
            refine zi tT <| sAt ⟨by omega,by omega⟩ <| zBM k (byV x) (byV x) tO hr1 hxm rfl <| zY tF <| zF <| zi tT ?_
            refine zJ (v:=[.int .i64 0,.int .i64 0,AV.bool false,AV.bool false]) rfl <| zH (v:=AV.agg [.int .i64 0,.int .i64 0,AV.bool false,AV.bool false]) (AV.cells (AV.agg [.int .i64 0,.int .i64 0,AV.bool false,AV.bool false])) hb1 rfl rfl rfl rfl ?_
            exact zAT (v:=rV noRef) (v1:=zEX 2) (o:=0) rfl rfl (zX (zE hb1)) rfl rfl rfl rfl (ho1.set h2 _)
      · have ek : k = u.length:=by omega
        subst ek
        rw [List.take_length] at hall hb1
        rw [if_pos ⟨h0,h2',fun y=>h48 (by rw [hu] at y; rw [Option.some.inj y]; rfl),hall⟩] at hw
        subst hw
        have ew : refV (some ⟨(c.toNat : Int) - 64,zDo u,fc,fr⟩) = .tup [.agg [.int .i64 ((c.toNat : Int) - 64),zR (zDo u),.bool fc,.bool fr],.nili]:=rfl
        rw [ew]
        refine zY tF <| zC (AV.agg [.int .i64 (↑c.toNat - 64),zR (zDo u),AV.bool fc,AV.bool fr]) hb1 rfl <| zH (v:=AV.agg [.int .i64 (↑c.toNat - 64),zR (zDo u),AV.bool fc,AV.bool fr]) (AV.cells (AV.agg [.int .i64 (↑c.toNat - 64),zR (zDo u),AV.bool fc,AV.bool fr])) hb1 rfl rfl rfl rfl ?_
        exact zAT (v:=.agg [.int .i64 ((c.toNat : Int) - 64),zR (zDo u),.bool fc,.bool fr]) (v1:=.nili) (o:=0) rfl rfl (zX (zE hb1)) rfl rfl rfl rfl (ho1.set h2 _)
end
end Go.AM
