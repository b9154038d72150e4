/- Several texts of mine in one (Fp2, Lea, Fr1, Fr2, Fr3). Own work. -/
import Derived.Test.YtljipljfelkodaaGreatDoorGAm30Fp1
import Derived.Test.YtljipljfelkodaaGreatDoorGFq0Bg0
set_option linter.all false
set_option maxRecDepth 20000
namespace Go.AM
def zCe (s : Bs) : Bool × Bs:=
  match s with
  | []=>(false,[])
  | c :: r=>if c = 45 then (true,r) else (false,c :: r)
def zC5 (s : Bs) : Prop:=(zCe s).2 ≠ [] ∧ ¬ ((zCe s).2.head? = some 48 ∧ s ≠ [48]) ∧ (zCe s).2.all zGm = true
instance (s : Bs) : Decidable (zC5 s):=by unfold zC5; exact inferInstance
def zKX (s : Bs) : Int:=if (zCe s).1 = true then -(zCi (zCe s).2 : Int) else zCi (zCe s).2
def wholeS (s : Bs) : Option Int:=if zC5 s then (if zDC (zKX s) then some (zKX s) else none) else none
theorem zJh {t : Bs} (h : t.head? ≠ some 45) : zCe t = (false,t):=by
  cases t with
  | nil=>rfl
  | cons c r=>
    unfold zCe
    simp only
    rw [zLv (fun e=>h (by rw [e]; rfl))]
theorem zLl {t : Bs} (h1 : t ≠ []) (h2 : ¬ (t.head? = some 48 ∧ t ≠ [48])) (h3 : t.all zGm = true) : zAq t = if zCi t ≤ 9223372036854775807 then some (zCi t : Int) else none:=by
  unfold zAq
  rw [zLv (fun x=>x.elim h1 h2),zLx h3]
theorem wholeP_no {t : Bs} (h : ¬ (t ≠ [] ∧ ¬ (t.head? = some 48 ∧ t ≠ [48]) ∧ t.all zGm = true)) : zAq t = none:=by
  unfold zAq
  split
  · rfl
  · rename_i h1
    rw [zLv (fun h3=>h ⟨fun e=>h1 (.inl e),fun e=>h1 (.inr e),h3⟩)]
theorem wholeS_of {t : Bs} (h : t.head? ≠ some 45) : wholeS t = zAq t:=by
  have hd : zC5 t ↔ (t ≠ [] ∧ ¬ (t.head? = some 48 ∧ t ≠ [48]) ∧ t.all zGm = true):=by unfold zC5; rw [zJh h]
  have hv : zKX t = zCi t:=by unfold zKX; rw [zJh h]; rfl
  unfold wholeS
  rw [hv]
  by_cases hf : zC5 t
  · obtain ⟨h1,h2,h3⟩:=hd.1 hf
    rw [zLx hf,zLl h1 h2 h3]
    by_cases h4 : zCi t ≤ 9223372036854775807
    · rw [zLx h4,zLx (show zDC (zCi t : Int) by unfold zDC; omega)]
    · rw [zLv h4,zLv (show ¬ zDC (zCi t : Int) by unfold zDC; omega)]
  · rw [zLv hf,wholeP_no (fun x=>hf (hd.2 x))]
theorem decF (l : Bs) : ∀ n : Nat,l.foldl (fun n c=>n * 10 + (c.toNat - 48)) n = n * 10 ^ l.length + zCi l:=by
  unfold zCi
  induction l with
  | nil=>intro n; simp
  | cons c r ih=>
    intro n
    simp only [zN8,zLw]
    rw [ih,ih (0 * 10 + (c.toNat - 48)),zMp,zMd,zNw,zMn]
    have : n * 10 * 10 ^ r.length = n * (10 ^ r.length * 10):=by rw [zNU,zNC 10]
    omega
theorem decV_cons (c : UInt8) (r : Bs) : zCi (c :: r) = (c.toNat - 48) * 10 ^ r.length + zCi r:=by
  show (c :: r).foldl _ 0 = _
  rw [zN8,decF]; simp
theorem decV_snoc (l : Bs) (c : UInt8) : zCi (l ++ [c]) = zCi l * 10 + (c.toNat - 48):=by unfold zCi; rw [List.foldl_append]; rfl
theorem zKj (c : UInt8) : zGm c = true ↔ 48 ≤ c.toNat ∧ c.toNat ≤ 57:=by unfold zGm; rw [zLu,zNA,zNA]
theorem capB_iff (c : UInt8) : capB c = true ↔ 65 ≤ c.toNat ∧ c.toNat ≤ 90:=by unfold capB; rw [zLu,zNA,zNA]
theorem zLm : ∀ l : Bs,l.all zGm = true → zCi l < 10 ^ l.length
  | [],_=>by simp [zCi]
  | c :: r,h=>by
    rw [zNK,zLu] at h
    have h1:=(zKj c).1 h.1
    have h2:=zLm r h.2
    rw [decV_cons,zLw,zMp]
    have : (c.toNat - 48) * 10 ^ r.length ≤ 9 * 10 ^ r.length:=zMU _ tO
    omega
theorem decV_ge {c : UInt8} {r : Bs} (h : 49 ≤ c.toNat) : 10 ^ r.length ≤ zCi (c :: r):=by
  rw [decV_cons]
  have : 1 * 10 ^ r.length ≤ (c.toNat - 48) * 10 ^ r.length:=zMU _ tO
  omega
def zJi (t : Bs) : Prop:=t ≠ [] ∧ t.length ≤ 2 ∧ t.head? ≠ some 48 ∧ t.all zGm = true
instance (t : Bs) : Decidable (zJi t):=by unfold zJi; exact inferInstance
theorem rowP_is (fc : Bool) (col : Int) (p : Bool × Bs) : rowP fc col p = if zJi p.2 then some ⟨col,zCi p.2,fc,p.1⟩ else none:=by
  obtain ⟨d,t⟩:=p
  unfold rowP
  simp only
  by_cases hf : zJi t
  · obtain ⟨h1,h2,h3,h4⟩:=hf
    rw [zLx ⟨h1,h2,h3,h4⟩,zLl h1 (fun x=>h3 x.1) h4]
    obtain ⟨c,r,rfl⟩ : ∃ c r,t = c :: r:=zNf h1
    have hlt:=zLm _ h4
    have hc:=(zKj c).1 (by rw [zNK,zLu] at h4; exact h4.1)
    have h49 : 49 ≤ c.toNat:=by
      have : c.toNat ≠ 48:=fun e=>h3 (by rw [show c = 48 from zME.1 e]; rfl)
      omega
    have hge:=decV_ge (r:=r) h49
    have hp : 10 ^ (c :: r).length ≤ 10 ^ 2:=zMz tO h2
    have hq : 0 < 10 ^ r.length:=Nat.pow_pos tO
    have e2 : (10 : Nat) ^ 2 = 100:=rfl
    rw [zLx tO]
    simp only
    rw [zLx ⟨by omega,by omega⟩]
  · rw [zLv hf]
    by_cases hw : t ≠ [] ∧ ¬ (t.head? = some 48 ∧ t ≠ [48]) ∧ t.all zGm = true
    · obtain ⟨h1,h2,h4⟩:=hw
      rw [zLl h1 h2 h4]
      by_cases h0 : t.head? = some 48
      · have : t = [48]:=Decidable.byContradiction fun e=>h2 ⟨h0,e⟩
        subst this
        rfl
      · obtain ⟨c,r,rfl⟩ : ∃ c r,t = c :: r:=zNf h1
        have hc:=(zKj c).1 (by rw [zNK,zLu] at h4; exact h4.1)
        have h49 : 49 ≤ c.toNat:=by
          have : c.toNat ≠ 48:=fun e=>h0 (by rw [show c = 48 from zME.1 e]; rfl)
          omega
        have hge:=decV_ge (r:=r) h49
        have hl : 2 ≤ r.length:=by
          rcases zNJ r.length 2 with h | h
          · exact absurd ⟨h1,by simp only [zLw]; omega,h0,h4⟩ hf
          · exact h
        have hp : 10 ^ 2 ≤ 10 ^ r.length:=zMz tO hl
        have e2 : (10 : Nat) ^ 2 = 100:=rfl
        split
        · rename_i n hn
          split at hn
          · cases hn
            rw [zLv tO]
          · cases hn
        · rfl
    · rw [wholeP_no hw]
def litP (s : Bs) : Option (Int × Int):=
  if s = trueW then some (3,1) else if s = zHr then some (3,0) else
  if s = [35,68,73,86,33] then some (4,1) else if s = [35,86,65,76,85,69,33] then some (4,2) else if s = [35,82,69,70,33] then some (4,3) else
  if s = [35,78,65,77,69,33] then some (4,4) else if s = [35,78,85,77,33] then some (4,5) else if s = [35,78,79,78,69,33] then some (4,6) else none
end Go.AM
set_option maxRecDepth 20000
namespace Go.AM
def v3 (k n : Int) : AV:=.agg [.int .i64 k,.int .i64 n,.str []]
def textsV : AV:=.agg [.str [],.str [35,68,73,86,33],.str [35,86,65,76,85,69,33],.str [35,82,69,70,33],.str [35,78,65,77,69,33],.str [35,78,85,77,33],.str [35,78,79,78,69,33]]
def litV (r : Option (Int × Int)) : AV:=match r with
  | some (k,n)=>.tup [v3 k n,.bool true]
  | none=>.tup [v3 0 0,.bool false]
def wholeV (r : Option Int) (n0 : Int) : AV:=match r with
  | some n=>.tup [zI n,.bool true]
  | none=>.tup [zI n0,.bool false]
def rV (r : RefP) : AV:=.agg [.int .i64 r.col,.int .i64 r.row,.bool r.fc,.bool r.fr]
def refV (r : Option RefP) : AV:=match r with
  | some r=>.tup [rV r,.nili]
  | none=>.tup [rV noRef,zGl 2]
def zJA (r : Option Nd) : AV:=match r with
  | some n=>.tup [ndV n,.bool true]
  | none=>.tup [ndV zW,.bool false]
section
variable {C : CSpec} {GT : Nat → Option AV}
theorem zKY (hP : ∀ s p H,C zAF [.str s,.str p] H (.bool (p.isPrefixOf s)) H) (s p : Bs) (H : Heap) : EFun C GT zBv [.str s,.str p] H (.str (if p.isPrefixOf s = true then s.drop p.length else s)) H:=by
  have hp:=hP s p H
  clear hP
  refine zZ ?_
  by_cases h : p.isPrefixOf s = true
  · rw [h] at hp
    rw [zLx h]
    have hl : p.length ≤ s.length:=by rw [zD6,zLu,zNA] at h; exact h.1
    refine sW ?_
    refine zl (v:=.str (s.drop p.length)) (zCw s p.length hl) ?_
    exact sRv
  · rw [zMe.2 h] at hp
    rw [zLv h]
    refine sW ?_
    exact sRv
theorem trimPrefix_ev (hP : ∀ s p H,C zAa [.str s,.str p] H (.str (if p.isPrefixOf s = true then s.drop p.length else s)) H) (s p : Bs) (H : Heap) : EFun C GT zCf [.str s,.str p] H (.str (if p.isPrefixOf s = true then s.drop p.length else s)) H:=by
  have hp:=hP s p H
  clear hP
  refine zZ <| sW ?_
  exact sRv
theorem wrong_ev (n : Int) (H : Heap) : EFun C GT zFy [zI n] H (v3 4 n) H:=by
  refine zZ ?_
  refine sW ?_
  refine sS (AV.agg [.int .i64 4,zI n,AV.str []]) (AV.cells (AV.agg [.int .i64 4,zI n,AV.str []])) ?_
  exact zBd (o:=0) rfl rfl (zJ (zE zB)) rfl rfl rfl hO
theorem is_ev (b : Bool) (H : Heap) : EFun C GT zJX [.bool b] H (v3 3 (if b = true then 1 else 0)) H:=by
  refine zZ ?_
  cases b
  · refine sW ?_
    refine sS (AV.agg zV7) (AV.cells (AV.agg zV7)) ?_
    refine sW ?_
    refine sS (AV.agg zV7) (AV.cells (AV.agg zV7)) ?_
    exact zBd (o:=0) rfl rfl (zJ (zE (zA (by first | assumption | simp | omega) (zC zB)))) rfl rfl rfl hO
  · refine sW ?_
    refine sS (AV.agg zV7) (AV.cells (AV.agg zV7)) ?_
    refine sW ?_
    refine sS (.int .i64 1) [.int .i64 3,.int .i64 1,AV.str []] ?_
    refine sW ?_
    refine sS (AV.agg [.int .i64 3,.int .i64 1,AV.str []]) (AV.cells (AV.agg [.int .i64 3,.int .i64 1,AV.str []])) ?_
    exact zBd (o:=0) rfl rfl (zJ (zE (zA (by first | assumption | simp | omega) (zA (by first | assumption | simp | omega) (zC zB))))) rfl rfl rfl hO
theorem digs_all (s : Bs) : (trimS s [48,49,50,51,52,53,54,55,56,57] = []) ↔ s.all zGm = true:=by
  rw [trim_nil]
  have : (fun c : UInt8=>zGo [48,49,50,51,52,53,54,55,56,57] c.toNat) = zGm:=by
    funext c
    unfold zGo zGm
    rw [zNp]
    simp only [List.any_cons,List.any_nil,Bool.or_false,zM8,zLu,zMF,zMO]
    have e : ∀ n : Nat,n < 256 → (UInt8.ofNat n).toNat = n:=fun n h=>by simp; omega
    have e48 : (48 : UInt8).toNat = 48:=rfl
    have e49 : (49 : UInt8).toNat = 49:=rfl
    have e50 : (50 : UInt8).toNat = 50:=rfl
    have e51 : (51 : UInt8).toNat = 51:=rfl
    have e52 : (52 : UInt8).toNat = 52:=rfl
    have e53 : (53 : UInt8).toNat = 53:=rfl
    have e54 : (54 : UInt8).toNat = 54:=rfl
    have e55 : (55 : UInt8).toNat = 55:=rfl
    have e56 : (56 : UInt8).toNat = 56:=rfl
    have e57 : (57 : UInt8).toNat = 57:=rfl
    rw [e48,e49,e50,e51,e52,e53,e54,e55,e56,e57]
    omega
  rw [this]
def capsL : Bs:=[65,66,67,68,69,70,71,72,73,74,75,76,77,78,79,80,81,82,83,84,85,86,87,88,89,90]
theorem caps_tab : ∀ n : Fin 256,zGo capsL n.val = (decide (65 ≤ n.val) && decide (n.val ≤ 90)):=by decide +kernel
theorem caps_all (s : Bs) : (trimS s capsL = []) ↔ s.all capB = true:=by
  rw [trim_nil]
  have : (fun c : UInt8=>zGo capsL c.toNat) = capB:=by
    funext c
    exact caps_tab ⟨c.toNat,zM4 c⟩
  rw [this]
theorem called_ev (hT : ∀ s cs H,(∀ c ∈ cs,c.toNat < 128) → 2 ≤ cs.length → cs.length ≤ 1000 → s.length ≤ 1000 → C zBf [.str s,.str cs] H (.str (trimS s cs)) H) (s : Bs) (H : Heap) (hl : s.length ≤ 1000) : EFun C GT zDu [.str s] H (.bool (zBI s)) H:=by
  obtain ⟨r,hr⟩ : ∃ r,zBI s = r:=⟨_,rfl⟩
  rw [hr]
  unfold zBI at hr
  have ht:=hT s capsL H (by decide) (by decide) (by decide) hl
  clear hT
  refine zZ ?_
  by_cases h1 : 2 ≤ s.length
  · by_cases h2 : s.length ≤ 10
    · rw [zMM h1,zMM h2,zM7,zM7] at hr
      refine sW ?_
      refine zGx (v0:=.bool (trimS s capsL == [])) (zML AV.bool ?_) rfl rfl rfl rfl (Old.refl _)
      rw [← hr,zNp,zMO,caps_all]
    · rw [zMV h2,Bool.and_false,zNM] at hr
      subst hr
      refine sW ?_
      exact sRv
  · rw [zMV h1,zNM,zNM] at hr
    subst hr
    refine sW ?_
    exact sRv
theorem dollar_ev (b : Nat) (t : Bs) (H : Heap) (hb : H[b]? = some (.box [.str t])) (x' : AV) : zB3 C GT zF6 [pR b] H b [.undef] x' (some (.bool (dollar t).1,.box [.str (dollar t).2])):=by
  refine zz ?_
  cases t with
  | nil=>
    refine sW ?_
    exact sRo
  | cons c r=>
    by_cases h : c = 36
    · subst h
      have e : dollar (36 :: r) = (true,r):=rfl
      rw [e]
      refine sW ?_
      refine zr (i:=0) rfl rfl <| sW ?_
      refine zl (v:=.str r) (zCw (36 :: r) 1 (by simp)) <| sS (AV.str r) [AV.str r] ?_
      exact sRo
    · have hn : c.toNat ≠ 36:=fun e=>h (zME.1 e)
      have e : dollar (c :: r) = (false,c :: r):=zLv h
      rw [e]
      refine sW ?_
      refine zr (i:=0) rfl rfl <| sW ?_
      exact sRo
theorem whole_ev (hT : ∀ s cs H,(∀ c ∈ cs,c.toNat < 128) → 2 ≤ cs.length → cs.length ≤ 1000 → s.length ≤ 1000 → C zBf [.str s,.str cs] H (.str (trimS s cs)) H) (hP : ∀ s H,C zAj [.str s,.str [45]] H (.str (zCe s).2) H)
    (hA : ∀ s H,zC5 s → zDC (zKX s) → s.length ≤ 1000 → C zAw [.str s] H (.tup [zI (zKX s),.nili]) H) (hA2 : ∀ s H,zC5 s → ¬ zDC (zKX s) → s.length ≤ 1000 → ∃ n t,C zAw [.str s] H (.tup [zI n,.iface t .undef]) H)
    (s : Bs) (H : Heap) (hl : s.length ≤ 1000) : ∃ n0,EFun C GT zF4 [.str s] H (wholeV (wholeS s) n0) H:=by
  have hp:=hP s H
  have hdl : (zCe s).2.length ≤ 1000:=by
    unfold zCe
    split
    · simp
    · rename_i c r
      simp only [zLw] at hl
      split <;> simp only [zLw] <;> omega
  have ht:=hT (zCe s).2 [48,49,50,51,52,53,54,55,56,57] H (by decide) (by decide) (by decide) hdl
  have hda:=digs_all (zCe s).2
  have hdf : zC5 s ↔ ((zCe s).2 ≠ [] ∧ ¬ ((zCe s).2.head? = some 48 ∧ s ≠ [48]) ∧ (zCe s).2.all zGm = true):=zNE
  have ha:=hA s H
  have ha2:=hA2 s H
  clear hT hP hA hA2
  unfold wholeS
  obtain ⟨d,hd⟩ : ∃ d,(zCe s).2 = d:=⟨_,rfl⟩
  rw [hd] at hp ht hda hdf
  generalize trimS d [48,49,50,51,52,53,54,55,56,57] = tr at *
  by_cases hf : zC5 s
  · rw [zLx hf]
    obtain ⟨h1,h2,h3⟩:=hdf.1 hf
    have htr : tr = []:=hda.2 h3
    subst htr
    obtain ⟨c,r,rfl⟩ : ∃ c r,d = c :: r:=zNf h1
    have hres : ∃ n x,C zAw [.str s] H (.tup [zI n,x]) H ∧ ((x = .nili ∧ (if zDC (zKX s) then some (zKX s) else none : Option Int) = some n) ∨ ((∃ t,x = .iface t .undef) ∧ (if zDC (zKX s) then some (zKX s) else none : Option Int) = none)):=by
      by_cases hi : zDC (zKX s)
      · exact ⟨_,_,ha hf hi hl,.inl ⟨rfl,by rw [zLx hi]⟩⟩
      · obtain ⟨n,t,h⟩:=ha2 hf hi hl
        exact ⟨n,_,h,.inr ⟨⟨t,rfl⟩,by rw [zLv hi]⟩⟩
    obtain ⟨n,x,hat,hx⟩:=hres
    clear ha ha2
    have h48 : c.toNat = 48 → s = [48]:=fun e=>Decidable.byContradiction fun h=>h2 ⟨by rw [show c = 48 from zME.1 e]; rfl,h⟩
    by_cases hc : c.toNat = 48
    · have:=h48 hc
      rcases hx with ⟨rfl,e⟩ | ⟨⟨t,rfl⟩,e⟩
      · rw [e]
        refine ⟨n,zZ ?_⟩
        refine sW ?_
        refine zr (i:=0) rfl rfl <| sW ?_
        refine zY (zMQ.2 this) <| sW ?_
        exact sRv
      · rw [e]
        refine ⟨n,zZ ?_⟩
        refine sW ?_
        refine zr (i:=0) rfl rfl <| sW ?_
        refine zY (zMQ.2 this) <| sW ?_
        exact sRv
    · rcases hx with ⟨rfl,e⟩ | ⟨⟨t,rfl⟩,e⟩
      · rw [e]
        refine ⟨n,zZ ?_⟩
        refine sW ?_
        refine zr (i:=0) rfl rfl <| sW ?_
        exact sRv
      · rw [e]
        refine ⟨n,zZ ?_⟩
        refine sW ?_
        refine zr (i:=0) rfl rfl <| sW ?_
        exact sRv
  · rw [zLv hf]
    refine ⟨0,zZ ?_⟩
    clear ha ha2
    cases d with
    | nil => refine zL (hp) ?_
             refine sW ?_
             exact sRv
    | cons c r=>
      by_cases hc : c.toNat = 48
      · by_cases hs : s = [48]
        · have htr : tr ≠ []:=fun e=>hf (hdf.2 ⟨by simp,fun x=>x.2 hs,hda.1 e⟩)
          refine sW ?_
          refine zr (i:=0) rfl rfl <| sW ?_
          refine zY (zMQ.2 hs) <| sW ?_
          refine zb (zMg.2 htr) ?_
          exact sRv
        · refine sW ?_
          refine zr (i:=0) rfl rfl <| sW ?_
          refine zb (zMg.2 hs) <| sW ?_
          exact sRv
      · have htr : tr ≠ []:=fun e=>hf (hdf.2 ⟨by simp,fun x=>hc (by have:=x.1; simp only [List.head?_cons,zLt] at this; rw [this]; rfl),hda.1 e⟩)
        refine sW ?_
        refine zr (i:=0) rfl rfl <| sW ?_
        refine zb (zMg.2 htr) ?_
        exact sRv
theorem textsV_get (k : Nat) (h : k < 7) : ∃ t : Bs,[AV.str [],.str [35,68,73,86,33],.str [35,86,65,76,85,69,33],.str [35,82,69,70,33],.str [35,78,65,77,69,33],.str [35,78,85,77,33],.str [35,78,79,78,69,33]][k]? = some (.str t) ∧ (∀ s : Bs,s ≠ [] → s ≠ trueW → s ≠ zHr → (t = s → litP s = some (4,(k : Int)))) ∧ (k = 0 → t = []):=by
  rcases k with _ | _ | _ | _ | _ | _ | _ | k
  · exact ⟨_,rfl,fun s h _ _ e=>absurd e.symm h,fun _=>rfl⟩
  · exact ⟨_,rfl,fun s _ h1 h2 e=>by subst e; rfl,fun h=>by cases h⟩
  · exact ⟨_,rfl,fun s _ h1 h2 e=>by subst e; rfl,fun h=>by cases h⟩
  · exact ⟨_,rfl,fun s _ h1 h2 e=>by subst e; rfl,fun h=>by cases h⟩
  · exact ⟨_,rfl,fun s _ h1 h2 e=>by subst e; rfl,fun h=>by cases h⟩
  · exact ⟨_,rfl,fun s _ h1 h2 e=>by subst e; rfl,fun h=>by cases h⟩
  · exact ⟨_,rfl,fun s _ h1 h2 e=>by subst e; rfl,fun h=>by cases h⟩
  · omega
theorem literal_ev (hG : GT zFv = some textsV) (hI : ∀ b H,C zC7 [.bool b] H (v3 3 (if b = true then 1 else 0)) H) (hW : ∀ n H,C zDG [zI n] H (v3 4 n) H) (s : Bs) (H : Heap) :
    EFun C GT zEJ [.str s] H (litV (litP s)) H:=by
  refine zZ ?_
  by_cases h1 : s = trueW
  · have e : litP s = some (3,1):=zLx h1
    have h1' : (s == [84,82,85,69]) = true:=tE h1
    have hi : C zC7 [.bool true] (H ++ [.box zV5]) (v3 3 1) (H ++ [.box zV5]):=hI true _
    clear hI hW
    rw [e]
    refine zb h1' <| sW ?_
    refine sS (v3 3 1) (AV.cells (v3 3 1)) ?_
    exact zP (o:=0) rfl rfl (zJ (zE zB)) rfl rfl rfl rfl hO
  by_cases h2 : s = zHr
  · have e : litP s = some (3,0):=by unfold litP; rw [zLv h1,zLx h2]
    have h1' : (s == [84,82,85,69]) = false:=tN h1
    have h2' : (s == [70,65,76,83,69]) = true:=tE h2
    have hi : C zC7 [.bool false] (H ++ [.box zV5]) (v3 3 0) (H ++ [.box zV5]):=hI false _
    clear hI hW
    rw [e]
    refine zY h1' <| zb h2' <| sW ?_
    refine sS (v3 3 0) (AV.cells (v3 3 0)) ?_
    exact zP (o:=0) rfl rfl (zJ (zE zB)) rfl rfl rfl rfl hO
  have h1' : (s == [84,82,85,69]) = false:=tN h1
  have h2' : (s == [70,65,76,83,69]) = false:=tN h2
  obtain ⟨r,hr⟩ : ∃ r,litP s = r:=⟨_,rfl⟩
  rw [hr]
  clear hI
  refine zY h1' <| zY h2' <| sLoadG textsV hG rfl ?_
  refine zBm (fun k : Nat=>[(2,pR H.length),(14,zK k),(0,.str s),(13,textsV)]) (fun k H'=>H' = H ++ [.box zV5] ∧ k ≤ 7 ∧ ∀ j t,j < k → [AV.str [],.str [35,68,73,86,33],.str [35,86,65,76,85,69,33],.str [35,82,69,70,33],.str [35,78,65,77,69,33],.str [35,78,85,77,33],.str [35,78,79,78,69,33]][j]? = some (.str t) → s = [] ∨ t ≠ s) (fun k=>7 - k) 0 rfl ⟨rfl,by omega,fun j t h=>by omega⟩ (fun k H1 ⟨e,hk,hno⟩=>?_)
  subst e
  by_cases hlt : k < 7
  · obtain ⟨t,ht,hts,ht0⟩:=textsV_get k hlt
    have hw:=hW k (H ++ [.box zV5])
    clear hW
    by_cases he : t = s
    · by_cases hs : s = []
      · refine sW ?_
        refine zFp ⟨by omega,by omega⟩ <| zl (v:=.str t) (by simpa [part] using ht) <| zb (tE he) <| sW ?_
        refine zY (zMQ.2 hs) <| zN (r:=k + 1) rfl tO ?_
        exact zAU (k + 1) rfl ⟨rfl,by omega,fun j t' _ _=>.inl hs⟩ tO
      · have e:=hts s hs h1 h2 he
        rw [hr] at e
        subst e
        refine sW ?_
        refine zFp ⟨by omega,by omega⟩ <| zl (v:=.str t) (by simpa [part] using ht) <| zb (tE he) <| sW ?_
        refine zb (zMg.2 hs) <| sW ?_
        refine sS (v3 4 ↑k) (AV.cells (v3 4 ↑k)) ?_
        exact zP (v:=v3 4 k) (v1:=.bool true) (o:=0) rfl rfl (zJ (zE zB)) rfl rfl rfl rfl hO
    · refine sW ?_
      refine zFp ⟨by omega,by omega⟩ <| zl (v:=.str t) (by simpa [part] using ht) <| zY (tN he) <| sW ?_
      refine zN (r:=k + 1) rfl tO ?_
      refine zAU (k + 1) rfl ⟨rfl,by omega,fun j t' hj hjt=>?_⟩ tO
      by_cases e : j = k
      · subst e
        rw [ht] at hjt
        cases hjt
        exact .inr he
      · exact hno j t' tO hjt
  · have e : k = 7:=by omega
    subst e
    have e : litP s = none:=by
      unfold litP
      rw [zLv h1,zLv h2]
      have n1:=hno 1 _ tO rfl
      have n2:=hno 2 _ tO rfl
      have n3:=hno 3 _ tO rfl
      have n4:=hno 4 _ tO rfl
      have n5:=hno 5 _ tO rfl
      have n6:=hno 6 _ tO rfl
      by_cases hs : s = []
      · subst hs; rfl
      · rw [zLv (fun x=>n1.elim hs fun y=>y x.symm),zLv (fun x=>n2.elim hs fun y=>y x.symm),zLv (fun x=>n3.elim hs fun y=>y x.symm),zLv (fun x=>n4.elim hs fun y=>y x.symm),zLv (fun x=>n5.elim hs fun y=>y x.symm),zLv (fun x=>n6.elim hs fun y=>y x.symm)]
    rw [e] at hr
    subst hr
    refine sW ?_
    refine sS (AV.agg zV5) (AV.cells (AV.agg zV5)) ?_
    exact zP (v:=v3 0 0) (v1:=.bool false) (o:=0) rfl rfl (zJ (zE zB)) rfl rfl rfl rfl hO
theorem sGenA {a : AK} {vs : List AV} {H : Heap} {K : AV → Heap → Prop} (P : Heap → Prop) (h : P H) (k : ∀ H',P H' → actP a vs H' K) : actP a vs H K:=k H h
theorem sStrB {s : Bs} {H : Heap} {K : AV → Heap → Prop} (h : s.length ≤ 140737488355328) (q : K (.sl (some false) H.length 1 0 s.length) (H ++ [.row 1 (s.map zBl)])) : actP .strToBytes [.str s] H K:=by
  refine sAct (v:=.sl (some false) H.length 1 0 s.length) (H':=H ++ [.row 1 (s.map zBl)]) ?_ q
  simp only [astep]
  rw [zLx h]
theorem Old.at {H0 H : Heap} (h : Old H0 H) (x : List ABlk) : Old H0 (H ++ x):=h.push x
theorem refP_of {s : Bs} {fc : Bool} {t : Bs} (h : dollar s = (fc,t)) : zCc s = colP (fc,t):=by unfold zCc; rw [h]
theorem colP_cap {fc : Bool} {c : UInt8} {r : Bs} (h : capB c = true) : colP (fc,c :: r) = if zJi (dollar r).2 then some ⟨(c.toNat : Int) - 64,zCi (dollar r).2,fc,(dollar r).1⟩ else none:=by
  unfold colP
  simp only
  rw [zLx h,rowP_is]
theorem colP_not {fc : Bool} {c : UInt8} {r : Bs} (h : capB c = false) : colP (fc,c :: r) = none:=by
  unfold colP
  simp only
  rw [h]; rfl
structure RSt where
  k : Nat
  b : Bool
theorem ref_ev (hD : ∀ b t H,H[b]? = some (.box [.str t]) → C zDI [pR b] H (.bool (dollar t).1) (H.set b (.box [.str (dollar t).2]))) (s : Bs) (H : Heap) (hl : s.length ≤ 1000) :
    EFun C GT zJa [.str s] H (refV (zCc s)) H:=by
  have hd1:=hD H.length s
  have hd2:=fun t=>hD H.length t
  clear hD
  obtain ⟨⟨fc,t⟩,hds⟩ : ∃ p,dollar s = p:=⟨_,rfl⟩
  rw [hds] at hd1
  simp only at hd1
  rw [refP_of hds]
  refine zZ ?_
  cases t with
  | nil=>
    have e : refV (colP (fc,[])) = .tup [rV noRef,zGl 2]:=rfl
    rw [e]
    refine zCj (x:=AV.str s) rfl <| zAc (hd1 _ (zC zB)) (fun h=>by cases h) ?_
    refine sS (AV.bool fc) [.int .i64 0,.int .i64 0,AV.bool fc,AV.bool false] ?_
    refine sW ?_
    refine sS (AV.agg zV1) (AV.cells (AV.agg zV1)) ?_
    exact zP (o:=0) rfl rfl (zJ (zE (zE (zA (by first | assumption | simp | omega) zB)))) rfl rfl rfl rfl ((((((Old.refl _).push _).push _).set (by first | assumption | exact zL0 _ | simp | omega) _).set (by first | assumption | exact zL0 _ | simp | omega) _).set (by first | assumption | exact zL0 _ | simp | omega) _)
  | cons c r=>
    have hc256 : c.toNat < 256:=zM4 c
    by_cases hcap : capB c = true
    case neg=>
      have hcap:=zMe.2 hcap
      rw [colP_not hcap]
      have e : refV none = .tup [rV noRef,zGl 2]:=rfl
      rw [e]
      by_cases h65 : c.toNat < 65
      · refine zCj (x:=AV.str s) rfl <| zAc (hd1 _ (zC zB)) (fun h=>by cases h) ?_
        refine sS (AV.bool fc) [.int .i64 0,.int .i64 0,AV.bool fc,AV.bool false] ?_
        refine sW ?_
        refine zr (i:=0) rfl rfl ?_
        refine sW ?_
        refine sS (AV.agg zV1) (AV.cells (AV.agg zV1)) ?_
        exact zP (o:=0) rfl rfl (zJ (zE (zE (zA (by first | assumption | simp | omega) zB)))) rfl rfl rfl rfl hO
      · have h90 : 90 < c.toNat:=by
          unfold capB at hcap
          rw [zOM,zM3,zM3] at hcap
          omega
        refine zCj (x:=AV.str s) rfl <| zAc (hd1 _ (zC zB)) (fun h=>by cases h) ?_
        refine sS (AV.bool fc) [.int .i64 0,.int .i64 0,AV.bool fc,AV.bool false] ?_
        refine sW ?_
        refine zr (i:=0) rfl rfl ?_
        refine sW ?_
        refine zr (i:=0) rfl rfl ?_
        refine sW ?_
        refine sS (AV.agg zV1) (AV.cells (AV.agg zV1)) ?_
        exact zP (o:=0) rfl rfl (zJ (zE (zE (zA (by first | assumption | simp | omega) zB)))) rfl rfl rfl rfl hO
    case pos=>
      have hcc:=(capB_iff c).1 hcap
      rw [colP_cap hcap]
      obtain ⟨⟨fr,u⟩,hdr⟩ : ∃ p,dollar r = p:=⟨_,rfl⟩
      have hd3:=hd2 r
      rw [hdr] at hd3 ⊢
      simp only at hd3 ⊢
      clear hd2
      obtain ⟨w,hw⟩ : ∃ w,(if zJi u then some (⟨(c.toNat : Int) - 64,zCi u,fc,fr⟩ : RefP) else none) = w:=⟨_,rfl⟩
      rw [hw]
      refine zCj (x:=AV.str s) rfl <| zAc (hd1 _ hP) (fun h=>by cases h) ?_
      refine sS (AV.bool fc) [.int .i64 0,.int .i64 0,AV.bool fc,AV.bool false] ?_
      refine sW ?_
      refine zr (i:=0) rfl rfl ?_
      refine sW ?_
      refine zr (i:=0) rfl rfl ?_
      refine sW ?_
      refine zr (i:=0) rfl rfl <| sVal (r:=(c.toNat : Int) - 65) (by rw [IntKind.wrap_u8]; omega) <| sVal (r:=(c.toNat : Int) - 65) (by rw [IntKind.wrap_i64]; omega) <| sVal (r:=(c.toNat : Int) - 64) (by rw [IntKind.wrap_i64]; omega) ?_
      refine sS (.int .i64 (↑c.toNat - 64)) [.int .i64 (↑c.toNat - 64),.int .i64 0,AV.bool fc,AV.bool false] ?_
      refine sW ?_
      refine zl (v:=.str r) (zCw (c :: r) 1 (by simp)) ?_
      refine sS (AV.str r) [AV.str r] ?_
      refine zAc (hd3 _ hP) (fun h=>by cases h) ?_
      refine sS (AV.bool fr) [.int .i64 (↑c.toNat - 64),.int .i64 0,AV.bool fc,AV.bool fr] ?_
      refine sW ?_
      by_cases h0 : u = []
      · subst h0
        rw [zLv (fun x=>x.1 rfl)] at hw
        subst hw
        have ew : refV none = .tup [rV noRef,zGl 2]:=rfl
        rw [ew]
        refine sW ?_
        refine sS (AV.agg zV1) (AV.cells (AV.agg zV1)) ?_
        exact zP (o:=0) rfl rfl (zJ (zE (zE (zA (by first | assumption | simp | omega) (zA (by first | assumption | simp | omega) (zE (zE (zA (by first | assumption | simp | omega) zB)))))))) rfl rfl rfl rfl ((((((((((Old.refl _).push _).push _).set (by first | assumption | exact zL0 _ | simp | omega) _).set (by first | assumption | exact zL0 _ | simp | omega) _).set (by first | assumption | exact zL0 _ | simp | omega) _).set (by first | assumption | exact zL0 _ | simp | omega) _).set (by first | assumption | exact zL0 _ | simp | omega) _).set (by first | assumption | exact zL0 _ | simp | omega) _).set (by first | assumption | exact zL0 _ | simp | omega) _)
      obtain ⟨e,u',hu⟩ : ∃ e u',u = e :: u':=zNf h0
      have he0 : u[0]? = some e:=by rw [hu]; rfl
      by_cases h2' : u.length ≤ 2
      case neg=>
        rw [zLv (fun x=>h2' x.2.1)] at hw
        subst hw
        have ew : refV none = .tup [rV noRef,zGl 2]:=rfl
        rw [ew]
        refine zY (tN h0) ?_
        refine sW ?_
        refine sS (AV.agg zV1) (AV.cells (AV.agg zV1)) ?_
        exact zP (o:=0) rfl rfl (zJ (zE (zE (zA (by first | assumption | simp | omega) (zA (by first | assumption | simp | omega) (zE (zE (zA (by first | assumption | simp | omega) zB)))))))) rfl rfl rfl rfl ((((((((((Old.refl _).push _).push _).set (by first | assumption | exact zL0 _ | simp | omega) _).set (by first | assumption | exact zL0 _ | simp | omega) _).set (by first | assumption | exact zL0 _ | simp | omega) _).set (by first | assumption | exact zL0 _ | simp | omega) _).set (by first | assumption | exact zL0 _ | simp | omega) _).set (by first | assumption | exact zL0 _ | simp | omega) _).set (by first | assumption | exact zL0 _ | simp | omega) _)
      by_cases h48 : e.toNat = 48
      · have he : e = 48:=zME.1 h48
        subst he
        rw [zLv (fun x=>x.2.2.1 (by rw [hu]; rfl))] at hw
        subst hw
        have ew : refV none = .tup [rV noRef,zGl 2]:=rfl
        rw [ew]
        refine zY (tN h0) <| zD (AV.str u) (zA (by first | assumption | simp | omega) (zE (zE (zA (by first | assumption | simp | omega) (zA (by first | assumption | simp | omega) (zE (zC zB))))))) rfl <| zF <| zY tF <| zD (AV.str u) (zA (by first | assumption | simp | omega) (zE (zE (zA (by first | assumption | simp | omega) (zA (by first | assumption | simp | omega) (zE (zC zB))))))) rfl <| zr (i:=0) rfl he0 ?_
        refine zF <| zb tT <| zl (v:=zV1) rfl <| zH (v:=AV.agg zV1) (AV.cells (AV.agg zV1)) (zE (zA (by first | assumption | simp | omega) (zA (by first | assumption | simp | omega) (zE (zE (zA (by first | assumption | simp | omega) zB)))))) rfl rfl rfl rfl ?_
        exact zP (o:=0) rfl rfl (zJ (zE (zE (zA (by first | assumption | simp | omega) (zA (by first | assumption | simp | omega) (zE (zE (zA (by first | assumption | simp | omega) zB)))))))) rfl rfl rfl rfl hO
      refine zY (tN h0) <| zD (AV.str u) (zA (by first | assumption | simp | omega) (zE (zE (zA (by first | assumption | simp | omega) (zA (by first | assumption | simp | omega) (zE (zC zB))))))) rfl <| zF <| zY tF <| zD (AV.str u) (zA (by first | assumption | simp | omega) (zE (zE (zA (by first | assumption | simp | omega) (zA (by first | assumption | simp | omega) (zE (zC zB))))))) rfl <| zr (i:=0) rfl he0 ?_
      refine zF <| zY tF <| zD (AV.str u) (zA (by first | assumption | simp | omega) (zE (zE (zA (by first | assumption | simp | omega) (zA (by first | assumption | simp | omega) (zE (zC zB))))))) rfl ?_
      refine sGenA (fun H'=>Old H H' ∧ H'[(H ++ [ABlk.box [AV.str s]]).length]? = some (.box [.int .i64 ((c.toNat : Int) - 64),.int .i64 0,.bool fc,.bool fr])) ⟨?_,hP⟩ (fun H2 ⟨ho,hb2⟩=>?_)
      · have hp:=((Old.refl H).push [ABlk.box [AV.str s]]).push [ABlk.box [AV.int .i64 0,AV.int .i64 0,AV.bool false,AV.bool false]]
        have h1 : H.length ≤ H.length:=zL0 _
        have h2 : H.length ≤ (H ++ [ABlk.box [AV.str s]]).length:=by simp
        exact (((((hp.set h1 _).set h2 _).set h2 _).set h1 _).set h1 _).set h2 _
      have h2 : H.length ≤ (H ++ [ABlk.box [AV.str s]]).length:=by simp
      refine sStrB tO <| zGw ?_
      refine zBm (fun k : Nat=>[(2,pR (H ++ [ABlk.box [AV.str s]]).length),(54,zK k),(52,.sl (some false) H2.length 1 0 u.length),(53,zK u.length)])
        (fun k H'=>Old H H' ∧ H'[(H ++ [ABlk.box [AV.str s]]).length]? = some (.box [.int .i64 ((c.toNat : Int) - 64),zK (zCi (u.take k)),.bool fc,.bool fr]) ∧ H'[H2.length]? = some (.row 1 (u.map zBl)) ∧ k ≤ u.length ∧ (u.take k).all zGm = true)
        (fun k=>u.length - k) 0 rfl ⟨ho.push _,zC hb2,zB,zMm _,rfl⟩ (fun k H1 ⟨ho1,hb1,hr1,hk,hall⟩=>?_)
      have hbl : (H ++ [ABlk.box [AV.str s]]).length < H2.length:=(zg hb2).1
      by_cases hlt : k < u.length
      · obtain ⟨x,hx⟩ : ∃ x,u[k]? = some x:=⟨_,zLy hlt⟩
        have hx256 : x.toNat < 256:=zM4 x
        have hxm : (u.map zBl)[k]? = some (byV x):=by rw [zL9,hx]; rfl
        have etk : u.take (k + 1) = u.take k ++ [x]:=by
          obtain ⟨q1,q2⟩:=zg hx
          rw [zNQ q1,q2]
        by_cases hd : zGm x = true
        · have hdd:=(zKj x).1 hd
          have hv:=zLm _ hall
          have hpw : 10 ^ (u.take k).length ≤ 10 ^ 2:=zMz tO (by rw [zMA]; omega)
          have e2 : (10 : Nat) ^ 2 = 100:=rfl
          refine sW ?_
          refine sAt ⟨by omega,by omega⟩ <| zBV k (byV x) (byV x) tO hr1 hxm rfl <| sW ?_
          refine zN (r:=zCi (u.take k) * 10) tO tO <| sVal (r:=(x.toNat : Int) - 48) (by rw [IntKind.wrap_u8]; omega) <| sVal (r:=(x.toNat : Int) - 48) (by rw [IntKind.wrap_i64]; omega) <| zN (r:=zCi (u.take k) * 10 + (x.toNat - 48)) tO tO <| sS (.int .i64 ↑(zCi (List.take k u) * 10 + (x.toNat - 48))) [.int .i64 (↑c.toNat - 64),.int .i64 ↑(zCi (List.take k u) * 10 + (x.toNat - 48)),AV.bool fc,AV.bool fr] ?_
          refine zN (r:=k + 1) rfl tO ?_
          refine zAU (k + 1) rfl ⟨ho1.set h2 _, ?_,zA tO hr1,by omega, ?_⟩ tO
          · rw [etk,decV_snoc]; exact zE hb1
          · rw [etk,List.all_append,hall]; simp [hd]
        · have hd:=zMe.2 hd
          rw [zLv (fun y=>by
            have:=zMs.1 y.2.2.2 x (zMH hx)
            rw [hd] at this; cases this)] at hw
          subst hw
          have ew : refV none = .tup [rV noRef,zGl 2]:=rfl
          rw [ew]
          by_cases h48' : x.toNat < 48
          · refine sW ?_
            refine sAt ⟨by omega,by omega⟩ <| zBV k (byV x) (byV x) tO hr1 hxm rfl <| sW ?_
            refine sS (AV.agg zV1) (AV.cells (AV.agg zV1)) ?_
            exact zP (v:=rV noRef) (v1:=zGl 2) (o:=0) rfl rfl (zJ (zE hb1)) rfl rfl rfl rfl (ho1.set h2 _)
          · have : 57 < x.toNat:=by
              unfold zGm at hd
              rw [zOM,zM3,zM3] at hd
              omega
            refine sW ?_
            refine sAt ⟨by omega,by omega⟩ <| zBV k (byV x) (byV x) tO hr1 hxm rfl <| sW ?_
            refine sS (AV.agg zV1) (AV.cells (AV.agg zV1)) ?_
            exact zP (v:=rV noRef) (v1:=zGl 2) (o:=0) rfl rfl (zJ (zE hb1)) rfl rfl rfl rfl (ho1.set h2 _)
      · have ek : k = u.length:=by omega
        subst ek
        rw [zOI] at hall hb1
        rw [zLx ⟨h0,h2',fun y=>h48 (by rw [hu] at y; rw [zMI y]; rfl),hall⟩] at hw
        subst hw
        have ew : refV (some ⟨(c.toNat : Int) - 64,zCi u,fc,fr⟩) = .tup [.agg [.int .i64 ((c.toNat : Int) - 64),zK (zCi u),.bool fc,.bool fr],.nili]:=rfl
        rw [ew]
        refine sW ?_
        refine sS (AV.agg [.int .i64 (↑c.toNat - 64),zK (zCi u),AV.bool fc,AV.bool fr]) (AV.cells (AV.agg [.int .i64 (↑c.toNat - 64),zK (zCi u),AV.bool fc,AV.bool fr])) ?_
        exact zP (v:=.agg [.int .i64 ((c.toNat : Int) - 64),zK (zCi u),.bool fc,.bool fr]) (v1:=.nili) (o:=0) rfl rfl (zJ (zE hb1)) rfl rfl rfl rfl (ho1.set h2 _)
end
end Go.AM
set_option maxRecDepth 20000
namespace Go.AM
def CR (C : CSpec) (f : Nat) (args : List AV) (H : Heap) (b : Nat) (s : Bs) (d : Nat) (r : Option (Nd × Nat)) : Prop:=
  (∀ n e,r = some (n,e) → C f args H (ndV n) (H.set b (rdB s e d))) ∧ (r = none → C f (.pan .undef :: args) H zEs (H.set b (.box (wkC s))))
def mkR (s : Bs) (d : Nat) (r : Option (Nd × Nat)) : Option (AV × ABlk):=r.map fun p=>(ndV p.1,rdB s p.2 d)
def Off (H : Heap) (b : Nat) (H' : Heap) : Prop:=∀ c x,H[c]? = some x → c ≠ b → H'[c]? = some x
def nodeW (k num : Int) (t : Bs) (x : AV) : AV:=.agg [.int .i64 k,.int .i64 num,.str t,.int .i64 0,.int .i64 0,.bool false,.bool false,.int .i64 0,.int .i64 0,.bool false,.bool false,x]
theorem frz_node {n0 nb m : Nat} {k num : Int} {t : Bs} {xs : List AV} {H : Heap} (h : H[nb]? = some (.row 12 xs)) (hn : n0 ≤ nb) (hm : xs.length = m) :
    zDq n0 (nodeW k num t (.sl (some false) nb 12 0 m)) H = some (nodeW k num t (.lst (some false) 12 xs),H.set nb (.frz 12 xs)):=by
  subst hm
  have : ¬ nb < n0:=by omega
  simp only [nodeW,zDq,zJH,this,zMP,h]
  simp [frzQ]
section
variable {C : CSpec} {GT : Nat → Option AV}
theorem opOf_ev (t : Bs) (H : Heap) (h : zBO t ≠ 0) : EFun C GT zE4 [.str t] H (zK (zBO t)) H:=by
  refine zZ ?_
  by_cases h1 : t = [61]
  · subst h1
    refine zG ?_
    exact sRr
  by_cases h2 : t = [60,62]
  · subst h2
    refine zF <| zG ?_
    exact sRr
  by_cases h3 : t = [60]
  · subst h3
    refine zF <| zF <| zG ?_
    exact sRr
  by_cases h4 : t = [60,61]
  · subst h4
    refine zF <| zF <| zF <| zG ?_
    exact sRr
  by_cases h5 : t = [62]
  · subst h5
    refine zF <| zF <| zF <| zF <| zG ?_
    exact sRr
  by_cases h6 : t = [62,61]
  · subst h6
    refine zF <| zF <| zF <| zF <| zF <| zG ?_
    exact sRr
  by_cases h7 : t = [38]
  · subst h7
    refine zF <| zF <| zF <| zF <| zF <| zF <| zG ?_
    exact sRr
  by_cases h8 : t = [43]
  · subst h8
    refine zF <| zF <| zF <| zF <| zF <| zF <| zF <| zG ?_
    exact sRr
  by_cases h9 : t = [45]
  · subst h9
    refine zF <| zF <| zF <| zF <| zF <| zF <| zF <| zF ?_
    refine zG ?_
    exact sRr
  by_cases h10 : t = [42]
  · subst h10
    refine zF <| zF <| zF <| zF <| zF <| zF <| zF <| zF ?_
    refine zF <| zG ?_
    exact sRr
  by_cases h11 : t = [47]
  · subst h11
    refine zF <| zF <| zF <| zF <| zF <| zF <| zF <| zF ?_
    refine zF <| zF ?_
    exact sRr
  · exact absurd (by unfold zBO; simp only [h1,h2,h3,h4,h5,h6,h7,h8,h9,h10,h11,zMP]) h
theorem want_ev (hB : ∀ b s p d H,H[b]? = some (rdB s p d) → p ≤ s.length → s.length ≤ 200 → C za [pR b] H (.tup []) (H.set b (rdB s (skip s p) d)))
    (hF : ∀ b s p d a e H,H[b]? = some (rdB s p d) → C zV (.pan .undef :: [pR b,.int .i64 a,zGl e]) H zEs (H.set b (.box (wkC s))))
    (c : UInt8) (b : Nat) (s : Bs) (p d : Nat) (H : Heap) (hb : H[b]? = some (rdB s p d)) (hp : p ≤ s.length) (hl : s.length ≤ 200) :
    zB3 C GT zCC [pR b,byV c] H b (wkC s) zEs (if s[skip s p]? = some c then some (.tup [],rdB s (skip s p + 1) d) else none):=by
  have hbl:=hB b s p d H hb hp hl
  have hq:=zBi hp
  generalize skip s p = q at *
  have hf:=hF b s q d q 2 (H.set b (rdB s q d)) (zE hb)
  clear hB hF
  refine zz ?_
  by_cases hlt : q < s.length
  · obtain ⟨x,hx⟩ : ∃ x,s[q]? = some x:=⟨_,zLy hlt⟩
    by_cases h : x = c
    · subst h
      rw [zLx hx]
      refine zAc hbl (fun h=>by cases h) <| zD (zK q) (zE hb) rfl <| zD (AV.str s) (zE hb) rfl <| zY tN <| zD (AV.str s) (zE hb) rfl <| zD (zK q) (zE hb) rfl ?_
      refine zr rfl hx <| zF <| zY (zMQ.2 rfl) <| zD (zK q) (zE hb) rfl <| zN (r:=q + 1) rfl tO <| zH (v:=.int .i64 ↑(q + 1)) [AV.str s,.int .i64 ↑(q + 1),zK d] (zE hb) rfl rfl rfl rfl ?_
      exact zGf _ (by first | rfl | assumption) rfl rfl rfl rfl (((OldB.start hb).setB _).setB _) rfl
    · rw [zLv (by rw [hx]; exact fun e=>h (zMI e))]
      have hn : x.toNat ≠ c.toNat:=fun e=>h (zME.1 e)
      refine zAc hbl (fun h=>by cases h) <| zD (zK q) (zE hb) rfl <| zD (AV.str s) (zE hb) rfl <| zY tN <| zD (AV.str s) (zE hb) rfl <| zD (zK q) (zE hb) rfl ?_
      refine zr rfl hx <| zF <| zb (zMg.2 tO) <| zD (zK q) (zE hb) rfl <| zAV hf ?_
      exact sPanO (by first | rfl | assumption) rfl rfl rfl (((OldB.start hb).setB _).setB _) rfl (by first | exact WkL.refl _ | exact wkRd _ _ _) (by first | exact Wk.refl _ | exact wkFlt _ _)
  · rw [zLv (by rw [zMo tO]; simp)]
    refine zAc hbl (fun h=>by cases h) <| zD (zK q) (zE hb) rfl <| zD (AV.str s) (zE hb) rfl <| zb tE <| zG <| zG ?_
    refine zD (zK q) (zE hb) rfl <| zAV hf ?_
    exact sPanO (by first | rfl | assumption) rfl rfl rfl (((OldB.start hb).setB _).setB _) rfl (by first | exact WkL.refl _ | exact wkRd _ _ _) (by first | exact Wk.refl _ | exact wkFlt _ _)
theorem within_ev (hF : ∀ b s p d a e H,H[b]? = some (rdB s p d) → C zV (.pan .undef :: [pR b,.int .i64 a,zGl e]) H zEs (H.set b (.box (wkC s))))
    (f : Nat) (caps : List AV) (a : Int) (b : Nat) (s : Bs) (p d : Nat) (H : Heap) (hb : H[b]? = some (rdB s p d)) (hd : d ≤ 1000) (r : Option (Nd × Nat))
    (hC : ∀ H',H'[b]? = some (rdB s p (d + 1)) → Off H b H' → CR C f caps H' b s (d + 1) r) :
    zB3 C GT zBr [pR b,.int .i64 a,.fn f [] caps] H b (wkC s) zEs (mkR s d (if d = 30 then none else r)):=by
  have hbl : b < H.length:=(zg hb).1
  refine zz ?_
  by_cases h30 : d = 30
  · rw [zLx h30]
    have e : mkR s d none = none:=rfl
    rw [e]
    have hf:=hF b s p d a 4
    clear hF hC
    refine zD (zK d) (zC hb) rfl <| zb tE <| zAV (hf _ hP) ?_
    exact sPanO (by first | rfl | assumption) rfl rfl rfl (((OldB.start hb).push _).setB _) rfl (by first | exact WkL.refl _ | exact wkRd _ _ _) (by first | exact Wk.refl _ | exact wkFlt _ _)
  · rw [zLv h30]
    have hoff : ∀ X Y,Off H b ((H ++ [X]).set b Y):=fun X Y c x hc hn=>zA (zMq hn) (zC hc)
    cases r with
    | none=>
      have e : mkR s d none = none:=rfl
      rw [e]
      have hc:=fun H' h1 h2=>(hC H' h1 h2).2 rfl
      clear hF hC
      refine zD (zK d) (zC hb) rfl <| zY tN <| zD (zK d) (zC hb) rfl <| zN (r:=d + 1) rfl tO <| zH (v:=.int .i64 ↑(d + 1)) [AV.str s,zK p,.int .i64 ↑(d + 1)] (zC hb) rfl rfl rfl rfl <| zAV (hc _ (zE (zC hb)) (hoff _ _)) ?_
      exact sPanO (by first | rfl | assumption) rfl rfl rfl ((((OldB.start hb).push _).setB _).setB _) rfl (by first | exact WkL.refl _ | exact wkRd _ _ _) (by first | exact Wk.refl _ | exact wkFlt _ _)
    | some p'=>
      obtain ⟨n,e⟩:=p'
      have e0 : mkR s d (some (n,e)) = some (ndV n,rdB s e d):=rfl
      rw [e0]
      have hc:=fun H' h1 h2=>(hC H' h1 h2).1 n e rfl
      clear hF hC
      refine zD (zK d) (zC hb) rfl <| zY tN <| zD (zK d) (zC hb) rfl <| zN (r:=d + 1) rfl tO <| zH (v:=.int .i64 ↑(d + 1)) [AV.str s,zK p,.int .i64 ↑(d + 1)] (zC hb) rfl rfl rfl rfl <| zBj (hc _ (zE (zC hb)) (hoff _ _)) ?_
      refine zH (v:=ndV n) (AV.cells (ndV n)) zB rfl rfl rfl rfl <| zD (zK (d + 1)) (zA tA (zC (zE (zE (zC hb))))) rfl <| zN (r:=d) tO tO <| zH (v:=.int .i64 ↑d) [AV.str s,zK e,.int .i64 ↑d] (zA tA (zC (zE (zE (zC hb))))) rfl rfl rfl rfl <| zD (ndV n) (zA tA (zE zB)) rfl <| zH (v:=ndV n) (AV.cells (ndV n)) (zA tA (zA tA (zC (zA tA (zA tA zB))))) rfl rfl rfl rfl ?_
      exact zx (o:=0) (ndV n) (by first | rfl | assumption) rfl rfl (zJ (zE (zA tA (zA tA (zC (zA tA (zA tA zB))))))) rfl rfl rfl ((((((((OldB.start hb).push _).setB _).setB _).push _).set tA _).setB _).set tA _) rfl
theorem negc_ev (b rb : Nat) (s : Bs) (p d : Nat) (H : Heap) (hb : H[b]? = some (rdB s p d)) (hr : H[rb]? = some (.box [pR b])) (hp : p < s.length) (hl : s.length ≤ 200)
    (hN : ∀ H',H'[b]? = some (rdB s (p + 1) d) → CR C zAE [pR b] H' b s d ((P s).one (p + 1) d)) :
    zB3 C GT zBs [pR rb] H b (wkC s) zEs (mkR s d (((P s).one (p + 1) d).map fun q=>(negN q.1,q.2))):=by
  have hbl : b < H.length:=(zg hb).1
  have hne : rb ≠ b:=fun e=>by rw [e,hb] at hr; cases hr
  generalize (P s).one (p + 1) d = r at *
  refine zz ?_
  cases r with
  | none=>
    have hc:=fun H' h1=>(hN H' h1).2 rfl
    clear hN
    have e : mkR s d (Option.map (fun q : Nd × Nat=>(negN q.1,q.2)) none) = none:=rfl
    rw [e]
    refine zD (pR b) (zC hr) rfl <| zD (zK p) (zC hb) rfl <| zN (r:=p + 1) rfl tO <| zH (v:=.int .i64 ↑(p + 1)) [AV.str s,.int .i64 ↑(p + 1),zK d] (zC hb) rfl rfl rfl rfl <| zD (pR b) (zA tA (zC hr)) rfl <| zAV (hc _ (zE (zC hb))) ?_
    exact sPanO (by first | rfl | assumption) rfl rfl rfl ((((OldB.start hb).push _).setB _).setB _) rfl (by first | exact WkL.refl _ | exact wkRd _ _ _) (by first | exact Wk.refl _ | exact wkFlt _ _)
  | some p'=>
    obtain ⟨n,e⟩:=p'
    have hc:=fun H' h1=>(hN H' h1).1 n e rfl
    clear hN
    have e0 : mkR s d (Option.map (fun q : Nd × Nat=>(negN q.1,q.2)) (some (n,e))) = some (ndV (negN n),rdB s e d):=rfl
    rw [e0]
    refine zD (pR b) (zC hr) rfl <| zD (zK p) (zC hb) rfl <| zN (r:=p + 1) rfl tO <| zH (v:=.int .i64 ↑(p + 1)) [AV.str s,.int .i64 ↑(p + 1),zK d] (zC hb) rfl rfl rfl rfl <| zD (pR b) (zA tA (zC hr)) rfl <| zBj (hc _ (zE (zC hb))) ?_
    refine zAs (vs':=[ndV n]) rfl rfl <| zl (v:=[.int .i64 7,.int .i64 0,AV.str [],.int .i64 0,.int .i64 0,AV.bool false,AV.bool false,.int .i64 0,.int .i64 0,AV.bool false,AV.bool false,AV.sl (some false) ((List.set (H ++ [ABlk.box zV0]) b (ABlk.box [AV.str s,.int .i64 ↑(p + 1),zK d])).set b (rdB s e d)).length 12 0 [ndV n].length]) rfl <| zH (v:=AV.agg [.int .i64 7,.int .i64 0,AV.str [],.int .i64 0,.int .i64 0,AV.bool false,AV.bool false,.int .i64 0,.int .i64 0,AV.bool false,AV.bool false,AV.sl (some false) ((List.set (H ++ [ABlk.box zV0]) b (ABlk.box [AV.str s,.int .i64 ↑(p + 1),zK d])).set b (rdB s e d)).length 12 0 [ndV n].length]) (AV.cells (AV.agg [.int .i64 7,.int .i64 0,AV.str [],.int .i64 0,.int .i64 0,AV.bool false,AV.bool false,.int .i64 0,.int .i64 0,AV.bool false,AV.bool false,AV.sl (some false) ((List.set (H ++ [ABlk.box zV0]) b (ABlk.box [AV.str s,.int .i64 ↑(p + 1),zK d])).set b (rdB s e d)).length 12 0 [ndV n].length])) (zC (zA tA (zA tA zB))) rfl rfl rfl rfl ?_
    exact zx (o:=0) (nodeW 7 0 [] (.sl (some false) (((H ++ [ABlk.box (ndC zW)]).set b (rdB s (p + 1) d)).set b (rdB s e d)).length 12 0 1)) rfl rfl rfl (zJ hP) rfl (frz_node (xs:=[ndV n]) hP tC rfl) rfl (by (repeat' (first | exact OldB.start (by assumption) | apply OldB.push | apply OldB.setB | refine OldB.set ?_ tC _)); done) rfl
end
end Go.AM
set_option maxRecDepth 20000
namespace Go.AM
def zGg (s t : Bs) (e d : Nat) : Option (Nd × Nat):=match tok s (e + 1) with
  | .sign e2 [41]=>some (zC2 t [],e2)
  | _=>(P s).args t [] (e + 1) d
def parS (s : Bs) (p d : Nat) : Option (Nd × Nat):=((P s).loose 1 (p + 1) d).bind fun q=>match tok s q.2 with
  | .sign e2 [41]=>some (q.1,e2)
  | _=>none
def twS (s : Bs) (l p d : Nat) : Option (Nd × Nat):=if l = 4 then (P s).one p d else bl s ((P s).loose (l + 1) p d)
theorem Owns.notBox {H0 H : Heap} {v : AV} {k c : Nat} {xs cs : List AV} (h : Owns H0 H v k xs) (hc : H[c]? = some (.box cs)) : v.blk ≠ some c:=by
  rcases h with ⟨rfl,_⟩ | ⟨b',rfl,h1,h2,h3⟩
  · intro e; cases e
  · intro e
    simp only [AV.blk,zLt] at e
    subst e
    rw [h2] at hc; cases hc
theorem Owns.base {H0 H0' H : Heap} {v : AV} {k : Nat} {xs : List AV} (h : Owns H0 H v k xs) (e : H0'.length = H0.length) : Owns H0' H v k xs:=by
  rcases h with h | ⟨b',h0,h1,h2⟩
  · exact .inl h
  · exact .inr ⟨b',h0,by rw [e]; exact h1,h2⟩
theorem quo_end {r : Bs} {i : Nat} (h : r.head? ≠ some 34) : quo (34 :: r) i = some ([],i + 1):=by
  cases r with
  | nil=>simp [quo]
  | cons d r=>
    simp only [quo,zMR]
    rw [zLv (fun e=>h (by rw [e]; rfl))]
theorem quo_dbl {r : Bs} {i : Nat} : quo (34 :: 34 :: r) i = (quo r (i + 2)).map fun p=>(34 :: p.1,p.2):=by simp only [quo,zMR]
theorem quo_chr {c : UInt8} {r : Bs} {i : Nat} (h : c ≠ 34) : quo (c :: r) i = (quo r (i + 1)).map fun p=>(c :: p.1,p.2):=by
  cases r with
  | nil=>simp [quo,h]
  | cons d r=>simp only [quo]; rw [zLv h]
structure TSt where
  k : Nat
  v : AV
  acc : Bs
def paren (s : Bs) (q : Nat) : Option Nat:=if s[skip s q]? = some 41 then some (skip s q + 1) else none
theorem wordly_par {c : UInt8} (h : c.toNat = 41 ∨ c.toNat = 44 ∨ c.toNat = 40 ∨ c.toNat = 45) : zu c = false:=by
  have e : ∀ n : Fin 256,(n.val = 41 ∨ n.val = 44 ∨ n.val = 40 ∨ n.val = 45) → zu (UInt8.ofNat n.val) = false:=by decide +kernel
  have:=e ⟨c.toNat,zM4 c⟩ h
  simpa using this
theorem zFi {s : Bs} {p : Nat} {c : UInt8} (h : s[skip s p]? = some c) (hc : c.toNat = 41 ∨ c.toNat = 44 ∨ c.toNat = 40 ∨ c.toNat = 45) : tok s p = .sign (skip s p + 1) [c]:=by
  have hw:=wordly_par hc
  have n1 : c ≠ 34:=fun e=>by subst e; revert hc; decide
  have n2 : c ≠ 35:=fun e=>by subst e; revert hc; decide
  have n3 : c ≠ 60:=fun e=>by subst e; revert hc; decide
  have n4 : c ≠ 62:=fun e=>by subst e; revert hc; decide
  unfold tok zB4
  rw [h]
  simp only [hw,zL5,zMP,n1,n2]
  split
  · rw [zLv (by rintro (⟨e,_⟩ | ⟨e,_⟩ | ⟨e,_⟩); exact n3 e; exact n3 e; exact n4 e)]
  · rfl
theorem zGE {s : Bs} {p e : Nat} {c : UInt8} (h : tok s p = .sign e [c]) : s[skip s p]? = some c ∧ e = skip s p + 1:=by
  unfold tok zB4 at h
  split at h
  · cases h
  · rename_i x hx
    split at h
    · cases h
    · split at h
      · split at h <;> cases h
      · split at h
        · split at h <;> cases h
        · split at h
          · split at h
            · cases h
            · cases h; exact ⟨hx,rfl⟩
          · cases h; exact ⟨hx,rfl⟩
theorem parS_is (s : Bs) (p d : Nat) : parS s p d = ((P s).loose 1 (p + 1) d).bind fun q=>(paren s q.2).map fun e=>(q.1,e):=by
  unfold parS
  refine zC3 rfl fun q _=>?_
  unfold paren
  by_cases h : s[skip s q.2]? = some 41
  · rw [zFi h (.inl rfl),zLx h]; rfl
  · rw [zLv h]
    split
    · rename_i e2 hk
      exact absurd (zGE hk).1 h
    · rfl
section
variable {C : CSpec} {GT : Nat → Option AV}
theorem text_ev (hF : ∀ b s p d a e H,H[b]? = some (rdB s p d) → C zV (.pan .undef :: [pR b,.int .i64 a,zGl e]) H zEs (H.set b (.box (wkC s))))
    (b : Nat) (s : Bs) (p d : Nat) (H : Heap) (hb : H[b]? = some (rdB s p d)) (hp : p < s.length) (hl : s.length ≤ 200) :
    zB3 C GT zCD [pR b] H b (wkC s) zEs (mkR s d ((quo (s.drop (p + 1)) (p + 1)).map fun q=>(txtN q.1,q.2))):=by
  have hbl : b < H.length:=(zg hb).1
  obtain ⟨r,hr⟩ : ∃ r,quo (s.drop (p + 1)) (p + 1) = r:=⟨_,rfl⟩
  rw [hr]
  refine zz <| sW ?_
  refine zN (r:=p + 1) rfl tO <| sS (.int .i64 ↑(p + 1)) [AV.str s,.int .i64 ↑(p + 1),zK d] ?_
  refine zBm (fun t : TSt=>[(2,pR H.length),(4,t.v),(0,pR b),(3,zK p)])
    (fun t H'=>Owns (H.set b (rdB s t.k d)) H' t.v 1 (t.acc.map zBl) ∧ OldB H b (rdB s t.k d) H' ∧ H'[b]? = some (rdB s t.k d) ∧ H'[H.length]? = some (.box (ndC zW)) ∧ t.k ≤ s.length ∧ t.acc.length ≤ t.k ∧ (quo (s.drop t.k) t.k).map (fun q=>(t.acc ++ q.1,q.2)) = r)
    (fun t=>s.length - t.k) ⟨p + 1,.lst (some true) 0 [],[]⟩ rfl ⟨.inl ⟨rfl,rfl⟩,(OldB.start hb).push _ |>.setB _,zE (zC hb),zA tO zB,by simp only; omega,by simp,by simp only [zM1]; rw [hr]; cases r <;> rfl⟩ (fun ⟨k,v,acc⟩ H1 ⟨how,hob,hb1,h2,hk,hal,hq⟩=>?_)
  dsimp only at how hob hb1 h2 hk hal hq ⊢
  have hlen1:=hob.old.1
  rw [zL3] at hlen1
  by_cases hlt : k < s.length
  case neg=>
    have e : r = none:=by rw [← hq,zM6 tO]; rfl
    subst e
    have e0 : mkR s d (Option.map (fun q : Bs × Nat=>(txtN q.1,q.2)) none) = none:=rfl
    rw [e0]
    have hf:=hF b s k d p 2 H1 hb1
    clear hF
    refine sW ?_
    refine zAV hf ?_
    exact sP
  obtain ⟨c,hc⟩ : ∃ c,s[k]? = some c:=⟨_,zLy hlt⟩
  rw [zA3 hc] at hq
  by_cases h34 : c = 34
  · subst h34
    by_cases hend : k + 1 < s.length ∧ s[k + 1]? = some 34
    · obtain ⟨hlt2,hc2⟩:=hend
      rw [zA3 hc2,quo_dbl,zOW] at hq
      refine sW ?_
      refine zN (r:=k + 1) rfl tO <| sS (.int .i64 ↑(k + 1)) [AV.str s,.int .i64 ↑(k + 1),zK d] ?_
      refine sW ?_
      refine zAs (vs':=[zBl 34]) rfl rfl ?_
      have hob2:=hob.setB (rdB s (k + 1) d)
      refine zCA (H0:=H.set b (rdB s (k + 1) d)) (((how.set (how.notBox hb1) _).base (by simp)).push _) (hob2.old.push _) zAz tO (by simp only [zL6,zLw,zL4]; omega) (by simp) fun v' H' ho' hH' hb' hf=>?_
      have hx1:=hf b _ (how.notBox hb1) (zC (zE hb1))
      have hx2:=hf H.length _ (how.notBox h2) (zC (zA tO h2))
      refine sW ?_
      refine zN (r:=k + 2) tO tO <| sS (.int .i64 ↑(k + 2)) [AV.str s,.int .i64 ↑(k + 2),zK d] ?_
      refine zAU (TSt.mk (k + 2) v' (acc ++ [34])) rfl ⟨(((by rw [zMW]; exact ho' : Owns _ _ _ _ _).set (ho'.notBox hx1) _).base (by simp)),(OldB.mk hbl hH').setB _,zE hx1,zA tO hx2,by simp only; omega,by simp only [zL1,zLw,zL4]; omega, ?_⟩ (by simp only; omega)
      rw [← hq]
      simp only [zMj,zNG]
      rfl
    · rw [quo_end (by
        intro e
        have hlt2 : k + 1 < s.length:=by
          rcases zNJ (k + 1) s.length with h | h
          · exact h
          · rw [zM6 h] at e; cases e
        refine hend ⟨hlt2, ?_⟩
        rw [List.head?_drop] at e
        exact e)] at hq
      subst hq
      have e0 : mkR s d (Option.map (fun q : Bs × Nat=>(txtN q.1,q.2)) (Option.map (fun q : Bs × Nat=>(acc ++ q.1,q.2)) (some ([],k + 1)))) = some (ndV (txtN acc),rdB s (k + 1) d):=by simp [mkR]
      rw [e0]
      by_cases hlt2 : k + 1 < s.length
      · obtain ⟨c2,hc2⟩ : ∃ c,s[k + 1]? = some c:=⟨_,zLy hlt2⟩
        have hn : c2.toNat ≠ 34:=fun e=>hend ⟨hlt2,by rw [hc2,show c2 = 34 from zME.1 e]⟩
        refine sW ?_
        refine zN (r:=k + 1) rfl tO <| sS (.int .i64 ↑(k + 1)) [AV.str s,.int .i64 ↑(k + 1),zK d] ?_
        refine sW ?_
        refine zb (zMg.2 tO) <| zIa (how.set (how.notBox hb1) _) <| sW ?_
        refine sS (AV.agg [.int .i64 2,.int .i64 0,AV.str acc,.int .i64 0,.int .i64 0,AV.bool false,AV.bool false,.int .i64 0,.int .i64 0,AV.bool false,AV.bool false,AV.lst (some true) 0 []]) (AV.cells (AV.agg [.int .i64 2,.int .i64 0,AV.str acc,.int .i64 0,.int .i64 0,AV.bool false,AV.bool false,.int .i64 0,.int .i64 0,AV.bool false,AV.bool false,AV.lst (some true) 0 []])) ?_
        exact zx (o:=0) (ndV (txtN acc)) rfl rfl rfl (zJ (zE (zA tO h2))) rfl rfl rfl hO rfl
      · refine sW ?_
        refine zN (r:=k + 1) rfl tO <| sS (.int .i64 ↑(k + 1)) [AV.str s,.int .i64 ↑(k + 1),zK d] ?_
        refine sW ?_
        refine zIa (how.set (how.notBox hb1) _) <| sW ?_
        refine sS (AV.agg [.int .i64 2,.int .i64 0,AV.str acc,.int .i64 0,.int .i64 0,AV.bool false,AV.bool false,.int .i64 0,.int .i64 0,AV.bool false,AV.bool false,AV.lst (some true) 0 []]) (AV.cells (AV.agg [.int .i64 2,.int .i64 0,AV.str acc,.int .i64 0,.int .i64 0,AV.bool false,AV.bool false,.int .i64 0,.int .i64 0,AV.bool false,AV.bool false,AV.lst (some true) 0 []])) ?_
        exact zx (o:=0) (ndV (txtN acc)) rfl rfl rfl (zJ (zE (zA tO h2))) rfl rfl rfl hO rfl
  · have hn : c.toNat ≠ 34:=fun e=>h34 (zME.1 e)
    rw [quo_chr h34,zOW] at hq
    refine sW ?_
    refine zAs (vs':=[zBl c]) rfl rfl <| zCA (H0:=H.set b (rdB s k d)) (how.push _) (hob.old.push _) zAz tO (by simp only [zL6,zLw,zL4]; omega) (by simp) fun v' H' ho' hH' hb' hf=>?_
    have hx1:=hf b _ (how.notBox hb1) (zC hb1)
    have hx2:=hf H.length _ (how.notBox h2) (zC h2)
    refine sW ?_
    refine zN (r:=k + 1) tO tO <| sS (.int .i64 ↑(k + 1)) [AV.str s,.int .i64 ↑(k + 1),zK d] ?_
    refine zAU (TSt.mk (k + 1) v' (acc ++ [c])) rfl ⟨(((by rw [zMW]; exact ho' : Owns _ _ _ _ _).set (ho'.notBox hx1) _).base (by simp)),(OldB.mk hbl hH').setB _,zE hx1,zA tO hx2,by simp only; omega,by simp only [zL1,zLw,zL4]; omega, ?_⟩ (by simp only; omega)
    rw [← hq]
    simp only [zMj,zNG]
    rfl
end
end Go.AM
set_option maxRecDepth 20000
namespace Go.AM
theorem litP_word {t : Bs} (h : t.head? ≠ some 35) : litP t = if t = trueW then some (3,1) else if t = zHr then some (3,0) else none:=by
  unfold litP
  by_cases h1 : t = trueW
  · rw [zLx h1,zLx h1]
  · rw [zLv h1,zLv h1]
    by_cases h2 : t = zHr
    · rw [zLx h2,zLx h2]
    · rw [zLv h2,zLv h2]
      rw [zLv (fun e=>h (by rw [e]; rfl)),zLv (fun e=>h (by rw [e]; rfl)),zLv (fun e=>h (by rw [e]; rfl)),zLv (fun e=>h (by rw [e]; rfl)),zLv (fun e=>h (by rw [e]; rfl)),zLv (fun e=>h (by rw [e]; rfl))]
section
variable {C : CSpec} {GT : Nat → Option AV}
theorem plain_ev (hW : ∀ s H,s.length ≤ 1000 → ∃ n0,C zB0 [.str s] H (wholeV (wholeS s) n0) H) (hL : ∀ s H,C zAH [.str s] H (litV (litP s)) H) (hR : ∀ s H,s.length ≤ 1000 → C zA0 [.str s] H (refV (zCc s)) H)
    (t : Bs) (H : Heap) (hl : t.length ≤ 1000) (h45 : t.head? ≠ some 45) (h35 : t.head? ≠ some 35) : EFun C GT zEK [.str t] H (zJA (zJf t)) H:=by
  have hw:=hW t (H ++ [ABlk.box (ndC zW)]) hl
  have hlit:=hL t (H ++ [ABlk.box (ndC zW)])
  have hr:=fun H=>hR t H hl
  clear hW hL hR
  rw [wholeS_of h45] at hw
  rw [litP_word h35] at hlit
  refine zZ ?_
  unfold zJf
  cases hwp : zAq t with
  | some n=>
    rw [hwp] at hw
    obtain ⟨n0,hw⟩:=hw
    have hw : C zB0 [.str t] (H ++ [ABlk.box (ndC zW)]) (.tup [zI n,.bool true]) (H ++ [ABlk.box (ndC zW)]):=hw
    have e : zJA (some (numN n)) = .tup [ndV (numN n),.bool true]:=rfl
    simp only
    rw [e]
    refine sW ?_
    refine sS (AV.agg [.int .i64 1,zI n,AV.str [],.int .i64 0,.int .i64 0,AV.bool false,AV.bool false,.int .i64 0,.int .i64 0,AV.bool false,AV.bool false,AV.lst (some true) 0 []]) (AV.cells (AV.agg [.int .i64 1,zI n,AV.str [],.int .i64 0,.int .i64 0,AV.bool false,AV.bool false,.int .i64 0,.int .i64 0,AV.bool false,AV.bool false,AV.lst (some true) 0 []])) ?_
    exact zP (o:=0) rfl rfl (zJ (zE zB)) rfl rfl rfl rfl hO
  | none=>
    rw [hwp] at hw
    obtain ⟨n0,hw⟩:=hw
    have hw : C zB0 [.str t] (H ++ [ABlk.box (ndC zW)]) (.tup [zI n0,.bool false]) (H ++ [ABlk.box (ndC zW)]):=hw
    simp only
    by_cases h1 : t = trueW
    · rw [zLx h1] at hlit ⊢
      have hlit : C zAH [.str t] (H ++ [ABlk.box (ndC zW)]) (.tup [v3 3 1,.bool true]) (H ++ [ABlk.box (ndC zW)]):=hlit
      have e : zJA (some (truN true)) = .tup [ndV (truN true),.bool true]:=rfl
      rw [e]
      clear hr
      refine sW ?_
      refine sS (v3 3 1) (AV.cells (v3 3 1)) ?_
      refine sW ?_
      refine sS (AV.agg zV2) (AV.cells (AV.agg zV2)) ?_
      exact zP (o:=0) rfl rfl (zJ (zE (zA tA (zC zB)))) rfl rfl rfl rfl hO
    rw [zLv h1] at hlit ⊢
    by_cases h2 : t = zHr
    · rw [zLx h2] at hlit ⊢
      have hlit : C zAH [.str t] (H ++ [ABlk.box (ndC zW)]) (.tup [v3 3 0,.bool true]) (H ++ [ABlk.box (ndC zW)]):=hlit
      have e : zJA (some (truN false)) = .tup [ndV (truN false),.bool true]:=rfl
      rw [e]
      clear hr
      refine sW ?_
      refine sS (v3 3 0) (AV.cells (v3 3 0)) ?_
      refine sW ?_
      refine sS (AV.agg zV3) (AV.cells (AV.agg zV3)) ?_
      exact zP (o:=0) rfl rfl (zJ (zE (zA tA (zC zB)))) rfl rfl rfl rfl hO
    rw [zLv h2] at hlit ⊢
    have hlit : C zAH [.str t] (H ++ [ABlk.box (ndC zW)]) (.tup [v3 0 0,.bool false]) (H ++ [ABlk.box (ndC zW)]):=hlit
    cases hrp : zCc t with
    | some r=>
      rw [hrp] at hr
      have hr : ∀ H,C zA0 [.str t] H (.tup [rV r,.nili]) H:=hr
      have e : zJA (Option.map refN (some r)) = .tup [ndV (refN r),.bool true]:=rfl
      rw [e]
      refine sW ?_
      refine sS (v3 0 0) (AV.cells (v3 0 0)) ?_
      refine sW ?_
      refine sS (rV r) (AV.cells (rV r)) ?_
      refine sW ?_
      refine sS (AV.agg [.int .i64 5,.int .i64 0,AV.str [],.int .i64 r.col,.int .i64 r.row,AV.bool r.fc,AV.bool r.fr,.int .i64 0,.int .i64 0,AV.bool false,AV.bool false,AV.lst (some true) 0 []]) (AV.cells (AV.agg [.int .i64 5,.int .i64 0,AV.str [],.int .i64 r.col,.int .i64 r.row,AV.bool r.fc,AV.bool r.fr,.int .i64 0,.int .i64 0,AV.bool false,AV.bool false,AV.lst (some true) 0 []])) ?_
      exact zP (o:=0) rfl rfl (zJ (zE (zA tA (zC (zA tA (zC zB)))))) rfl rfl rfl rfl hO
    | none=>
      rw [hrp] at hr
      have hr : ∀ H,C zA0 [.str t] H (.tup [rV noRef,zGl 2]) H:=hr
      have e : zJA (Option.map refN none) = .tup [ndV zW,.bool false]:=rfl
      rw [e]
      refine sW ?_
      refine sS (v3 0 0) (AV.cells (v3 0 0)) ?_
      refine sW ?_
      refine sS (rV noRef) (AV.cells (rV noRef)) ?_
      refine sW ?_
      refine sS (AV.agg zV0) (AV.cells (AV.agg zV0)) ?_
      exact zP (o:=0) rfl rfl (zJ (zE (zA tA (zC (zA tA (zC zB)))))) rfl rfl rfl rfl hO
theorem par_ev (hWt : ∀ c b s p d H,H[b]? = some (rdB s p d) → p ≤ s.length → s.length ≤ 200 → (s[skip s p]? = some c → C zp [pR b,byV c] H (.tup []) (H.set b (rdB s (skip s p + 1) d))) ∧ (s[skip s p]? ≠ some c → C zp (.pan .undef :: [pR b,byV c]) H zEs (H.set b (.box (wkC s)))))
    (b rb : Nat) (s : Bs) (p d : Nat) (H : Heap) (hb : H[b]? = some (rdB s p d)) (hr : H[rb]? = some (.box [pR b])) (hp : p < s.length) (hl : s.length ≤ 200)
    (hT : ∀ H',H'[b]? = some (rdB s (p + 1) d) → CR C zi [pR b,zI 0] H' b s d (bl s ((P s).loose 1 (p + 1) d))) :
    zB3 C GT zBg [pR rb] H b (wkC s) zEs (mkR s d (parS s p d)):=by
  have hbl : b < H.length:=(zg hb).1
  have hne : rb ≠ b:=fun e=>by rw [e,hb] at hr; cases hr
  have hrl : rb < H.length:=(zg hr).1
  rw [parS_is]
  have hends : ∀ q,(P s).loose 1 (p + 1) d = some q → q.2 ≤ s.length:=fun q hq=>((zBz s).loose 1 (p + 1) d q tO hq).2
  generalize (P s).loose 1 (p + 1) d = r at *
  refine zz ?_
  cases r with
  | none=>
    have hc:=fun H' h1=>(hT H' h1).2 rfl
    clear hT hWt
    have e : mkR s d (Option.bind none fun q : Nd × Nat=>(paren s q.2).map fun e=>(q.1,e)) = none:=rfl
    rw [e]
    refine sW ?_
    refine zN (r:=p + 1) rfl tO <| sS (.int .i64 ↑(p + 1)) [AV.str s,.int .i64 ↑(p + 1),zK d] ?_
    refine sW ?_
    refine zAV (hc _ (zE (zC hb))) ?_
    exact sP
  | some p'=>
    obtain ⟨n,e⟩:=p'
    have hel:=zBi (hends _ rfl)
    have hc:=fun H' h1=>(hT H' h1).1 n (skip s e) rfl
    have hww:=fun H' h=>hWt 41 b s (skip s e) d H' h hel hl
    rw [zEO] at hww
    clear hT hWt
    have e0 : (Option.bind (some (n,e)) fun q : Nd × Nat=>(paren s q.2).map fun e=>(q.1,e)) = (paren s e).map fun e=>(n,e):=rfl
    rw [e0]
    unfold paren
    by_cases h41 : s[skip s e]? = some 41
    · have hwn:=fun H' h=>(hww H' h).1 h41
      clear hww
      rw [zLx h41]
      have e1 : mkR s d (Option.map (fun e=>(n,e)) (some (skip s e + 1))) = some (ndV n,rdB s (skip s e + 1) d):=rfl
      rw [e1]
      refine sW ?_
      refine zN (r:=p + 1) rfl tO <| sS (.int .i64 ↑(p + 1)) [AV.str s,.int .i64 ↑(p + 1),zK d] ?_
      refine sW ?_
      refine zBj (hc _ (zE (zC hb))) <| sS (ndV n) (AV.cells (ndV n)) ?_
      refine sW ?_
      refine zBj (hwn _ hP) <| sW ?_
      refine sS (ndV n) (AV.cells (ndV n)) ?_
      exact zx (o:=0) (ndV n) (by first | rfl | assumption) rfl rfl (zJ (zE (zA tA (zA tA (zC (zA tA (zA tA zB))))))) rfl rfl rfl hO rfl
    · have hwn:=fun H' h=>(hww H' h).2 h41
      clear hww
      rw [zLv h41]
      have e1 : mkR s d (Option.map (fun e=>(n,e)) none) = none:=rfl
      rw [e1]
      refine sW ?_
      refine zN (r:=p + 1) rfl tO <| sS (.int .i64 ↑(p + 1)) [AV.str s,.int .i64 ↑(p + 1),zK d] ?_
      refine sW ?_
      refine zBj (hc _ (zE (zC hb))) <| sS (ndV n) (AV.cells (ndV n)) ?_
      refine sW ?_
      refine zAV (hwn _ hP) ?_
      exact sP
theorem callc_ev (b rb sb : Nat) (s t : Bs) (p d : Nat) (H : Heap) (hb : H[b]? = some (rdB s p d)) (hr : H[rb]? = some (.box [pR b])) (hs : H[sb]? = some (.box [.str t])) (r : Option (Nd × Nat))
    (hT : ∀ H',H'[b]? = some (rdB s p d) → CR C zBK [pR b,.str t] H' b s d r) :
    zB3 C GT zBh [pR rb,pR sb] H b (wkC s) zEs (mkR s d r):=by
  have hbl : b < H.length:=(zg hb).1
  refine zz ?_
  cases r with
  | none=>
    have hc:=fun H' h1=>(hT H' h1).2 rfl
    clear hT
    have e : mkR s d none = none:=rfl
    rw [e]
    refine sW ?_
    refine zAV (hc _ (zC hb)) ?_
    exact sP
  | some p'=>
    obtain ⟨n,e⟩:=p'
    have hc:=fun H' h1=>(hT H' h1).1 n e rfl
    clear hT
    have e0 : mkR s d (some (n,e)) = some (ndV n,rdB s e d):=rfl
    rw [e0]
    refine sW ?_
    refine zBj (hc _ (zC hb)) <| sS (ndV n) (AV.cells (ndV n)) ?_
    exact zx (o:=0) (ndV n) (by first | rfl | assumption) rfl rfl (zJ (zE (zA tA zB))) rfl rfl rfl hO rfl
end
end Go.AM
