/- Several texts of mine in one (Pre, Bg0, Fp2, Lea, Fr1). Own work. -/
import Derived.Test.YthllabjbdobpgaaGreatDoorUc
import Derived.Test.YthllabjbdobpgaaGreatDoorGAm23Am29
import Derived.Test.YthllabjbdobpgaaGreatDoorGFp0Trm
set_option linter.all false
namespace Go.AM
theorem slice_to' (s : List UInt8) (n : Nat) (h : n ≤ s.length) : zAy none (.str s) none (some (.int .i64 (n : Int))) = some (.str (s.take n)):=by
  simp only [zAy,zDA,aHi,aLo]
  rw [zMg ⟨by omega,by omega⟩]
  simp
theorem zEO : ∀ (p s : List UInt8),p.isPrefixOf s = (decide (p.length ≤ s.length) && (s.take p.length == p))
  | [],s=>by simp
  | a :: p,[]=>by simp
  | a :: p,b :: s=>by
    simp only [List.isPrefixOf,zEO p s,zMi,List.take_succ_cons]
    rw [zO6]
    simp only [zMd,zM6,zMr,zNv]
    constructor
    · rintro ⟨h1,h2,h3⟩; exact ⟨by omega,h1.symm,h3⟩
    · rintro ⟨h1,h2,h3⟩; exact ⟨h2.symm,by omega,h3⟩
section
variable {C : CSpec} {GT : Nat → Option AV}
theorem sl_prefix_ev (s p : List UInt8) (H : Heap) : EFun C GT zB8 [.str s,.str p] H (.bool (p.isPrefixOf s)) H:=by
  refine zDy (fun h=>?_) (fun h=>?_)
  · have h : p.length ≤ s.length:=by
      have:=zNM h
      omega
    have e : p.isPrefixOf s = (s.take p.length == p):=by rw [zEO,zM8 h,zNz]
    rw [e]
    refine zS (slice_to' s p.length h) <| zH ?_
    exact sRr
  · have h : ¬ p.length ≤ s.length:=by
      have:=zNN h
      omega
    have e : p.isPrefixOf s = false:=by rw [zEO,zNI h,zOF]
    rw [e]
    refine zG ?_
    exact sRr
theorem prefix_ev (hS : ∀ s p H,C zAL [.str s,.str p] H (.bool (p.isPrefixOf s)) H) (s p : List UInt8) (H : Heap) : EFun C GT zDD [.str s,.str p] H (.bool (p.isPrefixOf s)) H:=by
  refine zI (hS s p H) ?_
  exact sRr
end
end Go.AM
namespace Go.AM
def zDP (n : Int) : Prop:=-9223372036854775808 ≤ n ∧ n ≤ 9223372036854775807
instance (n : Int) : Decidable (zDP n):=by unfold zDP; exact inferInstance
def wdsF : Nat → Nat → List Nat
  | 0,_=>[]
  | f + 1,n=>if n = 0 then [] else (n % 4294967296) :: wdsF f (n / 4294967296)
def wds (n : Nat) : List Nat:=wdsF n n
def wval : List Nat → Nat
  | []=>0
  | w :: ws=>w + 4294967296 * wval ws
def Small (ws : List Nat) : Prop:=∀ w ∈ ws,w < 4294967296
theorem wdsF_fuel : ∀ f g n,n ≤ f → n ≤ g → wdsF f n = wdsF g n
  | 0,0,_,_,_=>rfl
  | 0, g + 1, n, h, _ => by have : n = 0:=by omega
                            subst this; rfl
  | f + 1, 0, n, _, h => by have : n = 0:=by omega
                            subst this; rfl
  | f + 1,g + 1,n,h,k=>by
    simp only [wdsF]
    split
    · rfl
    · rw [wdsF_fuel f g (n / 4294967296) tO tO]
theorem zDu : wds 0 = []:=rfl
theorem zDG {n : Nat} (h : n ≠ 0) : wds n = (n % 4294967296) :: wds (n / 4294967296):=by
  unfold wds
  obtain ⟨m,rfl⟩ : ∃ m,n = m + 1:=⟨n - 1,by omega⟩
  rw [wdsF,zMe h,wdsF_fuel m ((m + 1) / 4294967296) _ tO (zMh _)]
theorem zDv (n : Nat) : wval (wds n) = n:=by
  induction n using Nat.strongRecOn with
  | ind n ih=>
    by_cases h : n = 0
    · subst h; rfl
    · rw [zDG h,wval,ih _ tO]; omega
theorem zBj (n : Nat) : Small (wds n):=by
  induction n using Nat.strongRecOn with
  | ind n ih=>
    by_cases h : n = 0
    · subst h; intro w hw; cases hw
    · rw [zDG h]
      intro w hw
      rcases zNZ.1 hw with rfl | hw
      · omega
      · exact ih _ tO w hw
theorem wds_cons {w : Nat} {v : Nat} (hw : w < 4294967296) (h : w ≠ 0 ∨ v ≠ 0) : wds (w + 4294967296 * v) = w :: wds v:=by
  rw [zDG tO]
  have e1 : (w + 4294967296 * v) % 4294967296 = w:=by omega
  have e2 : (w + 4294967296 * v) / 4294967296 = v:=by omega
  rw [e1,e2]
theorem wds_pad : ∀ ws : List Nat,Small ws → ∃ k,ws = wds (wval ws) ++ List.replicate k 0
  | [],_=>⟨0,rfl⟩
  | w :: ws,h=>by
    obtain ⟨k,hk⟩:=wds_pad ws fun x hx=>h x (zNl _ hx)
    have hw:=h w (by simp)
    by_cases hz : w = 0 ∧ wval ws = 0
    · refine ⟨k + 1, ?_⟩
      rw [wval,hz.1,hz.2]
      rw [hz.2] at hk
      simp only [Nat.mul_zero,zOd,zDu,zN1] at hk ⊢
      rw [zO3,← hk]
    · refine ⟨k, ?_⟩
      rw [wval,wds_cons hw tO,zOc,← hk]
theorem wds_take {ws : List Nat} (h : Small ws) : (wds (wval ws)).length ≤ ws.length ∧ ws.take (wds (wval ws)).length = wds (wval ws):=by
  obtain ⟨k,hk⟩:=wds_pad ws h
  constructor
  · conv=>rhs; rw [hk]
    simp
  · conv=>lhs; rw [hk]
    have : wval (wds (wval ws) ++ List.replicate k 0) = wval ws:=by rw [← hk]
    rw [this]
    simp
theorem wds_val {ws : List Nat} (h : Small ws) (hl : ∀ w,ws.getLast? = some w → w ≠ 0) : wds (wval ws) = ws:=by
  obtain ⟨k,hk⟩:=wds_pad ws h
  cases k with
  | zero=>rw [zO4,zNS] at hk; exact hk.symm
  | succ k=>
    exfalso
    refine hl 0 ?_ rfl
    rw [hk,List.replicate_succ',← List.append_assoc,List.getLast?_append]
    simp
theorem zGa : ∀ xs ys : List Nat,wval (xs ++ ys) = wval xs + 4294967296 ^ xs.length * wval ys
  | [],ys=>by simp [wval]
  | x :: xs,ys=>by
    simp only [zOc,wval,zGa xs ys,zMi]
    rw [zO1,← Nat.mul_assoc,zNf,zOA (4294967296 ^ xs.length) 4294967296]
    omega
theorem zDm (xs : List Nat) (y : Nat) : wval (xs ++ [y]) = wval xs + 4294967296 ^ xs.length * y:=by
  rw [zGa]; simp [wval]
theorem zC4 {ws : List Nat} {i : Nat} (h : i < ws.length) : wval (ws.take (i + 1)) = wval (ws.take i) + 4294967296 ^ i * ws[i]:=by
  rw [zOH h,zDm,zMy,zOV tO]
theorem wval_lt : ∀ {ws : List Nat},Small ws → wval ws < 4294967296 ^ ws.length
  | [],_=>by simp [wval]
  | w :: ws,h=>by
    have h1:=h w (by simp)
    have h2:=wval_lt (ws:=ws) fun x hx=>h x (zNl _ hx)
    simp only [wval,zMi]
    rw [zNf,zOA (4294967296 ^ ws.length) 4294967296]
    omega
theorem wds_ge : ∀ (n : Nat),n ≠ 0 → 4294967296 ^ ((wds n).length - 1) ≤ n:=by
  intro n
  induction n using Nat.strongRecOn with
  | ind n ih=>
    intro h
    rw [zDG h,zMi,zNg]
    by_cases h2 : n / 4294967296 = 0
    · rw [h2]; simp [zDu]; omega
    · have h3:=ih _ tO h2
      have h4 : (wds (n / 4294967296)).length ≠ 0:=by rw [zDG h2]; simp
      obtain ⟨m,hm⟩ : ∃ m,(wds (n / 4294967296)).length = m + 1:=⟨(wds (n / 4294967296)).length - 1,by omega⟩
      rw [hm] at h3 ⊢
      simp only [zNg] at h3
      rw [zNf]
      omega
theorem wds_lt (n : Nat) : n < 4294967296 ^ (wds n).length:=by
  have:=wval_lt (zBj n); rwa [zDv] at this
theorem zJ9 {a b : Nat} (h : (wds a).length < (wds b).length) : a < b:=by
  have hb : b ≠ 0:=fun e=>by subst e; simp [zDu] at h
  have h1:=wds_lt a
  have h2:=wds_ge b hb
  have h3 : 4294967296 ^ (wds a).length ≤ 4294967296 ^ ((wds b).length - 1):=zNm tO tO
  omega
theorem wds_len_mono {a b : Nat} (h : a ≤ b) : (wds a).length ≤ (wds b).length:=by
  rcases zOB (wds b).length (wds a).length with h2 | h2
  · have:=zJ9 h2; omega
  · exact h2
theorem cmp_top {xs ys : List Nat} (hx : Small xs) (hy : Small ys) (hl : xs.length = ys.length) {i : Nat} (hi : i < xs.length) (he : xs.drop (i + 1) = ys.drop (i + 1)) (hlt : xs[i] < ys[i]'tO) : wval xs < wval ys:=by
  have h1 : xs = xs.take i ++ xs[i] :: xs.drop (i + 1):=by rw [zOm,zOt]
  have h2 : ys = ys.take i ++ ys[i]'tO :: ys.drop (i + 1):=by rw [zOm,zOt]
  have g1 : wval xs = wval (xs.take i) + 4294967296 ^ i * (xs[i] + 4294967296 * wval (xs.drop (i + 1))):=by
    conv=>lhs; rw [h1]
    rw [zGa,zMy,zOV tO,wval]
  have g2 : wval ys = wval (ys.take i) + 4294967296 ^ i * (ys[i]'tO + 4294967296 * wval (ys.drop (i + 1))):=by
    conv=>lhs; rw [h2]
    rw [zGa,zMy,zOV tO,wval]
  have g3 : wval (xs.take i) < 4294967296 ^ i:=by
    have:=wval_lt (ws:=xs.take i) fun w hw=>hx w (zN3 hw)
    rwa [zMy,zOV tO] at this
  rw [g1,g2,he]
  have g4 : 4294967296 ^ i * (xs[i] + 4294967296 * wval (ys.drop (i + 1)) + 1) ≤ 4294967296 ^ i * (ys[i]'tO + 4294967296 * wval (ys.drop (i + 1))):=Nat.mul_le_mul_left _ tO
  rw [zO1,zPX] at g4
  omega
def bitsF : Nat → Nat → Nat
  | 0,_=>0
  | f + 1,n=>if n = 0 then 0 else bitsF f (n / 2) + 1
def bits (n : Nat) : Nat:=bitsF n n
theorem bitsF_fuel : ∀ f g n,n ≤ f → n ≤ g → bitsF f n = bitsF g n
  | 0,0,_,_,_=>rfl
  | 0, g + 1, n, h, _ => by have : n = 0:=by omega
                            subst this; rfl
  | f + 1, 0, n, _, h => by have : n = 0:=by omega
                            subst this; rfl
  | f + 1,g + 1,n,h,k=>by
    simp only [bitsF]
    split
    · rfl
    · rw [bitsF_fuel f g (n / 2) tO tO]
theorem zLI {n : Nat} (h : n ≠ 0) : bits n = bits (n / 2) + 1:=by
  unfold bits
  obtain ⟨m,rfl⟩ : ∃ m,n = m + 1:=⟨n - 1,by omega⟩
  rw [bitsF,zMe h,bitsF_fuel m ((m + 1) / 2) _ tO (zMh _)]
theorem bits_le (k : Nat) : ∀ n,bits n ≤ k ↔ n < 2 ^ k:=by
  induction k with
  | zero=>
    intro n
    by_cases h : n = 0
    · subst h; simp [bits,bitsF]
    · rw [zLI h]; simp; omega
  | succ k ih=>
    intro n
    by_cases h : n = 0
    · subst h; simp [bits,bitsF]; exact Nat.two_pow_pos _
    · rw [zLI h,zNf]
      have:=ih (n / 2)
      constructor
      · intro h2
        have:=this.1 tO
        omega
      · intro h2
        have:=this.2 tO
        omega
end Go.AM
set_option maxRecDepth 20000
namespace Go.AM
def zCo (s : Bs) : Bool × Bs:=
  match s with
  | []=>(false,[])
  | c :: r=>if c = 45 then (true,r) else (false,c :: r)
def zDH (s : Bs) : Prop:=(zCo s).2 ≠ [] ∧ ¬ ((zCo s).2.head? = some 48 ∧ s ≠ [48]) ∧ (zCo s).2.all zH4 = true
instance (s : Bs) : Decidable (zDH s):=by unfold zDH; exact inferInstance
def zK5 (s : Bs) : Int:=if (zCo s).1 = true then -(zCt (zCo s).2 : Int) else zCt (zCo s).2
def wholeS (s : Bs) : Option Int:=if zDH s then (if zDP (zK5 s) then some (zK5 s) else none) else none
theorem zKA {t : Bs} (h : t.head? ≠ some 45) : zCo t = (false,t):=by
  cases t with
  | nil=>rfl
  | cons c r=>
    unfold zCo
    simp only
    rw [zMe (fun e=>h (by rw [e]; rfl))]
theorem zMS {t : Bs} (h1 : t ≠ []) (h2 : ¬ (t.head? = some 48 ∧ t ≠ [48])) (h3 : t.all zH4 = true) : zBE t = if zCt t ≤ 9223372036854775807 then some (zCt t : Int) else none:=by
  unfold zBE
  rw [zMe (fun x=>x.elim h1 h2),zMg h3]
theorem wholeP_no {t : Bs} (h : ¬ (t ≠ [] ∧ ¬ (t.head? = some 48 ∧ t ≠ [48]) ∧ t.all zH4 = true)) : zBE t = none:=by
  unfold zBE
  split
  · rfl
  · rename_i h1
    rw [zMe (fun h3=>h ⟨fun e=>h1 (.inl e),fun e=>h1 (.inr e),h3⟩)]
theorem wholeS_of {t : Bs} (h : t.head? ≠ some 45) : wholeS t = zBE t:=by
  have hd : zDH t ↔ (t ≠ [] ∧ ¬ (t.head? = some 48 ∧ t ≠ [48]) ∧ t.all zH4 = true):=by unfold zDH; rw [zKA h]
  have hv : zK5 t = zCt t:=by unfold zK5; rw [zKA h]; rfl
  unfold wholeS
  rw [hv]
  by_cases hf : zDH t
  · obtain ⟨h1,h2,h3⟩:=hd.1 hf
    rw [zMg hf,zMS h1 h2 h3]
    by_cases h4 : zCt t ≤ 9223372036854775807
    · rw [zMg h4,zMg (show zDP (zCt t : Int) by unfold zDP; omega)]
    · rw [zMe h4,zMe (show ¬ zDP (zCt t : Int) by unfold zDP; omega)]
  · rw [zMe hf,wholeP_no (fun x=>hf (hd.2 x))]
theorem decF (l : Bs) : ∀ n : Nat,l.foldl (fun n c=>n * 10 + (c.toNat - 48)) n = n * 10 ^ l.length + zCt l:=by
  unfold zCt
  induction l with
  | nil=>intro n; simp
  | cons c r ih=>
    intro n
    simp only [zPM,zMi]
    rw [ih,ih (0 * 10 + (c.toNat - 48)),zNf,zNJ,zOp,zNe]
    have : n * 10 * 10 ^ r.length = n * (10 ^ r.length * 10):=by rw [zOL,zOA 10]
    omega
theorem decV_cons (c : UInt8) (r : Bs) : zCt (c :: r) = (c.toNat - 48) * 10 ^ r.length + zCt r:=by
  show (c :: r).foldl _ 0 = _
  rw [zPM,decF]; simp
theorem decV_snoc (l : Bs) (c : UInt8) : zCt (l ++ [c]) = zCt l * 10 + (c.toNat - 48):=by unfold zCt; rw [zPb]; rfl
theorem zLJ (c : UInt8) : zH4 c = true ↔ 48 ≤ c.toNat ∧ c.toNat ≤ 57:=by unfold zH4; rw [zMd,zOC,zOC]
theorem capB_iff (c : UInt8) : capB c = true ↔ 65 ≤ c.toNat ∧ c.toNat ≤ 90:=by unfold capB; rw [zMd,zOC,zOC]
theorem zMT : ∀ l : Bs,l.all zH4 = true → zCt l < 10 ^ l.length
  | [],_=>by simp [zCt]
  | c :: r,h=>by
    rw [zOD,zMd] at h
    have h1:=(zLJ c).1 h.1
    have h2:=zMT r h.2
    rw [decV_cons,zMi,zNf]
    have : (c.toNat - 48) * 10 ^ r.length ≤ 9 * 10 ^ r.length:=zNG _ tO
    omega
theorem decV_ge {c : UInt8} {r : Bs} (h : 49 ≤ c.toNat) : 10 ^ r.length ≤ zCt (c :: r):=by
  rw [decV_cons]
  have : 1 * 10 ^ r.length ≤ (c.toNat - 48) * 10 ^ r.length:=zNG _ tO
  omega
def zKB (t : Bs) : Prop:=t ≠ [] ∧ t.length ≤ 2 ∧ t.head? ≠ some 48 ∧ t.all zH4 = true
instance (t : Bs) : Decidable (zKB t):=by unfold zKB; exact inferInstance
theorem rowP_is (fc : Bool) (col : Int) (p : Bool × Bs) : rowP fc col p = if zKB p.2 then some ⟨col,zCt p.2,fc,p.1⟩ else none:=by
  obtain ⟨d,t⟩:=p
  unfold rowP
  simp only
  by_cases hf : zKB t
  · obtain ⟨h1,h2,h3,h4⟩:=hf
    rw [zMg ⟨h1,h2,h3,h4⟩,zMS h1 (fun x=>h3 x.1) h4]
    obtain ⟨c,r,rfl⟩ : ∃ c r,t = c :: r:=zN6 h1
    have hlt:=zMT _ h4
    have hc:=(zLJ c).1 (by rw [zOD,zMd] at h4; exact h4.1)
    have h49 : 49 ≤ c.toNat:=by
      have : c.toNat ≠ 48:=fun e=>h3 (by rw [show c = 48 from zM0.1 e]; rfl)
      omega
    have hge:=decV_ge (r:=r) h49
    have hp : 10 ^ (c :: r).length ≤ 10 ^ 2:=zNm tO h2
    have hq : 0 < 10 ^ r.length:=Nat.pow_pos tO
    have e2 : (10 : Nat) ^ 2 = 100:=rfl
    rw [zMg tO]
    simp only
    rw [zMg ⟨by omega,by omega⟩]
  · rw [zMe hf]
    by_cases hw : t ≠ [] ∧ ¬ (t.head? = some 48 ∧ t ≠ [48]) ∧ t.all zH4 = true
    · obtain ⟨h1,h2,h4⟩:=hw
      rw [zMS h1 h2 h4]
      by_cases h0 : t.head? = some 48
      · have : t = [48]:=Decidable.byContradiction fun e=>h2 ⟨h0,e⟩
        subst this
        rfl
      · obtain ⟨c,r,rfl⟩ : ∃ c r,t = c :: r:=zN6 h1
        have hc:=(zLJ c).1 (by rw [zOD,zMd] at h4; exact h4.1)
        have h49 : 49 ≤ c.toNat:=by
          have : c.toNat ≠ 48:=fun e=>h0 (by rw [show c = 48 from zM0.1 e]; rfl)
          omega
        have hge:=decV_ge (r:=r) h49
        have hl : 2 ≤ r.length:=by
          rcases zOB r.length 2 with h | h
          · exact absurd ⟨h1,by simp only [zMi]; omega,h0,h4⟩ hf
          · exact h
        have hp : 10 ^ 2 ≤ 10 ^ r.length:=zNm tO hl
        have e2 : (10 : Nat) ^ 2 = 100:=rfl
        split
        · rename_i n hn
          split at hn
          · cases hn
            rw [zMe tO]
          · cases hn
        · rfl
    · rw [wholeP_no hw]
def litP (s : Bs) : Option (Int × Int):=
  if s = trueW then some (3,1) else if s = zKZ then some (3,0) else
  if s = [35,68,73,86,33] then some (4,1) else if s = [35,86,65,76,85,69,33] then some (4,2) else if s = [35,82,69,70,33] then some (4,3) else
  if s = [35,78,65,77,69,33] then some (4,4) else if s = [35,78,85,77,33] then some (4,5) else if s = [35,78,79,78,69,33] then some (4,6) else none
end Go.AM
set_option maxRecDepth 20000
namespace Go.AM
def v3 (k n : Int) : AV:=.agg [.int .i64 k,.int .i64 n,.str []]
def textsV : AV:=.agg [.str [],.str [35,68,73,86,33],.str [35,86,65,76,85,69,33],.str [35,82,69,70,33],.str [35,78,65,77,69,33],.str [35,78,85,77,33],.str [35,78,79,78,69,33]]
def litV (r : Option (Int × Int)) : AV:=match r with
  | some (k,n)=>.tup [v3 k n,.bool true]
  | none=>.tup [v3 0 0,.bool false]
def wholeV (r : Option Int) (n0 : Int) : AV:=match r with
  | some n=>.tup [zK n,.bool true]
  | none=>.tup [zK n0,.bool false]
def rV (r : RefP) : AV:=.agg [.int .i64 r.col,.int .i64 r.row,.bool r.fc,.bool r.fr]
def refV (r : Option RefP) : AV:=match r with
  | some r=>.tup [rV r,.nili]
  | none=>.tup [rV noRef,zFX 2]
def zJZ (r : Option Nd) : AV:=match r with
  | some n=>.tup [ndV n,.bool true]
  | none=>.tup [ndV zY,.bool false]
section
variable {C : CSpec} {GT : Nat → Option AV}
theorem zK6 (hP : ∀ s p H,C zAL [.str s,.str p] H (.bool (p.isPrefixOf s)) H) (s p : Bs) (H : Heap) : EFun C GT zB0 [.str s,.str p] H (.str (if p.isPrefixOf s = true then s.drop p.length else s)) H:=by
  have hp:=hP s p H
  clear hP
  refine zc ?_
  by_cases h : p.isPrefixOf s = true
  · rw [h] at hp
    rw [zMg h]
    have hl : p.length ≤ s.length:=by rw [zEO,zMd,zOC] at h; exact h.1
    refine zI (hp) <| zH <| zS (v:=.str (s.drop p.length)) (zC9 s p.length hl) ?_
    exact sRr
  · rw [zNL.2 h] at hp
    rw [zMe h]
    refine zI (hp) <| zG ?_
    exact sRr
theorem trimPrefix_ev (hP : ∀ s p H,C zAg [.str s,.str p] H (.str (if p.isPrefixOf s = true then s.drop p.length else s)) H) (s p : Bs) (H : Heap) : EFun C GT zCq [.str s,.str p] H (.str (if p.isPrefixOf s = true then s.drop p.length else s)) H:=by
  have hp:=hP s p H
  clear hP
  refine zc ?_
  refine zI (hp) ?_
  exact sRr
theorem wrong_ev (n : Int) (H : Heap) : EFun C GT zGQ [zK n] H (v3 4 n) H:=by
  refine zc ?_
  refine zS (v:=[.int .i64 4,zK n,AV.str []]) rfl <| zF (v:=AV.agg [.int .i64 4,zK n,AV.str []]) (AV.cells (AV.agg [.int .i64 4,zK n,AV.str []])) zD rfl rfl rfl rfl ?_
  exact zBi (o:=0) rfl rfl (zL (zE zD)) rfl rfl rfl (((Old.refl _).push _).set (by first | assumption | exact zMh _ | simp | omega) _)
theorem is_ev (b : Bool) (H : Heap) : EFun C GT zJ2 [.bool b] H (v3 3 (if b = true then 1 else 0)) H:=by
  refine zc ?_
  cases b
  · refine zS (v:=zV7) rfl <| zF (v:=AV.agg zV7) (AV.cells (AV.agg zV7)) zD rfl rfl rfl rfl <| zG <| zB (AV.agg zV7) (zE zD) rfl <| zF (v:=AV.agg zV7) (AV.cells (AV.agg zV7)) (zA (by first | assumption | simp | omega) (zC zD)) rfl rfl rfl rfl ?_
    exact zBi (o:=0) rfl rfl (zL (zE (zA (by first | assumption | simp | omega) (zC zD)))) rfl rfl rfl (((((Old.refl _).push _).push _).set (by first | assumption | exact zMh _ | simp | omega) _).set (by first | assumption | exact zMh _ | simp | omega) _)
  · refine zS (v:=zV7) rfl <| zF (v:=AV.agg zV7) (AV.cells (AV.agg zV7)) zD rfl rfl rfl rfl <| zH <| zF (v:=.int .i64 1) zV9 (zE zD) rfl rfl rfl rfl <| zB (AV.agg zV9) (zE (zE zD)) rfl <| zF (v:=AV.agg zV9) (AV.cells (AV.agg zV9)) (zA (by first | assumption | simp | omega) (zA (by first | assumption | simp | omega) (zC zD))) rfl rfl rfl rfl ?_
    exact zBi (o:=0) rfl rfl (zL (zE (zA (by first | assumption | simp | omega) (zA (by first | assumption | simp | omega) (zC zD))))) rfl rfl rfl ((((((Old.refl _).push _).push _).set (by first | assumption | exact zMh _ | simp | omega) _).set (by first | assumption | exact zMh _ | simp | omega) _).set (by first | assumption | exact zMh _ | simp | omega) _)
theorem digs_all (s : Bs) : (trimS s [48,49,50,51,52,53,54,55,56,57] = []) ↔ s.all zH4 = true:=by
  rw [trim_nil]
  have : (fun c : UInt8=>zG8 [48,49,50,51,52,53,54,55,56,57] c.toNat) = zH4:=by
    funext c
    unfold zG8 zH4
    rw [zO6]
    simp only [List.any_cons,List.any_nil,zOM,zNw,zMd,zMr,zM6]
    have e : ∀ n : Nat,n < 256 → (UInt8.ofNat n).toNat = n:=fun n h=>by simp; omega
    have e48 : (48 : UInt8).toNat = 48:=rfl
    have e49 : (49 : UInt8).toNat = 49:=rfl
    have e50 : (50 : UInt8).toNat = 50:=rfl
    have e51 : (51 : UInt8).toNat = 51:=rfl
    have e52 : (52 : UInt8).toNat = 52:=rfl
    have e53 : (53 : UInt8).toNat = 53:=rfl
    have e54 : (54 : UInt8).toNat = 54:=rfl
    have e55 : (55 : UInt8).toNat = 55:=rfl
    have e56 : (56 : UInt8).toNat = 56:=rfl
    have e57 : (57 : UInt8).toNat = 57:=rfl
    rw [e48,e49,e50,e51,e52,e53,e54,e55,e56,e57]
    omega
  rw [this]
def capsL : Bs:=[65,66,67,68,69,70,71,72,73,74,75,76,77,78,79,80,81,82,83,84,85,86,87,88,89,90]
theorem caps_tab : ∀ n : Fin 256,zG8 capsL n.val = (decide (65 ≤ n.val) && decide (n.val ≤ 90)):=by decide +kernel
theorem caps_all (s : Bs) : (trimS s capsL = []) ↔ s.all capB = true:=by
  rw [trim_nil]
  have : (fun c : UInt8=>zG8 capsL c.toNat) = capB:=by
    funext c
    exact caps_tab ⟨c.toNat,zNu c⟩
  rw [this]
theorem called_ev (hT : ∀ s cs H,(∀ c ∈ cs,c.toNat < 128) → 2 ≤ cs.length → cs.length ≤ 1000 → s.length ≤ 1000 → C zBl [.str s,.str cs] H (.str (trimS s cs)) H) (s : Bs) (H : Heap) (hl : s.length ≤ 1000) : EFun C GT zEA [.str s] H (.bool (zBX s)) H:=by
  obtain ⟨r,hr⟩ : ∃ r,zBX s = r:=⟨_,rfl⟩
  rw [hr]
  unfold zBX at hr
  have ht:=hT s capsL H (by decide) (by decide) (by decide) hl
  clear hT
  refine zc ?_
  by_cases h1 : 2 ≤ s.length
  · by_cases h2 : s.length ≤ 10
    · rw [zM8 h1,zM8 h2,zNz,zNz] at hr
      refine zP tT <| zH <| zP tT <| zI (ht) <| zH ?_
      refine sRetE (v0:=.bool (trimS s capsL == [])) (zM1 AV.bool ?_) rfl rfl rfl rfl (Old.refl _)
      rw [← hr,zO6,zM6,caps_all]
    · rw [zNI h2,Bool.and_false,zOF] at hr
      subst hr
      refine zP tT <| zH <| zO tF <| zG ?_
      exact sRr
  · rw [zNI h1,zOF,zOF] at hr
    subst hr
    refine zO tF <| zG <| zG <| zG ?_
    exact sRr
theorem dollar_ev (b : Nat) (t : Bs) (H : Heap) (hb : H[b]? = some (.box [.str t])) (x' : AV) : zCA C GT zGU [pR b] H b [.undef] x' (some (.bool (dollar t).1,.box [.str (dollar t).2])):=by
  refine zAE ?_
  cases t with
  | nil=>
    refine zB (AV.str []) hb rfl <| zG <| zG <| zG ?_
    exact zF2 _ (by first | rfl | assumption) rfl rfl rfl rfl (OldB.start hb) rfl
  | cons c r=>
    by_cases h : c = 36
    · subst h
      have e : dollar (36 :: r) = (true,r):=rfl
      rw [e]
      refine zB (AV.str (36 :: r)) hb rfl <| zH <| zB (AV.str (36 :: r)) hb rfl <| zn (i:=0) rfl rfl <| zH <| zP (tE (by rfl)) ?_
      refine zB (AV.str (36 :: r)) hb rfl <| zS (v:=.str r) (zC9 (36 :: r) 1 (by simp)) <| zF (v:=AV.str r) [AV.str r] hb rfl rfl rfl rfl ?_
      exact zF2 _ (by first | rfl | assumption) rfl rfl rfl rfl ((OldB.start hb).setB _) rfl
    · have hn : c.toNat ≠ 36:=fun e=>h (zM0.1 e)
      have e : dollar (c :: r) = (false,c :: r):=zMe h
      rw [e]
      refine zB (AV.str (c :: r)) hb rfl <| zH <| zB (AV.str (c :: r)) hb rfl <| zn (i:=0) rfl rfl <| zH <| zO tN ?_
      exact zF2 _ (by first | rfl | assumption) rfl rfl rfl rfl (OldB.start hb) rfl
theorem whole_ev (hT : ∀ s cs H,(∀ c ∈ cs,c.toNat < 128) → 2 ≤ cs.length → cs.length ≤ 1000 → s.length ≤ 1000 → C zBl [.str s,.str cs] H (.str (trimS s cs)) H) (hP : ∀ s H,C zAr [.str s,.str [45]] H (.str (zCo s).2) H)
    (hA : ∀ s H,zDH s → zDP (zK5 s) → s.length ≤ 1000 → C zA0 [.str s] H (.tup [zK (zK5 s),.nili]) H) (hA2 : ∀ s H,zDH s → ¬ zDP (zK5 s) → s.length ≤ 1000 → ∃ n t,C zA0 [.str s] H (.tup [zK n,.iface t .undef]) H)
    (s : Bs) (H : Heap) (hl : s.length ≤ 1000) : ∃ n0,EFun C GT zGR [.str s] H (wholeV (wholeS s) n0) H:=by
  have hp:=hP s H
  have hdl : (zCo s).2.length ≤ 1000:=by
    unfold zCo
    split
    · simp
    · rename_i c r
      simp only [zMi] at hl
      split <;> simp only [zMi] <;> omega
  have ht:=hT (zCo s).2 [48,49,50,51,52,53,54,55,56,57] H (by decide) (by decide) (by decide) hdl
  have hda:=digs_all (zCo s).2
  have hdf : zDH s ↔ ((zCo s).2 ≠ [] ∧ ¬ ((zCo s).2.head? = some 48 ∧ s ≠ [48]) ∧ (zCo s).2.all zH4 = true):=zN7
  have ha:=hA s H
  have ha2:=hA2 s H
  clear hT hP hA hA2
  unfold wholeS
  obtain ⟨d,hd⟩ : ∃ d,(zCo s).2 = d:=⟨_,rfl⟩
  rw [hd] at hp ht hda hdf
  generalize trimS d [48,49,50,51,52,53,54,55,56,57] = tr at *
  by_cases hf : zDH s
  · rw [zMg hf]
    obtain ⟨h1,h2,h3⟩:=hdf.1 hf
    have htr : tr = []:=hda.2 h3
    subst htr
    obtain ⟨c,r,rfl⟩ : ∃ c r,d = c :: r:=zN6 h1
    have hres : ∃ n x,C zA0 [.str s] H (.tup [zK n,x]) H ∧ ((x = .nili ∧ (if zDP (zK5 s) then some (zK5 s) else none : Option Int) = some n) ∨ ((∃ t,x = .iface t .undef) ∧ (if zDP (zK5 s) then some (zK5 s) else none : Option Int) = none)):=by
      by_cases hi : zDP (zK5 s)
      · exact ⟨_,_,ha hf hi hl,.inl ⟨rfl,by rw [zMg hi]⟩⟩
      · obtain ⟨n,t,h⟩:=ha2 hf hi hl
        exact ⟨n,_,h,.inr ⟨⟨t,rfl⟩,by rw [zMe hi]⟩⟩
    obtain ⟨n,x,hat,hx⟩:=hres
    clear ha ha2
    have h48 : c.toNat = 48 → s = [48]:=fun e=>Decidable.byContradiction fun h=>h2 ⟨by rw [show c = 48 from zM0.1 e]; rfl,h⟩
    by_cases hc : c.toNat = 48
    · have:=h48 hc
      rcases hx with ⟨rfl,e⟩ | ⟨⟨t,rfl⟩,e⟩
      · rw [e]
        refine ⟨n,zc ?_⟩
        refine zI (hp) <| zG <| zn (i:=0) rfl rfl ?_
        refine zP tE <| zH <| zG <| zO (zNA.2 this) <| zI (ht) ?_
        refine zG <| zG <| zI (hat) <| zS rfl <| zS rfl <| zS rfl ?_
        exact sRr
      · rw [e]
        refine ⟨n,zc ?_⟩
        refine zI (hp) <| zG <| zn (i:=0) rfl rfl ?_
        refine zP tE <| zH <| zG <| zO (zNA.2 this) <| zI (ht) ?_
        refine zG <| zG <| zI (hat) <| zS rfl <| zS rfl <| zS rfl ?_
        exact sRr
    · rcases hx with ⟨rfl,e⟩ | ⟨⟨t,rfl⟩,e⟩
      · rw [e]
        refine ⟨n,zc ?_⟩
        refine zI (hp) <| zO tN <| zn (i:=0) rfl rfl ?_
        refine zO tN <| zG <| zG <| zG <| zI (ht) ?_
        refine zG <| zG <| zI (hat) <| zS rfl <| zS rfl <| zS rfl ?_
        exact sRr
      · rw [e]
        refine ⟨n,zc ?_⟩
        refine zI (hp) <| zO tN <| zn (i:=0) rfl rfl ?_
        refine zO tN <| zG <| zG <| zG <| zI (ht) ?_
        refine zG <| zG <| zI (hat) <| zS rfl <| zS rfl <| zS rfl ?_
        exact sRr
  · rw [zMe hf]
    refine ⟨0,zc ?_⟩
    clear ha ha2
    cases d with
    | nil => refine zI (hp) ?_
             refine zH <| zH <| zH <| zH <| zH ?_
             exact sRr
    | cons c r=>
      by_cases hc : c.toNat = 48
      · by_cases hs : s = [48]
        · have htr : tr ≠ []:=fun e=>hf (hdf.2 ⟨by simp,fun x=>x.2 hs,hda.1 e⟩)
          refine zI (hp) <| zG <| zn (i:=0) rfl rfl ?_
          refine zP tE <| zH <| zG <| zO (zNA.2 hs) <| zI (ht) ?_
          refine zG <| zP (zNP.2 htr) ?_
          exact sRr
        · refine zI (hp) <| zG <| zn (i:=0) rfl rfl ?_
          refine zP tE <| zH <| zG <| zP (zNP.2 hs) <| zH <| zH ?_
          exact sRr
      · have htr : tr ≠ []:=fun e=>hf (hdf.2 ⟨by simp,fun x=>hc (by have:=x.1; simp only [List.head?_cons,zMc] at this; rw [this]; rfl),hda.1 e⟩)
        refine zI (hp) <| zG <| zn (i:=0) rfl rfl ?_
        refine zO tN <| zG <| zG <| zG <| zI (ht) ?_
        refine zG <| zP (zNP.2 htr) ?_
        exact sRr
theorem textsV_get (k : Nat) (h : k < 7) : ∃ t : Bs,[AV.str [],.str [35,68,73,86,33],.str [35,86,65,76,85,69,33],.str [35,82,69,70,33],.str [35,78,65,77,69,33],.str [35,78,85,77,33],.str [35,78,79,78,69,33]][k]? = some (.str t) ∧ (∀ s : Bs,s ≠ [] → s ≠ trueW → s ≠ zKZ → (t = s → litP s = some (4,(k : Int)))) ∧ (k = 0 → t = []):=by
  rcases k with _ | _ | _ | _ | _ | _ | _ | k
  · exact ⟨_,rfl,fun s h _ _ e=>absurd e.symm h,fun _=>rfl⟩
  · exact ⟨_,rfl,fun s _ h1 h2 e=>by subst e; rfl,fun h=>by cases h⟩
  · exact ⟨_,rfl,fun s _ h1 h2 e=>by subst e; rfl,fun h=>by cases h⟩
  · exact ⟨_,rfl,fun s _ h1 h2 e=>by subst e; rfl,fun h=>by cases h⟩
  · exact ⟨_,rfl,fun s _ h1 h2 e=>by subst e; rfl,fun h=>by cases h⟩
  · exact ⟨_,rfl,fun s _ h1 h2 e=>by subst e; rfl,fun h=>by cases h⟩
  · exact ⟨_,rfl,fun s _ h1 h2 e=>by subst e; rfl,fun h=>by cases h⟩
  · omega
theorem literal_ev (hG : GT zGK = some textsV) (hI : ∀ b H,C zDK [.bool b] H (v3 3 (if b = true then 1 else 0)) H) (hW : ∀ n H,C zDb [zK n] H (v3 4 n) H) (s : Bs) (H : Heap) :
    EFun C GT zEb [.str s] H (litV (litP s)) H:=by
  refine zc ?_
  by_cases h1 : s = trueW
  · have e : litP s = some (3,1):=zMg h1
    have h1' : (s == [84,82,85,69]) = true:=tE h1
    have hi : C zDK [.bool true] (H ++ [.box zV5]) (v3 3 1) (H ++ [.box zV5]):=hI true _
    clear hI hW
    rw [e]
    refine zP h1' <| zI (hi) <| zF (v:=v3 3 1) (AV.cells (v3 3 1)) zD rfl rfl rfl rfl ?_
    exact zR (o:=0) rfl rfl (zL (zE zD)) rfl rfl rfl rfl (((Old.refl _).push _).set (by first | assumption | exact zMh _ | simp | omega) _)
  by_cases h2 : s = zKZ
  · have e : litP s = some (3,0):=by unfold litP; rw [zMe h1,zMg h2]
    have h1' : (s == [84,82,85,69]) = false:=tN h1
    have h2' : (s == [70,65,76,83,69]) = true:=tE h2
    have hi : C zDK [.bool false] (H ++ [.box zV5]) (v3 3 0) (H ++ [.box zV5]):=hI false _
    clear hI hW
    rw [e]
    refine zO h1' <| zP h2' <| zI (hi) <| zF (v:=v3 3 0) (AV.cells (v3 3 0)) zD rfl rfl rfl rfl ?_
    exact zR (o:=0) rfl rfl (zL (zE zD)) rfl rfl rfl rfl (((Old.refl _).push _).set (by first | assumption | exact zMh _ | simp | omega) _)
  have h1' : (s == [84,82,85,69]) = false:=tN h1
  have h2' : (s == [70,65,76,83,69]) = false:=tN h2
  obtain ⟨r,hr⟩ : ∃ r,litP s = r:=⟨_,rfl⟩
  rw [hr]
  clear hI
  refine zO h1' <| zO h2' <| sLoadG textsV hG rfl ?_
  refine zBB (fun k : Nat=>[(2,pR H.length),(14,zJ k),(0,.str s),(13,textsV)]) (fun k H'=>H' = H ++ [.box zV5] ∧ k ≤ 7 ∧ ∀ j t,j < k → [AV.str [],.str [35,68,73,86,33],.str [35,86,65,76,85,69,33],.str [35,82,69,70,33],.str [35,78,65,77,69,33],.str [35,78,85,77,33],.str [35,78,79,78,69,33]][j]? = some (.str t) → s = [] ∨ t ≠ s) (fun k=>7 - k) 0 rfl ⟨rfl,by omega,fun j t h=>by omega⟩ (fun k H1 ⟨e,hk,hno⟩=>?_)
  subst e
  by_cases hlt : k < 7
  · obtain ⟨t,ht,hts,ht0⟩:=textsV_get k hlt
    have hw:=hW k (H ++ [.box zV5])
    clear hW
    by_cases he : t = s
    · by_cases hs : s = []
      · refine zP tT <| zGE ⟨by omega,by omega⟩ <| zS (v:=.str t) (by simpa [part] using ht) <| zP (tE he) <| zH <| zO (zNA.2 hs) ?_
        refine zM (r:=k + 1) rfl tO ?_
        exact zAA (k + 1) rfl ⟨rfl,by omega,fun j t' _ _=>.inl hs⟩ tO
      · have e:=hts s hs h1 h2 he
        rw [hr] at e
        subst e
        refine zP tT <| zGE ⟨by omega,by omega⟩ <| zS (v:=.str t) (by simpa [part] using ht) <| zP (tE he) <| zH <| zP (zNP.2 hs) ?_
        refine zI (hw) <| zF (v:=v3 4 ↑k) (AV.cells (v3 4 ↑k)) zD rfl rfl rfl rfl ?_
        exact zR (v:=v3 4 k) (v1:=.bool true) (o:=0) rfl rfl (zL (zE zD)) rfl rfl rfl rfl (((Old.refl _).push _).set (zMh _) _)
    · refine zP tT <| zGE ⟨by omega,by omega⟩ <| zS (v:=.str t) (by simpa [part] using ht) <| zO (tN he) <| zG <| zG ?_
      refine zM (r:=k + 1) rfl tO ?_
      refine zAA (k + 1) rfl ⟨rfl,by omega,fun j t' hj hjt=>?_⟩ tO
      by_cases e : j = k
      · subst e
        rw [ht] at hjt
        cases hjt
        exact .inr he
      · exact hno j t' tO hjt
  · have e : k = 7:=by omega
    subst e
    have e : litP s = none:=by
      unfold litP
      rw [zMe h1,zMe h2]
      have n1:=hno 1 _ tO rfl
      have n2:=hno 2 _ tO rfl
      have n3:=hno 3 _ tO rfl
      have n4:=hno 4 _ tO rfl
      have n5:=hno 5 _ tO rfl
      have n6:=hno 6 _ tO rfl
      by_cases hs : s = []
      · subst hs; rfl
      · rw [zMe (fun x=>n1.elim hs fun y=>y x.symm),zMe (fun x=>n2.elim hs fun y=>y x.symm),zMe (fun x=>n3.elim hs fun y=>y x.symm),zMe (fun x=>n4.elim hs fun y=>y x.symm),zMe (fun x=>n5.elim hs fun y=>y x.symm),zMe (fun x=>n6.elim hs fun y=>y x.symm)]
    rw [e] at hr
    subst hr
    refine zG <| zS (v:=zV5) rfl <| zF (v:=AV.agg zV5) (AV.cells (AV.agg zV5)) zD rfl rfl rfl rfl ?_
    exact zR (v:=v3 0 0) (v1:=.bool false) (o:=0) rfl rfl (zL (zE zD)) rfl rfl rfl rfl (((Old.refl _).push _).set (zMh _) _)
theorem sGenA {a : AK} {vs : List AV} {H : Heap} {K : AV → Heap → Prop} (P : Heap → Prop) (h : P H) (k : ∀ H',P H' → actP a vs H' K) : actP a vs H K:=k H h
theorem sStrB {s : Bs} {H : Heap} {K : AV → Heap → Prop} (h : s.length ≤ 140737488355328) (q : K (.sl (some false) H.length 1 0 s.length) (H ++ [.row 1 (s.map zBs)])) : actP .strToBytes [.str s] H K:=by
  refine sAct (v:=.sl (some false) H.length 1 0 s.length) (H':=H ++ [.row 1 (s.map zBs)]) ?_ q
  simp only [astep]
  rw [zMg h]
theorem Old.at {H0 H : Heap} (h : Old H0 H) (x : List ABlk) : Old H0 (H ++ x):=h.push x
theorem refP_of {s : Bs} {fc : Bool} {t : Bs} (h : dollar s = (fc,t)) : zCu s = colP (fc,t):=by unfold zCu; rw [h]
theorem colP_cap {fc : Bool} {c : UInt8} {r : Bs} (h : capB c = true) : colP (fc,c :: r) = if zKB (dollar r).2 then some ⟨(c.toNat : Int) - 64,zCt (dollar r).2,fc,(dollar r).1⟩ else none:=by
  unfold colP
  simp only
  rw [zMg h,rowP_is]
theorem colP_not {fc : Bool} {c : UInt8} {r : Bs} (h : capB c = false) : colP (fc,c :: r) = none:=by
  unfold colP
  simp only
  rw [h]; rfl
structure RSt where
  k : Nat
  b : Bool
theorem ref_ev (hD : ∀ b t H,H[b]? = some (.box [.str t]) → C zDc [pR b] H (.bool (dollar t).1) (H.set b (.box [.str (dollar t).2]))) (s : Bs) (H : Heap) (hl : s.length ≤ 1000) :
    EFun C GT zJ3 [.str s] H (refV (zCu s)) H:=by
  have hd1:=hD H.length s
  have hd2:=fun t=>hD H.length t
  clear hD
  obtain ⟨⟨fc,t⟩,hds⟩ : ∃ p,dollar s = p:=⟨_,rfl⟩
  rw [hds] at hd1
  simp only at hd1
  rw [refP_of hds]
  refine zc ?_
  cases t with
  | nil=>
    have e : refV (colP (fc,[])) = .tup [rV noRef,zFX 2]:=rfl
    rw [e]
    refine zD6 (x:=AV.str s) rfl <| zp (hd1 _ (zC zD)) (fun h=>by cases h) <| zF (v:=AV.bool fc) [.int .i64 0,.int .i64 0,AV.bool fc,AV.bool false] (zA (by first | assumption | simp | omega) zD) rfl rfl rfl rfl <| zB (AV.str []) (zA (by first | assumption | simp | omega) (zE (zC zD))) rfl ?_
    refine zH <| zH <| zH <| zH <| zH <| zS (v:=zV1) rfl ?_
    refine zF (v:=AV.agg zV1) (AV.cells (AV.agg zV1)) (zE (zA (by first | assumption | simp | omega) zD)) rfl rfl rfl rfl ?_
    exact zR (o:=0) rfl rfl (zL (zE (zE (zA (by first | assumption | simp | omega) zD)))) rfl rfl rfl rfl ((((((Old.refl _).push _).push _).set (by first | assumption | exact zMh _ | simp | omega) _).set (by first | assumption | exact zMh _ | simp | omega) _).set (by first | assumption | exact zMh _ | simp | omega) _)
  | cons c r=>
    have hc256 : c.toNat < 256:=zNu c
    by_cases hcap : capB c = true
    case neg=>
      have hcap:=zNL.2 hcap
      rw [colP_not hcap]
      have e : refV none = .tup [rV noRef,zFX 2]:=rfl
      rw [e]
      by_cases h65 : c.toNat < 65
      · refine zD6 (x:=AV.str s) rfl <| zp (hd1 _ (zC zD)) (fun h=>by cases h) <| zF (v:=AV.bool fc) [.int .i64 0,.int .i64 0,AV.bool fc,AV.bool false] (zA (by first | assumption | simp | omega) zD) rfl rfl rfl rfl <| zB (AV.str (c :: r)) (zA (by first | assumption | simp | omega) (zE (zC zD))) rfl <| zG <| zB (AV.str (c :: r)) (zA (by first | assumption | simp | omega) (zE (zC zD))) rfl ?_
        refine zn (i:=0) rfl rfl <| zG <| zP tT <| zH <| zH <| zS (v:=zV1) rfl ?_
        refine zF (v:=AV.agg zV1) (AV.cells (AV.agg zV1)) (zE (zA (by first | assumption | simp | omega) zD)) rfl rfl rfl rfl ?_
        exact zR (o:=0) rfl rfl (zL (zE (zE (zA (by first | assumption | simp | omega) zD)))) rfl rfl rfl rfl ((((((Old.refl _).push _).push _).set (by first | assumption | exact zMh _ | simp | omega) _).set (by first | assumption | exact zMh _ | simp | omega) _).set (by first | assumption | exact zMh _ | simp | omega) _)
      · have h90 : 90 < c.toNat:=by
          unfold capB at hcap
          rw [zOu,zNR,zNR] at hcap
          omega
        refine zD6 (x:=AV.str s) rfl <| zp (hd1 _ (zC zD)) (fun h=>by cases h) <| zF (v:=AV.bool fc) [.int .i64 0,.int .i64 0,AV.bool fc,AV.bool false] (zA (by first | assumption | simp | omega) zD) rfl rfl rfl rfl <| zB (AV.str (c :: r)) (zA (by first | assumption | simp | omega) (zE (zC zD))) rfl <| zG <| zB (AV.str (c :: r)) (zA (by first | assumption | simp | omega) (zE (zC zD))) rfl ?_
        refine zn (i:=0) rfl rfl <| zG <| zO tF <| zB (AV.str (c :: r)) (zA (by first | assumption | simp | omega) (zE (zC zD))) rfl <| zn (i:=0) rfl rfl ?_
        refine zG <| zP tT <| zS (v:=zV1) rfl <| zF (v:=AV.agg zV1) (AV.cells (AV.agg zV1)) (zE (zA (by first | assumption | simp | omega) zD)) rfl rfl rfl rfl ?_
        exact zR (o:=0) rfl rfl (zL (zE (zE (zA (by first | assumption | simp | omega) zD)))) rfl rfl rfl rfl ((((((Old.refl _).push _).push _).set (by first | assumption | exact zMh _ | simp | omega) _).set (by first | assumption | exact zMh _ | simp | omega) _).set (by first | assumption | exact zMh _ | simp | omega) _)
    case pos=>
      have hcc:=(capB_iff c).1 hcap
      rw [colP_cap hcap]
      obtain ⟨⟨fr,u⟩,hdr⟩ : ∃ p,dollar r = p:=⟨_,rfl⟩
      have hd3:=hd2 r
      rw [hdr] at hd3 ⊢
      simp only at hd3 ⊢
      clear hd2
      obtain ⟨w,hw⟩ : ∃ w,(if zKB u then some (⟨(c.toNat : Int) - 64,zCt u,fc,fr⟩ : RefP) else none) = w:=⟨_,rfl⟩
      rw [hw]
      refine zD6 (x:=AV.str s) rfl <| zp (hd1 _ hP) (fun h=>by cases h) <| zF (v:=AV.bool fc) [.int .i64 0,.int .i64 0,AV.bool fc,AV.bool false] (zA (by first | assumption | simp | omega) zD) rfl rfl rfl rfl <| zB (AV.str (c :: r)) (zA (by first | assumption | simp | omega) (zE (zC zD))) rfl <| zG <| zB (AV.str (c :: r)) (zA (by first | assumption | simp | omega) (zE (zC zD))) rfl ?_
      refine zn (i:=0) rfl rfl <| zG <| zO tF <| zB (AV.str (c :: r)) (zA (by first | assumption | simp | omega) (zE (zC zD))) rfl <| zn (i:=0) rfl rfl ?_
      refine zG <| zO tF <| zB (AV.str (c :: r)) (zA (by first | assumption | simp | omega) (zE (zC zD))) rfl <| zn (i:=0) rfl rfl <| sVal (r:=(c.toNat : Int) - 65) (by rw [IntKind.wrap_u8]; omega) <| sVal (r:=(c.toNat : Int) - 65) (by rw [IntKind.wrap_i64]; omega) ?_
      refine sVal (r:=(c.toNat : Int) - 64) (by rw [IntKind.wrap_i64]; omega) <| zF (v:=.int .i64 (↑c.toNat - 64)) [.int .i64 (↑c.toNat - 64),.int .i64 0,AV.bool fc,AV.bool false] (zE (zA (by first | assumption | simp | omega) zD)) rfl rfl rfl rfl <| zB (AV.str (c :: r)) (zA (by first | assumption | simp | omega) (zA (by first | assumption | simp | omega) (zE (zC zD)))) rfl <| zS (v:=.str r) (zC9 (c :: r) 1 (by simp)) <| zF (v:=AV.str r) [AV.str r] (zA (by first | assumption | simp | omega) (zA (by first | assumption | simp | omega) (zE (zC zD)))) rfl rfl rfl rfl <| zp (hd3 _ hP) (fun h=>by cases h) ?_
      refine zF (v:=AV.bool fr) [.int .i64 (↑c.toNat - 64),.int .i64 0,AV.bool fc,AV.bool fr] (zA (by first | assumption | simp | omega) (zA (by first | assumption | simp | omega) (zE (zE (zA (by first | assumption | simp | omega) zD))))) rfl rfl rfl rfl <| zB (AV.str u) (zA (by first | assumption | simp | omega) (zE (zE (zA (by first | assumption | simp | omega) (zA (by first | assumption | simp | omega) (zE (zC zD))))))) rfl ?_
      by_cases h0 : u = []
      · subst h0
        rw [zMe (fun x=>x.1 rfl)] at hw
        subst hw
        have ew : refV none = .tup [rV noRef,zFX 2]:=rfl
        rw [ew]
        refine zH <| zH <| zH <| zH <| zH <| zS (v:=zV1) rfl ?_
        refine zF (v:=AV.agg zV1) (AV.cells (AV.agg zV1)) (zE (zA (by first | assumption | simp | omega) (zA (by first | assumption | simp | omega) (zE (zE (zA (by first | assumption | simp | omega) zD)))))) rfl rfl rfl rfl ?_
        exact zR (o:=0) rfl rfl (zL (zE (zE (zA (by first | assumption | simp | omega) (zA (by first | assumption | simp | omega) (zE (zE (zA (by first | assumption | simp | omega) zD)))))))) rfl rfl rfl rfl ((((((((((Old.refl _).push _).push _).set (by first | assumption | exact zMh _ | simp | omega) _).set (by first | assumption | exact zMh _ | simp | omega) _).set (by first | assumption | exact zMh _ | simp | omega) _).set (by first | assumption | exact zMh _ | simp | omega) _).set (by first | assumption | exact zMh _ | simp | omega) _).set (by first | assumption | exact zMh _ | simp | omega) _).set (by first | assumption | exact zMh _ | simp | omega) _)
      obtain ⟨e,u',hu⟩ : ∃ e u',u = e :: u':=zN6 h0
      have he0 : u[0]? = some e:=by rw [hu]; rfl
      by_cases h2' : u.length ≤ 2
      case neg=>
        rw [zMe (fun x=>h2' x.2.1)] at hw
        subst hw
        have ew : refV none = .tup [rV noRef,zFX 2]:=rfl
        rw [ew]
        refine zO (tN h0) <| zB (AV.str u) (zA (by first | assumption | simp | omega) (zE (zE (zA (by first | assumption | simp | omega) (zA (by first | assumption | simp | omega) (zE (zC zD))))))) rfl <| zG <| zP tT <| zH <| zH ?_
        refine zS (v:=zV1) rfl <| zF (v:=AV.agg zV1) (AV.cells (AV.agg zV1)) (zE (zA (by first | assumption | simp | omega) (zA (by first | assumption | simp | omega) (zE (zE (zA (by first | assumption | simp | omega) zD)))))) rfl rfl rfl rfl ?_
        exact zR (o:=0) rfl rfl (zL (zE (zE (zA (by first | assumption | simp | omega) (zA (by first | assumption | simp | omega) (zE (zE (zA (by first | assumption | simp | omega) zD)))))))) rfl rfl rfl rfl ((((((((((Old.refl _).push _).push _).set (by first | assumption | exact zMh _ | simp | omega) _).set (by first | assumption | exact zMh _ | simp | omega) _).set (by first | assumption | exact zMh _ | simp | omega) _).set (by first | assumption | exact zMh _ | simp | omega) _).set (by first | assumption | exact zMh _ | simp | omega) _).set (by first | assumption | exact zMh _ | simp | omega) _).set (by first | assumption | exact zMh _ | simp | omega) _)
      by_cases h48 : e.toNat = 48
      · have he : e = 48:=zM0.1 h48
        subst he
        rw [zMe (fun x=>x.2.2.1 (by rw [hu]; rfl))] at hw
        subst hw
        have ew : refV none = .tup [rV noRef,zFX 2]:=rfl
        rw [ew]
        refine zO (tN h0) <| zB (AV.str u) (zA (by first | assumption | simp | omega) (zE (zE (zA (by first | assumption | simp | omega) (zA (by first | assumption | simp | omega) (zE (zC zD))))))) rfl <| zG <| zO tF <| zB (AV.str u) (zA (by first | assumption | simp | omega) (zE (zE (zA (by first | assumption | simp | omega) (zA (by first | assumption | simp | omega) (zE (zC zD))))))) rfl <| zn (i:=0) rfl he0 ?_
        refine zG <| zP tT <| zS (v:=zV1) rfl <| zF (v:=AV.agg zV1) (AV.cells (AV.agg zV1)) (zE (zA (by first | assumption | simp | omega) (zA (by first | assumption | simp | omega) (zE (zE (zA (by first | assumption | simp | omega) zD)))))) rfl rfl rfl rfl ?_
        exact zR (o:=0) rfl rfl (zL (zE (zE (zA (by first | assumption | simp | omega) (zA (by first | assumption | simp | omega) (zE (zE (zA (by first | assumption | simp | omega) zD)))))))) rfl rfl rfl rfl ((((((((((Old.refl _).push _).push _).set (by first | assumption | exact zMh _ | simp | omega) _).set (by first | assumption | exact zMh _ | simp | omega) _).set (by first | assumption | exact zMh _ | simp | omega) _).set (by first | assumption | exact zMh _ | simp | omega) _).set (by first | assumption | exact zMh _ | simp | omega) _).set (by first | assumption | exact zMh _ | simp | omega) _).set (by first | assumption | exact zMh _ | simp | omega) _)
      refine zO (tN h0) <| zB (AV.str u) (zA (by first | assumption | simp | omega) (zE (zE (zA (by first | assumption | simp | omega) (zA (by first | assumption | simp | omega) (zE (zC zD))))))) rfl <| zG <| zO tF <| zB (AV.str u) (zA (by first | assumption | simp | omega) (zE (zE (zA (by first | assumption | simp | omega) (zA (by first | assumption | simp | omega) (zE (zC zD))))))) rfl <| zn (i:=0) rfl he0 ?_
      refine zG <| zO tF <| zB (AV.str u) (zA (by first | assumption | simp | omega) (zE (zE (zA (by first | assumption | simp | omega) (zA (by first | assumption | simp | omega) (zE (zC zD))))))) rfl ?_
      refine sGenA (fun H'=>Old H H' ∧ H'[(H ++ [ABlk.box [AV.str s]]).length]? = some (.box [.int .i64 ((c.toNat : Int) - 64),.int .i64 0,.bool fc,.bool fr])) ⟨?_,hP⟩ (fun H2 ⟨ho,hb2⟩=>?_)
      · have hp:=((Old.refl H).push [ABlk.box [AV.str s]]).push [ABlk.box [AV.int .i64 0,AV.int .i64 0,AV.bool false,AV.bool false]]
        have h1 : H.length ≤ H.length:=zMh _
        have h2 : H.length ≤ (H ++ [ABlk.box [AV.str s]]).length:=by simp
        exact (((((hp.set h1 _).set h2 _).set h2 _).set h1 _).set h1 _).set h2 _
      have h2 : H.length ≤ (H ++ [ABlk.box [AV.str s]]).length:=by simp
      refine sStrB tO <| zEV ?_
      refine zBB (fun k : Nat=>[(2,pR (H ++ [ABlk.box [AV.str s]]).length),(54,zJ k),(52,.sl (some false) H2.length 1 0 u.length),(53,zJ u.length)])
        (fun k H'=>Old H H' ∧ H'[(H ++ [ABlk.box [AV.str s]]).length]? = some (.box [.int .i64 ((c.toNat : Int) - 64),zJ (zCt (u.take k)),.bool fc,.bool fr]) ∧ H'[H2.length]? = some (.row 1 (u.map zBs)) ∧ k ≤ u.length ∧ (u.take k).all zH4 = true)
        (fun k=>u.length - k) 0 rfl ⟨ho.push _,zC hb2,zD,zNX _,rfl⟩ (fun k H1 ⟨ho1,hb1,hr1,hk,hall⟩=>?_)
      have hbl : (H ++ [ABlk.box [AV.str s]]).length < H2.length:=(zg hb2).1
      by_cases hlt : k < u.length
      · obtain ⟨x,hx⟩ : ∃ x,u[k]? = some x:=⟨_,zMf hlt⟩
        have hx256 : x.toNat < 256:=zNu x
        have hxm : (u.map zBs)[k]? = some (byV x):=by rw [zMq,hx]; rfl
        have etk : u.take (k + 1) = u.take k ++ [x]:=by
          obtain ⟨q1,q2⟩:=zg hx
          rw [zOH q1,q2]
        by_cases hd : zH4 x = true
        · have hdd:=(zLJ x).1 hd
          have hv:=zMT _ hall
          have hpw : 10 ^ (u.take k).length ≤ 10 ^ 2:=zNm tO (by rw [zMy]; omega)
          have e2 : (10 : Nat) ^ 2 = 100:=rfl
          refine zP tT <| sAt ⟨by omega,by omega⟩ <| zA5 k (byV x) (byV x) tO hr1 hxm rfl <| zO tF <| zG <| zO tF ?_
          refine zB (zJ (zCt (List.take k u))) hb1 rfl <| zM (r:=zCt (u.take k) * 10) tO tO <| sVal (r:=(x.toNat : Int) - 48) (by rw [IntKind.wrap_u8]; omega) <| sVal (r:=(x.toNat : Int) - 48) (by rw [IntKind.wrap_i64]; omega) <| zM (r:=zCt (u.take k) * 10 + (x.toNat - 48)) tO tO <| zF (v:=.int .i64 ↑(zCt (List.take k u) * 10 + (x.toNat - 48))) [.int .i64 (↑c.toNat - 64),.int .i64 ↑(zCt (List.take k u) * 10 + (x.toNat - 48)),AV.bool fc,AV.bool fr] hb1 rfl rfl rfl rfl ?_
          refine zM (r:=k + 1) rfl tO ?_
          refine zAA (k + 1) rfl ⟨ho1.set h2 _, ?_,zA tO hr1,by omega, ?_⟩ tO
          · rw [etk,decV_snoc]; exact zE hb1
          · rw [etk,List.all_append,hall]; simp [hd]
        · have hd:=zNL.2 hd
          rw [zMe (fun y=>by
            have:=zNk.1 y.2.2.2 x (zM3 hx)
            rw [hd] at this; cases this)] at hw
          subst hw
          have ew : refV none = .tup [rV noRef,zFX 2]:=rfl
          rw [ew]
          by_cases h48' : x.toNat < 48
          · refine zP tT <| sAt ⟨by omega,by omega⟩ <| zA5 k (byV x) (byV x) tO hr1 hxm rfl <| zP tT <| zH <| zH ?_
            refine zS (v:=zV1) rfl <| zF (v:=AV.agg zV1) (AV.cells (AV.agg zV1)) hb1 rfl rfl rfl rfl ?_
            exact zR (v:=rV noRef) (v1:=zFX 2) (o:=0) rfl rfl (zL (zE hb1)) rfl rfl rfl rfl (ho1.set h2 _)
          · have : 57 < x.toNat:=by
              unfold zH4 at hd
              rw [zOu,zNR,zNR] at hd
              omega
            refine zP tT <| sAt ⟨by omega,by omega⟩ <| zA5 k (byV x) (byV x) tO hr1 hxm rfl <| zO tF <| zG <| zP tT ?_
            refine zS (v:=zV1) rfl <| zF (v:=AV.agg zV1) (AV.cells (AV.agg zV1)) hb1 rfl rfl rfl rfl ?_
            exact zR (v:=rV noRef) (v1:=zFX 2) (o:=0) rfl rfl (zL (zE hb1)) rfl rfl rfl rfl (ho1.set h2 _)
      · have ek : k = u.length:=by omega
        subst ek
        rw [zOz] at hall hb1
        rw [zMg ⟨h0,h2',fun y=>h48 (by rw [hu] at y; rw [zM5 y]; rfl),hall⟩] at hw
        subst hw
        have ew : refV (some ⟨(c.toNat : Int) - 64,zCt u,fc,fr⟩) = .tup [.agg [.int .i64 ((c.toNat : Int) - 64),zJ (zCt u),.bool fc,.bool fr],.nili]:=rfl
        rw [ew]
        refine zO tF <| zB (AV.agg [.int .i64 (↑c.toNat - 64),zJ (zCt u),AV.bool fc,AV.bool fr]) hb1 rfl <| zF (v:=AV.agg [.int .i64 (↑c.toNat - 64),zJ (zCt u),AV.bool fc,AV.bool fr]) (AV.cells (AV.agg [.int .i64 (↑c.toNat - 64),zJ (zCt u),AV.bool fc,AV.bool fr])) hb1 rfl rfl rfl rfl ?_
        exact zR (v:=.agg [.int .i64 ((c.toNat : Int) - 64),zJ (zCt u),.bool fc,.bool fr]) (v1:=.nili) (o:=0) rfl rfl (zL (zE hb1)) rfl rfl rfl rfl (ho1.set h2 _)
end
end Go.AM
set_option maxRecDepth 20000
namespace Go.AM
def CR (C : CSpec) (f : Nat) (args : List AV) (H : Heap) (b : Nat) (s : Bs) (d : Nat) (r : Option (Nd × Nat)) : Prop:=
  (∀ n e,r = some (n,e) → C f args H (ndV n) (H.set b (rdB s e d))) ∧ (r = none → C f (.pan .undef :: args) H zFB (H.set b (.box (wkC s))))
def mkR (s : Bs) (d : Nat) (r : Option (Nd × Nat)) : Option (AV × ABlk):=r.map fun p=>(ndV p.1,rdB s p.2 d)
def Off (H : Heap) (b : Nat) (H' : Heap) : Prop:=∀ c x,H[c]? = some x → c ≠ b → H'[c]? = some x
def nodeW (k num : Int) (t : Bs) (x : AV) : AV:=.agg [.int .i64 k,.int .i64 num,.str t,.int .i64 0,.int .i64 0,.bool false,.bool false,.int .i64 0,.int .i64 0,.bool false,.bool false,x]
theorem frz_node {n0 nb m : Nat} {k num : Int} {t : Bs} {xs : List AV} {H : Heap} (h : H[nb]? = some (.row 12 xs)) (hn : n0 ≤ nb) (hm : xs.length = m) :
    zDR n0 (nodeW k num t (.sl (some false) nb 12 0 m)) H = some (nodeW k num t (.lst (some false) 12 xs),H.set nb (.frz 12 xs)):=by
  subst hm
  have : ¬ nb < n0:=by omega
  simp only [nodeW,zDR,zIi,this,zNB,h]
  simp [frzQ]
section
variable {C : CSpec} {GT : Nat → Option AV}
theorem opOf_ev (t : Bs) (H : Heap) (h : zBK t ≠ 0) : EFun C GT zFO [.str t] H (zJ (zBK t)) H:=by
  refine zc ?_
  by_cases h1 : t = [61]
  · subst h1
    refine zH ?_
    exact sRr
  by_cases h2 : t = [60,62]
  · subst h2
    refine zG <| zH ?_
    exact sRr
  by_cases h3 : t = [60]
  · subst h3
    refine zG <| zG <| zH ?_
    exact sRr
  by_cases h4 : t = [60,61]
  · subst h4
    refine zG <| zG <| zG <| zH ?_
    exact sRr
  by_cases h5 : t = [62]
  · subst h5
    refine zG <| zG <| zG <| zG <| zH ?_
    exact sRr
  by_cases h6 : t = [62,61]
  · subst h6
    refine zG <| zG <| zG <| zG <| zG <| zH ?_
    exact sRr
  by_cases h7 : t = [38]
  · subst h7
    refine zG <| zG <| zG <| zG <| zG <| zG <| zH ?_
    exact sRr
  by_cases h8 : t = [43]
  · subst h8
    refine zG <| zG <| zG <| zG <| zG <| zG <| zG <| zH ?_
    exact sRr
  by_cases h9 : t = [45]
  · subst h9
    refine zG <| zG <| zG <| zG <| zG <| zG <| zG <| zG ?_
    refine zH ?_
    exact sRr
  by_cases h10 : t = [42]
  · subst h10
    refine zG <| zG <| zG <| zG <| zG <| zG <| zG <| zG ?_
    refine zG <| zH ?_
    exact sRr
  by_cases h11 : t = [47]
  · subst h11
    refine zG <| zG <| zG <| zG <| zG <| zG <| zG <| zG ?_
    refine zG <| zG ?_
    exact sRr
  · exact absurd (by unfold zBK; simp only [h1,h2,h3,h4,h5,h6,h7,h8,h9,h10,h11,zNB]) h
theorem want_ev (hB : ∀ b s p d H,H[b]? = some (rdB s p d) → p ≤ s.length → s.length ≤ 200 → C za [pR b] H (.tup []) (H.set b (rdB s (skip s p) d)))
    (hF : ∀ b s p d a e H,H[b]? = some (rdB s p d) → C zX (.pan .undef :: [pR b,.int .i64 a,zFX e]) H zFB (H.set b (.box (wkC s))))
    (c : UInt8) (b : Nat) (s : Bs) (p d : Nat) (H : Heap) (hb : H[b]? = some (rdB s p d)) (hp : p ≤ s.length) (hl : s.length ≤ 200) :
    zCA C GT zCL [pR b,byV c] H b (wkC s) zFB (if s[skip s p]? = some c then some (.tup [],rdB s (skip s p + 1) d) else none):=by
  have hbl:=hB b s p d H hb hp hl
  have hq:=zBo hp
  generalize skip s p = q at *
  have hf:=hF b s q d q 2 (H.set b (rdB s q d)) (zE hb)
  clear hB hF
  refine zAE ?_
  by_cases hlt : q < s.length
  · obtain ⟨x,hx⟩ : ∃ x,s[q]? = some x:=⟨_,zMf hlt⟩
    by_cases h : x = c
    · subst h
      rw [zMg hx]
      refine zp hbl (fun h=>by cases h) <| zB (zJ q) (zE hb) rfl <| zB (AV.str s) (zE hb) rfl <| zO tN <| zB (AV.str s) (zE hb) rfl <| zB (zJ q) (zE hb) rfl ?_
      refine zn rfl hx <| zG <| zO (zNA.2 rfl) <| zB (zJ q) (zE hb) rfl <| zM (r:=q + 1) rfl tO <| zF (v:=.int .i64 ↑(q + 1)) [AV.str s,.int .i64 ↑(q + 1),zJ d] (zE hb) rfl rfl rfl rfl ?_
      exact zF2 _ (by first | rfl | assumption) rfl rfl rfl rfl (((OldB.start hb).setB _).setB _) rfl
    · rw [zMe (by rw [hx]; exact fun e=>h (zM5 e))]
      have hn : x.toNat ≠ c.toNat:=fun e=>h (zM0.1 e)
      refine zp hbl (fun h=>by cases h) <| zB (zJ q) (zE hb) rfl <| zB (AV.str s) (zE hb) rfl <| zO tN <| zB (AV.str s) (zE hb) rfl <| zB (zJ q) (zE hb) rfl ?_
      refine zn rfl hx <| zG <| zP (zNP.2 tO) <| zB (zJ q) (zE hb) rfl <| zAb hf ?_
      exact zB1 (by first | rfl | assumption) rfl rfl rfl (((OldB.start hb).setB _).setB _) rfl (by first | exact WkL.refl _ | exact zGA _ _ _) (by first | exact Wk.refl _ | exact zB2 _ _)
  · rw [zMe (by rw [zNY tO]; simp)]
    refine zp hbl (fun h=>by cases h) <| zB (zJ q) (zE hb) rfl <| zB (AV.str s) (zE hb) rfl <| zP tE <| zH <| zH ?_
    refine zB (zJ q) (zE hb) rfl <| zAb hf ?_
    exact zB1 (by first | rfl | assumption) rfl rfl rfl (((OldB.start hb).setB _).setB _) rfl (by first | exact WkL.refl _ | exact zGA _ _ _) (by first | exact Wk.refl _ | exact zB2 _ _)
theorem within_ev (hF : ∀ b s p d a e H,H[b]? = some (rdB s p d) → C zX (.pan .undef :: [pR b,.int .i64 a,zFX e]) H zFB (H.set b (.box (wkC s))))
    (f : Nat) (caps : List AV) (a : Int) (b : Nat) (s : Bs) (p d : Nat) (H : Heap) (hb : H[b]? = some (rdB s p d)) (hd : d ≤ 1000) (r : Option (Nd × Nat))
    (hC : ∀ H',H'[b]? = some (rdB s p (d + 1)) → Off H b H' → CR C f caps H' b s (d + 1) r) :
    zCA C GT zBw [pR b,.int .i64 a,.fn f [] caps] H b (wkC s) zFB (mkR s d (if d = 30 then none else r)):=by
  have hbl : b < H.length:=(zg hb).1
  refine zAE ?_
  by_cases h30 : d = 30
  · rw [zMg h30]
    have e : mkR s d none = none:=rfl
    rw [e]
    have hf:=hF b s p d a 4
    clear hF hC
    refine zB (zJ d) (zC hb) rfl <| zP tE <| zAb (hf _ hP) ?_
    exact zB1 (by first | rfl | assumption) rfl rfl rfl (((OldB.start hb).push _).setB _) rfl (by first | exact WkL.refl _ | exact zGA _ _ _) (by first | exact Wk.refl _ | exact zB2 _ _)
  · rw [zMe h30]
    have hoff : ∀ X Y,Off H b ((H ++ [X]).set b Y):=fun X Y c x hc hn=>zA (zNa hn) (zC hc)
    cases r with
    | none=>
      have e : mkR s d none = none:=rfl
      rw [e]
      have hc:=fun H' h1 h2=>(hC H' h1 h2).2 rfl
      clear hF hC
      refine zB (zJ d) (zC hb) rfl <| zO tN <| zB (zJ d) (zC hb) rfl <| zM (r:=d + 1) rfl tO <| zF (v:=.int .i64 ↑(d + 1)) [AV.str s,zJ p,.int .i64 ↑(d + 1)] (zC hb) rfl rfl rfl rfl <| zAb (hc _ (zE (zC hb)) (hoff _ _)) ?_
      exact zB1 (by first | rfl | assumption) rfl rfl rfl ((((OldB.start hb).push _).setB _).setB _) rfl (by first | exact WkL.refl _ | exact zGA _ _ _) (by first | exact Wk.refl _ | exact zB2 _ _)
    | some p'=>
      obtain ⟨n,e⟩:=p'
      have e0 : mkR s d (some (n,e)) = some (ndV n,rdB s e d):=rfl
      rw [e0]
      have hc:=fun H' h1 h2=>(hC H' h1 h2).1 n e rfl
      clear hF hC
      refine zB (zJ d) (zC hb) rfl <| zO tN <| zB (zJ d) (zC hb) rfl <| zM (r:=d + 1) rfl tO <| zF (v:=.int .i64 ↑(d + 1)) [AV.str s,zJ p,.int .i64 ↑(d + 1)] (zC hb) rfl rfl rfl rfl <| zBp (hc _ (zE (zC hb)) (hoff _ _)) ?_
      refine zF (v:=ndV n) (AV.cells (ndV n)) zD rfl rfl rfl rfl <| zB (zJ (d + 1)) (zA tA (zC (zE (zE (zC hb))))) rfl <| zM (r:=d) tO tO <| zF (v:=.int .i64 ↑d) [AV.str s,zJ e,.int .i64 ↑d] (zA tA (zC (zE (zE (zC hb))))) rfl rfl rfl rfl <| zB (ndV n) (zA tA (zE zD)) rfl <| zF (v:=ndV n) (AV.cells (ndV n)) (zA tA (zA tA (zC (zA tA (zA tA zD))))) rfl rfl rfl rfl ?_
      exact z8 (o:=0) (ndV n) (by first | rfl | assumption) rfl rfl (zL (zE (zA tA (zA tA (zC (zA tA (zA tA zD))))))) rfl rfl rfl ((((((((OldB.start hb).push _).setB _).setB _).push _).set tA _).setB _).set tA _) rfl
theorem negc_ev (b rb : Nat) (s : Bs) (p d : Nat) (H : Heap) (hb : H[b]? = some (rdB s p d)) (hr : H[rb]? = some (.box [pR b])) (hp : p < s.length) (hl : s.length ≤ 200)
    (hN : ∀ H',H'[b]? = some (rdB s (p + 1) d) → CR C zAK [pR b] H' b s d ((P s).one (p + 1) d)) :
    zCA C GT zBx [pR rb] H b (wkC s) zFB (mkR s d (((P s).one (p + 1) d).map fun q=>(negN q.1,q.2))):=by
  have hbl : b < H.length:=(zg hb).1
  have hne : rb ≠ b:=fun e=>by rw [e,hb] at hr; cases hr
  generalize (P s).one (p + 1) d = r at *
  refine zAE ?_
  cases r with
  | none=>
    have hc:=fun H' h1=>(hN H' h1).2 rfl
    clear hN
    have e : mkR s d (Option.map (fun q : Nd × Nat=>(negN q.1,q.2)) none) = none:=rfl
    rw [e]
    refine zB (pR b) (zC hr) rfl <| zB (zJ p) (zC hb) rfl <| zM (r:=p + 1) rfl tO <| zF (v:=.int .i64 ↑(p + 1)) [AV.str s,.int .i64 ↑(p + 1),zJ d] (zC hb) rfl rfl rfl rfl <| zB (pR b) (zA tA (zC hr)) rfl <| zAb (hc _ (zE (zC hb))) ?_
    exact zB1 (by first | rfl | assumption) rfl rfl rfl ((((OldB.start hb).push _).setB _).setB _) rfl (by first | exact WkL.refl _ | exact zGA _ _ _) (by first | exact Wk.refl _ | exact zB2 _ _)
  | some p'=>
    obtain ⟨n,e⟩:=p'
    have hc:=fun H' h1=>(hN H' h1).1 n e rfl
    clear hN
    have e0 : mkR s d (Option.map (fun q : Nd × Nat=>(negN q.1,q.2)) (some (n,e))) = some (ndV (negN n),rdB s e d):=rfl
    rw [e0]
    refine zB (pR b) (zC hr) rfl <| zB (zJ p) (zC hb) rfl <| zM (r:=p + 1) rfl tO <| zF (v:=.int .i64 ↑(p + 1)) [AV.str s,.int .i64 ↑(p + 1),zJ d] (zC hb) rfl rfl rfl rfl <| zB (pR b) (zA tA (zC hr)) rfl <| zBp (hc _ (zE (zC hb))) ?_
    refine zAD (vs':=[ndV n]) rfl rfl <| zS (v:=[.int .i64 7,.int .i64 0,AV.str [],.int .i64 0,.int .i64 0,AV.bool false,AV.bool false,.int .i64 0,.int .i64 0,AV.bool false,AV.bool false,AV.sl (some false) ((List.set (H ++ [ABlk.box zV0]) b (ABlk.box [AV.str s,.int .i64 ↑(p + 1),zJ d])).set b (rdB s e d)).length 12 0 [ndV n].length]) rfl <| zF (v:=AV.agg [.int .i64 7,.int .i64 0,AV.str [],.int .i64 0,.int .i64 0,AV.bool false,AV.bool false,.int .i64 0,.int .i64 0,AV.bool false,AV.bool false,AV.sl (some false) ((List.set (H ++ [ABlk.box zV0]) b (ABlk.box [AV.str s,.int .i64 ↑(p + 1),zJ d])).set b (rdB s e d)).length 12 0 [ndV n].length]) (AV.cells (AV.agg [.int .i64 7,.int .i64 0,AV.str [],.int .i64 0,.int .i64 0,AV.bool false,AV.bool false,.int .i64 0,.int .i64 0,AV.bool false,AV.bool false,AV.sl (some false) ((List.set (H ++ [ABlk.box zV0]) b (ABlk.box [AV.str s,.int .i64 ↑(p + 1),zJ d])).set b (rdB s e d)).length 12 0 [ndV n].length])) (zC (zA tA (zA tA zD))) rfl rfl rfl rfl ?_
    exact z8 (o:=0) (nodeW 7 0 [] (.sl (some false) (((H ++ [ABlk.box (ndC zY)]).set b (rdB s (p + 1) d)).set b (rdB s e d)).length 12 0 1)) rfl rfl rfl (zL hP) rfl (frz_node (xs:=[ndV n]) hP tC rfl) rfl (by (repeat' (first | exact OldB.start (by assumption) | apply OldB.push | apply OldB.setB | refine OldB.set ?_ tC _)); done) rfl
end
end Go.AM
