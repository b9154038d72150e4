/- Several texts of mine in one (Pkd, Tw3, Bg0, Ad3, Hd5). Own work. -/
import Derived.Test.YtcnogafgcfidnaaGreatDoorGSstPck
import Derived.Test.YtcnogafgcfidnaaGreatDoorGAm22Am30
import Derived.Test.YtcnogafgcfidnaaGreatDoorGAddHd1
set_option linter.all false
namespace Go.AM
section
variable {C : CSpec} {GT : Nat → Option AV}
structure SPi where
 k : Nat
 n : Nat
structure SPo where
 i : Nat
 v : AV
end
end Go.AM
set_option maxRecDepth 20000
namespace Go.AM
section
variable {C : CSpec} {GT : Nat → Option AV}
theorem zQB (n : Int) (H : Heap) : EFun C GT zEj [zJ n] H (zB ⟨4,n,[]⟩) H:=by
 refine zR ?_; refine zA9 (v:=[AV.int IntKind.i64 4,zJ n,AV.str []]) rfl ?_; refine zS (v:=AV.agg [AV.int IntKind.i64 4,zJ n,AV.str []]) (AV.cells (AV.agg [AV.int IntKind.i64 4,zJ n,AV.str []])) zA rfl rfl rfl rfl ?_
 exact zZ (o:=0) rfl rfl (zn (zN zA)) rfl rfl rfl (((Old.refl _).push _).set (by first | assumption | exact Nat.le_refl _ | simp | omega) _)
structure SMt where
 i : Nat
 n : Nat
end
end Go.AM
namespace Go.AM
def zAU (n : Int) : Prop:=-9223372036854775808 ≤ n ∧ n ≤ 9223372036854775807
instance (n : Int) : Decidable (zAU n):=by unfold zAU; exact inferInstance
def zQo : Nat → Nat → List Nat
 | 0,_=>[]
 | f + 1,n=>if n = 0 then [] else (n % 4294967296) :: zQo f (n / 4294967296)
def wds (n : Nat) : List Nat:=zQo n n
def wval : List Nat → Nat
 | []=>0
 | w :: ws=>w + 4294967296 * wval ws
def Small (ws : List Nat) : Prop:=∀ w ∈ ws,w < 4294967296
theorem zJn : ∀ f g n,n ≤ f → n ≤ g → zQo f n = zQo g n
 | 0,0,_,_,_=>rfl
 | 0,g + 1,n,h,_=>by
  have : n = 0:=by omega
  subst this; rfl
 | f + 1,0,n,_,h=>by
  have : n = 0:=by omega
  subst this; rfl
 | f + 1,g + 1,n,h,k=>by
  simp only [zQo]
  split
  ·rfl
  ·rw [zJn f g (n / 4294967296) tO tO]
theorem zBW : wds 0 = []:=rfl
theorem zBP {n : Nat} (h : n ≠ 0) : wds n = (n % 4294967296) :: wds (n / 4294967296):=by
 unfold wds
 obtain ⟨m,rfl⟩ : ∃ m,n = m + 1:=⟨n - 1,by omega⟩
 rw [zQo,if_neg h,zJn m ((m + 1) / 4294967296) _ tO (Nat.le_refl _)]
theorem zBp (n : Nat) : wval (wds n) = n:=by
 induction n using Nat.strongRecOn with
 | ind n ih=>
  by_cases h : n = 0
  ·subst h; rfl
  ·rw [zBP h,wval,ih _ tO]; omega
theorem zAM (n : Nat) : Small (wds n):=by
 induction n using Nat.strongRecOn with
 | ind n ih=>
  by_cases h : n = 0
  ·subst h; intro w hw; cases hw
  ·rw [zBP h]
   intro w hw
   rcases List.mem_cons.1 hw with rfl | hw
   ·omega
   ·exact ih _ tO w hw
theorem zO3 {w : Nat} {v : Nat} (hw : w < 4294967296) (h : w ≠ 0 ∨ v ≠ 0) : wds (w + 4294967296 * v) = w :: wds v:=by
 rw [zBP tO]
 have e1 : (w + 4294967296 * v) % 4294967296 = w:=by omega
 have e2 : (w + 4294967296 * v) / 4294967296 = v:=by omega
 rw [e1,e2]
theorem zKS : ∀ ws : List Nat,Small ws → ∃ k,ws = wds (wval ws) ++ List.replicate k 0
 | [],_=>⟨0,rfl⟩
 | w :: ws,h=>by
  obtain ⟨k,hk⟩:=zKS ws fun x hx=>h x (List.mem_cons_of_mem _ hx)
  have hw:=h w (by simp)
  by_cases hz : w = 0 ∧ wval ws = 0
  ·refine ⟨k + 1, ?_⟩
   rw [wval,hz.1,hz.2]
   rw [hz.2] at hk
   simp only [Nat.mul_zero,Nat.add_zero,zBW,List.nil_append] at hk ⊢
   rw [List.replicate_succ,← hk]
  ·refine ⟨k, ?_⟩
   rw [wval,zO3 hw tO,List.cons_append,← hk]
theorem zO4 {ws : List Nat} (h : Small ws) : (wds (wval ws)).length ≤ ws.length ∧ ws.take (wds (wval ws)).length = wds (wval ws):=by
 obtain ⟨k,hk⟩:=zKS ws h
 constructor
 ·conv=>rhs; rw [hk]
  simp
 ·conv=>lhs; rw [hk]
  have : wval (wds (wval ws) ++ List.replicate k 0) = wval ws:=by rw [← hk]
  rw [this]
  simp
theorem zQC {ws : List Nat} (h : Small ws) (hl : ∀ w,ws.getLast? = some w → w ≠ 0) : wds (wval ws) = ws:=by
 obtain ⟨k,hk⟩:=zKS ws h
 cases k with
 | zero=>rw [List.replicate_zero,List.append_nil] at hk; exact hk.symm
 | succ k=>
  exfalso
  refine hl 0 ?_ rfl
  rw [hk,List.replicate_succ',← List.append_assoc,List.getLast?_append]
  simp
theorem zCz : ∀ xs ys : List Nat,wval (xs ++ ys) = wval xs + 4294967296 ^ xs.length * wval ys
 | [],ys=>by simp [wval]
 | x :: xs,ys=>by
  simp only [List.cons_append,wval,zCz xs ys,List.length_cons]
  rw [Nat.mul_add,← Nat.mul_assoc,Nat.pow_succ,Nat.mul_comm (4294967296 ^ xs.length) 4294967296]
  omega
theorem zB6 (xs : List Nat) (y : Nat) : wval (xs ++ [y]) = wval xs + 4294967296 ^ xs.length * y:=by
 rw [zCz]; simp [wval]
theorem zBX {ws : List Nat} {i : Nat} (h : i < ws.length) : wval (ws.take (i + 1)) = wval (ws.take i) + 4294967296 ^ i * ws[i]:=by
 rw [List.take_succ_eq_append_getElem h,zB6,List.length_take,Nat.min_eq_left tO]
theorem zIh : ∀ {ws : List Nat},Small ws → wval ws < 4294967296 ^ ws.length
 | [],_=>by simp [wval]
 | w :: ws,h=>by
  have h1:=h w (by simp)
  have h2:=zIh (ws:=ws) fun x hx=>h x (List.mem_cons_of_mem _ hx)
  simp only [wval,List.length_cons]
  rw [Nat.pow_succ,Nat.mul_comm (4294967296 ^ ws.length) 4294967296]
  omega
theorem zPc : ∀ (n : Nat),n ≠ 0 → 4294967296 ^ ((wds n).length - 1) ≤ n:=by
 intro n
 induction n using Nat.strongRecOn with
 | ind n ih=>
  intro h
  rw [zBP h,List.length_cons,Nat.add_sub_cancel]
  by_cases h2 : n / 4294967296 = 0
  ·rw [h2]; simp [zBW]; omega
  ·have h3:=ih _ tO h2
   have h4 : (wds (n / 4294967296)).length ≠ 0:=by rw [zBP h2]; simp
   obtain ⟨m,hm⟩ : ∃ m,(wds (n / 4294967296)).length = m + 1:=⟨(wds (n / 4294967296)).length - 1,by omega⟩
   rw [hm] at h3 ⊢
   simp only [Nat.add_sub_cancel] at h3
   rw [Nat.pow_succ]
   omega
theorem zPd (n : Nat) : n < 4294967296 ^ (wds n).length:=by
 have:=zIh (zAM n); rwa [zBp] at this
theorem zFM {a b : Nat} (h : (wds a).length < (wds b).length) : a < b:=by
 have hb : b ≠ 0:=fun e=>by subst e; simp [zBW] at h
 have h1:=zPd a
 have h2:=zPc b hb
 have h3 : 4294967296 ^ (wds a).length ≤ 4294967296 ^ ((wds b).length - 1):=Nat.pow_le_pow_right tO tO
 omega
theorem zJo {a b : Nat} (h : a ≤ b) : (wds a).length ≤ (wds b).length:=by
 rcases Nat.lt_or_ge (wds b).length (wds a).length with h2 | h2
 ·have:=zFM h2; omega
 ·exact h2
theorem zNk {xs ys : List Nat} (hx : Small xs) (hy : Small ys) (hl : xs.length = ys.length) {i : Nat} (hi : i < xs.length) (he : xs.drop (i + 1) = ys.drop (i + 1)) (hlt : xs[i] < ys[i]'tO) : wval xs < wval ys:=by
 have h1 : xs = xs.take i ++ xs[i] :: xs.drop (i + 1):=by rw [List.getElem_cons_drop,List.take_append_drop]
 have h2 : ys = ys.take i ++ ys[i]'tO :: ys.drop (i + 1):=by rw [List.getElem_cons_drop,List.take_append_drop]
 have g1 : wval xs = wval (xs.take i) + 4294967296 ^ i * (xs[i] + 4294967296 * wval (xs.drop (i + 1))):=by
  conv=>lhs; rw [h1]
  rw [zCz,List.length_take,Nat.min_eq_left tO,wval]
 have g2 : wval ys = wval (ys.take i) + 4294967296 ^ i * (ys[i]'tO + 4294967296 * wval (ys.drop (i + 1))):=by
  conv=>lhs; rw [h2]
  rw [zCz,List.length_take,Nat.min_eq_left tO,wval]
 have g3 : wval (xs.take i) < 4294967296 ^ i:=by
  have:=zIh (ws:=xs.take i) fun w hw=>hx w (List.mem_of_mem_take hw)
  rwa [List.length_take,Nat.min_eq_left tO] at this
 rw [g1,g2,he]
 have g4 : 4294967296 ^ i * (xs[i] + 4294967296 * wval (ys.drop (i + 1)) + 1) ≤ 4294967296 ^ i * (ys[i]'tO + 4294967296 * wval (ys.drop (i + 1))):=Nat.mul_le_mul_left _ tO
 rw [Nat.mul_add,Nat.mul_one] at g4
 omega
def zJp : Nat → Nat → Nat
 | 0,_=>0
 | f + 1,n=>if n = 0 then 0 else zJp f (n / 2) + 1
def bits (n : Nat) : Nat:=zJp n n
theorem zH4 : ∀ f g n,n ≤ f → n ≤ g → zJp f n = zJp g n
 | 0,0,_,_,_=>rfl
 | 0,g + 1,n,h,_=>by
  have : n = 0:=by omega
  subst this; rfl
 | f + 1,0,n,_,h=>by
  have : n = 0:=by omega
  subst this; rfl
 | f + 1,g + 1,n,h,k=>by
  simp only [zJp]
  split
  ·rfl
  ·rw [zH4 f g (n / 2) tO tO]
theorem zGD {n : Nat} (h : n ≠ 0) : bits n = bits (n / 2) + 1:=by
 unfold bits
 obtain ⟨m,rfl⟩ : ∃ m,n = m + 1:=⟨n - 1,by omega⟩
 rw [zJp,if_neg h,zH4 m ((m + 1) / 2) _ tO (Nat.le_refl _)]
theorem zKT (k : Nat) : ∀ n,bits n ≤ k ↔ n < 2 ^ k:=by
 induction k with
 | zero=>
  intro n
  by_cases h : n = 0
  ·subst h; simp [bits,zJp]
  ·rw [zGD h]; simp; omega
 | succ k ih=>
  intro n
  by_cases h : n = 0
  ·subst h; simp [bits,zJp]; exact Nat.two_pow_pos _
  ·rw [zGD h,Nat.pow_succ]
   have:=ih (n / 2)
   constructor
   ·intro h2
    have:=this.1 tO
    omega
   ·intro h2
    have:=this.2 tO
    omega
end Go.AM
set_option maxRecDepth 20000
namespace Go.AM
theorem zQD (n : Int) : zAU (w64 n):=by unfold w64 zAU; rw [IntKind.wrap_i64]; omega
theorem zMA {a b : Int} (ha : zAU a) (hb : zAU b) : zCR a b = if zAU (a + b) then nmV (a + b) else zPb 5:=by
 unfold zCR w64
 rw [IntKind.wrap_i64]
 unfold zAU at ha hb
 by_cases h' : zAU (a + b)
 ·rw [if_pos h']
  have h : -9223372036854775808 ≤ a + b ∧ a + b ≤ 9223372036854775807:=h'
  have e : (a + b + 9223372036854775808) % 18446744073709551616 - 9223372036854775808 = a + b:=by omega
  rw [e,if_pos]
  rw [beq_iff_eq]
  by_cases hb0 : b ≥ 0
  ·rw [decide_eq_true hb0,tT (by omega : a + b ≥ a)]
  ·rw [decide_eq_false hb0,tF (by omega : ¬ a + b ≥ a)]
 ·have h : ¬ (-9223372036854775808 ≤ a + b ∧ a + b ≤ 9223372036854775807):=h'
  rw [if_neg h',if_neg]
  rw [beq_iff_eq]
  by_cases hb0 : b ≥ 0
  ·have e : (a + b + 9223372036854775808) % 18446744073709551616 - 9223372036854775808 = a + b - 18446744073709551616:=by omega
   rw [decide_eq_true hb0,e,tF (by omega : ¬ a + b - 18446744073709551616 ≥ a)]; simp
  ·have e : (a + b + 9223372036854775808) % 18446744073709551616 - 9223372036854775808 = a + b + 18446744073709551616:=by omega
   rw [decide_eq_false hb0,e,tT (by omega : a + b + 18446744073709551616 ≥ a)]; simp
theorem zNl (a b : Int) : zAU (zCR a b).num:=by
 unfold zCR
 split
 ·exact zQD _
 ·unfold zAU; exact ⟨by decide,by decide⟩
theorem zO5 {a b : Val} (ha : zAU a.num) (hb : zAU b.num) : zAU (zG0 a b).num:=by
 unfold zG0
 split
 ·exact ha
 ·split
  ·exact hb
  ·exact zNl _ _
theorem zO6 : ∀ ns : List Int,(∀ n ∈ ns,zAU n) → zAU (zDZ ns).num:=by
 unfold zDZ
 suffices H : ∀ (ns : List Int) (s : Val),zAU s.num → (∀ n ∈ ns,zAU n) → zAU (ns.foldl (fun s n=>zG0 s (nmV n)) s).num from fun ns h=>H ns _ ⟨by decide,by decide⟩ h
 intro ns
 induction ns with
 | nil=>intro s h _; exact h
 | cons n ns ih=>intro s h hn; exact ih _ (zO5 h (hn n (by simp))) fun m hm=>hn m (List.mem_cons_of_mem _ hm)
section
variable {C : CSpec} {GT : Nat → Option AV}
theorem zMB (v : Val) (hk : zFu v) (H : Heap) : EFun C GT zC8 [zB v] H (zB v) H:=by
 refine zR ?_; refine zK5 (x:=zB v) rfl ?_; refine zD (AV.int IntKind.i64 v.kind) (zF zA) rfl ?_
 by_cases h1 : (v.kind == 1) = true
 ·refine zH (fun _=>?_) (fun h=>absurd h1 (by rw [h]; simp))
  refine zM ?_; refine zD (zB v) (zF zA) rfl ?_; refine zS (v:=zB v) (AV.cells (zB v)) zA rfl rfl rfl rfl ?_
  exact zZ (o:=0) rfl rfl (zn (zN zA)) rfl rfl rfl ((((Old.refl _).push _).push _).set (by first | assumption | exact Nat.le_refl _ | simp | omega) _)
 ·refine zH (fun h=>absurd h h1) (fun _=>?_)
  have h4 : (v.kind == 4) = true:=by rcases hk with h | h <;> simp_all
  refine zH (fun _=>?_) (fun h=>absurd h4 (by rw [h]; simp))
  refine zD (zB v) (zF zA) rfl ?_; refine zS (v:=zB v) (AV.cells (zB v)) zA rfl rfl rfl rfl ?_
  exact zZ (o:=0) rfl rfl (zn (zN zA)) rfl rfl rfl ((((Old.refl _).push _).push _).set (by first | assumption | exact Nat.le_refl _ | simp | omega) _)
theorem zKU (hN : ∀ v,zFu v → ∀ H,C zAT [zB v] H (zB v) H) (hR : ∀ a b H,zAU a → zAU b → C zA3 [zJ 8,zJ a,zJ b] H (zB (zCR a b)) H)
  (a b : Val) (ka : zFu a) (kb : zFu b) (ra : zAU a.num) (rb : zAU b.num) (H : Heap) : EFun C GT zEh [zJ 8,zB a,zB b] H (zB (zG0 a b)) H:=by
 have e1 : (a.kind == 4) = true → zG0 a b = a:=fun h=>if_pos (eq_of_beq h)
 have e2 : (a.kind == 4) = false → (b.kind == 4) = true → zG0 a b = b:=fun h h'=>(if_neg (ne_of_beq_false h)).trans (if_pos (eq_of_beq h'))
 have e3 : (a.kind == 4) = false → (b.kind == 4) = false → zG0 a b = zCR a.num b.num:=fun h h'=>(if_neg (ne_of_beq_false h)).trans (if_neg (ne_of_beq_false h'))
 have hr:=fun H=>hR a.num b.num H ra rb
 refine zR ?_; refine zK5 (x:=zB a) rfl ?_; refine zK5 (x:=zB b) rfl ?_; refine zK ?_; refine zK ?_; refine zK ?_; refine zM ?_; refine zD (zB a) (zF (zF zA)) rfl ?_; refine zI (hN a ka _) ?_; refine zS (v:=zB a) (AV.cells (zB a)) (zF (zF zA)) rfl rfl rfl rfl ?_; refine zD (zB b) (zG (by first | assumption | simp | omega) (zF zA)) rfl ?_; refine zI (hN b kb _) ?_; refine zS (v:=zB b) (AV.cells (zB b)) (zG (by first | assumption | simp | omega) (zF zA)) rfl rfl rfl rfl ?_
 refine zD (AV.int IntKind.i64 a.kind) (zG (by first | assumption | simp | omega) (zN (zF (zF zA)))) rfl ?_; refine zH (fun h=>?_) (fun h=>?_)
 ·rw [e1 h]
  refine zD (zB a) (zG (by first | assumption | simp | omega) (zN (zF (zF zA)))) rfl ?_; refine zS (v:=zB a) (AV.cells (zB a)) (zG (by first | assumption | simp | omega) (zG (by first | assumption | simp | omega) zA)) rfl rfl rfl rfl ?_
  exact zZ (o:=0) rfl rfl (zn (zN (zG (by first | assumption | simp | omega) (zG (by first | assumption | simp | omega) zA)))) rfl rfl rfl (((((((Old.refl _).push _).push _).push _).set (by first | assumption | exact Nat.le_refl _ | simp | omega) _).set (by first | assumption | exact Nat.le_refl _ | simp | omega) _).set (by first | assumption | exact Nat.le_refl _ | simp | omega) _)
 refine zD (AV.int IntKind.i64 b.kind) (zN (zG (by first | assumption | simp | omega) (zF zA))) rfl ?_; refine zH (fun h'=>?_) (fun h'=>?_)
 ·rw [e2 h h']
  refine zD (zB b) (zN (zG (by first | assumption | simp | omega) (zF zA))) rfl ?_; refine zS (v:=zB b) (AV.cells (zB b)) (zG (by first | assumption | simp | omega) (zG (by first | assumption | simp | omega) zA)) rfl rfl rfl rfl ?_
  exact zZ (o:=0) rfl rfl (zn (zN (zG (by first | assumption | simp | omega) (zG (by first | assumption | simp | omega) zA)))) rfl rfl rfl (((((((Old.refl _).push _).push _).push _).set (by first | assumption | exact Nat.le_refl _ | simp | omega) _).set (by first | assumption | exact Nat.le_refl _ | simp | omega) _).set (by first | assumption | exact Nat.le_refl _ | simp | omega) _)
 rw [e3 h h']
 refine zM ?_; refine zD (AV.int IntKind.i64 a.num) (zG (by first | assumption | simp | omega) (zN (zF (zF zA)))) rfl ?_; refine zD (AV.int IntKind.i64 b.num) (zN (zG (by first | assumption | simp | omega) (zF zA))) rfl ?_; refine zI (hr _) ?_; refine zS (v:=zB (zCR a.num b.num)) (AV.cells (zB (zCR a.num b.num))) (zG (by first | assumption | simp | omega) (zG (by first | assumption | simp | omega) zA)) rfl rfl rfl rfl ?_
 exact zZ (o:=0) rfl rfl (zn (zN (zG (by first | assumption | simp | omega) (zG (by first | assumption | simp | omega) zA)))) rfl rfl rfl (((((((Old.refl _).push _).push _).push _).set (by first | assumption | exact Nat.le_refl _ | simp | omega) _).set (by first | assumption | exact Nat.le_refl _ | simp | omega) _).set (by first | assumption | exact Nat.le_refl _ | simp | omega) _)
theorem zQE (hN : ∀ n H,C zx [zJ n] H (zB (nmV n)) H) (hT : ∀ a b,zFu a → zFu b → zAU a.num → zAU b.num → ∀ H,C zBk [zJ 8,zB a,zB b] H (zB (zG0 a b)) H)
  (nv : AV) (ns : List Int) (H : Heap) (hn : view H 1 nv = some (ns.map zJ)) (hl : ns.length ≤ 1000000000000) (hr : ∀ n ∈ ns,zAU n) : EFun C GT zEe [nv] H (zB (zDZ ns)) H:=by
 refine zR ?_; refine zI (hN 0 _) ?_; refine zS (v:=zB (nmV 0)) (AV.cells (zB (nmV 0))) zA rfl rfl rfl rfl ?_
 have hne : H.length ≠ (H ++ [ABlk.box [.int .i64 0,.int .i64 0,.str []]]).length:=by simp
 have hle : H.length ≤ (H ++ [ABlk.box [.int .i64 0,.int .i64 0,.str []]]).length:=by simp
 refine zAV (fun i : Nat=>[(4,.int .i64 i),(3,.ref (H ++ [ABlk.box [.int .i64 0,.int .i64 0,.str []]]).length 0 0 0),(0,nv),(2,.ref H.length 0 0 0)])
  (fun i H'=>Old H H' ∧ i ≤ ns.length ∧ H'[H.length]? = some (.box [.int .i64 0,.int .i64 0,.str []]) ∧ H'[(H ++ [ABlk.box [.int .i64 0,.int .i64 0,.str []]]).length]? = some (.box (zB (zDZ (ns.take i))).cells)) (fun i=>ns.length - i) 0 rfl
  ⟨(((Old.refl H).push _).push _).set hle _,Nat.zero_le _,zG hne.symm (zF zA),zN zA⟩ (fun i H1 ⟨hO,hi,h2,h3⟩=>?_)
 dsimp only
 refine zBN ns.length (zAI hO hn) (by simp) ?_; refine zH (fun hlt=>?_) (fun hlt=>?_)
 ·have hlt : i < ns.length:=by have:=of_decide_eq_true hlt; omega
  have hni : ns[i]? = some ns[i]:=List.getElem?_eq_getElem hlt
  have e : zDZ (ns.take (i + 1)) = zG0 (zDZ (ns.take i)) (nmV ns[i]):=by rw [List.take_succ_eq_append_getElem hlt,zJj]
  refine zD (zB (zDZ (ns.take i))) h3 rfl ?_; refine zBZ i (zJ ns[i]) (zAI hO hn) rfl (by rw [List.getElem?_map,hni]; rfl) (fun p hp=>?_)
  refine zAB (zJ ns[i]) hp rfl ?_; refine zI (hN ns[i] _) ?_; refine zI (hT _ _ (zNa _) (.inl rfl) (zO6 _ fun n hn=>hr n (List.mem_of_mem_take hn)) (hr _ (List.getElem_mem hlt)) _) ?_; refine zDL h3 rfl rfl (Nat.le_of_ble_eq_true rfl) ?_; refine zY (r:=i + 1) rfl tO ?_
  exact zw (i + 1) rfl ⟨hO.set hle _,by omega,zG hne.symm h2,by rw [e]; exact zN h3⟩ tO
 ·have hge : i = ns.length:=by have:=of_decide_eq_false hlt; omega
  subst hge
  rw [List.take_length] at h3
  refine zD (zB (zDZ ns)) h3 rfl ?_; refine zS (v:=zB (zDZ ns)) (AV.cells (zB (zDZ ns))) h2 rfl rfl rfl rfl ?_
  exact zZ (o:=0) rfl rfl (zn (zN h2)) rfl rfl rfl (hO.set (by first | assumption | exact Nat.le_refl _ | simp | omega) _)
theorem zO7 (hS : ∀ nv ns H,view H 1 nv = some (ns.map zJ) → ns.length ≤ 1000000000000 → (∀ n ∈ ns,zAU n) → C zBD [nv] H (zB (zDZ ns)) H) (b : Nat) (l : List Val) (H : Heap) (hv : H[b]? = some (.row 3 (l.map zB))) (hl : l.length ≤ 1000) (hr : ∀ v ∈ l,zAU v.num) :
  EFun C GT zCu [.sl (some true) b 3 0 l.length] H (zB (zEJ l)) H:=by
 refine zR ?_; refine zAV (fun s : SPs=>[(2,.ref H.length 0 0 0),(4,.int .i64 s.i),(0,.sl (some true) b 3 0 l.length),(3,s.v)])
  (fun s H'=>Old (H ++ [ABlk.box [.int .i64 0,.int .i64 0,.str []]]) H' ∧ s.i ≤ l.length ∧ Owns (H ++ [ABlk.box [.int .i64 0,.int .i64 0,.str []]]) H' s.v 1 ((((l.take s.i).filter fun v=>v.kind == 1).map (·.num)).map zJ) ∧ ∀ v ∈ l.take s.i,(v.kind == 4) = false) (fun s=>l.length - s.i) ⟨0,.lst (some true) 0 []⟩ rfl
  ⟨Old.refl _,Nat.zero_le _,Owns.nil _ _ _,fun v h=>by simp at h⟩ (fun ⟨i,v⟩ H1 ⟨hOz,hi,hown,hnb⟩=>?_)
 simp only at hi hown hnb
 have hO : Old H H1:=((Old.refl H).push _).trans hOz
 have h2 : H1[H.length]? = some (.box [.int .i64 0,.int .i64 0,.str []]):=zBx hOz zA
 have hv1:=zBx hO hv
 dsimp only
 refine zCD ?_; refine zH (fun hlt=>?_) (fun hlt=>?_)
 ·have hlt : i < l.length:=by have:=of_decide_eq_true hlt; omega
  have hli : l[i]? = some l[i]:=List.getElem?_eq_getElem hlt
  obtain ⟨x,hx⟩ : ∃ x,l[i] = x:=⟨_,rfl⟩
  rw [hx] at hli
  have htk : l.take (i + 1) = l.take i ++ [x]:=by rw [List.take_succ_eq_append_getElem hlt,hx]
  have hlm : (l.map zB)[i]? = some (zB x):=by rw [List.getElem?_map,hli]; rfl
  refine sAt ⟨by omega,by omega⟩ ?_; refine zAA i (zB x) (zJ x.kind) tO hv1 hlm rfl ?_; refine zH (fun hb=>?_) (fun hb=>?_)
  ·have e : zEJ l = x:=by
    unfold zEJ
    have : l.find? (fun v=>v.kind == 4) = some x:=by
     rw [← List.take_append_drop i l,List.find?_append,List.find?_eq_none.2 (fun v hv=>by rw [hnb v hv]; simp),zGf hli]
     simp [hb]
    rw [this]
   rw [e]
   refine sAt ⟨by omega,by omega⟩ ?_; refine zAA i (zB x) (zB x) tO hv1 hlm rfl ?_; refine zS (v:=zB x) (AV.cells (zB x)) h2 rfl rfl rfl rfl ?_
   exact zZ (o:=0) rfl rfl (zn (zN h2)) rfl rfl rfl (hO.set (by first | assumption | exact Nat.le_refl _ | simp | omega) _)
  ·have hnb2 : ∀ v ∈ l.take (i + 1),(v.kind == 4) = false:=fun v hv=>by
    rw [htk] at hv
    rcases List.mem_append.1 hv with hv | hv
    ·exact hnb v hv
    ·rw [List.mem_singleton.1 hv]; exact hb
   refine sAt ⟨by omega,by omega⟩ ?_; refine zAA i (zB x) (zJ x.kind) tO hv1 hlm rfl ?_; refine zH (fun hb1=>?_) (fun hb1=>?_)
   ·have e : (((l.take (i + 1)).filter fun v=>v.kind == 1).map (·.num)).map zJ = (((l.take i).filter fun v=>v.kind == 1).map (·.num)).map zJ ++ [zJ x.num]:=by
     rw [htk]; simp [hb1]
    refine sAt ⟨by omega,by omega⟩ ?_; refine zAA i (zB x) (zJ x.num) tO hv1 hlm rfl ?_; refine zAu (vs':=[zJ x.num]) rfl rfl ?_; refine zCp (H0:=H ++ [ABlk.box [.int .i64 0,.int .i64 0,.str []]]) (hown.push _) (hOz.push _) zAn tO ?_ (by simp) (fun v' H' ho' hO' hblk hfr=>?_)
    ·have:=List.length_filter_le (fun v : Val=>v.kind == 1) (l.take i)
     simp only [List.length_map,List.length_cons,List.length_nil] at this ⊢
     rw [List.length_take] at this; omega
    refine zY (r:=i + 1) rfl tO ?_
    exact zw (SPs.mk (i + 1) v') rfl ⟨hO',by simp only; omega,by simp only [e]; exact ho',hnb2⟩ (by simp only; omega)
   ·have e : (((l.take (i + 1)).filter fun v=>v.kind == 1).map (·.num)).map zJ = (((l.take i).filter fun v=>v.kind == 1).map (·.num)).map zJ:=by
     rw [htk]; simp [hb1]
    refine zY (r:=i + 1) rfl tO ?_
    exact zw (SPs.mk (i + 1) v) rfl ⟨hOz,by simp only; omega,by simp only [e]; exact hown,hnb2⟩ (by simp only; omega)
 ·have hge : i = l.length:=by have:=of_decide_eq_false hlt; omega
  subst hge
  rw [List.take_length] at hown hnb
  have e : zEJ l = zDZ ((l.filter fun v=>v.kind == 1).map (·.num)):=by
   unfold zEJ
   rw [List.find?_eq_none.2 (fun v hv=>by rw [hnb v hv]; simp)]
  have hs:=hS v _ H1 hown.view (by rw [List.length_map]; exact Nat.le_trans (List.length_filter_le _ _) tO) (fun n hn=>by
   obtain ⟨v,hv,rfl⟩:=List.mem_map.1 hn
   exact hr v (List.mem_filter.1 hv).1)
  obtain ⟨w,hw⟩ : ∃ w,zDZ ((l.filter fun v=>v.kind == 1).map (·.num)) = w:=⟨_,rfl⟩
  rw [hw] at hs e
  rw [e]
  refine zI hs ?_; refine zS (v:=zB w) (AV.cells (zB w)) h2 rfl rfl rfl rfl ?_
  exact zZ (o:=0) rfl rfl (zn (zN h2)) rfl rfl rfl (hO.set (by first | assumption | exact Nat.le_refl _ | simp | omega) _)
end
end Go.AM
set_option maxRecDepth 20000
namespace Go.AM
theorem zNm (k : Nat) (xs : List AV) : part (zC3 k xs).cells 0 1 false = some (zC3 k xs):=by cases xs <;> rfl
theorem zMC {t : List Row} {b o c : Int} {A B : List Val} {i : Nat} {x : Val} (h : A[i]? = some x) : (zEt t b o c A B)[i]? = some (zHM t b o c x B):=by unfold zEt; rw [List.getElem?_map,h]; rfl
theorem zQF {t : List Row} (b o : Int) (c : Nat) (x y : Val) (hN : ∀ (i : Nat) (r : Row),t[i]? = some r → ∀ v ∈ r,zAU v.num) (hc : ∀ (i : Nat) (r : Row),t[i]? = some r → c < r.length) : ∀ v ∈ zJy t b o (c : Int) x y t.length,zAU v.num:=by
 intro v hv
 unfold zJy zOu at hv
 obtain ⟨r,hr,rfl⟩:=List.mem_map.1 hv
 have hr:=List.mem_range.1 (List.mem_filter.1 hr).1
 have h1 : t[r]? = some t[r]:=List.getElem?_eq_getElem hr
 have h2:=zBo h1 (hc r _ h1)
 exact hN r _ h1 _ (List.mem_of_getElem? h2)
section
variable {C : CSpec} {GT : Nat → Option AV}
set_option maxHeartbeats 4000000 in
theorem zO8 (hS : ∀ nv ns H,view H 1 nv = some (ns.map zJ) → ns.length ≤ 1000000000000 → (∀ n ∈ ns,zAU n) → C zBD [nv] H (zB (zDZ ns)) H) (H : Heap) : EFun C GT zCu [.lst (some true) 0 []] H (zB (zEJ [])) H:=by
 have h1:=fun H'=>hS (.lst (some true) 0 []) [] H' rfl (by simp) (by simp)
 refine zR ?_; refine zAV (fun _ : Unit=>[(2,.ref H.length 0 0 0),(4,zBf 0),(0,.lst (some true) 0 []),(3,.lst (some true) 0 [])]) (fun _ H'=>H' = H ++ [ABlk.box [.int .i64 0,.int .i64 0,.str []]]) (fun _=>0) () rfl rfl (fun _ H1 e=>?_)
 subst e
 dsimp only
 refine zu 0 (⟨_,_,rfl,.inr rfl⟩ : zAv (.lst (some true) 0 []) 3 []) rfl ?_; refine zK ?_; refine zI (h1 _) ?_; refine zS (v:=zB (zDZ [])) (AV.cells (zB (zDZ []))) zA rfl rfl rfl rfl ?_
 exact zZ (o:=0) rfl rfl (zn (zN zA)) rfl rfl rfl (((Old.refl _).push _).set (by first | assumption | exact Nat.le_refl _ | omega | (simp only [List.length_set,List.length_append,List.length_cons,List.length_nil]; omega) | (simp; done) | (simp; omega)) _)
set_option maxHeartbeats 16000000 in
theorem zQ8 (hC3 : ∀ tv cv t cols H,zAS H tv t → view H 1 cv = some (cols.map zJ) → C zAo [tv,cv] H (zBf (zX t cols)) H)
  (hH3 : ∀ tv t (c : Nat) H,zAS H tv t → zX t [(c : Int)] = 0 → C zAf [tv,zJ (c : Int)] H (zC3 3 ((zp t c).map zB)) H)
  (hX : ∀ tv t (b o c : Int) H,zAS H tv t → C zCE [tv,zJ b,zJ o,zJ c] H (zFh t b o c) H)
  (hE : ∀ x n e H,zOm x n → C zAL [x,.int .i64 e] H (.bool (n == e)) H)
  (hV : ∀ va vb (xs ys : List Val) H,zAv va 3 (xs.map zB) → zAv vb 3 (ys.map zB) → xs.length ≤ 9223372036854775807 → C zr [va,vb] H (.bool (decide (xs = ys))) H)
  (hS0 : ∀ H,C zAQ [.lst (some true) 0 []] H (zB (zEJ [])) H)
  (hS : ∀ (b : Nat) (l : List Val) H,H[b]? = some (.row 3 (l.map zB)) → l.length ≤ 1000 → (∀ v ∈ l,zAU v.num) → C zAQ [.sl (some true) b 3 0 l.length] H (zB (zEJ l)) H)
  (tv : AV) (t : List Row) (by_ over col : Int) (H : Heap) (ht : zAS H tv t) (hN : ∀ (i : Nat) (r : Row),t[i]? = some r → ∀ v ∈ r,zAU v.num) : EFun C GT zB0 [tv,zJ by_,zJ over,zJ col] H (.bool true) H:=by
 have h1:=hC3 tv (.sl (some false) H.length 1 0 3) t [by_,over,col] (H ++ [.row 1 [zJ by_,zJ over,zJ col]]) (ht.old ((Old.refl H).push _)) zAn
 have h2:=fun (H' : Heap) (h : Old H H')=>hX tv t by_ over col H' (ht.old h)
 have nilO : zAv (.lst (some true) 0 []) 3 (([] : List Val).map zB):=⟨_,_,rfl,.inr rfl⟩
 have nv:=fun H=>hV _ _ [] [] H nilO nilO (by simp)
 by_cases he : zX t [by_,over,col] = 0
 case neg=>
  obtain ⟨n,hn⟩ : ∃ n,zX t [by_,over,col] = n + 1:=⟨zX t [by_,over,col] - 1,by omega⟩
  have e : zFh t by_ over col = .tup [.lst (some true) 0 [],.lst (some true) 0 [],.lst (some true) 0 [],zHJ (n + 1 : Nat)]:=by unfold zFh; rw [if_pos he,hn]; rfl
  rw [e] at h2
  rw [hn] at h1
  have ee : ∀ H,C zAL [zHJ (n + 1 : Nat),zBf (n + 1)] H (.bool true) H:=fun H=>by
   have:=hE _ _ ((n + 1 : Nat) : Int) H (zNg (n + 1)); rwa [beq_self_eq_true] at this
  clear hE hV hS0 hS hH3 hC3 hX
  refine zR ?_; refine zAu (vs':=[zJ by_,zJ over,zJ col]) rfl rfl ?_; refine zI h1 ?_; refine zGg (tN) ?_; refine zI (h2 _ ((Old.refl H).push _)) ?_; refine zA9 rfl ?_; refine zA9 rfl ?_; refine zA9 rfl ?_; refine zA9 rfl ?_; refine zI (ee _) ?_; refine zI (nv _) ?_; refine zI (nv _) ?_; refine zK ?_; refine zK ?_; refine zK ?_; refine zK ?_; refine zK ?_; refine zu (k:=1) (xs:=[]) 0 ⟨_,_,rfl,.inr rfl⟩ rfl ?_
  refine zu (k:=1) (xs:=[]) 0 ⟨_,_,rfl,.inr rfl⟩ rfl ?_; refine zK ?_; refine zK ?_; refine zAV (fun _ : Unit=>[(3,zJ col),(0,tv),(11,.lst (some true) 0 []),(2,zJ over),(19,zBf 0),(10,.lst (some true) 0 []),(1,zJ by_),(14,.lst (some true) 0 [])]) (fun _ H'=>Old H H') (fun _=>0) () rfl ((Old.refl H).push _) (fun _ H1 hO=>?_)
  dsimp only
  refine zu (k:=1) (xs:=[]) 0 ⟨_,_,rfl,.inr rfl⟩ rfl ?_; refine zK ?_
  exact z2 rfl rfl rfl rfl hO
 obtain ⟨h60,_,_,hcol⟩:=zK8 he
 obtain ⟨b,rfl⟩ : ∃ b : Nat,by_ = b:=⟨by_.toNat,by have:=zFL he (c:=by_) (by simp); omega⟩
 obtain ⟨o,rfl⟩ : ∃ o : Nat,over = o:=⟨over.toNat,by have:=zFL he (c:=over) (by simp); omega⟩
 obtain ⟨c,rfl⟩ : ∃ c : Nat,col = c:=⟨col.toNat,by have:=zFL he (c:=col) (by simp); omega⟩
 have inb : ∀ (i : Nat) (r : Row),t[i]? = some r → b < r.length:=fun i r hr=>by have:=hcol i r hr (b : Int) (by simp); omega
 have ino : ∀ (i : Nat) (r : Row),t[i]? = some r → o < r.length:=fun i r hr=>by have:=hcol i r hr (o : Int) (by simp); omega
 have inc : ∀ (i : Nat) (r : Row),t[i]? = some r → c < r.length:=fun i r hr=>by have:=hcol i r hr (c : Int) (by simp); omega
 have e : zFh t (b : Int) (o : Int) (c : Int) = .tup [zC3 3 ((zp t (b : Int)).map zB),zC3 3 ((zp t (o : Int)).map zB),zC3 1 (zCi (zEt t (b : Int) (o : Int) (c : Int) (zp t (b : Int)) (zp t (o : Int)))),.nili]:=by unfold zFh; rw [if_neg tO]
 rw [e] at h2
 rw [he] at h1
 have g1:=fun (H' : Heap) (h : Old H H')=>hH3 tv t b H' (ht.old h) (zH3 he (by simp) (by simp))
 have g2:=fun (H' : Heap) (h : Old H H')=>hH3 tv t o H' (ht.old h) (zH3 he (by simp) (by simp))
 have hla:=zDi t (b : Int)
 have hlb:=zDi t (o : Int)
 obtain ⟨A,hA⟩ : ∃ A,zp t (b : Int) = A:=⟨_,rfl⟩
 obtain ⟨B,hB⟩ : ∃ B,zp t (o : Int) = B:=⟨_,rfl⟩
 rw [hA,hB] at h2
 rw [hA] at g1 hla
 rw [hB] at g2 hlb
 have la : (A.map zB).length = A.length:=List.length_map _
 have lb : (B.map zB).length = B.length:=List.length_map _
 obtain ⟨av,hav⟩ : ∃ av,zC3 3 (A.map zB) = av:=⟨_,rfl⟩
 obtain ⟨bv,hbv⟩ : ∃ bv,zC3 3 (B.map zB) = bv:=⟨_,rfl⟩
 have haO : zAv av 3 (A.map zB):=hav ▸ zEE _ _
 have hbO : zAv bv 3 (B.map zB):=hbv ▸ zEE _ _
 have va : ∀ H,C zr [av,av] H (.bool true) H:=fun H=>by have:=hV _ _ _ _ H haO haO tO; rwa [decide_eq_true rfl] at this
 have vb : ∀ H,C zr [bv,bv] H (.bool true) H:=fun H=>by have:=hV _ _ _ _ H hbO hbO tO; rwa [decide_eq_true rfl] at this
 rw [hav] at g1 h2
 rw [hbv] at g2 h2
 have ee : ∀ H,C zAL [.nili,zBf 0] H (.bool true) H:=fun H=>by have:=hE _ _ ((0 : Nat) : Int) H (zNg 0); rwa [beq_self_eq_true] at this
 have hXg:=fun (i : Nat) (x : Val) (h : A[i]? = some x)=>zMC (t:=t) (b:=(b : Int)) (o:=(o : Int)) (c:=(c : Int)) (B:=B) h
 obtain ⟨X,hX⟩ : ∃ X,zEt t (b : Int) (o : Int) (c : Int) A B = X:=⟨_,rfl⟩
 have hXl : X.length = A.length:=by rw [← hX]; unfold zEt; simp
 rw [hX] at h2 hXg
 have lz : (zCi X).length = A.length:=by unfold zCi; rw [List.length_map,hXl]
 obtain ⟨zv,hzv⟩ : ∃ zv,zC3 1 (zCi X) = zv:=⟨_,rfl⟩
 have hzO : zAv zv 1 (zCi X):=hzv ▸ zEE _ _
 rw [hzv] at h2
 have hin:=fun x y=>zQF (t:=t) (b : Int) (o : Int) c x y hN inc
 obtain ⟨rows,hrv,hrl,hrg⟩:=ht
 clear hE hV hH3 hC3 hX hN
 refine zR ?_; refine zAu (vs':=[zJ (b : Int),zJ (o : Int),zJ (c : Int)]) rfl rfl ?_; refine zI h1 ?_; refine zM ?_; refine zI (g1 _ ((Old.refl H).push _)) ?_; refine zI (g2 _ ((Old.refl H).push _)) ?_; refine zI (h2 _ ((Old.refl H).push _)) ?_; refine zA9 rfl ?_; refine zA9 rfl ?_; refine zA9 rfl ?_; refine zA9 rfl ?_; refine zI (ee _) ?_; refine zI (va _) ?_; refine zI (vb _) ?_; refine zK ?_
 refine zK ?_; refine zK ?_; refine zK ?_; refine zK ?_; refine zu A.length hzO lz ?_; refine zu A.length haO la ?_; refine zK ?_; refine zGg (bne_eq_false_iff_eq.2 rfl) ?_; refine zAV (fun i : Nat=>[(3,zJ (c : Int)),(0,tv),(11,bv),(2,zJ (o : Int)),(19,zBf i),(10,av),(1,zJ (b : Int)),(14,zv)]) (fun i H'=>Old H H' ∧ i ≤ A.length) (fun i=>A.length - i) 0 rfl ⟨(Old.refl H).push _,Nat.zero_le _⟩ (fun i H1 hi=>?_)
 obtain ⟨hO,hi⟩:=hi
 dsimp only
 refine zu A.length haO la ?_
 by_cases hlt : i < A.length
 case neg=>
  refine zGg tF ?_
  exact z2 rfl rfl rfl rfl hO
 obtain ⟨x,hx⟩ : ∃ x,A[i]? = some x:=⟨_,List.getElem?_eq_getElem hlt⟩
 have hxm : (A.map zB)[i]? = some (zB x):=by rw [List.getElem?_map,hx]; rfl
 have hL:=hXg i x hx
 obtain ⟨L,hLe⟩ : ∃ L,zHM t (b : Int) (o : Int) (c : Int) x B = L:=⟨_,rfl⟩
 have hLl : L.length = B.length:=by rw [← hLe]; unfold zHM; simp
 have hLg : ∀ k y,B[k]? = some y → L[k]? = some (zEJ (zJy t (b : Int) (o : Int) (c : Int) x y t.length)):=fun k y h=>by rw [← hLe]; unfold zHM; rw [List.getElem?_map,h]; rfl
 rw [hLe] at hL
 have hzm : (zCi X)[i]? = some (zC3 3 (L.map zB)):=by unfold zCi; rw [List.getElem?_map,hL]; rfl
 have hpl:=zNm 3 (L.map zB)
 obtain ⟨lv,hlv⟩ : ∃ lv,zC3 3 (L.map zB) = lv:=⟨_,rfl⟩
 have hlO : zAv lv 3 (L.map zB):=hlv ▸ zEE _ _
 rw [hlv] at hzm hpl
 have ll : (L.map zB).length = B.length:=by rw [List.length_map,hLl]
 clear hLe hL hlv hXg
 refine zGz tT ?_; refine zAK i lv hzO rfl hzm ?_; refine zh lv hpl ?_; refine zu B.length hlO ll ?_; refine zu B.length hbO lb ?_; refine zGg (bne_eq_false_iff_eq.2 rfl) ?_; refine zAV (fun k : Nat=>[(3,zJ (c : Int)),(0,tv),(20,zBf k),(11,bv),(2,zJ (o : Int)),(19,zBf i),(10,av),(1,zJ (b : Int)),(14,zv)]) (fun k H'=>Old H H' ∧ k ≤ B.length) (fun k=>B.length - k) 0 rfl ⟨hO,Nat.zero_le _⟩ (fun k H2 hk=>?_)
 obtain ⟨hO2,hk⟩:=hk
 dsimp only
 refine zu B.length hbO lb ?_
 by_cases hkl : k < B.length
 case neg=>
  refine zGg tF ?_; refine zY (r:=i + 1) rfl tO ?_
  exact zw (i + 1) rfl ⟨hO2,by omega⟩ tO
 obtain ⟨y,hy⟩ : ∃ y,B[k]? = some y:=⟨_,List.getElem?_eq_getElem hkl⟩
 have hym : (B.map zB)[k]? = some (zB y):=by rw [List.getElem?_map,hy]; rfl
 have hLk:=hLg k y hy
 obtain ⟨M,hM⟩ : ∃ M,(fun n=>zJy t (b : Int) (o : Int) (c : Int) x y n) = M:=⟨_,rfl⟩
 have hM0 : M 0 = []:=by rw [← hM]; rfl
 have hMl : ∀ n,(M n).length ≤ n:=fun n=>by rw [← hM]; exact zLD _ _ _ _ _ _ _
 have hMs : ∀ n,M (n + 1) = if zb t (b : Int) n = x ∧ zb t (o : Int) n = y then M n ++ [zb t (c : Int) n] else M n:=fun n=>by rw [← hM]; exact zJm _ _ _ _ _ _ _
 have hMi : ∀ v ∈ M t.length,zAU v.num:=by rw [← hM]; exact hin x y
 rw [show zJy t (b : Int) (o : Int) (c : Int) x y t.length = M t.length from congrFun hM _] at hLk
 have hsm : (L.map zB)[k]? = some (zB (zEJ (M t.length))):=by rw [List.getElem?_map,hLk]; rfl
 clear hM hin
 refine zGz tT ?_; refine zAV (fun z : Nat × AV=>[(22,zBf z.1),(3,zJ (c : Int)),(0,tv),(21,z.2),(20,zBf k),(11,bv),(2,zJ (o : Int)),(19,zBf i),(10,av),(1,zJ (b : Int)),(14,zv)]) (fun z H'=>Old H2 H' ∧ z.1 ≤ t.length ∧ Owns H2 H' z.2 3 ((M z.1).map zB)) (fun z=>t.length - z.1) (0,.lst (some true) 0 []) rfl ⟨Old.refl _,by simp,.inl ⟨rfl,by simp [hM0]⟩⟩ (fun z H3 hi3=>?_)
 obtain ⟨r,all⟩:=z
 obtain ⟨hO3,hr,ha3⟩:=hi3
 dsimp only at hr ha3 ⊢
 have hO13 : Old H H3:=hO2.trans hO3
 refine zBN t.length (zAI hO13 hrv) hrl ?_
 by_cases hrl3 : r < t.length
 case neg=>
  have e : r = t.length:=by omega
  subst e
  have hs : C zAQ [all] H3 (zB (zEJ (M t.length))) H3:=by
   rcases ha3 with ⟨rfl,h⟩ | ⟨bb,rfl,h1,h2,h3⟩
   ·rw [List.map_eq_nil_iff.1 h]; exact hS0 _
   ·rw [List.length_map]; exact hS bb _ H3 h2 (by have:=hMl t.length; omega) hMi
  have ev : zi [.int .i64,.int .i64,.str] (zB (zEJ (M t.length))).cells (zB (zEJ (M t.length))).cells = some true:=by rw [zB4,decide_eq_true rfl]
  clear hS0 hS
  refine zGg tF ?_; refine zI hs ?_; refine zS (v:=zB (zEJ (M t.length))) (AV.cells (zB (zEJ (M t.length)))) zA rfl rfl rfl rfl ?_; refine zAK i lv hzO rfl hzm ?_; refine zh lv hpl ?_; refine zAK k (zB (zEJ (M t.length))) hlO rfl hsm ?_; refine zh (zB (zEJ (M t.length))) rfl ?_; refine zD (zB (zEJ (M t.length))) (zN zA) rfl ?_; refine zA9 ev ?_; refine zK ?_; refine zY (r:=k + 1) rfl tO ?_
  exact zw (k + 1) rfl ⟨(hO2.trans hO3).pushSet _ _,by omega⟩ tO
 obtain ⟨row,hrow⟩ : ∃ row,t[r]? = some row:=⟨_,List.getElem?_eq_getElem hrl3⟩
 obtain ⟨xr,hxr,hxR⟩:=hrg r row hrow
 have hpt : part xr.cells 0 1 false = some xr:=by obtain ⟨q,k,rfl,_⟩:=hxR; rfl
 have cb:=zBo hrow (inb r row hrow)
 have co:=zBo hrow (ino r row hrow)
 have cc:=zBo hrow (inc r row hrow)
 have hMr:=hMs r
 obtain ⟨wb,hvb⟩ : ∃ v,zb t (b : Int) r = v:=⟨_,rfl⟩
 obtain ⟨wo,hvo⟩ : ∃ v,zb t (o : Int) r = v:=⟨_,rfl⟩
 obtain ⟨wc,hvc⟩ : ∃ v,zb t (c : Int) r = v:=⟨_,rfl⟩
 rw [hvb] at cb hMr
 rw [hvo] at co hMr
 rw [hvc] at cc hMr
 have mb : (row.map zB)[b]? = some (zB wb):=by rw [List.getElem?_map,cb]; rfl
 have mo : (row.map zB)[o]? = some (zB wo):=by rw [List.getElem?_map,co]; rfl
 have mc : (row.map zB)[c]? = some (zB wc):=by rw [List.getElem?_map,cc]; rfl
 have hv3:=zAI hO13 hrv
 have eb:=zB4 wb x
 have eo:=zB4 wo y
 clear hS0 hS
 refine zGz tT ?_; refine zBZ r xr hv3 rfl hxr (fun p hp=>?_)
 refine zAB xr hp hpt ?_; refine zAK b (zB wb) hxR rfl mb ?_; refine zh (zB wb) rfl ?_; refine zAK i (zB x) haO rfl hxm ?_; refine zh (zB x) rfl ?_; refine zA9 eb ?_
 by_cases e1 : wb = x
 ·rw [decide_eq_true e1]
  refine zM ?_; refine zBZ r xr hv3 rfl hxr (fun p hp=>?_)
  refine zAB xr hp hpt ?_; refine zAK o (zB wo) hxR rfl mo ?_; refine zh (zB wo) rfl ?_; refine zAK k (zB y) hbO rfl hym ?_; refine zh (zB y) rfl ?_; refine zA9 eo ?_
  by_cases e2 : wo = y
  ·rw [decide_eq_true e2]
   rw [if_pos ⟨e1,e2⟩] at hMr
   refine zM ?_; refine zM ?_; refine zBZ r xr hv3 rfl hxr (fun p hp=>?_)
   refine zAB xr hp hpt ?_; refine zAK c (zB wc) hxR rfl mc ?_; refine zh (zB wc) rfl ?_; refine zAu (vs':=[zB wc]) rfl rfl ?_; refine zCp (H0:=H2) (ha3.push _) (hO3.push _) zAn tO (by have:=hMl r; simp only [List.length_map,List.length_cons,List.length_nil]; omega) (by simp) (fun v2 H4 ho4 hO4 _ hfr=>?_)
   refine zY (r:=r + 1) rfl tO ?_; refine zw (r + 1,v2) rfl ⟨hO4,by simp only; omega, ?_⟩ (by simp only; omega)
   simp only
   rw [hMr,List.map_append]
   exact ho4
  ·rw [decide_eq_false e2]
   rw [if_neg (fun h=>e2 h.2)] at hMr
   refine zM ?_; refine zK ?_; refine zY (r:=r + 1) rfl tO ?_; refine zw (r + 1,all) rfl ⟨hO3,by simp only; omega, ?_⟩ (by simp only; omega)
   simp only
   rw [hMr]
   exact ha3
 ·rw [decide_eq_false e1]
  rw [if_neg (fun h=>e1 h.1)] at hMr
  refine zK ?_; refine zK ?_; refine zK ?_; refine zY (r:=r + 1) rfl tO ?_; refine zw (r + 1,all) rfl ⟨hO3,by simp only; omega, ?_⟩ (by simp only; omega)
  simp only
  rw [hMr]
  exact ha3
end
end Go.AM
