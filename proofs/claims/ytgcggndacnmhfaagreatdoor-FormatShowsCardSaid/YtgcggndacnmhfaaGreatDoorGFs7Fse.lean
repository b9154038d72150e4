/- Several texts of mine in one (Fs7, Bh1, Bh2, Bg3, Fse). Own work. -/
import Derived.Test.YtgcggndacnmhfaaGreatDoorGFs8Bg0
import Derived.Test.YtgcggndacnmhfaaGreatDoorGAm23Bc
import Derived.Test.YtgcggndacnmhfaaGreatDoorGErrRt0
set_option linter.all false
set_option maxRecDepth 20000
namespace Go.AM
def zLZ (v : Int) : Int:=if v = 0 then 0 else if v < 0 then -1 else 1
theorem zKQ (f : FormP) (n : Int) (h1 : 1 ≤ f.least) : zGC f n = (if n < 0 then [45] else []) ++ ((f.ahead ++ zKC f (zKB (f.least + f.point) (zBe n.natAbs)) (zKB (f.least + f.point) (zBe n.natAbs)).length) ++ f.behind):=by
 have hl:=zDW (f.least + f.point) (zBe n.natAbs)
 rw [zLP f tO]
 unfold zGC
 simp only [List.append_assoc]
section
variable {C : CSpec} {GT : Nat → Option AV} {B : Int → List AV} {B2 : Nat → List AV}
set_option maxHeartbeats 8000000 in
theorem zKR (hN : ∀ n H,zCf n → C zV [zEK n] H (.ref H.length 0 0 0) (H ++ [.box (B n)]))
  (hS : ∀ b v H,H[b]? = some (.box (B v)) → zCf v → C zh [.ref b 0 0 0] H (zEK (zLZ v)) H)
  (hA : ∀ b v H,H[b]? = some (.box (B v)) → zCf v → C zl [.ref b 0 0 0,.ref b 0 0 0] H (.ref b 0 0 0) (H.set b (.box (B2 v.natAbs))))
  (hT : ∀ b (m : Nat) H,H[b]? = some (.box (B2 m)) → m ≤ 9223372036854775808 → C zN [.ref b 0 0 0] H (.str (zBe m)) H)
  (f : FormP) (hf : f.least ≤ 1000 ∧ f.point ≤ 1000) (h1 : 1 ≤ f.least) (ha : f.ahead.length ≤ 1000) (hbe : f.behind.length ≤ 1000) (n : Int) (hn : zCf n) (hd : 1 ≤ (zBe n.natAbs).length ∧ (zBe n.natAbs).length ≤ 1000) (H : Heap) :
  EFun C GT zBd [zEK n,zC f] H (.str (zGC f n)) H:=by
 have hN:=fun H=>hN n H hn
 have hS:=fun b H h=>hS b n H h hn
 have hA:=fun b H h=>hA b n H h hn
 have hT:=fun b H h=>hT b n.natAbs H h (by unfold zCf at hn; omega)
 rw [zKQ f n h1]
 have key:=zMf (C:=C) (GT:=GT) (H0:=H) (H:=((H ++ [ABlk.box (zC f).cells]) ++ [ABlk.box (B n)]).set (H ++ [ABlk.box (zC f).cells]).length (.box (B2 n.natAbs))) (b:=H.length) (f:=f) (zI (by simp) (zT zB)) ((((Old.refl H).push _).push _).set (by simp) _) hf h1 ha hbe (zBe n.natAbs) hd
 have e1 : ((H ++ [ABlk.box (zC f).cells]) ++ [ABlk.box (B n)])[(H ++ [ABlk.box (zC f).cells]).length]? = some (.box (B n)):=zB
 have e2 : (((H ++ [ABlk.box (zC f).cells]) ++ [ABlk.box (B n)]).set (H ++ [ABlk.box (zC f).cells]).length (.box (B2 n.natAbs)))[(H ++ [ABlk.box (zC f).cells]).length]? = some (.box (B2 n.natAbs)):=zH zB
 refine zS ?_; refine zJy (x:=zC f) rfl ?_
 by_cases h0 : n < 0
 ·have key:=key true
  have es : zLZ n = -1:=by unfold zLZ; rw [if_neg tO,if_pos h0]
  rw [es] at hS
  rw [if_pos rfl] at key
  rw [if_pos h0]
  refine zEl (hN _) (fun h=>nomatch h) ?_; refine zK (hS _ _ e1) ?_; refine zEl (hA _ _ e1) (fun h=>nomatch h) ?_; refine zK (hT _ _ e2) ?_
  exact zAo rfl key rfl
 ·have es : 0 ≤ zLZ n:=by unfold zLZ; rw [if_neg h0]; split <;> decide
  rw [if_neg h0]
  generalize zLZ n = g at hS es
  have hg : decide (g < 0) = false:=tF
  have key:=key (decide (g < 0))
  rw [if_neg (by rw [hg]; decide)] at key
  refine zEl (hN _) (fun h=>nomatch h) ?_; refine zK (hS _ _ e1) ?_; refine zEl (hA _ _ e1) (fun h=>nomatch h) ?_; refine zK (hT _ _ e2) ?_
  exact zAo rfl key rfl
end
end Go.AM
set_option maxRecDepth 20000
namespace Go.AM
section
variable {C : CSpec} {GT : Nat → Option AV}
def zBX (w : Nat) : AV:=.int .u32 w
def zNZ (w : Nat) : AV:=.int .u64 w
def zBs (n : Nat) : AV:=.lst (some false) 1 ((wds n).map zBX)
def Mag (v : AV) (n : Nat) : Prop:=zF5 v 1 ((wds n).map zBX)
theorem zCV (n : Nat) : Mag (zBs n) n:=⟨_,_,rfl,.inl rfl⟩
theorem Mag.nil (k : Nat) : Mag (.lst (some true) k []) 0:=⟨_,_,rfl,.inr rfl⟩
theorem zNa {n i : Nat} (h : i < (wds n).length) : ((wds n).map zBX)[i]? = some (zBX (wds n)[i]):=by rw [List.getElem?_map,List.getElem?_eq_getElem h]; rfl
theorem zKS {b m n : Nat} (h : n ≤ m) : zf (some 1) (.sl (some false) b 1 0 m) none (some (.int .i64 (n : Int))) = some (.sl (some false) b 1 0 n):=by
 have e : zAv m none (some (.int .i64 (n : Int))) = some (0,n):=by
  simp only [zAv,aHi,aLo]
  rw [if_pos ⟨by omega,by omega⟩]
  simp
 simp only [zf,if_true,e,Option.map_some,Nat.zero_add,Nat.sub_zero]
 rfl
theorem zKT {H0 H : Heap} {b n : Nat} {ws : List Nat} (hbl : H0.length ≤ b) (hb : H[b]? = some (.row 1 (ws.map zBX))) (hw : Small ws) (hn : wval ws = n) :
  zCk H0.length (.sl (some false) b 1 0 (wds n).length) H = some (zBs n,H.set b (.frz 1 (ws.map zBX))):=by
 subst hn
 have h:=zLY hw
 simp only [zCk,hb]
 rw [if_neg tO,if_pos ⟨trivial,by rw [List.length_map]; omega⟩]
 simp only [List.drop_zero,← List.map_take,h.2]
 rfl
theorem shr32 (s : Nat) : zBR .shr .u64 (s : Int) 32 = some (.int .u64 ((s / 4294967296 : Nat) : Int)):=by
 simp only [zBR]
 rw [if_neg tO]
 have : (2 : Int) ^ Nat.min (32 : Int).toNat IntKind.u64.bits = 4294967296:=by rfl
 rw [this,Int.fdiv_eq_ediv_of_nonneg _ tO]
 rfl
theorem zI3 {x : Int} {K : Int → Prop} (r : Nat) (h : x % 4294967296 = r) (k : K (r : Int)) : valP (IntKind.wrap .u32 x) K:=zC3 (by rw [IntKind.wrap_u32]; omega) k
theorem sWu64 {x : Int} {K : Int → Prop} (r : Nat) (h : x % 18446744073709551616 = r) (k : K (r : Int)) : valP (IntKind.wrap .u64 x) K:=zC3 (by rw [IntKind.wrap_u64]; omega) k
theorem zMh (b m : Nat) (ws : List Nat) (H : Heap) (hm : ws.length = m) (hb : H[b]? = some (.row 1 (ws.map zBX))) (hw : Small ws) (hl : m ≤ 1000000) :
  EFun C GT zBK [.sl (some false) b 1 0 m] H (.sl (some false) b 1 0 (wds (wval ws)).length) H:=by
 have hbl : b < H.length:=(zg hb).1
 subst hm
 have fin : ∀ n : Nat,n ≤ ws.length → (wds (wval ws)).length = n → (.sl (some false) b 1 0 (wds (wval ws)).length : AV) = .sl (some false) b 1 0 n:=fun n _ h=>by rw [h]
 refine zS ?_; refine zJt ?_; refine zE6 (fun n : Nat=>[(3,zu n),(0,.sl (some false) b 1 0 ws.length)]) (fun n H'=>H' = H ∧ n ≤ ws.length ∧ wval (ws.take n) = wval ws) (fun n=>n) ws.length rfl ⟨rfl,Nat.le_refl _,by rw [List.take_length]⟩ (fun n H1 ⟨e,hn,hv⟩=>?_)
 subst e
 dsimp only
 have hsm : Small (ws.take n):=fun w h=>hw w (List.mem_of_mem_take h)
 refine zE5 (fun h=>?_) (fun h=>?_)
 ·have h : 0 < n:=by have:=of_decide_eq_true h; omega
  have hi : n - 1 < ws.length:=by omega
  have hx : (ws.map zBX)[n - 1]? = some (zBX ws[n - 1]):=by rw [List.getElem?_map,List.getElem?_eq_getElem hi]; rfl
  have ht : ws.take n = ws.take (n - 1) ++ [ws[n - 1]]:=by
   have:=List.take_succ_eq_append_getElem hi
   rwa [Nat.sub_add_cancel h] at this
  refine zAf (r:=n - 1) tO tO <| sAt ⟨by omega,by omega⟩ <| zF3 (n - 1) (zBX ws[n - 1]) (zBX ws[n - 1]) tO hb hx rfl <| zE ?_; refine zE5 (fun h0=>?_) (fun h0=>?_)
  ·have h0 : ws[n - 1] = 0:=by have:=eq_of_beq h0; omega
   refine zAf (r:=n - 1) tO tO ?_; refine zEq (n - 1) rfl ⟨rfl,by omega, ?_⟩ tO
   rw [← hv,ht,zKO,h0]; simp
  ·have h0 : ws[n - 1] ≠ 0:=fun e=>by rw [e] at h0; exact absurd h0 (by simp)
   have hd : wds (wval ws) = ws.take n:=by
    rw [← hv]
    refine zMg hsm fun w hw=>?_
    rw [ht,List.getLast?_concat] at hw
    cases hw
    exact h0
   have e:=fin n hn (by rw [hd,List.length_take]; omega)
   refine za (zKS hn) ?_
   exact zDk e rfl rfl (by simp only [zCk]; rw [if_pos hbl]) (by simp only [AV.bel]; exact decide_eq_true hbl) (Old.refl _)
 ·have h : n = 0:=by have:=of_decide_eq_false h; omega
  subst h
  have e:=fin 0 hn (by rw [← hv]; rfl)
  refine zD <| zD <| za (zKS hn) ?_
  exact zDk e rfl rfl (by simp only [zCk]; rw [if_pos hbl]) (by simp only [AV.bel]; exact decide_eq_true hbl) (Old.refl _)
theorem zLa (hT : ∀ b m ws H,ws.length = m → H[b]? = some (.row 1 (ws.map zBX)) → Small ws → m ≤ 1000000 → C zb [.sl (some false) b 1 0 m] H (.sl (some false) b 1 0 (wds (wval ws)).length) H)
  (x : Nat) (hx : x < 18446744073709551616) (H : Heap) : EFun C GT zA4 [zNZ x] H (zBs x) H:=by
 have hb : (H ++ [ABlk.row 1 [zBX (x % 4294967296),zBX (x / 4294967296)]])[H.length]? = some (.row 1 (([x % 4294967296,x / 4294967296] : List Nat).map zBX)):=zB
 have hw : Small [x % 4294967296,x / 4294967296]:=by
  intro w hw
  simp at hw
  omega
 have hv : wval [x % 4294967296,x / 4294967296] = x:=by simp only [wval]; omega
 have ht:=hT H.length 2 [x % 4294967296,x / 4294967296] _ rfl hb hw tO
 rw [hv] at ht
 refine zS ?_; refine zI3 (x % 4294967296) tO <| za (shr32 x) <| zI3 (x / 4294967296) tO <| zF4 (vs':=[zBX (x % 4294967296),zBX (x / 4294967296)]) rfl rfl <| zK (ht) ?_
 exact zJ0 rfl rfl (zKT (Nat.le_refl _) hb hw hv) rfl (((Old.refl H).push _).set (Nat.le_refl _) _)
end
end Go.AM
set_option maxRecDepth 20000
namespace Go.AM
theorem shl32 (a : Nat) (h : a < 4294967296) : zBR .shl .u64 (a : Int) 32 = some (.int .u64 ((a * 4294967296 : Nat) : Int)):=by
 simp only [zBR]
 rw [if_neg tO]
 have : (2 : Int) ^ Nat.min (32 : Int).toNat IntKind.u64.bits = 4294967296:=by rfl
 rw [this,IntKind.wrap_u64]
 have : ((a : Int) * 4294967296) % 18446744073709551616 = ((a * 4294967296 : Nat) : Int):=by omega
 rw [this]
theorem or32 (a b : Nat) (ha : a < 4294967296) (hb : b < 4294967296) : zCj .or .u64 (a : Int) ((b * 4294967296 : Nat) : Int) = some (.int .u64 ((a + 4294967296 * b : Nat) : Int)):=by
 simp only [zCj]
 have of (x : Nat) (hx : x < 18446744073709551616) : (BitVec.ofInt IntKind.u64.bits (x : Int)).toNat = x:=by
  show (BitVec.ofInt 64 (x : Int)).toNat = x
  rw [BitVec.toNat_ofInt]
  have : ((x : Int) % ((2 ^ 64 : Nat) : Int)) = (x : Int):=by rw [Int.emod_eq_of_lt tO (by simp; omega)]
  rw [this,Int.toNat_natCast]
 have e : (BitVec.ofInt IntKind.u64.bits (a : Int) ||| BitVec.ofInt IntKind.u64.bits ((b * 4294967296 : Nat) : Int)).toNat = a + 4294967296 * b:=by
  rw [BitVec.toNat_or,of a tO,of _ tO,Nat.or_comm,Nat.mul_comm b]
  have:=Nat.two_pow_add_eq_or_of_lt (i:=32) (b:=a) (by simpa using ha) b
  have e32 : (2 : Nat) ^ 32 = 4294967296:=by decide
  rw [e32] at this
  rw [← this]; omega
 rw [e,IntKind.wrap_u64]
 have : ((a + 4294967296 * b : Nat) : Int) % 18446744073709551616 = ((a + 4294967296 * b : Nat) : Int):=by omega
 rw [this]
section
variable {C : CSpec} {GT : Nat → Option AV}
def zFB (v : Int) : List AV:=[.bool (decide (v < 0)),zBs v.natAbs]
theorem zHe {F : AF} {H H1 : Heap} {fr : Fr} {v : AV} {b : Nat} {cs : List AV} (hH : H1 = H.set b (.box cs)) (hk : F.keep = false) (hr : (zAh fr H1 F.results).map tupled = some v) (hf : zCk H.length v H1 = some (v,H1)) (hb : v.bel H.length = true) (hc : zHn H.length (.box cs) = true) :
  retP F H fr H1 v (H.set b (.box cs)):=by
 refine sRet ?_
 unfold zHE
 cases hs : zAh fr H1 F.results with
 | none=>rw [hs] at hr; cases hr
 | some vs=>
  rw [hs] at hr
  simp only [Option.map_some,Option.some.injEq] at hr
  subst hr
  simp only [hk,hf,Bool.false_eq_true,if_false]
  subst hH
  refine ⟨hb,fun c hc'=>?_,trivial, ?_⟩
  ·by_cases e : b = c
   ·subst e
    exact .inr ⟨_,List.getElem?_set_self hc',hc⟩
   ·exact .inl (List.getElem?_set_ne e)
  ·rw [List.take_of_length_le (by rw [List.length_set]; omega)]
theorem sRetK {F : AF} {H H1 : Heap} {fr : Fr} {v : AV} (hk : F.keep = true) (hr : (zAh fr H1 F.results).map tupled = some v) : retP F H fr H1 v H1:=by
 refine sRet ?_
 unfold zHE
 cases hs : zAh fr H1 F.results with
 | none=>rw [hs] at hr; cases hr
 | some vs=>
  rw [hs] at hr
  simp only [Option.map_some,Option.some.injEq] at hr
  subst hr
  simp only [hk,if_true]
  exact ⟨trivial,trivial⟩
theorem zMi (b n : Nat) (neg : Bool) (x0 x1 : AV) (H : Heap) (hb : H[b]? = some (.box [x0,x1])) : EFun C GT zAB [.ref b 0 0 0,.bool neg,zBs n] H (.ref b 0 0 0) (H.set b (.box [.bool (neg && decide (0 < n)),zBs n])):=by
 have hbl : b < H.length:=(zg hb).1
 have hz : ((wds n).length > 0) ↔ 0 < n:=by
  by_cases e : n = 0
  ·subst e; simp [zCc]
  ·rw [zBL e]; simp; omega
 have hd : decide (((wds n).length : Int) > 0) = decide (0 < n):=by
  rw [Bool.eq_iff_iff,decide_eq_true_iff,decide_eq_true_iff,← hz]; omega
 refine zS ?_
 cases neg
 ·refine sS (zBs n) [x0,zBs n] ?_; refine sX ?_; refine sS (AV.bool false) [AV.bool false,zBs n] ?_
  exact zHe (by rw [List.set_set]; rfl) rfl rfl rfl (decide_eq_true hbl) rfl
 ·refine sS (zBs n) [x0,zBs n] ?_; refine sX ?_; refine zF6 (wds n).length (zCV n) (by simp) <| sX ?_; refine sS (.bool (decide (((wds n).length : Int) > 0))) [.bool (decide (((wds n).length : Int) > 0)),zBs n] ?_
  exact zHe (by rw [List.set_set,hd]; rfl) rfl rfl rfl (decide_eq_true hbl) rfl
theorem zHf (hW : ∀ x H,x < 18446744073709551616 → C z8 [zNZ x] H (zBs x) H) (hG : ∀ b n neg x0 x1 H,H[b]? = some (.box [x0,x1]) → C zL [.ref b 0 0 0,.bool neg,zBs n] H (.ref b 0 0 0) (H.set b (.box [.bool (neg && decide (0 < n)),zBs n])))
  (b : Nat) (v : Int) (x0 x1 : AV) (H : Heap) (hb : H[b]? = some (.box [x0,x1])) (hv : zCf v) : EFun C GT zAJ [.ref b 0 0 0,zEK v] H (.ref b 0 0 0) (H.set b (.box (zFB v))):=by
 have hbl : b < H.length:=(zg hb).1
 unfold zCf at hv
 have hw:=hW v.natAbs H tO
 have hg:=hG b v.natAbs (decide (v < 0)) x0 x1 H hb
 have e0 : (decide (v < 0) && decide (0 < v.natAbs)) = decide (v < 0):=by
  by_cases h : v < 0
  ·rw [decide_eq_true h,tT (by omega : 0 < v.natAbs)]; rfl
  ·rw [decide_eq_false h]; rfl
 rw [e0] at hg
 refine zS ?_
 by_cases hn : v < 0
 ·have e : aUn .neg (.int .u64 (18446744073709551616 + v)) = some (zNZ v.natAbs):=by
   simp only [aUn]
   rw [IntKind.wrap_u64]
   have : (0 - (18446744073709551616 + v)) % 18446744073709551616 = (v.natAbs : Int):=by omega
   rw [this]; rfl
  refine zC3 (r:=18446744073709551616 + v) (by rw [IntKind.wrap_u64]; omega) ?_; refine zE5 (fun _=>?_) (fun h=>absurd hn (of_decide_eq_false h))
  refine za e <| zK (hw) <| zEl hg (fun h=>by cases h) ?_
  exact zHe rfl rfl rfl rfl (decide_eq_true hbl) rfl
 ·refine zC3 (r:=(v.natAbs : Int)) (by rw [IntKind.wrap_u64]; omega) ?_; refine zE5 (fun h=>absurd (of_decide_eq_true h) hn) (fun _=>?_)
  refine sX ?_
  exact zHe rfl rfl rfl rfl (decide_eq_true hbl) rfl
def zIG : AF:={ zCQ with keep:=true }
theorem zKU (hS : ∀ b v x0 x1 H,H[b]? = some (.box [x0,x1]) → zCf v → C zX [.ref b 0 0 0,zEK v] H (.ref b 0 0 0) (H.set b (.box (zFB v)))) (v : Int) (H : Heap) (hv : zCf v) :
  EFun C GT zIG [zEK v] H (.ref H.length 0 0 0) (H ++ [.box (zFB v)]):=by
 have hs:=hS H.length v (.bool false) (.lst (some true) 0 []) (H ++ [.box [.bool false,.lst (some true) 0 []]]) zB hv
 have e : (H ++ [ABlk.box [.bool false,.lst (some true) 0 []]]).set H.length (.box (zFB v)) = H ++ [.box (zFB v)]:=by
  rw [List.set_append_right _ _ (Nat.le_refl _),Nat.sub_self]; rfl
 rw [e] at hs
 refine zS <| sX ?_
 exact sRetK rfl rfl
theorem zHg {n k : Nat} (h : n < 4294967296 ^ k) : (wds n).length ≤ k:=by
 rcases Nat.lt_or_ge k (wds n).length with h2 | h2
 ·have hn : n ≠ 0:=fun e=>by subst e; simp [zCc] at h2
  have h3:=zL5 n hn
  have h4 : 4294967296 ^ k ≤ 4294967296 ^ ((wds n).length - 1):=Nat.pow_le_pow_right tO tO
  omega
 ·exact h2
end
end Go.AM
set_option maxRecDepth 20000
namespace Go.AM
theorem zKV {ws : List Nat} {i : Nat} (h : i < ws.length) : wval (ws.drop i) = ws[i] + 4294967296 * wval (ws.drop (i + 1)):=by
 rw [← List.getElem_cons_drop h,wval]
theorem or32' (a b : Nat) (ha : a < 4294967296) (hb : b < 4294967296) : zCj .or .u64 ((b * 4294967296 : Nat) : Int) (a : Int) = some (.int .u64 ((b * 4294967296 + a : Nat) : Int)):=by
 have h:=or32 a b ha hb
 simp only [zCj] at h ⊢
 have e : (BitVec.ofInt IntKind.u64.bits ((b * 4294967296 : Nat) : Int) ||| BitVec.ofInt IntKind.u64.bits (a : Int)) = (BitVec.ofInt IntKind.u64.bits (a : Int) ||| BitVec.ofInt IntKind.u64.bits ((b * 4294967296 : Nat) : Int)):=BitVec.or_comm _ _
 rw [e,h]
 congr 2
 omega
theorem zMj (qs : List Nat) (i q : Nat) : ((List.replicate (i + 1) 0 ++ qs).map zBX).set i (zBX q) = (List.replicate i 0 ++ q :: qs).map zBX:=by
 rw [← List.map_set]
 congr 1
 rw [List.replicate_succ',List.append_assoc,List.set_append_right _ _ (by simp)]
 simp
theorem zLb (qs : List Nat) (i : Nat) : ((List.replicate (i + 1) 0 ++ qs).map zBX)[i]? = some (zBX 0):=by
 rw [List.getElem?_map,List.getElem?_append_left (by simp),List.getElem?_replicate]; simp
def zG3 (n : Nat) (f : Nat → UInt8) : List AV:=zJv n fun k=>zY (f k)
theorem zIH {n i : Nat} {f : Nat → UInt8} {v : UInt8} : (zG3 n f).set i (zY v) = zG3 n (upd f i v):=by
 unfold zG3; rw [zLL]; congr 1; funext j; unfold upd; split <;> rfl
theorem zEM {n i : Nat} {f : Nat → UInt8} (h : i < n) : (zG3 n f)[i]? = some (zY (f i)):=zLK h
theorem zKW (xs : List UInt8) : xs.map zY = zG3 xs.length fun k=>xs.getD k 0:=by
 apply List.ext_getElem?
 intro i
 by_cases h : i < xs.length
 ·rw [zEM h,List.getElem?_map,List.getElem?_eq_getElem h,List.getD_eq_getElem?_getD,List.getElem?_eq_getElem h]; rfl
 ·rw [List.getElem?_eq_none (by simp; omega),List.getElem?_eq_none (by unfold zG3; rw [zLJ]; omega)]
def turn (n i : Nat) (f : Nat → UInt8) : Nat → UInt8:=fun k=>if k < i ∨ n - i ≤ k then f (n - 1 - k) else f k
theorem zKX (n : Nat) (f : Nat → UInt8) : zG3 n (turn n 0 f) = zG3 n f:=by
 unfold zG3
 refine zDj fun k hk=>?_
 unfold turn; rw [if_neg tO]
theorem zKY {n i : Nat} {f : Nat → UInt8} (h : i < n - 1 - i) : zG3 n (upd (upd (turn n i f) i (turn n i f (n - 1 - i))) (n - 1 - i) (turn n i f i)) = zG3 n (turn n (i + 1) f):=by
 unfold zG3
 refine zDj fun k hk=>?_
 congr 1
 have e1 : turn n i f (n - 1 - i) = f (n - 1 - i):=by unfold turn; rw [if_neg tO]
 have e2 : turn n i f i = f i:=by unfold turn; rw [if_neg tO]
 rw [e1,e2]
 unfold upd turn
 by_cases h1 : k = n - 1 - i
 ·rw [if_pos h1,if_pos tO]; congr 1; omega
 ·rw [if_neg h1]
  by_cases h2 : k = i
  ·rw [if_pos h2,if_pos tO]; congr 1; omega
  ·rw [if_neg h2]
   by_cases h3 : k < i ∨ n - i ≤ k
   ·rw [if_pos h3,if_pos tO]
   ·rw [if_neg h3,if_neg tO]
theorem zLc {i : Nat} {xs : List UInt8} (h : xs.length - 1 - i ≤ i) (hi : i ≤ xs.length) : zG3 xs.length (turn xs.length i fun k=>xs.getD k 0) = xs.reverse.map zY:=by
 rw [zKW xs.reverse,List.length_reverse]
 unfold zG3
 refine zDj fun k hk=>?_
 congr 1
 have e : xs.reverse.getD k 0 = xs.getD (xs.length - 1 - k) 0:=by
  rw [List.getD_eq_getElem?_getD,List.getD_eq_getElem?_getD,List.getElem?_reverse hk]
 show _ = xs.reverse.getD k 0
 rw [e]
 unfold turn
 split
 ·rfl
 ·congr 1; omega
section
variable {C : CSpec} {GT : Nat → Option AV}
theorem zMk (av : AV) (m : Nat) (H : Heap) (ha : Mag av m) (hm : m ≠ 0) (hl : (wds m).length ≤ 100000) : EFun C GT zAg [av] H (.lst (some false) 1 ((wds m).map zBX)) H:=by
 have h0 : (wds m).map zBX ≠ []:=by rw [zBL hm]; simp
 refine zS ?_; refine zHY (H0:=H) (Owns.nil _ _ _) (Old.refl _) (ha.view H) tO (by simp; omega) h0 (fun v' H' ho' hO' hb hf=>?_)
 rw [List.nil_append] at ho'
 obtain ⟨H2,hf2,hO2,_⟩:=ho'.frz hO'
 have e : lstF 1 ((wds m).map zBX) = .lst (some false) 1 ((wds m).map zBX):=by rw [zBL hm]; rfl
 rw [e] at hf2
 exact zJ0 rfl rfl hf2 rfl hO2
structure SSl where
 k : Nat
 r : Nat
 qs : List Nat
theorem zLd (hT : ∀ b m ws H,ws.length = m → H[b]? = some (.row 1 (ws.map zBX)) → Small ws → m ≤ 1000000 → C zb [.sl (some false) b 1 0 m] H (.sl (some false) b 1 0 (wds (wval ws)).length) H)
  (av : AV) (a d n : Nat) (H : Heap) (ha : Mag av a) (hn : (wds a).length = n) (hl : n ≤ 100000) (hd0 : 0 < d) (hd : d < 4294967296) : EFun C GT zA5 [av,zBX d] H (.tup [zBs (a / d),zBX (a % d)]) H:=by
 have hal : ((wds a).map zBX).length = n:=by rw [List.length_map,hn]
 refine zS ?_; refine zF6 n ha hal ?_; refine sMake (n:=n) rfl (Int.le_refl _) ⟨by omega,by omega⟩ rfl ?_; refine zF6 n ha hal ?_; refine sW64 ⟨by omega,by omega⟩ ?_; refine zE6 (fun s : SSl=>[(8,zEK ((s.k : Int) - 1)),(1,zBX d),(6,.sl (some false) H.length 1 0 n),(0,av),(7,zNZ s.r)])
  (fun s H'=>Old H H' ∧ s.k ≤ n ∧ s.qs.length = n - s.k ∧ Small s.qs ∧ s.r < d ∧ H'[H.length]? = some (.row 1 ((List.replicate s.k 0 ++ s.qs).map zBX)) ∧ wval ((wds a).drop s.k) = d * wval s.qs + s.r) (fun s=>s.k) ⟨n,0,[]⟩ rfl
  ⟨(Old.refl _).push _,Nat.le_refl _,by simp,(fun w hw=>by cases hw),hd0,by rw [List.append_nil,List.map_replicate]; exact zB,by show wval ((wds a).drop n) = d * wval [] + 0; rw [List.drop_of_length_le tO]; rfl⟩ (fun ⟨k,r,qs⟩ H1 ⟨hO,hk,hq,hsm,hr,hrow,hval⟩=>?_)
 simp only at hk hq hsm hr hrow hval
 dsimp only
 refine zE5 (fun h=>?_) (fun h=>?_)
 ·have h : 1 ≤ k:=by have:=of_decide_eq_true h; omega
  obtain ⟨i,rfl⟩ : ∃ i,k = i + 1:=⟨k - 1,by omega⟩
  have hi : i < (wds a).length:=by omega
  have hax:=zNa hi
  have hdr:=zKV hi
  have hsx:=zG1 a _ (List.getElem_mem hi)
  generalize (wds a)[i] = w at *
  have hq1 : (r * 4294967296 + w) / d < 4294967296:=by
   rw [Nat.div_lt_iff_lt_mul hd0]
   have : (r + 1) * 4294967296 ≤ d * 4294967296:=Nat.mul_le_mul_right _ hr
   rw [Nat.mul_comm 4294967296 d]
   omega
  have hqt : (((r * 4294967296 + w : Nat)) : Int).tdiv (d : Int) = (((r * 4294967296 + w) / d : Nat) : Int):=(Int.ofNat_tdiv _ _).symm
  have hrt : (((r * 4294967296 + w : Nat)) : Int).tmod (d : Int) = (((r * 4294967296 + w) % d : Nat) : Int):=(Int.ofNat_tmod _ _).symm
  have hrd : (r * 4294967296 + w) % d < d:=Nat.mod_lt _ hd0
  have e:=Nat.div_add_mod (r * 4294967296 + w) d
  have hne : (d : Int) ≠ 0:=by omega
  obtain ⟨q,hqd⟩ : ∃ q,(r * 4294967296 + w) / d = q:=⟨_,rfl⟩
  obtain ⟨rm,hrm⟩ : ∃ rm,(r * 4294967296 + w) % d = rm:=⟨_,rfl⟩
  rw [hqd] at hq1 hqt e
  rw [hrm] at hrt hrd e
  have hget:=zLb qs i
  have hset:=zMj qs i q
  refine za (shl32 r tO) ?_; refine zNM i (zBX w) ha tO hax ?_; refine zGq (zBX w) rfl ?_; refine zJ1 (r:=w) rfl tO ?_; refine za (or32' w r hsx tO) ?_; refine zJ1 (r:=d) rfl tO ?_; refine zAe hne ?_; refine sWu64 q (by rw [hqt]; omega) ?_; refine zI3 q tO ?_; refine sAt ⟨by omega,by omega⟩ ?_; refine zJu i (zBX q) tO hrow hget rfl (by decide) rfl (fun cs h=>by cases h) ?_; refine zJ1 (r:=d) rfl tO ?_
  refine zAe hne ?_; refine zC3 (r:=(rm : Int)) hrt ?_; refine sW64 ⟨by omega,by omega⟩ ?_; refine zEq (SSl.mk i rm (q :: qs)) ?_ ⟨hO.set (Nat.le_refl _) _,by simp only; omega,by simp only [List.length_cons]; omega, ?_,hrd,by simp only; rw [hset]; exact zH hrow, ?_⟩ (by simp only; omega)
  ·have : ((i + 1 : Nat) : Int) - 1 - 1 = (i : Int) - 1:=by omega
   simp only [← this]
   rfl
  ·intro x hx
   rcases List.mem_cons.1 hx with rfl | hx
   ·exact hq1
   ·exact hsm x hx
  ·simp only [wval]
   rw [hdr,hval]
   rw [Nat.mul_add,Nat.mul_add,← Nat.mul_assoc d 4294967296,Nat.mul_comm d 4294967296,Nat.mul_assoc]
   omega
 ·have h : k = 0:=by have:=of_decide_eq_false h; omega
  subst h
  rw [List.drop_zero,zIF] at hval
  rw [List.replicate_zero,List.nil_append] at hrow
  have hv : wval qs = a / d:=by rw [hval,Nat.mul_add_div hd0,Nat.div_eq_of_lt hr]; rfl
  have hm : a % d = r:=by rw [hval,Nat.mul_add_mod,Nat.mod_eq_of_lt hr]
  have ht:=hT H.length n qs H1 tO hrow hsm tO
  rw [hv] at ht
  rw [hm]
  have hfz:=zKT (H0:=H) (H:=H1) (b:=H.length) (n:=a / d) (Nat.le_refl _) hrow hsm hv
  refine zK ht ?_; refine zI3 r tO ?_
  exact zJ0 (v0:=.tup [.sl (some false) H.length 1 0 (wds (a / d)).length,zBX r]) rfl rfl (by simp only [zCk,zKn] at hfz ⊢; rw [hfz]; rfl) rfl (hO.set (Nat.le_refl _) _)
structure STx where
 m : Nat
 mv : AV
 v : AV
 out : List UInt8
theorem zLe (hTw : ∀ av m H,Mag av m → m ≠ 0 → (wds m).length ≤ 100000 → C zR [av] H (.lst (some false) 1 ((wds m).map zBX)) H)
  (hSm : ∀ av a d H,Mag av a → (wds a).length ≤ 100000 → 0 < d → d < 4294967296 → C zAA [av,zBX d] H (.tup [zBs (a / d),zBX (a % d)]) H)
  (b : Nat) (v : Int) (H : Heap) (hb : H[b]? = some (.box (zFB v))) (hv : v.natAbs < 10000000000000000000000) (hl : (wds v.natAbs).length ≤ 100) : EFun C GT zi [.ref b 0 0 0,zEK 10] H (.str (zHB v)) H:=by
 have hb2 : H[b]? = some (.box [.bool (decide (v < 0)),zBs v.natAbs]):=hb
 clear hb
 have hdl : (zIB v.natAbs).length ≤ 22:=zGB 22 _ (by have : (10 : Nat) ^ 22 = 10000000000000000000000:=(by decide); omega)
 refine zS ?_; refine za rfl ?_; refine zD ?_; refine zA (zBs v.natAbs) hb2 rfl ?_; refine zF6 (wds v.natAbs).length (zCV _) (by simp) ?_
 by_cases h0 : v = 0
 ·subst h0
  refine zE ?_
  exact sRr
 have hz : (wds v.natAbs).length ≠ 0:=by rw [zBL tO]; simp
 refine zE5 (fun h=>absurd (eq_of_beq h) tO) (fun _=>?_)
 have htw:=hTw (zBs v.natAbs) v.natAbs H (zCV _) tO tO
 have hdig : zHB v = (signed v).reverse:=by unfold zHB; rw [if_neg h0]
 rw [hdig]
 refine zA (zBs v.natAbs) hb2 rfl ?_; refine zK (htw) ?_; refine zE6 (fun s : STx=>[(5,s.v),(1,zEK 10),(6,s.mv),(0,.ref b 0 0 0)]) (fun s H'=>Old H H' ∧ Owns H H' s.v 1 (s.out.map zY) ∧ Mag s.mv s.m ∧ s.out ++ zIB s.m = zIB v.natAbs ∧ s.m ≤ v.natAbs ∧ (s.m ≠ 0 ∨ s.out ≠ [])) (fun s=>s.m) ⟨v.natAbs,_,.lst (some true) 0 [],[]⟩ rfl
  ⟨Old.refl _,Owns.nil _ _ _,⟨_,_,rfl,.inl rfl⟩,rfl,Nat.le_refl _,.inl (by show v.natAbs ≠ 0; omega)⟩ (fun ⟨m,mv,ov,out⟩ H1 ⟨hO,hown,hmg,hdg,hmle,hne⟩=>?_)
 simp only at hown hmg hdg hmle hne
 dsimp only
 have hml : (wds m).length ≤ 100:=Nat.le_trans (zG2 hmle) hl
 refine zF6 (wds m).length hmg (by simp) ?_; refine zE5 (fun h=>?_) (fun h=>?_)
 ·have h0 : m ≠ 0:=fun e=>by subst e; exact absurd h (by simp [zCc])
  have hsm:=hSm mv m 10 H1 hmg tO tO tO
  rw [zEL h0] at hdg
  have hol : out.length ≤ 22:=by
   have:=congrArg List.length hdg
   rw [List.length_append] at this; omega
  have hmod : m % 10 < 10:=Nat.mod_lt _ tO
  have hu : (UInt8.ofNat (48 + m % 10)).toNat = 48 + m % 10:=by rw [UInt8.toNat_ofNat']; omega
  refine zI3 10 tO ?_; refine zK hsm ?_; refine za rfl ?_; refine za rfl ?_; refine zE5 (fun _=>?_) (fun h=>absurd (of_decide_eq_false h) tO)
  refine zI3 (48 + m % 10) tO ?_; refine zC3 (r:=((UInt8.ofNat (48 + m % 10)).toNat : Int)) (by rw [hu,IntKind.wrap_u8]; omega) ?_; refine zF4 (vs':=[zY (UInt8.ofNat (48 + m % 10))]) rfl rfl ?_; refine zHY (H0:=H) (hown.push _) (hO.push _) zH9 tO (by simp; omega) (by simp) (fun v' H' ho' hO' hblk hfr=>?_)
  exact zEq (STx.mk (m / 10) (zBs (m / 10)) v' (out ++ [UInt8.ofNat (48 + m % 10)])) rfl ⟨hO',by simp only [List.map_append]; exact ho',zCV _,by simp only [List.append_assoc]; exact hdg,by simp only; omega,.inr (by simp)⟩ (by simp only; omega)
 ·have hm0 : m = 0:=by
   by_cases e : m = 0
   ·exact e
   ·exact absurd h (by rw [zBL e]; simp)
  subst hm0
  rw [zDU,List.append_nil] at hdg
  have hoe : out ≠ []:=hne.resolve_left (by simp)
  have hol : out.length ≤ 22:=by rw [hdg]; exact hdl
  have fin : ∀ (ov : AV) (out : List UInt8) (H1 : Heap),Old H H1 → Owns H H1 ov 1 (out.map zY) → out ≠ [] → out.length ≤ 23 → EW C GT (zAl.behind 6) (zIu zi H (.str out.reverse) H) [(5,ov)] H1:=by
   intro ov out H1 hO hown hne hlen
   obtain ⟨c,rfl,hcl,hrow⟩ : ∃ c,ov = .sl (some true) c 1 0 out.length ∧ H.length ≤ c ∧ H1[c]? = some (.row 1 (out.map zY)):=by
    rcases hown with ⟨_,h⟩ | ⟨c,h1,h2,h3,_⟩
    ·exact absurd (by simpa using h) hne
    ·exact ⟨c,by rw [h1,List.length_map],h2,h3⟩
   obtain ⟨n,hn⟩ : ∃ n,out.length = n:=⟨_,rfl⟩
   have hn0 : 0 < n:=by rw [← hn]; exact List.length_pos_iff.2 hne
   rw [zKW,hn,← zKX] at hrow
   rw [hn]
   refine zJt ?_; refine zAf (r:=n - 1) tO tO ?_; refine zE6 (fun i : Nat=>[(9,zEK ((n : Int) - 1 - i)),(8,zu i),(5,.sl (some true) c 1 0 n)]) (fun i H'=>Old H H' ∧ i ≤ n ∧ i ≤ n - i ∧ H'[c]? = some (.row 1 (zG3 n (turn n i fun k=>out.getD k 0)))) (fun i=>n - i) 0 ?_ ⟨hO,Nat.zero_le _,by omega,hrow⟩ (fun i H2 ⟨hO2,hi,hi2,hrow2⟩=>?_)
   ·have : ((n - 1 : Nat) : Int) = (n : Int) - 1 - (0 : Nat):=by omega
    simp only [← this]
    rfl
   dsimp only
   refine zE5 (fun h=>?_) (fun h=>?_)
   ·have h : i < n - 1 - i:=by have:=of_decide_eq_true h; omega
    have g1:=zEM (n:=n) (i:=i) (f:=turn n i fun k=>out.getD k 0) tO
    have g2:=zEM (n:=n) (i:=n - 1 - i) (f:=turn n i fun k=>out.getD k 0) tO
    have ts:=zKY (f:=fun k=>out.getD k 0) h
    generalize hf : turn n i (fun k=>out.getD k 0) = f at *
    have g3:=zEM (n:=n) (i:=n - 1 - i) (f:=upd f i (f (n - 1 - i))) tO
    have r2 : (H2.set c (.row 1 ((zG3 n f).set i (zY (f (n - 1 - i))))))[c]? = some (.row 1 (zG3 n (upd f i (f (n - 1 - i))))):=by rw [zIH]; exact zH hrow2
    refine sAt ⟨by omega,by omega⟩ ?_; refine zF3 i (zY (f i)) (zY (f i)) tO hrow2 g1 rfl ?_; refine sAt ⟨by omega,by omega⟩ ?_; refine zF3 (n - 1 - i) (zY (f (n - 1 - i))) (zY (f (n - 1 - i))) tO hrow2 g2 rfl ?_; refine sAt ⟨by omega,by omega⟩ ?_; refine zJu i (zY (f (n - 1 - i))) tO hrow2 g1 rfl (by decide) rfl (fun cs h=>by cases h) ?_; refine sAt ⟨by omega,by omega⟩ ?_; refine zJu (n - 1 - i) (zY (f i)) tO r2 g3 rfl (by decide) rfl (fun cs h=>by cases h) ?_
    refine zAf (r:=i + 1) rfl tO ?_; refine sW64 ⟨by omega,by omega⟩ ?_; refine zEq (i + 1) ?_ ⟨(hO2.set hcl _).set hcl _,by omega,by omega, ?_⟩ tO
    ·have : (n : Int) - 1 - (i : Int) - 1 = (n : Int) - 1 - ((i + 1 : Nat) : Int):=by omega
     simp only [← this]
     rfl
    ·rw [← ts,← zIH (f:=upd f i (f (n - 1 - i)))]
     exact zH r2
   ·have h : n - 1 - i ≤ i:=by have:=of_decide_eq_false h; omega
    have e:=zLc (i:=i) (xs:=out) tO tO
    rw [hn] at e
    rw [e] at hrow2
    have ho : Owns H H2 (.sl (some true) c 1 0 n) 1 (out.reverse.map zY):=.inr ⟨c,by rw [List.length_map,List.length_reverse,hn],hcl,hrow2,by simp [hne]⟩
    refine zJw ho ?_
    exact zAS rfl rfl rfl rfl hO2
  by_cases hn : v < 0
  ·have e : signed v = out ++ [45]:=by unfold signed; rw [if_pos hn,hdg]
   rw [e]
   rw [decide_eq_true hn] at hb2
   have hb3:=zJx hO hb2
   refine zA (AV.bool true) hb3 rfl ?_; refine zE ?_; refine zF4 (vs':=[zY 45]) rfl rfl ?_; refine zHY (H0:=H) (hown.push _) (hO.push _) zH9 tO (by simp; omega) (by simp) (fun v' H' ho' hO' hblk hfr=>?_)
   refine zAo rfl (fin v' (out ++ [45]) H' hO' (by rw [List.map_append]; exact ho') (by simp) (by simp; omega)) ?_
   rfl
  ·have e : signed v = out:=by unfold signed; rw [if_neg hn,hdg]
   rw [e]
   rw [decide_eq_false hn] at hb2
   have hb3:=zJx hO hb2
   refine zA (.bool false) hb3 rfl ?_; refine zD ?_; refine zAo rfl (fin ov out H1 hO hown hoe tO) ?_
   rfl
theorem zI4 (hT : ∀ b v H,H[b]? = some (.box (zFB v)) → v.natAbs < 10000000000000000000000 → (wds v.natAbs).length ≤ 100 → C zW [.ref b 0 0 0,zEK 10] H (.str (zHB v)) H)
  (b : Nat) (v : Int) (H : Heap) (hb : H[b]? = some (.box (zFB v))) (hv : v.natAbs < 10000000000000000000000) (hl : (wds v.natAbs).length ≤ 100) : EFun C GT zy [.ref b 0 0 0] H (.str (zHB v)) H:=by
 have h:=hT b v H hb hv hl
 refine zS ?_; refine zK (h) ?_
 exact sRr
theorem zI5 (hNew : ∀ v H,zCf v → C zV [zEK v] H (.ref H.length 0 0 0) (H ++ [.box (zFB v)]))
  (hS : ∀ b v H,H[b]? = some (.box (zFB v)) → v.natAbs < 10000000000000000000000 → (wds v.natAbs).length ≤ 100 → C zN [.ref b 0 0 0] H (.str (zHB v)) H)
  (v : Int) (H : Heap) (hv : zCf v) : EFun C GT zB9 [zEK v] H (.str (zHB v)) H:=by
 have e2 : (4294967296 : Nat) ^ 2 = 18446744073709551616:=by decide
 have la : (wds v.natAbs).length ≤ 2:=zHg (by rw [e2]; unfold zCf at hv; omega)
 have h:=hS H.length v (H ++ [.box (zFB v)]) zB (by unfold zCf at hv; omega) tO
 refine zS ?_; refine zEl (hNew v _ hv) (fun h=>by cases h) ?_; refine zK (h) ?_
 exact zAS rfl rfl rfl rfl ((Old.refl _).push _)
end
end Go.AM
set_option maxRecDepth 20000
namespace Go.AM
def zMl (m : Nat) : List AV:=if m = 0 then [.bool false,.lst (some true) 1 []] else [.bool false,zBs m]
def zKZ : AV:=.agg [.str [],.str [35,68,73,86,33],.str [35,86,65,76,85,69,33],.str [35,82,69,70,33],.str [35,78,65,77,69,33],.str [35,78,85,77,33],.str [35,78,79,78,69,33]]
def wrF : List Bs1:=[] :: wrongs
def zGE (k n : Int) (t : Bs1) : Bs1:=if k = 1 then zHB n else if k = 2 then t else if k = 3 then (if n = 1 then zMU else zJ7) else if k = 4 then wrongs.getD (n.toNat - 1) [] else []
theorem zG4 {k n : Int} {t : Bs1} (h : isV k n t = true) : (k = 0) ∨ (k = 1 ∧ t = []) ∨ (k = 2 ∧ t.length ≤ 200) ∨ (k = 3 ∧ (n = 0 ∨ n = 1)) ∨ (k = 4 ∧ 1 ≤ n ∧ n ≤ 6):=by
 unfold isV at h
 by_cases k0 : k = 0
 ·exact .inl k0
 rw [if_neg k0] at h
 by_cases k1 : k = 1
 ·rw [if_pos k1] at h; exact .inr (.inl ⟨k1,of_decide_eq_true h⟩)
 rw [if_neg k1] at h
 by_cases k2 : k = 2
 ·rw [if_pos k2] at h; exact .inr (.inr (.inl ⟨k2,(of_decide_eq_true h).2⟩))
 rw [if_neg k2] at h
 by_cases k3 : k = 3
 ·rw [if_pos k3] at h; exact .inr (.inr (.inr (.inl ⟨k3,(of_decide_eq_true h).2⟩)))
 rw [if_neg k3] at h
 by_cases k4 : k = 4
 ·rw [if_pos k4] at h; exact .inr (.inr (.inr (.inr ⟨k4,(of_decide_eq_true h).2⟩)))
 rw [if_neg k4] at h
 cases h
theorem zMm {n0 b k n : Nat} {xs : List AV} {H : Heap} (h : H[b]? = some (.row k xs)) (hn : xs.length = n) (hb : n0 ≤ b) : zCk n0 (.sl (some false) b k 0 n) H = some (.lst (some false) k xs,H.set b (.frz k xs)):=by
 subst hn
 have : ¬ b < n0:=by omega
 simp only [zCk,this,if_false,h]
 simp [zKr]
section
variable {C : CSpec} {GT : Nat → Option AV}
theorem sOffG {GT : Nat → Option AV} {fr : Fr} {g o : Nat} {x : AV} {K : AV → Prop} (h : GT g = some x) (q : K (.lref x (0 + o))) : zNH o (evF GT fr (.glob g)) K:=by
 have e : evF GT fr (.glob g) = .lref x 0:=by simp only [evF,h]
 rw [e]; exact q
theorem zLf (H : Heap) : EFun C GT zAg [zBs 0] H (.lst (some true) 1 []) H:=by
 refine zS ?_; refine zKo (v:=.sl (some true) H.length 1 0 0) (H':=H ++ [ABlk.row 1 []]) rfl ?_; refine zJ0 (H2:=(H ++ [ABlk.row 1 []]).set H.length (.frz 1 [])) rfl rfl ?_ rfl ((((Old.refl H).push _)).set (Nat.le_refl _) _)
 show zCk H.length (.sl (some true) H.length 1 0 0) (H ++ [ABlk.row 1 []]) = _
 unfold zCk
 rw [if_neg (Nat.lt_irrefl _),show (H ++ [ABlk.row 1 []])[H.length]? = some (.row 1 []) from zB]
 rfl
theorem zLg (b : Nat) (x0 x1 : AV) (H : Heap) (hb : H[b]? = some (.box [x0,x1])) : EFun C GT zAB [.ref b 0 0 0,.bool false,.lst (some true) 1 []] H (.ref b 0 0 0) (H.set b (.box [.bool false,.lst (some true) 1 []])):=by
 have hbl : b < H.length:=(zg hb).1
 have h1:=zH (x:=ABlk.box [x0,.lst (some true) 1 []]) hb
 refine zS ?_; refine zJ (v:=AV.lst (some true) 1 []) [x0,.lst (some true) 1 []] hb rfl rfl rfl rfl <| zD <| zD <| zJ (v:=AV.bool false) [.bool false,.lst (some true) 1 []] h1 rfl rfl rfl rfl ?_
 exact zHe (by rw [List.set_set]) rfl rfl rfl (decide_eq_true hbl) rfl
theorem zNb (hT : ∀ av m H,Mag av m → m ≠ 0 → (wds m).length ≤ 100000 → C zR [av] H (.lst (some false) 1 ((wds m).map zBX)) H) (hT0 : ∀ H,C zR [zBs 0] H (.lst (some true) 1 []) H)
  (hG : ∀ b n neg x0 x1 H,H[b]? = some (.box [x0,x1]) → C zL [.ref b 0 0 0,.bool neg,zBs n] H (.ref b 0 0 0) (H.set b (.box [.bool (neg && decide (0 < n)),zBs n])))
  (hG0 : ∀ b x0 x1 H,H[b]? = some (.box [x0,x1]) → C zL [.ref b 0 0 0,.bool false,.lst (some true) 1 []] H (.ref b 0 0 0) (H.set b (.box [.bool false,.lst (some true) 1 []])))
  (b : Nat) (v : Int) (H : Heap) (hb : H[b]? = some (.box (zFB v))) (hv : zCf v) : EFun C GT zAr [.ref b 0 0 0,.ref b 0 0 0] H (.ref b 0 0 0) (H.set b (.box (zMl v.natAbs))):=by
 have hbl : b < H.length:=(zg hb).1
 have e2 : (4294967296 : Nat) ^ 2 = 18446744073709551616:=by decide
 have la : (wds v.natAbs).length ≤ 2:=zHg (by rw [e2]; unfold zCf at hv; omega)
 have hb2 : H[b]? = some (.box [.bool (decide (v < 0)),zBs v.natAbs]):=hb
 unfold zMl
 refine zS ?_
 by_cases h0 : v.natAbs = 0
 ·rw [if_pos h0]
  rw [h0] at hb2
  have ht:=hT0 H
  have hg:=hG0 b _ _ H hb2
  clear hT hT0 hG hG0
  refine zA (zBs 0) hb2 rfl <| zK ht <| zEl hg (fun h=>by cases h) ?_
  exact zHe rfl rfl rfl rfl (decide_eq_true hbl) rfl
 ·rw [if_neg h0]
  have ht:=hT (zBs v.natAbs) v.natAbs H (zCV _) h0 tO
  have hg:=hG b v.natAbs false _ _ H hb2
  clear hT hT0 hG hG0
  refine zA (zBs v.natAbs) hb2 rfl <| zK ht <| zEl hg (fun h=>by cases h) ?_
  exact zHe rfl rfl rfl rfl (decide_eq_true hbl) rfl
theorem zMn (b : Nat) (v : Int) (H : Heap) (hb : H[b]? = some (.box (zFB v))) : EFun C GT zAk [.ref b 0 0 0] H (zEK (zLZ v)) H:=by
 have hb2 : H[b]? = some (.box [.bool (decide (v < 0)),zBs v.natAbs]):=hb
 clear hb
 unfold zLZ
 refine zS ?_
 by_cases h0 : v = 0
 ·subst h0
  refine zA (zBs 0) hb2 rfl <| zF6 0 (zCV 0) rfl <| zE ?_
  exact sRr
 ·rw [if_neg h0]
  have hz : (wds v.natAbs).length ≠ 0:=by rw [zBL tO]; simp
  have hq : ((((wds v.natAbs).length : Nat) : Int) == 0) = false:=tN
  by_cases hn : v < 0
  ·rw [if_pos hn]
   rw [decide_eq_true hn] at hb2
   refine zA (zBs v.natAbs) hb2 rfl <| zF6 (wds v.natAbs).length (zCV _) (by simp) <| zU hq <| zA (.bool true) hb2 rfl <| zE ?_
   exact sRr
  ·rw [if_neg hn]
   rw [decide_eq_false hn] at hb2
   refine zA (zBs v.natAbs) hb2 rfl <| zF6 (wds v.natAbs).length (zCV _) (by simp) <| zU hq <| zA (.bool false) hb2 rfl <| zD ?_
   exact sRr
theorem zLh (b : Nat) (H : Heap) (hb : H[b]? = some (.box (zMl 0))) : EFun C GT zi [.ref b 0 0 0,zEK 10] H (.str (zBe 0)) H:=by
 have hb2 : H[b]? = some (.box [.bool false,.lst (some true) 1 []]):=hb
 clear hb
 refine zS ?_; refine za rfl <| zD <| zA (.lst (some true) 1 []) hb2 rfl <| zNL <| zE ?_
 exact sRr
theorem zI6 {b : Nat} {u : Bs1} (H : Heap) (h : C zW [.ref b 0 0 0,zEK 10] H (.str u) H) : EFun C GT zy [.ref b 0 0 0] H (.str u) H:=by
 refine zS ?_; refine zK h ?_
 exact sRr
theorem zMo (H : Heap) : EFun C GT zCA [] H (.lst (some false) 1 (wrF.map AV.str)) H:=by
 refine zS ?_; refine zF4 (vs':=[AV.str [],AV.str [35,68,73,86,33],AV.str [35,86,65,76,85,69,33],AV.str [35,82,69,70,33],AV.str [35,78,65,77,69,33],AV.str [35,78,85,77,33],AV.str [35,78,79,78,69,33]]) rfl rfl ?_
 exact zJ0 rfl rfl (zMm zB rfl (Nat.le_refl _)) rfl (((Old.refl H).push _).set (Nat.le_refl _) _)
theorem zLi (k : Nat) (h : 1 ≤ k ∧ k ≤ 6) : part [AV.str [],.str [35,68,73,86,33],.str [35,86,65,76,85,69,33],.str [35,82,69,70,33],.str [35,78,65,77,69,33],.str [35,78,85,77,33],.str [35,78,79,78,69,33]] (0 + (k : Int).toNat * 1) 1 false = some (.str (wrongs.getD (k - 1) [])):=by
 obtain ⟨h1,h2⟩:=h
 rw [Int.toNat_natCast,Nat.mul_one,Nat.zero_add]
 have : k = 1 ∨ k = 2 ∨ k = 3 ∨ k = 4 ∨ k = 5 ∨ k = 6:=by omega
 rcases this with rfl | rfl | rfl | rfl | rfl | rfl <;> rfl
set_option maxHeartbeats 4000000 in
theorem zLj (hG : GT zDT = some zKZ) (k n : Int) (t : Bs1) (h : isV k n t = true) (hk : k ≠ 1) (H : Heap) : EFun C GT zDx [zBW k n t] H (.str (zGE k n t)) H:=by
 refine zS ?_; refine zJy (x:=zBW k n t) rfl ?_
 unfold zGE
 rw [if_neg hk]
 rcases zG4 h with rfl | ⟨rfl,_⟩ | ⟨rfl,ht⟩ | ⟨rfl,hn⟩ | ⟨rfl,hn⟩
 ·refine zA (.int .i64 0) zB rfl <| zD <| zD <| zD <| zD ?_
  exact zAS rfl rfl rfl rfl ((Old.refl _).push _)
 ·exact absurd rfl hk
 ·refine zA (.int .i64 2) zB rfl <| zD <| zE <| zA (AV.str t) zB rfl ?_
  exact zAS rfl rfl rfl rfl ((Old.refl _).push _)
 ·rcases hn with rfl | rfl
  ·refine zA (.int .i64 3) zB rfl <| zD <| zD <| zE <| zA (.int .i64 0) zB rfl <| zD ?_
   exact zAS rfl rfl rfl rfl ((Old.refl _).push _)
  ·refine zA (.int .i64 3) zB rfl <| zD <| zD <| zE <| zA (.int .i64 1) zB rfl <| zE ?_
   exact zAS rfl rfl rfl rfl ((Old.refl _).push _)
 ·obtain ⟨m,rfl⟩ : ∃ m : Nat,n = m:=⟨n.toNat,by omega⟩
  rw [Int.toNat_natCast]
  refine zA (.int .i64 4) zB rfl <| zD <| zD <| zD <| zq tT <| zA (.int .i64 ↑m) zB rfl ?_; refine zq tT <| zA (.int .i64 ↑m) zB rfl <| zE <| zq tT <| zA (.int .i64 ↑m) zB rfl <| zAe (And.intro tO tO) ?_; refine sOffG hG <| zGq (.str (wrongs.getD (m - 1) [])) (zLi m tO) ?_
  exact zAS rfl rfl rfl rfl ((Old.refl _).push _)
set_option maxHeartbeats 4000000 in
theorem zLk (hD : ∀ v H,zCf v → C zAa [zEK v] H (.str (zHB v)) H) (hR : ∀ H,C zAb [] H (.lst (some false) 1 (wrF.map AV.str)) H) (k n : Int) (t : Bs1) (h : isV k n t = true) (hn : zCf n) (H : Heap) : EFun C GT zCr [zBW k n t] H (.str (zGE k n t)) H:=by
 have hd:=fun H=>hD n H hn
 clear hD
 refine zS ?_; refine zJy (x:=zBW k n t) rfl ?_
 unfold zGE
 rcases zG4 h with rfl | ⟨rfl,_⟩ | ⟨rfl,ht⟩ | ⟨rfl,hn⟩ | ⟨rfl,hn⟩
 ·refine zA (.int .i64 0) zB rfl <| zD <| zD <| zD <| zD ?_
  exact zAS rfl rfl rfl rfl ((Old.refl _).push _)
 ·refine zA (.int .i64 1) zB rfl <| zE <| zA (.int .i64 n) zB rfl <| zK (hd _) ?_
  exact zAS rfl rfl rfl rfl ((Old.refl _).push _)
 ·refine zA (.int .i64 2) zB rfl <| zD <| zE <| zA (AV.str t) zB rfl ?_
  exact zAS rfl rfl rfl rfl ((Old.refl _).push _)
 ·rcases hn with rfl | rfl
  ·refine zA (.int .i64 3) zB rfl <| zD <| zD <| zE <| zA (.int .i64 0) zB rfl <| zD ?_
   exact zAS rfl rfl rfl rfl ((Old.refl _).push _)
  ·refine zA (.int .i64 3) zB rfl <| zD <| zD <| zE <| zA (.int .i64 1) zB rfl <| zE ?_
   exact zAS rfl rfl rfl rfl ((Old.refl _).push _)
 ·obtain ⟨m,rfl⟩ : ∃ m : Nat,n = m:=⟨n.toNat,by omega⟩
  rw [Int.toNat_natCast]
  have hx : (wrF.map AV.str)[m]? = some (.str (wrongs.getD (m - 1) [])):=by
   have : m = 1 ∨ m = 2 ∨ m = 3 ∨ m = 4 ∨ m = 5 ∨ m = 6:=by omega
   rcases this with rfl | rfl | rfl | rfl | rfl | rfl <;> rfl
  refine zA (.int .i64 4) zB rfl <| zD <| zD <| zD <| zE <| zK (hR _) ?_; refine zA (.int .i64 ↑m) zB rfl <| sIdx (i:=m) rfl hx <| zGq (.str (wrongs.getD (m - 1) [])) rfl ?_
  exact zAS rfl rfl rfl rfl ((Old.refl _).push _)
end
end Go.AM
