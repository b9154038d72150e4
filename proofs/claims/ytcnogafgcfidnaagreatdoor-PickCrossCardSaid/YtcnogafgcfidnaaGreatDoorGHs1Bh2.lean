/- Several texts of mine in one (Hs1, Am35, Bh0, Bh1, Bh2). Own work. -/
import Derived.Test.YtcnogafgcfidnaaGreatDoorHsf
import Derived.Test.YtcnogafgcfidnaaGreatDoorGCmpTwo
import Derived.Test.YtcnogafgcfidnaaGreatDoorGAm22Am30
import Derived.Test.YtcnogafgcfidnaaGreatDoorGHgcAm33
import Derived.Test.YtcnogafgcfidnaaGreatDoorGPkdHd5
import Derived.Test.YtcnogafgcfidnaaGreatDoorGRtwErr
set_option linter.all false
set_option maxRecDepth 100000
namespace Go.Proofs.YtcnogafgcfidnaaGreatDoor
open Go.AM Go.Shelf Go.RowKit Go.Lib Go.Sort Go.Proofs
set_option maxHeartbeats 2000000 in
theorem zQH (fv : Value) (w : World) : Calls Tryz.prog 50 #[.slice none 0 0,.int .i64 0,.int .i64 0,fv] w fun e w'=>e = .returned (.tuple #[]) ∧ w' = w:=by
  go_enter Tryz.func50,Tryz.ntmps50
  go_wp2
  refine _root_.Go.wp_loop_rounds 1 ?_
  rw [rounds_succ]
  go_wp2
  go_end0
  exact ⟨rfl,rfl⟩
set_option maxHeartbeats 2000000 in
theorem zQI (lim : Int) (fv : Value) (w : World) : Calls Tryz.prog 31 #[.slice none 0 0,.int .i64 0,.int .i64 0,.int .i64 lim,fv] w fun e w'=>e = .returned (.tuple #[]) ∧ w' = w:=by
  have hi:=fun W=>zQH fv W
  go_enter Tryz.func31,Tryz.ntmps31
  go_wp2
  refine _root_.Go.wp_loop_rounds 1 ?_
  rw [rounds_succ]
  go_wp2_with (go_at_call 50; refine (hi _).mono ?_; rintro e w' ⟨rfl,rfl⟩)
  (try simp only [Exit.inBlock,Exit.then]); refine bodyPost_ret (results_none rfl _ _ _) rfl ?_
  exact ⟨rfl,rfl⟩
set_option maxHeartbeats 2000000 in
theorem zPC (fv : Value) (w : World) : Calls Tryz.prog 22 #[.slice none 0 0,fv] w fun e w'=>e = .returned (.tuple #[]) ∧ w' = w:=by
  have hp:=fun lim W=>zQI lim fv W
  have hl : ∀ W,Calls Tryz.prog 32 #[.int .u64 0] W fun e w'=>e = .returned (.int .i64 (Lib.bitLen 0 : Nat)) ∧ w' = W:=fun W=>by
    have h:=Any.bits_Len (SlLaysF0.n15.bits (P:=Tryz.prog) (ρ:=Tryz.ownSort_ren) { Tryz.ownSort with }) 0 W tO tO
    exact h
  go_enter Tryz.func22,Tryz.ntmps22
  go_wp2_with (first | (go_at_call 32; refine (hl _).mono ?_; rintro e w' ⟨rfl,rfl⟩) | (go_at_call 31; refine (hp _ _).mono ?_; rintro e w' ⟨rfl,rfl⟩))
  go_end0
  exact ⟨rfl,rfl⟩
theorem zMN {GT : Nat → Option AV} (H : Heap) : Go.AM.Good Tryz.prog GT 22 [.lst (some true) 0 [],.fn 23 [] []] H (.tup []) H:=by
  refine zD5 Tryz.func22 (by kernel_rfl) (by kernel_rfl) rfl fun w M I cargs hS hA=>?_
  obtain ⟨v1,v2,rfl,r1,r2⟩:=zIk hA
  obtain rfl : v1 = .slice none 0 0:=by
    cases r1 with
    | lnil=>rfl
    | lemp _ _ _ hq=>exact absurd rfl hq
    | lst _ _ _ _ _ _ _ hq=>exact absurd rfl hq
  refine Calls.mono (zPC v2 w) ?_
  rintro e' w' ⟨rfl,rfl⟩
  exact ⟨_,rfl,M,I,Go.AM.Grow.refl _ _ _ _,hS,.tup [] [] rfl fun i c v h _=>by simp at h⟩
section
variable {C : CSpec} {GT : Nat → Option AV}
theorem zKX (H : Heap) : EFun C GT zW [.lst (some true) 0 []] H (.lst (some true) 0 []) H:=by
  refine zR ?_
  refine zu 0 (⟨_,_,rfl,.inr rfl⟩ : zAv (.lst (some true) 0 []) 3 []) rfl ?_
  refine zGz tT ?_
  exact sRr
end
end Go.Proofs.YtcnogafgcfidnaaGreatDoor
namespace Go.AM
theorem zPe {b k o s : Nat} {ag : Bool} {H : Heap} {cs : List AV} {r : AV} {K : AV → Prop} (h : H[b]? = some (.box cs)) (hr : part cs o s ag = some r) (q : K r) : loadN s ag (.ref b k 0 o) H K:=zD r h hr q
def zIo (H : Heap) (b : Nat) (H1 : Heap) : Prop:=∃ B,OldB H b B H1
theorem zIo.start {H : Heap} {b : Nat} {B : ABlk} (h : H[b]? = some B) : zIo H b H:=⟨B,OldB.start h⟩
theorem zIo.of {H : Heap} {b : Nat} {B : ABlk} {H1 : Heap} (h : OldB H b B H1) : zIo H b H1:=⟨B,h⟩
theorem zIo.push {H H1 : Heap} {b : Nat} (h : zIo H b H1) (x : List ABlk) : zIo H b (H1 ++ x):=⟨h.choose,h.choose_spec.push x⟩
theorem zIo.set {H H1 : Heap} {b : Nat} (h : zIo H b H1) {c : Nat} (hc : H.length ≤ c) (x : ABlk) : zIo H b (H1.set c x):=⟨h.choose,h.choose_spec.set hc x⟩
theorem zIo.setB {H H1 : Heap} {b : Nat} (h : zIo H b H1) (x : ABlk) : zIo H b (H1.set b x):=⟨x,h.choose_spec.setB x⟩
theorem OldB.setZ {H H1 : Heap} {b : Nat} {B : ABlk} (h : zIo H b H1) : OldB H b B (H1.set b B):=h.choose_spec.setB B
theorem hO {P : Prop} (h : P:=by (repeat' (first | assumption | exact Old.refl _ | exact OldB.start hP | exact zIo.start hP | exact zIo.of (by assumption) | refine Old.push ?_ _ | refine OldB.push ?_ _ | refine zIo.push ?_ _ | refine OldB.setZ ?_ | refine zIo.setB ?_ _ | refine Old.set ?_ tA _ | refine OldB.set ?_ tA _ | refine zIo.set ?_ tA _)); done) : P:=h
structure HidQ (Q : Prop) : Prop where
  go : Q
def StG (v : AV) (cs' : List AV) (P : Prop) : Prop:=P
theorem stG {b k s o : Nat} {v : AV} {cs cs' : List AV} {H : Heap} {K : AV → Heap → Prop} (h : H[b]? = some (.box cs)) (hl : v.cells.length = s) (h1 : v.cells.all AV.one = true) (ho : Nat.ble (o + s) cs.length = true) (he : splice cs o v.cells = cs')
    (q : K .undef (H.set b (.box cs'))) : StG v cs' (actP (.store s) [.ref b k 0 o,v] H K):=zS (v:=v) cs' h hl h1 ho he q
theorem sS {P Q : Prop} (v : AV) (cs' : List AV) (q : Q) (h : HidQ Q → StG v cs' P:=by
  intro q
  apply stG
  · exact hP
  · rfl
  · rfl
  · rfl
  · rfl
  exact q.go) : P:=h ⟨q⟩
theorem sW {P Q : Prop} (q : Q) (h : HidQ Q → P:=by
  intro q
  repeat (first
    | (apply zPe
       · exact hP
       · rfl)
    | refine zM ?_
    | refine zK ?_
    | refine zA9 rfl ?_
    | refine zh _ rfl ?_
    | refine zGz tT ?_
    | refine zGg tF ?_
    | refine zGz tE ?_
    | refine zGg tN ?_
    | refine zGz (by assumption) ?_
    | refine zGg (by assumption) ?_
    | (apply sChr
       · rfl
       · assumption)
    | (apply zI
       · first | assumption | (apply_assumption -exfalso -symm <;> exact hP))
    | (apply zIM
       · first | assumption | (apply_assumption -exfalso -symm <;> exact hP)
       · intro h; cases h)
    | fail)
  exact q.go) : P:=h ⟨q⟩
theorem sX {P Q : Prop} (q : Q) (h : HidQ Q → P:=by
  intro q
  repeat (first
    | (apply zPe
       · exact hP
       · rfl)
    | refine zM ?_
    | refine zK ?_
    | refine zA9 rfl ?_
    | refine zh _ rfl ?_
    | refine zGz tT ?_
    | refine zGg tF ?_
    | refine zGz tE ?_
    | refine zGg tN ?_
    | refine zGz (by assumption) ?_
    | refine zGg (by assumption) ?_
    | (apply sChr
       · rfl
       · assumption)
    | (apply zu
       · assumption
       · assumption)
    | (apply zAK
       · assumption
       · rfl
       · assumption)
    | (apply zAB
       · assumption
       · rfl)
    | refine zA9 (by assumption) ?_
    | (apply zK5
       · rfl)
    | (apply zI
       · first | assumption | (apply_assumption -exfalso -symm <;> exact hP))
    | (apply zIM
       · first | assumption | (apply_assumption -exfalso -symm <;> exact hP)
       · intro h; cases h)
    | fail)
  exact q.go) : P:=h ⟨q⟩
theorem sRv {P : Prop} (h : P:=by exact z2 rfl rfl rfl rfl hO) : P:=h
end Go.AM
set_option maxRecDepth 20000
namespace Go.AM
section
variable {C : CSpec} {GT : Nat → Option AV}
theorem zNt {F : AF} {H H1 : Heap} {fr : Fr} {v : AV} {b : Nat} {cs : List AV} (hH : H1 = H.set b (.box cs)) (hk : F.keep = false) (hr : (zAr fr H1 F.results).map tupled = some v) (hf : zCl H.length v H1 = some (v,H1)) (hb : v.bel H.length = true) (hc : zKk H.length (.box cs) = true) :
    retP F H fr H1 v (H.set b (.box cs)):=by
  refine zQt ?_
  unfold zJx
  cases hs : zAr fr H1 F.results with
  | none=>rw [hs] at hr; cases hr
  | some vs=>
    rw [hs] at hr
    simp only [Option.map_some,Option.some.injEq] at hr
    subst hr
    simp only [hk,hf,Bool.false_eq_true,if_false]
    subst hH
    refine ⟨hb,fun c hc'=>?_,trivial, ?_⟩
    · by_cases e : b = c
      · subst e
        exact .inr ⟨_,List.getElem?_set_self hc',hc⟩
      · exact .inl (List.getElem?_set_ne e)
    · rw [List.take_of_length_le (by rw [List.length_set]; omega)]
theorem sRetK {F : AF} {H H1 : Heap} {fr : Fr} {v : AV} (hk : F.keep = true) (hr : (zAr fr H1 F.results).map tupled = some v) : retP F H fr H1 v H1:=by
  refine zQt ?_
  unfold zJx
  cases hs : zAr fr H1 F.results with
  | none=>rw [hs] at hr; cases hr
  | some vs=>
    rw [hs] at hr
    simp only [Option.map_some,Option.some.injEq] at hr
    subst hr
    simp only [hk,if_true]
    exact ⟨trivial,trivial⟩
end
end Go.AM
set_option maxRecDepth 20000
namespace Go.AM
section
variable {C : CSpec} {GT : Nat → Option AV}
def zA8 (w : Nat) : AV:=.int .u32 w
def zJz (w : Nat) : AV:=.int .u64 w
def zDk (n : Nat) : AV:=.lst (some false) 1 ((wds n).map zA8)
def Mag (v : AV) (n : Nat) : Prop:=zAv v 1 ((wds n).map zA8)
theorem zFN (n : Nat) : Mag (zDk n) n:=⟨_,_,rfl,.inl rfl⟩
theorem Mag.nil (k : Nat) : Mag (.lst (some true) k []) 0:=⟨_,_,rfl,.inr rfl⟩
theorem zFj {n i : Nat} (h : i < (wds n).length) : ((wds n).map zA8)[i]? = some (zA8 (wds n)[i]):=by rw [List.getElem?_map,List.getElem?_eq_getElem h]; rfl
theorem zNu {b m n : Nat} (h : n ≤ m) : zAN (some 1) (.sl (some false) b 1 0 m) none (some (.int .i64 (n : Int))) = some (.sl (some false) b 1 0 n):=by
  have e : zAe m none (some (.int .i64 (n : Int))) = some (0,n):=by
    simp only [zAe,aHi,aLo]
    rw [if_pos ⟨by omega,by omega⟩]
    simp
  simp only [zAN,if_true,e,Option.map_some,Nat.zero_add,Nat.sub_zero]
  rfl
theorem zKY {H0 H : Heap} {b n : Nat} {ws : List Nat} (hbl : H0.length ≤ b) (hb : H[b]? = some (.row 1 (ws.map zA8))) (hw : Small ws) (hn : wval ws = n) :
    zCl H0.length (.sl (some false) b 1 0 (wds n).length) H = some (zDk n,H.set b (.frz 1 (ws.map zA8))):=by
  subst hn
  have h:=zO4 hw
  simp only [zCl,hb]
  rw [if_neg tO,if_pos ⟨trivial,by rw [List.length_map]; omega⟩]
  simp only [List.drop_zero,← List.map_take,h.2]
  rfl
theorem zQJ (s : Nat) : zAj .shr .u64 (s : Int) 32 = some (.int .u64 ((s / 4294967296 : Nat) : Int)):=by
  simp only [zAj]
  rw [if_neg tO]
  have : (2 : Int) ^ Nat.min (32 : Int).toNat IntKind.u64.bits = 4294967296:=by rfl
  rw [this,Int.fdiv_eq_ediv_of_nonneg _ tO]
  rfl
theorem zKZ {x : Int} {K : Int → Prop} (r : Nat) (h : x % 4294967296 = r) (k : K (r : Int)) : valP (IntKind.wrap .u32 x) K:=zM4 (by rw [IntKind.wrap_u32]; omega) k
theorem zRA {x : Int} {K : Int → Prop} (r : Nat) (h : x % 18446744073709551616 = r) (k : K (r : Int)) : valP (IntKind.wrap .u64 x) K:=zM4 (by rw [IntKind.wrap_u64]; omega) k
theorem zKa (ds : List Nat) (m d : Nat) : ((ds ++ List.replicate (m + 1) 0).map zA8).set ds.length (zA8 d) = ((ds ++ [d]) ++ List.replicate m 0).map zA8:=by
  rw [List.replicate_succ,← List.map_set,List.set_append_right _ _ (Nat.le_refl _),Nat.sub_self]
  simp
theorem zKb (ds : List Nat) (m : Nat) : ((ds ++ List.replicate (m + 1) 0).map zA8)[ds.length]? = some (zA8 0):=by
  rw [List.getElem?_map,List.getElem?_append_right (Nat.le_refl _),Nat.sub_self,List.replicate_succ]; rfl
theorem Small.snoc {ds : List Nat} {d : Nat} (h : Small ds) (hd : d < 4294967296) : Small (ds ++ [d]):=by
  intro w hw
  rcases List.mem_append.1 hw with hw | hw
  · exact h w hw
  · rw [List.mem_singleton.1 hw]; exact hd
theorem zQK (b m : Nat) (ws : List Nat) (H : Heap) (hm : ws.length = m) (hb : H[b]? = some (.row 1 (ws.map zA8))) (hw : Small ws) (hl : m ≤ 1000000) :
    EFun C GT zB3 [.sl (some false) b 1 0 m] H (.sl (some false) b 1 0 (wds (wval ws)).length) H:=by
  have hbl : b < H.length:=(zg hb).1
  subst hm
  have fin : ∀ n : Nat,n ≤ ws.length → (wds (wval ws)).length = n → (.sl (some false) b 1 0 (wds (wval ws)).length : AV) = .sl (some false) b 1 0 n:=fun n _ h=>by rw [h]
  refine zR ?_
  refine zCD ?_
  refine zAV (fun n : Nat=>[(3,zBf n),(0,.sl (some false) b 1 0 ws.length)]) (fun n H'=>H' = H ∧ n ≤ ws.length ∧ wval (ws.take n) = wval ws) (fun n=>n) ws.length rfl ⟨rfl,Nat.le_refl _,by rw [List.take_length]⟩ (fun n H1 ⟨e,hn,hv⟩=>?_)
  subst e
  dsimp only
  have hsm : Small (ws.take n):=fun w h=>hw w (List.mem_of_mem_take h)
  refine zH (fun h=>?_) (fun h=>?_)
  · have h : 0 < n:=by have:=of_decide_eq_true h; omega
    have hi : n - 1 < ws.length:=by omega
    have hx : (ws.map zA8)[n - 1]? = some (zA8 ws[n - 1]):=by rw [List.getElem?_map,List.getElem?_eq_getElem hi]; rfl
    have ht : ws.take n = ws.take (n - 1) ++ [ws[n - 1]]:=by
      have:=List.take_succ_eq_append_getElem hi
      rwa [Nat.sub_add_cancel h] at this
    refine zY (r:=n - 1) tO tO <| sAt ⟨by omega,by omega⟩ <| zAA (n - 1) (zA8 ws[n - 1]) (zA8 ws[n - 1]) tO hb hx rfl <| zM ?_
    refine zH (fun h0=>?_) (fun h0=>?_)
    · have h0 : ws[n - 1] = 0:=by have:=eq_of_beq h0; omega
      refine zY (r:=n - 1) tO tO ?_
      refine zw (n - 1) rfl ⟨rfl,by omega, ?_⟩ tO
      rw [← hv,ht,zB6,h0]; simp
    · have h0 : ws[n - 1] ≠ 0:=fun e=>by rw [e] at h0; exact absurd h0 (by simp)
      have hd : wds (wval ws) = ws.take n:=by
        rw [← hv]
        refine zQC hsm fun w hw=>?_
        rw [ht,List.getLast?_concat] at hw
        cases hw
        exact h0
      have e:=fin n hn (by rw [hd,List.length_take]; omega)
      refine zA9 (zNu hn) ?_
      exact zPy e rfl rfl (by simp only [zCl]; rw [if_pos hbl]) (by simp only [AV.bel]; exact decide_eq_true hbl) (Old.refl _)
  · have h : n = 0:=by have:=of_decide_eq_false h; omega
    subst h
    have e:=fin 0 hn (by rw [← hv]; rfl)
    refine zK <| zK <| zA9 (zNu hn) ?_
    exact zPy e rfl rfl (by simp only [zCl]; rw [if_pos hbl]) (by simp only [AV.bel]; exact decide_eq_true hbl) (Old.refl _)
theorem zPD (hT : ∀ b m ws H,ws.length = m → H[b]? = some (.row 1 (ws.map zA8)) → Small ws → m ≤ 1000000 → C za [.sl (some false) b 1 0 m] H (.sl (some false) b 1 0 (wds (wval ws)).length) H)
    (x : Nat) (hx : x < 18446744073709551616) (H : Heap) : EFun C GT zBg [zJz x] H (zDk x) H:=by
  have hb : (H ++ [ABlk.row 1 [zA8 (x % 4294967296),zA8 (x / 4294967296)]])[H.length]? = some (.row 1 (([x % 4294967296,x / 4294967296] : List Nat).map zA8)):=zA
  have hw : Small [x % 4294967296,x / 4294967296]:=by
    intro w hw
    simp at hw
    omega
  have hv : wval [x % 4294967296,x / 4294967296] = x:=by simp only [wval]; omega
  have ht:=hT H.length 2 [x % 4294967296,x / 4294967296] _ rfl hb hw tO
  rw [hv] at ht
  refine zR ?_
  refine zKZ (x % 4294967296) tO <| zA9 (zQJ x) <| zKZ (x / 4294967296) tO <| zAu (vs':=[zA8 (x % 4294967296),zA8 (x / 4294967296)]) rfl rfl <| zI (ht) ?_
  exact zKM rfl rfl (zKY (Nat.le_refl _) hb hw hv) rfl (((Old.refl H).push _).set (Nat.le_refl _) _)
end
end Go.AM
set_option maxRecDepth 20000
namespace Go.AM
theorem shl32 (a : Nat) (h : a < 4294967296) : zAj .shl .u64 (a : Int) 32 = some (.int .u64 ((a * 4294967296 : Nat) : Int)):=by
  simp only [zAj]
  rw [if_neg tO]
  have : (2 : Int) ^ Nat.min (32 : Int).toNat IntKind.u64.bits = 4294967296:=by rfl
  rw [this,IntKind.wrap_u64]
  have : ((a : Int) * 4294967296) % 18446744073709551616 = ((a * 4294967296 : Nat) : Int):=by omega
  rw [this]
theorem or32 (a b : Nat) (ha : a < 4294967296) (hb : b < 4294967296) : zDq .or .u64 (a : Int) ((b * 4294967296 : Nat) : Int) = some (.int .u64 ((a + 4294967296 * b : Nat) : Int)):=by
  simp only [zDq]
  have of (x : Nat) (hx : x < 18446744073709551616) : (BitVec.ofInt IntKind.u64.bits (x : Int)).toNat = x:=by
    show (BitVec.ofInt 64 (x : Int)).toNat = x
    rw [BitVec.toNat_ofInt]
    have : ((x : Int) % ((2 ^ 64 : Nat) : Int)) = (x : Int):=by rw [Int.emod_eq_of_lt tO (by simp; omega)]
    rw [this,Int.toNat_natCast]
  have e : (BitVec.ofInt IntKind.u64.bits (a : Int) ||| BitVec.ofInt IntKind.u64.bits ((b * 4294967296 : Nat) : Int)).toNat = a + 4294967296 * b:=by
    rw [BitVec.toNat_or,of a tO,of _ tO,Nat.or_comm,Nat.mul_comm b]
    have:=Nat.two_pow_add_eq_or_of_lt (i:=32) (b:=a) (by simpa using ha) b
    have e32 : (2 : Nat) ^ 32 = 4294967296:=by decide
    rw [e32] at this
    rw [← this]; omega
  rw [e,IntKind.wrap_u64]
  have : ((a + 4294967296 * b : Nat) : Int) % 18446744073709551616 = ((a + 4294967296 * b : Nat) : Int):=by omega
  rw [this]
section
variable {C : CSpec} {GT : Nat → Option AV}
def zE3 (v : Int) : List AV:=[.bool (decide (v < 0)),zDk v.natAbs]
theorem zQL (b n : Nat) (neg : Bool) (x0 x1 : AV) (H : Heap) (hb : H[b]? = some (.box [x0,x1])) : EFun C GT zA7 [.ref b 0 0 0,.bool neg,zDk n] H (.ref b 0 0 0) (H.set b (.box [.bool (neg && decide (0 < n)),zDk n])):=by
  have hbl : b < H.length:=(zg hb).1
  have hz : ((wds n).length > 0) ↔ 0 < n:=by
    by_cases e : n = 0
    · subst e; simp [zBW]
    · rw [zBP e]; simp; omega
  have hd : decide (((wds n).length : Int) > 0) = decide (0 < n):=by
    rw [Bool.eq_iff_iff,decide_eq_true_iff,decide_eq_true_iff,← hz]; omega
  refine zR ?_
  cases neg
  · refine sS (zDk n) [x0,zDk n] ?_
    refine sX ?_
    refine sS (AV.bool false) [AV.bool false,zDk n] ?_
    exact zNt (by rw [List.set_set]; rfl) rfl rfl rfl (decide_eq_true hbl) rfl
  · refine sS (zDk n) [x0,zDk n] ?_
    refine sX ?_
    refine zu (wds n).length (zFN n) (by simp) <| sX ?_
    refine sS (.bool (decide (((wds n).length : Int) > 0))) [.bool (decide (((wds n).length : Int) > 0)),zDk n] ?_
    exact zNt (by rw [List.set_set,hd]; rfl) rfl rfl rfl (decide_eq_true hbl) rfl
theorem zKc (hW : ∀ x H,x < 18446744073709551616 → C zAJ [zJz x] H (zDk x) H) (hG : ∀ b n neg x0 x1 H,H[b]? = some (.box [x0,x1]) → C zV [.ref b 0 0 0,.bool neg,zDk n] H (.ref b 0 0 0) (H.set b (.box [.bool (neg && decide (0 < n)),zDk n])))
    (b : Nat) (v : Int) (x0 x1 : AV) (H : Heap) (hb : H[b]? = some (.box [x0,x1])) (hv : zAU v) : EFun C GT zAd [.ref b 0 0 0,zJ v] H (.ref b 0 0 0) (H.set b (.box (zE3 v))):=by
  have hbl : b < H.length:=(zg hb).1
  unfold zAU at hv
  have hw:=hW v.natAbs H tO
  have hg:=hG b v.natAbs (decide (v < 0)) x0 x1 H hb
  have e0 : (decide (v < 0) && decide (0 < v.natAbs)) = decide (v < 0):=by
    by_cases h : v < 0
    · rw [decide_eq_true h,tT (by omega : 0 < v.natAbs)]; rfl
    · rw [decide_eq_false h]; rfl
  rw [e0] at hg
  refine zR ?_
  by_cases hn : v < 0
  · have e : aUn .neg (.int .u64 (18446744073709551616 + v)) = some (zJz v.natAbs):=by
      simp only [aUn]
      rw [IntKind.wrap_u64]
      have : (0 - (18446744073709551616 + v)) % 18446744073709551616 = (v.natAbs : Int):=by omega
      rw [this]; rfl
    refine zM4 (r:=18446744073709551616 + v) (by rw [IntKind.wrap_u64]; omega) ?_
    refine zH (fun _=>?_) (fun h=>absurd hn (of_decide_eq_false h))
    refine zA9 e <| zI (hw) <| zIM hg (fun h=>by cases h) ?_
    exact zNt rfl rfl rfl rfl (decide_eq_true hbl) rfl
  · refine zM4 (r:=(v.natAbs : Int)) (by rw [IntKind.wrap_u64]; omega) ?_
    refine zH (fun h=>absurd (of_decide_eq_true h) hn) (fun _=>?_)
    refine sX ?_
    exact zNt rfl rfl rfl rfl (decide_eq_true hbl) rfl
def zLL : AF:={ zDV with keep:=true }
theorem zNv (hS : ∀ b v x0 x1 H,H[b]? = some (.box [x0,x1]) → zAU v → C zc [.ref b 0 0 0,zJ v] H (.ref b 0 0 0) (H.set b (.box (zE3 v)))) (v : Int) (H : Heap) (hv : zAU v) :
    EFun C GT zLL [zJ v] H (.ref H.length 0 0 0) (H ++ [.box (zE3 v)]):=by
  have hs:=hS H.length v (.bool false) (.lst (some true) 0 []) (H ++ [.box [.bool false,.lst (some true) 0 []]]) zA hv
  have e : (H ++ [ABlk.box [.bool false,.lst (some true) 0 []]]).set H.length (.box (zE3 v)) = H ++ [.box (zE3 v)]:=by
    rw [List.set_append_right _ _ (Nat.le_refl _),Nat.sub_self]; rfl
  rw [e] at hs
  refine zR <| sX ?_
  exact sRetK rfl rfl
theorem zKd {n k : Nat} (h : n < 4294967296 ^ k) : (wds n).length ≤ k:=by
  rcases Nat.lt_or_ge k (wds n).length with h2 | h2
  · have hn : n ≠ 0:=fun e=>by subst e; simp [zBW] at h2
    have h3:=zPc n hn
    have h4 : 4294967296 ^ k ≤ 4294967296 ^ ((wds n).length - 1):=Nat.pow_le_pow_right tO tO
    omega
  · exact h2
end
end Go.AM
