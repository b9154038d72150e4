/- errors.As at *api.Errno, plain.Told and sccsame.Error as contracts; what the package-level variables hold. Own work. -/
import Derived.Test.YtcnogafgcfidnaaGreatDoorAsQ
import Derived.Test.YtcnogafgcfidnaaGreatDoorGHgcAm33
import Derived.Test.YtcnogafgcfidnaaGreatDoorGRtwErr
import Derived.Lib.LaidTab
import Derived.Lib.ItoaNum
import Derived.Test.YtcnogafgcfidnaaGreatDoorKk
set_option linter.all false
namespace Go.AM
open Go.RowKit Go.Proofs
def zCM : Value:=.iface 99 (.agg #[.pointer (some ⟨10,28,none⟩)])
def powV : AV:=.agg (Lib.pow10Tab.map fun z=>.int .u64 z)
def gtQ (m : Int) (_ : Value) : Nat → Option AV
 | 0=>some (.raw zCM)
 | 4=>some powV
 | 7=>some (.int .i64 m)
 | _=>none
set_option maxRecDepth 100000 in
theorem zQS {m : Int} {ev : Value} (n old : Int) (b : Nat) (H : Heap) (hb : H[b]? = some (.box [.int .i64 old])) : Good Tryz.prog (gtQ m ev) zEF [.iface zAR (.int .i64 n),.iface zDM (.ref b 0 0 0)] H (.bool true) (H.set b (.box [.int .i64 n])):=by
 intro w M I cargs hS hA
 obtain ⟨v,u,rfl,hv,hu⟩:=zIk hA
 cases hv with
 | iface _ _ v' hv'=>
 obtain rfl:=zLJ hv'
 cases hu with
 | iface _ _ u' hu'=>
 cases hu' with
 | ref _ _ _ _ g o hbn hM=>
 have h0:=hS.glob 0 (.raw zCM) rfl
 have hg : w.cell? ⟨0,0,none⟩ = some zCM:=by
  cases h0 with
  | lref _ _ _ _ V hI hx hvv hr=>
   have h1:=hvv 0 (.raw zCM) rfl
   have h2:=hr 0 (.raw zCM) rfl
   rw [h1,zPA h2]
 obtain ⟨g',o',cur,h1,hC,h3,h4,h5⟩:=hS.blk b _ hb
 rw [hM] at h1
 simp only [Option.some.injEq,Prod.mk.injEq] at h1
 obtain ⟨rfl,rfl⟩:=h1
 obtain ⟨u0,e1,e2⟩:=h5 0 _ rfl
 obtain rfl:=zLJ e2
 rw [Nat.add_zero] at e1
 have ht0 : w.cell? ⟨g,o,none⟩ = some (.int .i64 old):=by rw [hC.cell?]; exact e1
 have hf0 : w.frozen? ⟨g,o,none⟩ = false:=by
  obtain ⟨e,fz,hg',hfz⟩:=hC
  have hlt:=(Array.getElem?_eq_some_iff.1 e1).1
  have:=hfz o hlt
  simp only [World.frozen?,hg',Bool.and_eq_false_iff,decide_eq_false_iff_not]
  by_cases h : fz.1 ≤ o
  ·exact .inr fun h'=>this ⟨h,h'⟩
  ·exact .inl h
 rw [zNq Tryz.func26 (by kernel_rfl) (by kernel_rfl)]
 refine (Go.Proofs.YtcnogafgcfidnaaGreatDoor.As.as_hit n ⟨g,o,none⟩ (.int .i64 old) w hg ht0 hf0).mono ?_
 rintro e w' ⟨rfl,rfl⟩
 refine ⟨_,rfl,M,I, ?_⟩
 obtain ⟨G1,S1⟩:=zIl hS (((((Below.refl w.heap.size w).alloc (Nat.le_refl _) (.cells #[.pointer (some ⟨g,o,none⟩)] 54)).alloc (by simp <;> omega) (.cells #[.pointer (some ⟨10,54,none⟩),.pointer (some ⟨w.heap.size,0,none⟩),.int .u64 150] 67)).alloc (by simp <;> omega) (.cells #[.pointer (some ⟨10,54,none⟩),.pointer (some ⟨w.heap.size,0,none⟩),.int .u64 150] 67)).alloc (by simp <;> omega) (.cells #[.int .i64 n] 44))
 obtain ⟨G2,S2⟩:=zKV S1 hb hM (x:=.int .i64 n) (v:=.int .i64 n) (fun _=>.int _ _)
 exact ⟨G1.trans G2,S2,.bool true⟩
section
variable {C : CSpec} {GT : Nat → Option AV}
theorem zKh (H : Heap) : EFun C GT zDT [.nili] H (.int .i64 0) H:=by
 refine zA9 rfl ?_; refine zM ?_
 exact sRr
theorem zKi (hA : ∀ (n old : Int) (b : Nat) (H : Heap),H[b]? = some (.box [.int .i64 old]) → C zEF [.iface zAR (.int .i64 n),.iface zDM (.ref b 0 0 0)] H (.bool true) (H.set b (.box [.int .i64 n])))
  (n : Int) (H : Heap) : EFun C GT zDT [zHJ n] H (.int .i64 n) H:=by
 refine zA9 rfl ?_; refine zK ?_
 have h:=hA n 0 H.length (H ++ [ABlk.box [.int .i64 0]]) zA
 refine zIM h (fun h=>by cases h) ?_; refine zM ?_; refine zD (.int .i64 n) (zN zA) rfl ?_
 exact z2 rfl rfl rfl rfl ((Old.refl H).pushSet _ _)
theorem zQT (hT0 : ∀ H,C zA6 [.nili] H (.int .i64 0) H) (hT : ∀ n H,C zA6 [zHJ n] H (.int .i64 n) H) (x : AV) (n e : Int) (hx : zOm x n) (H : Heap) : EFun C GT zDR [x,.int .i64 e] H (.bool (n == e)) H:=by
 rcases hx with ⟨rfl,rfl⟩ | rfl
 ·refine zI (hT0 H) ?_
  exact sRr
 ·refine zI (hT n H) ?_
  exact sRr
end
end Go.AM
