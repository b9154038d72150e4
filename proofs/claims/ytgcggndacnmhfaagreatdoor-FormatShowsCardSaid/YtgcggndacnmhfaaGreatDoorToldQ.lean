/- errors.As at *api.Errno, plain.Told and sccsame.Error as contracts; what the package-level variables hold. Own work. -/
import Derived.Test.YtgcggndacnmhfaaGreatDoorAsQ
import Derived.Test.YtgcggndacnmhfaaGreatDoorGFs7Fse
import Derived.Test.YtgcggndacnmhfaaGreatDoorGAm23Bc
import Derived.Test.YtgcggndacnmhfaaGreatDoorGErrRt0
import Derived.Lib.LaidTab
import Derived.Lib.ItoaNum
import Derived.Test.YtgcggndacnmhfaaGreatDoorBk
set_option linter.all false
namespace Go.AM
open Go.RowKit Go.Proofs
def zBY : Value:=.iface 116 (.agg #[.pointer (some ⟨8,32,none⟩)])
def zLl : AV:=.agg (Lib.pow10Tab.map fun z=>.int .u64 z)
def gtQ (m : Int) (_ : Value) : Nat → Option AV
 | 0=>some zKZ
 | 1=>some (.raw zBY)
 | 2=>some zLl
 | 3=>some (.int .i64 m)
 | _=>none
set_option maxRecDepth 100000 in
theorem zMp {m : Int} {ev : Value} (n old : Int) (b : Nat) (H : Heap) (hb : H[b]? = some (.box [.int .i64 old])) : Good Tryz.prog (gtQ m ev) zC4 [.iface zBI (.int .i64 n),.iface zCM (.ref b 0 0 0)] H (.bool true) (H.set b (.box [.int .i64 n])):=by
 intro w M I cargs hS hA
 obtain ⟨v,u,rfl,hv,hu⟩:=zDS hA
 cases hv with
 | iface _ _ v' hv'=>
 obtain rfl:=zBw hv'
 cases hu with
 | iface _ _ u' hu'=>
 cases hu' with
 | ref _ _ _ _ g o hbn hM=>
 have h0:=hS.glob 1 (.raw zBY) rfl
 have hg : w.cell? ⟨1,0,none⟩ = some zBY:=by
  cases h0 with
  | lref _ _ _ _ V hI hx hvv hr=>
   have h1:=hvv 0 (.raw zBY) rfl
   have h2:=hr 0 (.raw zBY) rfl
   rw [h1,zLN h2]
 obtain ⟨g',o',cur,h1,hC,h3,h4,h5⟩:=hS.blk b _ hb
 rw [hM] at h1
 simp only [Option.some.injEq,Prod.mk.injEq] at h1
 obtain ⟨rfl,rfl⟩:=h1
 obtain ⟨u0,e1,e2⟩:=h5 0 _ rfl
 obtain rfl:=zBw e2
 rw [Nat.add_zero] at e1
 have ht0 : w.cell? ⟨g,o,none⟩ = some (.int .i64 old):=by rw [hC.cell?]; exact e1
 have hf0 : w.frozen? ⟨g,o,none⟩ = false:=by
  obtain ⟨e,fz,hg',hfz⟩:=hC
  have hlt:=(Array.getElem?_eq_some_iff.1 e1).1
  have:=hfz o hlt
  simp only [World.frozen?,hg',Bool.and_eq_false_iff,decide_eq_false_iff_not]
  by_cases h : fz.1 ≤ o
  ·exact .inr fun h'=>this ⟨h,h'⟩
  ·exact .inl h
 rw [zJ4 Tryz.func29 (by kernel_rfl) (by kernel_rfl)]
 refine (Go.Proofs.YtgcggndacnmhfaaGreatDoor.As.as_hit n ⟨g,o,none⟩ (.int .i64 old) w hg ht0 hf0).mono ?_
 rintro e w' ⟨rfl,rfl⟩
 refine ⟨_,rfl,M,I, ?_⟩
 obtain ⟨G1,S1⟩:=zBx hS (((((Below.refl w.heap.size w).alloc (Nat.le_refl _) (.cells #[.pointer (some ⟨g,o,none⟩)] 66)).alloc (by simp <;> omega) (.cells #[.pointer (some ⟨8,66,none⟩),.pointer (some ⟨w.heap.size,0,none⟩),.int .u64 150] 88)).alloc (by simp <;> omega) (.cells #[.pointer (some ⟨8,66,none⟩),.pointer (some ⟨w.heap.size,0,none⟩),.int .u64 150] 88)).alloc (by simp <;> omega) (.cells #[.int .i64 n] 50))
 obtain ⟨G2,S2⟩:=zHZ S1 hb hM (x:=.int .i64 n) (v:=.int .i64 n) (fun _=>.int _ _)
 exact ⟨G1.trans G2,S2,.bool true⟩
section
variable {C : CSpec} {GT : Nat → Option AV}
theorem zHh (H : Heap) : EFun C GT zCR [.nili] H (.int .i64 0) H:=by
 refine za rfl ?_; refine zE ?_
 exact sRr
theorem zHi (hA : ∀ (n old : Int) (b : Nat) (H : Heap),H[b]? = some (.box [.int .i64 old]) → C zC4 [.iface zBI (.int .i64 n),.iface zCM (.ref b 0 0 0)] H (.bool true) (H.set b (.box [.int .i64 n])))
  (n : Int) (H : Heap) : EFun C GT zCR [zIx n] H (.int .i64 n) H:=by
 refine za rfl ?_; refine zD ?_
 have h:=hA n 0 H.length (H ++ [ABlk.box [.int .i64 0]]) zB
 refine zEl h (fun h=>by cases h) ?_; refine zE ?_; refine zA (.int .i64 n) (zH zB) rfl ?_
 exact zAS rfl rfl rfl rfl ((Old.refl H).pushSet _ _)
theorem zKa (hT0 : ∀ H,C zAj [.nili] H (.int .i64 0) H) (hT : ∀ n H,C zAj [zIx n] H (.int .i64 n) H) (x : AV) (n e : Int) (hx : ErrIs x n) (H : Heap) : EFun C GT zCO [x,.int .i64 e] H (.bool (n == e)) H:=by
 rcases hx with ⟨rfl,rfl⟩ | rfl
 ·refine zK (hT0 H) ?_
  exact sRr
 ·refine zK (hT n H) ?_
  exact sRr
end
end Go.AM
