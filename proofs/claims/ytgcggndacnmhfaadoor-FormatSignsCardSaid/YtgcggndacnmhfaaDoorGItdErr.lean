/- Several texts of mine in one (Itd, Fct, Am30, Am35, Err). Own work. -/
import Derived.Test.YtgcggndacnmhfaaDoorGFp1Fs1
import Derived.Lib.ItoaNum
import Derived.Test.YtgcggndacnmhfaaDoorGItQFp0
import Derived.Test.YtgcggndacnmhfaaDoorGToldQAm24
import Derived.Test.YtgcggndacnmhfaaDoorGAm22Cc
import Derived.Shelf.Strconv.Itoa3
import Derived.Shelf.Strings.Repeat
import Derived.Shelf.Strings.Cut
import Derived.Shelf.Strings.Trim
import Derived.Lib.AppendIntMem
import Derived.Lib.Agree
import Derived.KernelRfl
set_option linter.all false
namespace Go.AM
theorem zCn : ∀ n : Nat,n ≠ 0 → Lib.decDigits n = (zH5 n).reverse:=by
  intro n
  induction n using Nat.strongRecOn with
  | ind n ih=>
    intro h
    rw [zCl h,List.reverse_cons]
    by_cases h1 : n < 10
    · have : n / 10 = 0:=by omega
      rw [Lib.decDigits,dif_pos h1,this,zD4]
      have : n % 10 = n:=by omega
      rw [this]; rfl
    · rw [Lib.decDigits,dif_neg h1,ih (n / 10) tO tO]
theorem zLB (v : Int) : Lib.itoa v = zDF v:=by
  unfold Lib.itoa zDF signed
  by_cases h : v < 0
  · rw [if_pos h,if_neg tO,if_pos h,List.reverse_append,zCn _ tO]; rfl
  · rw [if_neg h]
    by_cases h0 : v = 0
    · subst h0; rw [if_pos rfl]; exact (Lib.decDigits_one (i:=0) tO)
    · rw [if_neg h0,if_neg h]
      have : v.toNat = v.natAbs:=by omega
      rw [this,zCn _ tO]
end Go.AM
set_option maxRecDepth 100000
namespace Go.Proofs
open Go.Shelf Go.RowKit Go.AM Go.Sort Go.Lib
theorem Tryd.small_number : Tryd.ownItoa_ren.f 283 = 35:=by kernel_rfl
theorem Tryd.digits_number : Tryd.ownItoa_ren.f 284 = 36:=by kernel_rfl
theorem Tryd.base_number : Tryd.ownItoa_ren.f 285 = 37:=by kernel_rfl
theorem Tryd.repeat_number : Tryd.ownRepeat_ren.f 105 = zAB:=by kernel_rfl
theorem Tryd.cut_number : Tryd.ownCut_ren.f 145 = zAk:=by kernel_rfl
theorem Tryd.trim_number : Tryd.ownTrim_ren.f 161 = zu:=by kernel_rfl
theorem Tryd.max_number : Tryd.ownCut_ren.g 1 = 2:=by kernel_rfl
theorem Tryd.ownExtra : Builder.Extra Tryd.prog Tryd.ownRepeat_ren:={
  sizeBuilder:=by kernel_rfl
  liesBuilder:=by kernel_rfl
  t5:=Tryd.ownRepeat.t5
  a5:=Tryd.ownRepeat.a5
  z5:=Tryd.ownRepeat.z5
  v5:=Tryd.ownRepeat.v5
  infoByte:=by kernel_rfl
  cellsByte:=by kernel_rfl
  sizeByte:=by kernel_rfl
  neB5:=by decide }
set_option maxHeartbeats 6400000 in
theorem zI5 (u : Nat) (hu64 : u < 18446744073709551616) (w : World) (htab : Lib.TabIs Tryd.prog w "internal/strconv.uint64pow10" .u64 Lib.pow10Tab) :
    Calls Tryd.prog 20 #[.int .u64 u,.int .i64 10] w fun e w'=>e = .returned (.string ⟨(Lib.decDigits u).toArray⟩) ∧ ∃ k os,w' = grow (w.drewN k) os:=by
  have e1 : ∀ args w,(callFunc 35 args).run Tryd.prog w = .ok (.enter 35 args) w:=enters_of Tryd.func35 (by kernel_rfl) rfl
  have e2 : ∀ args w,(callFunc 36 args).run Tryd.prog w = .ok (.enter 36 args) w:=enters_of Tryd.func36 (by kernel_rfl) rfl
  have e3 : ∀ args w,(callFunc 37 args).run Tryd.prog w = .ok (.enter 37 args) w:=enters_of Tryd.func37 (by kernel_rfl) rfl
  by_cases hs : u < 100
  · have hsm:=fun w=>Any.internal_strconv_small (P:=Tryd.prog) (ρ:=Tryd.ownItoa_ren) { Tryd.ownItoa with } u hs w
    rw [Tryd.small_number] at hsm
    have iu : (u : Int) < 100:=by omega
    have hw : IntKind.i64.wrap (u : Int) = (u : Int):=by rw [IntKind.wrap_i64]; omega
    go_enter Tryd.func20,Tryd.ntmps20
    go_wp2_with (go_at_fn (35); refine (hsm _).mono ?_; rintro e w' ⟨rfl,rfl⟩)
    go_ret
    exact ⟨rfl,0,#[],by simp [World.drewN_zero]⟩
  · have hu1 : 1 ≤ u:=by omega
    have hnd20 : Lib.nDigits u ≤ 20:=by have:=Lib.numDigits_eq u hu1 hu64; split at this <;> omega
    have hal : Tryd.prog.arrayLen 67 = 24:=by kernel_rfl
    have hsl : ∀ W,(Instr.sliceAt 67 (.pointer (some ⟨w.heap.size,0,none⟩)) none (some (.int .i64 (Lib.nDigits u : Int))) none).run Tryd.prog W = .ok (.slice (some ⟨w.heap.size,0,none⟩) (Lib.nDigits u) 24) W:=fun W=>by
      rw [run_sliceAt_array_h W 67 ⟨w.heap.size,0,none⟩ (by kernel_rfl) .i64 (Lib.nDigits u : Int) tO (by rw [hal]; omega)]
      go_simp
    have hnd:=fun W h=>Any.internal_strconv_numDigits (P:=Tryd.prog) (ρ:=Tryd.ownItoa_ren) { Tryd.ownItoa with } u hu1 hu64 W h
    rw [Tryd.digits_number] at hnd
    have hH0:=Lib.holds_zero0 w 67 (Lib.nDigits u) tO
    have hfmt:=Any.internal_strconv_formatBase10 (P:=Tryd.prog) (ρ:=Tryd.ownItoa_ren) { Tryd.ownItoa with } w.heap.size 0 24 u (Array.replicate (Lib.nDigits u) 0) (w.alloc (.cells Lib.zeros24 67)) hH0 (by rw [Array.size_replicate]; exact Lib.lt_pow_nDigits u) hu64 (by rw [Array.size_replicate]; omega)
    rw [Array.size_replicate,Tryd.base_number] at hfmt
    have HH0:=Lib.hid hH0
    have iu : (100 : Int) ≤ (u : Int):=by omega
    have ht:=Lib.tabIs_alloc htab (.cells Lib.zeros24 67)
    clear hH0 hal
    go_enter Tryd.func20,Tryd.ntmps20
    go_wp2_with (go_at_fn (36); refine (hnd _ ht).mono ?_; rintro e w' ⟨rfl,rfl⟩)
    go_at_fn (37)
    refine hfmt.mono ?_
    rintro e w' ⟨rfl,k,v',dk,rfl,hF⟩
    have hcv : (convert 29 9 (.slice (some ⟨w.heap.size,0,none⟩) (Lib.nDigits u) 24)).run Tryd.prog ((putRow (fun (b : UInt8)=>Value.int .u8 (b.toNat : Int)) (w.alloc (.cells Lib.zeros24 67)) w.heap.size 0 dk).drewN k) = .ok (.string ⟨(Lib.decDigits u).toArray⟩) ((putRow (fun (b : UInt8)=>Value.int .u8 (b.toNat : Int)) (w.alloc (.cells Lib.zeros24 67)) w.heap.size 0 dk).drewN k):=by
      have h:=run_convert_bytes_back (P:=Tryd.prog) ((putRow (fun (b : UInt8)=>Value.int .u8 (b.toNat : Int)) (w.alloc (.cells Lib.zeros24 67)) w.heap.size 0 dk).drewN k) 29 9 5 ⟨w.heap.size,0,none⟩ 24 (Lib.decDigits u) Tryd.underlying29 Tryd.underlying5 Tryd.underlying9 (fun j hj=>by
        rw [Lib.row_is_numeral hF j hj,Lib.add_plain,World.cell?_drewN]
        exact cell?_putRow (fun (b : UInt8)=>Value.int .u8 (b.toNat : Int)) _ w.heap.size 0 _ dk HH0.out (by rw [hF.size,Array.size_replicate]) j (by rw [hF.size]; rw [Lib.decDigits_length] at hj; exact hj))
      rw [Lib.decDigits_length] at h
      exact h
    go_wp2
    go_ret
    obtain ⟨os,eo⟩:=Lib.fin_at w (.cells Lib.zeros24 67) dk k 0
    exact ⟨rfl,k,os,eo⟩
set_option maxHeartbeats 1600000 in
theorem zI6 (u : Nat) (hu64 : u < 18446744073709551616) (w : World) (htab : Lib.TabIs Tryd.prog w "internal/strconv.uint64pow10" .u64 Lib.pow10Tab) :
    Calls Tryd.prog 9 #[.int .u64 u,.int .i64 10] w fun e w'=>e = .returned (.string ⟨(Lib.decDigits u).toArray⟩) ∧ ∃ k os,w' = grow (w.drewN k) os:=by
  have e1 : ∀ args w,(callFunc 20 args).run Tryd.prog w = .ok (.enter 20 args) w:=enters_of Tryd.func20 (by kernel_rfl) rfl
  go_enter Tryd.func9,Tryd.ntmps9
  go_wp2_with (go_at_fn (20); refine (zI5 u hu64 _ htab).mono ?_; rintro e w' ⟨rfl,k,os,rfl⟩)
  go_ret
  exact ⟨rfl,k,os,rfl⟩
section
variable {m : Int} {ev : Value}
theorem zLw {w : World} {M : AMap} {I : Nat → Prop} {H : Heap} (hS : Sim (gtQ m ev) w M I H) : w.cell? ⟨2,0,none⟩ = some (.int .i64 m):=by
  have h0:=hS.glob 2 (.int .i64 m) rfl
  cases h0 with
  | lref _ _ _ _ V hI hx hvv hr=>
    have h1:=hvv 0 (.int .i64 m) rfl
    have h2:=hr 0 (.int .i64 m) rfl
    rw [h1,zCg h2]
theorem zLx {w : World} {M : AMap} {I : Nat → Prop} {H : Heap} (hS : Sim (gtQ m ev) w M I H) : Lib.TabIs Tryd.prog w "internal/strconv.uint64pow10" .u64 Lib.pow10Tab:=by
  have h0:=hS.glob 1 zJ2 rfl
  obtain ⟨e,hs⟩:=hS.shp 1 zJ2 rfl
  have hlen : zJ2.cells.length = 20:=by unfold zJ2; simp [AV.cells,Lib.pow10Tab]
  rw [hlen] at hs
  have hcell : ∀ i : Nat,i < 20 → w.cell? ⟨1,i,none⟩ = some (.int .u64 (Lib.pow10Tab.getD i 0)):=fun i hi=>by
    have hc : zJ2.cells[0 + i]? = some (.int .u64 (Lib.pow10Tab.getD i 0)):=by
      unfold zJ2
      simp only [AV.cells,Nat.zero_add,List.getElem?_map]
      have : i < Lib.pow10Tab.length:=by rw [Lib.pow10Tab_length]; exact hi
      rw [List.getElem?_eq_getElem this,List.getD_eq_getElem?_getD,List.getElem?_eq_getElem this]; rfl
    cases h0 with
    | lref _ _ _ _ V hI hx hvv hr=>
      have h1:=hvv i _ hc
      have h2:=hr i _ hc
      rw [Nat.zero_add] at h1
      rw [h1,zCg h2]
  have hg : Tryd.prog.globalNamed "internal/strconv.uint64pow10" = some 1:=by kernel_rfl
  unfold Lib.TabIs World.var?
  rw [hg,Option.bind_some]
  unfold World.shape? at hs
  unfold World.cell? at hcell
  split at hs
  · rename_i c el fz hheap
    simp only [Option.some.injEq,Prod.mk.injEq] at hs
    rw [hheap]
    simp only [Option.some.injEq]
    apply Array.ext'
    apply List.ext_getElem?
    intro i
    by_cases hi : i < 20
    · have:=hcell i hi
      rw [hheap] at this
      simp only [Option.isSome_none,Bool.false_eq_true,if_false] at this
      have hp : i < Lib.pow10Tab.length:=by rw [Lib.pow10Tab_length]; exact hi
      rw [Array.getElem?_toList,this]
      simp [List.getD_eq_getElem?_getD,List.getElem?_eq_getElem hp]
    · rw [List.getElem?_eq_none (by simp; omega),List.getElem?_eq_none (by simp [Lib.pow10Tab_length]; omega)]
  · cases hs
theorem zJ7 (w : World) (k : Nat) (os : Array Obj) : RowKit.Below w.heap.size w (grow (w.drewN k) os):=by
  have hh : (w.drewN k).heap = w.heap:=rfl
  exact ⟨rfl,rfl,rfl,by simp [grow,hh],fun c hc=>by simp [grow,hh,Array.getElem?_append_left hc]⟩
theorem zIA (w : World) (k : Nat) : RowKit.Below w.heap.size w (w.drewN k):=⟨rfl,rfl,rfl,Nat.le_refl _,fun c hc=>rfl⟩
theorem zLy (n : Nat) : zDF (n : Int) = zAH n:=by
  unfold zDF zAH signed
  by_cases h : n = 0
  · rw [if_pos h,if_pos tO]
  · rw [if_neg h,if_neg tO,if_neg tO,Int.natAbs_natCast]
theorem dec_T (n : Nat) : Lib.decDigits n = zAH n:=by
  rw [← zLy,← zLB,Lib.itoa_nonneg]
theorem zD6 (n : Nat) (hn : n < 18446744073709551616) (H : Heap) : Go.AM.Good Tryd.prog (gtQ m ev) zl [.int .u64 n,.int .i64 10] H (.str (zAH n)) H:=
  zAM Tryd.func9 (by kernel_rfl) (by kernel_rfl) fun w M I cargs hS hA=>by
    obtain ⟨v,u,rfl,hv,hu⟩:=zDU hA
    obtain rfl:=zCg hv
    obtain rfl:=zCg hu
    refine (zI6 n hn w (zLx hS)).mono ?_
    rintro e w' ⟨he,k,os,rfl⟩
    refine ⟨_,he,zJ7 w k os, ?_⟩
    rw [dec_T]
    exact .str _
theorem zGp (c : Nat) (hc : c ≤ 1000) (H : Heap) : Go.AM.Good Tryd.prog (gtQ m ev) zAB [.str [48],zAw c] H (.str (List.replicate c 48)) H:=
  zAM Tryd.func10 (by kernel_rfl) (by kernel_rfl) fun w M I cargs hS hA=>by
    obtain ⟨v,u,rfl,hv,hu⟩:=zDU hA
    obtain rfl:=zBv hv
    obtain rfl:=zCg hu
    have h:=Any.strings_Repeat Tryd.ownRepeat Tryd.ownExtra ⟨([48] : List UInt8).toArray⟩ c w tO (by
      show ([48] : List UInt8).toArray.size * c ≤ _
      rw [List.size_toArray]; show 1 * c ≤ _; omega)
    rw [Tryd.repeat_number] at h
    refine h.mono ?_
    rintro e w' ⟨he,hB⟩
    refine ⟨_,he,hB, ?_⟩
    show Rel _ _ _ _ _ (Value.string ⟨(Lib.repeatL [48] c).toArray⟩)
    rw [zLv]
    exact .str _
theorem zJ8 (s : List UInt8) (H : Heap) (hl : s.length ≤ 1000) : Go.AM.Good Tryd.prog (gtQ m ev) zAk [.str s,.str [34]] H (.tup [.str (Lib.cut s [34]).1,.str (Lib.cut s [34]).2.1,.bool (Lib.cut s [34]).2.2]) H:=
  zAM Tryd.func31 (by kernel_rfl) (by kernel_rfl) fun w M I cargs hS hA=>by
    obtain ⟨v,u,rfl,hv,hu⟩:=zDU hA
    obtain rfl:=zBv hv
    obtain rfl:=zBv hu
    have h:=Any.strings_Cut Tryd.ownCut ⟨s.toArray⟩ ⟨([34] : List UInt8).toArray⟩ m w (by show s.toArray.size < _; rw [List.size_toArray]; omega) (by rw [Tryd.max_number]; exact zLw hS)
    rw [Tryd.cut_number] at h
    refine h.mono ?_
    rintro e w' ⟨he,n,rfl⟩
    refine ⟨_,he,zIA w n, ?_⟩
    refine .tup _ [_,_,_] rfl fun i c v h1 h2=>?_
    match i,h1,h2 with
    | 0,h1,h2=>cases h1; cases h2; exact .str _
    | 1,h1,h2=>cases h1; cases h2; exact .str _
    | 2,h1,h2=>cases h1; cases h2; exact .bool _
    | i + 3,h1,h2=>simp at h1
theorem zFV (s : List UInt8) (H : Heap) (hl : s.length ≤ 1000) : Go.AM.Good Tryd.prog (gtQ m ev) zu [.str s,.str [48]] H (.str (Lib.trimLeftB s 48)) H:=
  zAM Tryd.func33 (by kernel_rfl) (by kernel_rfl) fun w M I cargs hS hA=>by
    obtain ⟨v,u,rfl,hv,hu⟩:=zDU hA
    obtain rfl:=zBv hv
    obtain rfl:=zBv hu
    have h:=Any.strings_TrimLeft_one Tryd.ownTrim ⟨s.toArray⟩ 48 (by decide) w
    rw [Tryd.trim_number] at h
    refine h.mono ?_
    rintro e w' ⟨he,rfl⟩
    exact ⟨_,he,RowKit.Below.refl _ _,.str _⟩
end
end Go.Proofs
namespace Go.AM
def Wk (x x' : AV) : Prop:=∀ (w : World) (M : AMap) (I : Nat → Prop) (n : Nat) (v : Value),Rel w M I n x v → Rel w M I n x' v
theorem Wk.refl (x : AV) : Wk x x:=fun _ _ _ _ _ h=>h
theorem Wk.undef (x : AV) : Wk x .undef:=fun _ _ _ _ _ _=>.undef _
theorem Wk.iface {t : TypeId} {x x' : AV} (h : Wk x x') : Wk (.iface t x) (.iface t x'):=fun w M I n v hr=>by
  cases hr with
  | iface _ _ u hu=>exact .iface t x' u (h w M I n u hu)
def WkL (cs cs' : List AV) : Prop:=cs'.length = cs.length ∧ ∀ (j : Nat) (c c' : AV),cs[j]? = some c → cs'[j]? = some c' → Wk c c'
theorem WkL.refl (cs : List AV) : WkL cs cs:=⟨rfl,fun j c c' h h'=>by rw [h] at h'; cases h'; exact .refl c⟩
theorem WkL.nil : WkL [] []:=.refl []
theorem WkL.cons {x x' : AV} {cs cs' : List AV} (h : Wk x x') (k : WkL cs cs') : WkL (x :: cs) (x' :: cs'):=by
  refine ⟨by simp [k.1],fun j c c' hc hc'=>?_⟩
  cases j with
  | zero=>simp at hc hc'; subst hc hc'; exact h
  | succ j=>exact k.2 j c c' (by simpa using hc) (by simpa using hc')
theorem Wk.agg {cs cs' : List AV} (h : WkL cs cs') : Wk (.agg cs) (.agg cs'):=fun w M I n v hr=>by
  cases hr with
  | agg _ vs hl hv=>
    refine .agg cs' vs (by rw [h.1,hl]) fun i c u hc hu=>?_
    have hi:=(zg hc).1
    have hi2 : i < cs.length:=by rw [← h.1]; exact hi
    exact h.2 i _ c (List.getElem?_eq_getElem hi2) hc w M I n u (hv i _ u (List.getElem?_eq_getElem hi2) hu)
section
variable {GT : Nat → Option AV} {w w0 : World} {M M0 : AMap} {I I0 : Nat → Prop} {H H0 : Heap} {b : Nat} {cs cs' : List AV}
end
theorem zBc {b : Bool} {A B : Prop} (h : b = true) (a : A) : condP b A B:=by subst h; exact zP a
theorem zAI {b : Bool} {A B : Prop} (h : b = false) (a : B) : condP b A B:=by subst h; exact zG a
theorem zI7 {H : Heap} {b : Nat} {x : ABlk} (h : b < H.length) : (H.set b x)[b]? = some x:=List.getElem?_set_self h
theorem hP {P : Prop} (h : P:=by first | (with_reducible (repeat' (first | assumption | exact zF | refine zAL ?_ | (apply zI7; exact tC) | refine zw tA ?_)); done) | ((repeat' (first | assumption | exact zF | exact zI7 tC | refine zAL ?_ | refine zw tA ?_)); done)) : P:=h
theorem zAA {F : AF} {a s t : Nat} {ag : Bool} {H H1 : Heap} {fr : Fr} {v v1 : AV} {cs : List AV} {o : Nat} (hF : F.results = [.cell a s ag,.tmp t]) (hk : F.keep = false) (hp : ze H1 (zJR fr a) = some (cs,o)) (hpt : part cs o s ag = some v) (ht : zJR fr t = v1)
    (hf : zDW H.length (.tup [v,v1]) H1 = some (.tup [v,v1],H1)) (hb : (AV.tup [v,v1]).bel H.length = true) (ho : Old H H1) : retP F H fr H1 (.tup [v,v1]) H:=by
  refine zF8 hk ?_ hf hb ho
  rw [zCI] at hp ht
  simp only [hF,zAz,zFc,hp,hpt,ht,Option.map_some]
  rfl
structure OldB (H : Heap) (b : Nat) (B : ABlk) (H1 : Heap) : Prop where
  lt : b < H.length
  old : Old (H.set b B) H1
theorem OldB.start {H : Heap} {b : Nat} {B : ABlk} (h : H[b]? = some B) : OldB H b B H:=by
  obtain ⟨h1,h2⟩:=zg h
  refine ⟨h1,by rw [List.length_set]; exact Nat.le_refl _,fun c _=>?_⟩
  by_cases e : b = c
  · subst e; rw [List.getElem?_set_self h1]; exact h
  · rw [List.getElem?_set_ne e]
theorem OldB.push {H H1 : Heap} {b : Nat} {B : ABlk} (h : OldB H b B H1) (x : List ABlk) : OldB H b B (H1 ++ x):=⟨h.lt,h.old.push x⟩
theorem OldB.set {H H1 : Heap} {b : Nat} {B : ABlk} (h : OldB H b B H1) {c : Nat} (hc : H.length ≤ c) (x : ABlk) : OldB H b B (H1.set c x):=⟨h.lt,h.old.set (by rw [List.length_set]; exact hc) x⟩
theorem OldB.setB {H H1 : Heap} {b : Nat} {B : ABlk} (h : OldB H b B H1) (B' : ABlk) : OldB H b B' (H1.set b B'):=by
  have hl:=h.old.1
  rw [List.length_set] at hl
  refine ⟨h.lt,by rw [List.length_set,List.length_set]; exact hl,fun c hc=>?_⟩
  rw [List.length_set] at hc
  by_cases e : b = c
  · subst e; rw [List.getElem?_set_self h.lt,List.getElem?_set_self (by have:=h.lt; omega)]
  · have:=h.old.2 c (by rw [List.length_set]; exact hc)
    rw [List.getElem?_set_ne e] at this
    rw [List.getElem?_set_ne e,List.getElem?_set_ne e,this]
theorem OldB.ok {H H1 : Heap} {b : Nat} {B : ABlk} (h : OldB H b B H1) (hc : zIJ H.length B = true) : zJW H H1:=fun c hc'=>by
  have:=h.old.2 c (by rw [List.length_set]; exact hc')
  by_cases e : b = c
  · subst e
    rw [List.getElem?_set_self hc'] at this
    exact .inr ⟨B,this,hc⟩
  · rw [List.getElem?_set_ne e] at this
    exact .inl this
theorem OldB.take {H H1 : Heap} {b : Nat} {B : ABlk} (h : OldB H b B H1) : H1.take H.length = H.set b B:=by
  have:=h.old.take
  rwa [List.length_set] at this
structure retR (F : AF) (H : Heap) (fr : Fr) (H1 : Heap) (b : Nat) (r : Option (AV × ABlk)) : Prop where
  h : ∃ v B,r = some (v,B) ∧ zIH F H fr H1 v (H.set b B)
structure panR (F : AF) (H : Heap) (b : Nat) (cs' : List AV) (x' : AV) (r : Option (AV × ABlk)) (x0 : AV) (H1 : Heap) : Prop where
  h : r = none ∧ ∃ x cs,panF F H x0 H1 x (H.set b (.box cs)) ∧ b < H.length ∧ WkL cs cs' ∧ Wk x x'
end Go.AM
namespace Go.AM
theorem zLz {b k o s : Nat} {ag : Bool} {H : Heap} {cs : List AV} {r : AV} {K : AV → Prop} (h : H[b]? = some (.box cs)) (hr : part cs o s ag = some r) (q : K r) : loadN s ag (.ref b k 0 o) H K:=zA r h hr q
def zFW (H : Heap) (b : Nat) (H1 : Heap) : Prop:=∃ B,OldB H b B H1
theorem zFW.start {H : Heap} {b : Nat} {B : ABlk} (h : H[b]? = some B) : zFW H b H:=⟨B,OldB.start h⟩
theorem zFW.of {H : Heap} {b : Nat} {B : ABlk} {H1 : Heap} (h : OldB H b B H1) : zFW H b H1:=⟨B,h⟩
theorem zFW.push {H H1 : Heap} {b : Nat} (h : zFW H b H1) (x : List ABlk) : zFW H b (H1 ++ x):=⟨h.choose,h.choose_spec.push x⟩
theorem zFW.set {H H1 : Heap} {b : Nat} (h : zFW H b H1) {c : Nat} (hc : H.length ≤ c) (x : ABlk) : zFW H b (H1.set c x):=⟨h.choose,h.choose_spec.set hc x⟩
theorem zFW.setB {H H1 : Heap} {b : Nat} (h : zFW H b H1) (x : ABlk) : zFW H b (H1.set b x):=⟨x,h.choose_spec.setB x⟩
theorem OldB.setZ {H H1 : Heap} {b : Nat} {B : ABlk} (h : zFW H b H1) : OldB H b B (H1.set b B):=h.choose_spec.setB B
theorem hO {P : Prop} (h : P:=by (repeat' (first | assumption | exact Old.refl _ | exact OldB.start hP | exact zFW.start hP | exact zFW.of (by assumption) | refine Old.push ?_ _ | refine OldB.push ?_ _ | refine zFW.push ?_ _ | refine OldB.setZ ?_ | refine zFW.setB ?_ _ | refine Old.set ?_ tA _ | refine OldB.set ?_ tA _ | refine zFW.set ?_ tA _)); done) : P:=h
structure HidQ (Q : Prop) : Prop where
  go : Q
theorem sW {P Q : Prop} (q : Q) (h : HidQ Q → P:=by
  intro q
  repeat (first
    | (apply zLz
       · exact hP
       · rfl)
    | refine zP ?_
    | refine zG ?_
    | refine zR rfl ?_
    | refine zLm _ rfl ?_
    | refine zBc tT ?_
    | refine zAI tF ?_
    | refine zBc tE ?_
    | refine zAI tN ?_
    | refine zBc (by assumption) ?_
    | refine zAI (by assumption) ?_
    | (apply zFv
       · rfl
       · assumption)
    | (apply zB
       · first | assumption | (apply_assumption -exfalso -symm <;> exact hP))
    | (apply sCall
       · first | assumption | (apply_assumption -exfalso -symm <;> exact hP)
       · intro h; cases h)
    | fail)
  exact q.go) : P:=h ⟨q⟩
theorem sRv {P : Prop} (h : P:=by exact zF8 rfl rfl rfl rfl hO) : P:=h
end Go.AM
namespace Go.AM
def zCM (n : Int) : AV:=.int .i64 n
end Go.AM
