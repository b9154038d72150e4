/- Several texts of mine in one (ItQ, Ixp, Ixr, Ixa, Fnp). Own work. -/
import Derived.Shelf.LaysM
import Derived.Ground.NamesProg
import Derived.Test.YtmiknjjfgndddaaDoorProg
import Derived.Test.YtmiknjjfgndddaaDoorGAm1Am3
import Derived.Laws.RangeAny
import Derived.Lib.Index
import Derived.Shelf.Strings.IndexAny
import Derived.Shelf.Small.Utf8
import Derived.Shelf.RegionOpenPlain
import Derived.KernelRfl
import Derived.ScopeJumps
import Derived.Shelf.Strings.IndexAnyAll
import Derived.Deep.LoopGhost
import Derived.Lib.Replace
set_option linter.all false
namespace Go.Proofs
open Go.Shelf
def Tryd.ownReplace_ren : Go.Shelf.Ren:=⟨fun | 155=>12 | 154=>20 | 138=>28 | 165=>29 | 143=>30 | 166=>13 | 197=>31 | 169=>15 | 195=>41 | 218=>42 | 240=>18 | 241=>43 | 219=>44 | 260=>45 | 276=>23 | 277=>50 | 217=>49 | 225=>40 | 224=>39 | 267=>51 | 266=>52 | 314=>53 | n=>n,fun | 9=>9 | 3=>3 | 4=>4 | 72=>39 | 0=>0 | 76=>44 | 105=>65 | 21=>21 | 5=>5 | 70=>36 | 20=>20 | 37=>37 | 75=>24 | 127=>52 | 164=>55 | 46=>82 | 119=>100 | 139=>103 | 138=>102 | 146=>105 | 51=>104 | 80=>47 | n=>n,fun | 1=>1 | 3=>2 | 4=>3 | n=>n⟩
theorem Tryd.ownReplace : Go.Proofs.Lays.n155 Tryd.prog Tryd.ownReplace_ren:={
 mixed:=by kernel_rfl
 f138:=Tryd.func28.trans (congrArg some (by kernel_rfl))
 f143:=Tryd.func30.trans (congrArg some (by kernel_rfl))
 f154:=Tryd.func20.trans (congrArg some (by kernel_rfl))
 f155:=Tryd.func12.trans (congrArg some (by kernel_rfl))
 f165:=Tryd.func29.trans (congrArg some (by kernel_rfl))
 f166:=Tryd.func13.trans (congrArg some (by kernel_rfl))
 f169:=Tryd.func15.trans (congrArg some (by kernel_rfl))
 f195:=Tryd.func41.trans (congrArg some (by kernel_rfl))
 f197:=Tryd.func31.trans (congrArg some (by kernel_rfl))
 f217:=Tryd.func49.trans (congrArg some (by kernel_rfl))
 f218:=Tryd.func42.trans (congrArg some (by kernel_rfl))
 f219:=Tryd.func44.trans (congrArg some (by kernel_rfl))
 f224:=Tryd.func39.trans (congrArg some (by kernel_rfl))
 f225:=Tryd.func40.trans (congrArg some (by kernel_rfl))
 f240:=Tryd.func18.trans (congrArg some (by kernel_rfl))
 f241:=Tryd.func43.trans (congrArg some (by kernel_rfl))
 f260:=Tryd.func45.trans (congrArg some (by kernel_rfl))
 f266:=Tryd.func52.trans (congrArg some (by kernel_rfl))
 f267:=Tryd.func51.trans (congrArg some (by kernel_rfl))
 f276:=Tryd.func23.trans (congrArg some (by kernel_rfl))
 f277:=Tryd.func50.trans (congrArg some (by kernel_rfl))
 f314:=Tryd.func53.trans (congrArg some (by kernel_rfl))
 t0:=Tryd.underlying0
 a0:=Tryd.isAgg0
 z0:=Tryd.sizeOf0
 v0:=Tryd.zeroValue0
 t3:=Tryd.underlying3
 a3:=Tryd.isAgg3
 z3:=Tryd.sizeOf3
 v3:=Tryd.zeroValue3
 t4:=Tryd.underlying4
 a4:=Tryd.isAgg4
 z4:=Tryd.sizeOf4
 v4:=Tryd.zeroValue4
 t5:=Tryd.underlying5
 a5:=Tryd.isAgg5
 z5:=Tryd.sizeOf5
 v5:=Tryd.zeroValue5
 t9:=Tryd.underlying9
 a9:=Tryd.isAgg9
 z9:=Tryd.sizeOf9
 v9:=Tryd.zeroValue9
 t20:=Tryd.underlying20
 a20:=Tryd.isAgg20
 z20:=Tryd.sizeOf20
 v20:=Tryd.zeroValue20
 t21:=Tryd.underlying21
 a21:=Tryd.isAgg21
 z21:=Tryd.sizeOf21
 v21:=Tryd.zeroValue21
 t37:=Tryd.underlying37
 a37:=Tryd.isAgg37
 z37:=Tryd.sizeOf37
 v37:=Tryd.zeroValue37
 t46:=Tryd.underlying82
 a46:=Tryd.isAgg82
 z46:=Tryd.sizeOf82
 v46:=Tryd.zeroValue82
 t51:=Tryd.underlying104
 a51:=Tryd.isAgg104
 z51:=Tryd.sizeOf104
 v51:=Tryd.zeroValue104
 t70:=Tryd.underlying36
 a70:=Tryd.isAgg36
 z70:=Tryd.sizeOf36
 v70:=Tryd.zeroValue36
 t72:=Tryd.underlying39
 a72:=Tryd.isAgg39
 z72:=Tryd.sizeOf39
 v72:=Tryd.zeroValue39
 t75:=Tryd.underlying24
 a75:=Tryd.isAgg24
 z75:=Tryd.sizeOf24
 v75:=Tryd.zeroValue24
 t76:=Tryd.underlying44
 a76:=Tryd.isAgg44
 z76:=Tryd.sizeOf44
 v76:=Tryd.zeroValue44
 t105:=Tryd.underlying65
 a105:=Tryd.isAgg65
 z105:=Tryd.sizeOf65
 v105:=Tryd.zeroValue65
 t119:=Tryd.underlying100
 a119:=Tryd.isAgg100
 z119:=Tryd.sizeOf100
 t127:=Tryd.underlying52
 a127:=Tryd.isAgg52
 z127:=Tryd.sizeOf52
 v127:=Tryd.zeroValue52
 t138:=Tryd.underlying102
 a138:=Tryd.isAgg102
 z138:=Tryd.sizeOf102
 v138:=Tryd.zeroValue102
 t139:=Tryd.underlying103
 a139:=Tryd.isAgg103
 z139:=Tryd.sizeOf103
 v139:=Tryd.zeroValue103
 t146:=Tryd.underlying105
 a146:=Tryd.isAgg105
 z146:=Tryd.sizeOf105
 v146:=Tryd.zeroValue105
 t164:=Tryd.underlying55
 a164:=Tryd.isAgg55
 z164:=Tryd.sizeOf55
 v164:=Tryd.zeroValue55
 g1:=by kernel_rfl
 g3:=by kernel_rfl
 g4:=by kernel_rfl }
def Tryd.ownAny_ren : Go.Shelf.Ren:=⟨fun | 150=>11 | 153=>19 | 152=>24 | 226=>25 | 227=>26 | 228=>27 | 137=>37 | 119=>38 | 224=>39 | 225=>40 | 217=>49 | 266=>52 | n=>n,fun | 9=>9 | 4=>4 | 3=>3 | 5=>5 | 21=>21 | 117=>61 | 116=>60 | 0=>0 | 46=>82 | 124=>83 | n=>n,fun | n=>n⟩
theorem Tryd.ownAny : Go.Proofs.Lays.n150 Tryd.prog Tryd.ownAny_ren:={
 mixed:=by kernel_rfl
 f119:=Tryd.func38.trans (congrArg some (by kernel_rfl))
 f137:=Tryd.func37.trans (congrArg some (by kernel_rfl))
 f150:=Tryd.func11.trans (congrArg some (by kernel_rfl))
 f152:=Tryd.func24.trans (congrArg some (by kernel_rfl))
 f153:=Tryd.func19.trans (congrArg some (by kernel_rfl))
 f217:=Tryd.func49.trans (congrArg some (by kernel_rfl))
 f224:=Tryd.func39.trans (congrArg some (by kernel_rfl))
 f225:=Tryd.func40.trans (congrArg some (by kernel_rfl))
 f226:=Tryd.func25.trans (congrArg some (by kernel_rfl))
 f227:=Tryd.func26.trans (congrArg some (by kernel_rfl))
 f228:=Tryd.func27.trans (congrArg some (by kernel_rfl))
 f266:=Tryd.func52.trans (congrArg some (by kernel_rfl))
 t0:=Tryd.underlying0
 a0:=Tryd.isAgg0
 z0:=Tryd.sizeOf0
 v0:=Tryd.zeroValue0
 t3:=Tryd.underlying3
 a3:=Tryd.isAgg3
 z3:=Tryd.sizeOf3
 v3:=Tryd.zeroValue3
 t4:=Tryd.underlying4
 a4:=Tryd.isAgg4
 z4:=Tryd.sizeOf4
 v4:=Tryd.zeroValue4
 t5:=Tryd.underlying5
 a5:=Tryd.isAgg5
 z5:=Tryd.sizeOf5
 v5:=Tryd.zeroValue5
 t9:=Tryd.underlying9
 a9:=Tryd.isAgg9
 z9:=Tryd.sizeOf9
 v9:=Tryd.zeroValue9
 t21:=Tryd.underlying21
 a21:=Tryd.isAgg21
 z21:=Tryd.sizeOf21
 v21:=Tryd.zeroValue21
 t46:=Tryd.underlying82
 a46:=Tryd.isAgg82
 z46:=Tryd.sizeOf82
 v46:=Tryd.zeroValue82
 t116:=Tryd.underlying60
 a116:=Tryd.isAgg60
 z116:=Tryd.sizeOf60
 t117:=Tryd.underlying61
 a117:=Tryd.isAgg61
 z117:=Tryd.sizeOf61
 v117:=Tryd.zeroValue61
 t124:=Tryd.underlying83
 a124:=Tryd.isAgg83
 z124:=Tryd.sizeOf83
 v124:=Tryd.zeroValue83 }
end Go.Proofs
namespace Go.AM
theorem zIX (s : ByteArray) (i : Nat) (h : i < s.size) (hb : 128 ≤ (s.get! i).toNat) :
  128 ≤ (Utf8.decode s i).1 ∧ Utf8.valid (Utf8.decode s i).1 = true ∧ 1 ≤ (Utf8.decode s i).2 ∧ i + (Utf8.decode s i).2 ≤ s.size ∧ ∀ k,k < (Utf8.decode s i).2 → 128 ≤ (s.get! (i + k)).toNat:=by
 have h0 : i + 0 = i:=rfl
 have hv : Utf8.valid ((65533 : Nat) : Int) = true:=by decide
 have herr : 128 ≤ Utf8.runeError ∧ Utf8.valid (Utf8.runeError : Int) = true ∧ 1 ≤ 1 ∧ i + 1 ≤ s.size ∧ ∀ k,k < 1 → 128 ≤ (s.get! (i + k)).toNat:=
  ⟨by decide,hv,Nat.le_refl _,h,fun k hk=>by
   have e : k = 0:=Nat.lt_one_iff.1 hk
   rw [e]; exact hb⟩
 unfold Utf8.decode
 dsimp only
 rw [if_neg (by rw [h0]; omega)]
 split
 ·rename_i hc
  simp only [Bool.and_eq_true,decide_eq_true_eq,beq_iff_eq] at hc
  split
  ·rename_i hc2
   refine ⟨hc2, ?_,by simp,by simp only; omega,fun k hk=>?_⟩
   ·unfold Utf8.valid
    have : (s.get! (i + 1)).toNat % 64 < 64:=Nat.mod_lt _ (by decide)
    have : (s.get! (i + 0)).toNat % 32 < 32:=Nat.mod_lt _ (by decide)
    simp only [Bool.or_eq_true,Bool.and_eq_true,decide_eq_true_eq]
    left; constructor <;> omega
   ·match k,hk with
    | 0,_=>exact hb
    | 1,_=>omega
    | k + 2,hk=>simp only at hk; omega
  ·exact herr
 ·split
  ·rename_i hc
   simp only [Bool.and_eq_true,decide_eq_true_eq,beq_iff_eq] at hc
   split
   ·rename_i hc2
    simp only [Bool.and_eq_true,decide_eq_true_eq] at hc2
    refine ⟨by have:=hc2.1; simp only; omega,hc2.2,by simp,by simp only; omega,fun k hk=>?_⟩
    match k,hk with
    | 0,_=>exact hb
    | 1,_=>omega
    | 2,_=>omega
    | k + 3,hk=>simp only at hk; omega
   ·exact herr
  ·split
   ·rename_i hc
    simp only [Bool.and_eq_true,decide_eq_true_eq,beq_iff_eq] at hc
    split
    ·rename_i hc2
     simp only [Bool.and_eq_true,decide_eq_true_eq] at hc2
     refine ⟨by have:=hc2.1; simp only; omega,hc2.2,by simp,by simp only; omega,fun k hk=>?_⟩
     match k,hk with
     | 0,_=>exact hb
     | 1,_=>omega
     | 2,_=>omega
     | 3,_=>omega
     | k + 4,hk=>simp only at hk; omega
    ·exact herr
   ·exact herr
theorem zIY (r : Int) (h : 128 ≤ r) : ∃ b0 b1 b2 b3 : UInt8,(128 ≤ b0.toNat ∧ 128 ≤ b1.toNat ∧ 128 ≤ b2.toNat ∧ 128 ≤ b3.toNat) ∧ (Utf8.encode r = ⟨#[b0,b1]⟩ ∨ Utf8.encode r = ⟨#[b0,b1,b2]⟩ ∨ Utf8.encode r = ⟨#[b0,b1,b2,b3]⟩):=by
 have hb : ∀ n : Nat,128 ≤ n → n < 256 → 128 ≤ (UInt8.ofNat n).toNat:=fun n h1 h2=>by
  rw [UInt8.toNat_ofNat']; rw [Nat.mod_eq_of_lt h2]; exact h1
 unfold Utf8.encode
 dsimp only
 generalize hc : (if Utf8.valid r = true then r.toNat else Utf8.runeError) = c
 have h1 : 128 ≤ c:=by
  rw [← hc]
  split
  ·omega
  ·decide
 have h2 : c < 2097152:=by
  rw [← hc]
  split
  ·rename_i hv
   unfold Utf8.valid at hv
   simp only [Bool.or_eq_true,Bool.and_eq_true,decide_eq_true_eq] at hv
   omega
  ·decide
 rw [if_neg tO]
 split
 ·exact ⟨_,_,255,255,⟨hb _ tO tO,hb _ tO tO,by decide,by decide⟩,.inl rfl⟩
 ·split
  ·exact ⟨_,_,_,255,⟨hb _ tO tO,hb _ tO tO,hb _ tO tO,by decide⟩,.inr (.inl rfl)⟩
  ·exact ⟨_,_,_,_,⟨hb _ tO tO,hb _ tO tO,hb _ tO tO,hb _ tO tO⟩,.inr (.inr rfl)⟩
end Go.AM
namespace Go.Proofs
open Go.Shelf Go.RowKit Go.Lib Go.AM
variable {P : Program} {ρ : Ren}
theorem zEV (r : Int) : Utf8.valid r = Lib.validRune r:=by
 unfold Utf8.valid Lib.validRune
 rw [Bool.eq_iff_iff]
 simp only [Bool.or_eq_true,Bool.and_eq_true,decide_eq_true_eq]
 omega
theorem zEW (W : World) (r : Int) (rs : ByteArray) (t21 : P.underlying (ρ.t 21) = some (TypeDesc.int IntKind.i32)) (t9 : P.underlying (ρ.t 9) = some TypeDesc.string) (h : Utf8.encode r = rs) : (convert (ρ.t 21) (ρ.t 9) (.int .i32 r)).run P W = .ok (.string rs) W:=by
 subst h
 have u21:=run_underlying t21
 have u9:=run_underlying t9
 simp [convert,Sem.run_bind,u21,u9,Result.andThen,Conv.intToString,Sem.run]
theorem zEX : ∀ (l : List UInt8) (b : UInt8),(∀ c ∈ l,c.toNat < 128) → 128 ≤ b.toNat → Lib.indexByte l b = -1
 | [],_,_,_=>rfl
 | c :: l,b,h,hb=>by
  have hc:=h c (by simp)
  have e : (c == b) = false:=tN (fun e=>by subst e; omega)
  have ih:=zEX l b (fun x hx=>h x (List.mem_cons_of_mem _ hx)) hb
  unfold Lib.indexByte
  rw [e,ih]; rfl
set_option maxHeartbeats 8000000 in
set_option maxRecDepth 1000000 in
theorem zFx (L : Lays.n152 P ρ) (r : Int) (w : World) (hr : 128 ≤ r) (he : r ≠ 65533) (hv : Utf8.valid r = true) (b0 b1 : UInt8) (hl : 128 ≤ b1.toNat) (hs : Utf8.encode r = ⟨#[b0,b1]⟩) :
  Calls P (ρ.f 152) #[.string ⟨#[44,34,10,13]⟩,.int .i32 r] w fun e w'=>e = .returned (.int .i64 (-1)) ∧ Below w.heap.size w w':=by
 have mixed:=L.mixed
 have t3:=L.t3; have a3:=L.a3; have z3:=L.z3; have v3:=L.v3
 have t4:=L.t4; have a4:=L.a4; have z4:=L.z4; have v4:=L.v4
 have t5:=L.t5; have a5:=L.a5; have z5:=L.z5; have v5:=L.v5
 have t9:=L.t9; have a9:=L.a9; have z9:=L.z9; have v9:=L.v9
 have t21:=L.t21; have a21:=L.a21; have z21:=L.z21; have v21:=L.v21
 have t46:=L.t46; have a46:=L.a46; have z46:=L.z46; have v46:=L.v46
 have e137 : ∀ args w,(callFunc (ρ.f 137) args).run P w = .ok (.enter (ρ.f 137) args) w:=enters_of L.f137 (by kernel_rfl) rfl
 have e119 : ∀ args w,(callFunc (ρ.f 119) args).run P w = .ok (.enter (ρ.f 119) args) w:=enters_of L.f119 (by kernel_rfl) rfl
 have h1' : ¬ (r < 128):=by omega
 have h2 : (r == 65533) = false:=tN he
 have hv2 : Lib.validRune r = true:=by rw [← zEV]; exact hv
 have u21:=run_underlying t21
 have u9:=run_underlying t9
 have hcv:=fun W=>zEW (P:=P) (ρ:=ρ) W r _ t21 t9 hs
 clear hs hv
 go_enter L.f152,Body.n152_ntmps ρ
 go_wp2_with (go_at_fn (ρ.f 119); refine (Any.utf8_ValidRune { L with } _ _).mono ?_; rintro e w' ⟨rfl,hw⟩; rw [hw,hv2])
 refine wp_scope_straight ?_
 go_wp2
 refine _root_.Go.wp_loop_rounds 1 ?_
 rw [rounds_succ]
 go_wp2
 refine wp_scope_straight ?_
 go_wp2
 have hi2 : Lib.indexByte [10,13] (({ data:=#[b0,b1] } : ByteArray)[1]'(by show 1 < 2; decide)) = -1:=zEX [10,13] b1 (by decide) hl
 have hne : (((({ data:=#[44,34,10,13] } : ByteArray)[1]'(by show 1 < 4; decide)).toNat : Int) != ((({ data:=#[b0,b1] } : ByteArray)[1]'(by show 1 < 2; decide)).toNat : Int)) = true:=bne_iff_ne.2 (by
  show ((34 : Nat) : Int) ≠ (b1.toNat : Int)
  omega)
 go_region_o
 go_wp2
 go_region_with_o (go_at_fn (ρ.f 137); refine (Any.strings_IndexByte { L with } _ _ _).mono ?_; rintro e w' ⟨rfl,hw⟩; rw [hw])
 all_goals go_wp2
 all_goals ((try simp only [Exit.noGoto,Exit.inBlock,Exit.then]); refine bodyPost_ret (results_tmp rfl _ _ _) rfl ?_)
 all_goals exact ⟨rfl,by repeat (first | exact Below.refl _ _ | apply Below.drew)⟩
set_option maxHeartbeats 8000000 in
set_option maxRecDepth 1000000 in
theorem zFy (L : Lays.n152 P ρ) (r : Int) (w : World) (hr : 128 ≤ r) (he : r ≠ 65533) (hv : Utf8.valid r = true) (b0 b1 b2 : UInt8) (hl : 128 ≤ b2.toNat) (hs : Utf8.encode r = ⟨#[b0,b1,b2]⟩) :
  Calls P (ρ.f 152) #[.string ⟨#[44,34,10,13]⟩,.int .i32 r] w fun e w'=>e = .returned (.int .i64 (-1)) ∧ Below w.heap.size w w':=by
 have mixed:=L.mixed
 have t3:=L.t3; have a3:=L.a3; have z3:=L.z3; have v3:=L.v3
 have t4:=L.t4; have a4:=L.a4; have z4:=L.z4; have v4:=L.v4
 have t5:=L.t5; have a5:=L.a5; have z5:=L.z5; have v5:=L.v5
 have t9:=L.t9; have a9:=L.a9; have z9:=L.z9; have v9:=L.v9
 have t21:=L.t21; have a21:=L.a21; have z21:=L.z21; have v21:=L.v21
 have t46:=L.t46; have a46:=L.a46; have z46:=L.z46; have v46:=L.v46
 have e137 : ∀ args w,(callFunc (ρ.f 137) args).run P w = .ok (.enter (ρ.f 137) args) w:=enters_of L.f137 (by kernel_rfl) rfl
 have e119 : ∀ args w,(callFunc (ρ.f 119) args).run P w = .ok (.enter (ρ.f 119) args) w:=enters_of L.f119 (by kernel_rfl) rfl
 have h1' : ¬ (r < 128):=by omega
 have h2 : (r == 65533) = false:=tN he
 have hv2 : Lib.validRune r = true:=by rw [← zEV]; exact hv
 have u21:=run_underlying t21
 have u9:=run_underlying t9
 have hcv:=fun W=>zEW (P:=P) (ρ:=ρ) W r _ t21 t9 hs
 clear hs hv
 go_enter L.f152,Body.n152_ntmps ρ
 go_wp2_with (go_at_fn (ρ.f 119); refine (Any.utf8_ValidRune { L with } _ _).mono ?_; rintro e w' ⟨rfl,hw⟩; rw [hw,hv2])
 refine wp_scope_straight ?_
 go_wp2
 refine _root_.Go.wp_loop_rounds 1 ?_
 rw [rounds_succ]
 go_wp2
 refine wp_scope_straight ?_
 go_wp2
 have hi2 : Lib.indexByte [13] (({ data:=#[b0,b1,b2] } : ByteArray)[2]'(by show 2 < 3; decide)) = -1:=zEX [13] b2 (by decide) hl
 have hne : (((({ data:=#[44,34,10,13] } : ByteArray)[2]'(by show 2 < 4; decide)).toNat : Int) != ((({ data:=#[b0,b1,b2] } : ByteArray)[2]'(by show 2 < 3; decide)).toNat : Int)) = true:=bne_iff_ne.2 (by
  show ((10 : Nat) : Int) ≠ (b2.toNat : Int)
  omega)
 go_region_o
 go_wp2
 go_region_with_o (go_at_fn (ρ.f 137); refine (Any.strings_IndexByte { L with } _ _ _).mono ?_; rintro e w' ⟨rfl,hw⟩; rw [hw])
 all_goals go_wp2
 all_goals ((try simp only [Exit.noGoto,Exit.inBlock,Exit.then]); refine bodyPost_ret (results_tmp rfl _ _ _) rfl ?_)
 all_goals exact ⟨rfl,by repeat (first | exact Below.refl _ _ | apply Below.drew)⟩
set_option maxHeartbeats 8000000 in
set_option maxRecDepth 1000000 in
theorem zFz (L : Lays.n152 P ρ) (r : Int) (w : World) (hr : 128 ≤ r) (he : r ≠ 65533) (hv : Utf8.valid r = true) (b0 b1 b2 b3 : UInt8) (hl : 128 ≤ b3.toNat) (hs : Utf8.encode r = ⟨#[b0,b1,b2,b3]⟩) :
  Calls P (ρ.f 152) #[.string ⟨#[44,34,10,13]⟩,.int .i32 r] w fun e w'=>e = .returned (.int .i64 (-1)) ∧ Below w.heap.size w w':=by
 have mixed:=L.mixed
 have t3:=L.t3; have a3:=L.a3; have z3:=L.z3; have v3:=L.v3
 have t4:=L.t4; have a4:=L.a4; have z4:=L.z4; have v4:=L.v4
 have t5:=L.t5; have a5:=L.a5; have z5:=L.z5; have v5:=L.v5
 have t9:=L.t9; have a9:=L.a9; have z9:=L.z9; have v9:=L.v9
 have t21:=L.t21; have a21:=L.a21; have z21:=L.z21; have v21:=L.v21
 have t46:=L.t46; have a46:=L.a46; have z46:=L.z46; have v46:=L.v46
 have e137 : ∀ args w,(callFunc (ρ.f 137) args).run P w = .ok (.enter (ρ.f 137) args) w:=enters_of L.f137 (by kernel_rfl) rfl
 have e119 : ∀ args w,(callFunc (ρ.f 119) args).run P w = .ok (.enter (ρ.f 119) args) w:=enters_of L.f119 (by kernel_rfl) rfl
 have h1' : ¬ (r < 128):=by omega
 have h2 : (r == 65533) = false:=tN he
 have hv2 : Lib.validRune r = true:=by rw [← zEV]; exact hv
 have u21:=run_underlying t21
 have u9:=run_underlying t9
 have hcv:=fun W=>zEW (P:=P) (ρ:=ρ) W r _ t21 t9 hs
 clear hs hv
 go_enter L.f152,Body.n152_ntmps ρ
 go_wp2_with (go_at_fn (ρ.f 119); refine (Any.utf8_ValidRune { L with } _ _).mono ?_; rintro e w' ⟨rfl,hw⟩; rw [hw,hv2])
 refine wp_scope_straight ?_
 go_wp2
 refine _root_.Go.wp_loop_rounds 1 ?_
 rw [rounds_succ]
 go_wp2
 refine wp_scope_straight ?_
 go_wp2
 have hi2 : Lib.indexByte [] (({ data:=#[b0,b1,b2,b3] } : ByteArray)[3]'(by show 3 < 4; decide)) = -1:=zEX [] b3 (by decide) hl
 have hne : (((({ data:=#[44,34,10,13] } : ByteArray)[3]'(by show 3 < 4; decide)).toNat : Int) != ((({ data:=#[b0,b1,b2,b3] } : ByteArray)[3]'(by show 3 < 4; decide)).toNat : Int)) = true:=bne_iff_ne.2 (by
  show ((13 : Nat) : Int) ≠ (b3.toNat : Int)
  omega)
 go_region_o
 go_wp2
 go_region_with_o (go_at_fn (ρ.f 137); refine (Any.strings_IndexByte { L with } _ _ _).mono ?_; rintro e w' ⟨rfl,hw⟩; rw [hw])
 all_goals go_wp2
 all_goals ((try simp only [Exit.noGoto,Exit.inBlock,Exit.then]); refine bodyPost_ret (results_tmp rfl _ _ _) rfl ?_)
 all_goals exact ⟨rfl,by repeat (first | exact Below.refl _ _ | apply Below.drew)⟩
set_option maxHeartbeats 8000000 in
set_option maxRecDepth 1000000 in
theorem zF0 (L : Lays.n152 P ρ) (w : World) :
  Calls P (ρ.f 152) #[.string ⟨#[44,34,10,13]⟩,.int .i32 65533] w fun e w'=>e = .returned (.int .i64 (-1)) ∧ Below w.heap.size w w':=by
 have mixed:=L.mixed
 have t3:=L.t3; have a3:=L.a3; have z3:=L.z3; have v3:=L.v3
 have t4:=L.t4; have a4:=L.a4; have z4:=L.z4; have v4:=L.v4
 have t5:=L.t5; have a5:=L.a5; have z5:=L.z5; have v5:=L.v5
 have t9:=L.t9; have a9:=L.a9; have z9:=L.z9; have v9:=L.v9
 have t21:=L.t21; have a21:=L.a21; have z21:=L.z21; have v21:=L.v21
 have t46:=L.t46; have a46:=L.a46; have z46:=L.z46; have v46:=L.v46
 have e137 : ∀ args w,(callFunc (ρ.f 137) args).run P w = .ok (.enter (ρ.f 137) args) w:=enters_of L.f137 (by kernel_rfl) rfl
 have e119 : ∀ args w,(callFunc (ρ.f 119) args).run P w = .ok (.enter (ρ.f 119) args) w:=enters_of L.f119 (by kernel_rfl) rfl
 have hsz : ((⟨#[44,34,10,13]⟩ : ByteArray)).size = 4:=rfl
 have n0 : ∀ ty,(Instr.next (.pointer (some ⟨w.heap.size,0,none⟩)) true ty).run P (w.iter ⟨#[44,34,10,13]⟩ 0) = .ok (.tuple #[.bool true,.int .i64 0,.int .i32 44]) (w.iter ⟨#[44,34,10,13]⟩ 1):=fun ty=>run_next_ascii (P:=P) w ⟨#[44,34,10,13]⟩ 0 ty (by show 0 < 4; decide) (by show 44 < 128; decide)
 have n1 : ∀ ty,(Instr.next (.pointer (some ⟨w.heap.size,0,none⟩)) true ty).run P (w.iter ⟨#[44,34,10,13]⟩ 1) = .ok (.tuple #[.bool true,.int .i64 1,.int .i32 34]) (w.iter ⟨#[44,34,10,13]⟩ 2):=fun ty=>run_next_ascii (P:=P) w ⟨#[44,34,10,13]⟩ 1 ty (by show 1 < 4; decide) (by show 34 < 128; decide)
 have n2 : ∀ ty,(Instr.next (.pointer (some ⟨w.heap.size,0,none⟩)) true ty).run P (w.iter ⟨#[44,34,10,13]⟩ 2) = .ok (.tuple #[.bool true,.int .i64 2,.int .i32 10]) (w.iter ⟨#[44,34,10,13]⟩ 3):=fun ty=>run_next_ascii (P:=P) w ⟨#[44,34,10,13]⟩ 2 ty (by show 2 < 4; decide) (by show 10 < 128; decide)
 have n3 : ∀ ty,(Instr.next (.pointer (some ⟨w.heap.size,0,none⟩)) true ty).run P (w.iter ⟨#[44,34,10,13]⟩ 3) = .ok (.tuple #[.bool true,.int .i64 3,.int .i32 13]) (w.iter ⟨#[44,34,10,13]⟩ 4):=fun ty=>run_next_ascii (P:=P) w ⟨#[44,34,10,13]⟩ 3 ty (by show 3 < 4; decide) (by show 13 < 128; decide)
 have n4:=fun ty=>run_next_end (P:=P) w ⟨#[44,34,10,13]⟩ 4 ty (by show ¬ 4 < 4; decide)
 go_enter L.f152,Body.n152_ntmps ρ
 go_wp2
 refine _root_.Go.wp_loop_rounds 5 ?_
 rw [rounds_succ]
 go_wp2
 rw [rounds_succ]
 go_wp2
 rw [rounds_succ]
 go_wp2
 rw [rounds_succ]
 go_wp2
 rw [rounds_succ]
 go_wp2
 go_ret
 exact ⟨rfl,(Below.refl _ _).alloc (Nat.le_refl _) _⟩
end Go.Proofs
namespace Go.Proofs
open Go.Shelf Go.RowKit Go.Lib Go.AM
variable {P : Program} {ρ : Ren}
theorem zHH (L : Lays.n152 P ρ) (r : Int) (w : World) (hr : 128 ≤ r) (hv : Utf8.valid r = true) : Calls P (ρ.f 152) #[.string ⟨#[44,34,10,13]⟩,.int .i32 r] w fun e w'=>e = .returned (.int .i64 (-1)) ∧ Below w.heap.size w w':=by
 by_cases he : r = 65533
 ·subst he; exact zF0 L w
 obtain ⟨b0,b1,b2,b3,⟨h0,h1,h2,h3⟩,hs | hs | hs⟩:=zIY r hr
 ·exact zFx L r w hr he hv b0 b1 h1 hs
 ·exact zFy L r w hr he hv b0 b1 b2 h2 hs
 ·exact zFz L r w hr he hv b0 b1 b2 b3 h3 hs
def zKY (W : World) (b : Nat) (s : ByteArray) (p : Nat) : World:={ W with heap:=W.heap.setIfInBounds b (.stringIter s p) }
theorem zDM (W : World) (b : Nat) (s : ByteArray) (p : Nat) : (zKY W b s p).heap.size = W.heap.size:=by
 show (W.heap.setIfInBounds b _).size = _
 simp
theorem zIZ (W : World) (b : Nat) (s : ByteArray) (p : Nat) (h : b < W.heap.size) : (zKY W b s p).heap[b]? = some (.stringIter s p):=by
 show (W.heap.setIfInBounds b _)[b]? = _
 rw [Array.getElem?_setIfInBounds,if_pos rfl,if_pos h]
theorem zCJ {n : Nat} {w W : World} (h : Below n w W) {b : Nat} (hb : n ≤ b) (s : ByteArray) (p : Nat) : Below n w (zKY W b s p):=by
 have hh : (zKY W b s p).heap = W.heap.setIfInBounds b (.stringIter s p):=rfl
 refine ⟨h.1,h.2,h.3,by rw [zDM]; exact h.4,fun c hc=>?_⟩
 rw [hh,Array.getElem?_setIfInBounds,if_neg tO]
 exact h.5 c hc
theorem zDN (W : World) (b : Nat) (s : ByteArray) (pos : Nat) (ty : TypeId) (hb : W.heap[b]? = some (.stringIter s pos)) (h : pos < s.size) (r k : Nat) (hd : Utf8.decode s pos = (r,k)) :
  (Instr.next (.pointer (some ⟨b,0,none⟩)) true ty).run P W = .ok (.tuple #[.bool true,.int .i64 pos,.int .i32 r]) (zKY W b s (pos + k)):=by
 simp only [Instr.next,getObj,setObj,Sem.run_bind,Sem.run,hb,Result.andThen,h,if_true,hd]
 simp [goInt,zKY]
theorem zHI (W : World) (b : Nat) (s : ByteArray) (pos : Nat) (ty : TypeId) (hb : W.heap[b]? = some (.stringIter s pos)) (h : ¬ pos < s.size) :
  (Instr.next (.pointer (some ⟨b,0,none⟩)) true ty).run P W = .ok (.tuple #[.bool false]) W:=by
 simp [Instr.next,getObj,Sem.run,hb,h]
theorem zJU {n m : Nat} {w W W2 : World} (h : Below n w W) (k : Below m W W2) (hm : n ≤ m) : Below n w W2:=⟨k.1.trans h.1,k.2.trans h.2,k.3.trans h.3,Nat.le_trans h.4 k.4,fun c hc=>(k.5 c tO).trans (h.5 c hc)⟩
theorem zJV {s : ByteArray} {i k : Nat} (h : Lib.NoAny s.data.toList [44,34,10,13] i) (hk : ∀ j,j < k → 128 ≤ (s.get! (i + j)).toNat) : Lib.NoAny s.data.toList [44,34,10,13] (i + k):=fun j b hj hb=>by
 by_cases hlt : j < i
 ·exact h j b hlt hb
 ·have hl:=(zg hb).1
  rw [← Lib.size_eq] at hl
  have hx:=Lib.data_getElem? s j hl
  rw [hb] at hx
  have hx:=Option.some.inj hx
  have h2:=hk (j - i) tO
  have e : i + (j - i) = j:=by omega
  have e2 : s.get! j = s[j]'hl:=get_at s j hl
  rw [e,e2,← hx] at h2
  have n44 : (b == 44) = false:=tN (fun e=>by subst e; revert h2; decide)
  have n34 : (b == 34) = false:=tN (fun e=>by subst e; revert h2; decide)
  have n10 : (b == 10) = false:=tN (fun e=>by subst e; revert h2; decide)
  have n13 : (b == 13) = false:=tN (fun e=>by subst e; revert h2; decide)
  simp [List.contains,List.elem,n44,n34,n10,n13]
set_option maxHeartbeats 4000000 in
set_option maxRecDepth 1000000 in
theorem zFN (L : Lays.n153 P ρ) (s : ByteArray) (w : World) (h8 : s.size ≤ 8) :
  Calls P (ρ.f 153) #[.string s,.string ⟨#[44,34,10,13]⟩] w fun e w'=>e = .returned (.int .i64 (Lib.indexAny s.data.toList [44,34,10,13])) ∧ Below w.heap.size w w':=by
 have h8z : decide ((8 : Int) < (s.size : Int)) = false:=tF
 have t3:=L.t3; have a3:=L.a3; have z3:=L.z3; have v3:=L.v3
 have t4:=L.t4; have a4:=L.a4; have z4:=L.z4; have v4:=L.v4
 have t5:=L.t5; have a5:=L.a5; have z5:=L.z5; have v5:=L.v5
 have t9:=L.t9; have a9:=L.a9; have z9:=L.z9; have v9:=L.v9
 have t21:=L.t21; have a21:=L.a21; have z21:=L.z21; have v21:=L.v21
 have e152 : ∀ args w,(callFunc (ρ.f 152) args).run P w = .ok (.enter (ρ.f 152) args) w:=enters_of L.f152 (by kernel_rfl) rfl
 have e226 : ∀ args w,(callFunc (ρ.f 226) args).run P w = .ok (.enter (ρ.f 226) args) w:=enters_of L.f226 (by kernel_rfl) rfl
 go_enter L.f153,Body.n153_ntmps ρ
 go_wp2_with (go_at_fn (ρ.f 226); refine (Any.strings_shouldUseASCIISet { L with } _ _).mono ?_; rintro e w' ⟨rfl,hw⟩; rw [hw,h8z])
 go_loopg [9,10] s.size (fun g _ _ wx=>∃ i : Nat,i + g = s.size ∧ wx.heap[w.heap.size]? = some (.stringIter s i) ∧ Below w.heap.size w wx ∧ Lib.NoAny s.data.toList [44,34,10,13] i)
 case atStart=>exact ⟨0,by omega,World.iter_heap w s 0,(Below.refl _ _).alloc (Nat.le_refl _) _,Lib.NoAny.zero _ _⟩
 case round=>
  obtain ⟨i,hig,hit,hbel,hno⟩:=hrel
  have HN : Aside (Lib.NoAny s.data.toList [44,34,10,13] i):=hno
  have HB : Aside (Below w.heap.size w wr):=hbel
  have HI : Aside (wr.heap[w.heap.size]? = some (.stringIter s i)):=hit
  clear hno hbel
  have hlt : w.heap.size < wr.heap.size:=(Array.getElem?_eq_some_iff.1 hit).1
  cases gk with
  | zero=>
   obtain rfl : i = s.size:=by omega
   have hnx:=fun ty=>zHI (P:=P) wr w.heap.size s s.size ty hit tO
   clear hit
   go_wp2
   go_ret
   exact ⟨by rw [Lib.indexAny_none (by rw [← Lib.size_eq]; exact HN.out)]; rfl,HB.out⟩
  | succ g=>
   have hi : i < s.size:=by omega
   obtain ⟨x,hx⟩ : ∃ x : UInt8,s[i]'hi = x:=⟨_,rfl⟩
   have hxl : s.data.toList[i]? = some x:=by rw [← hx]; exact Lib.data_getElem? s i hi
   have Hx : Aside (s.data.toList[i]? = some x):=hxl
   by_cases hx128 : x.toNat < 128
   ·have hd:=decode_ascii s i hi (by rw [hx]; exact hx128)
    rw [hx] at hd
    have hnx:=fun ty=>zDN (P:=P) wr w.heap.size s i ty hit hi _ _ hd
    clear hxl hx hit hd
    have hcon:=Lib.contains_iff_indexByte [44,34,10,13] x
    have hback : ((x.toNat : Int)).toNat.toUInt8 = x:=by simp
    cases hin : ([44,34,10,13] : List UInt8).contains x
    ·rw [hin] at hcon
     have hlt2 : ¬ ((0 : Int) ≤ Lib.indexByte [44,34,10,13] x):=of_decide_eq_false hcon.symm
     clear hcon
     have hin : Aside (([44,34,10,13] : List UInt8).contains x = false):=hin
     go_wp2_with (go_at_fn (ρ.f 152); refine (Any.strings_IndexRune_ascii { L with } _ _ _ tO tO).mono ?_; rintro e w' ⟨rfl,hw⟩; rw [hw,hback])
     go_roundg g
     case measure=>omega
     case rel=>exact ⟨i + 1,by omega,zIZ _ _ _ _ hlt,zCJ HB.out (Nat.le_refl _) _ _,HN.out.succ Hx.out hin.out⟩
    ·rw [hin] at hcon
     have hge : (0 : Int) ≤ Lib.indexByte [44,34,10,13] x:=of_decide_eq_true hcon.symm
     clear hcon
     have hin : Aside (([44,34,10,13] : List UInt8).contains x = true):=hin
     go_wp2_with (go_at_fn (ρ.f 152); refine (Any.strings_IndexRune_ascii { L with } _ _ _ tO tO).mono ?_; rintro e w' ⟨rfl,hw⟩; rw [hw,hback])
     go_ret
     exact ⟨by rw [Lib.indexAny_hit HN.out Hx.out hin.out]; rfl,zCJ HB.out (Nat.le_refl _) _ _⟩
   ·have hb : 128 ≤ (s.get! i).toNat:=by
     have e : s.get! i = s[i]'hi:=get_at s i hi
     rw [e,hx]; omega
    obtain ⟨hr,hv,hk1,hk2,hk3⟩:=zIX s i hi hb
    obtain ⟨⟨r,k⟩,hd⟩ : ∃ p,Utf8.decode s i = p:=⟨_,rfl⟩
    rw [hd] at hr hv hk1 hk2 hk3
    dsimp only at hr hv hk1 hk2 hk3
    have hnx:=fun ty=>zDN (P:=P) wr w.heap.size s i ty hit hi _ _ hd
    have HK : Aside (∀ j,j < k → 128 ≤ (s.get! (i + j)).toNat):=hk3
    clear hxl hx hit hd hb hk3
    go_wp2_with (go_at_fn (ρ.f 152); refine (zHH { L with } (r : Int) _ tO hv).mono ?_; rintro e w2 ⟨rfl,hw2⟩)
    have hbe:=zJU (zCJ HB.out (Nat.le_refl _) s (i + k)) hw2 (by rw [zDM]; omega)
    have hit2 : w2.heap[w.heap.size]? = some (.stringIter s (i + k)):=(hw2.5 _ (by rw [zDM]; exact hlt)).trans (zIZ _ _ _ _ hlt)
    have hno2:=zJV HN.out HK.out
    have HE : Aside (Below w.heap.size w w2):=hbe
    have HT : Aside (w2.heap[w.heap.size]? = some (.stringIter s (i + k))):=hit2
    have HO : Aside (Lib.NoAny s.data.toList [44,34,10,13] (i + k)):=hno2
    clear hbe hit2 hno2 hw2
    go_wp2
    go_roundg (g + 1 - k)
    case measure=>omega
    case rel=>exact ⟨i + k,by omega,HT.out,HE.out,HO.out⟩
set_option maxHeartbeats 1000000 in
theorem zFO (L : Lays.n150 P ρ) (h116 : (P.info? (ρ.t 116)).map (fun i=>(i.zero,i.size)) = some (some (.agg (Array.replicate 256 (.bool false))),256)) (s : ByteArray) (w : World) (hs : s.size < 4294967281) :
  Calls P (ρ.f 150) #[.string s,.string ⟨#[44,34,10,13]⟩] w fun e w'=>e = .returned (.bool (Lib.containsAny s.data.toList [44,34,10,13])) ∧ Below w.heap.size w w':=by
 have c : Calls P (ρ.f 153) #[.string s,.string ⟨#[44,34,10,13]⟩] w fun e w'=>e = .returned (.int .i64 (Lib.indexAny s.data.toList [44,34,10,13])) ∧ Below w.heap.size w w':=by
  by_cases h8 : s.size ≤ 8
  ·exact zFN { L with } s w h8
  ·refine (Any.strings_IndexAny_long { L with } (zero_of_info h116).1 (zero_of_info h116).2 s ⟨#[44,34,10,13]⟩ w (by show 2 ≤ 4; decide) tO hs (by show 4 < 4294967281; decide) (fun j b hb=>?_)).mono fun e w' ⟨h1,h2⟩=>⟨h1, ?_⟩
   ·have hm:=List.mem_of_getElem? hb
    have hm : b ∈ ([44,34,10,13] : List UInt8):=hm
    simp only [List.mem_cons,List.not_mem_nil,or_false] at hm
    rcases hm with rfl | rfl | rfl | rfl <;> decide
   ·rw [h2]
    exact ((Below.refl _ _).alloc (Nat.le_refl _) _).alloc (by simp) _
 have t3:=L.t3; have a3:=L.a3; have z3:=L.z3; have v3:=L.v3
 have t4:=L.t4; have a4:=L.a4; have z4:=L.z4; have v4:=L.v4
 have t9:=L.t9; have a9:=L.a9; have z9:=L.z9; have v9:=L.v9
 have e153 : ∀ args w,(callFunc (ρ.f 153) args).run P w = .ok (.enter (ρ.f 153) args) w:=enters_of L.f153 (by kernel_rfl) rfl
 go_enter L.f150,Body.n150_ntmps ρ
 go_wp2_with (go_at_fn (ρ.f 153); refine c.mono ?_; rintro e w' ⟨rfl,hw⟩)
 go_ret
 exact ⟨rfl,hw⟩
end Go.Proofs
namespace Go.AM
open Go
def zHJ (part new : List UInt8) : Nat → List UInt8 → Nat × List UInt8
 | 0,_=>(0,[])
 | _ + 1,[]=>(0,[])
 | k + 1,c :: r=>if part.isPrefixOf (c :: r) = true then ((zHJ part new k ((c :: r).drop part.length)).1 + 1,new ++ (zHJ part new k ((c :: r).drop part.length)).2) else ((zHJ part new k r).1,c :: (zHJ part new k r).2)
def zDv (part new s : List UInt8) : Nat × List UInt8:=zHJ part new s.length s
theorem zIa (part new : List UInt8) (hp : 1 ≤ part.length) : ∀ (k m : Nat) (s : List UInt8),s.length ≤ k → s.length ≤ m → zHJ part new k s = zHJ part new m s:=by
 intro k
 induction k with
 | zero=>
  intro m s h1 _
  obtain rfl : s = []:=List.length_eq_zero_iff.1 tO
  cases m <;> rfl
 | succ k ih=>
  intro m s h1 h2
  cases s with
  | nil=>cases m <;> rfl
  | cons c r=>
   cases m with
   | zero=>simp at h2
   | succ m=>
    simp only [List.length_cons] at h1 h2
    unfold zHJ
    rw [ih m r tO tO,ih m ((c :: r).drop part.length) (by simp only [List.length_drop,List.length_cons]; omega) (by simp only [List.length_drop,List.length_cons]; omega)]
theorem zEY (part new : List UInt8) (hp : 1 ≤ part.length) (s : List UInt8) (h : part.isPrefixOf s = true) : zDv part new s = ((zDv part new (s.drop part.length)).1 + 1,new ++ (zDv part new (s.drop part.length)).2):=by
 cases s with
 | nil=>cases part with
  | nil=>simp at hp
  | cons a t=>simp at h
 | cons c r=>
  have e : zDv part new ((c :: r).drop part.length) = zHJ part new r.length ((c :: r).drop part.length):=by
   unfold zDv
   exact zIa part new hp _ _ _ (Nat.le_refl _) (by simp only [List.length_drop,List.length_cons]; omega)
  rw [e]
  unfold zDv
  show zHJ part new (r.length + 1) (c :: r) = _
  conv=>lhs; unfold zHJ
  rw [if_pos h]
theorem zDO (part new : List UInt8) (c : UInt8) (r : List UInt8) (h : part.isPrefixOf (c :: r) = false) : zDv part new (c :: r) = ((zDv part new r).1,c :: (zDv part new r).2):=by
 unfold zDv
 show zHJ part new (r.length + 1) (c :: r) = _
 conv=>lhs; unfold zHJ
 rw [if_neg (by rw [h]; simp)]
theorem zKG {part s : List UInt8} (h : part.isPrefixOf s = true) : s = part ++ s.drop part.length:=by
 obtain ⟨t,rfl⟩:=List.isPrefixOf_iff_prefix.1 h
 simp
theorem zIb (part : List UInt8) (hp : 1 ≤ part.length) : ∀ (k : Nat) (s : List UInt8),s.length ≤ k → (zDv part part s).2 = s:=by
 intro k
 induction k with
 | zero=>
  intro s h
  obtain rfl : s = []:=List.length_eq_zero_iff.1 tO
  rfl
 | succ k ih=>
  intro s h
  cases s with
  | nil=>rfl
  | cons c r=>
   cases hb : part.isPrefixOf (c :: r) with
   | true=>
    rw [zEY part part hp _ hb]
    show part ++ (zDv part part ((c :: r).drop part.length)).2 = c :: r
    rw [ih _ (by simp only [List.length_drop,List.length_cons] at *; omega)]
    exact (zKG hb).symm
   | false=>
    rw [zDO part part c r hb]
    show c :: (zDv part part r).2 = c :: r
    rw [ih r (by simp only [List.length_cons] at h; omega)]
theorem zFP (part : List UInt8) (hp : 1 ≤ part.length) : Lib.index [] part = -1:=by
 unfold Lib.index
 cases part with
 | nil=>simp at hp
 | cons a t=>rfl
theorem zFQ {part s : List UInt8} (h : part.isPrefixOf s = true) : Lib.index s part = 0:=by
 cases s with
 | nil=>unfold Lib.index; cases part with
  | nil=>rfl
  | cons a t=>simp at h
 | cons c r=>unfold Lib.index; rw [if_pos h]
theorem zDw (part : List UInt8) (c : UInt8) (r : List UInt8) (h : part.isPrefixOf (c :: r) = false) : Lib.index (c :: r) part = if Lib.index r part = -1 then -1 else Lib.index r part + 1:=by
 conv=>lhs; unfold Lib.index
 rw [h]
 simp only [Bool.false_eq_true,if_false,beq_iff_eq]
theorem zBT (part : List UInt8) (hp : 1 ≤ part.length) : ∀ (k m : Nat) (s : List UInt8),s.length < k → s.length < m → Lib.countFrom part k s = Lib.countFrom part m s:=by
 intro k
 induction k with
 | zero=>intro m s h _; omega
 | succ k ih=>
  intro m s h1 h2
  cases m with
  | zero=>omega
  | succ m=>
   unfold Lib.countFrom
   by_cases hi : (Lib.index s part == -1) = true
   ·rw [if_pos hi,if_pos hi]
   ·rw [if_neg hi,if_neg hi]
    have hge:=Lib.index_ge s part
    have hne : Lib.index s part ≠ -1:=fun e=>hi (tE e)
    have hr:=Lib.index_room s part tO
    rw [ih m (s.drop ((Lib.index s part).toNat + part.length)) (by rw [List.length_drop]; omega) (by rw [List.length_drop]; omega)]
theorem zHK (part : List UInt8) (hp : 1 ≤ part.length) (s : List UInt8) (h : part.isPrefixOf s = true) : Lib.count s part = 1 + Lib.count (s.drop part.length) part:=by
 have hi:=zFQ h
 have hr:=Lib.index_room s part tO
 unfold Lib.count
 conv=>lhs; unfold Lib.countFrom
 rw [if_neg (by rw [hi]; simp),hi]
 show 1 + Lib.countFrom part s.length (s.drop (0 + part.length)) = _
 rw [Nat.zero_add,zBT part hp s.length ((s.drop part.length).length + 1) _ (by rw [List.length_drop]; omega) tO]
theorem zF1 (part : List UInt8) (hp : 1 ≤ part.length) (c : UInt8) (r : List UInt8) (h : part.isPrefixOf (c :: r) = false) : Lib.count (c :: r) part = Lib.count r part:=by
 have hi:=zDw part c r h
 unfold Lib.count
 conv=>lhs; unfold Lib.countFrom
 conv=>rhs; unfold Lib.countFrom
 by_cases h1 : Lib.index r part = -1
 ·rw [if_pos h1] at hi
  rw [hi,h1]; rfl
 ·rw [if_neg h1] at hi
  have hge:=Lib.index_ge r part
  have hr:=Lib.index_room r part tO
  have n1 : ¬ ((Lib.index (c :: r) part == -1) = true):=fun e=>by have:=beq_iff_eq.1 e; omega
  have n2 : ¬ ((Lib.index r part == -1) = true):=fun e=>by have:=beq_iff_eq.1 e; omega
  rw [if_neg n1,if_neg n2,hi]
  have e : (Lib.index r part + 1).toNat + part.length = ((Lib.index r part).toNat + part.length) + 1:=by omega
  rw [e,List.drop_succ_cons]
  rw [zBT part hp (c :: r).length r.length _ (by simp only [List.length_drop,List.length_cons]; omega) (by rw [List.length_drop]; omega)]
theorem zIc (part new : List UInt8) (c : UInt8) (r : List UInt8) (h : part.isPrefixOf (c :: r) = false) (k : Nat) : Lib.replaceK part new k (c :: r) = c :: Lib.replaceK part new k r:=by
 cases k with
 | zero=>rfl
 | succ k=>
  have hi:=zDw part c r h
  unfold Lib.replaceK
  by_cases h1 : Lib.index r part = -1
  ·rw [if_pos h1] at hi
   rw [hi,h1]; rfl
  ·rw [if_neg h1] at hi
   have hge:=Lib.index_ge r part
   have n1 : ¬ ((Lib.index (c :: r) part == -1) = true):=fun e=>by have:=beq_iff_eq.1 e; omega
   have n2 : ¬ ((Lib.index r part == -1) = true):=fun e=>by have:=beq_iff_eq.1 e; omega
   rw [if_neg n1,if_neg n2,hi]
   have e : (Lib.index r part + 1).toNat = (Lib.index r part).toNat + 1:=by omega
   rw [e,List.take_succ_cons,show (Lib.index r part).toNat + 1 + part.length = ((Lib.index r part).toNat + part.length) + 1 from by omega,List.drop_succ_cons]
   rfl
theorem zJW (part new : List UInt8) (s : List UInt8) (h : part.isPrefixOf s = true) (k : Nat) : Lib.replaceK part new (k + 1) s = new ++ Lib.replaceK part new k (s.drop part.length):=by
 have hi:=zFQ h
 rw [Lib.replaceK_hit part new k s 0 hi]
 simp
theorem zKH (part new : List UInt8) (hp : 1 ≤ part.length) : ∀ (k : Nat) (s : List UInt8),s.length ≤ k → (zDv part new s).1 = Lib.count s part ∧ (zDv part new s).2 = Lib.replaceK part new (Lib.count s part) s:=by
 intro k
 induction k with
 | zero=>
  intro s h
  obtain rfl : s = []:=List.length_eq_zero_iff.1 tO
  have hc : Lib.count [] part = 0:=by
   unfold Lib.count Lib.countFrom
   rw [zFP part hp]; rfl
  rw [hc]
  exact ⟨rfl,rfl⟩
 | succ k ih=>
  intro s h
  cases s with
  | nil=>
   have hc : Lib.count [] part = 0:=by
    unfold Lib.count Lib.countFrom
    rw [zFP part hp]; rfl
   rw [hc]
   exact ⟨rfl,rfl⟩
  | cons c r=>
   cases hb : part.isPrefixOf (c :: r) with
   | true=>
    obtain ⟨h1,h2⟩:=ih ((c :: r).drop part.length) (by simp only [List.length_drop,List.length_cons] at *; omega)
    rw [zEY part new hp _ hb,zHK part hp _ hb,Nat.add_comm 1,zJW part new _ hb]
    exact ⟨by rw [h1],by rw [h2]⟩
   | false=>
    obtain ⟨h1,h2⟩:=ih r (by simp only [List.length_cons] at h; omega)
    rw [zDO part new c r hb,zF1 part hp c r hb,zIc part new c r hb]
    exact ⟨h1,by rw [h2]⟩
theorem zKI (part new s : List UInt8) (hp : 1 ≤ part.length) : (zDv part new s).2 = Lib.replaceAll s part new:=by
 unfold Lib.replaceAll Lib.replace
 by_cases he : (part == new) = true
 ·rw [if_pos he]
  obtain rfl:=beq_iff_eq.1 he
  exact zIb part hp s.length s (Nat.le_refl _)
 ·rw [if_neg he,(zKH part new hp s.length s (Nat.le_refl _)).2]
  unfold Lib.replaceNum
  rw [if_pos (.inl (by decide))]
end Go.AM
