/- Several texts of mine in one (Fgl, Fgj, Fgo, Fgk). Own work. -/
import Derived.Test.YtmmbcogejaofpaaGreatDoorGfg
import Derived.Test.YtmmbcogejaofpaaGreatDoorGDlgArf
import Derived.Test.YtmmbcogejaofpaaGreatDoorLdQ4
import Derived.SevenTiedAt
import Derived.SizedLaws
import Derived.Test.YtmmbcogejaofpaaGreatDoorRows
import Derived.JoinedOf
import Derived.KernelRfl
set_option linter.all false
set_option maxRecDepth 100000
namespace Go.Proofs.YtmmbcogejaofpaaGreatDoor.findGone
open Go.ChangeShapes Go.WideShapes Go.RowKit Go.AM
open Go.ChangeMaps (open_string shut_string)
theorem law_walk (v0 v1 v2 : Value) (W : World) (hL : laidMetH Tryz.prog Rows.findGoneRow.laid W) (hsh : W.ShapedOpen Tryz.prog) {r : Reach} {bb0 bb1 bb2 : Nat} {held : Bool} {H : Type} {enc : TypeId × Value → H} {dd0 dd1 dd2 : DataW H} {pp0 pp1 pp2 : List MemPlace}
  (o0 : Value.okWide Tryz.prog W r bb0 22 v0) (h0 : DataW.Trod enc Tryz.prog W 0 (fun _=>true) held 22 v0 dd0 pp0) (o1 : Value.okWide Tryz.prog W r bb1 5 v1) (h1 : DataW.Trod enc Tryz.prog W 0 (fun _=>true) held 5 v1 dd1 pp1) (o2 : Value.okWide Tryz.prog W r bb2 9 v2) (h2 : DataW.Trod enc Tryz.prog W 0 (fun _=>true) held 9 v2 dd2 pp2)
  (hsz : (DataW.weightsEach Tryz.prog (Tryz.f5.params.toList ++ Rows.findGoneSpec.plain.varTypes Tryz.prog) ([dd0,dd1,dd2] ++ [])).all (· ≤ reachBytes) = true) :
  Calls Tryz.prog 5 #[v0,v1,v2] W fun e w'=>e = .returned (.bool true) ∧ Below W.heap.size W w':=by
 obtain ⟨ev,hV⟩:=vars_of_laid hL
 obtain ⟨⟨m,hm⟩,hms⟩:=max_of_shaped hsh
 obtain ⟨x0,e0,r0⟩:=zFI (m:=9) (s:=.sl true [.int .i64,.int .i64,.str]) (by kernel_rfl) o0 h0
 obtain ⟨l0,q0,g0,k0,m0⟩:=fl_fils e0
 obtain ⟨x1,e1,r1⟩:=zFI (m:=9) (s:=.int .u8) (by kernel_rfl) o1 h1
 obtain ⟨y1,rfl⟩:=fl_byte e1
 obtain ⟨x2,e2,r2⟩:=zFI (m:=9) (s:=.str) (by kernel_rfl) o2 h2
 obtain ⟨s2,rfl⟩:=fl_str e2
 have z2:=sized_str (j:=2) (t:=9) hsz (by kernel_rfl) rfl Tryz.underlying9 h2 r2
 exact law_of_good_q hV hm hms Tryz.func5 (by kernel_rfl) (by kernel_rfl) (g_findGone hV.isI e0 y1 s2 (Nat.le_of_lt z2) []) (zHz r0 (zHz r1 (zHz r2 (relL_nil _ _ _ _))))
set_option maxRecDepth 100000 in
theorem lifted (os : Os) (started : os.Started) (H : Type) (enc : TypeId × Value → H) :
  ReturnsInHanded {} Tryz.checked os 5 .any (fun w args=>(Rows.findGoneSpec.pre enc Tryz.prog Tryz.f5 [] false w args ∧ laidMetH Tryz.prog Rows.findGoneRow.laid w) ∧ sizedMet enc Tryz.prog Tryz.f5 (OpenSpec.ofChange Rows.findGoneSpec) false w args)
   (Rows.findGoneSpec.post enc Tryz.prog Tryz.f5 false true false false):=by
 refine zEN (C:=Tryz.checked) (X:=fun w _=>laidMetH Tryz.prog Rows.findGoneRow.laid w) (fun _ _ _ hh h=>h.of_heap hh) own started (by kernel_rfl) Tryz.func5
  (witness_shaped (enc:=enc) (C:=Tryz.checked) (os:=os) (X:=fun w _=>laidMetH Tryz.prog Rows.findGoneRow.laid w) false (zCi os) #[.slice none 0 0,.int .u8 0,.string ByteArray.empty] 8 (laidWorld_os os) (zG0 os _) (by kernel_rfl) (by kernel_rfl) (by kernel_rfl) (laidWorld_met os _)) ?_
 intro W base args ds gs before hval0 hW _ hsz hL hsh
 have hval : ∀ (j : Nat) t v,Tryz.f5.params[j]? = some t → args[j]? = some v → Value.okWide Tryz.prog W .any base t v:=hval0
 have hW':=hW
 obtain ⟨p,q,hA0,hV,rfl,hfz,hnd⟩:=hW
 have hA : DataW.TrodAll enc Tryz.prog W 0 (fun _=>true) true Tryz.f5.params.toList args.toList ds p:=hA0
 rw [Tryz.params5] at hA hval
 obtain ⟨v0,vs0,d0,ds0,p0,q0,hargs,rfl,rfl,h0,r0⟩:=trodAll_cons hA
 obtain ⟨v1,vs1,d1,ds1,p1,q1,rfl,rfl,rfl,h1,r1⟩:=trodAll_cons r0
 obtain ⟨v2,vs2,d2,ds2,p2,q2,rfl,rfl,rfl,h2,r2⟩:=trodAll_cons r1
 obtain ⟨rfl,rfl,rfl⟩:=trodAll_nil r2
 obtain rfl : args = #[v0,v1,v2]:=by cases args; simp_all
 obtain ⟨rfl,rfl⟩:=trodVars_none hV
 have lt0 : ∀ x ∈ p0,x.block < W.heap.size:=by obtain ⟨m,hm⟩:=h0; exact DataW.trod_lt m _ _ _ hm
 have lt1 : ∀ x ∈ p1,x.block < W.heap.size:=by obtain ⟨m,hm⟩:=h1; exact DataW.trod_lt m _ _ _ hm
 have lt2 : ∀ x ∈ p2,x.block < W.heap.size:=by obtain ⟨m,hm⟩:=h2; exact DataW.trod_lt m _ _ _ hm
 refine (law_walk v0 v1 v2 W hL hsh (hval 0 22 v0 rfl rfl) h0 (hval 1 5 v1 rfl rfl) h1 (hval 2 9 v2 rfl rfl) h2 hsz).mono fun e W' ⟨he,bel⟩=>?_
 subst he
 exact ⟨_,rfl,_,_,_,[],_,[],hW',trodAll_mk1 (shut_bool Tryz.underlying4 _),(trodAll_cons_mk (Below.trod laidOut (by kernel_rfl) (of_decide_eq_true (by kernel_rfl)) h0 bel lt0) (trodAll_cons_mk (Below.trod laidOut (by kernel_rfl) (of_decide_eq_true (by kernel_rfl)) h1 bel lt1) (trodAll_cons_mk (Below.trod laidOut (by kernel_rfl) (of_decide_eq_true (by kernel_rfl)) h2 bel lt2) trodAll_mk0))),rfl,bel.frame _,fun h=>by cases h⟩
end Go.Proofs.YtmmbcogejaofpaaGreatDoor.findGone
set_option maxRecDepth 100000
namespace Go.Proofs.YtmmbcogejaofpaaGreatDoor.findGone
open Go.ChangeShapes Go.WideShapes
theorem j_keys : Tryz.prog.plainKeys = Rows.findGoneRow.plainKeys:=by kernel_rfl
theorem j_heard : Tryz.prog.stopsHeard = true:=by kernel_rfl
theorem j_enter : Tryz.prog.mayEnter = true:=by kernel_rfl
theorem j_lifts : Tryz.prog.liftsFinal = Rows.findGoneRow.lifted:=by kernel_rfl
theorem j_make : Tryz.prog.make = some Rows.findGoneRow.make:=by kernel_rfl
theorem j_laid : laidOutB Tryz.prog = true:=by kernel_rfl
theorem j_rowed : mapsRowed Tryz.prog = true:=by kernel_rfl
theorem j_stops : Tryz.prog.stops = []:=by kernel_rfl
theorem j_stopKnobs : Tryz.prog.stopKnobs = []:=by kernel_rfl
theorem j_inPlace : Tryz.prog.inPlace 5 = Rows.findGoneRow.inPlace:=by kernel_rfl
theorem j_unf : Tryz.prog.unfollowed 5 = Rows.findGoneRow.unfollowed:=by kernel_rfl
theorem j_rec : Tryz.prog.recurses 5 = Rows.findGoneRow.recurses:=by kernel_rfl
theorem j_named : Tryz.prog.varsNamed 5 = Rows.findGoneRow.named:=by kernel_rfl
theorem j_wf : Rows.findGoneRow.wf (OpenSpec.ofChange Rows.findGoneSpec) = true:=by kernel_rfl
theorem closed : joinedFacts Tryz.prog 5 Tryz.f5 Rows.findGoneSpec Rows.findGoneRow = true:=by
 unfold joinedFacts
 rw [j_keys,j_heard,j_enter,j_lifts,j_make,j_laid,j_rowed,j_stops,j_stopKnobs,j_inPlace,j_unf,j_rec,j_named,j_wf]
 kernel_rfl
end Go.Proofs.YtmmbcogejaofpaaGreatDoor.findGone
set_option maxRecDepth 100000
namespace Go.Proofs.YtmmbcogejaofpaaGreatDoor.findGone
open Go.ChangeShapes Go.WideShapes Go.RowKit Go.AM
open Go.ChangeMaps (open_string shut_string)
theorem over : Rows.findGoneRow.holds Tryz.pinned (OpenSpec.ofChange Rows.findGoneSpec):=
 OpenClaim.holds_of_wide 5 Tryz.f5 rfl rfl rfl rfl rfl rfl rfl ⟨rfl,rfl,rfl,rfl,rfl⟩ rfl rfl rfl rfl rfl (by kernel_rfl) Tryz.func5 closed
  (of_decide_eq_true (by kernel_rfl)) (by unfold Func.isWrapper; first | (rw [if_pos (by decide +kernel)]; kernel_rfl) | (rw [if_neg (by decide +kernel)]; exact ⟨rfl,rfl⟩))
  (fun os started H enc _=>lifted os started H enc)
end Go.Proofs.YtmmbcogejaofpaaGreatDoor.findGone
set_option maxRecDepth 100000
namespace Go.Proofs.YtmmbcogejaofpaaGreatDoor.findGone
theorem w_wf : Rows.findGoneRow.wfByText (OpenSpec.ofChange Rows.findGoneSpec) = true:=by kernel_rfl
theorem w_main : Tryz.prog.mainIs = some (true, "e64b774697b7235d56ce54bc7dfeb99de01b9efc1c7c4e87b3ef142d4525ef08".toList):=by kernel_rfl
theorem w_looks : true = Tryz.prog.looks []:=by kernel_rfl
theorem w_goes : false = Rows.findGoneRow.goesBy Tryz.prog:=by kernel_rfl
theorem w_fn : Tryz.prog.funcNamed "sccsettle/scclaw4.FindGone" = some 5:=by kernel_rfl
theorem w_t22 : Tryz.prog.wantsStandIn 22 = false:=by kernel_rfl
theorem w_t5 : Tryz.prog.wantsStandIn 5 = false:=by kernel_rfl
theorem w_t9 : Tryz.prog.wantsStandIn 9 = false:=by kernel_rfl
end Go.Proofs.YtmmbcogejaofpaaGreatDoor.findGone
