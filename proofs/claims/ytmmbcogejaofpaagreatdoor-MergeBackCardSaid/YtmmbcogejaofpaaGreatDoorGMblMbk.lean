/- Several texts of mine in one (Mbl, Mbj, Mbo, Mbk). Own work. -/
import Derived.Test.YtmmbcogejaofpaaGreatDoorGMw5Gmb
import Derived.Test.YtmmbcogejaofpaaGreatDoorGSshGds
import Derived.Test.YtmmbcogejaofpaaGreatDoorLdQ4
import Derived.SevenTiedAt
import Derived.SizedLaws
import Derived.Test.YtmmbcogejaofpaaGreatDoorRows
import Derived.JoinedOf
import Derived.KernelRfl
set_option linter.all false
set_option maxRecDepth 100000
namespace Go.Proofs.YtmmbcogejaofpaaGreatDoor.mergeBack
open Go.ChangeShapes Go.WideShapes Go.RowKit Go.AM
open Go.ChangeMaps (open_string shut_string)
theorem law_walk (v0 v1 : Value) (W : World) (hL : laidMetH Tryz.prog Rows.mergeBackRow.laid W) (hsh : W.ShapedOpen Tryz.prog) {r : Reach} {bb0 bb1 : Nat} {held : Bool} {H : Type} {enc : TypeId × Value → H} {dd0 dd1 : DataW H} {pp0 pp1 : List MemPlace}
  (o0 : Value.okWide Tryz.prog W r bb0 22 v0) (h0 : DataW.Trod enc Tryz.prog W 0 (fun _=>true) held 22 v0 dd0 pp0) (o1 : Value.okWide Tryz.prog W r bb1 22 v1) (h1 : DataW.Trod enc Tryz.prog W 0 (fun _=>true) held 22 v1 dd1 pp1)
  (hsz : (DataW.weightsEach Tryz.prog (Tryz.f3.params.toList ++ Rows.mergeBackSpec.plain.varTypes Tryz.prog) ([dd0,dd1] ++ [])).all (· ≤ reachBytes) = true) :
  Calls Tryz.prog 3 #[v0,v1] W fun e w'=>e = .returned (.bool true) ∧ Below W.heap.size W w':=by
 obtain ⟨ev,hV⟩:=zHx hL
 obtain ⟨⟨m,hm⟩,hms⟩:=zG9 hsh
 obtain ⟨x0,e0,r0⟩:=zDU (m:=9) (s:=.sl true [.int .i64,.int .i64,.str]) (by kernel_rfl) o0 h0
 obtain ⟨l0,q0,g0,k0,m0⟩:=zHb e0
 obtain ⟨x1,e1,r1⟩:=zDU (m:=9) (s:=.sl true [.int .i64,.int .i64,.str]) (by kernel_rfl) o1 h1
 obtain ⟨l1,q1,g1,k1,m1⟩:=zHb e1
 exact zHA hV hm hms Tryz.func3 (by kernel_rfl) (by kernel_rfl) (g_mergeBack hV.isI e0 e1 []) (zFX r0 (zFX r1 (relL_nil _ _ _ _)))
set_option maxRecDepth 100000 in
theorem lifted (os : Os) (started : os.Started) (H : Type) (enc : TypeId × Value → H) :
  ReturnsInHanded {} Tryz.checked os 3 .any (fun w args=>(Rows.mergeBackSpec.pre enc Tryz.prog Tryz.f3 [] false w args ∧ laidMetH Tryz.prog Rows.mergeBackRow.laid w) ∧ sizedMet enc Tryz.prog Tryz.f3 (OpenSpec.ofChange Rows.mergeBackSpec) false w args)
   (Rows.mergeBackSpec.post enc Tryz.prog Tryz.f3 false true false false):=by
 refine zCm (C:=Tryz.checked) (X:=fun w _=>laidMetH Tryz.prog Rows.mergeBackRow.laid w) (fun _ _ _ hh h=>h.of_heap hh) own started (by kernel_rfl) Tryz.func3
  (zF2 (enc:=enc) (C:=Tryz.checked) (os:=os) (X:=fun w _=>laidMetH Tryz.prog Rows.mergeBackRow.laid w) false (zC0 os) #[.slice none 0 0,.slice none 0 0] 8 (zHw os) (zEz os _) (by kernel_rfl) (by kernel_rfl) (by kernel_rfl) (laidWorld_met os _)) ?_
 intro W base args ds gs before hval0 hW _ hsz hL hsh
 have hval : ∀ (j : Nat) t v,Tryz.f3.params[j]? = some t → args[j]? = some v → Value.okWide Tryz.prog W .any base t v:=hval0
 have hW':=hW
 obtain ⟨p,q,hA0,hV,rfl,hfz,hnd⟩:=hW
 have hA : DataW.TrodAll enc Tryz.prog W 0 (fun _=>true) true Tryz.f3.params.toList args.toList ds p:=hA0
 rw [Tryz.params3] at hA hval
 obtain ⟨v0,vs0,d0,ds0,p0,q0,hargs,rfl,rfl,h0,r0⟩:=trodAll_cons hA
 obtain ⟨v1,vs1,d1,ds1,p1,q1,rfl,rfl,rfl,h1,r1⟩:=trodAll_cons r0
 obtain ⟨rfl,rfl,rfl⟩:=trodAll_nil r1
 obtain rfl : args = #[v0,v1]:=by cases args; simp_all
 obtain ⟨rfl,rfl⟩:=trodVars_none hV
 have lt0 : ∀ x ∈ p0,x.block < W.heap.size:=by obtain ⟨m,hm⟩:=h0; exact DataW.trod_lt m _ _ _ hm
 have lt1 : ∀ x ∈ p1,x.block < W.heap.size:=by obtain ⟨m,hm⟩:=h1; exact DataW.trod_lt m _ _ _ hm
 refine (law_walk v0 v1 W hL hsh (hval 0 22 v0 rfl rfl) h0 (hval 1 22 v1 rfl rfl) h1 hsz).mono fun e W' ⟨he,bel⟩=>?_
 subst he
 exact ⟨_,rfl,_,_,_,[],_,[],hW',trodAll_mk1 (shut_bool Tryz.underlying4 _),(trodAll_cons_mk (Below.trod zJX (by kernel_rfl) (of_decide_eq_true (by kernel_rfl)) h0 bel lt0) (trodAll_cons_mk (Below.trod zJX (by kernel_rfl) (of_decide_eq_true (by kernel_rfl)) h1 bel lt1) trodAll_mk0)),rfl,bel.frame _,fun h=>by cases h⟩
end Go.Proofs.YtmmbcogejaofpaaGreatDoor.mergeBack
set_option maxRecDepth 100000
namespace Go.Proofs.YtmmbcogejaofpaaGreatDoor.mergeBack
open Go.ChangeShapes Go.WideShapes
theorem j_keys : Tryz.prog.plainKeys = Rows.mergeBackRow.plainKeys:=by kernel_rfl
theorem j_heard : Tryz.prog.stopsHeard = true:=by kernel_rfl
theorem j_enter : Tryz.prog.mayEnter = true:=by kernel_rfl
theorem j_lifts : Tryz.prog.liftsFinal = Rows.mergeBackRow.lifted:=by kernel_rfl
theorem j_make : Tryz.prog.make = some Rows.mergeBackRow.make:=by kernel_rfl
theorem j_laid : laidOutB Tryz.prog = true:=by kernel_rfl
theorem j_rowed : mapsRowed Tryz.prog = true:=by kernel_rfl
theorem j_stops : Tryz.prog.stops = []:=by kernel_rfl
theorem zGM : Tryz.prog.stopKnobs = []:=by kernel_rfl
theorem zJn : Tryz.prog.inPlace 3 = Rows.mergeBackRow.inPlace:=by kernel_rfl
theorem j_unf : Tryz.prog.unfollowed 3 = Rows.mergeBackRow.unfollowed:=by kernel_rfl
theorem j_rec : Tryz.prog.recurses 3 = Rows.mergeBackRow.recurses:=by kernel_rfl
theorem j_named : Tryz.prog.varsNamed 3 = Rows.mergeBackRow.named:=by kernel_rfl
theorem j_wf : Rows.mergeBackRow.wf (OpenSpec.ofChange Rows.mergeBackSpec) = true:=by kernel_rfl
theorem closed : joinedFacts Tryz.prog 3 Tryz.f3 Rows.mergeBackSpec Rows.mergeBackRow = true:=by
 unfold joinedFacts
 rw [j_keys,j_heard,j_enter,j_lifts,j_make,j_laid,j_rowed,j_stops,zGM,zJn,j_unf,j_rec,j_named,j_wf]
 kernel_rfl
end Go.Proofs.YtmmbcogejaofpaaGreatDoor.mergeBack
set_option maxRecDepth 100000
namespace Go.Proofs.YtmmbcogejaofpaaGreatDoor.mergeBack
open Go.ChangeShapes Go.WideShapes Go.RowKit Go.AM
open Go.ChangeMaps (open_string shut_string)
theorem over : Rows.mergeBackRow.holds Tryz.pinned (OpenSpec.ofChange Rows.mergeBackSpec):=
 OpenClaim.holds_of_wide 3 Tryz.f3 rfl rfl rfl rfl rfl rfl rfl ⟨rfl,rfl,rfl,rfl,rfl⟩ rfl rfl rfl rfl rfl (by kernel_rfl) Tryz.func3 closed
  (of_decide_eq_true (by kernel_rfl)) (by unfold Func.isWrapper; first | (rw [if_pos (by decide +kernel)]; kernel_rfl) | (rw [if_neg (by decide +kernel)]; exact ⟨rfl,rfl⟩))
  (fun os started H enc _=>lifted os started H enc)
end Go.Proofs.YtmmbcogejaofpaaGreatDoor.mergeBack
set_option maxRecDepth 100000
namespace Go.Proofs.YtmmbcogejaofpaaGreatDoor.mergeBack
theorem w_wf : Rows.mergeBackRow.wfByText (OpenSpec.ofChange Rows.mergeBackSpec) = true:=by kernel_rfl
theorem w_main : Tryz.prog.mainIs = some (true, "e64b774697b7235d56ce54bc7dfeb99de01b9efc1c7c4e87b3ef142d4525ef08".toList):=by kernel_rfl
theorem w_looks : true = Tryz.prog.looks []:=by kernel_rfl
theorem w_goes : false = Rows.mergeBackRow.goesBy Tryz.prog:=by kernel_rfl
theorem w_fn : Tryz.prog.funcNamed "sccsettle/scclaw4.MergeBack" = some 3:=by kernel_rfl
theorem w_t22 : Tryz.prog.wantsStandIn 22 = false:=by kernel_rfl
end Go.Proofs.YtmmbcogejaofpaaGreatDoor.mergeBack
