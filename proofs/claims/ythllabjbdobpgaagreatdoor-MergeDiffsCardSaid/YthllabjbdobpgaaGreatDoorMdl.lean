/-
  The step of the row MergeDiffs: whatever three sheets come in, the law says true, and writes nothing that was there; the variables that are listed are tied to the program's text. No conditions.
-/
import Derived.Test.YthllabjbdobpgaaGreatDoorGMw4Gmd
import Derived.Test.YthllabjbdobpgaaGreatDoorGWt2Arf
import Derived.Test.YthllabjbdobpgaaGreatDoorLdQ4
import Derived.SevenTiedAt
import Derived.SizedLaws
set_option linter.all false
set_option maxRecDepth 100000
namespace Go.Proofs.YthllabjbdobpgaaGreatDoor.mergeDiffs
open Go.ChangeShapes Go.WideShapes Go.RowKit Go.AM
open Go.ChangeMaps (open_string shut_string)
theorem law_walk (v0 v1 v2 : Value) (W : World) (hL : laidMetH Tryz.prog Rows.mergeDiffsRow.laid W) (hsh : W.ShapedOpen Tryz.prog) {r : Reach} {bb0 bb1 bb2 : Nat} {held : Bool} {H : Type} {enc : TypeId × Value → H} {dd0 dd1 dd2 : DataW H} {pp0 pp1 pp2 : List MemPlace}
  (o0 : Value.okWide Tryz.prog W r bb0 22 v0) (h0 : DataW.Trod enc Tryz.prog W 0 (fun _=>true) held 22 v0 dd0 pp0) (o1 : Value.okWide Tryz.prog W r bb1 22 v1) (h1 : DataW.Trod enc Tryz.prog W 0 (fun _=>true) held 22 v1 dd1 pp1) (o2 : Value.okWide Tryz.prog W r bb2 22 v2) (h2 : DataW.Trod enc Tryz.prog W 0 (fun _=>true) held 22 v2 dd2 pp2)
  (hsz : (DataW.weightsEach Tryz.prog (Tryz.f4.params.toList ++ Rows.mergeDiffsSpec.plain.varTypes Tryz.prog) ([dd0,dd1,dd2] ++ [])).all (· ≤ reachBytes) = true) :
  Calls Tryz.prog 4 #[v0,v1,v2] W fun e w'=>e = .returned (.bool true) ∧ Below W.heap.size W w':=by
 obtain ⟨ev,hV⟩:=vars_of_laid hL
 obtain ⟨⟨m,hm⟩,hms⟩:=max_of_shaped hsh
 obtain ⟨x0,e0,r0⟩:=zIh (m:=9) (s:=.sl true [.int .i64,.int .i64,.str]) (by kernel_rfl) o0 h0
 obtain ⟨l0,q0,g0,k0,m0⟩:=fl_fils e0
 obtain ⟨x1,e1,r1⟩:=zIh (m:=9) (s:=.sl true [.int .i64,.int .i64,.str]) (by kernel_rfl) o1 h1
 obtain ⟨l1,q1,g1,k1,m1⟩:=fl_fils e1
 obtain ⟨x2,e2,r2⟩:=zIh (m:=9) (s:=.sl true [.int .i64,.int .i64,.str]) (by kernel_rfl) o2 h2
 obtain ⟨l2,q2,g2,k2,m2⟩:=fl_fils e2
 exact law_of_good_q hV hm hms Tryz.func4 (by kernel_rfl) (by kernel_rfl) (g_mergeDiffs hV.isI e0 e1 e2 (fun q k d he=>by subst he; have hz:=sized_list (j:=2) (t:=22) hsz (by kernel_rfl) rfl Tryz.underlying22 h2 r2; rw [show Tryz.prog.bytesOf 43 = 32 from by kernel_rfl] at hz; omega) []) (zMS r0 (zMS r1 (zMS r2 (relL_nil _ _ _ _))))
set_option maxRecDepth 100000 in
theorem lifted (os : Os) (started : os.Started) (H : Type) (enc : TypeId × Value → H) :
  ReturnsInHanded {} Tryz.checked os 4 .any (fun w args=>(Rows.mergeDiffsSpec.pre enc Tryz.prog Tryz.f4 [] false w args ∧ laidMetH Tryz.prog Rows.mergeDiffsRow.laid w) ∧ sizedMet enc Tryz.prog Tryz.f4 (OpenSpec.ofChange Rows.mergeDiffsSpec) false w args)
   (Rows.mergeDiffsSpec.post enc Tryz.prog Tryz.f4 false true false false):=by
 refine zG7 (C:=Tryz.checked) (X:=fun w _=>laidMetH Tryz.prog Rows.mergeDiffsRow.laid w) (fun _ _ _ hh h=>h.of_heap hh) own started (by kernel_rfl) Tryz.func4
  (witness_shaped (enc:=enc) (C:=Tryz.checked) (os:=os) (X:=fun w _=>laidMetH Tryz.prog Rows.mergeDiffsRow.laid w) false (zEt os) #[.slice none 0 0,.slice none 0 0,.slice none 0 0] 8 (laidWorld_os os) (zLH os _) (by kernel_rfl) (by kernel_rfl) (by kernel_rfl) (laidWorld_met os _)) ?_
 intro W base args ds gs before hval0 hW _ hsz hL hsh
 have hval : ∀ (j : Nat) t v,Tryz.f4.params[j]? = some t → args[j]? = some v → Value.okWide Tryz.prog W .any base t v:=hval0
 have hW':=hW
 obtain ⟨p,q,hA0,hV,rfl,hfz,hnd⟩:=hW
 have hA : DataW.TrodAll enc Tryz.prog W 0 (fun _=>true) true Tryz.f4.params.toList args.toList ds p:=hA0
 rw [Tryz.params4] at hA hval
 obtain ⟨v0,vs0,d0,ds0,p0,q0,hargs,rfl,rfl,h0,r0⟩:=trodAll_cons hA
 obtain ⟨v1,vs1,d1,ds1,p1,q1,rfl,rfl,rfl,h1,r1⟩:=trodAll_cons r0
 obtain ⟨v2,vs2,d2,ds2,p2,q2,rfl,rfl,rfl,h2,r2⟩:=trodAll_cons r1
 obtain ⟨rfl,rfl,rfl⟩:=trodAll_nil r2
 obtain rfl : args = #[v0,v1,v2]:=by cases args; simp_all
 obtain ⟨rfl,rfl⟩:=trodVars_none hV
 have lt0 : ∀ x ∈ p0,x.block < W.heap.size:=by obtain ⟨m,hm⟩:=h0; exact DataW.trod_lt m _ _ _ hm
 have lt1 : ∀ x ∈ p1,x.block < W.heap.size:=by obtain ⟨m,hm⟩:=h1; exact DataW.trod_lt m _ _ _ hm
 have lt2 : ∀ x ∈ p2,x.block < W.heap.size:=by obtain ⟨m,hm⟩:=h2; exact DataW.trod_lt m _ _ _ hm
 refine (law_walk v0 v1 v2 W hL hsh (hval 0 22 v0 rfl rfl) h0 (hval 1 22 v1 rfl rfl) h1 (hval 2 22 v2 rfl rfl) h2 hsz).mono fun e W' ⟨he,bel⟩=>?_
 subst he
 exact ⟨_,rfl,_,_,_,[],_,[],hW',trodAll_mk1 (shut_bool Tryz.underlying4 _),(trodAll_cons_mk (Below.trod laidOut (by kernel_rfl) (zNc (by kernel_rfl)) h0 bel lt0) (trodAll_cons_mk (Below.trod laidOut (by kernel_rfl) (zNc (by kernel_rfl)) h1 bel lt1) (trodAll_cons_mk (Below.trod laidOut (by kernel_rfl) (zNc (by kernel_rfl)) h2 bel lt2) trodAll_mk0))),rfl,bel.frame _,fun h=>by cases h⟩
end Go.Proofs.YthllabjbdobpgaaGreatDoor.mergeDiffs
