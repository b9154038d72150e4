/-
  The step of the row PickCross: whatever comes in, the law says true, and writes nothing that was there; the variables that are listed are tied to the program's text. No conditions.
-/
import Derived.Test.YtcnogafgcfidnaaGreatDoorGGcrArf
import Derived.Test.YtcnogafgcfidnaaGreatDoorLdQ4
import Derived.SevenTiedAt
import Derived.SizedLaws
set_option linter.all false
set_option maxRecDepth 100000
namespace Go.Proofs.YtcnogafgcfidnaaGreatDoor.pickCross
open Go.ChangeShapes Go.WideShapes Go.RowKit Go.AM
open Go.ChangeMaps (open_string shut_string)
theorem law_walk (v0 v1 v2 v3 : Value) (W : World) (hL : laidMetH Tryz.prog Rows.pickCrossRow.laid W) (hsh : W.ShapedOpen Tryz.prog) {r : Reach} {bb0 bb1 bb2 bb3 : Nat} {held : Bool} {H : Type} {enc : TypeId × Value → H} {dd0 dd1 dd2 dd3 : DataW H} {pp0 pp1 pp2 pp3 : List MemPlace}
  (o0 : Value.okWide Tryz.prog W r bb0 22 v0) (h0 : DataW.Trod enc Tryz.prog W 0 (fun _=>true) held 22 v0 dd0 pp0) (o1 : Value.okWide Tryz.prog W r bb1 3 v1) (h1 : DataW.Trod enc Tryz.prog W 0 (fun _=>true) held 3 v1 dd1 pp1) (o2 : Value.okWide Tryz.prog W r bb2 3 v2) (h2 : DataW.Trod enc Tryz.prog W 0 (fun _=>true) held 3 v2 dd2 pp2) (o3 : Value.okWide Tryz.prog W r bb3 3 v3) (h3 : DataW.Trod enc Tryz.prog W 0 (fun _=>true) held 3 v3 dd3 pp3)
  (hsz : (DataW.weightsEach Tryz.prog (Tryz.f3.params.toList ++ Rows.pickCrossSpec.plain.varTypes Tryz.prog) ([dd0,dd1,dd2,dd3] ++ [])).all (· ≤ reachBytes) = true) :
  Calls Tryz.prog 3 #[v0,v1,v2,v3] W fun e w'=>e = .returned (.bool true) ∧ Below W.heap.size W w':=by
 obtain ⟨ev,hV⟩:=zJw hL
 obtain ⟨⟨m,hm⟩,hms⟩:=zIz hsh
 obtain ⟨x0,e0,r0⟩:=zC0 (m:=9) (s:=.sl false [.sl true [.int .i64,.int .i64,.str]]) (by kernel_rfl) o0 h0
 obtain ⟨t0,u0,w0⟩:=zN8 e0
 obtain ⟨x1,e1,r1⟩:=zC0 (m:=9) (s:=.int .i64) (by kernel_rfl) o1 h1
 obtain ⟨a1,rfl,i1⟩:=zOG e1
 obtain ⟨x2,e2,r2⟩:=zC0 (m:=9) (s:=.int .i64) (by kernel_rfl) o2 h2
 obtain ⟨a2,rfl,i2⟩:=zOG e2
 obtain ⟨x3,e3,r3⟩:=zC0 (m:=9) (s:=.int .i64) (by kernel_rfl) o3 h3
 obtain ⟨a3,rfl,i3⟩:=zOG e3
 exact zI0 hV hm hms Tryz.func3 (by kernel_rfl) (by kernel_rfl) (Go.AM.Gs.g_law x0 t0 a1 a2 a3 [] (w0 []) (fun i r hr v hv=>u0 r (List.mem_of_getElem? hr) v hv)) (zEv r0 (zEv r1 (zEv r2 (zEv r3 (zO9 _ _ _ _)))))
set_option maxRecDepth 100000 in
theorem lifted (os : Os) (started : os.Started) (H : Type) (enc : TypeId × Value → H) :
  ReturnsInHanded {} Tryz.checked os 3 .any (fun w args=>(Rows.pickCrossSpec.pre enc Tryz.prog Tryz.f3 [] false w args ∧ laidMetH Tryz.prog Rows.pickCrossRow.laid w) ∧ sizedMet enc Tryz.prog Tryz.f3 (OpenSpec.ofChange Rows.pickCrossSpec) false w args)
   (Rows.pickCrossSpec.post enc Tryz.prog Tryz.f3 false true false false):=by
 refine zDD (C:=Tryz.checked) (X:=fun w _=>laidMetH Tryz.prog Rows.pickCrossRow.laid w) (fun _ _ _ hh h=>h.of_heap hh) own started (by kernel_rfl) Tryz.func3
  (zHX (enc:=enc) (C:=Tryz.checked) (os:=os) (X:=fun w _=>laidMetH Tryz.prog Rows.pickCrossRow.laid w) false (zB8 os) #[.slice none 0 0,.int .i64 0,.int .i64 0,.int .i64 0] 8 (zJv os) (zF0 os _) (by kernel_rfl) (by kernel_rfl) (by kernel_rfl) (laidWorld_met os _)) ?_
 intro W base args ds gs before hval0 hW _ hsz hL hsh
 have hval : ∀ (j : Nat) t v,Tryz.f3.params[j]? = some t → args[j]? = some v → Value.okWide Tryz.prog W .any base t v:=hval0
 have hW':=hW
 obtain ⟨p,q,hA0,hV,rfl,hfz,hnd⟩:=hW
 have hA : DataW.TrodAll enc Tryz.prog W 0 (fun _=>true) true Tryz.f3.params.toList args.toList ds p:=hA0
 rw [Tryz.params3] at hA hval
 obtain ⟨v0,vs0,d0,ds0,p0,q0,hargs,rfl,rfl,h0,r0⟩:=trodAll_cons hA
 obtain ⟨v1,vs1,d1,ds1,p1,q1,rfl,rfl,rfl,h1,r1⟩:=trodAll_cons r0
 obtain ⟨v2,vs2,d2,ds2,p2,q2,rfl,rfl,rfl,h2,r2⟩:=trodAll_cons r1
 obtain ⟨v3,vs3,d3,ds3,p3,q3,rfl,rfl,rfl,h3,r3⟩:=trodAll_cons r2
 obtain ⟨rfl,rfl,rfl⟩:=trodAll_nil r3
 obtain rfl : args = #[v0,v1,v2,v3]:=by cases args; simp_all
 obtain ⟨rfl,rfl⟩:=trodVars_none hV
 have lt0 : ∀ x ∈ p0,x.block < W.heap.size:=by obtain ⟨m,hm⟩:=h0; exact DataW.trod_lt m _ _ _ hm
 have lt1 : ∀ x ∈ p1,x.block < W.heap.size:=by obtain ⟨m,hm⟩:=h1; exact DataW.trod_lt m _ _ _ hm
 have lt2 : ∀ x ∈ p2,x.block < W.heap.size:=by obtain ⟨m,hm⟩:=h2; exact DataW.trod_lt m _ _ _ hm
 have lt3 : ∀ x ∈ p3,x.block < W.heap.size:=by obtain ⟨m,hm⟩:=h3; exact DataW.trod_lt m _ _ _ hm
 refine (law_walk v0 v1 v2 v3 W hL hsh (hval 0 22 v0 rfl rfl) h0 (hval 1 3 v1 rfl rfl) h1 (hval 2 3 v2 rfl rfl) h2 (hval 3 3 v3 rfl rfl) h3 hsz).mono fun e W' ⟨he,bel⟩=>?_
 subst he
 exact ⟨_,rfl,_,_,_,[],_,[],hW',trodAll_mk1 (shut_bool Tryz.underlying4 _),(trodAll_cons_mk (Below.trod zIy (by kernel_rfl) (of_decide_eq_true (by kernel_rfl)) h0 bel lt0) (trodAll_cons_mk (Below.trod zIy (by kernel_rfl) (of_decide_eq_true (by kernel_rfl)) h1 bel lt1) (trodAll_cons_mk (Below.trod zIy (by kernel_rfl) (of_decide_eq_true (by kernel_rfl)) h2 bel lt2) (trodAll_cons_mk (Below.trod zIy (by kernel_rfl) (of_decide_eq_true (by kernel_rfl)) h3 bel lt3) trodAll_mk0)))),rfl,bel.frame _,fun h=>by cases h⟩
end Go.Proofs.YtcnogafgcfidnaaGreatDoor.pickCross
