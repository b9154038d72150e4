/-
  The step of the row FormatSigns: whatever number, noughts and truth come in, the law says true, and writes nothing that was there; the variables that are listed are tied to the program's text. No conditions.
-/
import Derived.Test.YtgcggndacnmhfaaDoorGAtpArf
import Derived.Test.YtgcggndacnmhfaaDoorLdQ4
import Derived.SevenTiedAt
import Derived.SizedLaws
set_option linter.all false
set_option maxRecDepth 100000
namespace Go.Proofs.YtgcggndacnmhfaaDoor.formatSigns
open Go.ChangeShapes Go.WideShapes Go.RowKit Go.AM
open Go.ChangeMaps (open_string shut_string)
theorem law_walk (v0 v1 v2 : Value) (W : World) (hL : laidMetH Tryd.prog Rows.formatSignsRow.laid W) (hsh : W.ShapedOpen Tryd.prog) {r : Reach} {bb0 bb1 bb2 : Nat} {held : Bool} {H : Type} {enc : TypeId × Value → H} {dd0 dd1 dd2 : DataW H} {pp0 pp1 pp2 : List MemPlace}
  (o0 : Value.okWide Tryd.prog W r bb0 3 v0) (h0 : DataW.Trod enc Tryd.prog W 0 (fun _=>true) held 3 v0 dd0 pp0) (o1 : Value.okWide Tryd.prog W r bb1 3 v1) (h1 : DataW.Trod enc Tryd.prog W 0 (fun _=>true) held 3 v1 dd1 pp1) (o2 : Value.okWide Tryd.prog W r bb2 4 v2) (h2 : DataW.Trod enc Tryd.prog W 0 (fun _=>true) held 4 v2 dd2 pp2)
  (hsz : (DataW.weightsEach Tryd.prog (Tryd.f3.params.toList ++ Rows.formatSignsSpec.plain.varTypes Tryd.prog) ([dd0,dd1,dd2] ++ [])).all (· ≤ reachBytes) = true) :
  Calls Tryd.prog 3 #[v0,v1,v2] W fun e w'=>e = .returned (.bool true) ∧ Below W.heap.size W w':=by
 obtain ⟨ev,hV⟩:=zGD hL
 obtain ⟨⟨m,hm⟩,hms⟩:=zFP hsh
 obtain ⟨x0,e0,r0⟩:=zCL (m:=9) (s:=.int .i64) (by kernel_rfl) o0 h0
 obtain ⟨a0,rfl,i0⟩:=zKn e0
 obtain ⟨x1,e1,r1⟩:=zCL (m:=9) (s:=.int .i64) (by kernel_rfl) o1 h1
 obtain ⟨a1,rfl,i1⟩:=zKn e1
 obtain ⟨x2,e2,r2⟩:=zCL (m:=9) (s:=.bool) (by kernel_rfl) o2 h2
 obtain ⟨b2,rfl⟩:=zLV e2
 exact zFQ hV hm hms Tryd.func3 (by kernel_rfl) (by kernel_rfl) (g_law a0 a1 b2 i0 []) (zDx r0 (zDx r1 (zDx r2 (zJ0 _ _ _ _))))
set_option maxRecDepth 100000 in
theorem lifted (os : Os) (started : os.Started) (H : Type) (enc : TypeId × Value → H) :
  ReturnsInHanded {} Tryd.checked os 3 .any (fun w args=>(Rows.formatSignsSpec.pre enc Tryd.prog Tryd.f3 [] false w args ∧ laidMetH Tryd.prog Rows.formatSignsRow.laid w) ∧ sizedMet enc Tryd.prog Tryd.f3 (OpenSpec.ofChange Rows.formatSignsSpec) false w args)
   (Rows.formatSignsSpec.post enc Tryd.prog Tryd.f3 false true false false):=by
 refine zBi (C:=Tryd.checked) (X:=fun w _=>laidMetH Tryd.prog Rows.formatSignsRow.laid w) (fun _ _ _ hh h=>h.of_heap hh) own started (by kernel_rfl) Tryd.func3
  (zEP (enc:=enc) (C:=Tryd.checked) (os:=os) (X:=fun w _=>laidMetH Tryd.prog Rows.formatSignsRow.laid w) false (zAt os) #[.int .i64 0,.int .i64 0,.bool false] 8 (zGC os) (zDJ os _) (by kernel_rfl) (by kernel_rfl) (by kernel_rfl) (laidWorld_met os _)) ?_
 intro W base args ds gs before hval0 hW _ hsz hL hsh
 have hval : ∀ (j : Nat) t v,Tryd.f3.params[j]? = some t → args[j]? = some v → Value.okWide Tryd.prog W .any base t v:=hval0
 have hW':=hW
 obtain ⟨p,q,hA0,hV,rfl,hfz,hnd⟩:=hW
 have hA : DataW.TrodAll enc Tryd.prog W 0 (fun _=>true) true Tryd.f3.params.toList args.toList ds p:=hA0
 rw [Tryd.params3] at hA hval
 obtain ⟨v0,vs0,d0,ds0,p0,q0,hargs,rfl,rfl,h0,r0⟩:=trodAll_cons hA
 obtain ⟨v1,vs1,d1,ds1,p1,q1,rfl,rfl,rfl,h1,r1⟩:=trodAll_cons r0
 obtain ⟨v2,vs2,d2,ds2,p2,q2,rfl,rfl,rfl,h2,r2⟩:=trodAll_cons r1
 obtain ⟨rfl,rfl,rfl⟩:=trodAll_nil r2
 obtain rfl : args = #[v0,v1,v2]:=by cases args; simp_all
 obtain ⟨rfl,rfl⟩:=trodVars_none hV
 have lt0 : ∀ x ∈ p0,x.block < W.heap.size:=by obtain ⟨m,hm⟩:=h0; exact DataW.trod_lt m _ _ _ hm
 have lt1 : ∀ x ∈ p1,x.block < W.heap.size:=by obtain ⟨m,hm⟩:=h1; exact DataW.trod_lt m _ _ _ hm
 have lt2 : ∀ x ∈ p2,x.block < W.heap.size:=by obtain ⟨m,hm⟩:=h2; exact DataW.trod_lt m _ _ _ hm
 refine (law_walk v0 v1 v2 W hL hsh (hval 0 3 v0 rfl rfl) h0 (hval 1 3 v1 rfl rfl) h1 (hval 2 4 v2 rfl rfl) h2 hsz).mono fun e W' ⟨he,bel⟩=>?_
 subst he
 exact ⟨_,rfl,_,_,_,[],_,[],hW',trodAll_mk1 (shut_bool Tryd.underlying4 _),(trodAll_cons_mk (Below.trod zGn (by kernel_rfl) (of_decide_eq_true (by kernel_rfl)) h0 bel lt0) (trodAll_cons_mk (Below.trod zGn (by kernel_rfl) (of_decide_eq_true (by kernel_rfl)) h1 bel lt1) (trodAll_cons_mk (Below.trod zGn (by kernel_rfl) (of_decide_eq_true (by kernel_rfl)) h2 bel lt2) trodAll_mk0))),rfl,bel.frame _,fun h=>by cases h⟩
end Go.Proofs.YtgcggndacnmhfaaDoor.formatSigns
