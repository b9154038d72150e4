/-
  The step of the row FormatShows: whatever value and code come in, the law says true, and writes nothing that was there; the variables that are listed are tied to the program's text. No conditions.
-/
import Derived.Test.YtgcggndacnmhfaaGreatDoorGfo
import Derived.Test.YtgcggndacnmhfaaGreatDoorGAm26Arf
import Derived.Test.YtgcggndacnmhfaaGreatDoorLdQ4
import Derived.SevenTiedAt
import Derived.SizedLaws
set_option linter.all false
set_option maxRecDepth 100000
namespace Go.Proofs.YtgcggndacnmhfaaGreatDoor.formatShows
open Go.ChangeShapes Go.WideShapes Go.RowKit Go.AM
open Go.ChangeMaps (open_string shut_string)
theorem law_walk (v0 v1 : Value) (W : World) (hL : laidMetH Tryz.prog Rows.formatShowsRow.laid W) (hsh : W.ShapedOpen Tryz.prog) {r : Reach} {bb0 bb1 : Nat} {held : Bool} {H : Type} {enc : TypeId × Value → H} {dd0 dd1 : DataW H} {pp0 pp1 : List MemPlace}
  (o0 : Value.okWide Tryz.prog W r bb0 23 v0) (h0 : DataW.Trod enc Tryz.prog W 0 (fun _=>true) held 23 v0 dd0 pp0) (o1 : Value.okWide Tryz.prog W r bb1 9 v1) (h1 : DataW.Trod enc Tryz.prog W 0 (fun _=>true) held 9 v1 dd1 pp1)
  (hsz : (DataW.weightsEach Tryz.prog (Tryz.f3.params.toList ++ Rows.formatShowsSpec.plain.varTypes Tryz.prog) ([dd0,dd1] ++ [])).all (· ≤ reachBytes) = true) :
  Calls Tryz.prog 3 #[v0,v1] W fun e w'=>e = .returned (.bool true) ∧ Below W.heap.size W w':=by
 obtain ⟨ev,hV⟩:=zG8 hL
 obtain ⟨⟨m,hm⟩,hms⟩:=zGG hsh
 obtain ⟨x0,n0,e0,r0⟩:=zFI (m:=9) (ss:=[.int .i64,.int .i64,.str]) (by kernel_rfl) o0 h0
 obtain ⟨f0,g0,c0,d0⟩:=zNq n0 e0
 rw [g0] at r0
 obtain ⟨x1,e1,r1⟩:=zHa (m:=9) (s:=.str) (by kernel_rfl) o1 h1
 obtain ⟨s1,rfl⟩:=zMB e1
 have z1:=zKl (j:=1) (t:=9) hsz (by kernel_rfl) rfl Tryz.underlying9 h1 r1
 exact zGH hV hm hms Tryz.func3 (by kernel_rfl) (by kernel_rfl) (g_law f0.kind f0.num f0.text s1 d0 []) (zGs r0 (zGs r1 (zLM _ _ _ _)))
set_option maxRecDepth 100000 in
theorem lifted (os : Os) (started : os.Started) (H : Type) (enc : TypeId × Value → H) :
  ReturnsInHanded {} Tryz.checked os 3 .any (fun w args=>(Rows.formatShowsSpec.pre enc Tryz.prog Tryz.f3 [] false w args ∧ laidMetH Tryz.prog Rows.formatShowsRow.laid w) ∧ sizedMet enc Tryz.prog Tryz.f3 (OpenSpec.ofChange Rows.formatShowsSpec) false w args)
   (Rows.formatShowsSpec.post enc Tryz.prog Tryz.f3 false true false false):=by
 refine zCD (C:=Tryz.checked) (X:=fun w _=>laidMetH Tryz.prog Rows.formatShowsRow.laid w) (fun _ _ _ hh h=>h.of_heap hh) own started (by kernel_rfl) Tryz.func3
  (zFK (enc:=enc) (C:=Tryz.checked) (os:=os) (X:=fun w _=>laidMetH Tryz.prog Rows.formatShowsRow.laid w) false (zBN os) #[.agg #[.int .i64 0,.int .i64 0,.string ByteArray.empty],.string ByteArray.empty] 8 (zG7 os) (zEB os _) (by kernel_rfl) (by kernel_rfl) (by kernel_rfl) (laidWorld_met os _)) ?_
 intro W base args ds gs before hval0 hW _ hsz hL hsh
 have hval : ∀ (j : Nat) t v,Tryz.f3.params[j]? = some t → args[j]? = some v → Value.okWide Tryz.prog W .any base t v:=hval0
 have hW':=hW
 obtain ⟨p,q,hA0,hV,rfl,hfz,hnd⟩:=hW
 have hA : DataW.TrodAll enc Tryz.prog W 0 (fun _=>true) true Tryz.f3.params.toList args.toList ds p:=hA0
 rw [Tryz.params3] at hA hval
 obtain ⟨v0,vs0,d0,ds0,p0,q0,hargs,rfl,rfl,h0,r0⟩:=trodAll_cons hA
 obtain ⟨v1,vs1,d1,ds1,p1,q1,rfl,rfl,rfl,h1,r1⟩:=trodAll_cons r0
 obtain ⟨rfl,rfl,rfl⟩:=trodAll_nil r1
 obtain rfl : args = #[v0,v1]:=by cases args; simp_all
 obtain ⟨rfl,rfl⟩:=trodVars_none hV
 have lt0 : ∀ x ∈ p0,x.block < W.heap.size:=by obtain ⟨m,hm⟩:=h0; exact DataW.trod_lt m _ _ _ hm
 have lt1 : ∀ x ∈ p1,x.block < W.heap.size:=by obtain ⟨m,hm⟩:=h1; exact DataW.trod_lt m _ _ _ hm
 refine (law_walk v0 v1 W hL hsh (hval 0 23 v0 rfl rfl) h0 (hval 1 9 v1 rfl rfl) h1 hsz).mono fun e W' ⟨he,bel⟩=>?_
 subst he
 exact ⟨_,rfl,_,_,_,[],_,[],hW',trodAll_mk1 (shut_bool Tryz.underlying4 _),(trodAll_cons_mk (Below.trod zKb (by kernel_rfl) (of_decide_eq_true (by kernel_rfl)) h0 bel lt0) (trodAll_cons_mk (Below.trod zKb (by kernel_rfl) (of_decide_eq_true (by kernel_rfl)) h1 bel lt1) trodAll_mk0)),rfl,bel.frame _,fun h=>by cases h⟩
end Go.Proofs.YtgcggndacnmhfaaGreatDoor.formatShows
