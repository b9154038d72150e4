/-
  The step of the row FillCopies: whatever comes in, the law says true, and writes nothing that was there; the variables that are listed are tied to the program's text. No conditions.
-/
import Derived.Test.YtmfmhljpddpfnaaGreatDoorGFlaGfi
import Derived.Test.YtmfmhljpddpfnaaGreatDoorGBe0Itd
import Derived.Test.YtmfmhljpddpfnaaGreatDoorLdQ4
import Derived.SevenTiedAt
import Derived.SizedLaws
set_option maxRecDepth 100000
set_option linter.all false
namespace Go.Proofs.YtmfmhljpddpfnaaGreatDoor.fillCopies
open Go.ChangeShapes Go.WideShapes Go.RowKit Go.AM
open Go.ChangeMaps (open_string shut_string)
theorem law_walk (v0 v1 v2:Value) (W:World) (hL:laidMetH Tryz.prog Rows.fillCopiesRow.laid W) (hsh:W.ShapedOpen Tryz.prog) {r:Reach} {bb0 bb1 bb2:Nat} {held:Bool} {H:Type} {enc:TypeId×Value->H} {dd0 dd1 dd2:DataW H} {pp0 pp1 pp2:List MemPlace}
  (o0:Value.okWide Tryz.prog W r bb0 22 v0) (h0:DataW.Trod enc Tryz.prog W 0 (fun _=>true) held 22 v0 dd0 pp0) (o1:Value.okWide Tryz.prog W r bb1 26 v1) (h1:DataW.Trod enc Tryz.prog W 0 (fun _=>true) held 26 v1 dd1 pp1) (o2:Value.okWide Tryz.prog W r bb2 24 v2) (h2:DataW.Trod enc Tryz.prog W 0 (fun _=>true) held 24 v2 dd2 pp2)
  (hsz:(DataW.weightsEach Tryz.prog (Tryz.f3.params.toList++Rows.fillCopiesSpec.plain.varTypes Tryz.prog) ([dd0,dd1,dd2]++[])).all (·<=reachBytes)=true) :
  Calls Tryz.prog 3 #[v0,v1,v2] W fun e w'=>e=.returned (.bool true)/\Below W.heap.size W w':=by
 obtain ⟨ev,hV⟩:=zSu hL;obtain ⟨⟨m,hm⟩,hms⟩:=zRM hsh;obtain ⟨x0,e0,r0⟩:=zUF (m:=9) (s:=.sl true [.int .i64,.int .i64,.str]) (by kernel_rfl) o0 h0;obtain ⟨l0,q0,g0,k0,m0⟩:=zbC e0;obtain ⟨x1,n1,e1,r1⟩:=zKQ (m:=9) (ss:=[.int .i64,.int .i64,.int .i64,.int .i64]) (by kernel_rfl) o1 h1;obtain ⟨a1,b1,c1,d1,g1,i1,j1,k1,l1⟩:=zkh n1 e1;rw [g1] at r1;obtain ⟨x2,n2,e2,r2⟩:=zKQ (m:=9) (ss:=[.int .i64,.int .i64]) (by kernel_rfl) o2 h2;obtain ⟨c2,d2,g2,i2,j2⟩:=zkg n2 e2;rw [g2] at r2;exact zRN hV hm hms Tryz.func3 (by kernel_rfl) (by kernel_rfl) (zTa hV.isI e0 a1 b1 c1 d1 c2 d2 []) (zOb r0 (zOb r1 (zOb r2 (zdN _ _ _ _))))
theorem lifted (os:Os) (started:os.Started) (H:Type) (enc:TypeId×Value->H) :
  ReturnsInHanded {} Tryz.checked os 3 .any (fun w args=>(Rows.fillCopiesSpec.pre enc Tryz.prog Tryz.f3 [] false w args/\laidMetH Tryz.prog Rows.fillCopiesRow.laid w)/\sizedMet enc Tryz.prog Tryz.f3 (OpenSpec.ofChange Rows.fillCopiesSpec) false w args)
   (Rows.fillCopiesSpec.post enc Tryz.prog Tryz.f3 false true false false):=by
 refine zIn (C:=Tryz.checked) (X:=fun w _=>laidMetH Tryz.prog Rows.fillCopiesRow.laid w) (fun _ _ _ hh h=>h.of_heap hh) own started (by kernel_rfl) Tryz.func3
  (zPe (enc:=enc) (C:=Tryz.checked) (os:=os) (X:=fun w _=>laidMetH Tryz.prog Rows.fillCopiesRow.laid w) false (zGO os) #[.slice none 0 0,.agg #[.int .i64 0,.int .i64 0,.int .i64 0,.int .i64 0],.agg #[.int .i64 0,.int .i64 0]] 8 (zSp os) (zNN os _) (by kernel_rfl) (by kernel_rfl) (by kernel_rfl) (laidWorld_met os _)) ?_
 intro W base args ds gs before hval0 hW _ hsz hL hsh;have hval:∀ (j:Nat) t v,Tryz.f3.params[j]?=some t->args[j]?=some v->Value.okWide Tryz.prog W .any base t v:=hval0;have hW':=hW;obtain ⟨p,q,hA0,hV,rfl,hfz,hnd⟩:=hW;have hA:DataW.TrodAll enc Tryz.prog W 0 (fun _=>true) true Tryz.f3.params.toList args.toList ds p:=hA0;rw [Tryz.params3] at hA hval;obtain ⟨v0,vs0,d0,ds0,p0,q0,hargs,rfl,rfl,h0,r0⟩:=trodAll_cons hA;obtain ⟨v1,vs1,d1,ds1,p1,q1,rfl,rfl,rfl,h1,r1⟩:=trodAll_cons r0;obtain ⟨v2,vs2,d2,ds2,p2,q2,rfl,rfl,rfl,h2,r2⟩:=trodAll_cons r1;obtain ⟨rfl,rfl,rfl⟩:=trodAll_nil r2;obtain rfl:args=#[v0,v1,v2]:=by cases args;simp_all
 obtain ⟨rfl,rfl⟩:=trodVars_none hV;have lt0:∀ x∈p0,x.block<W.heap.size:=by obtain ⟨m,hm⟩:=h0;exact DataW.trod_lt m _ _ _ hm
 have lt1:∀ x∈p1,x.block<W.heap.size:=by obtain ⟨m,hm⟩:=h1;exact DataW.trod_lt m _ _ _ hm
 have lt2:∀ x∈p2,x.block<W.heap.size:=by obtain ⟨m,hm⟩:=h2;exact DataW.trod_lt m _ _ _ hm
 refine (law_walk v0 v1 v2 W hL hsh (hval 0 22 v0 rfl rfl) h0 (hval 1 26 v1 rfl rfl) h1 (hval 2 24 v2 rfl rfl) h2 hsz).mono fun e W' ⟨he,bel⟩=>?_;subst he;exact ⟨_,rfl,_,_,_,[],_,[],hW',trodAll_mk1 (shut_bool Tryz.underlying4 _),(trodAll_cons_mk (Below.trod zUS (by kernel_rfl) (zow (by kernel_rfl)) h0 bel lt0) (trodAll_cons_mk (Below.trod zUS (by kernel_rfl) (zow (by kernel_rfl)) h1 bel lt1) (trodAll_cons_mk (Below.trod zUS (by kernel_rfl) (zow (by kernel_rfl)) h2 bel lt2) trodAll_mk0))),rfl,bel.frame _,fun h=>by cases h⟩
end Go.Proofs.YtmfmhljpddpfnaaGreatDoor.fillCopies
