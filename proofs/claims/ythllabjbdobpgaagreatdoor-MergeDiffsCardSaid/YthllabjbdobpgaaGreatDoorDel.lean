/- slices.Delete at cells with texts, shown by hand after the kit's own proof at numbers: one element taken out. Own work. -/
import Derived.Test.YthllabjbdobpgaaGreatDoorGGqBe0
import Derived.Test.YthllabjbdobpgaaGreatDoorWt0
import Derived.Test.YthllabjbdobpgaaGreatDoorUk
import Derived.Shelf.SlicesG.Delete
set_option linter.all false
set_option maxRecDepth 1000000
namespace Go.Proofs.YthllabjbdobpgaaGreatDoor
open Go.AM Go.Shelf Go.RowKit Go.Lib Go.Sort Go.Proofs
theorem zMh : Tryz.prog.follows .mixedOrders = true:=by kernel_rfl
def zF3 : List Value:=[.int .i64 0,.int .i64 0,.string ⟨#[]⟩]
theorem zMi : ∃ i0,Tryz.prog.info? 43 = some i0 ∧ i0.size = 3 ∧ i0.bytes = 32 ∧ i0.zero = some (.agg zF3.toArray):=by
 have h : (Tryz.prog.info? 43).isSome = true:=by kernel_rfl
 obtain ⟨i0,hi⟩:=zNi.1 h
 have h1 : (Tryz.prog.info? 43).map (fun i=>i.size) = some 3:=by kernel_rfl
 have h2 : (Tryz.prog.info? 43).map (fun i=>i.bytes) = some 32:=by kernel_rfl
 have h3 : (Tryz.prog.info? 43).bind (·.zero) = some (.agg zF3.toArray):=by kernel_rfl
 rw [hi] at h1 h2 h3
 exact ⟨i0,hi,zNH h1,zNH h2,h3⟩
theorem zeroFil (w : World) : (zeroValue 43).run Tryz.prog w = .ok (.agg zF3.toArray) w:=by
 obtain ⟨i0,hi,_,_,hz⟩:=zMi
 simp [zeroValue,typeInfo,hi,hz]
theorem sizeFil (w : World) : (Go.sizeOf 43).run Tryz.prog w = .ok 3 w:=by
 obtain ⟨i0,hi,hs,_,_⟩:=zMi
 simp [Go.sizeOf,typeInfo,hi,hs]
set_option maxHeartbeats 4000000 in
theorem del_calls (b off n c i : Nat) (l : List Fil) (w : World) (hl : l.length = n) (hi : i < n) (hnc : n ≤ c) (hm : c ≤ 9223372036854775807) (hcs : ∀ j v,(zBT l)[j]? = some v → w.cell? ⟨b,off + j,none⟩ = some v) (hfz : ∀ j,j < n * 3 → w.frozen? ⟨b,off + j,none⟩ = false) :
  Calls Tryz.prog zAB #[.slice (some ⟨b,off,none⟩) n c,.int .i64 i,.int .i64 ((i + 1 : Nat) : Int)] w fun e w'=>e = .returned (.slice (some ⟨b,off,none⟩) (n - 1) c) ∧
   w' = (w.drew.setCells b (off + i * 3) ((zBT l).drop ((i + 1) * 3))).setCells b (off + (n - 1) * 3) zF3:=by
 obtain ⟨i0,hi0,hz1,hz2,hz0⟩:=zMi
 have mixed:=zMh
 have t23:=Tryz.underlying22
 have z31:=sizeFil
 have v31:=zeroFil
 obtain ⟨news,hnews⟩ : ∃ news,news = (zBT l).drop ((i + 1) * 3):=⟨_,rfl⟩
 have hlen : news.length = (n - (i + 1)) * 3:=by rw [hnews,zNS,zDs,hl]; omega
 have hisS : ∀ j,j < n * 3 → (w.cell? ⟨b,off + j,none⟩).isSome = true:=fun j hj=>by
  obtain ⟨v,hv⟩ : ∃ v,(zBT l)[j]? = some v:=⟨_,zMr (by rw [zDs,hl]; exact hj)⟩
  rw [hcs j v hv]; rfl
 obtain ⟨A,hA,hsrc⟩ : ∃ A : Addr,(if c = i + 1 then some (⟨b,off,none⟩ : Addr) else some ⟨b,off + (i + 1) * 3,none⟩) = some A ∧ Hid (∀ t u,news[t]? = some u → w.drew.cell? (A.add t) = some u):=by
  by_cases h : c = i + 1
  ·refine ⟨⟨b,off,none⟩,by simp [h],fun t u hu=>?_⟩
   have h0 : news.length = 0:=by rw [hlen]; omega
   rw [zOX.1 h0] at hu
   simp at hu
  ·refine ⟨⟨b,off + (i + 1) * 3,none⟩,by simp [h],fun t u hu=>?_⟩
   rw [Addr.add_lit,zNZ]
   refine hcs _ _ ?_
   rw [hnews,zNO] at hu
   exact hu
 have s1 : Hid (news.length = (n - (i + 1)) * 3):=hlen
 have s2 : Hid (∀ u ∈ news,u.oneCell' = true):=fun u hu=>zHe l u (zOG (by rwa [hnews] at hu))
 have s3 : Hid (∀ t,t < news.length → (w.drew.cell? ⟨b,off + i * 3 + t,none⟩).isSome = true ∧ w.drew.frozen? ⟨b,off + i * 3 + t,none⟩ = false):=by
  intro t ht
  rw [hlen] at ht
  rw [zNZ]
  exact ⟨hisS _ tO,hfz _ tO⟩
 obtain ⟨W1,hW1⟩ : ∃ W1,W1 = w.drew.setCells b (off + i * 3) news:=⟨_,rfl⟩
 have hcl : ∀ ty,(Builtin.clear_ #[22] ty #[.slice (some ⟨b,off + (i + (n - (i + 1))) * 3,none⟩) (n - (i + (n - (i + 1)))) (c - (i + (n - (i + 1))))]).run Tryz.prog W1 = .ok (.tuple #[]) (W1.setCells b (off + (i + (n - (i + 1))) * 3) zF3):=fun ty=>by
  have e1 : n - (i + (n - (i + 1))) = 1:=by omega
  rw [e1]
  refine run_clear_k W1 _ _ ty _ zF3 t23 v31 b _ 1 _ (by decide) (by kernel_rfl) (by intro v hv; simp only [zF3,zNe,List.not_mem_nil,or_false] at hv; rcases hv with rfl | rfl | rfl <;> rfl) (fun j hj=>?_) (fun j hj=>?_)
  ·rw [hW1]
   have hj : j < 3:=hj
   refine Go.Proofs.isSome_setCells b news _ _ (fun j hj=>(s3.out j hj).1) _ ?_
   rw [zNZ]
   exact hisS _ tO
  ·rw [hW1,World.frozen?_setCells,zNZ]
   have hj : j < 3:=hj
   exact hfz _ tO
 have hW : Hid (W1 = w.drew.setCells b (off + i * 3) news):=hW1
 have hic : i ≤ c:=by omega
 have hjc : i + 1 ≤ c:=by omega
 have hin : i ≤ n:=by omega
 have hin1 : i + 1 ≤ n:=by omega
 have hne : ¬ ((i : Int) = ((i + 1 : Nat) : Int)):=by omega
 have hb1 : (0 : Int) ≤ (i : Int) + 1:=by omega
 have hb2 : (i : Int) + 1 ≤ (n : Int):=by omega
 rw [← hnews,← hW1]
 clear hW1 hcs hfz hisS hnews hlen
 go_enter Tryz.func40,Tryz.ntmps40
 go_wp2_with fail
 go_region_law_o (refine step_append_room rfl (.tmp 22) (.tmp 25) 22 rfl 43 i0 3 t23 hi0 hz1 b off i c (by simp [Act.eval,Act.put]) A (n - (i + 1)) (c - (i + 1)) news (by simp [Act.eval,Act.put]) s1.out hsrc.out s2.out tO s3.out ?_; rw [← hW.out])
 go_wp2
 go_ret
 refine ⟨by rw [show n - 1 = i + (n - (i + 1)) by omega]; rfl, ?_⟩
 rw [show n - 1 = i + (n - (i + 1)) by omega]
end Go.Proofs.YthllabjbdobpgaaGreatDoor
