/- Several texts of mine in one (Ins, Wt1, Wt3, Wtc, Dlg). Own work. -/
import Derived.Test.YthllabjbdobpgaaGreatDoorDel
import Derived.Shelf.Spec.SlicesInsertGrow
import Derived.Test.YthllabjbdobpgaaGreatDoorWt0
import Derived.Test.YthllabjbdobpgaaGreatDoorGAm23Am29
set_option linter.all false
set_option maxRecDepth 1000000
namespace Go.Proofs.YthllabjbdobpgaaGreatDoor
open Go.AM Go.Shelf Go.RowKit Go.Lib Go.Sort Go.Proofs
set_option maxHeartbeats 4000000 in
theorem ins_shift (b off n c i vb voff vc : Nat) (l : List Fil) (f : Fil) (w : World) (hl : l.length = n) (hi : i < n) (hroom : n + 1 ≤ c) (hc63 : c ≤ 9223372036854775807) (hvb : vb ≠ b)
  (hcs : ∀ j v,(zBT l)[j]? = some v → w.cell? ⟨b,off + j,none⟩ = some v) (hsp : ∀ j,j < (n + 1) * 3 → (w.cell? ⟨b,off + j,none⟩).isSome = true) (hfz : ∀ j,j < (n + 1) * 3 → w.frozen? ⟨b,off + j,none⟩ = false)
  (hvs : ∀ j v,(zIq f)[j]? = some v → w.cell? ⟨vb,voff + j,none⟩ = some v)
  (tA tB : TypeId) (kA kB : Nat) (hsa : w.shape? vb = some (tA,kA)) (hsb : w.shape? b = some (tB,kB)) (hkB : kB ≠ 0) (hfa : w.frozen? ⟨vb,voff,none⟩ = false) (hfe : w.frozen? ⟨vb,kA,none⟩ = false) :
  Calls Tryz.prog zh #[.slice (some ⟨b,off,none⟩) n c,.int .i64 i,.slice (some ⟨vb,voff,none⟩) 1 vc] w fun e w'=>
   e = .returned (.slice (some ⟨b,off,none⟩) (n + 1) c) ∧ w' = (w.drew.setCells b (off + (i + 1) * 3) ((zBT l).drop (i * 3))).setCells b (off + i * 3) (zIq f):=by
 obtain ⟨i0,hi0,hz1,hz2x,hz0⟩:=zMi
 have mixed:=zMh
 have t23:=Tryz.underlying22
 have z31:=sizeFil
 have hz2 : ¬ ((i : Int) = (n : Int)):=by omega
 have hsz : (Tryz.prog.info? 43).map (·.size) = some 3:=by rw [hi0]; simp [hz1]
 obtain ⟨cs,hcsd⟩ : ∃ cs,cs = zBT l:=⟨_,rfl⟩
 have hcl : cs.length = n * 3:=by rw [hcsd,zDs,hl]
 have h1c : ∀ v ∈ cs,v.oneCell' = true:=by rw [hcsd]; exact zHe l
 rw [← hcsd] at hcs ⊢
 obtain ⟨vs,hvsd⟩ : ∃ vs,vs = zIq f:=⟨_,rfl⟩
 have hvl : vs.length = 3:=by rw [hvsd]; rfl
 have h1v : ∀ v ∈ vs,v.oneCell' = true:=by
  intro v hv
  have:=zHe [f] v (by simpa [zBT,hvsd] using hv)
  exact this
 rw [← hvsd] at hvs ⊢
 have hov : ∀ lb cb,(callFunc 55 #[.slice (some ⟨vb,voff,none⟩) 1 vc,.slice (some ⟨b,off + (i + 1) * 3,none⟩) lb cb]).run Tryz.prog w = .ok (.value (.bool false)) w:=fun lb cb=>by
  rw [run_callFunc_extern Tryz.func55 (by kernel_rfl) (by kernel_rfl) (by kernel_rfl) (e:=Extern.SlicesOverlaps.overlaps #[22,22] #[4]) (by kernel_rfl),
   Lib.run_overlaps_apart w 22 4 43 t23 3 z31 ⟨vb,voff,none⟩ ⟨b,off + (i + 1) * 3,none⟩ 1 vc lb cb hvb tA tB kA kB hsa hsb hkB hfa hfe]
  rfl
 have hdl : (cs.drop (i * 3)).length = (n - i) * 3:=by rw [zNS,hcl]; omega
 have hw1 : IntKind.i64.wrap ((i : Int) + 1) = (i : Int) + 1:=by rw [IntKind.wrap_i64]; omega
 have hw2 : IntKind.i64.wrap ((n : Int) + 1) = (n : Int) + 1:=by rw [IntKind.wrap_i64]; omega
 have hb1 : (0 : Int) ≤ (i : Int) + 1:=by omega
 have hin : i ≤ n:=by omega
 have htn : ((i : Int) + 1).toNat = i + 1:=by omega
 have htn2 : ((n : Int) + 1).toNat = n + 1:=by omega
 have hb2 : ¬ (c = i + 1):=by omega
 have hb3 : (i : Int) ≤ (n : Int) + 1:=by omega
 have hb4 : ¬ (c = i):=by omega
 have hb5 : ¬ ((c : Int) < (n : Int) + 1):=by omega
 have hb6 : (n : Int) + 1 ≤ (c : Int):=by omega
 have hb7 : (0 : Int) ≤ (n : Int) + 1:=by omega
 have hb8 : (i : Int) + 1 ≤ (n : Int) + 1:=by omega
 have hcp1 : ∀ ty dc sc,(Builtin.copy_ #[22,22] ty #[.slice (some ⟨b,off + (i + 1) * 3,none⟩) (n - i) dc,.slice (some ⟨b,off + i * 3,none⟩) (n + 1 - i) sc]).run Tryz.prog w.drew = .ok (goInt (Nat.min (n + 1 - i) (n - i))) (w.drew.setCells b (off + (i + 1) * 3) (cs.drop (i * 3))):=fun ty dc sc=>
  zHp w.drew _ _ ty 43 3 b (off + (i + 1) * 3) (n - i) dc ⟨b,off + i * 3,none⟩ (n + 1 - i) sc (cs.drop (i * 3)) t23 hsz (by rw [hdl]; simp only [Nat.min_def]; split <;> omega)
   (fun j v hj=>by rw [Addr.add_lit,zNZ]; exact hcs (i * 3 + j) v (by rwa [zNO] at hj))
   (fun j hj=>by rw [zNZ]; exact hsp _ tO) (fun j hj=>by rw [zNZ]; exact hfz _ tO) (fun v hv=>h1c v (zOG hv))
 obtain ⟨W1,hW1⟩ : ∃ W1,W1 = w.drew.setCells b (off + (i + 1) * 3) (cs.drop (i * 3)):=⟨_,rfl⟩
 have hsp1 : ∀ k,k < (n + 1) * 3 → (W1.cell? ⟨b,off + k,none⟩).isSome = true:=fun k hk=>by
  rw [hW1]
  exact Go.Proofs.isSome_setCells b _ _ _ (fun j hj=>by rw [zNZ]; exact hsp _ tO) _ (hsp k hk)
 have hcp2 : ∀ (W : World),(∀ x,W.cell? x = W1.cell? x) → (∀ x,W.frozen? x = W1.frozen? x) → ∀ ty dc,(Builtin.copy_ #[22,22] ty #[.slice (some ⟨b,off + i * 3,none⟩) (n + 1 - i) dc,.slice (some ⟨vb,voff,none⟩) 1 vc]).run Tryz.prog W = .ok (goInt (Nat.min 1 (n + 1 - i))) (W.setCells b (off + i * 3) vs):=fun W hWc hWf ty dc=>
  zHp W _ _ ty 43 3 b (off + i * 3) (n + 1 - i) dc ⟨vb,voff,none⟩ 1 vc vs t23 hsz (by rw [hvl]; simp only [Nat.min_def]; split <;> omega)
   (fun j v hj=>by
    rw [Addr.add_lit,hWc,hW1,World.cell?_setCells_out b _ _ _ _ (fun h _=>absurd h hvb)]
    exact hvs j v hj)
   (fun j hj=>by rw [hWc,zNZ]; exact hsp1 _ tO) (fun j hj=>by rw [hWf,hW1,World.frozen?_setCells,zNZ]; exact hfz _ tO) h1v
 rw [← hW1] at hcp1
 clear hcs hsp hfz hvs hsp1
 go_enter Tryz.func41,Tryz.ntmps41
 go_wp2_with (simp only [hov])
 go_region_law_o (refine step_copy_runI rfl _ _ 22 22 rfl _ _ (by simp [Act.eval,Act.put]) (by simp [Act.eval,Act.put]) (hcp1 _ _ _) ?_)
 go_wp2_with (at_builtin; refine wpList_copy_runI _ rfl _ _ 22 22 rfl _ _ rfl rfl (hcp2 _ (fun _=>rfl) (fun _=>rfl) _ _) ?_)
 go_ret
 exact ⟨rfl,by first | rfl | (rw [hW1,hcsd,hvsd]) | (subst hW1 hcsd hvsd; rfl)⟩
set_option maxHeartbeats 4000000 in
theorem ins_grow (b off n c i vb voff vc : Nat) (l : List Fil) (f : Fil) (w : World) (hl : l.length = n) (hi : i < n) (hnc : n ≤ c) (hroom : c < n + 1) (hbig : n ≤ 3000)
  (hcs : ∀ j v,(zBT l)[j]? = some v → w.cell? ⟨b,off + j,none⟩ = some v) (hvs : ∀ j v,(zIq f)[j]? = some v → w.cell? ⟨vb,voff + j,none⟩ = some v) :
  Calls Tryz.prog zh #[.slice (some ⟨b,off,none⟩) n c,.int .i64 i,.slice (some ⟨vb,voff,none⟩) 1 vc] w fun e w'=>
   ∃ ROW G,e = .returned (.slice (some ⟨w.heap.size,0,none⟩) (n + 1) G) ∧ n + 1 ≤ G ∧ G ≤ maxLen ∧ (zBT (l.take i)) <+: ROW.toList ∧ (n + 1) * 3 ≤ ROW.size ∧
   w' = (((w.alloc (.cells ROW 43)).drew.setCells w.heap.size (i * 3) (zIq f)).drew).setCells w.heap.size ((i + 1) * 3) ((zBT l).drop (i * 3)):=by
 obtain ⟨i0,hi0,hz1,hzb,hz0⟩:=zMi
 have mixed:=zMh
 have t23:=Tryz.underlying22
 have z31:=sizeFil
 have hz2 : ¬ ((i : Int) = (n : Int)):=by omega
 have hz3 : (c : Int) < (n : Int) + 1:=by omega
 have hsz : (Tryz.prog.info? 43).map (·.size) = some 3:=by rw [hi0]; simp [hz1]
 obtain ⟨cs,hcsd⟩ : ∃ cs,cs = zBT l:=⟨_,rfl⟩
 have hcl : cs.length = n * 3:=by rw [hcsd,zDs,hl]
 have h1c : ∀ v ∈ cs,v.oneCell' = true:=by rw [hcsd]; exact zHe l
 obtain ⟨vs,hvsd⟩ : ∃ vs,vs = zIq f:=⟨_,rfl⟩
 have hvl : vs.length = 3:=by rw [hvsd]; rfl
 have h1v : ∀ v ∈ vs,v.oneCell' = true:=by
  intro v hv
  exact zHe [f] v (by simpa [zBT,hvsd] using hv)
 have htk : zBT (l.take i) = cs.take (i * 3):=by rw [hcsd,zHq l i tO]
 rw [htk]
 simp only [← hcsd,← hvsd] at hcs hvs ⊢
 have hbw : b < w.heap.size:=block_lt_of_cell (hcs 0 _ (zMr tO))
 have hvw : vb < w.heap.size:=block_lt_of_cell (hvs 0 _ (zMr tO))
 have hkk : (n : Int) + 1 - (i : Int) = ((n + 1 - i : Nat) : Int):=by omega
 have hik : i + (n + 1 - i) = n + 1:=by omega
 have hold : (Builtin.firstCells i0.size i (.slice (some ⟨b,off,none⟩) i c)).run Tryz.prog w.drew = .ok (cs.take (i * 3)).toArray w.drew:=by
  rw [hz1]
  exact run_firstCells_some w.drew 3 i ⟨b,off,none⟩ i c (cs.take (i * 3)) (by rw [zM8]; omega) (fun j v hj=>by
   rw [Addr.add_lit]
   rw [zNL] at hj
   split at hj
   ·exact hcs j v hj
   ·cases hj)
 have hgr : Builtin.nextslicecap (n + 1) c * 32 ≤ 281474976710656:=growslice_fits hroom tO
 have hrz : ∀ ty,(Builtin.append_ #[22,3] ty #[.slice (some ⟨b,off,none⟩) i c,.int .i64 ((n : Int) + 1 - (i : Int))]).run Tryz.prog w =
   .ok (.slice (some ⟨w.heap.size,0,none⟩) (n + 1) (grownCap w (n + 1) c 43)) (w.drew.alloc (.cells ((cs.take (i * 3)).toArray ++ Builtin.zeroCells (Value.agg zF3.toArray).cells (n + 1 - i) ++ Builtin.zeroCells (Value.agg zF3.toArray).cells (grownCap w (n + 1) c 43 - (n + 1))) 43)):=fun ty=>by
  have h:=Lib.run_append_grow_zeros w 22 3 ty 43 i0 _ .i64 .i64 t23 Tryz.underlying3 hi0 hz0 (some ⟨b,off,none⟩) i c (cs.take (i * 3)) hold (n + 1 - i) tO tO tO tO (by rw [hzb]; omega) (by rw [hzb,hik]; exact hgr)
  rw [hik] at h
  rw [hkk]
  exact h
 obtain ⟨G,hG⟩ : ∃ G,G = grownCap w (n + 1) c 43:=⟨_,rfl⟩
 obtain ⟨ROW,hROW⟩ : ∃ ROW : Array Value,ROW = (cs.take (i * 3)).toArray ++ Builtin.zeroCells (Value.agg zF3.toArray).cells (n + 1 - i) ++ Builtin.zeroCells (Value.agg zF3.toArray).cells (G - (n + 1)):=⟨_,rfl⟩
 rw [← hG] at hrz
 rw [← hROW] at hrz
 have hzc : (Value.agg zF3.toArray).cells.size = 3:=rfl
 have hRl : (n + 1) * 3 ≤ ROW.size:=by
  rw [hROW]
  simp only [zO2,zPU,zM8,hcl,Builtin.zeroCells,Array.size_map,Array.size_range,hzc]
  omega
 have hpre : cs.take (i * 3) <+: ROW.toList:=by
  rw [hROW]
  simp only [Array.toList_append,zNm]
  exact List.prefix_append _ _
 obtain ⟨W1,hW1⟩ : ∃ W1,W1 = w.drew.alloc (.cells ROW 43):=⟨_,rfl⟩
 rw [← hW1] at hrz
 have hN : ∀ j,j < (n + 1) * 3 → (W1.cell? ⟨w.heap.size,j,none⟩).isSome = true:=fun j hj=>by
  rw [hW1,World.cell?_alloc_at (w:=w.drew) ROW _ w.heap.size j rfl,zOB tO]; rfl
 have hNf : ∀ j,W1.frozen? ⟨w.heap.size,j,none⟩ = false:=fun j=>by rw [hW1]; exact World.frozen?_alloc_at (w:=w.drew) ROW _ w.heap.size j rfl
 have hOb : ∀ j v,w.cell? ⟨b,j,none⟩ = some v → W1.cell? ⟨b,j,none⟩ = some v:=fun j v h=>by rw [hW1,World.cell?_alloc_past (w:=w.drew) _ b j hbw]; exact h
 have hOv : ∀ j v,w.cell? ⟨vb,j,none⟩ = some v → W1.cell? ⟨vb,j,none⟩ = some v:=fun j v h=>by rw [hW1,World.cell?_alloc_past (w:=w.drew) _ vb j hvw]; exact h
 have hcpA : ∀ (W : World),(∀ x,W.cell? x = W1.cell? x) → (∀ x,W.frozen? x = W1.frozen? x) → ∀ ty dc,(Builtin.copy_ #[22,22] ty #[.slice (some ⟨w.heap.size,i * 3,none⟩) (n + 1 - i) dc,.slice (some ⟨vb,voff,none⟩) 1 vc]).run Tryz.prog W = .ok (goInt (Nat.min 1 (n + 1 - i))) (W.setCells w.heap.size (i * 3) vs):=fun W hWc hWf ty dc=>
  zHp W _ _ ty 43 3 w.heap.size (i * 3) (n + 1 - i) dc ⟨vb,voff,none⟩ 1 vc vs t23 hsz (by rw [hvl]; simp only [Nat.min_def]; split <;> omega)
   (fun j v hj=>by rw [Addr.add_lit,hWc]; exact hOv _ v (hvs j v hj))
   (fun j hj=>by rw [hWc]; exact hN _ tO) (fun j hj=>by rw [hWf]; exact hNf _) h1v
 have hGn : n + 1 ≤ G:=by rw [hG]; exact grownCap_ge w _ _ _
 have hGm : G ≤ maxLen:=by rw [hG]; exact grownCap_le_maxLen w (n + 1) c 43 (by unfold maxLen; omega)
 have hG63 : G ≤ 9223372036854775807:=by unfold maxLen at hGm; omega
 have hGi : ¬ (G = i):=by omega
 have hGim : ¬ (G = i + 1):=by omega
 have hci : ¬ (c = i):=by omega
 have hbN : b ≠ w.heap.size:=by omega
 have hdl : (cs.drop (i * 3)).length = (n - i) * 3:=by rw [zNS,hcl]; omega
 have hcpB : ∀ (W : World),(∀ x,W.cell? x = (W1.setCells w.heap.size (i * 3) vs).cell? x) → (∀ x,W.frozen? x = (W1.setCells w.heap.size (i * 3) vs).frozen? x) → ∀ ty dc sc,(Builtin.copy_ #[22,22] ty #[.slice (some ⟨w.heap.size,(i + 1) * 3,none⟩) (n - i) dc,.slice (some ⟨b,off + i * 3,none⟩) (n - i) sc]).run Tryz.prog W = .ok (goInt (Nat.min (n - i) (n - i))) (W.setCells w.heap.size ((i + 1) * 3) (cs.drop (i * 3))):=fun W hWc hWf ty dc sc=>
  zHp W _ _ ty 43 3 w.heap.size ((i + 1) * 3) (n - i) dc ⟨b,off + i * 3,none⟩ (n - i) sc (cs.drop (i * 3)) t23 hsz (by rw [hdl]; simp only [Nat.min_def]; split <;> omega)
   (fun j v hj=>by
    rw [Addr.add_lit,hWc,World.cell?_setCells_out _ _ _ _ _ (fun h _=>absurd h hbN),zNZ]
    exact hOb _ v (hcs (i * 3 + j) v (by rwa [zNO] at hj)))
   (fun j hj=>by rw [hWc]; exact Go.Proofs.isSome_setCells _ _ _ _ (fun t ht=>hN _ tO) _ (hN _ tO))
   (fun j hj=>by rw [hWf,World.frozen?_setCells]; exact hNf _) (fun v hv=>h1c v (zOG hv))
 subst hW1
 have hE1 : ∀ x,((w.alloc (.cells ROW 43)).drew).cell? x = (w.drew.alloc (.cells ROW 43)).cell? x:=fun x=>rfl
 have hE2 : ∀ x,((w.alloc (.cells ROW 43)).drew).frozen? x = (w.drew.alloc (.cells ROW 43)).frozen? x:=fun x=>rfl
 have hF1 : ∀ x,(((w.alloc (.cells ROW 43)).drew.setCells w.heap.size (i * 3) vs).drew).cell? x = ((w.drew.alloc (.cells ROW 43)).setCells w.heap.size (i * 3) vs).cell? x:=fun x=>rfl
 have hF2 : ∀ x,(((w.alloc (.cells ROW 43)).drew.setCells w.heap.size (i * 3) vs).drew).frozen? x = ((w.drew.alloc (.cells ROW 43)).setCells w.heap.size (i * 3) vs).frozen? x:=fun x=>rfl
 have hw1 : IntKind.i64.wrap ((i : Int) + 1) = (i : Int) + 1:=by rw [IntKind.wrap_i64]; omega
 have hw2 : IntKind.i64.wrap ((n : Int) + 1) = (n : Int) + 1:=by rw [IntKind.wrap_i64]; omega
 have hw3 : IntKind.i64.wrap ((n : Int) + 1 - (i : Int)) = (n : Int) + 1 - (i : Int):=by rw [IntKind.wrap_i64]; omega
 have hb1 : (0 : Int) ≤ (i : Int) + 1:=by omega
 have hin : i ≤ n:=by omega
 have htn : ((i : Int) + 1).toNat = i + 1:=by omega
 have hb3 : (i : Int) ≤ (n : Int):=by omega
 have hb4 : (i : Int) + 1 ≤ (n : Int) + 1:=by omega
 clear hkk hik hold hROW hG hvsd hcsd htk
 go_enter Tryz.func41,Tryz.ntmps41
 go_wp2_with (first
  | (at_builtin; refine Lib.wpList_append_run _ rfl _ _ _ _ rfl _ _ rfl rfl _ _ (hrz _) ?_)
  | (at_builtin; refine wpList_copy_runI _ rfl _ _ 22 22 rfl _ _ rfl rfl (hcpA _ hE1 hE2 _ _) ?_))
 go_region_law_o (refine step_copy_runI rfl _ _ 22 22 rfl (.slice (some ⟨w.heap.size,(i + 1) * 3,none⟩) (n - i) (G - (i + 1))) (.slice (some ⟨b,off + i * 3,none⟩) (n - i) (c - i)) (by simp [Act.eval,Act.put]) (by simp [Act.eval,Act.put]) (hcpB _ hF1 hF2 3 (G - (i + 1)) (c - i)) ?_)
 go_wp2
 go_ret
 exact ⟨ROW,G,rfl,hGn,hGm,hpre,hRl,rfl⟩
end Go.Proofs.YthllabjbdobpgaaGreatDoor
set_option maxRecDepth 20000
namespace Go.AM
theorem aheadC_cmp (c r : Int) (f : Fil) : decide (zMd f.col f.row c r < 0) = aheadC c r f:=by
 unfold aheadC
 congr 1
 exact propext (zMe _ _ _ _)
theorem isC_cmp (c r : Int) (f : Fil) : (zMd f.col f.row c r == 0) = isC c r f:=by
 unfold isC
 rw [← decide_eq_decide.2 (cmpC_zero f.col f.row c r)]
 rfl
theorem posC_of {l : List Fil} (h : Srtd l) (c r : Int) {i : Nat} (hi : i ≤ l.length) (h1 : ∀ k f,k < i → l[k]? = some f → aheadC c r f = true) (h2 : ∀ k f,i ≤ k → l[k]? = some f → aheadC c r f = false) : i = zIr l c r:=by
 have e1 : (l.take i).filter (aheadC c r) = l.take i:=List.filter_eq_self.2 fun f hf=>by
  obtain ⟨k,hk⟩:=zNY hf
  have hki:=(zg hk).1
  rw [zM8] at hki
  rw [List.getElem?_take_of_lt tO] at hk
  exact h1 k f tO hk
 have e2 : (l.drop i).filter (aheadC c r) = []:=zOi.2 fun f hf=>by
  obtain ⟨k,hk⟩:=zNY hf
  rw [zNO] at hk
  rw [h2 (i + k) f tO hk]
  simp
 unfold zIr
 conv=>rhs; rw [← List.take_append_drop i l]
 rw [zPQ,e1,e2,zN6,zM8]
 omega
section
variable {C : CSpec} {GT : Nat → Option AV}
theorem withc_ev (hA : ∀ c1 r1 c2 r2 H,C zBC [zn c1 r1,zn c2 r2] H (zJ (zMd c1 r1 c2 r2)) H) (f : Fil) (c r : Int) (H : Heap) : EFun C GT zHM [zR f,zn c r] H (zJ (zMd f.col f.row c r)) H:=by
 have ha:=hA f.col f.row c r
 clear hA
 refine za ?_; refine zDw (x:=zR f) rfl <| zDw (x:=zn c r) rfl <| zC (zn f.col f.row) (zD zB) rfl <| zC (zn c r) zB rfl <| zI (ha _) ?_
 exact zBN rfl rfl rfl rfl (((Old.refl _).push _).push _)
structure BsS where
 i : Nat
 j : Nat
theorem bsearch_ev (hC : ∀ f c r H,C zBG [zR f,zn c r] H (zJ (zMd f.col f.row c r)) H) (lv : AV) (l : List Fil) (hl : l.length ≤ 3000) (hs : Srtd l) (c r : Int) (H : Heap) (hv : view H 3 lv = some (l.map zR)) (found : Bool) (hf : found = (match l[zIr l c r]? with | some f=>isC c r f | none=>false)) :
  EFun C GT zAL [lv,zn c r,.fn zBG [] []] H (.tup [zK (zIr l c r),.bool found]) H:=by
 have hlm : (l.map zR).length = l.length:=zMx _
 have hc:=fun f H=>hC f c r H
 clear hC
 refine za ?_; refine zDw (x:=zn c r) rfl ?_
 have hv0 : view (H ++ [ABlk.box (zn c r).cells]) 3 lv = some (l.map zR):=zDD ((Old.refl H).push _) hv
 refine zB4 hv0 ?_; refine zBM (fun x : BsS=>[(4,pR H.length),(0,lv),(2,.fn zBG [] []),(10,zK x.j),(9,zK x.i),(8,.int .i64 ((l.map zR).length : Nat))]) (fun x H'=>H' = H ++ [ABlk.box (zn c r).cells] ∧ x.i ≤ x.j ∧ x.j ≤ l.length ∧ (∀ k f,k < x.i → l[k]? = some f → aheadC c r f = true) ∧ (∀ k f,x.j ≤ k → l[k]? = some f → aheadC c r f = false)) (fun x=>x.j - x.i) ⟨0,l.length⟩ (by simp only [hlm]; rfl) ⟨rfl,zNl _,zMv _,fun k f h=>absurd h (zNq _),fun k f (h1 : l.length ≤ k) h2=>absurd (zg h2).1 tO⟩ (fun ⟨i,j⟩ H1 ⟨hH,hij,hj,h1,h2⟩=>?_)
 subst hH
 dsimp only at hij hj h1 h2 ⊢
 by_cases hlt : i < j
 ·obtain ⟨m,hm⟩ : ∃ m,(i + j) / 2 = m:=⟨_,rfl⟩
  obtain ⟨f,hfm⟩ : ∃ f,l[m]? = some f:=⟨_,zMr tO⟩
  have hfm2 : (l.map zR)[m]? = some (zR f):=by rw [zM2,hfm]; rfl
  have hsh : zB5 .shr .u64 ((i + j : Nat) : Int) 1 = some (.int .u64 (m : Int)):=by rw [← hm]; exact shr1 _
  have hca:=aheadC_cmp c r f
  have mono : ∀ k g,l[k]? = some g → (k < m → f.row < r ∨ (f.row = r ∧ f.col < c) → aheadC c r g = true) ∧ (m < k → ¬ (f.row < r ∨ (f.row = r ∧ f.col < c)) → aheadC c r g = false):=fun k g hg=>by
   have hp:=zPN.1 hs
   obtain ⟨hk,rfl⟩:=zg hg
   obtain ⟨hm2,rfl⟩:=zg hfm
   refine ⟨fun a b=>?_,fun a b=>?_⟩
   ·have:=hp k m hk hm2 a
    simp only [aheadC,zMz]
    omega
   ·have:=hp m k hm2 hk a
    simp only [aheadC,zNT]
    omega
  by_cases ha : f.row < r ∨ (f.row = r ∧ f.col < c)
  ·have hcl : zMd f.col f.row c r < 0:=(zMe _ _ _ _).2 ha
   refine zc (tT) <| zN (r:=i + j) rfl tO <| zDX (r:=i + j) rfl tO <| zl hsh <| zN (r:=m) rfl tO ?_; refine zGp m (zR f) hv0 rfl hfm2 (fun p hp=>?_)
   refine z6 (zR f) hp rfl <| zC (zn c r) zB rfl <| zI (hc f _) <| zc (tT) <| zN (r:=m + 1) rfl tO ?_; refine zAC (BsS.mk (m + 1) j) rfl ⟨rfl,by simp only; omega,hj,fun k g hk hg=>?_,h2⟩ (by simp only; omega)
   by_cases e : k = m
   ·subst e; rw [hfm] at hg; cases hg; simp only [aheadC,zMz]; exact ha
   ·exact (mono k g hg).1 (by simp only at hk; omega) ha
  ·have hcl : ¬ zMd f.col f.row c r < 0:=fun h=>ha ((zMe _ _ _ _).1 h)
   refine zc (tT) <| zN (r:=i + j) rfl tO <| zDX (r:=i + j) rfl tO <| zl hsh <| zN (r:=m) rfl tO ?_; refine zGp m (zR f) hv0 rfl hfm2 (fun p hp=>?_)
   refine z6 (zR f) hp rfl <| zC (zn c r) zB rfl <| zI (hc f _) <| zW (zNV hcl) ?_; refine zAC (BsS.mk i m) rfl ⟨rfl,by simp only; omega,by simp only; omega,h1,fun k g hk hg=>?_⟩ (by simp only; omega)
   by_cases e : k = m
   ·subst e; rw [hfm] at hg; cases hg; simp only [aheadC,zNT]; exact ha
   ·exact (mono k g hg).2 (by simp only at hk; omega) ha
 ·obtain rfl : i = j:=by omega
  have hp:=posC_of hs c r hj h1 h2
  rw [← hp] at hf ⊢
  by_cases hin : i < l.length
  ·obtain ⟨f,hfm⟩ : ∃ f,l[i]? = some f:=⟨_,zMr hin⟩
   have hfm2 : (l.map zR)[i]? = some (zR f):=by rw [zM2,hfm]; rfl
   rw [hfm] at hf
   have hfe : found = (zMd f.col f.row c r == 0):=by rw [hf,isC_cmp]
   refine zW (tF) <| zc (tT) ?_; refine zGp i (zR f) hv0 rfl hfm2 (fun p hp=>?_)
   refine z6 (zR f) hp rfl <| zC (zn c r) zB rfl <| zI (hc f _) <| zG ?_
   exact sRetE (v0:=.tup [zK i,.bool (zMd f.col f.row c r == 0)]) (by rw [hfe]) rfl rfl rfl rfl ((Old.refl _).push _)
  ·rw [zNj tO] at hf
   subst hf
   refine zW (tF) <| zW (tF) <| zF ?_
   exact zBN rfl rfl rfl rfl ((Old.refl _).push _)
end
end Go.AM
set_option maxRecDepth 20000
namespace Go.AM
theorem sStoreA {b k s i o : Nat} (j : Nat) (v : AV) (cs : List AV) {H : Heap} {xs : List AV} {K : AV → Heap → Prop} (hi : i = j) (h : H[b]? = some (.row k xs)) (hx : xs[j]? = some (.agg cs)) (hp : v.plain = true) (hs : 0 < s) (ho : o + s ≤ k) (he : v.elem s = true)
  (q : K .undef (H.set b (.row k (xs.set j (.agg (splice cs o v.cells)))))) : actP (.store s) [.ref b k i o,v] H K:=by
 subst hi
 refine sAct ?_ q
 have hc : v.cells.length = s ∧ v.cells.all AV.one = true:=by
  simp only [AV.elem,zMs,zNJ] at he
  exact ⟨he.1.1,he.2⟩
 simp only [astep,zMt hc,h,frz_plain hp,hx]
 rw [zMt ⟨trivial,ho,hs,he⟩]
 rfl
theorem frz_slw {n0 b k len : Nat} {H : Heap} {xs : List AV} (hb : n0 ≤ b) (h : H[b]? = some (.row k xs)) (hl : len = xs.length) : zDJ n0 (.sl (some false) b k 0 len) H = some (.lst (some false) k xs,H.set b (.frz k xs)):=by
 subst hl
 simp only [zDJ]
 rw [zMq tO,h]
 simp [frzQ]
def a_clone : AF:={ results:=[.tmp 2],body:=zCj,keep:=true }
def withV (q : Bool) (l : List Fil) (c r : Int) (t : Bs) : AV:=if q = true ∧ t = [] then .lst (some true) 0 [] else .lst (some false) 3 ((zBj l c r t).map zR)
section
variable {C : CSpec} {GT : Nat → Option AV}
theorem clone0_ev (k : Nat) (H : Heap) : EFun C GT a_clone [.lst (some true) k []] H (.lst (some true) 0 []) H:=by
 refine za ?_; refine zl rfl <| zG ?_
 exact sRet ⟨rfl,rfl⟩
theorem clone_ev (k : Nat) (l : List Fil) (hk : k = 3 ∨ l = []) (hl : l.length ≤ 3000) (H : Heap) : EFun C GT a_clone [.lst (some false) k (l.map zR)] H (.sl (some false) (H.length + 1) 3 0 l.length) ((H ++ [ABlk.row 3 []]).set H.length .dead ++ [.row 3 (l.map zR)]):=by
 have hv : view (H ++ [ABlk.row 3 []]) 3 (.lst (some false) k (l.map zR)) = some (l.map zR):=by
  rcases hk with rfl | rfl
  ·rfl
  ·simp [view]
 have hlm : (l.map zR).length = l.length:=zMx _
 refine za ?_; refine zl rfl <| zF <| zAF (vs':=[]) rfl rfl ?_
 have ha : astep (.append 3 32) [.sl (some false) H.length 3 0 0,.lst (some false) k (l.map zR)] (H ++ [ABlk.row 3 []]) = some (.sl (some false) (H.length + 1) 3 0 l.length,(H ++ [ABlk.row 3 []]).set H.length .dead ++ [.row 3 (l.map zR)]):=by
  have hrow : (H ++ [ABlk.row 3 []])[H.length]? = some (.row 3 []):=zB
  simp only [astep,hv,hrow,hlm]
  rw [zMt ⟨trivial,trivial,by simp,by omega,by omega⟩]
  simp
 refine sAct ha ?_
 exact sRet ⟨rfl,rfl⟩
set_option maxHeartbeats 4000000 in
theorem kwith_ev (hS : ∀ lv (l : List Fil) c r H found,l.length ≤ 3000 → Srtd l → view H 3 lv = some (l.map zR) → found = (match l[zIr l c r]? with | some f=>isC c r f | none=>false) →
   C zo [lv,zn c r,.fn zBG [] []] H (.tup [zK (zIr l c r),.bool found]) H)
  (hCn : ∀ k H,C zZ [.lst (some true) k []] H (.lst (some true) 0 []) H)
  (hCl : ∀ k (l : List Fil) H,(k = 3 ∨ l = []) → l.length ≤ 3000 → C zZ [.lst (some false) k (l.map zR)] H (.sl (some false) (H.length + 1) 3 0 l.length) ((H ++ [ABlk.row 3 []]).set H.length .dead ++ [.row 3 (l.map zR)]))
  (hD : ∀ b i (l : List Fil) H,H[b]? = some (.row 3 (l.map zR)) → i < l.length → l.length ≤ 3000 → C zAB [.sl (some false) b 3 0 l.length,zK i,zK (i + 1)] H (.lst (some false) 3 ((l.eraseIdx i).map zR)) (H.set b .dead))
  (hI : ∀ b b' i (l : List Fil) (f : Fil) H,H[b]? = some (.row 3 (l.map zR)) → H[b']? = some (.row 3 [zR f]) → b ≠ b' → i ≤ l.length → l.length ≤ 3000 → C zh [.sl (some false) b 3 0 l.length,zK i,.sl (some false) b' 3 0 1] H (.lst (some false) 3 ((l.take i ++ f :: l.drop i).map zR)) (H.set b .dead))
  (hI0 : ∀ b' (f : Fil) H,H[b']? = some (.row 3 [zR f]) → C zh [.lst (some true) 0 [],zK 0,.sl (some false) b' 3 0 1] H (.lst (some false) 3 [zR f]) H)
  (q : Bool) (k : Nat) (l : List Fil) (hk : k = 3 ∨ l = []) (hq : q = true → l = []) (hl : l.length ≤ 3000) (hs : Srtd l) (c r : Int) (t : Bs) (H : Heap) : EFun C GT zKh [.lst (some q) k (l.map zR),zn c r,.str t] H (withV q l c r t) H:=by
 have hlm : (l.map zR).length = l.length:=zMx _
 have hv : ∀ H,view H 3 (.lst (some q) k (l.map zR)) = some (l.map zR):=fun H=>by
  rcases hk with rfl | rfl
  ·rfl
  ·simp [view]
 refine za ?_; refine zDw (x:=zn c r) rfl ?_
 have hb0 : (H ++ [ABlk.box (zn c r).cells])[H.length]? = some (.box (zn c r).cells):=zB
 have hO : Old H (H ++ [ABlk.box (zn c r).cells]):=(Old.refl H).push _
 have hbs:=fun found h=>hS (.lst (some q) k (l.map zR)) l c r (H ++ [ABlk.box (zn c r).cells]) found hl hs (hv _) h
 clear hS
 cases q with
 | true=>
  obtain rfl:=hq rfl
  have hbs:=hbs false rfl
  have hcn:=hCn k (H ++ [ABlk.box (zn c r).cells])
  clear hCn hCl hD hI
  by_cases ht : t = []
  ·have hw : withV true [] c r t = .lst (some true) 0 []:=zMt ⟨rfl,ht⟩
   rw [hw]
   refine zC (zn c r) zB rfl <| zI hbs <| zl rfl <| zl rfl <| zAZ hcn (fun h=>by cases h) <| zF ?_; refine zF <| zF <| zF <| zc (tE ht) ?_
   exact zBN rfl rfl rfl rfl hO
  ·have hw : withV true [] c r t = .lst (some false) 3 [zR ⟨c,r,t⟩]:=by
    unfold withV
    rw [zMq (fun h=>ht h.2)]
    simp [zBj,ht]
   rw [hw]
   refine zC (zn c r) hb0 rfl <| zI hbs <| zl rfl <| zl rfl <| zAZ hcn (fun h=>by cases h) <| zF ?_; refine zF <| zF <| zF <| zW (tN ht) <| zC (zn c r) hb0 rfl <| zl (v:=[zJ c,zJ r,AV.str t]) rfl ?_; refine zAF (vs':=[AV.agg [zJ c,zJ r,AV.str t]]) rfl rfl <| zAZ (hI0 _ ⟨c,r,t⟩ _ zB) (fun h=>by cases h) ?_
   exact zBN rfl rfl rfl rfl (hO.push _)
 | false=>
  have hw : withV false l c r t = .lst (some false) 3 ((zBj l c r t).map zR):=zMq (fun h=>by cases h.1)
  rw [hw]
  have hcl:=hCl k l (H ++ [ABlk.box (zn c r).cells]) hk hl
  clear hCn hCl hI0
  obtain ⟨H1,hH1⟩ : ∃ H1,(H ++ [ABlk.box (zn c r).cells] ++ [ABlk.row 3 []]).set (H ++ [ABlk.box (zn c r).cells]).length .dead ++ [.row 3 (l.map zR)] = H1:=⟨_,rfl⟩
  obtain ⟨b,hb⟩ : ∃ b,(H ++ [ABlk.box (zn c r).cells]).length + 1 = b:=⟨_,rfl⟩
  have hbl : b = H.length + 2:=by rw [← hb]; simp
  have hH1l : H1.length = H.length + 3:=by rw [← hH1]; simp
  have hO1 : Old H H1:=by
   rw [← hH1]
   exact ((hO.push _).set (by simp) _).push _
  have hrow : H1[b]? = some (.row 3 (l.map zR)):=by
   rw [← hH1,hbl,zM6 (by simp)]
   simp
  have hb1 : H1[H.length]? = some (.box (zn c r).cells):=by
   rw [← hH1,zM0 (by simp),zNE (by simp),zM0 (by simp)]
   exact hb0
  rw [hH1,hb] at hcl
  clear hH1 hb
  rcases at_pos hs c r with ⟨f,hf,hr,hc,hfi⟩ | ⟨hfi,hno⟩
  ·have hbs:=hbs true (by rw [hf]; simp [isC,hr,hc])
   have hlt:=(zg hf).1
   rw [withS_has hs c r hf hr hc t]
   generalize zIr l c r = i at *
   by_cases ht : t = []
   ·rw [zMt ht]
    have hd:=hD b i l H1 hrow hlt hl
    clear hD hI
    refine zC (zn c r) zB rfl <| zI hbs <| zl rfl <| zl rfl <| zAZ hcl (fun h=>by cases h) <| zG ?_; refine zG <| zc (tE ht) <| zN (r:=i + 1) rfl tO <| zAZ hd (fun h=>by cases h) ?_
    exact zBN rfl rfl rfl rfl (hO1.set (by first | assumption | exact zMv _ | omega | (simp only [zM5,zM3,zMu,zM7]; omega) | (simp; done) | (simp; omega)) _)
   ·rw [zMq ht]
    clear hD hI
    have hx : (l.map zR)[i]? = some (zR f):=by rw [zM2,hf]; rfl
    have hset : (l.map zR).set i (.agg (splice [zJ f.col,zJ f.row,.str f.text] 2 [.str t])) = (l.set i ⟨c,r,t⟩).map zR:=by rw [List.map_set,← hr,← hc]; rfl
    refine zC (zn c r) zB rfl <| zI hbs <| zl rfl <| zl rfl <| zAZ hcl (fun h=>by cases h) <| zG ?_; refine zG <| zW (tN ht) <| zG <| sAt ⟨by omega,by omega⟩ <| sStoreA i (.str t) [zJ f.col,zJ f.row,.str f.text] (by simp) hrow hx rfl (by decide) (by decide) rfl ?_
    have hz : zDJ H.length (.sl (some false) b 3 0 l.length) (H1.set b (.row 3 ((l.map zR).set i (.agg (splice [zJ f.col,zJ f.row,.str f.text] (0 + 2) (AV.str t).cells))))) = some (.lst (some false) 3 ((l.set i ⟨c,r,t⟩).map zR),(H1.set b (.row 3 ((l.map zR).set i (.agg (splice [zJ f.col,zJ f.row,.str f.text] (0 + 2) (AV.str t).cells))))).set b (.frz 3 ((l.set i ⟨c,r,t⟩).map zR))):=by
     rw [← hset]
     exact frz_slw tO (zE hrow) (by simp)
    exact zIX rfl rfl hz rfl ((hO1.set (by rw [hbl]; omega) _).set (by rw [hbl]; omega) _)
  ·have hbs:=hbs false (by
    cases hq : l[zIr l c r]? with
    | none=>rfl
    | some f=>
     have:=hno f hq
     simp only [isC]
     exact (zNV this).symm)
   have hile:=posC_le l c r
   rw [withS_not hs c r hno t]
   generalize zIr l c r = i at *
   by_cases ht : t = []
   ·rw [zMt ht]
    clear hD hI
    refine zC (zn c r) zB rfl <| zI hbs <| zl rfl <| zl rfl <| zAZ hcl (fun h=>by cases h) <| zF ?_; refine zF <| zF <| zF <| zc (tE ht) ?_
    exact zIX rfl rfl (frz_slw (n0:=H.length) tO hrow (by simp)) rfl (hO1.set tO _)
   ·rw [zMq ht]
    have hin:=fun b' H h1 h2 h3=>hI b b' i l ⟨c,r,t⟩ H h1 h2 h3 hile hl
    clear hD hI
    refine zC (zn c r) zB rfl <| zI hbs <| zl rfl <| zl rfl <| zAZ hcl (fun h=>by cases h) <| zF ?_; refine zF <| zF <| zF <| zW (tN ht) <| zC (zn c r) hb1 rfl <| zl (v:=[zJ c,zJ r,AV.str t]) rfl ?_; refine zAF (vs':=[AV.agg [zJ c,zJ r,AV.str t]]) rfl rfl <| zAZ (hin _ _ (zD hrow) zB tO) (fun h=>by cases h) ?_
    exact zBN rfl rfl rfl rfl ((hO1.push _).set (by first | assumption | exact zMv _ | omega | (simp only [zM5,zM3,zMu,zM7]; omega) | (simp; done) | (simp; omega)) _)
end
end Go.AM
set_option maxRecDepth 20000
namespace Go.AM
theorem sRetW {F : AF} {H H1 H2 H' : Heap} {fr : Fr} {v0 v : AV} (hk : F.keep = false) (hr : (zBo fr H1 F.results).map tupled = some v0) (hf : zDJ H.length v0 H1 = some (v,H2)) (hb : v.bel H.length = true) (ho : OldOK H H2) (hH : H' = H2.take H.length) : retP F H fr H1 v H':=by
 refine sRet ?_
 unfold zGo
 cases hs : zBo fr H1 F.results with
 | none=>rw [hs] at hr; cases hr
 | some vs=>
  rw [hs] at hr
  simp only [zM9,zMp] at hr
  subst hr
  simp only [hk,hf,zM1,zNN]
  exact ⟨hb,ho,trivial,hH⟩
theorem gone_old {H : Heap} {b : Nat} (hb : b < H.length) (X Y : ABlk) : OldOK H ((H.set b .dead ++ [X]).set H.length Y) ∧ H.set b .dead = ((H.set b .dead ++ [X]).set H.length Y).take H.length:=by
 have e : (H.set b .dead ++ [X]).set H.length Y = H.set b .dead ++ [Y]:=by
  rw [List.set_append,zMq (by simp)]
  simp
 rw [e]
 refine ⟨fun c hc=>?_,(zPf (by simp)).symm⟩
 by_cases h : c = b
 ·subst h
  exact .inr ⟨.dead,by rw [zM0 (by simpa using hc),zNB hc],rfl⟩
 ·exact .inl (by rw [zM0 (by simpa using hc),zNE (fun e=>h e.symm)])
section
variable {C : CSpec} {GT : Nat → Option AV}
theorem insert_end_ev (b b' : Nat) (l : List Fil) (f : Fil) (H : Heap) (hb : H[b]? = some (.row 3 (l.map zR))) (hb' : H[b']? = some (.row 3 [zR f])) (hn : b ≠ b') (hl : l.length ≤ 3000) :
  EFun C GT zAV [.sl (some false) b 3 0 l.length,zK l.length,.sl (some false) b' 3 0 1] H (.lst (some false) 3 ((l ++ [f]).map zR)) (H.set b .dead):=by
 have hlm : (l.map zR).length = l.length:=zMx _
 have hblt:=(zg hb).1
 have hs : zA0 (some 3) (.sl (some false) b 3 0 l.length) (some (zK l.length)) none = some (.sl (some false) b 3 l.length 0):=by
  have hq : zCg l.length (some (zK l.length)) none = some (l.length,l.length):=by simp [zCg,aHi,aLo,zK]
  simp only [zA0]
  rw [zMt trivial,hq]
  simp [cutQ]
 have hv : view H 3 (.sl (some false) b' 3 0 1) = some [zR f]:=by simp [view,hb']
 have ha : astep (.append 3 32) [.sl (some false) b 3 0 l.length,.sl (some false) b' 3 0 1] H = some (.sl (some false) H.length 3 0 (l.length + 1),H.set b .dead ++ [.row 3 ((l ++ [f]).map zR)]):=by
  simp only [astep,hv,hb]
  rw [zMt ⟨trivial,trivial,by omega,by simp; omega,by simp; omega⟩]
  simp [zNK (Nat.le_of_eq hlm)]
 refine za ?_; refine zl hs <| zDv <| zW (tN (by decide)) <| zDv <| zc (tE rfl) <| sAct ha ?_
 have hr : (H.set b .dead ++ [ABlk.row 3 ((l ++ [f]).map zR)])[H.length]? = some (.row 3 ((l ++ [f]).map zR)):=by
  rw [zM6 (by simp)]
  simp
 exact sRetW rfl rfl (frz_slw (zMv _) hr (by simp)) rfl (gone_old hblt _ _).1 (gone_old hblt _ _).2
theorem insert_nil_ev (b' : Nat) (f : Fil) (H : Heap) (hb' : H[b']? = some (.row 3 [zR f])) :
  EFun C GT zAV [.lst (some true) 0 [],zK 0,.sl (some false) b' 3 0 1] H (.lst (some false) 3 [zR f]) H:=by
 have hv : view H 3 (.sl (some false) b' 3 0 1) = some [zR f]:=by simp [view,hb']
 have ha : astep (.append 3 32) [.lst (some true) 0 [],.sl (some false) b' 3 0 1] H = some (.sl (some true) H.length 3 0 1,H ++ [.row 3 [zR f]]):=by
  simp only [astep,hv]
  rw [zMt ⟨by simp,by simp⟩]
  rfl
 refine za ?_; refine zl rfl <| zDv <| zW (tN (by decide)) <| sLenL <| zc (tE rfl) <| sAct ha ?_
 have hz : zDJ H.length (.sl (some true) H.length 3 0 1) (H ++ [ABlk.row 3 [zR f]]) = some (.lst (some false) 3 [zR f],(H ++ [ABlk.row 3 [zR f]]).set H.length (.frz 3 [zR f])):=by
  simp only [zDJ]
  rw [zMq tO,zB]
  simp [frzQ]
 exact zIX rfl rfl hz rfl (((Old.refl H).push _).set (zMv _) _)
end
end Go.AM
set_option maxRecDepth 1000000
namespace Go.AM
open Go Go.Lib Go.Proofs
def AtC (w : World) (g o : Nat) (vs : List Value) : Prop:=∀ j v,vs[j]? = some v → w.cell? ⟨g,o + j,none⟩ = some v
theorem AtC.app {w : World} {g o : Nat} {a b : List Value} (h : AtC w g o a) (k : AtC w g (o + a.length) b) : AtC w g o (a ++ b):=by
 intro j v hj
 by_cases e : j < a.length
 ·rw [zM0 e] at hj; exact h j v hj
 ·rw [zM6 tO] at hj
  have:=k _ v hj
  rwa [show o + a.length + (j - a.length) = o + j by omega] at this
theorem AtC.take {w : World} {g o : Nat} {a : List Value} (n : Nat) (h : AtC w g o a) : AtC w g o (a.take n):=fun j v hj=>by
 rw [zNL] at hj
 split at hj
 ·exact h j v hj
 ·cases hj
theorem AtC.out {w : World} {g o : Nat} {a : List Value} (h : AtC w g o a) (p : Nat) (vs : List Value) (hd : o + a.length ≤ p ∨ p + vs.length ≤ o) : AtC (w.setCells g p vs) g o a:=fun j v hj=>by
 have hjl:=(zg hj).1
 rw [World.cell?_setCells_out g _ _ _ _ (fun _ _=>by show o + j < p ∨ p + vs.length ≤ o + j; omega)]
 exact h j v hj
theorem AtC.drew {w : World} {g o : Nat} {a : List Value} (h : AtC w g o a) : AtC w.drew g o a:=h
theorem AtC.set {w : World} {g p : Nat} {vs : List Value} (hs : ∀ j,j < vs.length → (w.cell? ⟨g,p + j,none⟩).isSome = true) : AtC (w.setCells g p vs) g p vs:=fun j v hj=>by
 obtain ⟨hl,rfl⟩:=zg hj
 exact World.cell?_setCells_in g vs p w hs j hl
theorem some_set {w : World} {g p : Nat} {vs : List Value} {x : Nat} (hs : ∀ j,j < vs.length → (w.cell? ⟨g,p + j,none⟩).isSome = true) (h : (w.cell? ⟨g,x,none⟩).isSome = true) : ((w.setCells g p vs).cell? ⟨g,x,none⟩).isSome = true:=
 Go.Proofs.isSome_setCells g vs p w hs _ h
theorem SameBut.new {w w' : World} (h : SameBut w.heap.size w w') (g : Nat) : SameBut g w w':=⟨h.os,h.tape,h.out,h.size,fun j hj _=>h.other j hj tO,h.shape⟩
theorem sl_arg {w : World} {M : AMap} {I : Nat → Prop} {n b len g o : Nat} {v : Value} (h : Rel w M I n (.sl (some false) b 3 0 len) v) (hM : M b = some (g,o)) (hl : 0 < len) :
  ∃ cap,v = .slice (some ⟨g,o,none⟩) len cap ∧ len ≤ cap ∧ cap ≤ maxLen ∧ ∃ e sz,w.shape? g = some (e,sz) ∧ o + cap * 3 ≤ sz:=by
 cases h with
 | sln _ _ _ _ _ hm=>omega
 | sl _ _ _ _ _ g1 o1 p cap hb hm hc hm2 hq ha=>
  rw [hM] at hm
  cases hm
  obtain ⟨rfl,e,sz,h1,h2⟩:=ha tO
  exact ⟨cap,by simp,hc,hm2,e,sz,h1,by simpa using h2⟩
theorem nat_arg {w : World} {M : AMap} {I : Nat → Prop} {n k : Nat} {v : Value} (h : Rel w M I n (zK k) v) : v = .int .i64 k:=by
 unfold zK at h
 cases h
 rfl
theorem relL_3 {w : World} {M : AMap} {I : Nat → Prop} {n : Nat} {x y z : AV} {vs : List Value} (h : zDS w M I n [x,y,z] vs) : ∃ v u t,vs = [v,u,t] ∧ Rel w M I n x v ∧ Rel w M I n y u ∧ Rel w M I n z t:=by
 obtain ⟨hl,h⟩:=h
 match vs,hl with
 | [v,u,t],_=>exact ⟨v,u,t,rfl,h 0 x v rfl rfl,h 1 y u rfl rfl,h 2 z t rfl rfl⟩
end Go.AM
namespace Go.Proofs.YthllabjbdobpgaaGreatDoor
open Go.AM Go.Shelf Go.RowKit Go.Lib Go.Proofs
theorem zMj {GT : Nat → Option AV} (k : Nat) (H : Heap) : Go.AM.Good Tryz.prog GT zZ [.lst (some true) k []] H (.lst (some true) 0 []) H:=
 zM zMh (by kernel_rfl : zAE Tryz.prog zZ a_clone = true) (clone0_ev k H)
theorem good_clone {GT : Nat → Option AV} (k : Nat) (l : List Fil) (H : Heap) (hk : k = 3 ∨ l = []) (hl : l.length ≤ 3000) : Go.AM.Good Tryz.prog GT zZ [.lst (some false) k (l.map zR)] H (.sl (some false) (H.length + 1) 3 0 l.length) ((H ++ [ABlk.row 3 []]).set H.length .dead ++ [.row 3 (l.map zR)]):=
 zM zMh (by kernel_rfl : zAE Tryz.prog zZ a_clone = true) (clone_ev k l hk hl H)
theorem good_delete {GT : Nat → Option AV} (b i : Nat) (l : List Fil) (H : Heap) (hb : H[b]? = some (.row 3 (l.map zR))) (hi : i < l.length) (hl : l.length ≤ 3000) :
  Go.AM.Good Tryz.prog GT zAB [.sl (some false) b 3 0 l.length,zK i,zK (i + 1)] H (.lst (some false) 3 ((l.eraseIdx i).map zR)) (H.set b .dead):=by
 refine zD6 Tryz.func40 (by kernel_rfl) (by kernel_rfl) rfl fun w M I cargs hS hA=>?_
 obtain ⟨v1,v2,v3,rfl,r1,r2,r3⟩:=relL_3 hA
 have hne : l ≠ []:=by rintro rfl; simp at hi
 obtain ⟨g,o,e,sz,hM,hg,hsh,hfit,hcs,hsome,hfz⟩:=row_fils hS hb hne
 obtain ⟨cap,rfl,hc,hm,e2,sz2,hsh2,hfit2⟩:=sl_arg r1 hM tO
 rw [hsh] at hsh2
 cases hsh2
 obtain rfl:=nat_arg r2
 obtain rfl:=nat_arg r3
 refine Calls.mono (del_calls g o l.length cap i l w rfl hi hc (by unfold maxLen at hm; omega) hcs (fun j hj=>hfz _ tO)) ?_
 rintro e' w' ⟨rfl,rfl⟩
 refine ⟨.slice (some ⟨g,o,none⟩) (l.length - 1) cap,rfl, ?_⟩
 have hel : (l.eraseIdx i).length = l.length - 1:=by rw [List.length_eraseIdx,zMt hi]
 rw [← hel]
 have hsb : SameBut g w ((w.drew.setCells g (o + i * 3) ((zBT l).drop ((i + 1) * 3))).setCells g (o + (l.eraseIdx i).length * 3) zF3):=((SameBut.drew w).trans (SameBut.setCells g _ _ _)).trans (SameBut.setCells g _ _ _)
 refine zHf (k:=0) hS hb hM hsb (.inl rfl) (zNX hg hsb.size) tO hm ?_
 have hcl:=zDs l
 have hcs' : AtC w.drew g o (zBT l):=hcs
 have hsm : ∀ j,j < sz → (w.drew.cell? ⟨g,j,none⟩).isSome = true:=hsome
 have e1 : zBT (l.eraseIdx i) = (zBT l).take (i * 3) ++ (zBT l).drop ((i + 1) * 3):=by
  rw [zPb,zJp,zHq l i tO,filCs_drop l (i + 1) tO]
 rw [e1]
 have l1 : ((zBT l).take (i * 3)).length = i * 3:=by rw [zM8]; omega
 have l2 : ((zBT l).drop ((i + 1) * 3)).length = (l.length - 1 - i) * 3:=by rw [zNS]; omega
 refine AtC.app (((hcs'.take _).out _ _ (.inl tO)).out _ _ (.inl tO)) ?_
 rw [l1]
 exact (AtC.set (fun j hj=>hsm _ tO)).out _ _ (.inl tO)
theorem good_insert0 {GT : Nat → Option AV} (b' : Nat) (f : Fil) (H : Heap) (hb' : H[b']? = some (.row 3 [zR f])) :
  Go.AM.Good Tryz.prog GT zh [.lst (some true) 0 [],zK 0,.sl (some false) b' 3 0 1] H (.lst (some false) 3 [zR f]) H:=
 zM zMh zBA (insert_nil_ev b' f H hb')
theorem good_insert {GT : Nat → Option AV} (b b' i : Nat) (l : List Fil) (f : Fil) (H : Heap) (hb : H[b]? = some (.row 3 (l.map zR))) (hb' : H[b']? = some (.row 3 [zR f])) (hn : b ≠ b') (hi : i ≤ l.length) (hl : l.length ≤ 3000) :
  Go.AM.Good Tryz.prog GT zh [.sl (some false) b 3 0 l.length,zK i,.sl (some false) b' 3 0 1] H (.lst (some false) 3 ((l.take i ++ f :: l.drop i).map zR)) (H.set b .dead):=by
 by_cases e : i = l.length
 ·subst e
  rw [zOu,List.drop_length]
  exact zM zMh zBA (insert_end_ev b b' l f H hb hb' hn hl)
 have hi : i < l.length:=by omega
 refine zD6 Tryz.func41 (by kernel_rfl) (by kernel_rfl) rfl fun w M I cargs hS hA=>?_
 obtain ⟨v1,v2,v3,rfl,r1,r2,r3⟩:=relL_3 hA
 have hne : l ≠ []:=by rintro rfl; simp at hi
 obtain ⟨g,o,e,sz,hM,hg,hsh,hfit,hcs,hsome,hfz⟩:=row_fils hS hb hne
 obtain ⟨g',o',e3,sz',hM',hg',hsh',hfit',hcs',hsome',hfz'⟩:=row_fils (l:=[f]) hS hb' (by simp)
 obtain ⟨cap,rfl,hc,hm,e2,sz2,hsh2,hfit2⟩:=sl_arg r1 hM tO
 obtain ⟨cap',rfl,hc',hm',_,_,_,_⟩:=sl_arg r3 hM' tO
 rw [hsh] at hsh2
 cases hsh2
 obtain rfl:=nat_arg r2
 have hgg : g' ≠ g:=fun h=>hn (by subst h; exact hS.inj b b' _ _ g' o o' hb rfl hb' rfl hM hM')
 have hcl:=zDs l
 have l0 : (zIq f).length = 3:=rfl
 have l1 : ((zBT l).take (i * 3)).length = i * 3:=by rw [zM8]; omega
 have l2 : ((zBT l).drop (i * 3)).length = (l.length - i) * 3:=by rw [zNS]; omega
 have e1 : zBT (l.take i ++ f :: l.drop i) = (zBT l).take (i * 3) ++ (zIq f ++ (zBT l).drop (i * 3)):=by
  rw [zJp,zHq l i tO,← filCs_drop l i tO]
  rfl
 have hil : (l.take i ++ f :: l.drop i).length = l.length + 1:=by simp; omega
 have hv : ∀ j v,(zIq f)[j]? = some v → w.cell? ⟨g',o' + j,none⟩ = some v:=fun j v hj=>hcs' j v (by simpa [zBT] using hj)
 have hm63 : cap ≤ 9223372036854775807:=by unfold maxLen at hm; omega
 have hsz1 : o' + 3 ≤ sz':=by simpa using hfit'
 by_cases hroom : l.length + 1 ≤ cap
 ·refine Calls.mono (ins_shift g o l.length cap i g' o' cap' l f w rfl hi hroom hm63 hgg hcs (fun j hj=>hsome _ tO) (fun j hj=>hfz _ tO) hv e3 e sz' sz hsh' hsh tO (hfz' _ tO) (hfz' _ tO)) ?_
  rintro e' w' ⟨rfl,rfl⟩
  refine ⟨.slice (some ⟨g,o,none⟩) (l.length + 1) cap,rfl, ?_⟩
  rw [← hil]
  have hsb : SameBut g w ((w.drew.setCells g (o + (i + 1) * 3) ((zBT l).drop (i * 3))).setCells g (o + i * 3) (zIq f)):=((SameBut.drew w).trans (SameBut.setCells g _ _ _)).trans (SameBut.setCells g _ _ _)
  refine zHf (k:=0) hS hb hM hsb (.inl rfl) (zNX hg hsb.size) tO hm ?_
  have hcs2 : AtC w.drew g o (zBT l):=hcs
  have hsm : ∀ j,j < sz → (w.drew.cell? ⟨g,j,none⟩).isSome = true:=hsome
  rw [e1]
  refine AtC.app (((hcs2.take _).out _ _ (.inl tO)).out _ _ (.inl tO)) (AtC.app ?_ ?_)
  ·rw [l1]
   exact AtC.set (fun j hj=>some_set (fun j hj=>hsm _ tO) (hsm _ tO))
  ·rw [l1,l0,show o + i * 3 + 3 = o + (i + 1) * 3 by omega]
   exact (AtC.set (fun j hj=>hsm _ tO)).out _ _ (.inr tO)
 ·refine Calls.mono (ins_grow g o l.length cap i g' o' cap' l f w rfl hi hc tO hl hcs hv) ?_
  rintro e' w' ⟨ROW,G,rfl,hG1,hG2,hpre,hsz,rfl⟩
  refine ⟨.slice (some ⟨w.heap.size,0,none⟩) (l.length + 1) G,rfl, ?_⟩
  rw [← hil]
  obtain ⟨W1,hW1⟩ : ∃ W1,W1 = (w.alloc (.cells ROW 43)).drew:=⟨_,rfl⟩
  have hsb : SameBut g w ((((w.alloc (.cells ROW 43)).drew.setCells w.heap.size (i * 3) (zIq f)).drew).setCells w.heap.size ((i + 1) * 3) ((zBT l).drop (i * 3))):=
   (((((SameBut.alloc w.heap.size w (.cells ROW 43)).trans (SameBut.drew _)).trans (SameBut.setCells _ _ _ _)).trans (SameBut.drew _)).trans (SameBut.setCells _ _ _ _)).new g
  have hsz2 : (w.alloc (.cells ROW 43)).heap.size = w.heap.size + 1:=by
   show (w.heap.push _).size = _
   simp
  have hsz3:=((((SameBut.drew (w.alloc (.cells ROW 43))).trans (SameBut.setCells w.heap.size (zIq f) (i * 3) _)).trans (SameBut.drew _)).trans (SameBut.setCells w.heap.size ((zBT l).drop (i * 3)) ((i + 1) * 3) _)).size
  refine zHf (k:=0) hS hb hM hsb (.inr (zMv _)) tO tO hG2 ?_
  rw [← hW1]
  have hrow : ∀ j v,ROW[j]? = some v → W1.cell? ⟨w.heap.size,j,none⟩ = some v:=fun j v hj=>by
   rw [hW1]
   show (w.alloc (.cells ROW 43)).cell? ⟨w.heap.size,j,none⟩ = some v
   rw [World.cell?_alloc_at ROW _ w.heap.size j rfl,hj]
  have hsm : ∀ j,j < ROW.size → (W1.cell? ⟨w.heap.size,j,none⟩).isSome = true:=fun j hj=>by rw [hrow j _ (zOB hj)]; rfl
  have htk : AtC W1 w.heap.size 0 ((zBT l).take (i * 3)):=fun j v hj=>by
   rw [zNo]
   rw [← zHq l i tO] at hj
   refine hrow j v ?_
   obtain ⟨tl,htl⟩:=hpre
   rw [← Array.getElem?_toList,← htl,zM0 (zg hj).1]
   exact hj
  rw [e1]
  refine AtC.app ((htk.out (i * 3) (zIq f) (.inl tO)).drew.out _ _ (.inl tO)) (AtC.app ?_ ?_)
  ·rw [l1,zNo]
   exact (AtC.set (fun j hj=>hsm _ tO)).drew.out _ _ (.inl tO)
  ·rw [l1,l0,show 0 + i * 3 + 3 = (i + 1) * 3 by omega]
   exact AtC.set (fun j hj=>some_set (w:=W1) (fun j hj=>hsm _ tO) (hsm _ tO))
end Go.Proofs.YthllabjbdobpgaaGreatDoor
