/- Several texts of mine in one (Be3, Gbe, Am26, Am32, Arf). Own work. -/
import Derived.Test.YtaohficjbicfgaaGreatDoorGRfgBe2
import Derived.Test.YtaohficjbicfgaaGreatDoorGFr7Am24
import Derived.SizedLaws
import Derived.Handed
import Derived.DataWitness
import Derived.Test.YtaohficjbicfgaaGreatDoorGRfcChk
set_option linter.all false
set_option maxRecDepth 20000
namespace Go.AM
def mayN (f : Fil) : Nat := if okC f.col f.row = true then zBG f.text else 1
section
variable {C : CSpec} {GT : Nat → Option AV}
set_option maxHeartbeats 4000000 in
theorem blaw_ev (hI : ∀ c r H, C zCH [zAu c r] H (.bool (okC c r)) H) (hT : ∀ s H, C zA0 [.str s] H (zJ (zBG s)) H) (hM : ∀ f, okF f → ∀ H, C zCI [zu f] H (bsV (zHo f)) H)
  (hK : ∀ f n, mayN f = n → ∀ H, C zCx [zu f] H (.tup [if n = 0 then bsV (zHo f) else .lst (some true) 0 [], eV n]) H) (hR : ∀ n H, C zAQ [eV n, zJ n] H (.bool true) H)
  (hB : ∀ v w (l : List UInt8) H, view H 1 v = some (l.map zl) → view H 1 w = some (l.map zl) → l.length ≤ 1000000 → C zBe [v, w] H (.bool true) H)
  (hC : ∀ lv l H, view H 3 lv = some (l.map zu) → C zBf [lv] H (zJ (zAx l)) H) (hW : ∀ lv l H, view H 3 lv = some (l.map zu) → C zCJ [lv] H (.tup [wriV l, eV (zAx l)]) H)
  (f : Fil) (lv : AV) (l : List Fil) (H : Heap) (hv : view H 3 lv = some (l.map zu)) : EFun C GT zDY [zu f, lv] H (.bool true) H := by
 have hlm : (l.map zu).length = l.length := List.length_map _
 have hi := hI f.col f.row
 have ht := hT f.text
 have hk := hK f _ rfl
 have hc := fun H h => hC lv l H h
 have hw := fun H h => hW lv l H h
 clear hI hT hK hC hW
 refine zf ?_
 have hnil : ∀ H, C zBe [.lst (some true) 0 [], .lst (some true) 0 []] H (.bool true) H := fun H => hB _ _ [] H rfl rfl (by simp)
 by_cases h0 : mayN f = 0
 ·have hko : okC f.col f.row = true := by
   cases h : okC f.col f.row with
   | true => rfl
   | false => unfold mayN at h0; rw [h] at h0; cases h0
  have hto : zBG f.text = 0 := by unfold mayN at h0; rw [if_pos hko] at h0; exact h0
  have hme0 := hM f (okF_of hko hto)
  rw [h0, if_pos rfl] at hk
  rw [hko] at hi
  rw [hto] at ht
  have hk : ∀ H, C zCx [zu f] H (.tup [bsV (zHo f), .nili]) H := hk
  have hel := entB_len f
  have htl := textN_len hto
  have hb0 := fun H => hB _ _ (zHo f) H (zDu _ _) (zDu _ _) tO
  have hrr : ∀ H, C zAQ [.nili, zJ 0] H (.bool true) H := fun H => hR 0 H
  by_cases c0 : zAx l = 0
  ·obtain ⟨hl, hokl⟩ := zIg c0
   have hwr : wriV l = bsV (zDd l) := if_pos c0
   have hle := zEh l hokl
   rw [c0] at hc hw
   rw [hwr] at hw
   have hw : ∀ H, view H 3 lv = some (l.map zu) → C zCJ [lv] H (.tup [bsV (zDd l), .nili]) H := hw
   have hr0 : ∀ H, C zAQ [.nili, zJ 0] H (.bool true) H := fun H => hR 0 H
   have hvo : view (H ++ [ABlk.box (zu f).cells]) 3 lv = some (l.map zu) := zCk ((Old.refl H).push _) hv
   have hcc := hc _ hvo
   refine zCw (x := zu f) rfl ?_; refine zB (AV.agg [zK f.col, zK f.row]) zD rfl ?_; refine zI (hi _) ?_; refine zF ?_; refine zB (AV.str f.text) zD rfl ?_; refine zI (ht _) ?_; refine zH ?_; refine zB (zu f) zD rfl ?_; refine zI (hme0 _) ?_; refine zB (zu f) zD rfl ?_; refine zI (hk _) ?_; refine zU rfl ?_; refine zU rfl ?_; refine zI (hrr _) ?_; refine zI (hb0 _) ?_; refine zF <| zF <| zF ?_; refine zI hcc ?_
   refine zBL (fun x : Nat × AV => [(12, zJ x.1), (1, lv), (7, x.2), (5, zJ 0)]) (fun x H' => Old H H' ∧ x.1 ≤ l.length ∧ Owns H H' x.2 1 ((zDd (l.take x.1)).map zl)) (fun x => l.length - x.1) (0, .lst (some true) 0 []) rfl ⟨(Old.refl H).push _, by simp, .inl ⟨rfl, rfl⟩⟩ (fun ⟨i, v⟩ H1 ⟨hO, hi, ho⟩ => ?_)
   dsimp only at hi ho ⊢
   have hv1 := zCk hO hv
   by_cases hlt : i < l.length
   ·obtain ⟨g, hg⟩ : ∃ g, l[i]? = some g := ⟨_, List.getElem?_eq_getElem hlt⟩
    have hgm : (l.map zu)[i]? = some (zu g) := by rw [List.getElem?_map, hg]; rfl
    have hgo := hokl g (List.mem_of_getElem? hg)
    have hme := hM g hgo
    have hlt2 := zEh (l.take (i + 1)) fun g hg => hokl g (List.mem_of_mem_take hg)
    have hll : (l.take (i + 1)).length ≤ 200 := by rw [List.length_take]; omega
    rw [zC3 l i g hg, List.length_append] at hlt2
    refine zR tT ?_; refine zB1 hv1 ?_; refine zH <| zR tT ?_; refine zG3 i (zu g) hv1 rfl hgm (fun p hp => ?_)
    refine zAL (zu g) hp rfl ?_; refine zI (hme _) ?_; refine zCq (H0 := H) (ys := (zHo g).map zl) ho hO (zDu (zHo g) _) (by decide) (by simp only [List.length_map]; omega) (by simp [zHo, zJ7]) (fun v' H' ho' hO' _ hfr => ?_)
    refine zO (r := i + 1) rfl tO ?_; refine zAb (i + 1, v') rfl ⟨hO', by simp only; omega, ?_⟩ (by simp only; omega)
    rw [← List.map_append, ← zC3 l i g hg] at ho'
    exact ho'
   ·have he : l.take i = l := List.take_of_length_le tO
    rw [he] at ho
    have hw1 := hw _ hv1
    have hb1 := hB _ _ (zDd l) H1 (zDu _ _) ho.view tO
    refine zH ?_; refine zB1 hv1 ?_; refine zH <| zN tF ?_; refine zI hw1 ?_; refine zU rfl ?_; refine zU rfl ?_; refine zI (hr0 _) ?_; refine zI hb1 ?_; refine zH <| zH ?_
    exact zc rfl rfl rfl rfl hO
  ·have hwr : wriV l = .lst (some true) 0 [] := if_neg c0
   have he : eV (zAx l) = zEP (zAx l : Nat) := by unfold eV; rw [if_neg c0]
   have hr1 := fun H => hR (zAx l) H
   rw [he] at hr1
   rw [hwr, he] at hw
   have hvo : view (H ++ [ABlk.box (zu f).cells]) 3 lv = some (l.map zu) := zCk ((Old.refl H).push _) hv
   have hcc := hc _ hvo
   have hww := hw _ hvo
   generalize zAx l = cn at *
   refine zCw (x := zu f) rfl ?_; refine zB (AV.agg [zK f.col, zK f.row]) zD rfl ?_; refine zI (hi _) ?_; refine zF ?_; refine zB (AV.str f.text) zD rfl ?_; refine zI (ht _) ?_; refine zH ?_; refine zB (zu f) zD rfl ?_; refine zI (hme0 _) ?_; refine zB (zu f) zD rfl ?_; refine zI (hk _) ?_; refine zU rfl ?_; refine zU rfl ?_; refine zI (hrr _) ?_; refine zI (hb0 _) ?_; refine zF <| zF <| zF ?_; refine zI hcc ?_
   refine zBL (fun _ : Nat => [(12, zK 0), (1, lv), (7, .lst (some true) 0 []), (5, zJ cn)]) (fun x H' => H' = H ++ [ABlk.box (zu f).cells]) (fun _ => 0) 0 rfl rfl (fun _ H1 hH => ?_)
   subst hH
   refine zN tN <| zF <| zF ?_; refine zI hww ?_; refine zU rfl ?_; refine zU rfl ?_; refine zI (hr1 _) ?_; refine zI (hnil _) ?_; refine zH <| zH ?_
   exact zc rfl rfl rfl rfl ((Old.refl _).push _)
 ·have hme : eV (mayN f) = zEP (mayN f : Nat) := by unfold eV; rw [if_neg h0]
  have hrr := fun H => hR (mayN f) H
  rw [if_neg h0, hme] at hk
  rw [hme] at hrr
  cases hko : okC f.col f.row with
  | true =>
   have hto : zBG f.text = mayN f := by unfold mayN; rw [if_pos hko]
   rw [hko] at hi
   rw [hto] at ht
   clear hko hto hme
   generalize mayN f = mn at *
   by_cases c0 : zAx l = 0
   ·obtain ⟨hl, hokl⟩ := zIg c0
    have hwr : wriV l = bsV (zDd l) := if_pos c0
    have hle := zEh l hokl
    rw [c0] at hc hw
    rw [hwr] at hw
    have hw : ∀ H, view H 3 lv = some (l.map zu) → C zCJ [lv] H (.tup [bsV (zDd l), .nili]) H := hw
    have hr0 : ∀ H, C zAQ [.nili, zJ 0] H (.bool true) H := fun H => hR 0 H
    have hvo : view (H ++ [ABlk.box (zu f).cells]) 3 lv = some (l.map zu) := zCk ((Old.refl H).push _) hv
    have hcc := hc _ hvo
    refine zCw (x := zu f) rfl ?_; refine zB (AV.agg [zK f.col, zK f.row]) zD rfl ?_; refine zI (hi _) ?_; refine zF ?_; refine zB (AV.str f.text) zD rfl ?_; refine zI (ht _) ?_; refine zN tN ?_; refine zB (zu f) zD rfl ?_; refine zI (hk _) ?_; refine zU rfl ?_; refine zU rfl ?_; refine zI (hrr _) ?_; refine zI (hnil _) ?_; refine zF <| zF <| zF ?_; refine zI hcc ?_; refine zBL (fun x : Nat × AV => [(12, zJ x.1), (1, lv), (7, x.2), (5, zJ 0)]) (fun x H' => Old H H' ∧ x.1 ≤ l.length ∧ Owns H H' x.2 1 ((zDd (l.take x.1)).map zl)) (fun x => l.length - x.1) (0, .lst (some true) 0 []) rfl ⟨(Old.refl H).push _, by simp, .inl ⟨rfl, rfl⟩⟩ (fun ⟨i, v⟩ H1 ⟨hO, hi, ho⟩ => ?_)
    dsimp only at hi ho ⊢
    have hv1 := zCk hO hv
    by_cases hlt : i < l.length
    ·obtain ⟨g, hg⟩ : ∃ g, l[i]? = some g := ⟨_, List.getElem?_eq_getElem hlt⟩
     have hgm : (l.map zu)[i]? = some (zu g) := by rw [List.getElem?_map, hg]; rfl
     have hgo := hokl g (List.mem_of_getElem? hg)
     have hme := hM g hgo
     have hlt2 := zEh (l.take (i + 1)) fun g hg => hokl g (List.mem_of_mem_take hg)
     have hll : (l.take (i + 1)).length ≤ 200 := by rw [List.length_take]; omega
     rw [zC3 l i g hg, List.length_append] at hlt2
     refine zR tT ?_; refine zB1 hv1 ?_; refine zH <| zR tT ?_; refine zG3 i (zu g) hv1 rfl hgm (fun p hp => ?_)
     refine zAL (zu g) hp rfl ?_; refine zI (hme _) ?_; refine zCq (H0 := H) (ys := (zHo g).map zl) ho hO (zDu (zHo g) _) (by decide) (by simp only [List.length_map]; omega) (by simp [zHo, zJ7]) (fun v' H' ho' hO' _ hfr => ?_)
     refine zO (r := i + 1) rfl tO ?_; refine zAb (i + 1, v') rfl ⟨hO', by simp only; omega, ?_⟩ (by simp only; omega)
     rw [← List.map_append, ← zC3 l i g hg] at ho'
     exact ho'
    ·have he : l.take i = l := List.take_of_length_le tO
     rw [he] at ho
     have hw1 := hw _ hv1
     have hb1 := hB _ _ (zDd l) H1 (zDu _ _) ho.view tO
     refine zH ?_; refine zB1 hv1 ?_; refine zH <| zN tF ?_; refine zI hw1 ?_; refine zU rfl ?_; refine zU rfl ?_; refine zI (hr0 _) ?_; refine zI hb1 ?_; refine zH <| zH ?_
     exact zc rfl rfl rfl rfl hO
   ·have hwr : wriV l = .lst (some true) 0 [] := if_neg c0
    have he : eV (zAx l) = zEP (zAx l : Nat) := by unfold eV; rw [if_neg c0]
    have hr1 := fun H => hR (zAx l) H
    rw [he] at hr1
    rw [hwr, he] at hw
    have hvo : view (H ++ [ABlk.box (zu f).cells]) 3 lv = some (l.map zu) := zCk ((Old.refl H).push _) hv
    have hcc := hc _ hvo
    have hww := hw _ hvo
    generalize zAx l = cn at *
    refine zCw (x := zu f) rfl ?_; refine zB (AV.agg [zK f.col, zK f.row]) zD rfl ?_; refine zI (hi _) ?_; refine zF ?_; refine zB (AV.str f.text) zD rfl ?_; refine zI (ht _) ?_; refine zN tN ?_; refine zB (zu f) zD rfl ?_; refine zI (hk _) ?_; refine zU rfl ?_; refine zU rfl ?_; refine zI (hrr _) ?_; refine zI (hnil _) ?_; refine zF <| zF <| zF ?_; refine zI hcc ?_; refine zBL (fun _ : Nat => [(12, zK 0), (1, lv), (7, .lst (some true) 0 []), (5, zJ cn)]) (fun x H' => H' = H ++ [ABlk.box (zu f).cells]) (fun _ => 0) 0 rfl rfl (fun _ H1 hH => ?_)
    subst hH
    refine zN tN <| zF <| zF ?_; refine zI hww ?_; refine zU rfl ?_; refine zU rfl ?_; refine zI (hr1 _) ?_; refine zI (hnil _) ?_; refine zH <| zH ?_
    exact zc rfl rfl rfl rfl ((Old.refl _).push _)
  | false =>
   have hto : mayN f = 1 := by unfold mayN; rw [hko]; rfl
   rw [hko] at hi
   rw [hto] at hk hrr
   have hk : ∀ H, C zCx [zu f] H (.tup [.lst (some true) 0 [], zEP 1]) H := hk
   have hrr : ∀ H, C zAQ [zEP 1, zK 1] H (.bool true) H := hrr
   clear hko hto hme ht h0
   by_cases c0 : zAx l = 0
   ·obtain ⟨hl, hokl⟩ := zIg c0
    have hwr : wriV l = bsV (zDd l) := if_pos c0
    have hle := zEh l hokl
    rw [c0] at hc hw
    rw [hwr] at hw
    have hw : ∀ H, view H 3 lv = some (l.map zu) → C zCJ [lv] H (.tup [bsV (zDd l), .nili]) H := hw
    have hr0 : ∀ H, C zAQ [.nili, zJ 0] H (.bool true) H := fun H => hR 0 H
    have hvo : view (H ++ [ABlk.box (zu f).cells]) 3 lv = some (l.map zu) := zCk ((Old.refl H).push _) hv
    have hcc := hc _ hvo
    refine zCw (x := zu f) rfl ?_; refine zB (AV.agg [zK f.col, zK f.row]) zD rfl ?_; refine zI (hi _) ?_; refine zH <| zF ?_; refine zB (zu f) zD rfl ?_; refine zI (hk _) ?_; refine zU rfl ?_; refine zU rfl ?_; refine zI (hrr _) ?_; refine zI (hnil _) ?_; refine zF <| zF <| zF ?_; refine zI hcc ?_; refine zBL (fun x : Nat × AV => [(12, zJ x.1), (1, lv), (7, x.2), (5, zJ 0)]) (fun x H' => Old H H' ∧ x.1 ≤ l.length ∧ Owns H H' x.2 1 ((zDd (l.take x.1)).map zl)) (fun x => l.length - x.1) (0, .lst (some true) 0 []) rfl ⟨(Old.refl H).push _, by simp, .inl ⟨rfl, rfl⟩⟩ (fun ⟨i, v⟩ H1 ⟨hO, hi, ho⟩ => ?_)
    dsimp only at hi ho ⊢
    have hv1 := zCk hO hv
    by_cases hlt : i < l.length
    ·obtain ⟨g, hg⟩ : ∃ g, l[i]? = some g := ⟨_, List.getElem?_eq_getElem hlt⟩
     have hgm : (l.map zu)[i]? = some (zu g) := by rw [List.getElem?_map, hg]; rfl
     have hgo := hokl g (List.mem_of_getElem? hg)
     have hme := hM g hgo
     have hlt2 := zEh (l.take (i + 1)) fun g hg => hokl g (List.mem_of_mem_take hg)
     have hll : (l.take (i + 1)).length ≤ 200 := by rw [List.length_take]; omega
     rw [zC3 l i g hg, List.length_append] at hlt2
     refine zR tT ?_; refine zB1 hv1 ?_; refine zH <| zR tT ?_; refine zG3 i (zu g) hv1 rfl hgm (fun p hp => ?_)
     refine zAL (zu g) hp rfl ?_; refine zI (hme _) ?_; refine zCq (H0 := H) (ys := (zHo g).map zl) ho hO (zDu (zHo g) _) (by decide) (by simp only [List.length_map]; omega) (by simp [zHo, zJ7]) (fun v' H' ho' hO' _ hfr => ?_)
     refine zO (r := i + 1) rfl tO ?_; refine zAb (i + 1, v') rfl ⟨hO', by simp only; omega, ?_⟩ (by simp only; omega)
     rw [← List.map_append, ← zC3 l i g hg] at ho'
     exact ho'
    ·have he : l.take i = l := List.take_of_length_le tO
     rw [he] at ho
     have hw1 := hw _ hv1
     have hb1 := hB _ _ (zDd l) H1 (zDu _ _) ho.view tO
     refine zH ?_; refine zB1 hv1 ?_; refine zH <| zN tF ?_; refine zI hw1 ?_; refine zU rfl ?_; refine zU rfl ?_; refine zI (hr0 _) ?_; refine zI hb1 ?_; refine zH <| zH ?_
     exact zc rfl rfl rfl rfl hO
   ·have hwr : wriV l = .lst (some true) 0 [] := if_neg c0
    have he : eV (zAx l) = zEP (zAx l : Nat) := by unfold eV; rw [if_neg c0]
    have hr1 := fun H => hR (zAx l) H
    rw [he] at hr1
    rw [hwr, he] at hw
    have hvo : view (H ++ [ABlk.box (zu f).cells]) 3 lv = some (l.map zu) := zCk ((Old.refl H).push _) hv
    have hcc := hc _ hvo
    have hww := hw _ hvo
    generalize zAx l = cn at *
    refine zCw (x := zu f) rfl ?_; refine zB (AV.agg [zK f.col, zK f.row]) zD rfl ?_; refine zI (hi _) ?_; refine zH <| zF ?_; refine zB (zu f) zD rfl ?_; refine zI (hk _) ?_; refine zU rfl ?_; refine zU rfl ?_; refine zI (hrr _) ?_; refine zI (hnil _) ?_; refine zF <| zF <| zF ?_; refine zI hcc ?_; refine zBL (fun _ : Nat => [(12, zK 0), (1, lv), (7, .lst (some true) 0 []), (5, zJ cn)]) (fun x H' => H' = H ++ [ABlk.box (zu f).cells]) (fun _ => 0) 0 rfl rfl (fun _ H1 hH => ?_)
    subst hH
    refine zN tN <| zF <| zF ?_; refine zI hww ?_; refine zU rfl ?_; refine zU rfl ?_; refine zI (hr1 _) ?_; refine zI (hnil _) ?_; refine zH <| zH ?_
    exact zc rfl rfl rfl rfl ((Old.refl _).push _)
end
end Go.AM
set_option maxRecDepth 100000
namespace Go.Proofs.YtaohficjbicfgaaGreatDoor
open Go.AM
section
variable {m : Int} {ev : Value} (hev : ∃ te pe, ev = .iface te pe)
theorem g_bsum16 (v : AV) (l : List UInt8) (H : Heap) (hv : view H 1 v = some (l.map zl)) (hl : l.length ≤ 1000) : GQ m ev zGy [v] H (.int .u16 (sumN 1 l : Nat)) H := zM mixed k_book_sum (bksum_ev v l H hv hl)
theorem g_bentry (f : Fil) (hf : okF f) (H : Heap) : GQ m ev zCy [zu f] H (bsV (zHo f)) H := zM mixed k_book_entry (bentry_ev g_bsum16 f hf H)
theorem g_mentry (f : Fil) (hf : okF f) (H : Heap) : GQ m ev zCI [zu f] H (bsV (zHo f)) H := zM mixed zKo (mentry_ev f hf H)
include hev in
theorem g_may (f : Fil) (H : Heap) : GQ m ev zD1 [zAu f.col f.row, .str f.text] H (eV (mayN f)) H := zM mixed k_sheet_May (may_ev g_acheck (g_text hev) f H)
include hev in
theorem g_kentry (f : Fil) (n : Nat) (hn : mayN f = n) (H : Heap) : GQ m ev zCx [zu f] H (.tup [if n = 0 then bsV (zHo f) else .lst (some true) 0 [], eV n]) H := zM mixed k_book_Entry (kentry_ev (g_may hev) g_bentry f n hn H)
theorem g_sbytes (v w : AV) (l : List UInt8) (H : Heap) (hv : view H 1 v = some (l.map zl)) (hw : view H 1 w = some (l.map zl)) (hl : l.length ≤ 1000000) : GQ m ev zBe [v, w] H (.bool true) H := zM mixed zKq (sbytes_ev v w l H hv hw hl)
include hev in
theorem g_write (lv : AV) (l : List Fil) (H : Heap) (hv : view H 3 lv = some (l.map zu)) : GQ m ev zCJ [lv] H (.tup [wriV l, eV (zAx l)]) H := zM mixed k_book_Write (write_ev (g_check hev) g_bentry lv l H hv)
include hev in
theorem g_bookEntries (f : Fil) (lv : AV) (l : List Fil) (H : Heap) (hv : view H 3 lv = some (l.map zu)) : GQ m ev zDX [zu f, lv] H (.bool true) H :=
 zM mixed zGj (blaw_ev (q_in refK2) g_rtext g_mentry (g_kentry hev) g_errN g_sbytes g_rcheck (g_write hev) f lv l H hv)
end
end Go.Proofs.YtaohficjbicfgaaGreatDoor
namespace Go.AM
section
variable {H : Type} {enc : TypeId × Value → H} {P : Program} {w : World} {held : Bool} {base : Nat} {sp : Nat → Bool}
end
end Go.AM
namespace Go.AM
section
variable {H : Type} {enc : TypeId × Value → H} {P : Program} {w : World} {held : Bool}
theorem arg_of_trod_ag {t : TypeId} {m : Nat} {ss : List Sh} {v : Value} {d : DataW H} {ps : List MemPlace} {r : Reach} {b0 : Nat} (hs : shOf P m t = some (true, ss)) (ho : Value.okWide P w r b0 t v) (h : DataW.Trod enc P w 0 (fun _ => true) held t v d ps) :
  ∃ cs, cs.length = ss.length ∧ (∀ (i : Nat) (s : Sh) (c : AV), ss[i]? = some s → cs[i]? = some c → Fits s c) ∧ Rel w (fun _ => none) (zDl w) 0 (.agg cs) v := by
 obtain ⟨fuel, h⟩ := h
 obtain ⟨xs, S⟩ := zHO fuel t _ d ps m true ss h hs
 have hv : ∃ vs : Array Value, v = .agg vs := by
  cases m with
  | zero => simp [shOf] at hs
  | succ m =>
  unfold shOf at hs
  unfold Value.okWide at ho
  split at hs
  all_goals first
   | (cases hs; done)
   | skip
  ·split at hs
   ·split at hs <;> cases hs
   ·cases hs
  ·rename_i hu
   rw [hu] at ho
   obtain ⟨vs, rfl, _⟩ := ho
   exact ⟨vs, rfl⟩
 obtain ⟨vs, rfl⟩ := hv
 have hc : (Value.agg vs).cells.toList = vs.toList := rfl
 rw [hc] at S
 refine ⟨xs, S.len, S.fits, ?_⟩
 have := Rel.agg (w := w) (M := fun _ => none) (I := zDl w) (n := 0) xs vs.toList (S.len.trans S.clen.symm) S.rel
 simpa using this
end
end Go.AM
namespace Go.Proofs
open Go.RowKit Go.AM
section
variable {H : Type} {enc : TypeId × Value → H}
theorem zGM {a : Assume} {C : Checked} {os : Os} {f : FuncId} {fn : Func} {s : ChangeSpec} {conds : List PathCond} {apart fresh handsOn again : Bool} {X : World → Array Value → Prop}
  (hX : ∀ (w w' : World) (args : Array Value), w.heap = w'.heap → X w args → X w' args)
  (own : ownKnob C.prog.godebug = none) (started : os.Started) (noInit : C.prog.inits.idxOf? f = none) (hfn : C.prog.funcs[f]? = some fn)
  (witness : ∃ (w : World) (tape : Tape) (i : Input), w.os = os ∧ (w.forCall tape i).Shaped C.prog ∧ i.vars = [] ∧ Input.okWide C.prog (w.forCall tape i) .any w.heap.size f i ∧
   ((s.pre enc C.prog fn conds apart (w.forCall tape i).memory i.args ∧ X (w.forCall tape i).memory i.args) ∧ sizedMet enc C.prog fn (OpenSpec.ofChange s) apart (w.forCall tape i).memory i.args) ∧ a.holds C.prog (lone (Frame.enter C.prog f i.args .normal) [] (w.forCall tape i)))
  (contract : ∀ (W : World) (base : Nat) (args : Array Value) (ds gs : List (DataW H)) (before : List MemPlace),
   (∀ (j : Nat) t v, fn.params[j]? = some t → args[j]? = some v → Value.okWide C.prog W .any base t v) →
   DataW.Whole enc C.prog fn.params.toList s.vars apart W args.toList ds gs before →
   conds.all (PathCond.test C.prog ⟨fn.params.toList, ds, s.plain.varTypes C.prog, gs⟩) = true →
   (DataW.weightsEach C.prog (fn.params.toList ++ s.plain.varTypes C.prog) (ds ++ gs)).all (· ≤ reachBytes) = true → X W args → W.ShapedOpen C.prog →
   Calls C.prog f args W fun e W' => ∃ v, e = .returned v ∧ s.post enc C.prog fn apart fresh handsOn again W args v W') :
  ReturnsInHanded a C os f .any (fun w args => (s.pre enc C.prog fn conds apart w args ∧ X w args) ∧ sizedMet enc C.prog fn (OpenSpec.ofChange s) apart w args) (s.post enc C.prog fn apart fresh handsOn again) := by
 refine returnsInHanded_of_calls own started noInit witness ?_
 intro w tape i _ hsh _ hok hpre hholds
 obtain ⟨_, _, _, fn', hfn', _, _, _, _, hval⟩ := hok
 have e : fn' = fn := Option.some.inj (hfn'.symm.trans hfn)
 subst e
 obtain ⟨⟨⟨ds, gs, before, hw, hc⟩, hx⟩, hz⟩ := hpre
 have hw' := DataW.Whole.of_heap (w' := w.forCall tape i) (by rfl) hw
 refine (contract (w.forCall tape i) w.heap.size i.args ds gs before hval hw' hc (hz.weights hw) (hX _ _ _ (by rfl) hx) hsh).mono fun e W' ⟨v, he, hp⟩ => ?_
 subst he
 exact ChangeSpec.post_blind hp
def varsRefB (P : Program) (w : World) : Bool :=
 let w₀ := (begin P (fun _ _ => 0) default).world
 (List.range P.globals.size).all fun g =>
  match (w₀.heap[g]?).bind Obj.row? with
  | none => true
  | some (zero, t) =>
   match w.heap[g]? with
   | some (.cells cs t' frozen) => decide (t' = t) && decide (frozen = (0, 0)) && cs.size == zero.size && (!P.buildable t || Row.okRefB P w t cs)
   | _ => false
theorem shaped_of_refB {P : Program} {w : World} (hv : varsRefB P w = true)
  (hr : (w.heap.toList.drop P.globals.size).take ((begin P (fun _ _ => 0) default).world.heap.size - P.globals.size) =
   (begin P (fun _ _ => 0) default).world.heap.toList.drop P.globals.size) : w.Shaped P := by
 refine ⟨fun g zero t hg hz => ?_, fun k h1 h2 => ?_⟩
 case refine_2 =>
  have := congrArg (·[k - P.globals.size]?) hr
  simp only [List.getElem?_take, List.getElem?_drop, Array.getElem?_toList] at this
  rw [if_pos tO, Nat.add_sub_cancel' h1] at this
  exact this
 unfold varsRefB at hv
 simp only [List.all_eq_true, List.mem_range] at hv
 have := hv g hg
 rw [hz] at this
 simp only at this
 split at this
 ·rename_i cs t' fr hw
  simp only [Bool.and_eq_true, decide_eq_true_eq, beq_iff_eq, Bool.or_eq_true, Bool.not_eq_true'] at this
  obtain ⟨⟨⟨rfl, rfl⟩, hs⟩, hb⟩ := this
  refine ⟨cs, hw, hs, fun hbuild => ?_⟩
  rcases hb with hb | hb
  ·rw [hbuild] at hb; cases hb
  ·exact Row.ok_of_okRefB hb
 ·cases this
theorem witness_shaped {C : Checked} {os : Os} {f : FuncId} {fn : Func} {s : ChangeSpec} {conds : List PathCond} {apart : Bool} {X : World → Array Value → Prop} (modest : Bool) (w0 : World) (args : Array Value) (fuel : Nat) (hos : w0.os = os)
  (hsh : (w0.forCall (fun _ _ => 0) ⟨#[], args, []⟩).Shaped C.prog)
  (hok : Input.okWideB C.prog (w0.forCall (fun _ _ => 0) ⟨#[], args, []⟩) f ⟨#[], args, []⟩ = true)
  (hpre : s.preB enc C.prog fn conds apart (w0.forCall (fun _ _ => 0) ⟨#[], args, []⟩).memory args fuel = true)
  (hsz : s.sizedB enc C.prog fn apart (w0.forCall (fun _ _ => 0) ⟨#[], args, []⟩).memory args fuel = true)
  (hx : X (w0.forCall (fun _ _ => 0) ⟨#[], args, []⟩).memory args) :
  ∃ (w : World) (tape : Tape) (i : Input), w.os = os ∧ (w.forCall tape i).Shaped C.prog ∧ i.vars = [] ∧ Input.okWide C.prog (w.forCall tape i) .any w.heap.size f i ∧
   ((s.pre enc C.prog fn conds apart (w.forCall tape i).memory i.args ∧ X (w.forCall tape i).memory i.args) ∧ sizedMet enc C.prog fn (OpenSpec.ofChange s) apart (w.forCall tape i).memory i.args) ∧ ({ modest := modest } : Assume).holds C.prog (lone (Frame.enter C.prog f i.args .normal) [] (w.forCall tape i)) :=
 ⟨w0, fun _ _ => 0, ⟨#[], args, []⟩, hos, hsh, (Input.okWide_of_okWideB (base := 0) hok).1, (Input.okWide_of_okWideB hok).2, ⟨⟨ChangeSpec.pre_of_preB hpre, hx⟩, sizedMet_of_sizedB hsz⟩, by
  simp only [Assume.holds]
  exact ⟨by simp, by simp, fun _ => Modest.zero, by simp, by simp⟩⟩
end
end Go.Proofs
namespace Go.AM
theorem fl_map_of {α : Type} {f : α → AV} : ∀ {ys : List AV}, (∀ y ∈ ys, ∃ v, y = f v) → ∃ vs : List α, ys = vs.map f
 | [], _ => ⟨[], rfl⟩
 | y :: ys, h => by
  obtain ⟨v, rfl⟩ := h y (by simp)
  obtain ⟨vs, rfl⟩ := fl_map_of (ys := ys) fun z hz => h z (List.mem_cons_of_mem _ hz)
  exact ⟨v :: vs, rfl⟩
theorem fl_sl {ag : Bool} {es : List Sh} {x : AV} (h : Fits (.sl ag es) x) : ∃ q xs, x = .lst (some q) es.length xs ∧ (q = true → xs = []) ∧ xs.length ≤ maxLen ∧ (∀ y ∈ xs, y.cells.length = es.length ∧ formed ag y) ∧
  ∀ y ∈ xs, ∀ (i : Nat) (s : Sh) (c : AV), es[i]? = some s → y.cells[i]? = some c → Fits s c := by
 cases h with
 | sl ag es q xs hl hq h1 h2 => exact ⟨q, xs, rfl, hq, hl, h1, h2⟩
theorem fl_int {k : IntKind} {x : AV} (h : Fits (.int k) x) : ∃ n, x = .int k n ∧ (Lit.int k n).wf = true := by cases h with | int k n h => exact ⟨n, rfl, h⟩
theorem fl_str {x : AV} (h : Fits .str x) : ∃ s, x = .str s := by cases h with | str s h => exact ⟨s, rfl⟩
theorem fl_wf {n : Int} (h : (Lit.int .i64 n).wf = true) : zC4 n := by
 have h : IntKind.i64.min ≤ n ∧ n ≤ 9223372036854775807 := by simpa [Lit.wf] using h
 have e : IntKind.i64.min = -9223372036854775808 := rfl
 exact ⟨by omega, h.2⟩
theorem fl_num {x : AV} (h : Fits (.int .i64) x) : ∃ n, x = zK n ∧ zC4 n := by
 obtain ⟨n, rfl, hn⟩ := fl_int h
 exact ⟨n, rfl, fl_wf hn⟩
def shFil : List Sh := [.int .i64, .int .i64, .str]
theorem fl_fil {cs : List AV} (hl : cs.length = 3) (h : ∀ (i : Nat) (s : Sh) (c : AV), shFil[i]? = some s → cs[i]? = some c → Fits s c) : ∃ f : Fil, AV.agg cs = zu f ∧ zC4 f.col ∧ zC4 f.row := by
 match cs, hl with
 | [a, b, c], _ =>
  obtain ⟨n, rfl, h1⟩ := fl_num (h 0 _ a rfl rfl)
  obtain ⟨m, rfl, h2⟩ := fl_num (h 1 _ b rfl rfl)
  obtain ⟨s, rfl⟩ := fl_str (h 2 _ c rfl rfl)
  exact ⟨⟨n, m, s⟩, rfl, h1, h2⟩
theorem fl_fils {x : AV} (h : Fits (.sl true shFil) x) : ∃ l : List Fil, ∃ q, x = .lst (some q) 3 (l.map zu) ∧ (∀ H, view H 3 x = some (l.map zu)) ∧ ∀ f ∈ l, zC4 f.col ∧ zC4 f.row := by
 obtain ⟨q, xs, rfl, _, _, h1, h2⟩ := fl_sl h
 obtain ⟨l, hl⟩ : ∃ vs : List {f : Fil // zC4 f.col ∧ zC4 f.row}, xs = vs.map (fun f => zu f.1) := fl_map_of fun y hy => by
  obtain ⟨k1, cs, rfl⟩ := h1 y hy
  obtain ⟨f, e, f1, f2⟩ := fl_fil k1 (h2 _ hy)
  exact ⟨⟨f, f1, f2⟩, e⟩
 refine ⟨l.map (·.1), q, by rw [List.map_map, hl]; rfl, fun H => by rw [hl, List.map_map]; rfl, fun f hf => ?_⟩
 obtain ⟨g, _, rfl⟩ := List.mem_map.1 hf
 exact g.2
end Go.AM
