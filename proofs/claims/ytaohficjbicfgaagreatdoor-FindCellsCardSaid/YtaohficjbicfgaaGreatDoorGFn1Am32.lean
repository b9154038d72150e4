/- Several texts of mine in one (Fn1, Fn2, Gfc, Am26, Am32). Own work. -/
import Derived.Test.YtaohficjbicfgaaGreatDoorGRfgBe2
import Derived.Test.YtaohficjbicfgaaGreatDoorGItQLvs
import Derived.Test.YtaohficjbicfgaaGreatDoorGFr7Am24
import Derived.SizedLaws
import Derived.Handed
import Derived.DataWitness
set_option linter.all false
set_option maxRecDepth 20000
namespace Go.AM
theorem pre_iff (part s : Bs) (i : Nat) (hi : i ≤ s.length) : part.isPrefixOf (s.drop i) = true ↔ i + part.length ≤ s.length ∧ sub s i (i + part.length) = part := by
 unfold sub
 rw [Nat.add_sub_cancel_left]
 constructor
 ·intro h
  obtain ⟨t, ht⟩ := List.isPrefixOf_iff_prefix.1 h
  have hl : (s.drop i).length = part.length + t.length := by rw [← ht, List.length_append]
  rw [List.length_drop] at hl
  refine ⟨by omega, ?_⟩
  rw [← ht]
  simp
 ·rintro ⟨h1, h2⟩
  refine List.isPrefixOf_iff_prefix.2 ⟨(s.drop i).drop part.length, ?_⟩
  conv => lhs; rw [← h2]
  rw [h2]
  have := List.take_append_drop part.length (s.drop i)
  rw [h2] at this
  exact this
structure CnS where
 i : Nat
 v : AV
 n : Nat
 a : Bs
section
variable {C : CSpec} {GT : Nat → Option AV}
theorem rcount_ev (s part new : Bs) (hp : 1 ≤ part.length) (hs : s.length ≤ 1000) (hpl : part.length ≤ 140737488355328) (hn : new.length ≤ 1000) (H : Heap) : EFun C GT zGT [.str s, .str part, .str new] H (.tup [zJ (zHF part new s).1, .str (zHF part new s).2]) H := by
 obtain ⟨r1, hr1⟩ : ∃ r, (zHF part new s).1 = r := ⟨_, rfl⟩
 obtain ⟨r2, hr2⟩ : ∃ r, (zHF part new s).2 = r := ⟨_, rfl⟩
 rw [hr1, hr2]
 refine zh ?_; refine zBi (fun x : CnS => [(1, .str part), (10, zJ x.i), (2, .str new), (9, x.v), (8, zJ x.n), (0, .str s)])
  (fun x H' => Old H H' ∧ x.i ≤ s.length ∧ Owns H H' x.v 1 (x.a.map zAa) ∧ x.n + (zHF part new (s.drop x.i)).1 = r1 ∧ x.a ++ (zHF part new (s.drop x.i)).2 = r2 ∧ x.a.length ≤ x.i * 1001 ∧ x.n ≤ x.i)
  (fun x => s.length - x.i) ⟨0, .lst (some true) 0 [], 0, []⟩ rfl ⟨Old.refl _, by simp, .inl ⟨rfl, rfl⟩, by simp only [List.drop_zero]; omega, by simp only [List.drop_zero, List.nil_append]; exact hr2, by simp, by simp⟩ (fun ⟨i, v, n, a⟩ H1 ⟨hO, hi, ho, h1, h2, hal, hni⟩ => ?_)
 dsimp only at hi ho h1 h2 hal hni ⊢
 by_cases hlt : i < s.length
 ·obtain ⟨c, hc⟩ : ∃ c, s[i]? = some c := ⟨_, List.getElem?_eq_getElem hlt⟩
  have hdc : s.drop i = c :: s.drop (i + 1) := by rw [List.drop_eq_getElem_cons hlt, (zg hc).2]
  have hpi := pre_iff part s i hi
  cases hb : part.isPrefixOf (s.drop i) with
  | true =>
   obtain ⟨hr, hsub⟩ := hpi.1 hb
   rw [cntS_hit part new hp _ hb, List.drop_drop] at h1 h2
   have hsl := zBv s i (i + part.length) tO hr
   refine zR tT ?_; refine zM (r := i + part.length) rfl tO ?_; refine zR tT ?_; refine zM (r := i + part.length) rfl tO ?_; refine zU (v := .str (sub s i (i + part.length))) hsl ?_; refine zH <| zR (tE hsub) ?_; refine zM (r := n + 1) rfl tO ?_; refine sAppStr (H0 := H) ho hO (by simp only [List.length_map]; omega) (fun v' H' ho' hO' _ => ?_)
   rw [← List.map_append] at ho'
   refine zM (r := i + part.length) rfl tO ?_; refine zAO (CnS.mk (i + part.length) v' (n + 1) (a ++ new)) rfl ⟨hO', hr, ho', by simp only; omega, by rw [List.append_assoc]; exact h2, ?_, by simp only; omega⟩ (by simp only; omega)
   simp only [List.length_append]
   omega
  | false =>
   rw [hdc] at hb
   rw [hdc, cntS_miss part new c _ hb] at h1 h2
   have hno : ¬ (i + part.length ≤ s.length ∧ sub s i (i + part.length) = part) := fun h => by
    have := hpi.2 h
    rw [hdc, hb] at this; cases this
   by_cases hr : i + part.length ≤ s.length
   ·have hsl := zBv s i (i + part.length) tO hr
    have hne : sub s i (i + part.length) ≠ part := fun h => hno ⟨hr, h⟩
    refine zR tT ?_; refine zM (r := i + part.length) rfl tO ?_; refine zR tT ?_; refine zM (r := i + part.length) rfl tO ?_; refine zU (v := .str (sub s i (i + part.length))) hsl ?_; refine zH <| zN (tN hne) ?_; refine zk rfl hc ?_; refine zAp (vs' := [zAa c]) rfl rfl ?_; refine zBn (H0 := H) (ys := [zAa c]) (ho.push _) (hO.push _) zAy (by decide) (by simp only [List.length_map, List.length_cons, List.length_nil]; omega) (by simp) (fun v' H' ho' hO' _ _ => ?_)
    have ho' : Owns H H' v' 1 ((a ++ [c]).map zAa) := by rw [List.map_append]; exact ho'
    refine zM (r := i + 1) rfl tO ?_; refine zAO (CnS.mk (i + 1) v' n (a ++ [c])) rfl ⟨hO', by simp only; omega, ho', h1, by rw [List.append_assoc]; exact h2, ?_, by simp only; omega⟩ (by simp only; omega)
    simp only [List.length_append, List.length_cons, List.length_nil]
    omega
   ·refine zR tT ?_; refine zM (r := i + part.length) rfl tO ?_; refine zN tF <| zF <| zF ?_; refine zk rfl hc ?_; refine zAp (vs' := [zAa c]) rfl rfl ?_; refine zBn (H0 := H) (ys := [zAa c]) (ho.push _) (hO.push _) zAy (by decide) (by simp only [List.length_map, List.length_cons, List.length_nil]; omega) (by simp) (fun v' H' ho' hO' _ _ => ?_)
    have ho' : Owns H H' v' 1 ((a ++ [c]).map zAa) := by rw [List.map_append]; exact ho'
    refine zM (r := i + 1) rfl tO ?_; refine zAO (CnS.mk (i + 1) v' n (a ++ [c])) rfl ⟨hO', by simp only; omega, ho', h1, by rw [List.append_assoc]; exact h2, ?_, by simp only; omega⟩ (by simp only; omega)
    simp only [List.length_append, List.length_cons, List.length_nil]
    omega
 ·have hd : s.drop i = [] := List.drop_eq_nil_of_le tO
  rw [hd, cntS_nil] at h1 h2
  have h1 : n + 0 = r1 := h1
  have h2 : a ++ [] = r2 := h2
  rw [Nat.add_zero] at h1
  rw [List.append_nil] at h2
  subst h1 h2
  refine zN tF ?_; refine zGO ho ?_
  exact ze rfl rfl rfl rfl hO
theorem scells_ev (v w : AV) (l : List (Int × Int)) (H : Heap) (hv : view H 2 v = some (l.map fun c => zAt c.1 c.2)) (hw : view H 2 w = some (l.map fun c => zAt c.1 c.2)) (hl : l.length ≤ 1000000) : EFun C GT zGU [v, w] H (.bool true) H := by
 have hlm : (l.map fun c => zAt c.1 c.2).length = l.length := List.length_map _
 refine zh ?_; refine zBz hv ?_; refine zBz hw ?_; refine zN (bne_eq_false_iff_eq.2 rfl) ?_; refine zBi (fun i : Nat => [(5, zJ i), (1, w), (0, v)]) (fun i H' => H' = H ∧ i ≤ l.length) (fun i => l.length - i) 0 rfl ⟨rfl, by omega⟩ (fun i H1 ⟨hH, hi⟩ => ?_)
 subst hH
 dsimp only
 by_cases hlt : i < l.length
 ·obtain ⟨c, hc⟩ : ∃ c, l[i]? = some c := ⟨_, List.getElem?_eq_getElem hlt⟩
  have hcm : (l.map fun c => zAt c.1 c.2)[i]? = some (zAt c.1 c.2) := by rw [List.getElem?_map, hc]; rfl
  have he : ∀ a b : Int, ((a == a) && (b == b)) = true := fun a b => by simp
  refine zBz hv ?_; refine zR tT ?_; refine zH3 i (zAt c.1 c.2) hv rfl hcm (fun p hp => ?_)
  refine z8 (zAt c.1 c.2) hp rfl ?_; refine zH3 i (zAt c.1 c.2) hw rfl hcm (fun p2 hp2 => ?_)
  refine z8 (zAt c.1 c.2) hp2 rfl ?_; refine zU rfl ?_; refine zN (show negB true (c.1 == c.1 && (c.2 == c.2 && true)) = false from by simp [negB]) ?_; refine zM (r := i + 1) rfl tO ?_; refine zAO (i + 1) rfl ⟨rfl, by omega⟩ tO
 ·refine zBz hv ?_; refine zN tF ?_
  exact ze rfl rfl rfl rfl (Old.refl _)
def hasF (part : Bs) (whole : Bool) (f : Fil) : Bool := (f.text == part) || (!whole && decide (0 < (zHF part [] f.text).1))
def zK0 (part : Bs) (whole : Bool) (l : List Fil) : List Fil := l.filter (hasF part whole)
def fcel (f : Fil) : AV := zAt f.col f.row
theorem fnd_take (part : Bs) (whole : Bool) (l : List Fil) (i : Nat) (f : Fil) (h : l[i]? = some f) : zK0 part whole (l.take (i + 1)) = zK0 part whole (l.take i) ++ (if hasF part whole f = true then [f] else []) := by
 unfold zK0
 rw [List.take_succ, h, List.filter_append]
 by_cases hh : hasF part whole f = true
 ·simp [hh]
 ·simp [hh]
def zHg (l : List Fil) (part : Bs) : Nat := if zCV l ≠ 0 then zCV l else if part = [] then 2 else 0
def findV (l : List Fil) (part : Bs) (whole : Bool) : AV := if zHg l part = 0 then lstF 2 ((zK0 part whole l).map fcel) else .lst (some true) 0 []
theorem find_ev (hG : ∀ lv l H, view H 3 lv = some (l.map zAD) → C zC1 [lv] H (eV (zCV l)) H) (hS : ∀ s part H, 1 ≤ part.length → s.length ≤ 1000 → C zB6 [.str s, .str part] H (.bool (decide (0 < (zHF part [] s).1))) H)
  (lv : AV) (l : List Fil) (part : Bs) (whole : Bool) (H : Heap) (hv : view H 3 lv = some (l.map zAD)) : EFun C GT zKQ [lv, .str part, .bool whole] H (.tup [findV l part whole, eV (zHg l part)]) H := by
 have hlm : (l.map zAD).length = l.length := List.length_map _
 have hg := hG lv l H hv
 clear hG
 refine zh ?_
 unfold findV
 by_cases c0 : zCV l = 0
 ·obtain ⟨hl, hok⟩ := checkN_ok c0
  rw [c0] at hg
  have hg : C zC1 [lv] H .nili H := hg
  by_cases hp0 : part = []
  ·have hn : zHg l part = 2 := by unfold zHg; rw [if_neg tO, if_pos hp0]
   rw [hn, if_neg (by decide)]
   clear hS
   refine zI hg ?_; refine zU rfl ?_; refine zF <| zR (tE hp0) ?_
   exact ze rfl rfl rfl rfl (Old.refl _)
  ·have hn : zHg l part = 0 := by unfold zHg; rw [if_neg tO, if_neg hp0]
   have hp : 1 ≤ part.length := by
    cases part with
    | nil => exact absurd rfl hp0
    | cons a t => simp
   rw [hn, if_pos rfl]
   refine zI hg ?_; refine zU rfl ?_; refine zF <| zN (tN hp0) ?_; refine zBz hv ?_; refine zBi (fun x : Nat × AV => [(22, zJ x.1), (9, x.2), (1, .str part), (2, .bool whole), (20, lv), (21, .int .i64 ((l.map zAD).length : Nat))]) (fun x H' => Old H H' ∧ x.1 ≤ l.length ∧ Owns H H' x.2 2 ((zK0 part whole (l.take x.1)).map fcel)) (fun x => l.length - x.1) (0, .lst (some true) 0 []) rfl ⟨Old.refl _, by simp, .inl ⟨rfl, rfl⟩⟩ (fun ⟨i, v⟩ H1 ⟨hO, hi, ho⟩ => ?_)
   dsimp only at hi ho ⊢
   have hv1 := view_old hO hv
   by_cases hlt : i < l.length
   ·obtain ⟨f, hf⟩ : ∃ f, l[i]? = some f := ⟨_, List.getElem?_eq_getElem hlt⟩
    have hfm : (l.map zAD)[i]? = some (zAD f) := by rw [List.getElem?_map, hf]; rfl
    have hfo := hok f (List.mem_of_getElem? hf)
    have hs := fun H => hS f.text part H hp (by have := hfo.2.2; omega)
    have hft := fnd_take part whole l i f hf
    have hfl : (zK0 part whole (l.take i)).length ≤ 200 := by
     have := List.length_filter_le (hasF part whole) (l.take i)
     rw [List.length_take] at this
     unfold zK0
     omega
    clear hS
    have go : hasF part whole f = true → ∀ K : Post, True := fun _ _ => trivial
    by_cases h1 : f.text = part
    ·have hh : hasF part whole f = true := by unfold hasF; rw [tE h1]; rfl
     rw [if_pos hh] at hft
     refine zR tT ?_; refine zH3 i (zAD f) hv1 rfl hfm (fun p hp => ?_)
     refine z8 (zAD f) hp rfl ?_; refine zG (v := zAD f) (AV.cells (zAD f)) zD rfl rfl rfl rfl ?_; refine zB (AV.str f.text) (zE zD) rfl ?_; refine zR (tE h1) <| zH <| zH ?_; refine zB (AV.agg [zK f.col, zK f.row]) (zE zD) rfl ?_; refine zAp (vs' := [AV.agg [zK f.col, zK f.row]]) rfl rfl ?_; refine zBn (H0 := H) (ys := [fcel f]) ((ho.pushSet _ _).push _) ((hO.pushSet _ _).push _) zAy (by decide) (by simp only [List.length_map, List.length_cons, List.length_nil]; omega) (by simp) (fun v' H' ho' hO' _ _ => ?_)
     have ho' : Owns H H' v' 2 ((zK0 part whole (l.take (i + 1))).map fcel) := by rw [hft, List.map_append]; exact ho'
     refine zM (r := i + 1) rfl tO ?_; refine zAO (i + 1, v') rfl ⟨hO', by simp only; omega, ho'⟩ (by simp only; omega)
    ·cases whole with
     | true =>
      have hh : hasF part true f = false := by unfold hasF; rw [tN h1]; rfl
      rw [if_neg (by rw [hh]; simp), List.append_nil] at hft
      refine zR tT ?_; refine zH3 i (zAD f) hv1 rfl hfm (fun p hp => ?_)
      refine z8 (zAD f) hp rfl ?_; refine zG (v := zAD f) (AV.cells (zAD f)) zD rfl rfl rfl rfl ?_; refine zB (AV.str f.text) (zE zD) rfl ?_; refine zN (tN h1) <| zF <| zF <| zF <| zF ?_; refine zM (r := i + 1) rfl tO ?_; refine zAO (i + 1, v) rfl ⟨hO.pushSet _ _, by simp only; omega, by rw [hft]; exact ho.pushSet _ _⟩ (by simp only; omega)
     | false =>
      by_cases h2 : 0 < (zHF part [] f.text).1
      ·have hh : hasF part false f = true := by unfold hasF; rw [decide_eq_true h2]; simp
       rw [if_pos hh] at hft
       rw [decide_eq_true h2] at hs
       refine zR tT ?_; refine zH3 i (zAD f) hv1 rfl hfm (fun p hp => ?_)
       refine z8 (zAD f) hp rfl ?_; refine zG (v := zAD f) (AV.cells (zAD f)) zD rfl rfl rfl rfl ?_; refine zB (AV.str f.text) (zE zD) rfl ?_; refine zN (tN h1) <| zH ?_; refine zB (AV.str f.text) (zE zD) rfl ?_; refine zI (hs _) ?_; refine zH <| zF <| zH ?_; refine zB (AV.agg [zK f.col, zK f.row]) (zE zD) rfl ?_; refine zAp (vs' := [AV.agg [zK f.col, zK f.row]]) rfl rfl ?_; refine zBn (H0 := H) (ys := [fcel f]) ((ho.pushSet _ _).push _) ((hO.pushSet _ _).push _) zAy (by decide) (by simp only [List.length_map, List.length_cons, List.length_nil]; omega) (by simp) (fun v' H' ho' hO' _ _ => ?_)
       have ho' : Owns H H' v' 2 ((zK0 part false (l.take (i + 1))).map fcel) := by rw [hft, List.map_append]; exact ho'
       refine zM (r := i + 1) rfl tO ?_; refine zAO (i + 1, v') rfl ⟨hO', by simp only; omega, ho'⟩ (by simp only; omega)
      ·have hh : hasF part false f = false := by unfold hasF; rw [tN h1, decide_eq_false h2]; rfl
       rw [if_neg (by rw [hh]; simp), List.append_nil] at hft
       rw [decide_eq_false h2] at hs
       refine zR tT ?_; refine zH3 i (zAD f) hv1 rfl hfm (fun p hp => ?_)
       refine z8 (zAD f) hp rfl ?_; refine zG (v := zAD f) (AV.cells (zAD f)) zD rfl rfl rfl rfl ?_; refine zB (AV.str f.text) (zE zD) rfl ?_; refine zN (tN h1) <| zH ?_; refine zB (AV.str f.text) (zE zD) rfl ?_; refine zI (hs _) ?_; refine zH <| zF <| zF ?_; refine zM (r := i + 1) rfl tO ?_; refine zAO (i + 1, v) rfl ⟨hO.pushSet _ _, by simp only; omega, by rw [hft]; exact ho.pushSet _ _⟩ (by simp only; omega)
   ·have he : l.take i = l := List.take_of_length_le tO
    rw [he] at ho
    refine zN tF ?_
    obtain ⟨H3, hz, hO3, _⟩ := ho.frz hO
    exact sRetF rfl rfl (frz_pair hz fun _ => rfl) (by show (AV.tup [lstF 2 _, .nili]).bel _ = true; generalize (zK0 part whole l).map fcel = xs; cases xs <;> rfl) hO3
 ·have hn : zHg l part = zCV l := if_pos c0
  rw [hn, if_neg c0]
  have he : eV (zCV l) = zFo (zCV l : Nat) := by unfold eV; rw [if_neg c0]
  rw [he] at hg ⊢
  clear hS
  refine zI hg ?_; refine zU rfl ?_; refine zH ?_
  exact ze rfl rfl rfl rfl (Old.refl _)
end
end Go.AM
set_option maxRecDepth 20000
namespace Go.AM
theorem lstF_view (k : Nat) (xs : List AV) (H : Heap) : view H k (lstF k xs) = some xs := (lstF_of k xs).view H
section
variable {C : CSpec} {GT : Nat → Option AV}
set_option maxHeartbeats 4000000 in
theorem flaw_ev (hK : ∀ s part new, 1 ≤ part.length → s.length ≤ 1000 → part.length ≤ 140737488355328 → new.length ≤ 1000 → ∀ H, C zCz [.str s, .str part, .str new] H (.tup [zJ (zHF part new s).1, .str (zHF part new s).2]) H)
  (hF : ∀ lv l part whole H, view H 3 lv = some (l.map zAD) → C zDI [lv, .str part, .bool whole] H (.tup [findV l part whole, eV (zHg l part)]) H) (hR : ∀ n H, C zBY [eV n, zJ n] H (.bool true) H)
  (hB : ∀ v w (l : List (Int × Int)) H, view H 2 v = some (l.map fun c => zAt c.1 c.2) → view H 2 w = some (l.map fun c => zAt c.1 c.2) → l.length ≤ 1000000 → C zC0 [v, w] H (.bool true) H)
  (hC : ∀ lv l H, view H 3 lv = some (l.map zAD) → C zBZ [lv] H (zJ (zCV l)) H)
  (lv : AV) (l : List Fil) (part : Bs) (whole : Bool) (H : Heap) (hv : view H 3 lv = some (l.map zAD)) (hpl : part.length ≤ 140737488355328) : EFun C GT zDt [lv, .str part, .bool whole] H (.bool true) H := by
 have hlm : (l.map zAD).length = l.length := List.length_map _
 have hc := hC lv l H hv
 have hf := fun H h => hF lv l part whole H h
 have hr := fun H => hR (zHg l part) H
 clear hC hF hR
 refine zh ?_
 by_cases c0 : zCV l = 0
 ·obtain ⟨hl, hok⟩ := checkN_ok c0
  rw [c0] at hc
  by_cases hp0 : part = []
  ·have hn : zHg l part = 2 := by unfold zHg; rw [if_neg tO, if_pos hp0]
   rw [hn] at hf hr
   have hfv : findV l part whole = .lst (some true) 0 [] := by unfold findV; rw [hn]; rfl
   rw [hfv] at hf
   have hff := hf H hv
   have hff : C zDI [lv, .str part, .bool whole] H (.tup [.lst (some true) 0 [], zFo 2]) H := hff
   have hrr : ∀ H, C zBY [zFo 2, zK 2] H (.bool true) H := hr
   have hbb := fun H => hB (.lst (some true) 0 []) (.lst (some true) 0 []) [] H rfl rfl (by simp)
   refine zI hc ?_; refine zH <| zH <| zR (tE hp0) ?_; refine zBi (fun _ : Nat => [(9, zK 0), (0, lv), (8, .lst (some true) 0 []), (2, .bool whole), (1, .str part), (7, zK 2)]) (fun _ H' => H' = H) (fun _ => 0) 0 rfl rfl (fun _ H1 hH => ?_)
   subst hH
   refine zF <| zF <| zF ?_; refine zI hff ?_; refine zU rfl ?_; refine zU rfl ?_; refine zI (hrr _) ?_; refine zI (hbb _) ?_; refine zH <| zH ?_
   exact ze rfl rfl rfl rfl (Old.refl _)
  ·have hn : zHg l part = 0 := by unfold zHg; rw [if_neg tO, if_neg hp0]
   have hp : 1 ≤ part.length := by
    cases part with
    | nil => exact absurd rfl hp0
    | cons a t => simp
   rw [hn] at hf hr
   have hfv : findV l part whole = lstF 2 ((zK0 part whole l).map fcel) := by unfold findV; rw [hn]; rfl
   rw [hfv] at hf
   have hf : ∀ H, view H 3 lv = some (l.map zAD) → C zDI [lv, .str part, .bool whole] H (.tup [lstF 2 ((zK0 part whole l).map fcel), .nili]) H := hf
   have hrr : ∀ H, C zBY [.nili, zK 0] H (.bool true) H := hr
   refine zI hc ?_; refine zH <| zH <| zN (tN hp0) ?_; refine zBi (fun x : Nat × AV => [(9, zJ x.1), (0, lv), (8, x.2), (2, .bool whole), (1, .str part), (7, zK 0)]) (fun x H' => Old H H' ∧ x.1 ≤ l.length ∧ Owns H H' x.2 2 ((zK0 part whole (l.take x.1)).map fcel)) (fun x => l.length - x.1) (0, .lst (some true) 0 []) rfl ⟨Old.refl _, by simp, .inl ⟨rfl, rfl⟩⟩ (fun ⟨i, v⟩ H1 ⟨hO, hi, ho⟩ => ?_)
   dsimp only at hi ho ⊢
   have hv1 := view_old hO hv
   by_cases hlt : i < l.length
   ·obtain ⟨f, hf⟩ : ∃ f, l[i]? = some f := ⟨_, List.getElem?_eq_getElem hlt⟩
    have hfm : (l.map zAD)[i]? = some (zAD f) := by rw [List.getElem?_map, hf]; rfl
    have hfo := hok f (List.mem_of_getElem? hf)
    have hk := fun H => hK f.text part [] hp (by have := hfo.2.2; omega) hpl (by simp) H
    have hft := fnd_take part whole l i f hf
    have hfl : (zK0 part whole (l.take i)).length ≤ 200 := by
     have := List.length_filter_le (hasF part whole) (l.take i)
     rw [List.length_take] at this
     unfold zK0
     omega
    clear hK hf hrr hB
    have hh0 : hasF part whole f = ((f.text == part) || (!whole && decide (0 < (zHF part [] f.text).1))) := rfl
    generalize (zHF part [] f.text).1 = cn at *
    generalize (zHF part [] f.text).2 = ct at *
    rcases idx_two hv1 with hx | hx
    ·by_cases h1 : f.text = part
     ·have hh : hasF part whole f = true := by rw [hh0, tE h1]; rfl
      rw [if_pos hh] at hft
      refine zR tT ?_; refine zBz hv1 ?_; refine zH <| zR tT ?_; refine hx _ i (zAD f) _ rfl hfm ?_; refine zo (.str f.text) rfl ?_; refine zI (hk _) ?_; refine zU rfl ?_; refine zU rfl ?_; refine hx _ i (zAD f) _ rfl hfm ?_; refine zo (.str f.text) rfl ?_; refine zR (tE h1) <| zH <| zH ?_; refine hx _ i (zAD f) _ rfl hfm ?_; refine zo (fcel f) rfl ?_; refine zAp (vs' := [fcel f]) rfl rfl ?_; refine zBn (H0 := H) (ys := [fcel f]) (ho.push _) (hO.push _) zAy (by decide) (by simp only [List.length_map, List.length_cons, List.length_nil]; omega) (by simp) (fun v' H' ho' hO' _ _ => ?_)
      have ho' : Owns H H' v' 2 ((zK0 part whole (l.take (i + 1))).map fcel) := by rw [hft, List.map_append]; exact ho'
      refine zM (r := i + 1) rfl tO ?_; refine zAO (i + 1, v') rfl ⟨hO', by simp only; omega, ho'⟩ (by simp only; omega)
     ·rw [tN h1, Bool.false_or] at hh0
      cases whole with
      | true =>
       have hh : hasF part true f = false := hh0
       rw [if_neg (by rw [hh]; simp), List.append_nil] at hft
       refine zR tT ?_; refine zBz hv1 ?_; refine zH <| zR tT ?_; refine hx _ i (zAD f) _ rfl hfm ?_; refine zo (.str f.text) rfl ?_; refine zI (hk _) ?_; refine zU rfl ?_; refine zU rfl ?_; refine hx _ i (zAD f) _ rfl hfm ?_; refine zo (.str f.text) rfl ?_; refine zN (tN h1) <| zF <| zF <| zF <| zF ?_; refine zM (r := i + 1) rfl tO ?_; refine zAO (i + 1, v) rfl ⟨hO, by simp only; omega, by rw [hft]; exact ho⟩ (by simp only; omega)
      | false =>
       rw [show (!false) = true from rfl, Bool.true_and] at hh0
       by_cases h2 : 0 < cn
       ·rw [decide_eq_true h2] at hh0
        rw [if_pos hh0] at hft
        refine zR tT ?_; refine zBz hv1 ?_; refine zH <| zR tT ?_; refine hx _ i (zAD f) _ rfl hfm ?_; refine zo (.str f.text) rfl ?_; refine zI (hk _) ?_; refine zU rfl ?_; refine zU rfl ?_; refine hx _ i (zAD f) _ rfl hfm ?_; refine zo (.str f.text) rfl ?_; refine zN (tN h1) <| zH <| zH <| zF <| zR tT ?_; refine hx _ i (zAD f) _ rfl hfm ?_; refine zo (fcel f) rfl ?_; refine zAp (vs' := [fcel f]) rfl rfl ?_
        refine zBn (H0 := H) (ys := [fcel f]) (ho.push _) (hO.push _) zAy (by decide) (by simp only [List.length_map, List.length_cons, List.length_nil]; omega) (by simp) (fun v' H' ho' hO' _ _ => ?_)
        have ho' : Owns H H' v' 2 ((zK0 part false (l.take (i + 1))).map fcel) := by rw [hft, List.map_append]; exact ho'
        refine zM (r := i + 1) rfl tO ?_; refine zAO (i + 1, v') rfl ⟨hO', by simp only; omega, ho'⟩ (by simp only; omega)
       ·rw [decide_eq_false h2] at hh0
        rw [if_neg (by rw [hh0]; simp), List.append_nil] at hft
        refine zR tT ?_; refine zBz hv1 ?_; refine zH <| zR tT ?_; refine hx _ i (zAD f) _ rfl hfm ?_; refine zo (.str f.text) rfl ?_; refine zI (hk _) ?_; refine zU rfl ?_; refine zU rfl ?_; refine hx _ i (zAD f) _ rfl hfm ?_; refine zo (.str f.text) rfl ?_; refine zN (tN h1) <| zH <| zH <| zF <| zN tF ?_; refine zM (r := i + 1) rfl tO ?_; refine zAO (i + 1, v) rfl ⟨hO, by simp only; omega, by rw [hft]; exact ho⟩ (by simp only; omega)
    ·by_cases h1 : f.text = part
     ·have hh : hasF part whole f = true := by rw [hh0, tE h1]; rfl
      rw [if_pos hh] at hft
      refine zR tT ?_; refine zBz hv1 ?_; refine zH <| zR tT ?_; refine hx _ i (zAD f) _ rfl hfm (fun b2 j2 hp2 => ?_)
      refine z8 (.str f.text) (hp2 _) rfl ?_; refine zI (hk _) ?_; refine zU rfl ?_; refine zU rfl ?_; refine hx _ i (zAD f) _ rfl hfm (fun b2 j2 hp2 => ?_)
      refine z8 (.str f.text) (hp2 _) rfl ?_; refine zR (tE h1) <| zH <| zH ?_; refine hx _ i (zAD f) _ rfl hfm (fun b2 j2 hp2 => ?_)
      refine z8 (fcel f) (hp2 _) rfl ?_; refine zAp (vs' := [fcel f]) rfl rfl ?_; refine zBn (H0 := H) (ys := [fcel f]) (ho.push _) (hO.push _) zAy (by decide) (by simp only [List.length_map, List.length_cons, List.length_nil]; omega) (by simp) (fun v' H' ho' hO' _ _ => ?_)
      have ho' : Owns H H' v' 2 ((zK0 part whole (l.take (i + 1))).map fcel) := by rw [hft, List.map_append]; exact ho'
      refine zM (r := i + 1) rfl tO ?_; refine zAO (i + 1, v') rfl ⟨hO', by simp only; omega, ho'⟩ (by simp only; omega)
     ·rw [tN h1, Bool.false_or] at hh0
      cases whole with
      | true =>
       have hh : hasF part true f = false := hh0
       rw [if_neg (by rw [hh]; simp), List.append_nil] at hft
       refine zR tT ?_; refine zBz hv1 ?_; refine zH <| zR tT ?_; refine hx _ i (zAD f) _ rfl hfm (fun b2 j2 hp2 => ?_)
       refine z8 (.str f.text) (hp2 _) rfl ?_; refine zI (hk _) ?_; refine zU rfl ?_; refine zU rfl ?_; refine hx _ i (zAD f) _ rfl hfm (fun b2 j2 hp2 => ?_)
       refine z8 (.str f.text) (hp2 _) rfl ?_; refine zN (tN h1) <| zF <| zF <| zF <| zF ?_; refine zM (r := i + 1) rfl tO ?_; refine zAO (i + 1, v) rfl ⟨hO, by simp only; omega, by rw [hft]; exact ho⟩ (by simp only; omega)
      | false =>
       rw [show (!false) = true from rfl, Bool.true_and] at hh0
       by_cases h2 : 0 < cn
       ·rw [decide_eq_true h2] at hh0
        rw [if_pos hh0] at hft
        refine zR tT ?_; refine zBz hv1 ?_; refine zH <| zR tT ?_; refine hx _ i (zAD f) _ rfl hfm (fun b2 j2 hp2 => ?_)
        refine z8 (.str f.text) (hp2 _) rfl ?_; refine zI (hk _) ?_; refine zU rfl ?_; refine zU rfl ?_; refine hx _ i (zAD f) _ rfl hfm (fun b2 j2 hp2 => ?_)
        refine z8 (.str f.text) (hp2 _) rfl ?_; refine zN (tN h1) <| zH <| zH <| zF <| zR tT ?_; refine hx _ i (zAD f) _ rfl hfm (fun b2 j2 hp2 => ?_)
        refine z8 (fcel f) (hp2 _) rfl ?_; refine zAp (vs' := [fcel f]) rfl rfl ?_; refine zBn (H0 := H) (ys := [fcel f]) (ho.push _) (hO.push _) zAy (by decide) (by simp only [List.length_map, List.length_cons, List.length_nil]; omega) (by simp) (fun v' H' ho' hO' _ _ => ?_)
        have ho' : Owns H H' v' 2 ((zK0 part false (l.take (i + 1))).map fcel) := by rw [hft, List.map_append]; exact ho'
        refine zM (r := i + 1) rfl tO ?_; refine zAO (i + 1, v') rfl ⟨hO', by simp only; omega, ho'⟩ (by simp only; omega)
       ·rw [decide_eq_false h2] at hh0
        rw [if_neg (by rw [hh0]; simp), List.append_nil] at hft
        refine zR tT ?_; refine zBz hv1 ?_; refine zH <| zR tT ?_; refine hx _ i (zAD f) _ rfl hfm (fun b2 j2 hp2 => ?_)
        refine z8 (.str f.text) (hp2 _) rfl ?_; refine zI (hk _) ?_; refine zU rfl ?_; refine zU rfl ?_; refine hx _ i (zAD f) _ rfl hfm (fun b2 j2 hp2 => ?_)
        refine z8 (.str f.text) (hp2 _) rfl ?_; refine zN (tN h1) <| zH <| zH <| zF <| zN tF ?_; refine zM (r := i + 1) rfl tO ?_; refine zAO (i + 1, v) rfl ⟨hO, by simp only; omega, by rw [hft]; exact ho⟩ (by simp only; omega)
   ·have he : l.take i = l := List.take_of_length_le tO
    rw [he] at ho
    have hff := hf _ hv1
    have hfl : (zK0 part whole l).length ≤ 200 := by
     have := List.length_filter_le (hasF part whole) l
     unfold zK0
     omega
    have hbb := hB (lstF 2 ((zK0 part whole l).map fcel)) v ((zK0 part whole l).map fun f => (f.col, f.row)) H1 (by rw [List.map_map]; exact lstF_view _ _ _) (by rw [List.map_map]; exact ho.view) (by rw [List.length_map]; omega)
    refine zH ?_; refine zBz hv1 ?_; refine zH <| zN tF ?_; refine zI hff ?_; refine zU rfl ?_; refine zU rfl ?_; refine zI (hrr _) ?_; refine zI hbb ?_; refine zH <| zH ?_
    exact ze rfl rfl rfl rfl hO
 ·have hn : zHg l part = zCV l := if_pos c0
  have hfv : findV l part whole = .lst (some true) 0 [] := by unfold findV; rw [hn]; exact if_neg c0
  rw [hn] at hf hr
  rw [hfv] at hf
  have he : eV (zCV l) = zFo (zCV l : Nat) := by unfold eV; rw [if_neg c0]
  rw [he] at hf hr
  have hff := hf H hv
  have hbb := fun H => hB (.lst (some true) 0 []) (.lst (some true) 0 []) [] H rfl rfl (by simp)
  generalize zCV l = cn at *
  refine zI hc ?_; refine zN tN <| zF <| zF ?_; refine zBi (fun _ : Nat => [(9, zK 0), (0, lv), (8, .lst (some true) 0 []), (2, .bool whole), (1, .str part), (7, zJ cn)]) (fun _ H' => H' = H) (fun _ => 0) 0 rfl rfl (fun _ H1 hH => ?_)
  subst hH
  refine zN tN <| zF <| zF ?_; refine zI hff ?_; refine zU rfl ?_; refine zU rfl ?_; refine zI (hr _) ?_; refine zI (hbb _) ?_; refine zH <| zH ?_
  exact ze rfl rfl rfl rfl (Old.refl _)
end
end Go.AM
set_option maxRecDepth 100000
namespace Go.Proofs.YtaohficjbicfgaaGreatDoor
open Go.AM
section
variable {m : Int} {ev : Value} (hev : ∃ te pe, ev = .iface te pe)
theorem g_count (s part new : Bs) (hp : 1 ≤ part.length) (hs : s.length ≤ 1000) (hpl : part.length ≤ 140737488355328) (hn : new.length ≤ 1000) (H : Heap) : GQ m ev zCz [.str s, .str part, .str new] H (.tup [zJ (zHF part new s).1, .str (zHF part new s).2]) H :=
 zO mixed zKe (rcount_ev s part new hp hs hpl hn H)
theorem g_cells (v w : AV) (l : List (Int × Int)) (H : Heap) (hv : view H 2 v = some (l.map fun c => zAt c.1 c.2)) (hw : view H 2 w = some (l.map fun c => zAt c.1 c.2)) (hl : l.length ≤ 1000000) : GQ m ev zC0 [v, w] H (.bool true) H :=
 zO mixed zKf (scells_ev v w l H hv hw hl)
include hev in
theorem g_find (lv : AV) (l : List Fil) (part : Bs) (whole : Bool) (H : Heap) (hv : view H 3 lv = some (l.map zAD)) : GQ m ev zDI [lv, .str part, .bool whole] H (.tup [findV l part whole, eV (zHg l part)]) H :=
 zO mixed k_find_Find (find_ev (g_check hev) (fun s part H h1 h2 => contains_good s part H h1 h2) lv l part whole H hv)
include hev in
theorem g_findCells (lv : AV) (l : List Fil) (part : Bs) (whole : Bool) (H : Heap) (hv : view H 3 lv = some (l.map zAD)) (hpl : part.length ≤ 140737488355328) : GQ m ev zDs [lv, .str part, .bool whole] H (.bool true) H :=
 zO mixed zHX (flaw_ev g_count (g_find hev) g_errN g_cells g_rcheck lv l part whole H hv hpl)
end
end Go.Proofs.YtaohficjbicfgaaGreatDoor
namespace Go.AM
section
variable {H : Type} {enc : TypeId × Value → H} {P : Program} {w : World} {held : Bool} {base : Nat} {sp : Nat → Bool}
theorem sized_str {t : TypeId} {v : Value} {d : DataW H} {ps : List MemPlace} {M : AMap} {I : Nat → Prop} {n : Nat} {s : List UInt8} {ts : List TypeId} {ds : List (DataW H)} {j : Nat}
  (hsz : (DataW.weightsEach P ts ds).all (· ≤ reachBytes) = true) (ht : ts[j]? = some t) (hd : ds[j]? = some d) (hu : P.underlying t = some .string) (h : DataW.Trod enc P w base sp held t v d ps) (hr : Rel w M I n (.str s) v) : s.length < 140737488355328 := by
 have hb : reachBytes < 140737488355328 := reachBytes_lt
 obtain rfl := zIS hr
 obtain ⟨fuel, h⟩ := h
 cases fuel with
 | zero => simp [DataW.trod] at h
 | succ fuel =>
 have hcs : (Value.string ⟨s.toArray⟩).cells.toList = [Value.string ⟨s.toArray⟩] := rfl
 rw [hcs] at h
 simp only [DataW.trod, hu] at h
 split at h
 ·simp only [Option.some.injEq, Prod.mk.injEq] at h
  have := sized_string hsz ht (hd.trans (by rw [← h.1]))
  exact Nat.lt_of_le_of_lt this hb
 ·cases h
end
end Go.AM
namespace Go.AM
section
variable {H : Type} {enc : TypeId × Value → H} {P : Program} {w : World} {held : Bool}
end
end Go.AM
namespace Go.Proofs
open Go.RowKit Go.AM
section
variable {H : Type} {enc : TypeId × Value → H}
theorem zGE {a : Assume} {C : Checked} {os : Os} {f : FuncId} {fn : Func} {s : ChangeSpec} {conds : List PathCond} {apart fresh handsOn again : Bool} {X : World → Array Value → Prop}
  (hX : ∀ (w w' : World) (args : Array Value), w.heap = w'.heap → X w args → X w' args)
  (own : ownKnob C.prog.godebug = none) (started : os.Started) (noInit : C.prog.inits.idxOf? f = none) (hfn : C.prog.funcs[f]? = some fn)
  (witness : ∃ (w : World) (tape : Tape) (i : Input), w.os = os ∧ (w.forCall tape i).Shaped C.prog ∧ i.vars = [] ∧ Input.okWide C.prog (w.forCall tape i) .any w.heap.size f i ∧
   ((s.pre enc C.prog fn conds apart (w.forCall tape i).memory i.args ∧ X (w.forCall tape i).memory i.args) ∧ sizedMet enc C.prog fn (OpenSpec.ofChange s) apart (w.forCall tape i).memory i.args) ∧ a.holds C.prog (lone (Frame.enter C.prog f i.args .normal) [] (w.forCall tape i)))
  (contract : ∀ (W : World) (base : Nat) (args : Array Value) (ds gs : List (DataW H)) (before : List MemPlace),
   (∀ (j : Nat) t v, fn.params[j]? = some t → args[j]? = some v → Value.okWide C.prog W .any base t v) →
   DataW.Whole enc C.prog fn.params.toList s.vars apart W args.toList ds gs before →
   conds.all (PathCond.test C.prog ⟨fn.params.toList, ds, s.plain.varTypes C.prog, gs⟩) = true →
   (DataW.weightsEach C.prog (fn.params.toList ++ s.plain.varTypes C.prog) (ds ++ gs)).all (· ≤ reachBytes) = true → X W args → W.ShapedOpen C.prog →
   Calls C.prog f args W fun e W' => ∃ v, e = .returned v ∧ s.post enc C.prog fn apart fresh handsOn again W args v W') :
  ReturnsInHanded a C os f .any (fun w args => (s.pre enc C.prog fn conds apart w args ∧ X w args) ∧ sizedMet enc C.prog fn (OpenSpec.ofChange s) apart w args) (s.post enc C.prog fn apart fresh handsOn again) := by
 refine returnsInHanded_of_calls own started noInit witness ?_
 intro w tape i _ hsh _ hok hpre hholds
 obtain ⟨_, _, _, fn', hfn', _, _, _, _, hval⟩ := hok
 have e : fn' = fn := Option.some.inj (hfn'.symm.trans hfn)
 subst e
 obtain ⟨⟨⟨ds, gs, before, hw, hc⟩, hx⟩, hz⟩ := hpre
 have hw' := DataW.Whole.of_heap (w' := w.forCall tape i) (by rfl) hw
 refine (contract (w.forCall tape i) w.heap.size i.args ds gs before hval hw' hc (hz.weights hw) (hX _ _ _ (by rfl) hx) hsh).mono fun e W' ⟨v, he, hp⟩ => ?_
 subst he
 exact ChangeSpec.post_blind hp
def varsRefB (P : Program) (w : World) : Bool :=
 let w₀ := (begin P (fun _ _ => 0) default).world
 (List.range P.globals.size).all fun g =>
  match (w₀.heap[g]?).bind Obj.row? with
  | none => true
  | some (zero, t) =>
   match w.heap[g]? with
   | some (.cells cs t' frozen) => decide (t' = t) && decide (frozen = (0, 0)) && cs.size == zero.size && (!P.buildable t || Row.okRefB P w t cs)
   | _ => false
theorem shaped_of_refB {P : Program} {w : World} (hv : varsRefB P w = true)
  (hr : (w.heap.toList.drop P.globals.size).take ((begin P (fun _ _ => 0) default).world.heap.size - P.globals.size) =
   (begin P (fun _ _ => 0) default).world.heap.toList.drop P.globals.size) : w.Shaped P := by
 refine ⟨fun g zero t hg hz => ?_, fun k h1 h2 => ?_⟩
 case refine_2 =>
  have := congrArg (·[k - P.globals.size]?) hr
  simp only [List.getElem?_take, List.getElem?_drop, Array.getElem?_toList] at this
  rw [if_pos tO, Nat.add_sub_cancel' h1] at this
  exact this
 unfold varsRefB at hv
 simp only [List.all_eq_true, List.mem_range] at hv
 have := hv g hg
 rw [hz] at this
 simp only at this
 split at this
 ·rename_i cs t' fr hw
  simp only [Bool.and_eq_true, decide_eq_true_eq, beq_iff_eq, Bool.or_eq_true, Bool.not_eq_true'] at this
  obtain ⟨⟨⟨rfl, rfl⟩, hs⟩, hb⟩ := this
  refine ⟨cs, hw, hs, fun hbuild => ?_⟩
  rcases hb with hb | hb
  ·rw [hbuild] at hb; cases hb
  ·exact Row.ok_of_okRefB hb
 ·cases this
theorem witness_shaped {C : Checked} {os : Os} {f : FuncId} {fn : Func} {s : ChangeSpec} {conds : List PathCond} {apart : Bool} {X : World → Array Value → Prop} (modest : Bool) (w0 : World) (args : Array Value) (fuel : Nat) (hos : w0.os = os)
  (hsh : (w0.forCall (fun _ _ => 0) ⟨#[], args, []⟩).Shaped C.prog)
  (hok : Input.okWideB C.prog (w0.forCall (fun _ _ => 0) ⟨#[], args, []⟩) f ⟨#[], args, []⟩ = true)
  (hpre : s.preB enc C.prog fn conds apart (w0.forCall (fun _ _ => 0) ⟨#[], args, []⟩).memory args fuel = true)
  (hsz : s.sizedB enc C.prog fn apart (w0.forCall (fun _ _ => 0) ⟨#[], args, []⟩).memory args fuel = true)
  (hx : X (w0.forCall (fun _ _ => 0) ⟨#[], args, []⟩).memory args) :
  ∃ (w : World) (tape : Tape) (i : Input), w.os = os ∧ (w.forCall tape i).Shaped C.prog ∧ i.vars = [] ∧ Input.okWide C.prog (w.forCall tape i) .any w.heap.size f i ∧
   ((s.pre enc C.prog fn conds apart (w.forCall tape i).memory i.args ∧ X (w.forCall tape i).memory i.args) ∧ sizedMet enc C.prog fn (OpenSpec.ofChange s) apart (w.forCall tape i).memory i.args) ∧ ({ modest := modest } : Assume).holds C.prog (lone (Frame.enter C.prog f i.args .normal) [] (w.forCall tape i)) :=
 ⟨w0, fun _ _ => 0, ⟨#[], args, []⟩, hos, hsh, (Input.okWide_of_okWideB (base := 0) hok).1, (Input.okWide_of_okWideB hok).2, ⟨⟨ChangeSpec.pre_of_preB hpre, hx⟩, sizedMet_of_sizedB hsz⟩, by
  simp only [Assume.holds]
  exact ⟨by simp, by simp, fun _ => Modest.zero, by simp, by simp⟩⟩
end
end Go.Proofs
