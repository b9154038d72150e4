/- The walk of the law PickParts: its end. Own work. -/
import Derived.Test.YtaijlknbeapnhaaDoorPkl
set_option linter.all false
namespace Go.AM

section
variable {C : CSpec} {GT : Nat → Option AV}

structure SPw where
  i : Nat
  n : Nat

set_option maxHeartbeats 1000000 in
theorem parts_tail (H0 H1 : Heap) (hO : Old H0 H1) (b : Nat) (tv : AV) (t : List Row) (w : Want) (xs ys : List Nat) (hb : H1[b]? = some (.box (wantV w).cells)) (ht : TabOf H1 tv t) (h60 : t.length ≤ 60)
    (hc : ∀ (i : Nat) (r : Row), t[i]? = some r → 0 ≤ w.col ∧ w.col < (r.length : Int)) (hlen : xs.length + ys.length + ((List.range t.length).filter fun i => badIn (t.getD i []) w).length = t.length) :
    EW C GT (b_scclaw4_PickParts.behind 14) (finF a_scclaw4_PickParts H0 (.bool true) H0) [(13, .ref b 0 0 0), (0, tv), (16, lstF 1 (ys.map natV)), (14, lstF 1 (xs.map natV))] H1 := by
  obtain ⟨rows, hrv, hrl, hrg⟩ := ht
  let wr := fun n => ((List.range n).filter fun i => badIn (t.getD i []) w).length
  have hwr : ∀ n, wr n ≤ n := fun n => Nat.le_trans (List.length_filter_le _ _) (by simp)
  have hws : ∀ n, wr (n + 1) = wr n + if badIn (t.getD n []) w = true then 1 else 0 := by
    intro n
    simp only [wr]
    rw [List.range_succ, List.filter_append, List.length_append]
    simp only [List.filter_cons, List.filter_nil]
    split <;> simp
  refine sLoop (fun s : SPw => [(19, .int .i64 s.i), (18, .int .i64 s.n), (13, .ref b 0 0 0), (0, tv), (16, lstF 1 (ys.map natV)), (14, lstF 1 (xs.map natV))]) (fun s H2 => H2 = H1 ∧ s.i ≤ t.length ∧ s.n = wr s.i) (fun s => t.length - s.i) ⟨0, 0⟩ rfl ⟨rfl, Nat.zero_le _, rfl⟩ (fun ⟨i, n⟩ H2 ⟨e, hi, hn⟩ => ?_)
  subst e
  simp only at hi hn
  dsimp only
  have hnb := hwr i
  refine sLenN t.length hrv hrl ?_
  refine sCond (fun hlt => ?_) (fun hlt => ?_)
  · have hlt : i < t.length := by have := of_decide_eq_true hlt; omega
    have hti : t[i]? = some t[i] := List.getElem?_eq_getElem hlt
    obtain ⟨r, hr⟩ : ∃ r, t[i] = r := ⟨_, rfl⟩
    rw [hr] at hti
    have htd : t.getD i [] = r := by rw [List.getD_eq_getElem?_getD, hti]; rfl
    obtain ⟨x, hx, hxr⟩ := hrg i r hti
    obtain ⟨c0, c1⟩ := hc i r hti
    obtain ⟨j, hj⟩ : ∃ j : Nat, w.col = j := ⟨w.col.toNat, by omega⟩
    have hjl : j < r.length := by omega
    have hrj : r[j]? = some r[j] := List.getElem?_eq_getElem hjl
    have hrd : r.getD w.col.toNat default = r[j] := by rw [hj]; simp [hjl]
    have hs := hws i
    rw [htd] at hs
    have hbi : badIn r w = (r[j].kind == 4 || w.val.kind == 4) := by unfold badIn; rw [hrd]
    rw [hbi] at hs
    refine sIdxV i x hrv rfl hx (fun p hp => ?_)
    refine sLoadP x hp (by obtain ⟨q, k, rfl, _⟩ := hxr; rfl) ?_
    refine sLoadBox (intV w.col) hb rfl ?_
    refine sIdxO j (valV r[j]) hxr hj (hxr.get [] hrj).2 ?_
    refine sLoadL (intV r[j].kind) rfl ?_
    have next : ∀ m : Nat, m = wr (i + 1) → i + 1 ≤ t.length := fun _ _ => by omega
    refine sCond (fun hk => ?_) (fun hk => ?_)
    · refine sCondT ?_
      refine sCondT ?_
      refine sW64n (r := n + 1) rfl (by omega) ?_
      refine sW64n (r := i + 1) rfl (by omega) ?_
      exact sNext (SPw.mk (i + 1) (n + 1)) rfl ⟨rfl, by simp only; omega, by simp only; rw [hs, hk, hn]; rfl⟩ (by simp only; omega)
    · refine sLoadBox (intV w.val.kind) hb rfl ?_
      refine sCondF ?_
      refine sCond (fun hk2 => ?_) (fun hk2 => ?_)
      · refine sW64n (r := n + 1) rfl (by omega) ?_
        refine sW64n (r := i + 1) rfl (by omega) ?_
        exact sNext (SPw.mk (i + 1) (n + 1)) rfl ⟨rfl, by simp only; omega, by simp only; rw [hs, hk, hk2, hn]; rfl⟩ (by simp only; omega)
      · refine sW64n (r := i + 1) rfl (by omega) ?_
        exact sNext (SPw.mk (i + 1) n) rfl ⟨rfl, by simp only; omega, by simp only; rw [hs, hk, hk2, hn]; rfl⟩ (by simp only; omega)
  · have hge : i = t.length := by have := of_decide_eq_false hlt; omega
    subst hge
    refine sLenO xs.length (lstF_of 1 _) (by simp) ?_
    refine sLenO ys.length (lstF_of 1 _) (by simp) ?_
    have : xs.length + ys.length + wr t.length = t.length := hlen
    refine sW64n (r := xs.length + ys.length) (by omega) (by omega) ?_
    refine sW64n (r := xs.length + ys.length + n) (by omega) (by omega) ?_
    refine sLenN t.length hrv hrl ?_
    exact sRetE (v0 := .bool (((xs.length + ys.length + n : Nat) : Int) == (t.length : Int))) (by rw [hn, this]; simp) rfl rfl rfl rfl hO
end
end Go.AM
