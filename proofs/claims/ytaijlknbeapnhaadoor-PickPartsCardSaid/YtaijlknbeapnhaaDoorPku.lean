/- The walks of pick.Pick and pick.Any. Own work. -/
import Derived.Test.YtaijlknbeapnhaaDoorPkd
set_option linter.all false
namespace Go.AM

theorem pickV_form (t : List Row) (l : List Want) (en : Nat → Bool) : ∃ lv ev, pickV t l en = .tup [lv, ev] ∧ (∀ n H, frzV n (.tup [lv, ev]) H = some (.tup [lv, ev], H)) ∧ ∀ n, (AV.tup [lv, ev]).bel n = true := by
  by_cases he : wantErr t l = 0
  · refine ⟨lstF 1 ((pickL t l en t.length).map natV), .nili, by unfold pickV; rw [if_neg (by omega)], fun n H => ?_, fun n => ?_⟩
    · simp only [frzV, frzL, frz_plain (lstF_plain _ _)]
    · simp [AV.bel, AV.belL, lstF_bel]
  · obtain ⟨n, hn⟩ : ∃ n, wantErr t l = n + 1 := ⟨wantErr t l - 1, by omega⟩
    exact ⟨.lst (some true) 0 [], errV (n + 1 : Nat), by unfold pickV; rw [if_pos (by omega), hn]; rfl, fun n H => rfl, fun n => rfl⟩

def enAll (l : List Want) (n : Nat) : Bool := (n : Int) == (l.length : Int)
def enAny (n : Nat) : Bool := decide ((n : Int) > 0)

section
variable {C : CSpec} {GT : Nat → Option AV}

theorem pick_c1_ev (n b : Nat) (wv : AV) (l : List Want) (H : Heap) (hb : H[b]? = some (.box [wv])) (hw : view H 5 wv = some (l.map wantV)) : EFun C GT a_pick_Pick_c1 [natV n, .ref b 0 0 0] H (.bool (enAll l n)) H := by
  refine sLoadBox wv hb rfl ?_
  refine sLenN l.length hw (by simp) ?_
  exact sRetV rfl rfl rfl rfl (Old.refl H)

theorem any_c1_ev (n : Nat) (H : Heap) : EFun C GT a_pick_Any_c1 [natV n] H (.bool (enAny n)) H := sRetV rfl rfl rfl rfl (Old.refl H)

theorem pick_ev (hP : ∀ tv wv t l f first caps en H, TabOf H tv t → view H 5 wv = some (l.map wantV) → (∀ n H', Old H H' → C f (first ++ [natV n] ++ caps) H' (.bool (en n)) H') → C f_pick_picked [tv, wv, .fn f first caps] H (pickV t l en) H)
    (hc : ∀ n b wv l H, H[b]? = some (.box [wv]) → view H 5 wv = some (l.map wantV) → C f_pick_Pick_c1 [natV n, .ref b 0 0 0] H (.bool (enAll l n)) H)
    (tv wv : AV) (t : List Row) (l : List Want) (H : Heap) (ht : TabOf H tv t) (hone : wv.cells = [wv] ∧ wv.one = true) (hw : view H 5 wv = some (l.map wantV)) : EFun C GT a_pick_Pick [tv, wv] H (pickV t l (enAll l)) H := by
  obtain ⟨lv, ev, e, hf, hb⟩ := pickV_form t l (enAll l)
  have hO : Old H (H ++ [ABlk.box [wv]]) := (Old.refl H).push _
  have r := hP tv wv t l f_pick_Pick_c1 [] [.ref H.length 0 0 0] (enAll l) (H ++ [ABlk.box [wv]]) (ht.old hO) (view_old hO hw) (fun n H' hO' => hc n H.length wv l H' (by rw [hO'.2 H.length (by simp)]; exact push_last) (view_old hO' (view_old hO hw)))
  rw [e] at r
  rw [e]
  refine sBox1 hone ?_
  refine sLoadBox wv push_last rfl ?_
  refine sCall0 r ?_
  refine sOpt rfl ?_
  refine sOpt rfl ?_
  exact sRetV rfl rfl (hf _ _) (hb _) hO

theorem any_ev (hP : ∀ tv wv t l f first caps en H, TabOf H tv t → view H 5 wv = some (l.map wantV) → (∀ n H', Old H H' → C f (first ++ [natV n] ++ caps) H' (.bool (en n)) H') → C f_pick_picked [tv, wv, .fn f first caps] H (pickV t l en) H)
    (hc : ∀ n H, C f_pick_Any_c1 [natV n] H (.bool (enAny n)) H)
    (tv wv : AV) (t : List Row) (l : List Want) (H : Heap) (ht : TabOf H tv t) (hw : view H 5 wv = some (l.map wantV)) : EFun C GT a_pick_Any [tv, wv] H (pickV t l enAny) H := by
  obtain ⟨lv, ev, e, hf, hb⟩ := pickV_form t l enAny
  have r := hP tv wv t l f_pick_Any_c1 [] [] enAny H ht hw (fun n H' _ => hc n H')
  rw [e] at r
  rw [e]
  refine sCall0 r ?_
  refine sOpt rfl ?_
  refine sOpt rfl ?_
  exact sRetV rfl rfl (hf _ _) (hb _) (Old.refl H)
end
end Go.AM
