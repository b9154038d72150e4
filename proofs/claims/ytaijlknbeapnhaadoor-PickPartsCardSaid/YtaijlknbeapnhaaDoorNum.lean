/- The reference's Num; results that lie in a variable. Own work. -/
import Derived.Test.YtaijlknbeapnhaaDoorVal
set_option linter.all false
namespace Go.AM

theorem sRetCell {F : AF} {a s : Nat} {ag : Bool} {H H1 : Heap} {fr : Fr} {v : AV} {cs : List AV} {o : Nat} (hF : F.results = [.cell a s ag]) (hk : F.keep = false) (hp : ptrCells H1 (getF fr a) = some (cs, o)) (hpt : part cs o s ag = some v)
    (hf : frzV H.length v H1 = some (v, H1)) (hb : v.bel H.length = true) (ho : Old H H1) : retP F H fr H1 v H := by
  refine sRetV hk ?_ hf hb ho
  rw [getF_eq] at hp
  simp only [hF, resAll, resOf, hp, hpt, Option.map_some]
  rfl

section
variable {C : CSpec} {GT : Nat → Option AV}

theorem num_ev (n : Int) (H : Heap) : EFun C GT a_sccref1_Num [intV n] H (valV ⟨1, n, []⟩) H := by
  refine sOpt rfl ?_
  refine sStoreBox push_last rfl rfl (by simp) ?_
  exact sRetCell (cs := splice [.int .i64 0, .int .i64 0, .str []] 0 [.int .i64 1, intV n, .str []]) (o := 0) rfl rfl (ptr_box (set_at push_last)) rfl rfl rfl ((Old.refl H).pushSet _ _)

end
end Go.AM
