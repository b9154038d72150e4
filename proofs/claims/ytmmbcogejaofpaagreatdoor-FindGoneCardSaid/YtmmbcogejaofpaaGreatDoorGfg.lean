/- The contracts of FindGone. Own work. -/
import Derived.Test.YtmmbcogejaofpaaGreatDoorGMw4Fn2
import Derived.Test.YtmmbcogejaofpaaGreatDoorGRp0Mf1
set_option linter.all false
set_option maxRecDepth 100000
namespace Go.Proofs.YtmmbcogejaofpaaGreatDoor
open Go.AM
section
variable {m : Int} {ev : Value} (hev : ∃ te pe,ev = .iface te pe)
include hev in
theorem g_find (lv : AV) (l : List Fil) (part : Bs) (whole : Bool) (H : Heap) (hv : view H 3 lv = some (l.map zZ)) : GQ m ev zBd [lv,.str part,.bool whole] H (.tup [findV l part whole,eV (zGz l part)]) H:=
 zO mixed k_find_Find (find_ev (g_check hev) (fun s part H h1 h2=>contains_good s part H h1 h2) lv l part whole H hv)
include hev in
theorem g_replace (lv : AV) (l : List Fil) (part new : Bs) (whole : Bool) (H : Heap) (hv : view H 3 lv = some (l.map zZ)) : GQ m ev zAl [lv,.str part,.str new,.bool whole] H (.tup [replV l part new whole,zP (replM l part new whole),eV (zCq l part new whole)]) H:=
 zO mixed k_find_Replace (krep_ev (g_check hev) (fun s part new H h1 h2=>count_good s part new H h1 h2) (fun s part new H h1 h2 h3=>replace_good s part new H h1 h2 h3) (g_text hev) lv l part new whole H hv)
include hev in
theorem g_findGone {x0 : AV} (h0 : Fits (.sl true shFil) x0) (c : UInt8) (new : Bs) (hn : new.length ≤ 140737488355328) (H : Heap) : GQ m ev zCw [x0,zAS c,.str new] H (.bool true) H:=by
 obtain ⟨l,q,rfl,_⟩:=fl_filsq h0
 exact zO mixed zFr (fgone_ev g_small (fun lv l part new hv H=>g_replace hev lv l part new false H (hv H)) (fun lv l part hv H=>g_find hev lv l part false H (hv H)) (g_diff hev) _ l ⟨_,_,rfl,.inl rfl⟩ c new hn H)
end
end Go.Proofs.YtmmbcogejaofpaaGreatDoor
