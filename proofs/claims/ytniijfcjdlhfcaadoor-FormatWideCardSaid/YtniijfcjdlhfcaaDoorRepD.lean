/- strings.Repeat, by the kit's shelf: its contract laid at the Door's program. -/
import Derived.Shelf.Strings.Repeat
import Derived.Test.YtniijfcjdlhfcaaDoorRpD
import Derived.Lib.Agree
import Derived.KernelRfl
import Derived.Test.YtniijfcjdlhfcaaDoorAm23
import Derived.Test.YtniijfcjdlhfcaaDoorDan
set_option linter.all false
set_option maxRecDepth 100000
namespace Go.Proofs
open Go.Shelf Go.RowKit Go.AM

theorem Tryd.ownExtra : Builder.Extra Tryd.prog Tryd.ownLaysRepeat_ren := {
  sizeBuilder := by kernel_rfl
  liesBuilder := by kernel_rfl
  t5 := Tryd.ownLaysRepeat.t5
  a5 := Tryd.ownLaysRepeat.a5
  z5 := Tryd.ownLaysRepeat.z5
  v5 := Tryd.ownLaysRepeat.v5
  infoByte := by kernel_rfl
  cellsByte := by kernel_rfl
  sizeByte := by kernel_rfl
  neB5 := by decide }

theorem Tryd.rep_number : Tryd.ownLaysRepeat_ren.f 105 = f_strings_Repeat := by kernel_rfl

theorem Tryd.rep_good {GT : Nat → Option AV} (s : List UInt8) (c : Nat) (H : Heap) (hc : c ≤ 1000) (hl : s.length ≤ 1000) : Go.AM.Good Tryd.prog GT f_strings_Repeat [.str s, .int .i64 c] H (.str (Lib.repeatL s c)) H :=
  good_of_calls Tryd.func46 (by kernel_rfl) (by kernel_rfl) fun w M I cargs hS hA => by
    obtain ⟨v, u, rfl, hv, hu⟩ := relL_two hA
    obtain rfl := rel_str' hv
    obtain rfl := rel_int' hu
    have h := Any.strings_Repeat Tryd.ownLaysRepeat Tryd.ownExtra ⟨s.toArray⟩ c w (by omega) (by
      have : s.length * c ≤ 1000 * 1000 := Nat.mul_le_mul hl hc
      show s.toArray.size * c ≤ _
      rw [List.size_toArray]; omega)
    rw [Tryd.rep_number] at h
    refine h.mono ?_
    rintro e w' ⟨he, hB⟩
    exact ⟨_, he, hB, .str _⟩
end Go.Proofs
