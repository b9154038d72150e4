/-
  No cell of these rows narrows 'for every input' (looked for: loops, veiled, ifaces, maps, wideKeys, modest, calm, conditions, laid).
  DERIVED. THE GIVEN ROWS OF THIS SEAT. 4 by the template 'for every input the law returns true; each argument reads behind the call as it read before'; 0 by the template 'total and deterministic' (their statements: YtniijfcjdlhfcaaTotals.lean).
  GIVEN WITH THE SEED: the statements are not yours to turn. If you find one false, say at which input.
  Laid BY PROGRAM, IN A SANDBOX (cutbox-rows.mjs): the forced cells as the released guide's own fill.sh prints them over the translation ecff3d015fb01bb6… (all of the seat's roots in one cut). By AI agents, Wed Nov 11 2026. No macro, syntax, notation, axiom, sorry.
-/
import Derived.Test.YtniijfcjdlhfcaaChecked
import GoSem.Claim
import GoSem.ClaimJoined
import GoSem.ClaimMapViews
import Derived.JoinedTies
import Derived.KernelRfl
namespace Go.Proofs.Ytniijfcjdlhfcaa
/- THE CELL 'sum', in the pinned program and in every row, IS THE sha256 OF THE DUMP (.gsa) THAT YtniijfcjdlhfcaaProg.lean LOADS. Nothing in Lean hashes anything: it is a label: what it is worth is what the hold of that sum in a sandbox is worth. -/
noncomputable def Try.pinned : Pinned := { name := "ytniijfcjdlhfcaa", sum := "ecff3d015fb01bb6de2500ce37bc2b265462afb8c3a3c21989ec00369c5b5137", checked := Try.checked }
namespace Rows
def none {H : Type} : Left H := { results := [], args := [] }

/-- 'scclaw4.FindMasks': WHATEVER THE INPUT: true; the input reads as it did. -/
def findMasksSpec : ChangeSpec := { name := "findMasks", fn := fun _ => fun
  | [d1, d2] => { results := [.lit (.bool true)], args := [d1, d2] }
  | _ => none }
def findMasksRow : OpenClaim := { program := "ytniijfcjdlhfcaa", sum := "ecff3d015fb01bb6de2500ce37bc2b265462afb8c3a3c21989ec00369c5b5137", func := "sccsettle/scclaw4.FindMasks", spec := "findMasks", apart := false }
def FindMasksSaid : Prop := findMasksRow.holds Try.pinned (OpenSpec.ofChange findMasksSpec)

/-- ITS FALSE NEIGHBOUR: 'it returns false'. Refute it at one input. -/
def findMasksWrong : ChangeSpec := { name := "findMasks", fn := fun _ => fun
  | [d1, d2] => { results := [.lit (.bool false)], args := [d1, d2] }
  | _ => none }
def FindMasksWrongFalsely : Prop := findMasksRow.holds Try.pinned (OpenSpec.ofChange findMasksWrong)

/-- 'scclaw4.SortOnce': WHATEVER THE INPUT: true; the input reads as it did. -/
def sortOnceSpec : ChangeSpec := { name := "sortOnce", fn := fun _ => fun
  | [d1, d2] => { results := [.lit (.bool true)], args := [d1, d2] }
  | _ => none }
def sortOnceRow : OpenClaim := { program := "ytniijfcjdlhfcaa", sum := "ecff3d015fb01bb6de2500ce37bc2b265462afb8c3a3c21989ec00369c5b5137", func := "sccsettle/scclaw4.SortOnce", spec := "sortOnce", unfollowed := true, recurses := true, apart := false }
def SortOnceSaid : Prop := sortOnceRow.holds Try.pinned (OpenSpec.ofChange sortOnceSpec)

/-- ITS FALSE NEIGHBOUR: 'it returns false'. Refute it at one input. -/
def sortOnceWrong : ChangeSpec := { name := "sortOnce", fn := fun _ => fun
  | [d1, d2] => { results := [.lit (.bool false)], args := [d1, d2] }
  | _ => none }
def SortOnceWrongFalsely : Prop := sortOnceRow.holds Try.pinned (OpenSpec.ofChange sortOnceWrong)

/-- 'scclaw4.FormatWides': WHATEVER THE INPUT: true; the input reads as it did. -/
def formatWidesSpec : ChangeSpec := { name := "formatWides", fn := fun _ => fun
  | [d1, d2, d3, d4, d5] => { results := [.lit (.bool true)], args := [d1, d2, d3, d4, d5] }
  | _ => none }
def formatWidesRow : OpenClaim := { program := "ytniijfcjdlhfcaa", sum := "ecff3d015fb01bb6de2500ce37bc2b265462afb8c3a3c21989ec00369c5b5137", func := "sccsettle/scclaw4.FormatWides", spec := "formatWides", inPlace := ["internal/abi.NoEscape", "internal/bytealg.MakeNoZero"], apart := false }
def FormatWidesSaid : Prop := formatWidesRow.holds Try.pinned (OpenSpec.ofChange formatWidesSpec)

/-- ITS FALSE NEIGHBOUR: 'it returns false'. Refute it at one input. -/
def formatWidesWrong : ChangeSpec := { name := "formatWides", fn := fun _ => fun
  | [d1, d2, d3, d4, d5] => { results := [.lit (.bool false)], args := [d1, d2, d3, d4, d5] }
  | _ => none }
def FormatWidesWrongFalsely : Prop := formatWidesRow.holds Try.pinned (OpenSpec.ofChange formatWidesWrong)

/-- 'scclaw4.SortStands': WHATEVER THE INPUT: true; the input reads as it did. -/
def sortStandsSpec : ChangeSpec := { name := "sortStands", fn := fun _ => fun
  | [d1, d2] => { results := [.lit (.bool true)], args := [d1, d2] }
  | _ => none }
def sortStandsRow : OpenClaim := { program := "ytniijfcjdlhfcaa", sum := "ecff3d015fb01bb6de2500ce37bc2b265462afb8c3a3c21989ec00369c5b5137", func := "sccsettle/scclaw4.SortStands", spec := "sortStands", unfollowed := true, recurses := true, apart := false }
def SortStandsSaid : Prop := sortStandsRow.holds Try.pinned (OpenSpec.ofChange sortStandsSpec)

/-- ITS FALSE NEIGHBOUR: 'it returns false'. Refute it at one input. -/
def sortStandsWrong : ChangeSpec := { name := "sortStands", fn := fun _ => fun
  | [d1, d2] => { results := [.lit (.bool false)], args := [d1, d2] }
  | _ => none }
def SortStandsWrongFalsely : Prop := sortStandsRow.holds Try.pinned (OpenSpec.ofChange sortStandsWrong)

/- THE SECOND FORM. 'bulk': how many values and letters a reading holds, each counted each time it is reached (what is shared counts as often as it is met; a slice's spare places count too). A statement '..UptoSaid' is the law's where the arguments, and the package variables that the reading takes, are together of bulk at most 1048576: NARROWER than '..Said'. Prove '..Said' where nothing that the law and all that it calls make is longer than what came in: it says more and counts as full. Else prove '..UptoSaid'. A law counts once. -/
mutual
def uptoBulk {H : Type} : DataW H → Nat
  | .lit (.string bytes) => bytes.length + 1
  | .lit _ => 1
  | .nil => 1
  | .ptr d => uptoBulk d + 1
  | .slice elems spare => uptoBulkAll elems + uptoBulkAll spare + 1
  | .agg parts => uptoBulkAll parts + 1
  | .iface _ d => uptoBulk d + 1
  | .map entries => uptoBulkEntries entries + 1
  | .held _ => 1
def uptoBulkAll {H : Type} : List (DataW H) → Nat
  | [] => 0
  | d :: r => uptoBulk d + uptoBulkAll r
def uptoBulkEntries {H : Type} : List (Lit × DataW H) → Nat
  | [] => 0
  | x :: r => uptoBulkEntry x + uptoBulkEntries r
def uptoBulkEntry {H : Type} : Lit × DataW H → Nat
  | (.string bytes, d) => bytes.length + uptoBulk d + 1
  | (_, d) => uptoBulk d + 1
 end
def uptoSmall : (H : Type) → List (DataW H) → Bool := fun _ ds => decide (uptoBulkAll ds ≤ 1048576)
def OpenSpec.upto (s : _root_.Go.ChangeSpec) : _root_.Go.OpenSpec := { _root_.Go.OpenSpec.ofChange s with cond := some uptoSmall }

/-- 'scclaw4.FindMasks', WHERE WHAT IT READS IS OF BULK AT MOST 1048576: true; the input reads as it did. -/
def findMasksUptoRow : OpenClaim := { program := "ytniijfcjdlhfcaa", sum := "ecff3d015fb01bb6de2500ce37bc2b265462afb8c3a3c21989ec00369c5b5137", func := "sccsettle/scclaw4.FindMasks", spec := "findMasks", apart := false, narrowed := true }
def FindMasksUptoSaid : Prop := findMasksUptoRow.holds Try.pinned (OpenSpec.upto findMasksSpec)

/-- 'scclaw4.SortOnce', WHERE WHAT IT READS IS OF BULK AT MOST 1048576: true; the input reads as it did. -/
def sortOnceUptoRow : OpenClaim := { program := "ytniijfcjdlhfcaa", sum := "ecff3d015fb01bb6de2500ce37bc2b265462afb8c3a3c21989ec00369c5b5137", func := "sccsettle/scclaw4.SortOnce", spec := "sortOnce", unfollowed := true, recurses := true, apart := false, narrowed := true }
def SortOnceUptoSaid : Prop := sortOnceUptoRow.holds Try.pinned (OpenSpec.upto sortOnceSpec)

/-- 'scclaw4.FormatWides', WHERE WHAT IT READS IS OF BULK AT MOST 1048576: true; the input reads as it did. -/
def formatWidesUptoRow : OpenClaim := { program := "ytniijfcjdlhfcaa", sum := "ecff3d015fb01bb6de2500ce37bc2b265462afb8c3a3c21989ec00369c5b5137", func := "sccsettle/scclaw4.FormatWides", spec := "formatWides", inPlace := ["internal/abi.NoEscape", "internal/bytealg.MakeNoZero"], apart := false, narrowed := true }
def FormatWidesUptoSaid : Prop := formatWidesUptoRow.holds Try.pinned (OpenSpec.upto formatWidesSpec)

/-- 'scclaw4.SortStands', WHERE WHAT IT READS IS OF BULK AT MOST 1048576: true; the input reads as it did. -/
def sortStandsUptoRow : OpenClaim := { program := "ytniijfcjdlhfcaa", sum := "ecff3d015fb01bb6de2500ce37bc2b265462afb8c3a3c21989ec00369c5b5137", func := "sccsettle/scclaw4.SortStands", spec := "sortStands", unfollowed := true, recurses := true, apart := false, narrowed := true }
def SortStandsUptoSaid : Prop := sortStandsUptoRow.holds Try.pinned (OpenSpec.upto sortStandsSpec)

end Rows
end Go.Proofs.Ytniijfcjdlhfcaa
