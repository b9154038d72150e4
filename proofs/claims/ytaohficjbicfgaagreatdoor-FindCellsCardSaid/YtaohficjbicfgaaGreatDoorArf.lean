/- What comes in as sheets, cells, boxes, texts, numbers. Own work. -/
import Derived.Test.YtaohficjbicfgaaGreatDoorGRfcChk
import Derived.Test.YtaohficjbicfgaaGreatDoorGFn1Am32
set_option linter.all false
namespace Go.AM
theorem fl_map_of {α : Type} {f : α → AV} : ∀ {ys : List AV}, (∀ y ∈ ys, ∃ v, y = f v) → ∃ vs : List α, ys = vs.map f
 | [], _ => ⟨[], rfl⟩
 | y :: ys, h => by
  obtain ⟨v, rfl⟩ := h y (by simp)
  obtain ⟨vs, rfl⟩ := fl_map_of (ys := ys) fun z hz => h z (List.mem_cons_of_mem _ hz)
  exact ⟨v :: vs, rfl⟩
theorem fl_sl {ag : Bool} {es : List Sh} {x : AV} (h : Fits (.sl ag es) x) : ∃ q xs, x = .lst (some q) es.length xs ∧ (q = true → xs = []) ∧ xs.length ≤ maxLen ∧ (∀ y ∈ xs, y.cells.length = es.length ∧ formed ag y) ∧
  ∀ y ∈ xs, ∀ (i : Nat) (s : Sh) (c : AV), es[i]? = some s → y.cells[i]? = some c → Fits s c := by
 cases h with
 | sl ag es q xs hl hq h1 h2 => exact ⟨q, xs, rfl, hq, hl, h1, h2⟩
theorem fl_int {k : IntKind} {x : AV} (h : Fits (.int k) x) : ∃ n, x = .int k n ∧ (Lit.int k n).wf = true := by cases h with | int k n h => exact ⟨n, rfl, h⟩
theorem fl_str {x : AV} (h : Fits .str x) : ∃ s, x = .str s := by cases h with | str s h => exact ⟨s, rfl⟩
theorem fl_bool {x : AV} (h : Fits .bool x) : ∃ b, x = .bool b := by cases h with | bool b => exact ⟨b, rfl⟩
theorem fl_wf {n : Int} (h : (Lit.int .i64 n).wf = true) : zCv n := by
 have h : IntKind.i64.min ≤ n ∧ n ≤ 9223372036854775807 := by simpa [Lit.wf] using h
 have e : IntKind.i64.min = -9223372036854775808 := rfl
 exact ⟨by omega, h.2⟩
theorem fl_num {x : AV} (h : Fits (.int .i64) x) : ∃ n, x = zK n ∧ zCv n := by
 obtain ⟨n, rfl, hn⟩ := fl_int h
 exact ⟨n, rfl, fl_wf hn⟩
def shFil : List Sh := [.int .i64, .int .i64, .str]
theorem fl_fil {cs : List AV} (hl : cs.length = 3) (h : ∀ (i : Nat) (s : Sh) (c : AV), shFil[i]? = some s → cs[i]? = some c → Fits s c) : ∃ f : Fil, AV.agg cs = zAD f ∧ zCv f.col ∧ zCv f.row := by
 match cs, hl with
 | [a, b, c], _ =>
  obtain ⟨n, rfl, h1⟩ := fl_num (h 0 _ a rfl rfl)
  obtain ⟨m, rfl, h2⟩ := fl_num (h 1 _ b rfl rfl)
  obtain ⟨s, rfl⟩ := fl_str (h 2 _ c rfl rfl)
  exact ⟨⟨n, m, s⟩, rfl, h1, h2⟩
theorem fl_fils {x : AV} (h : Fits (.sl true shFil) x) : ∃ l : List Fil, ∃ q, x = .lst (some q) 3 (l.map zAD) ∧ (∀ H, view H 3 x = some (l.map zAD)) ∧ ∀ f ∈ l, zCv f.col ∧ zCv f.row := by
 obtain ⟨q, xs, rfl, _, _, h1, h2⟩ := fl_sl h
 obtain ⟨l, hl⟩ : ∃ vs : List {f : Fil // zCv f.col ∧ zCv f.row}, xs = vs.map (fun f => zAD f.1) := fl_map_of fun y hy => by
  obtain ⟨k1, cs, rfl⟩ := h1 y hy
  obtain ⟨f, e, f1, f2⟩ := fl_fil k1 (h2 _ hy)
  exact ⟨⟨f, f1, f2⟩, e⟩
 refine ⟨l.map (·.1), q, by rw [List.map_map, hl]; rfl, fun H => by rw [hl, List.map_map]; rfl, fun f hf => ?_⟩
 obtain ⟨g, _, rfl⟩ := List.mem_map.1 hf
 exact g.2
end Go.AM
