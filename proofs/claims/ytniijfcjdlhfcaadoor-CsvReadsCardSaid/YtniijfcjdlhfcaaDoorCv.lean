/- Rows of a text: a machine of four states (plain facts, and how its rows stand in the heap). Own work. -/
import Derived.Test.YtniijfcjdlhfcaaDoorErr
import Derived.Test.YtniijfcjdlhfcaaDoorAm25
set_option linter.all false
namespace Go.AM

abbrev Fld := List UInt8
inductive CR where
  | ok (rows : List (List Fld))
  | bad (at_ : Nat)

/-- 0: a field begins, 1: within one, 2: within quotes, 3: behind them. -/
def mach : List UInt8 → Nat → Nat → Fld → List Fld → List (List Fld) → CR
  | [], i, st, f, row, out => if st = 2 then .bad i else if st = 0 ∧ row = [] then .ok out else .ok (out ++ [row ++ [f]])
  | c :: s, i, st, f, row, out =>
    if st = 2 then
      (if c = 34 then (if s.head? = some 34 then mach s.tail (i + 2) 2 (f ++ [34]) row out else mach s (i + 1) 3 f row out) else mach s (i + 1) 2 (f ++ [c]) row out)
    else if c = 10 then mach s (i + 1) 0 [] [] (out ++ [row ++ [f]])
    else if c = 13 ∧ s.head? = some 10 then mach s.tail (i + 2) 0 [] [] (out ++ [row ++ [f]])
    else if c = 44 then mach s (i + 1) 0 [] (row ++ [f]) out
    else if st = 3 ∨ (st = 1 ∧ c = 34) then .bad i
    else if c = 34 then mach s (i + 1) 2 f row out
    else mach s (i + 1) 1 (f ++ [c]) row out
termination_by s => s.length
decreasing_by all_goals (simp only [List.length_tail, List.length_cons]; omega)

/-- Does a field end here? -/
def endsL : List UInt8 → Bool
  | [] => false
  | c :: s => c == 44 || (c == 10 || (c == 13 && s.head? == some 10))

def csvP (s : List UInt8) : CR := mach s 0 0 [] [] []

theorem mach_nil (i st : Nat) (f : Fld) (row : List Fld) (out : List (List Fld)) : mach [] i st f row out = if st = 2 then .bad i else if st = 0 ∧ row = [] then .ok out else .ok (out ++ [row ++ [f]]) := by rw [mach]
theorem mach_cons (c : UInt8) (s : List UInt8) (i st : Nat) (f : Fld) (row : List Fld) (out : List (List Fld)) : mach (c :: s) i st f row out =
    if st = 2 then
      (if c = 34 then (if s.head? = some 34 then mach s.tail (i + 2) 2 (f ++ [34]) row out else mach s (i + 1) 3 f row out) else mach s (i + 1) 2 (f ++ [c]) row out)
    else if c = 10 then mach s (i + 1) 0 [] [] (out ++ [row ++ [f]])
    else if c = 13 ∧ s.head? = some 10 then mach s.tail (i + 2) 0 [] [] (out ++ [row ++ [f]])
    else if c = 44 then mach s (i + 1) 0 [] (row ++ [f]) out
    else if st = 3 ∨ (st = 1 ∧ c = 34) then .bad i
    else if c = 34 then mach s (i + 1) 2 f row out
    else mach s (i + 1) 1 (f ++ [c]) row out := by rw [mach]

/-! At a place of a text. -/
section
variable {s : List UInt8} {i : Nat} {c : UInt8} {st : Nat} {f : Fld} {row : List Fld} {out : List (List Fld)}

theorem mach_at (h : s[i]? = some c) : mach (s.drop i) i st f row out = if st = 2 then
      (if c = 34 then (if s[i + 1]? = some 34 then mach (s.drop (i + 2)) (i + 2) 2 (f ++ [34]) row out else mach (s.drop (i + 1)) (i + 1) 3 f row out) else mach (s.drop (i + 1)) (i + 1) 2 (f ++ [c]) row out)
    else if c = 10 then mach (s.drop (i + 1)) (i + 1) 0 [] [] (out ++ [row ++ [f]])
    else if c = 13 ∧ s[i + 1]? = some 10 then mach (s.drop (i + 2)) (i + 2) 0 [] [] (out ++ [row ++ [f]])
    else if c = 44 then mach (s.drop (i + 1)) (i + 1) 0 [] (row ++ [f]) out
    else if st = 3 ∨ (st = 1 ∧ c = 34) then .bad i
    else if c = 34 then mach (s.drop (i + 1)) (i + 1) 2 f row out
    else mach (s.drop (i + 1)) (i + 1) 1 (f ++ [c]) row out := by
  rw [drop_of_get h, mach_cons]
  have e1 : (s.drop (i + 1)).head? = s[i + 1]? := by rw [List.head?_drop]
  have e2 : (s.drop (i + 1)).tail = s.drop (i + 2) := by rw [List.tail_drop]
  rw [e1, e2]
theorem mach_end (h : s.length ≤ i) : mach (s.drop i) i st f row out = if st = 2 then .bad i else if st = 0 ∧ row = [] then .ok out else .ok (out ++ [row ++ [f]]) := by
  rw [List.drop_eq_nil_of_le h, mach_nil]
theorem ends_at (h : s[i]? = some c) : endsL (s.drop i) = (c == 44 || (c == 10 || (c == 13 && s[i + 1]? == some 10))) := by
  rw [drop_of_get h]
  show (c == 44 || (c == 10 || (c == 13 && (s.drop (i + 1)).head? == some 10))) = _
  rw [List.head?_drop]
end

/-! ### Rows in the heap -/

def fldsV (r : List Fld) : AV := lstF 1 (r.map AV.str)
def rowsV (t : List (List Fld)) : AV := lstF 1 (t.map fldsV)
/-- A list of lists of texts. -/
def RowsOf (v : AV) (t : List (List Fld)) : Prop := ∃ xs, LstOf v 1 xs ∧ xs.length = t.length ∧ ∀ (i : Nat) (r : List Fld), t[i]? = some r → ∃ x, xs[i]? = some x ∧ LstOf x 1 (r.map AV.str)
theorem rowsV_of (t : List (List Fld)) : RowsOf (rowsV t) t :=
  ⟨t.map fldsV, lstF_of _ _, by simp, fun i r h => ⟨fldsV r, by rw [List.getElem?_map, h]; rfl, lstF_of _ _⟩⟩

theorem fldsV_elem (r : List Fld) : (fldsV r).elem 1 = true := by
  unfold fldsV
  cases r <;> rfl
def csvV : CR → AV
  | .ok t => .tup [rowsV t, .int .i64 0, .nili]
  | .bad p => .tup [.lst (some true) 0 [], nV p, errV 2]
def csvV3 : CR → AV
  | .ok t => .tup [rowsV t, .int .i64 0, .int .i64 0]
  | .bad p => .tup [.lst (some true) 0 [], nV p, .int .i64 2]
def readV (s : List UInt8) : AV := if 4000 < s.length then .tup [.lst (some true) 0 [], .int .i64 0, errV 4] else csvV (csvP s)
def readV3 (s : List UInt8) : AV := if 4000 < s.length then .tup [.lst (some true) 0 [], .int .i64 0, .int .i64 4] else csvV3 (csvP s)

/-- A slice of a function's own that is laid down in another one. -/
theorem frz_own {H0 H : Heap} {v : AV} {k : Nat} {xs : List AV} (h : Owns H0 H v k xs) (hx : xs ≠ []) : ∃ b, v.blk = some b ∧ frzV 0 v H = some (lstF k xs, H.set b (.frz k xs)) ∧ H0.length ≤ b := by
  rcases h with ⟨_, rfl⟩ | ⟨b, rfl, h1, h2, h3⟩
  · exact absurd rfl hx
  · refine ⟨b, rfl, ?_, h1⟩
    cases xs with
    | nil => exact absurd rfl hx
    | cons x xs =>
      simp only [frzV, Nat.not_lt_zero, if_false, h2]
      simp [lstF, frzQ]

theorem Owns.other {H0 H : Heap} {v : AV} {k : Nat} {xs : List AV} (h : Owns H0 H v k xs) {H' : Heap} {n : Nat} (hn : ∀ b, v.blk = some b → b < n) (hk : ∀ b x, b < n → H[b]? = some x → H'[b]? = some x) : Owns H0 H' v k xs :=
  h.keep fun b x hb hx => hk b x (hn b hb) hx

end Go.AM
