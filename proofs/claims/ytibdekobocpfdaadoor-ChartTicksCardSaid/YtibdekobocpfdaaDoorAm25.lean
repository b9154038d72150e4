/- The abstract machine, part 25: contracts that say that there is a result of a kind; rows of numbers that a function turns in place. Own work. -/
import Derived.Test.YtibdekobocpfdaaDoorAm22
set_option linter.all false
namespace Go.AM

/-- A function comes to an end that Q allows. -/
structure retQ (F : AF) (H : Heap) (fr : Fr) (H1 : Heap) (Q : AV → Heap → Prop) : Prop where
  h : ∃ v H', retF F H fr H1 v H' ∧ Q v H'
theorem sRetQ {F : AF} {H : Heap} {fr : Fr} {H1 : Heap} {Q : AV → Heap → Prop} {v : AV} {H' : Heap} (h : retP F H fr H1 v H') (q : Q v H') : retQ F H fr H1 Q := ⟨v, H', retP_iff.1 h, q⟩

/-- What 'EFun' asks at the end. -/
def finF (F : AF) (H : Heap) (v : AV) (H' : Heap) : Post := fun e fr H1 => match e with
    | .normal => retP F H fr H1 v H'
    | .ret => retP F H fr H1 v H'
    | _ => False
theorem efun_fin {C : CSpec} {GT : Nat → Option AV} {F : AF} {args : List AV} {H : Heap} {v : AV} {H' : Heap} : EFun C GT F args H v H' = EW C GT F.body (finF F H v H') (argFr 0 args) H := rfl
theorem efun_of {C : CSpec} {GT : Nat → Option AV} {F : AF} {args : List AV} {H : Heap} {v : AV} {H' : Heap} (h : EW C GT F.body (finF F H v H') (argFr 0 args) H) : EFun C GT F args H v H' := h
def finQ (F : AF) (H : Heap) (Q : AV → Heap → Prop) : Post := fun e fr H1 => match e with
    | .normal => retQ F H fr H1 Q
    | .ret => retQ F H fr H1 Q
    | _ => False
def EFunQ (C : CSpec) (GT : Nat → Option AV) (F : AF) (args : List AV) (H : Heap) (Q : AV → Heap → Prop) : Prop := EW C GT F.body (finQ F H Q) (argFr 0 args) H

/-- What follows the first part of a code; the n-th part behind. -/
def AC.rest : AC → AC
  | .seq _ b => b
  | c => c
def AC.first : AC → AC
  | .seq a _ => a
  | c => c
def AC.body : AC → AC
  | .block _ _ c => c
  | .loop _ c => c
  | c => c
def AC.behind (c : AC) : Nat → AC
  | 0 => c
  | n + 1 => (c.behind n).rest

theorem afun_of_efunQ {C : CSpec} {GT : Nat → Option AV} {F : AF} {args : List AV} {H : Heap} {Q : AV → Heap → Prop} (hd : det F.body = true) (h : EFunQ C GT F args H Q) : ∃ v H', Q v H' ∧ AFun C GT F args H v H' := by
  have h1 : AW C GT F.body (fun e fr H1 => match e with
      | .normal => ∃ v H', retF F H fr H1 v H' ∧ Q v H'
      | .ret => ∃ v H', retF F H fr H1 v H' ∧ Q v H'
      | _ => False) (argFr 0 args) H := by
    refine ew_sound _ _ _ _ _ H rfl (fun e f f' H1 hf h => ?_) h
    have : retQ F H f H1 Q → ∃ v H', retF F H f' H1 v H' ∧ Q v H' := fun ⟨v, H', h, q⟩ => ⟨v, H', by
      unfold retF at h ⊢
      rw [← resAll_congr hf]; exact h, q⟩
    cases e with
    | normal => exact this h
    | ret => exact this h
    | _ => exact h
  obtain ⟨e, fr', H1, hk, hall⟩ := aw_atomic _ hd _ _ _ h1
  cases e with
  | normal => obtain ⟨v, H', hr, hq⟩ := hk; exact ⟨v, H', hq, hall _ hr⟩
  | exit id => exact hk.elim
  | goto l => exact hk.elim
  | pan x => exact hk.elim
  | ret => obtain ⟨v, H', hr, hq⟩ := hk; exact ⟨v, H', hq, hall _ hr⟩

theorem good_of_evQ {P : Program} {GT : Nat → Option AV} (hm : P.follows .mixedOrders = true) {f : FuncId} {F : AF} (hc : chkF P f F = true) {args : List AV} {H : Heap} {Q : AV → Heap → Prop} (h : EFunQ (Good P GT) GT F args H Q) (hn : noPan args = true := by first | rfl | exact Go.AM.noPan_view (by assumption) | exact Go.AM.noPan_tab (by assumption) | exact Go.AM.noPan_lst (by assumption)) (hd : det F.body = true := by rfl) : ∃ v H', Q v H' ∧ Good P GT f args H v H' := by
  obtain ⟨v, H', hq, ha⟩ := afun_of_efunQ hd h
  exact ⟨v, H', hq, good_of_chk hm hc ha hn⟩

/-! ### Rows of numbers -/


def nV (k : Nat) : AV := .int .i64 k
def rI (n : Nat) (f : Nat → Nat) : List AV := rowF n fun i => nV (f i)
theorem rI_len (n : Nat) (f : Nat → Nat) : (rI n f).length = n := rowF_len _ _
theorem rI_get {n i : Nat} {f : Nat → Nat} (h : i < n) : (rI n f)[i]? = some (nV (f i)) := rowF_get h
theorem rI_set {n i v : Nat} {f : Nat → Nat} : (rI n f).set i (nV v) = rI n (upd f i v) := by
  unfold rI
  rw [rowF_set]
  congr 1
  funext j; unfold upd; split <;> rfl
theorem rI_congr {n : Nat} {f g : Nat → Nat} (h : ∀ i, i < n → f i = g i) : rI n f = rI n g := rowF_congr fun i hi => by rw [h i hi]

/-- The heap in which that row is f. -/
def hpR (G : Heap) (b n : Nat) (f : Nat → Nat) : Heap := G.set b (.row 1 (rI n f))
theorem hpR_get {G : Heap} {b n : Nat} {f : Nat → Nat} (h : b < G.length) : (hpR G b n f)[b]? = some (.row 1 (rI n f)) := List.getElem?_set_self h
theorem hpR_set (G : Heap) (b n : Nat) (f g : Nat → Nat) : (hpR G b n f).set b (.row 1 (rI n g)) = hpR G b n g := List.set_set ..
theorem hpR_len (G : Heap) (b n : Nat) (f : Nat → Nat) : (hpR G b n f).length = G.length := List.length_set

theorem sIdxR {q : Option Bool} {b n : Nat} {x : Int} {K : AV → Prop} (j : Nat) (hx : x = (j : Int)) (hj : j < n) (k : K (.ref b 1 j 0)) : idxN 1 (.sl q b 1 0 n) x K := by
  subst hx
  refine sAt ⟨by omega, by omega⟩ ?_
  rw [Int.toNat_natCast, Nat.zero_add]; exact k
theorem sLoadR {G : Heap} {b n : Nat} {f : Nat → Nat} {K : AV → Prop} {j : Nat} (hb : b < G.length) (hj : j < n) (k : K (nV (f j))) : loadN 1 false (.ref b 1 j 0) (hpR G b n f) K :=
  sLoadRow j (nV (f j)) _ rfl (hpR_get hb) (rI_get hj) rfl k
theorem sStoreR {G : Heap} {b n v : Nat} {f : Nat → Nat} {K : AV → Heap → Prop} {j : Nat} (hb : b < G.length) (hj : j < n) (k : K .undef (hpR G b n (upd f j v))) : actP (.store 1) [.ref b 1 j 0, nV v] (hpR G b n f) K :=
  sStore j (nV v) rfl (hpR_get hb) (rI_get hj) rfl (by omega) rfl (by simp [nV]) (by rw [rI_set, hpR_set]; exact k)

/-- A function that turned that row and gives nothing. -/
theorem sRetR {F : AF} {G : Heap} {b n : Nat} {f g : Nat → Nat} {fr : Fr} (hk : F.keep = false) (hr : F.results = []) : retP F (hpR G b n f) fr (hpR G b n g) (.tup []) (hpR G b n g) := by
  refine sRet ?_
  unfold retF
  rw [hr]
  simp only [resAll, tupled, hk, frzV, frzL, Bool.false_eq_true, if_false]
  refine ⟨rfl, fun c hc => ?_, trivial, ?_⟩
  · by_cases e : b = c
    · subst e
      rw [hpR_len] at hc
      exact .inr ⟨_, hpR_get hc, rfl⟩
    · exact .inl (by unfold hpR; rw [List.getElem?_set_ne e, List.getElem?_set_ne e])
  · rw [List.take_of_length_le (by rw [hpR_len, hpR_len]; omega)]

/-- A slice of one's own grows: the bound by bytes. -/
theorem sAppendW {H0 H : Heap} {v y : AV} {k bytes : Nat} {xs ys : List AV} {K : AV → Heap → Prop} (ho : Owns H0 H v k xs) (hH : Old H0 H) (hy : view H k y = some ys) (hm : (xs.length + ys.length) * bytes ≤ 140737488355328) (hl : xs.length + ys.length ≤ 9223372036854775807) (h0 : ys ≠ [])
    (q : ∀ v' H', Owns H0 H' v' k (xs ++ ys) → Old H0 H' → v'.blk = some H.length → (∀ c x, v.blk ≠ some c → H[c]? = some x → H'[c]? = some x) → K v' H') : actP (.append k bytes) [v, y] H K := by
  rcases ho with ⟨rfl, rfl⟩ | ⟨b, rfl, h1, h2, _⟩
  · simp only [List.length_nil, Nat.zero_add] at hl hm
    refine sAct (v := .sl (some true) H.length k 0 ys.length) (H' := H ++ [.row k ys]) ?_ ?_
    · simp only [astep, hy]
      rw [if_pos ⟨by omega, by omega⟩]
    · exact q _ _ (.inr ⟨_, rfl, hH.1, push_last, h0⟩) (hH.push _) rfl fun _ _ _ hx => push_old hx
  · refine sAct (v := .sl (some true) H.length k 0 (xs.length + ys.length)) (H' := H.set b .dead ++ [.row k (xs ++ ys)]) ?_ ?_
    · simp only [astep, hy, h2]
      rw [if_pos ⟨trivial, trivial, by omega, by omega, by omega⟩]
      simp
    · refine q _ _ (.inr ⟨_, by rw [List.length_append], hH.1, ?_, by simp [h0]⟩) ((hH.set h1 _).push _) rfl fun c x hc hx => ?_
      · have : (H.set b .dead).length = H.length := List.length_set
        rw [← this]; exact push_last
      · exact push_old (set_other (fun e => hc (by rw [e]; rfl)) hx)

theorem shr1 (s : Nat) : shiftBin .shr .u64 (s : Int) 1 = some (.int .u64 ((s / 2 : Nat) : Int)) := by
  simp only [shiftBin]
  rw [if_neg (by omega)]
  have : (2 : Int) ^ Nat.min (1 : Int).toNat IntKind.u64.bits = 2 := by rfl
  rw [this, Int.fdiv_eq_ediv_of_nonneg _ (by omega)]
  rfl
theorem sWu64n {x : Int} {r : Nat} {K : Int → Prop} (h : x = r) (hr : r ≤ 9223372036854775807) (k : K (r : Int)) : valP (IntKind.wrap .u64 x) K :=
  sVal (by rw [IntWalk.u64_in x (by omega), h]) k

end Go.AM
