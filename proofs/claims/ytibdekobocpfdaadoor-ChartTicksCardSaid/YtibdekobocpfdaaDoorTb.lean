/- The reference's big numbers, as far as digits want them: walks. Own work. -/
import Derived.Test.YtibdekobocpfdaaDoorBg0
import Derived.Test.YtibdekobocpfdaaDoorErr
import Derived.Test.YtibdekobocpfdaaDoorTc
set_option linter.all false
set_option maxRecDepth 20000
namespace Go.AM
def natV (k : Nat) : AV := .int .i64 k
def In64 (n : Int) : Prop := -9223372036854775808 ≤ n ∧ n ≤ 9223372036854775807
instance (n : Int) : Decidable (In64 n) := by unfold In64; infer_instance

def u32V (w : Nat) : AV := .int .u32 w
def u64V (w : Nat) : AV := .int .u64 w
def magV (n : Nat) : AV := .lst (some false) 1 ((wds n).map u32V)
def Mag (v : AV) (n : Nat) : Prop := LstOf v 1 ((wds n).map u32V)
theorem magV_is (n : Nat) : Mag (magV n) n := ⟨_, _, rfl, .inl rfl⟩
theorem Mag.nil (k : Nat) : Mag (.lst (some true) k []) 0 := ⟨_, _, rfl, .inr rfl⟩
theorem wd_get {n i : Nat} (h : i < (wds n).length) : ((wds n).map u32V)[i]? = some (u32V (wds n)[i]) := by rw [List.getElem?_map, List.getElem?_eq_getElem h]; rfl

theorem sl_take {b m n : Nat} (h : n ≤ m) : aSlice (some 1) (.sl (some false) b 1 0 m) none (some (.int .i64 (n : Int))) = some (.sl (some false) b 1 0 n) := by
  have e : aBounds m none (some (.int .i64 (n : Int))) = some (0, n) := by
    simp only [aBounds, aHi, aLo]
    rw [if_pos ⟨by omega, by omega⟩]
    simp
  simp only [aSlice, if_true, e, Option.map_some, Nat.zero_add, Nat.sub_zero]
  rfl
theorem frz_mag {H0 H : Heap} {b n : Nat} {ws : List Nat} (hbl : H0.length ≤ b) (hb : H[b]? = some (.row 1 (ws.map u32V))) (hw : Small ws) (hn : wval ws = n) :
    frzV H0.length (.sl (some false) b 1 0 (wds n).length) H = some (magV n, H.set b (.frz 1 (ws.map u32V))) := by
  subst hn
  have h := wds_take hw
  simp only [frzV, hb]
  rw [if_neg (by omega), if_pos ⟨trivial, by rw [List.length_map]; omega⟩]
  simp only [List.drop_zero, ← List.map_take, h.2]
  rfl
theorem shr32 (s : Nat) : shiftBin .shr .u64 (s : Int) 32 = some (.int .u64 ((s / 4294967296 : Nat) : Int)) := by
  simp only [shiftBin]
  rw [if_neg (by omega)]
  have : (2 : Int) ^ Nat.min (32 : Int).toNat IntKind.u64.bits = 4294967296 := by rfl
  rw [this, Int.fdiv_eq_ediv_of_nonneg _ (by omega)]
  rfl
theorem shr63 (s : Nat) : shiftBin .shr .u64 (s : Int) 63 = some (.int .u64 ((s / 9223372036854775808 : Nat) : Int)) := by
  simp only [shiftBin]
  rw [if_neg (by omega)]
  have : (2 : Int) ^ Nat.min (63 : Int).toNat IntKind.u64.bits = 9223372036854775808 := by rfl
  rw [this, Int.fdiv_eq_ediv_of_nonneg _ (by omega)]
  rfl
theorem sWu32 {x : Int} {K : Int → Prop} (r : Nat) (h : x % 4294967296 = r) (k : K (r : Int)) : valP (IntKind.wrap .u32 x) K := sVal (by rw [IntKind.wrap_u32]; omega) k
theorem sWu64 {x : Int} {K : Int → Prop} (r : Nat) (h : x % 18446744073709551616 = r) (k : K (r : Int)) : valP (IntKind.wrap .u64 x) K := sVal (by rw [IntKind.wrap_u64]; omega) k
theorem set_pad (ds : List Nat) (m d : Nat) : ((ds ++ List.replicate (m + 1) 0).map u32V).set ds.length (u32V d) = ((ds ++ [d]) ++ List.replicate m 0).map u32V := by
  rw [List.replicate_succ, ← List.map_set, List.set_append_right _ _ (Nat.le_refl _), Nat.sub_self]
  simp
theorem pad_get (ds : List Nat) (m : Nat) : ((ds ++ List.replicate (m + 1) 0).map u32V)[ds.length]? = some (u32V 0) := by
  rw [List.getElem?_map, List.getElem?_append_right (Nat.le_refl _), Nat.sub_self, List.replicate_succ]; rfl
theorem Small.snoc {ds : List Nat} {d : Nat} (h : Small ds) (hd : d < 4294967296) : Small (ds ++ [d]) := by
  intro w hw
  rcases List.mem_append.1 hw with hw | hw
  · exact h w hw
  · rw [List.mem_singleton.1 hw]; exact hd

section
variable {C : CSpec} {GT : Nat → Option AV}

theorem trim_ev (b m : Nat) (ws : List Nat) (H : Heap) (hm : ws.length = m) (hb : H[b]? = some (.row 1 (ws.map u32V))) (hw : Small ws) (hl : m ≤ 1000000) :
    EFun C GT a_sccsettlebig_trim [.sl (some false) b 1 0 m] H (.sl (some false) b 1 0 (wds (wval ws)).length) H := by
  have hbl : b < H.length := (List.getElem?_eq_some_iff.1 hb).1
  subst hm
  have fin : ∀ n : Nat, n ≤ ws.length → (wds (wval ws)).length = n → (.sl (some false) b 1 0 (wds (wval ws)).length : AV) = .sl (some false) b 1 0 n := fun n _ h => by rw [h]
  refine efun_of ?_
  refine sLenSl ?_
  refine sLoop (fun n : Nat => [(3, natV n), (0, .sl (some false) b 1 0 ws.length)]) (fun n H' => H' = H ∧ n ≤ ws.length ∧ wval (ws.take n) = wval ws) (fun n => n) ws.length rfl ⟨rfl, Nat.le_refl _, by rw [List.take_length]⟩ (fun n H1 ⟨e, hn, hv⟩ => ?_)
  subst e
  dsimp only
  have hsm : Small (ws.take n) := fun w h => hw w (List.mem_of_mem_take h)
  refine sCond (fun h => ?_) (fun h => ?_)
  · have h : 0 < n := by have := of_decide_eq_true h; omega
    have hi : n - 1 < ws.length := by omega
    have hx : (ws.map u32V)[n - 1]? = some (u32V ws[n - 1]) := by rw [List.getElem?_map, List.getElem?_eq_getElem hi]; rfl
    have ht : ws.take n = ws.take (n - 1) ++ [ws[n - 1]] := by
      have := List.take_succ_eq_append_getElem hi
      rwa [Nat.sub_add_cancel h] at this
    refine sW64n (r := n - 1) (by omega) (by omega) ?_
    refine sAt ⟨by omega, by omega⟩ ?_
    refine sLoadRow (n - 1) (u32V ws[n - 1]) (u32V ws[n - 1]) (by omega) hb hx rfl ?_
    refine sCondT ?_
    refine sCond (fun h0 => ?_) (fun h0 => ?_)
    · have h0 : ws[n - 1] = 0 := by have := eq_of_beq h0; omega
      refine sW64n (r := n - 1) (by omega) (by omega) ?_
      refine sNext (n - 1) rfl ⟨rfl, by omega, ?_⟩ (by omega)
      rw [← hv, ht, wval_snoc, h0]; simp
    · have h0 : ws[n - 1] ≠ 0 := fun e => by rw [e] at h0; exact absurd h0 (by simp)
      have hd : wds (wval ws) = ws.take n := by
        rw [← hv]
        refine wds_val hsm fun w hw => ?_
        rw [ht, List.getLast?_concat] at hw
        cases hw
        exact h0
      have e := fin n hn (by rw [hd, List.length_take]; omega)
      refine sOpt (sl_take hn) ?_
      exact sRetE e rfl rfl (by simp only [frzV]; rw [if_pos hbl]) (by simp only [AV.bel]; exact decide_eq_true hbl) (Old.refl _)
  · have h : n = 0 := by have := of_decide_eq_false h; omega
    subst h
    have e := fin 0 hn (by rw [← hv]; rfl)
    refine sCondF ?_
    refine sCondF ?_
    refine sOpt (sl_take hn) ?_
    exact sRetE e rfl rfl (by simp only [frzV]; rw [if_pos hbl]) (by simp only [AV.bel]; exact decide_eq_true hbl) (Old.refl _)

theorem words_ev (hT : ∀ b m ws H, ws.length = m → H[b]? = some (.row 1 (ws.map u32V)) → Small ws → m ≤ 1000000 → C f_sccsettlebig_trim [.sl (some false) b 1 0 m] H (.sl (some false) b 1 0 (wds (wval ws)).length) H)
    (x : Nat) (hx : x < 18446744073709551616) (H : Heap) : EFun C GT a_sccsettlebig_words [u64V x] H (magV x) H := by
  have hb : (H ++ [ABlk.row 1 [u32V (x % 4294967296), u32V (x / 4294967296)]])[H.length]? = some (.row 1 (([x % 4294967296, x / 4294967296] : List Nat).map u32V)) := push_last
  have hw : Small [x % 4294967296, x / 4294967296] := by
    intro w hw
    simp at hw
    omega
  have hv : wval [x % 4294967296, x / 4294967296] = x := by simp only [wval]; omega
  have ht := hT H.length 2 [x % 4294967296, x / 4294967296] _ rfl hb hw (by omega)
  rw [hv] at ht
  refine efun_of ?_
  refine sWu32 (x % 4294967296) (by omega) ?_
  refine sOpt (shr32 x) ?_
  refine sWu32 (x / 4294967296) (by omega) ?_
  refine sBslice (vs' := [u32V (x % 4294967296), u32V (x / 4294967296)]) rfl rfl ?_
  refine sCall0 (ht) ?_
  exact sRetF rfl rfl (frz_mag (Nat.le_refl _) hb hw hv) rfl (((Old.refl H).push _).set (Nat.le_refl _) _)


end
def bigC (v : Int) : List AV := [.bool (decide (v < 0)), magV v.natAbs]

theorem shl32 (a : Nat) (h : a < 4294967296) : shiftBin .shl .u64 (a : Int) 32 = some (.int .u64 ((a * 4294967296 : Nat) : Int)) := by
  simp only [shiftBin]
  rw [if_neg (by omega)]
  have : (2 : Int) ^ Nat.min (32 : Int).toNat IntKind.u64.bits = 4294967296 := by rfl
  rw [this, IntKind.wrap_u64]
  have : ((a : Int) * 4294967296) % 18446744073709551616 = ((a * 4294967296 : Nat) : Int) := by omega
  rw [this]
theorem or32 (a b : Nat) (ha : a < 4294967296) (hb : b < 4294967296) : intBin .or .u64 (a : Int) ((b * 4294967296 : Nat) : Int) = some (.int .u64 ((a + 4294967296 * b : Nat) : Int)) := by
  simp only [intBin]
  have of (x : Nat) (hx : x < 18446744073709551616) : (BitVec.ofInt IntKind.u64.bits (x : Int)).toNat = x := by
    show (BitVec.ofInt 64 (x : Int)).toNat = x
    rw [BitVec.toNat_ofInt]
    have : ((x : Int) % ((2 ^ 64 : Nat) : Int)) = (x : Int) := by rw [Int.emod_eq_of_lt (by omega) (by simp; omega)]
    rw [this, Int.toNat_natCast]
  have e : (BitVec.ofInt IntKind.u64.bits (a : Int) ||| BitVec.ofInt IntKind.u64.bits ((b * 4294967296 : Nat) : Int)).toNat = a + 4294967296 * b := by
    rw [BitVec.toNat_or, of a (by omega), of _ (by omega), Nat.or_comm, Nat.mul_comm b]
    have := Nat.two_pow_add_eq_or_of_lt (i := 32) (b := a) (by simpa using ha) b
    have e32 : (2 : Nat) ^ 32 = 4294967296 := by decide
    rw [e32] at this
    rw [← this]; omega
  rw [e, IntKind.wrap_u64]
  have : ((a + 4294967296 * b : Nat) : Int) % 18446744073709551616 = ((a + 4294967296 * b : Nat) : Int) := by omega
  rw [this]

/-- Out of a function that wrote a box of the caller's. -/
theorem sRetB {F : AF} {H H1 : Heap} {fr : Fr} {v : AV} {b : Nat} {cs : List AV} (hH : H1 = H.set b (.box cs)) (hk : F.keep = false) (hr : (resAll fr H1 F.results).map tupled = some v) (hf : frzV H.length v H1 = some (v, H1)) (hb : v.bel H.length = true) (hc : blkBel H.length (.box cs) = true) :
    retP F H fr H1 v (H.set b (.box cs)) := by
  refine sRet ?_
  unfold retF
  cases hs : resAll fr H1 F.results with
  | none => rw [hs] at hr; cases hr
  | some vs =>
    rw [hs] at hr
    simp only [Option.map_some, Option.some.injEq] at hr
    subst hr
    simp only [hk, hf, Bool.false_eq_true, if_false]
    subst hH
    refine ⟨hb, fun c hc' => ?_, trivial, ?_⟩
    · by_cases e : b = c
      · subst e
        exact .inr ⟨_, List.getElem?_set_self hc', hc⟩
      · exact .inl (List.getElem?_set_ne e)
    · rw [List.take_of_length_le (by rw [List.length_set]; omega)]
/-- Out of a function whose new blocks live on. -/
theorem sRetK {F : AF} {H H1 : Heap} {fr : Fr} {v : AV} (hk : F.keep = true) (hr : (resAll fr H1 F.results).map tupled = some v) : retP F H fr H1 v H1 := by
  refine sRet ?_
  unfold retF
  cases hs : resAll fr H1 F.results with
  | none => rw [hs] at hr; cases hr
  | some vs =>
    rw [hs] at hr
    simp only [Option.map_some, Option.some.injEq] at hr
    subst hr
    simp only [hk, if_true]
    exact ⟨trivial, trivial⟩

section
variable {C : CSpec} {GT : Nat → Option AV}
theorem give_ev (b n : Nat) (neg : Bool) (x0 x1 : AV) (H : Heap) (hb : H[b]? = some (.box [x0, x1])) : EFun C GT a_sccsettlebig_Int__give [.ref b 0 0 0, .bool neg, magV n] H (.ref b 0 0 0) (H.set b (.box [.bool (neg && decide (0 < n)), magV n])) := by
  have hbl : b < H.length := (List.getElem?_eq_some_iff.1 hb).1
  have hz : ((wds n).length > 0) ↔ 0 < n := by
    by_cases e : n = 0
    · subst e; simp [wds_zero]
    · rw [wds_pos e]; simp; omega
  have hd : decide (((wds n).length : Int) > 0) = decide (0 < n) := by
    rw [Bool.eq_iff_iff, decide_eq_true_iff, decide_eq_true_iff, ← hz]; omega
  refine efun_of ?_
  cases neg
  · refine sStoreE (v := magV n) [x0, magV n] hb rfl rfl rfl rfl ?_
    refine sCondF ?_
    refine sCondF ?_
    refine sStoreE (v := AV.bool false) [AV.bool false, magV n] (set_at hb) rfl rfl rfl rfl ?_
    exact sRetB (by rw [List.set_set]; rfl) rfl rfl rfl (decide_eq_true hbl) rfl
  · refine sStoreE (v := magV n) [x0, magV n] hb rfl rfl rfl rfl ?_
    refine sCondT ?_
    refine sLenO (wds n).length (magV_is n) (by simp) ?_
    refine sCondT ?_
    refine sStoreE (v := .bool (decide (((wds n).length : Int) > 0))) [.bool (decide (((wds n).length : Int) > 0)), magV n] (set_at hb) rfl rfl rfl rfl ?_
    exact sRetB (by rw [List.set_set, hd]; rfl) rfl rfl rfl (decide_eq_true hbl) rfl

theorem setInt64_ev (hW : ∀ x H, x < 18446744073709551616 → C f_sccsettlebig_words [u64V x] H (magV x) H) (hG : ∀ b n neg x0 x1 H, H[b]? = some (.box [x0, x1]) → C f_sccsettlebig_Int__give [.ref b 0 0 0, .bool neg, magV n] H (.ref b 0 0 0) (H.set b (.box [.bool (neg && decide (0 < n)), magV n])))
    (b : Nat) (v : Int) (x0 x1 : AV) (H : Heap) (hb : H[b]? = some (.box [x0, x1])) (hv : In64 v) : EFun C GT a_sccsettlebig_Int__SetInt64 [.ref b 0 0 0, intV v] H (.ref b 0 0 0) (H.set b (.box (bigC v))) := by
  have hbl : b < H.length := (List.getElem?_eq_some_iff.1 hb).1
  unfold In64 at hv
  have hw := hW v.natAbs H (by omega)
  have hg := hG b v.natAbs (decide (v < 0)) x0 x1 H hb
  have e0 : (decide (v < 0) && decide (0 < v.natAbs)) = decide (v < 0) := by
    by_cases h : v < 0
    · rw [decide_eq_true h, decide_eq_true (by omega : 0 < v.natAbs)]; rfl
    · rw [decide_eq_false h]; rfl
  rw [e0] at hg
  refine efun_of ?_
  by_cases hn : v < 0
  · have e : aUn .neg (.int .u64 (18446744073709551616 + v)) = some (u64V v.natAbs) := by
      simp only [aUn]
      rw [IntKind.wrap_u64]
      have : (0 - (18446744073709551616 + v)) % 18446744073709551616 = (v.natAbs : Int) := by omega
      rw [this]; rfl
    refine sVal (r := 18446744073709551616 + v) (by rw [IntKind.wrap_u64]; omega) ?_
    refine sCond (fun _ => ?_) (fun h => absurd hn (of_decide_eq_false h))
    refine sOpt e ?_
    refine sCall0 (hw) ?_
    refine sCall hg (fun h => by cases h) ?_
    exact sRetB rfl rfl rfl rfl (decide_eq_true hbl) rfl
  · refine sVal (r := (v.natAbs : Int)) (by rw [IntKind.wrap_u64]; omega) ?_
    refine sCond (fun h => absurd (of_decide_eq_true h) hn) (fun _ => ?_)
    refine sCall0 (hw) ?_
    refine sCall hg (fun h => by cases h) ?_
    exact sRetB rfl rfl rfl rfl (decide_eq_true hbl) rfl

def a_bigNew : AF := { a_sccsettlebig_NewInt with keep := true }
theorem newInt_ev (hS : ∀ b v x0 x1 H, H[b]? = some (.box [x0, x1]) → In64 v → C f_sccsettlebig_Int__SetInt64 [.ref b 0 0 0, intV v] H (.ref b 0 0 0) (H.set b (.box (bigC v)))) (v : Int) (H : Heap) (hv : In64 v) :
    EFun C GT a_bigNew [intV v] H (.ref H.length 0 0 0) (H ++ [.box (bigC v)]) := by
  have hs := hS H.length v (.bool false) (.lst (some true) 0 []) (H ++ [.box [.bool false, .lst (some true) 0 []]]) push_last hv
  have e : (H ++ [ABlk.box [.bool false, .lst (some true) 0 []]]).set H.length (.box (bigC v)) = H ++ [.box (bigC v)] := by
    rw [List.set_append_right _ _ (Nat.le_refl _), Nat.sub_self]; rfl
  rw [e] at hs
  refine efun_of ?_
  refine sCall hs (fun h => by cases h) ?_
  exact sRetK rfl rfl

end
theorem wds_fit {n k : Nat} (h : n < 4294967296 ^ k) : (wds n).length ≤ k := by
  rcases Nat.lt_or_ge k (wds n).length with h2 | h2
  · have hn : n ≠ 0 := fun e => by subst e; simp [wds_zero] at h2
    have h3 := wds_ge n hn
    have h4 : 4294967296 ^ k ≤ 4294967296 ^ ((wds n).length - 1) := Nat.pow_le_pow_right (by omega) (by omega)
    omega
  · exact h2

/-! ### Plain facts -/

/-- The decimal digits, the least first. -/
def decF : Nat → Nat → List UInt8
  | 0, _ => []
  | f + 1, n => if n = 0 then [] else UInt8.ofNat (48 + n % 10) :: decF f (n / 10)
def decL (n : Nat) : List UInt8 := decF n n
theorem decF_fuel : ∀ f g n, n ≤ f → n ≤ g → decF f n = decF g n
  | 0, 0, _, _, _ => rfl
  | 0, g + 1, n, h, _ => by have : n = 0 := by omega
                            subst this; rfl
  | f + 1, 0, n, _, h => by have : n = 0 := by omega
                            subst this; rfl
  | f + 1, g + 1, n, h, k => by
    simp only [decF]
    split
    · rfl
    · rw [decF_fuel f g (n / 10) (by omega) (by omega)]
theorem decL_zero : decL 0 = [] := rfl
theorem decL_pos {n : Nat} (h : n ≠ 0) : decL n = UInt8.ofNat (48 + n % 10) :: decL (n / 10) := by
  unfold decL
  obtain ⟨m, rfl⟩ : ∃ m, n = m + 1 := ⟨n - 1, by omega⟩
  rw [decF, if_neg h, decF_fuel m ((m + 1) / 10) _ (by omega) (Nat.le_refl _)]
theorem decL_len : ∀ (k n : Nat), n < 10 ^ k → (decL n).length ≤ k
  | 0, n, h => by have : n = 0 := by simpa using h
                  subst this; exact Nat.le_refl _
  | k + 1, n, h => by
    by_cases h0 : n = 0
    · subst h0; simp [decL_zero]
    · rw [decL_pos h0, List.length_cons]
      have := decL_len k (n / 10) (by rw [Nat.pow_succ] at h; omega)
      omega
def signed (v : Int) : List UInt8 := if v < 0 then decL v.natAbs ++ [45] else decL v.natAbs
/-- A number in decimal digits. -/
def digR (v : Int) : List UInt8 := if v = 0 then [48] else (signed v).reverse

theorem wval_drop {ws : List Nat} {i : Nat} (h : i < ws.length) : wval (ws.drop i) = ws[i] + 4294967296 * wval (ws.drop (i + 1)) := by
  rw [← List.getElem_cons_drop h, wval]
theorem or32' (a b : Nat) (ha : a < 4294967296) (hb : b < 4294967296) : intBin .or .u64 ((b * 4294967296 : Nat) : Int) (a : Int) = some (.int .u64 ((b * 4294967296 + a : Nat) : Int)) := by
  have h := or32 a b ha hb
  simp only [intBin] at h ⊢
  have e : (BitVec.ofInt IntKind.u64.bits ((b * 4294967296 : Nat) : Int) ||| BitVec.ofInt IntKind.u64.bits (a : Int)) = (BitVec.ofInt IntKind.u64.bits (a : Int) ||| BitVec.ofInt IntKind.u64.bits ((b * 4294967296 : Nat) : Int)) := BitVec.or_comm _ _
  rw [e, h]
  congr 2
  omega
theorem pad_set (qs : List Nat) (i q : Nat) : ((List.replicate (i + 1) 0 ++ qs).map u32V).set i (u32V q) = (List.replicate i 0 ++ q :: qs).map u32V := by
  rw [← List.map_set]
  congr 1
  rw [List.replicate_succ', List.append_assoc, List.set_append_right _ _ (by simp)]
  simp
theorem pad_get2 (qs : List Nat) (i : Nat) : ((List.replicate (i + 1) 0 ++ qs).map u32V)[i]? = some (u32V 0) := by
  rw [List.getElem?_map, List.getElem?_append_left (by simp), List.getElem?_replicate]; simp

/-! Turned around in place. -/
def rowU (n : Nat) (f : Nat → UInt8) : List AV := rowF n fun k => byteAV (f k)
theorem rowU_set {n i : Nat} {f : Nat → UInt8} {v : UInt8} : (rowU n f).set i (byteAV v) = rowU n (upd f i v) := by
  unfold rowU; rw [rowF_set]; congr 1; funext j; unfold upd; split <;> rfl
theorem rowU_get {n i : Nat} {f : Nat → UInt8} (h : i < n) : (rowU n f)[i]? = some (byteAV (f i)) := rowF_get h
theorem rowU_of (xs : List UInt8) : xs.map byteAV = rowU xs.length fun k => xs.getD k 0 := by
  apply List.ext_getElem?
  intro i
  by_cases h : i < xs.length
  · rw [rowU_get h, List.getElem?_map, List.getElem?_eq_getElem h, List.getD_eq_getElem?_getD, List.getElem?_eq_getElem h]; rfl
  · rw [List.getElem?_eq_none (by simp; omega), List.getElem?_eq_none (by unfold rowU; rw [rowF_len]; omega)]
def turn (n i : Nat) (f : Nat → UInt8) : Nat → UInt8 := fun k => if k < i ∨ n - i ≤ k then f (n - 1 - k) else f k
theorem turn_zero (n : Nat) (f : Nat → UInt8) : rowU n (turn n 0 f) = rowU n f := by
  unfold rowU
  refine rowF_congr fun k hk => ?_
  unfold turn; rw [if_neg (by omega)]
theorem turn_succ {n i : Nat} {f : Nat → UInt8} (h : i < n - 1 - i) : rowU n (upd (upd (turn n i f) i (turn n i f (n - 1 - i))) (n - 1 - i) (turn n i f i)) = rowU n (turn n (i + 1) f) := by
  unfold rowU
  refine rowF_congr fun k hk => ?_
  congr 1
  have e1 : turn n i f (n - 1 - i) = f (n - 1 - i) := by unfold turn; rw [if_neg (by omega)]
  have e2 : turn n i f i = f i := by unfold turn; rw [if_neg (by omega)]
  rw [e1, e2]
  unfold upd turn
  by_cases h1 : k = n - 1 - i
  · rw [if_pos h1, if_pos (by omega)]; congr 1; omega
  · rw [if_neg h1]
    by_cases h2 : k = i
    · rw [if_pos h2, if_pos (by omega)]; congr 1; omega
    · rw [if_neg h2]
      by_cases h3 : k < i ∨ n - i ≤ k
      · rw [if_pos h3, if_pos (by omega)]
      · rw [if_neg h3, if_neg (by omega)]
theorem turn_end {i : Nat} {xs : List UInt8} (h : xs.length - 1 - i ≤ i) (hi : i ≤ xs.length) : rowU xs.length (turn xs.length i fun k => xs.getD k 0) = xs.reverse.map byteAV := by
  rw [rowU_of xs.reverse, List.length_reverse]
  unfold rowU
  refine rowF_congr fun k hk => ?_
  congr 1
  have e : xs.reverse.getD k 0 = xs.getD (xs.length - 1 - k) 0 := by
    rw [List.getD_eq_getElem?_getD, List.getD_eq_getElem?_getD, List.getElem?_reverse hk]
  show _ = xs.reverse.getD k 0
  rw [e]
  unfold turn
  split
  · rfl
  · congr 1; omega

section
variable {C : CSpec} {GT : Nat → Option AV}

theorem twin_ev (av : AV) (m : Nat) (H : Heap) (ha : Mag av m) (hm : m ≠ 0) (hl : (wds m).length ≤ 100000) : EFun C GT a_sccsettlebig_twin [av] H (.lst (some false) 1 ((wds m).map u32V)) H := by
  have h0 : (wds m).map u32V ≠ [] := by rw [wds_pos hm]; simp
  refine efun_of ?_
  refine sAppend (H0 := H) (Owns.nil _ _ _) (Old.refl _) (ha.view H) (by omega) (by simp; omega) h0 (fun v' H' ho' hO' hb hf => ?_)
  rw [List.nil_append] at ho'
  obtain ⟨H2, hf2, hO2, _⟩ := ho'.frz hO'
  have e : lstF 1 ((wds m).map u32V) = .lst (some false) 1 ((wds m).map u32V) := by rw [wds_pos hm]; rfl
  rw [e] at hf2
  exact sRetF rfl rfl hf2 rfl hO2

structure SSl where
  k : Nat
  r : Nat
  qs : List Nat

theorem small_ev (hT : ∀ b m ws H, ws.length = m → H[b]? = some (.row 1 (ws.map u32V)) → Small ws → m ≤ 1000000 → C f_sccsettlebig_trim [.sl (some false) b 1 0 m] H (.sl (some false) b 1 0 (wds (wval ws)).length) H)
    (av : AV) (a d n : Nat) (H : Heap) (ha : Mag av a) (hn : (wds a).length = n) (hl : n ≤ 100000) (hd0 : 0 < d) (hd : d < 4294967296) : EFun C GT a_sccsettlebig_small [av, u32V d] H (.tup [magV (a / d), u32V (a % d)]) H := by
  have hal : ((wds a).map u32V).length = n := by rw [List.length_map, hn]
  refine efun_of ?_
  refine sLenO n ha hal ?_
  refine sMake (n := n) rfl (Int.le_refl _) ⟨by omega, by omega⟩ rfl ?_
  refine sLenO n ha hal ?_
  refine sW64 ⟨by omega, by omega⟩ ?_
  refine sLoop (fun s : SSl => [(8, intV ((s.k : Int) - 1)), (1, u32V d), (6, .sl (some false) H.length 1 0 n), (0, av), (7, u64V s.r)])
    (fun s H' => Old H H' ∧ s.k ≤ n ∧ s.qs.length = n - s.k ∧ Small s.qs ∧ s.r < d ∧ H'[H.length]? = some (.row 1 ((List.replicate s.k 0 ++ s.qs).map u32V)) ∧ wval ((wds a).drop s.k) = d * wval s.qs + s.r) (fun s => s.k) ⟨n, 0, []⟩ rfl
    ⟨(Old.refl _).push _, Nat.le_refl _, by simp, (fun w hw => by cases hw), hd0, by rw [List.append_nil, List.map_replicate]; exact push_last, by show wval ((wds a).drop n) = d * wval [] + 0; rw [List.drop_of_length_le (by omega)]; rfl⟩ (fun ⟨k, r, qs⟩ H1 ⟨hO, hk, hq, hsm, hr, hrow, hval⟩ => ?_)
  simp only at hk hq hsm hr hrow hval
  dsimp only
  refine sCond (fun h => ?_) (fun h => ?_)
  · have h : 1 ≤ k := by have := of_decide_eq_true h; omega
    obtain ⟨i, rfl⟩ : ∃ i, k = i + 1 := ⟨k - 1, by omega⟩
    have hi : i < (wds a).length := by omega
    have hax := wd_get hi
    have hdr := wval_drop hi
    have hsx := wds_small a _ (List.getElem_mem hi)
    generalize (wds a)[i] = w at *
    have hq1 : (r * 4294967296 + w) / d < 4294967296 := by
      rw [Nat.div_lt_iff_lt_mul hd0]
      have : (r + 1) * 4294967296 ≤ d * 4294967296 := Nat.mul_le_mul_right _ hr
      rw [Nat.mul_comm 4294967296 d]
      omega
    have hqt : (((r * 4294967296 + w : Nat)) : Int).tdiv (d : Int) = (((r * 4294967296 + w) / d : Nat) : Int) := (Int.ofNat_tdiv _ _).symm
    have hrt : (((r * 4294967296 + w : Nat)) : Int).tmod (d : Int) = (((r * 4294967296 + w) % d : Nat) : Int) := (Int.ofNat_tmod _ _).symm
    have hrd : (r * 4294967296 + w) % d < d := Nat.mod_lt _ hd0
    have e := Nat.div_add_mod (r * 4294967296 + w) d
    have hne : (d : Int) ≠ 0 := by omega
    obtain ⟨q, hqd⟩ : ∃ q, (r * 4294967296 + w) / d = q := ⟨_, rfl⟩
    obtain ⟨rm, hrm⟩ : ∃ rm, (r * 4294967296 + w) % d = rm := ⟨_, rfl⟩
    rw [hqd] at hq1 hqt e
    rw [hrm] at hrt hrd e
    have hget := pad_get2 qs i
    have hset := pad_set qs i q
    refine sOpt (shl32 r (by omega)) ?_
    refine sIdxO i (u32V w) ha (by omega) hax ?_
    refine sLoadL (u32V w) rfl ?_
    refine sWu64n (r := w) rfl (by omega) ?_
    refine sOpt (or32' w r hsx (by omega)) ?_
    refine sWu64n (r := d) rfl (by omega) ?_
    refine sNeed hne ?_
    refine sWu64 q (by rw [hqt]; omega) ?_
    refine sWu32 q (by omega) ?_
    refine sAt ⟨by omega, by omega⟩ ?_
    refine sStore i (u32V q) (by omega) hrow hget rfl (by decide) rfl (fun cs h => by cases h) ?_
    refine sWu64n (r := d) rfl (by omega) ?_
    refine sNeed hne ?_
    refine sVal (r := (rm : Int)) hrt ?_
    refine sW64 ⟨by omega, by omega⟩ ?_
    refine sNext (SSl.mk i rm (q :: qs)) ?_ ⟨hO.set (Nat.le_refl _) _, by simp only; omega, by simp only [List.length_cons]; omega, ?_, hrd, by simp only; rw [hset]; exact set_at hrow, ?_⟩ (by simp only; omega)
    · have : ((i + 1 : Nat) : Int) - 1 - 1 = (i : Int) - 1 := by omega
      simp only [← this]
      rfl
    · intro x hx
      rcases List.mem_cons.1 hx with rfl | hx
      · exact hq1
      · exact hsm x hx
    · simp only [wval]
      rw [hdr, hval]
      rw [Nat.mul_add, Nat.mul_add, ← Nat.mul_assoc d 4294967296, Nat.mul_comm d 4294967296, Nat.mul_assoc]
      omega
  · have h : k = 0 := by have := of_decide_eq_false h; omega
    subst h
    rw [List.drop_zero, wval_wds] at hval
    rw [List.replicate_zero, List.nil_append] at hrow
    have hv : wval qs = a / d := by rw [hval, Nat.mul_add_div hd0, Nat.div_eq_of_lt hr]; rfl
    have hm : a % d = r := by rw [hval, Nat.mul_add_mod, Nat.mod_eq_of_lt hr]
    have ht := hT H.length n qs H1 (by omega) hrow hsm (by omega)
    rw [hv] at ht
    rw [hm]
    have hfz := frz_mag (H0 := H) (H := H1) (b := H.length) (n := a / d) (Nat.le_refl _) hrow hsm hv
    refine sCall0 ht ?_
    refine sWu32 r (by omega) ?_
    exact sRetF (v0 := .tup [.sl (some false) H.length 1 0 (wds (a / d)).length, u32V r]) rfl rfl (by simp only [frzV, frzL] at hfz ⊢; rw [hfz]; rfl) rfl (hO.set (Nat.le_refl _) _)

structure STx where
  m : Nat
  mv : AV
  v : AV
  out : List UInt8

theorem text_ev (hTw : ∀ av m H, Mag av m → m ≠ 0 → (wds m).length ≤ 100000 → C f_sccsettlebig_twin [av] H (.lst (some false) 1 ((wds m).map u32V)) H)
    (hSm : ∀ av a d H, Mag av a → (wds a).length ≤ 100000 → 0 < d → d < 4294967296 → C f_sccsettlebig_small [av, u32V d] H (.tup [magV (a / d), u32V (a % d)]) H)
    (b : Nat) (v : Int) (H : Heap) (hb : H[b]? = some (.box (bigC v))) (hv : v.natAbs < 10000000000000000000000) (hl : (wds v.natAbs).length ≤ 100) : EFun C GT a_sccsettlebig_Int__Text [.ref b 0 0 0, intV 10] H (.str (digR v)) H := by
  have hb2 : H[b]? = some (.box [.bool (decide (v < 0)), magV v.natAbs]) := hb
  clear hb
  have hdl : (decL v.natAbs).length ≤ 22 := decL_len 22 _ (by have : (10 : Nat) ^ 22 = 10000000000000000000000 := by decide
                                                              omega)
  refine efun_of ?_
  refine sOpt rfl ?_
  refine sCondF ?_
  refine sLoadBox (magV v.natAbs) hb2 rfl ?_
  refine sLenO (wds v.natAbs).length (magV_is _) (by simp) ?_
  by_cases h0 : v = 0
  · subst h0
    refine sCondT ?_
    exact sRetV rfl rfl rfl rfl (Old.refl _)
  have hz : (wds v.natAbs).length ≠ 0 := by rw [wds_pos (by omega)]; simp
  refine sCond (fun h => absurd (eq_of_beq h) (by omega)) (fun _ => ?_)
  have htw := hTw (magV v.natAbs) v.natAbs H (magV_is _) (by omega) (by omega)
  have hdig : digR v = (signed v).reverse := by unfold digR; rw [if_neg h0]
  rw [hdig]
  refine sLoadBox (magV v.natAbs) hb2 rfl ?_
  refine sCall0 (htw) ?_
  refine sLoop (fun s : STx => [(5, s.v), (1, intV 10), (6, s.mv), (0, .ref b 0 0 0)]) (fun s H' => Old H H' ∧ Owns H H' s.v 1 (s.out.map byteAV) ∧ Mag s.mv s.m ∧ s.out ++ decL s.m = decL v.natAbs ∧ s.m ≤ v.natAbs ∧ (s.m ≠ 0 ∨ s.out ≠ [])) (fun s => s.m) ⟨v.natAbs, _, .lst (some true) 0 [], []⟩ rfl
    ⟨Old.refl _, Owns.nil _ _ _, ⟨_, _, rfl, .inl rfl⟩, rfl, Nat.le_refl _, .inl (by show v.natAbs ≠ 0; omega)⟩ (fun ⟨m, mv, ov, out⟩ H1 ⟨hO, hown, hmg, hdg, hmle, hne⟩ => ?_)
  simp only at hown hmg hdg hmle hne
  dsimp only
  have hml : (wds m).length ≤ 100 := Nat.le_trans (wds_len_mono hmle) hl
  refine sLenO (wds m).length hmg (by simp) ?_
  refine sCond (fun h => ?_) (fun h => ?_)
  · have h0 : m ≠ 0 := fun e => by subst e; exact absurd h (by simp [wds_zero])
    have hsm := hSm mv m 10 H1 hmg (by omega) (by omega) (by omega)
    rw [decL_pos h0] at hdg
    have hol : out.length ≤ 22 := by
      have := congrArg List.length hdg
      rw [List.length_append] at this; omega
    have hmod : m % 10 < 10 := Nat.mod_lt _ (by omega)
    have hu : (UInt8.ofNat (48 + m % 10)).toNat = 48 + m % 10 := by rw [UInt8.toNat_ofNat']; omega
    refine sWu32 10 (by omega) ?_
    refine sCall0 hsm ?_
    refine sOpt rfl ?_
    refine sOpt rfl ?_
    refine sCond (fun _ => ?_) (fun h => absurd (of_decide_eq_false h) (by omega))
    refine sWu32 (48 + m % 10) (by omega) ?_
    refine sVal (r := ((UInt8.ofNat (48 + m % 10)).toNat : Int)) (by rw [hu, IntKind.wrap_u8]; omega) ?_
    refine sBslice (vs' := [byteAV (UInt8.ofNat (48 + m % 10))]) rfl rfl ?_
    refine sAppend (H0 := H) (hown.push _) (hO.push _) view_new (by omega) (by simp; omega) (by simp) (fun v' H' ho' hO' hblk hfr => ?_)
    exact sNext (STx.mk (m / 10) (magV (m / 10)) v' (out ++ [UInt8.ofNat (48 + m % 10)])) rfl ⟨hO', by simp only [List.map_append]; exact ho', magV_is _, by simp only [List.append_assoc]; exact hdg, by simp only; omega, .inr (by simp)⟩ (by simp only; omega)
  · have hm0 : m = 0 := by
      by_cases e : m = 0
      · exact e
      · exact absurd h (by rw [wds_pos e]; simp)
    subst hm0
    rw [decL_zero, List.append_nil] at hdg
    have hoe : out ≠ [] := hne.resolve_left (by simp)
    have hol : out.length ≤ 22 := by rw [hdg]; exact hdl
    have fin : ∀ (ov : AV) (out : List UInt8) (H1 : Heap), Old H H1 → Owns H H1 ov 1 (out.map byteAV) → out ≠ [] → out.length ≤ 23 → EW C GT (b_sccsettlebig_Int__Text.behind 6) (finF a_sccsettlebig_Int__Text H (.str out.reverse) H) [(5, ov)] H1 := by
      intro ov out H1 hO hown hne hlen
      obtain ⟨c, rfl, hcl, hrow⟩ : ∃ c, ov = .sl (some true) c 1 0 out.length ∧ H.length ≤ c ∧ H1[c]? = some (.row 1 (out.map byteAV)) := by
        rcases hown with ⟨_, h⟩ | ⟨c, h1, h2, h3, _⟩
        · exact absurd (by simpa using h) hne
        · exact ⟨c, by rw [h1, List.length_map], h2, h3⟩
      obtain ⟨n, hn⟩ : ∃ n, out.length = n := ⟨_, rfl⟩
      have hn0 : 0 < n := by rw [← hn]; exact List.length_pos_iff.2 hne
      rw [rowU_of, hn, ← turn_zero] at hrow
      rw [hn]
      refine sLenSl ?_
      refine sW64n (r := n - 1) (by omega) (by omega) ?_
      refine sLoop (fun i : Nat => [(9, intV ((n : Int) - 1 - i)), (8, natV i), (5, .sl (some true) c 1 0 n)]) (fun i H' => Old H H' ∧ i ≤ n ∧ i ≤ n - i ∧ H'[c]? = some (.row 1 (rowU n (turn n i fun k => out.getD k 0)))) (fun i => n - i) 0 ?_ ⟨hO, Nat.zero_le _, by omega, hrow⟩ (fun i H2 ⟨hO2, hi, hi2, hrow2⟩ => ?_)
      · have : ((n - 1 : Nat) : Int) = (n : Int) - 1 - (0 : Nat) := by omega
        simp only [← this]
        rfl
      dsimp only
      refine sCond (fun h => ?_) (fun h => ?_)
      · have h : i < n - 1 - i := by have := of_decide_eq_true h; omega
        have g1 := rowU_get (n := n) (i := i) (f := turn n i fun k => out.getD k 0) (by omega)
        have g2 := rowU_get (n := n) (i := n - 1 - i) (f := turn n i fun k => out.getD k 0) (by omega)
        have ts := turn_succ (f := fun k => out.getD k 0) h
        generalize hf : turn n i (fun k => out.getD k 0) = f at *
        have g3 := rowU_get (n := n) (i := n - 1 - i) (f := upd f i (f (n - 1 - i))) (by omega)
        have r2 : (H2.set c (.row 1 ((rowU n f).set i (byteAV (f (n - 1 - i))))))[c]? = some (.row 1 (rowU n (upd f i (f (n - 1 - i))))) := by rw [rowU_set]; exact set_at hrow2
        refine sAt ⟨by omega, by omega⟩ ?_
        refine sLoadRow i (byteAV (f i)) (byteAV (f i)) (by omega) hrow2 g1 rfl ?_
        refine sAt ⟨by omega, by omega⟩ ?_
        refine sLoadRow (n - 1 - i) (byteAV (f (n - 1 - i))) (byteAV (f (n - 1 - i))) (by omega) hrow2 g2 rfl ?_
        refine sAt ⟨by omega, by omega⟩ ?_
        refine sStore i (byteAV (f (n - 1 - i))) (by omega) hrow2 g1 rfl (by decide) rfl (fun cs h => by cases h) ?_
        refine sAt ⟨by omega, by omega⟩ ?_
        refine sStore (n - 1 - i) (byteAV (f i)) (by omega) r2 g3 rfl (by decide) rfl (fun cs h => by cases h) ?_
        refine sW64n (r := i + 1) rfl (by omega) ?_
        refine sW64 ⟨by omega, by omega⟩ ?_
        refine sNext (i + 1) ?_ ⟨(hO2.set hcl _).set hcl _, by omega, by omega, ?_⟩ (by omega)
        · have : (n : Int) - 1 - (i : Int) - 1 = (n : Int) - 1 - ((i + 1 : Nat) : Int) := by omega
          simp only [← this]
          rfl
        · rw [← ts, ← rowU_set (f := upd f i (f (n - 1 - i)))]
          exact set_at r2
      · have h : n - 1 - i ≤ i := by have := of_decide_eq_false h; omega
        have e := turn_end (i := i) (xs := out) (by omega) (by omega)
        rw [hn] at e
        rw [e] at hrow2
        have ho : Owns H H2 (.sl (some true) c 1 0 n) 1 (out.reverse.map byteAV) := .inr ⟨c, by rw [List.length_map, List.length_reverse, hn], hcl, hrow2, by simp [hne]⟩
        refine sBytesStr ho ?_
        exact sRetV rfl rfl rfl rfl hO2
    by_cases hn : v < 0
    · have e : signed v = out ++ [45] := by unfold signed; rw [if_pos hn, hdg]
      rw [e]
      rw [decide_eq_true hn] at hb2
      have hb3 := old_get hO hb2
      refine sLoadBox (AV.bool true) hb3 rfl ?_
      refine sCondT ?_
      refine sBslice (vs' := [byteAV 45]) rfl rfl ?_
      refine sAppend (H0 := H) (hown.push _) (hO.push _) view_new (by omega) (by simp; omega) (by simp) (fun v' H' ho' hO' hblk hfr => ?_)
      refine sTail rfl (fin v' (out ++ [45]) H' hO' (by rw [List.map_append]; exact ho') (by simp) (by simp; omega)) ?_
      rfl
    · have e : signed v = out := by unfold signed; rw [if_neg hn, hdg]
      rw [e]
      rw [decide_eq_false hn] at hb2
      have hb3 := old_get hO hb2
      refine sLoadBox (.bool false) hb3 rfl ?_
      refine sCondF ?_
      refine sTail rfl (fin ov out H1 hO hown hoe (by omega)) ?_
      rfl

theorem string3_ev (hT : ∀ b v H, H[b]? = some (.box (bigC v)) → v.natAbs < 10000000000000000000000 → (wds v.natAbs).length ≤ 100 → C f_sccsettlebig_Int__Text [.ref b 0 0 0, intV 10] H (.str (digR v)) H)
    (b : Nat) (v : Int) (H : Heap) (hb : H[b]? = some (.box (bigC v))) (hv : v.natAbs < 10000000000000000000000) (hl : (wds v.natAbs).length ≤ 100) : EFun C GT a_sccsettlebig_Int__String [.ref b 0 0 0] H (.str (digR v)) H := by
  have h := hT b v H hb hv hl
  refine efun_of ?_
  refine sCall0 (h) ?_
  exact sRetV rfl rfl rfl rfl (Old.refl _)

theorem digits3_ev (hNew : ∀ v H, In64 v → C f_sccsettlebig_NewInt [intV v] H (.ref H.length 0 0 0) (H ++ [.box (bigC v)]))
    (hS : ∀ b v H, H[b]? = some (.box (bigC v)) → v.natAbs < 10000000000000000000000 → (wds v.natAbs).length ≤ 100 → C f_sccsettlebig_Int__String [.ref b 0 0 0] H (.str (digR v)) H)
    (v : Int) (H : Heap) (hv : In64 v) : EFun C GT a_sccref1_Digits [intV v] H (.str (digR v)) H := by
  have e2 : (4294967296 : Nat) ^ 2 = 18446744073709551616 := by decide
  have la : (wds v.natAbs).length ≤ 2 := wds_fit (by rw [e2]; unfold In64 at hv; omega)
  have h := hS H.length v (H ++ [.box (bigC v)]) push_last (by unfold In64 at hv; omega) (by omega)
  refine efun_of ?_
  refine sCall (hNew v _ hv) (fun h => by cases h) ?_
  refine sCall0 (h) ?_
  exact sRetV rfl rfl rfl rfl ((Old.refl _).push _)
end
end Go.AM
