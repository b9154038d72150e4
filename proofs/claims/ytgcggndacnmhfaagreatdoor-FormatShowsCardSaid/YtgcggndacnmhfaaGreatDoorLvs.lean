/- What is laid as a text, as a slice of texts, as an array of either. Own work. -/
import Derived.Test.YtgcggndacnmhfaaGreatDoorGAm23Bc
set_option linter.all false
set_option maxRecDepth 20000
namespace Go.AM
open Go Go.RowKit
section
variable {H : Type} {enc : TypeId × Value → H} {P : Program} {w : World} {held : Bool}
theorem zLm {fuel : Nat} {t : TypeId} {cs : List Value} {l : List UInt8} {ps : List MemPlace} (hu : P.underlying t = some .string) (h : DataW.trod enc P w 0 (fun _=>true) held fuel t cs = some (.lit (.string l),ps)) : ∃ s : ByteArray,cs = [.string s] ∧ s.data.toList = l:=by
 cases fuel with
 | zero=>simp [DataW.trod] at h
 | succ fuel=>
  rcases cs with _ | ⟨c,_ | ⟨c',cs⟩⟩
  ·simp [DataW.trod,hu] at h
  ·cases c <;> simp [DataW.trod,hu] at h
   rename_i s
   exact ⟨s,rfl,h.2.1⟩
  ·simp [DataW.trod,hu] at h
theorem zLn {fuel n : Nat} {t e : TypeId} {cs : List Value} {ds : List (DataW H)} {ps : List MemPlace} (hu : P.underlying t = some (.array n e)) (hc : P.cellsOf e = 1) (hn : P.cellsOf t = n) (h : DataW.trod enc P w 0 (fun _=>true) held fuel t cs = some (.agg ds,ps)) :
  cs.length = n ∧ ds.length = n ∧ ∃ fuel',∀ (i : Nat) (c : Value) (d : DataW H),cs[i]? = some c → ds[i]? = some d → ∃ p,DataW.trod enc P w 0 (fun _=>true) held fuel' e [c] = some (d,p):=by
 cases fuel with
 | zero=>simp [DataW.trod] at h
 | succ fuel=>
  simp only [DataW.trod,hu] at h
  split at h
  case isFalse=>cases h
  rename_i hl
  rw [hn] at hl
  obtain ⟨r,hr,he⟩:=Option.map_eq_some_iff.1 h
  simp only [Prod.mk.injEq,DataW.agg.injEq] at he
  obtain ⟨rfl,_⟩:=he
  obtain ⟨l1,l2⟩:=zCL hr
  rw [List.length_range] at l1
  refine ⟨hl,by rw [List.length_map,l1],fuel,fun i c d h1 h2=>?_⟩
  have hi : i < n:=by rw [← hl]; exact (zg h1).1
  obtain ⟨y,e1,e2⟩:=l2 i i (by rw [List.getElem?_range hi])
  rw [List.getElem?_map,e1] at h2
  obtain rfl:=Option.some.inj h2
  rw [hc,Nat.mul_one] at e2
  have e3 : (cs.drop i).take 1 = [c]:=by
   have hlt:=(zg h1).1
   rw [List.drop_eq_getElem_cons hlt,(zg h1).2]
   rfl
  rw [e3] at e2
  exact ⟨_,e2⟩
theorem zKc {fuel n g : Nat} {t e : TypeId} {cs : Array Value} {ls : List (List UInt8)} {ps : List MemPlace} (hcell : ∀ j : Nat,w.cell? ⟨g,j,none⟩ = cs[j]?) (hu : P.underlying t = some (.array n e)) (hs : P.underlying e = some .string) (hc : P.cellsOf e = 1) (hn : P.cellsOf t = n) (h0 : 0 < n)
  (h : DataW.trod enc P w 0 (fun _=>true) held fuel t cs.toList = some (.agg (ls.map fun l=>.lit (.string l)),ps)) : Rel w (fun _=>none) (zB7 w) 0 (.lref (.agg (ls.map AV.str)) 0) (.pointer (some ⟨g,0,none⟩)) ∧ cs.size = ls.length:=by
 obtain ⟨h1,h2,fuel',h3⟩:=zLn hu hc hn h
 rw [List.length_map] at h2
 have h1' : cs.size = n:=by simpa using h1
 have hat : ∀ (j : Nat) (l : List UInt8),ls[j]? = some l → ∃ s : ByteArray,w.cell? ⟨g,j,none⟩ = some (.string s) ∧ s.data.toList = l:=fun j l hl=>by
  have hj : j < cs.size:=by rw [h1',← h2]; exact (zg hl).1
  obtain ⟨p,hp⟩:=h3 j cs[j] (.lit (.string l)) (by simp [hj]) (by rw [List.getElem?_map,hl]; rfl)
  obtain ⟨s,e1,e2⟩:=zLm hs hp
  refine ⟨s, ?_,e2⟩
  rw [hcell j,Array.getElem?_eq_getElem hj]
  simpa using e1
 refine ⟨?_,by omega⟩
 obtain ⟨l0,hl0⟩ : ∃ l,ls[0]? = some l:=⟨_,List.getElem?_eq_getElem tO⟩
 obtain ⟨s0,hs0,_⟩:=hat 0 l0 hl0
 refine Rel.mk_lref (zEs hs0).1 ?_ fun j c hj=>?_
 ·show (AV.agg (ls.map AV.str)).bel 0 = true
  simp only [AV.bel,AV.belL_iff]
  intro x hx
  obtain ⟨l,_,rfl⟩:=List.mem_map.1 hx
  rfl
 ·rw [Nat.zero_add] at hj ⊢
  have hj : (ls.map AV.str)[j]? = some c:=hj
  rw [List.getElem?_map] at hj
  obtain ⟨l,hl,rfl⟩:=Option.map_eq_some_iff.1 hj
  obtain ⟨s,e1,e2⟩:=hat j l hl
  exact ⟨_,e1,by rw [← e2]; exact zJ3 _ _ _ _ s⟩
end
end Go.AM
