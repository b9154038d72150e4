/- What is laid as a text, as a slice of texts, as an array of either. Own work. -/
import Derived.Test.YtmmbcogejaofpaaGreatDoorGFmAm24
set_option linter.all false
set_option maxRecDepth 20000
namespace Go.AM
open Go Go.RowKit
section
variable {H : Type} {enc : TypeId × Value → H} {P : Program} {w : World} {held : Bool}
theorem laid_str {fuel : Nat} {t : TypeId} {cs : List Value} {l : List UInt8} {ps : List MemPlace} (hu : P.underlying t = some .string) (h : DataW.trod enc P w 0 (fun _=>true) held fuel t cs = some (.lit (.string l),ps)) : ∃ s : ByteArray,cs = [.string s] ∧ s.data.toList = l:=by
 cases fuel with
 | zero=>simp [DataW.trod] at h
 | succ fuel=>
  rcases cs with _ | ⟨c,_ | ⟨c',cs⟩⟩
  ·simp [DataW.trod,hu] at h
  ·cases c <;> simp [DataW.trod,hu] at h
   rename_i s
   exact ⟨s,rfl,h.2.1⟩
  ·simp [DataW.trod,hu] at h
theorem laid_arr {fuel n : Nat} {t e : TypeId} {cs : List Value} {ds : List (DataW H)} {ps : List MemPlace} (hu : P.underlying t = some (.array n e)) (hc : P.cellsOf e = 1) (hn : P.cellsOf t = n) (h : DataW.trod enc P w 0 (fun _=>true) held fuel t cs = some (.agg ds,ps)) :
  cs.length = n ∧ ds.length = n ∧ ∃ fuel',∀ (i : Nat) (c : Value) (d : DataW H),cs[i]? = some c → ds[i]? = some d → ∃ p,DataW.trod enc P w 0 (fun _=>true) held fuel' e [c] = some (d,p):=by
 cases fuel with
 | zero=>simp [DataW.trod] at h
 | succ fuel=>
  simp only [DataW.trod,hu] at h
  split at h
  case isFalse=>cases h
  rename_i hl
  rw [hn] at hl
  obtain ⟨r,hr,he⟩:=Option.map_eq_some_iff.1 h
  simp only [Prod.mk.injEq,DataW.agg.injEq] at he
  obtain ⟨rfl,_⟩:=he
  obtain ⟨l1,l2⟩:=zDg hr
  rw [List.length_range] at l1
  refine ⟨hl,by rw [List.length_map,l1],fuel,fun i c d h1 h2=>?_⟩
  have hi : i < n:=by rw [← hl]; exact (zg h1).1
  obtain ⟨y,e1,e2⟩:=l2 i i (by rw [List.getElem?_range hi])
  rw [List.getElem?_map,e1] at h2
  obtain rfl:=Option.some.inj h2
  rw [hc,Nat.mul_one] at e2
  have e3 : (cs.drop i).take 1 = [c]:=by
   have hlt:=(zg h1).1
   rw [List.drop_eq_getElem_cons hlt,(zg h1).2]
   rfl
  rw [e3] at e2
  exact ⟨_,e2⟩
theorem laid_strs {fuel : Nat} {t e : TypeId} {c : Value} {ls : List (List UInt8)} {rest : List (DataW H)} {ps : List MemPlace} (hu : P.underlying t = some (.slice e)) (hs : P.underlying e = some .string) (hc : P.cellsOf e = 1)
  (h : DataW.trod enc P w 0 (fun _=>true) held fuel t [c] = some (.slice (ls.map fun l=>.lit (.string l)) rest,ps)) (hne : ls ≠ []) : Rel w (fun _=>none) (zC0 w) 0 (.lst (some false) 1 (ls.map AV.str)) c:=by
 cases fuel with
 | zero=>simp [DataW.trod] at h
 | succ fuel=>
  cases c
  case slice a len cap=>
   cases a with
   | none=>cases len <;> cases cap <;> simp [DataW.trod,hu] at h
   | some a=>
    simp only [DataW.trod,hu] at h
    split at h
    case isFalse=>cases h
    rename_i hb
    obtain ⟨elems,h1,h⟩:=Option.bind_eq_some_iff.1 h
    obtain ⟨rs,h2,he⟩:=Option.map_eq_some_iff.1 h
    simp only [Prod.mk.injEq,DataW.slice.injEq] at he
    obtain ⟨⟨he,_⟩,_⟩:=he
    obtain ⟨l1,l2⟩:=zDg h1
    rw [List.length_range] at l1
    have hll : ls.length = len:=by
     have:=congrArg List.length he
     rw [List.length_map,List.length_map] at this
     omega
    have cell : ∀ (i : Nat) (l : List UInt8),ls[i]? = some l → ∃ s : ByteArray,w.cell? (a.add i) = some (.string s) ∧ s.data.toList = l:=by
     intro i l hl
     have hi : i < len:=by rw [← hll]; exact (zg hl).1
     obtain ⟨y,e1,e2⟩:=l2 i i (by rw [List.getElem?_range hi])
     obtain ⟨ci,e3,e4⟩:=Option.bind_eq_some_iff.1 e2
     obtain ⟨e5,e6⟩:=cells_spec e3
     have hy : y.1 = .lit (.string l):=by
      have h3:=congrArg (fun x : List (DataW H)=>x[i]?) he
      simp only [List.getElem?_map,e1,hl,Option.map_some,Option.some.injEq] at h3
      exact h3
     have e4 : DataW.trod enc P w 0 (fun _=>true) held fuel e ci = some (.lit (.string l),y.2):=by rw [← hy]; exact e4
     obtain ⟨s,rfl,hsl⟩:=laid_str hs e4
     have h6:=e6 0 (.string s) rfl
     rw [hc,Nat.mul_one] at h6
     refine ⟨s, ?_,hsl⟩
     have : (a.add i).add 0 = a.add i:=by
      cases a; simp [Addr.add]
     rw [this] at h6
     exact h6
    have h0 : 0 < ls.length:=List.length_pos_iff.2 hne
    obtain ⟨s0,hs0,_⟩:=cell 0 _ (List.getElem?_eq_getElem h0)
    have hs0 : w.cell? a = some (.string s0):=by simpa [Addr.add] using hs0
    obtain ⟨g1,g2⟩:=zGO hs0
    obtain ⟨ab,ao,asp⟩:=a
    simp only at g1 g2
    subst g2
    have hlm : (ls.map AV.str).length = len:=by rw [List.length_map,hll]
    rw [← hlm]
    refine Rel.mk_lst (by simp) tO hb.2.2 g1 (fun x hx=>?_) (fun i j x c hi hj=>?_)
    ·obtain ⟨l,_,rfl⟩:=List.mem_map.1 hx
     exact rfl
    ·rw [List.getElem?_map] at hi
     obtain ⟨l,hl,rfl⟩:=Option.map_eq_some_iff.1 hi
     cases j with
     | zero=>
      have : c = .str l:=by simpa [AV.cells] using hj.symm
      subst this
      obtain ⟨s,e1,e2⟩:=cell i l hl
      refine ⟨.string s, ?_, ?_⟩
      ·simp only [Addr.add_lit] at e1
       simpa using e1
      ·rw [← e2]; exact rel_str _ _ _ _ s
     | succ j=>simp [AV.cells] at hj
  all_goals (simp [DataW.trod,hu] at h)
theorem laid_iface {fuel : Nat} {t : TypeId} {ms : Array (String × TypeId)} {cs : List Value} {nm : String} {d : DataW H} {ps : List MemPlace} (hu : P.underlying t = some (.interface ms)) (h : DataW.trod enc P w 0 (fun _=>true) held fuel t cs = some (.iface nm d,ps)) : ∃ u v,cs = [.iface u v]:=by
 cases fuel with
 | zero=>simp [DataW.trod] at h
 | succ fuel=>
  rcases cs with _ | ⟨c,_ | ⟨c',cs⟩⟩
  ·simp [DataW.trod,hu] at h
  ·cases c <;> simp [DataW.trod,hu] at h
   exact ⟨_,_,rfl⟩
  ·simp [DataW.trod,hu] at h
theorem glob_strs {fuel n g : Nat} {t e : TypeId} {cs : Array Value} {ls : List (List UInt8)} {ps : List MemPlace} (hcell : ∀ j : Nat,w.cell? ⟨g,j,none⟩ = cs[j]?) (hu : P.underlying t = some (.array n e)) (hs : P.underlying e = some .string) (hc : P.cellsOf e = 1) (hn : P.cellsOf t = n) (h0 : 0 < n)
  (h : DataW.trod enc P w 0 (fun _=>true) held fuel t cs.toList = some (.agg (ls.map fun l=>.lit (.string l)),ps)) : Rel w (fun _=>none) (zC0 w) 0 (.lref (.agg (ls.map AV.str)) 0) (.pointer (some ⟨g,0,none⟩)) ∧ cs.size = ls.length:=by
 obtain ⟨h1,h2,fuel',h3⟩:=laid_arr hu hc hn h
 rw [List.length_map] at h2
 have h1' : cs.size = n:=by simpa using h1
 have hat : ∀ (j : Nat) (l : List UInt8),ls[j]? = some l → ∃ s : ByteArray,w.cell? ⟨g,j,none⟩ = some (.string s) ∧ s.data.toList = l:=fun j l hl=>by
  have hj : j < cs.size:=by rw [h1',← h2]; exact (zg hl).1
  obtain ⟨p,hp⟩:=h3 j cs[j] (.lit (.string l)) (by simp [hj]) (by rw [List.getElem?_map,hl]; rfl)
  obtain ⟨s,e1,e2⟩:=laid_str hs hp
  refine ⟨s, ?_,e2⟩
  rw [hcell j,Array.getElem?_eq_getElem hj]
  simpa using e1
 refine ⟨?_,by omega⟩
 obtain ⟨l0,hl0⟩ : ∃ l,ls[0]? = some l:=⟨_,List.getElem?_eq_getElem tO⟩
 obtain ⟨s0,hs0,_⟩:=hat 0 l0 hl0
 refine Rel.mk_lref (zGO hs0).1 ?_ fun j c hj=>?_
 ·show (AV.agg (ls.map AV.str)).bel 0 = true
  simp only [AV.bel,AV.belL_iff]
  intro x hx
  obtain ⟨l,_,rfl⟩:=List.mem_map.1 hx
  rfl
 ·rw [Nat.zero_add] at hj ⊢
  have hj : (ls.map AV.str)[j]? = some c:=hj
  rw [List.getElem?_map] at hj
  obtain ⟨l,hl,rfl⟩:=Option.map_eq_some_iff.1 hj
  obtain ⟨s,e1,e2⟩:=hat j l hl
  exact ⟨_,e1,by rw [← e2]; exact rel_str _ _ _ _ s⟩
theorem glob_strss {fuel n g : Nat} {t u e : TypeId} {cs : Array Value} {lss : List (List (List UInt8))} {ps : List MemPlace} (hcell : ∀ j : Nat,w.cell? ⟨g,j,none⟩ = cs[j]?) (hu : P.underlying t = some (.array n u)) (hu2 : P.underlying u = some (.slice e)) (hs : P.underlying e = some .string) (hc2 : P.cellsOf u = 1) (hc : P.cellsOf e = 1) (hn : P.cellsOf t = n) (h0 : 0 < n)
  (hne : ∀ ls ∈ lss,ls ≠ []) (h : DataW.trod enc P w 0 (fun _=>true) held fuel t cs.toList = some (.agg (lss.map fun ls=>.slice (ls.map fun l=>.lit (.string l)) []),ps)) : Rel w (fun _=>none) (zC0 w) 0 (.lref (.agg (lss.map fun ls=>.lst (some false) 1 (ls.map AV.str))) 0) (.pointer (some ⟨g,0,none⟩)) ∧ cs.size = lss.length:=by
 obtain ⟨h1,h2,fuel',h3⟩:=laid_arr hu hc2 hn h
 rw [List.length_map] at h2
 have h1' : cs.size = n:=by simpa using h1
 have hat : ∀ (j : Nat) (ls : List (List UInt8)),lss[j]? = some ls → ∃ v : Value,w.cell? ⟨g,j,none⟩ = some v ∧ Rel w (fun _=>none) (zC0 w) 0 (.lst (some false) 1 (ls.map AV.str)) v:=fun j ls hl=>by
  have hj : j < cs.size:=by rw [h1',← h2]; exact (zg hl).1
  obtain ⟨p,hp⟩:=h3 j cs[j] (.slice (ls.map fun l=>.lit (.string l)) []) (by simp [hj]) (by rw [List.getElem?_map,hl]; rfl)
  exact ⟨cs[j],by rw [hcell j,Array.getElem?_eq_getElem hj],laid_strs hu2 hs hc hp (hne ls (List.mem_of_getElem? hl))⟩
 refine ⟨?_,by omega⟩
 obtain ⟨l0,hl0⟩ : ∃ l,lss[0]? = some l:=⟨_,List.getElem?_eq_getElem tO⟩
 obtain ⟨s0,hs0,_⟩:=hat 0 l0 hl0
 refine Rel.mk_lref (zGO hs0).1 ?_ fun j c hj=>?_
 ·show (AV.agg (lss.map fun ls=>.lst (some false) 1 (ls.map AV.str))).bel 0 = true
  simp only [AV.bel,AV.belL_iff]
  intro x hx
  obtain ⟨l,_,rfl⟩:=List.mem_map.1 hx
  rfl
 ·rw [Nat.zero_add] at hj ⊢
  have hj : (lss.map fun ls=>AV.lst (some false) 1 (ls.map AV.str))[j]? = some c:=hj
  rw [List.getElem?_map] at hj
  obtain ⟨l,hl,rfl⟩:=Option.map_eq_some_iff.1 hj
  exact hat j l hl
end
end Go.AM
