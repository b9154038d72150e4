/- What comes in as sheets, cells, boxes, texts, numbers. Own work. -/
import Derived.Test.YthpjgjdeogodjaaGreatDoorGRffRfi
import Derived.Test.YthpjgjdeogodjaaGreatDoorGOpnAm32
set_option linter.all false
namespace Go.AM
theorem zJP {α : Type} {f : α → AV} : ∀ {ys : List AV},(∀ y ∈ ys,∃ v,y = f v) → ∃ vs : List α,ys = vs.map f
 | [],_=>⟨[],rfl⟩
 | y :: ys,h=>by
  obtain ⟨v,rfl⟩:=h y (by simp)
  obtain ⟨vs,rfl⟩:=zJP (ys:=ys) fun z hz=>h z (List.mem_cons_of_mem _ hz)
  exact ⟨v :: vs,rfl⟩
theorem fl_sl {ag : Bool} {es : List Sh} {x : AV} (h : Fits (.sl ag es) x) : ∃ q xs,x = .lst (some q) es.length xs ∧ (q = true → xs = []) ∧ xs.length ≤ maxLen ∧ (∀ y ∈ xs,y.cells.length = es.length ∧ formed ag y) ∧
  ∀ y ∈ xs,∀ (i : Nat) (s : Sh) (c : AV),es[i]? = some s → y.cells[i]? = some c → Fits s c:=by
 cases h with
 | sl ag es q xs hl hq h1 h2=>exact ⟨q,xs,rfl,hq,hl,h1,h2⟩
theorem fl_int {k : IntKind} {x : AV} (h : Fits (.int k) x) : ∃ n,x = .int k n ∧ (Lit.int k n).wf = true:=by cases h with | int k n h=>exact ⟨n,rfl,h⟩
theorem fl_str {x : AV} (h : Fits .str x) : ∃ s,x = .str s:=by cases h with | str s h=>exact ⟨s,rfl⟩
theorem fl_wf {n : Int} (h : (Lit.int .i64 n).wf = true) : zGb n:=by
 have h : IntKind.i64.min ≤ n ∧ n ≤ 9223372036854775807:=by simpa [Lit.wf] using h
 have e : IntKind.i64.min = -9223372036854775808:=rfl
 exact ⟨by omega,h.2⟩
theorem fl_num {x : AV} (h : Fits (.int .i64) x) : ∃ n,x = zl n ∧ zGb n:=by
 obtain ⟨n,rfl,hn⟩:=fl_int h
 exact ⟨n,rfl,fl_wf hn⟩
theorem fl_byte {x : AV} (h : Fits (.int .u8) x) : ∃ c : UInt8,x = zO c:=by
 obtain ⟨n,rfl,hn⟩:=fl_int h
 have h : IntKind.u8.min ≤ n ∧ n ≤ IntKind.u8.max:=by simpa [Lit.wf] using hn
 have e2 : IntKind.u8.max = 255:=rfl
 have e : IntKind.u8.min = 0:=rfl
 refine ⟨UInt8.ofNat n.toNat, ?_⟩
 unfold zO
 congr 1
 have : (UInt8.ofNat n.toNat).toNat = n.toNat:=by rw [UInt8.toNat_ofNat']; omega
 omega
def shFil : List Sh:=[.int .i64,.int .i64,.str]
theorem fl_fil {cs : List AV} (hl : cs.length = 3) (h : ∀ (i : Nat) (s : Sh) (c : AV),shFil[i]? = some s → cs[i]? = some c → Fits s c) : ∃ f : Fil,AV.agg cs = zd f ∧ zGb f.col ∧ zGb f.row:=by
 match cs,hl with
 | [a,b,c],_=>
  obtain ⟨n,rfl,h1⟩:=fl_num (h 0 _ a rfl rfl)
  obtain ⟨m,rfl,h2⟩:=fl_num (h 1 _ b rfl rfl)
  obtain ⟨s,rfl⟩:=fl_str (h 2 _ c rfl rfl)
  exact ⟨⟨n,m,s⟩,rfl,h1,h2⟩
theorem fl_fils {x : AV} (h : Fits (.sl true shFil) x) : ∃ l : List Fil,∃ q,x = .lst (some q) 3 (l.map zd) ∧ (∀ H,view H 3 x = some (l.map zd)) ∧ ∀ f ∈ l,zGb f.col ∧ zGb f.row:=by
 obtain ⟨q,xs,rfl,_,_,h1,h2⟩:=fl_sl h
 obtain ⟨l,hl⟩ : ∃ vs : List {f : Fil // zGb f.col ∧ zGb f.row},xs = vs.map (fun f=>zd f.1):=zJP fun y hy=>by
  obtain ⟨k1,cs,rfl⟩:=h1 y hy
  obtain ⟨f,e,f1,f2⟩:=fl_fil k1 (h2 _ hy)
  exact ⟨⟨f,f1,f2⟩,e⟩
 refine ⟨l.map (·.1),q,by rw [List.map_map,hl]; rfl,fun H=>by rw [hl,List.map_map]; rfl,fun f hf=>?_⟩
 obtain ⟨g,_,rfl⟩:=List.mem_map.1 hf
 exact g.2
theorem fl_one {s : Sh} {x : AV} (h : Fits (.sl false [s]) x) : ∃ q xs,x = .lst (some q) 1 xs ∧ (q = true → xs = []) ∧ xs.length ≤ maxLen ∧ ∀ y ∈ xs,Fits s y:=by
 obtain ⟨q,xs,rfl,hq,hl,h1,h2⟩:=fl_sl h
 refine ⟨q,xs,rfl,hq,hl,fun y hy=>?_⟩
 have hc : y.cells = [y]:=(h1 y hy).2
 exact h2 y hy 0 s y rfl (by rw [hc]; rfl)
theorem fl_bytes {x : AV} (h : Fits (.sl false [.int .u8]) x) : ∃ l : List UInt8,∃ q,x = .lst (some q) 1 (l.map zO) ∧ ∀ H,view H 1 x = some (l.map zO):=by
 obtain ⟨q,xs,rfl,_,_,h1⟩:=fl_one h
 obtain ⟨l,rfl⟩:=zJP (f:=zO) fun y hy=>fl_byte (h1 y hy)
 exact ⟨l,q,rfl,fun H=>rfl⟩
end Go.AM
