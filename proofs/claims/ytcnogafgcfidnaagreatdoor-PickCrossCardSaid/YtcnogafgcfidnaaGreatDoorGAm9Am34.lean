/- Several texts of mine in one (Am9, Am10, Am11, Am34). Own work. -/
import Derived.Test.YtcnogafgcfidnaaGreatDoorGAm4Am8
import Derived.Laws.Tables
import Derived.WideKeyRuns
set_option linter.all false
namespace Go.AM
section
variable {P : Program} {GT : Nat → Option AV} {w : World} {M : AMap} {I : Nat → Prop} {H : Heap}
theorem zET {t : TypeId} (h : zDA P t = true) : P.underlying t = some .string:=by
  simp only [zDA] at h; split at h
  · assumption
  · cases h
theorem zKl {t : TypeId} {k : IntKind} (h : zI3 P t k = true) : P.underlying t = some (.int k):=by
  simp only [zI3] at h; split at h
  · rename_i k' hk; simp at h; subst h; exact hk
  · cases h
theorem zKm {t : TypeId} (h : zLQ P t = true) : ∃ e,P.underlying t = some (.slice e) ∧ P.underlying e = some (.int .u8):=by
  simp only [zLQ] at h; split at h
  · rename_i e he; exact ⟨e,he,zKl h⟩
  · cases h
theorem zFR {t : TypeId} {k : Nat} (h : zBB P t k = true) : ∃ e,P.underlying t = some (.slice e) ∧ zBL P e = some k:=by
  simp only [zBB] at h; split at h
  · rename_i e he; exact ⟨e,he,by simpa using h⟩
  · cases h
theorem zHg {t : TypeId} {n k : Nat} (h : zH9 P t n k = true) : ∃ e,P.underlying t = some (.array n e) ∧ zBL P e = some k:=by
  simp only [zH9] at h; split at h
  · rename_i m e he
    simp at h; obtain ⟨rfl,h⟩:=h; exact ⟨e,he,h⟩
  · cases h
theorem zMh (hS : Sim GT w M I H) {op : BinOp} {t : TypeId} {X Y : Operand} {x y v : AV} {a b : Value} (hx : Rel w M I H.length x a) (hy : Rel w M I H.length y b) (h : zQp op x y = some v) :
    zL P GT w M I H (do eqGuard op t X Y a b; binOp op t a b) v H:=by
  have GI : ∀ (k k' : IntKind) (m m' : Int),(eqGuard op t X Y (.int k m) (.int k' m')).run P w = .ok () w:=fun _ _ _ _=>zAk (by simp) (by simp)
  have GS : ∀ (s s' : ByteArray),(eqGuard op t X Y (.string s) (.string s')).run P w = .ok () w:=fun _ _=>zAk (by simp) (by simp)
  unfold zQp at h
  split at h
  · rename_i k a k' b
    cases hx; cases hy
    split at h
    · rename_i hs
      obtain ⟨v',r,R⟩:=zMc (P:=P) (w:=w) (M:=M) (I:=I) (k':=k') t hs h
      exact zL.pure hS (by rw [Sem.run_bind,GI]; exact r) (R _)
    · split at h
      · rename_i hk; subst hk
        obtain ⟨v',r,R⟩:=zLS (P:=P) (w:=w) (M:=M) (I:=I) t h
        exact zL.pure hS (by rw [Sem.run_bind,GI]; exact r) (R _)
      · cases h
  · cases hx; cases hy
    obtain ⟨v',r,R⟩:=zPn (P:=P) (w:=w) (M:=M) (I:=I) t h
    exact zL.pure hS (by rw [Sem.run_bind,GS]; exact r) (R _)
  · cases h
theorem zMi (hS : Sim GT w M I H) {neg : Bool} {sh : List Sc} {t : TypeId} {X Y : Operand} {x y : List AV} {a b : Value} {r : Bool} (hx : Rel w M I H.length (.agg x) a) (hy : Rel w M I H.length (.agg y) b)
    (hsh : zDH P 30 t = some sh) (hg : P.eqGuardType P.depth t = false) (hag : zDr P t = some true) (h : zi sh x y = some r) :
    zL P GT w M I H (do eqGuard (if neg then .neq else .eql) t X Y a b; binOp (if neg then .neq else .eql) t a b) (.bool (if neg then !r else r)) H:=by
  cases hx with
  | agg _ vs hl hr=>
  cases hy with
  | agg _ us hl' hr'=>
  have he:=(zIB (P:=P) (w:=w) (M:=M) (I:=I) 30 10000 t sh hsh tO).2.2 x y vs us r (.agg vs.toArray) (.agg us.toArray) H.length ⟨hl,hr⟩ ⟨hl',hr'⟩ h (.inl ⟨hag,rfl⟩) (.inl ⟨hag,rfl⟩)
  refine zL.pure hS (v':=.bool (if neg then !r else r)) ?_ (.bool _)
  cases neg
  · simp only [Bool.false_eq_true,if_false,Sem.run_bind,run_eqGuard_agg w _ t X Y _ _ hg,Result.andThen_ok,run_eql_struct,he]
  · simp only [if_true,Sem.run_bind,run_eqGuard_agg w _ t X Y _ _ hg,Result.andThen_ok,run_neq_struct,he]
theorem zBh {n : Nat} {x : AV} {v : Value} (h : Rel w M I n x v) {b : Bool} (hb : nilness x = some b) : ∃ a l c,v = .slice a l c ∧ a.isNone = b:=by
  cases h with
  | lnil q k hq=>simp only [nilness] at hb; refine ⟨none,0,0,rfl, ?_⟩; cases b <;> simp_all
  | lemp q k a hq=>simp only [nilness] at hb; refine ⟨_,_,_,rfl, ?_⟩; cases b <;> simp_all
  | lst q k xs g o cap V hq=>simp only [nilness] at hb; refine ⟨_,_,_,rfl, ?_⟩; cases b <;> simp_all
  | sln q b' k off hbn hM hq=>unfold nilness at hb; split at hb <;> simp_all
  | sl q b' k off len g o p cap hbn hM hc hm hq ha=>
    refine ⟨_,_,_,rfl, ?_⟩
    unfold nilness at hb
    split at hb
    · simp_all
    · simp_all
    · rename_i heq
      simp only [AV.sl.injEq] at heq
      obtain ⟨rfl,rfl,rfl,rfl,rfl⟩:=heq
      have:=hq rfl
      simp only [Option.some.injEq] at hb
      rw [← hb]; simp; omega
    · cases hb
  | _=>simp [nilness] at hb
theorem zMj (hS : Sim GT w M I H) {neg lit : Bool} {e : EK} {t : TypeId} {X Y : Operand} {x y : AV} {a b : Value} {r : Bool} (hx : Rel w M I H.length x a) (hy : Rel w M I H.length y b)
    (hek : zQm P t e = true) (hlit : lit = true → zE5 X = true ∨ zE5 Y = true) (h : zOK e lit x y = some r) :
    zL P GT w M I H (do eqGuard (if neg then .neq else .eql) t X Y a b; binOp (if neg then .neq else .eql) t a b) (.bool (if neg then !r else r)) H:=by
  refine zL.pure hS (v':=.bool (if neg then !r else r)) ?_ (.bool _)
  have fin : (∀ d,(Op.equalIn (d + 1) t a b).run P w = .ok r w) → (eqGuard (if neg then .neq else .eql) t X Y a b).run P w = .ok () w → (∀ op,(op = .eql ∨ op = .neq) → binOp op t a b = (if op = .eql then (do pure (.bool (← Op.equal t a b))) else do pure (.bool (!(← Op.equal t a b))))) →
      Sem.run P (do eqGuard (if neg then .neq else .eql) t X Y a b; binOp (if neg then .neq else .eql) t a b) w = .ok (.bool (if neg then !r else r)) w:=fun h0 h2 h3=>by
    have h1 : (Op.equal t a b).run P w = .ok r w:=h0 9999
    cases neg
    · simp only [Bool.false_eq_true,if_false] at h2 ⊢
      simp only [Sem.run_bind,h2,Result.andThen_ok,h3 .eql (.inl rfl),if_true,h1,Sem.run_pure]
    · simp only [if_true] at h2 ⊢
      simp only [Sem.run_bind,h2,Result.andThen_ok,h3 .neq (.inr rfl),reduceCtorEq,if_false,h1,Sem.run_pure]
  have sl : ∀ {a b},(∃ o l c,a = Value.slice o l c) → (∃ o l c,b = Value.slice o l c) → ∀ op,(op = .eql ∨ op = .neq) → binOp op t a b = (if op = .eql then (do pure (.bool (← Op.equal t a b))) else do pure (.bool (!(← Op.equal t a b)))):=by
    rintro _ _ ⟨o,l,c,rfl⟩ ⟨o',l',c',rfl⟩ op (rfl | rfl) <;> rfl
  unfold zOK at h
  split at h
  · -- nil,nil
    cases hx; cases hy
    split at h
    · rename_i hl
      simp only [Option.some.injEq] at h; subst h
      obtain ⟨ms,ht⟩ : ∃ ms,P.underlying t = some (.interface ms):=by simp only [zQm] at hek; split at hek <;> simp_all
      refine fin (fun d=>by simp [Op.equalIn,run_underlying ht]) ?_ (by rintro op (rfl | rfl) <;> rfl)
      have hc : ((match X with | .const _=>true | _=>false) || (match Y with | .const _=>true | _=>false)) = true:=by
        rcases hlit hl with h | h
        · cases X <;> simp_all [zE5]
        · cases Y <;> simp_all [zE5]
      cases neg <;> simp only [Bool.false_eq_true,if_false,if_true,eqGuard]
      · show Sem.run P (if ((match X with | .const _=>true | _=>false) || (match Y with | .const _=>true | _=>false)) = true then _ else _) w = _
        rw [if_pos hc]; rfl
      · show Sem.run P (if ((match X with | .const _=>true | _=>false) || (match Y with | .const _=>true | _=>false)) = true then _ else _) w = _
        rw [if_pos hc]; rfl
    · cases h
  all_goals first
    | (cases hx; cases hy
       simp only [Option.some.injEq] at h; subst h
       simp only [zQm] at hek
       split at hek
       · rename_i ht
         exact fin (fun d=>by simp [Op.equalIn,run_underlying ht]) (zAk (by simp) (by simp)) (by rintro op (rfl | rfl) <;> rfl)
       · cases hek)
    | skip
  · -- nil on the left
    obtain ⟨e,ht⟩ : ∃ e,P.underlying t = some (.slice e):=by simp only [zQm] at hek; split at hek <;> simp_all
    obtain ⟨o,l,c,rfl,ho⟩:=zBh hy h
    obtain ⟨o',l',c',rfl,ho'⟩:=zBh hx (b:=true) rfl
    simp only [Option.isNone_iff_eq_none] at ho'; subst ho'
    exact fin (fun d=>by simp [Op.equalIn,run_underlying ht,ho]) (zAk (by simp) (by simp)) (sl ⟨_,_,_,rfl⟩ ⟨_,_,_,rfl⟩)
  · obtain ⟨e,ht⟩ : ∃ e,P.underlying t = some (.slice e):=by simp only [zQm] at hek; split at hek <;> simp_all
    obtain ⟨o,l,c,rfl,ho⟩:=zBh hx h
    obtain ⟨o',l',c',rfl,ho'⟩:=zBh hy (b:=true) rfl
    simp only [Option.isNone_iff_eq_none] at ho'; subst ho'
    refine fin (fun d=>?_) (zAk (by simp) (by simp)) (sl ⟨_,_,_,rfl⟩ ⟨_,_,_,rfl⟩)
    cases o <;> simp at ho <;> subst ho <;> simp [Op.equalIn,run_underlying ht]
  · cases h
end
end Go.AM
namespace Go.AM
section
variable {P : Program} {GT : Nat → Option AV} {w : World} {M : AMap} {I : Nat → Prop} {H : Heap}
theorem zMk (hS : Sim GT w M I H) {s : Bool} {x : AV} {v : Value} {t ty : TypeId} {n : Nat} (hx : Rel w M I H.length x v) (h : aLen s x = some n) (ht : if s then zDA P t = true else ∃ e,P.underlying t = some (.slice e)) :
    zL P GT w M I H (Builtin.len_ #[t] ty #[v]) (.int .i64 n) H:=by
  unfold aLen at h
  split at h
  · obtain ⟨e,ht⟩:=ht
    cases h
    refine zL.pure hS (v':=.int .i64 _) ?_ (.int _ _)
    cases hx <;> simp [Builtin.len_,run_underlying ht,goInt]
  · obtain ⟨e,ht⟩:=ht
    cases h
    refine zL.pure hS (v':=.int .i64 _) ?_ (.int _ _)
    cases hx <;> simp [Builtin.len_,run_underlying ht,goInt]
  · have ht:=zET ht
    cases h
    refine zL.pure hS (v':=.int .i64 _) ?_ (.int _ _)
    cases hx; simp [Builtin.len_,run_underlying ht,goInt,zHc]
  · cases h
theorem zFS : ∀ {xs : List AV} {s : List UInt8},zDE xs = some s → ∃ ns : List Int,xs = ns.map (AV.int .u8) ∧ s = ns.map fun n=>UInt8.ofNat n.toNat
  | [],s,h=>by simp [zDE] at h; subst h; exact ⟨[],rfl,rfl⟩
  | x :: xs,s,h=>by
    cases x with
    | int k n=>
      cases k <;> simp only [zDE,reduceCtorEq] at h
      obtain ⟨r,hr,rfl⟩:=Option.map_eq_some_iff.1 h
      obtain ⟨ns,rfl,rfl⟩:=zFS hr
      exact ⟨n :: ns,rfl,rfl⟩
    | _=>simp [zDE] at h
theorem zLU (ns : List Int) : ∀ l : List UInt8,ns.foldl (fun (r : ByteArray) n=>r.push (UInt8.ofNat n.toNat)) ⟨l.toArray⟩ = ⟨(l ++ ns.map fun n=>UInt8.ofNat n.toNat).toArray⟩:=by
  induction ns with
  | nil=>intro l; simp
  | cons n ns ih=>
    intro l
    simp only [List.foldl_cons,List.map_cons]
    rw [show (⟨l.toArray⟩ : ByteArray).push (UInt8.ofNat n.toNat) = ⟨(l ++ [UInt8.ofNat n.toNat]).toArray⟩ by apply ByteArray.ext; simp [ByteArray.push],ih]
    simp
theorem zJ5 (hS : Sim GT w M I H) {s d : TypeId} {x : AV} {v : Value} {xs : List AV} {r : List UInt8} (hs : zLQ P s = true) (hd : zDA P d = true) (hx : Rel w M I H.length x v) (hv : view H 1 x = some xs) (hb : zDE xs = some r) :
    zL P GT w M I H (convert s d v) (.str r) H:=by
  obtain ⟨e,h1,h2⟩:=zKm hs
  have h3:=zET hd
  obtain ⟨ns,rfl,rfl⟩:=zFS hb
  obtain ⟨he,⟨rfl | ⟨a,rfl⟩,hnil⟩ | ⟨g,p,cap,rfl,hc,hm,hrow⟩⟩:=zHd hS hx hv
  · simp only [List.map_eq_nil_iff] at hnil
    subst hnil
    refine zL.pure hS (v':=.string ⟨[].toArray⟩) ?_ (.str _)
    rw [run_convert_bytes_string w s d e none 0 0 h1 h2 h3]
    simp [Conv.bytesToString]; rfl
  · simp only [List.map_eq_nil_iff] at hnil
    subst hnil
    refine zL.pure hS (v':=.string ⟨[].toArray⟩) ?_ (.str _)
    rw [run_convert_bytes_string w s d e (some a) 0 0 h1 h2 h3]
    simp [Conv.bytesToString,loadCells,loadCellsFrom]; rfl
  · refine zL.pure hS (v':=.string ⟨(ns.map fun n=>UInt8.ofNat n.toNat).toArray⟩) ?_ (.str _)
    rw [run_convert_bytes_string w s d e _ _ cap h1 h2 h3]
    have hl:=run_loadCells_list (P:=P) w ⟨g,p,none⟩ (ns.map (Value.int .u8)) (fun j u hu=>by
      rw [Addr.add_lit]
      simp only [List.getElem?_map,Option.map_eq_some_iff] at hu
      obtain ⟨m,hm,rfl⟩:=hu
      obtain ⟨u',a,b⟩:=hrow j 0 (.int .u8 m) (.int .u8 m) (by simp [hm]) rfl
      cases b
      rw [← a]; congr 2; omega)
    rw [List.length_map] at hl ⊢
    rw [run_bytesToString w _ _ cap ns hl]
    have:=zLU ns []
    simp only [List.nil_append] at this
    congr 2
theorem zCm (s : List UInt8) : Elems 1 (s.map zBK):=fun x hx=>by
  obtain ⟨c,_,rfl⟩:=List.mem_map.1 hx
  rfl
theorem zID (hS : Sim GT w M I H) {s d : TypeId} {l : List UInt8} (hs : (P.underlying s).isSome = true) (hd : zLQ P d = true) (hl : l.length ≤ 140737488355328) :
    zL P GT w M I H (convert s d (.string ⟨l.toArray⟩)) (.sl (some false) H.length 1 0 l.length) (H ++ [.row 1 (l.map zBK)]):=by
  obtain ⟨e,h1,h2⟩:=zKm hd
  obtain ⟨u,hu⟩:=Option.isSome_iff_exists.1 hs
  have hr:=Lib.run_convert_string_bytes (P:=P) w s d e ⟨l.toArray⟩ hu h1 h2
  have hge:=grownCap_ge w l.length 0 e
  have hcm:=grownCap_le_maxLen w l.length 0 e (by simp only [maxLen]; omega)
  have hnew:=Lib.bytesWorld_at_new w e ⟨l.toArray⟩
  have hsize : (Lib.bytesCells w e ⟨l.toArray⟩).size = grownCap w l.length 0 e:=by
    simp only [Lib.bytesCells,Array.size_append,Array.size_map,Array.size_replicate,zHc]; simp; omega
  have hheap : (Lib.bytesWorld w e ⟨l.toArray⟩).heap = w.heap.push (.cells (Lib.bytesCells w e ⟨l.toArray⟩) e ((Lib.bytesCells w e ⟨l.toArray⟩).size,(Lib.bytesCells w e ⟨l.toArray⟩).size + 1)):=by
    apply Array.ext_getElem?
    intro k
    rw [Array.getElem?_push]
    split
    · rename_i hk; rw [hk]; exact hnew
    · rename_i hk
      by_cases hlt : k < w.heap.size
      · exact Lib.bytesWorld_at_old w e _ k hlt
      · rw [Array.getElem?_eq_none (xs:=w.heap) tO,Array.getElem?_eq_none (by rw [Lib.bytesWorld_size]; omega)]
  have hos : (Lib.bytesWorld w e ⟨l.toArray⟩).os = w.os ∧ (Lib.bytesWorld w e ⟨l.toArray⟩).tape = w.tape ∧ (Lib.bytesWorld w e ⟨l.toArray⟩).output = w.output:=by
    exact ⟨rfl,rfl,rfl⟩
  obtain ⟨G,S⟩:=hS.push (blk:=.row 1 (l.map zBK)) hheap hos.1 hos.2.1 hos.2.2 (zCY (cells:=l.map fun c=>.int .u8 c.toNat) (o:=0) (zCm l) zP ⟨e,_,hnew,fun j hj h=>by omega⟩
    (fun h=>absurd (hS.idom _ h) (Nat.lt_irrefl _)) (by rw [hsize]; simpa using hge) (fun j hj=>by
      simp only [List.length_map,Nat.mul_one] at hj
      rw [Nat.zero_add,Lib.bytesCells,Array.getElem?_append_left (by simpa using hj)]
      simp) (by simp) (fun i j x c hi hj=>by
      simp only [List.getElem?_map,Option.map_eq_some_iff] at hi
      obtain ⟨b,hb,rfl⟩:=hi
      cases j with
      | zero=>simp [zBK,AV.cells] at hj; subst hj; exact ⟨.int .u8 b.toNat,by simp [hb],.int _ _⟩
      | succ j=>simp [zBK,AV.cells] at hj))
  refine ⟨_,_,_,I,hr,G,S, ?_⟩
  rw [zHc]
  exact .sl _ _ _ _ _ w.heap.size 0 0 _ (by simp) zP hge hcm (by simp) (fun _=>⟨by simp,e,_,by simp [World.shape?,hnew]; rfl,by rw [hsize]; simp⟩)
theorem zE8 (hS : Sim GT w M I H) {e : TypeId} {vs : Array Value} {cs : List AV} (hr : zBJ w M I H.length cs vs.toList) :
    Grow w M I H (w.alloc (.cells vs e)) (more M H.length (some (w.heap.size,0))) I (H ++ [.box cs]) ∧ Sim GT (w.alloc (.cells vs e)) (more M H.length (some (w.heap.size,0))) I (H ++ [.box cs]):=by
  have hheap : (w.alloc (.cells vs e)).heap = w.heap.push (.cells vs e):=rfl
  refine hS.push hheap rfl rfl rfl ⟨w.heap.size,0,vs,zP,⟨e,(0,0),by rw [hheap,Array.getElem?_push,if_pos rfl],fun j _ h=>absurd h.2 (Nat.not_lt_zero _)⟩,fun h=>absurd (hS.idom _ h) (Nat.lt_irrefl _),by have:=hr.1; simp at this; omega,fun j c hj=>?_⟩
  obtain ⟨v,hv,hrv⟩:=zAO hr hj
  refine ⟨v,by rw [Nat.zero_add,← hv]; simp, ?_⟩
  have:=(Sim.push (blk:=.dead) hS hheap rfl rfl rfl trivial).1.rel hS hrv
  simpa using this
theorem zJ6 (hS : Sim GT w M I H) {e : TypeId} {vs : Array Value} {cs : List AV} (hr : zBJ w M I H.length cs vs.toList) :
    Grow w M I H (w.alloc (.cells vs e)) (more (more M H.length (some (w.heap.size,0))) (H ++ [ABlk.box cs]).length none) I (H ++ [.box cs] ++ [.shp H.length e cs.length]) ∧
      Sim GT (w.alloc (.cells vs e)) (more (more M H.length (some (w.heap.size,0))) (H ++ [ABlk.box cs]).length none) I (H ++ [.box cs] ++ [.shp H.length e cs.length]):=by
  obtain ⟨G,S⟩:=zE8 (e:=e) hS hr
  have hl : H.length < (H ++ [ABlk.box cs]).length:=by simp
  obtain ⟨G2,S2⟩:=S.pushAny (blk:=.shp H.length e cs.length) ⟨hl,w.heap.size,by rw [zDd hl]; exact zP,by
    have hh : (w.alloc (.cells vs e)).heap[w.heap.size]? = some (.cells vs e (0,0)):=by
      show (w.heap.push (.cells vs e))[w.heap.size]? = _
      rw [Array.getElem?_push,if_pos rfl]
    simp only [World.shape?,hh]
    have:=hr.1
    rw [this]
    simp⟩
  exact ⟨G.trans G2,S2⟩
theorem zMl {s : Sem Value} {v : AV} {H0 : Heap} {t : Nat} {Q : World → AMap → Prop} (h : zGL P GT w M I H s v H0 Q) (hq : ∀ w' M',Q w' M' → ∃ g c,M' H.length = some (g,0) ∧ w'.shape? g = some (t,c)) (hl : H.length < H0.length) :
    zL P GT w M I H s v (H0 ++ [.ty H.length t]):=by
  obtain ⟨v',w',M',I',a,G,S,R,q⟩:=h
  obtain ⟨g,c,e1,e2⟩:=hq _ _ q
  obtain ⟨G2,S2⟩:=S.pushAny (blk:=.ty H.length t) ⟨hl,g,c,by rw [zDd hl]; exact e1,e2⟩
  exact ⟨v',w',_,I',a,G.trans G2,S2,G2.rel S R⟩
theorem zLV (hS : Sim GT w M I H) {t e : TypeId} {i : TypeInfo} {zv : Value} {z : AV} {k bytes : Nat} {kl kc : IntKind} {l c : Int} (ht : P.underlying t = some (.slice e)) (hi : P.info? e = some i) (hk : i.size = k) (hb : i.bytes = bytes) (hz : i.zero = some zv)
    (hzk : zv.cells.size = k) (hzz : zDG zv z = true) (hk0 : 0 < k) (h0 : 0 ≤ l) (hlc : l ≤ c) (hbytes : (bytes : Int) * c ≤ 281474976710656) (hc : c ≤ 9223372036854775807) (hel : z.elem k = true) :
    zL P GT w M I H (Instr.makeSlice t (.int kl l) (.int kc c)) (.sl (some false) H.length k 0 l.toNat) (H ++ [.row k (List.replicate l.toNat z)]):=by
  subst hk hb
  have hr:=run_make (P:=P) w t e i zv ht hi hz kl kc l c h0 hlc hbytes hc
  have hheap : (w.alloc (.cells (madeCells zv.cells (c.toNat * i.size)) e)).heap = w.heap.push (.cells (madeCells zv.cells (c.toNat * i.size)) e):=rfl
  have hzr:=zCX (zEP (w:=w) (M:=M) (I:=I) (n:=H.length) hzz) (zHe (List.all_eq_true.2 (AV.elem_iff.1 hel).2.2))
  have hlc' : l.toNat ≤ c.toNat:=by omega
  obtain ⟨G,S⟩:=hS.push (blk:=.row i.size (List.replicate l.toNat z)) hheap rfl rfl rfl (zCY (cells:=(madeCells zv.cells (l.toNat * i.size)).toList) (o:=0) (fun x hx=>by obtain ⟨_,rfl⟩:=List.mem_replicate.1 hx; exact hel) zP
    ⟨e,(0,0),by rw [hheap,Array.getElem?_push,if_pos rfl],fun j _ h=>absurd h.2 (Nat.not_lt_zero _)⟩
    (fun h=>absurd (hS.idom _ h) (Nat.lt_irrefl _)) (by rw [size_madeCells]; simpa using Nat.mul_le_mul_right _ hlc') (fun j hj=>by
      simp only [List.length_replicate] at hj
      have : l.toNat * i.size ≤ c.toNat * i.size:=Nat.mul_le_mul_right _ hlc'
      simp [madeCells,hj,show j < c.toNat * i.size by omega]) (by simp [size_madeCells]) (fun a j x c' hx hj=>by
      rw [List.getElem?_replicate] at hx
      split at hx
      case isFalse=>cases hx
      rename_i hal
      obtain rfl:=Option.some.inj hx
      obtain ⟨u,hu,hru⟩:=zAO hzr hj
      have hjl:=(zg hj).1
      rw [(AV.elem_iff.1 hel).1] at hjl
      have hlt : a * i.size + j < l.toNat * i.size:=by
        have : (a + 1) * i.size ≤ l.toNat * i.size:=Nat.mul_le_mul_right _ hal
        rw [Nat.add_mul] at this; omega
      refine ⟨u, ?_, ?_⟩
      · simp only [madeCells,Array.toList_map,Array.toList_range,List.getElem?_map,List.getElem?_range hlt,Option.map_some,hzk]
        rw [show (a * i.size + j) % i.size = j by rw [Nat.add_comm,Nat.add_mul_mod_self_right,Nat.mod_eq_of_lt hjl]]
        have hu' : zv.cells[j]? = some u:=by simpa using hu
        simp [getElem!_def,hu']
      · have:=(Sim.push (blk:=.dead) hS hheap rfl rfl rfl trivial).1.rel hS hru
        simpa using this))
  refine ⟨_,_,_,I,hr,G,S, ?_⟩
  exact .sl _ _ _ _ _ w.heap.size 0 0 _ (by simp) zP hlc' (by simp only [maxLen]; omega) (by simp) (fun _=>⟨by simp,e,_,by simp [World.shape?,hheap]; rfl,by rw [size_madeCells]; simp⟩)
def zDJ (cs : List Value) (o : Nat) (vs : List Value) : List Value:=cs.take o ++ vs ++ cs.drop (o + vs.length)
theorem zGM (off : Nat) : ∀ (l : List Value) (a : Nat) (cs : Array Value),off + a + l.length ≤ cs.size →
    ((l.zipIdx a).foldl (fun (cs : Array Value) (p : Value × Nat)=>cs.setIfInBounds (off + p.2) p.1) cs).toList = zDJ cs.toList (off + a) l
  | [],a,cs,h=>by simp [zDJ]
  | v :: l,a,cs,h=>by
    simp only [List.length_cons] at h
    simp only [List.zipIdx_cons,List.foldl_cons]
    rw [zGM off l (a + 1) _ (by simp; omega)]
    apply List.ext_getElem?
    intro j
    have hl : (cs.toList.take (off + (a + 1))).length = off + (a + 1):=by simp; omega
    simp only [zDJ,Array.toList_setIfInBounds,List.append_assoc,List.length_cons]
    by_cases h1 : j < off + a
    · rw [List.getElem?_append_left (by simp; omega),List.getElem?_append_left (by simp; omega),List.getElem?_take,List.getElem?_take,if_pos tO,if_pos h1,List.getElem?_set_ne tO]
    · rw [List.getElem?_append_right (l₁:=List.take (off + a) cs.toList) (by simp; omega)]
      have hl2 : (List.take (off + a) cs.toList).length = off + a:=by simp; omega
      rw [hl2]
      by_cases h2 : j = off + a
      · subst h2
        rw [List.getElem?_append_left (by simp; omega),List.getElem?_take,if_pos tO,List.getElem?_set_self (by simp; omega)]
        simp
      · have hl3 : (List.take (off + (a + 1)) (cs.toList.set (off + a) v)).length = off + (a + 1):=by simp; omega
        rw [List.getElem?_append_right (by rw [hl3]; omega),hl3]
        rw [show j - (off + a) = (j - (off + (a + 1))) + 1 by omega,List.cons_append,List.getElem?_cons_succ]
        by_cases h3 : j - (off + (a + 1)) < l.length
        · rw [List.getElem?_append_left h3,List.getElem?_append_left h3]
        · rw [List.getElem?_append_right tO,List.getElem?_append_right tO,List.getElem?_drop,List.getElem?_drop,List.getElem?_set_ne tO]
          congr 1; omega
theorem zLW {n : Nat} {cs vs : List AV} {us ws : List Value} (h1 : zBJ w M I n cs us) (h2 : zBJ w M I n vs ws) {o : Nat} (hle : o + vs.length ≤ cs.length) : zBJ w M I n (splice cs o vs) (zDJ us o ws):=by
  have l1:=h1.1
  have l2:=h2.1
  refine ⟨by simp [splice,zDJ]; omega,fun i c v hc hv=>?_⟩
  rw [zE7 hle] at hc
  have hv' : (zDJ us o ws)[i]? = if o ≤ i ∧ i < o + ws.length then ws[i - o]? else us[i]?:=by
    unfold zDJ
    have ho : (us.take o).length = o:=by simp; omega
    rw [List.append_assoc,List.getElem?_append,ho]
    split
    · rw [if_neg tO,List.getElem?_take,if_pos ‹_›]
    · rw [List.getElem?_append]
      split
      · rw [if_pos tO]
      · rw [if_neg tO,List.getElem?_drop]
        congr 1; omega
  rw [hv'] at hv
  split at hc
  · rw [if_pos tO] at hv; exact h2.2 _ c v hc hv
  · rw [if_neg tO] at hv; exact h1.2 _ c v hc hv
theorem zE9 {n : Nat} (place : Nat → Option (Nat × Nat)) : ∀ (ps : List (Nat × Value)) (pl : List (Nat × Nat)) (vs : List AV) (cells : Array Value) (cs cs' : List AV),ps.map (fun p=>place p.1) = pl.map some → zBJ w M I n vs (ps.map (·.2)) →
    zBJ w M I n cs cells.toList → zCN cs pl vs = some cs' → ∃ cells',Instr.fill place cells ps = some cells' ∧ zBJ w M I n cs' cells'.toList
  | [],[],[],cells,cs,cs',_,_,hc,hf=>by
    simp only [zCN,Option.some.injEq] at hf; subst hf
    exact ⟨cells,rfl,hc⟩
  | [],[],_ :: _,_,_,_,_,hv,_,_=>by have:=hv.1; simp at this
  | [],_ :: _,_,_,_,_,hp,_,_,_=>by simp at hp
  | _ :: _,[],_,_,_,_,hp,_,_,_=>by simp at hp
  | _ :: _,_ :: _,[],_,_,_,_,hv,_,_=>by have:=hv.1; simp at this
  | (i,u) :: ps,(o,s) :: pl,v :: vs,cells,cs,cs',hp,hv,hc,hf=>by
    simp only [List.map_cons,List.cons.injEq] at hp
    simp only [zCN] at hf
    split at hf
    · rename_i hcond
      obtain ⟨hs,hle,hone⟩:=hcond
      have hvu : Rel w M I n v u:=hv.2 0 v u rfl rfl
      have hvs : zBJ w M I n vs (ps.map (·.2)):=⟨by have:=hv.1; simpa using this,fun j c x h1 h2=>hv.2 (j + 1) c x (by simpa using h1) (by simpa using h2)⟩
      have hcu:=zCX hvu (zHe hone)
      have hul : u.cells.size = s:=by have:=hcu.1; simp at this; omega
      have hcl : cells.size = cs.length:=by have:=hc.1; simp at this; omega
      have hfold : (u.cells.zipIdx.foldl (fun (cs : Array Value) (p : Value × Nat)=>cs.setIfInBounds (o + p.2) p.1) cells).toList = zDJ cells.toList o u.cells.toList:=by
        rw [← Array.foldl_toList,Array.toList_zipIdx]
        have:=zGM o u.cells.toList 0 cells (by simp; omega)
        simpa using this
      obtain ⟨cells',r1,r2⟩:=zE9 place ps pl vs _ (splice cs o v.cells) cs' hp.2 hvs (by rw [hfold]; exact zLW hc hcu tO) hf
      refine ⟨cells', ?_,r2⟩
      simp only [Instr.fill,hp.1]
      rw [if_neg (by simp; omega)]
      exact r1
    · cases hf
theorem zJ7 (hS : Sim GT w M I H) {t : TypeId} {parts : Array (Nat × Value)} {z cs : List AV} {pl : List (Nat × Nat)} {vs : List AV} (hz : zGK P t z = true) (hso : zJ2 P t = true) (hpl : zBQ P t (parts.toList.map (·.1)) = some pl)
    (hv : zBJ w M I H.length vs (parts.toList.map (·.2))) (h : zCN z pl vs = some cs) : zL P GT w M I H (Instr.build t parts) (.agg cs) H:=by
  unfold zGK at hz
  split at hz
  · rename_i it hit
    split at hz
    · rename_i zv hzv
      have hzr:=zCV (w:=w) (M:=M) (I:=I) (n:=H.length) hz
      have main : ∀ place,(parts.toList.map (fun p=>place p.1) = pl.map some) → (∀ cells',Instr.fill place zv.cells parts.toList = some cells' → P.built t parts.toList = some cells') → zL P GT w M I H (Instr.build t parts) (.agg cs) H:=fun place hp hb=>by
        obtain ⟨cells',r1,r2⟩:=zE9 place parts.toList pl vs zv.cells z cs hp hv hzr h
        refine zL.pure hS (v':=.agg cells') (run_build w t parts cells' (hb _ r1)) ?_
        have:=Rel.agg (w:=w) (M:=M) (I:=I) (n:=H.length) cs cells'.toList r2.1 r2.2
        simpa using this
      unfold zJ2 at hso
      split at hso
      · rename_i fs hu
        have hm : ∃ places,fs.toList.mapM (fun (f : Field)=>(P.info? f.type).map fun i=>(f.offset,i.size)) = some places ∧ ∀ j : Nat,places[j]? = (fs.toList[j]?).bind fun (f : Field)=>(zBL P f.type).map fun s=>(f.offset,s):=by
          revert hso
          generalize fs.toList = l
          intro hso
          induction l with
          | nil=>exact ⟨[],rfl,by simp⟩
          | cons f l ih=>
            simp only [List.all_cons,Bool.and_eq_true] at hso
            obtain ⟨pl',e1,e2⟩:=ih hso.2
            obtain ⟨s,hs⟩:=Option.isSome_iff_exists.1 hso.1
            have hs':=hs
            unfold zBL at hs'
            obtain ⟨i,hi,hsz⟩:=Option.map_eq_some_iff.1 hs'
            refine ⟨(f.offset,i.size) :: pl',by simp [List.mapM_cons,hi,e1],fun j=>?_⟩
            cases j with
            | zero=>simp [hs,hsz]
            | succ j=>simpa using e2 j
        obtain ⟨places,m1,m2⟩:=hm
        refine main (places.toArray[·]?) ?_ (fun cells' hc=>by simp only [Program.built,hit,hu,hzv,m1]; exact hc)
        have : ∀ (is : List Nat) (pl : List (Nat × Nat)),zBQ P t is = some pl → is.map (fun i=>places.toArray[i]?) = pl.map some:=by
          intro is
          induction is with
          | nil=>intro pl h; simp [zBQ] at h; subst h; rfl
          | cons i is ih=>
            intro pl h
            simp only [zBQ,hu] at h
            split at h
            · rename_i f hf
              split at h
              · rename_i s pl' h1 h2
                cases h
                have hf' : fs.toList[i]? = some f:=by simpa using hf
                rw [List.map_cons,List.map_cons,ih _ h2]
                congr 1
                rw [List.getElem?_toArray,m2,hf']
                simp [h1]
              · cases h
            · cases h
        have:=this _ _ hpl
        simpa [List.map_map,Function.comp_def] using this
      · rename_i m e hu
        obtain ⟨s,hs⟩:=Option.isSome_iff_exists.1 hso
        have hs':=hs
        unfold zBL at hs'
        obtain ⟨ie,hie,hsz⟩:=Option.map_eq_some_iff.1 hs'
        refine main (fun i=>some (i * ie.size,ie.size)) ?_ (fun cells' hc=>by simp only [Program.built,hit,hu,hzv,hie]; exact hc)
        have : ∀ (is : List Nat) (pl : List (Nat × Nat)),zBQ P t is = some pl → is.map (fun i=>some (i * ie.size,ie.size)) = pl.map some:=by
          intro is
          induction is with
          | nil=>intro pl h; simp [zBQ] at h; subst h; rfl
          | cons i is ih=>
            intro pl h
            simp only [zBQ,hu,hs] at h
            split at h
            · rename_i s' pl' h1 h2
              simp only [Option.some.injEq] at h h1; subst h h1
              rw [List.map_cons,List.map_cons,ih _ h2]
              simp [hsz]
            · cases h
        have:=this _ _ hpl
        simpa [List.map_map,Function.comp_def] using this
      · cases hso
    · cases hz
  · cases hz
end
end Go.AM
namespace Go.AM
section
variable {P : Program} {GT : Nat → Option AV} {w : World} {M : AMap} {I : Nat → Prop} {H : Heap}
theorem zGN (k : Nat) : ∀ (vs : List AV) (a : Nat) (pre : List AV),pre.length = a * k → (∀ v ∈ vs,v.elem k = true) →
    zCN (pre ++ List.replicate (vs.length * k) .undef) ((List.range' a vs.length).map fun i=>(i * k,k)) vs = some (pre ++ vs.flatMap AV.cells)
  | [],a,pre,_,_=>by simp [zCN]
  | v :: vs,a,pre,hp,hv=>by
    obtain ⟨h1,h2,h3⟩:=AV.elem_iff.1 (hv v (by simp))
    have hone : v.cells.all AV.one = true:=List.all_eq_true.2 h3
    simp only [List.length_cons,List.range'_succ,List.map_cons,zCN]
    rw [if_pos ⟨h1,by simp [Nat.add_mul]; omega,hone⟩]
    have hs : splice (pre ++ List.replicate ((vs.length + 1) * k) AV.undef) (a * k) v.cells = (pre ++ v.cells) ++ List.replicate (vs.length * k) AV.undef:=by
      unfold splice
      rw [h1,← hp,List.take_left',List.drop_append]
      · simp [List.drop_replicate,Nat.add_mul]
      · rfl
    rw [hs,zGN k vs (a + 1) (pre ++ v.cells) (by simp [h1,hp,Nat.add_mul]) (fun x hx=>hv x (by simp [hx]))]
    simp
theorem zKn {k : Nat} : ∀ {xs : List AV} {i j : Nat} {x c : AV},Elems k xs → xs[i]? = some x → x.cells[j]? = some c → (xs.flatMap AV.cells)[i * k + j]? = some c
  | [],_,_,_,_,_,h,_=>by simp at h
  | y :: xs,i,j,x,c,he,hx,hj=>by
    have hy:=(AV.elem_iff.1 (he y (by simp))).1
    cases i with
    | zero=>
      simp at hx; subst hx
      rw [List.flatMap_cons,Nat.zero_mul,Nat.zero_add,List.getElem?_append_left (zg hj).1]
      exact hj
    | succ i=>
      rw [List.flatMap_cons,List.getElem?_append_right (by rw [hy,Nat.add_mul]; omega),hy]
      have:=zKn (xs:=xs) (fun z hz=>he z (by simp [hz])) (by simpa using hx) hj
      rw [← this]; congr 1
      rw [Nat.add_mul]; omega
theorem zKo {k : Nat} : ∀ {xs : List AV},Elems k xs → (xs.flatMap AV.cells).length = xs.length * k
  | [],_=>by simp
  | y :: xs,he=>by
    have hy:=(AV.elem_iff.1 (he y (by simp))).1
    have:=zKo (xs:=xs) (k:=k) (fun z hz=>he z (by simp [hz]))
    simp [hy,this,Nat.add_mul]; omega
theorem zI6 (hS : Sim GT w M I H) {t : TypeId} {len k : Nat} {parts : Array (Nat × Value)} {vs vs' : List AV} {H1 : Heap} (hsl : zBB P t k = true) (hz : (match P.underlying t with
      | some (.slice e)=>(match P.info? e with
        | some i=>i.zero.isSome
        | none=>false)
      | _=>false) = true) (hlim : len * k ≤ 16777216) (hlim' : len ≤ 16777216) (hidx : parts.toList.map (·.1) = List.range len)
    (hv : zBJ w M I H.length vs (parts.toList.map (·.2))) (hf : zMX 0 vs H = some (vs',H1)) (hel : vs'.all (fun v=>v.elem k) = true) :
    zL P GT w M I H (Instr.buildSlice t len parts) (.sl (some false) H1.length k 0 vs'.length) (H1 ++ [.row k vs']):=by
  obtain ⟨e,ht,hse⟩:=zFR hsl
  rw [ht] at hz
  simp only at hz
  split at hz
  case h_2=>cases hz
  rename_i i hi
  obtain ⟨zv,hzv⟩:=Option.isSome_iff_exists.1 hz
  have hagg:=Rel.agg (w:=w) (M:=M) (I:=I) (n:=H.length) vs (parts.toList.map (·.2)) hv.1 hv.2
  obtain ⟨I',G1,S1,R1,hlen,_⟩:=zGH 0 (.agg vs) hS hagg (x':=.agg vs') (H':=H1) (by simp [zCl,hf])
  have hr : zBJ w M I' H1.length vs' (parts.toList.map (·.2)):=by
    generalize hus : parts.toList.map (·.2) = us at R1
    cases R1 with
    | agg _ _ hl h=>exact ⟨hl,h⟩
  have hvl : vs'.length = len:=by have h1:=hr.1; have h2:=congrArg List.length hidx; simp at h1 h2; omega
  have hE : Elems k vs':=fun x hx=>List.all_eq_true.1 hel x hx
  subst hvl
  have hseq:=zGN k vs' 0 [] (by simp) hE
  simp only [List.nil_append] at hseq
  let base : Array Value:=(Array.range (vs'.length * k)).map (fun j=>(if vs'.length * k = 0 then (#[] : Array Value) else zv.cells)[j % (if vs'.length * k = 0 then (#[] : Array Value) else zv.cells).size]!)
  have hbase : zBJ w M I' H1.length (List.replicate (vs'.length * k) AV.undef) base.toList:=by
    refine ⟨by simp [base],fun a c v hc _=>?_⟩
    rw [List.getElem?_replicate] at hc
    split at hc
    · rw [← Option.some.inj hc]; exact .undef _
    · cases hc
  obtain ⟨cells',f1,f2⟩:=zE9 (w:=w) (M:=M) (I:=I') (n:=H1.length) (fun i=>some (i * k,k)) parts.toList _ vs' base _ _ (by
    have : parts.toList.map (fun p=>some (p.1 * k,k)) = (parts.toList.map (·.1)).map (fun i=>some (i * k,k)):=by simp
    rw [this,hidx,List.range_eq_range']
    simp) hr hbase hseq
  have hcl : cells'.toList.length = vs'.length * k:=by rw [← f2.1,zKo hE]
  have hrun : (Instr.buildSlice t vs'.length parts).run P w = .ok (.slice (some ⟨w.heap.size,0,none⟩) vs'.length vs'.length) (w.alloc (.cells cells' e)):=by
    have hno : ¬ (vs'.length * k > 2 ^ 24):=by omega
    have hzr : ∀ w : World,(zeroValue e).run P w = .ok zv w:=fun w=>by simp [zeroValue,typeInfo,hi,hzv]
    have f1' : Instr.fill (fun i=>some (i * k,k)) ((Array.range (vs'.length * k)).map (fun j=>(if vs'.length * k = 0 then (#[] : Array Value) else zv.cells)[j % (if vs'.length * k = 0 then (#[] : Array Value) else zv.cells).size]!)) parts.toList = some cells':=f1
    unfold Instr.buildSlice
    by_cases h0 : vs'.length * k = 0
    · simp only [if_pos h0] at f1'
      simp only [Sem.run_bind,run_underlying ht,Result.andThen_ok,zf hse,if_neg hno,if_pos h0,Sem.run_pure,f1']
      simp [newRow]
    · simp only [if_neg h0] at f1'
      simp only [Sem.run_bind,run_underlying ht,Result.andThen_ok,zf hse,if_neg hno,if_neg h0,hzr,Sem.run_pure,f1']
      simp [newRow]
  have hheap : (w.alloc (.cells cells' e)).heap = w.heap.push (.cells cells' e):=rfl
  obtain ⟨G,S⟩:=S1.push (blk:=.row k vs') hheap rfl rfl rfl (zCY (cells:=cells'.toList) (o:=0) hE zP ⟨e,(0,0),by rw [hheap,Array.getElem?_push,if_pos rfl],fun j _ h=>absurd h.2 (Nat.not_lt_zero _)⟩
    (fun h=>absurd (S1.idom _ h) (Nat.lt_irrefl _)) (by have:=hcl; simp at this; omega) (fun j hj=>by rw [Nat.zero_add]; simp) hcl (fun a j x c hx hj=>by
      obtain ⟨u,hu,hru⟩:=zAO f2 (zKn hE hx hj)
      refine ⟨u,hu, ?_⟩
      have:=(Sim.push (blk:=.dead) S1 hheap rfl rfl rfl trivial).1.rel S1 hru
      simpa using this))
  refine ⟨_,_,_,I',hrun,G1.trans G,S, ?_⟩
  refine .sl _ _ _ _ _ w.heap.size 0 0 _ (by simp) zP (Nat.le_refl _) ?_ (by simp) (fun _=>⟨by simp,e,_,by simp [World.shape?,hheap]; rfl,by have:=hcl; simp at this; simp; omega⟩)
  simp only [maxLen]; omega
end
end Go.AM
namespace Go.AM
section
variable {P : Program} {GT : Nat → Option AV} {w : World} {M : AMap} {I : Nat → Prop} {H : Heap}
theorem zGO {t : TypeId} (h : zCU P t = true) : ∃ fs f g,P.underlying t = some (.struct fs) ∧ fs.toList = [f,g] ∧ f.offset = 0 ∧ g.offset = 1 ∧ P.underlying f.type = some (.int .i64) ∧ P.underlying g.type = some (.int .i64) ∧ zDH P 30 t = some [.int .i64,.int .i64]:=by
  unfold zCU at h
  simp only [Bool.and_eq_true,decide_eq_true_eq] at h
  obtain ⟨h,h2⟩:=h
  split at h
  case h_2=>cases h
  rename_i fs ht
  split at h
  case h_2=>cases h
  rename_i f g hfs
  simp only [Bool.and_eq_true,beq_iff_eq] at h
  obtain ⟨⟨⟨h3,h4⟩,h5⟩,h6⟩:=h
  have int : ∀ {u : TypeId},zI3 P u .i64 = true → P.underlying u = some (.int .i64):=fun {u} hu=>by
    unfold zI3 at hu
    split at hu
    · rename_i k hk
      simp only [decide_eq_true_eq,beq_iff_eq] at hu
      rw [hk,hu]
    · cases hu
  exact ⟨fs,f,g,ht,hfs,h3,h4,int h5,int h6,h2⟩
theorem zPp {t : TypeId} (h : zCU P t = true) (p : Int × Int) (em : Bool) (n : Nat) : (Instr.checkKey em (n + 2) t (zEM p)).run P w = .ok () w:=by
  obtain ⟨fs,f,g,ht,hfs,h1,h2,h3,h4,_⟩:=zGO h
  rw [Instr.checkKey]
  simp only [zEM,Sem.run_bind,run_underlying ht,Result.andThen_ok]
  rw [← Array.forIn_toList,hfs]
  have hp : ∀ (u : TypeId) (o : Nat) (v : Value),P.underlying u = some (.int .i64) → (#[Value.int .i64 p.1,Value.int .i64 p.2])[o]? = some v → (Go.part u #[.int .i64 p.1,.int .i64 p.2] o).run P w = .ok v w:=fun u o v hu hv=>by
    simp [Go.part,isAgg,run_underlying hu,hv,Result.andThen]
  have hc : ∀ (u : TypeId) (v : Int),P.underlying u = some (.int .i64) → (Instr.checkKey em (n + 1) u (.int .i64 v)).run P w = .ok () w:=fun u v hu=>by
    simp [Instr.checkKey,run_underlying hu,Result.andThen]
  have p1:=hp f.type 0 (.int .i64 p.1) h3 rfl
  have p2:=hp g.type 1 (.int .i64 p.2) h4 rfl
  rw [← h1] at p1
  rw [← h2] at p2
  by_cases e1 : f.name = "_" <;> by_cases e2 : g.name = "_" <;> simp [List.forIn_cons,Sem.run_bind,e1,e2,Result.andThen,p1,p2,hc f.type p.1 h3,hc g.type p.2 h4,Sem.run_pure]
theorem zMm {t : TypeId} (h : zCU P t = true) (p q : Int × Int) : (Op.equal t (zEM p) (zEM q)).run P w = .ok (decide (p = q)) w:=by
  obtain ⟨fs,f,g,ht,hfs,h1,h2,h3,h4,hsh⟩:=zGO h
  have ha : zDr P t = some true:=by simp [zDr,ht]
  have:=(zIB (P:=P) (w:=w) (M:=fun _=>none) (I:=fun _=>False) 30 Op.maxDepth t _ hsh (by decide)).2.2 [.int .i64 p.1,.int .i64 p.2] [.int .i64 q.1,.int .i64 q.2] [.int .i64 p.1,.int .i64 p.2] [.int .i64 q.1,.int .i64 q.2] (decide (p = q)) (zEM p) (zEM q) 0
    ⟨rfl,fun i c v hc hv=>by rcases i with _ | _ | i <;> simp at hc hv <;> subst hc hv <;> exact .int _ _⟩ ⟨rfl,fun i c v hc hv=>by rcases i with _ | _ | i <;> simp at hc hv <;> subst hc hv <;> exact .int _ _⟩ (by
      simp only [zi,zHZ,and_self,if_true,Option.some.injEq,Bool.and_true]
      rw [Bool.eq_iff_iff]
      simp [Prod.ext_iff]) (.inl ⟨ha,rfl⟩) (.inl ⟨ha,rfl⟩)
  exact this
theorem zKp {t : TypeId} (h : zCU P t = true) (p : Int × Int) : ∀ (ks : List (Int × Int)) (es : List MapEntry) (i : Nat),es.map (·.key) = ks.map zEM →
    (Instr.findAsking t (zEM p) es i).run P w = .ok ((mfind p ks).bind fun j=>(es[j]?).map fun e=>(i + j,e.val)) w
  | [],es,i,he=>by
    have : es = []:=by cases es <;> simp at he ⊢
    subst this
    simp [Instr.findAsking,mfind]
  | x :: ks,[],i,he=>by simp at he
  | x :: ks,e :: es,i,he=>by
    simp only [List.map_cons,List.cons.injEq] at he
    have hq:=zMm (w:=w) h p x
    have ih:=zKp h p ks es (i + 1) he.2
    simp only [Instr.findAsking,Sem.run_bind,he.1,hq,Result.andThen_ok]
    by_cases hpx : p = x
    · simp [hpx,mfind]
    · simp only [hpx,decide_false,Bool.false_eq_true,if_false,ih,mfind]
      cases mfind p ks with
      | none=>simp
      | some j=>simp [Nat.add_assoc,Nat.add_comm 1 j]
theorem zGP {t : TypeId} (h : zCU P t = true) (p : Int × Int) (ks : List (Int × Int)) (es : List MapEntry) (he : es.map (·.key) = ks.map zEM) :
    (Instr.findKey t (zEM p) es).run P w = .ok ((mfind p ks).bind fun j=>(es[j]?).map fun e=>(j,e.val)) w:=by
  obtain ⟨fs,f,g,ht,_⟩:=zGO h
  rw [run_findKey_eq w (by simp [ht])]
  have:=zKp (w:=w) h p ks es 0 he
  simpa using this
theorem zKq {p : Int × Int} : ∀ {ks : List (Int × Int)} {j : Nat},mfind p ks = some j → j < ks.length ∧ ks[j]? = some p
  | [],j,h=>by simp [mfind] at h
  | x :: ks,j,h=>by
    unfold mfind at h
    split at h
    · rename_i e; cases h; exact ⟨by simp,by simp [e]⟩
    · obtain ⟨i,hi,rfl⟩:=Option.map_eq_some_iff.1 h
      obtain ⟨h1,h2⟩:=zKq hi
      exact ⟨by simp; omega,by simpa using h2⟩
theorem zGQ (hS : Sim GT w M I H) {m : AV} {v : Value} (hm : Rel w M I H.length m v) {ks : List (Int × Int)} {vs : List AV} (h : mview H m = some (ks,vs)) :
    (v = .map none ∧ ks = [] ∧ vs = []) ∨ ∃ (g : Nat) (es : Array MapEntry) (cl : Nat),v = .map (some g) ∧ w.heap[g]? = some (.map es cl) ∧ es.toList.map (·.key) = ks.map zEM ∧ vs.length = es.size ∧ (∀ x ∈ vs,x.noRef = true) ∧
      ∀ (i : Nat) (x : AV) (e : MapEntry),vs[i]? = some x → es[i]? = some e → Rel w M I H.length x e.val:=by
  cases m <;> simp only [mview,reduceCtorEq] at h
  case nilm=>
    cases hm
    simp only [Option.some.injEq,Prod.mk.injEq] at h
    exact .inl ⟨rfl,h.1.symm,h.2.symm⟩
  case mp b=>
    split at h
    case h_2=>cases h
    rename_i ks' vs' hb
    simp only [Option.some.injEq,Prod.mk.injEq] at h
    obtain ⟨rfl,rfl⟩:=h
    obtain ⟨g,es,cl,h1,h2,h3,h4,h5,h6,h7⟩:=hS.blk b _ hb
    cases hm with
    | mp _ g' hbn hM=>
      rw [hM] at h1
      simp only [Option.some.injEq,Prod.mk.injEq,and_true] at h1
      subst h1
      exact .inr ⟨_,es,cl,rfl,h2,h4,h5,h6,h7⟩
  case mps ks' vs'=>
    simp only [Option.some.injEq,Prod.mk.injEq] at h
    obtain ⟨rfl,rfl⟩:=h
    cases hm with
    | mps _ _ g es clock hI hw hk hl hn hv=>exact .inr ⟨g,es,clock,rfl,hw,hk,hl,hn,hv⟩
theorem zGR {n : Nat} {k : AV} {v : Value} (hk : Rel w M I n k v) {p : Int × Int} (h : zOM k = some p) : v = zEM p:=by
  unfold zOM at h
  split at h
  case h_2=>cases h
  rename_i a b
  simp only [Option.some.injEq] at h
  subst h
  cases hk with
  | agg _ vs hl hv=>
    match vs,hl with
    | [x,y],_=>
      have h1:=hv 0 _ x rfl rfl
      have h2:=hv 1 _ y rfl rfl
      cases h1; cases h2; rfl
theorem zDe {g : Nat} {es : Array MapEntry} {cl : Nat} (hb : w.heap[g]? = some (.map es cl)) : (getObj g).run P w = .ok (.map es cl) w:=by simp [getObj,Sem.run,hb]
theorem zHh {g : Nat} {es : Array MapEntry} {cl : Nat} (o : Obj) (hb : w.heap[g]? = some (.map es cl)) : (setObj g o).run P w = .ok () { w with heap:=w.heap.setIfInBounds g o }:=by simp [setObj,Sem.run,hb]
theorem zF2 {t : TypeId} (h : zCU P t = true) (p : Int × Int) (em : Bool) : (Instr.checkKey em 10000 t (zEM p)).run P w = .ok () w:=zPp h p em 9998
theorem zLX {mt kt et : TypeId} (hmt : P.underlying mt = some (.map kt et)) (hkt : zCU P kt = true) {es : Array MapEntry} {mv : Value} (hm : (mv = .map none ∧ es = #[]) ∨ ∃ g cl,mv = .map (some g) ∧ w.heap[g]? = some (.map es cl)) (p : Int × Int)
    {o : Option (Nat × Value)} (hf : (Instr.findKey kt (zEM p) es.toList).run P w = .ok o w) (ok : Bool) {zv : Value} (hz : (zeroValue et).run P w = .ok zv w) :
    (Instr.lookup mt mv (zEM p) ok).run P w = .ok (match (generalizing:=false) o with
      | some (_,v)=>if ok then .tuple #[v,.bool true] else v
      | none=>if ok then .tuple #[zv,.bool false] else zv) w:=by
  unfold Instr.lookup
  rcases hm with ⟨rfl,rfl⟩ | ⟨g,cl,rfl,hg⟩
  · rcases o with _ | ⟨i,v⟩ <;> simp only [Sem.run_bind,run_underlying hmt,Result.andThen_ok,Sem.run_pure,zF2 hkt p,hf,hz]
  · rcases o with _ | ⟨i,v⟩ <;> simp only [Sem.run_bind,run_underlying hmt,Result.andThen_ok,Sem.run_pure,zDe hg,zF2 hkt p,hf,hz]
theorem zMn (hS : Sim GT w M I H) {mt kt et : TypeId} (hmt : P.underlying mt = some (.map kt et)) (hkt : zCU P kt = true) {i : TypeInfo} {zv : Value} {z : AV} (hi : P.info? et = some i) (hz : i.zero = some zv) (hzr : ∀ n,Rel w M I n z zv)
    {m k r : AV} {mv kv : Value} {ok : Bool} (hm : Rel w M I H.length m mv) (hk : Rel w M I H.length k kv) (h : zPk H z ok m k = some r) :
    ∃ v,(Instr.lookup mt mv kv ok).run P w = .ok v w ∧ Rel w M I H.length r v:=by
  unfold zPk at h
  split at h
  case h_2=>cases h
  rename_i ks vs hmv
  split at h
  case h_2=>cases h
  rename_i p hp
  have ek:=zGR hk hp
  subst ek
  have fin : ∀ (u : AV) (uv : Value) (b : Bool),Rel w M I H.length u uv → r = (if ok then .tup [u,.bool b] else u) → Rel w M I H.length r (if ok then .tuple #[uv,.bool b] else uv):=fun u uv b hu hr=>by
    subst hr
    cases ok
    · exact hu
    · exact .tup [u,.bool b] [uv,.bool b] rfl fun i c v hc hv=>by
        rcases i with _ | _ | i <;> simp at hc hv
        · subst hc hv; exact hu
        · subst hc hv; exact .bool b
  have hzero : (zeroValue et).run P w = .ok zv w:=by simp [zeroValue,typeInfo,hi,hz,Result.andThen]
  obtain ⟨es,hes,hkk,hl,hv⟩ : ∃ es : Array MapEntry,((mv = .map none ∧ es = #[]) ∨ ∃ g cl,mv = .map (some g) ∧ w.heap[g]? = some (.map es cl)) ∧ es.toList.map (·.key) = ks.map zEM ∧ vs.length = es.size ∧ ∀ (i : Nat) (x : AV) (e : MapEntry),vs[i]? = some x → es[i]? = some e → Rel w M I H.length x e.val:=by
    rcases zGQ hS hm hmv with ⟨h1,rfl,rfl⟩ | ⟨g,es,cl,h1,hw,hkk,hl,_,hv⟩
    · exact ⟨#[],.inl ⟨h1,rfl⟩,rfl,rfl,fun i x e hx _=>by simp at hx⟩
    · exact ⟨es,.inr ⟨g,cl,h1,hw⟩,hkk,hl,hv⟩
  have hfk:=zGP (w:=w) hkt p ks es.toList hkk
  have hrun:=zLX hmt hkt hes p hfk ok hzero
  refine ⟨_,hrun, ?_⟩
  split at h
  · rename_i j hj
    obtain ⟨x,hx,hr⟩:=Option.map_eq_some_iff.1 h
    have hjl : j < es.size:=by have:=(zg hx).1; omega
    obtain ⟨e,he⟩ : ∃ e,es[j]? = some e:=⟨_,Array.getElem?_eq_getElem hjl⟩
    have he' : es.toList[j]? = some e:=by simpa using he
    rw [hj,Option.bind_some,he',Option.map_some]
    exact fin x e.val true (hv j x e hx he) hr.symm
  · rename_i hj
    simp only [Option.some.injEq] at h
    rw [hj,Option.bind_none]
    exact fin z zv false (hzr _) h.symm
theorem zMo (p : Int × Int) : (Instr.keyThatStays (zEM p) (zEM p)).run P w = .ok (zEM p) w:=by
  have : Instr.sameBits 10000 (zEM p) (zEM p) = true:=by simp [zEM,Instr.sameBits]
  simp [Instr.keyThatStays,this]
theorem zI7 (hS : Sim GT w M I H) {mt kt et : TypeId} (hmt : P.underlying mt = some (.map kt et)) (hkt : zCU P kt = true)
    {m k x : AV} {mv kv xv : Value} {H' : Heap} (hm : Rel w M I H.length m mv) (hk : Rel w M I H.length k kv) (hx : Rel w M I H.length x xv) (h : zPl H m k x = some H') :
    ∃ w',(Instr.mapUpdate mt mv kv xv).run P w = .ok () w' ∧ Grow w M I H w' M I H' ∧ Sim GT w' M I H':=by
  unfold zPl at h
  split at h
  case h_2=>cases h
  rename_i b
  split at h
  case h_2=>cases h
  rename_i ks vs hb
  split at h
  case h_2=>cases h
  rename_i p hp
  split at h
  case isFalse=>cases h
  rename_i hnx
  simp only [Option.some.injEq] at h
  subst h
  have ek:=zGR hk hp
  subst ek
  obtain ⟨g,es,cl,h1,h2,h3,h4,h5,h6,h7⟩:=hS.blk b _ hb
  cases hm with
  | mp _ g' hbn hM=>
    rw [hM] at h1
    simp only [Option.some.injEq,Prod.mk.injEq,and_true] at h1
    subst h1
    have hfk:=zGP (w:=w) hkt p ks es.toList h4
    have hlen : ks.length = es.size:=by have:=congrArg List.length h4; simpa using this.symm
    unfold mput
    cases hj : mfind p ks with
    | some j=>
      have ⟨hjk,hjp⟩:=zKq hj
      obtain ⟨e,he⟩ : ∃ e,es[j]? = some e:=⟨_,Array.getElem?_eq_getElem tO⟩
      have he' : es.toList[j]? = some e:=by simpa using he
      have hek : e.key = zEM p:=by
        have : (es.toList.map (·.key))[j]? = (ks.map zEM)[j]?:=by rw [h4]
        rw [List.getElem?_map,List.getElem?_map,he',hjp] at this
        simpa using this
      rw [hj,Option.bind_some,he',Option.map_some] at hfk
      let es':=es.modify j fun e=>{ e with key:=zEM p,val:=xv }
      let w' : World:={ w with heap:=w.heap.setIfInBounds g' (.map es' cl) }
      have hsz : es'.size = es.size:=by simp [es']
      have hget : ∀ i,es'[i]? = if j = i then (es[i]?).map (fun e=>{ e with key:=zEM p,val:=xv }) else es[i]?:=fun i=>by
        simp only [es',Array.getElem?_modify]
      refine ⟨w', ?_,hS.turnMap (w':=w') (es':=es') (cl':=cl) hb hM h2 rfl rfl rfl rfl ?_ (by simp only [List.length_set,hsz]; exact h5) (fun y hy=>?_) (fun i y e1 hy he1=>?_)⟩
      · unfold Instr.mapUpdate
        simp only [Sem.run_bind,run_underlying hmt,Result.andThen_ok,zDe h2,zF2 hkt p,hfk,he,Option.map_some,Option.getD_some,hek,zMo,zHh _ h2]
        rfl
      · rw [← h4]
        apply List.ext_getElem?
        intro i
        rw [List.getElem?_map,List.getElem?_map,Array.getElem?_toList,Array.getElem?_toList,hget]
        by_cases hij : j = i
        · subst hij; rw [if_pos rfl,he]; simp [hek]
        · rw [if_neg hij]
      · rcases List.mem_or_eq_of_mem_set hy with h | h
        · exact h6 y h
        · rw [h]; exact hnx
      · rw [hget] at he1
        rw [List.getElem?_set] at hy
        by_cases hij : j = i
        · subst hij
          rw [if_pos rfl,he] at he1
          simp only [Option.map_some,Option.some.injEq] at he1
          subst he1
          rw [if_pos rfl,if_pos tO] at hy
          cases hy
          exact hx
        · rw [if_neg hij] at he1 hy
          exact h7 i y e1 hy he1
    | none=>
      rw [hj,Option.bind_none] at hfk
      let es':=es.push { key:=zEM p,val:=xv,born:=cl }
      let w' : World:={ w with heap:=w.heap.setIfInBounds g' (.map es' (cl + 1)) }
      refine ⟨w', ?_,hS.turnMap (w':=w') (es':=es') (cl':=cl + 1) hb hM h2 rfl rfl rfl rfl (by simp [es',h4]) (by simp [es',h5]) (fun y hy=>?_) (fun i y e1 hy he1=>?_)⟩
      · unfold Instr.mapUpdate
        simp only [Sem.run_bind,run_underlying hmt,Result.andThen_ok,zDe h2,zF2 hkt p,hfk,zHh _ h2]
        rfl
      · simp only [List.mem_append,List.mem_singleton] at hy
        rcases hy with h | h
        · exact h6 y h
        · rw [h]; exact hnx
      · simp only [es',Array.getElem?_push] at he1
        by_cases hi : i = es.size
        · rw [if_pos hi] at he1
          simp only [Option.some.injEq] at he1
          subst he1
          rw [List.getElem?_append_right tO,hi,h5,Nat.sub_self] at hy
          simp only [List.getElem?_cons_zero,Option.some.injEq] at hy
          subst hy
          exact hx
        · rw [if_neg hi] at he1
          have : i < es.size:=(Array.getElem?_eq_some_iff.1 he1).1
          rw [List.getElem?_append_left tO] at hy
          exact h7 i y e1 hy he1
theorem zON (hS : Sim GT w M I H) (t : TypeId) : ∃ v w' M',(Instr.makeMap t none).run P w = .ok v w' ∧ Grow w M I H w' M' I (H ++ [.mp [] []]) ∧ Sim GT w' M' I (H ++ [.mp [] []]) ∧ Rel w' M' I (H ++ [ABlk.mp [] []]).length (.mp H.length) v:=by
  have hh : (w.alloc (.map #[] 0)).heap = w.heap.push (.map #[] 0):=rfl
  obtain ⟨h1,h2⟩:=hS.push (w':=w.alloc (.map #[] 0)) (obj:=.map #[] 0) hh rfl rfl rfl (blk:=.mp [] []) ⟨w.heap.size,#[],0,zP,by rw [hh]; simp,fun h=>by have:=hS.idom _ h; omega,rfl,rfl,by simp,by simp⟩
  refine ⟨.map (some w.heap.size),_,_, ?_,h1,h2,.mp _ _ (by simp) zP⟩
  simp [Instr.makeMap,Result.andThen]
theorem zLY (hS : Sim GT w M I H) {mt kt et : TypeId} (hmt : P.underlying mt = some (.map kt et)) {m : AV} {mv : Value} (hm : Rel w M I H.length m mv) {ks : List (Int × Int)} {vs : List AV} (h : mview H m = some (ks,vs)) (ty : TypeId) :
    (Builtin.len_ #[mt] ty #[mv]).run P w = .ok (.int .i64 (vs.length : Int)) w:=by
  rcases zGQ hS hm h with ⟨rfl,rfl,rfl⟩ | ⟨g,es,cl,rfl,hw,hkk,hl,_,hv⟩
  · simp [Builtin.len_,run_underlying hmt,Result.andThen,goInt]
  · simp [Builtin.len_,run_underlying hmt,Result.andThen,zDe hw,goInt,hl]
theorem zJ8 (hS : Sim GT w M I H) {t e ty : TypeId} {i : TypeInfo} {zv : Value} {z : AV} {k : Nat} (ht : P.underlying t = some (.slice e)) (hi : P.info? e = some i) (hz : i.zero = some zv) (hzk : zv.cells.size = k) (hzz : zDG zv z = true) (hel : z.elem k = true)
    {q : Option Bool} {b off len : Nat} {v : Value} {xs : List AV} (hx : Rel w M I H.length (.sl q b k off len) v) (hb : H[b]? = some (.row k xs)) (hle : off + len ≤ xs.length) (h0 : 0 < len) :
    ∃ w',(Builtin.clear_ #[t] ty #[v]).run P w = .ok (.tuple #[]) w' ∧ Grow w M I H w' M I (H.set b (.row k (xs.take off ++ List.replicate len z ++ xs.drop (off + len)))) ∧ Sim GT w' M I (H.set b (.row k (xs.take off ++ List.replicate len z ++ xs.drop (off + len)))):=by
  cases hx with
  | sln q b k off hbn hM hq=>omega
  | sl q b k off len g o p cap hbn hM hc hm hq ha=>
  obtain ⟨hp,_⟩:=ha tO
  subst hp
  obtain ⟨he,⟨h1,_⟩ | ⟨g',o',cur,h1,h2,h3,h4,h5⟩⟩:=hS.blk b _ hb
  · rw [hM] at h1; cases h1
  rw [hM] at h1; cases h1
  obtain ⟨et,fz,hcur,hfz⟩:=h2
  have hzr:=zCX (zEP (w:=w) (M:=M) (I:=I) (n:=H.length) hzz) (zHe (List.all_eq_true.2 (AV.elem_iff.1 hel).2.2))
  have hone : ∀ u ∈ zv.cells.toList,u.oneCell' = true:=fun u hu=>by
    obtain ⟨j,hj⟩:=List.getElem?_of_mem hu
    have hjl:=(zg hj).1
    have hcl : z.cells.length = zv.cells.toList.length:=hzr.1
    obtain ⟨c,hcj⟩ : ∃ c,z.cells[j]? = some c:=⟨_,List.getElem?_eq_getElem tO⟩
    exact (hzr.2 j c u hcj hj).oneCell ((AV.elem_iff.1 hel).2.2 c (List.mem_of_getElem? hcj))
  obtain ⟨zs,hzs⟩ : ∃ zs,(Builtin.zeroCells zv.cells len).toList = zs:=⟨_,rfl⟩
  have hzl : zs.length = len * k:=by rw [← hzs]; simp [Builtin.zeroCells,hzk]
  have hzg : ∀ a j u,a < len → zv.cells.toList[j]? = some u → zs[a * k + j]? = some u:=fun a j u ha' hj=>by
    have hjl:=(zg hj).1
    have hjk : j < k:=by simp at hjl; omega
    have hlt : a * k + j < len * k:=by
      have : (a + 1) * k ≤ len * k:=Nat.mul_le_mul_right _ ha'
      rw [Nat.add_mul] at this; omega
    rw [← hzs]
    simp only [Builtin.zeroCells,Array.toList_map,Array.toList_range,List.getElem?_map,hzk,List.getElem?_range hlt,Option.map_some]
    rw [show (a * k + j) % k = j by rw [Nat.add_comm,Nat.add_mul_mod_self_right,Nat.mod_eq_of_lt hjk]]
    have hu' : zv.cells[j]? = some u:=by simpa using hj
    simp [getElem!_def,hu']
  have hzo : ∀ u ∈ zs,u.oneCell' = true:=fun u hu=>by
    rw [← hzs] at hu
    simp only [Builtin.zeroCells,Array.toList_map,List.mem_map] at hu
    obtain ⟨x,hx,rfl⟩:=hu
    have hk0 : 0 < k:=by
      rcases Nat.eq_zero_or_pos k with h | h
      · simp [hzk,h] at hx
      · exact h
    have hlt : x % zv.cells.size < zv.cells.size:=Nat.mod_lt _ tO
    rw [getElem!_pos zv.cells _ hlt]
    exact hone _ (by simp)
  have hspan : o + off * k + 0 + zs.length ≤ cur.size:=by
    have : (off + len) * k ≤ xs.length * k:=Nat.mul_le_mul_right _ hle
    rw [Nat.add_mul] at this
    omega
  obtain ⟨cur',w',r1,r2,r3,r4,r5,r6,r7,r8⟩:=z7 (P:=P) g (o + off * k) et fz zs 0 cur w hcur (fun j hj=>hfz j tO) hspan hzo
  refine ⟨w', ?_, ?_⟩
  · obtain ⟨m,rfl⟩ : ∃ m,len = m + 1:=⟨len - 1,by omega⟩
    have hzv : (zeroValue e).run P w = .ok zv w:=by simp [zeroValue,typeInfo,hi,hz,Result.andThen]
    simp [Builtin.clear_,run_underlying ht,hzv,hzs,r1,Result.andThen]
  · have hlt:=(Array.getElem?_eq_some_iff.1 hcur).1
    have hgg : w'.heap[g]? = some (.cells cur' et fz):=by rw [r2,Array.getElem?_setIfInBounds,if_pos rfl,if_pos hlt]
    have hylen : (xs.take off ++ List.replicate len z ++ xs.drop (off + len)).length = xs.length:=by
      simp only [List.length_append,List.length_take,List.length_replicate,List.length_drop]; omega
    have hlive : zC2 H M g:=⟨b,_,o,hb,rfl,hM⟩
    have hIb : ∀ k',I k' → w'.heap[k']? = w.heap[k']?:=fun k' hk'=>by
      have hne : k' ≠ g:=fun e=>hS.notLive hk' (by rw [e]; exact hlive)
      rw [r2,Array.getElem?_setIfInBounds_ne (Ne.symm hne)]
    have hsh : ∀ k' s,w.shape? k' = some s → w'.shape? k' = some s:=fun k' s h=>by
      by_cases hk : k' = g
      · subst hk
        simp [World.shape?,hcur] at h
        simp [World.shape?,hgg,r6,h]
      · have e:=zd (w:=w) (w':=w') (g:=k') (by rw [r2,Array.getElem?_setIfInBounds_ne (Ne.symm hk)])
        rw [e]; exact h
    have R : ∀ {c u},Rel w M I H.length c u → Rel w' M I H.length c u:=fun h=>h.mono (fun _ h=>h) hIb (fun _ _=>rfl) (Nat.le_refl _) hsh
    refine hS.write hb rfl hM hcur r6 r2 r3 r4 r5 ⟨fun x hx=>?_,.inr ⟨g,o,cur',hM,⟨et,fz,hgg,by rw [r6]; exact hfz⟩,h3,by rw [hylen,r6]; exact h4,fun a j x c hx hj=>?_⟩⟩
    · simp only [List.mem_append] at hx
      rcases hx with (hx | hx) | hx
      · exact he x (List.mem_of_mem_take hx)
      · obtain ⟨_,rfl⟩:=List.mem_replicate.1 hx; exact hel
      · exact he x (List.mem_of_mem_drop hx)
    · have old : xs[a]? = some x → (a < off ∨ off + len ≤ a) → ∃ v,cur'[o + a * k + j]? = some v ∧ Rel w' M I H.length c v:=fun hxo hao=>by
        obtain ⟨u,hu,hru⟩:=h5 a j x c hxo hj
        refine ⟨u, ?_,R hru⟩
        rw [r8 _ ?_]
        · exact hu
        · have hjl:=(zg hj).1
          rw [(AV.elem_iff.1 (he x (List.mem_of_getElem? hxo))).1] at hjl
          rcases hao with hao | hao
          · left
            have : (a + 1) * k ≤ off * k:=Nat.mul_le_mul_right _ hao
            rw [Nat.add_mul] at this; omega
          · right
            have : (off + len) * k ≤ a * k:=Nat.mul_le_mul_right _ hao
            rw [Nat.add_mul] at this; omega
      by_cases ha1 : a < off
      · rw [List.append_assoc,List.getElem?_append_left (by rw [List.length_take]; omega),List.getElem?_take,if_pos ha1] at hx
        exact old hx (.inl ha1)
      · by_cases ha2 : a < off + len
        · rw [List.getElem?_append_left (by rw [List.length_append,List.length_take,List.length_replicate]; omega),List.getElem?_append_right (by rw [List.length_take]; omega),List.getElem?_replicate,List.length_take] at hx
          split at hx
          case isFalse=>cases hx
          cases hx
          obtain ⟨u,hu,hru⟩:=zAO hzr hj
          refine ⟨u, ?_,R hru⟩
          have:=r7 ((a - off) * k + j) (by
            have hh:=hzg (a - off) j u tO hu
            exact (zg hh).1)
          rw [hzg (a - off) j u tO hu] at this
          rw [← this]
          congr 1
          have e1 : a * k = off * k + (a - off) * k:=by rw [← Nat.add_mul]; congr 1; omega
          omega
        · rw [List.getElem?_append_right (by rw [List.length_append,List.length_take,List.length_replicate]; omega),List.length_append,List.length_take,List.length_replicate,List.getElem?_drop] at hx
          have e : off + len + (a - (min off xs.length + len)) = a:=by omega
          rw [e] at hx
          exact old hx (.inr tO)
end
end Go.AM
