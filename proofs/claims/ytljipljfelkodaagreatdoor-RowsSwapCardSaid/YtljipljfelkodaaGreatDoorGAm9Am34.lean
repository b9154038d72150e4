/- Several texts of mine in one (Am9, Am10, Am11, Am34). Own work. -/
import Derived.Test.YtljipljfelkodaaGreatDoorGAm4Am8
import Derived.Laws.Tables
import Derived.WideKeyRuns
set_option linter.all false
namespace Go.AM
section
variable {P : Program} {GT : Nat → Option AV} {w : World} {M : AMap} {I : Nat → Prop} {H : Heap}
theorem zIO {t : TypeId} (h : zHv P t = true) : P.underlying t = some .string:=by
  simp only [zHv] at h; split at h
  · assumption
  · cases h
theorem isInt_eq {t : TypeId} {k : IntKind} (h : isInt P t k = true) : P.underlying t = some (.int k):=by
  simp only [isInt] at h; split at h
  · rename_i k' hk; simp at h; subst h; exact hk
  · cases h
theorem isU8s_eq {t : TypeId} (h : isU8s P t = true) : ∃ e,P.underlying t = some (.slice e) ∧ P.underlying e = some (.int .u8):=by
  simp only [isU8s] at h; split at h
  · rename_i e he; exact ⟨e,he,isInt_eq h⟩
  · cases h
theorem zJr {t : TypeId} {k : Nat} (h : zDD P t k = true) : ∃ e,P.underlying t = some (.slice e) ∧ zDX P e = some k:=by
  simp only [zDD] at h; split at h
  · rename_i e he; exact ⟨e,he,by simpa using h⟩
  · cases h
theorem isArrOf_eq {t : TypeId} {n k : Nat} (h : isArrOf P t n k = true) : ∃ e,P.underlying t = some (.array n e) ∧ zDX P e = some k:=by
  simp only [isArrOf] at h; split at h
  · rename_i m e he
    simp at h; obtain ⟨rfl,h⟩:=h; exact ⟨e,he,h⟩
  · cases h
theorem bin_sound (hS : Sim GT w M I H) {op : BinOp} {t : TypeId} {X Y : Operand} {x y v : AV} {a b : Value} (hx : Rel w M I H.length x a) (hy : Rel w M I H.length y b) (h : aBin op x y = some v) :
    z6 P GT w M I H (do eqGuard op t X Y a b; binOp op t a b) v H:=by
  have GI : ∀ (k k' : IntKind) (m m' : Int),(eqGuard op t X Y (.int k m) (.int k' m')).run P w = .ok () w:=fun _ _ _ _=>zCW (by simp) (by simp)
  have GS : ∀ (s s' : ByteArray),(eqGuard op t X Y (.string s) (.string s')).run P w = .ok () w:=fun _ _=>zCW (by simp) (by simp)
  unfold aBin at h
  split at h
  · rename_i k a k' b
    cases hx; cases hy
    split at h
    · rename_i hs
      obtain ⟨v',r,R⟩:=shift_run (P:=P) (w:=w) (M:=M) (I:=I) (k':=k') t hs h
      exact z6.pure hS (by rw [Sem.run_bind,GI]; exact r) (R _)
    · split at h
      · rename_i hk; subst hk
        obtain ⟨v',r,R⟩:=intBin_run (P:=P) (w:=w) (M:=M) (I:=I) t h
        exact z6.pure hS (by rw [Sem.run_bind,GI]; exact r) (R _)
      · cases h
  · cases hx; cases hy
    obtain ⟨v',r,R⟩:=str_run (P:=P) (w:=w) (M:=M) (I:=I) t h
    exact z6.pure hS (by rw [Sem.run_bind,GS]; exact r) (R _)
  · cases h
theorem eqs_sound (hS : Sim GT w M I H) {neg : Bool} {sh : List Sc} {t : TypeId} {X Y : Operand} {x y : List AV} {a b : Value} {r : Bool} (hx : Rel w M I H.length (.agg x) a) (hy : Rel w M I H.length (.agg y) b)
    (hsh : zGr P 30 t = some sh) (hg : P.eqGuardType P.depth t = false) (hag : zHh P t = some true) (h : zA1 sh x y = some r) :
    z6 P GT w M I H (do eqGuard (if neg then .neq else .eql) t X Y a b; binOp (if neg then .neq else .eql) t a b) (.bool (if neg then !r else r)) H:=by
  cases hx with
  | agg _ vs hl hr=>
  cases hy with
  | agg _ us hl' hr'=>
  have he:=(eq_sound (P:=P) (w:=w) (M:=M) (I:=I) 30 10000 t sh hsh tO).2.2 x y vs us r (.agg vs.toArray) (.agg us.toArray) H.length ⟨hl,hr⟩ ⟨hl',hr'⟩ h (.inl ⟨hag,rfl⟩) (.inl ⟨hag,rfl⟩)
  refine z6.pure hS (v':=.bool (if neg then !r else r)) ?_ (.bool _)
  cases neg
  · simp only [zL5,zMP,Sem.run_bind,run_eqGuard_agg w _ t X Y _ _ hg,Result.andThen_ok,run_eql_struct,he]
  · simp only [zMR,Sem.run_bind,run_eqGuard_agg w _ t X Y _ _ hg,Result.andThen_ok,run_neq_struct,he]
theorem zDy {n : Nat} {x : AV} {v : Value} (h : Rel w M I n x v) {b : Bool} (hb : nilness x = some b) : ∃ a l c,v = .slice a l c ∧ a.isNone = b:=by
  cases h with
  | lnil q k hq=>simp only [nilness] at hb; refine ⟨none,0,0,rfl, ?_⟩; cases b <;> simp_all
  | lemp q k a hq=>simp only [nilness] at hb; refine ⟨_,_,_,rfl, ?_⟩; cases b <;> simp_all
  | lst q k xs g o cap V hq=>simp only [nilness] at hb; refine ⟨_,_,_,rfl, ?_⟩; cases b <;> simp_all
  | sln q b' k off hbn hM hq=>unfold nilness at hb; split at hb <;> simp_all
  | sl q b' k off len g o p cap hbn hM hc hm hq ha=>
    refine ⟨_,_,_,rfl, ?_⟩
    unfold nilness at hb
    split at hb
    · simp_all
    · simp_all
    · rename_i heq
      simp only [AV.sl.injEq] at heq
      obtain ⟨rfl,rfl,rfl,rfl,rfl⟩:=heq
      have:=hq rfl
      simp only [zLt] at hb
      rw [← hb]; simp; omega
    · cases hb
  | _=>simp [nilness] at hb
theorem eqn_sound (hS : Sim GT w M I H) {neg lit : Bool} {e : EK} {t : TypeId} {X Y : Operand} {x y : AV} {a b : Value} {r : Bool} (hx : Rel w M I H.length x a) (hy : Rel w M I H.length y b)
    (hek : ekOK P t e = true) (hlit : lit = true → zJJ X = true ∨ zJJ Y = true) (h : eqNil e lit x y = some r) :
    z6 P GT w M I H (do eqGuard (if neg then .neq else .eql) t X Y a b; binOp (if neg then .neq else .eql) t a b) (.bool (if neg then !r else r)) H:=by
  refine z6.pure hS (v':=.bool (if neg then !r else r)) ?_ (.bool _)
  have fin : (∀ d,(Op.equalIn (d + 1) t a b).run P w = .ok r w) → (eqGuard (if neg then .neq else .eql) t X Y a b).run P w = .ok () w → (∀ op,(op = .eql ∨ op = .neq) → binOp op t a b = (if op = .eql then (do pure (.bool (← Op.equal t a b))) else do pure (.bool (!(← Op.equal t a b))))) →
      Sem.run P (do eqGuard (if neg then .neq else .eql) t X Y a b; binOp (if neg then .neq else .eql) t a b) w = .ok (.bool (if neg then !r else r)) w:=fun h0 h2 h3=>by
    have h1 : (Op.equal t a b).run P w = .ok r w:=h0 9999
    cases neg
    · simp only [zL5,zMP] at h2 ⊢
      simp only [Sem.run_bind,h2,Result.andThen_ok,h3 .eql (.inl rfl),zMR,h1,Sem.run_pure]
    · simp only [zMR] at h2 ⊢
      simp only [Sem.run_bind,h2,Result.andThen_ok,h3 .neq (.inr rfl),reduceCtorEq,zMP,h1,Sem.run_pure]
  have sl : ∀ {a b},(∃ o l c,a = Value.slice o l c) → (∃ o l c,b = Value.slice o l c) → ∀ op,(op = .eql ∨ op = .neq) → binOp op t a b = (if op = .eql then (do pure (.bool (← Op.equal t a b))) else do pure (.bool (!(← Op.equal t a b)))):=by
    rintro _ _ ⟨o,l,c,rfl⟩ ⟨o',l',c',rfl⟩ op (rfl | rfl) <;> rfl
  unfold eqNil at h
  split at h
  · -- nil,nil
    cases hx; cases hy
    split at h
    · rename_i hl
      simp only [zLt] at h; subst h
      obtain ⟨ms,ht⟩ : ∃ ms,P.underlying t = some (.interface ms):=by simp only [ekOK] at hek; split at hek <;> simp_all
      refine fin (fun d=>by simp [Op.equalIn,run_underlying ht]) ?_ (by rintro op (rfl | rfl) <;> rfl)
      have hc : ((match X with | .const _=>true | _=>false) || (match Y with | .const _=>true | _=>false)) = true:=by
        rcases hlit hl with h | h
        · cases X <;> simp_all [zJJ]
        · cases Y <;> simp_all [zJJ]
      cases neg <;> simp only [zL5,zMP,zMR,eqGuard]
      · show Sem.run P (if ((match X with | .const _=>true | _=>false) || (match Y with | .const _=>true | _=>false)) = true then _ else _) w = _
        rw [zLx hc]; rfl
      · show Sem.run P (if ((match X with | .const _=>true | _=>false) || (match Y with | .const _=>true | _=>false)) = true then _ else _) w = _
        rw [zLx hc]; rfl
    · cases h
  all_goals first
    | (cases hx; cases hy
       simp only [zLt] at h; subst h
       simp only [ekOK] at hek
       split at hek
       · rename_i ht
         exact fin (fun d=>by simp [Op.equalIn,run_underlying ht]) (zCW (by simp) (by simp)) (by rintro op (rfl | rfl) <;> rfl)
       · cases hek)
    | skip
  · -- nil on the left
    obtain ⟨e,ht⟩ : ∃ e,P.underlying t = some (.slice e):=by simp only [ekOK] at hek; split at hek <;> simp_all
    obtain ⟨o,l,c,rfl,ho⟩:=zDy hy h
    obtain ⟨o',l',c',rfl,ho'⟩:=zDy hx (b:=true) rfl
    simp only [Option.isNone_iff_eq_none] at ho'; subst ho'
    exact fin (fun d=>by simp [Op.equalIn,run_underlying ht,ho]) (zCW (by simp) (by simp)) (sl ⟨_,_,_,rfl⟩ ⟨_,_,_,rfl⟩)
  · obtain ⟨e,ht⟩ : ∃ e,P.underlying t = some (.slice e):=by simp only [ekOK] at hek; split at hek <;> simp_all
    obtain ⟨o,l,c,rfl,ho⟩:=zDy hx h
    obtain ⟨o',l',c',rfl,ho'⟩:=zDy hy (b:=true) rfl
    simp only [Option.isNone_iff_eq_none] at ho'; subst ho'
    refine fin (fun d=>?_) (zCW (by simp) (by simp)) (sl ⟨_,_,_,rfl⟩ ⟨_,_,_,rfl⟩)
    cases o <;> simp at ho <;> subst ho <;> simp [Op.equalIn,run_underlying ht]
  · cases h
end
end Go.AM
namespace Go.AM
section
variable {P : Program} {GT : Nat → Option AV} {w : World} {M : AMap} {I : Nat → Prop} {H : Heap}
theorem len_sound (hS : Sim GT w M I H) {s : Bool} {x : AV} {v : Value} {t ty : TypeId} {n : Nat} (hx : Rel w M I H.length x v) (h : aLen s x = some n) (ht : if s then zHv P t = true else ∃ e,P.underlying t = some (.slice e)) :
    z6 P GT w M I H (Builtin.len_ #[t] ty #[v]) (.int .i64 n) H:=by
  unfold aLen at h
  split at h
  · obtain ⟨e,ht⟩:=ht
    simp only [zLt] at h; subst h
    refine z6.pure hS (v':=.int .i64 _) ?_ (.int _ _)
    cases hx <;> simp [Builtin.len_,run_underlying ht,goInt]
  · obtain ⟨e,ht⟩:=ht
    simp only [zLt] at h; subst h
    refine z6.pure hS (v':=.int .i64 _) ?_ (.int _ _)
    cases hx <;> simp [Builtin.len_,run_underlying ht,goInt]
  · have ht:=zIO ht
    simp only [zLt] at h; subst h
    refine z6.pure hS (v':=.int .i64 _) ?_ (.int _ _)
    cases hx; simp [Builtin.len_,run_underlying ht,goInt,sizeB']
  · cases h
theorem zJs : ∀ {xs : List AV} {s : List UInt8},zEw xs = some s → ∃ ns : List Int,xs = ns.map (AV.int .u8) ∧ s = ns.map fun n=>UInt8.ofNat n.toNat
  | [],s,h=>by simp [zEw] at h; subst h; exact ⟨[],rfl,rfl⟩
  | x :: xs,s,h=>by
    cases x with
    | int k n=>
      cases k <;> simp only [zEw,reduceCtorEq] at h
      obtain ⟨r,hr,rfl⟩:=zL2.1 h
      obtain ⟨ns,rfl,rfl⟩:=zJs hr
      exact ⟨n :: ns,rfl,rfl⟩
    | _=>simp [zEw] at h
theorem foldl_push (ns : List Int) : ∀ l : List UInt8,ns.foldl (fun (r : ByteArray) n=>r.push (UInt8.ofNat n.toNat)) ⟨l.toArray⟩ = ⟨(l ++ ns.map fun n=>UInt8.ofNat n.toNat).toArray⟩:=by
  induction ns with
  | nil=>intro l; simp
  | cons n ns ih=>
    intro l
    simp only [zN8,zL8]
    rw [show (⟨l.toArray⟩ : ByteArray).push (UInt8.ofNat n.toNat) = ⟨(l ++ [UInt8.ofNat n.toNat]).toArray⟩ by apply ByteArray.ext; simp [ByteArray.push],ih]
    simp
theorem toStr_sound (hS : Sim GT w M I H) {s d : TypeId} {x : AV} {v : Value} {xs : List AV} {r : List UInt8} (hs : isU8s P s = true) (hd : zHv P d = true) (hx : Rel w M I H.length x v) (hv : view H 1 x = some xs) (hb : zEw xs = some r) :
    z6 P GT w M I H (convert s d v) (.str r) H:=by
  obtain ⟨e,h1,h2⟩:=isU8s_eq hs
  have h3:=zIO hd
  obtain ⟨ns,rfl,rfl⟩:=zJs hb
  obtain ⟨he,⟨rfl | ⟨a,rfl⟩,hnil⟩ | ⟨g,p,cap,rfl,hc,hm,hrow⟩⟩:=view_sound hS hx hv
  · simp only [zN4] at hnil
    subst hnil
    refine z6.pure hS (v':=.string ⟨[].toArray⟩) ?_ (.str _)
    rw [run_convert_bytes_string w s d e none 0 0 h1 h2 h3]
    simp [Conv.bytesToString]; rfl
  · simp only [zN4] at hnil
    subst hnil
    refine z6.pure hS (v':=.string ⟨[].toArray⟩) ?_ (.str _)
    rw [run_convert_bytes_string w s d e (some a) 0 0 h1 h2 h3]
    simp [Conv.bytesToString,loadCells,loadCellsFrom]; rfl
  · refine z6.pure hS (v':=.string ⟨(ns.map fun n=>UInt8.ofNat n.toNat).toArray⟩) ?_ (.str _)
    rw [run_convert_bytes_string w s d e _ _ cap h1 h2 h3]
    have hl:=run_loadCells_list (P:=P) w ⟨g,p,none⟩ (ns.map (Value.int .u8)) (fun j u hu=>by
      rw [Addr.add_lit]
      simp only [zL9,zL2] at hu
      obtain ⟨m,hm,rfl⟩:=hu
      obtain ⟨u',a,b⟩:=hrow j 0 (.int .u8 m) (.int .u8 m) (by simp [hm]) rfl
      cases b
      rw [← a]; congr 2; omega)
    rw [zL6] at hl ⊢
    rw [run_bytesToString w _ _ cap ns hl]
    have:=foldl_push ns []
    simp only [zM1] at this
    congr 2
theorem zHy (s : List UInt8) : Elems 1 (s.map zBl):=fun x hx=>by
  obtain ⟨c,_,rfl⟩:=zNI.1 hx
  rfl
theorem toBytes_sound (hS : Sim GT w M I H) {s d : TypeId} {l : List UInt8} (hs : (P.underlying s).isSome = true) (hd : isU8s P d = true) (hl : l.length ≤ 140737488355328) :
    z6 P GT w M I H (convert s d (.string ⟨l.toArray⟩)) (.sl (some false) H.length 1 0 l.length) (H ++ [.row 1 (l.map zBl)]):=by
  obtain ⟨e,h1,h2⟩:=isU8s_eq hd
  obtain ⟨u,hu⟩:=zMl.1 hs
  have hr:=Lib.run_convert_string_bytes (P:=P) w s d e ⟨l.toArray⟩ hu h1 h2
  have hge:=grownCap_ge w l.length 0 e
  have hcm:=grownCap_le_maxLen w l.length 0 e (by simp only [maxLen]; omega)
  have hnew:=Lib.bytesWorld_at_new w e ⟨l.toArray⟩
  have hsize : (Lib.bytesCells w e ⟨l.toArray⟩).size = grownCap w l.length 0 e:=by
    simp only [Lib.bytesCells,zOF,Array.size_map,Array.size_replicate,sizeB']; simp; omega
  have hheap : (Lib.bytesWorld w e ⟨l.toArray⟩).heap = w.heap.push (.cells (Lib.bytesCells w e ⟨l.toArray⟩) e ((Lib.bytesCells w e ⟨l.toArray⟩).size,(Lib.bytesCells w e ⟨l.toArray⟩).size + 1)):=by
    apply zNo
    intro k
    rw [zMk]
    split
    · rename_i hk; rw [hk]; exact hnew
    · rename_i hk
      by_cases hlt : k < w.heap.size
      · exact Lib.bytesWorld_at_old w e _ k hlt
      · rw [zNO (xs:=w.heap) tO,zNO (by rw [Lib.bytesWorld_size]; omega)]
  have hos : (Lib.bytesWorld w e ⟨l.toArray⟩).os = w.os ∧ (Lib.bytesWorld w e ⟨l.toArray⟩).tape = w.tape ∧ (Lib.bytesWorld w e ⟨l.toArray⟩).output = w.output:=by
    exact ⟨rfl,rfl,rfl⟩
  obtain ⟨G,S⟩:=hS.push (blk:=.row 1 (l.map zBl)) hheap hos.1 hos.2.1 hos.2.2 (zFJ (cells:=l.map fun c=>.int .u8 c.toNat) (o:=0) (zHy l) zAM ⟨e,_,hnew,fun j hj h=>by omega⟩
    (fun h=>absurd (hS.idom _ h) (zNn _)) (by rw [hsize]; simpa using hge) (fun j hj=>by
      simp only [zL6,zOX] at hj
      rw [zMn,Lib.bytesCells,zND (by simpa using hj)]
      simp) (by simp) (fun i j x c hi hj=>by
      simp only [zL9,zL2] at hi
      obtain ⟨b,hb,rfl⟩:=hi
      cases j with
      | zero=>simp [zBl,AV.cells] at hj; subst hj; exact ⟨.int .u8 b.toNat,by simp [hb],.int _ _⟩
      | succ j=>simp [zBl,AV.cells] at hj))
  refine ⟨_,_,_,I,hr,G,S, ?_⟩
  rw [sizeB']
  exact .sl _ _ _ _ _ w.heap.size 0 0 _ (by simp) zAM hge hcm (by simp) (fun _=>⟨by simp,e,_,by simp [World.shape?,hnew]; rfl,by rw [hsize]; simp⟩)
theorem alloc_push (hS : Sim GT w M I H) {e : TypeId} {vs : Array Value} {cs : List AV} (hr : zDA w M I H.length cs vs.toList) :
    Grow w M I H (w.alloc (.cells vs e)) (more M H.length (some (w.heap.size,0))) I (H ++ [.box cs]) ∧ Sim GT (w.alloc (.cells vs e)) (more M H.length (some (w.heap.size,0))) I (H ++ [.box cs]):=by
  have hheap : (w.alloc (.cells vs e)).heap = w.heap.push (.cells vs e):=rfl
  refine hS.push hheap rfl rfl rfl ⟨w.heap.size,0,vs,zAM,⟨e,(0,0),by rw [hheap,zMk,zLx rfl],fun j _ h=>absurd h.2 (zMx _)⟩,fun h=>absurd (hS.idom _ h) (zNn _),by have:=hr.1; simp at this; omega,fun j c hj=>?_⟩
  obtain ⟨v,hv,hrv⟩:=zBx hr hj
  refine ⟨v,by rw [zMn,← hv]; simp, ?_⟩
  have:=(Sim.push (blk:=.dead) hS hheap rfl rfl rfl trivial).1.rel hS hrv
  simpa using this
theorem make_sound (hS : Sim GT w M I H) {t e : TypeId} {i : TypeInfo} {zv : Value} {z : AV} {k bytes : Nat} {kl kc : IntKind} {l c : Int} (ht : P.underlying t = some (.slice e)) (hi : P.info? e = some i) (hk : i.size = k) (hb : i.bytes = bytes) (hz : i.zero = some zv)
    (hzk : zv.cells.size = k) (hzz : zGq zv z = true) (hk0 : 0 < k) (h0 : 0 ≤ l) (hlc : l ≤ c) (hbytes : (bytes : Int) * c ≤ 281474976710656) (hc : c ≤ 9223372036854775807) (hel : z.elem k = true) :
    z6 P GT w M I H (Instr.makeSlice t (.int kl l) (.int kc c)) (.sl (some false) H.length k 0 l.toNat) (H ++ [.row k (List.replicate l.toNat z)]):=by
  subst hk hb
  have hr:=run_make (P:=P) w t e i zv ht hi hz kl kc l c h0 hlc hbytes hc
  have hheap : (w.alloc (.cells (madeCells zv.cells (c.toNat * i.size)) e)).heap = w.heap.push (.cells (madeCells zv.cells (c.toNat * i.size)) e):=rfl
  have hzr:=zFI (zIK (w:=w) (M:=M) (I:=I) (n:=H.length) hzz) (one_ne (zMs.2 (AV.elem_iff.1 hel).2.2))
  have hlc' : l.toNat ≤ c.toNat:=by omega
  obtain ⟨G,S⟩:=hS.push (blk:=.row i.size (List.replicate l.toNat z)) hheap rfl rfl rfl (zFJ (cells:=(madeCells zv.cells (l.toNat * i.size)).toList) (o:=0) (fun x hx=>by obtain ⟨_,rfl⟩:=List.mem_replicate.1 hx; exact hel) zAM
    ⟨e,(0,0),by rw [hheap,zMk,zLx rfl],fun j _ h=>absurd h.2 (zMx _)⟩
    (fun h=>absurd (hS.idom _ h) (zNn _)) (by rw [size_madeCells]; simpa using zMU _ hlc') (fun j hj=>by
      simp only [zNa] at hj
      have : l.toNat * i.size ≤ c.toNat * i.size:=zMU _ hlc'
      simp [madeCells,hj,show j < c.toNat * i.size by omega]) (by simp [size_madeCells]) (fun a j x c' hx hj=>by
      rw [zOE] at hx
      split at hx
      case isFalse=>cases hx
      rename_i hal
      obtain rfl:=zMI hx
      obtain ⟨u,hu,hru⟩:=zBx hzr hj
      have hjl:=(zg hj).1
      rw [(AV.elem_iff.1 hel).1] at hjl
      have hlt : a * i.size + j < l.toNat * i.size:=by
        have : (a + 1) * i.size ≤ l.toNat * i.size:=zMU _ hal
        rw [zMd] at this; omega
      refine ⟨u, ?_, ?_⟩
      · simp only [madeCells,Array.toList_map,Array.toList_range,zL9,zM2 hlt,zMB,hzk]
        rw [show (a * i.size + j) % i.size = j by rw [zNZ,Nat.add_mul_mod_self_right,zN0 hjl]]
        have hu' : zv.cells[j]? = some u:=by simpa using hu
        simp [getElem!_def,hu']
      · have:=(Sim.push (blk:=.dead) hS hheap rfl rfl rfl trivial).1.rel hS hru
        simpa using this))
  refine ⟨_,_,_,I,hr,G,S, ?_⟩
  exact .sl _ _ _ _ _ w.heap.size 0 0 _ (by simp) zAM hlc' (by simp only [maxLen]; omega) (by simp) (fun _=>⟨by simp,e,_,by simp [World.shape?,hheap]; rfl,by rw [size_madeCells]; simp⟩)
def zGs (cs : List Value) (o : Nat) (vs : List Value) : List Value:=cs.take o ++ vs ++ cs.drop (o + vs.length)
theorem zKr (off : Nat) : ∀ (l : List Value) (a : Nat) (cs : Array Value),off + a + l.length ≤ cs.size →
    ((l.zipIdx a).foldl (fun (cs : Array Value) (p : Value × Nat)=>cs.setIfInBounds (off + p.2) p.1) cs).toList = zGs cs.toList (off + a) l
  | [],a,cs,h=>by simp [zGs]
  | v :: l,a,cs,h=>by
    simp only [zLw] at h
    simp only [List.zipIdx_cons,zN8]
    rw [zKr off l (a + 1) _ (by simp; omega)]
    apply zNu
    intro j
    have hl : (cs.toList.take (off + (a + 1))).length = off + (a + 1):=by simp; omega
    simp only [zGs,Array.toList_setIfInBounds,zMj,zLw]
    by_cases h1 : j < off + a
    · rw [zL7 (by simp; omega),zL7 (by simp; omega),zMS,zMS,zLx tO,zLx h1,zMJ tO]
    · rw [zMC (l₁:=List.take (off + a) cs.toList) (by simp; omega)]
      have hl2 : (List.take (off + a) cs.toList).length = off + a:=by simp; omega
      rw [hl2]
      by_cases h2 : j = off + a
      · subst h2
        rw [zL7 (by simp; omega),zMS,zLx tO,zMK (by simp; omega)]
        simp
      · have hl3 : (List.take (off + (a + 1)) (cs.toList.set (off + a) v)).length = off + (a + 1):=by simp; omega
        rw [zMC (by rw [hl3]; omega),hl3]
        rw [show j - (off + a) = (j - (off + (a + 1))) + 1 by omega,zNi,zNl]
        by_cases h3 : j - (off + (a + 1)) < l.length
        · rw [zL7 h3,zL7 h3]
        · rw [zMC tO,zMC tO,zMY,zMY,zMJ tO]
          congr 1; omega
theorem splice_rel {n : Nat} {cs vs : List AV} {us ws : List Value} (h1 : zDA w M I n cs us) (h2 : zDA w M I n vs ws) {o : Nat} (hle : o + vs.length ≤ cs.length) : zDA w M I n (splice cs o vs) (zGs us o ws):=by
  have l1:=h1.1
  have l2:=h2.1
  refine ⟨by simp [splice,zGs]; omega,fun i c v hc hv=>?_⟩
  rw [zJL hle] at hc
  have hv' : (zGs us o ws)[i]? = if o ≤ i ∧ i < o + ws.length then ws[i - o]? else us[i]?:=by
    unfold zGs
    have ho : (us.take o).length = o:=by simp; omega
    rw [zMj,zNz,ho]
    split
    · rw [zLv tO,zMS,zLx ‹_›]
    · rw [zNz]
      split
      · rw [zLx tO]
      · rw [zLv tO,zMY]
        congr 1; omega
  rw [hv'] at hv
  split at hc
  · rw [zLx tO] at hv; exact h2.2 _ c v hc hv
  · rw [zLv tO] at hv; exact h1.2 _ c v hc hv
theorem zJM {n : Nat} (place : Nat → Option (Nat × Nat)) : ∀ (ps : List (Nat × Value)) (pl : List (Nat × Nat)) (vs : List AV) (cells : Array Value) (cs cs' : List AV),ps.map (fun p=>place p.1) = pl.map some → zDA w M I n vs (ps.map (·.2)) →
    zDA w M I n cs cells.toList → zEx cs pl vs = some cs' → ∃ cells',Instr.fill place cells ps = some cells' ∧ zDA w M I n cs' cells'.toList
  | [],[],[],cells,cs,cs',_,_,hc,hf=>by
    simp only [zEx,zLt] at hf; subst hf
    exact ⟨cells,rfl,hc⟩
  | [],[],_ :: _,_,_,_,_,hv,_,_=>by have:=hv.1; simp at this
  | [],_ :: _,_,_,_,_,hp,_,_,_=>by simp at hp
  | _ :: _,[],_,_,_,_,hp,_,_,_=>by simp at hp
  | _ :: _,_ :: _,[],_,_,_,_,hv,_,_=>by have:=hv.1; simp at this
  | (i,u) :: ps,(o,s) :: pl,v :: vs,cells,cs,cs',hp,hv,hc,hf=>by
    simp only [zL8,zM5] at hp
    simp only [zEx] at hf
    split at hf
    · rename_i hcond
      obtain ⟨hs,hle,hone⟩:=hcond
      have hvu : Rel w M I n v u:=hv.2 0 v u rfl rfl
      have hvs : zDA w M I n vs (ps.map (·.2)):=⟨by have:=hv.1; simpa using this,fun j c x h1 h2=>hv.2 (j + 1) c x (by simpa using h1) (by simpa using h2)⟩
      have hcu:=zFI hvu (one_ne hone)
      have hul : u.cells.size = s:=by have:=hcu.1; simp at this; omega
      have hcl : cells.size = cs.length:=by have:=hc.1; simp at this; omega
      have hfold : (u.cells.zipIdx.foldl (fun (cs : Array Value) (p : Value × Nat)=>cs.setIfInBounds (o + p.2) p.1) cells).toList = zGs cells.toList o u.cells.toList:=by
        rw [← Array.foldl_toList,Array.toList_zipIdx]
        have:=zKr o u.cells.toList 0 cells (by simp; omega)
        simpa using this
      obtain ⟨cells',r1,r2⟩:=zJM place ps pl vs _ (splice cs o v.cells) cs' hp.2 hvs (by rw [hfold]; exact splice_rel hc hcu tO) hf
      refine ⟨cells', ?_,r2⟩
      simp only [Instr.fill,hp.1]
      rw [zLv (by simp; omega)]
      exact r1
    · cases hf
theorem build_sound (hS : Sim GT w M I H) {t : TypeId} {parts : Array (Nat × Value)} {z cs : List AV} {pl : List (Nat × Nat)} {vs : List AV} (hz : zeroOK P t z = true) (hso : sizesOK P t = true) (hpl : zDa P t (parts.toList.map (·.1)) = some pl)
    (hv : zDA w M I H.length vs (parts.toList.map (·.2))) (h : zEx z pl vs = some cs) : z6 P GT w M I H (Instr.build t parts) (.agg cs) H:=by
  unfold zeroOK at hz
  split at hz
  · rename_i it hit
    split at hz
    · rename_i zv hzv
      have hzr:=zHJ (w:=w) (M:=M) (I:=I) (n:=H.length) hz
      have main : ∀ place,(parts.toList.map (fun p=>place p.1) = pl.map some) → (∀ cells',Instr.fill place zv.cells parts.toList = some cells' → P.built t parts.toList = some cells') → z6 P GT w M I H (Instr.build t parts) (.agg cs) H:=fun place hp hb=>by
        obtain ⟨cells',r1,r2⟩:=zJM place parts.toList pl vs zv.cells z cs hp hv hzr h
        refine z6.pure hS (v':=.agg cells') (run_build w t parts cells' (hb _ r1)) ?_
        have:=Rel.agg (w:=w) (M:=M) (I:=I) (n:=H.length) cs cells'.toList r2.1 r2.2
        simpa using this
      unfold sizesOK at hso
      split at hso
      · rename_i fs hu
        have hm : ∃ places,fs.toList.mapM (fun (f : Field)=>(P.info? f.type).map fun i=>(f.offset,i.size)) = some places ∧ ∀ j : Nat,places[j]? = (fs.toList[j]?).bind fun (f : Field)=>(zDX P f.type).map fun s=>(f.offset,s):=by
          revert hso
          generalize fs.toList = l
          intro hso
          induction l with
          | nil=>exact ⟨[],rfl,by simp⟩
          | cons f l ih=>
            simp only [zNK,zLu] at hso
            obtain ⟨pl',e1,e2⟩:=ih hso.2
            obtain ⟨s,hs⟩:=zMl.1 hso.1
            have hs':=hs
            unfold zDX at hs'
            obtain ⟨i,hi,hsz⟩:=zL2.1 hs'
            refine ⟨(f.offset,i.size) :: pl',by simp [zOC,hi,e1],fun j=>?_⟩
            cases j with
            | zero=>simp [hs,hsz]
            | succ j=>simpa using e2 j
        obtain ⟨places,m1,m2⟩:=hm
        refine main (places.toArray[·]?) ?_ (fun cells' hc=>by simp only [Program.built,hit,hu,hzv,m1]; exact hc)
        have : ∀ (is : List Nat) (pl : List (Nat × Nat)),zDa P t is = some pl → is.map (fun i=>places.toArray[i]?) = pl.map some:=by
          intro is
          induction is with
          | nil=>intro pl h; simp [zDa] at h; subst h; rfl
          | cons i is ih=>
            intro pl h
            simp only [zDa,hu] at h
            split at h
            · rename_i f hf
              split at h
              · rename_i s pl' h1 h2
                simp only [zLt] at h; subst h
                have hf' : fs.toList[i]? = some f:=by simpa using hf
                rw [zL8,zL8,ih _ h2]
                congr 1
                rw [List.getElem?_toArray,m2,hf']
                simp [h1]
              · cases h
            · cases h
        have:=this _ _ hpl
        simpa [zNk,zOG] using this
      · rename_i m e hu
        obtain ⟨s,hs⟩:=zMl.1 hso
        have hs':=hs
        unfold zDX at hs'
        obtain ⟨ie,hie,hsz⟩:=zL2.1 hs'
        refine main (fun i=>some (i * ie.size,ie.size)) ?_ (fun cells' hc=>by simp only [Program.built,hit,hu,hzv,hie]; exact hc)
        have : ∀ (is : List Nat) (pl : List (Nat × Nat)),zDa P t is = some pl → is.map (fun i=>some (i * ie.size,ie.size)) = pl.map some:=by
          intro is
          induction is with
          | nil=>intro pl h; simp [zDa] at h; subst h; rfl
          | cons i is ih=>
            intro pl h
            simp only [zDa,hu,hs] at h
            split at h
            · rename_i s' pl' h1 h2
              simp only [zLt] at h h1; subst h h1
              rw [zL8,zL8,ih _ h2]
              simp [hsz]
            · cases h
        have:=this _ _ hpl
        simpa [zNk,zOG] using this
      · cases hso
    · cases hz
  · cases hz
end
end Go.AM
namespace Go.AM
section
variable {P : Program} {GT : Nat → Option AV} {w : World} {M : AMap} {I : Nat → Prop} {H : Heap}
theorem zKs (k : Nat) : ∀ (vs : List AV) (a : Nat) (pre : List AV),pre.length = a * k → (∀ v ∈ vs,v.elem k = true) →
    zEx (pre ++ List.replicate (vs.length * k) .undef) ((List.range' a vs.length).map fun i=>(i * k,k)) vs = some (pre ++ vs.flatMap AV.cells)
  | [],a,pre,_,_=>by simp [zEx]
  | v :: vs,a,pre,hp,hv=>by
    obtain ⟨h1,h2,h3⟩:=AV.elem_iff.1 (hv v (by simp))
    have hone : v.cells.all AV.one = true:=zMs.2 h3
    simp only [zLw,List.range'_succ,zL8,zEx]
    rw [zLx ⟨h1,by simp [zMd]; omega,hone⟩]
    have hs : splice (pre ++ List.replicate ((vs.length + 1) * k) AV.undef) (a * k) v.cells = (pre ++ v.cells) ++ List.replicate (vs.length * k) AV.undef:=by
      unfold splice
      rw [h1,← hp,List.take_left',List.drop_append]
      · simp [List.drop_replicate,zMd]
      · rfl
    rw [hs,zKs k vs (a + 1) (pre ++ v.cells) (by simp [h1,hp,zMd]) (fun x hx=>hv x (by simp [hx]))]
    simp
theorem flat_get {k : Nat} : ∀ {xs : List AV} {i j : Nat} {x c : AV},Elems k xs → xs[i]? = some x → x.cells[j]? = some c → (xs.flatMap AV.cells)[i * k + j]? = some c
  | [],_,_,_,_,_,h,_=>by simp at h
  | y :: xs,i,j,x,c,he,hx,hj=>by
    have hy:=(AV.elem_iff.1 (he y (by simp))).1
    cases i with
    | zero=>
      simp at hx; subst hx
      rw [List.flatMap_cons,zNw,zMn,zL7 (zg hj).1]
      exact hj
    | succ i=>
      rw [List.flatMap_cons,zMC (by rw [hy,zMd]; omega),hy]
      have:=flat_get (xs:=xs) (fun z hz=>he z (by simp [hz])) (by simpa using hx) hj
      rw [← this]; congr 1
      rw [zMd]; omega
theorem flat_len {k : Nat} : ∀ {xs : List AV},Elems k xs → (xs.flatMap AV.cells).length = xs.length * k
  | [],_=>by simp
  | y :: xs,he=>by
    have hy:=(AV.elem_iff.1 (he y (by simp))).1
    have:=flat_len (xs:=xs) (k:=k) (fun z hz=>he z (by simp [hz]))
    simp [hy,this,zMd]; omega
theorem bslice_sound (hS : Sim GT w M I H) {t : TypeId} {len k : Nat} {parts : Array (Nat × Value)} {vs vs' : List AV} {H1 : Heap} (hsl : zDD P t k = true) (hz : (match P.underlying t with
      | some (.slice e)=>(match P.info? e with
        | some i=>i.zero.isSome
        | none=>false)
      | _=>false) = true) (hlim : len * k ≤ 16777216) (hlim' : len ≤ 16777216) (hidx : parts.toList.map (·.1) = List.range len)
    (hv : zDA w M I H.length vs (parts.toList.map (·.2))) (hf : zJH 0 vs H = some (vs',H1)) (hel : vs'.all (fun v=>v.elem k) = true) :
    z6 P GT w M I H (Instr.buildSlice t len parts) (.sl (some false) H1.length k 0 vs'.length) (H1 ++ [.row k vs']):=by
  obtain ⟨e,ht,hse⟩:=zJr hsl
  rw [ht] at hz
  simp only at hz
  split at hz
  case h_2=>cases hz
  rename_i i hi
  obtain ⟨zv,hzv⟩:=zMl.1 hz
  have hagg:=Rel.agg (w:=w) (M:=M) (I:=I) (n:=H.length) vs (parts.toList.map (·.2)) hv.1 hv.2
  obtain ⟨I',G1,S1,R1,hlen,_⟩:=zII 0 (.agg vs) hS hagg (x':=.agg vs') (H':=H1) (by simp [zDq,hf])
  have hr : zDA w M I' H1.length vs' (parts.toList.map (·.2)):=by
    generalize hus : parts.toList.map (·.2) = us at R1
    cases R1 with
    | agg _ _ hl h=>exact ⟨hl,h⟩
  have hvl : vs'.length = len:=by have h1:=hr.1; have h2:=zML List.length hidx; simp at h1 h2; omega
  have hE : Elems k vs':=fun x hx=>zMs.1 hel x hx
  subst hvl
  have hseq:=zKs k vs' 0 [] (by simp) hE
  simp only [zM1] at hseq
  let base : Array Value:=(Array.range (vs'.length * k)).map (fun j=>(if vs'.length * k = 0 then (#[] : Array Value) else zv.cells)[j % (if vs'.length * k = 0 then (#[] : Array Value) else zv.cells).size]!)
  have hbase : zDA w M I' H1.length (List.replicate (vs'.length * k) AV.undef) base.toList:=by
    refine ⟨by simp [base],fun a c v hc _=>?_⟩
    rw [zOE] at hc
    split at hc
    · rw [← Option.some.inj hc]; exact .undef _
    · cases hc
  obtain ⟨cells',f1,f2⟩:=zJM (w:=w) (M:=M) (I:=I') (n:=H1.length) (fun i=>some (i * k,k)) parts.toList _ vs' base _ _ (by
    have : parts.toList.map (fun p=>some (p.1 * k,k)) = (parts.toList.map (·.1)).map (fun i=>some (i * k,k)):=by simp
    rw [this,hidx,List.range_eq_range']
    simp) hr hbase hseq
  have hcl : cells'.toList.length = vs'.length * k:=by rw [← f2.1,flat_len hE]
  have hrun : (Instr.buildSlice t vs'.length parts).run P w = .ok (.slice (some ⟨w.heap.size,0,none⟩) vs'.length vs'.length) (w.alloc (.cells cells' e)):=by
    have hno : ¬ (vs'.length * k > 2 ^ 24):=by omega
    have hzr : ∀ w : World,(zeroValue e).run P w = .ok zv w:=fun w=>by simp [zeroValue,typeInfo,hi,hzv]
    have f1' : Instr.fill (fun i=>some (i * k,k)) ((Array.range (vs'.length * k)).map (fun j=>(if vs'.length * k = 0 then (#[] : Array Value) else zv.cells)[j % (if vs'.length * k = 0 then (#[] : Array Value) else zv.cells).size]!)) parts.toList = some cells':=f1
    unfold Instr.buildSlice
    by_cases h0 : vs'.length * k = 0
    · simp only [zLx h0] at f1'
      simp only [Sem.run_bind,run_underlying ht,Result.andThen_ok,zAi hse,zLv hno,zLx h0,Sem.run_pure,f1']
      simp [newRow]
    · simp only [zLv h0] at f1'
      simp only [Sem.run_bind,run_underlying ht,Result.andThen_ok,zAi hse,zLv hno,zLv h0,hzr,Sem.run_pure,f1']
      simp [newRow]
  have hheap : (w.alloc (.cells cells' e)).heap = w.heap.push (.cells cells' e):=rfl
  obtain ⟨G,S⟩:=S1.push (blk:=.row k vs') hheap rfl rfl rfl (zFJ (cells:=cells'.toList) (o:=0) hE zAM ⟨e,(0,0),by rw [hheap,zMk,zLx rfl],fun j _ h=>absurd h.2 (zMx _)⟩
    (fun h=>absurd (S1.idom _ h) (zNn _)) (by have:=hcl; simp at this; omega) (fun j hj=>by rw [zMn]; simp) hcl (fun a j x c hx hj=>by
      obtain ⟨u,hu,hru⟩:=zBx f2 (flat_get hE hx hj)
      refine ⟨u,hu, ?_⟩
      have:=(Sim.push (blk:=.dead) S1 hheap rfl rfl rfl trivial).1.rel S1 hru
      simpa using this))
  refine ⟨_,_,_,I',hrun,G1.trans G,S, ?_⟩
  refine .sl _ _ _ _ _ w.heap.size 0 0 _ (by simp) zAM (zL0 _) ?_ (by simp) (fun _=>⟨by simp,e,_,by simp [World.shape?,hheap]; rfl,by have:=hcl; simp at this; simp; omega⟩)
  simp only [maxLen]; omega
end
end Go.AM
namespace Go.AM
section
variable {P : Program} {GT : Nat → Option AV} {w : World} {M : AMap} {I : Nat → Prop} {H : Heap}
theorem zKt {t : TypeId} (h : zFG P t = true) : ∃ fs f g,P.underlying t = some (.struct fs) ∧ fs.toList = [f,g] ∧ f.offset = 0 ∧ g.offset = 1 ∧ P.underlying f.type = some (.int .i64) ∧ P.underlying g.type = some (.int .i64) ∧ zGr P 30 t = some [.int .i64,.int .i64]:=by
  unfold zFG at h
  simp only [zLu,zMF] at h
  obtain ⟨h,h2⟩:=h
  split at h
  case h_2=>cases h
  rename_i fs ht
  split at h
  case h_2=>cases h
  rename_i f g hfs
  simp only [zLu,zMO] at h
  obtain ⟨⟨⟨h3,h4⟩,h5⟩,h6⟩:=h
  have int : ∀ {u : TypeId},isInt P u .i64 = true → P.underlying u = some (.int .i64):=fun {u} hu=>by
    unfold isInt at hu
    split at hu
    · rename_i k hk
      simp only [zMF,zMO] at hu
      rw [hk,hu]
    · cases hu
  exact ⟨fs,f,g,ht,hfs,h3,h4,int h5,int h6,h2⟩
theorem run_key {t : TypeId} (h : zFG P t = true) (p : Int × Int) (em : Bool) (n : Nat) : (Instr.checkKey em (n + 2) t (zIF p)).run P w = .ok () w:=by
  obtain ⟨fs,f,g,ht,hfs,h1,h2,h3,h4,_⟩:=zKt h
  rw [Instr.checkKey]
  simp only [zIF,Sem.run_bind,run_underlying ht,Result.andThen_ok]
  rw [← Array.forIn_toList,hfs]
  have hp : ∀ (u : TypeId) (o : Nat) (v : Value),P.underlying u = some (.int .i64) → (#[Value.int .i64 p.1,Value.int .i64 p.2])[o]? = some v → (Go.part u #[.int .i64 p.1,.int .i64 p.2] o).run P w = .ok v w:=fun u o v hu hv=>by
    simp [Go.part,isAgg,run_underlying hu,hv,Result.andThen]
  have hc : ∀ (u : TypeId) (v : Int),P.underlying u = some (.int .i64) → (Instr.checkKey em (n + 1) u (.int .i64 v)).run P w = .ok () w:=fun u v hu=>by
    simp [Instr.checkKey,run_underlying hu,Result.andThen]
  have p1:=hp f.type 0 (.int .i64 p.1) h3 rfl
  have p2:=hp g.type 1 (.int .i64 p.2) h4 rfl
  rw [← h1] at p1
  rw [← h2] at p2
  by_cases e1 : f.name = "_" <;> by_cases e2 : g.name = "_" <;> simp [List.forIn_cons,Sem.run_bind,e1,e2,Result.andThen,p1,p2,hc f.type p.1 h3,hc g.type p.2 h4,Sem.run_pure]
theorem run_eqKey {t : TypeId} (h : zFG P t = true) (p q : Int × Int) : (Op.equal t (zIF p) (zIF q)).run P w = .ok (decide (p = q)) w:=by
  obtain ⟨fs,f,g,ht,hfs,h1,h2,h3,h4,hsh⟩:=zKt h
  have ha : zHh P t = some true:=by simp [zHh,ht]
  have:=(eq_sound (P:=P) (w:=w) (M:=fun _=>none) (I:=fun _=>False) 30 Op.maxDepth t _ hsh (by decide)).2.2 [.int .i64 p.1,.int .i64 p.2] [.int .i64 q.1,.int .i64 q.2] [.int .i64 p.1,.int .i64 p.2] [.int .i64 q.1,.int .i64 q.2] (decide (p = q)) (zIF p) (zIF q) 0
    ⟨rfl,fun i c v hc hv=>by rcases i with _ | _ | i <;> simp at hc hv <;> subst hc hv <;> exact .int _ _⟩ ⟨rfl,fun i c v hc hv=>by rcases i with _ | _ | i <;> simp at hc hv <;> subst hc hv <;> exact .int _ _⟩ (by
      simp only [zA1,cellEq,and_self,zMR,zLt,zNT]
      rw [zNp]
      simp [Prod.ext_iff]) (.inl ⟨ha,rfl⟩) (.inl ⟨ha,rfl⟩)
  exact this
theorem run_find {t : TypeId} (h : zFG P t = true) (p : Int × Int) : ∀ (ks : List (Int × Int)) (es : List MapEntry) (i : Nat),es.map (·.key) = ks.map zIF →
    (Instr.findAsking t (zIF p) es i).run P w = .ok ((mfind p ks).bind fun j=>(es[j]?).map fun e=>(i + j,e.val)) w
  | [],es,i,he=>by
    have : es = []:=by cases es <;> simp at he ⊢
    subst this
    simp [Instr.findAsking,mfind]
  | x :: ks,[],i,he=>by simp at he
  | x :: ks,e :: es,i,he=>by
    simp only [zL8,zM5] at he
    have hq:=run_eqKey (w:=w) h p x
    have ih:=run_find h p ks es (i + 1) he.2
    simp only [Instr.findAsking,Sem.run_bind,he.1,hq,Result.andThen_ok]
    by_cases hpx : p = x
    · simp [hpx,mfind]
    · simp only [hpx,decide_false,zL5,zMP,ih,mfind]
      cases mfind p ks with
      | none=>simp
      | some j=>simp [zM0,zNZ 1 j]
theorem zKu {t : TypeId} (h : zFG P t = true) (p : Int × Int) (ks : List (Int × Int)) (es : List MapEntry) (he : es.map (·.key) = ks.map zIF) :
    (Instr.findKey t (zIF p) es).run P w = .ok ((mfind p ks).bind fun j=>(es[j]?).map fun e=>(j,e.val)) w:=by
  obtain ⟨fs,f,g,ht,_⟩:=zKt h
  rw [run_findKey_eq w (by simp [ht])]
  have:=run_find (w:=w) h p ks es 0 he
  simpa using this
theorem mfind_lt {p : Int × Int} : ∀ {ks : List (Int × Int)} {j : Nat},mfind p ks = some j → j < ks.length ∧ ks[j]? = some p
  | [],j,h=>by simp [mfind] at h
  | x :: ks,j,h=>by
    unfold mfind at h
    split at h
    · rename_i e; simp only [zLt] at h; subst h; exact ⟨by simp,by simp [e]⟩
    · obtain ⟨i,hi,rfl⟩:=zL2.1 h
      obtain ⟨h1,h2⟩:=mfind_lt hi
      exact ⟨by simp; omega,by simpa using h2⟩
theorem zKv (hS : Sim GT w M I H) {m : AV} {v : Value} (hm : Rel w M I H.length m v) {ks : List (Int × Int)} {vs : List AV} (h : mview H m = some (ks,vs)) :
    (v = .map none ∧ ks = [] ∧ vs = []) ∨ ∃ (g : Nat) (es : Array MapEntry) (cl : Nat),v = .map (some g) ∧ w.heap[g]? = some (.map es cl) ∧ es.toList.map (·.key) = ks.map zIF ∧ vs.length = es.size ∧ (∀ x ∈ vs,x.noRef = true) ∧
      ∀ (i : Nat) (x : AV) (e : MapEntry),vs[i]? = some x → es[i]? = some e → Rel w M I H.length x e.val:=by
  cases m <;> simp only [mview,reduceCtorEq] at h
  case nilm=>
    cases hm
    simp only [zLt,zLz] at h
    exact .inl ⟨rfl,h.1.symm,h.2.symm⟩
  case mp b=>
    split at h
    case h_2=>cases h
    rename_i ks' vs' hb
    simp only [zLt,zLz] at h
    obtain ⟨rfl,rfl⟩:=h
    obtain ⟨g,es,cl,h1,h2,h3,h4,h5,h6,h7⟩:=hS.blk b _ hb
    cases hm with
    | mp _ g' hbn hM=>
      rw [hM] at h1
      simp only [zLt,zLz,zNd] at h1
      subst h1
      exact .inr ⟨_,es,cl,rfl,h2,h4,h5,h6,h7⟩
  case mps ks' vs'=>
    simp only [zLt,zLz] at h
    obtain ⟨rfl,rfl⟩:=h
    cases hm with
    | mps _ _ g es clock hI hw hk hl hn hv=>exact .inr ⟨g,es,clock,rfl,hw,hk,hl,hn,hv⟩
theorem zKw {n : Nat} {k : AV} {v : Value} (hk : Rel w M I n k v) {p : Int × Int} (h : keyAV k = some p) : v = zIF p:=by
  unfold keyAV at h
  split at h
  case h_2=>cases h
  rename_i a b
  simp only [zLt] at h
  subst h
  cases hk with
  | agg _ vs hl hv=>
    match vs,hl with
    | [x,y],_=>
      have h1:=hv 0 _ x rfl rfl
      have h2:=hv 1 _ y rfl rfl
      cases h1; cases h2; rfl
theorem zHK {g : Nat} {es : Array MapEntry} {cl : Nat} (hb : w.heap[g]? = some (.map es cl)) : (getObj g).run P w = .ok (.map es cl) w:=by simp [getObj,Sem.run,hb]
theorem run_setMap {g : Nat} {es : Array MapEntry} {cl : Nat} (o : Obj) (hb : w.heap[g]? = some (.map es cl)) : (setObj g o).run P w = .ok () { w with heap:=w.heap.setIfInBounds g o }:=by simp [setObj,Sem.run,hb]
theorem zKb {t : TypeId} (h : zFG P t = true) (p : Int × Int) (em : Bool) : (Instr.checkKey em 10000 t (zIF p)).run P w = .ok () w:=run_key h p em 9998
theorem lookup_run {mt kt et : TypeId} (hmt : P.underlying mt = some (.map kt et)) (hkt : zFG P kt = true) {es : Array MapEntry} {mv : Value} (hm : (mv = .map none ∧ es = #[]) ∨ ∃ g cl,mv = .map (some g) ∧ w.heap[g]? = some (.map es cl)) (p : Int × Int)
    {o : Option (Nat × Value)} (hf : (Instr.findKey kt (zIF p) es.toList).run P w = .ok o w) (ok : Bool) {zv : Value} (hz : (zeroValue et).run P w = .ok zv w) :
    (Instr.lookup mt mv (zIF p) ok).run P w = .ok (match (generalizing:=false) o with
      | some (_,v)=>if ok then .tuple #[v,.bool true] else v
      | none=>if ok then .tuple #[zv,.bool false] else zv) w:=by
  unfold Instr.lookup
  rcases hm with ⟨rfl,rfl⟩ | ⟨g,cl,rfl,hg⟩
  · rcases o with _ | ⟨i,v⟩ <;> simp only [Sem.run_bind,run_underlying hmt,Result.andThen_ok,Sem.run_pure,zKb hkt p,hf,hz]
  · rcases o with _ | ⟨i,v⟩ <;> simp only [Sem.run_bind,run_underlying hmt,Result.andThen_ok,Sem.run_pure,zHK hg,zKb hkt p,hf,hz]
theorem get_sound (hS : Sim GT w M I H) {mt kt et : TypeId} (hmt : P.underlying mt = some (.map kt et)) (hkt : zFG P kt = true) {i : TypeInfo} {zv : Value} {z : AV} (hi : P.info? et = some i) (hz : i.zero = some zv) (hzr : ∀ n,Rel w M I n z zv)
    {m k r : AV} {mv kv : Value} {ok : Bool} (hm : Rel w M I H.length m mv) (hk : Rel w M I H.length k kv) (h : mgetV H z ok m k = some r) :
    ∃ v,(Instr.lookup mt mv kv ok).run P w = .ok v w ∧ Rel w M I H.length r v:=by
  unfold mgetV at h
  split at h
  case h_2=>cases h
  rename_i ks vs hmv
  split at h
  case h_2=>cases h
  rename_i p hp
  have ek:=zKw hk hp
  subst ek
  have fin : ∀ (u : AV) (uv : Value) (b : Bool),Rel w M I H.length u uv → r = (if ok then .tup [u,.bool b] else u) → Rel w M I H.length r (if ok then .tuple #[uv,.bool b] else uv):=fun u uv b hu hr=>by
    subst hr
    cases ok
    · exact hu
    · exact .tup [u,.bool b] [uv,.bool b] rfl fun i c v hc hv=>by
        rcases i with _ | _ | i <;> simp at hc hv
        · subst hc hv; exact hu
        · subst hc hv; exact .bool b
  have hzero : (zeroValue et).run P w = .ok zv w:=by simp [zeroValue,typeInfo,hi,hz,Result.andThen]
  obtain ⟨es,hes,hkk,hl,hv⟩ : ∃ es : Array MapEntry,((mv = .map none ∧ es = #[]) ∨ ∃ g cl,mv = .map (some g) ∧ w.heap[g]? = some (.map es cl)) ∧ es.toList.map (·.key) = ks.map zIF ∧ vs.length = es.size ∧ ∀ (i : Nat) (x : AV) (e : MapEntry),vs[i]? = some x → es[i]? = some e → Rel w M I H.length x e.val:=by
    rcases zKv hS hm hmv with ⟨h1,rfl,rfl⟩ | ⟨g,es,cl,h1,hw,hkk,hl,_,hv⟩
    · exact ⟨#[],.inl ⟨h1,rfl⟩,rfl,rfl,fun i x e hx _=>by simp at hx⟩
    · exact ⟨es,.inr ⟨g,cl,h1,hw⟩,hkk,hl,hv⟩
  have hfk:=zKu (w:=w) hkt p ks es.toList hkk
  have hrun:=lookup_run hmt hkt hes p hfk ok hzero
  refine ⟨_,hrun, ?_⟩
  split at h
  · rename_i j hj
    obtain ⟨x,hx,hr⟩:=zL2.1 h
    have hjl : j < es.size:=by have:=(zg hx).1; omega
    obtain ⟨e,he⟩ : ∃ e,es[j]? = some e:=⟨_,zNS hjl⟩
    have he' : es.toList[j]? = some e:=by simpa using he
    rw [hj,zMt,he',zMB]
    exact fin x e.val true (hv j x e hx he) hr.symm
  · rename_i hj
    simp only [zLt] at h
    rw [hj,Option.bind_none]
    exact fin z zv false (hzr _) h.symm
theorem run_stays (p : Int × Int) : (Instr.keyThatStays (zIF p) (zIF p)).run P w = .ok (zIF p) w:=by
  have : Instr.sameBits 10000 (zIF p) (zIF p) = true:=by simp [zIF,Instr.sameBits]
  simp [Instr.keyThatStays,this]
theorem set_sound (hS : Sim GT w M I H) {mt kt et : TypeId} (hmt : P.underlying mt = some (.map kt et)) (hkt : zFG P kt = true)
    {m k x : AV} {mv kv xv : Value} {H' : Heap} (hm : Rel w M I H.length m mv) (hk : Rel w M I H.length k kv) (hx : Rel w M I H.length x xv) (h : msetV H m k x = some H') :
    ∃ w',(Instr.mapUpdate mt mv kv xv).run P w = .ok () w' ∧ Grow w M I H w' M I H' ∧ Sim GT w' M I H':=by
  unfold msetV at h
  split at h
  case h_2=>cases h
  rename_i b
  split at h
  case h_2=>cases h
  rename_i ks vs hb
  split at h
  case h_2=>cases h
  rename_i p hp
  split at h
  case isFalse=>cases h
  rename_i hnx
  simp only [zLt] at h
  subst h
  have ek:=zKw hk hp
  subst ek
  obtain ⟨g,es,cl,h1,h2,h3,h4,h5,h6,h7⟩:=hS.blk b _ hb
  cases hm with
  | mp _ g' hbn hM=>
    rw [hM] at h1
    simp only [zLt,zLz,zNd] at h1
    subst h1
    have hfk:=zKu (w:=w) hkt p ks es.toList h4
    have hlen : ks.length = es.size:=by have:=zML List.length h4; simpa using this.symm
    unfold mput
    cases hj : mfind p ks with
    | some j=>
      have ⟨hjk,hjp⟩:=mfind_lt hj
      obtain ⟨e,he⟩ : ∃ e,es[j]? = some e:=⟨_,zNS tO⟩
      have he' : es.toList[j]? = some e:=by simpa using he
      have hek : e.key = zIF p:=by
        have : (es.toList.map (·.key))[j]? = (ks.map zIF)[j]?:=by rw [h4]
        rw [zL9,zL9,he',hjp] at this
        simpa using this
      rw [hj,zMt,he',zMB] at hfk
      let es':=es.modify j fun e=>{ e with key:=zIF p,val:=xv }
      let w' : World:={ w with heap:=w.heap.setIfInBounds g' (.map es' cl) }
      have hsz : es'.size = es.size:=by simp [es']
      have hget : ∀ i,es'[i]? = if j = i then (es[i]?).map (fun e=>{ e with key:=zIF p,val:=xv }) else es[i]?:=fun i=>by
        simp only [es',zNF]
      refine ⟨w', ?_,hS.turnMap (w':=w') (es':=es') (cl':=cl) hb hM h2 rfl rfl rfl rfl ?_ (by simp only [zL3,hsz]; exact h5) (fun y hy=>?_) (fun i y e1 hy he1=>?_)⟩
      · unfold Instr.mapUpdate
        simp only [Sem.run_bind,run_underlying hmt,Result.andThen_ok,zHK h2,zKb hkt p,hfk,he,zMB,Option.getD_some,hek,run_stays,run_setMap _ h2]
        rfl
      · rw [← h4]
        apply zNu
        intro i
        rw [zL9,zL9,zOJ,zOJ,hget]
        by_cases hij : j = i
        · subst hij; rw [zLx rfl,he]; simp [hek]
        · rw [zLv hij]
      · rcases List.mem_or_eq_of_mem_set hy with h | h
        · exact h6 y h
        · rw [h]; exact hnx
      · rw [hget] at he1
        rw [List.getElem?_set] at hy
        by_cases hij : j = i
        · subst hij
          rw [zLx rfl,he] at he1
          simp only [zMB,zLt] at he1
          subst he1
          rw [zLx rfl,zLx tO] at hy
          cases hy
          exact hx
        · rw [zLv hij] at he1 hy
          exact h7 i y e1 hy he1
    | none=>
      rw [hj,Option.bind_none] at hfk
      let es':=es.push { key:=zIF p,val:=xv,born:=cl }
      let w' : World:={ w with heap:=w.heap.setIfInBounds g' (.map es' (cl + 1)) }
      refine ⟨w', ?_,hS.turnMap (w':=w') (es':=es') (cl':=cl + 1) hb hM h2 rfl rfl rfl rfl (by simp [es',h4]) (by simp [es',h5]) (fun y hy=>?_) (fun i y e1 hy he1=>?_)⟩
      · unfold Instr.mapUpdate
        simp only [Sem.run_bind,run_underlying hmt,Result.andThen_ok,zHK h2,zKb hkt p,hfk,run_setMap _ h2]
        rfl
      · simp only [zNN,zMr] at hy
        rcases hy with h | h
        · exact h6 y h
        · rw [h]; exact hnx
      · simp only [es',zMk] at he1
        by_cases hi : i = es.size
        · rw [zLx hi] at he1
          simp only [zLt] at he1
          subst he1
          rw [zMC tO,hi,h5,Nat.sub_self] at hy
          simp only [zNW,zLt] at hy
          subst hy
          exact hx
        · rw [zLv hi] at he1
          have : i < es.size:=(zMD.1 he1).1
          rw [zL7 tO] at hy
          exact h7 i y e1 hy he1
theorem mk_sound (hS : Sim GT w M I H) (t : TypeId) : ∃ v w' M',(Instr.makeMap t none).run P w = .ok v w' ∧ Grow w M I H w' M' I (H ++ [.mp [] []]) ∧ Sim GT w' M' I (H ++ [.mp [] []]) ∧ Rel w' M' I (H ++ [ABlk.mp [] []]).length (.mp H.length) v:=by
  have hh : (w.alloc (.map #[] 0)).heap = w.heap.push (.map #[] 0):=rfl
  obtain ⟨h1,h2⟩:=hS.push (w':=w.alloc (.map #[] 0)) (obj:=.map #[] 0) hh rfl rfl rfl (blk:=.mp [] []) ⟨w.heap.size,#[],0,zAM,by rw [hh]; simp,fun h=>by have:=hS.idom _ h; omega,rfl,rfl,by simp,by simp⟩
  refine ⟨.map (some w.heap.size),_,_, ?_,h1,h2,.mp _ _ (by simp) zAM⟩
  simp [Instr.makeMap,Result.andThen]
theorem mlen_sound (hS : Sim GT w M I H) {mt kt et : TypeId} (hmt : P.underlying mt = some (.map kt et)) {m : AV} {mv : Value} (hm : Rel w M I H.length m mv) {ks : List (Int × Int)} {vs : List AV} (h : mview H m = some (ks,vs)) (ty : TypeId) :
    (Builtin.len_ #[mt] ty #[mv]).run P w = .ok (.int .i64 (vs.length : Int)) w:=by
  rcases zKv hS hm h with ⟨rfl,rfl,rfl⟩ | ⟨g,es,cl,rfl,hw,hkk,hl,_,hv⟩
  · simp [Builtin.len_,run_underlying hmt,Result.andThen,goInt]
  · simp [Builtin.len_,run_underlying hmt,Result.andThen,zHK hw,goInt,hl]
theorem clear_sound (hS : Sim GT w M I H) {t e ty : TypeId} {i : TypeInfo} {zv : Value} {z : AV} {k : Nat} (ht : P.underlying t = some (.slice e)) (hi : P.info? e = some i) (hz : i.zero = some zv) (hzk : zv.cells.size = k) (hzz : zGq zv z = true) (hel : z.elem k = true)
    {q : Option Bool} {b off len : Nat} {v : Value} {xs : List AV} (hx : Rel w M I H.length (.sl q b k off len) v) (hb : H[b]? = some (.row k xs)) (hle : off + len ≤ xs.length) (h0 : 0 < len) :
    ∃ w',(Builtin.clear_ #[t] ty #[v]).run P w = .ok (.tuple #[]) w' ∧ Grow w M I H w' M I (H.set b (.row k (xs.take off ++ List.replicate len z ++ xs.drop (off + len)))) ∧ Sim GT w' M I (H.set b (.row k (xs.take off ++ List.replicate len z ++ xs.drop (off + len)))):=by
  cases hx with
  | sln q b k off hbn hM hq=>omega
  | sl q b k off len g o p cap hbn hM hc hm hq ha=>
  obtain ⟨hp,_⟩:=ha tO
  subst hp
  obtain ⟨he,⟨h1,_⟩ | ⟨g',o',cur,h1,h2,h3,h4,h5⟩⟩:=hS.blk b _ hb
  · rw [hM] at h1; cases h1
  rw [hM] at h1; simp only [zLt,zLz] at h1; obtain ⟨rfl,rfl⟩:=h1
  obtain ⟨et,fz,hcur,hfz⟩:=h2
  have hzr:=zFI (zIK (w:=w) (M:=M) (I:=I) (n:=H.length) hzz) (one_ne (zMs.2 (AV.elem_iff.1 hel).2.2))
  have hone : ∀ u ∈ zv.cells.toList,u.oneCell' = true:=fun u hu=>by
    obtain ⟨j,hj⟩:=zMi hu
    have hjl:=(zg hj).1
    have hcl : z.cells.length = zv.cells.toList.length:=hzr.1
    obtain ⟨c,hcj⟩ : ∃ c,z.cells[j]? = some c:=⟨_,zLy tO⟩
    exact (hzr.2 j c u hcj hj).oneCell ((AV.elem_iff.1 hel).2.2 c (zMH hcj))
  obtain ⟨zs,hzs⟩ : ∃ zs,(Builtin.zeroCells zv.cells len).toList = zs:=⟨_,rfl⟩
  have hzl : zs.length = len * k:=by rw [← hzs]; simp [Builtin.zeroCells,hzk]
  have hzg : ∀ a j u,a < len → zv.cells.toList[j]? = some u → zs[a * k + j]? = some u:=fun a j u ha' hj=>by
    have hjl:=(zg hj).1
    have hjk : j < k:=by simp at hjl; omega
    have hlt : a * k + j < len * k:=by
      have : (a + 1) * k ≤ len * k:=zMU _ ha'
      rw [zMd] at this; omega
    rw [← hzs]
    simp only [Builtin.zeroCells,Array.toList_map,Array.toList_range,zL9,hzk,zM2 hlt,zMB]
    rw [show (a * k + j) % k = j by rw [zNZ,Nat.add_mul_mod_self_right,zN0 hjk]]
    have hu' : zv.cells[j]? = some u:=by simpa using hj
    simp [getElem!_def,hu']
  have hzo : ∀ u ∈ zs,u.oneCell' = true:=fun u hu=>by
    rw [← hzs] at hu
    simp only [Builtin.zeroCells,Array.toList_map,zNI] at hu
    obtain ⟨x,hx,rfl⟩:=hu
    have hk0 : 0 < k:=by
      rcases zNY k with h | h
      · simp [hzk,h] at hx
      · exact h
    have hlt : x % zv.cells.size < zv.cells.size:=Nat.mod_lt _ tO
    rw [zOP zv.cells _ hlt]
    exact hone _ (by simp)
  have hspan : o + off * k + 0 + zs.length ≤ cur.size:=by
    have : (off + len) * k ≤ xs.length * k:=zMU _ hle
    rw [zMd] at this
    omega
  obtain ⟨cur',w',r1,r2,r3,r4,r5,r6,r7,r8⟩:=zBB (P:=P) g (o + off * k) et fz zs 0 cur w hcur (fun j hj=>hfz j tO) hspan hzo
  refine ⟨w', ?_, ?_⟩
  · obtain ⟨m,rfl⟩ : ∃ m,len = m + 1:=⟨len - 1,by omega⟩
    have hzv : (zeroValue e).run P w = .ok zv w:=by simp [zeroValue,typeInfo,hi,hz,Result.andThen]
    simp [Builtin.clear_,run_underlying ht,hzv,hzs,r1,Result.andThen]
  · have hlt:=(zMD.1 hcur).1
    have hgg : w'.heap[g]? = some (.cells cur' et fz):=by rw [r2,zMT,zLx rfl,zLx hlt]
    have hylen : (xs.take off ++ List.replicate len z ++ xs.drop (off + len)).length = xs.length:=by
      simp only [zL1,zMA,zNa,zMX]; omega
    have hlive : zGI H M g:=⟨b,_,o,hb,rfl,hM⟩
    have hIb : ∀ k',I k' → w'.heap[k']? = w.heap[k']?:=fun k' hk'=>by
      have hne : k' ≠ g:=fun e=>hS.notLive hk' (by rw [e]; exact hlive)
      rw [r2,zMv (zMq hne)]
    have hsh : ∀ k' s,w.shape? k' = some s → w'.shape? k' = some s:=fun k' s h=>by
      by_cases hk : k' = g
      · subst hk
        simp [World.shape?,hcur] at h
        simp [World.shape?,hgg,r6,h]
      · have e:=zAd (w:=w) (w':=w') (g:=k') (by rw [r2,zMv (zMq hk)])
        rw [e]; exact h
    have R : ∀ {c u},Rel w M I H.length c u → Rel w' M I H.length c u:=fun h=>h.mono (fun _ h=>h) hIb (fun _ _=>rfl) (zL0 _) hsh
    refine hS.write hb rfl hM hcur r6 r2 r3 r4 r5 ⟨fun x hx=>?_,.inr ⟨g,o,cur',hM,⟨et,fz,hgg,by rw [r6]; exact hfz⟩,h3,by rw [hylen,r6]; exact h4,fun a j x c hx hj=>?_⟩⟩
    · simp only [zNN] at hx
      rcases hx with (hx | hx) | hx
      · exact he x (zNB hx)
      · obtain ⟨_,rfl⟩:=List.mem_replicate.1 hx; exact hel
      · exact he x (zNg hx)
    · have old : xs[a]? = some x → (a < off ∨ off + len ≤ a) → ∃ v,cur'[o + a * k + j]? = some v ∧ Rel w' M I H.length c v:=fun hxo hao=>by
        obtain ⟨u,hu,hru⟩:=h5 a j x c hxo hj
        refine ⟨u, ?_,R hru⟩
        rw [r8 _ ?_]
        · exact hu
        · have hjl:=(zg hj).1
          rw [(AV.elem_iff.1 (he x (zMH hxo))).1] at hjl
          rcases hao with hao | hao
          · left
            have : (a + 1) * k ≤ off * k:=zMU _ hao
            rw [zMd] at this; omega
          · right
            have : (off + len) * k ≤ a * k:=zMU _ hao
            rw [zMd] at this; omega
      by_cases ha1 : a < off
      · rw [zMj,zL7 (by rw [zMA]; omega),zMS,zLx ha1] at hx
        exact old hx (.inl ha1)
      · by_cases ha2 : a < off + len
        · rw [zL7 (by rw [zL1,zMA,zNa]; omega),zMC (by rw [zMA]; omega),zOE,zMA] at hx
          split at hx
          case isFalse=>cases hx
          cases hx
          obtain ⟨u,hu,hru⟩:=zBx hzr hj
          refine ⟨u, ?_,R hru⟩
          have:=r7 ((a - off) * k + j) (by
            have hh:=hzg (a - off) j u tO hu
            exact (zg hh).1)
          rw [hzg (a - off) j u tO hu] at this
          rw [← this]
          congr 1
          have e1 : a * k = off * k + (a - off) * k:=by rw [← Nat.add_mul]; congr 1; omega
          omega
        · rw [zMC (by rw [zL1,zMA,zNa]; omega),zL1,zMA,zNa,zMY] at hx
          have e : off + len + (a - (min off xs.length + len)) = a:=by omega
          rw [e] at hx
          exact old hx (.inr tO)
end
end Go.AM
