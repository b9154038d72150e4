/- Several texts of mine in one (Am1, Am2, Am3, Am4, Am5, Am6). Own work. -/
import Derived.WalkKit
import Derived.Laws.StructEq
import Derived.OwnWalk
import Derived.Lib.ConvBytes
import Derived.Laws.BytesString
import Derived.Laws.IdiomStrings
import Derived.Laws.Slices
set_option linter.all false
namespace Go.AM
theorem zS_ {P:Prop}(h:P:=by simp):P:=h
theorem zD_ {P:Prop}(h:P:=by decide):P:=h
theorem zl_ {α:Type _}{l:List α}{i:Nat}{a:α}(h:l[i]?=some a):i<l.length:=(List.getElem?_eq_some_iff.1 h).1
abbrev zoN:=@List.length_cons
abbrev zTo:=@Bool.and_eq_true
abbrev zWl:=@if_neg
abbrev zoO:=@List.getElem?_eq_getElem
abbrev zoP:=@List.length_append
abbrev zoQ:=@if_pos
abbrev zoR:=@Nat.le_refl
abbrev zoS:=@Option.some.injEq
abbrev zoT:=@List.length_nil
abbrev zoU:=@List.length_map
abbrev zoV:=@Option.map_eq_some_iff
abbrev zoY:=@decide_eq_true_eq
abbrev zoW:=@List.length_set
abbrev zoX:=@List.getElem?_map
abbrev zoZ:=@Bool.false_eq_true
abbrev zoa:=@List.map_cons
abbrev zob:=@Prod.mk.injEq
abbrev zoc:=@List.mem_of_getElem?
abbrev zod:=@congrArg
abbrev zof:=@List.getElem?_append_left
abbrev zoe:=@Option.map_some
abbrev zog:=@bne_eq_false_iff_eq
abbrev zoh:=@Option.some.inj
abbrev zoi:=@UInt8.toNat_inj
abbrev zoj:=@decide_eq_true
abbrev zok:=@List.length_drop
abbrev zol:=@beq_iff_eq
abbrev zom:=@List.map_nil
abbrev zon:=@List.length_take
abbrev zoo:=@Array.getElem?_eq_some_iff
abbrev zop:=@decide_eq_false
abbrev zoy:=@List.getElem?_append_right
abbrev zoq:=@Int.toNat_natCast
abbrev zor:=@Option.bind_eq_some_iff
abbrev zou:=@List.append_assoc
abbrev zov:=@List.map_append
abbrev zos:=@Array.getElem?_setIfInBounds
abbrev zot:=@if_false
abbrev zow:=@of_decide_eq_true
abbrev zox:=@List.take_of_length_le
abbrev zoz:=@if_true
abbrev zo0:=@bne_iff_ne
abbrev zo3:=@Nat.lt_of_lt_of_le
abbrev zo1:=@List.getElem?_drop
abbrev zo4:=@List.nil_append
abbrev zl3:=@List.getElem?_set_self
abbrev zl5:=@List.mem_singleton
abbrev zo5:=@List.getElem?_take
abbrev zo6:=@List.getElem?_of_mem
abbrev zo7:=@List.getElem?_set_ne
abbrev zl6:=@Nat.add_assoc
abbrev zmF:=@List.drop_eq_getElem_cons
abbrev zl8:=@of_decide_eq_false
abbrev zl4:=@decide_eq_false_iff_not
abbrev zl9:=@List.cons_append
abbrev zo2:=@Nat.mul_le_mul_right
abbrev zmA:=@List.getElem?_eq_none
abbrev zl7:=@Nat.zero_add
abbrev zmB:=@Nat.zero_le
abbrev zmG:=@List.mem_cons
abbrev zmD:=@Bool.not_eq_true'
abbrev zmE:=@List.all_eq_true
abbrev zmH:=@Option.bind_some
abbrev zmK:=@Nat.le_trans
abbrev zmL:=@Option.isSome_iff_exists
abbrev zmM:=@List.drop_eq_nil_of_le
abbrev zmN:=@Bool.true_and
abbrev zmC:=@Nat.add_mul
abbrev zmJ:=@Ne.symm
abbrev zmO:=@List.getElem_mem
abbrev zmI:=@Bool.eq_false_iff
abbrev zmQ:=@List.exists_cons_of_ne_nil
abbrev zmP:=@Nat.pow_succ
abbrev zmT:=@Nat.add_sub_cancel
abbrev zmU:=@Nat.not_lt_zero
abbrev zmR:=@List.append_nil
abbrev zmV:=@List.singleton_append
abbrev zmW:=@Bool.false_and
abbrev zmb:=@List.getElem?_range
abbrev zmX:=@List.mem_cons_of_mem
abbrev zmY:=@Nat.pow_le_pow_right
abbrev zma:=@Array.getElem?_push
abbrev zmc:=@List.getElem?_cons_zero
abbrev zmd:=@List.getD_eq_getElem?_getD
abbrev zmg:=@List.take_length
abbrev zmh:=@List.mem_map_of_mem
abbrev zme:=@Nat.mul_comm
abbrev zmp:=@List.length_singleton
abbrev zmf:=@List.mem_map
abbrev zmZ:=@List.cons.injEq
abbrev zmi:=@List.filter_cons_of_neg
abbrev zmS:=@Array.getElem?_setIfInBounds_ne
abbrev zml:=@Iff.rfl
abbrev zmn:=@Bool.or_eq_true
abbrev zmo:=@Array.getElem?_modify
abbrev zmr:=@List.take_append_drop
abbrev zms:=@List.eq_nil_of_length_eq_zero
abbrev znD:=@decide_eq_decide
abbrev zmu:=@List.all_cons
abbrev zmj:=@List.mem_of_mem_drop
abbrev zmk:=@List.mem_of_mem_take
abbrev zmv:=@UInt8.toNat_lt
abbrev zmw:=@List.filter_cons_of_pos
abbrev zmm:=@List.mem_append
abbrev zmx:=@Array.getD_eq_getD_getElem?
abbrev zmy:=@List.length_reverse
abbrev zmz:=@Nat.add_zero
abbrev zm0:=@Array.getElem?_append_left
abbrev zm1:=@Bool.and_true
abbrev zm2:=@List.take_succ_eq_append_getElem
abbrev zm3:=@Array.ext_getElem?
abbrev zm4:=@Array.getElem?_eq_getElem
abbrev zm5:=@Nat.lt_or_ge
abbrev zm7:=@List.map_map
abbrev zm8:=@List.ext_getElem?
abbrev znV:=@List.length_range
abbrev zm9:=@List.take_add_one
abbrev znA:=@List.getElem?_cons_succ
abbrev znB:=@List.length_eq_zero_iff
abbrev znC:=@Nat.add_sub_cancel_left
abbrev znd:=@List.drop_length
abbrev znE:=@List.filter_eq_nil_iff
abbrev zm6:=@Nat.add_comm
abbrev zmt:=@decide_eq_true_iff
abbrev znF:=@List.pairwise_cons
abbrev zmq:=@List.set_append_right
abbrev znG:=@Nat.min_eq_left
abbrev znH:=@Bool.and_eq_false_iff
abbrev znI:=@List.mem_filter
abbrev znJ:=@Int.fdiv_eq_ediv_of_nonneg
abbrev znK:=@List.getElem?_eq_none_iff
abbrev znL:=@List.mem_range
abbrev znM:=@List.map_eq_nil_iff
abbrev znN:=@List.take_succ_cons
abbrev znO:=@Option.toList_some
abbrev znP:=@List.mem_cons_self
abbrev znR:=@Array.getElem?_eq_none
abbrev znS:=@List.getElem_cons_drop
abbrev znT:=@Nat.div_div_eq_div_mul
abbrev znU:=@Array.size_append
abbrev znX:=@Array.getElem?_toList
abbrev znY:=@List.drop_zero
abbrev znZ:=@Classical.choose_spec
abbrev znc:=@List.mem_flatMap
abbrev zne:=@Nat.lt_irrefl
abbrev znf:=@Bool.or_false
abbrev zoK:=@Bool.and_self
abbrev zng:=@List.length_pos_iff
abbrev znh:=@List.map_congr_left
abbrev zni:=@List.dropWhile_cons
abbrev znl:=@List.extract_eq_take_drop
abbrev zno:=@List.head?_drop
abbrev znQ:=@and_true
abbrev znp:=@Nat.eq_zero_or_pos
abbrev znr:=@List.set_set
abbrev zns:=@List.map_replicate
abbrev znt:=@Array.ext'
abbrev znu:=@List.mapM_cons
abbrev znv:=@Nat.mul_le_mul
abbrev znw:=@List.take_succ
abbrev zny:=@List.size_toArray
abbrev znz:=@Function.comp_def
abbrev zn0:=@List.flatMap_cons
abbrev zn1:=@Nat.mul_one
abbrev zn2:=@List.length_eq_one_iff
abbrev zn3:=@List.set_eq_take_append_cons_drop
abbrev zna:=@Nat.mod_eq_of_lt
abbrev zn4:=@List.length_filter_le
abbrev zn5:=@List.eraseIdx_eq_take_drop_succ
abbrev zn6:=@List.extract_toArray
abbrev znq:=@Nat.zero_mul
abbrev znm:=@List.foldl_cons
abbrev zn8:=@List.take_left'
abbrev znn:=@Bool.eq_iff_iff
abbrev zn9:=@List.mem_append_left
abbrev zoA:=@Nat.sub_zero
abbrev zoB:=@Nat.le_of_lt
abbrev zoC:=@List.pairwise_append
abbrev zoD:=@Bool.or_eq_false_iff
abbrev zoE:=@beq_eq_false_iff_ne
abbrev zoF:=@List.drop_succ_cons
abbrev znk:=@List.replicate_zero
abbrev zoG:=@List.flatMap_append
abbrev zoH:=@Option.map_map
abbrev zoI:=@Int.natCast_nonneg
abbrev zoL:=@not_true_eq_false
abbrev zoM:=@List.reverse_cons
abbrev zn7:=@Nat.mod_lt
theorem zg {α:Type _} {l:List α} {i:Nat} {a:α} (h:l[i]?=some a):∃ (w:i<l.length),l[i]=a:=List.getElem?_eq_some_iff.1 h
theorem tO {P:Prop} (h:P:=by omega):P:=h
theorem tT {p:Prop} [Decidable p] (h:p:=by omega):decide p=true:=zoj h
theorem tF {p:Prop} [Decidable p] (h:¬ p:=by omega):decide p=false:=zop h
theorem tE {α:Type} [BEq α] [LawfulBEq α] {a b:α} (h:a=b:=by omega):(a==b)=true:=zol.2 h
theorem tN {α:Type} [BEq α] [LawfulBEq α] {a b:α} (h:a≠b:=by omega):(a==b)=false:=zoE.2 h
inductive AV where
  |undef
  |bool (b:Bool)
  |int (k:IntKind) (n:Int)
  |str (s:List UInt8)
  |agg (cs:List AV)
  |tup (vs:List AV)
  |lst (q:Option Bool) (k:Nat) (xs:List AV)
  |lref (x:AV) (o:Nat)
  |ref (b k i o:Nat)
  |sl (q:Option Bool) (b k off len:Nat)
  |nilp
  |nilf
  |nili
  |nilm
  |fn (f:FuncId) (first caps:List AV)
  |iface (t:TypeId) (v:AV)
  |raw (v:Value)
  |pan (v:AV)
  |sca
  |mp (b:Nat)
  |mps (ks:List (Int×Int)) (vs:List AV)
  deriving Inhabited
def AV.cells:AV->List AV
  |.agg cs=>cs
  |v=>[v]
mutual
def AV.bel (n:Nat):AV->Bool
  |.ref b _ _ _=>decide (b<n)
  |.sl _ b _ _ _=>decide (b<n)
  |.agg cs=>AV.belL n cs
  |.tup cs=>AV.belL n cs
  |.lst _ _ _=>true
  |.lref _ _=>true
  |.fn _ a b=>AV.belL n a&&AV.belL n b
  |.iface _ v=>AV.bel n v
  |.mp b=>decide (b<n)
  |_=>true
def AV.belL (n:Nat):List AV->Bool
  |[]=>true
  |x::r=>AV.bel n x&&AV.belL n r
end
theorem AV.belL_iff (n:Nat):∀ l,AV.belL n l=true↔∀ x∈l,AV.bel n x=true
  |[]=>by simp [AV.belL]
  |x::r=>by simp [AV.belL,AV.belL_iff n r]
def AV.noRef (v:AV):Bool:=v.bel 0
inductive ABlk where
  |dead
  |box (cs:List AV)
  |row (k:Nat) (xs:List AV)
  |frz (k:Nat) (xs:List AV)
  |mp (ks:List (Int×Int)) (vs:List AV)
  |shp (b t k:Nat)
  |ty (b t:Nat)
  |hd (b t n:Nat)
  deriving Inhabited
abbrev Heap:=List ABlk
def ABlk.mut:ABlk->Bool
  |.box _=>true
  |.row _ _=>true
  |.mp _ _=>true
  |_=>false
def AV.one:AV->Bool
  |.undef|.agg _|.tup _|.raw _|.pan _=>false
  |_=>true
def AV.elem (k:Nat) (x:AV):Bool:=x.cells.length==k&&x.noRef&&x.cells.all AV.one
def Elems (k:Nat) (xs:List AV):Prop:=∀ x∈xs,x.elem k=true
theorem AV.elem_iff {k:Nat} {x:AV}:x.elem k=true↔x.cells.length=k/\x.noRef=true/\∀ c∈x.cells,c.one=true:=by
  simp [AV.elem,and_assoc]
abbrev AMap:=Nat->Option (Nat×Nat)
def zKz (p:Int×Int):Value:=.agg #[.int .i64 p.1,.int .i64 p.2]
inductive Rel (w:World) (M:AMap) (I:Nat->Prop) (n:Nat):AV->Value->Prop where
  |undef (v:Value):Rel w M I n .undef v
  |bool (b:Bool):Rel w M I n (.bool b) (.bool b)
  |int (k:IntKind) (m:Int):Rel w M I n (.int k m) (.int k m)
  |str (s:List UInt8):Rel w M I n (.str s) (.string ⟨s.toArray⟩)
  |agg (cs:List AV) (vs:List Value) (hl:cs.length=vs.length) (h:∀ (i:Nat) (c:AV) (v:Value),cs[i]?=some c->vs[i]?=some v->Rel w M I n c v):Rel w M I n (.agg cs) (.agg vs.toArray)
  |tup (cs:List AV) (vs:List Value) (hl:cs.length=vs.length) (h:∀ (i:Nat) (c:AV) (v:Value),cs[i]?=some c->vs[i]?=some v->Rel w M I n c v):Rel w M I n (.tup cs) (.tuple vs.toArray)
  |lnil (q:Option Bool) (k:Nat) (hq:q≠some false):Rel w M I n (.lst q k []) (.slice none 0 0)
  |lemp (q:Option Bool) (k:Nat) (a:Addr) (hq:q≠some true):Rel w M I n (.lst q k []) (.slice (some a) 0 0)
  |lst (q:Option Bool) (k:Nat) (xs:List AV) (g o cap:Nat) (V:Nat->Nat->Value) (hq:q≠some true) (hc:xs.length<=cap) (hm:cap<=maxLen) (hI:I g) (he:Elems k xs)
      (hv:∀ (i j:Nat) (x c:AV),xs[i]?=some x->x.cells[j]?=some c->w.cell? ⟨g,o+i*k+j,none⟩=some (V i j))
      (hr:∀ (i j:Nat) (x c:AV),xs[i]?=some x->x.cells[j]?=some c->Rel w M I n c (V i j)):Rel w M I n (.lst q k xs) (.slice (some ⟨g,o,none⟩) xs.length cap)
  |lref (x:AV) (oo g o:Nat) (V:Nat->Value) (hI:I g) (hx:x.noRef=true)
      (hv:∀ (j:Nat) (c:AV),x.cells[oo+j]?=some c->w.cell? ⟨g,o+j,none⟩=some (V j))
      (hr:∀ (j:Nat) (c:AV),x.cells[oo+j]?=some c->Rel w M I n c (V j)):Rel w M I n (.lref x oo) (.pointer (some ⟨g,o,none⟩))
  |ref (b k i oo g o:Nat) (hb:b<n) (hM:M b=some (g,o)):Rel w M I n (.ref b k i oo) (.pointer (some ⟨g,o+i*k+oo,none⟩))
  |sln (q:Option Bool) (b k off:Nat) (hb:b<n) (hM:M b=none) (hq:q≠some false):Rel w M I n (.sl q b k off 0) (.slice none 0 0)
  |sl (q:Option Bool) (b k off len g o p cap:Nat) (hb:b<n) (hM:M b=some (g,o)) (hc:len<=cap) (hm:cap<=maxLen) (hq:q=some true->0<len)
      (ha:0<cap->p=o+off*k/\∃ e sz,w.shape? g=some (e,sz)/\o+(off+cap)*k<=sz):Rel w M I n (.sl q b k off len) (.slice (some ⟨g,p,none⟩) len cap)
  |nilp:Rel w M I n .nilp (.pointer none)
  |nilf:Rel w M I n .nilf .nilFunc
  |nili:Rel w M I n .nili .nilIface
  |nilm:Rel w M I n .nilm (.map none)
  |fn (f:FuncId) (as bs:List AV) (vs us:List Value) (hl:as.length=vs.length) (hl':bs.length=us.length) (h:∀ (i:Nat) (c:AV) (v:Value),as[i]?=some c->vs[i]?=some v->Rel w M I n c v)
      (h':∀ (i:Nat) (c:AV) (v:Value),bs[i]?=some c->us[i]?=some v->Rel w M I n c v):Rel w M I n (.fn f as bs) (.func (.func f) vs.toArray us.toArray)
  |iface (t:TypeId) (x:AV) (v:Value) (h:Rel w M I n x v):Rel w M I n (.iface t x) (.iface t v)
  |raw (v:Value):Rel w M I n (.raw v) v
  |sca (v:Value) (h:v.oneCell'=true):Rel w M I n .sca v
  |mp (b g:Nat) (hb:b<n) (hM:M b=some (g,0)):Rel w M I n (.mp b) (.map (some g))
  |mps (ks:List (Int×Int)) (vs:List AV) (g:Nat) (es:Array MapEntry) (clock:Nat) (hI:I g) (hw:w.heap[g]?=some (.map es clock)) (hk:es.toList.map (·.key)=ks.map zKz) (hl:vs.length=es.size) (hn:∀ x∈vs,x.noRef=true)
      (hv:∀ (i:Nat) (x:AV) (e:MapEntry),vs[i]?=some x->es[i]?=some e->Rel w M I n x e.val):Rel w M I n (.mps ks vs) (.map (some g))
def zED (w:World) (M:AMap) (I:Nat->Prop) (n:Nat) (cs:List AV) (vs:List Value):Prop:=
  cs.length=vs.length/\∀ (i:Nat) (c:AV) (v:Value),cs[i]?=some c->vs[i]?=some v->Rel w M I n c v
theorem Rel.mono {w w':World} {M M':AMap} {I I':Nat->Prop} {n n':Nat} (hI:∀ k,I k->I' k) (hb:∀ k,I k->w'.heap[k]?=w.heap[k]?) (hM:∀ b,b<n->M' b=M b) (hn:n<=n')
    (hs:∀ g s,w.shape? g=some s->w'.shape? g=some s) {x:AV} {v:Value} (h:Rel w M I n x v):Rel w' M' I' n' x v:=by
  have hc:∀ g o,I g->w'.cell? ⟨g,o,none⟩=w.cell? ⟨g,o,none⟩:=fun g o hg=>by simp [World.cell?,hb g hg]
  induction h with
  |undef v=>exact .undef v
  |bool b=>exact .bool b
  |int k m=>exact .int k m
  |str s=>exact .str s
  |agg cs vs hl _ ih=>exact .agg cs vs hl ih
  |tup cs vs hl _ ih=>exact .tup cs vs hl ih
  |lnil q k hq=>exact .lnil q k hq
  |lemp q k a hq=>exact .lemp q k a hq
  |lst q k xs g o cap V hq hcap hm hg he hv _ ih=>exact .lst q k xs g o cap V hq hcap hm (hI g hg) he (fun i j x c hx hj=>by rw [hc g _ hg];exact hv i j x c hx hj) ih
  |lref x oo g o V hg hx hv _ ih=>exact .lref x oo g o V (hI g hg) hx (fun j c hj=>by rw [hc g _ hg];exact hv j c hj) ih
  |ref b k i oo g o hbn hMb=>exact .ref b k i oo g o (zo3 hbn hn) (by rw [hM b hbn];exact hMb)
  |sln q b k off hbn hMb hq=>exact .sln q b k off (zo3 hbn hn) (by rw [hM b hbn];exact hMb) hq
  | sl q b k off len g o p cap hbn hMb hcl hm hq ha=>
    exact .sl q b k off len g o p cap (zo3 hbn hn) (by rw [hM b hbn];exact hMb) hcl hm hq (fun h0=>by obtain ⟨h1,e,sz,h2,h3⟩:=ha h0;exact ⟨h1,e,sz,hs _ _ h2,h3⟩)
  |nilp=>exact .nilp
  |nilf=>exact .nilf
  |nili=>exact .nili
  |nilm=>exact .nilm
  |fn f as bs vs us hl hl' _ _ ih ih'=>exact .fn f as bs vs us hl hl' ih ih'
  |iface t x v _ ih=>exact .iface t x v ih
  |raw v=>exact .raw v
  |sca v h=>exact .sca v h
  |mp b g hbn hMb=>exact .mp b g (zo3 hbn hn) (by rw [hM b hbn];exact hMb)
  |mps ks vs g es clock hg hw hk hl hnr _ ih=>exact .mps ks vs g es clock (hI g hg) (by rw [hb g hg];exact hw) hk hl hnr ih
theorem Rel.cut {w:World} {M M':AMap} {I:Nat->Prop} {n m:Nat} (hM:∀ b,b<m->M' b=M b) {x:AV} {v:Value} (h:Rel w M I n x v) (hx:x.bel m=true):Rel w M' I m x v:=by
  have inner:∀ {y:AV} {u:Value},Rel w M I n y u->y.noRef=true->y.bel m=true:=by
    intro y u hy hn;unfold AV.noRef at hn;revert hn;clear hy hx h hM
    suffices H:∀ y,(AV.bel 0 y=true->AV.bel m y=true) from H y
    intro y;exact AV.rec (motive_1:=fun y=>AV.bel 0 y=true->AV.bel m y=true) (motive_2:=fun l=>AV.belL 0 l=true->AV.belL m l=true)
      (by simp [AV.bel]) (by simp [AV.bel]) (by simp [AV.bel]) (by simp [AV.bel])
      (fun cs ih=>by simpa [AV.bel] using ih) (fun cs ih=>by simpa [AV.bel] using ih) (by simp [AV.bel]) (by simp [AV.bel]) (by simp [AV.bel]) (by simp [AV.bel])
      (by simp [AV.bel]) (by simp [AV.bel]) (by simp [AV.bel]) (by simp [AV.bel])
      (fun f a b iha ihb=>by simp only [AV.bel,zTo];exact fun h=>⟨iha h.1,ihb h.2⟩) (fun t v ih=>by simpa [AV.bel] using ih) (by simp [AV.bel]) (fun v ih=>by simp [AV.bel]) (by simp [AV.bel]) (by simp [AV.bel]) (by simp [AV.bel])
      (by simp [AV.belL]) (fun x r ihx ihr=>by simp only [AV.belL,zTo];exact fun h=>⟨ihx h.1,ihr h.2⟩) y
  have cellsIn:∀ {y c:AV} {j:Nat},y.noRef=true->y.cells[j]?=some c->c.noRef=true:=by
    intro y c j hy hj;cases y with
    | agg cs=>
      simp only [AV.noRef,AV.bel,AV.belL_iff] at hy;exact hy c (zoc hj)
    | _=>
      simp only [AV.cells] at hj;have hcc:=zoc hj;simp only [zl5] at hcc;rw [hcc];exact hy
  induction h with
  |undef v=>exact .undef v
  |bool b=>exact .bool b
  |int k m=>exact .int k m
  |str s=>exact .str s
  | agg cs vs hl h ih=>
    simp only [AV.bel,AV.belL_iff] at hx;exact .agg cs vs hl fun i c v hc hv=>ih i c v hc hv (hx c (zoc hc))
  | tup cs vs hl h ih=>
    simp only [AV.bel,AV.belL_iff] at hx;exact .tup cs vs hl fun i c v hc hv=>ih i c v hc hv (hx c (zoc hc))
  |lnil q k hq=>exact .lnil q k hq
  |lemp q k a hq=>exact .lemp q k a hq
  | lst q k xs g o cap V hq hcap hm hg he hv hr ih=>
    exact .lst q k xs g o cap V hq hcap hm hg he hv fun i j x c hx hj=>ih i j x c hx hj (inner (hr i j x c hx hj) (cellsIn (AV.elem_iff.1 (he x (zoc hx))).2.1 hj))
  |lref x oo g o V hg hxn hv hr ih=>exact .lref x oo g o V hg hxn hv fun j c hj=>ih j c hj (inner (hr j c hj) (cellsIn hxn hj))
  |ref b k i oo g o hbn hMb=>simp [AV.bel] at hx;exact .ref b k i oo g o hx (by rw [hM b hx];exact hMb)
  |sln q b k off hbn hMb hq=>simp [AV.bel] at hx;exact .sln q b k off hx (by rw [hM b hx];exact hMb) hq
  |sl q b k off len g o p cap hbn hMb hcl hm hq ha=>simp [AV.bel] at hx;exact .sl q b k off len g o p cap hx (by rw [hM b hx];exact hMb) hcl hm hq ha
  |nilp=>exact .nilp
  |nilf=>exact .nilf
  |nili=>exact .nili
  |nilm=>exact .nilm
  | fn f as bs vs us hl hl' _ _ ih ih'=>
    simp only [AV.bel,zTo,AV.belL_iff] at hx;exact .fn f as bs vs us hl hl' (fun i c v hc hv=>ih i c v hc hv (hx.1 c (zoc hc))) (fun i c v hc hv=>ih' i c v hc hv (hx.2 c (zoc hc)))
  |iface t x v _ ih=>simp only [AV.bel] at hx;exact .iface t x v (ih hx)
  |raw v=>exact .raw v
  |sca v h=>exact .sca v h
  |mp b g hbn hMb=>simp [AV.bel] at hx;exact .mp b g hx (by rw [hM b hx];exact hMb)
  |mps ks vs g es clock hg hw hk hl hnr hv ih=>exact .mps ks vs g es clock hg hw hk hl hnr fun i x e h1 h2=>ih i x e h1 h2 (inner (hv i x e h1 h2) (hnr x (zoc h1)))
theorem Rel.bel {w:World} {M:AMap} {I:Nat->Prop} {n:Nat} {x:AV} {v:Value} (h:Rel w M I n x v):x.bel n=true:=by
  induction h with
  | agg cs vs hl h ih=>
    simp only [AV.bel,AV.belL_iff];intro c hc;obtain ⟨i,hi⟩:=zo6 hc;obtain ⟨u,hu⟩:∃ u,vs[i]?=some u:=⟨_,zoO (by have:=(zl_ hi);omega)⟩;exact ih i c u hi hu
  | tup cs vs hl h ih=>
    simp only [AV.bel,AV.belL_iff];intro c hc;obtain ⟨i,hi⟩:=zo6 hc;obtain ⟨u,hu⟩:∃ u,vs[i]?=some u:=⟨_,zoO (by have:=(zl_ hi);omega)⟩;exact ih i c u hi hu
  | fn f as bs vs us hl hl' _ _ ih ih'=>
    simp only [AV.bel,zTo,AV.belL_iff];refine ⟨fun c hc=>?_,fun c hc=>?_⟩
    · obtain ⟨i,hi⟩:=zo6 hc
      obtain ⟨u,hu⟩:∃ u,vs[i]?=some u:=⟨_,zoO (by have:=(zl_ hi);omega)⟩;exact ih i c u hi hu
    · obtain ⟨i,hi⟩:=zo6 hc
      obtain ⟨u,hu⟩:∃ u,us[i]?=some u:=⟨_,zoO (by have:=(zl_ hi);omega)⟩;exact ih' i c u hi hu
  |iface t x v _ ih=>simpa [AV.bel] using ih
  |ref b k i oo g o hbn hMb=>simpa [AV.bel] using hbn
  |sln q b k off hbn hMb hq=>simpa [AV.bel] using hbn
  |sl q b k off len g o p cap hbn hMb hcl hm hq ha=>simpa [AV.bel] using hbn
  |mp b g hbn hMb=>simpa [AV.bel] using hbn
  |_=>simp [AV.bel]
theorem AV.noRef_cells {y c:AV} {j:Nat} (hy:y.noRef=true) (hj:y.cells[j]?=some c):c.noRef=true:=by
  cases y with
  | agg cs=>
    simp only [AV.noRef,AV.bel,AV.belL_iff] at hy;exact hy c (zoc hj)
  |_=>grind +locals
theorem Rel.free {w:World} {M M':AMap} {I:Nat->Prop} {n n':Nat} {x:AV} {v:Value} (h:Rel w M I n x v) (hx:x.noRef=true):Rel w M' I n' x v:=
  Rel.mono (M:=M') (n:=0) (fun _ h=>h) (fun _ _=>rfl) (fun _ h=>absurd h (zmU _)) (zmB _) (fun _ _ h=>h) (Rel.cut (m:=0) (fun _ h=>absurd h (zmU _)) h hx)
theorem Rel.mk_lst {w:World} {M:AMap} {I:Nat->Prop} {n:Nat} {q:Option Bool} {xs:List AV} {g o cap k:Nat} (hq:q≠some true) (hc:xs.length<=cap) (hm:cap<=maxLen) (hI:I g) (he:Elems k xs)
    (h:∀ i j x c,xs[i]?=some x->x.cells[j]?=some c->∃ v,w.cell? ⟨g,o+i*k+j,none⟩=some v/\Rel w M I n c v):Rel w M I n (.lst q k xs) (.slice (some ⟨g,o,none⟩) xs.length cap):=by
  refine .lst q k xs g o cap (fun i j=>(w.cell? ⟨g,o+i*k+j,none⟩).getD Go.undef) hq hc hm hI he (fun i j x c hx hj=>?_) (fun i j x c hx hj=>?_)
  · grind
  · grind
theorem Rel.mk_lref {w:World} {M:AMap} {I:Nat->Prop} {n:Nat} {x:AV} {oo g o:Nat} (hI:I g) (hx:x.noRef=true)
    (h:∀ j c,x.cells[oo+j]?=some c->∃ v,w.cell? ⟨g,o+j,none⟩=some v/\Rel w M I n c v):Rel w M I n (.lref x oo) (.pointer (some ⟨g,o,none⟩)):=by
  refine .lref x oo g o (fun j=>(w.cell? ⟨g,o+j,none⟩).getD Go.undef) hI hx (fun j c hj=>?_) (fun j c hj=>?_)
  · obtain ⟨v,h1,_⟩:=h j c hj;simp [h1]
  · grind
theorem Rel.oneCell {w:World} {M:AMap} {I:Nat->Prop} {n:Nat} {x:AV} {v:Value} (h:Rel w M I n x v) (hx:x.one=true):v.oneCell'=true:=by
  cases h <;> first|rfl|assumption|simp [AV.one] at hx
def Cells (w:World) (g:Nat) (cur:Array Value) (k:Nat:=1):Prop:=
  ∃ e fz,w.heap[g]?=some (.cells cur e fz)/\∀ j,j<cur.size+(k-1)->¬ (fz.1<=j/\j<fz.2)
def zNf (w:World) (M:AMap) (I:Nat->Prop) (n b:Nat):ABlk->Prop
  |.dead=>True
  |.box cs=>∃ g o cur,M b=some (g,o)/\Cells w g cur/\¬ I g/\o+cs.length<=cur.size/\∀ j c,cs[j]?=some c->∃ v,cur[o+j]?=some v/\Rel w M I n c v
  |.row k xs=>Elems k xs/\((M b=none/\xs=[])\/∃ g o cur,M b=some (g,o)/\Cells w g cur k/\¬ I g/\o+xs.length*k<=cur.size /\
      ∀ i j x c,xs[i]?=some x->x.cells[j]?=some c->∃ v,cur[o+i*k+j]?=some v/\Rel w M I n c v)
  |.frz k xs=>Elems k xs/\((M b=none/\xs=[])\/∃ g o,M b=some (g,o)/\I g /\
      ∀ i j x c,xs[i]?=some x->x.cells[j]?=some c->∃ v,w.cell? ⟨g,o+i*k+j,none⟩=some v/\Rel w M I n c v)
  |.mp ks vs=>∃ (g:Nat) (es:Array MapEntry) (clock:Nat),M b=some (g,0)/\w.heap[g]?=some (.map es clock)/\¬ I g/\es.toList.map (·.key)=ks.map zKz/\vs.length=es.size/\(∀ x∈vs,x.noRef=true) /\
      ∀ (i:Nat) (x:AV) (e:MapEntry),vs[i]?=some x->es[i]?=some e->Rel w M I n x e.val
  |.shp b' t k=>b'<b/\∃ g,M b'=some (g,0)/\w.shape? g=some (t,k)
  |.ty b' t=>b'<b/\∃ g c,M b'=some (g,0)/\w.shape? g=some (t,c)
  |.hd b' t k=>b'<b/\∃ g cur hi,M b'=some (g,0)/\I g/\k<=hi/\w.heap[g]?=some (.cells cur t (0,hi))
def zIR (H:Heap) (M:AMap) (k:Nat):Prop:=∃ b x o,H[b]?=some x/\x.mut=true/\M b=some (k,o)
abbrev zG_:=Nat->Option AV
abbrev zI_ (n:Int):AV:=.int .i64 n
structure Sim (GT:zG_) (w:World) (M:AMap) (I:Nat->Prop) (H:Heap):Prop where
  glob:∀ g x,GT g=some x->Rel w M I 0 (.lref x 0) (.pointer (some ⟨g,0,none⟩))
  idom:∀ k,I k->k<w.heap.size
  blk:∀ b x,H[b]?=some x->zNf w M I H.length b x
  inj:∀ b b' x x' g o o',H[b]?=some x->x.mut=true->H[b']?=some x'->x'.mut=true->M b=some (g,o)->M b'=some (g,o')->b=b'
  shp:∀ g x,GT g=some x->∃ e,w.shape? g=some (e,x.cells.length)
structure Grow (w:World) (M:AMap) (I:Nat->Prop) (H:Heap) (w':World) (M':AMap) (I':Nat->Prop) (H':Heap):Prop where
  os:w'.os=w.os
  tape:w'.tape=w.tape
  output:w'.output=w.output
  size:w.heap.size<=w'.heap.size
  map:∀ b,b<H.length->M' b=M b
  imm:∀ k,I k->I' k
  imm':∀ k,I' k->k<w.heap.size->I k\/zIR H M k
  frame:∀ k,k<w.heap.size->¬ zIR H M k->w'.heap[k]?=w.heap[k]?
  live:∀ k,k<w.heap.size->zIR H' M' k->zIR H M k
  shape:∀ g s,w.shape? g=some s->w'.shape? g=some s
  len:H.length<=H'.length
theorem Sim.notLive {GT:zG_} {w:World} {M:AMap} {I:Nat->Prop} {H:Heap} (h:Sim GT w M I H) {k:Nat} (hk:I k):¬ zIR H M k:=by
  rintro ⟨b,x,o,hb,hm,hM⟩;have hB:=h.blk b x hb;cases x with
  |dead=>simp [ABlk.mut] at hm
  |shp=>simp [ABlk.mut] at hm
  |ty=>simp [ABlk.mut] at hm
  |hd=>simp [ABlk.mut] at hm
  |frz=>simp [ABlk.mut] at hm
  |box cs=>grind +locals
  |row k' xs=>grind +locals
  |mp ks vs=>grind +locals
theorem Grow.refl (w:World) (M:AMap) (I:Nat->Prop) (H:Heap):Grow w M I H w M I H:=
  ⟨rfl,rfl,rfl,zoR _,fun _ _=>rfl,fun _ h=>h,fun _ h _=>.inl h,fun _ _ _=>rfl,fun _ _ h=>h,fun _ _ h=>h,zoR _⟩
theorem Grow.trans {w w1 w2:World} {M M1 M2:AMap} {I I1 I2:Nat->Prop} {H H1 H2:Heap} (h:Grow w M I H w1 M1 I1 H1) (k:Grow w1 M1 I1 H1 w2 M2 I2 H2):Grow w M I H w2 M2 I2 H2 where
  os:=k.os.trans h.os
  tape:=k.tape.trans h.tape
  output:=k.output.trans h.output
  size:=zmK h.size k.size
  map:=fun b hb=>(k.map b (zo3 hb h.len)).trans (h.map b hb)
  imm:=fun j hj=>k.imm j (h.imm j hj)
  imm':=fun j hj hlt=>by
    rcases k.imm' j hj (zo3 hlt h.size) with h1|h1
    · exact h.imm' j h1 hlt
    · exact .inr (h.live j hlt h1)
  frame:=fun j hj hn=>(k.frame j (zo3 hj h.size) (fun hl=>hn (h.live j hj hl))).trans (h.frame j hj hn)
  live:=fun j hj hl=>h.live j hj (k.live j (zo3 hj h.size) hl)
  shape:=fun g s hs=>k.shape g s (h.shape g s hs)
  len:=zmK h.len k.len
theorem Grow.rel {GT:zG_} {w w':World} {M M':AMap} {I I':Nat->Prop} {H H':Heap} (h:Grow w M I H w' M' I' H') (hS:Sim GT w M I H) {x:AV} {v:Value} (hx:Rel w M I H.length x v):Rel w' M' I' H'.length x v:=
  hx.mono h.imm (fun k hk=>h.frame k (hS.idom k hk) (hS.notLive hk)) h.map h.len h.shape
theorem Grow.rel0 {GT:zG_} {w w':World} {M M':AMap} {I I':Nat->Prop} {H H':Heap} (h:Grow w M I H w' M' I' H') (hS:Sim GT w M I H) {n:Nat} {x:AV} {v:Value} (hx:Rel w M I n x v) (hf:x.noRef=true):Rel w' M' I' n x v:=
  (hx.free (M':=M) (n':=0) hf).mono h.imm (fun k hk=>h.frame k (hS.idom k hk) (hS.notLive hk)) (fun _ h=>absurd h (zmU _)) (zmB _) h.shape
theorem Grow.glob {GT:zG_} {w w':World} {M M':AMap} {I I':Nat->Prop} {H H':Heap} (h:Grow w M I H w' M' I' H') (hS:Sim GT w M I H):∀ g x,GT g=some x->Rel w' M' I' 0 (.lref x 0) (.pointer (some ⟨g,0,none⟩)):=
  fun g x hg=>h.rel0 hS (hS.glob g x hg) (by simp [AV.noRef,AV.bel])
theorem zNf.mono {w w':World} {M M':AMap} {I I':Nat->Prop} {n n' b:Nat} {x:ABlk} (h:zNf w M I n b x) (hbn:b<n) (hI:∀ k,I k->I' k) (hb:∀ k,I k->w'.heap[k]?=w.heap[k]?) (hM:∀ b,b<n->M' b=M b) (hn:n<=n')
    (hs:∀ g s,w.shape? g=some s->w'.shape? g=some s) (hheap:∀ g o,M b=some (g,o)->x.mut=true->w'.heap[g]?=w.heap[g]?) (hnI:∀ g o,M b=some (g,o)->x.mut=true->¬ I g->¬ I' g):zNf w' M' I' n' b x:=by
  have R:∀ {c v},Rel w M I n c v->Rel w' M' I' n' c v:=fun h=>h.mono hI hb hM hn hs;cases x with
  |dead=>trivial
  |shp b' t k=>grind +locals
  |ty b' t=>grind +locals
  |hd b' t k=>grind +locals
  | box cs=>
    obtain ⟨g,o,cur,h1,⟨e,fz,h2,h2'⟩,h3,h4,h5⟩:=h;exact ⟨g,o,cur,(hM b hbn).trans h1,⟨e,fz,(hheap g o h1 rfl).trans h2,h2'⟩,hnI g o h1 rfl h3,h4,fun j c hj=>let ⟨v,a,b⟩:=h5 j c hj;⟨v,a,R b⟩⟩
  | row k xs=>
    obtain ⟨he,⟨h1,h2⟩|⟨g,o,cur,h1,⟨e,fz,h2,h2'⟩,h3,h4,h5⟩⟩:=h
    · exact ⟨he,.inl ⟨(hM b hbn).trans h1,h2⟩⟩
    · exact ⟨he,.inr ⟨g,o,cur,(hM b hbn).trans h1,⟨e,fz,(hheap g o h1 rfl).trans h2,h2'⟩,hnI g o h1 rfl h3,h4,fun i j x c hx hj=>let ⟨v,a,b⟩:=h5 i j x c hx hj;⟨v,a,R b⟩⟩⟩
  | frz k xs=>
    obtain ⟨he,⟨h1,h2⟩|⟨g,o,h1,h3,h5⟩⟩:=h
    · exact ⟨he,.inl ⟨(hM b hbn).trans h1,h2⟩⟩
    · exact ⟨he,.inr ⟨g,o,(hM b hbn).trans h1,hI g h3,fun i j x c hx hj=>let ⟨v,a,b⟩:=h5 i j x c hx hj;⟨v,by simpa [World.cell?,hb g h3] using a,R b⟩⟩⟩
  |mp ks vs=>grind +locals
theorem zBB {w w':World} {g:Nat} (h:w'.heap[g]?=w.heap[g]?):w'.shape? g=w.shape? g:=by simp [World.shape?,h]
abbrev Fr:=List (Nat×AV)
def get:Fr->Nat->AV
  |[],_=>.undef
  |(j,v)::r,i=>if j=i then v else get r i
def restrict (fr:Fr) (L:List Nat):Fr:=L.map fun i=>(i,get fr i)
inductive Opd where
  |tmp (t:Nat)
  |const (v:AV)
  |glob (g:Nat)
  |fn (f:FuncId)
  deriving Inhabited
def ev (GT:zG_) (fr:Fr):Opd->AV
  |.tmp t=>get fr t
  |.const v=>v
  | .glob g=>match GT g with
    |some x=>.lref x 0
    |none=>.undef
  |.fn f=>.fn f [] []
inductive Sc where
  |int (k:IntKind)
  |bool
  |str
  deriving DecidableEq,Inhabited
inductive EK where
  |iface
  |ptr
  |sl
  |fn
  deriving DecidableEq,Inhabited
inductive AK where
  |mv
  |pick
  |bin (op:BinOp)
  |eqs (neg:Bool) (sh:List Sc)
  |eqb (neg:Bool)
  |eqn (e:EK) (neg lit:Bool)
  |un (op:UnOp)
  |convInt (k:IntKind)
  |convRune
  |bytesToStr
  |strToBytes
  |mkIface (t:TypeId)
  |tyAs (t:TypeId)
  |mkFn (f:FuncId) (m:Nat)
  |len (s:Bool)
  |slc (k:Option Nat) (lo hi:Bool)
  |fieldAddr (o:Nat)
  |idxAddr (k:Nat)
  |idxArr (k n:Nat)
  |idxStr
  |idxAgg (k n:Nat) (ag:Bool)
  |nilchk
  |extract (i:Nat)
  |load (s:Nat) (ag:Bool)
  |store (s:Nat)
  |alloc (z:List AV)
  |allocT (t:Nat) (z:List AV)
  |box
  |build (z:List AV) (pl:List (Nat×Nat))
  |bslice (k:Nat)
  |make (k bytes:Nat) (z:AV)
  |append (k bytes:Nat)
  |call (f:FuncId) (rd:Bool)
  |callv (rd:Bool)
  |appT (t:Nat) (s:Bool)
  |stuck
  |callp (f:FuncId)
  |callvp
  |panic
  |mkmap
  |mget (z:AV) (ok:Bool)
  |mset
  deriving Inhabited
structure AI where
  dst:Option Nat
  g:Option (Nat×Bool)
  k:AK
  xs:List Opd
  deriving Inhabited
inductive OT where
  |done
  |step (j:Nat) (t:OT)
  |alt (a b:OT)
  deriving Inhabited
inductive AC where
  |skip
  |reg (L:List Nat) (draw:Bool) (ops:List AI)
  |seq (a b:AC)
  |cond (c:Opd) (a b:AC)
  |block (id:Nat) (L:List Nat) (c:AC)
  |loop (L:List Nat) (c:AC)
  |exit (id:Nat)
  |ret
  |stuck
  |regt (L:List Nat) (draw:Bool) (ops:List AI) (t:OT)
  |label
  |goto (l:Nat)
  |scope (L:List Nat) (l:Nat) (c r:AC)
  deriving Inhabited
def zIS (op:BinOp) (k:IntKind) (a b:Int):Option AV:=
  match op with
  |.add=>some (.int k (k.wrap (a+b)))
  |.sub=>some (.int k (k.wrap (a-b)))
  |.mul=>some (.int k (k.wrap (a*b)))
  |.quo=>if b=0 then none else some (.int k (k.wrap (a.tdiv b)))
  |.rem=>if b=0 then none else some (.int k (a.tmod b))
  |.and=>some (.int k (k.wrap (BitVec.ofInt k.bits a &&& BitVec.ofInt k.bits b).toNat))
  |.or=>some (.int k (k.wrap (BitVec.ofInt k.bits a ||| BitVec.ofInt k.bits b).toNat))
  |.xor=>some (.int k (k.wrap (BitVec.ofInt k.bits a ^^^ BitVec.ofInt k.bits b).toNat))
  |.andNot=>some (.int k (k.wrap (BitVec.ofInt k.bits a &&& ~~~BitVec.ofInt k.bits b).toNat))
  |.eql=>some (.bool (a==b))
  |.neq=>some (.bool (a != b))
  |.lss=>some (.bool (decide (a<b)))
  |.leq=>some (.bool (decide (a<=b)))
  |.gtr=>some (.bool (decide (a>b)))
  |.geq=>some (.bool (decide (a>=b)))
  |_=>none
def zCT (op:BinOp) (k:IntKind) (a b:Int):Option AV:=
  if b<0 then none else
  match op with
  |.shl=>some (.int k (k.wrap (a*2^Nat.min b.toNat k.bits)))
  |.shr=>some (.int k (a.fdiv (2^Nat.min b.toNat k.bits)))
  |_=>none
def zPg (op:BinOp) (a b:List UInt8):Option AV:=
  match op with
  |.add=>if a.length+b.length<=9223372036854775807 then some (.str (a++b)) else none
  |.eql=>some (.bool (a==b))
  |.neq=>some (.bool (!(a==b)))
  |.lss=>some (.bool (Op.bytesLess a b))
  |.leq=>some (.bool (Op.bytesLess a b||a==b))
  |.gtr=>some (.bool (!(Op.bytesLess a b||a==b)))
  |.geq=>some (.bool (!Op.bytesLess a b))
  |_=>none
def zi0 (op:BinOp):AV->AV->Option AV
  | .int k a,.int k' b=>
    if op=.shl\/op=.shr then zCT op k a b
    else if k=k' then zIS op k a b else none
  |.str a,.str b=>zPg op a b
  |_,_=>none
def zPh:Sc->AV->AV->Option Bool
  |.int k,.int k1 a,.int k2 b=>if k1=k/\k2=k then some (a==b) else none
  |.bool,.bool a,.bool b=>some (a==b)
  |.str,.str a,.str b=>some (a==b)
  |_,_,_=>none
def zBe:List Sc->List AV->List AV->Option Bool
  |[],[],[]=>some true
  | s::r,a::x,b::y=>match zPh s a b,zBe r x y with
    |some p,some q=>some (p&&q)
    |_,_=>none
  |_,_,_=>none
def nilness:AV->Option Bool
  |.lst q _ _=>q
  |.sl (some false) _ _ _ _=>some false
  |.sl (some true) _ _ _ len=>some (decide (len=0))
  |_=>none
def zcw:EK->Bool->AV->AV->Option Bool
  |.iface,lit,.nili,.nili=>if lit then some true else none
  |.iface,_,.nili,.iface _ _=>some false
  |.iface,_,.iface _ _,.nili=>some false
  |.ptr,_,.nilp,.nilp=>some true
  |.ptr,_,.nilp,.ref ..=>some false
  |.ptr,_,.nilp,.lref ..=>some false
  |.ptr,_,.ref ..,.nilp=>some false
  |.ptr,_,.lref ..,.nilp=>some false
  |.fn,_,.nilf,.nilf=>some true
  |.fn,_,.nilf,.fn ..=>some false
  |.fn,_,.fn ..,.nilf=>some false
  |.sl,_,.lst (some true) _ _,x=>nilness x
  |.sl,_,x,.lst (some true) _ _=>nilness x
  |_,_,_,_=>none
def aUn (op:UnOp):AV->Option AV
  | .int k a=>match op with
    |.neg=>some (.int k (k.wrap (0-a)))
    |.xor=>some (.int k (k.wrap (BitVec.ofInt k.bits (if k.signed then -1 else k.max) ^^^ BitVec.ofInt k.bits a).toNat))
    |_=>none
  | .bool b=>match op with
    |.not=>some (.bool (!b))
    |_=>none
  |_=>none
def zq (c:UInt8):AV:=.int .u8 c.toNat
def zGy:List AV->Option (List UInt8)
  |[]=>some []
  |.int .u8 n::r=>(zGy r).map (UInt8.ofNat n.toNat::·)
  |_=>none
def view (H:Heap) (w:Nat):AV->Option (List AV)
  |.lst _ k xs=>if k=w then some xs else if xs.isEmpty then some [] else none
  | .sl _ b k off len=>if k=w then (match H[b]? with
    |some (.row k' xs)=>if k'=k/\off+len<=xs.length then some ((xs.drop off).take len) else none
    |some (.frz k' xs)=>if k'=k/\off+len<=xs.length then some ((xs.drop off).take len) else none
    |_=>none) else none
  |_=>none
def aLen:Bool->AV->Option Nat
  |false,.lst _ _ xs=>some xs.length
  |false,.sl _ _ _ _ len=>some len
  |true,.str s=>some s.length
  |_,_=>none
def aHi (l:Nat):Option AV->Option Nat
  |none=>some l
  |some (.int _ n)=>if 0<=n/\n<=(l:Int) then some n.toNat else none
  |_=>none
def aLo (h:Nat):Option AV->Option Nat
  |none=>some 0
  |some (.int _ n)=>if 0<=n/\n<=(h:Int) then some n.toNat else none
  |_=>none
def zE9 (l:Nat) (lo hi:Option AV):Option (Nat×Nat):=
  match aHi l hi with
  |none=>none
  | some h=>match aLo h lo with
    |none=>none
    |some a=>some (a,h)
def zi1 (q:Option Bool) (l h:Nat):Option Bool:=
  match q with
  |some false=>some false
  |some true=>if l<h then some true else none
  |none=>none
def zTg (q:Option Bool) (l h:Nat):Option Bool:=
  match q with
  |some true=>if l<h then some false else some true
  |q=>q
def zCm (k:Option Nat) (x:AV) (lo hi:Option AV):Option AV:=
  match k,x with
  |none,.str s=>(zE9 s.length lo hi).map fun (l,h)=>.str ((s.take h).drop l)
  |some k,.lst q k' xs=>if k'=k\/xs.isEmpty=true then (zE9 xs.length lo hi).map fun (l,h)=>.lst (zTg q l h) k' ((xs.take h).drop l) else none
  |some k,.sl q b k' off len=>if k'=k then (zE9 len lo hi).map fun (l,h)=>.sl (zi1 q l h) b k (off+l) (h-l) else none
  |_,_=>none
def part (cs:List AV) (o s:Nat) (ag:Bool):Option AV:=
  if ag then (if o+s<=cs.length then some (.agg ((cs.drop o).take s)) else none) else cs[o]?
def zy (H:Heap):AV->Option (List AV×Nat)
  |.lref x o=>some (x.cells,o)
  | .ref b k i o=>match H[b]? with
    |some (.box cs)=>if i=0 then some (cs,o) else none
    |some (.row k' xs)=>if k'=k then (xs[i]?).map fun x=>(x.cells,o) else none
    |some (.frz k' xs)=>if k'=k then (xs[i]?).map fun x=>(x.cells,o) else none
    |_=>none
  |_=>none
def splice (cs:List AV) (o:Nat) (vs:List AV):List AV:=cs.take o++vs++cs.drop (o+vs.length)
def zHr (x:AV) (o:Nat) (v:AV):AV:=
  match x with
  |.agg cs=>.agg (splice cs o v.cells)
  |_=>v
def zTb (q:Option Bool) (ys:List AV):Option Bool:=
  match q with
  |some false=>some false
  |some true=>some ys.isEmpty
  |none=>none
mutual
def zDm (n0:Nat):AV->Heap->Option (AV×Heap)
  | .sl q b k off len,H=>
    if b<n0 then some (.sl q b k off len,H) else
    match H[b]? with
    |some (.row k' xs)=>if k'=k/\off+len<=xs.length then some (.lst (zTb q ((xs.drop off).take len)) k ((xs.drop off).take len),H.set b (.frz k' xs)) else none
    |some (.frz k' xs)=>if k'=k/\off+len<=xs.length then some (.lst (zTb q ((xs.drop off).take len)) k ((xs.drop off).take len),H) else none
    |_=>none
  | .agg cs,H=>match zKR n0 cs H with
    |some (cs',H')=>some (.agg cs',H')
    |none=>none
  | .tup cs,H=>match zKR n0 cs H with
    |some (cs',H')=>some (.tup cs',H')
    |none=>none
  | .iface t v,H=>match zDm n0 v H with
    |some (v',H')=>some (.iface t v',H')
    |none=>none
  | .mp b,H=>if b<n0 then some (.mp b,H) else
    match H[b]? with
    |some (.mp ks vs)=>some (.mps ks vs,H.set b .dead)
    |_=>none
  |v,H=>some (v,H)
def zKR (n0:Nat):List AV->Heap->Option (List AV×Heap)
  |[],H=>some ([],H)
  | x::r,H=>match zDm n0 x H with
    | some (x',H')=>match zKR n0 r H' with
      |some (r',H'')=>some (x'::r',H'')
      |none=>none
    |none=>none
end
def zFY (cs:List AV):List (Nat×Nat)->List AV->Option (List AV)
  |[],[]=>some cs
  |(o,s)::pl,v::vs=>if v.cells.length=s/\o+s<=cs.length/\v.cells.all AV.one=true then zFY (splice cs o v.cells) pl vs else none
  |_,_=>none
def mfind (k:Int×Int):List (Int×Int)->Option Nat
  |[]=>none
  |x::r=>if k=x then some 0 else (mfind k r).map (·+1)
def zWZ:AV->Option (Int×Int)
  |.agg [.int .i64 a,.int .i64 b]=>some (a,b)
  |_=>none
def mview (H:Heap):AV->Option (List (Int×Int)×List AV)
  |.mps ks vs=>some (ks,vs)
  | .mp b=>match H[b]? with
    |some (.mp ks vs)=>some (ks,vs)
    |_=>none
  |.nilm=>some ([],[])
  |_=>none
def zWa (H:Heap) (z:AV) (ok:Bool) (m k:AV):Option AV:=
  match mview H m with
  | some (ks,vs)=>match zWZ k with
    | some p=>match mfind p ks with
      |some i=>(vs[i]?).map fun v=>if ok then .tup [v,.bool true] else v
      |none=>some (if ok then .tup [z,.bool false] else z)
    |none=>none
  |none=>none
def mput (p:Int×Int) (v:AV) (ks:List (Int×Int)) (vs:List AV):List (Int×Int)×List AV:=
  match mfind p ks with
  |some i=>(ks,vs.set i v)
  |none=>(ks++[p],vs++[v])
def zcx (H:Heap) (m k v:AV):Option Heap:=
  match m with
  | .mp b=>match H[b]? with
    | some (.mp ks vs)=>match zWZ k with
      |some p=>if v.noRef=true then some (H.set b (.mp (mput p v ks vs).1 (mput p v ks vs).2)) else none
      |none=>none
    |_=>none
  |_=>none
def astep:AK->List AV->Heap->Option (AV×Heap)
  |.mv,[x],H=>some (x,H)
  |.pick,[.bool c,x,y],H=>some (if c then x else y,H)
  |.bin op,[x,y],H=>(zi0 op x y).map (·,H)
  |.eqs neg sh,[.agg x,.agg y],H=>(zBe sh x y).map fun b=>(.bool (if neg then !b else b),H)
  |.eqb neg,[.bool a,.bool b],H=>some (.bool (if neg then !(a==b) else a==b),H)
  |.eqn e neg lit,[x,y],H=>(zcw e lit x y).map fun b=>(.bool (if neg then !b else b),H)
  |.un op,[x],H=>(aUn op x).map (·,H)
  |.convInt k,[.int _ n],H=>some (.int k (k.wrap n),H)
  |.convRune,[.int _ n],H=>some (.str (Utf8.encode n).data.toList,H)
  | .bytesToStr,[x],H=>match view H 1 x with
    |some xs=>(zGy xs).map fun s=>(.str s,H)
    |none=>none
  |.strToBytes,[.str s],H=>if s.length<=140737488355328 then some (.sl (some false) H.length 1 0 s.length,H++[.row 1 (s.map zq)]) else none
  |.mkIface t,[x],H=>some (.iface t x,H)
  |.tyAs t,[.iface t' x],H=>if t'=t then some (.tup [x,.bool true],H) else none
  |.mkFn f m,xs,H=>some (.fn f (xs.take m) (xs.drop m),H)
  |.len s,[x],H=>(aLen s x).map fun (n:Nat)=>(AV.int .i64 (n:Int),H)
  | .slc k lo hi,x::ys,H=>match lo,hi,ys with
    |true,true,[l,h]=>(zCm k x (some l) (some h)).map (·,H)
    |true,false,[l]=>(zCm k x (some l) none).map (·,H)
    |false,true,[h]=>(zCm k x none (some h)).map (·,H)
    |false,false,[]=>(zCm k x none none).map (·,H)
    |_,_,_=>none
  | .fieldAddr o,[x],H=>match x with
    |.ref b k i oo=>some (.ref b k i (oo+o),H)
    |.lref x oo=>some (.lref x (oo+o),H)
    |_=>none
  | .idxAddr k,[x,.int _ n],H=>if n<0 then none else match x with
    | .lst _ k' xs=>match xs[n.toNat]? with
      |some x=>if k'=k then some (.lref x 0,H) else none
      |none=>none
    |.sl _ b k' off len=>if n<(len:Int)/\k'=k then some (.ref b k (off+n.toNat) 0,H) else none
    |_=>none
  | .idxArr k m,[x,.int _ n],H=>if 0<=n/\n<(m:Int) then (match x with
    |.ref b k' i oo=>some (.ref b k' i (oo+n.toNat*k),H)
    |.lref x oo=>some (.lref x (oo+n.toNat*k),H)
    |_=>none) else none
  | .idxStr,[.str s,.int _ n],H=>if n<0 then none else match s[n.toNat]? with
    |some c=>some (zq c,H)
    |none=>none
  |.idxAgg k m ag,[.agg cs,.int _ n],H=>if 0<=n/\n<(m:Int) then (part cs (n.toNat*k) k ag).map (·,H) else none
  | .nilchk,[x],H=>match x with
    |.ref ..|.lref ..|.fn ..=>some (x,H)
    |_=>none
  |.extract i,[.tup vs],H=>(vs[i]?).map (·,H)
  | .load s ag,[p],H=>match zy H p with
    |some (cs,o)=>(part cs o s ag).map (·,H)
    |none=>none
  | .store s,[p,v],H=>match p with
    | .ref b k i o=>
      if v.cells.length=s/\v.cells.all AV.one=true then
        match H[b]? with
        |some (.box cs)=>if i=0/\o+s<=cs.length then some (.undef,H.set b (.box (splice cs o v.cells))) else none
        | some (.row _ _)=>match zDm 0 v H with
          | some (v',H')=>match H'[b]? with
            | some (.row k' xs)=>match xs[i]? with
              |some x=>if k'=k/\o+s<=k/\0<s/\v'.elem s=true then some (.undef,H'.set b (.row k' (xs.set i (zHr x o v')))) else none
              |none=>none
            |_=>none
          |none=>none
        |_=>none
      else none
    |_=>none
  |.alloc z,[],H=>some (.ref H.length 0 0 0,H++[.box z])
  |.allocT t z,[],H=>some (.ref H.length 0 0 0,H++[.box z]++[.shp H.length t z.length])
  |.box,[x],H=>if x.cells.all AV.one=true then some (.ref H.length 0 0 0,H++[.box x.cells]) else none
  |.build z pl,vs,H=>(zFY z pl vs).map fun cs=>(.agg cs,H)
  | .bslice k,vs,H=>match zKR 0 vs H with
    |some (vs',H')=>if vs'.all (fun v=>v.elem k)=true then some (.sl (some false) H'.length k 0 vs'.length,H'++[.row k vs']) else none
    |none=>none
  | .make k bytes z,[.int _ l,.int _ c],H=>
    if 0<=l/\l<=c/\(bytes:Int)*c<=281474976710656/\c<=9223372036854775807/\z.elem k=true then
      some (.sl (some false) H.length k 0 l.toNat,H++[.row k (List.replicate l.toNat z)]) else none
  | .append k bytes,[x,y],H=>match view H k y with
    | some ys=>match x with
      | .lst (some true) _ _=>
        if ys.length<=9223372036854775807/\ys.length*bytes<=140737488355328 then some (.sl (some true) H.length k 0 ys.length,H++[.row k ys]) else none
      | .sl q b k' off len=>match H[b]? with
        |some (.row k'' xs)=>if k'=k/\k''=k/\off+len<=xs.length/\len+ys.length<=9223372036854775807/\(len+ys.length)*bytes<=140737488355328 then
            some (.sl q H.length k 0 (len+ys.length),H.set b .dead++[.row k ((xs.drop off).take len++ys)]) else none
        |_=>none
      |_=>none
    |none=>none
  | .appT t s,[x,y],H=>match (if s=true then (match y with
      |.str u=>some (u.map zq)
      |_=>none) else view H 1 y) with
    | some ys=>match x with
      |.lst (some true) _ _=>if s=true/\ys.isEmpty=true then some (x,H) else if ys.isEmpty=false/\ys.length<=140737488355328 then some (.sl (some true) H.length 1 0 ys.length,H++[.row 1 ys]++[.ty H.length t]) else none
      | .sl q b k' off len=>if s=true/\ys.isEmpty=true then some (x,H) else match H[b]?,H[b+1]? with
        |some (.row k'' xs),some (.ty b' t')=>if ys.isEmpty=false/\k'=1/\k''=1/\b'=b/\t'=t/\off=0/\len<=xs.length/\len+ys.length<=140737488355328 then
            some (.sl q H.length 1 0 (len+ys.length),H.set b .dead++[.row 1 (xs.take len++ys)]++[.ty H.length t]) else none
        |_,_=>none
      |_=>none
    |none=>none
  |.mkmap,[],H=>some (.mp H.length,H++[.mp [] []])
  |.mget z ok,[m,k],H=>(zWa H z ok m k).map (·,H)
  |.mset,[m,k,v],H=>(zcx H m k v).map fun H'=>(.undef,H')
  |_,_,_=>none
abbrev CSpec:=FuncId->List AV->Heap->AV->Heap->Prop
def zL2 (C:CSpec) (k:AK) (vs:List AV) (H:Heap) (K:AV->Heap->Prop):Prop:=
  match k with
  |.call f rd=>∃ v H',C f vs H v H'/\(rd=true->H'=H)/\K v H'
  | .callv rd=>match vs with
    |.fn f first caps::args=>∃ v H',C f (first++args++caps) H v H'/\(rd=true->H'=H)/\K v H'
    |_=>False
  | k=>match astep k vs H with
    |some (v,H')=>K v H'
    |none=>False
def put (fr:Fr):Option Nat->AV->Fr
  |some d,v=>(d,v)::fr
  |none,_=>fr
def gd (want:Bool):AV->Option Bool
  |.bool b=>some (b==want)
  |.tup []=>some false
  |_=>none
def AWops (C:CSpec) (GT:zG_):List AI->Fr->Heap->(Fr->Heap->Prop)->Prop
  |[],fr,H,K=>K fr H
  | i::is,fr,H,K=>match i.g with
    |none=>zL2 C i.k (i.xs.map (ev GT fr)) H fun v H'=>AWops C GT is (put fr i.dst v) H' K
    | some (s,want)=>match gd want (get fr s) with
      |some b=>if b=true then zL2 C i.k (i.xs.map (ev GT fr)) H fun v H'=>AWops C GT is (put fr i.dst v) H' K
          else AWops C GT is (put fr i.dst (.tup [])) H K
      |none=>False
def zGa (C:CSpec) (k:AK) (vs:List AV) (H:Heap) (K KP:AV->Heap->Prop):Prop:=
  match k with
  |.callp f=>(∃ v H',C f vs H v H'/\K v H')\/(∃ x H',C f (.pan .undef::vs) H x H'/\KP x H')
  | .callvp=>match vs with
    |.fn f first caps::args=>(∃ v H',C f (first++args++caps) H v H'/\K v H')\/(∃ x H',C f (.pan .undef::(first++args++caps)) H x H'/\KP x H')
    |_=>False
  | .panic=>match vs with
    |[.iface t y]=>KP (.iface t y) H
    |_=>False
  |k=>zL2 C k vs H K
def AWT (C:CSpec) (GT:zG_) (is:List AI):OT->Fr->Heap->(Fr->Heap->Prop)->(AV->Heap->Prop)->Prop
  |.done,fr,H,K,_=>K fr H
  | .step j t,fr,H,K,KP=>match is[j]? with
    |none=>False
    | some i=>match i.g with
      |none=>zGa C i.k (i.xs.map (ev GT fr)) H (fun v H'=>AWT C GT is t (put fr i.dst v) H' K KP) KP
      | some (s,want)=>match gd want (get fr s) with
        |some b=>if b=true then zGa C i.k (i.xs.map (ev GT fr)) H (fun v H'=>AWT C GT is t (put fr i.dst v) H' K KP) KP
            else AWT C GT is t (put fr i.dst (.tup [])) H K KP
        |none=>False
  |.alt a b,fr,H,K,KP=>AWT C GT is a fr H K KP/\AWT C GT is b fr H K KP
inductive AE where
  |normal
  |exit (id:Nat)
  |ret
  |goto (l:Nat)
  |pan (x:AV)
  deriving Inhabited
abbrev Post:=AE->Fr->Heap->Prop
def zQd (F:Post->Fr->Heap->Prop) (L:List Nat) (K:Post):Nat->Fr->Heap->Prop
  |0,_,_=>False
  | m+1,fr,H=>F (fun e fr' H'=>match e with
    |.normal=>zQd F L K m (restrict fr' L) H'
    |e=>K e fr' H') fr H
def zWb (F:Fr->Heap->Prop) (K:Post):Post:=fun e fr H=>match e with
  |.normal=>F fr H
  |e=>K e fr H
def zIT (id:Nat) (L:List Nat) (K:Post):Post:=fun e fr H=>match e with
  |.normal=>K .normal (restrict fr L) H
  |.exit j=>if j=id then K .normal (restrict fr L) H else K (.exit j) fr H
  |.ret=>K .ret fr H
  |.goto l=>K (.goto l) fr H
  |.pan x=>K (.pan x) fr H
def zQe (l:Nat) (G:Fr->Heap->Prop) (K:Post):Post:=fun e fr H=>match e with
  |.normal=>K .normal fr H
  |.exit j=>K (.exit j) fr H
  |.ret=>K .ret fr H
  |.goto l'=>l'=l/\G fr H
  |.pan x=>K (.pan x) fr H
def zK2 (F:Post->Fr->Heap->Prop) (L:List Nat) (l:Nat) (K:Post):Nat->Fr->Heap->Prop
  |0,_,_=>False
  |m+1,fr,H=>F (zQe l (fun fr' H'=>zK2 F L l K m (restrict fr' L) H') K) fr H
def learn (fr:Fr) (c:Opd) (b:Bool):Fr:=
  match c with
  |.tmp t=>(t,.bool b)::fr
  |_=>fr
def AW (C:CSpec) (GT:zG_):AC->Post->Fr->Heap->Prop
  |.skip,K,fr,H=>K .normal fr H
  |.reg L _ ops,K,fr,H=>AWops C GT ops (restrict fr L) H fun fr' H'=>K .normal fr' H'
  |.seq a b,K,fr,H=>AW C GT a (zWb (AW C GT b K) K) fr H
  | .cond c a b,K,fr,H=>match ev GT fr c with
    |.bool t=>if t=true then AW C GT a K (learn fr c true) H else AW C GT b K (learn fr c false) H
    |_=>False
  |.block id L c,K,fr,H=>AW C GT c (zIT id L K) fr H
  |.loop L c,K,fr,H=>∃ m,zQd (AW C GT c) L K m (restrict fr L) H
  |.exit id,K,fr,H=>K (.exit id) fr H
  |.ret,K,fr,H=>K .ret fr H
  |.stuck,_,_,_=>False
  |.regt L _ ops t,K,fr,H=>AWT C GT ops t (restrict fr L) H (fun fr' H'=>K .normal fr' H') (fun x H'=>K (.pan x) [] H')
  |.label,K,fr,H=>K .normal fr H
  |.goto l,K,fr,H=>K (.goto l) fr H
  |.scope L l c r,K,fr,H=>AW C GT c (zQe l (fun fr' H'=>∃ m,zK2 (AW C GT r) L l K m (restrict fr' L) H') K) fr H
inductive ARes where
  |tmp (t:Nat)
  |cell (a s:Nat) (ag:Bool)
  deriving Inhabited
structure AF where
  keep:Bool:=false
  results:List ARes
  body:AC
  deriving Inhabited
def zKS (fr:Fr) (H:Heap):ARes->Option AV
  |.tmp t=>some (get fr t)
  | .cell a s ag=>match zy H (get fr a) with
    |some (cs,o)=>part cs o s ag
    |none=>none
def zBd (fr:Fr) (H:Heap):List ARes->Option (List AV)
  |[]=>some []
  | r::rs=>match zKS fr H r,zBd fr H rs with
    |some v,some vs=>some (v::vs)
    |_,_=>none
def tupled:List AV->AV
  |[v]=>v
  |vs=>.tup vs
def zHL (n:Nat):ABlk->Bool
  |.box cs=>AV.belL n cs
  |_=>true
def zWc (H H1:Heap):Prop:=∀ b,b<H.length->H1[b]?=H[b]?\/∃ x,H1[b]?=some x/\zHL H.length x=true
def zHM (F:AF) (H:Heap) (fr:Fr) (H1:Heap) (v:AV) (H':Heap):Prop:=
  match zBd fr H1 F.results with
  |none=>False
  | some vs=>
    if F.keep then v=tupled vs/\H'=H1
    else match zDm H.length (tupled vs) H1 with
      |some (v',H2)=>v'.bel H.length=true/\zWc H H2/\v=v'/\H'=H2.take H.length
      |none=>False
def zGR:Nat->List AV->Fr
  |_,[]=>[]
  |i,v::vs=>(i,v)::zGR (i+1) vs
def AFun (C:CSpec) (GT:zG_) (F:AF) (args:List AV) (H:Heap) (v:AV) (H':Heap):Prop:=
  AW C GT F.body (fun e fr H1=>match e with
    |.normal=>zHM F H fr H1 v H'
    |.ret=>zHM F H fr H1 v H'
    |_=>False) (zGR 0 args) H
def panF (F:AF) (H:Heap) (x0:AV) (H1:Heap) (x:AV) (H':Heap):Prop:=
  if F.keep then x=x0/\H'=H1
  else match zDm H.length x0 H1 with
    |some (x',H2)=>x'.bel H.length=true/\zWc H H2/\x=x'/\H'=H2.take H.length
    |none=>False
variable {GT:zG_} {w w':World} {M:AMap} {I:Nat->Prop} {H:Heap}
theorem Cells.lt {g k:Nat} {cur:Array Value} (h:Cells w g cur k):g<w.heap.size:=by
  obtain ⟨e,fz,h1,_⟩:=h;exact (zoo.1 h1).1
theorem Sim.live_lt (hS:Sim GT w M I H) {k:Nat} (h:zIR H M k):k<w.heap.size:=by
  obtain ⟨b,x,o,hb,hm,hM⟩:=h;have hB:=hS.blk b x hb;cases x with
  |dead=>simp [ABlk.mut] at hm
  |shp=>simp [ABlk.mut] at hm
  |ty=>simp [ABlk.mut] at hm
  |hd=>simp [ABlk.mut] at hm
  |frz=>simp [ABlk.mut] at hm
  | box cs=>
    obtain ⟨g,o',cur,h1,h2,_⟩:=hB;rw [hM] at h1;simp at h1;obtain ⟨rfl,_⟩:=h1;exact h2.lt
  | row k' xs=>
    obtain ⟨_,⟨h1,_⟩|⟨g,o',cur,h1,h2,_⟩⟩:=hB
    · rw [hM] at h1;cases h1
    · rw [hM] at h1;simp at h1;obtain ⟨rfl,_⟩:=h1;exact h2.lt
  | mp ks vs=>
    obtain ⟨g,es,cl,h1,h2,_⟩:=hB;rw [hM] at h1;simp at h1;obtain ⟨rfl,_⟩:=h1;exact (zoo.1 h2).1
theorem Sim.glob' {n:Nat} {M':AMap} (hS:Sim GT w M I H) (_:∀ c,c<n->M' c=M c):∀ g x,GT g=some x->Rel w M' I 0 (.lref x 0) (.pointer (some ⟨g,0,none⟩)):=
  fun g x hg=>(hS.glob g x hg).free (by simp [AV.noRef,AV.bel])
def more (M:AMap) (n:Nat) (p:Option (Nat×Nat)):AMap:=fun b=>if b=n then p else M b
theorem zHs {M:AMap} {n:Nat} {p:Option (Nat×Nat)} {b:Nat} (h:b<n):more M n p b=M b:=by simp [more,Nat.ne_of_lt h]
theorem zAX {M:AMap} {n:Nat} {p:Option (Nat×Nat)}:more M n p n=p:=by simp [more]
theorem Grow.same (hh:w'.heap=w.heap) (ho:w'.os=w.os) (ht:w'.tape=w.tape) (hq:w'.output=w.output):Grow w M I H w' M I H:=
  ⟨ho,ht,hq,by rw [hh];exact zoR _,fun _ _=>rfl,fun _ h=>h,fun _ h _=>.inl h,fun _ _ _=>by rw [hh],fun _ _ h=>h,fun g s h=>by rw [zBB (w:=w) (by rw [hh])];exact h,zoR _⟩
theorem Sim.same (hS:Sim GT w M I H) (hh:w'.heap=w.heap):Sim GT w' M I H:=by
  have hb:∀ k:Nat,w'.heap[k]?=w.heap[k]?:=fun k=>by rw [hh]
  refine ⟨fun g x hg=>(hS.glob g x hg).mono (fun _ h=>h) (fun k _=>hb k) (fun _ _=>rfl) (zoR _) (fun g s h=>by rw [zBB (hb g)];exact h),fun k hk=>by rw [hh];exact hS.idom k hk,fun b x hx=>?_,hS.inj,fun g x hg=>(hS.shp g x hg).imp fun e h=>by rw [zBB (hb g)];exact h⟩;exact (hS.blk b x hx).mono (zl_ hx) (fun _ h=>h) (fun k _=>hb k) (fun _ _=>rfl) (zoR _) (fun g s h=>by rw [zBB (hb g)];exact h) (fun g _ _ _=>hb g) (fun _ _ _ _ h=>h)
theorem Sim.pushAny (hS:Sim GT w M I H) {blk:ABlk} (hblk:zNf w (more M H.length none) I (H.length+1) H.length blk) :
    Grow w M I H w (more M H.length none) I (H++[blk])/\Sim GT w (more M H.length none) I (H++[blk]):=by
  have hold:∀ b,b<H.length->more M H.length none b=M b:=fun b hb=>zHs hb;refine ⟨⟨rfl,rfl,rfl,zoR _,hold,fun _ h=>h,fun _ h _=>.inl h,fun _ _ _=>rfl,fun k hk hl=>?_,fun _ _ h=>h,by simp⟩,⟨?_,hS.idom,fun b x hx=>?_,fun b b' x x' g o o' h1 h2 h3 h4 h5 h6=>?_,hS.shp⟩⟩
  · obtain ⟨b,x,o,h1,h2,h3⟩:=hl
    by_cases hb:b<H.length
    · exact ⟨b,x,o,by rwa [zof hb] at h1,h2,by rwa [hold b hb] at h3⟩
    · grind +locals
  · exact fun g x hg=>(hS.glob g x hg).free (by simp [AV.noRef,AV.bel])
  · by_cases hb:b<H.length
    · rw [zof hb] at hx
      exact (hS.blk b x hx).mono hb (fun _ h=>h) (fun _ _=>rfl) hold zS_ (fun _ _ h=>h) (fun _ _ _ _=>rfl) (fun _ _ _ _ h=>h)
    · grind
  · by_cases hb:b<H.length
    · by_cases hb':b'<H.length
      · rw [zof hb] at h1
        rw [zof hb'] at h3;exact hS.inj b b' x x' g o o' h1 h2 h3 h4 (by rwa [hold b hb] at h5) (by rwa [hold b' hb'] at h6)
      · have hlt:=(zl_ h3)
        simp at hlt;obtain rfl:b'=H.length:=by omega
        rw [zAX] at h6;cases h6
    · grind +locals
theorem Sim.pushNone (hS:Sim GT w M I H) {blk:ABlk} (hblk:blk.mut=true->zNf w (more M H.length none) I (H.length+1) H.length blk) (hm:blk=.dead\/blk.mut=true) :
    Grow w M I H w (more M H.length none) I (H++[blk])/\Sim GT w (more M H.length none) I (H++[blk]):=
  hS.pushAny (by
    rcases hm with rfl|hm
    · trivial
    · exact hblk hm)
theorem Sim.push (hS:Sim GT w M I H) {obj:Obj} (hh:w'.heap=w.heap.push obj) (ho:w'.os=w.os) (ht:w'.tape=w.tape) (hq:w'.output=w.output) {blk:ABlk}
    (hblk:zNf w' (more M H.length (some (w.heap.size,0))) I (H.length+1) H.length blk) :
    Grow w M I H w' (more M H.length (some (w.heap.size,0))) I (H++[blk])/\Sim GT w' (more M H.length (some (w.heap.size,0))) I (H++[blk]):=by
  have hold:∀ b,b<H.length->more M H.length (some (w.heap.size,0)) b=M b:=fun b hb=>zHs hb;have hb:∀ k,k<w.heap.size->w'.heap[k]?=w.heap[k]?:=fun k hk=>by rw [hh,zma,zWl tO]
  have hsh:∀ g s,w.shape? g=some s->w'.shape? g=some s:=fun g s h=>by
    have hlt:g<w.heap.size:=by
      unfold World.shape? at h;split at h
      · exact (zoo.1 ‹_›).1
      · cases h
    rw [zBB (hb g hlt)];exact h
  refine ⟨⟨ho,ht,hq,by rw [hh];simp,hold,fun _ h=>h,fun _ h _=>.inl h,fun k hk _=>hb k hk,fun k hk hl=>?_,hsh,by simp⟩,⟨?_,fun k hk=>?_,fun b x hx=>?_,fun b b' x x' g o o' h1 h2 h3 h4 h5 h6=>?_,fun g x hg=>(hS.shp g x hg).imp fun e h=>hsh g _ h⟩⟩
  · obtain ⟨b,x,o,h1,h2,h3⟩:=hl
    by_cases hbl:b<H.length
    · exact ⟨b,x,o,by rwa [zof hbl] at h1,h2,by rwa [hold b hbl] at h3⟩
    · grind +locals
  · exact fun g x hg=>((hS.glob g x hg).free (by simp [AV.noRef,AV.bel])).mono (M:=M) (n:=0) (fun _ h=>h) (fun k hk=>hb k (hS.idom k hk)) (fun _ h=>absurd h (zmU _)) (zmB _) hsh
  · have:=hS.idom k hk;rw [hh];simp;omega
  · by_cases hbl:b<H.length
    · rw [zof hbl] at hx
      refine (hS.blk b x hx).mono hbl (fun _ h=>h) (fun k hk=>hb k (hS.idom k hk)) hold zS_ hsh (fun g o hM hm=>hb g (hS.live_lt ⟨b,x,o,hx,hm,hM⟩)) (fun _ _ _ _ h=>h)
    · grind
  · by_cases hbl:b<H.length
    · rw [zof hbl] at h1
      rw [hold b hbl] at h5;by_cases hbl':b'<H.length
      · rw [zof hbl'] at h3
        exact hS.inj b b' x x' g o o' h1 h2 h3 h4 h5 (by rwa [hold b' hbl'] at h6)
      · have hlt:=(zl_ h3)
        simp at hlt;obtain rfl:b'=H.length:=by omega
        rw [zAX] at h6;simp at h6;have:=hS.live_lt ⟨b,x,o,h1,h2,h5⟩;omega
    · have hlt:=(zl_ h1)
      simp at hlt;obtain rfl:b=H.length:=by omega
      rw [zAX] at h5;simp at h5;by_cases hbl':b'<H.length
      · rw [zof hbl'] at h3
        rw [hold b' hbl'] at h6;have:=hS.live_lt ⟨b',x',o',h3,h4,h6⟩;omega
      · have hlt':=(zl_ h3)
        simp at hlt';omega
theorem Sim.write (hS:Sim GT w M I H) {b g o:Nat} {x y:ABlk} (hx:H[b]?=some x) (hxm:x.mut=true) (hM:M b=some (g,o)) {cur cur':Array Value} {e:TypeId} {fz:Nat×Nat}
    (hg:w.heap[g]?=some (.cells cur e fz)) (hsz:cur'.size=cur.size) (hh:w'.heap=w.heap.setIfInBounds g (.cells cur' e fz)) (ho:w'.os=w.os) (ht:w'.tape=w.tape) (hq:w'.output=w.output)
    (hy:zNf w' M I H.length b y):Grow w M I H w' M I (H.set b y)/\Sim GT w' M I (H.set b y):=by
  have hlive:zIR H M g:=⟨b,x,o,hx,hxm,hM⟩;have hnI:¬ I g:=fun h=>hS.notLive h hlive;have hlt:=hS.live_lt hlive;have hb:∀ k,k≠g->w'.heap[k]?=w.heap[k]?:=fun k hk=>by rw [hh,zmS (zmJ hk)]
  have hgg:w'.heap[g]?=some (.cells cur' e fz):=by rw [hh,zos,zoQ rfl,zoQ hlt]
  have hsh:∀ k s,w.shape? k=some s->w'.shape? k=some s:=fun k s h=>by
    by_cases hk:k=g
    · subst hk
      simp [World.shape?,hg] at h;simp [World.shape?,hgg,hsz,h]
    · rw [zBB (hb k hk)];exact h
  have hIb:∀ k,I k->w'.heap[k]?=w.heap[k]?:=fun k hk=>hb k (fun e=>hnI (e ▸ hk));have hbl:=zl_ hx;have hset:∀ c z,(H.set b y)[c]?=some z->(c=b/\z=y)\/(c≠b/\H[c]?=some z):=fun c z hz=>by
    by_cases hc:c=b
    · grind
    · grind
  refine ⟨⟨ho,ht,hq,by rw [hh];simp,fun _ _=>rfl,fun _ h=>h,fun _ h _=>.inl h,fun k hk hn=>hb k (fun e=>hn (e ▸ hlive)),fun k hk hl=>?_,hsh,by simp⟩,⟨?_,fun k hk=>?_,fun c z hz=>?_,fun c c' z z' g' p p' h1 h2 h3 h4 h5 h6=>?_,fun g x hg=>(hS.shp g x hg).imp fun e h=>hsh g _ h⟩⟩
  · obtain ⟨c,z,p,h1,h2,h3⟩:=hl
    rcases hset c z h1 with ⟨rfl,rfl⟩|⟨hc,h1⟩
    · exact ⟨c,x,p,hx,hxm,h3⟩
    · exact ⟨c,z,p,h1,h2,h3⟩
  · exact fun g' x' hg'=>(hS.glob g' x' hg').mono (fun _ h=>h) hIb (fun _ _=>rfl) (zoR _) hsh
  · have:=hS.idom k hk;rw [hh];simpa using this
  · rcases hset c z hz with ⟨rfl,rfl⟩|⟨hc,h1⟩
    · simpa using hy
    · rw [zoW]
      refine (hS.blk c z h1).mono (zl_ h1) (fun _ h=>h) hIb (fun _ _=>rfl) (zoR _) hsh (fun g' o' hM' hm'=>hb g' (fun e=>?_)) (fun _ _ _ _ h=>h);subst e;exact hc (hS.inj c b z x g' o' o h1 hm' hx hxm hM' hM)
  · have key:∀ c z p,(H.set b y)[c]?=some z->z.mut=true->M c=some (g',p)->∃ z0,H[c]?=some z0/\z0.mut=true:=fun c z p h1 h2 h3=>by
      rcases hset c z h1 with ⟨rfl,rfl⟩|⟨_,h1⟩
      · exact ⟨x,hx,hxm⟩
      · exact ⟨z,h1,h2⟩
    obtain ⟨z0,a1,a2⟩:=key c z p h1 h2 h5;obtain ⟨z0',a1',a2'⟩:=key c' z' p' h3 h4 h6;exact hS.inj c c' z0 z0' g' p p' a1 a2 a1' a2' h5 h6
theorem Sim.kill (hS:Sim GT w M I H) (b:Nat):Grow w M I H w M I (H.set b .dead)/\Sim GT w M I (H.set b .dead):=by
  have hset:∀ (c:Nat) (z:ABlk),(H.set b .dead)[c]?=some z->z=ABlk.dead\/H[c]?=some z:=fun c z hz=>by
    by_cases hc:b=c
    · grind
    · grind
  refine ⟨⟨rfl,rfl,rfl,zoR _,fun _ _=>rfl,fun _ h=>h,fun _ h _=>.inl h,fun _ _ _=>rfl,fun k hk hl=>?_,fun _ _ h=>h,by simp⟩,⟨hS.glob,hS.idom,fun c z hz=>?_,fun c c' z z' g' p p' h1 h2 h3 h4 h5 h6=>?_,hS.shp⟩⟩
  · obtain ⟨c,z,p,h1,h2,h3⟩:=hl
    rcases hset c z h1 with rfl|h1
    · simp [ABlk.mut] at h2
    · exact ⟨c,z,p,h1,h2,h3⟩
  · rcases hset c z hz with rfl|h1
    · trivial
    · rw [zoW];exact hS.blk c z h1
  · rcases hset c z h1 with rfl|h1
    · simp [ABlk.mut] at h2
    · rcases hset c' z' h3 with rfl|h3
      · simp [ABlk.mut] at h4
      · exact hS.inj c c' z z' g' p p' h1 h2 h3 h4 h5 h6
theorem Sim.take (hS:Sim GT w M I H) (n:Nat) (hn:n<=H.length) (hbel:∀ b cs,b<n->H[b]?=some (.box cs)->∀ c∈cs,c.bel n=true):Sim GT w M I (H.take n):=by
  have hget:∀ c z,(H.take n)[c]?=some z->c<n/\H[c]?=some z:=fun c z hz=>by
    rw [zo5] at hz;split at hz
    · exact ⟨‹_›,hz⟩
    · cases hz
  refine ⟨hS.glob,hS.idom,fun c z hz=>?_,fun c c' z z' g' p p' h1 h2 h3 h4 h5 h6=>hS.inj c c' z z' g' p p' (hget c z h1).2 h2 (hget c' z' h3).2 h4 h5 h6,hS.shp⟩;obtain ⟨hc,hz⟩:=hget c z hz;have hB:=hS.blk c z hz;have hlen:(H.take n).length=n:=by simp;omega
  rw [hlen];have F:∀ {k:Nat} {xs:List AV} {i j:Nat} {x c:AV} {v:Value},Elems k xs->xs[i]?=some x->x.cells[j]?=some c->Rel w M I H.length c v->Rel w M I n c v:=
    fun he hx hj h=>h.free (AV.noRef_cells (AV.elem_iff.1 (he _ (zoc hx))).2.1 hj)
  cases z with
  |dead=>trivial
  |shp b' t k=>exact hB
  |ty b' t=>exact hB
  |hd b' t k=>exact hB
  | box cs=>
    obtain ⟨g,o,cur,h1,h2,h3,h4,h5⟩:=hB;exact ⟨g,o,cur,h1,h2,h3,h4,fun j c' hj=>let ⟨v,a,b⟩:=h5 j c' hj;⟨v,a,b.cut (fun _ _=>rfl) (hbel c cs hc hz c' (zoc hj))⟩⟩
  | row k xs=>
    obtain ⟨he,h|⟨g,o,cur,h1,h2,h3,h4,h5⟩⟩:=hB
    · exact ⟨he,.inl h⟩
    · exact ⟨he,.inr ⟨g,o,cur,h1,h2,h3,h4,fun i j x c' hx hj=>let ⟨v,a,b⟩:=h5 i j x c' hx hj;⟨v,a,F he hx hj b⟩⟩⟩
  | frz k xs=>
    obtain ⟨he,h|⟨g,o,h1,h3,h5⟩⟩:=hB
    · exact ⟨he,.inl h⟩
    · exact ⟨he,.inr ⟨g,o,h1,h3,fun i j x c' hx hj=>let ⟨v,a,b⟩:=h5 i j x c' hx hj;⟨v,a,F he hx hj b⟩⟩⟩
  | mp ks vs=>
    obtain ⟨g,es,cl,h1,h2,h3,h4,h5,h6,h7⟩:=hB;exact ⟨g,es,cl,h1,h2,h3,h4,h5,h6,fun i x e a b=>(h7 i x e a b).free (h6 x (zoc a))⟩
theorem Grow.take {H':Heap} {M':AMap} {I':Nat->Prop} (h:Grow w M I H w' M' I' H'):Grow w M I H w' M' I' (H'.take H.length):=
  { h with
    live:=fun k hk hl=>h.live k hk (by
      obtain ⟨b,x,o,h1,h2,h3⟩:=hl;rw [zo5] at h1;split at h1
      · exact ⟨b,x,o,h1,h2,h3⟩
      · cases h1)
    len:=by have:=h.len;simp;omega }
theorem Cells.cell? {g k:Nat} {cur:Array Value} (h:Cells w g cur k) (j:Nat):w.cell? ⟨g,j,none⟩=cur[j]?:=by
  obtain ⟨e,fz,h1,_⟩:=h;simp [World.cell?,h1]
theorem Sim.shut (hS:Sim GT w M I H) {b k:Nat} {xs:List AV} (hx:H[b]?=some (.row k xs)) :
    ∃ I',Grow w M I H w M I' (H.set b (.frz k xs))/\Sim GT w M I' (H.set b (.frz k xs))/\∀ g o,M b=some (g,o)->I' g:=by
  have hbl:=zl_ hx;have hset:∀ c z,(H.set b (.frz k xs))[c]?=some z->(c=b/\z=.frz k xs)\/(c≠b/\H[c]?=some z):=fun c z hz=>by
    by_cases hc:c=b
    · grind
    · grind
  have hB:=hS.blk b _ hx;have hII:∀ k',I k'->I k'\/∃ o,M b=some (k',o):=fun _ h=>.inl h;refine ⟨fun k'=>I k'\/∃ o,M b=some (k',o),⟨rfl,rfl,rfl,zoR _,fun _ _=>rfl,hII,fun k' h hlt=>?_,fun _ _ _=>rfl,fun k' hk hl=>?_,fun _ _ h=>h,by simp⟩,⟨?_, ?_,fun c z hz=>?_,fun c c' z z' g' p p' h1 h2 h3 h4 h5 h6=>?_,hS.shp⟩,fun g o h=>.inr ⟨o,h⟩⟩
  · rcases h with h|⟨o,h⟩
    · exact .inl h
    · exact .inr ⟨b,_,o,hx,rfl,h⟩
  · obtain ⟨c,z,p,h1,h2,h3⟩:=hl
    rcases hset c z h1 with ⟨rfl,rfl⟩|⟨_,h1⟩
    · simp [ABlk.mut] at h2
    · exact ⟨c,z,p,h1,h2,h3⟩
  · exact fun g x hg=>(hS.glob g x hg).mono hII (fun _ _=>rfl) (fun _ _=>rfl) (zoR _) (fun _ _ h=>h)
  · rintro k' (h|⟨o,h⟩)
    · exact hS.idom k' h
    · exact hS.live_lt ⟨b,_,o,hx,rfl,h⟩
  · rw [zoW]
    rcases hset c z hz with ⟨rfl,rfl⟩|⟨hc,h1⟩
    · obtain ⟨he,h|⟨g,o,cur,h1,h2,h3,h4,h5⟩⟩:=hB
      · exact ⟨he,.inl h⟩
      · exact ⟨he,.inr ⟨g,o,h1,.inr ⟨o,h1⟩,fun i j x c' hx' hj=>let ⟨v,a,b⟩:=h5 i j x c' hx' hj;⟨v,by rw [h2.cell?];exact a,b.mono hII (fun _ _=>rfl) (fun _ _=>rfl) (zoR _) (fun _ _ h=>h)⟩⟩⟩
    · refine (hS.blk c z h1).mono (zl_ h1) hII (fun _ _=>rfl) (fun _ _=>rfl) (zoR _) (fun _ _ h=>h) (fun _ _ _ _=>rfl) (fun g' o' hM' hm' hn=>?_)
      rintro (h|⟨o,h⟩)
      · exact hn h
      · exact hc (hS.inj c b z _ g' o' o h1 hm' hx rfl hM' h)
  · rcases hset c z h1 with ⟨rfl,rfl⟩|⟨_,h1⟩
    · simp [ABlk.mut] at h2
    · rcases hset c' z' h3 with ⟨rfl,rfl⟩|⟨_,h3⟩
      · simp [ABlk.mut] at h4
      · exact hS.inj c c' z z' g' p p' h1 h2 h3 h4 h5 h6
theorem Sim.shutMap (hS:Sim GT w M I H) {b:Nat} {ks:List (Int×Int)} {vs:List AV} (hx:H[b]?=some (.mp ks vs)) :
    ∃ I',Grow w M I H w M I' (H.set b .dead)/\Sim GT w M I' (H.set b .dead)/\∀ g o,M b=some (g,o)->I' g:=by
  have hbl:=zl_ hx;have hset:∀ c z,(H.set b .dead)[c]?=some z->(c=b/\z=.dead)\/(c≠b/\H[c]?=some z):=fun c z hz=>by
    by_cases hc:c=b
    · grind
    · grind
  have hII:∀ k',I k'->I k'\/∃ o,M b=some (k',o):=fun _ h=>.inl h;refine ⟨fun k'=>I k'\/∃ o,M b=some (k',o),⟨rfl,rfl,rfl,zoR _,fun _ _=>rfl,hII,fun k' h hlt=>?_,fun _ _ _=>rfl,fun k' hk hl=>?_,fun _ _ h=>h,by simp⟩,⟨?_, ?_,fun c z hz=>?_,fun c c' z z' g' p p' h1 h2 h3 h4 h5 h6=>?_,hS.shp⟩,fun g o h=>.inr ⟨o,h⟩⟩
  · rcases h with h|⟨o,h⟩
    · exact .inl h
    · exact .inr ⟨b,_,o,hx,rfl,h⟩
  · obtain ⟨c,z,p,h1,h2,h3⟩:=hl
    rcases hset c z h1 with ⟨rfl,rfl⟩|⟨_,h1⟩
    · simp [ABlk.mut] at h2
    · exact ⟨c,z,p,h1,h2,h3⟩
  · exact fun g x hg=>(hS.glob g x hg).mono hII (fun _ _=>rfl) (fun _ _=>rfl) (zoR _) (fun _ _ h=>h)
  · rintro k' (h|⟨o,h⟩)
    · exact hS.idom k' h
    · exact hS.live_lt ⟨b,_,o,hx,rfl,h⟩
  · rw [zoW]
    rcases hset c z hz with ⟨rfl,rfl⟩|⟨hc,h1⟩
    · trivial
    · refine (hS.blk c z h1).mono (zl_ h1) hII (fun _ _=>rfl) (fun _ _=>rfl) (zoR _) (fun _ _ h=>h) (fun _ _ _ _=>rfl) (fun g' o' hM' hm' hn=>?_)
      rintro (h|⟨o,h⟩)
      · exact hn h
      · exact hc (hS.inj c b z _ g' o' o h1 hm' hx rfl hM' h)
  · rcases hset c z h1 with ⟨rfl,rfl⟩|⟨_,h1⟩
    · simp [ABlk.mut] at h2
    · rcases hset c' z' h3 with ⟨rfl,rfl⟩|⟨_,h3⟩
      · simp [ABlk.mut] at h4
      · exact hS.inj c c' z z' g' p p' h1 h2 h3 h4 h5 h6
theorem Sim.turnMap (hS:Sim GT w M I H) {b g:Nat} {ks ks':List (Int×Int)} {vs vs':List AV} {es es':Array MapEntry} {cl cl':Nat} (hx:H[b]?=some (.mp ks vs)) (hM:M b=some (g,0)) (hg:w.heap[g]?=some (.map es cl))
    (hh:w'.heap=w.heap.setIfInBounds g (.map es' cl')) (ho:w'.os=w.os) (ht:w'.tape=w.tape) (hq:w'.output=w.output)
    (hk:es'.toList.map (·.key)=ks'.map zKz) (hl:vs'.length=es'.size) (hn:∀ x∈vs',x.noRef=true) (hv:∀ (i:Nat) (x:AV) (e:MapEntry),vs'[i]?=some x->es'[i]?=some e->Rel w M I H.length x e.val) :
    Grow w M I H w' M I (H.set b (.mp ks' vs'))/\Sim GT w' M I (H.set b (.mp ks' vs')):=by
  have hlive:zIR H M g:=⟨b,_,0,hx,rfl,hM⟩;have hnI:¬ I g:=fun h=>hS.notLive h hlive;have hlt:=hS.live_lt hlive;have hb:∀ k,k≠g->w'.heap[k]?=w.heap[k]?:=fun k hk=>by rw [hh,zmS (zmJ hk)]
  have hgg:w'.heap[g]?=some (.map es' cl'):=by rw [hh,zos,zoQ rfl,zoQ hlt]
  have hsh:∀ k s,w.shape? k=some s->w'.shape? k=some s:=fun k s h=>by
    by_cases hk:k=g
    · subst hk
      simp [World.shape?,hg] at h
    · rw [zBB (hb k hk)];exact h
  have hIb:∀ k,I k->w'.heap[k]?=w.heap[k]?:=fun k hk=>hb k (fun e=>hnI (e ▸ hk));have hbl:=zl_ hx;have hset:∀ c z,(H.set b (.mp ks' vs'))[c]?=some z->(c=b/\z=.mp ks' vs')\/(c≠b/\H[c]?=some z):=fun c z hz=>by
    by_cases hc:c=b
    · grind
    · grind
  refine ⟨⟨ho,ht,hq,by rw [hh];simp,fun _ _=>rfl,fun _ h=>h,fun _ h _=>.inl h,fun k hk hn=>hb k (fun e=>hn (e ▸ hlive)),fun k hk hl=>?_,hsh,by simp⟩,⟨?_,fun k hk=>?_,fun c z hz=>?_,fun c c' z z' g' p p' h1 h2 h3 h4 h5 h6=>?_,fun g x hg=>(hS.shp g x hg).imp fun e h=>hsh g _ h⟩⟩
  · obtain ⟨c,z,p,h1,h2,h3⟩:=hl
    rcases hset c z h1 with ⟨rfl,rfl⟩|⟨hc,h1⟩
    · exact ⟨c,_,p,hx,rfl,h3⟩
    · exact ⟨c,z,p,h1,h2,h3⟩
  · exact fun g' x' hg'=>(hS.glob g' x' hg').mono (fun _ h=>h) hIb (fun _ _=>rfl) (zoR _) hsh
  · have:=hS.idom k hk;rw [hh];simpa using this
  · rcases hset c z hz with ⟨rfl,rfl⟩|⟨hc,h1⟩
    · rw [zoW]
      exact ⟨g,es',cl',hM,hgg,hnI,hk,hl,hn,fun i x e a c=>(hv i x e a c).mono (fun _ h=>h) hIb (fun _ _=>rfl) (zoR _) hsh⟩
    · rw [zoW]
      refine (hS.blk c z h1).mono (zl_ h1) (fun _ h=>h) hIb (fun _ _=>rfl) (zoR _) hsh (fun g' o' hM' hm'=>hb g' (fun e=>?_)) (fun _ _ _ _ h=>h);subst e;exact hc (hS.inj c b z _ g' o' 0 h1 hm' hx rfl hM' hM)
  · have key:∀ c z p,(H.set b (.mp ks' vs'))[c]?=some z->z.mut=true->M c=some (g',p)->∃ z0,H[c]?=some z0/\z0.mut=true:=fun c z p h1 h2 h3=>by
      rcases hset c z h1 with ⟨rfl,rfl⟩|⟨_,h1⟩
      · exact ⟨_,hx,rfl⟩
      · exact ⟨z,h1,h2⟩
    obtain ⟨z0,a1,a2⟩:=key c z p h1 h2 h5;obtain ⟨z0',a1',a2'⟩:=key c' z' p' h3 h4 h6;exact hS.inj c c' z0 z0' g' p p' a1 a2 a1' a2' h5 h6
theorem zNg {k:Nat} {xs:List AV} (h:Elems k xs) (o l:Nat):Elems k ((xs.drop o).take l):=fun x hx=>h x (zmj (zmk hx))
theorem zPi (hS:Sim GT w M I H) {q:Option Bool} {b k off len:Nat} {xs:List AV} {v:Value} (hx:H[b]?=some (.frz k xs)) (hle:off+len<=xs.length) (h:Rel w M I H.length (.sl q b k off len) v) :
    Rel w M I H.length (.lst (zTb q ((xs.drop off).take len)) k ((xs.drop off).take len)) v:=by
  obtain ⟨he,hB⟩:=hS.blk b _ hx;have hlen:((xs.drop off).take len).length=len:=by simp;omega
  cases h with
  | sln q b k off hb hM hq=>
    simp only [List.take_zero];refine .lnil _ _ ?_;unfold zTb;split
    · exact absurd rfl hq
    · simp
    · simp
  | sl q b k off len g o p cap hb hM hc hm hq ha=>
    rcases hB with ⟨h1,rfl⟩|⟨g',o',h1,hI,h5⟩
    · rw [hM] at h1;cases h1
    · rw [hM] at h1
      simp only [zoS,zob] at h1;obtain ⟨rfl,rfl⟩:=h1;have hqq:zTb q ((xs.drop off).take len)≠some true:=by
        unfold zTb;split
        · simp
        · have:=hq rfl
          simp only [ne_eq,zoS,List.isEmpty_iff];intro e;rw [e] at hlen;simp at hlen;omega
        · simp
      have:=Rel.mk_lst (w:=w) (M:=M) (n:=H.length) (q:=zTb q ((xs.drop off).take len)) (xs:=(xs.drop off).take len) (g:=g) (o:=p) (cap:=cap) (k:=k) (I:=I) hqq tO hm hI (zNg he off len) (fun i j x c hi hj=>by
        have hi':i<len:=by have:=(zl_ hi);omega
        rw [zo5,zoQ hi',zo1] at hi;obtain ⟨hp,_⟩:=ha tO;obtain ⟨v,a,b⟩:=h5 (off+i) j x c hi hj;refine ⟨v, ?_,b⟩;rw [hp,show o+off*k+i*k+j=o+(off+i)*k+j by rw [zmC];omega];exact a)
      rwa [hlen] at this
theorem zK3 (n0:Nat):∀ (x:AV) {w:World} {M:AMap} {I:Nat->Prop} {H:Heap} {v:Value} {x':AV} {H':Heap},Sim GT w M I H->Rel w M I H.length x v->zDm n0 x H=some (x',H') ->
    ∃ I',Grow w M I H w M I' H'/\Sim GT w M I' H'/\Rel w M I' H'.length x' v/\H'.length=H.length/\(∀ (b:Nat) (cs:List AV),H'[b]?=some (ABlk.box cs)->H[b]?=some (ABlk.box cs)):=by
  intro x;refine AV.rec (motive_1:=fun x=>∀ {w:World} {M:AMap} {I:Nat->Prop} {H:Heap} {v:Value} {x':AV} {H':Heap},Sim GT w M I H->Rel w M I H.length x v->zDm n0 x H=some (x',H') ->
      ∃ I',Grow w M I H w M I' H'/\Sim GT w M I' H'/\Rel w M I' H'.length x' v/\H'.length=H.length/\(∀ (b:Nat) (cs:List AV),H'[b]?=some (ABlk.box cs)->H[b]?=some (ABlk.box cs)))
    (motive_2:=fun xs=>∀ {w:World} {M:AMap} {I:Nat->Prop} {H:Heap} {vs:List Value} {xs':List AV} {H':Heap},Sim GT w M I H->zED w M I H.length xs vs->zKR n0 xs H=some (xs',H') ->
      ∃ I',Grow w M I H w M I' H'/\Sim GT w M I' H'/\zED w M I' H'.length xs' vs/\H'.length=H.length/\(∀ (b:Nat) (cs:List AV),H'[b]?=some (ABlk.box cs)->H[b]?=some (ABlk.box cs)))
    ?undef ?bool ?int ?str ?agg ?tup ?lst ?lref ?ref ?sl ?nilp ?nilf ?nili ?nilm ?fn ?iface ?raw ?pan ?sca ?mp ?mps ?nil ?cons x
  case mp=>
    intro b w M I H v x' H' hS hx hf;simp only [zDm] at hf;split at hf
    · cases hf
      exact ⟨I,Grow.refl ..,hS,hx,rfl,fun _ _ h=>h⟩
    · split at hf
      · rename_i ks vs hb
        cases hf;obtain ⟨I',hG,hS',hI'⟩:=hS.shutMap hb;have hbl:=zl_ hb;obtain ⟨g,es,cl,h1,h2,h3,h4,h5,h6,h7⟩:=hS.blk b _ hb;cases hx with
        | mp _ g' hbn hM=>
          rw [hM] at h1;simp only [zoS,zob,znQ] at h1;subst h1;refine ⟨I',hG,hS',.mps ks vs _ es cl (hI' _ 0 hM) h2 h4 h5 h6 fun i x e a c=>hG.rel hS (h7 i x e a c),by simp,fun c cs h=>?_⟩;by_cases hc:b=c
          · subst hc;rw [zl3 hbl] at h;cases h
          · rwa [zo7 hc] at h
      · cases hf
  case sl=>
    intro q b k off len w M I H v x' H' hS hx hf;simp only [zDm] at hf;split at hf
    · cases hf
      exact ⟨I,Grow.refl ..,hS,hx,rfl,fun _ _ h=>h⟩
    · split at hf
      · rename_i k' xs hb
        split at hf
        · rename_i hc
          obtain ⟨rfl,hle⟩:=hc;cases hf;obtain ⟨I',hG,hS',_⟩:=hS.shut hb;have hbl:=zl_ hb;refine ⟨I',hG,hS',zPi hS' (zl3 hbl) hle (hG.rel hS hx),by simp,fun c cs h=>?_⟩;by_cases hc:b=c
          · subst hc;rw [zl3 hbl] at h;cases h
          · rwa [zo7 hc] at h
        · cases hf
      · rename_i k' xs hb
        split at hf
        · rename_i hc
          obtain ⟨rfl,hle⟩:=hc;cases hf;exact ⟨I,Grow.refl ..,hS,zPi hS hb hle hx,rfl,fun _ _ h=>h⟩
        · cases hf
      · cases hf
  case agg=>
    intro cs ih w M I H v x' H' hS hx hf;simp only [zDm] at hf;split at hf
    · rename_i cs' H1 h1
      cases hf;cases hx with
      | agg cs vs hl h=>
        obtain ⟨I',a,b,c,d,e⟩:=ih hS ⟨hl,h⟩ h1;exact ⟨I',a,b,.agg _ _ c.1 c.2,d,e⟩
    · cases hf
  case tup=>
    intro cs ih w M I H v x' H' hS hx hf;simp only [zDm] at hf;split at hf
    · rename_i cs' H1 h1
      cases hf;cases hx with
      | tup cs vs hl h=>
        obtain ⟨I',a,b,c,d,e⟩:=ih hS ⟨hl,h⟩ h1;exact ⟨I',a,b,.tup _ _ c.1 c.2,d,e⟩
    · cases hf
  case iface=>
    intro t y ih w M I H v x' H' hS hx hf;simp only [zDm] at hf;split at hf
    · rename_i y' H1 h1
      cases hf;cases hx with
      | iface t y u h=>
        obtain ⟨I',a,b,c,d,e⟩:=ih hS h h1;exact ⟨I',a,b,.iface _ _ _ c,d,e⟩
    · cases hf
  case nil=>
    intro w M I H vs xs' H' hS hx hf;simp only [zKR,zoS,zob] at hf;obtain ⟨rfl,rfl⟩:=hf;exact ⟨I,Grow.refl ..,hS,hx,rfl,fun _ _ h=>h⟩
  case cons=>
    intro x r ihx ihr w M I H vs xs' H' hS hx hf;simp only [zKR] at hf;split at hf
    · rename_i x1 H1 h1
      split at hf
      · rename_i r1 H2 h2
        cases hf;obtain ⟨hl,hr⟩:=hx
        match vs,hl with
        | v::us,hl=>
          obtain ⟨I1,a1,b1,c1,d1,e1⟩:=ihx hS (hr 0 x v rfl rfl) h1;have hr1:zED w M I1 H1.length r us:=⟨by simpa using hl,fun i c v hc hv=>a1.rel hS (hr (i+1) c v (by simpa using hc) (by simpa using hv))⟩;obtain ⟨I2,a2,b2,c2,d2,e2⟩:=ihr b1 hr1 h2;refine ⟨I2,a1.trans a2,b2,⟨by simpa using c2.1,fun i c v hc hv=>?_⟩,d2.trans d1,fun b cs h=>e1 b cs (e2 b cs h)⟩;cases i with
          | zero=>
            simp at hc hv;subst hc hv;exact a2.rel b1 c1
          |succ i=>exact c2.2 i c v (by simpa using hc) (by simpa using hv)
      · cases hf
    · cases hf
  all_goals
    intros
    rename_i hS hx hf;simp only [zDm,zoS,zob] at hf;obtain ⟨rfl,rfl⟩:=hf;exact ⟨_,Grow.refl ..,hS,hx,rfl,fun _ _ h=>h⟩
def zNO:Value->AV->Bool
  |.bool b,.bool b'=>b==b'
  |.int k n,.int k' n'=>decide (k=k')&&n==n'
  |.string s,.str l=>s.data.toList==l
  |.nilIface,.nili=>true
  |.pointer none,.nilp=>true
  |.slice none 0 0,.lst (some true) _ []=>true
  |.nilFunc,.nilf=>true
  |.map none,.nilm=>true
  |_,.undef=>true
  |_,_=>false
def zNh:List Value->List AV->Bool
  |[],[]=>true
  |v::vs,c::cs=>zNO v c&&zNh vs cs
  |_,_=>false
def zKT:Value->AV->Bool
  |.agg vs,.agg cs=>zNh vs.toList cs
  |v,c=>zNO v c
def zE2:Operand->Opd->Bool
  |.tmp t,.tmp t'=>t==t'
  |.const v,.const c=>zKT v c
  |.global g,.glob g'=>g==g'
  |.func f,.fn f'=>f==f'
  |_,_=>false
def zEM:List Operand->List Opd->Bool
  |[],[]=>true
  |x::xs,y::ys=>zE2 x y&&zEM xs ys
  |_,_=>false
def zFP (P:Program) (t:TypeId):Option Nat:=(P.info? t).map (·.size)
def zKU (P:Program) (t:TypeId):Option Bool:=match P.underlying t with
  |some (.struct _)=>some true
  |some (.array _ _)=>some true
  |some _=>some false
  |none=>none
def zNi (P:Program) (S:TypeId->Option (List Sc)):Nat->List Field->Option (List Sc)
  |_,[]=>some []
  | o,f::r=>if f.name ≠ "_" /\ f.offset=o then
      match S f.type with
      |some s=>if zFP P f.type=some s.length/\0<s.length then (zNi P S (o+s.length) r).map (s++·) else none
      |none=>none
    else none
def zIp (P:Program):Nat->TypeId->Option (List Sc)
  |0,_=>none
  | d+1,t=>match P.underlying t with
    |some (.int k)=>some [.int k]
    |some .bool=>some [.bool]
    |some .string=>some [.str]
    |some (.struct fs)=>if P.stoodInHeld t then none else zNi P (zIp P d) 0 fs.toList
    |_=>none
def zL3:Operand->Bool
  |.const _=>true
  |_=>false
def zit (P:Program) (t:TypeId):EK->Bool
  | .iface=>match P.underlying t with
    |some (.interface _)=>true
    |_=>false
  | .ptr=>match P.underlying t with
    |some (.pointer _)=>true
    |_=>false
  | .sl=>match P.underlying t with
    |some (.slice _)=>true
    |_=>false
  | .fn=>match P.underlying t with
    |some (.func _ _ _)=>true
    |_=>false
def zEd (P:Program) (t:TypeId) (k:Nat):Bool:=match P.underlying t with
  |some (.slice e)=>zFP P e==some k
  |_=>false
def zQf (P:Program) (t:TypeId) (n k:Nat):Bool:=match P.underlying t with
  |some (.array m e)=>m==n&&zFP P e==some k
  |_=>false
def zKV (P:Program) (t:TypeId):Bool:=match P.underlying t with
  |some .string=>true
  |_=>false
def zRs (P:Program) (t:TypeId) (k:IntKind):Bool:=match P.underlying t with
  |some (.int k')=>decide (k'=k)
  |_=>false
def zWd (P:Program) (t:TypeId):Bool:=match P.underlying t with
  |some (.slice e)=>zRs P e .u8
  |_=>false
def zTh (P:Program) (t:TypeId) (f:Nat):Option (Nat×TypeId):=match P.underlying t with
  |some (.struct fs)=>(fs[f]?).map fun f=>(f.offset,f.type)
  |_=>none
def zFG (P:Program) (t:TypeId):List Nat->Option (List (Nat×Nat))
  |[]=>some []
  | i::r=>match P.underlying t with
    | some (.struct fs)=>match fs[i]? with
      | some f=>match zFP P f.type,zFG P t r with
        |some s,some pl=>some ((f.offset,s)::pl)
        |_,_=>none
      |none=>none
    | some (.array _ e)=>match zFP P e,zFG P t r with
      |some s,some pl=>some ((i*s,s)::pl)
      |_,_=>none
    |_=>none
def zTi (P:Program) (t:TypeId):Bool:=match P.underlying t with
  |some (.struct fs)=>fs.toList.all fun f=>(zFP P f.type).isSome
  |some (.array _ e)=>(zFP P e).isSome
  |_=>false
def zNj (P:Program) (t:TypeId) (z:List AV):Bool:=match P.info? t with
  | some i=>match i.zero with
    |some v=>zNh v.cells.toList z
    |none=>false
  |none=>false
def zHN (P:Program) (t:TypeId):Bool:=(match P.underlying t with
  | some (.struct fs)=>(match fs.toList with
    |[f,g]=>f.offset==0&&g.offset==1&&zRs P f.type .i64&&zRs P g.type .i64
    |_=>false)
  |_=>false)&&decide (zIp P 30 t=some [.int .i64,.int .i64])
def zK4 (P:Program):Op->AK->List Opd->Bool
  |.move x,.mv,[x']=>zE2 x x'
  |.assign x,.mv,[x']=>zE2 x x'
  |.pick c a b,.pick,[c',a',b']=>zE2 c c'&&zE2 a a'&&zE2 b b'
  |.binOp op _ x y _,.bin op',[x',y']=>decide (op=op')&&zE2 x x'&&zE2 y y'
  |.binOp op t x y _,.eqs neg sh,[x',y']=>decide (op=if neg then .neq else .eql)&&decide (zIp P 30 t=some sh)&&!(P.eqGuardType P.depth t)&&(match P.underlying t with
      |some (.struct _)=>true
      |_=>false)&&zE2 x x'&&zE2 y y'
  |.binOp op t x y _,.eqb neg,[x',y']=>decide (op=if neg then .neq else .eql)&&(match P.underlying t with
      |some .bool=>true
      |_=>false)&&zE2 x x'&&zE2 y y'
  |.binOp op t x y _,.eqn e neg lit,[x',y']=>decide (op=if neg then .neq else .eql)&&zit P t e&&(!lit||zL3 x||zL3 y)&&zE2 x x'&&zE2 y y'
  |.unOp op _ x,.un op',[x']=>decide (op=op')&&zE2 x x'
  |.convert s d x,.convInt k,[x']=>(P.underlying s).isSome&&zRs P d k&&zE2 x x'
  |.convert s d x,.convRune,[x']=>(P.underlying s).isSome&&zKV P d&&zE2 x x'
  |.convert s d x,.bytesToStr,[x']=>zWd P s&&zKV P d&&zE2 x x'
  |.convert s d x,.strToBytes,[x']=>(P.underlying s).isSome&&zWd P d&&zE2 x x'
  |.makeInterface t x,.mkIface t',[x']=>t==t'&&(match P.underlying t with
      |some (.interface _)=>false
      |some _=>true
      |none=>false)&&zE2 x x'
  |.typeAssert x xt t true,.tyAs t',[x']=>t==t'&&(match P.underlying t with
      |some (.interface _)=>false
      |some _=>true
      |none=>false)&&zE2 x x'
  |.makeFunc (.func f) first caps,.mkFn f' m,xs=>f==f'&&first.size==m&&zEM (first.toList++caps.toList) xs
  |.call { callee:=.builtin .len,args,argTypes },.len s,[x']=>(match args.toList,argTypes[0]? with
      | [x],some t=>(if s then zKV P t else (match P.underlying t with
        |some (.slice _)=>true
        |_=>false))&&zE2 x x'
      |_,_=>false)
  |.slice t x lo hi none,.slc k blo bhi,xs=>(match k with
      |none=>zKV P t
      |some k=>zEd P t k)&&lo.isSome==blo&&hi.isSome==bhi&&zEM (x::(lo.toList++hi.toList)) xs
  |.fieldAddr t x f,.fieldAddr o,[x']=>(match zTh P t f with
      | some (o',u)=>o'==o&&(match zFP P u with
        |some s=>s != 0
        |none=>false)
      |none=>false)&&zE2 x x'
  |.indexAddr t x i,.idxAddr k,[x',i']=>zEd P t k&&zE2 x x'&&zE2 i i'
  |.indexAddr t x i,.idxArr k n,[x',i']=>zQf P t n k&&zE2 x x'&&zE2 i i'
  |.index t x i,.idxStr,[x',i']=>zKV P t&&zE2 x x'&&zE2 i i'
  |.index t x i,.idxAgg k n ag,[x',i']=>zQf P t n k&&(match P.underlying t with
      |some (.array _ e)=>zKU P e==some ag
      |_=>false)&&zE2 x x'&&zE2 i i'
  |.nilCheck x,.nilchk,[x']=>zE2 x x'
  |.extract x i,.extract i',[x']=>i==i'&&zE2 x x'
  |.load t x,.load s ag,[x']=>zFP P t==some s&&zKU P t==some ag&&zE2 x x'
  |.store t p x,.store s,[p',x']=>zFP P t==some s&&zE2 p p'&&zE2 x x'
  |.alloc t,.alloc z,[]=>zNj P t z
  |.alloc t,.allocT t' z,[]=>t==t'&&zNj P t z
  |.box _ x,.box,[x']=>zE2 x x'
  |.build t parts,.build z pl,xs=>zNj P t z&&zTi P t&&decide (zFG P t (parts.toList.map (·.1))=some pl)&&zEM (parts.toList.map (·.2)) xs
  |.buildSlice t len parts,.bslice k,xs=>zEd P t k&&(match P.underlying t with
      | some (.slice e)=>(match P.info? e with
        |some i=>i.zero.isSome
        |none=>false)
      |_=>false)&&decide (len*k<=16777216)&&decide (len<=16777216)&&decide (parts.toList.map (·.1)=List.range len)&&zEM (parts.toList.map (·.2)) xs
  |.makeSlice t l c,.make k bytes z,[l',c']=>(match P.underlying t with
      | some (.slice e)=>(match P.info? e with
        | some i=>i.size==k&&i.bytes==bytes&&(match i.zero with
          |some v=>zKT v z&&v.cells.size==k
          |none=>false)
        |none=>false)
      |_=>false)&&zE2 l l'&&zE2 c c'&&decide (0<k)
  |.call { callee:=.builtin .append,args,argTypes },.append k bytes,[x',y']=>(match args.toList,argTypes.toList with
      | [x,y],[t,t']=>t==t'&&(match P.underlying t with
        | some (.slice e)=>(match P.info? e with
          | some i=>i.size==k&&i.bytes==bytes&&(match i.zero with
            |some v=>v.cells.size==k
            |none=>false)
          |none=>false)
        |_=>false)&&zE2 x x'&&zE2 y y'
      |_,_=>false)&&decide (0<k)
  |.call { callee:=.builtin .append,args,argTypes },.appT tt s,[x',y']=>(match args.toList,argTypes.toList with
      | [x,y],[t,t']=>(if s=true then zKV P t' else t==t')&&(match P.underlying t with
        | some (.slice e)=>e==tt&&(match P.info? e with
          | some i=>i.size==1&&i.bytes==1&&(match i.zero with
            |some v=>v.cells.size==1
            |none=>false)
          |none=>false)
        |_=>false)&&zE2 x x'&&zE2 y y'
      |_,_=>false)
  |.makeMap _ none,.mkmap,[]=>true
  |.lookup t m k ok,.mget z ok',[m',k']=>(match P.underlying t with
      | some (.map kt et)=>zHN P kt&&(match P.info? et with
        | some i=>(match i.zero with
          |some v=>zKT v z
          |none=>false)
        |none=>false)
      |_=>false)&&ok==ok'&&zE2 m m'&&zE2 k k'
  |.mapUpdate t m k x,.mset,[m',k',x']=>(match P.underlying t with
      |some (.map kt _)=>zHN P kt
      |_=>false)&&zE2 m m'&&zE2 k k'&&zE2 x x'
  |.insert t m k x,.mset,[m',k',x']=>(match P.underlying t with
      |some (.map kt _)=>zHN P kt
      |_=>false)&&zE2 m m'&&zE2 k k'&&zE2 x x'
  |.call { callee:=.value (.func f),args,.. },.call f' _,xs=>f==f'&&zEM args.toList xs
  |.call { callee:=.value x,args,.. },.callv _,xs=>zEM (x::args.toList) xs
  |_,_,_=>false
def zL4 (P:Program) (op:Op) (k:AK) (xs:List Opd):Bool:=match k with
  |.stuck=>true
  |.callp f=>zK4 P op (.call f false) xs
  |.callvp=>zK4 P op (.callv false) xs
  | .panic=>(match op,xs with
    |.panic x,[x']=>zE2 x x'
    |_,_=>false)
  |k=>zK4 P op k xs
section
variable {P:Program} {GT:zG_} {w:World} {M:AMap} {I:Nat->Prop} {H:Heap} {n:Nat}
theorem zPj {v:Value} {c:AV} (h:zNO v c=true):Rel w M I n c v:=by
  unfold zNO at h;split at h
  · simp at h;subst h;exact .bool _
  · simp at h;obtain ⟨rfl,rfl⟩:=h;exact .int _ _
  · rename_i s l
    simp at h;subst h;obtain ⟨⟨l⟩⟩:=s;exact .str l
  · exact .nili
  · exact .nilp
  · exact .lnil _ _ zS_
  · exact .nilf
  · exact .nilm
  · exact .undef _
  · cases h
theorem zHO:∀ {vs:List Value} {cs:List AV},zNh vs cs=true->zED w M I n cs vs
  |[],[],_=>⟨rfl,by simp⟩
  | v::vs,c::cs,h=>by
    simp only [zNh,zTo] at h;have:=zHO h.2;refine ⟨by simpa using this.1,fun i c' v' hc hv=>?_⟩;cases i with
    |zero=>simp at hc hv;subst hc hv;exact zPj h.1
    |succ i=>exact this.2 i c' v' (by simpa using hc) (by simpa using hv)
  |[],_::_,h=>by simp [zNh] at h
  |_::_,[],h=>by simp [zNh] at h
theorem zK5 {v:Value} {c:AV} (h:zKT v c=true):Rel w M I n c v:=by
  unfold zKT at h;split at h
  · rename_i vs cs
    have:=zHO (w:=w) (M:=M) (I:=I) (n:=n) h;obtain ⟨vs⟩:=vs;exact .agg cs vs this.1 this.2
  · exact zPj h
def zAI (P:Program) (GT:zG_) (w:World) (M:AMap) (I:Nat->Prop) (H:Heap) (s:Sem Value) (v:AV) (H':Heap):Prop:=
  ∃ v' w' M' I',s.run P w=.ok v' w'/\Grow w M I H w' M' I' H'/\Sim GT w' M' I' H'/\Rel w' M' I' H'.length v v'
theorem zAI.pure (hS:Sim GT w M I H) {s:Sem Value} {v:AV} {v':Value} (h:s.run P w=.ok v' w) (hr:Rel w M I H.length v v'):zAI P GT w M I H s v H:=
  ⟨v',w,M,I,h,Grow.refl ..,hS,hr⟩
theorem zHP {t:TypeId} {b:Bool} (h:zKU P t=some b):(isAgg t).run P w=.ok b w:=by
  unfold zKU at h;unfold isAgg;split at h <;> simp_all [run_underlying]
theorem zBH {t:TypeId} {s:Nat} (h:zFP P t=some s):(sizeOf t).run P w=.ok s w:=by
  unfold zFP at h;obtain ⟨i,hi,rfl⟩:=zoV.1 h;simp [sizeOf,typeInfo,hi]
theorem zCn {cs:List AV} {vs:List Value} (h:zED w M I n cs vs) {j:Nat} {c:AV} (hj:cs[j]?=some c):∃ v,vs[j]?=some v/\Rel w M I n c v:=by
  have hlt:=(zl_ hj);have hl:=h.1;exact ⟨vs[j]'tO,zoO _,h.2 j c _ hj (zoO _)⟩
theorem zWe {cs:List AV} {vs:List Value} (hr:zED w M I n cs vs) {t:TypeId} {o s:Nat} {ag:Bool} {v:AV} (hs:zFP P t=some s) (ha:zKU P t=some ag) (h:part cs o s ag=some v) :
    ∃ v',(Go.part t vs.toArray o).run P w=.ok v' w/\Rel w M I n v v':=by
  unfold part at h;unfold Go.part;cases ag with
  | true=>
    simp only [zoz] at h;split at h
    · rename_i hle
      cases h;refine ⟨.agg ((vs.drop o).take s).toArray, ?_,.agg _ _ ?_ ?_⟩
      · simp only [Sem.run_bind,zHP ha,Result.andThen_ok,zoz,zBH hs,Sem.run_pure]
        congr 2
        simp [zn6,znl]
      · have:=hr.1;simp;omega
      · intro i c v hc hv
        rw [zo5] at hc hv;split at hc
        · rw [zoQ ‹_›] at hv
          rw [zo1] at hc hv;exact hr.2 _ c v hc hv
        · cases hc
    · cases h
  | false=>
    simp only [zoZ,zot] at h;obtain ⟨u,hu,hru⟩:=zCn hr h;refine ⟨u, ?_,hru⟩;simp only [Sem.run_bind,zHP ha,Result.andThen_ok,zoZ,zot];simp [hu]
theorem zRt (hS:Sim GT w M I H) {p:AV} {v:Value} (hp:Rel w M I H.length p v) {cs:List AV} {o:Nat} (h:zy H p=some (cs,o)) :
    ∃ g a,v=.pointer (some ⟨g,a,none⟩)/\∀ j c,cs[o+j]?=some c->∃ u,w.cell? ⟨g,a+j,none⟩=some u/\Rel w M I H.length c u:=by
  cases hp with
  | lref x oo g o' V hI hx hv hr=>
    simp only [zy,zoS,zob] at h;obtain ⟨rfl,rfl⟩:=h;exact ⟨g,o',rfl,fun j c hj=>⟨_,hv j c hj,hr j c hj⟩⟩
  | ref b k i oo g o' hb hM=>
    simp only [zy] at h;refine ⟨g,o'+i*k+oo,rfl, ?_⟩;split at h
    · rename_i cs' hx
      split at h
      · rename_i hi
        subst hi;cases h;obtain ⟨g',o'',cur,h1,h2,h3,h4,h5⟩:=hS.blk b _ hx;rw [hM] at h1;cases h1;intro j c hj;obtain ⟨u,a,r⟩:=h5 _ c hj;exact ⟨u,by rw [h2.cell?,<-a];congr 1;omega,r⟩
      · cases h
    · rename_i k' xs hx
      split at h
      · rename_i hk;subst hk
        obtain ⟨x,hx',he⟩:=zoV.1 h;cases he;obtain ⟨he,⟨_,rfl⟩|⟨g',o'',cur,h1,h2,h3,h4,h5⟩⟩:=hS.blk b _ hx
        · simp at hx'
        · rw [hM] at h1;cases h1
          intro j c hj;obtain ⟨u,a,r⟩:=h5 i _ x c hx' hj;exact ⟨u,by rw [h2.cell?,<-a];congr 1;omega,r⟩
      · cases h
    · rename_i k' xs hx
      split at h
      · rename_i hk;subst hk
        obtain ⟨x,hx',he⟩:=zoV.1 h;cases he;obtain ⟨he,⟨_,rfl⟩|⟨g',o'',h1,h3,h5⟩⟩:=hS.blk b _ hx
        · simp at hx'
        · rw [hM] at h1;cases h1
          intro j c hj;obtain ⟨u,a,r⟩:=h5 i _ x c hx' hj;exact ⟨u,by rw [<-a];congr 2;omega,r⟩
      · cases h
    · cases h
  |_=>simp [zy] at h
theorem zK6 {t:TypeId} {s:Nat} {ag:Bool} (hs:zFP P t=some s) (ha:zKU P t=some ag) {cs:List AV} {o g a:Nat} {v:AV} (h:part cs o s ag=some v)
    (hc:∀ j c,cs[o+j]?=some c->∃ u,w.cell? ⟨g,a+j,none⟩=some u/\Rel w M I n c u):∃ v',(loadVar t ⟨g,a,none⟩).run P w=.ok v' w/\Rel w M I n v v':=by
  unfold part at h;unfold loadVar;cases ag with
  | true=>
    simp only [zoz] at h;split at h
    · rename_i hle
      cases h
      let vs:List Value:=(List.range s).map fun j=>(w.cell? ⟨g,a+j,none⟩).getD Go.undef
      have hvl:vs.length=s:=by simp [vs]
      have hvs:∀ j v,vs[j]?=some v->w.cell? ((⟨g,a,none⟩:Addr).add j)=some v:=fun j v hv=>by
        have hj:j<s:=by have:=(zl_ hv);omega
        obtain ⟨u,hu,_⟩:=hc j _ (zoO tO);rw [Addr.add_lit];simp [vs,hj,hu] at hv;rw [hu,hv]
      have hl:=run_loadCells_list (P:=P) w ⟨g,a,none⟩ vs hvs;rw [hvl] at hl;refine ⟨.agg vs.toArray, ?_,.agg _ _ (by simp;omega) fun i c v hci hvi=>?_⟩
      · simp only [Sem.run_bind,zHP ha,Result.andThen_ok,zoz,zBH hs,hl,Sem.run_pure]
      · grind
    · cases h
  | false=>
    simp only [zoZ,zot] at h;obtain ⟨u,hu,hr⟩:=hc 0 v (by simpa using h);refine ⟨u, ?_,hr⟩;simp only [Sem.run_bind,zHP ha,Result.andThen_ok,zoZ,zot];simp [show w.cell? ⟨g,a,none⟩=some u by simpa using hu]
end
section
variable {P:Program} {GT:zG_} {w:World} {M:AMap} {I:Nat->Prop} {H:Heap}
def zHt (P:Program) (GT:zG_) (w:World) (M:AMap) (I:Nat->Prop) (H:Heap) (s:Sem Next) (v:AV) (H':Heap):Prop:=
  ∃ v' w' M' I',(s.run P w=.ok (.value v') w'\/s.run P w=.ok .skip w'/\v'=Go.undef)/\Grow w M I H w' M' I' H'/\Sim GT w' M' I' H'/\Rel w' M' I' H'.length v v'
theorem zHt.of_runs {s:Sem Value} {v:AV} {H':Heap} (h:zAI P GT w M I H s v H'):zHt P GT w M I H (do pure (.value (<-s))) v H':=by
  obtain ⟨v',w',M',I',h1,h2,h3,h4⟩:=h;exact ⟨v',w',M',I',.inl (by simp [h1]),h2,h3,h4⟩
theorem zHt.val (hS:Sim GT w M I H) {v:AV} {v':Value} (h:Rel w M I H.length v v'):zHt P GT w M I H (Pure.pure (.value v')) v H:=
  ⟨v',w,M,I,.inl rfl,Grow.refl ..,hS,h⟩
theorem zTj (s:List UInt8):(⟨s.toArray⟩:ByteArray).toList=s:=by rw [ByteArray.toList_eq]
theorem zPk (s:List UInt8):(⟨s.toArray⟩:ByteArray).size=s.length:=by simp [ByteArray.size]
theorem zWf {op:BinOp} {k:IntKind} {a b:Int} {v:AV} (t:TypeId) (h:zIS op k a b=some v):∃ v',(binOp op t (.int k a) (.int k b)).run P w=.ok v' w/\∀ n,Rel w M I n v v':=by
  cases op <;> simp only [zIS,zoS,reduceCtorEq] at h <;> simp only [binOp,ne_eq,zoL,zot,Op.intArith,Op.intCmp,Op.intBits,Op.intDiv,Sem.run_ite,Sem.run_pure]
  all_goals first
    |(subst h;exact ⟨_,rfl,fun n=>.int _ _⟩)
    |(subst h;exact ⟨_,rfl,fun n=>.bool _⟩)
    | (split at h
       · cases h
       · rename_i h0
         simp only [zoS] at h;subst h;rw [zWl h0];exact ⟨_,rfl,fun n=>.int _ _⟩)
theorem zYe {op:BinOp} {k k':IntKind} {a b:Int} {v:AV} (t:TypeId) (hop:op=.shl\/op=.shr) (h:zCT op k a b=some v):∃ v',(binOp op t (.int k a) (.int k' b)).run P w=.ok v' w/\∀ n,Rel w M I n v v':=by
  rcases hop with rfl|rfl <;> simp [zCT] at h <;> obtain ⟨h0,rfl⟩:=h
  all_goals
    have h0':¬ b<0:=by omega
    exact ⟨_,by simp only [binOp,Op.shift,zWl h0',Sem.run_pure],fun n=>.int _ _⟩
theorem zgR {op:BinOp} {a b:List UInt8} {v:AV} (t:TypeId) (h:zPg op a b=some v):∃ v',(binOp op t (.string ⟨a.toArray⟩) (.string ⟨b.toArray⟩)).run P w=.ok v' w/\∀ n,Rel w M I n v v':=by
  cases op <;> simp [zPg] at h <;> simp only [binOp,Op.stringOp,zTj,zPk,Sem.run_ite,Sem.run_pure]
  all_goals first
    |(subst h;exact ⟨_,rfl,fun n=>.bool _⟩)
    |(subst h;exact ⟨_,rfl,fun n=>by rw [Bool.not_or];exact .bool _⟩)
    |skip
  obtain ⟨h0,rfl⟩:=h;refine ⟨.string ⟨(a++b).toArray⟩, ?_,fun n=>.str _⟩;rw [zWl (by rw [IntKind.max_i64];omega)]
  congr 2
theorem zDn {op:BinOp} {t:TypeId} {x y:Operand} {a b:Value} (h:∀ vs us,¬ (a=.agg vs/\b=.agg us)) (h':¬ (a=.nilIface/\b=.nilIface)):(eqGuard op t x y a b).run P w=.ok () w:=by
  unfold eqGuard;split
  all_goals first
    |rfl
    | (simp only [Bool.not_true,zoZ,zot]
       split
       · exact absurd ⟨rfl,rfl⟩ h'
       · exact absurd ⟨rfl,rfl⟩ (h _ _)
       · rfl)
def zWg (P:Program) (t:TypeId) (vs:List Value) (v:Value):Prop:=(zKU P t=some true/\v=.agg vs.toArray)\/(zKU P t=some false/\vs=[v])
theorem zJ5:∀ (s r:List Sc) (xs ys:List AV) (b:Bool),zBe (s++r) xs ys=some b ->
    ∃ p q,zBe s (xs.take s.length) (ys.take s.length)=some p/\zBe r (xs.drop s.length) (ys.drop s.length)=some q/\b=(p&&q)
  |[],r,xs,ys,b,h=>⟨true,b,by simp [zBe],by simpa using h,by simp⟩
  |c::s,r,[],ys,b,h=>by simp [zBe] at h
  |c::s,r,x::xs,[],b,h=>by simp [zBe] at h
  | c::s,r,x::xs,y::ys,b,h=>by
    simp only [zl9,zBe] at h;split at h
    · rename_i p q h1 h2
      obtain ⟨p',q',e1,e2,rfl⟩:=zJ5 s r xs ys q h2;simp only [zoS] at h;subst h;exact ⟨p&&p',q',by simp [zBe,h1,e1],by simpa using e2,by cases p <;> cases p' <;> simp⟩
    · cases h
theorem zKW:∀ (s:List Sc) (xs ys:List AV) (b:Bool),zBe s xs ys=some b->xs.length=s.length/\ys.length=s.length
  |[],[],[],_,_=>⟨rfl,rfl⟩
  |[],_::_,_,_,h=>by simp [zBe] at h
  |[],[],_::_,_,h=>by simp [zBe] at h
  |_::_,[],_,_,h=>by simp [zBe] at h
  |_::_,_::_,[],_,h=>by simp [zBe] at h
  | c::s,x::xs,y::ys,b,h=>by
    simp only [zBe] at h;split at h
    · rename_i p q h1 h2
      have:=zKW s xs ys q h2;simp [this.1,this.2]
    · cases h
theorem zED.drop {n:Nat} {xs:List AV} {vs:List Value} (h:zED w M I n xs vs) (k:Nat):zED w M I n (xs.drop k) (vs.drop k):=
  ⟨by have:=h.1;simp;omega,fun i c v hc hv=>by rw [zo1] at hc hv;exact h.2 _ c v hc hv⟩
theorem zED.take {n:Nat} {xs:List AV} {vs:List Value} (h:zED w M I n xs vs) (k:Nat):zED w M I n (xs.take k) (vs.take k):=
  ⟨by have:=h.1;simp;omega,fun i c v hc hv=>by
    rw [zo5] at hc hv;split at hc
    · rw [zoQ ‹_›] at hv;exact h.2 _ c v hc hv
    · cases hc⟩
theorem zYf {t:TypeId} {s o:Nat} {vs:List Value} (hs:zFP P t=some s) (ha:(zKU P t).isSome=true) (h1:zKU P t=some false->s=1) (hl:o+s<=vs.length) :
    ∃ v,(Go.part t vs.toArray o).run P w=.ok v w/\zWg P t ((vs.drop o).take s) v:=by
  unfold Go.part;cases hb:zKU P t with
  |none=>simp [hb] at ha
  | some b=>
    cases b with
    | true=>
      refine ⟨.agg ((vs.drop o).take s).toArray, ?_,.inl ⟨hb,rfl⟩⟩;simp only [Sem.run_bind,zHP hb,Result.andThen_ok,zoz,zBH hs,Sem.run_pure]
      congr 2
      simp [zn6,znl]
    | false=>
      obtain rfl:=h1 hb;refine ⟨vs[o]'tO, ?_,.inr ⟨hb, ?_⟩⟩
      · simp only [Sem.run_bind,zHP hb,Result.andThen_ok,zoZ,zot]
        simp [zoO (show o<vs.length by omega)]
      · rw [zmF tO];rfl
theorem zMa {S:TypeId->Option (List Sc)} {D:Nat}
    (ih:∀ t sh,S t=some sh->(zKU P t).isSome=true/\(zKU P t=some false->sh.length=1)/\∀ (xs ys:List AV) (vs us:List Value) (b:Bool) (v u:Value) (n:Nat),zED w M I n xs vs->zED w M I n ys us->zBe sh xs ys=some b->zWg P t vs v->zWg P t us u->(Op.equalIn D t v u).run P w=.ok b w) :
    ∀ (fs:List Field) (o:Nat) (sh:List Sc),zNi P S o fs=some sh->∀ (xs ys:List AV) (vs us:List Value) (b:Bool) (n:Nat),zED w M I n xs vs->zED w M I n ys us->zBe sh (xs.drop o) (ys.drop o)=some b ->
      (Op.eqFields D vs.toArray us.toArray fs).run P w=.ok b w
  | [],o,sh,h,xs,ys,vs,us,b,n,hx,hy,hc=>by
    simp only [zNi,zoS] at h;subst h;have:b=true:=by
      cases hd:xs.drop o <;> cases he:ys.drop o <;> simp [hd,he,zBe] at hc
      exact hc
    subst this;simp [Op.eqFields]
  | f::fs,o,sh,h,xs,ys,vs,us,b,n,hx,hy,hc=>by
    simp only [zNi] at h;split at h
    · rename_i hn
      obtain ⟨hname,hoff⟩:=hn;split at h
      · rename_i s hS
        split at h
        · rename_i hsz
          obtain ⟨hsz,hpos⟩:=hsz;obtain ⟨r,hr,rfl⟩:=zoV.1 h;obtain ⟨p,q,e1,e2,rfl⟩:=zJ5 s r _ _ _ hc;obtain ⟨a1,a2,a3⟩:=ih _ _ hS;have hlx:=zKW _ _ _ _ e1;have hv:o+s.length<=vs.length:=by have:=hx.1;have:=hlx.1;simp at this;omega
          have hu:o+s.length<=us.length:=by have:=hy.1;have:=hlx.2;simp at this;omega
          obtain ⟨v,rv,iv⟩:=zYf (P:=P) (w:=w) (o:=o) hsz a1 a2 hv;obtain ⟨u,ru,iu⟩:=zYf (P:=P) (w:=w) (o:=o) hsz a1 a2 hu;have he:=a3 _ _ _ _ p v u n ((hx.drop o).take s.length) ((hy.drop o).take s.length) e1 iv iu;rw [List.drop_drop,List.drop_drop] at e2;have hrest:=zMa ih fs (o+s.length) r hr xs ys vs us q n hx hy e2;simp only [Op.eqFields,hname,ne_eq,not_false_eq_true,zoz,hoff,Sem.run_bind,rv,ru,Result.andThen_ok,he,Sem.run_ite,Sem.run_pure,hrest];cases p <;> simp
        · cases h
      · cases h
    · cases h
theorem zQg:∀ (d D:Nat) (t:TypeId) (sh:List Sc),zIp P d t=some sh->d<=D ->
    (zKU P t).isSome=true/\(zKU P t=some false->sh.length=1)/\∀ (xs ys:List AV) (vs us:List Value) (b:Bool) (v u:Value) (n:Nat),zED w M I n xs vs->zED w M I n ys us->zBe sh xs ys=some b->zWg P t vs v->zWg P t us u->(Op.equalIn D t v u).run P w=.ok b w
  |0,_,_,_,h,_=>by simp [zIp] at h
  |d+1,0,_,_,_,h=>absurd h tO
  | d+1,D+1,t,sh,h,hd=>by
    have one:∀ {c:Sc} {xs ys:List AV} {b:Bool},zBe [c] xs ys=some b->∃ x y,xs=[x]/\ys=[y]/\zPh c x y=some b:=by
      intro c xs ys b h;have hl:=zKW _ _ _ _ h
      match xs,ys,hl with
      | [x],[y],_=>
        simp only [zBe] at h;split at h
        · grind
        · cases h
    have sing:∀ {vs:List Value} {v:Value} {x:AV} {n:Nat},zKU P t=some false->zED w M I n [x] vs->zWg P t vs v->Rel w M I n x v:=by
      intro vs v x n ha hr hv;rcases hv with ⟨h1,_⟩|⟨_,rfl⟩
      · rw [ha] at h1;cases h1
      · exact hr.2 0 x v rfl rfl
    simp only [zIp] at h;split at h
    · rename_i k ht
      cases h;have ha:zKU P t=some false:=by simp [zKU,ht]
      refine ⟨by simp [ha],fun _=>rfl,fun xs ys vs us b v u n hx hy hc hv hu=>?_⟩;obtain ⟨x,y,rfl,rfl,he⟩:=one hc;have rx:=sing ha hx hv;have ry:=sing ha hy hu;unfold zPh at he;split at he
      · rename_i hs
        cases hs;cases rx;cases ry;split at he
        · rename_i hk
          obtain ⟨rfl,rfl⟩:=hk;cases he;exact run_equalIn_int w D t _ _ _ _ ht
        · cases he
      · rename_i hs;cases hs
      · rename_i hs;cases hs
      · cases he
    · rename_i ht
      cases h;have ha:zKU P t=some false:=by simp [zKU,ht]
      refine ⟨by simp [ha],fun _=>rfl,fun xs ys vs us b v u n hx hy hc hv hu=>?_⟩;obtain ⟨x,y,rfl,rfl,he⟩:=one hc;have rx:=sing ha hx hv;have ry:=sing ha hy hu;unfold zPh at he;split at he
      · rename_i hs;cases hs
      · cases rx;cases ry
        cases he;exact run_equalIn_bool' w D t _ _ ht
      · rename_i hs;cases hs
      · cases he
    · rename_i ht
      cases h;have ha:zKU P t=some false:=by simp [zKU,ht]
      refine ⟨by simp [ha],fun _=>rfl,fun xs ys vs us b v u n hx hy hc hv hu=>?_⟩;obtain ⟨x,y,rfl,rfl,he⟩:=one hc;have rx:=sing ha hx hv;have ry:=sing ha hy hu;unfold zPh at he;split at he
      · rename_i hs;cases hs
      · rename_i hs;cases hs
      · cases rx;cases ry
        cases he;rw [run_equalIn_string w D t _ _ ht,zTj,zTj]
      · cases he
    · rename_i fs ht
      have ha:zKU P t=some true:=by simp [zKU,ht]
      split at h
      · cases h
      · rename_i hp
        have hf:P.fieldsOf t=fs:=by simp [Program.fieldsOf,ht]
        refine ⟨by simp [ha],fun h=>(by rw [ha] at h;cases h),fun xs ys vs us b v u n hx hy hc hv hu=>?_⟩;rcases hv with ⟨_,rfl⟩|⟨h1,_⟩
        · rcases hu with ⟨_,rfl⟩|⟨h1,_⟩
          · rw [run_equalIn_struct w D t _ _ (by rw [hf];exact ht) (by simpa using hp),hf]
            exact zMa (fun t sh hsh=>zQg d D t sh hsh tO) fs.toList 0 sh h xs ys vs us b n hx hy (by simpa using hc)
          · rw [ha] at h1;cases h1
        · rw [ha] at h1;cases h1
    · cases h
def zO9 (w:World) (M:AMap) (I:Nat->Prop) (n g p k:Nat) (ys:List AV):Prop:=
  ∀ i j x c,ys[i]?=some x->x.cells[j]?=some c->∃ u,w.cell? ⟨g,p+i*k+j,none⟩=some u/\Rel w M I n c u
theorem zO9.cut {n g p k:Nat} {xs:List AV} (h:zO9 w M I n g p k xs) (o l:Nat):zO9 w M I n g (p+o*k) k ((xs.drop o).take l):=fun i j x c hi hj=>by
  have hi':i<l:=by grind
  rw [zo5,zoQ hi',zo1] at hi;obtain ⟨u,a,b⟩:=h _ j x c hi hj;exact ⟨u,by rw [<-a,zmC];congr 2;omega,b⟩
theorem zPl (hS:Sim GT w M I H) {k:Nat} {y:AV} {v:Value} (hy:Rel w M I H.length y v) {ys:List AV} (h:view H k y=some ys) :
    Elems k ys/\(((v=.slice none 0 0\/∃ a,v=.slice (some a) 0 0)/\ys=[])\/∃ g p cap,v=.slice (some ⟨g,p,none⟩) ys.length cap/\ys.length<=cap/\cap<=maxLen/\zO9 w M I H.length g p k ys):=by
  cases hy with
  | lnil q k' hq=>
    simp only [view,List.isEmpty_nil,zoz,ite_self,zoS] at h;subst h;exact ⟨fun _ hx=>absurd hx zS_,.inl ⟨.inl rfl,rfl⟩⟩
  | lemp q k' a hq=>
    simp only [view,List.isEmpty_nil,zoz,ite_self,zoS] at h;subst h;exact ⟨fun _ hx=>absurd hx zS_,.inl ⟨.inr ⟨a,rfl⟩,rfl⟩⟩
  | lst q k' xs g o cap V hq hc hm hI he hv hr=>
    simp only [view] at h;split at h
    · grind +locals
    · split at h
      · rename_i hemp
        simp only [List.isEmpty_iff] at hemp;subst hemp;cases h;exact ⟨fun _ hx=>absurd hx zS_,.inr ⟨g,o,cap,rfl,hc,hm,fun i j x c hi=>by simp at hi⟩⟩
      · cases h
  | sln q b k' off hb hM hq=>
    simp only [view] at h;split at h
    · have hnil:ys=[]:=by
        split at h
        · split at h
          · simp at h;exact h
          · cases h
        · split at h
          · simp at h;exact h
          · cases h
        · cases h
      subst hnil;exact ⟨fun _ hx=>absurd hx zS_,.inl ⟨.inl rfl,rfl⟩⟩
    · cases h
  | sl q b k' off len g o p cap hb hM hc hm hq ha=>
    simp only [view] at h;split at h
    · rename_i hk;subst hk
      have key:∀ xs,Elems k' xs->off+len<=xs.length->zO9 w M I H.length g o k' xs->ys=(xs.drop off).take len ->
          Elems k' ys/\(((Value.slice (some ⟨g,p,none⟩) len cap=.slice none 0 0\/∃ a,Value.slice (some ⟨g,p,none⟩) len cap=.slice (some a) 0 0)/\ys=[])\/∃ g' p' cap',Value.slice (some ⟨g,p,none⟩) len cap=.slice (some ⟨g',p',none⟩) ys.length cap'/\ys.length<=cap'/\cap'<=maxLen/\zO9 w M I H.length g' p' k' ys):=by
        intro xs he hle hrow e;have hlen:ys.length=len:=by rw [e];simp;omega
        subst e;refine ⟨zNg he off len,.inr ⟨g,p,cap,by rw [hlen],by omega,hm, ?_⟩⟩;by_cases h0:0<cap
        · obtain ⟨rfl,_⟩:=ha h0
          exact hrow.cut off len
        · intro i j x c hi
          have:=(zl_ hi);omega
      split at h
      · rename_i k xs hx
        split at h
        · rename_i hk
          obtain ⟨rfl,hle⟩:=hk;simp only [zoS] at h;obtain ⟨he,⟨h1,_⟩|⟨g',o',cur,h1,h2,h3,h4,h5⟩⟩:=hS.blk b _ hx
          · rw [hM] at h1;cases h1
          · rw [hM] at h1;cases h1
            exact key xs he hle (fun i j x c hi hj=>let ⟨u,a,b⟩:=h5 i j x c hi hj;⟨u,by rw [h2.cell?];exact a,b⟩) h.symm
        · cases h
      · rename_i k xs hx
        split at h
        · rename_i hk
          obtain ⟨rfl,hle⟩:=hk;simp only [zoS] at h;obtain ⟨he,⟨h1,_⟩|⟨g',o',h1,h3,h5⟩⟩:=hS.blk b _ hx
          · rw [hM] at h1;cases h1
          · rw [hM] at h1;cases h1
            exact key xs he hle h5 h.symm
        · cases h
      · cases h
    · cases h
  |_=>simp [view] at h
theorem zO9.flat {n g p k:Nat} {ys:List AV} (h:zO9 w M I n g p k ys) (he:Elems k ys):∃ news:List Value,news.length=ys.length*k/\(∀ j u,news[j]?=some u->w.cell? ⟨g,p+j,none⟩=some u) /\
    (∀ u∈news,u.oneCell'=true)/\∀ i j x c,ys[i]?=some x->x.cells[j]?=some c->∃ u,news[i*k+j]?=some u/\Rel w M I n c u:=by
  let f:Nat->Value:=fun t=>(w.cell? ⟨g,p+t,none⟩).getD Go.undef
  have hf:∀ t,t<ys.length*k->∃ u,w.cell? ⟨g,p+t,none⟩=some u/\u.oneCell'=true:=fun t ht=>by
    have hk:0<k:=by rcases znp k with rfl|h;simp at ht;exact h
    have hi:t/k<ys.length:=Nat.div_lt_of_lt_mul (by rw [zme];exact ht);have hx:ys[t/k]?=some ys[t/k]:=zoO hi;have hel:=AV.elem_iff.1 (he _ (zmO hi));have hj:t%k<ys[t/k].cells.length:=by rw [hel.1];exact zn7 _ hk
    obtain ⟨u,a,b⟩:=h (t/k) (t%k) _ _ hx (zoO hj);refine ⟨u, ?_,b.oneCell (hel.2.2 _ (zmO hj))⟩;rw [<-a]
    congr 2
    have:=Nat.div_add_mod t k;rw [zme] at this;omega
  refine ⟨(List.range (ys.length*k)).map f,by simp,fun j u hu=>?_,fun u hu=>?_,fun i j x c hi hj=>?_⟩
  · grind
  · grind
  · obtain ⟨u,a,b⟩:=h i j x c hi hj
    refine ⟨u, ?_,b⟩;have hil:=(zl_ hi);have hjl:=(zl_ hj);have hel:=AV.elem_iff.1 (he x (zoc hi));rw [hel.1] at hjl;have hlt:i*k+j<ys.length*k:=by
      have:(i+1)*k<=ys.length*k:=zo2 _ hil;rw [zmC] at this;omega
    have h1:w.cell? ⟨g,p+(i*k+j),none⟩=some u:=by rw [<-a];congr 2;omega
    rw [zoX,zmb hlt];simp [f,h1]
theorem zRu {g j:Nat} {cur:Array Value} {e:TypeId} {fz:Nat×Nat} (hg:w.heap[g]?=some (.cells cur e fz)) (v:Value) :
    (w.setCell ⟨g,j,none⟩ v).heap=w.heap.setIfInBounds g (.cells (cur.setIfInBounds j v) e fz):=by
  obtain ⟨hlt,hge⟩:=zoo.1 hg;apply zm3;intro k;simp only [World.setCell,zmo,zos];by_cases hk:g=k
  · subst hk;simp [hlt,hge]
  · simp [hk]
theorem zBt (g o:Nat) (e:TypeId) (fz:Nat×Nat):∀ (vs:List Value) (i:Nat) (cur:Array Value) (w:World),w.heap[g]?=some (.cells cur e fz)->(∀ j,j<cur.size->¬ (fz.1<=j/\j<fz.2)) ->
    o + i+vs.length<=cur.size->(∀ v∈vs,v.oneCell'=true)->∃ cur' w',(storeCells ⟨g,o,none⟩ vs i).run P w=.ok () w'/\w'.heap=w.heap.setIfInBounds g (.cells cur' e fz)/\w'.os=w.os/\w'.tape=w.tape/\w'.output=w.output /\
      cur'.size=cur.size/\(∀ j,j<vs.length->cur'[o+i+j]?=vs[j]?)/\(∀ j,(j<o+i\/o+i+vs.length<=j)->cur'[j]?=cur[j]?)
  | [],i,cur,w,hg,_,_,_=>by
    refine ⟨cur,w,by simp [storeCells], ?_,rfl,rfl,rfl,rfl,by simp,fun _ _=>rfl⟩;apply zm3;intro k;rw [zos];by_cases hk:g=k
    · subst hk
      obtain ⟨hlt,hge⟩:=zoo.1 hg;simp [hlt,hge]
    · simp [hk]
  | v::vs,i,cur,w,hg,hfz,hl,h1=>by
    simp only [zoN] at hl;have hlt:=(zoo.1 hg).1;have hcell:w.cell? ⟨g,o+i,none⟩=some (cur[o+i]'tO):=by simp [World.cell?,hg,show o+i<cur.size by omega]
    have hfrz:w.frozen? ⟨g,o+i,none⟩=false:=by
      have:=hfz (o+i) tO;simp only [World.frozen?,hg];rcases zm5 (o+i) fz.1 with h|h
      · simp;omega
      · simp;omega
    have hheap:=zRu (w:=w) (j:=o+i) hg v;have hg':(w.setCell ⟨g,o+i,none⟩ v).heap[g]?=some (.cells (cur.setIfInBounds (o+i) v) e fz):=by rw [hheap,zos,zoQ rfl,zoQ hlt]
    obtain ⟨cur',w',r1,r2,r3,r4,r5,r6,r7,r8⟩:=zBt g o e fz vs (i+1) (cur.setIfInBounds (o+i) v) (w.setCell ⟨g,o+i,none⟩ v) hg' (by simpa using hfz) (by simp;omega) (fun u hu=>h1 u (by simp [hu]));refine ⟨cur',w', ?_, ?_,r3,r4,r5,by simpa using r6,fun j hj=>?_,fun j hj=>?_⟩
    · simp only [storeCells,Addr.add_lit,Sem.run_bind,run_store P w _ v _ (h1 v zS_),hcell,hfrz,zoZ,zot,Result.andThen_ok]
      exact r1
    · rw [r2,hheap]
      apply zm3;intro k;simp only [zos,Array.size_setIfInBounds];by_cases hk:g=k <;> simp [hk]
    · grind
    · rw [r8 j (by simp at hj;omega),zos,zWl (by simp at hj;omega)]
theorem zPm {x:AV} (h:x.cells.all AV.one=true):x≠.undef/\∀ u,x≠.raw u:=by
  refine ⟨?_,fun u=>?_⟩ <;> (rintro rfl;simp [AV.cells,AV.one] at h)
theorem zHQ {n:Nat} {x:AV} {v:Value} (h:Rel w M I n x v) (hx:x≠.undef/\∀ u,x≠.raw u):zED w M I n x.cells v.cells.toList:=by
  cases h with
  |raw v=>exact absurd rfl (hx.2 v)
  |agg cs vs hl h=>exact ⟨by simpa [Value.cells,AV.cells] using hl,by simpa [Value.cells,AV.cells] using h⟩
  |undef v=>exact absurd rfl hx.1
  | sca v h=>
    have hc:v.cells=#[v]:=by cases v <;> first|rfl|cases h
    rw [hc];refine ⟨by simp [AV.cells],fun i c u hc hu=>?_⟩;simp only [AV.cells] at hc hu;cases i with
    |zero=>simp at hc hu;subst hc hu;exact .sca _ h
    |succ i=>simp at hc
  | _=>
    refine ⟨by simp [AV.cells,Value.cells],fun i c u hc hu=>?_⟩;simp only [AV.cells,Value.cells] at hc hu;cases i with
    |zero=>simp at hc hu;subst hc hu;first|exact .bool _|exact .int _ _|exact .str _|exact .tup _ _ ‹_› ‹_›|exact .lnil _ _ ‹_›|exact .lemp _ _ _ ‹_›|exact .lst _ _ _ _ _ _ _ ‹_› ‹_› ‹_› ‹_› ‹_› ‹_› ‹_›|exact .lref _ _ _ _ _ ‹_› ‹_› ‹_› ‹_›|exact .ref _ _ _ _ _ _ ‹_› ‹_›|exact .sln _ _ _ _ ‹_› ‹_› ‹_›|exact .sl _ _ _ _ _ _ _ _ _ ‹_› ‹_› ‹_› ‹_› ‹_› ‹_›|exact .nilp|exact .nilf|exact .nili|exact .nilm|exact .fn _ _ _ _ _ ‹_› ‹_› ‹_› ‹_›|exact .iface _ _ _ ‹_›|exact .mp _ _ ‹_› ‹_›|exact .mps _ _ _ _ _ ‹_› ‹_› ‹_› ‹_› ‹_› ‹_›
    |succ i=>simp at hc
theorem zL5 {cs vs:List AV} {o:Nat} (hl:o+vs.length<=cs.length) (j:Nat):(splice cs o vs)[j]?=if o<=j/\j<o+vs.length then vs[j-o]? else cs[j]?:=by
  unfold splice;have ho:(cs.take o).length=o:=by simp;omega
  rw [zou,List.getElem?_append,ho];split
  · grind
  · grind
theorem zPn {cs vs:List AV} {o:Nat} (hl:o+vs.length<=cs.length):(splice cs o vs).length=cs.length:=by unfold splice;simp;omega
theorem zYg (hS:Sim GT w M I H) {t:TypeId} {b k o s:Nat} {x:AV} {v p:Value} {cs:List AV} (hsz:zFP P t=some s) (hp:Rel w M I H.length (.ref b k 0 o) p) (hv:Rel w M I H.length x v) (hxl:x.cells.length=s)
    (hx1:x.cells.all AV.one=true) (hb:H[b]?=some (.box cs)) (hle:o+s<=cs.length) :
    ∃ w',(Instr.storeAt t p v).run P w=.ok () w'/\Grow w M I H w' M I (H.set b (.box (splice cs o x.cells)))/\Sim GT w' M I (H.set b (.box (splice cs o x.cells))):=by
  cases hp with
  |ref _ _ _ _ g o' hbn hM=>
  obtain ⟨g',o'',cur,h1,h2,h3,h4,h5⟩:=hS.blk b _ hb;rw [hM] at h1;cases h1;have hrl:=zHQ hv (zPm hx1);have hvl:v.cells.toList.length=s:=by rw [<-hrl.1,hxl]
  have hv1:∀ u∈v.cells.toList,u.oneCell'=true:=fun u hu=>by
    obtain ⟨j,hj⟩:=zo6 hu;have hjl:=(zl_ hj);have hc:x.cells[j]?=some x.cells[j]:=zoO tO;exact (hrl.2 j _ _ hc hj).oneCell ((zmE.1 hx1) _ (zmO _))
  obtain ⟨e,fz,hg,hfz⟩:=h2;obtain ⟨cur',w',r1,r2,r3,r4,r5,r6,r7,r8⟩:=zBt (P:=P) g (o'+o) e fz v.cells.toList 0 cur w hg hfz (by rw [hvl];omega) hv1;have hlt:=(zoo.1 hg).1;refine ⟨w', ?_, ?_⟩
  · have:v.cells.size=s:=by simpa using hvl
    simp only [Instr.storeAt,Instr.sureAddr,storeVar,Sem.run_bind,Sem.run_pure,Result.andThen_ok,zBH hsz,this,ne_eq,zoL,zot,znq,zmz];exact r1
  · have hW:=Sim.write (w':=w') (y:=.dead) hS hb rfl hM hg r6 r2 r3 r4 r5 trivial
    refine Sim.write (w':=w') hS hb rfl hM hg r6 r2 r3 r4 r5 ⟨g,o',cur',hM,⟨e,fz, ?_, ?_⟩,h3, ?_,fun j c hj=>?_⟩
    · grind
    · rw [r6];exact hfz
    · rw [zPn tO,r6];exact h4
    · have R:∀ {c v},Rel w M I H.length c v->Rel w' M I H.length c v:=fun h=>by have:=hW.1.rel hS h;simpa using this
      rw [zL5 tO] at hj;split at hj
      · rename_i hjj
        obtain ⟨u,hu,hr⟩:=zCn hrl hj;refine ⟨u, ?_,R hr⟩;have:=r7 (j-o) tO;rw [show o'+o+0+(j-o)=o'+j by omega] at this;rw [this];exact hu
      · rename_i hjj
        obtain ⟨u,hu,hr⟩:=h5 j c hj;exact ⟨u,by rw [r8 _ tO];exact hu,R hr⟩
theorem zQh {k o s:Nat} {x v:AV} (hx:x.elem k=true) (hv:v.elem s=true) (h0:0<s) (hle:o+s<=k):(zHr x o v).cells=splice x.cells o v.cells/\(zHr x o v).elem k=true:=by
  obtain ⟨x1,x2,x3⟩:=AV.elem_iff.1 hx;obtain ⟨v1,v2,v3⟩:=AV.elem_iff.1 hv;have main:∀ y:AV,y.cells=splice x.cells o v.cells->y.noRef=true->y.elem k=true:=fun y hy hn=>by
    refine AV.elem_iff.2 ⟨by rw [hy,zPn tO];exact x1,hn,fun c hc=>?_⟩;rw [hy] at hc;simp only [splice,zmm] at hc;rcases hc with (hc|hc)|hc
    · exact x3 c (zmk hc)
    · exact v3 c hc
    · exact x3 c (zmj hc)
  cases x with
  | agg cs=>
    refine ⟨rfl,main _ rfl ?_⟩;simp only [zHr,AV.noRef,AV.bel,AV.belL_iff];intro c hc;simp only [splice,zmm] at hc;rcases hc with (hc|hc)|hc
    · simp only [AV.noRef,AV.bel,AV.belL_iff] at x2;exact x2 c (zmk hc)
    · obtain ⟨j,hj⟩:=zo6 hc;exact AV.noRef_cells v2 hj
    · simp only [AV.noRef,AV.bel,AV.belL_iff] at x2;exact x2 c (zmj hc)
  | _=>
    simp only [AV.cells,zmp] at x1;have e:o=0:=by omega
    subst e;have hh:∀ z:AV,v.cells=splice [z] 0 v.cells:=fun z=>by unfold splice;simp;omega
    exact ⟨hh _,main _ (hh _) v2⟩
theorem zYh (hS:Sim GT w M I H) {t:TypeId} {b k i o s:Nat} {x y:AV} {v p:Value} {xs:List AV} (hsz:zFP P t=some s) (hp:Rel w M I H.length (.ref b k i o) p) (hv:Rel w M I H.length x v) (hx:x.elem s=true)
    (h0:0<s) (hb:H[b]?=some (.row k xs)) (hy:xs[i]?=some y) (hle:o+s<=k) :
    ∃ w',(Instr.storeAt t p v).run P w=.ok () w'/\Grow w M I H w' M I (H.set b (.row k (xs.set i (zHr y o x))))/\Sim GT w' M I (H.set b (.row k (xs.set i (zHr y o x)))):=by
  cases hp with
  |ref _ _ _ _ g o' hbn hM=>
  obtain ⟨he,⟨h1,_⟩|⟨g',o'',cur,h1,h2,h3,h4,h5⟩⟩:=hS.blk b _ hb
  · rw [hM] at h1;cases h1
  rw [hM] at h1;cases h1;obtain ⟨x1,x2,x3⟩:=AV.elem_iff.1 hx;have hye:=he y (zoc hy);have hyl:=(AV.elem_iff.1 hye).1;obtain ⟨u1,u2⟩:=zQh hye hx h0 hle;have hil:=(zl_ hy);have hrl:=zHQ hv (zPm (zmE.2 x3));have hvl:v.cells.toList.length=s:=by rw [<-hrl.1,x1]
  have hv1:∀ u∈v.cells.toList,u.oneCell'=true:=fun u hu=>by
    obtain ⟨j,hj⟩:=zo6 hu;have hjl:=(zl_ hj);have hc:x.cells[j]?=some x.cells[j]:=zoO tO;exact (hrl.2 j _ _ hc hj).oneCell (x3 _ (zmO _))
  obtain ⟨e,fz,hg,hfz⟩:=h2;have hin:(i+1)*k<=xs.length*k:=zo2 _ hil;rw [zmC] at hin;obtain ⟨cur',w',r1,r2,r3,r4,r5,r6,r7,r8⟩:=zBt (P:=P) g (o'+i*k+o) e fz v.cells.toList 0 cur w hg (fun j hj=>hfz j tO) (by rw [hvl];omega) hv1;have hlt:=(zoo.1 hg).1;refine ⟨w', ?_, ?_⟩
  · have:v.cells.size=s:=by simpa using hvl
    simp only [Instr.storeAt,Instr.sureAddr,storeVar,Sem.run_bind,Sem.run_pure,Result.andThen_ok,zBH hsz,this,ne_eq,zoL,zot];exact r1
  · have hW:=Sim.write (w':=w') (y:=.dead) hS hb rfl hM hg r6 r2 r3 r4 r5 trivial
    have R:∀ {c v},Rel w M I H.length c v->Rel w' M I H.length c v:=fun h=>by have:=hW.1.rel hS h;simpa using this
    have hel':Elems k (xs.set i (zHr y o x)):=fun z hz=>by
      rcases List.mem_or_eq_of_mem_set hz with hz|rfl
      · exact he z hz
      · exact u2
    refine Sim.write (w':=w') hS hb rfl hM hg r6 r2 r3 r4 r5 ⟨hel',.inr ⟨g,o',cur',hM,⟨e,fz, ?_, ?_⟩,h3, ?_,fun i' j z c hz hj=>?_⟩⟩
    · grind
    · rw [r6];exact hfz
    · rw [zoW,r6];exact h4
    · by_cases hi:i'=i
      · subst hi
        rw [zl3 hil] at hz;obtain rfl:=zoh hz;rw [u1,zL5 tO] at hj;split at hj
        · rename_i hjj
          obtain ⟨u,hu,hr⟩:=zCn hrl hj;refine ⟨u, ?_,R hr⟩;have:=r7 (j-o) tO;rw [show o'+i'*k+o+0+(j-o)=o'+i'*k+j by omega] at this;rw [this];exact hu
        · obtain ⟨u,hu,hr⟩:=h5 i' j y c hy hj
          exact ⟨u,by rw [r8 _ tO];exact hu,R hr⟩
      · rw [zo7 (zmJ hi)] at hz
        obtain ⟨u,hu,hr⟩:=h5 i' j z c hz hj;refine ⟨u, ?_,R hr⟩;have hjl:=(zl_ hj);rw [(AV.elem_iff.1 (he z (zoc hz))).1] at hjl;rw [r8 _ ?_];exact hu;rcases Nat.lt_or_gt_of_ne hi with hlt'|hgt
        · have:(i'+1)*k<=i*k:=zo2 _ hlt'
          rw [zmC] at this;omega
        · have:(i+1)*k<=i'*k:=zo2 _ hgt
          rw [zmC] at this;omega
end
abbrev zV0 : List AV := [.int .i64 4,.int .i64 3,.str [],.int .i64 0,.int .i64 0,.bool false,.bool false,.int .i64 0,.int .i64 0,.bool false,.bool false,.lst (some true) 0 []]
abbrev zV1 : List AV := [.int .i64 0,.int .i64 0,.str [],.int .i64 0,.int .i64 0,.bool false,.bool false,.int .i64 0,.int .i64 0,.bool false,.bool false,.lst (some true) 0 []]
abbrev zV2 : List AV := [.int .i64 0,.int .i64 0,.int .i64 0,.str []]
abbrev zV3 : List AV := [.int .i64 0,.int .i64 0,.str []]
abbrev zV4 : List AV := [.int .i64 3,.int .i64 0,.str []]
abbrev zV5 : List AV := [.int .i64 0,.int .i64 0,.bool false,.bool false]
abbrev zV6 : List AV := [.int .i64 3,.int .i64 1,.str []]
abbrev zV7 : List AV := [.bool false,.lst (some true) 0 []]
abbrev zV8 : List AV := [.str [],.str [],.str [],.str [],.str [],.str [],.str [],.str [],.str [],.str [],.str [],.str []]
abbrev zV9 : List AV := [.int .i64 0,.int .i64 0,.int .i64 0,.int .i64 0]
end Go.AM
