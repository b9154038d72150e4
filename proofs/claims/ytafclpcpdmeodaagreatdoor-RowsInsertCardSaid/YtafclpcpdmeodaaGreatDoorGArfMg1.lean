/- Several texts of mine in one (Arf, Wt0, Gds, Mg0, Mg1). Own work. -/
import Derived.Test.YtafclpcpdmeodaaGreatDoorGRffRfi
import Derived.Test.YtafclpcpdmeodaaGreatDoorGGqAm32
set_option linter.all false
namespace Go.AM
theorem fl_map_of {α:Type} {f:α->AV}:∀ {ys:List AV},(∀ y∈ys,∃ v,y=f v)->∃ vs:List α,ys=vs.map f
 |[],_=>⟨[],rfl⟩
 |y::ys,h=>by
  obtain ⟨v,rfl⟩:=h y (by simp);obtain ⟨vs,rfl⟩:=fl_map_of (ys:=ys) fun z hz=>h z (zRc _ hz);exact ⟨v::vs,rfl⟩
theorem fl_sl {ag:Bool} {es:List Sh} {x:AV} (h:Fits (.sl ag es) x):∃ q xs,x=.lst (some q) es.length xs/\(q=true->xs=[])/\xs.length<=maxLen/\(∀ y∈xs,y.cells.length=es.length/\formed ag y) /\
  ∀ y∈xs,∀ (i:Nat) (s:Sh) (c:AV),es[i]?=some s->y.cells[i]?=some c->Fits s c:=by
 cases h with
 |sl ag es q xs hl hq h1 h2=>exact ⟨q,xs,rfl,hq,hl,h1,h2⟩
theorem fl_int {k:IntKind} {x:AV} (h:Fits (.int k) x):∃ n,x=.int k n/\(Lit.int k n).wf=true:=by cases h with|int k n h=>exact ⟨n,rfl,h⟩
theorem fl_str {x:AV} (h:Fits .str x):∃ s,x=.str s:=by cases h with|str s h=>exact ⟨s,rfl⟩
theorem fl_bool {x:AV} (h:Fits .bool x):∃ b,x=.bool b:=by cases h with|bool b=>exact ⟨b,rfl⟩
theorem fl_wf {n:Int} (h:(Lit.int .i64 n).wf=true):zEC n:=by
 have h:IntKind.i64.min<=n/\n<=9223372036854775807:=by simpa [Lit.wf] using h
 have e:IntKind.i64.min=-9223372036854775808:=rfl;exact ⟨by omega,h.2⟩
theorem fl_num {x:AV} (h:Fits (.int .i64) x):∃ n,x=zJ n/\zEC n:=by
 obtain ⟨n,rfl,hn⟩:=fl_int h;exact ⟨n,rfl,fl_wf hn⟩
def shFil:List Sh:=[.int .i64,.int .i64,.str]
theorem fl_fil {cs:List AV} (hl:cs.length=3) (h:∀ (i:Nat) (s:Sh) (c:AV),shFil[i]?=some s->cs[i]?=some c->Fits s c):∃ f:Fil,AV.agg cs=zl f/\zEC f.col/\zEC f.row:=by
 match cs,hl with
 |[a,b,c],_=>
  obtain ⟨n,rfl,h1⟩:=fl_num (h 0 _ a rfl rfl);obtain ⟨m,rfl,h2⟩:=fl_num (h 1 _ b rfl rfl);obtain ⟨s,rfl⟩:=fl_str (h 2 _ c rfl rfl);exact ⟨⟨n,m,s⟩,rfl,h1,h2⟩
theorem fl_fils {x:AV} (h:Fits (.sl true shFil) x):∃ l:List Fil,∃ q,x=.lst (some q) 3 (l.map zl)/\(∀ H,view H 3 x=some (l.map zl))/\∀ f∈l,zEC f.col/\zEC f.row:=by
 obtain ⟨q,xs,rfl,_,_,h1,h2⟩:=fl_sl h;obtain ⟨l,hl⟩:∃ vs:List {f:Fil // zEC f.col/\zEC f.row},xs=vs.map (fun f=>zl f.1):=fl_map_of fun y hy=>by
  obtain ⟨k1,cs,rfl⟩:=h1 y hy;obtain ⟨f,e,f1,f2⟩:=fl_fil k1 (h2 _ hy);exact ⟨⟨f,f1,f2⟩,e⟩
 refine ⟨l.map (·.1),q,by rw [zSF,hl];rfl,fun H=>by rw [hl,zSF];rfl,fun f hf=>?_⟩;obtain ⟨g,_,rfl⟩:=zRx.1 hf;exact g.2
end Go.AM
namespace Go.AM
theorem cmpC_lt (c1 r1 c2 r2:Int):cmpC c1 r1 c2 r2<0↔r1<r2\/(r1=r2/\c1<c2):=by
 unfold cmpC cmp3
 repeat' split
 all_goals omega
theorem zQA (a b:Fil):zE2 a b=true↔a.row<b.row\/(a.row=b.row/\a.col<b.col):=by
 unfold zE2;rw [zRp];exact cmpC_lt _ _ _ _
def Srtd (l:List Fil):Prop:=l.Pairwise fun a b=>a.row<b.row\/(a.row=b.row/\a.col<b.col)
theorem Srtd.nil:Srtd []:=List.Pairwise.nil
theorem srtd_fils:∀ (l:List Fil) (prev:Option Fil),zGi prev l=0->Srtd l/\∀ p,prev=some p->∀ f∈l,p.row<f.row\/(p.row=f.row/\p.col<f.col):=by
 intro l;induction l with
 |nil=>intro prev _;exact ⟨List.Pairwise.nil,fun _ _ f hf=>absurd hf (by simp)⟩
 |cons f r ih=>
  intro prev h;have h0:filN prev f=0/\zGi (some f) r=0:=by
   have e:=zNL (f::r) 0 f rfl prev;simp only [zSN,zQ7,zSm] at e;rw [e] at h;by_cases h1:filN prev f=0
   ·rw [zQQ h1] at h;exact ⟨h1,h⟩
   ·rw [zQN h1] at h;exact absurd h h1
  obtain ⟨s,hs⟩:=ih (some f) h0.2;have hp:∀ p,prev=some p->p.row<f.row\/(p.row=f.row/\p.col<f.col):=fun p hp=>by
   subst hp;have h2:=h0.1;unfold filN at h2;by_cases h3:okC f.col f.row=false
   ·rw [zQQ h3] at h2;cases h2
   ·rw [zQN h3] at h2;cases h4:zE2 p f with
    |true=>exact (zQA p f).1 h4
    |false=>simp [h4] at h2
  refine ⟨List.Pairwise.cons (fun g hg=>hs f rfl g hg) s,fun p hpp g hg=>?_⟩;rcases zRQ.1 hg with rfl|hg
  ·exact hp p hpp
  ·have h1:=hp p hpp;have h2:=hs f rfl g hg;omega
theorem srtd_check {l:List Fil} (h:zB6 l=0):Srtd l:=by
 unfold zB6 at h;by_cases h1:200<l.length
 ·rw [zQQ h1] at h;cases h
 ·rw [zQN h1] at h;exact (srtd_fils l none h).1
end Go.AM
namespace Go.AM
structure Goods (l:List Fil):Prop where
 srt:Srtd l
 len:l.length<=200
 each:∀ f∈l,mayN f=0/\f.text≠[]
theorem fils_of:∀ (l:List Fil) (prev:Option Fil),Srtd l->(∀ f∈l,mayN f=0/\f.text≠[])->(∀ p,prev=some p->∀ f∈l,p.row<f.row\/(p.row=f.row/\p.col<f.col))->zGi prev l=0
 |[],_,_,_,_=>rfl
 |f::r,prev,hs,he,hp=>by
  have h0:filN prev f=0:=by
   obtain ⟨h1,h2⟩:=he f (zSJ ..);unfold mayN at h1;unfold filN;cases hc:okC f.col f.row with
   |false=>rw [hc] at h1;cases h1
   |true=>
    rw [hc,zQQ rfl] at h1;rw [zQN (by simp)];cases prev with
    |none=>
     show (if f.text=[] then 3 else zBq f.text)=0;rw [zQN h2];exact h1
    |some p=>
     have hl:=(zQA p f).2 (hp p rfl f (zSJ ..));show (if zE2 p f=false then 5 else if f.text=[] then 3 else zBq f.text)=0;rw [hl,zQN (by simp),zQN h2];exact h1
  unfold zGi;rw [zQQ h0];exact fils_of r (some f) (zSV.1 hs).2 (fun g hg=>he g (zRc _ hg)) (fun p hpe g hg=>by cases hpe;exact (zSV.1 hs).1 g hg)
theorem Goods.check {l:List Fil} (h:Goods l):zB6 l=0:=by
 unfold zB6;rw [zQN (by have:=h.len;omega)];exact fils_of l none h.srt h.each (fun p hp=>by cases hp)
theorem filsN_each:∀ (l:List Fil) (prev:Option Fil),zGi prev l=0->∀ f∈l,mayN f=0/\f.text≠[]
 |[],_,_,f,hf=>absurd hf (by simp)
 |g::r,prev,h,f,hf=>by
  unfold zGi at h;by_cases h0:filN prev g=0
  ·rw [zQQ h0] at h;rcases zRQ.1 hf with rfl|hf
   ·unfold filN at h0;unfold mayN;cases hc:okC f.col f.row with
    |false=>rw [hc,zQQ rfl] at h0;cases h0
    |true=>
     rw [hc,zQN (by simp)] at h0;rw [zQQ rfl];have h0:(if f.text=[] then 3 else zBq f.text)=0:=by
      cases prev with
      |none=>exact h0
      |some p=>
       have h0:(if zE2 p f=false then 5 else if f.text=[] then 3 else zBq f.text)=0:=h0;by_cases hp:zE2 p f=false
       ·rw [zQQ hp] at h0;cases h0
       ·rwa [zQN hp] at h0
     by_cases he:f.text=[]
     ·rw [zQQ he] at h0;cases h0
     ·rw [zQN he] at h0;exact ⟨h0,he⟩
   ·exact filsN_each r _ h f hf
  ·rw [zQN h0] at h;exact absurd h h0
theorem goods_of {l:List Fil} (h:zB6 l=0):Goods l:=by
 refine ⟨srtd_check h,(checkN_ok h).1, ?_⟩;unfold zB6 at h;by_cases h1:200<l.length
 ·rw [zQQ h1] at h;cases h
 ·rw [zQN h1] at h;exact filsN_each l none h
theorem Goods.nil:Goods []:=⟨Srtd.nil,by simp,fun f hf=>absurd hf (by simp)⟩
theorem Goods.take {l:List Fil} (h:Goods l) (n:Nat):Goods (l.take n):=⟨h.srt.sublist (List.take_sublist n l),by rw [zQk];have:=h.len;omega,fun f hf=>h.each f (zR1 hf)⟩
end Go.AM
namespace Go.AM
def zLR (f:Fil):Int×Int:=(f.col,f.row)
end Go.AM
namespace Go.AM
end Go.AM
