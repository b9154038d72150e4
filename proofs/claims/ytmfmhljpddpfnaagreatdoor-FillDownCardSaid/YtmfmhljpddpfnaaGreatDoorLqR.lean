/- Abstract code, printed by a program of my own (wip/gen/Gen.lean.tpl) off the dump. -/
import Derived.Test.YtmfmhljpddpfnaaGreatDoorGAm20Ln
set_option maxRecDepth 1000000
set_option linter.all false
namespace Go.AM
inductive QA where
  |t
  |k
  |o (x:Opd)
structure QK where
  d:Bool
  c:Bool
  k:Nat->AK
  s:List QA
structure QS where
  cur:Nat
  md:Nat
  gd:Nat
  nm:List Nat
  os:List AI
  L:List Nat
  cs:List AC
def qA (px:List Opd):List QA->List Nat->List Opd
  |[],_=>[]
  |.o x::s,n=>x::qA px s n
  |.t::s,a::n=>.tmp a::qA px s n
  |.k::s,a::n=>px.getD a (.fn 0)::qA px s n
  |_,[]=>[]
def qN (px:List Opd) (K:QK) (s:QS) (d:Option Nat) (cur:Nat) (g:Option (Nat×Bool)) (n:List Nat):QS:=
  match K.c,n with
  |true,f::n=>⟨cur,0,0,[],⟨d,g,K.k f,qA px K.s n⟩::s.os,s.L,s.cs⟩
  |_,n=>⟨cur,0,0,[],⟨d,g,K.k 0,qA px K.s n⟩::s.os,s.L,s.cs⟩
def qP (px:List Opd) (K:QK) (s:QS) (d:Option Nat) (cur:Nat) (n:List Nat):QS:=
  match s.gd,n with
  |0,n=>qN px K s d cur none n
  |1,a::n=>qN px K s d cur (some (a,true)) n
  |_,a::n=>qN px K s d cur (some (a,false)) n
  |_,[]=>s
def qO (px:List Opd) (K:QK) (s:QS):QS:=
  match K.d,s.md,s.nm.reverse with
  |true,0,n=>qP px K s (some s.cur) (s.cur+1) n
  |true,1,a::n=>qP px K s (some a) s.cur n
  |true,_,a::n=>qP px K s (some a) (a+1) n
  |true,_,[]=>s
  |false,_,n=>qP px K s none s.cur n
def qX (rf:List AC) (ot:List OT) (x:Nat) (s:QS):QS:=
  match x,s with
  |0,⟨c,m,g,a::b::n,o,L,cs⟩=>⟨c,m,g,(b*64+a)::n,o,L,cs⟩
  |1,⟨c,_,g,n,o,L,cs⟩=>⟨c,1,g,n,o,L,cs⟩
  |2,⟨c,_,g,n,o,L,cs⟩=>⟨c,2,g,n,o,L,cs⟩
  |3,⟨c,m,_,n,o,L,cs⟩=>⟨c,m,1,n,o,L,cs⟩
  |4,⟨c,m,_,n,o,L,cs⟩=>⟨c,m,2,n,o,L,cs⟩
  |5,⟨c,m,g,n,o,L,cs⟩=>⟨c,m,g,L.reverse++n,o,L,cs⟩
  |6,⟨c,m,g,n,o,_,cs⟩=>⟨c,m,g,[],[],n.reverse,.reg n.reverse false o.reverse::cs⟩
  |7,⟨c,m,g,n,o,_,cs⟩=>⟨c,m,g,[],[],n.reverse,.reg n.reverse true o.reverse::cs⟩
  | 8,⟨c,m,g,n,o,_,cs⟩=>match n.reverse with
    |i::l=>⟨c,m,g,[],[],l,.regt l false o.reverse (ot.getD i .done)::cs⟩
    |[]=>s
  | 9,⟨c,m,g,n,o,_,cs⟩=>match n.reverse with
    |i::l=>⟨c,m,g,[],[],l,.regt l true o.reverse (ot.getD i .done)::cs⟩
    |[]=>s
  |10,⟨c,m,g,n,o,L,b::a::cs⟩=>⟨c,m,g,n,o,L,.seq a b::cs⟩
  |11,⟨c,m,g,t::n,o,L,b::a::cs⟩=>⟨c,m,g,n,o,L,.cond (.tmp t) a b::cs⟩
  | 12,⟨c,m,g,n,o,_,a::cs⟩=>match n.reverse with
    |i::l=>⟨c,m,g,[],o,l,.block i l a::cs⟩
    |[]=>s
  |13,⟨c,m,g,n,o,_,a::cs⟩=>⟨c,m,g,[],o,n.reverse,.loop n.reverse a::cs⟩
  |14,⟨c,m,g,i::n,o,L,cs⟩=>⟨c,m,g,n,o,L,.exit i::cs⟩
  |15,⟨c,m,g,n,o,L,cs⟩=>⟨c,m,g,n,o,L,.ret::cs⟩
  |16,⟨c,m,g,n,o,L,cs⟩=>⟨c,m,g,n,o,L,.skip::cs⟩
  |17,⟨c,m,g,n,o,L,cs⟩=>⟨c,m,g,n,o,L,.stuck::cs⟩
  |18,⟨c,m,g,i::n,o,L,cs⟩=>⟨c,m,g,n,o,L,rf.getD i .skip::cs⟩
  |19,s=>⟨0,0,0,[],[],[],s.cs⟩
  |20,⟨c,m,g,i::n,o,L,cs⟩=>⟨c,m,g,n,o,L,cs.reverse.getD i .skip::cs⟩
  |_,s=>s
def qG:Nat->Nat->List Nat
  |0,_=>[]
  |f+1,n=>(n%737)::qG f (n/737)
def zZi (i0:Int):List AV:=[.int .i64 i0,.int .i64 i0,.str [],.int .i64 i0,.int .i64 i0,.bool false,.bool false,.int .i64 i0,.int .i64 i0,.bool false,.bool false,.lst (some true) 12 []]
def qT {α:Type} (l:List (List α)) (i:Nat) (x:α):α:=(l.getD (i/16) []).getD (i%16) x
def qK (i0:Int):List (List QK):=[[⟨true,false,fun _=>.mv,[.t]⟩,⟨true,false,fun _=>.load 1 false,[.t]⟩,⟨true,false,fun _=>.fieldAddr 1,[.t]⟩,
 ⟨true,false,fun _=>.fieldAddr 0,[.t]⟩,⟨true,false,fun _=>.nilchk,[.t]⟩,⟨true,false,fun _=>.mv,[.k]⟩,
 ⟨true,false,fun _=>.bin .eql,[.t,.k]⟩,⟨true,false,fun _=>.pick,[.t,.t,.o (.const (.bool false))]⟩,⟨true,true,(.call · true),[.t]⟩,
 ⟨true,false,fun _=>.bin .add,[.t,.k]⟩,⟨false,false,fun _=>.store 12,[.t,.t]⟩,⟨true,false,fun _=>.mv,[.o (.const (.bool false))]⟩,
 ⟨true,false,fun _=>.load 4 true,[.t]⟩,⟨true,false,fun _=>.box,[.t]⟩,⟨true,false,fun _=>.len false,[.t]⟩,
 ⟨true,false,fun _=>.load 12 true,[.t]⟩],
 [⟨true,false,fun _=>.fieldAddr 2,[.t]⟩,⟨false,false,fun _=>.store 4,[.t,.t]⟩,⟨false,false,fun _=>.store 1,[.t,.t]⟩,
 ⟨true,false,fun _=>.load 2 true,[.t]⟩,⟨true,false,fun _=>.bin .lss,[.t,.t]⟩,⟨true,false,fun _=>.extract 0,[.t]⟩,
 ⟨true,false,fun _=>.extract 1,[.t]⟩,⟨true,false,fun _=>.mv,[.o (.const (.lst (some true) 0 []))]⟩,
 ⟨true,true,(.call · true),[.t,.t]⟩,⟨true,false,fun _=>.un .not,[.t]⟩,⟨true,false,fun _=>.fieldAddr 3,[.t]⟩,
 ⟨true,false,fun _=>.pick,[.t,.o (.const (.bool true)),.t]⟩,⟨true,false,fun _=>.len true,[.t]⟩,
 ⟨true,false,fun _=>.fieldAddr 11,[.t]⟩,
 ⟨true,false,fun _=>.alloc [.int .i64 i0,.int .i64 i0,.str [],.int .i64 i0,.int .i64 i0,.bool false,.bool false,.int .i64 i0,.int .i64 i0,.bool false,.bool false,.lst (some true) 0 []],[]⟩,
 ⟨true,false,fun _=>.bin .add,[.t,.t]⟩],
 [⟨true,false,fun _=>.mv,[.o (.const (.str []))]⟩,⟨true,false,fun _=>.mv,[.o (.const .nili)]⟩,⟨true,false,fun _=>.bin .gtr,[.t,.k]⟩,
 ⟨true,false,fun _=>.idxStr,[.t,.t]⟩,⟨true,false,fun _=>.idxAddr 1,[.t,.t]⟩,⟨true,false,fun _=>.mkIface zd,[.k]⟩,
 ⟨true,false,fun _=>.alloc [.int .i64 i0,.int .i64 i0,.bool false,.bool false],[]⟩,⟨true,false,fun _=>.mv,[.o (.const (.bool true))]⟩,
 ⟨true,false,fun _=>.bin .neq,[.t,.k]⟩,⟨true,false,fun _=>.bin .sub,[.t,.k]⟩,⟨true,true,(.call · false),[.t]⟩,
 ⟨true,false,fun _=>.bin .leq,[.t,.k]⟩,⟨true,false,fun _=>.bin .geq,[.t,.k]⟩,⟨true,false,fun _=>.bin .lss,[.t,.k]⟩,
 ⟨true,true,(.call · false),[.t,.t]⟩,⟨true,false,fun _=>.eqn .iface true true,[.t,.o (.const .nili)]⟩],
 [⟨false,false,fun _=>.store 3,[.t,.t]⟩,⟨true,false,fun _=>.idxAddr 3,[.t,.t]⟩,⟨true,false,fun _=>.idxAddr 12,[.t,.k]⟩,
 ⟨true,false,fun _=>.build [.int .i64 i0,.int .i64 i0,.bool false,.bool false] [],[]⟩,⟨true,false,fun _=>.bin .leq,[.t,.t]⟩,
 ⟨true,false,fun _=>.bin .eql,[.t,.o (.const (.str []))]⟩,⟨true,false,fun _=>.bin .eql,[.t,.t]⟩,
 ⟨true,false,fun _=>.convInt .u64,[.t]⟩,⟨true,false,fun _=>.fieldAddr 7,[.t]⟩,⟨true,false,fun _=>.bin .neq,[.t,.t]⟩,
 ⟨true,false,fun _=>.build [.int .i64 i0,.int .i64 i0,.str [],.int .i64 i0,.int .i64 i0,.bool false,.bool false,.int .i64 i0,.int .i64 i0,.bool false,.bool false,.lst (some true) 0 []] [],[]⟩,
 ⟨true,false,fun _=>.bin .sub,[.t,.t]⟩,⟨true,false,fun _=>.alloc [.int .i64 i0,.int .i64 i0,.str []],[]⟩,
 ⟨true,false,fun _=>.idxAddr 12,[.t,.t]⟩,⟨true,false,fun _=>.idxStr,[.t,.k]⟩,⟨true,true,(.call · true),[.t,.t,.t]⟩],
 [⟨true,false,fun _=>.load 10 true,[.t]⟩,⟨true,false,fun _=>.fieldAddr 4,[.t]⟩,⟨true,false,fun _=>.extract 2,[.t]⟩,
 ⟨true,true,(.call · false),[.t,.t,.t]⟩,⟨true,true,(.call · true),[.t,.o (.const (.bool false))]⟩,
 ⟨true,false,fun _=>.slc (some 3) true false,[.t,.t]⟩,⟨true,true,(.callp ·),[.t,.t,.t]⟩,⟨true,false,fun _=>.append 1 1,[.t,.t]⟩,
 ⟨true,false,fun _=>.convInt .u32,[.t]⟩,⟨true,true,(.call · false),[.t,.k]⟩,⟨true,false,fun _=>.bin .add,[.k,.t]⟩,
 ⟨true,false,fun _=>.load 3 true,[.t]⟩,⟨true,false,fun _=>.stuck,[]⟩,
 ⟨true,false,fun _=>.eqs false [.int .i64,.int .i64,.bool,.bool],[.t,.t]⟩,⟨true,true,(.call · true),[.t,.t,.t,.t]⟩,
 ⟨true,false,fun _=>.build [.int .i64 i0,.int .i64 i0] [(0,1),(1,1)],[.t,.t]⟩],
 [⟨true,false,fun _=>.alloc [.int .i64 i0,.int .i64 i0,.int .i64 i0,.str []],[]⟩,⟨true,false,fun _=>.convInt .i64,[.t]⟩,
 ⟨true,false,fun _=>.bslice 1,[.t]⟩,⟨true,false,fun _=>.bin .geq,[.t,.t]⟩,⟨true,false,fun _=>.callv true,[.t,.k]⟩,
 ⟨true,false,fun _=>.idxAddr 2,[.t,.t]⟩,⟨true,false,fun _=>.eqn .iface false true,[.t,.o (.const .nili)]⟩,
 ⟨true,true,(.call · true),[.t,.k]⟩,⟨true,false,fun _=>.bin .shr,[.t,.k]⟩,⟨true,false,fun _=>.slc none true true,[.t,.t,.t]⟩,
 ⟨false,false,fun _=>.store 2,[.t,.t]⟩,⟨true,false,fun _=>.bin .neq,[.t,.o (.const (.str []))]⟩,
 ⟨true,false,fun _=>.append 3 32,[.t,.t]⟩,⟨true,true,(.call · false),[.t,.t,.k]⟩,⟨true,false,fun _=>.bslice 12,[.t]⟩,
 ⟨true,true,(.callp ·),[.t,.k]⟩],
 [⟨true,true,(.mkFn · 0),[.t]⟩,⟨true,false,fun _=>.bslice 1,[.k]⟩,⟨true,false,fun _=>.bytesToStr,[.t]⟩,
 ⟨true,false,fun _=>.build [.int .i64 i0,.int .i64 i0,.int .i64 i0,.str []] [(0,1),(1,1),(2,1),(3,1)],[.k,.t,.t,.t]⟩,
 ⟨true,false,fun _=>.build [.int .i64 i0,.int .i64 i0,.str [],.int .i64 i0,.int .i64 i0,.bool false,.bool false,.int .i64 i0,.int .i64 i0,.bool false,.bool false,.lst (some true) 0 []] [(0,1),(1,1)],[.k,.t]⟩,
 ⟨true,false,fun _=>.mv,[.o (.const .nilp)]⟩,⟨true,false,fun _=>.bslice 3,[.t]⟩,⟨true,false,fun _=>.callv true,[.t,.t]⟩,
 ⟨true,false,fun _=>.append 12 104,[.t,.t]⟩,
 ⟨true,false,fun _=>.build [.int .i64 i0,.int .i64 i0,.str [],.int .i64 i0,.int .i64 i0,.bool false,.bool false,.int .i64 i0,.int .i64 i0,.bool false,.bool false,.lst (some true) 0 []] [(0,1),(1,1)],[.k,.k]⟩,
 ⟨true,false,fun _=>.callv true,[.t,.t,.t]⟩,⟨false,false,fun _=>.store 1,[.t,.k]⟩,
 ⟨true,false,fun _=>.build [.int .i64 i0,.int .i64 i0,.str [],.int .i64 i0,.int .i64 i0,.bool false,.bool false,.int .i64 i0,.int .i64 i0,.bool false,.bool false,.lst (some true) 0 []] [(0,1),(2,1)],[.k,.t]⟩,
 ⟨true,true,(.callp ·),[.t]⟩,⟨true,false,fun _=>.slc none true false,[.t,.k]⟩,⟨true,false,fun _=>.make 1 4 (.int .u32 i0),[.t,.t]⟩],
 [⟨true,false,fun _=>.fieldAddr 5,[.t]⟩,⟨true,true,(.mkFn · 0),[.t,.t]⟩,⟨true,false,fun _=>.bslice 2,[.t]⟩,
 ⟨true,false,fun _=>.append 2 16,[.t,.t]⟩,⟨true,false,fun _=>.build [.int .i64 i0,.int .i64 i0,.str []] [(0,2),(2,1)],[.t,.t]⟩,
 ⟨true,false,fun _=>.alloc [.int .i64 i0],[]⟩,
 ⟨true,false,fun _=>.build [.int .i64 i0,.int .i64 i0,.str [],.int .i64 i0,.int .i64 i0,.bool false,.bool false,.int .i64 i0,.int .i64 i0,.bool false,.bool false,.lst (some true) 0 []] [(0,1),(3,4)],[.k,.t]⟩,
 ⟨true,false,fun _=>.build [.int .i64 i0,.int .i64 i0,.str [],.int .i64 i0,.int .i64 i0,.bool false,.bool false,.int .i64 i0,.int .i64 i0,.bool false,.bool false,.lst (some true) 0 []] [(0,1),(3,4),(7,4)],[.k,.t,.t]⟩,
 ⟨true,false,fun _=>.bin .gtr,[.t,.t]⟩,
 ⟨true,false,fun _=>.build [.int .i64 i0,.int .i64 i0,.int .i64 i0,.str []] [(0,1),(1,1),(2,1)],[.k,.t,.t]⟩,
 ⟨true,true,(.call · true),[]⟩,⟨true,false,fun _=>.fieldAddr 6,[.t]⟩,
 ⟨true,false,fun _=>.build [.int .i64 i0,.int .i64 i0,.str []] [(0,1),(1,1)],[.k,.t]⟩,⟨true,false,fun _=>.convInt .u8,[.t]⟩,
 ⟨false,false,fun _=>.store 1,[.t,.o (.const (.bool true))]⟩,
 ⟨true,false,fun _=>.build [.int .i64 i0,.int .i64 i0,.int .i64 i0,.int .i64 i0] [(0,2),(2,2)],[.t,.t]⟩],
 [⟨true,false,fun _=>.alloc [.int .i64 i0,.int .i64 i0,.int .i64 i0,.int .i64 i0],[]⟩,
 ⟨true,false,fun _=>.alloc [.int .i64 i0,.int .i64 i0],[]⟩,⟨true,false,fun _=>.eqs true [.int .i64,.int .i64,.bool,.bool],[.t,.t]⟩,
 ⟨true,false,fun _=>.bslice 1,[.t,.t]⟩,⟨true,false,fun _=>.eqn .sl false true,[.t,.o (.const (.lst (some true) 0 []))]⟩,
 ⟨true,false,fun _=>.slc (some 3) false true,[.t,.t]⟩,⟨true,true,(.call · true),[.t,.o (.const (.bool true))]⟩,
 ⟨false,false,fun _=>.panic,[.t]⟩,
 ⟨true,false,fun _=>.build [.int .i64 i0,.int .i64 i0,.str [],.int .i64 i0,.int .i64 i0,.bool false,.bool false,.int .i64 i0,.int .i64 i0,.bool false,.bool false,.lst (some true) 0 []] [(0,1),(11,1)],[.k,.t]⟩,
 ⟨true,false,fun _=>.bslice 1,[.o (.const (.str [])),.k,.k,.k,.k,.k,.k,.k,.k,.k,.k,.k]⟩,
 ⟨true,false,fun _=>.build [.int .i64 i0,.int .i64 i0,.str []] [(0,1)],[.k]⟩,⟨true,false,fun _=>.slc none false true,[.t,.t]⟩,
 ⟨true,false,fun _=>.alloc zV7,[]⟩,⟨true,false,fun _=>.slc none true false,[.t,.t]⟩,
 ⟨true,false,fun _=>.build [.int .i64 i0,.int .i64 i0,.str []] [],[]⟩,⟨true,false,fun _=>.un .neg,[.t]⟩],
 [⟨true,false,fun _=>.idxArr 1 256,[.t,.t]⟩,⟨true,false,fun _=>.idxAddr 1,[.t,.k]⟩,⟨true,false,fun _=>.bin .shl,[.t,.k]⟩,
 ⟨true,false,fun _=>.bin .or,[.t,.t]⟩,⟨true,false,fun _=>.bin .mul,[.t,.k]⟩,⟨true,false,fun _=>.callv false,[.t]⟩,
 ⟨true,false,fun _=>.bin .quo,[.t,.k]⟩,
 ⟨true,false,fun _=>.build [.int .i64 i0,.bool false,.int .i64 i0,.int .i64 i0,.int .i64 i0,.int .i64 i0,.int .i64 i0,.int .i64 i0,.int .i64 i0,.int .i64 i0] [(0,1),(4,1),(5,1)],[.k,.t,.t]⟩,
 ⟨true,false,fun _=>.alloc [.int .i64 i0,.bool false,.int .i64 i0,.int .i64 i0,.int .i64 i0,.int .i64 i0,.int .i64 i0,.int .i64 i0,.int .i64 i0,.int .i64 i0],[]⟩,
 ⟨false,false,fun _=>.store 10,[.t,.t]⟩,⟨true,false,fun _=>.mget (.str []) false,[.t,.t]⟩,
 ⟨true,false,fun _=>.eqs true [.int .i64,.int .i64,.str],[.t,.t]⟩,⟨false,false,fun _=>.mset,[.t,.t,.t]⟩,
 ⟨true,false,fun _=>.mv,[.o (.const .nilm)]⟩,⟨true,false,fun _=>.mkmap,[]⟩,
 ⟨true,true,(.call · true),[.t,.t,.o (.fn zBZ)]⟩],
 [⟨true,false,fun _=>.eqs false [.int .i64,.int .i64],[.t,.t]⟩,⟨true,false,fun _=>.eqs true [.int .i64,.int .i64],[.t,.t]⟩,
 ⟨true,false,fun _=>.mkIface zIz,[.t]⟩,
 ⟨true,false,fun _=>.build [.str [],.int .i64 i0,.int .i64 i0,.int .i64 i0,.int .i64 i0] [(0,1),(1,1)],[.t,.k]⟩,
 ⟨true,false,fun _=>.bslice 3,[]⟩,⟨true,false,fun _=>.alloc [.nili],[]⟩,⟨true,true,(.mkFn · 0),[.t,.t,.t]⟩,
 ⟨false,false,fun _=>.stuck,[]⟩,⟨true,false,fun _=>.build [.str [],.int .i64 i0,.int .i64 i0] [(0,1)],[.t]⟩,
 ⟨true,true,(.callp ·),[.t,.k,.t]⟩,⟨false,false,fun _=>.store 1,[.t,.o (.const .nili)]⟩,
 ⟨true,true,(.call · true),[.t,.t,.o (.fn zAh)]⟩,⟨true,false,fun _=>.allocT zz [.nilp,.lst (some true) 0 []],[]⟩,
 ⟨true,false,fun _=>.alloc [.nilf,.nilf],[]⟩,⟨true,false,fun _=>.build [.nilf,.nilf] [(0,1),(1,1)],[.t,.t]⟩,
 ⟨true,false,fun _=>.bslice 12,[.t,.t]⟩],
 [⟨true,false,fun _=>.build [.int .i64 i0,.int .i64 i0,.str [],.int .i64 i0,.int .i64 i0,.bool false,.bool false,.int .i64 i0,.int .i64 i0,.bool false,.bool false,.lst (some true) 0 []] [(0,1),(1,1),(11,1)],[.k,.t,.t]⟩,
 ⟨true,false,fun _=>.build [.int .i64 i0,.int .i64 i0,.bool false,.bool false] [(0,2)],[.t]⟩,
 ⟨true,false,fun _=>.tyAs zEm,[.t]⟩,⟨true,false,fun _=>.alloc [.int .i64 i0,.nili],[]⟩,
 ⟨true,false,fun _=>.build [.int .i64 i0,.nili] [(0,1),(1,1)],[.t,.t]⟩,⟨true,false,fun _=>.mkIface zEm,[.t]⟩,
 ⟨true,false,fun _=>.appT zEP false,[.t,.t]⟩,⟨true,true,(.call · true),[.t,.k,.k]⟩,⟨true,false,fun _=>.bslice 12,[]⟩,
 ⟨true,false,fun _=>.build [.int .i64 i0,.int .i64 i0,.str [],.int .i64 i0,.int .i64 i0,.bool false,.bool false,.int .i64 i0,.int .i64 i0,.bool false,.bool false,.lst (some true) 0 []] [(0,1)],[.k]⟩,
 ⟨true,false,fun _=>.bslice 1,[.o (.const (.str [])),.k,.k,.k,.k,.k,.k]⟩,
 ⟨true,false,fun _=>.build [.int .i64 i0,.int .i64 i0,.str []] [(0,1),(1,1)],[.k,.k]⟩,
 ⟨true,false,fun _=>.appT zEP true,[.t,.t]⟩,⟨true,false,fun _=>.idxArr 1 7,[.o (.glob zEo),.t]⟩,
 ⟨true,false,fun _=>.convInt .i32,[.t]⟩,⟨true,false,fun _=>.convRune,[.t]⟩],
 [⟨true,false,fun _=>.build zV8 [(0,1),(1,1),(2,1),(3,1),(4,1),(5,1),(6,1),(7,1),(8,1),(9,1),(10,1),(11,1)],[.o (.const (.str [])),.k,.k,.k,.k,.k,.k,.k,.k,.k,.k,.k]⟩,
 ⟨true,false,fun _=>.idxAgg 1 12 false,[.t,.t]⟩,⟨true,true,(.call · false),[.k]⟩,⟨true,false,fun _=>.callvp,[.t]⟩,
 ⟨true,false,fun _=>.alloc [.str []],[]⟩,⟨true,false,fun _=>.eqb true,[.t,.t]⟩,
 ⟨true,false,fun _=>.eqn .ptr false true,[.t,.o (.const .nilp)]⟩,⟨true,false,fun _=>.idxAgg 1 7 false,[.t,.t]⟩,
 ⟨true,true,(.call · true),[.o (.const (.bool true))]⟩,⟨true,true,(.call · true),[.o (.const (.bool false))]⟩,
 ⟨true,false,fun _=>.load 7 true,[.o (.glob zEo)]⟩,⟨true,true,(.callp ·),[.t,.t]⟩,⟨true,false,fun _=>.load 256 true,[.t]⟩,
 ⟨false,false,fun _=>.store 256,[.t,.t]⟩,⟨true,false,fun _=>.bin .mul,[.t,.t]⟩,⟨true,false,fun _=>.eqb false,[.t,.t]⟩],
 [⟨true,false,fun _=>.append 1 4,[.o (.const (.lst (some true) 0 [])),.t]⟩,⟨true,false,fun _=>.bin .quo,[.t,.t]⟩,
 ⟨true,false,fun _=>.bin .rem,[.t,.t]⟩,⟨true,false,fun _=>.strToBytes,[.t]⟩,⟨true,false,fun _=>.slc (some 1) false true,[.t,.t]⟩,
 ⟨true,false,fun _=>.bin .rem,[.t,.k]⟩,⟨true,false,fun _=>.bin .shr,[.t,.t]⟩,⟨true,false,fun _=>.bin .and,[.t,.k]⟩]]
def qF:List (List Nat):=[[zDW,zm,zo,zAf,zAg,zFS,zn,
 zAp,zl,zFZ,zBK,zBm,zBn,zBz,
 zA2,zX],
 [zBa,zBx,zBC,zAM,zr,zEj,zBf,zM2,
 zFc,zFC,zIy,zCp,zDs,zDK,zZ,zp],
 [zY,zA4,zAE,zAa,zAN,zCG,zG3,
 zCY,zFt,zEe,zFu,zH0,zEg,zFR,zBw,zBy],
 [zDA,zDX,zD5,zAl,zF9,zDJ,zDY,
 zAB,zJg,zAW,zl0,zGA,z6,zH3,zFJ,
 zDr],
 [zGB,zEH,zAm,zBL,zAq,zCt,zDC,
 zw,zDD,zD7,zAi,zBM,zAD,zAF,
 zDP,zFH],
 [zHy,zlI,zlL,zHz,zEf,zEE,zD4,zG5,zBv,
 zG6,zF7,zH1,zCo,zEG,zEF,zGd],
 [zFI,zG4,zEY,zEh,zGe,zk,
 zi,zAG,zW,zAh,
 zGf,zF8,zEi,zH2,zKf,zFa],
 [zFv,zFb,zE4,zA1,zAb,
 zV,zu,zBo,zIx,zDB,
 zMC,zEk,zAY,zH4,zBI,zEI],
 [zCZ,zCa,zCC,zA5,zBP,zBD,
 zBE,zH5,zD8,zAs,zA9,zA6,
 zAT,zAZ,zBQ,zAK],
 [zAt,zDL,zDM,zBG,zBN,zCV,
 zCW,zCu,zB5,zBO,zCv,zDN,
 zDO,zCH,zAS,zBJ],
 [zBY,zEl,zDQ,zA8]]
def qAdd:List (List (List Nat))->List Nat->List (List (List Nat))
  |[],x=>[[x]]
  |[r],x=>if r.length<16 then [r++[x]] else [r,[x]]
  |r::l,x=>r::qAdd l x
def qW (r:List (List (List Nat))) (x:Nat):List Nat:=if x<481 then [x] else qT r (x-481) []
def qM:List Nat->List (List (List Nat))->List (List (List Nat))
  |a::b::l,r=>qM l (qAdd r (qW r a++qW r b))
  |_,r=>r
def qB0:List (List (List Nat)):=by refine (?f:∀ d,qM (qG 96 0x1c18853cd949995735378620affdff2b6949bd88aed7521593784aa73cdeda6a79c88295b521a8b5d2fed4421d3f3da4b0df5d12f5ac9c22752a35c93bfadaa1c5d7af8f12eba719a62f99b068f9cf95f1b35415a25cca5f625444201ded81765959676c2601e2800c37275da9553052e) []=d->List (List (List Nat))) _ (by cbv);exact fun d _=>d
def qB1:List (List (List Nat)):=by refine (?f:∀ d,qM (qG 96 0x41f8d1f72d44b58ba54ebcef3ad21428fd0e79c8ddae0896a4127fc5bf2d526a177cb3924a4bcede3ef87154fdfed8475283a61d8182b7ddd3817f01a903c1d36c8d352261bba371bd8027746f1700cd6b78ac6c0c21ab82665dd5d49eb40c876da1143436c388d6ed1df764d75752ef24b2f) qB0=d->List (List (List Nat))) _ (by cbv);exact fun d _=>d
def qB2:List (List (List Nat)):=by refine (?f:∀ d,qM (qG 96 0x10f94159a11e81a0724fd6e23d4eab6c520640e7ccd7bac3673f5711ed67f943d9f0c164572649c8a7ab1925c0494a392d06ad0cb68c9a1f3f48d87390b442e830d3387e505af671e0d6dd100e01319bc6621ad099f02368f627a5428f77e320f16f370437e4267531b79cba394953e8f58cc) qB1=d->List (List (List Nat))) _ (by cbv);exact fun d _=>d
def qB3:List (List (List Nat)):=by refine (?f:∀ d,qM (qG 96 0xd4c9ee17c04c2f31324b1d1223db0bca950a9ec8576f4f839e9c9a5a3038fe030e480adf816fbc08c37e28f012f2b2b7a4959d36efb1ada39c9fe40c1bbcf1a950c81a9666b958dbec5fd6c6cc7694b46f8ed74a338dc1b8edac46f69dfa2bfdad73e0d35cc09adea1d7161c00e70cf71359) qB2=d->List (List (List Nat))) _ (by cbv);exact fun d _=>d
def qB4:List (List (List Nat)):=by refine (?f:∀ d,qM (qG 96 0x3da93a408ce4ed6edf1a8549c7f8ea67835303bdf85a4649ba2e330d991b50eb81b7682cefc0f17a1dba21e620655bcee14a8c085849520b787242d73c1a89dfd275b34064485f3b7228142dbb0fb253c838fc0766ce6ec10c7015b9970a308f32a6a47e107640c2ef5718827473c2c12012d) qB3=d->List (List (List Nat))) _ (by cbv);exact fun d _=>d
def qB:List (List (List Nat)):=by refine (?f:∀ d,qM (qG 32 0x1493ddaebf6925c39881f3210725a931cfd205cbfbccc0d566fdd0d5aebe5307bf0316ea3a1b6) qB4=d->List (List (List Nat))) _ (by cbv);exact fun d _=>d
def qS (i0:Int) (rf:List AC) (ot:List OT) (px:List Opd) (s:QS) (x:Nat):QS:=
  if x<64 then ⟨s.cur,s.md,s.gd,x::s.nm,s.os,s.L,s.cs⟩
  else if x<80 then ⟨s.cur,s.md,s.gd,(s.cur+63-x)::s.nm,s.os,s.L,s.cs⟩
  else if x<101 then qX rf ot (x-80) s
  else if x<317 then qO px (qT (qK i0) (x-101) ⟨false,false,fun _=>.mv,[]⟩) s
  else ⟨s.cur,s.md,s.gd,qT qF (x-317) 0::s.nm,s.os,s.L,s.cs⟩
def qR (i0:Int) (rf:List AC) (ot:List OT) (px:List Opd):List Nat->QS->QS
  |[],s=>s
  |x::l,s=>qR i0 rf ot px l (qS i0 rf ot px s x)
def qZ (i0:Int) (rf:List AC) (ot:List OT) (px:List Opd):List Nat->QS->QS
  |[],s=>s
  |x::l,s=>qZ i0 rf ot px l (qR i0 rf ot px (qW qB x) s)
def qD0 (i0:Int) (rf:List AC) (ot:List OT) (px:List Opd) (n N:Nat):List AC:=(qZ i0 rf ot px (qG n N) ⟨0,0,0,[],[],[],[]⟩).cs.reverse
def qg (l:List AC) (i:Nat):AC:=l.getD i .skip
abbrev qY (i0:Int) (n N:Nat) (px:List Opd) (rf:List AC) (ot:List OT):Type:=∀ d,qD0 i0 rf ot px n N=d->List AC
end Go.AM
