/- Several texts of mine in one (Rtw, Mev, Kn, Kc, Err). Own work. -/
import Derived.Test.YtcnogafgcfidnaaGreatDoorGAm22Am30
set_option linter.all false
set_option maxRecDepth 20000
namespace Go.AM
theorem zP0 {F : AF} {H H1 H2 H' : Heap} {fr : Fr} {v0 v : AV} (hk : F.keep = false) (hr : (zAr fr H1 F.results).map tupled = some v0) (hf : zCl H.length v0 H1 = some (v,H2)) (hb : v.bel H.length = true) (ho : zJ1 H H2) (hH : H' = H2.take H.length) : retP F H fr H1 v H':=by
  refine zQt ?_
  unfold zJx
  cases hs : zAr fr H1 F.results with
  | none=>rw [hs] at hr; cases hr
  | some vs=>
    rw [hs] at hr
    simp only [Option.map_some,Option.some.injEq] at hr
    subst hr
    simp only [hk,hf,Bool.false_eq_true,if_false]
    exact ⟨hb,ho,trivial,hH⟩
theorem zGh {n0 b k off len : Nat} {q : Option Bool} {H : Heap} (h : b < n0) : zCl n0 (.sl q b k off len) H = some (.sl q b k off len,H):=by simp only [zCl]; rw [if_pos h]
end Go.AM
namespace Go.AM
theorem zQ0 {q : Option Bool} {b k off len : Nat} {z : AV} {xs : List AV} {H : Heap} {K : AV → Heap → Prop} (h : H[b]? = some (.row k xs)) (hl : off + len ≤ xs.length) (h0 : 0 < len) (hz : z.elem k = true)
    (hk : K (.tup []) (H.set b (.row k (xs.take off ++ List.replicate len z ++ xs.drop (off + len))))) : actP (.clear k z) [.sl q b k off len] H K:=
  zLo (by simp only [astep,h]; rw [if_pos ⟨trivial,trivial,hl,h0,hz⟩]) hk
end Go.AM
namespace Go.AM
abbrev zBy : Nat:=3
abbrev zAo : Nat:=4
abbrev zAf : Nat:=5
abbrev zCE : Nat:=6
abbrev zAL : Nat:=7
abbrev zr : Nat:=8
abbrev zAQ : Nat:=9
abbrev zBC : Nat:=10
abbrev zA2 : Nat:=11
abbrev zBR : Nat:=12
abbrev zBS : Nat:=13
abbrev zBa : Nat:=14
abbrev zDg : Nat:=15
abbrev zA6 : Nat:=16
abbrev zBD : Nat:=17
abbrev zCF : Nat:=18
abbrev zBE : Nat:=19
abbrev zCG : Nat:=20
abbrev zBj : Nat:=21
abbrev zBF : Nat:=23
abbrev zU : Nat:=22
abbrev zO : Nat:=24
abbrev zDh : Nat:=25
abbrev zEF : Nat:=26
abbrev zx : Nat:=27
abbrev zBk : Nat:=28
abbrev z6 : Nat:=29
abbrev zBl : Nat:=30
abbrev zt : Nat:=36
abbrev zCq : Nat:=37
abbrev zAD : Nat:=42
abbrev zAT : Nat:=43
abbrev zA3 : Nat:=44
abbrev zDv : Nat:=45
abbrev zIR : Nat:=46
abbrev zC5 : Nat:=47
abbrev zIS : Nat:=48
abbrev zAw : Nat:=49
abbrev zAE : Nat:=62
abbrev zAx : Nat:=63
abbrev zBG : Nat:=64
abbrev zBT : Nat:=65
abbrev zFZ : Nat:=66
abbrev zLz : Nat:=67
abbrev zFa : Nat:=68
abbrev zBs : Nat:=69
abbrev zG4 : Nat:=73
abbrev zo : Nat:=74
abbrev zy : Nat:=75
abbrev zCr : Nat:=76
abbrev zCs : Nat:=77
abbrev zCt : Nat:=78
abbrev zBU : Nat:=79
abbrev zm : Nat:=80
abbrev zIT : Nat:=88
abbrev zGi : Nat:=90
abbrev zJX : Nat:=89
abbrev zc : Nat:=94
abbrev zAZ : Nat:=96
abbrev zV : Nat:=95
abbrev ze : Nat:=99
abbrev zj : Nat:=100
abbrev zAJ : Nat:=108
abbrev zAa : Nat:=109
abbrev zAb : Nat:=110
abbrev zAF : Nat:=111
abbrev za : Nat:=112
abbrev zAG : Nat:=114
abbrev zQ : Nat:=115
abbrev zAc : Nat:=133
abbrev zAR : Nat:=44
abbrev zDM : Nat:=54
abbrev zAC : Nat:=9020
abbrev zBA : Nat:=9022
abbrev zBd : Nat:=9023
abbrev zBz : Nat:=9024
end Go.AM
namespace Go.AM
def zDN : AC:=.seq ( .seq ( .reg [3,0,20,11,2,19,10,1,14,22,21] false [oM 94 22,oM 95 0,oT 96 (.len false) 95,oD 97 (.bin .lss)
 94 96]) ( .cond (.tmp 97) ( .skip) ( .exit 4))) ( .seq ( .block 5 [3,0,21,20,11,2,19,10,1,14,22] ( .seq ( .reg [3,0,20,11,2,19,10,1,14,22,21]
 true [oM 100 0,oM 101 22,oD 102 (.idxAddr 1) 100 101,oL 103 1 false 102,oM 104 1,oD 105 (.idxAddr 3) 103 104,oL 106 3 true 105,oM 107 10,oM 108 19,oD
 109 (.idxAddr 3) 107 108,oL 110 3 true 109,⟨some 111,none,.eqs false [.int .i64,.int .i64,.str],[.tmp 106,.tmp 110]⟩,oM 112 111,oG 113 112 true .mv
 [.tmp 0],oG 114 112 true .mv [.tmp 22],oG 115 112 true (.idxAddr 1) [.tmp 113,.tmp 114],oG 116 112 true (.load 1 false) [.tmp 115],oG 117 112 true .mv [.tmp
 2],oG 118 112 true (.idxAddr 3) [.tmp 116,.tmp 117],oG 119 112 true (.load 3 true) [.tmp 118],oG 120 112 true .mv [.tmp 11],oG 121 112 true .mv [.tmp 20],
 oG 122 112 true (.idxAddr 3) [.tmp 120,.tmp 121],oG 123 112 true (.load 3 true) [.tmp 122],⟨some 124,some (112,true),.eqs false [.int .i64,.int .i64,
 .str],[.tmp 119,.tmp 123]⟩,oI 125 .pick [.tmp 112,.tmp 124,oB false]]) ( .cond (.tmp 125) ( .reg [3,0,20,11,2,19,10,1,14,22,21] false [oM 126 21,
 oM 127 0,oM 128 22,oD 129 (.idxAddr 1) 127 128,oL 130 1 false 129,oM 131 3,oD 132 (.idxAddr 3) 130 131,oL 133 3 true 132,oT 134 (.bslice 3) 133,oD 135
 (.append 3 32) 126 134,oM 21 135]) ( .skip)))) ( .reg [3,0,21,20,11,2,19,10,1,14,22] false [oM 98 22,oI 99 (.bin .add) [.tmp 98,oK 1],oM 22 99]))
def zDO : AC:=.seq ( .seq ( .reg [3,0,20,11,2,19,10,1,14] false [oM 88 20,oM 89 11,oT 90 (.len false) 89,oD 91 (.bin .lss) 88 90])
 ( .cond (.tmp 91) ( .skip) ( .exit 2))) ( .seq ( .block 3 [3,0,11,2,19,10,1,14,20] ( .seq ( .reg [3,0,20,11,2,19,10,1,14] false [oI 21 .mv
 [.const (.lst (some true) 0 [])]]) ( .seq ( .seq ( .reg [3,0,21,20,11,2,19,10,1,14] false [oI 22 .mv [oK 0]]) ( .block 4 [3,0,11,2,19,10,1,14,
 20,21] ( .loop [22,3,0,21,20,11,2,19,10,1,14] zDN))) ( .seq ( .reg [3,0,11,2,19,10,1,14,20,21] false [oM 136 21,oT 137
 (.call zAQ true) 136,⟨some 23,none,.alloc [.int .i64 0,.int .i64 0,.str []],[]⟩,oS 3 23 137]) ( .seq ( .reg [3,0,11,2,19,10,1,14,20,23]
 true [oM 138 14,oM 139 19,oD 140 (.idxAddr 1) 138 139,oL 141 1 false 140,oM 142 20,oD 143 (.idxAddr 3) 141 142,oL 144 3 true 143,oL 145 3 true 23,⟨some
 146,none,.eqs true [.int .i64,.int .i64,.str],[.tmp 144,.tmp 145]⟩]) ( .cond (.tmp 146) ( .seq ( .reg [] false [oI 8 .mv [oB false]]) ( .ret)) (
 .skip))))))) ( .reg [3,0,11,2,19,10,1,14,20] false [oM 92 20,oI 93 (.bin .add) [.tmp 92,oK 1],oM 20 93]))
def zDP : AC:=.seq ( .seq ( .reg [3,0,11,2,19,10,1,14] false [oM 74 19,oM 75 10,oT 76 (.len false) 75,oD 77 (.bin .lss) 74 76]) (
 .cond (.tmp 77) ( .skip) ( .exit 0))) ( .seq ( .block 1 [3,0,11,2,10,1,14,19] ( .seq ( .seq ( .reg [3,0,11,2,19,10,1,14] false [oM 80 14,oM 81 19,
 oD 82 (.idxAddr 1) 80 81,oL 83 1 false 82,oT 84 (.len false) 83,oM 85 11,oT 86 (.len false) 85,oD 87 (.bin .neq) 84 86]) ( .cond (.tmp 87) ( .seq ( .reg []
 false [oI 8 .mv [oB false]]) ( .ret)) ( .skip))) ( .seq ( .reg [3,0,11,2,19,10,1,14] false [oI 20 .mv [oK 0]]) ( .block 2 [3,0,11,2,10,1,14,19] (
 .loop [3,0,20,11,2,19,10,1,14] zDO))))) ( .reg [3,0,11,2,10,1,14,19] false [oM 78 19,oI 79 (.bin .add) [.tmp 78,oK 1],oM 19
 79]))
def zEG : AC:=.seq ( .reg [3,0,2,1] false [oI 8 .mv [oB false]]) ( .seq ( .reg [3,0,2,1] false [oM 24 0,oM 25 1,oM 26 2,oM 27 3,oI 28
 (.bslice 1) [.tmp 25,.tmp 26,.tmp 27],oD 29 (.call zAo true) 24 28,oM 9 29]) ( .seq ( .reg [3,0,2,1,9] false [oI 10 .mv [.const (.lst (some
 true) 0 [])],oI 11 .mv [.const (.lst (some true) 0 [])]]) ( .seq ( .seq ( .reg [3,0,2,1,9,11,10] false [oM 30 9,oI 31 (.bin .eql) [.tmp 30,oK 0]]) (
 .cond (.tmp 31) ( .seq ( .reg [3,0,2,1,9] false [oM 32 0,oM 33 1,oD 34 (.call zAf true) 32 33,oM 10 34]) ( .reg [3,0,2,10,1,9] false [oM
 35 0,oM 36 2,oD 37 (.call zAf true) 35 36,oM 11 37])) ( .skip))) ( .seq ( .reg [3,0,11,2,10,1,9] false [oM 39 0,oM 40 1,oM 41 2,oM 42 3,
 oI 43 (.call zCE true) [.tmp 39,.tmp 40,.tmp 41,.tmp 42],oM 38 43,oT 44 (.extract 0) 38,oT 45 (.extract 1) 38,oT 46 (.extract 2) 38,oT 47
 (.extract 3) 38,oM 12 44,oM 13 45,oM 14 46,oM 15 47]) ( .seq ( .reg [3,0,11,2,10,1,14,13,12,9,15] false [oM 48 15,oM 49 9,oD 50 (.call
 zAL true) 48 49,oM 16 50]) ( .seq ( .reg [3,0,11,2,10,1,14,16,13,12] false [oM 51 12,oM 52 10,oD 53 (.call zr true) 51 52,
 oM 17 53]) ( .seq ( .reg [3,0,11,2,10,1,14,17,16,13] false [oM 54 13,oM 55 11,oD 56 (.call zr true) 54 55,oM 18 56]) ( .seq ( .seq (
 .reg [3,0,11,2,10,1,14,18,17,16] false [oM 57 16,oT 58 (.un .not) 57,oM 59 58,oG 60 59 false .mv [.tmp 17],oG 61 59 false (.un .not) [.tmp 60],oI
 62 .pick [.tmp 59,oB true,.tmp 61],oM 63 62,oG 64 63 false .mv [.tmp 18],oG 65 63 false (.un .not) [.tmp 64],oI 66 .pick [.tmp 63,oB true,.tmp 65],oM 67
 66,oG 68 67 false .mv [.tmp 14],oG 69 67 false (.len false) [.tmp 68],oG 70 67 false .mv [.tmp 10],oG 71 67 false (.len false) [.tmp 70],oG 72 67 false
 (.bin .neq) [.tmp 69,.tmp 71],oI 73 .pick [.tmp 67,oB true,.tmp 72]]) ( .cond (.tmp 73) ( .seq ( .reg [] false [oI 8 .mv [oB false]]) ( .ret)) ( .skip))) (
 .seq ( .seq ( .reg [3,0,11,2,10,1,14] false [oI 19 .mv [oK 0]]) ( .block 0 [] ( .loop [3,0,11,2,19,10,1,14] zDP))) ( .seq ( .reg
 [] false [oI 8 .mv [oB true]]) ( .ret)))))))))))
def zB0 : AF:={ results:=[.tmp 8],body:=zEG }
def zEH : AC:=.seq ( .seq ( .reg [1,0,6] false [oM 16 6,oM 17 1,oT 18 (.len false) 17,oD 19 (.bin .lss) 16 18]) ( .cond (.tmp 19) ( .skip)
 ( .exit 0))) ( .seq ( .block 1 [1,0,6] ( .seq ( .reg [1,0,6] false [oM 22 0,oM 23 1,oM 24 6,oD 25 (.idxAddr 1) 23 24,oL 26 1 false 25,oD 27 (.call
 zA2 true) 22 26,oM 7 27]) ( .seq ( .reg [1,0,6,7] false [oM 28 7,oT 29 (.un .not) 28]) ( .cond (.tmp 29) ( .seq ( .reg [] false [oI 4 .mv [oK
 1]]) ( .ret)) ( .skip))))) ( .reg [1,0,6] false [oM 20 6,oI 21 (.bin .add) [.tmp 20,oK 1],oM 6 21]))
def zFD : AC:=.seq ( .reg [1,0] false [oI 4 .mv [oK 0]]) ( .seq ( .reg [1,0] false [oM 8 0,oT 9 (.call zBC true) 8,oM 5 9]) (
 .seq ( .seq ( .reg [5,1,0] false [oM 10 5,oI 11 (.bin .neq) [.tmp 10,oK 0]]) ( .cond (.tmp 11) ( .seq ( .reg [5] false [oM 12 5,oM 4 12]) ( .ret)) (
 .skip))) ( .seq ( .seq ( .reg [1,0] false [oM 13 1,oT 14 (.len false) 13,oI 15 (.bin .gtr) [.tmp 14,oK 12]]) ( .cond (.tmp 15) ( .seq ( .reg [] false [oI 4
 .mv [oK 4]]) ( .ret)) ( .skip))) ( .seq ( .seq ( .reg [1,0] false [oI 6 .mv [oK 0]]) ( .block 0 [] ( .loop [6,1,0] zEH))) ( .seq ( .reg []
 false [oI 4 .mv [oK 0]]) ( .ret))))))
def zCc : AF:={ results:=[.tmp 4],body:=zFD }
def zFE : AC:=.seq ( .seq ( .reg [1,6,0,7,5] false [oM 14 7,oM 15 6,oT 16 (.len false) 15,oD 17 (.bin .lss) 14 16]) ( .cond (.tmp 17) (
 .skip) ( .exit 0))) ( .seq ( .block 1 [5,1,6,0,7] ( .seq ( .reg [1,6,0,7,5] false [oM 20 0,oM 21 6,oM 22 7,oD 23 (.idxAddr 1) 21 22,oL 24 1 false 23,
 oD 25 (.idxAddr 1) 20 24,oL 26 1 false 25,oM 27 1,oD 28 (.idxAddr 3) 26 27,oL 29 3 true 28,⟨some 8,none,.alloc [.int .i64 0,.int .i64 0,.str []],[]⟩,
 oS 3 8 29]) ( .seq ( .reg [1,6,0,7,8,5] true [oM 30 5,oT 31 (.len false) 30,oI 32 (.bin .eql) [.tmp 31,oK 0],oM 33 32,oG 34 33 false .mv [.tmp 5],oG
 35 33 false .mv [.tmp 5],oG 36 33 false (.len false) [.tmp 35],oG 37 33 false (.bin .sub) [.tmp 36,oK 1],oG 38 33 false (.idxAddr 3) [.tmp 34,.tmp 37],oG
 39 33 false (.load 3 true) [.tmp 38],oG 40 33 false (.load 3 true) [.tmp 8],⟨some 41,some (33,false),.eqs true [.int .i64,.int .i64,.str],[.tmp 39,.tmp
 40]⟩,oI 42 .pick [.tmp 33,oB true,.tmp 41]]) ( .cond (.tmp 42) ( .reg [1,6,0,7,8,5] false [oM 43 5,oL 44 3 true 8,oT 45 (.bslice 3) 44,oD 46 (.append
 3 32) 43 45,oM 5 46]) ( .skip))))) ( .reg [5,1,6,0,7] false [oM 18 7,oI 19 (.bin .add) [.tmp 18,oK 1],oM 7 19]))
def zGj : AC:=.seq ( .reg [1,0] false [oI 4 .mv [.const (.lst (some true) 0 [])]]) ( .seq ( .reg [1,0] false [oI 5 .mv [.const (.lst (some true)
 0 [])]]) ( .seq ( .reg [5,1,0] false [oM 9 0,oM 10 1,⟨some 11,none,.build [.int .i64 0,.bool false] [(0,1)],[.tmp 10]⟩,oT 12 (.bslice 2) 11,oD 13
 (.call zBR true) 9 12,oM 6 13]) ( .seq ( .seq ( .reg [5,1,6,0] false [oI 7 .mv [oK 0]]) ( .block 0 [5] ( .loop [7,5,1,6,0]
 zFE))) ( .seq ( .reg [5] false [oM 47 5,oM 4 47]) ( .ret)))))
def zDQ : AF:={ results:=[.tmp 4],body:=zGj }
def zG5 : AC:=.seq ( .reg [3,20,2,17,1,51,0,45,14,39,13,40,41,15,46,47,18,52,53,21] false [oD 54 (.bin .lss) 53 52]) ( .seq (
 .cond (.tmp 54) ( .skip) ( .exit 4)) ( .seq ( .block 5 [3,21,20,2,17,1,51,0,45,14,39,13,40,41,15,46,47,18,52,53] ( .seq ( .reg [3,20,2,17,
 1,51,0,45,14,39,13,40,41,15,46,47,18,52,53,21] false [oD 55 (.idxAddr 1) 51 53,oL 56 1 false 55,oM 23 56]) ( .seq ( .reg [3,20,2,17,1,51,
 0,45,14,39,13,40,41,15,46,47,18,52,53,23,21] true [oM 57 23,oM 58 1,oD 59 (.idxAddr 3) 57 58,oL 60 3 true 59,oL 61 3 true 17,⟨some 62,none,
 .eqs false [.int .i64,.int .i64,.str],[.tmp 60,.tmp 61]⟩,oM 63 62,oG 64 63 true .mv [.tmp 23],oG 65 63 true .mv [.tmp 2],oG 66 63 true (.idxAddr 3) [.tmp
 64,.tmp 65],oG 67 63 true (.load 3 true) [.tmp 66],oG 68 63 true (.load 3 true) [.tmp 20],⟨some 69,some (63,true),.eqs false [.int .i64,.int .i64,.str],
 [.tmp 67,.tmp 68]⟩,oI 70 .pick [.tmp 63,.tmp 69,oB false]]) ( .cond (.tmp 70) ( .reg [3,20,2,17,1,51,0,45,14,39,13,40,41,15,46,47,18,52,53,
 23,21] false [oM 71 21,oM 72 23,oM 73 3,oD 74 (.idxAddr 3) 72 73,oL 75 3 true 74,oT 76 (.bslice 3) 75,oD 77 (.append 3 32) 71 76,oM 21 77]) ( .skip)))))
 ( .reg [3,21,20,2,17,1,51,0,45,14,39,13,40,41,15,46,47,18,52,53] false [oI 78 (.bin .add) [.tmp 53,oK 1],oM 53 78])))
def zG6 : AC:=.seq ( .reg [3,2,17,1,0,45,14,39,13,40,41,15,46,47,18] false [oD 48 (.bin .lss) 47 46]) ( .seq ( .cond (.tmp 48) (
 .skip) ( .exit 2)) ( .seq ( .block 3 [3,2,17,1,18,0,45,14,39,13,40,41,15,46,47] ( .seq ( .reg [3,2,17,1,0,45,14,39,13,40,41,15,46,47,
 18] false [oD 49 (.idxAddr 3) 45 47,oL 50 3 true 49,⟨some 20,none,.alloc [.int .i64 0,.int .i64 0,.str []],[]⟩,oS 3 20 50]) ( .seq ( .reg [3,20,2,17,
 1,0,45,14,39,13,40,41,15,46,47,18] false [oI 21 .mv [.const (.lst (some true) 0 [])]]) ( .seq ( .seq ( .reg [3,21,20,2,17,1,0,45,14,39,13,
 40,41,15,46,47,18] false [oM 51 0,oT 52 (.len false) 51,oI 53 .mv [oK 0]]) ( .block 4 [3,2,17,1,0,45,14,39,13,40,41,15,46,47,21,18] ( .loop
 [53,3,21,20,2,17,1,51,0,45,14,39,13,40,41,15,46,47,18,52] zG5))) ( .reg [3,2,17,1,0,45,14,39,13,40,41,15,46,47,21,
 18] false [oM 79 18,oM 80 21,oT 81 (.call zDg true) 80,oT 82 (.bslice 3) 81,oD 83 (.append 3 32) 79 82,oM 18 83]))))) ( .reg [3,2,17,1,18,0,45,
 14,39,13,40,41,15,46,47] false [oI 84 (.bin .add) [.tmp 47,oK 1],oM 47 84])))
def zG7 : AC:=.seq ( .reg [3,2,1,0,14,39,13,40,41,15] false [oD 42 (.bin .lss) 41 40]) ( .seq ( .cond (.tmp 42) ( .skip) ( .exit 0)) ( .seq
 ( .block 1 [3,2,1,0,15,14,39,13,40,41] ( .seq ( .reg [3,2,1,0,14,39,13,40,41,15] false [oD 43 (.idxAddr 3) 39 41,oL 44 3 true 43,⟨some 17,
 none,.alloc [.int .i64 0,.int .i64 0,.str []],[]⟩,oS 3 17 44]) ( .seq ( .reg [3,2,17,1,0,14,39,13,40,41,15] false [oI 18 .mv [.const (.lst (some
 true) 0 [])]]) ( .seq ( .seq ( .reg [3,2,17,1,18,0,14,39,13,40,41,15] false [oM 45 14,oT 46 (.len false) 45,oI 47 .mv [oK 0]]) ( .block 2 [3,2,1,
 0,14,39,13,40,41,18,15] ( .loop [3,2,17,1,47,18,0,45,14,39,13,40,41,15,46] zG6))) ( .reg [3,2,1,0,14,39,13,40,41,18,15]
 false [oM 85 15,oM 86 18,oT 87 (.bslice 1) 86,oD 88 (.append 1 24) 85 87,oM 15 88]))))) ( .reg [3,2,1,0,15,14,39,13,40,41] false [oI 89 (.bin .add)
 [.tmp 41,oK 1],oM 41 89])))
def zJY : AC:=.seq ( .reg [3,2,1,0] false [oI 8 .mv [.const (.lst (some true) 0 [])],oI 9 .mv [.const (.lst (some true) 0 [])],oI 10 .mv [.const
 (.lst (some true) 0 [])],oI 11 .mv [.const (.nili)]]) ( .seq ( .seq ( .reg [3,2,1,0] false [oM 24 0,oM 25 1,oM 26 2,oM 27 3,oI 28 (.bslice 1) [.tmp 25,
 .tmp 26,.tmp 27],oD 29 (.call zBS true) 24 28,oM 12 29]) ( .seq ( .reg [12,3,2,1,0] false [oM 30 12,oI 31 (.eqn .iface true true) [.tmp 30,
 .const (.nili)]]) ( .cond (.tmp 31) ( .seq ( .reg [12] false [oM 32 12,oI 8 .mv [.const (.lst (some true) 0 [])],oI 9 .mv [.const (.lst (some true) 0 [])],oI
 10 .mv [.const (.lst (some true) 0 [])],oM 11 32]) ( .ret)) ( .skip)))) ( .seq ( .reg [3,2,1,0] false [oM 33 0,oM 34 1,oD 35 (.call zBa true) 33
 34,oM 36 0,oM 37 2,oD 38 (.call zBa true) 36 37,oM 13 35,oM 14 38]) ( .seq ( .reg [3,2,1,0,14,13] false [oI 15 .mv [.const (.lst (some true) 0
 [])]]) ( .seq ( .seq ( .reg [3,2,1,0,15,14,13] false [oM 39 13,oT 40 (.len false) 39,oI 41 .mv [oK 0]]) ( .block 0 [15,14,13] ( .loop [3,2,1,0,41,
 15,14,39,13,40] zG7))) ( .seq ( .reg [15,14,13] false [oM 90 13,oM 91 14,oM 92 15,oM 8 90,oM 9 91,oM 10 92,oI 11 .mv [.const (.nili)]]) (
 .ret))))))
def zFb : AF:={ results:=[.tmp 8,.tmp 9,.tmp 10,.tmp 11],body:=zJY }
def zGk : AC:=.seq ( .reg [1,0] false [oI 4 .mv [oB false]]) ( .seq ( .reg [1,0] false [oM 6 0,oT 7 (.call zA6 true) 6,oM 5 7]) ( .seq
 ( .reg [1,5] false [oM 8 5,oM 9 1,oD 10 (.bin .eql) 8 9,oM 4 10]) ( .ret)))
def zDR : AF:={ results:=[.tmp 4],body:=zGk }
def zEd : AC:=.seq ( .seq ( .reg [1,0,5] false [oM 11 5,oM 12 0,oT 13 (.len false) 12,oD 14 (.bin .lss) 11 13]) ( .cond (.tmp 14) ( .skip)
 ( .exit 0))) ( .seq ( .block 1 [1,0,5] ( .seq ( .reg [1,0,5] true [oM 17 0,oM 18 5,oD 19 (.idxAddr 3) 17 18,oL 20 3 true 19,oM 21 1,oM 22 5,oD 23
 (.idxAddr 3) 21 22,oL 24 3 true 23,⟨some 25,none,.eqs true [.int .i64,.int .i64,.str],[.tmp 20,.tmp 24]⟩]) ( .cond (.tmp 25) ( .seq ( .reg [] false [oI 4
 .mv [oB false]]) ( .ret)) ( .skip)))) ( .reg [1,0,5] false [oM 15 5,oI 16 (.bin .add) [.tmp 15,oK 1],oM 5 16]))
def zFn : AC:=.seq ( .reg [1,0] false [oI 4 .mv [oB false]]) ( .seq ( .seq ( .reg [1,0] false [oM 6 0,oT 7 (.len false) 6,oM 8 1,oT 9 (.len
 false) 8,oD 10 (.bin .neq) 7 9]) ( .cond (.tmp 10) ( .seq ( .reg [] false [oI 4 .mv [oB false]]) ( .ret)) ( .skip))) ( .seq ( .seq ( .reg [1,0] false [oI 5 .mv
 [oK 0]]) ( .block 0 [] ( .loop [5,1,0] zEd))) ( .seq ( .reg [] false [oI 4 .mv [oB true]]) ( .ret))))
def zC6 : AF:={ results:=[.tmp 4],body:=zFn }
def zGl : AC:=.seq ( .seq ( .reg [2,4,0,3] false [oM 5 4,oM 6 0,oT 7 (.len false) 6,oD 8 (.bin .lss) 5 7]) ( .cond (.tmp 8) ( .skip) ( .exit
 0))) ( .seq ( .block 1 [2,0,3,4] ( .seq ( .seq ( .reg [2,4,0,3] false [oM 11 0,oM 12 4,oD 13 (.idxAddr 3) 11 12,oF 14 0 13,oL 15 1 false 14,oI 16
 (.bin .eql) [.tmp 15,oK 4]]) ( .cond (.tmp 16) ( .seq ( .reg [2,4,0] false [oM 17 0,oM 18 4,oD 19 (.idxAddr 3) 17 18,oL 20 3 true 19,oS 3 2 20]) ( .ret))
 ( .skip))) ( .seq ( .reg [2,0,4,3] false [oM 21 0,oM 22 4,oD 23 (.idxAddr 3) 21 22,oF 24 0 23,oL 25 1 false 24,oI 26 (.bin .eql) [.tmp 25,oK 1]]) (
 .cond (.tmp 26) ( .reg [2,0,4,3] false [oM 27 3,oM 28 0,oM 29 4,oD 30 (.idxAddr 3) 28 29,oF 31 1 30,oL 32 1 false 31,oT 33 (.bslice 1) 32,oD 34
 (.append 1 8) 27 33,oM 3 34]) ( .skip))))) ( .reg [2,0,3,4] false [oM 9 4,oI 10 (.bin .add) [.tmp 9,oK 1],oM 4 10]))
def zIU : AC:=.seq ( .reg [0] false [⟨some 2,none,.alloc [.int .i64 0,.int .i64 0,.str []],[]⟩]) ( .seq ( .reg [2,0] false [oI 3 .mv [.const
 (.lst (some true) 0 [])]]) ( .seq ( .seq ( .reg [2,0,3] false [oI 4 .mv [oK 0]]) ( .block 0 [2,3] ( .loop [2,4,0,3] zGl))) ( .seq ( .reg [2,3]
 false [oM 35 3,oT 36 (.call zBD true) 35,oS 3 2 36]) ( .ret))))
def zCu : AF:={ results:=[.cell 2 3 true],body:=zIU }
def zFF : AC:=.seq ( .seq ( .reg [0,3] false [oM 11 3,oM 12 0,oT 13 (.len false) 12,oD 14 (.bin .lss) 11 13]) ( .cond (.tmp 14) ( .skip) (
 .exit 0))) ( .seq ( .block 1 [0,3] ( .seq ( .reg [0,3] false [oM 17 0,oM 18 3,oD 19 (.idxAddr 1) 17 18,oL 20 1 false 19,oT 21 (.len false) 20,oI 22 (.bin
 .gtr) [.tmp 21,oK 12]]) ( .cond (.tmp 22) ( .seq ( .reg [] false [oI 2 .mv [oK 4]]) ( .ret)) ( .skip)))) ( .reg [0,3] false [oM 15 3,oI 16 (.bin .add) [.tmp
 15,oK 1],oM 3 16]))
def zFG : AC:=.seq ( .seq ( .reg [0,4] false [oM 23 4,oM 24 0,oT 25 (.len false) 24,oD 26 (.bin .lss) 23 25]) ( .cond (.tmp 26) ( .skip) (
 .exit 2))) ( .seq ( .block 3 [0,4] ( .seq ( .reg [0,4] true [oM 29 0,oM 30 4,oD 31 (.idxAddr 1) 29 30,oL 32 1 false 31,oT 33 (.len false) 32,oM 34 0,oI
 35 (.idxAddr 1) [.tmp 34,oK 0],oL 36 1 false 35,oT 37 (.len false) 36,oD 38 (.bin .neq) 33 37]) ( .cond (.tmp 38) ( .seq ( .reg [] false [oI 2 .mv [oK 3]]) (
 .ret)) ( .skip)))) ( .reg [0,4] false [oM 27 4,oI 28 (.bin .add) [.tmp 27,oK 1],oM 4 28]))
def zFH : AC:=.seq ( .seq ( .reg [5,0,6] false [oM 45 6,oM 46 0,oM 47 5,oD 48 (.idxAddr 1) 46 47,oL 49 1 false 48,oT 50 (.len false) 49,
 oD 51 (.bin .lss) 45 50]) ( .cond (.tmp 51) ( .skip) ( .exit 6))) ( .seq ( .block 7 [5,0,6] ( .seq ( .reg [5,0,6] false [oM 54 0,oM 55 5,oD 56 (.idxAddr 1)
 54 55,oL 57 1 false 56,oM 58 6,oD 59 (.idxAddr 3) 57 58,oL 60 3 true 59,oT 61 (.call zCF true) 60,oM 7 61]) ( .seq ( .reg [5,0,6,7] false [oM
 62 7,oT 63 (.un .not) 62]) ( .cond (.tmp 63) ( .seq ( .reg [] false [oI 2 .mv [oK 1]]) ( .ret)) ( .skip))))) ( .reg [5,0,6] false [oM 52 6,oI 53 (.bin .add)
 [.tmp 52,oK 1],oM 6 53]))
def zFI : AC:=.seq ( .seq ( .reg [5,0] false [oM 39 5,oM 40 0,oT 41 (.len false) 40,oD 42 (.bin .lss) 39 41]) ( .cond (.tmp 42) ( .skip) (
 .exit 4))) ( .seq ( .block 5 [0,5] ( .seq ( .reg [5,0] false [oI 6 .mv [oK 0]]) ( .block 6 [0,5] ( .loop [6,5,0] zFH)))) ( .reg [0,5] false
 [oM 43 5,oI 44 (.bin .add) [.tmp 43,oK 1],oM 5 44]))
def zGm : AC:=.seq ( .reg [0] false [oI 2 .mv [oK 0]]) ( .seq ( .seq ( .reg [0] false [oM 8 0,oT 9 (.len false) 8,oI 10 (.bin .gtr) [.tmp 9,oK
 60]]) ( .cond (.tmp 10) ( .seq ( .reg [] false [oI 2 .mv [oK 4]]) ( .ret)) ( .skip))) ( .seq ( .seq ( .reg [0] false [oI 3 .mv [oK 0]]) ( .block 0 [0] ( .loop
 [3,0] zFF))) ( .seq ( .seq ( .reg [0] false [oI 4 .mv [oK 0]]) ( .block 2 [0] ( .loop [4,0] zFG))) ( .seq ( .seq ( .reg [0] false
 [oI 5 .mv [oK 0]]) ( .block 4 [] ( .loop [5,0] zFI))) ( .seq ( .reg [] false [oI 2 .mv [oK 0]]) ( .ret))))))
def zDS : AF:={ results:=[.tmp 2],body:=zGm }
def zFo : AC:=.seq ( .reg [1,0] false [oI 4 .mv [oB false]]) ( .seq ( .reg [1,0] false [oI 5 .mv [oK 12]]) ( .seq ( .seq ( .reg [1,0,5] false
 [oM 6 0,oT 7 (.len false) 6,oI 8 (.bin .gtr) [.tmp 7,oK 0]]) ( .cond (.tmp 8) ( .reg [1,0] false [oM 9 0,oI 10 (.idxAddr 1) [.tmp 9,oK 0],oL 11 1 false
 10,oT 12 (.len false) 11,oM 5 12]) ( .skip))) ( .seq ( .reg [5,1] false [oM 13 1,oI 14 (.bin .geq) [.tmp 13,oK 0],oM 15 14,oG 16 15 true .mv [.tmp 1],oG
 17 15 true .mv [.tmp 5],oG 18 15 true (.bin .lss) [.tmp 16,.tmp 17],oI 19 .pick [.tmp 15,.tmp 18,oB false],oM 4 19]) ( .ret))))
def zC7 : AF:={ results:=[.tmp 4],body:=zFo }
def zFp : AC:=.seq ( .seq ( .reg [1,0,6,5,7] true [oM 17 7,oI 18 (.bin .gtr) [.tmp 17,oK 0],oM 19 18,oG 20 19 true .mv [.tmp 0],oG 21 19
 true .mv [.tmp 6],oG 22 19 true (.idxAddr 1) [.tmp 20,.tmp 21],oG 23 19 true (.load 1 false) [.tmp 22],oG 24 19 true .mv [.tmp 0],oG 25 19 true .mv [.tmp
 5],oG 26 19 true .mv [.tmp 7],oG 27 19 true (.bin .sub) [.tmp 26,oK 1],oG 28 19 true (.idxAddr 1) [.tmp 25,.tmp 27],oG 29 19 true (.load 1 false) [.tmp
 28],oG 30 19 true (.idxAddr 1) [.tmp 24,.tmp 29],oG 31 19 true (.load 1 false) [.tmp 30],oG 32 19 true .mv [.tmp 1],oG 33 19 true (.call zBE
 true) [.tmp 23,.tmp 31,.tmp 32],oI 34 .pick [.tmp 19,.tmp 33,oB false]]) ( .cond (.tmp 34) ( .skip) ( .exit 2))) ( .block 3 [7,1,0,6,5] ( .reg [1,0,6,
 5,7] false [oM 35 7,oI 36 (.bin .sub) [.tmp 35,oK 1],oM 7 36]))
def zFq : AC:=.seq ( .seq ( .reg [1,0,6,5] false [oM 9 6,oM 10 0,oT 11 (.len false) 10,oD 12 (.bin .lss) 9 11]) ( .cond (.tmp 12) ( .skip) (
 .exit 0))) ( .seq ( .block 1 [5,1,0,6] ( .seq ( .reg [1,0,6,5] false [oM 15 5,oT 16 (.len false) 15,oM 7 16]) ( .seq ( .block 2 [1,0,6,7,5] ( .loop
 [7,1,0,6,5] zFp)) ( .seq ( .reg [1,0,6,7,5] false [oI 8 .mv [.const (.lst (some true) 0 [])]]) ( .seq ( .reg [1,0,6,7,5,8] false [oM 37
 8,oM 38 5,oM 39 7,oD 40 (.slc (some 1) false true) 38 39,oD 41 (.append 1 8) 37 40,oM 8 41]) ( .seq ( .reg [1,0,6,7,5,8] false [oM 42 8,oM 43 6,oT 44
 (.bslice 1) 43,oD 45 (.append 1 8) 42 44,oM 8 45]) ( .seq ( .reg [1,0,6,7,5,8] false [oM 46 8,oM 47 5,oM 48 7,oD 49 (.slc (some 1) true false) 47 48,
 oD 50 (.append 1 8) 46 49,oM 8 50]) ( .reg [1,0,6,8] false [oM 51 8,oM 5 51])))))))) ( .reg [5,1,0,6] false [oM 13 6,oI 14 (.bin .add) [.tmp 13,oK 1],
 oM 6 14]))
def zG8 : AC:=.seq ( .reg [1,0] false [oI 4 .mv [.const (.lst (some true) 0 [])]]) ( .seq ( .reg [1,0] false [oI 5 .mv [.const (.lst (some true) 0
 [])]]) ( .seq ( .seq ( .reg [5,1,0] false [oI 6 .mv [oK 0]]) ( .block 0 [5] ( .loop [6,5,1,0] zFq))) ( .seq ( .reg [5] false [oM 52 5,oM 4
 52]) ( .ret))))
def zDw : AF:={ results:=[.tmp 4],body:=zG8 }
def zFr : AC:=.seq ( .reg [0,17,18,19] false [oD 20 (.bin .lss) 19 18]) ( .seq ( .cond (.tmp 20) ( .skip) ( .exit 0)) ( .seq ( .block 1 [0,17,
 18,19] ( .seq ( .reg [0,17,18,19] false [oD 21 (.idxAddr 1) 17 19,oL 22 1 false 21,oM 7 22]) ( .seq ( .reg [0,17,18,19,7] false [oM 23 0,oM 24 7,oD
 25 (.call zBj true) 23 24,oT 26 (.un .not) 25]) ( .cond (.tmp 26) ( .seq ( .reg [] false [oI 27 (.mkIface zAR) [oK 1],oM 4 27]) ( .ret)) (
 .skip))))) ( .reg [0,17,18,19] false [oI 28 (.bin .add) [.tmp 19,oK 1],oM 19 28])))
def zG9 : AC:=.seq ( .reg [0,1] false [oI 4 .mv [.const (.nili)]]) ( .seq ( .seq ( .reg [0,1] false [oM 8 0,oT 9 (.call zCG true) 8,oM
 5 9]) ( .seq ( .reg [5,0,1] false [oM 10 5,oI 11 (.eqn .iface true true) [.tmp 10,.const (.nili)]]) ( .cond (.tmp 11) ( .seq ( .reg [5] false [oM 12 5,oM 4
 12]) ( .ret)) ( .skip)))) ( .seq ( .seq ( .reg [0,1] false [oM 13 1,oT 14 (.len false) 13,oI 15 (.bin .gtr) [.tmp 14,oK 12]]) ( .cond (.tmp 15) ( .seq ( .reg
 [] false [oI 16 (.mkIface zAR) [oK 4],oM 4 16]) ( .ret)) ( .skip))) ( .seq ( .seq ( .reg [0,1] false [oM 17 1,oT 18 (.len false) 17,oI 19 .mv [oK
 0]]) ( .block 0 [] ( .loop [19,0,17,18] zFr))) ( .seq ( .reg [] false [oI 4 .mv [.const (.nili)]]) ( .ret)))))
def zDx : AF:={ results:=[.tmp 4],body:=zG9 }
def zHA : AC:=.seq ( .reg [1,8,9,10,5] false [oD 11 (.bin .lss) 10 9]) ( .seq ( .cond (.tmp 11) ( .skip) ( .exit 0)) ( .seq ( .block 1 [1,5,8,
 9,10] ( .seq ( .reg [1,8,9,10,5] false [oD 12 (.idxAddr 1) 8 10,oL 13 1 false 12,oM 7 13]) ( .reg [1,8,9,10,7,5] false [oM 14 5,oM 15 7,oM 16 1,oD
 17 (.idxAddr 3) 15 16,oL 18 3 true 17,oT 19 (.bslice 3) 18,oD 20 (.append 3 32) 14 19,oM 5 20]))) ( .reg [1,5,8,9,10] false [oI 21 (.bin .add) [.tmp 10,
 oK 1],oM 10 21])))
def zJZ : AC:=.seq ( .reg [1,0] false [oI 4 .mv [.const (.lst (some true) 0 [])]]) ( .seq ( .reg [1,0] false [oI 5 .mv [.const (.lst (some true) 0
 [])]]) ( .seq ( .seq ( .reg [1,5,0] false [oM 8 0,oT 9 (.len false) 8,oI 10 .mv [oK 0]]) ( .block 0 [5] ( .loop [10,1,5,8,9] zHA))) ( .seq (
 .reg [5] false [oM 22 5,oI 23 (.call zU false) [.tmp 22,.fn zBF]]) ( .seq ( .reg [5] false [oM 24 5,oT 25
 (.call zO false) 24,oM 4 25]) ( .ret)))))
def zFc : AF:={ results:=[.tmp 4],body:=zJZ }
def zJa : AC:=.seq ( .reg [2,6,7,8,3] false [oD 9 (.bin .lss) 8 7]) ( .seq ( .cond (.tmp 9) ( .skip) ( .exit 0)) ( .seq ( .block 1 [2,3,6,7,8]
 ( .seq ( .reg [2,6,7,8,3] false [oD 10 (.idxAddr 3) 6 8,oL 11 3 true 10,⟨some 5,none,.alloc [.int .i64 0,.int .i64 0,.str []],[]⟩,oS 3 5 11]) ( .seq
 ( .reg [2,5,6,7,8,3] false [oF 12 0 5,oL 13 1 false 12]) ( .block 2 [2,3,6,7,8] ( .seq ( .reg [2,5,6,7,8,3,13] false [oI 15 (.bin .eql) [.tmp 13,
 oK 4],oM 14 15]) ( .cond (.tmp 14) ( .seq ( .reg [2,5] false [oL 16 3 true 5,oS 3 2 16]) ( .ret)) ( .seq ( .reg [2,6,7,8,5,3,13] false [oI 18 (.bin
 .eql) [.tmp 13,oK 1],oM 17 18]) ( .cond (.tmp 17) ( .reg [2,6,7,8,5,3] false [oM 19 3,oF 20 1 5,oL 21 1 false 20,oT 22 (.bslice 1) 21,oD 23 (.append 1
 8) 19 22,oM 3 23]) ( .skip))))))))) ( .reg [2,3,6,7,8] false [oI 24 (.bin .add) [.tmp 8,oK 1],oM 8 24])))
def zL0 : AC:=.seq ( .reg [0] false [⟨some 2,none,.alloc [.int .i64 0,.int .i64 0,.str []],[]⟩]) ( .seq ( .reg [2,0] false [oI 3 .mv [.const (.lst
 (some true) 0 [])]]) ( .seq ( .seq ( .reg [2,3,0] false [oM 6 0,oT 7 (.len false) 6,oI 8 .mv [oK 0]]) ( .block 0 [2,3] ( .loop [2,8,3,6,7]
 zJa))) ( .seq ( .reg [2,3] false [oM 25 3,oT 26 (.call zDh true) 25,oS 3 2 26]) ( .ret))))
def zHw : AF:={ results:=[.cell 2 3 true],body:=zL0 }
def zJb : AC:=.seq ( .reg [0] false [oI 2 .mv [oK 0]]) ( .seq ( .seq ( .reg [0] false [oM 4 0,oI 5 (.eqn .iface false true) [.tmp 4,.const
 (.nili)]]) ( .cond (.tmp 5) ( .seq ( .reg [] false [oI 2 .mv [oK 0]]) ( .ret)) ( .skip))) ( .seq ( .reg [0] false [⟨some 3,none,.alloc [.int .i64 0],[]⟩]) (
 .seq ( .seq ( .reg [3,0] false [oM 6 0,oT 7 (.mkIface zDM) 3,oD 8 (.call zEF false) 6 7]) ( .cond (.tmp 8) ( .seq ( .reg [3] false [oL 9 1
 false 3,oM 2 9]) ( .ret)) ( .skip))) ( .seq ( .reg [] false [oI 2 .mv [oK (-1)]]) ( .ret)))))
def zDT : AF:={ results:=[.tmp 2],body:=zJb }
def zGn : AC:=.seq ( .seq ( .reg [3,0,2,4] false [oM 6 4,oM 7 0,oT 8 (.len false) 7,oD 9 (.bin .lss) 6 8]) ( .cond (.tmp 9) ( .skip) ( .exit
 0))) ( .seq ( .block 1 [3,0,2,4] ( .reg [3,0,2,4] true [oL 12 3 true 3,oM 13 0,oM 14 4,oD 15 (.idxAddr 1) 13 14,oL 16 1 false 15,oT 17 (.call
 zx true) 16,oI 18 (.call zBk true) [oK 8,.tmp 12,.tmp 17],oS 3 3 18])) ( .reg [3,0,2,4] false [oM 10 4,oI 11 (.bin .add) [.tmp 10,
 oK 1],oM 4 11]))
def zIV : AC:=.seq ( .reg [0] false [⟨some 2,none,.alloc [.int .i64 0,.int .i64 0,.str []],[]⟩]) ( .seq ( .reg [0,2] false [oI 5 (.call
 zx true) [oK 0],⟨some 3,none,.alloc [.int .i64 0,.int .i64 0,.str []],[]⟩,oS 3 3 5]) ( .seq ( .seq ( .reg [3,0,2] false [oI 4 .mv [oK 0]]) (
 .block 0 [2,3] ( .loop [4,3,0,2] zGn))) ( .seq ( .reg [2,3] false [oL 19 3 true 3,oS 3 2 19]) ( .ret))))
def zEe : AF:={ results:=[.cell 2 3 true],body:=zIV }
def zJc : AC:=.seq ( .reg [0] false [oT 1 .box 0,oI 2 .mv [oB false]]) ( .seq ( .seq ( .reg [1] false [oF 3 0 1,oL 4 1 false 3]) ( .block 0 [] (
 .seq ( .reg [1,4] false [oI 6 (.bin .eql) [.tmp 4,oK 0],oM 5 6]) ( .cond (.tmp 5) ( .seq ( .reg [1] false [oF 7 1 1,oL 8 1 false 7,oI 9 (.bin .eql) [.tmp 8,
 oK 0],oM 10 9,oG 11 10 true (.fieldAddr 2) [.tmp 1],oG 12 10 true (.load 1 false) [.tmp 11],oG 13 10 true (.bin .eql) [.tmp 12,.const (.str [])],oI 14
 .pick [.tmp 10,.tmp 13,oB false],oM 2 14]) ( .ret)) ( .seq ( .reg [1,4] false [oI 16 (.bin .eql) [.tmp 4,oK 1],oM 15 16]) ( .cond (.tmp 15) ( .seq ( .reg
 [1] false [oF 17 2 1,oL 18 1 false 17,oI 19 (.bin .eql) [.tmp 18,.const (.str [])],oM 2 19]) ( .ret)) ( .seq ( .reg [1,4] false [oI 21 (.bin .eql) [.tmp 4,
 oK 2],oM 20 21]) ( .cond (.tmp 20) ( .seq ( .reg [1] false [oF 22 1 1,oL 23 1 false 22,oI 24 (.bin .eql) [.tmp 23,oK 0],oM 25 24,oG 26 25 true (.fieldAddr
 2) [.tmp 1],oG 27 25 true (.load 1 false) [.tmp 26],oG 28 25 true (.len true) [.tmp 27],oG 29 25 true (.bin .leq) [.tmp 28,oK 200],oI 30 .pick [.tmp 25,
 .tmp 29,oB false],oM 2 30]) ( .ret)) ( .seq ( .reg [1,4] false [oI 32 (.bin .eql) [.tmp 4,oK 3],oM 31 32]) ( .cond (.tmp 31) ( .seq ( .reg [1] false [oF 33
 2 1,oL 34 1 false 33,oI 35 (.bin .eql) [.tmp 34,.const (.str [])],oM 36 35,oG 37 36 true (.fieldAddr 1) [.tmp 1],oG 38 36 true (.load 1 false) [.tmp 37],
 oG 39 36 true (.bin .eql) [.tmp 38,oK 0],oG 40 36 true .mv [.tmp 39],oG 41 40 false (.fieldAddr 1) [.tmp 1],oG 42 40 false (.load 1 false) [.tmp 41],oG 43
 40 false (.bin .eql) [.tmp 42,oK 1],oG 44 36 true .pick [.tmp 40,oB true,.tmp 43],oI 45 .pick [.tmp 36,.tmp 44,oB false],oM 2 45]) ( .ret)) ( .seq ( .reg
 [1,4] false [oI 47 (.bin .eql) [.tmp 4,oK 4],oM 46 47]) ( .cond (.tmp 46) ( .seq ( .reg [1] false [oF 48 2 1,oL 49 1 false 48,oI 50 (.bin .eql) [.tmp 49,
 .const (.str [])],oM 51 50,oG 52 51 true (.fieldAddr 1) [.tmp 1],oG 53 51 true (.load 1 false) [.tmp 52],oG 54 51 true (.bin .geq) [.tmp 53,oK 1],oI 55
 .pick [.tmp 51,.tmp 54,oB false],oM 56 55,oG 57 56 true (.fieldAddr 1) [.tmp 1],oG 58 56 true (.load 1 false) [.tmp 57],oG 59 56 true (.bin .leq) [.tmp 58,
 oK 6],oI 60 .pick [.tmp 56,.tmp 59,oB false],oM 2 60]) ( .ret)) ( .skip))))))))))))) ( .seq ( .reg [] false [oI 2 .mv [oB false]]) ( .ret)))
def zFd : AF:={ results:=[.tmp 2],body:=zJc }
def zFJ : AC:=.seq ( .seq ( .reg [2,1,0,7] false [oM 9 7,oM 10 2,oT 11 (.len false) 10,oD 12 (.bin .lss) 9 11]) ( .cond (.tmp 12) ( .skip)
 ( .exit 0))) ( .seq ( .block 1 [2,1,0,7] ( .seq ( .reg [2,1,0,7] true [oM 15 0,oM 16 2,oM 17 7,oD 18 (.idxAddr 2) 16 17,oF 19 0 18,oL 20 1 false 19,
 oD 21 (.idxAddr 3) 15 20,oL 22 3 true 21,oM 23 1,oM 24 2,oM 25 7,oD 26 (.idxAddr 2) 24 25,oF 27 0 26,oL 28 1 false 27,oD 29 (.idxAddr 3) 23 28,oL 30 3
 true 29,oD 31 (.call z6 true) 22 30,oM 8 31]) ( .seq ( .seq ( .reg [2,1,0,7,8] false [oM 32 2,oM 33 7,oD 34 (.idxAddr 2) 32 33,oF 35 1
 34,oL 36 1 false 35]) ( .cond (.tmp 36) ( .reg [2,1,0,7,8] false [oM 37 8,oT 38 (.un .neg) 37,oM 8 38]) ( .skip))) ( .seq ( .reg [8,2,1,0,7] false [oM
 39 8,oI 40 (.bin .neq) [.tmp 39,oK 0]]) ( .cond (.tmp 40) ( .seq ( .reg [8] false [oM 41 8,oI 42 (.bin .lss) [.tmp 41,oK 0],oM 6 42]) ( .ret)) ( .skip))))))
 ( .reg [2,1,0,7] false [oM 13 7,oI 14 (.bin .add) [.tmp 13,oK 1],oM 7 14]))
def zGo : AC:=.seq ( .reg [2,1,0] false [oI 6 .mv [oB false]]) ( .seq ( .seq ( .reg [2,1,0] false [oI 7 .mv [oK 0]]) ( .block 0 [] ( .loop [7,
 2,1,0] zFJ))) ( .seq ( .reg [] false [oI 6 .mv [oB false]]) ( .ret)))
def zB1 : AF:={ results:=[.tmp 6],body:=zGo }
def zHB : AC:=.seq ( .reg [16,0,17,18] false [oD 19 (.bin .lss) 18 17]) ( .seq ( .cond (.tmp 19) ( .skip) ( .exit 0)) ( .seq ( .block 1 [16,0,
 17,18] ( .seq ( .reg [16,0,17,18] false [oD 20 (.idxAddr 1) 16 18,oL 21 1 false 20,oM 4 21]) ( .seq ( .reg [16,0,17,18,4] false [oM 22 4,oT 23 (.len
 false) 22,oI 24 (.bin .gtr) [.tmp 23,oK 12]]) ( .cond (.tmp 24) ( .seq ( .reg [] false [oI 25 (.mkIface zAR) [oK 4],oM 2 25]) ( .ret)) ( .skip))))) (
 .reg [16,0,17,18] false [oI 26 (.bin .add) [.tmp 18,oK 1],oM 18 26])))
def zHC : AC:=.seq ( .reg [0,27,28,29] false [oD 30 (.bin .lss) 29 28]) ( .seq ( .cond (.tmp 30) ( .skip) ( .exit 2)) ( .seq ( .block 3 [0,27,
 28,29] ( .seq ( .reg [0,27,28,29] false [oD 31 (.idxAddr 1) 27 29,oL 32 1 false 31,oM 6 32]) ( .seq ( .reg [0,27,28,29,6] false [oM 33 6,oT 34 (.len
 false) 33,oM 35 0,oI 36 (.idxAddr 1) [.tmp 35,oK 0],oL 37 1 false 36,oT 38 (.len false) 37,oD 39 (.bin .neq) 34 38]) ( .cond (.tmp 39) ( .seq ( .reg []
 false [oI 40 (.mkIface zAR) [oK 3],oM 2 40]) ( .ret)) ( .skip))))) ( .reg [0,27,28,29] false [oI 41 (.bin .add) [.tmp 29,oK 1],oM 29 41])))
def zHD : AC:=.seq ( .reg [48,42,43,44,49,50] false [oD 51 (.bin .lss) 50 49]) ( .seq ( .cond (.tmp 51) ( .skip) ( .exit 6)) ( .seq ( .block 7
 [48,42,43,44,49,50] ( .seq ( .reg [48,42,43,44,49,50] false [oD 52 (.idxAddr 3) 48 50,oL 53 3 true 52,⟨some 10,none,.alloc [.int .i64 0,.int .i64
 0,.str []],[]⟩,oS 3 10 53]) ( .seq ( .reg [48,42,43,44,49,50,10] false [oL 54 3 true 10,oT 55 (.call zBl true) 54,oM 11 55]) ( .seq ( .reg
 [11,48,42,43,44,49,50] false [oM 56 11,oI 57 (.eqn .iface true true) [.tmp 56,.const (.nili)]]) ( .cond (.tmp 57) ( .seq ( .reg [11] false [oM 58 11,oM
 2 58]) ( .ret)) ( .skip)))))) ( .reg [48,42,43,44,49,50] false [oI 59 (.bin .add) [.tmp 50,oK 1],oM 50 59])))
def zHE : AC:=.seq ( .reg [42,43,44] false [oD 45 (.bin .lss) 44 43]) ( .seq ( .cond (.tmp 45) ( .skip) ( .exit 4)) ( .seq ( .block 5 [42,43,44]
 ( .seq ( .reg [42,43,44] false [oD 46 (.idxAddr 1) 42 44,oL 47 1 false 46,oM 8 47]) ( .seq ( .reg [42,43,44,8] false [oM 48 8,oT 49 (.len false) 48,oI
 50 .mv [oK 0]]) ( .block 6 [42,43,44] ( .loop [50,48,42,43,44,49] zHD))))) ( .reg [42,43,44] false [oI 60 (.bin .add) [.tmp 44,oK 1],oM 44
 60])))
def zJd : AC:=.seq ( .reg [0] false [oI 2 .mv [.const (.nili)]]) ( .seq ( .seq ( .reg [0] false [oM 12 0,oT 13 (.len false) 12,oI 14 (.bin .gtr)
 [.tmp 13,oK 60]]) ( .cond (.tmp 14) ( .seq ( .reg [] false [oI 15 (.mkIface zAR) [oK 4],oM 2 15]) ( .ret)) ( .skip))) ( .seq ( .seq ( .reg [0] false
 [oM 16 0,oT 17 (.len false) 16,oI 18 .mv [oK 0]]) ( .block 0 [0] ( .loop [18,16,0,17] zHB))) ( .seq ( .seq ( .reg [0] false [oM 27 0,oT 28 (.len
 false) 27,oI 29 .mv [oK 0]]) ( .block 2 [0] ( .loop [29,0,27,28] zHC))) ( .seq ( .seq ( .reg [0] false [oM 42 0,oT 43 (.len false) 42,oI 44 .mv
 [oK 0]]) ( .block 4 [] ( .loop [44,42,43] zHE))) ( .seq ( .reg [] false [oI 2 .mv [.const (.nili)]]) ( .ret))))))
def zFe : AF:={ results:=[.tmp 2],body:=zJd }
def zIW : AC:=.seq ( .reg [1,0] false [oI 4 .mv [oB false]]) ( .seq ( .reg [1,0] false [oI 5 .mv [oK 12]]) ( .seq ( .seq ( .reg [1,0,5] false [oM
 6 0,oT 7 (.len false) 6,oI 8 (.bin .gtr) [.tmp 7,oK 0]]) ( .cond (.tmp 8) ( .reg [1,0] false [oM 9 0,oI 10 (.idxAddr 1) [.tmp 9,oK 0],oL 11 1 false 10,oT
 12 (.len false) 11,oM 5 12]) ( .skip))) ( .seq ( .reg [5,1] false [oM 13 1,oI 14 (.bin .geq) [.tmp 13,oK 0],oM 15 14,oG 16 15 true .mv [.tmp 1],oG 17 15
 true .mv [.tmp 5],oG 18 15 true (.bin .lss) [.tmp 16,.tmp 17],oI 19 .pick [.tmp 15,.tmp 18,oB false],oM 4 19]) ( .ret))))
def zEf : AF:={ results:=[.tmp 4],body:=zIW }
def zAW : AC:=.seq ( .seq ( .reg [4,0,5,3] false [oM 29 5,oM 30 4,oT 31 (.len false) 30,oD 32 (.bin .lss) 29 31]) (
 .cond (.tmp 32) ( .skip) ( .exit 2))) ( .seq ( .block 3 [3,4,0,5] ( .seq ( .reg [4,0,5,3] true [oM 35 4,oM 36 5,oD 37 (.idxAddr 3) 35 36,oL 38 3 true
 37,oM 39 4,oM 40 5,oI 41 (.bin .sub) [.tmp 40,oK 1],oD 42 (.idxAddr 3) 39 41,oL 43 3 true 42,⟨some 44,none,.eqs true [.int .i64,.int .i64,.str],[.tmp
 38,.tmp 43]⟩]) ( .cond (.tmp 44) ( .seq ( .reg [4,0,5,3] false [oM 45 0,oM 46 3,oM 47 4,oM 48 5,oD 49 (.idxAddr 3) 47 48,oL 50 3 true 49,oD 51
 (.idxAddr 3) 45 46,oS 3 51 50]) ( .reg [4,0,5,3] false [oM 52 3,oI 53 (.bin .add) [.tmp 52,oK 1],oM 3 53])) ( .skip)))) ( .reg [3,4,0,5] false [oM 33
 5,oI 34 (.bin .add) [.tmp 33,oK 1],oM 5 34]))
def zAX : AC:=.seq ( .seq ( .reg [3,0] false [oM 10 3,oM 11 0,oT 12 (.len false) 11,oD 13 (.bin .lss) 10 12]) ( .cond
 (.tmp 13) ( .skip) ( .exit 0))) ( .seq ( .block 1 [0,3] ( .seq ( .reg [3,0] true [oM 16 0,oM 17 3,oD 18 (.idxAddr 3) 16 17,oL 19 3 true 18,oM 20 0,oM 21
 3,oI 22 (.bin .sub) [.tmp 21,oK 1],oD 23 (.idxAddr 3) 20 22,oL 24 3 true 23,⟨some 25,none,.eqs false [.int .i64,.int .i64,.str],[.tmp 19,.tmp 24]⟩]) (
 .cond (.tmp 25) ( .seq ( .reg [3,0] false [oM 26 0,oM 27 3,oD 28 (.slc (some 3) true false) 26 27,oM 4 28]) ( .seq ( .seq ( .reg [3,4,0] false [oI 5 .mv
 [oK 1]]) ( .block 2 [3,0] ( .loop [5,3,4,0] zAW))) ( .seq ( .reg [3,0] false [oM 54 0,oM 55 3,oD 56 (.slc (some 3)
 true false) 54 55,⟨none,none,.clear 3 (.agg [.int .i64 0,.int .i64 0,.str []]),[.tmp 56]⟩]) ( .seq ( .reg [3,0] false [oM 57 0,oM 58 3,oD 59 (.slc (some
 3) false true) 57 58,oM 2 59]) ( .ret))))) ( .skip)))) ( .reg [0,3] false [oM 14 3,oI 15 (.bin .add) [.tmp 14,oK 1],oM 3 15]))
def zAg : AC:=.seq ( .reg [0] false [oI 2 .mv [.const (.lst (some true) 0 [])]]) ( .seq ( .seq ( .reg [0] false [oM 6 0,oT
 7 (.len false) 6,oI 8 (.bin .lss) [.tmp 7,oK 2]]) ( .cond (.tmp 8) ( .seq ( .reg [0] false [oM 9 0,oM 2 9]) ( .ret)) ( .skip))) ( .seq ( .seq ( .reg [0] false
 [oI 3 .mv [oK 1]]) ( .block 0 [0] ( .loop [3,0] zAX))) ( .seq ( .reg [0] false [oM 60 0,oM 2 60]) ( .ret))))
def zW : AF:={ results:=[.tmp 2],body:=zAg }
def zJe : AC:=.seq ( .reg [3,7,2,8,9] false [oD 10 (.bin .lss) 9 8]) ( .seq ( .cond (.tmp 10) ( .skip) ( .exit 0)) ( .seq ( .block 1 [3,7,2,8,
 9] ( .seq ( .reg [3,7,2,8,9] false [oD 11 (.idxAddr 1) 7 9,oL 12 1 false 11,oM 5 12]) ( .reg [3,7,2,8,9,5] true [oL 13 3 true 3,oM 14 5,oT 15 (.call
 zt true) 14,oI 16 (.call zCq true) [oK 8,.tmp 13,.tmp 15],oS 3 3 16]))) ( .reg [3,7,2,8,9] false [oI 17 (.bin .add) [.tmp 9,oK 1],oM 9
 17])))
def zL1 : AC:=.seq ( .reg [0] false [⟨some 2,none,.alloc [.int .i64 0,.int .i64 0,.str []],[]⟩]) ( .seq ( .reg [2,0] false [oI 6 (.call
 zt true) [oK 0],⟨some 3,none,.alloc [.int .i64 0,.int .i64 0,.str []],[]⟩,oS 3 3 6]) ( .seq ( .seq ( .reg [3,2,0] false [oM 7 0,oT 8 (.len
 false) 7,oI 9 .mv [oK 0]]) ( .block 0 [2,3] ( .loop [9,3,7,2,8] zJe))) ( .seq ( .reg [2,3] false [oL 18 3 true 3,oS 3 2 18]) ( .ret))))
def zHx : AF:={ results:=[.cell 2 3 true],body:=zL1 }
def zIX : AC:=.seq ( .reg [0] false [⟨some 2,none,.alloc [.int .i64 0,.int .i64 0,.str []],[]⟩]) ( .seq ( .reg [2,0] false [oM 3 0,⟨some 4,
 none,.build [.int .i64 0,.int .i64 0,.str []] [(0,1),(1,1)],[oK 1,.tmp 3]⟩,oS 3 2 4]) ( .ret))
def zEg : AF:={ results:=[.cell 2 3 true],body:=zIX }
def zIY : AC:=.seq ( .reg [0,2,1] false [oT 4 .box 1,oT 5 .box 2,⟨some 6,none,.alloc [.int .i64 0,.int .i64 0,.str []],[]⟩]) ( .seq ( .seq (
 .reg [6,4,5,0] false [oM 10 0,oI 11 (.bin .lss) [.tmp 10,oK 1],oM 12 11,oG 13 12 false .mv [.tmp 0],oG 14 12 false (.bin .gtr) [.tmp 13,oK 11],oI 15
 .pick [.tmp 12,oB true,.tmp 14]]) ( .cond (.tmp 15) ( .seq ( .reg [6] false [oI 16 (.call zAD true) [oK 4],oS 3 6 16]) ( .ret)) ( .skip))) ( .seq (
 .seq ( .reg [6,4,5,0] false [oM 17 0,oI 18 (.bin .geq) [.tmp 17,oK 8]]) ( .cond (.tmp 18) ( .seq ( .reg [6,4,5,0] false [oL 19 3 true 4,oT 20 (.call
 zAT true) 19,oS 3 4 20]) ( .reg [6,4,5,0] false [oL 21 3 true 5,oT 22 (.call zAT true) 21,oS 3 5 22])) ( .skip))) ( .seq ( .seq (
 .reg [6,4,5,0] false [oF 23 0 4,oL 24 1 false 23,oI 25 (.bin .eql) [.tmp 24,oK 4]]) ( .cond (.tmp 25) ( .seq ( .reg [6,4] false [oL 26 3 true 4,oS 3 6
 26]) ( .ret)) ( .skip))) ( .seq ( .seq ( .reg [6,5,4,0] false [oF 27 0 5,oL 28 1 false 27,oI 29 (.bin .eql) [.tmp 28,oK 4]]) ( .cond (.tmp 29) ( .seq (
 .reg [6,5] false [oL 30 3 true 5,oS 3 6 30]) ( .ret)) ( .skip))) ( .seq ( .seq ( .reg [6,5,4,0] false [oM 31 0,oI 32 (.bin .geq) [.tmp 31,oK 8]]) ( .cond
 (.tmp 32) ( .seq ( .reg [6,5,4,0] false [oM 33 0,oF 34 1 4,oL 35 1 false 34,oF 36 1 5,oL 37 1 false 36,oI 38 (.call zA3 true) [.tmp 33,.tmp
 35,.tmp 37],oS 3 6 38]) ( .ret)) ( .skip))) ( .seq ( .seq ( .reg [6,5,4,0] false [oM 39 0,oI 40 (.bin .eql) [.tmp 39,oK 7]]) ( .cond (.tmp 40) ( .seq (
 .reg [6,5,4] true [oL 41 3 true 4,oT 42 (.call zDv true) 41,oL 43 3 true 5,oT 44 (.call zDv true) 43,oD 45 (.bin .add) 42 44,oM 7
 45]) ( .seq ( .seq ( .reg [6,7] false [oM 46 7,oT 47 (.len true) 46,oI 48 (.bin .gtr) [.tmp 47,oK 200]]) ( .cond (.tmp 48) ( .seq ( .reg [6] false [oI 49
 (.call zAD true) [oK 2],oS 3 6 49]) ( .ret)) ( .skip))) ( .seq ( .reg [6,7] false [oM 50 7,oT 51 (.call zIR true) 50,oS 3 6 51]) (
 .ret)))) ( .skip))) ( .seq ( .reg [6,0,4,5] true [oL 52 3 true 4,oL 53 3 true 5,oD 54 (.call zC5 true) 52 53,oL 55 3 true 5,oL 56 3 true 4,
 oD 57 (.call zC5 true) 55 56,oD 58 (.call z6 true) 54 57,oM 8 58]) ( .seq ( .reg [6,8,0] false [oI 9 .mv [oB false]]) ( .seq (
 .seq ( .reg [6,8,9,0] false [oM 59 0]) ( .block 0 [6,9] ( .seq ( .reg [6,8,9,59] false [oI 61 (.bin .eql) [.tmp 59,oK 1],oM 60 61]) ( .cond (.tmp 60) (
 .reg [6,8] false [oM 62 8,oI 63 (.bin .eql) [.tmp 62,oK 0],oM 9 63]) ( .seq ( .reg [6,8,9,59] false [oI 65 (.bin .eql) [.tmp 59,oK 2],oM 64 65]) ( .cond
 (.tmp 64) ( .reg [6,8] false [oM 66 8,oI 67 (.bin .neq) [.tmp 66,oK 0],oM 9 67]) ( .seq ( .reg [6,8,9,59] false [oI 69 (.bin .eql) [.tmp 59,oK 3],oM 68
 69]) ( .cond (.tmp 68) ( .reg [6,8] false [oM 70 8,oI 71 (.bin .lss) [.tmp 70,oK 0],oM 9 71]) ( .seq ( .reg [6,8,9,59] false [oI 73 (.bin .eql) [.tmp 59,
 oK 4],oM 72 73]) ( .cond (.tmp 72) ( .reg [6,8] false [oM 74 8,oI 75 (.bin .leq) [.tmp 74,oK 0],oM 9 75]) ( .seq ( .reg [6,8,9,59] false [oI 77 (.bin
 .eql) [.tmp 59,oK 5],oM 76 77]) ( .cond (.tmp 76) ( .reg [6,8] false [oM 78 8,oI 79 (.bin .gtr) [.tmp 78,oK 0],oM 9 79]) ( .seq ( .reg [6,8,9,59] false
 [oI 81 (.bin .eql) [.tmp 59,oK 6],oM 80 81]) ( .cond (.tmp 80) ( .reg [6,8] false [oM 82 8,oI 83 (.bin .geq) [.tmp 82,oK 0],oM 9 83]) (
 .skip))))))))))))))) ( .seq ( .reg [6,9] false [oM 84 9,oT 85 (.call zIS true) 84,oS 3 6 85]) ( .ret)))))))))))
def zEh : AF:={ results:=[.cell 6 3 true],body:=zIY }
def zFK : AC:=.seq ( .reg [1,0] false [oT 2 .box 0,oT 3 .box 1,oI 4 .mv [oK 0]]) ( .seq ( .reg [2,3] false [oL 7 3 true 2,oL 8 3 true 3,oD
 9 (.call zAw true) 7 8,oM 5 9]) ( .seq ( .reg [5,2,3] false [oL 10 3 true 3,oL 11 3 true 2,oD 12 (.call zAw true) 10 11,oM 6 12]) (
 .seq ( .seq ( .reg [6,5] false [oM 13 5]) ( .cond (.tmp 13) ( .seq ( .reg [] false [oI 4 .mv [oK (-1)]]) ( .ret)) ( .skip))) ( .seq ( .seq ( .reg [6] false [oM
 14 6]) ( .cond (.tmp 14) ( .seq ( .reg [] false [oI 4 .mv [oK 1]]) ( .ret)) ( .skip))) ( .seq ( .reg [] false [oI 4 .mv [oK 0]]) ( .ret))))))
def zCd : AF:={ results:=[.tmp 4],body:=zFK }
def zIZ : AC:=.seq ( .reg [0] false [oT 1 .box 0,oI 2 .mv [.const (.nili)]]) ( .seq ( .reg [1] false [oI 3 .mv [oB false]]) ( .seq ( .seq ( .reg [1,
 3] false [oF 4 0 1,oL 5 1 false 4]) ( .block 0 [3] ( .seq ( .reg [1,3,5] false [oI 7 (.bin .eql) [.tmp 5,oK 0],oM 6 7]) ( .cond (.tmp 6) ( .reg [1] false
 [oF 8 1 1,oL 9 1 false 8,oI 10 (.bin .eql) [.tmp 9,oK 0],oM 11 10,oG 12 11 true (.fieldAddr 2) [.tmp 1],oG 13 11 true (.load 1 false) [.tmp 12],oG 14 11
 true (.bin .eql) [.tmp 13,.const (.str [])],oI 15 .pick [.tmp 11,.tmp 14,oB false],oM 3 15]) ( .seq ( .reg [1,3,5] false [oI 17 (.bin .eql) [.tmp 5,oK
 1],oM 16 17]) ( .cond (.tmp 16) ( .reg [1] false [oF 18 2 1,oL 19 1 false 18,oI 20 (.bin .eql) [.tmp 19,.const (.str [])],oM 3 20]) ( .seq ( .reg [1,3,5]
 false [oI 22 (.bin .eql) [.tmp 5,oK 2],oM 21 22]) ( .cond (.tmp 21) ( .reg [1] false [oF 23 1 1,oL 24 1 false 23,oI 25 (.bin .eql) [.tmp 24,oK 0],oM 26 25,
 oG 27 26 true (.fieldAddr 2) [.tmp 1],oG 28 26 true (.load 1 false) [.tmp 27],oG 29 26 true (.len true) [.tmp 28],oG 30 26 true (.bin .leq) [.tmp 29,oK 200],
 oI 31 .pick [.tmp 26,.tmp 30,oB false],oM 3 31]) ( .seq ( .reg [1,3,5] false [oI 33 (.bin .eql) [.tmp 5,oK 3],oM 32 33]) ( .cond (.tmp 32) ( .reg [1]
 false [oF 34 1 1,oL 35 1 false 34,oI 36 (.bin .eql) [.tmp 35,oK 0],oM 37 36,oG 38 37 false (.fieldAddr 1) [.tmp 1],oG 39 37 false (.load 1 false) [.tmp
 38],oG 40 37 false (.bin .eql) [.tmp 39,oK 1],oI 41 .pick [.tmp 37,oB true,.tmp 40],oM 42 41,oG 43 42 true (.fieldAddr 2) [.tmp 1],oG 44 42 true (.load 1
 false) [.tmp 43],oG 45 42 true (.bin .eql) [.tmp 44,.const (.str [])],oI 46 .pick [.tmp 42,.tmp 45,oB false],oM 3 46]) ( .seq ( .reg [1,3,5] false [oI 48
 (.bin .eql) [.tmp 5,oK 4],oM 47 48]) ( .cond (.tmp 47) ( .reg [1] false [oF 49 1 1,oL 50 1 false 49,oI 51 (.bin .geq) [.tmp 50,oK 1],oM 52 51,oG 53 52
 true (.fieldAddr 1) [.tmp 1],oG 54 52 true (.load 1 false) [.tmp 53],oG 55 52 true (.bin .leq) [.tmp 54,oK 6],oI 56 .pick [.tmp 52,.tmp 55,oB false],oM 57
 56,oG 58 57 true (.fieldAddr 2) [.tmp 1],oG 59 57 true (.load 1 false) [.tmp 58],oG 60 57 true (.bin .eql) [.tmp 59,.const (.str [])],oI 61 .pick [.tmp 57,
 .tmp 60,oB false],oM 3 61]) ( .skip))))))))))))) ( .seq ( .seq ( .reg [3] false [oM 62 3,oT 63 (.un .not) 62]) ( .cond (.tmp 63) ( .seq ( .reg [] false [oI 64
 (.mkIface zAR) [oK 1],oM 2 64]) ( .ret)) ( .skip))) ( .seq ( .reg [] false [oI 2 .mv [.const (.nili)]]) ( .ret)))))
def zEi : AF:={ results:=[.tmp 2],body:=zIZ }
def zKN : AC:=.seq ( .reg [0] false [⟨some 2,none,.alloc [.int .i64 0,.int .i64 0,.str []],[]⟩]) ( .seq ( .reg [2,0] false [oM 3 0,⟨some 4,
 none,.build [.int .i64 0,.int .i64 0,.str []] [(0,1),(1,1)],[oK 1,.tmp 3]⟩,oS 3 2 4]) ( .ret))
def zGp : AF:={ results:=[.cell 2 3 true],body:=zKN }
def zKO : AC:=.seq ( .reg [0,2,1] false [oT 4 .box 1,oT 5 .box 2,⟨some 6,none,.alloc [.int .i64 0,.int .i64 0,.str []],[]⟩]) ( .seq ( .block 0
 [6,4,5,0] ( .seq ( .reg [6,4,5,0] false [oM 10 0,oI 11 (.bin .lss) [.tmp 10,oK 1],oM 12 11,oG 13 12 false .mv [.tmp 0],oG 14 12 false (.bin .gtr)
 [.tmp 13,oK 11],oI 15 .pick [.tmp 12,oB true,.tmp 14],oM 9 15]) ( .cond (.tmp 9) ( .seq ( .reg [6] false [oI 16 (.call zAE true) [oK 4],oS 3 6
 16]) ( .ret)) ( .seq ( .reg [6,4,5,0] false [oM 18 0,oI 19 (.bin .geq) [.tmp 18,oK 8],oM 17 19]) ( .cond (.tmp 17) ( .reg [6,4,5,0] true [oL 20 3 true
 4,oT 21 (.call zAx true) 20,oL 22 3 true 5,oT 23 (.call zAx true) 22,oS 3 4 21,oS 3 5 23]) ( .skip)))))) ( .seq ( .block 1 [6,0,4,
 5] ( .seq ( .reg [6,4,5,0] false [oL 25 3 true 4,oT 26 (.call zBG true) 25,oM 24 26]) ( .cond (.tmp 24) ( .seq ( .reg [6,4] false [oL 27 3 true
 4,oS 3 6 27]) ( .ret)) ( .seq ( .reg [6,5,4,0] false [oL 29 3 true 5,oT 30 (.call zBG true) 29,oM 28 30]) ( .cond (.tmp 28) ( .seq ( .reg [6,5]
 false [oL 31 3 true 5,oS 3 6 31]) ( .ret)) ( .seq ( .reg [6,5,4,0] false [oM 33 0,oI 34 (.bin .geq) [.tmp 33,oK 8],oM 32 34]) ( .cond (.tmp 32) ( .seq (
 .reg [6,5,4,0] false [oM 35 0,oF 36 1 4,oL 37 1 false 36,oF 38 1 5,oL 39 1 false 38,oI 40 (.call zBT true) [.tmp 35,.tmp 37,.tmp 39],oS 3 6
 40]) ( .ret)) ( .seq ( .reg [6,5,4,0] false [oM 42 0,oI 43 (.bin .eql) [.tmp 42,oK 7],oM 41 43]) ( .cond (.tmp 41) ( .seq ( .reg [6,5,4] true [oL 44 3
 true 4,oT 45 (.call zFZ true) 44,oL 46 3 true 5,oT 47 (.call zFZ true) 46,oD 48 (.bin .add) 45 47,oM 7 48]) ( .seq ( .seq ( .reg [6,7]
 false [oM 49 7,oT 50 (.len true) 49,oI 51 (.bin .gtr) [.tmp 50,oK 200]]) ( .cond (.tmp 51) ( .seq ( .reg [6] false [oI 52 (.call zAE true) [oK 2],
 oS 3 6 52]) ( .ret)) ( .skip))) ( .seq ( .reg [6,7] false [oM 53 7,oT 54 (.call zLz true) 53,oS 3 6 54]) ( .ret)))) ( .skip)))))))))) ( .seq ( .reg [6,
 0,4,5] true [oL 55 3 true 4,oL 56 3 true 5,oD 57 (.call zFa true) 55 56,oL 58 3 true 5,oL 59 3 true 4,oD 60 (.call zFa true) 58 59,oD
 61 (.call zBF true) 57 60,oM 8 61]) ( .seq ( .seq ( .reg [6,8,0] false [oM 62 0]) ( .block 2 [6,8] ( .seq ( .reg [6,8,62] false [oI 64 (.bin
 .eql) [.tmp 62,oK 1],oM 63 64]) ( .cond (.tmp 63) ( .seq ( .reg [6,8] false [oM 65 8,oI 66 (.bin .eql) [.tmp 65,oK 0],oT 67 (.call zBs true) 66,oS
 3 6 67]) ( .ret)) ( .seq ( .reg [6,8,62] false [oI 69 (.bin .eql) [.tmp 62,oK 2],oM 68 69]) ( .cond (.tmp 68) ( .seq ( .reg [6,8] false [oM 70 8,oI 71
 (.bin .neq) [.tmp 70,oK 0],oT 72 (.call zBs true) 71,oS 3 6 72]) ( .ret)) ( .seq ( .reg [6,8,62] false [oI 74 (.bin .eql) [.tmp 62,oK 3],oM 73 74])
 ( .cond (.tmp 73) ( .seq ( .reg [6,8] false [oM 75 8,oI 76 (.bin .lss) [.tmp 75,oK 0],oT 77 (.call zBs true) 76,oS 3 6 77]) ( .ret)) ( .seq ( .reg
 [6,8,62] false [oI 79 (.bin .eql) [.tmp 62,oK 4],oM 78 79]) ( .cond (.tmp 78) ( .seq ( .reg [6,8] false [oM 80 8,oI 81 (.bin .leq) [.tmp 80,oK 0],oT 82
 (.call zBs true) 81,oS 3 6 82]) ( .ret)) ( .seq ( .reg [6,8,62] false [oI 84 (.bin .eql) [.tmp 62,oK 5],oM 83 84]) ( .cond (.tmp 83) ( .seq ( .reg
 [6,8] false [oM 85 8,oI 86 (.bin .gtr) [.tmp 85,oK 0],oT 87 (.call zBs true) 86,oS 3 6 87]) ( .ret)) ( .skip))))))))))))) ( .seq ( .reg [6,8] false
 [oM 88 8,oI 89 (.bin .geq) [.tmp 88,oK 0],oT 90 (.call zBs true) 89,oS 3 6 90]) ( .ret))))))
def zGq : AF:={ results:=[.cell 6 3 true],body:=zKO }
def zIa : AC:=.seq ( .reg [0] false [⟨some 2,none,.alloc [.int .i64 0,.int .i64 0,.str []],[]⟩]) ( .seq ( .reg [2,0] false [oM 3 0,⟨some 4,
 none,.build [.int .i64 0,.int .i64 0,.str []] [(0,1),(1,1)],[oK 4,.tmp 3]⟩,oS 3 2 4]) ( .ret))
def zEj : AF:={ results:=[.cell 2 3 true],body:=zIa }
def zFs : AC:=.seq ( .reg [0] false [oT 1 .box 0,⟨some 2,none,.alloc [.int .i64 0,.int .i64 0,.str []],[]⟩]) ( .seq ( .seq ( .reg [2,1]
 false [oF 4 0 1,oL 5 1 false 4]) ( .block 0 [2,1] ( .seq ( .seq ( .reg [2,1,5] false [oI 7 (.bin .eql) [.tmp 5,oK 1],oM 6 7]) ( .cond (.tmp 6) ( .skip) (
 .reg [2,1,5] false [oI 8 (.bin .eql) [.tmp 5,oK 4],oM 6 8]))) ( .cond (.tmp 6) ( .seq ( .reg [2,1] false [oL 9 3 true 1,oS 3 2 9]) ( .ret)) ( .seq ( .reg
 [2,1,5] false [oI 11 (.bin .eql) [.tmp 5,oK 0],oM 10 11]) ( .cond (.tmp 10) ( .seq ( .reg [2] false [oI 12 (.call zx true) [oK 0],oS 3 2 12]) (
 .ret)) ( .seq ( .reg [2,1,5] false [oI 14 (.bin .eql) [.tmp 5,oK 3],oM 13 14]) ( .cond (.tmp 13) ( .seq ( .reg [2,1] false [oF 15 1 1,oL 16 1 false 15,oT
 17 (.call zx true) 16,oS 3 2 17]) ( .ret)) ( .skip))))))))) ( .seq ( .reg [2,1] false [oF 18 2 1,oL 19 1 false 18,oT 20 (.call zG4
 true) 19,⟨some 3,none,.alloc [.int .i64 0,.int .i64 0,.str []],[]⟩,oS 3 3 20]) ( .seq ( .seq ( .reg [2,3] false [oF 21 0 3,oL 22 1 false 21,oI 23 (.bin
 .eql) [.tmp 22,oK 1]]) ( .cond (.tmp 23) ( .seq ( .reg [2,3] false [oL 24 3 true 3,oS 3 2 24]) ( .ret)) ( .skip))) ( .seq ( .reg [2] false [oI 25 (.call
 zAD true) [oK 2],oS 3 2 25]) ( .ret)))))
def zC8 : AF:={ results:=[.cell 2 3 true],body:=zFs }
def zFt : AC:=.seq ( .reg [2,0,1] false [⟨some 6,none,.alloc [.int .i64 0,.int .i64 0,.str []],[]⟩]) ( .seq ( .reg [6,2,0,1] false [oM
 11 1,oT 12 (.call zo false) 11,oM 7 12]) ( .seq ( .reg [6,7,2,0] false [oM 13 2,oT 14 (.call zo false) 13,oM 8 14])
 ( .seq ( .reg [6,8,7,2,0] false [⟨some 15,none,.alloc [.bool false,.lst (some true) 0 []],[]⟩,oM 9 15]) ( .seq ( .seq ( .reg [6,9,8,7,2,0] false
 [oM 16 0]) ( .block 0 [6,9] ( .seq ( .reg [6,9,8,7,2,16] false [oI 25 (.bin .eql) [.tmp 16,oK 8],oM 24 25]) ( .cond (.tmp 24) ( .reg [6,9,8,7] false
 [oM 26 9,oM 27 7,oM 28 8,oI 29 (.call zy false) [.tmp 26,.tmp 27,.tmp 28]]) ( .seq ( .reg [6,9,8,7,2,16] false [oI 31 (.bin .eql)
 [.tmp 16,oK 9],oM 30 31]) ( .cond (.tmp 30) ( .reg [6,9,8,7] false [oM 32 9,oM 33 7,oM 34 8,oI 35 (.call zCr true) [.tmp 32,.tmp 33,
 .tmp 34]]) ( .seq ( .reg [6,9,8,7,2,16] false [oI 37 (.bin .eql) [.tmp 16,oK 10],oM 36 37]) ( .cond (.tmp 36) ( .reg [6,9,8,7] false [oM 38 9,oM 39 7,
 oM 40 8,oI 41 (.call zCs false) [.tmp 38,.tmp 39,.tmp 40]]) ( .seq ( .seq ( .reg [6,9,8,7,2] false [oM 17 2,oI 18 (.bin .eql) [.tmp
 17,oK 0]]) ( .cond (.tmp 18) ( .seq ( .reg [6] false [oI 19 (.call zAD true) [oK 1],oS 3 6 19]) ( .ret)) ( .skip))) ( .reg [6,9,8,7] false [oM 20
 9,oM 21 7,oM 22 8,oI 23 (.call zCt true) [.tmp 20,.tmp 21,.tmp 22]])))))))))) ( .seq ( .reg [6,9] false [oM 42 9,oT 43 (.call
 zBU true) 42,oM 10 43]) ( .seq ( .seq ( .reg [6,9,10] false [oM 44 10,oT 45 (.un .not) 44]) ( .cond (.tmp 45) ( .seq ( .reg [6] false [oI 46
 (.call zAD true) [oK 5],oS 3 6 46]) ( .ret)) ( .skip))) ( .seq ( .reg [6,9] false [oM 47 9,oT 48 (.call zm true) 47,oT 49
 (.call zx true) 48,oS 3 6 49]) ( .ret))))))))
def zC9 : AF:={ results:=[.cell 6 3 true],body:=zFt }
def zHF : AC:=.seq ( .reg [1,0] false [oT 2 .box 0,oT 3 .box 1,oI 4 .mv [oB false]]) ( .seq ( .seq ( .reg [3,2] false [oF 5 0 2,oL 6 1 false 5,
 oF 7 0 3,oL 8 1 false 7,oD 9 (.bin .neq) 6 8]) ( .cond (.tmp 9) ( .seq ( .reg [3,2] false [oF 10 0 2,oL 11 1 false 10,oF 12 0 3,oL 13 1 false 12,oD 14
 (.bin .lss) 11 13,oM 4 14]) ( .ret)) ( .skip))) ( .seq ( .seq ( .reg [3,2] false [oF 15 0 2,oL 16 1 false 15,oI 17 (.bin .eql) [.tmp 16,oK 2]]) ( .cond
 (.tmp 17) ( .seq ( .reg [3,2] false [oF 18 2 2,oL 19 1 false 18,oF 20 2 3,oL 21 1 false 20,oD 22 (.bin .lss) 19 21,oM 4 22]) ( .ret)) ( .skip))) ( .seq (
 .reg [3,2] false [oF 23 1 2,oL 24 1 false 23,oF 25 1 3,oL 26 1 false 25,oD 27 (.bin .lss) 24 26,oM 4 27]) ( .ret))))
def zDy : AF:={ results:=[.tmp 4],body:=zHF }
def zIb : AC:=.seq ( .reg [0] false [⟨some 2,none,.alloc [.int .i64 0,.int .i64 0,.str []],[]⟩]) ( .seq ( .reg [2,0] false [oM 3 0,⟨some 4,
 none,.build [.int .i64 0,.int .i64 0,.str []] [(0,1),(1,1)],[oK 4,.tmp 3]⟩,oS 3 2 4]) ( .ret))
def zEk : AF:={ results:=[.cell 2 3 true],body:=zIb }
def zHG : AC:=.seq ( .reg [0] false [oT 1 .box 0,⟨some 2,none,.alloc [.int .i64 0,.int .i64 0,.str []],[]⟩]) ( .seq ( .seq ( .reg [2,1] false
 [oF 5 0 1,oL 6 1 false 5]) ( .block 0 [2,1] ( .seq ( .seq ( .reg [2,1,6] false [oI 8 (.bin .eql) [.tmp 6,oK 1],oM 7 8]) ( .cond (.tmp 7) ( .skip) ( .reg
 [2,1,6] false [oI 9 (.bin .eql) [.tmp 6,oK 4],oM 7 9]))) ( .cond (.tmp 7) ( .seq ( .reg [2,1] false [oL 10 3 true 1,oS 3 2 10]) ( .ret)) ( .seq ( .reg [2,
 1,6] false [oI 12 (.bin .eql) [.tmp 6,oK 2],oM 11 12]) ( .cond (.tmp 11) ( .seq ( .seq ( .reg [2,1] false [oF 14 2 1,oL 15 1 false 14,oT 16 (.call
 zIT true) 15,oM 13 16,oT 17 (.extract 0) 13,oT 18 (.extract 1) 13,oM 3 17,oM 4 18]) ( .seq ( .reg [2,3,4] false [oM 19 4]) ( .cond (.tmp 19) (
 .seq ( .reg [2,3] false [oM 20 3,oT 21 (.call zt true) 20,oS 3 2 21]) ( .ret)) ( .skip)))) ( .seq ( .reg [2] false [oI 22 (.call zAE true)
 [oK 2],oS 3 2 22]) ( .ret))) ( .skip))))))) ( .seq ( .reg [2,1] false [oF 23 1 1,oL 24 1 false 23,oT 25 (.call zt true) 24,oS 3 2 25]) ( .ret)))
def zDz : AF:={ results:=[.cell 2 3 true],body:=zHG }
def zIc : AC:=.seq ( .reg [0] false [oT 1 .box 0,oI 2 .mv [oB false]]) ( .seq ( .reg [1] false [oF 3 0 1,oL 4 1 false 3,oI 5 (.bin .eql) [.tmp 4,
 oK 4],oM 2 5]) ( .ret))
def zEl : AF:={ results:=[.tmp 2],body:=zIc }
def zHH : AC:=.seq ( .reg [2,1,0] false [⟨some 6,none,.alloc [.int .i64 0,.int .i64 0,.str []],[]⟩]) ( .seq ( .seq ( .reg [6,2,1,0] false
 [oM 13 0]) ( .block 0 [6] ( .seq ( .reg [6,2,1,13] false [oI 15 (.bin .eql) [.tmp 13,oK 8],oM 14 15]) ( .cond (.tmp 14) ( .seq ( .reg [6,2,1] false [oM 16
 1,oM 17 2,oD 18 (.bin .add) 16 17,oM 7 18]) ( .seq ( .reg [6,7,2,1] false [oM 19 7,oM 20 1,oD 21 (.bin .geq) 19 20,oM 22 2,oI 23 (.bin .geq) [.tmp 22,
 oK 0],oD 24 (.eqb false) 21 23]) ( .cond (.tmp 24) ( .seq ( .reg [6,7] false [oM 25 7,oT 26 (.call zt true) 25,oS 3 6 26]) ( .ret)) ( .skip)))) (
 .seq ( .reg [6,2,1,13] false [oI 28 (.bin .eql) [.tmp 13,oK 9],oM 27 28]) ( .cond (.tmp 27) ( .seq ( .reg [6,2,1] false [oM 29 1,oM 30 2,oD 31 (.bin
 .sub) 29 30,oM 8 31]) ( .seq ( .reg [6,8,2,1] false [oM 32 8,oM 33 1,oD 34 (.bin .leq) 32 33,oM 35 2,oI 36 (.bin .geq) [.tmp 35,oK 0],oD 37 (.eqb
 false) 34 36]) ( .cond (.tmp 37) ( .seq ( .reg [6,8] false [oM 38 8,oT 39 (.call zt true) 38,oS 3 6 39]) ( .ret)) ( .skip)))) ( .seq ( .reg [6,2,1,
 13] false [oI 41 (.bin .eql) [.tmp 13,oK 10],oM 40 41]) ( .cond (.tmp 40) ( .seq ( .reg [6,2,1] false [oM 43 1,oT 44 (.call zGi true) 43,oM 45 2,
 oT 46 (.call zGi true) 45,oD 47 (.call zJX true) 44 46,oM 42 47,oT 48 (.extract 0) 42,oT 49 (.extract 1) 42,oM 9 48,oM 10 49]) ( .seq (
 .reg [6,2,1,10,9] false [oM 50 1,oI 51 (.bin .lss) [.tmp 50,oK 0],oM 52 2,oI 53 (.bin .lss) [.tmp 52,oK 0],oD 54 (.eqb true) 51 53,oM 11 54]) ( .seq (
 .reg [6,2,1,10,11,9] false [oM 55 9,oI 56 (.bin .eql) [.tmp 55,.const (.int .u64 0)],oM 57 56,oG 58 57 true .mv [.tmp 10],oG 59 57 true (.bin .lss)
 [.tmp 58,.const (.int .u64 9223372036854775808)],oG 60 57 true .mv [.tmp 59],oG 61 60 false .mv [.tmp 11],oG 62 60 false .mv [.tmp 61],oG 63 62 true .mv
 [.tmp 10],oG 64 62 true (.bin .eql) [.tmp 63,.const (.int .u64 9223372036854775808)],oG 65 60 false .pick [.tmp 62,.tmp 64,oB false],oG 66 57 true .pick
 [.tmp 60,oB true,.tmp 65],oI 67 .pick [.tmp 57,.tmp 66,oB false]]) ( .cond (.tmp 67) ( .seq ( .reg [6,2,1] false [oM 68 1,oM 69 2,oD 70 (.bin .mul) 68
 69,oT 71 (.call zt true) 70,oS 3 6 71]) ( .ret)) ( .skip))))) ( .seq ( .reg [6,1,2,13] false [oI 73 (.bin .eql) [.tmp 13,oK 11],oM 72 73]) (
 .cond (.tmp 72) ( .seq ( .seq ( .reg [6,1,2] false [oM 74 2,oI 75 (.bin .eql) [.tmp 74,oK 0]]) ( .cond (.tmp 75) ( .seq ( .reg [6] false [oI 76 (.call
 zAE true) [oK 1],oS 3 6 76]) ( .ret)) ( .skip))) ( .seq ( .reg [6,1,2] false [oM 77 1,oM 78 2,oD 79 (.bin .quo) 77 78,oM 12 79]) ( .seq ( .reg
 [6,12,1,2] false [oM 80 2,oI 81 (.bin .neq) [.tmp 80,oK (-1)],oM 82 81,oG 83 82 false .mv [.tmp 1],oG 84 82 false (.bin .eql) [.tmp 83,oK 0],oI 85
 .pick [.tmp 82,oB true,.tmp 84],oM 86 85,oG 87 86 false .mv [.tmp 12],oG 88 86 false (.bin .lss) [.tmp 87,oK 0],oG 89 86 false .mv [.tmp 1],oG 90 86
 false (.bin .gtr) [.tmp 89,oK 0],oG 91 86 false (.eqb false) [.tmp 88,.tmp 90],oI 92 .pick [.tmp 86,oB true,.tmp 91]]) ( .cond (.tmp 92) ( .seq ( .reg [6,
 12] false [oM 93 12,oT 94 (.call zt true) 93,oS 3 6 94]) ( .ret)) ( .skip))))) ( .skip))))))))))) ( .seq ( .reg [6] false [oI 95 (.call zAE
 true) [oK 5],oS 3 6 95]) ( .ret)))
def zD0 : AF:={ results:=[.cell 6 3 true],body:=zHH }
def zDU : AC:=.seq ( .reg [0] false [oI 2 .mv [.const (.nilp)]]) ( .seq ( .reg [0] false [⟨some 3,none,.alloc [.bool false,.lst (some
 true) 0 []],[]⟩,oM 4 0,oD 5 (.call zc false) 3 4,oM 2 5]) ( .ret))
def zDV : AF:={ results:=[.tmp 2],body:=zDU }
def zCv : AC:=.seq ( .reg [2,1,0] false [oI 6 .mv [.const (.nilp)]]) ( .seq ( .reg [2,1,0] true [oM 7 0,oM 8 1,oN 9 8,oF 10 0 9,oL
 11 1 false 10,oM 12 1,oN 13 12,oF 14 1 13,oL 15 1 false 14,oM 16 2,oN 17 16,oF 18 0 17,oL 19 1 false 18,oM 20 2,oN 21 20,oF 22 1 21,oL 23 1 false 22,
 oI 24 (.call zAZ true) [.tmp 11,.tmp 15,.tmp 19,.tmp 23],oT 25 (.extract 0) 24,oT 26 (.extract 1) 24,oI 27 (.call zV
 false) [.tmp 7,.tmp 25,.tmp 26],oM 6 27]) ( .ret))
def zBH : AF:={ results:=[.tmp 6],body:=zCv }
def zHI : AC:=.seq ( .reg [0] false [oI 2 .mv [oB false]]) ( .seq ( .reg [0] false [oM 3 0,oT 4 (.call ze true) 3,oM 2
 4]) ( .ret))
def zD1 : AF:={ results:=[.tmp 2],body:=zHI }
def zCQ : AC:=.seq ( .reg [0] false [oI 2 .mv [oK 0]]) ( .seq ( .reg [0] false [oM 4 0,oT 5 (.call zj true) 4,
 oT 6 (.convInt .i64) 5,oM 3 6]) ( .seq ( .seq ( .reg [3,0] false [oM 7 0,oN 8 7,oF 9 0 8,oL 10 1 false 9]) ( .cond (.tmp 10) ( .reg [3] false [oM 11 3,oT
 12 (.un .neg) 11,oM 3 12]) ( .skip))) ( .seq ( .reg [3] false [oM 13 3,oM 2 13]) ( .ret))))
def zAy : AF:={ results:=[.tmp 2],body:=zCQ }
def zBm : AC:=.seq ( .reg [1,0] false [oI 4 .mv [.const (.nilp)]]) ( .seq ( .reg [1,0] false [oM 6 1,oT 7 (.convInt .u64) 6,oM 5
 7]) ( .seq ( .seq ( .reg [1,0,5] false [oM 8 1,oI 9 (.bin .lss) [.tmp 8,oK 0]]) ( .cond (.tmp 9) ( .reg [1,0,5] false [oM 10 5,oT 11 (.un .neg) 10,oM 5
 11]) ( .skip))) ( .seq ( .reg [5,1,0] false [oM 12 0,oM 13 1,oI 14 (.bin .lss) [.tmp 13,oK 0],oM 15 5,oT 16 (.call zAJ true) 15,oI 17
 (.call zV false) [.tmp 12,.tmp 14,.tmp 16],oM 4 17]) ( .ret))))
def zAd : AF:={ results:=[.tmp 4],body:=zBm }
def zCe : AC:=.seq ( .reg [0,2,1] false [oI 6 .mv [.const (.nilp)]]) ( .seq ( .reg [0,2,1] false [oM 7 0,oM 8 2,oN 9 7,oF 10 1 9,
 oS 1 10 8]) ( .seq ( .reg [0,2,1] false [oM 11 0,oM 12 1,oM 13 12,oG 14 13 true .mv [.tmp 2],oG 15 13 true (.len false) [.tmp 14],oG 16 13 true (.bin
 .gtr) [.tmp 15,oK 0],oI 17 .pick [.tmp 13,.tmp 16,oB false],oN 18 11,oF 19 0 18,oS 1 19 17]) ( .seq ( .reg [0] false [oM 20 0,oM 6 20]) ( .ret))))
def zA7 : AF:={ results:=[.tmp 6],body:=zCe }
def zEm : AC:=.seq ( .reg [3,1,0,2] false [oI 8 .mv [oB false],oI 9 .mv [.const (.lst (some true) 0 [])]]) ( .seq ( .seq ( .reg [3,1,0,2]
 false [oM 10 0,oM 11 2,oD 12 (.eqb false) 10 11]) ( .cond (.tmp 12) ( .seq ( .reg [3,1,0] false [oM 13 0,oM 14 1,oM 15 3,oD 16 (.call zAa
 true) 14 15,oM 8 13,oM 9 16]) ( .ret)) ( .skip))) ( .seq ( .seq ( .reg [3,1,0,2] false [oM 17 1,oM 18 3,oD 19 (.call zAb true) 17 18,oI 20
 (.bin .geq) [.tmp 19,oK 0]]) ( .cond (.tmp 20) ( .seq ( .reg [3,1,0] false [oM 21 0,oM 22 1,oM 23 3,oD 24 (.call zAF true) 22 23,oM 8 21,
 oM 9 24]) ( .ret)) ( .skip))) ( .seq ( .reg [1,3,2] false [oM 25 2,oM 26 3,oM 27 1,oD 28 (.call zAF true) 26 27,oM 8 25,oM 9 28]) (
 .ret))))
def zCH : AF:={ results:=[.tmp 8,.tmp 9],body:=zEm }
def zB2 : AC:=.seq ( .reg [0] false [oI 2 .mv [oB false]]) ( .seq ( .reg [0] false [oM 4 0,oN 5 4,oF 6 1 5,oL 7 1 false 6,oT 8
 (.call zAG true) 7,oM 3 8]) ( .seq ( .reg [0,3] false [oM 9 3,oI 10 (.bin .lss) [.tmp 9,oK 64],oM 11 10,oG 12 11 false .mv [.tmp 3],oG
 13 11 false (.bin .eql) [.tmp 12,oK 64],oG 14 11 false .mv [.tmp 13],oG 15 14 true .mv [.tmp 0],oG 16 14 true .nilchk [.tmp 15],oG 17 14 true (.fieldAddr 0)
 [.tmp 16],oG 18 14 true (.load 1 false) [.tmp 17],oG 19 11 false .pick [.tmp 14,.tmp 18,oB false],oG 20 11 false .mv [.tmp 19],oG 21 20 true .mv [.tmp 0],
 oG 22 20 true (.call zQ true) [.tmp 21],oG 23 20 true (.bin .eql) [.tmp 22,.const (.int .u64 63)],oG 24 11 false .pick [.tmp
 20,.tmp 23,oB false],oI 25 .pick [.tmp 11,oB true,.tmp 24],oM 2 25]) ( .ret)))
def zAh : AF:={ results:=[.tmp 2],body:=zB2 }
def zB9 : AC:=.seq ( .reg [0] false [oI 2 .mv [.const (.int .u64 0)]]) ( .seq ( .reg [0] false [oI 3 .mv [.const (.int .u64 0)]]) ( .seq
 ( .seq ( .reg [0,3] false [oM 4 0,oN 5 4,oF 6 1 5,oL 7 1 false 6,oT 8 (.len false) 7,oI 9 (.bin .gtr) [.tmp 8,oK 0]]) ( .cond (.tmp 9) ( .reg [0] false
 [oM 10 0,oN 11 10,oF 12 1 11,oL 13 1 false 12,oI 14 (.idxAddr 1) [.tmp 13,oK 0],oL 15 1 false 14,oT 16 (.convInt .u64) 15,oM 3 16]) ( .skip))) ( .seq (
 .seq ( .reg [0,3] false [oM 17 0,oN 18 17,oF 19 1 18,oL 20 1 false 19,oT 21 (.len false) 20,oI 22 (.bin .gtr) [.tmp 21,oK 1]]) ( .cond (.tmp 22) ( .reg
 [0,3] false [oM 23 3,oM 24 0,oN 25 24,oF 26 1 25,oL 27 1 false 26,oI 28 (.idxAddr 1) [.tmp 27,oK 1],oL 29 1 false 28,oT 30 (.convInt .u64) 29,oI 31
 (.bin .shl) [.tmp 30,.const (.int .u64 32)],oD 32 (.bin .or) 23 31,oM 3 32]) ( .skip))) ( .seq ( .reg [3] false [oM 33 3,oM 2 33]) ( .ret)))))
def zAt : AF:={ results:=[.tmp 2],body:=zB9 }
def zDl : AC:=.seq ( .reg [0] false [oI 2 .mv [.const (.lst (some true) 0 [])]]) ( .seq ( .reg [0] false [oM 3 0,oT 4 (.convInt .u32) 3,oM 5
 0,oI 6 (.bin .shr) [.tmp 5,.const (.int .u64 32)],oT 7 (.convInt .u32) 6,oD 8 (.bslice 1) 4 7,oT 9 (.call za true) 8,oM 2 9]) ( .ret))
def zBg : AF:={ results:=[.tmp 2],body:=zDl }
def zDm : AC:=.seq ( .seq ( .reg [5,1,0,7,6] false [oM 19 7,oM 20 0,oT 21 (.len false) 20,oD 22 (.bin .lss) 19 21]) ( .cond (.tmp 22) (
 .skip) ( .exit 0))) ( .seq ( .block 1 [5,1,0,6,7] ( .seq ( .reg [5,1,0,7,6] false [oM 25 6,oM 26 0,oM 27 7,oD 28 (.idxAddr 1) 26 27,oL 29 1 false 28,
 oT 30 (.convInt .u64) 29,oD 31 (.bin .add) 25 30,oM 6 31]) ( .seq ( .seq ( .reg [5,1,0,7,6] false [oM 32 7,oM 33 1,oT 34 (.len false) 33,oD 35 (.bin
 .lss) 32 34]) ( .cond (.tmp 35) ( .reg [5,1,0,7,6] false [oM 36 6,oM 37 1,oM 38 7,oD 39 (.idxAddr 1) 37 38,oL 40 1 false 39,oT 41 (.convInt .u64) 40,oD
 42 (.bin .add) 36 41,oM 6 42]) ( .skip))) ( .seq ( .reg [5,1,0,7,6] false [oM 43 5,oM 44 7,oM 45 6,oT 46 (.convInt .u32) 45,oD 47 (.idxAddr 1) 43 44,oS
 1 47 46]) ( .reg [5,1,0,7,6] false [oM 48 6,oI 49 (.bin .shr) [.tmp 48,.const (.int .u64 32)],oM 6 49]))))) ( .reg [5,1,0,6,7] false [oM 23 7,oI 24
 (.bin .add) [.tmp 23,oK 1],oM 7 24]))
def zCI : AC:=.seq ( .reg [0,1] false [oI 4 .mv [.const (.lst (some true) 0 [])]]) ( .seq ( .seq ( .reg [0,1] false [oM 8 0,oT 9 (.len false)
 8,oM 10 1,oT 11 (.len false) 10,oD 12 (.bin .lss) 9 11]) ( .cond (.tmp 12) ( .reg [0,1] false [oM 13 1,oM 14 0,oM 0 13,oM 1 14]) ( .skip))) ( .seq ( .reg
 [1,0] false [oM 15 0,oT 16 (.len false) 15,oI 17 (.bin .add) [.tmp 16,oK 1],⟨some 18,none,.make 1 4 (.int .u32 0),[.tmp 17,.tmp 17]⟩,oM 5 18]) ( .seq (
 .reg [5,1,0] false [oI 6 .mv [.const (.int .u64 0)]]) ( .seq ( .seq ( .reg [5,1,0,6] false [oI 7 .mv [oK 0]]) ( .block 0 [5,6,0] ( .loop [7,5,1,0,6]
 zDm))) ( .seq ( .reg [5,6,0] false [oM 50 5,oM 51 0,oT 52 (.len false) 51,oM 53 6,oT 54 (.convInt .u32) 53,oD 55 (.idxAddr 1) 50 52,oS 1
 55 54]) ( .seq ( .reg [5] false [oM 56 5,oT 57 (.call za true) 56,oM 4 57]) ( .ret)))))))
def zBI : AF:={ results:=[.tmp 4],body:=zCI }
def zDn : AC:=.seq ( .seq ( .reg [5,1,0] false [oM 19 5,oI 20 (.bin .geq) [.tmp 19,oK 0]]) ( .cond (.tmp 20) ( .skip) ( .exit 0))) ( .seq
 ( .block 1 [1,0,5] ( .seq ( .reg [5,1,0] true [oM 23 0,oM 24 5,oD 25 (.idxAddr 1) 23 24,oL 26 1 false 25,oM 27 1,oM 28 5,oD 29 (.idxAddr 1) 27 28,oL
 30 1 false 29,oD 31 (.bin .neq) 26 30]) ( .cond (.tmp 31) ( .seq ( .seq ( .reg [5,1,0] true [oM 32 0,oM 33 5,oD 34 (.idxAddr 1) 32 33,oL 35 1 false 34,oM
 36 1,oM 37 5,oD 38 (.idxAddr 1) 36 37,oL 39 1 false 38,oD 40 (.bin .lss) 35 39]) ( .cond (.tmp 40) ( .seq ( .reg [] false [oI 4 .mv [oK (-1)]]) ( .ret)) (
 .skip))) ( .seq ( .reg [] false [oI 4 .mv [oK 1]]) ( .ret))) ( .skip)))) ( .reg [1,0,5] false [oM 21 5,oI 22 (.bin .sub) [.tmp 21,oK 1],oM 5 22]))
def zEn : AC:=.seq ( .reg [1,0] false [oI 4 .mv [oK 0]]) ( .seq ( .seq ( .reg [1,0] false [oM 6 0,oT 7 (.len false) 6,oM 8 1,oT 9 (.len
 false) 8,oD 10 (.bin .neq) 7 9]) ( .cond (.tmp 10) ( .seq ( .seq ( .reg [1,0] false [oM 11 0,oT 12 (.len false) 11,oM 13 1,oT 14 (.len false) 13,oD 15
 (.bin .lss) 12 14]) ( .cond (.tmp 15) ( .seq ( .reg [] false [oI 4 .mv [oK (-1)]]) ( .ret)) ( .skip))) ( .seq ( .reg [] false [oI 4 .mv [oK 1]]) ( .ret))) (
 .skip))) ( .seq ( .seq ( .reg [1,0] false [oM 16 0,oT 17 (.len false) 16,oI 18 (.bin .sub) [.tmp 17,oK 1],oM 5 18]) ( .block 0 [] ( .loop [5,1,0]
 zDn))) ( .seq ( .reg [] false [oI 4 .mv [oK 0]]) ( .ret))))
def zCJ : AF:={ results:=[.tmp 4],body:=zEn }
def zDo : AC:=.seq ( .seq ( .reg [5,1,0,7,6] false [oM 12 7,oM 13 0,oT 14 (.len false) 13,oD 15 (.bin .lss) 12 14]) ( .cond (.tmp 15) (
 .skip) ( .exit 0))) ( .seq ( .block 1 [5,1,6,0,7] ( .seq ( .reg [5,1,0,7,6] false [oM 18 0,oM 19 7,oD 20 (.idxAddr 1) 18 19,oL 21 1 false 20,oT 22
 (.convInt .u64) 21,oM 23 6,oD 24 (.bin .sub) 22 23,oM 8 24]) ( .seq ( .seq ( .reg [5,1,0,7,8] false [oM 25 7,oM 26 1,oT 27 (.len false) 26,oD 28 (.bin
 .lss) 25 27]) ( .cond (.tmp 28) ( .reg [5,1,0,7,8] false [oM 29 8,oM 30 1,oM 31 7,oD 32 (.idxAddr 1) 30 31,oL 33 1 false 32,oT 34 (.convInt .u64) 33,oD
 35 (.bin .sub) 29 34,oM 8 35]) ( .skip))) ( .seq ( .reg [5,1,0,7,8] false [oM 36 5,oM 37 7,oM 38 8,oT 39 (.convInt .u32) 38,oD 40 (.idxAddr 1) 36 37,oS
 1 40 39]) ( .reg [5,1,0,7,8] false [oM 41 8,oI 42 (.bin .shr) [.tmp 41,.const (.int .u64 63)],oM 6 42]))))) ( .reg [5,1,6,0,7] false [oM 16 7,oI 17
 (.bin .add) [.tmp 16,oK 1],oM 7 17]))
def zEo : AC:=.seq ( .reg [1,0] false [oI 4 .mv [.const (.lst (some true) 0 [])]]) ( .seq ( .reg [1,0] false [oM 9 0,oT 10 (.len false) 9,
 ⟨some 11,none,.make 1 4 (.int .u32 0),[.tmp 10,.tmp 10]⟩,oM 5 11]) ( .seq ( .reg [5,1,0] false [oI 6 .mv [.const (.int .u64 0)]]) ( .seq ( .seq ( .reg [5,
 1,6,0] false [oI 7 .mv [oK 0]]) ( .block 0 [5] ( .loop [7,5,1,6,0] zDo))) ( .seq ( .reg [5] false [oM 43 5,oT 44 (.call
 za true) 43,oM 4 44]) ( .ret)))))
def zCK : AF:={ results:=[.tmp 4],body:=zEo }
def zDW : AC:=.seq ( .seq ( .reg [0,3] false [oM 6 3,oI 7 (.bin .gtr) [.tmp 6,oK 0],oM 8 7,oG 9 8 true .mv [.tmp 0],oG 10 8 true .mv
 [.tmp 3],oG 11 8 true (.bin .sub) [.tmp 10,oK 1],oG 12 8 true (.idxAddr 1) [.tmp 9,.tmp 11],oG 13 8 true (.load 1 false) [.tmp 12],oG 14 8 true (.bin .eql)
 [.tmp 13,.const (.int .u32 0)],oI 15 .pick [.tmp 8,.tmp 14,oB false]]) ( .cond (.tmp 15) ( .skip) ( .exit 0))) ( .block 1 [3,0] ( .reg [0,3] false [oM 16
 3,oI 17 (.bin .sub) [.tmp 16,oK 1],oM 3 17]))
def zEI : AC:=.seq ( .reg [0] false [oI 2 .mv [.const (.lst (some true) 0 [])]]) ( .seq ( .reg [0] false [oM 4 0,oT 5 (.len false) 4,oM 3 5])
 ( .seq ( .block 0 [3,0] ( .loop [3,0] zDW)) ( .seq ( .reg [3,0] false [oM 18 0,oM 19 3,oD 20 (.slc (some 1) false true) 18 19,oM 2 20]) (
 .ret))))
def zB3 : AF:={ results:=[.tmp 2],body:=zEI }
def zCw : AC:=.seq ( .seq ( .reg [0,4,3] false [oM 14 4,oI 15 (.bin .neq) [.tmp 14,.const (.int .u32 0)]]) ( .cond (.tmp 15) ( .skip) (
 .exit 0))) ( .seq ( .block 1 [3,0,4] ( .reg [0,4,3] false [oM 18 3,oI 19 (.bin .add) [.tmp 18,oK 1],oM 3 19])) ( .reg [3,0,4] false [oM 16 4,oI 17
 (.bin .shr) [.tmp 16,.const (.int .u64 1)],oM 4 17]))
def zDX : AC:=.seq ( .reg [0] false [oI 2 .mv [oK 0]]) ( .seq ( .seq ( .reg [0] false [oM 5 0,oT 6 (.len false) 5,oI 7 (.bin .eql) [.tmp 6,
 oK 0]]) ( .cond (.tmp 7) ( .seq ( .reg [] false [oI 2 .mv [oK 0]]) ( .ret)) ( .skip))) ( .seq ( .reg [0] false [oI 3 .mv [oK 0]]) ( .seq ( .seq ( .reg [3,0]
 false [oM 8 0,oM 9 0,oT 10 (.len false) 9,oI 11 (.bin .sub) [.tmp 10,oK 1],oD 12 (.idxAddr 1) 8 11,oL 13 1 false 12,oM 4 13]) ( .block 0 [3,0] ( .loop
 [4,3,0] zCw))) ( .seq ( .reg [3,0] false [oM 20 0,oT 21 (.len false) 20,oI 22 (.bin .sub) [.tmp 21,oK 1],oI 23 (.bin .mul) [.tmp 22,
 oK 32],oM 24 3,oD 25 (.bin .add) 23 24,oM 2 25]) ( .ret)))))
def zBb : AF:={ results:=[.tmp 2],body:=zDX }
def zAp : AC:=.seq ( .seq ( .reg [0,3] false [oM 10 0,oN 11 10,oF 12 1 11,oL 13 1 false 12,oM 14 3,oT 15 (.convInt
 .i64) 14,oD 16 (.call zAc true) 13 15,oI 17 (.bin .eql) [.tmp 16,.const (.int .u64 0)]]) ( .cond (.tmp 17) ( .skip) ( .exit 0))) ( .block 1 [3,
 0] ( .reg [0,3] false [oM 18 3,oI 19 (.bin .add) [.tmp 18,.const (.int .u64 1)],oM 3 19]))
def zAz : AC:=.seq ( .reg [0] false [oI 2 .mv [.const (.int .u64 0)]]) ( .seq ( .reg [0] false [oI 3 .mv [.const (.int .u64
 0)]]) ( .seq ( .seq ( .reg [3,0] false [oM 4 0,oN 5 4,oF 6 1 5,oL 7 1 false 6,oT 8 (.len false) 7,oI 9 (.bin .eql) [.tmp 8,oK 0]]) ( .cond (.tmp 9) ( .seq
 ( .reg [] false [oI 2 .mv [.const (.int .u64 0)]]) ( .ret)) ( .skip))) ( .seq ( .block 0 [3] ( .loop [3,0] zAp)) ( .seq (
 .reg [3] false [oM 20 3,oM 2 20]) ( .ret)))))
def z1 : AF:={ results:=[.tmp 2],body:=zAz }
def zEp : AC:=.seq ( .reg [1,0] false [oI 4 .mv [.const (.int .u64 0)]]) ( .seq ( .seq ( .reg [1,0] false [oM 5 1,oI 6 (.bin .lss) [.tmp 5,
 oK 0],oM 7 6,oG 8 7 false .mv [.tmp 1],oG 9 7 false (.bin .quo) [.tmp 8,oK 32],oG 10 7 false .mv [.tmp 0],oG 11 7 false (.len false) [.tmp 10],oG 12 7
 false (.bin .geq) [.tmp 9,.tmp 11],oI 13 .pick [.tmp 7,oB true,.tmp 12]]) ( .cond (.tmp 13) ( .seq ( .reg [] false [oI 4 .mv [.const (.int .u64 0)]]) (
 .ret)) ( .skip))) ( .seq ( .reg [1,0] false [oM 14 0,oM 15 1,oI 16 (.bin .quo) [.tmp 15,oK 32],oD 17 (.idxAddr 1) 14 16,oL 18 1 false 17,oM 19 1,oT 20
 (.convInt .u64) 19,oI 21 (.bin .rem) [.tmp 20,.const (.int .u64 32)],oD 22 (.bin .shr) 18 21,oT 23 (.convInt .u64) 22,oI 24 (.bin .and) [.tmp 23,.const
 (.int .u64 1)],oM 4 24]) ( .ret)))
def zCL : AF:={ results:=[.tmp 4],body:=zEp }
end Go.AM
namespace Go.AM
def zHJ (n : Int) : AV:=.iface zAR (.int .i64 n)
def zJ (n : Int) : AV:=.int .i64 n
def zOm (x : AV) (n : Int) : Prop:=(x = .nili ∧ n = 0) ∨ x = zHJ n
end Go.AM
