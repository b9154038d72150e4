/- Several texts of mine in one (Mc, Mk). Own work. -/
import Derived.Test.YtmmbcogejaofpaaGreatDoorGAm22Mn
import Derived.Test.YtmmbcogejaofpaaGreatDoorProg
set_option linter.all false
namespace Go.AM
def zEn : AC:=.seq ( .seq ( .reg [1,2,0,10,11] false [oM 47 11,oM 48 2,oT 49 (.len true) 48,oD 50 (.bin .lss) 47 49]) ( .cond (.tmp 50)
 ( .skip) ( .exit 0))) ( .seq ( .block 1 [1,2,0,10,11] ( .seq ( .reg [1,2,0,10,11] false [oM 53 2,oM 54 11,oD 55 .idxStr 53 54,oM 56 1,oD 57 (.bin
 .eql) 55 56]) ( .cond (.tmp 57) ( .seq ( .reg [] false [oI 6 .mv [oB true]]) ( .ret)) ( .skip)))) ( .reg [1,2,0,10,11] false [oM 51 11,oI 52 (.bin .add)
 [.tmp 51,oK 1],oM 11 52]))
def zEo : AC:=.seq ( .seq ( .reg [14,18,19] false [oM 120 19,oM 121 18,oT 122 (.len false) 121,oD 123 (.bin .lss) 120 122]) ( .cond (.tmp
 123) ( .skip) ( .exit 2))) ( .seq ( .block 3 [14,18,19] ( .seq ( .reg [14,18,19] true [oM 126 18,oM 127 19,oD 128 (.idxAddr 3) 126 127,oF 129 0 128,oL
 130 2 true 129,oM 131 14,oM 132 19,oD 133 (.idxAddr 2) 131 132,oL 134 2 true 133,⟨some 135,none,.eqs true [.int .i64,.int .i64],[.tmp 130,.tmp 134]⟩])
 ( .cond (.tmp 135) ( .seq ( .reg [] false [oI 6 .mv [oB false]]) ( .ret)) ( .skip)))) ( .reg [14,18,19] false [oM 124 19,oI 125 (.bin .add) [.tmp 124,oK 1],
 oM 19 125]))
def zFj : AC:=.seq ( .reg [1,2,0] false [oI 6 .mv [oB false]]) ( .seq ( .reg [1,2,0] false [oI 21 (.call zBo true) [],oI 22
 (.call zAl true) [.tmp 21,.const (.str [50]),.const (.str [51]),oB false],oM 20 22,oT 23 (.extract 0) 20,oT 24 (.extract 1) 20,oT 25 (.extract
 2) 20,oM 7 23,oM 8 24,oM 9 25]) ( .seq ( .seq ( .reg [1,2,0,7,8,9] false [oM 26 9,oI 27 (.eqn .iface true true) [.tmp 26,.const (.nili)],oM 28 27,oG
 29 28 false .mv [.tmp 8],oG 30 28 false (.bin .neq) [.tmp 29,oK 1],oI 31 .pick [.tmp 28,oB true,.tmp 30],oM 32 31,oG 33 32 false .mv [.tmp 7],oG 34 32
 false (.len false) [.tmp 33],oG 35 32 false (.bin .neq) [.tmp 34,oK 2],oI 36 .pick [.tmp 32,oB true,.tmp 35],oM 37 36,oG 38 37 false .mv [.tmp 7],oG 39
 37 false (.idxAddr 3) [.tmp 38,oK 0],oG 40 37 false (.fieldAddr 2) [.tmp 39],oG 41 37 false (.load 1 false) [.tmp 40],oG 42 37 false (.bin .neq) [.tmp 41,
 .const (.str [51])],oI 43 .pick [.tmp 37,oB true,.tmp 42]]) ( .cond (.tmp 43) ( .seq ( .reg [] false [oI 6 .mv [oB false]]) ( .ret)) ( .skip))) ( .seq ( .reg
 [1,2,0] false [oM 44 1,oT 45 (.bslice 1) 44,oT 46 .bytesToStr 45,oM 10 46]) ( .seq ( .seq ( .reg [1,2,0,10] false [oI 11 .mv [oK 0]]) ( .block 0 [0,10,
 2] ( .loop [11,1,2,0,10] zEn))) ( .seq ( .reg [0,10,2] false [oM 59 0,oM 60 10,oM 61 2,oI 62 (.call zAl true) [.tmp 59,.tmp
 60,.tmp 61,oB false],oM 58 62,oT 63 (.extract 0) 58,oT 64 (.extract 1) 58,oT 65 (.extract 2) 58,oM 12 63,oM 8 64,oM 13 65]) ( .seq ( .seq ( .reg [12,0,
 8,10,13] false [oM 66 13,oI 67 (.eqn .iface true true) [.tmp 66,.const (.nili)]]) ( .cond (.tmp 67) ( .seq ( .reg [] false [oI 6 .mv [oB true]]) ( .ret)) (
 .skip))) ( .seq ( .reg [12,0,8,10] false [oM 69 0,oM 70 10,oI 71 (.call zBd true) [.tmp 69,.tmp 70,oB false],oM 68 71,oT 72 (.extract 0) 68,oT
 73 (.extract 1) 68,oM 14 72,oM 15 73]) ( .seq ( .reg [14,12,0,8,15,10] false [oM 75 12,oM 76 10,oI 77 (.call zBd true) [.tmp 75,.tmp 76,oB
 false],oM 74 77,oT 78 (.extract 0) 74,oT 79 (.extract 1) 74,oM 16 78,oM 17 79]) ( .seq ( .seq ( .reg [14,12,0,8,16,17,15] false [oM 80 15,oI 81 (.eqn
 .iface true true) [.tmp 80,.const (.nili)],oM 82 81,oG 83 82 false .mv [.tmp 17],oG 84 82 false (.eqn .iface true true) [.tmp 83,.const (.nili)],oI 85
 .pick [.tmp 82,oB true,.tmp 84],oM 86 85,oG 87 86 false .mv [.tmp 16],oG 88 86 false (.len false) [.tmp 87],oG 89 86 false (.bin .neq) [.tmp 88,oK 0],oI
 90 .pick [.tmp 86,oB true,.tmp 89],oM 91 90,oG 92 91 false .mv [.tmp 8],oG 93 91 false (.bin .eql) [.tmp 92,oK 0],oG 94 91 false .mv [.tmp 14],oG 95 91
 false (.len false) [.tmp 94],oG 96 91 false (.bin .eql) [.tmp 95,oK 0],oG 97 91 false (.eqb true) [.tmp 93,.tmp 96],oI 98 .pick [.tmp 91,oB true,.tmp 97],
 oM 99 98,oG 100 99 false .mv [.tmp 8],oG 101 99 false .mv [.tmp 14],oG 102 99 false (.len false) [.tmp 101],oG 103 99 false (.bin .lss) [.tmp 100,.tmp 102],
 oI 104 .pick [.tmp 99,oB true,.tmp 103]]) ( .cond (.tmp 104) ( .seq ( .reg [] false [oI 6 .mv [oB false]]) ( .ret)) ( .skip))) ( .seq ( .reg [14,12,0] false
 [oM 106 0,oM 107 12,oD 108 (.call zCC true) 106 107,oM 105 108,oT 109 (.extract 0) 105,oT 110 (.extract 1) 105,oM 18 109,oM 15 110]) ( .seq (
 .seq ( .reg [14,18,15] false [oM 111 15,oI 112 (.eqn .iface true true) [.tmp 111,.const (.nili)],oM 113 112,oG 114 113 false .mv [.tmp 18],oG 115 113
 false (.len false) [.tmp 114],oG 116 113 false .mv [.tmp 14],oG 117 113 false (.len false) [.tmp 116],oG 118 113 false (.bin .neq) [.tmp 115,.tmp 117],oI
 119 .pick [.tmp 113,oB true,.tmp 118]]) ( .cond (.tmp 119) ( .seq ( .reg [] false [oI 6 .mv [oB false]]) ( .ret)) ( .skip))) ( .seq ( .seq ( .reg [14,18]
 false [oI 19 .mv [oK 0]]) ( .block 2 [] ( .loop [19,14,18] zEo))) ( .seq ( .reg [] false [oI 6 .mv [oB true]]) ( .ret))))))))))))))
def zCx : AF:={ results:=[.tmp 6],body:=zFj }
def b_merge_Diff_0 : AC:=.seq ( .reg [8,7,26,27,28,9] false [oD 29 (.bin .lss) 28 27]) ( .seq ( .cond (.tmp 29) ( .skip) ( .exit 0)) ( .seq ( .block 1 [8,
 9,7,26,27,28] ( .seq ( .reg [8,7,26,27,28,9] false [oD 30 (.idxAddr 2) 26 28,oL 31 2 true 30,⟨some 11,none,.alloc [.int .i64 0,.int .i64 0],[]⟩,
 oS 2 11 31]) ( .seq ( .reg [8,7,26,27,28,11,9] true [oM 32 7,oL 33 2 true 11,⟨some 34,none,.mget (.str []) false,[.tmp 32,.tmp 33]⟩,oM 35 8,oL 36 2
 true 11,⟨some 37,none,.mget (.str []) false,[.tmp 35,.tmp 36]⟩,oD 38 (.bin .neq) 34 37]) ( .cond (.tmp 38) ( .reg [8,7,26,27,28,11,9] true [oM 39 9,
 oL 40 2 true 11,oM 41 8,oL 42 2 true 11,⟨some 43,none,.mget (.str []) false,[.tmp 41,.tmp 42]⟩,⟨some 44,none,.build [.int .i64 0,.int .i64 0,.str []]
 [(0,2),(2,1)],[.tmp 40,.tmp 43]⟩,oT 45 (.bslice 3) 44,oD 46 (.append 3 32) 39 45,oM 9 46]) ( .skip))))) ( .reg [8,9,7,26,27,28] false [oI 47 (.bin
 .add) [.tmp 28,oK 1],oM 28 47])))
def b_merge_Diff : AC:=.seq ( .reg [1,0] false [oI 4 .mv [.const (.lst (some true) 0 [])],oI 5 .mv [.const (.nili)]]) ( .seq ( .seq ( .reg [1,0] false [oM
 12 0,oM 13 1,oD 14 (.bslice 1) 12 13,oT 15 (.call zCS true) 14,oM 6 15]) ( .seq ( .reg [6,1,0] false [oM 16 6,oI 17 (.eqn .iface true true)
 [.tmp 16,.const (.nili)]]) ( .cond (.tmp 17) ( .seq ( .reg [6] false [oM 18 6,oI 4 .mv [.const (.lst (some true) 0 [])],oM 5 18]) ( .ret)) ( .skip)))) ( .seq
 ( .reg [1,0] false [oM 19 0,oT 20 (.call zCT true) 19,oM 21 1,oT 22 (.call zCT true) 21,oM 7 20,oM 8 22]) ( .seq ( .reg [8,7,1,0]
 false [oI 9 .mv [.const (.lst (some true) 0 [])]]) ( .seq ( .seq ( .reg [8,9,7,1,0] false [oM 23 0,oM 24 1,oD 25 (.bslice 1) 23 24,oT 26 (.call
 zDn true) 25,oT 27 (.len false) 26,oI 28 .mv [oK 0]]) ( .block 0 [9] ( .loop [28,8,9,7,26,27] b_merge_Diff_0))) ( .seq ( .reg [9] false [oM 48
 9,oM 4 48,oI 5 .mv [.const (.nili)]]) ( .ret))))))
def zGb : AF:={ results:=[.tmp 4,.tmp 5],body:=b_merge_Diff }
def zHk : AC:=.seq ( .reg [] false [oI 0 .mv [.const (.lst (some true) 0 [])]]) ( .seq ( .reg [] false [oI 1 (.call zBY true) [oK 1,oK
 1],⟨some 2,none,.build [.int .i64 0,.int .i64 0,.str []] [(0,2),(2,1)],[.tmp 1,.const (.str [50])]⟩,oI 3 (.call zBY true) [oK 2,oK 1],
 ⟨some 4,none,.build [.int .i64 0,.int .i64 0,.str []] [(0,2),(2,1)],[.tmp 3,.const (.str [61,65,49,43,49])]⟩,oD 5 (.bslice 3) 2 4,oM 0 5]) (
 .ret))
def zEZ : AF:={ results:=[.tmp 0],body:=zHk }
def zGn : AC:=.seq ( .reg [2,1,3,37,38,39,12,13] false [oD 40 (.bin .lss) 39 38]) ( .seq ( .cond (.tmp 40) ( .skip) ( .exit 1)) ( .seq (
 .block 2 [12,2,1,13,3,37,38,39] ( .seq ( .reg [2,1,3,37,38,39,12,13] false [oD 41 (.idxAddr 3) 37 39,oL 42 3 true 41,⟨some 15,none,.alloc [.int
 .i64 0,.int .i64 0,.str []],[]⟩,oS 3 15 42]) ( .seq ( .reg [2,1,3,37,38,39,15,12,13] false [oF 43 2 15,oL 44 1 false 43,oM 45 1,oD 46 (.call
 zBp true) 44 45,oM 16 46]) ( .seq ( .seq ( .reg [2,1,3,37,38,39,15,12,13,16] false [oM 47 3]) ( .cond (.tmp 47) ( .seq ( .reg [2,1,3,37,
 38,39,15,12,13] false [oI 16 .mv [oK 0]]) ( .seq ( .reg [2,1,3,37,38,39,15,12,13,16] false [oF 48 2 15,oL 49 1 false 48,oM 50 1,oD 51 (.bin .eql)
 49 50]) ( .cond (.tmp 51) ( .reg [2,1,3,37,38,39,15,12,13] false [oI 16 .mv [oK 1]]) ( .skip)))) ( .skip))) ( .seq ( .seq ( .reg [2,1,3,37,38,39,
 15,12,16,13] false [oM 52 16,oI 53 (.bin .gtr) [.tmp 52,oK 0]]) ( .cond (.tmp 53) ( .seq ( .reg [2,1,3,37,38,39,15,12,16,13] false [oM 54 13,oM 55
 16,oD 56 (.bin .add) 54 55,oM 13 56]) ( .seq ( .reg [2,1,13,3,37,38,39,15,12] false [oF 57 2 15,oL 58 1 false 57,oM 59 1,oM 60 2,oI 61 (.call
 zAu true) [.tmp 58,.tmp 59,.tmp 60],oF 62 2 15,oS 1 62 61]) ( .seq ( .reg [2,1,13,3,37,38,39,15,12] false [oF 63 2 15,oL 64 1 false
 63,oT 65 (.call zAO true) 64,oM 17 65]) ( .seq ( .reg [17,2,1,13,3,37,38,39,15,12] false [oM 66 17,oI 67 (.eqn .iface true true) [.tmp 66,
 .const (.nili)]]) ( .cond (.tmp 67) ( .seq ( .reg [17] false [oM 68 17,oI 8 .mv [.const (.lst (some true) 0 [])],oI 9 .mv [oK 0],oM 10 68]) ( .ret)) (
 .skip)))))) ( .skip))) ( .seq ( .reg [2,1,13,3,37,38,39,15,12] false [oF 69 2 15,oL 70 1 false 69,oI 71 (.bin .neq) [.tmp 70,.const (.str [])]]) (
 .cond (.tmp 71) ( .reg [2,1,13,3,37,38,39,15,12] false [oM 72 12,oL 73 3 true 15,oT 74 (.bslice 3) 73,oD 75 (.append 3 32) 72 74,oM 12 75]) (
 .skip)))))))) ( .reg [12,2,1,13,3,37,38,39] false [oI 76 (.bin .add) [.tmp 39,oK 1],oM 39 76])))
def b_find_Replace : AC:=.seq ( .reg [2,1,3,0] false [oI 8 .mv [.const (.lst (some true) 0 [])],oI 9 .mv [oK 0],oI 10 .mv [.const (.nili)]]) ( .seq ( .seq
 ( .reg [2,1,3,0] false [oM 18 0,oT 19 (.call zAA true) 18,oM 11 19]) ( .seq ( .reg [11,2,1,3,0] false [oM 20 11,oI 21 (.eqn .iface true true)
 [.tmp 20,.const (.nili)]]) ( .cond (.tmp 21) ( .seq ( .reg [11] false [oM 22 11,oI 8 .mv [.const (.lst (some true) 0 [])],oI 9 .mv [oK 0],oM 10 22]) ( .ret))
 ( .skip)))) ( .seq ( .block 0 [2,1,3,0] ( .seq ( .reg [2,1,3,0] false [oM 24 1,oT 25 (.len true) 24,oI 26 (.bin .gtr) [.tmp 25,oK 200],oM 27 26,oG 28
 27 false .mv [.tmp 2],oG 29 27 false (.len true) [.tmp 28],oG 30 27 false (.bin .gtr) [.tmp 29,oK 200],oI 31 .pick [.tmp 27,oB true,.tmp 30],oM 23 31]) (
 .cond (.tmp 23) ( .seq ( .reg [] false [oI 32 (.mkIface zJ) [oK 4],oI 8 .mv [.const (.lst (some true) 0 [])],oI 9 .mv [oK 0],oM 10 32]) ( .ret)) (
 .seq ( .reg [2,1,3,0] false [oM 34 1,oI 35 (.bin .eql) [.tmp 34,.const (.str [])],oM 33 35]) ( .cond (.tmp 33) ( .seq ( .reg [] false [oI 36 (.mkIface
 zJ) [oK 2],oI 8 .mv [.const (.lst (some true) 0 [])],oI 9 .mv [oK 0],oM 10 36]) ( .ret)) ( .skip)))))) ( .seq ( .reg [2,1,3,0] false [oI 12 .mv
 [.const (.lst (some true) 0 [])]]) ( .seq ( .reg [12,2,1,3,0] false [oI 13 .mv [oK 0]]) ( .seq ( .seq ( .reg [12,2,1,13,3,0] false [oM 37 0,oT 38 (.len
 false) 37,oI 39 .mv [oK 0]]) ( .block 1 [13,12] ( .loop [39,12,2,1,13,3,37,38] zGn))) ( .seq ( .reg [13,12] false [oM 77 12,oM 78 13,oM
 8 77,oM 9 78,oI 10 .mv [.const (.nili)]]) ( .ret)))))))
def zEx : AF:={ results:=[.tmp 8,.tmp 9,.tmp 10],body:=b_find_Replace }
def b_find_Find_0 : AC:=.seq ( .reg [1,2,20,21,22,9] false [oD 23 (.bin .lss) 22 21]) ( .seq ( .cond (.tmp 23) ( .skip) ( .exit 0)) ( .seq ( .block 1 [9,
 1,2,20,21,22] ( .seq ( .reg [1,2,20,21,22,9] false [oD 24 (.idxAddr 3) 20 22,oL 25 3 true 24,⟨some 11,none,.alloc [.int .i64 0,.int .i64 0,.str
 []],[]⟩,oS 3 11 25]) ( .seq ( .reg [1,2,20,21,22,11,9] false [oF 26 2 11,oL 27 1 false 26,oM 28 1,oD 29 (.bin .eql) 27 28,oM 30 29,oG 31 30 false
 .mv [.tmp 2],oG 32 30 false (.un .not) [.tmp 31],oG 33 30 false .mv [.tmp 32],oG 34 33 true (.fieldAddr 2) [.tmp 11],oG 35 33 true (.load 1 false) [.tmp 34],
 oG 36 33 true .mv [.tmp 1],oG 37 33 true (.call zBL true) [.tmp 35,.tmp 36],oG 38 30 false .pick [.tmp 33,.tmp 37,oB false],oI 39 .pick
 [.tmp 30,oB true,.tmp 38]]) ( .cond (.tmp 39) ( .reg [1,2,20,21,22,11,9] false [oM 40 9,oF 41 0 11,oL 42 2 true 41,oT 43 (.bslice 2) 42,oD 44
 (.append 2 16) 40 43,oM 9 44]) ( .skip))))) ( .reg [9,1,2,20,21,22] false [oI 45 (.bin .add) [.tmp 22,oK 1],oM 22 45])))
def b_find_Find : AC:=.seq ( .reg [1,2,0] false [oI 6 .mv [.const (.lst (some true) 0 [])],oI 7 .mv [.const (.nili)]]) ( .seq ( .seq ( .reg [1,2,0] false
 [oM 12 0,oT 13 (.call zAA true) 12,oM 8 13]) ( .seq ( .reg [8,1,2,0] false [oM 14 8,oI 15 (.eqn .iface true true) [.tmp 14,.const (.nili)]]) (
 .cond (.tmp 15) ( .seq ( .reg [8] false [oM 16 8,oI 6 .mv [.const (.lst (some true) 0 [])],oM 7 16]) ( .ret)) ( .skip)))) ( .seq ( .seq ( .reg [1,2,0] false
 [oM 17 1,oI 18 (.bin .eql) [.tmp 17,.const (.str [])]]) ( .cond (.tmp 18) ( .seq ( .reg [] false [oI 19 (.mkIface zJ) [oK 2],oI 6 .mv [.const (.lst
 (some true) 0 [])],oM 7 19]) ( .ret)) ( .skip))) ( .seq ( .reg [1,2,0] false [oI 9 .mv [.const (.lst (some true) 0 [])]]) ( .seq ( .seq ( .reg [9,1,2,0]
 false [oM 20 0,oT 21 (.len false) 20,oI 22 .mv [oK 0]]) ( .block 0 [9] ( .loop [22,9,1,2,20,21] b_find_Find_0))) ( .seq ( .reg [9] false [oM 46 9,oM 6
 46,oI 7 .mv [.const (.nili)]]) ( .ret))))))
def zHl : AF:={ results:=[.tmp 6,.tmp 7],body:=b_find_Find }
def zHm : AC:=.seq ( .reg [6,7,8] false [oD 9 (.bin .lss) 8 7]) ( .seq ( .cond (.tmp 9) ( .skip) ( .exit 0)) ( .seq ( .block 1 [6,7,8] ( .seq (
 .reg [6,7,8] false [oD 10 (.idxAddr 1) 6 8,oL 11 1 false 10,oM 4 11]) ( .seq ( .reg [6,7,8,4] false [oM 12 4,oT 13 (.call zAA true) 12,oM 5
 13]) ( .seq ( .reg [5,6,7,8] false [oM 14 5,oI 15 (.eqn .iface true true) [.tmp 14,.const (.nili)]]) ( .cond (.tmp 15) ( .seq ( .reg [5] false [oM 16 5,oM
 2 16]) ( .ret)) ( .skip)))))) ( .reg [6,7,8] false [oI 17 (.bin .add) [.tmp 8,oK 1],oM 8 17])))
def b_merge_check : AC:=.seq ( .reg [0] false [oI 2 .mv [.const (.nili)]]) ( .seq ( .seq ( .reg [0] false [oM 6 0,oT 7 (.len false) 6,oI 8 .mv [oK 0]]) (
 .block 0 [] ( .loop [8,6,7] zHm))) ( .seq ( .reg [] false [oI 2 .mv [.const (.nili)]]) ( .ret)))
def zFk : AF:={ results:=[.tmp 2],body:=b_merge_check }
def zHn : AC:=.seq ( .reg [3,7,8,9] false [oD 10 (.bin .lss) 9 8]) ( .seq ( .cond (.tmp 10) ( .skip) ( .exit 0)) ( .seq ( .block 1 [3,7,8,9]
 ( .seq ( .reg [3,7,8,9] false [oD 11 (.idxAddr 3) 7 9,oL 12 3 true 11,⟨some 5,none,.alloc [.int .i64 0,.int .i64 0,.str []],[]⟩,oS 3 5 12]) ( .reg [3,
 7,8,9,5] false [oM 13 3,oF 14 0 5,oL 15 2 true 14,oF 16 2 5,oL 17 1 false 16,oJ .mset [.tmp 13,.tmp 15,.tmp 17]]))) ( .reg [3,7,8,9] false [oI 18
 (.bin .add) [.tmp 9,oK 1],oM 9 18])))
def b_merge_texts : AC:=.seq ( .reg [0] false [oI 2 .mv [.const (.nilm)]]) ( .seq ( .reg [0] false [oI 6 .mkmap [],oM 3 6]) ( .seq ( .seq ( .reg [3,0] false
 [oM 7 0,oT 8 (.len false) 7,oI 9 .mv [oK 0]]) ( .block 0 [3] ( .loop [9,3,7,8] zHn))) ( .seq ( .reg [3] false [oM 19 3,oM 2 19]) ( .ret))))
def zFl : AF:={ results:=[.tmp 2],body:=b_merge_texts }
def zHo : AC:=.seq ( .reg [14,8,9,10,15,16,3] false [oD 17 (.bin .lss) 16 15]) ( .seq ( .cond (.tmp 17) ( .skip) ( .exit 2)) ( .seq ( .block
 3 [3,14,8,9,10,15,16] ( .seq ( .reg [14,8,9,10,15,16,3] false [oD 18 (.idxAddr 3) 14 16,oL 19 3 true 18,⟨some 7,none,.alloc [.int .i64 0,.int
 .i64 0,.str []],[]⟩,oS 3 7 19]) ( .reg [14,8,9,10,15,16,7,3] false [oM 20 3,oF 21 0 7,oL 22 2 true 21,oT 23 (.bslice 2) 22,oD 24 (.append 2 16) 20
 23,oM 3 24]))) ( .reg [3,14,8,9,10,15,16] false [oI 25 (.bin .add) [.tmp 16,oK 1],oM 16 25])))
def zHp : AC:=.seq ( .reg [3,8,9,10] false [oD 11 (.bin .lss) 10 9]) ( .seq ( .cond (.tmp 11) ( .skip) ( .exit 0)) ( .seq ( .block 1 [3,8,9,
 10] ( .seq ( .reg [3,8,9,10] false [oD 12 (.idxAddr 1) 8 10,oL 13 1 false 12,oM 5 13]) ( .seq ( .reg [3,8,9,10,5] false [oM 14 5,oT 15 (.len false) 14,
 oI 16 .mv [oK 0]]) ( .block 2 [3,8,9,10] ( .loop [16,3,14,8,9,10,15] zHo))))) ( .reg [3,8,9,10] false [oI 26 (.bin .add) [.tmp 10,oK 1],
 oM 10 26])))
def b_merge_cells : AC:=.seq ( .reg [0] false [oI 2 .mv [.const (.lst (some true) 0 [])]]) ( .seq ( .reg [0] false [oI 3 .mv [.const (.lst (some true) 0 [])]])
 ( .seq ( .seq ( .reg [3,0] false [oM 8 0,oT 9 (.len false) 8,oI 10 .mv [oK 0]]) ( .block 0 [3] ( .loop [3,10,8,9] zHp))) ( .seq ( .reg [3]
 false [oM 27 3,oI 28 (.call zt false) [.tmp 27,.fn zAm]]) ( .seq ( .reg [3] false [oM 29 3,oT 30 (.call
 zR false) 29,oM 2 30]) ( .ret)))))
def zFm : AF:={ results:=[.tmp 2],body:=b_merge_cells }
def b_scclaw4_cell : AC:=.seq ( .reg [1,0] false [⟨some 4,none,.alloc [.int .i64 0,.int .i64 0],[]⟩]) ( .seq ( .reg [4,1,0] false [oM 5 0,oM 6 1,⟨some
 7,none,.build [.int .i64 0,.int .i64 0] [(0,1),(1,1)],[.tmp 5,.tmp 6]⟩,oS 2 4 7]) ( .ret))
def zEy : AF:={ results:=[.cell 4 2 true],body:=b_scclaw4_cell }
def b_addr_Check : AC:=.seq ( .reg [0] false [oT 1 .box 0,oI 2 .mv [.const (.nili)]]) ( .seq ( .seq ( .reg [1] false [oL 3 2 true 1,oT 4 (.call zFi
 true) 3,oT 5 (.un .not) 4]) ( .cond (.tmp 5) ( .seq ( .reg [] false [oI 6 (.mkIface zJ) [oK 1],oM 2 6]) ( .ret)) ( .skip))) ( .seq ( .reg [] false [oI
 2 .mv [.const (.nili)]]) ( .ret)))
def zGc : AF:={ results:=[.tmp 2],body:=b_addr_Check }
def b_addr_Less : AC:=.seq ( .reg [1,0] false [oT 2 .box 0,oT 3 .box 1,oI 4 .mv [oB false]]) ( .seq ( .reg [3,2] false [oL 5 2 true 2,oL 6 2 true 3,oD 7
 (.call zAm true) 5 6,oI 8 (.bin .lss) [.tmp 7,oK 0],oM 4 8]) ( .ret))
def zHq : AF:={ results:=[.tmp 4],body:=b_addr_Less }
def b_graph_Text : AC:=.seq ( .reg [0] false [oI 2 .mv [.const (.nili)]]) ( .seq ( .seq ( .reg [0] false [oM 6 0,oT 7 (.len true) 6,oI 8 (.bin .gtr) [.tmp 7,
 oK 200]]) ( .cond (.tmp 8) ( .seq ( .reg [] false [oI 9 (.mkIface zJ) [oK 4],oM 2 9]) ( .ret)) ( .skip))) ( .seq ( .seq ( .reg [0] false [oM 10 0,oT
 11 (.call zAB true) 10,oT 12 (.un .not) 11]) ( .cond (.tmp 12) ( .seq ( .reg [0] false [oM 14 0,oT 15 (.call zAP true) 14,oM 13 15,
 oT 16 (.extract 0) 13,oT 17 (.extract 1) 13,oT 18 (.extract 2) 13,⟨some 3,none,.alloc [.int .i64 0,.int .i64 0,.str [],.int .i64 0,.int .i64 0,.bool
 false,.bool false,.int .i64 0,.int .i64 0,.bool false,.bool false,.lst (some true) 0 []],[]⟩,oS 12 3 16,oM 4 17,oM 5 18]) ( .seq ( .reg [5] false [oM
 19 5,oI 20 (.eqn .iface true true) [.tmp 19,.const (.nili)]]) ( .cond (.tmp 20) ( .seq ( .reg [] false [oI 21 (.mkIface zJ) [oK 2],oM 2 21]) ( .ret))
 ( .skip)))) ( .skip))) ( .seq ( .reg [] false [oI 2 .mv [.const (.nili)]]) ( .ret))))
def zGd : AF:={ results:=[.tmp 2],body:=b_graph_Text }
def zHr : AC:=.seq ( .reg [0,10,11,12] false [oD 13 (.bin .lss) 12 11]) ( .seq ( .cond (.tmp 13) ( .skip) ( .exit 0)) ( .seq ( .block 1 [0,10,
 11,12] ( .seq ( .reg [0,10,11,12] false [oM 14 12,oD 15 (.idxAddr 3) 10 12,oL 16 3 true 15,⟨some 4,none,.alloc [.int .i64 0,.int .i64 0,.str []],[]⟩,
 oM 3 14,oS 3 4 16]) ( .seq ( .block 2 [0,10,11,12,4] ( .seq ( .reg [0,10,11,12,4,3] false [oF 18 0 4,oL 19 2 true 18,oT 20 (.call zCD true)
 19,oI 21 (.eqn .iface true true) [.tmp 20,.const (.nili)],oM 17 21]) ( .cond (.tmp 17) ( .seq ( .reg [] false [oI 22 (.mkIface zJ) [oK 1],oM 2 22])
 ( .ret)) ( .seq ( .reg [0,10,11,12,4,3] true [oM 24 3,oI 25 (.bin .gtr) [.tmp 24,oK 0],oM 26 25,oG 27 26 true .mv [.tmp 0],oG 28 26 true .mv [.tmp 3],
 oG 29 26 true (.bin .sub) [.tmp 28,oK 1],oG 30 26 true (.idxAddr 3) [.tmp 27,.tmp 29],oG 31 26 true (.fieldAddr 0) [.tmp 30],oG 32 26 true (.load 2 true)
 [.tmp 31],oG 33 26 true (.fieldAddr 0) [.tmp 4],oG 34 26 true (.load 2 true) [.tmp 33],oG 35 26 true (.call zDo true) [.tmp 32,.tmp 34],oG 36 26
 true (.un .not) [.tmp 35],oI 37 .pick [.tmp 26,.tmp 36,oB false],oM 23 37]) ( .cond (.tmp 23) ( .seq ( .reg [] false [oI 38 (.mkIface zJ) [oK 5],oM
 2 38]) ( .ret)) ( .seq ( .reg [0,10,11,12,4] false [oF 40 2 4,oL 41 1 false 40,oI 42 (.bin .eql) [.tmp 41,.const (.str [])],oM 39 42]) ( .cond (.tmp 39)
 ( .seq ( .reg [] false [oI 43 (.mkIface zJ) [oK 3],oM 2 43]) ( .ret)) ( .skip)))))))) ( .seq ( .reg [0,10,11,12,4] false [oF 44 2 4,oL 45 1 false
 44,oT 46 (.call zAO true) 45,oM 5 46]) ( .seq ( .reg [5,0,10,11,12] false [oM 47 5,oI 48 (.eqn .iface true true) [.tmp 47,.const (.nili)]]) (
 .cond (.tmp 48) ( .seq ( .reg [5] false [oM 49 5,oM 2 49]) ( .ret)) ( .skip))))))) ( .reg [0,10,11,12] false [oI 50 (.bin .add) [.tmp 12,oK 1],oM 12 50])))
def b_graph_Check : AC:=.seq ( .reg [0] false [oI 2 .mv [.const (.nili)]]) ( .seq ( .seq ( .reg [0] false [oM 6 0,oT 7 (.len false) 6,oI 8 (.bin .gtr) [.tmp
 7,oK 200]]) ( .cond (.tmp 8) ( .seq ( .reg [] false [oI 9 (.mkIface zJ) [oK 4],oM 2 9]) ( .ret)) ( .skip))) ( .seq ( .seq ( .reg [0] false [oM 10 0,
 oT 11 (.len false) 10,oI 12 .mv [oK 0]]) ( .block 0 [] ( .loop [12,0,10,11] zHr))) ( .seq ( .reg [] false [oI 2 .mv [.const (.nili)]]) ( .ret))))
def zFn : AF:={ results:=[.tmp 2],body:=b_graph_Check }
def b_addr_Compare : AC:=.seq ( .reg [1,0] false [oT 2 .box 0,oT 3 .box 1,oI 4 .mv [oK 0]]) ( .seq ( .reg [3,2] true [oF 5 1 2,oL 6 1 false 5,oF 7 1 3,
 oL 8 1 false 7,oD 9 (.call zAj true) 6 8,oF 10 0 2,oL 11 1 false 10,oF 12 0 3,oL 13 1 false 12,oD 14 (.call zAj true) 11 13,
 oD 15 (.bslice 1) 9 14,oT 16 (.call zCU true) 15,oM 4 16]) ( .ret))
def zEz : AF:={ results:=[.tmp 4],body:=b_addr_Compare }
def zBN : AC:=.seq ( .seq ( .reg [4,0,5,3] false [oM 29 5,oM 30 4,oT 31 (.len false) 30,oD 32 (.bin .lss) 29 31]) (
 .cond (.tmp 32) ( .skip) ( .exit 2))) ( .seq ( .block 3 [3,4,0,5] ( .seq ( .reg [4,0,5,3] true [oM 35 4,oM 36 5,oD 37 (.idxAddr 2) 35 36,oL 38 2 true
 37,oM 39 4,oM 40 5,oI 41 (.bin .sub) [.tmp 40,oK 1],oD 42 (.idxAddr 2) 39 41,oL 43 2 true 42,⟨some 44,none,.eqs true [.int .i64,.int .i64],[.tmp 38,
 .tmp 43]⟩]) ( .cond (.tmp 44) ( .seq ( .reg [4,0,5,3] false [oM 45 0,oM 46 3,oM 47 4,oM 48 5,oD 49 (.idxAddr 2) 47 48,oL 50 2 true 49,oD 51 (.idxAddr 2)
 45 46,oS 2 51 50]) ( .reg [4,0,5,3] false [oM 52 3,oI 53 (.bin .add) [.tmp 52,oK 1],oM 3 53])) ( .skip)))) ( .reg [3,4,0,5] false [oM 33 5,oI 34 (.bin
 .add) [.tmp 33,oK 1],oM 5 34]))
def zBO : AC:=.seq ( .seq ( .reg [3,0] false [oM 10 3,oM 11 0,oT 12 (.len false) 11,oD 13 (.bin .lss) 10 12]) ( .cond
 (.tmp 13) ( .skip) ( .exit 0))) ( .seq ( .block 1 [0,3] ( .seq ( .reg [3,0] true [oM 16 0,oM 17 3,oD 18 (.idxAddr 2) 16 17,oL 19 2 true 18,oM 20 0,oM 21
 3,oI 22 (.bin .sub) [.tmp 21,oK 1],oD 23 (.idxAddr 2) 20 22,oL 24 2 true 23,⟨some 25,none,.eqs false [.int .i64,.int .i64],[.tmp 19,.tmp 24]⟩]) ( .cond
 (.tmp 25) ( .seq ( .reg [3,0] false [oM 26 0,oM 27 3,oD 28 (.slc (some 2) true false) 26 27,oM 4 28]) ( .seq ( .seq ( .reg [3,4,0] false [oI 5 .mv [oK 1]])
 ( .block 2 [3,0] ( .loop [5,3,4,0] zBN))) ( .seq ( .reg [3,0] false [oM 54 0,oM 55 3,oD 56 (.slc (some 2) true false)
 54 55,⟨none,none,.clear 2 (.agg [.int .i64 0,.int .i64 0]),[.tmp 56]⟩]) ( .seq ( .reg [3,0] false [oM 57 0,oM 58 3,oD 59 (.slc (some 2) false true) 57
 58,oM 2 59]) ( .ret))))) ( .skip)))) ( .reg [0,3] false [oM 14 3,oI 15 (.bin .add) [.tmp 14,oK 1],oM 3 15]))
def zBU : AC:=.seq ( .reg [0] false [oI 2 .mv [.const (.lst (some true) 0 [])]]) ( .seq ( .seq ( .reg [0] false [oM 6 0,oT 7
 (.len false) 6,oI 8 (.bin .lss) [.tmp 7,oK 2]]) ( .cond (.tmp 8) ( .seq ( .reg [0] false [oM 9 0,oM 2 9]) ( .ret)) ( .skip))) ( .seq ( .seq ( .reg [0] false
 [oI 3 .mv [oK 1]]) ( .block 0 [0] ( .loop [3,0] zBO))) ( .seq ( .reg [0] false [oM 60 0,oM 2 60]) ( .ret))))
def zu : AF:={ results:=[.tmp 2],body:=zBU }
def b_addr_ok : AC:=.seq ( .reg [0] false [oT 1 .box 0,oI 2 .mv [oB false]]) ( .seq ( .reg [1] false [oF 3 0 1,oL 4 1 false 3,oI 5 (.bin .geq) [.tmp 4,oK
 1],oM 6 5,oG 7 6 true (.fieldAddr 0) [.tmp 1],oG 8 6 true (.load 1 false) [.tmp 7],oG 9 6 true (.bin .leq) [.tmp 8,oK 26],oI 10 .pick [.tmp 6,.tmp 9,oB
 false],oM 11 10,oG 12 11 true (.fieldAddr 1) [.tmp 1],oG 13 11 true (.load 1 false) [.tmp 12],oG 14 11 true (.bin .geq) [.tmp 13,oK 1],oI 15 .pick [.tmp
 11,.tmp 14,oB false],oM 16 15,oG 17 16 true (.fieldAddr 1) [.tmp 1],oG 18 16 true (.load 1 false) [.tmp 17],oG 19 16 true (.bin .leq) [.tmp 18,oK 99],oI
 20 .pick [.tmp 16,.tmp 19,oB false],oM 2 20]) ( .ret))
def a_addr_ok : AF:={ results:=[.tmp 2],body:=b_addr_ok }
def zFo : AC:=.seq ( .reg [0] false [oI 2 .mv [oB false]]) ( .seq ( .reg [0] false [oM 3 0,oI 4 (.call zq true) [.tmp 3,
 .const (.str [61])],oT 5 (.un .not) 4,oM 2 5]) ( .ret))
def zBu : AF:={ results:=[.tmp 2],body:=zFo }
def zBv : AC:=.seq ( .reg [0] false [⟨some 2,none,.alloc [.int .i64 0,.int .i64 0,.str [],.int .i64 0,.int .i64 0,.bool false,.bool false,
 .int .i64 0,.int .i64 0,.bool false,.bool false,.lst (some true) 0 []],[]⟩,⟨some 3,none,.alloc [.int .i64 0],[]⟩,⟨some 4,none,.alloc [.nili],[]⟩]) (
 .seq ( .seq ( .reg [2,3,4,0] false [oM 6 0,oT 7 (.len true) 6,oI 8 (.bin .gtr) [.tmp 7,oK 200]]) ( .cond (.tmp 8) ( .seq ( .reg [2,3,4] false [⟨some 9,
 none,.build [.int .i64 0,.int .i64 0,.str [],.int .i64 0,.int .i64 0,.bool false,.bool false,.int .i64 0,.int .i64 0,.bool false,.bool false,.lst
 (some true) 0 []] [],[]⟩,oI 10 (.mkIface zJ) [oK 4],oS 12 2 9,oJ (.store 1) [.tmp 3,oK 0],oS 1 4 10]) ( .ret)) ( .skip))) ( .seq ( .reg [2,3,4,
 0] false [oI 11 (.mkFn zm 0) [.tmp 2,.tmp 3,.tmp 4],oJ .stuck []]) ( .seq ( .reg [2,3,4,0] false [oM 12 0,⟨some 13,none,.build [.str [],
 .int .i64 0,.int .i64 0] [(0,1)],[.tmp 12]⟩,oT 14 .box 13,oM 5 14]) ( .seq ( .seq ( .reg [2,3,4,5,0] false [oM 15 0,oT 16 (.call zAB
 true) 15]) ( .cond (.tmp 16) ( .regt [2,3,4,5,0] false [oM 17 5,oI 18 (.mkIface zJ) [oK 2],oI 19 (.callp zK) [.tmp 17,oK 0,
 .tmp 18]] (.step 0 (.step 1 (.step 2 (.done))))) ( .skip))) ( .seq ( .reg [2,3,4,5,0] false [oM 20 5,oN 21 20,oF 22 1 21,oL 23 1 false 22,oI 24 (.bin
 .add) [.tmp 23,oK 1],oN 25 20,oF 26 1 25,oS 1 26 24]) ( .seq ( .regt [2,3,4,5,0] false [oM 27 5,oI 28 (.callp zN) [.tmp 27,oK 0],oS
 12 2 28] (.step 0 (.step 1 (.step 2 (.done))))) ( .seq ( .seq ( .reg [2,3,4,5,0] false [oM 29 5,oT 30 (.call zL false) 29]) ( .seq (
 .reg [2,3,4,5,0] false [oM 31 5,oN 32 31,oF 33 1 32,oL 34 1 false 33,oM 35 0,oT 36 (.len true) 35,oD 37 (.bin .lss) 34 36]) ( .cond (.tmp 37) ( .regt
 [2,3,4,5] false [oM 38 5,oM 39 5,oN 40 39,oF 41 1 40,oL 42 1 false 41,oI 43 (.mkIface zJ) [oK 2],oI 44 (.callp zK) [.tmp
 38,.tmp 42,.tmp 43]] (.step 0 (.step 1 (.step 2 (.step 3 (.step 4 (.step 5 (.step 6 (.done))))))))) ( .skip)))) ( .seq ( .reg [2,3,4] false [oL 45 12 true 2,
 oS 12 2 45,oJ (.store 1) [.tmp 3,oK 0],oJ (.store 1) [.tmp 4,.const (.nili)]]) ( .ret)))))))))
def zAc : AF:={ results:=[.cell 2 12 true,.cell 3 1 false,.cell 4 1 false],body:=zBv }
def zHs : AC:=.seq ( .reg [3,6,7,8] false [oD 9 (.bin .lss) 8 7]) ( .seq ( .cond (.tmp 9) ( .skip) ( .exit 0)) ( .seq ( .block 1 [3,6,7,8] (
 .seq ( .reg [3,6,7,8] false [oD 10 (.idxAddr 1) 6 8,oL 11 1 false 10,oM 5 11]) ( .seq ( .reg [5,3,6,7,8] false [oM 12 5,oM 13 3,oD 14 (.bin .neq) 12
 13]) ( .cond (.tmp 14) ( .seq ( .reg [5] false [oM 15 5,oM 2 15]) ( .ret)) ( .skip))))) ( .reg [3,6,7,8] false [oI 16 (.bin .add) [.tmp 8,oK 1],oM 8 16])))
def b_cmp_Or_int_ : AC:=.seq ( .reg [0] false [oI 2 .mv [oK 0]]) ( .seq ( .reg [0] false [oI 3 .mv [oK 0]]) ( .seq ( .seq ( .reg [3,0] false [oM 6 0,oT 7
 (.len false) 6,oI 8 .mv [oK 0]]) ( .block 0 [3] ( .loop [8,3,6,7] zHs))) ( .seq ( .reg [3] false [oM 17 3,oM 2 17]) ( .ret))))
def zFp : AF:={ results:=[.tmp 2],body:=b_cmp_Or_int_ }
def zFq : AC:=.seq ( .reg [1,0] false [oI 4 .mv [oK 0]]) ( .seq ( .reg [1,0] false [oM 7 0,oT 8 (.call zBA true) 7,oM 5 8]) (
 .seq ( .reg [1,0,5] false [oM 9 1,oT 10 (.call zBA true) 9,oM 6 10]) ( .seq ( .seq ( .reg [6,1,0,5] false [oM 11 5]) ( .cond (.tmp 11) ( .seq
 ( .seq ( .reg [6] false [oM 12 6]) ( .cond (.tmp 12) ( .seq ( .reg [] false [oI 4 .mv [oK 0]]) ( .ret)) ( .skip))) ( .seq ( .reg [] false [oI 4 .mv [oK (-1)]]) (
 .ret))) ( .skip))) ( .seq ( .seq ( .reg [1,0,6] false [oM 13 6]) ( .cond (.tmp 13) ( .seq ( .reg [] false [oI 4 .mv [oK 1]]) ( .ret)) ( .skip))) ( .seq ( .seq
 ( .reg [1,0] false [oM 14 0,oM 15 1,oD 16 (.bin .lss) 14 15]) ( .cond (.tmp 16) ( .seq ( .reg [] false [oI 4 .mv [oK (-1)]]) ( .ret)) ( .skip))) ( .seq ( .seq
 ( .reg [1,0] false [oM 17 0,oM 18 1,oD 19 (.bin .gtr) 17 18]) ( .cond (.tmp 19) ( .seq ( .reg [] false [oI 4 .mv [oK 1]]) ( .ret)) ( .skip))) ( .seq ( .reg []
 false [oI 4 .mv [oK 0]]) ( .ret))))))))
def zCy : AF:={ results:=[.tmp 4],body:=zFq }
def zFF : AC:=.seq ( .reg [1,0] false [oI 4 .mv [oB false]]) ( .seq ( .reg [1,0] false [oM 5 0,oM 6 1,oD 7 (.call zi
 true) 5 6,oM 4 7]) ( .ret))
def zBe : AF:={ results:=[.tmp 4],body:=zFF }
def zCz : AC:=.seq ( .reg [2,1,0] false [oI 6 .stuck [],oM 3 6]) ( .seq ( .reg [2,1,0,3] false [oM 7 3,oI 8 (.eqn .iface true true) [.tmp
 7,.const (.nili)]]) ( .cond (.tmp 8) ( .seq ( .reg [2,1,0,3] false [oM 10 3,oT 11 (.tyAs zBs) 10,oM 9 11,oT 12 (.extract 0) 9,oT 13 (.extract
 1) 9,⟨some 4,none,.alloc [.int .i64 0,.nili],[]⟩,oS 2 4 12,oM 5 13]) ( .seq ( .seq ( .reg [2,1,0,4,3,5] false [oM 14 5,oT 15 (.un .not) 14]) ( .cond
 (.tmp 15) ( .regt [2,1,0,4,3] false [oM 16 3,oJ .panic [.tmp 16]] (.step 0 (.step 1 (.done)))) ( .skip))) ( .regt [2,1,0,4] true [⟨some 17,none,.build
 [.int .i64 0,.int .i64 0,.str [],.int .i64 0,.int .i64 0,.bool false,.bool false,.int .i64 0,.int .i64 0,.bool false,.bool false,.lst (some true) 0
 []] [],[]⟩,oF 18 0 4,oL 19 1 false 18,oF 20 1 4,oL 21 1 false 20,oS 12 0 17,oS 1 1 19,oS 1 2 21] (.step 0 (.step 1 (.step 3 (.alt (.step 2 (.alt (.step 4
 (.step 5 (.step 6 (.step 7 (.done))))) (.step 5 (.alt (.step 4 (.step 6 (.step 7 (.done)))) (.step 6 (.step 4 (.step 7 (.done)))))))) (.alt (.step 4 (.alt (.step
 2 (.step 5 (.step 6 (.step 7 (.done))))) (.step 5 (.step 2 (.step 6 (.step 7 (.done))))))) (.step 5 (.step 2 (.alt (.step 4 (.step 6 (.step 7 (.done)))) (.step 6
 (.step 4 (.step 7 (.done))))))))))))))) ( .skip)))
def zBw : AF:={ results:=[],body:=zCz }
def zD9 : AC:=.regt [2,1] false [oM 6 1,oM 7 2,⟨some 8,none,.build [.int .i64 0,.nili] [(0,1),(1,1)],[.tmp 6,.tmp 7]⟩,oT 9
 (.mkIface zBs) 8,oJ .panic [.tmp 9]] (.step 0 (.step 1 (.step 2 (.step 3 (.step 4 (.done))))))
def zBD : AF:={ results:=[],body:=zD9 }
def zCE : AC:=.seq ( .reg [0,1] false [⟨some 4,none,.alloc [.int .i64 0,.int .i64 0,.str [],.int .i64 0,.int .i64 0,.bool false,
 .bool false,.int .i64 0,.int .i64 0,.bool false,.bool false,.lst (some true) 0 []],[]⟩]) ( .scope [5,1,0,4] 0 ( .seq ( .seq ( .reg [4,0,1] false [oM 8
 1,oI 9 (.bin .eql) [.tmp 8,oK 4]]) ( .cond (.tmp 9) ( .seq ( .regt [4,0] false [oM 10 0,oT 11 (.callp zh) 10,oS 12 4 11] (.step 0 (.step
 1 (.step 2 (.done))))) ( .ret)) ( .skip))) ( .seq ( .regt [1,0,4] false [oM 12 0,oM 13 1,oI 14 (.bin .add) [.tmp 13,oK 1],oD 15 (.callp
 zN) 12 14,⟨some 5,none,.alloc [.int .i64 0,.int .i64 0,.str [],.int .i64 0,.int .i64 0,.bool false,.bool false,.int .i64 0,.int
 .i64 0,.bool false,.bool false,.lst (some true) 0 []],[]⟩,oS 12 5 15] (.step 0 (.step 1 (.step 2 (.step 3 (.step 4 (.step 5 (.done)))))))) ( .seq ( .label)
 ( .seq ( .reg [5,1,0,4] false [oM 16 0,oT 17 (.call zL false) 16]) ( .seq ( .seq ( .reg [5,1,0,4] false [oM 18 1,oI 19 (.idxArr 1
 4) [.glob zBt,.tmp 18],oL 20 1 false 19,oT 21 (.len false) 20,oI 22 .mv [oK 0]]) ( .block 0 [4,5] ( .loop [5,1,0,4,22,20,21] ( .seq ( .reg
 [5,1,0,4,20,21,22] false [oD 23 (.bin .lss) 22 21]) ( .seq ( .cond (.tmp 23) ( .skip) ( .exit 0)) ( .seq ( .block 1 [5,1,0,4,20,21,22] ( .seq ( .reg
 [5,1,0,4,20,21,22] false [oD 24 (.idxAddr 1) 20 22,oL 25 1 false 24,oM 7 25]) ( .seq ( .reg [5,1,0,4,7,20,21,22] true [oM 26 0,oN 27 26,oF 28 0
 27,oL 29 1 false 28,oM 30 0,oN 31 30,oF 32 1 31,oL 33 1 false 32,oD 34 (.slc none true false) 29 33,oM 35 7,oD 36 (.call zq true) 34
 35]) ( .cond (.tmp 36) ( .seq ( .reg [5,1,0,4,7] false [oM 37 0,oN 38 37,oF 39 1 38,oL 40 1 false 39,oM 41 7,oT 42 (.len true) 41,oD 43 (.bin .add) 40
 42,oN 44 37,oF 45 1 44,oS 1 45 43]) ( .seq ( .regt [5,1,0,4,7] true [oM 46 7,oT 47 (.call zBC true) 46,oL 48 12 true 5,oM 49 0,oM 50 1,oI
 51 (.bin .add) [.tmp 50,oK 1],oD 52 (.callp zN) 49 51,oD 53 (.bslice 12) 48 52,⟨some 54,none,.build [.int .i64 0,.int .i64 0,.str [],
 .int .i64 0,.int .i64 0,.bool false,.bool false,.int .i64 0,.int .i64 0,.bool false,.bool false,.lst (some true) 0 []] [(0,1),(1,1),(11,1)],[oK 8,
 .tmp 47,.tmp 53]⟩,oS 12 5 54] (.step 0 (.step 1 (.step 3 (.step 4 (.step 5 (.alt (.step 2 (.step 6 (.step 7 (.step 8 (.step 9 (.done)))))) (.step 6 (.step 2
 (.step 7 (.step 8 (.step 9 (.done))))))))))))) ( .goto 0))) ( .skip))))) ( .reg [5,1,0,4,20,21,22] false [oI 55 (.bin .add) [.tmp 22,oK 1],oM 22
 55]))))))) ( .seq ( .reg [4,5] false [oL 56 12 true 5,oS 12 4 56]) ( .ret))))))) ( .seq ( .skip) ( .seq ( .reg [5,1,0,4] false [oM 16 0,oT 17 (.call
 zL false) 16]) ( .seq ( .seq ( .reg [5,1,0,4] false [oM 18 1,oI 19 (.idxArr 1 4) [.glob zBt,.tmp 18],oL 20 1 false 19,oT
 21 (.len false) 20,oI 22 .mv [oK 0]]) ( .block 0 [4,5] ( .loop [5,1,0,4,22,20,21] ( .seq ( .reg [5,1,0,4,20,21,22] false [oD 23 (.bin .lss) 22 21])
 ( .seq ( .cond (.tmp 23) ( .skip) ( .exit 0)) ( .seq ( .block 1 [5,1,0,4,20,21,22] ( .seq ( .reg [5,1,0,4,20,21,22] false [oD 24 (.idxAddr 1) 20 22,
 oL 25 1 false 24,oM 7 25]) ( .seq ( .reg [5,1,0,4,7,20,21,22] true [oM 26 0,oN 27 26,oF 28 0 27,oL 29 1 false 28,oM 30 0,oN 31 30,oF 32 1 31,oL 33
 1 false 32,oD 34 (.slc none true false) 29 33,oM 35 7,oD 36 (.call zq true) 34 35]) ( .cond (.tmp 36) ( .seq ( .reg [5,1,0,4,7] false [oM
 37 0,oN 38 37,oF 39 1 38,oL 40 1 false 39,oM 41 7,oT 42 (.len true) 41,oD 43 (.bin .add) 40 42,oN 44 37,oF 45 1 44,oS 1 45 43]) ( .seq ( .regt [5,1,0,
 4,7] true [oM 46 7,oT 47 (.call zBC true) 46,oL 48 12 true 5,oM 49 0,oM 50 1,oI 51 (.bin .add) [.tmp 50,oK 1],oD 52 (.callp
 zN) 49 51,oD 53 (.bslice 12) 48 52,⟨some 54,none,.build [.int .i64 0,.int .i64 0,.str [],.int .i64 0,.int .i64 0,.bool false,.bool
 false,.int .i64 0,.int .i64 0,.bool false,.bool false,.lst (some true) 0 []] [(0,1),(1,1),(11,1)],[oK 8,.tmp 47,.tmp 53]⟩,oS 12 5 54] (.step 0
 (.step 1 (.step 3 (.step 4 (.step 5 (.alt (.step 2 (.step 6 (.step 7 (.step 8 (.step 9 (.done)))))) (.step 6 (.step 2 (.step 7 (.step 8 (.step 9
 (.done))))))))))))) ( .goto 0))) ( .skip))))) ( .reg [5,1,0,4,20,21,22] false [oI 55 (.bin .add) [.tmp 22,oK 1],oM 22 55]))))))) ( .seq ( .reg [4,5]
 false [oL 56 12 true 5,oS 12 4 56]) ( .ret))))))
def zAk : AF:={ results:=[.cell 4 12 true],body:=zCE }
def zCl : AC:=.seq ( .seq ( .reg [0] true [oM 2 0,oN 3 2,oF 4 1 3,oL 5 1 false 4,oM 6 0,oN 7 6,oF 8 0 7,oL 9 1 false 8,oT 10
 (.len true) 9,oD 11 (.bin .lss) 5 10,oM 12 11,oG 13 12 true .mv [.tmp 0],oG 14 12 true .nilchk [.tmp 13],oG 15 12 true (.fieldAddr 0) [.tmp 14],oG 16 12
 true (.load 1 false) [.tmp 15],oG 17 12 true .mv [.tmp 0],oG 18 12 true .nilchk [.tmp 17],oG 19 12 true (.fieldAddr 1) [.tmp 18],oG 20 12 true (.load 1
 false) [.tmp 19],oG 21 12 true .idxStr [.tmp 16,.tmp 20],oG 22 12 true (.bin .eql) [.tmp 21,.const (.int .u8 32)],oI 23 .pick [.tmp 12,.tmp 22,oB false]])
 ( .cond (.tmp 23) ( .skip) ( .exit 0))) ( .block 1 [0] ( .reg [0] false [oM 24 0,oN 25 24,oF 26 1 25,oL 27 1 false 26,oI 28 (.bin .add) [.tmp 27,oK 1],oN
 29 24,oF 30 1 29,oS 1 30 28]))
def zDQ : AC:=.block 0 [] ( .loop [0] zCl)
def zAw : AF:={ results:=[],body:=zDQ }
def zGo : AC:=.seq ( .reg [0] false [oI 2 .mv [oB false]]) ( .seq ( .reg [0] false [oM 3 0,oM 4 0,oD 5 (.bin .neq) 3 4,oM 2 5]) ( .ret))
def zD5 : AF:={ results:=[.tmp 2],body:=zGo }
def zDr : AC:=.seq ( .reg [1,0] false [oI 4 .mv [oB false]]) ( .seq ( .reg [1,0] false [oM 5 0,oT 6 (.len true) 5,oM 7 1,oT 8 (.len
 true) 7,oD 9 (.bin .geq) 6 8,oM 10 9,oG 11 10 true .mv [.tmp 0],oG 12 10 true .mv [.tmp 1],oG 13 10 true (.len true) [.tmp 12],oG 14 10 true (.slc none
 false true) [.tmp 11,.tmp 13],oG 15 10 true .mv [.tmp 1],oG 16 10 true (.bin .eql) [.tmp 14,.tmp 15],oI 17 .pick [.tmp 10,.tmp 16,oB false],oM 4 17]) (
 .ret))
def zA8 : AF:={ results:=[.tmp 4],body:=zDr }
def zEa : AC:=.seq ( .reg [0] false [oT 1 .box 0,⟨some 2,none,.alloc [.int .i64 0,.int .i64 0,.str [],.int .i64 0,.int .i64 0,.bool
 false,.bool false,.int .i64 0,.int .i64 0,.bool false,.bool false,.lst (some true) 0 []],[]⟩]) ( .seq ( .reg [2,1] false [oL 4 1 false 1,oT 5 (.call
 zL false) 4]) ( .seq ( .seq ( .reg [2,1] true [oL 6 1 false 1,oN 7 6,oF 8 1 7,oL 9 1 false 8,oL 10 1 false 1,oN 11 10,oF 12 0 11,oL
 13 1 false 12,oT 14 (.len true) 13,oD 15 (.bin .lss) 9 14,oM 16 15,oG 17 16 true (.load 1 false) [.tmp 1],oG 18 16 true .nilchk [.tmp 17],oG 19 16 true
 (.fieldAddr 0) [.tmp 18],oG 20 16 true (.load 1 false) [.tmp 19],oG 21 16 true (.load 1 false) [.tmp 1],oG 22 16 true .nilchk [.tmp 21],oG 23 16 true
 (.fieldAddr 1) [.tmp 22],oG 24 16 true (.load 1 false) [.tmp 23],oG 25 16 true .idxStr [.tmp 20,.tmp 24],oG 26 16 true (.bin .eql) [.tmp 25,.const (.int .u8
 45)],oI 27 .pick [.tmp 16,.tmp 26,oB false]]) ( .cond (.tmp 27) ( .seq ( .reg [2,1] false [oL 28 1 false 1,oN 29 28,oF 30 1 29,oL 31 1 false 30,oM 3 31])
 ( .seq ( .regt [2,1,3] false [oL 32 1 false 1,oM 33 3,oT 34 (.mkFn zz 0) 1,oI 35 (.callp zS) [.tmp 32,.tmp 33,
 .tmp 34],oS 12 2 35] (.step 0 (.step 1 (.step 2 (.step 3 (.step 4 (.done))))))) ( .ret))) ( .skip))) ( .seq ( .regt [2,1] false [oL 36 1 false 1,oT 37 (.callp
 zAI) 36,oS 12 2 37] (.step 0 (.step 1 (.step 2 (.done))))) ( .ret))))
def zBP : AF:={ results:=[.cell 2 12 true],body:=zEa }
def b_formula_opOf : AC:=.seq ( .reg [0] false [oI 2 .mv [oK 0]]) ( .seq ( .seq ( .reg [0] false [oM 3 0]) ( .block 0 [] ( .seq ( .reg [3] false [oI 5 (.bin
 .eql) [.tmp 3,.const (.str [61])],oM 4 5]) ( .cond (.tmp 4) ( .seq ( .reg [] false [oI 2 .mv [oK 1]]) ( .ret)) ( .seq ( .reg [3] false [oI 7 (.bin .eql) [.tmp
 3,.const (.str [60,62])],oM 6 7]) ( .cond (.tmp 6) ( .seq ( .reg [] false [oI 2 .mv [oK 2]]) ( .ret)) ( .seq ( .reg [3] false [oI 9 (.bin .eql) [.tmp 3,
 .const (.str [60])],oM 8 9]) ( .cond (.tmp 8) ( .seq ( .reg [] false [oI 2 .mv [oK 3]]) ( .ret)) ( .seq ( .reg [3] false [oI 11 (.bin .eql) [.tmp 3,.const
 (.str [60,61])],oM 10 11]) ( .cond (.tmp 10) ( .seq ( .reg [] false [oI 2 .mv [oK 4]]) ( .ret)) ( .seq ( .reg [3] false [oI 13 (.bin .eql) [.tmp 3,.const
 (.str [62])],oM 12 13]) ( .cond (.tmp 12) ( .seq ( .reg [] false [oI 2 .mv [oK 5]]) ( .ret)) ( .seq ( .reg [3] false [oI 15 (.bin .eql) [.tmp 3,.const (.str
 [62,61])],oM 14 15]) ( .cond (.tmp 14) ( .seq ( .reg [] false [oI 2 .mv [oK 6]]) ( .ret)) ( .seq ( .reg [3] false [oI 17 (.bin .eql) [.tmp 3,.const (.str
 [38])],oM 16 17]) ( .cond (.tmp 16) ( .seq ( .reg [] false [oI 2 .mv [oK 7]]) ( .ret)) ( .seq ( .reg [3] false [oI 19 (.bin .eql) [.tmp 3,.const (.str [43])],
 oM 18 19]) ( .cond (.tmp 18) ( .seq ( .reg [] false [oI 2 .mv [oK 8]]) ( .ret)) ( .seq ( .reg [3] false [oI 21 (.bin .eql) [.tmp 3,.const (.str [45])],oM 20
 21]) ( .cond (.tmp 20) ( .seq ( .reg [] false [oI 2 .mv [oK 9]]) ( .ret)) ( .seq ( .reg [3] false [oI 23 (.bin .eql) [.tmp 3,.const (.str [42])],oM 22 23]) (
 .cond (.tmp 22) ( .seq ( .reg [] false [oI 2 .mv [oK 10]]) ( .ret)) ( .skip))))))))))))))))))))))) ( .seq ( .reg [] false [oI 2 .mv [oK 11]]) ( .ret)))
def zDB : AF:={ results:=[.tmp 2],body:=b_formula_opOf }
def zDR : AC:=.seq ( .reg [0,2,1] false [⟨some 6,none,.alloc [.int .i64 0,.int .i64 0,.str [],.int .i64 0,.int .i64 0,.bool
 false,.bool false,.int .i64 0,.int .i64 0,.bool false,.bool false,.lst (some true) 0 []],[]⟩]) ( .seq ( .seq ( .reg [6,0,2,1] false [oM 8 0,oN 9 8,oF
 10 2 9,oL 11 1 false 10,oI 12 (.bin .eql) [.tmp 11,oK 30]]) ( .cond (.tmp 12) ( .regt [6,0,2,1] false [oM 13 0,oM 14 1,oI 15 (.mkIface zJ) [oK
 4],oI 16 (.callp zK) [.tmp 13,.tmp 14,.tmp 15]] (.step 0 (.step 1 (.step 2 (.step 3 (.done)))))) ( .skip))) ( .seq ( .reg [6,0,2] false
 [oM 17 0,oN 18 17,oF 19 2 18,oL 20 1 false 19,oI 21 (.bin .add) [.tmp 20,oK 1],oN 22 17,oF 23 2 22,oS 1 23 21]) ( .seq ( .regt [6,0,2] false [oM 24 2,
 oT 25 .callvp 24,⟨some 7,none,.alloc [.int .i64 0,.int .i64 0,.str [],.int .i64 0,.int .i64 0,.bool false,.bool false,.int .i64 0,.int .i64 0,.bool
 false,.bool false,.lst (some true) 0 []],[]⟩,oS 12 7 25] (.step 0 (.step 1 (.step 2 (.step 3 (.done)))))) ( .seq ( .reg [6,7,0] false [oM 26 0,oN 27 26,
 oF 28 2 27,oL 29 1 false 28,oI 30 (.bin .sub) [.tmp 29,oK 1],oN 31 26,oF 32 2 31,oS 1 32 30]) ( .seq ( .reg [6,7] false [oL 33 12 true 7,oS 12 6 33]) (
 .ret))))))
def zAx : AF:={ results:=[.cell 6 12 true],body:=zDR }
def zDS : AC:=.seq ( .reg [0] false [⟨some 1,none,.alloc [.int .i64 0,.int .i64 0,.str [],.int .i64 0,.int .i64 0,.bool false,
 .bool false,.int .i64 0,.int .i64 0,.bool false,.bool false,.lst (some true) 0 []],[]⟩]) ( .seq ( .reg [1,0] false [oL 2 1 false 0,oN 3 2,oF 4 1 3,oL 5
 1 false 4,oI 6 (.bin .add) [.tmp 5,oK 1],oN 7 2,oF 8 1 7,oS 1 8 6]) ( .seq ( .regt [1,0] false [oL 9 1 false 0,oT 10 (.callp zh) 9,oT
 11 (.bslice 12) 10,⟨some 12,none,.build [.int .i64 0,.int .i64 0,.str [],.int .i64 0,.int .i64 0,.bool false,.bool false,.int .i64 0,.int .i64 0,
 .bool false,.bool false,.lst (some true) 0 []] [(0,1),(11,1)],[oK 7,.tmp 11]⟩,oS 12 1 12] (.step 0 (.step 1 (.step 2 (.step 3 (.step 4 (.done))))))) (
 .ret)))
def zAy : AF:={ results:=[.cell 1 12 true],body:=zDS }
def zDT : AC:=.seq ( .seq ( .reg [2,5,1,3] false [oM 49 5,oL 50 1 false 1,oN 51 50,oF 52 0 51,oL 53 1 false 52,oT 54 (.len true)
 53,oD 55 (.bin .leq) 49 54]) ( .cond (.tmp 55) ( .skip) ( .exit 1))) ( .seq ( .block 2 [2,1,3,5] ( .seq ( .reg [2,5,1,3] false [oL 59 1 false 1,oN 60 59,
 oF 61 0 60,oL 62 1 false 61,oM 63 3,oM 64 5,oI 65 (.slc none true true) [.tmp 62,.tmp 63,.tmp 64],oT 66 (.call zj true) 65,oM 58 66,oT 67
 (.extract 0) 58,oT 68 (.extract 1) 58,⟨some 6,none,.alloc [.int .i64 0,.int .i64 0,.str []],[]⟩,oS 3 6 67,oM 7 68]) ( .seq ( .reg [2,6,5,1,3,7]
 false [oM 69 7]) ( .cond (.tmp 69) ( .seq ( .reg [2,6,5,1] false [oL 70 1 false 1,oM 71 5,oN 72 70,oF 73 1 72,oS 1 73 71]) ( .seq ( .reg [2,6] false [oF
 74 1 6,oL 75 1 false 74,⟨some 76,none,.build [.int .i64 0,.int .i64 0,.str [],.int .i64 0,.int .i64 0,.bool false,.bool false,.int .i64 0,.int .i64
 0,.bool false,.bool false,.lst (some true) 0 []] [(0,1),(1,1)],[oK 4,.tmp 75]⟩,oS 12 2 76]) ( .ret))) ( .skip))))) ( .reg [2,1,3,5] false [oM 56 5,
 oI 57 (.bin .add) [.tmp 56,oK 1],oM 5 57]))
def zEA : AC:=.seq ( .reg [0] false [oT 1 .box 0,⟨some 2,none,.alloc [.int .i64 0,.int .i64 0,.str [],.int .i64 0,.int .i64 0,.bool
 false,.bool false,.int .i64 0,.int .i64 0,.bool false,.bool false,.lst (some true) 0 []],[]⟩]) ( .seq ( .reg [2,1] false [oL 11 1 false 1,oN 12 11,oF
 13 1 12,oL 14 1 false 13,oM 3 14]) ( .seq ( .seq ( .reg [2,1,3] false [oM 15 3,oL 16 1 false 1,oN 17 16,oF 18 0 17,oL 19 1 false 18,oT 20 (.len true)
 19,oD 21 (.bin .eql) 15 20]) ( .cond (.tmp 21) ( .regt [2,1,3] false [oL 22 1 false 1,oM 23 3,oI 24 (.mkIface zJ) [oK 2],oI 25 (.callp
 zK) [.tmp 22,.tmp 23,.tmp 24]] (.step 0 (.step 1 (.step 2 (.step 3 (.done)))))) ( .skip))) ( .seq ( .seq ( .reg [2,1,3] false [oL 26 1
 false 1,oN 27 26,oF 28 0 27,oL 29 1 false 28,oM 30 3,oD 31 .idxStr 29 30,oM 4 31]) ( .block 0 [2,3,1] ( .seq ( .reg [2,1,3,4] false [oM 33 4,oI 34
 (.bin .eql) [.tmp 33,.const (.int .u8 40)],oM 32 34]) ( .cond (.tmp 32) ( .seq ( .regt [2,1,3] false [oL 35 1 false 1,oM 36 3,oT 37 (.mkFn
 zk 0) 1,oI 38 (.callp zS) [.tmp 35,.tmp 36,.tmp 37],oS 12 2 38] (.step 0 (.step 1 (.step 2 (.step 3 (.step 4
 (.done))))))) ( .ret)) ( .seq ( .reg [2,1,3,4] false [oM 40 4,oI 41 (.bin .eql) [.tmp 40,.const (.int .u8 34)],oM 39 41]) ( .cond (.tmp 39) ( .seq ( .regt
 [2,1] false [oL 42 1 false 1,oT 43 (.callp zAJ) 42,oS 12 2 43] (.step 0 (.step 1 (.step 2 (.done))))) ( .ret)) ( .seq ( .reg [2,1,3,4]
 false [oM 45 4,oI 46 (.bin .eql) [.tmp 45,.const (.int .u8 35)],oM 44 46]) ( .cond (.tmp 44) ( .seq ( .reg [2,1,3] false [oM 47 3,oI 48 (.bin .add) [.tmp
 47,oK 1],oM 5 48]) ( .block 1 [2,3,1] ( .loop [2,5,1,3] zDT))) ( .seq ( .reg [2,1,3,4] false [oM 78 4,oT 79 (.call
 zr true) 78,oM 77 79]) ( .cond (.tmp 77) ( .seq ( .reg [2,1,3] false [oL 80 1 false 1,oT 81 (.call zW false) 80,⟨some 8,
 none,.alloc [.str []],[]⟩,oS 1 8 81]) ( .seq ( .seq ( .reg [2,1,8,3] true [oL 82 1 false 1,oN 83 82,oF 84 1 83,oL 85 1 false 84,oL 86 1 false 1,oN 87
 86,oF 88 0 87,oL 89 1 false 88,oT 90 (.len true) 89,oD 91 (.bin .lss) 85 90,oM 92 91,oG 93 92 true (.load 1 false) [.tmp 1],oG 94 92 true .nilchk [.tmp
 93],oG 95 92 true (.fieldAddr 0) [.tmp 94],oG 96 92 true (.load 1 false) [.tmp 95],oG 97 92 true (.load 1 false) [.tmp 1],oG 98 92 true .nilchk [.tmp 97],oG
 99 92 true (.fieldAddr 1) [.tmp 98],oG 100 92 true (.load 1 false) [.tmp 99],oG 101 92 true .idxStr [.tmp 96,.tmp 100],oG 102 92 true (.bin .eql) [.tmp 101,
 .const (.int .u8 40)],oI 103 .pick [.tmp 92,.tmp 102,oB false],oM 104 103,oG 105 104 true (.load 1 false) [.tmp 8],oG 106 104 true (.call zAh
 true) [.tmp 105],oI 107 .pick [.tmp 104,.tmp 106,oB false]]) ( .cond (.tmp 107) ( .seq ( .regt [2,1,8,3] false [oL 108 1 false 1,oM 109 3,oD 110 (.mkFn
 zd 0) 1 8,oI 111 (.callp zS) [.tmp 108,.tmp 109,.tmp 110],oS 12 2 111] (.step 0 (.step 1 (.step 2 (.step 3
 (.step 4 (.done))))))) ( .ret)) ( .skip))) ( .seq ( .reg [2,3,1,8] false [oL 113 1 false 8,oT 114 (.call zw true) 113,oM 112 114,oT 115
 (.extract 0) 112,oT 116 (.extract 1) 112,⟨some 9,none,.alloc [.int .i64 0,.int .i64 0,.str [],.int .i64 0,.int .i64 0,.bool false,.bool false,.int
 .i64 0,.int .i64 0,.bool false,.bool false,.lst (some true) 0 []],[]⟩,oS 12 9 115,oM 10 116]) ( .seq ( .reg [2,9,3,1,10] false [oM 117 10]) ( .cond
 (.tmp 117) ( .seq ( .reg [2,9] false [oL 118 12 true 9,oS 12 2 118]) ( .ret)) ( .skip)))))) ( .skip))))))))))) ( .seq ( .regt [2,3,1] false [oL 119 1 false
 1,oM 120 3,oI 121 (.mkIface zJ) [oK 2],oI 122 (.callp zK) [.tmp 119,.tmp 120,.tmp 121]] (.step 0 (.step 1 (.step 2 (.step 3
 (.done)))))) ( .seq ( .reg [2] false [⟨some 123,none,.build [.int .i64 0,.int .i64 0,.str [],.int .i64 0,.int .i64 0,.bool false,.bool false,.int .i64
 0,.int .i64 0,.bool false,.bool false,.lst (some true) 0 []] [],[]⟩,oS 12 2 123]) ( .ret))))))
def zY : AF:={ results:=[.cell 2 12 true],body:=zEA }
def zDC : AC:=.seq ( .reg [0] false [⟨some 1,none,.alloc [.int .i64 0,.int .i64 0,.str [],.int .i64 0,.int .i64 0,.bool false,
 .bool false,.int .i64 0,.int .i64 0,.bool false,.bool false,.lst (some true) 0 []],[]⟩]) ( .seq ( .reg [1,0] false [oL 3 1 false 0,oN 4 3,oF 5 1 4,oL 6
 1 false 5,oI 7 (.bin .add) [.tmp 6,oK 1],oN 8 3,oF 9 1 8,oS 1 9 7]) ( .seq ( .regt [1,0] false [oL 10 1 false 0,oI 11 (.callp zN) [.tmp
 10,oK 0],⟨some 2,none,.alloc [.int .i64 0,.int .i64 0,.str [],.int .i64 0,.int .i64 0,.bool false,.bool false,.int .i64 0,.int .i64 0,.bool false,
 .bool false,.lst (some true) 0 []],[]⟩,oS 12 2 11] (.step 0 (.step 1 (.step 2 (.step 3 (.done)))))) ( .seq ( .regt [1,2,0] false [oL 12 1 false 0,oI 13
 (.callp zX) [.tmp 12,.const (.int .u8 41)]] (.step 0 (.step 1 (.done)))) ( .seq ( .reg [1,2] false [oL 14 12 true 2,oS 12 1 14]) (
 .ret)))))
def zAo : AF:={ results:=[.cell 1 12 true],body:=zDC }
def zEB : AC:=.seq ( .reg [0,1] false [oM 4 0,oT 5 (.call zL false) 4]) ( .seq ( .seq ( .reg [0,1] true [oM 6 0,oN
 7 6,oF 8 1 7,oL 9 1 false 8,oM 10 0,oN 11 10,oF 12 0 11,oL 13 1 false 12,oT 14 (.len true) 13,oD 15 (.bin .eql) 9 14,oM 16 15,oG 17 16 false .mv [.tmp
 0],oG 18 16 false .nilchk [.tmp 17],oG 19 16 false (.fieldAddr 0) [.tmp 18],oG 20 16 false (.load 1 false) [.tmp 19],oG 21 16 false .mv [.tmp 0],oG 22 16
 false .nilchk [.tmp 21],oG 23 16 false (.fieldAddr 1) [.tmp 22],oG 24 16 false (.load 1 false) [.tmp 23],oG 25 16 false .idxStr [.tmp 20,.tmp 24],oG 26 16
 false .mv [.tmp 1],oG 27 16 false (.bin .neq) [.tmp 25,.tmp 26],oI 28 .pick [.tmp 16,oB true,.tmp 27]]) ( .cond (.tmp 28) ( .regt [0] false [oM 29 0,oM 30
 0,oN 31 30,oF 32 1 31,oL 33 1 false 32,oI 34 (.mkIface zJ) [oK 2],oI 35 (.callp zK) [.tmp 29,.tmp 33,.tmp 34]] (.step 0
 (.step 1 (.step 2 (.step 3 (.step 4 (.step 5 (.step 6 (.done))))))))) ( .skip))) ( .reg [0] false [oM 36 0,oN 37 36,oF 38 1 37,oL 39 1 false 38,oI 40 (.bin
 .add) [.tmp 39,oK 1],oN 41 36,oF 42 1 41,oS 1 42 40]))
def zBE : AF:={ results:=[],body:=zEB }
def zDU : AC:=.seq ( .seq ( .reg [2,4,0,3] true [oM 16 0,oN 17 16,oF 18 1 17,oL 19 1 false 18,oM 20 0,oN 21 20,oF 22 0 21,oL 23
 1 false 22,oT 24 (.len true) 23,oD 25 (.bin .lss) 19 24]) ( .cond (.tmp 25) ( .skip) ( .exit 0))) ( .seq ( .block 1 [2,4,0,3] ( .seq ( .seq ( .reg [2,4,0,
 3] true [oM 33 0,oN 34 33,oF 35 0 34,oL 36 1 false 35,oM 37 0,oN 38 37,oF 39 1 38,oL 40 1 false 39,oD 41 .idxStr 36 40,oI 42 (.bin .eql) [.tmp 41,
 .const (.int .u8 34)]]) ( .cond (.tmp 42) ( .seq ( .reg [2,4,0,3] false [oM 43 0,oN 44 43,oF 45 1 44,oL 46 1 false 45,oI 47 (.bin .add) [.tmp 46,oK 1],
 oN 48 43,oF 49 1 48,oS 1 49 47]) ( .seq ( .reg [2,4,0,3] true [oM 50 0,oN 51 50,oF 52 1 51,oL 53 1 false 52,oM 54 0,oN 55 54,oF 56 0 55,oL 57 1 false
 56,oT 58 (.len true) 57,oD 59 (.bin .eql) 53 58,oM 60 59,oG 61 60 false .mv [.tmp 0],oG 62 60 false .nilchk [.tmp 61],oG 63 60 false (.fieldAddr 0) [.tmp
 62],oG 64 60 false (.load 1 false) [.tmp 63],oG 65 60 false .mv [.tmp 0],oG 66 60 false .nilchk [.tmp 65],oG 67 60 false (.fieldAddr 1) [.tmp 66],oG 68 60
 false (.load 1 false) [.tmp 67],oG 69 60 false .idxStr [.tmp 64,.tmp 68],oG 70 60 false (.bin .neq) [.tmp 69,.const (.int .u8 34)],oI 71 .pick [.tmp 60,oB
 true,.tmp 70]]) ( .cond (.tmp 71) ( .seq ( .reg [2,4] false [oM 72 4,oT 73 .bytesToStr 72,⟨some 74,none,.build [.int .i64 0,.int .i64 0,.str [],.int
 .i64 0,.int .i64 0,.bool false,.bool false,.int .i64 0,.int .i64 0,.bool false,.bool false,.lst (some true) 0 []] [(0,1),(2,1)],[oK 2,.tmp 73]⟩,oS
 12 2 74]) ( .ret)) ( .skip)))) ( .skip))) ( .reg [2,0,3,4] true [oM 75 4,oM 76 0,oN 77 76,oF 78 0 77,oL 79 1 false 78,oM 80 0,oN 81 80,oF 82 1 81,oL
 83 1 false 82,oD 84 .idxStr 79 83,oT 85 (.bslice 1) 84,oD 86 (.append 1 1) 75 85,oM 4 86]))) ( .reg [2,4,0,3] false [oM 26 0,oN 27 26,oF 28 1 27,oL 29
 1 false 28,oI 30 (.bin .add) [.tmp 29,oK 1],oN 31 26,oF 32 1 31,oS 1 32 30]))
def zEC : AC:=.seq ( .reg [0] false [⟨some 2,none,.alloc [.int .i64 0,.int .i64 0,.str [],.int .i64 0,.int .i64 0,.bool false,.bool
 false,.int .i64 0,.int .i64 0,.bool false,.bool false,.lst (some true) 0 []],[]⟩]) ( .seq ( .reg [2,0] false [oM 5 0,oN 6 5,oF 7 1 6,oL 8 1 false 7,oM
 3 8]) ( .seq ( .reg [2,0,3] false [oI 4 .mv [.const (.lst (some true) 0 [])]]) ( .seq ( .seq ( .reg [2,4,0,3] false [oM 9 0,oN 10 9,oF 11 1 10,oL 12 1
 false 11,oI 13 (.bin .add) [.tmp 12,oK 1],oN 14 9,oF 15 1 14,oS 1 15 13]) ( .block 0 [2,3,0] ( .loop [2,4,0,3] zDU))) ( .seq (
 .regt [2,3,0] false [oM 87 0,oM 88 3,oI 89 (.mkIface zJ) [oK 2],oI 90 (.callp zK) [.tmp 87,.tmp 88,.tmp 89]] (.step 0 (.step
 1 (.step 2 (.step 3 (.done)))))) ( .seq ( .reg [2] false [⟨some 91,none,.build [.int .i64 0,.int .i64 0,.str [],.int .i64 0,.int .i64 0,.bool false,.bool
 false,.int .i64 0,.int .i64 0,.bool false,.bool false,.lst (some true) 0 []] [],[]⟩,oS 12 2 91]) ( .ret))))))
def zBF : AF:={ results:=[.cell 2 12 true],body:=zEC }
def zGG : AC:=.seq ( .reg [2,0,13,14] false [oI 15 (.bin .lss) [.tmp 14,oK 7]]) ( .seq ( .cond (.tmp 15) ( .skip) ( .exit 1)) ( .seq ( .block
 2 [2,0,13,14] ( .seq ( .reg [2,0,13,14] false [oM 16 14,oD 17 (.idxAgg 1 7 false) 13 14,oM 4 16,oM 5 17]) ( .seq ( .reg [2,4,0,13,14,5] false [oM
 18 5,oM 19 0,oD 20 (.bin .eql) 18 19,oM 21 20,oG 22 21 true .mv [.tmp 0],oG 23 21 true (.bin .neq) [.tmp 22,.const (.str [])],oI 24 .pick [.tmp 21,.tmp
 23,oB false]]) ( .cond (.tmp 24) ( .seq ( .reg [2,4] false [oM 25 4,oT 26 (.call zBq true) 25,oS 3 2 26,oI 3 .mv [oB true]]) ( .ret)) ( .skip)))))
 ( .reg [2,0,13,14] false [oI 27 (.bin .add) [.tmp 14,oK 1],oM 14 27])))
def zHt : AC:=.seq ( .reg [0] false [⟨some 2,none,.alloc [.int .i64 0,.int .i64 0,.str []],[]⟩,oI 3 .mv [oB false]]) ( .seq ( .seq ( .reg [2,
 0] false [oM 6 0]) ( .block 0 [2,0] ( .seq ( .reg [2,0,6] false [oI 8 (.bin .eql) [.tmp 6,.const (.str [84,82,85,69])],oM 7 8]) ( .cond (.tmp 7) ( .seq (
 .reg [2] false [oI 9 (.call zBk true) [oB true],oS 3 2 9,oI 3 .mv [oB true]]) ( .ret)) ( .seq ( .reg [2,0,6] false [oI 11 (.bin .eql) [.tmp 6,.const
 (.str [70,65,76,83,69])],oM 10 11]) ( .cond (.tmp 10) ( .seq ( .reg [2] false [oI 12 (.call zBk true) [oB false],oS 3 2 12,oI 3 .mv [oB true]]) (
 .ret)) ( .skip))))))) ( .seq ( .seq ( .reg [2,0] false [oI 13 (.load 7 true) [.glob zDq],oI 14 .mv [oK 0]]) ( .block 1 [2] ( .loop [2,14,0,13]
 zGG))) ( .seq ( .reg [2] false [⟨some 28,none,.build [.int .i64 0,.int .i64 0,.str []] [],[]⟩,oS 3 2 28,oI 3 .mv [oB false]]) ( .ret))))
def zCc : AF:={ results:=[.cell 2 3 true,.tmp 3],body:=zHt }
def zGp : AC:=.seq ( .reg [0] false [oI 2 .mv [oB false]]) ( .seq ( .reg [0] false [oM 3 0,oI 4 (.bin .eql) [.tmp 3,.const (.int .u8 36)],oM 5
 4,oG 6 5 false .mv [.tmp 0],oG 7 5 false (.bin .geq) [.tmp 6,.const (.int .u8 48)],oG 8 5 false .mv [.tmp 7],oG 9 8 true .mv [.tmp 0],oG 10 8 true (.bin
 .leq) [.tmp 9,.const (.int .u8 57)],oG 11 5 false .pick [.tmp 8,.tmp 10,oB false],oI 12 .pick [.tmp 5,oB true,.tmp 11],oM 13 12,oG 14 13 false .mv [.tmp
 0],oG 15 13 false (.bin .geq) [.tmp 14,.const (.int .u8 65)],oG 16 13 false .mv [.tmp 15],oG 17 16 true .mv [.tmp 0],oG 18 16 true (.bin .leq) [.tmp 17,
 .const (.int .u8 90)],oG 19 13 false .pick [.tmp 16,.tmp 18,oB false],oI 20 .pick [.tmp 13,oB true,.tmp 19],oM 21 20,oG 22 21 false .mv [.tmp 0],oG 23
 21 false (.bin .geq) [.tmp 22,.const (.int .u8 97)],oG 24 21 false .mv [.tmp 23],oG 25 24 true .mv [.tmp 0],oG 26 24 true (.bin .leq) [.tmp 25,.const (.int
 .u8 122)],oG 27 21 false .pick [.tmp 24,.tmp 26,oB false],oI 28 .pick [.tmp 21,oB true,.tmp 27],oM 2 28]) ( .ret))
def zBa : AF:={ results:=[.tmp 2],body:=zGp }
def zDV : AC:=.seq ( .seq ( .reg [0,3] true [oM 8 0,oN 9 8,oF 10 1 9,oL 11 1 false 10,oM 12 0,oN 13 12,oF 14 0 13,oL 15 1 false
 14,oT 16 (.len true) 15,oD 17 (.bin .lss) 11 16,oM 18 17,oG 19 18 true .mv [.tmp 0],oG 20 18 true .nilchk [.tmp 19],oG 21 18 true (.fieldAddr 0) [.tmp 20],
 oG 22 18 true (.load 1 false) [.tmp 21],oG 23 18 true .mv [.tmp 0],oG 24 18 true .nilchk [.tmp 23],oG 25 18 true (.fieldAddr 1) [.tmp 24],oG 26 18 true
 (.load 1 false) [.tmp 25],oG 27 18 true .idxStr [.tmp 22,.tmp 26],oG 28 18 true (.call zr true) [.tmp 27],oI 29 .pick [.tmp 18,.tmp 28,oB
 false]]) ( .cond (.tmp 29) ( .skip) ( .exit 0))) ( .block 1 [0,3] ( .reg [0,3] false [oM 30 0,oN 31 30,oF 32 1 31,oL 33 1 false 32,oI 34 (.bin .add) [.tmp
 33,oK 1],oN 35 30,oF 36 1 35,oS 1 36 34]))
def zED : AC:=.seq ( .reg [0] false [oI 2 .mv [.const (.str [])]]) ( .seq ( .reg [0] false [oM 4 0,oN 5 4,oF 6 1 5,oL 7 1 false 6,oM 3
 7]) ( .seq ( .block 0 [0,3] ( .loop [0,3] zDV)) ( .seq ( .reg [0,3] true [oM 37 0,oN 38 37,oF 39 0 38,oL 40 1 false 39,oM 41 3,oM 42
 0,oN 43 42,oF 44 1 43,oL 45 1 false 44,oI 46 (.slc none true true) [.tmp 40,.tmp 41,.tmp 45],oM 2 46]) ( .ret))))
def zBG : AF:={ results:=[.tmp 2],body:=zED }
def zGq : AC:=.seq ( .reg [0] false [oI 2 .mv [oB false]]) ( .seq ( .reg [0] false [oM 3 0,oT 4 (.len true) 3,oI 5 (.bin .geq) [.tmp 4,oK 2],
 oM 6 5,oG 7 6 true .mv [.tmp 0],oG 8 6 true (.len true) [.tmp 7],oG 9 6 true (.bin .leq) [.tmp 8,oK 10],oI 10 .pick [.tmp 6,.tmp 9,oB false],oM 11 10,oG
 12 11 true .mv [.tmp 0],oG 13 11 true (.call zAn true) [.tmp 12,.const (.str [65,66,67,68,69,70,71,72,73,74,75,76,77,78,79,80,81,
 82,83,84,85,86,87,88,89,90])],oG 14 11 true (.bin .eql) [.tmp 13,.const (.str [])],oI 15 .pick [.tmp 11,.tmp 14,oB false],oM 2 15]) ( .ret))
def zCK : AF:={ results:=[.tmp 2],body:=zGq }
def zDD : AC:=.seq ( .reg [1,0] false [⟨some 2,none,.alloc [.int .i64 0,.int .i64 0,.str [],.int .i64 0,.int .i64 0,.bool false,
 .bool false,.int .i64 0,.int .i64 0,.bool false,.bool false,.lst (some true) 0 []],[]⟩]) ( .seq ( .regt [2,1,0] false [oL 3 1 false 0,oL 4 1 false 1,oD
 5 (.callp zAd) 3 4,oS 12 2 5] (.step 0 (.step 1 (.step 2 (.step 3 (.done)))))) ( .ret))
def zAp : AF:={ results:=[.cell 2 12 true],body:=zDD }
def zBl : AC:=.block 1 [0,4,5] ( .seq ( .regt [0,4,5] true [oF 47 11 5,oL 48 1 false 47,oM 49 0,oT 50 (.callp
 zAH) 49,oT 51 (.bslice 12) 50,oD 52 (.append 12 104) 48 51,oF 53 11 5,oS 1 53 52] (.step 0 (.step 2 (.alt (.step 1 (.step 3 (.step 4
 (.step 5 (.step 6 (.step 7 (.done))))))) (.step 3 (.alt (.step 1 (.step 4 (.step 5 (.step 6 (.step 7 (.done)))))) (.step 4 (.step 1 (.step 5 (.step 6 (.step 7
 (.done)))))))))))) ( .seq ( .reg [0,4,5] false [oM 54 0,oT 55 (.call zL false) 54]) ( .seq ( .seq ( .reg [0,4,5] true [oM 56 0,oN 57
 56,oF 58 1 57,oL 59 1 false 58,oM 60 0,oN 61 60,oF 62 0 61,oL 63 1 false 62,oT 64 (.len true) 63,oD 65 (.bin .lss) 59 64,oM 66 65,oG 67 66 true .mv
 [.tmp 0],oG 68 66 true .nilchk [.tmp 67],oG 69 66 true (.fieldAddr 0) [.tmp 68],oG 70 66 true (.load 1 false) [.tmp 69],oG 71 66 true .mv [.tmp 0],oG 72 66
 true .nilchk [.tmp 71],oG 73 66 true (.fieldAddr 1) [.tmp 72],oG 74 66 true (.load 1 false) [.tmp 73],oG 75 66 true .idxStr [.tmp 70,.tmp 74],oG 76 66 true
 (.bin .eql) [.tmp 75,.const (.int .u8 44)],oI 77 .pick [.tmp 66,.tmp 76,oB false]]) ( .cond (.tmp 77) ( .seq ( .reg [0,4,5] false [oM 78 0,oN 79 78,oF 80
 1 79,oL 81 1 false 80,oI 82 (.bin .add) [.tmp 81,oK 1],oN 83 78,oF 84 1 83,oS 1 84 82]) ( .exit 1)) ( .skip))) ( .seq ( .regt [4,5,0] false [oM 85 0,oI
 86 (.callp zX) [.tmp 85,.const (.int .u8 41)]] (.step 0 (.step 1 (.done)))) ( .seq ( .reg [4,5] false [oL 87 12 true 5,oS 12 4 87]) (
 .ret))))))
def zEE : AC:=.seq ( .reg [0,1] false [⟨some 4,none,.alloc [.int .i64 0,.int .i64 0,.str [],.int .i64 0,.int .i64 0,.bool false,
 .bool false,.int .i64 0,.int .i64 0,.bool false,.bool false,.lst (some true) 0 []],[]⟩]) ( .seq ( .reg [4,0,1] false [oM 6 1,⟨some 7,none,.build [.int
 .i64 0,.int .i64 0,.str [],.int .i64 0,.int .i64 0,.bool false,.bool false,.int .i64 0,.int .i64 0,.bool false,.bool false,.lst (some true) 0 []] [(0,
 1),(2,1)],[oK 9,.tmp 6]⟩,⟨some 5,none,.alloc [.int .i64 0,.int .i64 0,.str [],.int .i64 0,.int .i64 0,.bool false,.bool false,.int .i64 0,.int
 .i64 0,.bool false,.bool false,.lst (some true) 0 []],[]⟩,oS 12 5 7]) ( .seq ( .reg [4,5,0] false [oM 8 0,oN 9 8,oF 10 1 9,oL 11 1 false 10,oI 12
 (.bin .add) [.tmp 11,oK 1],oN 13 8,oF 14 1 13,oS 1 14 12]) ( .seq ( .reg [4,5,0] false [oM 15 0,oT 16 (.call zL false) 15]) ( .seq (
 .seq ( .reg [4,5,0] true [oM 17 0,oN 18 17,oF 19 1 18,oL 20 1 false 19,oM 21 0,oN 22 21,oF 23 0 22,oL 24 1 false 23,oT 25 (.len true) 24,oD 26 (.bin
 .lss) 20 25,oM 27 26,oG 28 27 true .mv [.tmp 0],oG 29 27 true .nilchk [.tmp 28],oG 30 27 true (.fieldAddr 0) [.tmp 29],oG 31 27 true (.load 1 false) [.tmp
 30],oG 32 27 true .mv [.tmp 0],oG 33 27 true .nilchk [.tmp 32],oG 34 27 true (.fieldAddr 1) [.tmp 33],oG 35 27 true (.load 1 false) [.tmp 34],oG 36 27 true
 .idxStr [.tmp 31,.tmp 35],oG 37 27 true (.bin .eql) [.tmp 36,.const (.int .u8 41)],oI 38 .pick [.tmp 27,.tmp 37,oB false]]) ( .cond (.tmp 38) ( .seq ( .reg
 [4,5,0] false [oM 39 0,oN 40 39,oF 41 1 40,oL 42 1 false 41,oI 43 (.bin .add) [.tmp 42,oK 1],oN 44 39,oF 45 1 44,oS 1 45 43]) ( .seq ( .reg [4,5]
 false [oL 46 12 true 5,oS 12 4 46]) ( .ret))) ( .skip))) ( .block 0 [4] ( .loop [0,4,5] zBl))))))
def zAe : AF:={ results:=[.cell 4 12 true],body:=zEE }
def zHu : AC:=.seq ( .reg [0] false [⟨some 2,none,.alloc [.int .i64 0,.int .i64 0,.str [],.int .i64 0,.int .i64 0,.bool false,.bool false,
 .int .i64 0,.int .i64 0,.bool false,.bool false,.lst (some true) 0 []],[]⟩,oI 3 .mv [oB false]]) ( .seq ( .seq ( .reg [2,0] false [oM 11 0,oT 12 (.call
 zA7 true) 11,oM 10 12,oT 13 (.extract 0) 10,oT 14 (.extract 1) 10,oM 4 13,oM 5 14]) ( .seq ( .reg [2,4,0,5] false [oM 15 5]) ( .cond (.tmp 15)
 ( .seq ( .reg [2,4] false [oM 16 4,⟨some 17,none,.build [.int .i64 0,.int .i64 0,.str [],.int .i64 0,.int .i64 0,.bool false,.bool false,.int .i64 0,
 .int .i64 0,.bool false,.bool false,.lst (some true) 0 []] [(0,1),(1,1)],[oK 1,.tmp 16]⟩,oS 12 2 17,oI 3 .mv [oB true]]) ( .ret)) ( .skip)))) ( .seq (
 .seq ( .reg [2,0] false [oM 19 0,oT 20 (.call zj true) 19,oM 18 20,oT 21 (.extract 0) 18,oT 22 (.extract 1) 18,⟨some 6,none,.alloc [.int
 .i64 0,.int .i64 0,.str []],[]⟩,oS 3 6 21,oM 7 22]) ( .seq ( .reg [2,6,0,7] false [oM 23 7]) ( .cond (.tmp 23) ( .seq ( .reg [2,6] false [oF 24 1 6,oL
 25 1 false 24,⟨some 26,none,.build [.int .i64 0,.int .i64 0,.str [],.int .i64 0,.int .i64 0,.bool false,.bool false,.int .i64 0,.int .i64 0,.bool
 false,.bool false,.lst (some true) 0 []] [(0,1),(1,1)],[oK 3,.tmp 25]⟩,oS 12 2 26,oI 3 .mv [oB true]]) ( .ret)) ( .skip)))) ( .seq ( .seq ( .reg [2,0]
 false [oM 28 0,oT 29 (.call zAU true) 28,oM 27 29,oT 30 (.extract 0) 27,oT 31 (.extract 1) 27,⟨some 8,none,.alloc [.int .i64 0,.int .i64 0,.bool
 false,.bool false],[]⟩,oS 4 8 30,oM 9 31]) ( .seq ( .reg [2,8,9] false [oM 32 9,oI 33 (.eqn .iface false true) [.tmp 32,.const (.nili)]]) ( .cond (.tmp
 33) ( .seq ( .reg [2,8] false [oL 34 4 true 8,⟨some 35,none,.build [.int .i64 0,.int .i64 0,.str [],.int .i64 0,.int .i64 0,.bool false,.bool false,
 .int .i64 0,.int .i64 0,.bool false,.bool false,.lst (some true) 0 []] [(0,1),(3,4)],[oK 5,.tmp 34]⟩,oS 12 2 35,oI 3 .mv [oB true]]) ( .ret)) (
 .skip)))) ( .seq ( .reg [2] false [⟨some 36,none,.build [.int .i64 0,.int .i64 0,.str [],.int .i64 0,.int .i64 0,.bool false,.bool false,.int .i64 0,
 .int .i64 0,.bool false,.bool false,.lst (some true) 0 []] [],[]⟩,oS 12 2 36,oI 3 .mv [oB false]]) ( .ret)))))
def zCd : AF:={ results:=[.cell 2 12 true,.tmp 3],body:=zHu }
def b_value_Is : AC:=.seq ( .reg [0] false [⟨some 2,none,.alloc [.int .i64 0,.int .i64 0,.str []],[]⟩]) ( .seq ( .reg [2,0] false [⟨some 4,none,.build
 [.int .i64 0,.int .i64 0,.str []] [(0,1)],[oK 3]⟩,⟨some 3,none,.alloc [.int .i64 0,.int .i64 0,.str []],[]⟩,oS 3 3 4]) ( .seq ( .seq ( .reg [2,3,0]
 false [oM 5 0]) ( .cond (.tmp 5) ( .reg [2,3] false [oF 6 1 3,oJ (.store 1) [.tmp 6,oK 1]]) ( .skip))) ( .seq ( .reg [2,3] false [oL 7 3 true 3,oS 3 2 7]) (
 .ret))))
def zGH : AF:={ results:=[.cell 2 3 true],body:=b_value_Is }
def b_value_Wrong : AC:=.seq ( .reg [0] false [⟨some 2,none,.alloc [.int .i64 0,.int .i64 0,.str []],[]⟩]) ( .seq ( .reg [2,0] false [oM 3 0,⟨some 4,
 none,.build [.int .i64 0,.int .i64 0,.str []] [(0,1),(1,1)],[oK 4,.tmp 3]⟩,oS 3 2 4]) ( .ret))
def zDs : AF:={ results:=[.cell 2 3 true],body:=b_value_Wrong }
def b_strings_Trim : AC:=.seq ( .reg [0,1] false [oI 4 .mv [.const (.str [])]]) ( .seq ( .seq ( .reg [0,1] false [oM 7 0,oI 8 (.bin .eql) [.tmp 7,.const
 (.str [])],oM 9 8,oG 10 9 false .mv [.tmp 1],oG 11 9 false (.bin .eql) [.tmp 10,.const (.str [])],oI 12 .pick [.tmp 9,oB true,.tmp 11]]) ( .cond (.tmp 12)
 ( .seq ( .reg [0] false [oM 13 0,oM 4 13]) ( .ret)) ( .skip))) ( .seq ( .seq ( .reg [1,0] false [oM 14 1,oT 15 (.len true) 14,oI 16 (.bin .eql) [.tmp 15,oK
 1],oM 17 16,oG 18 17 true .mv [.tmp 1],oG 19 17 true .idxStr [.tmp 18,oK 0],oG 20 17 true (.bin .lss) [.tmp 19,.const (.int .u8 128)],oI 21 .pick [.tmp
 17,.tmp 20,oB false]]) ( .cond (.tmp 21) ( .seq ( .reg [1,0] true [oM 22 0,oM 23 1,oI 24 .idxStr [.tmp 23,oK 0],oD 25 (.call zDp true)
 22 24,oM 26 1,oI 27 .idxStr [.tmp 26,oK 0],oD 28 (.call zD8 true) 25 27,oM 4 28]) ( .ret)) ( .skip))) ( .seq ( .seq ( .reg [0,1] false
 [oM 30 1,oT 31 (.call zAK true) 30,oM 29 31,oT 32 (.extract 0) 29,oT 33 (.extract 1) 29,⟨some 5,none,.alloc (List.replicate 256 (.bool
 false)),[]⟩,oS 256 5 32,oM 6 33]) ( .seq ( .reg [5,0,1,6] false [oM 34 6]) ( .cond (.tmp 34) ( .seq ( .reg [5,0] false [oM 35 0,oD 36 (.call
 z1 true) 35 5,oD 37 (.call zAC true) 36 5,oM 4 37]) ( .ret)) ( .skip)))) ( .seq ( .reg [1,0] false [oM 38 0,oM 39
 1,oD 40 (.call zCk true) 38 39,oM 41 1,oD 42 (.call zDA true) 40 41,oM 4 42]) ( .ret)))))
def zDE : AF:={ results:=[.tmp 4],body:=b_strings_Trim }
def zCm : AC:=.seq ( .reg [0] false [⟨some 2,none,.alloc [.int .i64 0,.int .i64 0,.str [],.int .i64 0,.int .i64 0,.bool false,
 .bool false,.int .i64 0,.int .i64 0,.bool false,.bool false,.lst (some true) 0 []],[]⟩]) ( .seq ( .reg [2,0] false [oM 7 0,oT 8 (.call
 zL false) 7]) ( .seq ( .reg [2,0] false [oM 9 0,oN 10 9,oF 11 1 10,oL 12 1 false 11,oM 3 12]) ( .seq ( .reg [2,0,3] false [oM 14 0,
 oT 15 (.call zW false) 14,oT 16 (.call zAU true) 15,oM 13 16,oT 17 (.extract 0) 13,oT 18 (.extract 1) 13,⟨some 4,none,.alloc
 [.int .i64 0,.int .i64 0,.bool false,.bool false],[]⟩,oS 4 4 17,oM 5 18]) ( .seq ( .seq ( .reg [2,0,3,4,5] true [oM 19 5,oI 20 (.eqn .iface true true)
 [.tmp 19,.const (.nili)],oM 21 20,oG 22 21 false .mv [.tmp 0],oG 23 21 false .nilchk [.tmp 22],oG 24 21 false (.fieldAddr 1) [.tmp 23],oG 25 21 false
 (.load 1 false) [.tmp 24],oG 26 21 false .mv [.tmp 0],oG 27 21 false .nilchk [.tmp 26],oG 28 21 false (.fieldAddr 0) [.tmp 27],oG 29 21 false (.load 1 false)
 [.tmp 28],oG 30 21 false (.len true) [.tmp 29],oG 31 21 false (.bin .eql) [.tmp 25,.tmp 30],oI 32 .pick [.tmp 21,oB true,.tmp 31],oM 33 32,oG 34 33 false
 .mv [.tmp 0],oG 35 33 false .nilchk [.tmp 34],oG 36 33 false (.fieldAddr 0) [.tmp 35],oG 37 33 false (.load 1 false) [.tmp 36],oG 38 33 false .mv [.tmp 0],
 oG 39 33 false .nilchk [.tmp 38],oG 40 33 false (.fieldAddr 1) [.tmp 39],oG 41 33 false (.load 1 false) [.tmp 40],oG 42 33 false .idxStr [.tmp 37,.tmp 41],
 oG 43 33 false (.bin .neq) [.tmp 42,.const (.int .u8 58)],oI 44 .pick [.tmp 33,oB true,.tmp 43]]) ( .cond (.tmp 44) ( .seq ( .reg [2,0,3] false [oM 45 0,
 oM 46 3,oN 47 45,oF 48 1 47,oS 1 48 46]) ( .seq ( .regt [2,0] false [oM 49 0,oI 50 (.callp zN) [.tmp 49,oK 0],oS 12 2 50] (.step 0
 (.step 1 (.step 2 (.done))))) ( .ret))) ( .skip))) ( .seq ( .reg [2,4,0] false [oM 51 0,oN 52 51,oF 53 1 52,oL 54 1 false 53,oI 55 (.bin .add) [.tmp 54,oK
 1],oN 56 51,oF 57 1 56,oS 1 57 55]) ( .seq ( .reg [2,4,0] false [oM 58 0,oN 59 58,oF 60 1 59,oL 61 1 false 60,oM 3 61]) ( .seq ( .reg [2,4,3,0] false
 [oM 63 0,oT 64 (.call zW false) 63,oT 65 (.call zAU true) 64,oM 62 65,oT 66 (.extract 0) 62,oT 67 (.extract 1) 62,⟨some 6,none,
 .alloc [.int .i64 0,.int .i64 0,.bool false,.bool false],[]⟩,oS 4 6 66,oM 5 67]) ( .seq ( .seq ( .reg [2,6,4,3,0,5] false [oM 68 5,oI 69 (.eqn .iface
 true true) [.tmp 68,.const (.nili)]]) ( .cond (.tmp 69) ( .regt [2,6,4,3,0] false [oM 70 0,oM 71 3,oI 72 (.mkIface zJ) [oK 2],oI 73 (.callp
 zK) [.tmp 70,.tmp 71,.tmp 72]] (.step 0 (.step 1 (.step 2 (.step 3 (.done)))))) ( .skip))) ( .seq ( .reg [2,6,4] false [oL 74 4 true 4,
 oL 75 4 true 6,⟨some 76,none,.build [.int .i64 0,.int .i64 0,.str [],.int .i64 0,.int .i64 0,.bool false,.bool false,.int .i64 0,.int .i64 0,.bool
 false,.bool false,.lst (some true) 0 []] [(0,1),(3,4),(7,4)],[oK 6,.tmp 74,.tmp 75]⟩,oS 12 2 76]) ( .ret))))))))))
def zAg : AF:={ results:=[.cell 2 12 true],body:=zCm }
def b_value_Whole : AC:=.seq ( .reg [0] false [oI 2 .mv [oK 0],oI 3 .mv [oB false]]) ( .seq ( .reg [0] false [oM 7 0,oI 8 (.call zAG true)
 [.tmp 7,.const (.str [45])],oM 4 8]) ( .seq ( .seq ( .reg [0,4] false [oM 9 4,oI 10 (.bin .eql) [.tmp 9,.const (.str [])],oM 11 10,oG 12 11 false .mv
 [.tmp 4],oG 13 11 false .idxStr [.tmp 12,oK 0],oG 14 11 false (.bin .eql) [.tmp 13,.const (.int .u8 48)],oG 15 11 false .mv [.tmp 14],oG 16 15 true .mv
 [.tmp 0],oG 17 15 true (.bin .neq) [.tmp 16,.const (.str [48])],oG 18 11 false .pick [.tmp 15,.tmp 17,oB false],oI 19 .pick [.tmp 11,oB true,.tmp 18],oM
 20 19,oG 21 20 false .mv [.tmp 4],oG 22 20 false (.call zAn true) [.tmp 21,.const (.str [48,49,50,51,52,53,54,55,56,57])],oG 23 20 false
 (.bin .neq) [.tmp 22,.const (.str [])],oI 24 .pick [.tmp 20,oB true,.tmp 23]]) ( .cond (.tmp 24) ( .seq ( .reg [] false [oI 2 .mv [oK 0],oI 3 .mv [oB
 false]]) ( .ret)) ( .skip))) ( .seq ( .reg [0] false [oM 26 0,oT 27 (.call zAM true) 26,oM 25 27,oT 28 (.extract 0) 25,oT 29 (.extract 1) 25,oM 5
 28,oM 6 29]) ( .seq ( .reg [6,5] true [oM 30 5,oM 31 6,oI 32 (.eqn .iface false true) [.tmp 31,.const (.nili)],oM 2 30,oM 3 32]) ( .ret)))))
def zDt : AF:={ results:=[.tmp 2,.tmp 3],body:=b_value_Whole }
def b_addr_Ref_0 : AC:=.seq ( .reg [2,52,53,54] false [oD 55 (.bin .lss) 54 53]) ( .seq ( .cond (.tmp 55) ( .skip) ( .exit 0)) ( .seq ( .block 1 [2,52,53,
 54] ( .seq ( .reg [2,52,53,54] false [oD 56 (.idxAddr 1) 52 54,oL 57 1 false 56,oM 6 57]) ( .seq ( .seq ( .reg [2,52,53,54,6] false [oM 58 6,oI 59
 (.bin .lss) [.tmp 58,.const (.int .u8 48)],oM 60 59,oG 61 60 false .mv [.tmp 6],oG 62 60 false (.bin .gtr) [.tmp 61,.const (.int .u8 57)],oI 63 .pick [.tmp
 60,oB true,.tmp 62]]) ( .cond (.tmp 63) ( .seq ( .reg [2] false [⟨some 64,none,.build [.int .i64 0,.int .i64 0,.bool false,.bool false] [],[]⟩,oI 65
 (.mkIface zJ) [oK 2],oS 4 2 64,oM 3 65]) ( .ret)) ( .skip))) ( .reg [2,52,53,54,6] false [oF 66 0 2,oF 67 1 66,oL 68 1 false 67,oI 69 (.bin
 .mul) [.tmp 68,oK 10],oM 70 6,oI 71 (.bin .sub) [.tmp 70,.const (.int .u8 48)],oT 72 (.convInt .i64) 71,oD 73 (.bin .add) 69 72,oF 74 0 2,oF 75 1 74,oS
 1 75 73])))) ( .reg [2,52,53,54] false [oI 76 (.bin .add) [.tmp 54,oK 1],oM 54 76])))
def b_addr_Ref : AC:=.seq ( .reg [0] false [oT 1 .box 0,⟨some 2,none,.alloc [.int .i64 0,.int .i64 0,.bool false,.bool false],[]⟩,oI 3 .mv [.const
 (.nili)]]) ( .seq ( .reg [2,1] false [oT 7 (.mkFn zBr 0) 1,oM 4 7]) ( .seq ( .reg [2,1,4] false [oM 8 4,oT 9 (.callv false) 8,oF 10 2 2,oS 1 10
 9]) ( .seq ( .seq ( .reg [2,1,4] false [oL 11 1 false 1,oI 12 (.bin .eql) [.tmp 11,.const (.str [])],oM 13 12,oG 14 13 false (.load 1 false) [.tmp 1],oG
 15 13 false .idxStr [.tmp 14,oK 0],oG 16 13 false (.bin .lss) [.tmp 15,.const (.int .u8 65)],oI 17 .pick [.tmp 13,oB true,.tmp 16],oM 18 17,oG 19 18
 false (.load 1 false) [.tmp 1],oG 20 18 false .idxStr [.tmp 19,oK 0],oG 21 18 false (.bin .gtr) [.tmp 20,.const (.int .u8 90)],oI 22 .pick [.tmp 18,oB
 true,.tmp 21]]) ( .cond (.tmp 22) ( .seq ( .reg [2] false [⟨some 23,none,.build [.int .i64 0,.int .i64 0,.bool false,.bool false] [],[]⟩,oI 24 (.mkIface
 zJ) [oK 2],oS 4 2 23,oM 3 24]) ( .ret)) ( .skip))) ( .seq ( .reg [2,1,4] false [oL 25 1 false 1,oI 26 .idxStr [.tmp 25,oK 0],oI 27 (.bin .sub)
 [.tmp 26,.const (.int .u8 65)],oT 28 (.convInt .i64) 27,oI 29 (.bin .add) [.tmp 28,oK 1],oF 30 0 2,oF 31 0 30,oS 1 31 29]) ( .seq ( .reg [2,1,4] false
 [oL 32 1 false 1,oI 33 (.slc none true false) [.tmp 32,oK 1],oS 1 1 33]) ( .seq ( .reg [2,1,4] false [oM 34 4,oT 35 (.callv false) 34,oF 36 3 2,oS 1 36
 35]) ( .seq ( .seq ( .reg [2,1] false [oL 37 1 false 1,oI 38 (.bin .eql) [.tmp 37,.const (.str [])],oM 39 38,oG 40 39 false (.load 1 false) [.tmp 1],oG 41
 39 false (.len true) [.tmp 40],oG 42 39 false (.bin .gtr) [.tmp 41,oK 2],oI 43 .pick [.tmp 39,oB true,.tmp 42],oM 44 43,oG 45 44 false (.load 1 false)
 [.tmp 1],oG 46 44 false .idxStr [.tmp 45,oK 0],oG 47 44 false (.bin .eql) [.tmp 46,.const (.int .u8 48)],oI 48 .pick [.tmp 44,oB true,.tmp 47]]) ( .cond
 (.tmp 48) ( .seq ( .reg [2] false [⟨some 49,none,.build [.int .i64 0,.int .i64 0,.bool false,.bool false] [],[]⟩,oI 50 (.mkIface zJ) [oK 2],oS 4
 2 49,oM 3 50]) ( .ret)) ( .skip))) ( .seq ( .seq ( .reg [2,1] false [oL 51 1 false 1,oT 52 .strToBytes 51,oT 53 (.len false) 52,oI 54 .mv [oK 0]]) ( .block
 0 [2] ( .loop [2,54,52,53] b_addr_Ref_0))) ( .seq ( .reg [2] false [oL 77 4 true 2,oS 4 2 77,oI 3 .mv [.const (.nili)]]) ( .ret))))))))))
def zGI : AF:={ results:=[.cell 2 4 true,.tmp 3],body:=b_addr_Ref }
def zDW : AC:=.seq ( .seq ( .reg [2,0,4] false [oM 6 4,oM 7 0,oT 8 (.len true) 7,oD 9 (.bin .lss) 6 8]) ( .cond (.tmp 9) ( .skip) (
 .exit 0))) ( .seq ( .block 1 [2,0,4] ( .seq ( .reg [2,0,4] false [oM 12 0,oM 13 4,oD 14 .idxStr 12 13,oM 5 14]) ( .seq ( .seq ( .reg [2,0,4,5] false
 [oM 15 5,oI 16 (.bin .geq) [.tmp 15,.const (.int .u8 128)]]) ( .cond (.tmp 16) ( .seq ( .reg [2] false [oL 17 256 true 2,oS 256 2 17,oI 3 .mv [oB false]]) (
 .ret)) ( .skip))) ( .reg [2,0,4,5] false [oM 18 5,oD 19 (.idxArr 1 256) 2 18,oJ (.store 1) [.tmp 19,oB true]])))) ( .reg [2,0,4] false [oM 10 4,oI 11
 (.bin .add) [.tmp 10,oK 1],oM 4 11]))
def zEF : AC:=.seq ( .reg [0] false [⟨some 2,none,.alloc (List.replicate 256 (.bool false)),[]⟩,oI 3 .mv [oB false]]) ( .seq ( .seq (
 .reg [2,0] false [oI 4 .mv [oK 0]]) ( .block 0 [2] ( .loop [2,4,0] zDW))) ( .seq ( .reg [2] false [oL 20 256 true 2,oS 256 2 20,oI 3
 .mv [oB true]]) ( .ret)))
def zBH : AF:={ results:=[.cell 2 256 true,.tmp 3],body:=zEF }
def zDF : AC:=.seq ( .seq ( .reg [0,1] false [oM 5 0,oT 6 (.len true) 5,oI 7 (.bin .gtr) [.tmp 6,oK 0]]) ( .cond (.tmp 7) ( .skip) (
 .exit 0))) ( .block 1 [0,1] ( .seq ( .seq ( .reg [0,1] false [oM 8 1,oM 9 0,oI 10 .idxStr [.tmp 9,oK 0],oD 11 (.call zU true) 8
 10,oT 12 (.un .not) 11]) ( .cond (.tmp 12) ( .exit 0) ( .skip))) ( .reg [1,0] false [oM 13 0,oI 14 (.slc none true false) [.tmp 13,oK 1],oM 0 14])))
def zDu : AC:=.seq ( .reg [0,1] false [oI 4 .mv [.const (.str [])]]) ( .seq ( .block 0 [0] ( .loop [0,1] zDF)) (
 .seq ( .reg [0] false [oM 15 0,oM 4 15]) ( .ret)))
def zA9 : AF:={ results:=[.tmp 4],body:=zDu }
def zCn : AC:=.seq ( .seq ( .reg [0,1] false [oM 5 0,oT 6 (.len true) 5,oI 7 (.bin .gtr) [.tmp 6,oK 0]]) ( .cond (.tmp 7) ( .skip) (
 .exit 0))) ( .block 1 [0,1] ( .seq ( .seq ( .reg [0,1] false [oM 8 1,oM 9 0,oM 10 0,oT 11 (.len true) 10,oI 12 (.bin .sub) [.tmp 11,oK 1],oD 13 .idxStr 9
 12,oD 14 (.call zU true) 8 13,oT 15 (.un .not) 14]) ( .cond (.tmp 15) ( .exit 0) ( .skip))) ( .reg [1,0] false [oM 16 0,oM 17 0,
 oT 18 (.len true) 17,oI 19 (.bin .sub) [.tmp 18,oK 1],oD 20 (.slc none false true) 16 19,oM 0 20])))
def zDX : AC:=.seq ( .reg [0,1] false [oI 4 .mv [.const (.str [])]]) ( .seq ( .block 0 [0] ( .loop [0,1] zCn)) (
 .seq ( .reg [0] false [oM 21 0,oM 4 21]) ( .ret)))
def zAz : AF:={ results:=[.tmp 4],body:=zDX }
def zEp : AC:=.seq ( .reg [1,0] false [oI 4 .mv [.const (.str [])]]) ( .seq ( .reg [1,0] false [oM 5 0,oM 6 1,oD 7 (.call
 z6 true) 5 6,oM 4 7]) ( .ret))
def zBV : AF:={ results:=[.tmp 4],body:=zEp }
def b_addr_Ref_c1 : AC:=.seq ( .reg [0] false [oI 1 .mv [oB false]]) ( .seq ( .seq ( .reg [0] false [oL 2 1 false 0,oI 3 (.bin .neq) [.tmp 2,.const (.str
 [])],oM 4 3,oG 5 4 true (.load 1 false) [.tmp 0],oG 6 4 true .idxStr [.tmp 5,oK 0],oG 7 4 true (.bin .eql) [.tmp 6,.const (.int .u8 36)],oI 8 .pick [.tmp
 4,.tmp 7,oB false]]) ( .cond (.tmp 8) ( .seq ( .reg [0] false [oL 9 1 false 0,oI 10 (.slc none true false) [.tmp 9,oK 1],oS 1 0 10]) ( .seq ( .reg [] false
 [oI 1 .mv [oB true]]) ( .ret))) ( .skip))) ( .seq ( .reg [] false [oI 1 .mv [oB false]]) ( .ret)))
def zDv : AF:={ results:=[.tmp 1],body:=b_addr_Ref_c1 }
def zCF : AC:=.seq ( .reg [1,0] false [oI 4 .mv [oB false]]) ( .seq ( .reg [1,0] false [oM 5 0,oM 6 1,oN 7 5,oD 8 (.idxArr 1
 256) 7 6,oL 9 1 false 8,oM 4 9]) ( .ret))
def zAQ : AF:={ results:=[.tmp 4],body:=zCF }
def zDY : AC:=.seq ( .reg [1,0] false [oI 4 .mv [.const (.str [])]]) ( .seq ( .seq ( .reg [1,0] false [oM 5 0,oM 6 1,oD 7 (.call
 zi true) 5 6]) ( .cond (.tmp 7) ( .seq ( .reg [1,0] false [oM 8 0,oM 9 1,oT 10 (.len true) 9,oD 11 (.slc none true false) 8 10,oM 4
 11]) ( .ret)) ( .skip))) ( .seq ( .reg [0] false [oM 12 0,oM 4 12]) ( .ret)))
def zA0 : AF:={ results:=[.tmp 4],body:=zDY }
end Go.AM
namespace Go.AM
open Go.Proofs
theorem zFr : zAR Tryz.prog zCw zCx = true:=by kernel_rfl
theorem k_merge_Diff : zAR Tryz.prog zCC zGb = true:=by kernel_rfl
theorem zHv : zAR Tryz.prog zBo zEZ = true:=by kernel_rfl
theorem k_find_Replace : zAR Tryz.prog zAl zEx = true:=by kernel_rfl
theorem k_find_Find : zAR Tryz.prog zBd zHl = true:=by kernel_rfl
theorem k_merge_check : zAR Tryz.prog zCS zFk = true:=by kernel_rfl
theorem k_merge_texts : zAR Tryz.prog zCT zFl = true:=by kernel_rfl
theorem k_merge_cells : zAR Tryz.prog zDn zFm = true:=by kernel_rfl
theorem k_scclaw4_cell : zAR Tryz.prog zBY zEy = true:=by kernel_rfl
theorem k_addr_Check : zAR Tryz.prog zCD zGc = true:=by kernel_rfl
theorem k_addr_Less : zAR Tryz.prog zDo zHq = true:=by kernel_rfl
theorem k_graph_Text : zAR Tryz.prog zAO zGd = true:=by kernel_rfl
theorem k_graph_Check : zAR Tryz.prog zAA zFn = true:=by kernel_rfl
theorem k_addr_Compare : zAR Tryz.prog zAm zEz = true:=by kernel_rfl
theorem zAY : zAR Tryz.prog zR zu = true:=by kernel_rfl
theorem k_addr_ok : zAR Tryz.prog zFi a_addr_ok = true:=by kernel_rfl
theorem zFs : zAR Tryz.prog zAB zBu = true:=by kernel_rfl
theorem zHw : zAR Tryz.prog zAP zAc = true:=by kernel_rfl
theorem k_cmp_Or_int_ : zAR Tryz.prog zCU zFp = true:=by kernel_rfl
theorem zFt : zAR Tryz.prog zAj zCy = true:=by kernel_rfl
theorem zFG : zAR Tryz.prog zq zBe = true:=by kernel_rfl
theorem zFu : zAR Tryz.prog zm zBw = true:=by kernel_rfl
theorem zEG : zAR Tryz.prog zK zBD = true:=by kernel_rfl
theorem zEb : zAR Tryz.prog zN zAk = true:=by kernel_rfl
theorem zDZ : zAR Tryz.prog zL zAw = true:=by kernel_rfl
theorem zGr : zAR Tryz.prog zBA zD5 = true:=by kernel_rfl
theorem zDw : zAR Tryz.prog zi zA8 = true:=by kernel_rfl
theorem zEc : zAR Tryz.prog zh zBP = true:=by kernel_rfl
theorem k_formula_opOf : zAR Tryz.prog zBC zDB = true:=by kernel_rfl
theorem zDa : zAR Tryz.prog zS zAx = true:=by kernel_rfl
theorem zDb : zAR Tryz.prog zz zAy = true:=by kernel_rfl
theorem zEH : zAR Tryz.prog zAI zY = true:=by kernel_rfl
theorem zDG : zAR Tryz.prog zk zAo = true:=by kernel_rfl
theorem zEI : zAR Tryz.prog zX zBE = true:=by kernel_rfl
theorem zEJ : zAR Tryz.prog zAJ zBF = true:=by kernel_rfl
theorem zHx : zAR Tryz.prog zj zCc = true:=by kernel_rfl
theorem zGs : zAR Tryz.prog zr zBa = true:=by kernel_rfl
theorem zEK : zAR Tryz.prog zW zBG = true:=by kernel_rfl
theorem zGt : zAR Tryz.prog zAh zCK = true:=by kernel_rfl
theorem zDH : zAR Tryz.prog zd zAp = true:=by kernel_rfl
theorem zEL : zAR Tryz.prog zAd zAe = true:=by kernel_rfl
theorem zHy : zAR Tryz.prog zw zCd = true:=by kernel_rfl
theorem k_value_Is : zAR Tryz.prog zBk zGH = true:=by kernel_rfl
theorem k_value_Wrong : zAR Tryz.prog zBq zDs = true:=by kernel_rfl
theorem k_strings_Trim : zAR Tryz.prog zAn zDE = true:=by kernel_rfl
theorem zCo : zAR Tryz.prog zAH zAg = true:=by kernel_rfl
theorem k_value_Whole : zAR Tryz.prog zA7 zDt = true:=by kernel_rfl
theorem k_addr_Ref : zAR Tryz.prog zAU zGI = true:=by kernel_rfl
theorem zEM : zAR Tryz.prog zAK zBH = true:=by kernel_rfl
theorem zDx : zAR Tryz.prog zAC zA9 = true:=by kernel_rfl
theorem zDc : zAR Tryz.prog z1 zAz = true:=by kernel_rfl
theorem zEq : zAR Tryz.prog zAG zBV = true:=by kernel_rfl
theorem k_addr_Ref_c1 : zAR Tryz.prog zBr zDv = true:=by kernel_rfl
theorem zCG : zAR Tryz.prog zU zAQ = true:=by kernel_rfl
theorem zDd : zAR Tryz.prog z6 zA0 = true:=by kernel_rfl
end Go.AM
