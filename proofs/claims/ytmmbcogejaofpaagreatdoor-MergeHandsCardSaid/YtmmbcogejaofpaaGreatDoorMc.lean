/- Abstract code, printed by a program of my own (wip/gen/Gen.lean.tpl) off the dump. -/
import Derived.Test.YtmmbcogejaofpaaGreatDoorGAm22Mn
set_option linter.all false
namespace Go.AM
def zGF : AC:=oQ [0,1] [oI 4 .mv [oB false]] (oQ [0,1] [oI 17 (.call zBN true) [],oI 18 (.call zo true) [.const (.lst
 (some true) 0 []),.tmp 17],oM 16 18,oT 19 (.extract 0) 16,oT 20 (.extract 1) 16,oM 5 19,oM 6 20] (.seq (oQ [0,1,5,6] [oM 21 6,oI 22 (.eqn .iface true
 true) [.tmp 21,.const (.nili)],oM 23 22,oV 24 23 false 5,oW 25 23 false (.len false) 24,oEG 26 23 false .neq 25 2,oP 27 23 true 26] (oC 27 (oQ [] [oI 4 .mv
 [oB false]] (.ret)) (.skip))) (oQ [0,1] [oM 29 0,oM 30 1,oD 31 (.call zo true) 29 30,oM 28 31,oT 32 (.extract 0) 28,oT 33 (.extract 1) 28,oM 7
 32,oM 8 33] (.seq (oQ [7,0,1,8] [oM 34 8,oI 35 (.eqn .iface true true) [.tmp 34,.const (.nili)]] (oC 35 (oQ [] [oI 4 .mv [oB true]] (.ret)) (.skip))) (oQ
 [7,0,1] [oM 37 0,oM 38 7,oD 39 (.call zDC true) 37 38,oM 36 39,oT 40 (.extract 0) 36,oT 41 (.extract 1) 36,oM 9 40,oM 10 41] (oQ [7,10,0,1,
 9] [oM 42 9,oM 43 1,oD 44 (.call zAX true) 42 43,oM 11 44] (oQ [7,11,10,0,1] [oM 46 1,oM 47 1,oD 48 (.call zo true) 46 47,oM 45
 48,oT 49 (.extract 0) 45,oT 50 (.extract 1) 45,oM 12 49,oM 13 50] (oQ [7,12,13,11,10,0,1] [oM 52 1,oM 53 0,oD 54 (.call zo true) 52 53,oM
 51 54,oT 55 (.extract 0) 51,oT 56 (.extract 1) 51,oM 14 55,oM 15 56] (oQ [7,14,15,12,13,11,10] [oM 57 10,oI 58 (.eqn .iface false true) [.tmp 57,
 .const (.nili)],oM 59 58,oV 60 59 true 11,oI 61 .pick [.tmp 59,.tmp 60,oB false],oM 62 61,oV 63 62 true 13,oG 64 62 true (.eqn .iface false true) [.tmp
 63,.const (.nili)],oI 65 .pick [.tmp 62,.tmp 64,oB false],oM 66 65,oV 67 66 true 12,oW 68 66 true (.len false) 67,oEG 69 66 true .eql 68 0,oI 70 .pick
 [.tmp 66,.tmp 69,oB false],oM 71 70,oV 72 71 true 15,oG 73 71 true (.eqn .iface false true) [.tmp 72,.const (.nili)],oI 74 .pick [.tmp 71,.tmp 73,oB
 false],oM 75 74,oV 76 75 true 14,oW 77 75 true (.len false) 76,oV 78 75 true 7,oW 79 75 true (.len false) 78,oXG 80 75 true .eql 77 79,oI 81 .pick [.tmp
 75,.tmp 80,oB false],oM 4 81] (.ret))))))))))
def zDN : AF:={ results:=[.tmp 4],body:=zGF }
def zE1 : AC:=.seq (oQ [11,17,19] [oM 126 19,oM 127 17,zGl 128 127,oX 129 .lss 126 128] (.cond (.tmp 129) (.skip) (.exit 0))) (.seq
 (.block 1 [11,17,19] (.seq (.reg [11,17,19] true [oM 132 17,oM 133 19,oXI 134 3 132 133,oF 135 0 134,oL 136 2 true 135,oM 137 11,oM 138 19,oXI 139 2
 137 138,oL 140 2 true 139,⟨some 141,none,.eqs true [.int .i64,.int .i64],[.tmp 136,.tmp 140]⟩]) (oC 141 (oQ [] [oI 6 .mv [oB false]] (.ret)) (.skip))))
 (oR [11,17,19] [oM 130 19,oE 131 .add 130 1,oM 19 131]))
def zFq : AC:=oQ [1,2,0] [oI 6 .mv [oB false]] (oQ [1,2,0] [oI 21 (.call zBN true) [],oI 22 (.call zc true)
 [.const (.lst (some true) 0 []),.tmp 21,.const (.lst (some true) 0 [])],oM 20 22,oT 23 (.extract 0) 20,oT 24 (.extract 1) 20,oT 25 (.extract 2) 20,oM 7
 23,oM 8 24,oM 9 25] (.seq (oQ [1,2,0,8,7,9] [oM 26 9,oI 27 (.eqn .iface true true) [.tmp 26,.const (.nili)],oM 28 27,oV 29 28 false 7,oW 30 28 false
 (.len false) 29,oEG 31 28 false .neq 30 2,oP 32 28 true 31,oM 33 32,oV 34 33 false 8,oW 35 33 false (.len false) 34,oEG 36 33 false .neq 35 0,oP 37 33
 true 36] (oC 37 (oQ [] [oI 6 .mv [oB false]] (.ret)) (.skip))) (oQ [1,2,0] [oM 39 0,oM 40 0,oM 41 2,oI 42 (.call zc true) [.tmp 39,.tmp 40,.tmp
 41],oM 38 42,oT 43 (.extract 0) 38,oT 44 (.extract 1) 38,oT 45 (.extract 2) 38,oM 10 43,oM 11 44,oM 12 45] (oQ [1,2,0,11,12,10] [oM 46 10,oM 47 2,
 oD 48 (.call zAX true) 46 47,oM 13 48] (.seq (oQ [1,2,0,11,13,12] [oM 49 12,oI 50 (.eqn .iface false true) [.tmp 49,.const (.nili)],oM 51
 50,oV 52 51 true 13,oW 53 51 true (.un .not) 52,oV 54 51 true 53,oV 55 54 false 11,oW 56 54 false (.len false) 55,oEG 57 54 false .neq 56 0,oG 58 51 true
 .pick [.tmp 54,oB true,.tmp 57],oI 59 .pick [.tmp 51,.tmp 58,oB false]] (oC 59 (oQ [] [oI 6 .mv [oB false]] (.ret)) (.skip))) (oQ [1,2,0] [oM 61 0,oM 62
 1,oM 63 1,oI 64 (.call zc true) [.tmp 61,.tmp 62,.tmp 63],oM 60 64,oT 65 (.extract 0) 60,oT 66 (.extract 1) 60,oT 67 (.extract 2) 60,oM 10
 65,oM 11 66,oM 12 67] (oQ [1,2,0,11,12,10] [oM 68 10,oM 69 1,oD 70 (.call zAX true) 68 69,oM 13 70] (.seq (oQ [1,2,0,11,13,12] [oM 71
 12,oI 72 (.eqn .iface false true) [.tmp 71,.const (.nili)],oM 73 72,oV 74 73 true 13,oW 75 73 true (.un .not) 74,oV 76 73 true 75,oV 77 76 false 11,oW 78
 76 false (.len false) 77,oEG 79 76 false .neq 78 0,oG 80 73 true .pick [.tmp 76,oB true,.tmp 79],oI 81 .pick [.tmp 73,.tmp 80,oB false]] (oC 81 (oQ [] [oI
 6 .mv [oB false]] (.ret)) (.skip))) (oQ [1,2,0] [oM 83 0,oM 84 1,oM 85 2,oI 86 (.call zc true) [.tmp 83,.tmp 84,.tmp 85],oM 82 86,oT 87
 (.extract 0) 82,oT 88 (.extract 1) 82,oT 89 (.extract 2) 82,oM 10 87,oM 11 88,oM 12 89] (oQ [11,10,12,1,2,0] [oM 91 0,oM 92 2,oM 93 1,oI 94 (.call
 zc true) [.tmp 91,.tmp 92,.tmp 93],oM 90 94,oT 95 (.extract 0) 90,oT 96 (.extract 1) 90,oT 97 (.extract 2) 90,oM 14 95,oM 15 96,oM 16 97]
 (.seq (oQ [11,14,10,15,16,12] [oM 98 12,oI 99 (.eqn .iface true true) [.tmp 98,.const (.nili)],oM 100 99,oV 101 100 false 16,oG 102 100 false (.eqn
 .iface true true) [.tmp 101,.const (.nili)],oP 103 100 true 102] (.cond (.tmp 103) (oQ [] [oI 6 .mv [oB true]] (.ret)) (.skip))) (oQ [11,14,10,15] [oM 104
 11,oM 105 15,oD 106 (.call zCV true) 104 105,oM 13 106] (oQ [11,13,14,10] [oM 108 10,oM 109 14,oD 110 (.call zo true) 108 109,oM
 107 110,oT 111 (.extract 0) 107,oT 112 (.extract 1) 107,oM 17 111,oM 18 112] (.seq (oQ [11,17,13,18] [oM 113 18,oI 114 (.eqn .iface true true) [.tmp 113,
 .const (.nili)],oM 115 114,oV 116 115 false 13,oW 117 115 false (.un .not) 116,oP 118 115 true 117,oM 119 118,oV 120 119 false 17,oW 121 119 false (.len
 false) 120,oV 122 119 false 11,oW 123 119 false (.len false) 122,oXG 124 119 false .neq 121 123,oP 125 119 true 124] (oC 125 (oQ [] [oI 6 .mv [oB false]]
 (.ret)) (.skip))) (.seq (oQ [11,17] [oI 19 .mv [oK 0]] (.block 0 [] (.loop [19,11,17] zE1))) (oQ [] [oI 6 .mv [oB true]]
 (.ret)))))))))))))))))
def zC8 : AF:={ results:=[.tmp 6],body:=zFq }
def b_merge_Diff_0 : AC:=oQ [8,7,26,27,28,9] [oX 29 .lss 28 27] (.seq (oC 29 (.skip) (.exit 0)) (.seq (.block 1 [8,9,7,26,27,28] (oQ [8,7,26,27,
 28,9] [oXI 30 2 26 28,oL 31 2 true 30,oA 11 [.int .i64 0,.int .i64 0],oS 2 11 31] (.seq (.reg [8,7,26,27,28,11,9] true [oM 32 7,oL 33 2 true 11,
 ⟨some 34,none,.mget (.str []) false,[.tmp 32,.tmp 33]⟩,oM 35 8,oL 36 2 true 11,⟨some 37,none,.mget (.str []) false,[.tmp 35,.tmp 36]⟩,oX 38 .neq 34
 37]) (oC 38 (.reg [8,7,26,27,28,11,9] true [oM 39 9,oL 40 2 true 11,oM 41 8,oL 42 2 true 11,⟨some 43,none,.mget (.str []) false,[.tmp 41,.tmp 42]⟩,
 ⟨some 44,none,.build [.int .i64 0,.int .i64 0,.str []] [(0,2),(2,1)],[.tmp 40,.tmp 43]⟩,oT 45 (.bslice 3) 44,oD 46 (.append 3 32) 39 45,oM 9 46])
 (.skip))))) (oR [8,9,7,26,27,28] [oE 47 .add 28 1,oM 28 47])))
def b_merge_Diff : AC:=oQ [1,0] [oI 4 .mv [.const (.lst (some true) 0 [])],oI 5 .mv [.const (.nili)]] (.seq (oQ [1,0] [oM 12 0,oM 13 1,oD 14 (.bslice 1)
 12 13,oT 15 (.call zBF true) 14,oM 6 15] (oQ [6,1,0] [oM 16 6,oI 17 (.eqn .iface true true) [.tmp 16,.const (.nili)]] (oC 17 (oQ [6] [oM 18 6,oI
 4 .mv [.const (.lst (some true) 0 [])],oM 5 18] (.ret)) (.skip)))) (oQ [1,0] [oM 19 0,oT 20 (.call zBe true) 19,oM 21 1,oT 22 (.call zBe
 true) 21,oM 7 20,oM 8 22] (.seq (.reg [8,7,1,0] false [oI 9 .mv [.const (.lst (some true) 0 [])]]) (.seq (oQ [8,9,7,1,0] [oM 23 0,oM 24 1,oD 25
 (.bslice 1) 23 24,oT 26 (.call zDD true) 25,zGl 27 26,oI 28 .mv [oK 0]] (.block 0 [9] (.loop [28,8,9,7,26,27] b_merge_Diff_0))) (oQ [9] [oM 48
 9,oM 4 48,oI 5 .mv [.const (.nili)]] (.ret))))))
def zHp : AF:={ results:=[.tmp 4,.tmp 5],body:=b_merge_Diff }
def zIy : AC:=oQ [] [oI 0 .mv [.const (.lst (some true) 0 [])]] (oQ [] [oI 1 (.call zCD true) [oK 1,oK 1],⟨some 2,none,.build [.int
 .i64 0,.int .i64 0,.str []] [(0,2),(2,1)],[.tmp 1,.const (.str [50])]⟩,oI 3 (.call zCD true) [oK 2,oK 1],⟨some 4,none,.build [.int .i64 0,
 .int .i64 0,.str []] [(0,2),(2,1)],[.tmp 3,.const (.str [61,65,49,43,49])]⟩,oD 5 (.bslice 3) 2 4,oM 0 5] (.ret))
def zFR : AF:={ results:=[.tmp 0],body:=zIy }
def zIz : AC:=oQ [1,18,0,19,20] [oX 21 .lss 20 19] (.seq (oC 21 (.skip) (.exit 0)) (.seq (.block 1 [1,18,0,19,20] (oQ [1,18,0,19,20]
 [oM 22 20,oXI 23 3 18 20,oL 24 3 true 23,oA 8 [.int .i64 0,.int .i64 0,.str []],oM 7 22,oS 3 8 24] (.seq (.block 2 [1,18,0,19,20,8] (oQ [1,18,0,
 19,20,8,7] [oF 26 0 8,oL 27 2 true 26,oT 28 (.call zBc true) 27,oI 29 (.eqn .iface true true) [.tmp 28,.const (.nili)],oM 25 29] (oC 25 (oQ []
 [oI 30 (.mkIface zK) [oK 1],oI 4 .mv [.const (.lst (some true) 0 [])],oM 5 30] (.ret)) (.seq (.reg [1,18,0,19,20,8,7] true [oM 32 7,oE 33 .gtr
 32 0,oM 34 33,oV 35 34 true 1,oV 36 34 true 7,oEG 37 34 true .sub 36 1,oYI 38 34 true 3 35 37,oW 39 34 true (.fieldAddr 0) 38,oW 40 34 true (.load 2 true)
 39,oW 41 34 true (.fieldAddr 0) 8,oW 42 34 true (.load 2 true) 41,oY 43 34 true (.call zCo true) 40 42,oW 44 34 true (.un .not) 43,oI 45 .pick [.tmp
 34,.tmp 44,oB false],oM 31 45]) (oC 31 (oQ [] [oI 46 (.mkIface zK) [oK 5],oI 4 .mv [.const (.lst (some true) 0 [])],oM 5 46] (.ret)) (.skip))))))
 (oQ [1,18,0,19,20,8] [oF 47 2 8,oO 48 47,oT 49 (.call zAm true) 48,oM 9 49] (oQ [9,1,18,0,19,20] [oM 50 9,oI 51 (.eqn .iface true true)
 [.tmp 50,.const (.nili)]] (oC 51 (oQ [9] [oM 52 9,oI 4 .mv [.const (.lst (some true) 0 [])],oM 5 52] (.ret)) (.skip))))))) (oR [1,18,0,19,20] [oE 53 .add
 20 1,oM 20 53])))
def zI0 : AC:=oQ [54,55,56,0] [oX 57 .lss 56 55] (.seq (oC 57 (.skip) (.exit 3)) (.seq (.block 4 [0,54,55,56] (oQ [54,55,56,0] [oXI 58 3
 54 56,oL 59 3 true 58,oA 11 [.int .i64 0,.int .i64 0,.str []],oS 3 11 59] (oR [54,55,56,11,0] [oM 60 0,oF 61 0 11,oL 62 2 true 61,oF 63 2 11,oO 64
 63,oI 65 (.call zDj true) [.tmp 60,.tmp 62,.tmp 64],oM 0 65]))) (oR [0,54,55,56] [oE 66 .add 56 1,oM 56 66])))
def b_merge_Apply : AC:=oQ [1,0] [oI 4 .mv [.const (.lst (some true) 0 [])],oI 5 .mv [.const (.nili)]] (.seq (oQ [1,0] [oM 12 0,oT 13 (.bslice 1) 12,oT 14
 (.call zBF true) 13,oM 6 14] (oQ [6,1,0] [oM 15 6,oI 16 (.eqn .iface true true) [.tmp 15,.const (.nili)]] (oC 16 (oQ [6] [oM 17 6,oI 4 .mv
 [.const (.lst (some true) 0 [])],oM 5 17] (.ret)) (.skip)))) (.seq (oQ [1,0] [oM 18 1,zGl 19 18,oI 20 .mv [oK 0]] (.block 0 [0,1] (.loop [20,1,18,0,19]
 zIz))) (.seq (oQ [0,1] [oM 54 1,zGl 55 54,oI 56 .mv [oK 0]] (.block 3 [0] (.loop [56,0,54,55] zI0))) (.seq (oQ [0] [oM 67 0,zGl
 68 67,oE 69 .gtr 68 200] (oC 69 (oQ [] [oI 70 (.mkIface zK) [oK 4],oI 4 .mv [.const (.lst (some true) 0 [])],oM 5 70] (.ret)) (.skip))) (oQ [0] [oM
 71 0,oT 72 (.call zM false) 71,oM 4 72,oI 5 .mv [.const (.nili)]] (.ret))))))
def zGn : AF:={ results:=[.tmp 4,.tmp 5],body:=b_merge_Apply }
def zGo : AC:=.seq (oQ [1,0,5] [oM 11 5,oM 12 0,zGl 13 12,oX 14 .lss 11 13] (oC 14 (.skip) (.exit 0))) (.seq (.block 1 [1,0,5] (.seq
 (.reg [1,0,5] true [oM 17 0,oM 18 5,oXI 19 3 17 18,oL 20 3 true 19,oM 21 1,oM 22 5,oXI 23 3 21 22,oL 24 3 true 23,⟨some 25,none,.eqs true [.int .i64,
 .int .i64,.str],[.tmp 20,.tmp 24]⟩]) (oC 25 (oQ [] [oI 4 .mv [oB false]] (.ret)) (.skip)))) (oR [1,0,5] [oM 15 5,oE 16 .add 15 1,oM 5 16]))
def zH6 : AC:=oQ [1,0] [oI 4 .mv [oB false]] (.seq (oQ [1,0] [oM 6 0,zGl 7 6,oM 8 1,zGl 9 8,oX 10 .neq 7 9] (oC 10 (oQ [] [oI 4 .mv [oB
 false]] (.ret)) (.skip))) (.seq (oQ [1,0] [oI 5 .mv [oK 0]] (.block 0 [] (.loop [5,1,0] zGo))) (oQ [] [oI 4 .mv [oB true]] (.ret))))
def zC3 : AF:={ results:=[.tmp 4],body:=zH6 }
def zI1 : AC:=oQ [12,14,11,10,36,37,38,13] [oX 39 .lss 38 37] (.seq (oC 39 (.skip) (.exit 0)) (.seq (.block 1 [13,12,14,11,10,36,37,
 38] (oQ [12,14,11,10,36,37,38,13] [oXI 40 2 36 38,oL 41 2 true 40,⟨some 16,none,.alloc [.int .i64 0,.int .i64 0],[]⟩,oS 2 16 41] (oQ [12,14,11,
 10,36,37,38,16,13] [oM 42 11,oL 43 2 true 16,⟨some 44,none,.mget (.str []) false,[.tmp 42,.tmp 43]⟩,oM 17 44] (.seq (.block 2 [12,14,11,10,36,
 37,38,17,16,13] (.seq (.reg [12,14,11,10,36,37,38,16,13,17] true [oM 46 11,oL 47 2 true 16,⟨some 48,none,.mget (.str []) false,[.tmp 46,.tmp
 47]⟩,oM 49 10,oL 50 2 true 16,⟨some 51,none,.mget (.str []) false,[.tmp 49,.tmp 50]⟩,oX 52 .eql 48 51,oM 45 52]) (oC 45 (oR [12,14,11,10,36,37,38,
 16,13] [oM 53 12,oL 54 2 true 16,⟨some 55,none,.mget (.str []) false,[.tmp 53,.tmp 54]⟩,oM 17 55]) (.seq (.reg [12,11,10,36,37,38,17,16,13,14]
 true [oM 57 12,oL 58 2 true 16,⟨some 59,none,.mget (.str []) false,[.tmp 57,.tmp 58]⟩,oM 60 10,oL 61 2 true 16,⟨some 62,none,.mget (.str []) false,
 [.tmp 60,.tmp 61]⟩,oX 63 .neq 59 62,oM 64 63,oV 65 64 true 11,oW 66 64 true (.load 2 true) 16,⟨some 67,some (64,true),.mget (.str []) false,[.tmp 65,
 .tmp 66]⟩,oV 68 64 true 12,oW 69 64 true (.load 2 true) 16,⟨some 70,some (64,true),.mget (.str []) false,[.tmp 68,.tmp 69]⟩,oXG 71 64 true .neq 67 70,
 oI 72 .pick [.tmp 64,.tmp 71,oB false],oM 56 72]) (oC 56 (oR [12,11,10,36,37,38,17,16,13,14] [oM 73 14,oL 74 2 true 16,oT 75 (.bslice 2) 74,oD 76
 (.append 2 16) 73 75,oM 14 76]) (.skip)))))) (oQ [12,14,11,10,36,37,38,17,16,13] [oM 77 17,oI 78 (.bin .neq) [.tmp 77,.const (.str [])]] (oC 78 (oR
 [12,14,11,10,36,37,38,17,16,13] [oM 79 13,oL 80 2 true 16,oM 81 17,⟨some 82,none,.build [.int .i64 0,.int .i64 0,.str []] [(0,2),(2,1)],[.tmp
 80,.tmp 81]⟩,oT 83 (.bslice 3) 82,oD 84 (.append 3 32) 79 83,oM 13 84]) (.skip))))))) (oR [13,12,14,11,10,36,37,38] [oE 85 .add 38 1,oM 38 85])))
def b_merge_Three : AC:=oQ [2,1,0] [oI 6 .mv [.const (.lst (some true) 0 [])],oI 7 .mv [.const (.lst (some true) 0 [])],oI 8 .mv [.const (.nili)]] (.seq
 (oQ [2,1,0] [oM 18 0,oM 19 1,oM 20 2,oI 21 (.bslice 1) [.tmp 18,.tmp 19,.tmp 20],oT 22 (.call zBF true) 21,oM 9 22] (oQ [9,2,1,0] [oM 23 9,
 oI 24 (.eqn .iface true true) [.tmp 23,.const (.nili)]] (oC 24 (oQ [9] [oM 25 9,oI 6 .mv [.const (.lst (some true) 0 [])],oI 7 .mv [.const (.lst (some true) 0
 [])],oM 8 25] (.ret)) (.skip)))) (oQ [2,1,0] [oM 26 0,oT 27 (.call zBe true) 26,oM 28 1,oT 29 (.call zBe true) 28,oM 30 2,oT 31
 (.call zBe true) 30,oM 10 27,oM 11 29,oM 12 31] (oQ [12,11,10,2,1,0] [oI 13 .mv [.const (.lst (some true) 0 [])]] (oQ [13,12,11,10,2,1,0]
 [oI 14 .mv [.const (.lst (some true) 0 [])]] (.seq (oQ [13,12,14,11,10,2,1,0] [oM 32 0,oM 33 1,oM 34 2,oI 35 (.bslice 1) [.tmp 32,.tmp 33,.tmp 34],
 oT 36 (.call zDD true) 35,zGl 37 36,oI 38 .mv [oK 0]] (.block 0 [14,13] (.loop [38,13,12,14,11,10,36,37] zI1))) (.seq (oQ [14,
 13] [oM 86 13,zGl 87 86,oE 88 .gtr 87 200] (oC 88 (oQ [] [oI 89 (.mkIface zK) [oK 4],oI 6 .mv [.const (.lst (some true) 0 [])],oI 7 .mv [.const
 (.lst (some true) 0 [])],oM 8 89] (.ret)) (.skip))) (.seq (.reg [14,13] false [oM 90 13,oM 91 14,oM 6 90,oM 7 91,oI 8 .mv [.const (.nili)]]) (.ret))))))))
def zGp : AF:={ results:=[.tmp 6,.tmp 7,.tmp 8],body:=b_merge_Three }
def zHS : AC:=.seq (oQ [1,0,5] [oM 11 5,oM 12 0,zGl 13 12,oX 14 .lss 11 13] (oC 14 (.skip) (.exit 0))) (.seq (.block 1 [1,0,5] (.seq
 (.reg [1,0,5] true [oM 17 0,oM 18 5,oXI 19 2 17 18,oL 20 2 true 19,oM 21 1,oM 22 5,oXI 23 2 21 22,oL 24 2 true 23,⟨some 25,none,.eqs true [.int .i64,
 .int .i64],[.tmp 20,.tmp 24]⟩]) (oC 25 (oQ [] [oI 4 .mv [oB false]] (.ret)) (.skip)))) (oR [1,0,5] [oM 15 5,oE 16 .add 15 1,oM 5 16]))
def zI2 : AC:=oQ [1,0] [oI 4 .mv [oB false]] (.seq (oQ [1,0] [oM 6 0,zGl 7 6,oM 8 1,zGl 9 8,oX 10 .neq 7 9] (oC 10 (oQ [] [oI 4 .mv [oB
 false]] (.ret)) (.skip))) (.seq (oQ [1,0] [oI 5 .mv [oK 0]] (.block 0 [] (.loop [5,1,0] zHS))) (oQ [] [oI 4 .mv [oB true]] (.ret))))
def zFS : AF:={ results:=[.tmp 4],body:=zI2 }
def zI3 : AC:=oQ [6,7,8] [oX 9 .lss 8 7] (.seq (oC 9 (.skip) (.exit 0)) (.seq (.block 1 [6,7,8] (oQ [6,7,8] [oXI 10 1 6 8,oO 11 10,oM 4 11]
 (oQ [6,7,8,4] [oM 12 4,oT 13 (.call zCW true) 12,oM 5 13] (oQ [5,6,7,8] [oM 14 5,oI 15 (.eqn .iface true true) [.tmp 14,.const (.nili)]] (oC
 15 (oQ [5] [oM 16 5,oM 2 16] (.ret)) (.skip)))))) (oR [6,7,8] [oE 17 .add 8 1,oM 8 17])))
def b_merge_check : AC:=oQ [0] [oI 2 .mv [.const (.nili)]] (.seq (oQ [0] [oM 6 0,zGl 7 6,oI 8 .mv [oK 0]] (.block 0 [] (.loop [8,6,7] zI3)))
 (oQ [] [oI 2 .mv [.const (.nili)]] (.ret)))
def zGq : AF:={ results:=[.tmp 2],body:=b_merge_check }
def zI4 : AC:=oQ [3,7,8,9] [oX 10 .lss 9 8] (.seq (oC 10 (.skip) (.exit 0)) (.seq (.block 1 [3,7,8,9] (oQ [3,7,8,9] [oXI 11 3 7 9,oL 12 3
 true 11,oA 5 [.int .i64 0,.int .i64 0,.str []],oS 3 5 12] (oR [3,7,8,9,5] [oM 13 3,oF 14 0 5,oL 15 2 true 14,oF 16 2 5,oO 17 16,oJ .mset [.tmp 13,
 .tmp 15,.tmp 17]]))) (oR [3,7,8,9] [oE 18 .add 9 1,oM 9 18])))
def b_merge_texts : AC:=oQ [0] [oI 2 .mv [.const (.nilm)]] (oQ [0] [oI 6 .mkmap [],oM 3 6] (.seq (oQ [3,0] [oM 7 0,zGl 8 7,oI 9 .mv [oK 0]] (.block 0 [3]
 (.loop [9,3,7,8] zI4))) (oQ [3] [oM 19 3,oM 2 19] (.ret))))
def zGr : AF:={ results:=[.tmp 2],body:=b_merge_texts }
def zI5 : AC:=oQ [14,8,9,10,15,16,3] [oX 17 .lss 16 15] (.seq (oC 17 (.skip) (.exit 2)) (.seq (.block 3 [3,14,8,9,10,15,16] (oQ [14,8,
 9,10,15,16,3] [oXI 18 3 14 16,oL 19 3 true 18,oA 7 [.int .i64 0,.int .i64 0,.str []],oS 3 7 19] (oR [14,8,9,10,15,16,7,3] [oM 20 3,oF 21 0 7,oL
 22 2 true 21,oT 23 (.bslice 2) 22,oD 24 (.append 2 16) 20 23,oM 3 24]))) (oR [3,14,8,9,10,15,16] [oE 25 .add 16 1,oM 16 25])))
def zI6 : AC:=oQ [3,8,9,10] [oX 11 .lss 10 9] (.seq (oC 11 (.skip) (.exit 0)) (.seq (.block 1 [3,8,9,10] (oQ [3,8,9,10] [oXI 12 1 8 10,oO
 13 12,oM 5 13] (oQ [3,8,9,10,5] [oM 14 5,zGl 15 14,oI 16 .mv [oK 0]] (.block 2 [3,8,9,10] (.loop [16,3,14,8,9,10,15] zI5))))) (oR
 [3,8,9,10] [oE 26 .add 10 1,oM 10 26])))
def b_merge_cells : AC:=oQ [0] [oI 2 .mv [.const (.lst (some true) 0 [])]] (oQ [0] [oI 3 .mv [.const (.lst (some true) 0 [])]] (.seq (oQ [3,0] [oM 8 0,zGl 9
 8,oI 10 .mv [oK 0]] (.block 0 [3] (.loop [3,10,8,9] zI6))) (.seq (.reg [3] false [oM 27 3,oI 28 (.call zAC
 false) [.tmp 27,.fn zAk]]) (oQ [3] [oM 29 3,oT 30 (.call zZ false) 29,oM 2 30] (.ret)))))
def zGs : AF:={ results:=[.tmp 2],body:=b_merge_cells }
def b_scclaw4_cell : AC:=oQ [1,0] [oA 4 [.int .i64 0,.int .i64 0]] (oQ [4,1,0] [oM 5 0,oM 6 1,⟨some 7,none,.build [.int .i64 0,.int .i64 0] [(0,1),
 (1,1)],[.tmp 5,.tmp 6]⟩,oS 2 4 7] (.ret))
def zFz : AF:={ results:=[.cell 4 2 true],body:=b_scclaw4_cell }
def b_addr_Check : AC:=oQ [0] [oT 1 .box 0,oI 2 .mv [.const (.nili)]] (.seq (oQ [1] [oL 3 2 true 1,oT 4 (.call zGm true) 3,oT 5 (.un .not) 4] (oC 5
 (oQ [] [oI 6 (.mkIface zK) [oK 1],oM 2 6] (.ret)) (.skip))) (oQ [] [oI 2 .mv [.const (.nili)]] (.ret)))
def zHq : AF:={ results:=[.tmp 2],body:=b_addr_Check }
def b_addr_Less : AC:=oQ [1,0] [oT 2 .box 0,oT 3 .box 1,oI 4 .mv [oB false]] (oQ [3,2] [oL 5 2 true 2,oL 6 2 true 3,oD 7 (.call zAk true) 5 6,
 oE 8 .lss 7 0,oM 4 8] (.ret))
def zI7 : AF:={ results:=[.tmp 4],body:=b_addr_Less }
def b_graph_Text : AC:=oQ [0] [oI 2 .mv [.const (.nili)]] (.seq (oQ [0] [oM 6 0,oT 7 (.len true) 6,oE 8 .gtr 7 200] (oC 8 (oQ [] [oI 9 (.mkIface zK)
 [oK 4],oM 2 9] (.ret)) (.skip))) (.seq (oQ [0] [oM 10 0,oT 11 (.call zAR true) 10,oT 12 (.un .not) 11] (oC 12 (oQ [0] [oM 14 0,oT 15 (.call
 zAn true) 14,oM 13 15,oT 16 (.extract 0) 13,oT 17 (.extract 1) 13,oT 18 (.extract 2) 13,oA 3 oZ,oS 12 3 16,oM 4 17,oM 5 18] (oQ [5] [oM 19 5,
 oI 20 (.eqn .iface true true) [.tmp 19,.const (.nili)]] (oC 20 (oQ [] [oI 21 (.mkIface zK) [oK 2],oM 2 21] (.ret)) (.skip)))) (.skip))) (oQ [] [oI 2
 .mv [.const (.nili)]] (.ret))))
def zHr : AF:={ results:=[.tmp 2],body:=b_graph_Text }
def b_sheet_With : AC:=oQ [2,0,1] [oT 4 .box 1,oI 6 .mv [.const (.lst (some true) 0 [])]] (oQ [2,4,0] [oM 10 0,oL 11 2 true 4,oI 12 (.call
 zV true) [.tmp 10,.tmp 11,.fn zAo],oM 9 12,oT 13 (.extract 0) 9,oT 14 (.extract 1) 9,
 oM 7 13,oM 8 14] (oQ [7,2,4,8,0] [oM 15 0,oT 16 (.call zM false) 15,oM 0 16] (.seq (.block 0 [2,4,7,0] (oQ [7,0,
 2,4,8] [oM 18 8,oM 19 18,oV 20 19 true 2,oG 21 19 true (.bin .eql) [.tmp 20,.const (.str [])],oI 22 .pick [.tmp 19,.tmp 21,oB false],oM 17 22] (oC 17
 (oQ [7,0] [oM 23 0,oM 24 7,oM 25 7,oE 26 .add 25 1,oI 27 (.call zj false) [.tmp 23,.tmp 24,.tmp 26],oM 6 27]
 (.ret)) (oQ [0,2,7,4,8] [oM 29 8,oM 28 29] (oC 28 (oQ [0,2,7] [oM 30 0,oM 31 7,oM 32 2,oXI 33 3 30 31,oF 34 2 33,oS 1 34 32] (oQ [0] [oM 35 0,oM 6
 35] (.ret))) (oQ [0,2,4,7] [oM 37 2,oI 38 (.bin .eql) [.tmp 37,.const (.str [])],oM 36 38] (oC 36 (oQ [0] [oM 39 0,oM 6 39] (.ret)) (.skip)))))))) (oQ [2,
 4,7,0] [oM 40 0,oM 41 7,oL 42 2 true 4,oM 43 2,⟨some 44,none,.build [.int .i64 0,.int .i64 0,.str []] [(0,2),(2,1)],[.tmp 42,.tmp 43]⟩,oT 45
 (.bslice 3) 44,oI 46 (.call zQ false) [.tmp 40,.tmp 41,.tmp 45],oM 6 46] (.ret)))))
def zHs : AF:={ results:=[.tmp 6],body:=b_sheet_With }
def zBy : AC:=oQ [0] [oI 2 .mv [.const (.lst (some true) 0 [])]] (.seq (oQ [0] [oM 3 0,oI 4 (.eqn .sl false true) [.tmp 3,
 .const (.lst (some true) 0 [])]] (oC 4 (oQ [] [oI 2 .mv [.const (.lst (some true) 0 [])]] (.ret)) (.skip))) (oQ [0] [oI 5 (.bslice 3) [],oM 6 0,oD 7 (.append 3
 32) 5 6,oM 2 7] (.ret)))
def zI8 : AC:=oQ [0,10,11,12] [oX 13 .lss 12 11] (.seq (oC 13 (.skip) (.exit 0)) (.seq (.block 1 [0,10,11,12] (oQ [0,10,11,12] [oM 14 12,
 oXI 15 3 10 12,oL 16 3 true 15,oA 4 [.int .i64 0,.int .i64 0,.str []],oM 3 14,oS 3 4 16] (.seq (.block 2 [0,10,11,12,4] (oQ [0,10,11,12,4,3] [oF
 18 0 4,oL 19 2 true 18,oT 20 (.call zBc true) 19,oI 21 (.eqn .iface true true) [.tmp 20,.const (.nili)],oM 17 21] (oC 17 (oQ [] [oI 22 (.mkIface
 zK) [oK 1],oM 2 22] (.ret)) (.seq (.reg [0,10,11,12,4,3] true [oM 24 3,oE 25 .gtr 24 0,oM 26 25,oV 27 26 true 0,oV 28 26 true 3,oEG 29 26
 true .sub 28 1,oYI 30 26 true 3 27 29,oW 31 26 true (.fieldAddr 0) 30,oW 32 26 true (.load 2 true) 31,oW 33 26 true (.fieldAddr 0) 4,oW 34 26 true (.load 2
 true) 33,oY 35 26 true (.call zCo true) 32 34,oW 36 26 true (.un .not) 35,oI 37 .pick [.tmp 26,.tmp 36,oB false],oM 23 37]) (oC 23 (oQ [] [oI 38
 (.mkIface zK) [oK 5],oM 2 38] (.ret)) (oQ [0,10,11,12,4] [oF 40 2 4,oO 41 40,oI 42 (.bin .eql) [.tmp 41,.const (.str [])],oM 39 42] (oC 39 (oQ
 [] [oI 43 (.mkIface zK) [oK 3],oM 2 43] (.ret)) (.skip)))))))) (oQ [0,10,11,12,4] [oF 44 2 4,oO 45 44,oT 46 (.call zAm true) 45,oM 5
 46] (oQ [5,0,10,11,12] [oM 47 5,oI 48 (.eqn .iface true true) [.tmp 47,.const (.nili)]] (oC 48 (oQ [5] [oM 49 5,oM 2 49] (.ret)) (.skip))))))) (oR [0,10,
 11,12] [oE 50 .add 12 1,oM 12 50])))
def b_graph_Check : AC:=oQ [0] [oI 2 .mv [.const (.nili)]] (.seq (oQ [0] [oM 6 0,zGl 7 6,oE 8 .gtr 7 200] (oC 8 (oQ [] [oI 9 (.mkIface zK) [oK 4],
 oM 2 9] (.ret)) (.skip))) (.seq (oQ [0] [oM 10 0,zGl 11 10,oI 12 .mv [oK 0]] (.block 0 [] (.loop [12,0,10,11] zI8))) (oQ [] [oI 2 .mv [.const
 (.nili)]] (.ret))))
def zGt : AF:={ results:=[.tmp 2],body:=b_graph_Check }
def b_addr_Compare : AC:=oQ [1,0] [oT 2 .box 0,oT 3 .box 1,oI 4 .mv [oK 0]] (.seq (.reg [3,2] true [oF 5 1 2,oO 6 5,oF 7 1 3,oO 8 7,oD 9 (.call
 zBG true) 6 8,oF 10 0 2,oO 11 10,oF 12 0 3,oO 13 12,oD 14 (.call zBG true) 11 13,oD 15 (.bslice 1) 9 14,oT 16 (.call
 zDE true) 15,oM 4 16]) (.ret))
def zF0 : AF:={ results:=[.tmp 4],body:=b_addr_Compare }
def zBz : AC:=.seq (oQ [4,0,5,3] [oM 29 5,oM 30 4,zGl 31 30,oX 32 .lss 29 31] (oC 32 (.skip) (.exit 2))) (.seq
 (.block 3 [3,4,0,5] (.seq (.reg [4,0,5,3] true [oM 35 4,oM 36 5,oXI 37 2 35 36,oL 38 2 true 37,oM 39 4,oM 40 5,oE 41 .sub 40 1,oXI 42 2 39 41,oL 43
 2 true 42,⟨some 44,none,.eqs true [.int .i64,.int .i64],[.tmp 38,.tmp 43]⟩]) (oC 44 (oQ [4,0,5,3] [oM 45 0,oM 46 3,oM 47 4,oM 48 5,oXI 49 2 47 48,
 oL 50 2 true 49,oXI 51 2 45 46,oS 2 51 50] (oR [4,0,5,3] [oM 52 3,oE 53 .add 52 1,oM 3 53])) (.skip)))) (oR [3,4,0,5] [oM 33 5,oE 34 .add 33 1,oM 5
 34]))
def zB0 : AC:=.seq (oQ [3,0] [oM 10 3,oM 11 0,zGl 12 11,oX 13 .lss 10 12] (.cond (.tmp 13) (.skip) (.exit 0))) (.seq
 (.block 1 [0,3] (.seq (.reg [3,0] true [oM 16 0,oM 17 3,oXI 18 2 16 17,oL 19 2 true 18,oM 20 0,oM 21 3,oE 22 .sub 21 1,oXI 23 2 20 22,oL 24 2 true 23,
 ⟨some 25,none,.eqs false [.int .i64,.int .i64],[.tmp 19,.tmp 24]⟩]) (.cond (.tmp 25) (oQ [3,0] [oM 26 0,oM 27 3,oD 28 (.slc (some 2) true false) 26 27,
 oM 4 28] (.seq (oQ [3,4,0] [oI 5 .mv [oK 1]] (.block 2 [3,0] (.loop [5,3,4,0] zBz))) (oQ [3,0] [oM 54 0,oM 55 3,oD
 56 (.slc (some 2) true false) 54 55,⟨none,none,.clear 2 (.agg [.int .i64 0,.int .i64 0]),[.tmp 56]⟩] (oQ [3,0] [oM 57 0,oM 58 3,oD 59 (.slc (some 2)
 false true) 57 58,oM 2 59] (.ret))))) (.skip)))) (oR [0,3] [oM 14 3,oE 15 .add 14 1,oM 3 15]))
def zB8 : AC:=oQ [0] [oI 2 .mv [.const (.lst (some true) 0 [])]] (.seq (oQ [0] [oM 6 0,zGl 7 6,oE 8 .lss 7 2] (oC 8 (oQ
 [0] [oM 9 0,oM 2 9] (.ret)) (.skip))) (.seq (oQ [0] [oI 3 .mv [oK 1]] (.block 0 [0] (.loop [3,0] zB0))) (oQ [0] [oM 60 0,
 oM 2 60] (.ret))))
def zAD : AF:={ results:=[.tmp 2],body:=zB8 }
def b_addr_ok : AC:=oQ [0] [oT 1 .box 0,oI 2 .mv [oB false]] (oQ [1] [oF 3 0 1,oO 4 3,oE 5 .geq 4 1,oM 6 5,oW 7 6 true (.fieldAddr 0) 1,oW 8 6 true
 (.load 1 false) 7,oEG 9 6 true .leq 8 26,oI 10 .pick [.tmp 6,.tmp 9,oB false],oM 11 10,oW 12 11 true (.fieldAddr 1) 1,oW 13 11 true (.load 1 false) 12,
 oEG 14 11 true .geq 13 1,oI 15 .pick [.tmp 11,.tmp 14,oB false],oM 16 15,oW 17 16 true (.fieldAddr 1) 1,oW 18 16 true (.load 1 false) 17,oEG 19 16 true
 .leq 18 99,oI 20 .pick [.tmp 16,.tmp 19,oB false],oM 2 20] (.ret))
def a_addr_ok : AF:={ results:=[.tmp 2],body:=b_addr_ok }
def zGu : AC:=oQ [0] [oI 2 .mv [oB false]] (oQ [0] [oM 3 0,oI 4 (.call zAA true) [.tmp 3,.const (.str [61])],oT 5 (.un .not)
 4,oM 2 5] (.ret))
def zCb : AF:={ results:=[.tmp 2],body:=zGu }
def zCc : AC:=oQ [0] [oA 2 oZ,oA 3 [.int .i64 0],oA 4 [.nili]] (.seq (oQ [2,3,4,0] [oM 6 0,oT 7 (.len true) 6,oE 8 .gtr 7 200] (oC 8 (oQ [2,
 3,4] [⟨some 9,none,.build oZ [],[]⟩,oI 10 (.mkIface zK) [oK 4],oS 12 2 9,oJ (.store 1) [.tmp 3,oK 0],oS 1 4 10] (.ret)) (.skip))) (oQ [2,3,4,
 0] [oI 11 (.mkFn zx 0) [.tmp 2,.tmp 3,.tmp 4],oJ .stuck []] (oQ [2,3,4,0] [oM 12 0,⟨some 13,none,.build [.str [],.int .i64 0,.int .i64
 0] [(0,1)],[.tmp 12]⟩,oT 14 .box 13,oM 5 14] (.seq (oQ [2,3,4,5,0] [oM 15 0,oT 16 (.call zAR true) 15] (oC 16 (.regt [2,3,4,5,0]
 false [oM 17 5,oI 18 (.mkIface zK) [oK 2],oI 19 (.callp zL) [.tmp 17,oK 0,.tmp 18]] (.step 0 (.step 1 (.step 2 (.done)))))
 (.skip))) (oQ [2,3,4,5,0] [oM 20 5,oN 21 20,oF 22 1 21,oO 23 22,oE 24 .add 23 1,oN 25 20,oF 26 1 25,oS 1 26 24] (.seq (.regt [2,3,4,5,0] false [oM
 27 5,oI 28 (.callp zU) [.tmp 27,oK 0],oS 12 2 28] (.step 0 (.step 1 (.step 2 (.done))))) (.seq (oQ [2,3,4,5,0] [oM 29 5,oT 30 (.call
 zN false) 29] (oQ [2,3,4,5,0] [oM 31 5,oN 32 31,oF 33 1 32,oO 34 33,oM 35 0,oT 36 (.len true) 35,oX 37 .lss 34 36] (oC 37 (.regt
 [2,3,4,5] false [oM 38 5,oM 39 5,oN 40 39,oF 41 1 40,oO 42 41,oI 43 (.mkIface zK) [oK 2],oI 44 (.callp zL) [.tmp 38,.tmp
 42,.tmp 43]] (.step 0 (.step 1 (.step 2 (.step 3 (.step 4 (.step 5 (.step 6 (.done))))))))) (.skip)))) (oQ [2,3,4] [oL 45 12 true 2,oS 12 2 45,oJ (.store 1)
 [.tmp 3,oK 0],oJ (.store 1) [.tmp 4,.const (.nili)]] (.ret)))))))))
def zA4 : AF:={ results:=[.cell 2 12 true,.cell 3 1 false,.cell 4 1 false],body:=zCc }
def zAZ : AC:=.seq (oQ [4,0,2,10,8,9] [oM 15 9,oM 16 10,oX 17 .lss 15 16] (oC 17 (.skip)
 (.exit 0))) (.block 1 [4,0,2,10,9,8] (oQ [4,0,2,10,8,9] [oM 18 9,oM 19 10,oX 20 .add 18 19,oT 21 (.convInt .u64) 20,oI 22 (.bin .shr) [.tmp 21,
 .const (.int .u64 1)],oT 23 (.convInt .i64) 22,oM 11 23] (.seq (.reg [4,0,2,10,8,11,9] true [oM 24 2,oM 25 0,oM 26 11,oXI 27 3 25 26,oL 28 3 true 27,
 oL 29 2 true 4,oI 30 (.callv true) [.tmp 24,.tmp 28,.tmp 29],oE 31 .lss 30 0]) (oC 31 (oR [4,0,2,10,8,11] [oM 32 11,oE 33 .add 32 1,oM 9 33]) (oR [4,
 0,2,9,8,11] [oM 34 11,oM 10 34])))))
def zAe : AC:=oQ [0,2,1] [oT 4 .box 1,oI 6 .mv [oK 0],oI 7 .mv [oB false]] (oQ [4,0,2] [oM 12 0,
 zGl 13 12,oM 8 13] (oQ [4,0,2,8] [oM 14 8,oI 9 .mv [oK 0],oM 10 14] (.seq (.block 0 [4,9,0,2,8] (.loop [4,0,2,10,9,8]
 zAZ)) (.seq (.reg [4,9,0,2,8] true [oM 35 9,oM 36 9,oM 37 8,oX 38 .lss 36 37,oM 39 38,oV 40 39
 true 2,oV 41 39 true 0,oV 42 39 true 9,oYI 43 39 true 3 41 42,oW 44 39 true (.load 3 true) 43,oW 45 39 true (.load 2 true) 4,oG 46 39 true (.callv true)
 [.tmp 40,.tmp 44,.tmp 45],oEG 47 39 true .eql 46 0,oI 48 .pick [.tmp 39,.tmp 47,oB false],oM 6 35,oM 7 48]) (.ret)))))
def zn : AF:={ results:=[.tmp 6,.tmp 7],body:=
 zAe }
def zI9 : AC:=oQ [1,0] [oT 2 .box 0,oT 3 .box 1,oI 4 .mv [oK 0]] (oQ [3,2] [oF 5 0 2,oL 6 2 true 5,oL 7 2 true 3,oD 8 (.call zAk
 true) 6 7,oM 4 8] (.ret))
def zFT : AF:={ results:=[.tmp 4],body:=zI9 }
def zBw : AC:=oQ [0,2,1] [oI 6 .mv [.const (.lst (some true) 0 [])]] (oQ [0,2,1] [oM 10 0,oM 11 1,oD 12 (.slc (some
 3) true false) 10 11] (oQ [0,2,1] [oM 13 2,zGl 14 13,oM 7 14] (.seq (oQ [0,2,1,7] [oM 15 7,oE 16 .eql 15 0] (oC 16 (oQ [0] [oM 17 0,oM 6 17] (.ret))
 (.skip))) (oQ [2,0,1,7] [oM 18 0,zGl 19 18,oM 8 19] (.seq (oQ [2,0,1,7,8] [oM 20 1,oM 21 8,oX 22 .eql 20 21] (oC 22 (oQ [2,0] [oM 23 0,oM 24 2,oD
 25 (.append 3 32) 23 24,oM 6 25] (.ret)) (.skip))) (.seq (oQ [1,0,7,2,8] [oM 26 8,oM 27 7,oX 28 .add 26 27,oM 29 0,oI 30 .stuck [],oX 31 .gtr 28 30]
 (oC 31 (oQ [1,0,7,2,8] [oM 32 0,oM 33 1,oD 34 (.slc (some 3) false true) 32 33,oM 35 8,oM 36 7,oX 37 .add 35 36,oM 38 1,oX 39 .sub 37 38,oI 40 .stuck
 [],oM 9 40] (oQ [9,1,0,7,2] [oM 41 9,oM 42 1,oD 43 (.slc (some 3) true false) 41 42,oM 44 2,oI 45 .stuck []] (.seq (.reg [9,1,0,7] true [oM 46 9,oM
 47 1,oM 48 7,oX 49 .add 47 48,oD 50 (.slc (some 3) true false) 46 49,oM 51 0,oM 52 1,oD 53 (.slc (some 3) true false) 51 52,oI 54 .stuck []]) (oQ [9] [oM
 55 9,oM 6 55] (.ret))))) (.skip))) (oQ [2,1,7,8,0] [oM 56 0,oM 57 8,oM 58 7,oX 59 .add 57 58,oD 60 (.slc (some 3) false true) 56 59,oM 0 60] (.seq (oQ
 [0,2,1,7,8] [oM 61 2,oM 62 0,oM 63 1,oM 64 7,oX 65 .add 63 64,oD 66 (.slc (some 3) true false) 62 65,oD 67 (.call zC2 true)
 61 66,oT 68 (.un .not) 67] (oC 68 (.seq (.reg [0,2,1,7] true [oM 69 0,oM 70 1,oM 71 7,oX 72 .add 70 71,oD 73 (.slc (some 3) true false) 69 72,oM 74 0,
 oM 75 1,oD 76 (.slc (some 3) true false) 74 75,oI 77 .stuck []]) (oQ [0,2,1] [oM 78 0,oM 79 1,oD 80 (.slc (some 3) true false) 78 79,oM 81 2,oI 82 .stuck
 []] (oQ [0] [oM 83 0,oM 6 83] (.ret)))) (.skip))) (oQ [0,7,1,2,8] [oM 84 0,oM 85 8,oD 86 (.slc (some 3) true false) 84 85,oM 87 2,oI 88 .stuck []] (oQ
 [0,7,1] [oM 89 0,oM 90 1,oD 91 (.slc (some 3) true false) 89 90,oM 92 7,oD 93 (.call zCi true) 91 92] (oQ [0] [oM 94 0,oM 6
 94] (.ret))))))))))))
def zy : AF:={ results:=[.tmp 6],body:=zBw }
def zJA : AC:=oQ [3,6,7,8] [oX 9 .lss 8 7] (.seq (oC 9 (.skip) (.exit 0)) (.seq (.block 1 [3,6,7,8] (oQ [3,6,7,8] [oXI 10 1 6 8,oO 11 10,
 oM 5 11] (oQ [5,3,6,7,8] [oM 12 5,oM 13 3,oX 14 .neq 12 13] (oC 14 (oQ [5] [oM 15 5,oM 2 15] (.ret)) (.skip))))) (oR [3,6,7,8] [oE 16 .add 8 1,oM 8
 16])))
def b_cmp_Or_int_ : AC:=oQ [0] [oI 2 .mv [oK 0]] (oQ [0] [oI 3 .mv [oK 0]] (.seq (oQ [3,0] [oM 6 0,zGl 7 6,oI 8 .mv [oK 0]] (.block 0 [3] (.loop [8,3,6,
 7] zJA))) (oQ [3] [oM 17 3,oM 2 17] (.ret))))
def zGv : AF:={ results:=[.tmp 2],body:=b_cmp_Or_int_ }
def zGw : AC:=oQ [1,0] [oI 4 .mv [oK 0]] (oQ [1,0] [oM 7 0,oT 8 (.call zBk true) 7,oM 5 8] (oQ [1,0,5] [oM 9 1,oT 10 (.call
 zBk true) 9,oM 6 10] (.seq (oQ [6,1,0,5] [oM 11 5] (oC 11 (.seq (oQ [6] [oM 12 6] (oC 12 (oQ [] [oI 4 .mv [oK 0]] (.ret)) (.skip))) (oQ [] [oI 4
 .mv [oK (-1)]] (.ret))) (.skip))) (.seq (oQ [1,0,6] [oM 13 6] (oC 13 (oQ [] [oI 4 .mv [oK 1]] (.ret)) (.skip))) (.seq (oQ [1,0] [oM 14 0,oM 15 1,oX 16 .lss
 14 15] (oC 16 (oQ [] [oI 4 .mv [oK (-1)]] (.ret)) (.skip))) (.seq (oQ [1,0] [oM 17 0,oM 18 1,oX 19 .gtr 17 18] (oC 19 (oQ [] [oI 4 .mv [oK 1]] (.ret))
 (.skip))) (.seq (.reg [] false [oI 4 .mv [oK 0]]) (.ret))))))))
def zDk : AF:={ results:=[.tmp 4],body:=zGw }
def zGG : AC:=oQ [1,0] [oI 4 .mv [oB false]] (oQ [1,0] [oM 5 0,oM 6 1,oD 7 (.call zq true) 5 6,oM 4 7] (.ret))
def zCK : AF:={ results:=[.tmp 4],body:=zGG }
def zDl : AC:=oQ [2,1,0] [oI 6 .stuck [],oM 3 6] (oQ [2,1,0,3] [oM 7 3,oI 8 (.eqn .iface true true) [.tmp 7,.const (.nili)]] (oC 8 (oQ
 [2,1,0,3] [oM 10 3,oT 11 (.tyAs zCZ) 10,oM 9 11,oT 12 (.extract 0) 9,oT 13 (.extract 1) 9,oA 4 [.int .i64 0,.nili],oS 2 4 12,oM 5 13]
 (.seq (oQ [2,1,0,4,3,5] [oM 14 5,oT 15 (.un .not) 14] (.cond (.tmp 15) (.regt [2,1,0,4,3] false [oM 16 3,oJ .panic [.tmp 16]] (.step 0 (.step 1
 (.done)))) (.skip))) (.regt [2,1,0,4] true [⟨some 17,none,.build oZ [],[]⟩,oF 18 0 4,oO 19 18,oF 20 1 4,oO 21 20,oS 12 0 17,oS 1 1 19,oS 1 2 21]
 (.step 0 (.step 1 (.step 3 (.alt (.step 2 (.alt (.step 4 (.step 5 (.step 6 (.step 7 (.done))))) (.step 5 (.alt (.step 4 (.step 6 (.step 7 (.done)))) (.step 6
 (.step 4 (.step 7 (.done)))))))) (.alt (.step 4 (.alt (.step 2 (.step 5 (.step 6 (.step 7 (.done))))) (.step 5 (.step 2 (.step 6 (.step 7 (.done))))))) (.step 5
 (.step 2 (.alt (.step 4 (.step 6 (.step 7 (.done)))) (.step 6 (.step 4 (.step 7 (.done))))))))))))))) (.skip)))
def zCd : AF:={ results:=[],body:=zDl }
def zE2 : AC:=.regt [2,1] false [oM 6 1,oM 7 2,⟨some 8,none,.build [.int .i64 0,.nili] [(0,1),(1,1)],[.tmp 6,.tmp 7]⟩,oT 9
 (.mkIface zCZ) 8,oJ .panic [.tmp 9]] (.step 0 (.step 1 (.step 2 (.step 3 (.step 4 (.done))))))
def zBm : AF:={ results:=[],body:=zE2 }
def zCx : AC:=oQ [0,1] [oA 4 oZ] (.scope [5,1,0,4] 0 (.seq (oQ [4,0,1] [oM 8 1,oE 9 .eql 8 4] (oC 9 (.seq (.regt [4,0] false [oM 10
 0,oT 11 (.callp zp) 10,oS 12 4 11] (.step 0 (.step 1 (.step 2 (.done))))) (.ret)) (.skip))) (.seq (.regt [1,0,4] false [oM 12 0,oM 13 1,
 oE 14 .add 13 1,oD 15 (.callp zU) 12 14,oA 5 oZ,oS 12 5 15] (.step 0 (.step 1 (.step 2 (.step 3 (.step 4 (.step 5 (.done)))))))) (.seq
 (.label) (oQ [5,1,0,4] [oM 16 0,oT 17 (.call zN false) 16] (.seq (oQ [5,1,0,4] [oM 18 1,oI 19 (.idxArr 1 4) [.glob zCa,
 .tmp 18],oO 20 19,zGl 21 20,oI 22 .mv [oK 0]] (.block 0 [4,5] (.loop [5,1,0,4,22,20,21] (.seq (.reg [5,1,0,4,20,21,22] false [oX 23 .lss 22 21])
 (.seq (oC 23 (.skip) (.exit 0)) (.seq (.block 1 [5,1,0,4,20,21,22] (.seq (.reg [5,1,0,4,20,21,22] false [oXI 24 1 20 22,oO 25 24,oM 7 25]) (.seq
 (.reg [5,1,0,4,7,20,21,22] true [oM 26 0,oN 27 26,oF 28 0 27,oO 29 28,oM 30 0,oN 31 30,oF 32 1 31,oO 33 32,oD 34 (.slc none true false) 29 33,oM
 35 7,oD 36 (.call zAA true) 34 35]) (oC 36 (oQ [5,1,0,4,7] [oM 37 0,oN 38 37,oF 39 1 38,oO 40 39,oM 41 7,oT 42 (.len true) 41,oX 43
 .add 40 42,oN 44 37,oF 45 1 44,oS 1 45 43] (.seq (.regt [5,1,0,4,7] true [oM 46 7,oT 47 (.call zBl true) 46,oL 48 12 true 5,oM 49 0,oM 50
 1,oE 51 .add 50 1,oD 52 (.callp zU) 49 51,oD 53 (.bslice 12) 48 52,⟨some 54,none,.build oZ [(0,1),(1,1),(11,1)],[oK 8,.tmp 47,
 .tmp 53]⟩,oS 12 5 54] (.step 0 (.step 1 (.step 3 (.step 4 (.step 5 (.alt (.step 2 (.step 6 (.step 7 (.step 8 (.step 9 (.done)))))) (.step 6 (.step 2 (.step 7
 (.step 8 (.step 9 (.done))))))))))))) (.goto 0))) (.skip))))) (oR [5,1,0,4,20,21,22] [oE 55 .add 22 1,oM 22 55]))))))) (oQ [4,5] [oL 56 12 true 5,oS 12
 4 56] (.ret))))))) (.seq (.skip) (oQ [5,1,0,4] [oM 16 0,oT 17 (.call zN false) 16] (.seq (oQ [5,1,0,4] [oM 18 1,oI 19 (.idxArr 1 4)
 [.glob zCa,.tmp 18],oO 20 19,zGl 21 20,oI 22 .mv [oK 0]] (.block 0 [4,5] (.loop [5,1,0,4,22,20,21] (oQ [5,1,0,4,20,21,22] [oX 23
 .lss 22 21] (.seq (oC 23 (.skip) (.exit 0)) (.seq (.block 1 [5,1,0,4,20,21,22] (oQ [5,1,0,4,20,21,22] [oXI 24 1 20 22,oO 25 24,oM 7 25] (.seq (.reg
 [5,1,0,4,7,20,21,22] true [oM 26 0,oN 27 26,oF 28 0 27,oO 29 28,oM 30 0,oN 31 30,oF 32 1 31,oO 33 32,oD 34 (.slc none true false) 29 33,oM 35 7,
 oD 36 (.call zAA true) 34 35]) (oC 36 (oQ [5,1,0,4,7] [oM 37 0,oN 38 37,oF 39 1 38,oO 40 39,oM 41 7,oT 42 (.len true) 41,oX 43 .add 40
 42,oN 44 37,oF 45 1 44,oS 1 45 43] (.seq (.regt [5,1,0,4,7] true [oM 46 7,oT 47 (.call zBl true) 46,oL 48 12 true 5,oM 49 0,oM 50 1,oE 51
 .add 50 1,oD 52 (.callp zU) 49 51,oD 53 (.bslice 12) 48 52,⟨some 54,none,.build oZ [(0,1),(1,1),(11,1)],[oK 8,.tmp 47,.tmp 53]⟩,
 oS 12 5 54] (.step 0 (.step 1 (.step 3 (.step 4 (.step 5 (.alt (.step 2 (.step 6 (.step 7 (.step 8 (.step 9 (.done)))))) (.step 6 (.step 2 (.step 7 (.step 8
 (.step 9 (.done))))))))))))) (.goto 0))) (.skip))))) (oR [5,1,0,4,20,21,22] [oE 55 .add 22 1,oM 22 55]))))))) (.seq (.reg [4,5] false [oL 56 12 true 5,
 oS 12 4 56]) (.ret))))))
def zBH : AF:={ results:=[.cell 4 12 true],body:=zCx }
def zDZ : AC:=.seq (.seq (.reg [0] true [oM 2 0,oN 3 2,oF 4 1 3,oO 5 4,oM 6 0,oN 7 6,oF 8 0 7,oO 9 8,oT 10 (.len true) 9,oX 11
 .lss 5 10,oM 12 11,oV 13 12 true 0,oW 14 12 true .nilchk 13,oW 15 12 true (.fieldAddr 0) 14,oW 16 12 true (.load 1 false) 15,oV 17 12 true 0,oW 18 12 true
 .nilchk 17,oW 19 12 true (.fieldAddr 1) 18,oW 20 12 true (.load 1 false) 19,oY 21 12 true .idxStr 16 20,oG 22 12 true (.bin .eql) [.tmp 21,.const (.int .u8
 32)],oI 23 .pick [.tmp 12,.tmp 22,oB false]]) (oC 23 (.skip) (.exit 0))) (.block 1 [0] (oR [0] [oM 24 0,oN 25 24,oF 26 1 25,oO 27 26,oE 28 .add 27 1,oN
 29 24,oF 30 1 29,oS 1 30 28]))
def zEC : AC:=.block 0 [] (.loop [0] zDZ)
def zBO : AF:={ results:=[],body:=zEC }
def zH7 : AC:=oQ [0] [oI 2 .mv [oB false]] (oQ [0] [oM 3 0,oM 4 0,oX 5 .neq 3 4,oM 2 5] (.ret))
def zEw : AF:={ results:=[.tmp 2],body:=zH7 }
def zEf : AC:=oQ [1,0] [oI 4 .mv [oB false]] (oQ [1,0] [oM 5 0,oT 6 (.len true) 5,oM 7 1,oT 8 (.len true) 7,oX 9 .geq 6 8,oM 10 9,
 oV 11 10 true 0,oV 12 10 true 1,oW 13 10 true (.len true) 12,oY 14 10 true (.slc none false true) 11 13,oV 15 10 true 1,oXG 16 10 true .eql 14 15,oI 17
 .pick [.tmp 10,.tmp 16,oB false],oM 4 17] (.ret))
def zBg : AF:={ results:=[.tmp 4],body:=zEf }
def zFU : AC:=oQ [0] [oT 1 .box 0,oA 2 oZ] (oQ [2,1] [oO 4 1,oT 5 (.call zN false) 4] (.seq (.seq (.reg [2,1] true
 [oO 6 1,oN 7 6,oF 8 1 7,oO 9 8,oO 10 1,oN 11 10,oF 12 0 11,oO 13 12,oT 14 (.len true) 13,oX 15 .lss 9 14,oM 16 15,oW 17 16 true (.load 1 false) 1,oW
 18 16 true .nilchk 17,oW 19 16 true (.fieldAddr 0) 18,oW 20 16 true (.load 1 false) 19,oW 21 16 true (.load 1 false) 1,oW 22 16 true .nilchk 21,oW 23 16
 true (.fieldAddr 1) 22,oW 24 16 true (.load 1 false) 23,oY 25 16 true .idxStr 20 24,oG 26 16 true (.bin .eql) [.tmp 25,.const (.int .u8 45)],oI 27 .pick
 [.tmp 16,.tmp 26,oB false]]) (oC 27 (oQ [2,1] [oO 28 1,oN 29 28,oF 30 1 29,oO 31 30,oM 3 31] (.seq (.regt [2,1,3] false [oO 32 1,oM 33 3,oT 34 (.mkFn
 zAJ 0) 1,oI 35 (.callp za) [.tmp 32,.tmp 33,.tmp 34],oS 12 2 35] (.step 0 (.step 1 (.step 2 (.step 3 (.step 4
 (.done))))))) (.ret))) (.skip))) (.seq (.regt [2,1] false [oO 36 1,oT 37 (.callp zAb) 36,oS 12 2 37] (.step 0 (.step 1 (.step 2 (.done)))))
 (.ret))))
def zB1 : AF:={ results:=[.cell 2 12 true],body:=zFU }
def b_formula_opOf : AC:=oQ [0] [oI 2 .mv [oK 0]] (.seq (oQ [0] [oM 3 0] (.block 0 [] (oQ [3] [oI 5 (.bin .eql) [.tmp 3,.const (.str [61])],oM 4 5] (oC 4 (oQ
 [] [oI 2 .mv [oK 1]] (.ret)) (oQ [3] [oI 7 (.bin .eql) [.tmp 3,.const (.str [60,62])],oM 6 7] (oC 6 (oQ [] [oI 2 .mv [oK 2]] (.ret)) (oQ [3] [oI 9 (.bin .eql)
 [.tmp 3,.const (.str [60])],oM 8 9] (oC 8 (oQ [] [oI 2 .mv [oK 3]] (.ret)) (oQ [3] [oI 11 (.bin .eql) [.tmp 3,.const (.str [60,61])],oM 10 11] (oC 10 (oQ []
 [oI 2 .mv [oK 4]] (.ret)) (oQ [3] [oI 13 (.bin .eql) [.tmp 3,.const (.str [62])],oM 12 13] (oC 12 (oQ [] [oI 2 .mv [oK 5]] (.ret)) (oQ [3] [oI 15 (.bin .eql)
 [.tmp 3,.const (.str [62,61])],oM 14 15] (oC 14 (oQ [] [oI 2 .mv [oK 6]] (.ret)) (oQ [3] [oI 17 (.bin .eql) [.tmp 3,.const (.str [38])],oM 16 17] (oC 16 (oQ
 [] [oI 2 .mv [oK 7]] (.ret)) (oQ [3] [oI 19 (.bin .eql) [.tmp 3,.const (.str [43])],oM 18 19] (oC 18 (oQ [] [oI 2 .mv [oK 8]] (.ret)) (oQ [3] [oI 21 (.bin
 .eql) [.tmp 3,.const (.str [45])],oM 20 21] (oC 20 (oQ [] [oI 2 .mv [oK 9]] (.ret)) (oQ [3] [oI 23 (.bin .eql) [.tmp 3,.const (.str [42])],oM 22 23] (oC 22
 (oQ [] [oI 2 .mv [oK 10]] (.ret)) (.skip))))))))))))))))))))))) (oQ [] [oI 2 .mv [oK 11]] (.ret)))
def zDy : AF:={ results:=[.tmp 2],body:=b_formula_opOf }
def zED : AC:=oQ [0,2,1] [oA 6 oZ] (.seq (oQ [6,0,2,1] [oM 8 0,oN 9 8,oF 10 2 9,oO 11 10,oE 12 .eql 11 30] (oC 12 (.regt [6,0,
 2,1] false [oM 13 0,oM 14 1,oI 15 (.mkIface zK) [oK 4],oI 16 (.callp zL) [.tmp 13,.tmp 14,.tmp 15]] (.step 0 (.step 1 (.step 2
 (.step 3 (.done)))))) (.skip))) (oQ [6,0,2] [oM 17 0,oN 18 17,oF 19 2 18,oO 20 19,oE 21 .add 20 1,oN 22 17,oF 23 2 22,oS 1 23 21] (.seq (.regt [6,0,2]
 false [oM 24 2,oT 25 .callvp 24,oA 7 oZ,oS 12 7 25] (.step 0 (.step 1 (.step 2 (.step 3 (.done)))))) (oQ [6,7,0] [oM 26 0,oN 27 26,oF 28 2 27,oO 29 28,
 oE 30 .sub 29 1,oN 31 26,oF 32 2 31,oS 1 32 30] (oQ [6,7] [oL 33 12 true 7,oS 12 6 33] (.ret))))))
def zBP : AF:={ results:=[.cell 6 12 true],body:=zED }
def zEE : AC:=oQ [0] [oA 1 oZ] (oQ [1,0] [oO 2 0,oN 3 2,oF 4 1 3,oO 5 4,oE 6 .add 5 1,oN 7 2,oF 8 1 7,oS 1 8 6] (.seq (.regt [1,
 0] false [oO 9 0,oT 10 (.callp zp) 9,oT 11 (.bslice 12) 10,⟨some 12,none,.build oZ [(0,1),(11,1)],[oK 7,.tmp 11]⟩,oS 12 1 12]
 (.step 0 (.step 1 (.step 2 (.step 3 (.step 4 (.done))))))) (.ret)))
def zBQ : AF:={ results:=[.cell 1 12 true],body:=zEE }
def zEF : AC:=.seq (oQ [2,5,1,3] [oM 49 5,oO 50 1,oN 51 50,oF 52 0 51,oO 53 52,oT 54 (.len true) 53,oX 55 .leq 49 54] (oC 55
 (.skip) (.exit 1))) (.seq (.block 2 [2,1,3,5] (oQ [2,5,1,3] [oO 59 1,oN 60 59,oF 61 0 60,oO 62 61,oM 63 3,oM 64 5,oI 65 (.slc none true true) [.tmp
 62,.tmp 63,.tmp 64],oT 66 (.call zt true) 65,oM 58 66,oT 67 (.extract 0) 58,oT 68 (.extract 1) 58,oA 6 [.int .i64 0,.int .i64 0,.str []],
 oS 3 6 67,oM 7 68] (.seq (.reg [2,6,5,1,3,7] false [oM 69 7]) (oC 69 (oQ [2,6,5,1] [oO 70 1,oM 71 5,oN 72 70,oF 73 1 72,oS 1 73 71] (oQ [2,6] [oF
 74 1 6,oO 75 74,⟨some 76,none,.build oZ [(0,1),(1,1)],[oK 4,.tmp 75]⟩,oS 12 2 76] (.ret))) (.skip))))) (oR [2,1,3,5] [oM 56 5,oE 57 .add 56 1,oM 5
 57]))
def zE3 : AC:=oQ [0] [oT 1 .box 0,oA 2 oZ] (oQ [2,1] [oO 11 1,oN 12 11,oF 13 1 12,oO 14 13,oM 3 14] (.seq (oQ [2,1,3] [oM 15 3,oO
 16 1,oN 17 16,oF 18 0 17,oO 19 18,oT 20 (.len true) 19,oX 21 .eql 15 20] (oC 21 (.regt [2,1,3] false [oO 22 1,oM 23 3,oI 24 (.mkIface zK) [oK
 2],oI 25 (.callp zL) [.tmp 22,.tmp 23,.tmp 24]] (.step 0 (.step 1 (.step 2 (.step 3 (.done)))))) (.skip))) (.seq (oQ [2,1,3] [oO 26 1,
 oN 27 26,oF 28 0 27,oO 29 28,oM 30 3,oD 31 .idxStr 29 30,oM 4 31] (.block 0 [2,3,1] (oQ [2,1,3,4] [oM 33 4,oI 34 (.bin .eql) [.tmp 33,.const (.int
 .u8 40)],oM 32 34] (oC 32 (.seq (.regt [2,1,3] false [oO 35 1,oM 36 3,oT 37 (.mkFn zu 0) 1,oI 38 (.callp za)
 [.tmp 35,.tmp 36,.tmp 37],oS 12 2 38] (.step 0 (.step 1 (.step 2 (.step 3 (.step 4 (.done))))))) (.ret)) (oQ [2,1,3,4] [oM 40 4,oI 41 (.bin .eql) [.tmp
 40,.const (.int .u8 34)],oM 39 41] (oC 39 (.seq (.regt [2,1] false [oO 42 1,oT 43 (.callp zAc) 42,oS 12 2 43] (.step 0 (.step 1 (.step 2
 (.done))))) (.ret)) (.seq (.reg [2,1,3,4] false [oM 45 4,oI 46 (.bin .eql) [.tmp 45,.const (.int .u8 35)],oM 44 46]) (oC 44 (oQ [2,1,3] [oM 47 3,oE 48
 .add 47 1,oM 5 48] (.block 1 [2,3,1] (.loop [2,5,1,3] zEF))) (oQ [2,1,3,4] [oM 78 4,oT 79 (.call zAB true) 78,oM 77
 79] (oC 77 (oQ [2,1,3] [oO 80 1,oT 81 (.call zd false) 80,⟨some 8,none,.alloc [.str []],[]⟩,oS 1 8 81] (.seq (.seq (.reg [2,1,8,3]
 true [oO 82 1,oN 83 82,oF 84 1 83,oO 85 84,oO 86 1,oN 87 86,oF 88 0 87,oO 89 88,oT 90 (.len true) 89,oX 91 .lss 85 90,oM 92 91,oW 93 92 true (.load 1
 false) 1,oW 94 92 true .nilchk 93,oW 95 92 true (.fieldAddr 0) 94,oW 96 92 true (.load 1 false) 95,oW 97 92 true (.load 1 false) 1,oW 98 92 true .nilchk 97,
 oW 99 92 true (.fieldAddr 1) 98,oW 100 92 true (.load 1 false) 99,oY 101 92 true .idxStr 96 100,oG 102 92 true (.bin .eql) [.tmp 101,.const (.int .u8 40)],
 oI 103 .pick [.tmp 92,.tmp 102,oB false],oM 104 103,oW 105 104 true (.load 1 false) 8,oW 106 104 true (.call zBB true) 105,oI 107 .pick [.tmp
 104,.tmp 106,oB false]]) (oC 107 (.seq (.regt [2,1,8,3] false [oO 108 1,oM 109 3,oD 110 (.mkFn zm 0) 1 8,oI 111 (.callp
 za) [.tmp 108,.tmp 109,.tmp 110],oS 12 2 111] (.step 0 (.step 1 (.step 2 (.step 3 (.step 4 (.done))))))) (.ret)) (.skip))) (oQ [2,3,1,
 8] [oO 113 8,oT 114 (.call zAF true) 113,oM 112 114,oT 115 (.extract 0) 112,oT 116 (.extract 1) 112,oA 9 oZ,oS 12 9 115,oM 10 116] (oQ [2,9,
 3,1,10] [oM 117 10] (.cond (.tmp 117) (oQ [2,9] [oL 118 12 true 9,oS 12 2 118] (.ret)) (.skip)))))) (.skip))))))))))) (.seq (.regt [2,3,1] false [oO 119 1,
 oM 120 3,oI 121 (.mkIface zK) [oK 2],oI 122 (.callp zL) [.tmp 119,.tmp 120,.tmp 121]] (.step 0 (.step 1 (.step 2 (.step 3
 (.done)))))) (oQ [2] [⟨some 123,none,.build oZ [],[]⟩,oS 12 2 123] (.ret))))))
def zf : AF:={ results:=[.cell 2 12 true],body:=zE3 }
def zDz : AC:=oQ [0] [oA 1 oZ] (oQ [1,0] [oO 3 0,oN 4 3,oF 5 1 4,oO 6 5,oE 7 .add 6 1,oN 8 3,oF 9 1 8,oS 1 9 7] (.seq (.regt [1,
 0] false [oO 10 0,oI 11 (.callp zU) [.tmp 10,oK 0],oA 2 oZ,oS 12 2 11] (.step 0 (.step 1 (.step 2 (.step 3 (.done)))))) (.seq (.regt [1,
 2,0] false [oO 12 0,oI 13 (.callp ze) [.tmp 12,.const (.int .u8 41)]] (.step 0 (.step 1 (.done)))) (oQ [1,2] [oL 14 12 true 2,oS 12 1
 14] (.ret)))))
def zBJ : AF:={ results:=[.cell 1 12 true],body:=zDz }
def zE4 : AC:=oQ [0,1] [oM 4 0,oT 5 (.call zN false) 4] (.seq (.seq (.reg [0,1] true [oM 6 0,oN 7 6,oF 8 1 7,oO
 9 8,oM 10 0,oN 11 10,oF 12 0 11,oO 13 12,oT 14 (.len true) 13,oX 15 .eql 9 14,oM 16 15,oV 17 16 false 0,oW 18 16 false .nilchk 17,oW 19 16 false
 (.fieldAddr 0) 18,oW 20 16 false (.load 1 false) 19,oV 21 16 false 0,oW 22 16 false .nilchk 21,oW 23 16 false (.fieldAddr 1) 22,oW 24 16 false (.load 1
 false) 23,oY 25 16 false .idxStr 20 24,oV 26 16 false 1,oXG 27 16 false .neq 25 26,oP 28 16 true 27]) (oC 28 (.regt [0] false [oM 29 0,oM 30 0,oN 31 30,oF
 32 1 31,oO 33 32,oI 34 (.mkIface zK) [oK 2],oI 35 (.callp zL) [.tmp 29,.tmp 33,.tmp 34]] (.step 0 (.step 1 (.step 2 (.step 3
 (.step 4 (.step 5 (.step 6 (.done))))))))) (.skip))) (oR [0] [oM 36 0,oN 37 36,oF 38 1 37,oO 39 38,oE 40 .add 39 1,oN 41 36,oF 42 1 41,oS 1 42 40]))
def zBn : AF:={ results:=[],body:=zE4 }
def zEG : AC:=.seq (.seq (.reg [2,4,0,3] true [oM 16 0,oN 17 16,oF 18 1 17,oO 19 18,oM 20 0,oN 21 20,oF 22 0 21,oO 23 22,oT 24
 (.len true) 23,oX 25 .lss 19 24]) (oC 25 (.skip) (.exit 0))) (.seq (.block 1 [2,4,0,3] (.seq (.seq (.reg [2,4,0,3] true [oM 33 0,oN 34 33,oF 35 0 34,oO
 36 35,oM 37 0,oN 38 37,oF 39 1 38,oO 40 39,oD 41 .idxStr 36 40,oI 42 (.bin .eql) [.tmp 41,.const (.int .u8 34)]]) (oC 42 (oQ [2,4,0,3] [oM 43 0,oN 44
 43,oF 45 1 44,oO 46 45,oE 47 .add 46 1,oN 48 43,oF 49 1 48,oS 1 49 47] (.seq (.reg [2,4,0,3] true [oM 50 0,oN 51 50,oF 52 1 51,oO 53 52,oM 54 0,oN
 55 54,oF 56 0 55,oO 57 56,oT 58 (.len true) 57,oX 59 .eql 53 58,oM 60 59,oV 61 60 false 0,oW 62 60 false .nilchk 61,oW 63 60 false (.fieldAddr 0) 62,oW
 64 60 false (.load 1 false) 63,oV 65 60 false 0,oW 66 60 false .nilchk 65,oW 67 60 false (.fieldAddr 1) 66,oW 68 60 false (.load 1 false) 67,oY 69 60 false
 .idxStr 64 68,oG 70 60 false (.bin .neq) [.tmp 69,.const (.int .u8 34)],oP 71 60 true 70]) (oC 71 (oQ [2,4] [oM 72 4,oT 73 .bytesToStr 72,⟨some 74,none,
 .build oZ [(0,1),(2,1)],[oK 2,.tmp 73]⟩,oS 12 2 74] (.ret)) (.skip)))) (.skip))) (.reg [2,0,3,4] true [oM 75 4,oM 76 0,oN 77 76,oF 78 0 77,oO 79 78,
 oM 80 0,oN 81 80,oF 82 1 81,oO 83 82,oD 84 .idxStr 79 83,oT 85 (.bslice 1) 84,oD 86 (.append 1 1) 75 85,oM 4 86]))) (oR [2,4,0,3] [oM 26 0,oN 27 26,
 oF 28 1 27,oO 29 28,oE 30 .add 29 1,oN 31 26,oF 32 1 31,oS 1 32 30]))
def zE5 : AC:=oQ [0] [oA 2 oZ] (oQ [2,0] [oM 5 0,oN 6 5,oF 7 1 6,oO 8 7,oM 3 8] (oQ [2,0,3] [oI 4 .mv [.const (.lst (some true) 0
 [])]] (.seq (oQ [2,4,0,3] [oM 9 0,oN 10 9,oF 11 1 10,oO 12 11,oE 13 .add 12 1,oN 14 9,oF 15 1 14,oS 1 15 13] (.block 0 [2,3,0] (.loop [2,4,0,3]
 zEG))) (.seq (.regt [2,3,0] false [oM 87 0,oM 88 3,oI 89 (.mkIface zK) [oK 2],oI 90 (.callp zL) [.tmp 87,
 .tmp 88,.tmp 89]] (.step 0 (.step 1 (.step 2 (.step 3 (.done)))))) (oQ [2] [⟨some 91,none,.build oZ [],[]⟩,oS 12 2 91] (.ret))))))
def zBo : AF:={ results:=[.cell 2 12 true],body:=zE5 }
def zHT : AC:=oQ [2,0,13,14] [oE 15 .lss 14 7] (.seq (oC 15 (.skip) (.exit 1)) (.seq (.block 2 [2,0,13,14] (oQ [2,0,13,14] [oM 16 14,oD
 17 (.idxAgg 1 7 false) 13 14,oM 4 16,oM 5 17] (oQ [2,4,0,13,14,5] [oM 18 5,oM 19 0,oX 20 .eql 18 19,oM 21 20,oV 22 21 true 0,oG 23 21 true (.bin
 .neq) [.tmp 22,.const (.str [])],oI 24 .pick [.tmp 21,.tmp 23,oB false]] (oC 24 (oQ [2,4] [oM 25 4,oT 26 (.call zCX true) 25,oS 3 2 26,oI 3 .mv
 [oB true]] (.ret)) (.skip))))) (oR [2,0,13,14] [oE 27 .add 14 1,oM 14 27])))
def zJB : AC:=oQ [0] [oA 2 [.int .i64 0,.int .i64 0,.str []],oI 3 .mv [oB false]] (.seq (oQ [2,0] [oM 6 0] (.block 0 [2,0] (oQ [2,0,6] [oI 8
 (.bin .eql) [.tmp 6,.const (.str [84,82,85,69])],oM 7 8] (oC 7 (oQ [2] [oI 9 (.call zCQ true) [oB true],oS 3 2 9,oI 3 .mv [oB true]] (.ret)) (oQ
 [2,0,6] [oI 11 (.bin .eql) [.tmp 6,.const (.str [70,65,76,83,69])],oM 10 11] (oC 10 (oQ [2] [oI 12 (.call zCQ true) [oB false],oS 3 2 12,oI 3
 .mv [oB true]] (.ret)) (.skip))))))) (.seq (oQ [2,0] [oI 13 (.load 7 true) [.glob zEe],oI 14 .mv [oK 0]] (.block 1 [2] (.loop [2,14,0,13]
 zHT))) (oQ [2] [⟨some 28,none,.build [.int .i64 0,.int .i64 0,.str []] [],[]⟩,oS 3 2 28,oI 3 .mv [oB false]] (.ret))))
def zDO : AF:={ results:=[.cell 2 3 true,.tmp 3],body:=zJB }
def zH8 : AC:=oQ [0] [oI 2 .mv [oB false]] (oQ [0] [oM 3 0,oI 4 (.bin .eql) [.tmp 3,.const (.int .u8 36)],oM 5 4,oV 6 5 false 0,oG 7 5 false
 (.bin .geq) [.tmp 6,.const (.int .u8 48)],oV 8 5 false 7,oV 9 8 true 0,oG 10 8 true (.bin .leq) [.tmp 9,.const (.int .u8 57)],oG 11 5 false .pick [.tmp 8,
 .tmp 10,oB false],oP 12 5 true 11,oM 13 12,oV 14 13 false 0,oG 15 13 false (.bin .geq) [.tmp 14,.const (.int .u8 65)],oV 16 13 false 15,oV 17 16 true 0,
 oG 18 16 true (.bin .leq) [.tmp 17,.const (.int .u8 90)],oG 19 13 false .pick [.tmp 16,.tmp 18,oB false],oP 20 13 true 19,oM 21 20,oV 22 21 false 0,oG 23
 21 false (.bin .geq) [.tmp 22,.const (.int .u8 97)],oV 24 21 false 23,oV 25 24 true 0,oG 26 24 true (.bin .leq) [.tmp 25,.const (.int .u8 122)],oG 27 21
 false .pick [.tmp 24,.tmp 26,oB false],oP 28 21 true 27,oM 2 28] (.ret))
def zCG : AF:={ results:=[.tmp 2],body:=zH8 }
def zEH : AC:=.seq (.seq (.reg [0,3] true [oM 8 0,oN 9 8,oF 10 1 9,oO 11 10,oM 12 0,oN 13 12,oF 14 0 13,oO 15 14,oT 16 (.len
 true) 15,oX 17 .lss 11 16,oM 18 17,oV 19 18 true 0,oW 20 18 true .nilchk 19,oW 21 18 true (.fieldAddr 0) 20,oW 22 18 true (.load 1 false) 21,oV 23 18 true
 0,oW 24 18 true .nilchk 23,oW 25 18 true (.fieldAddr 1) 24,oW 26 18 true (.load 1 false) 25,oY 27 18 true .idxStr 22 26,oW 28 18 true (.call
 zAB true) 27,oI 29 .pick [.tmp 18,.tmp 28,oB false]]) (oC 29 (.skip) (.exit 0))) (.block 1 [0,3] (oR [0,3] [oM 30 0,oN 31 30,oF 32 1 31,oO
 33 32,oE 34 .add 33 1,oN 35 30,oF 36 1 35,oS 1 36 34]))
def zE6 : AC:=oQ [0] [oI 2 .mv [.const (.str [])]] (oQ [0] [oM 4 0,oN 5 4,oF 6 1 5,oO 7 6,oM 3 7] (.seq (.block 0 [0,3] (.loop [0,3]
 zEH)) (.seq (.reg [0,3] true [oM 37 0,oN 38 37,oF 39 0 38,oO 40 39,oM 41 3,oM 42 0,oN 43 42,oF 44 1 43,oO 45 44,oI 46 (.slc none
 true true) [.tmp 40,.tmp 41,.tmp 45],oM 2 46]) (.ret))))
def zBp : AF:={ results:=[.tmp 2],body:=zE6 }
def zH9 : AC:=oQ [0] [oI 2 .mv [oB false]] (oQ [0] [oM 3 0,oT 4 (.len true) 3,oE 5 .geq 4 2,oM 6 5,oV 7 6 true 0,oW 8 6 true (.len true) 7,
 oEG 9 6 true .leq 8 10,oI 10 .pick [.tmp 6,.tmp 9,oB false],oM 11 10,oV 12 11 true 0,oG 13 11 true (.call zBI true) [.tmp 12,.const (.str [65,
 66,67,68,69,70,71,72,73,74,75,76,77,78,79,80,81,82,83,84,85,86,87,88,89,90])],oG 14 11 true (.bin .eql) [.tmp 13,.const (.str [])],oI
 15 .pick [.tmp 11,.tmp 14,oB false],oM 2 15] (.ret))
def zC4 : AF:={ results:=[.tmp 2],body:=zH9 }
def zD0 : AC:=oQ [1,0] [oA 2 oZ] (.seq (.regt [2,1,0] false [oO 3 0,oO 4 1,oD 5 (.callp zA7) 3 4,oS 12 2 5]
 (.step 0 (.step 1 (.step 2 (.step 3 (.done)))))) (.ret))
def zBK : AF:={ results:=[.cell 2 12 true],body:=zD0 }
def zCR : AC:=.block 1 [0,4,5] (.seq (.regt [0,4,5] true [oF 47 11 5,oO 48 47,oM 49 0,oT 50 (.callp zAa) 49,
 oT 51 (.bslice 12) 50,oD 52 (.append 12 104) 48 51,oF 53 11 5,oS 1 53 52] (.step 0 (.step 2 (.alt (.step 1 (.step 3 (.step 4 (.step 5 (.step 6 (.step 7
 (.done))))))) (.step 3 (.alt (.step 1 (.step 4 (.step 5 (.step 6 (.step 7 (.done)))))) (.step 4 (.step 1 (.step 5 (.step 6 (.step 7 (.done)))))))))))) (oQ [0,4,
 5] [oM 54 0,oT 55 (.call zN false) 54] (.seq (.seq (.reg [0,4,5] true [oM 56 0,oN 57 56,oF 58 1 57,oO 59 58,oM 60 0,oN 61 60,oF 62
 0 61,oO 63 62,oT 64 (.len true) 63,oX 65 .lss 59 64,oM 66 65,oV 67 66 true 0,oW 68 66 true .nilchk 67,oW 69 66 true (.fieldAddr 0) 68,oW 70 66 true
 (.load 1 false) 69,oV 71 66 true 0,oW 72 66 true .nilchk 71,oW 73 66 true (.fieldAddr 1) 72,oW 74 66 true (.load 1 false) 73,oY 75 66 true .idxStr 70 74,oG
 76 66 true (.bin .eql) [.tmp 75,.const (.int .u8 44)],oI 77 .pick [.tmp 66,.tmp 76,oB false]]) (oC 77 (oQ [0,4,5] [oM 78 0,oN 79 78,oF 80 1 79,oO 81 80,
 oE 82 .add 81 1,oN 83 78,oF 84 1 83,oS 1 84 82] (.exit 1)) (.skip))) (.seq (.regt [4,5,0] false [oM 85 0,oI 86 (.callp ze) [.tmp 85,
 .const (.int .u8 41)]] (.step 0 (.step 1 (.done)))) (oQ [4,5] [oL 87 12 true 5,oS 12 4 87] (.ret))))))
def zE7 : AC:=oQ [0,1] [oA 4 oZ] (oQ [4,0,1] [oM 6 1,⟨some 7,none,.build oZ [(0,1),(2,1)],[oK 9,.tmp 6]⟩,oA 5 oZ,oS 12 5 7] (oQ
 [4,5,0] [oM 8 0,oN 9 8,oF 10 1 9,oO 11 10,oE 12 .add 11 1,oN 13 8,oF 14 1 13,oS 1 14 12] (oQ [4,5,0] [oM 15 0,oT 16 (.call zN
 false) 15] (.seq (.seq (.reg [4,5,0] true [oM 17 0,oN 18 17,oF 19 1 18,oO 20 19,oM 21 0,oN 22 21,oF 23 0 22,oO 24 23,oT 25 (.len true) 24,oX 26 .lss
 20 25,oM 27 26,oV 28 27 true 0,oW 29 27 true .nilchk 28,oW 30 27 true (.fieldAddr 0) 29,oW 31 27 true (.load 1 false) 30,oV 32 27 true 0,oW 33 27 true
 .nilchk 32,oW 34 27 true (.fieldAddr 1) 33,oW 35 27 true (.load 1 false) 34,oY 36 27 true .idxStr 31 35,oG 37 27 true (.bin .eql) [.tmp 36,.const (.int .u8
 41)],oI 38 .pick [.tmp 27,.tmp 37,oB false]]) (oC 38 (.seq (.reg [4,5,0] false [oM 39 0,oN 40 39,oF 41 1 40,oO 42 41,oE 43 .add 42 1,oN 44 39,oF 45 1
 44,oS 1 45 43]) (.seq (.reg [4,5] false [oL 46 12 true 5,oS 12 4 46]) (.ret))) (.skip))) (.block 0 [4] (.loop [0,4,5] zCR))))))
def zA8 : AF:={ results:=[.cell 4 12 true],body:=zE7 }
def zJC : AC:=oQ [0] [oA 2 oZ,oI 3 .mv [oB false]] (.seq (oQ [2,0] [oM 11 0,oT 12 (.call zBf true) 11,oM 10 12,oT 13 (.extract 0)
 10,oT 14 (.extract 1) 10,oM 4 13,oM 5 14] (oQ [2,4,0,5] [oM 15 5] (oC 15 (oQ [2,4] [oM 16 4,⟨some 17,none,.build oZ [(0,1),(1,1)],[oK 1,.tmp 16]⟩,
 oS 12 2 17,oI 3 .mv [oB true]] (.ret)) (.skip)))) (.seq (oQ [2,0] [oM 19 0,oT 20 (.call zt true) 19,oM 18 20,oT 21 (.extract 0) 18,oT 22
 (.extract 1) 18,oA 6 [.int .i64 0,.int .i64 0,.str []],oS 3 6 21,oM 7 22] (oQ [2,6,0,7] [oM 23 7] (oC 23 (oQ [2,6] [oF 24 1 6,oO 25 24,⟨some 26,none,
 .build oZ [(0,1),(1,1)],[oK 3,.tmp 25]⟩,oS 12 2 26,oI 3 .mv [oB true]] (.ret)) (.skip)))) (.seq (.seq (.reg [2,0] false [oM 28 0,oT 29 (.call zAr
 true) 28,oM 27 29,oT 30 (.extract 0) 27,oT 31 (.extract 1) 27,oA 8 [.int .i64 0,.int .i64 0,.bool false,.bool false],oS 4 8 30,oM 9 31]) (oQ [2,8,9]
 [oM 32 9,oI 33 (.eqn .iface false true) [.tmp 32,.const (.nili)]] (.cond (.tmp 33) (oQ [2,8] [oL 34 4 true 8,⟨some 35,none,.build oZ [(0,1),(3,4)],[oK
 5,.tmp 34]⟩,oS 12 2 35,oI 3 .mv [oB true]] (.ret)) (.skip)))) (oQ [2] [⟨some 36,none,.build oZ [],[]⟩,oS 12 2 36,oI 3 .mv [oB false]] (.ret)))))
def zDP : AF:={ results:=[.cell 2 12 true,.tmp 3],body:=zJC }
def b_value_Is : AC:=oQ [0] [oA 2 [.int .i64 0,.int .i64 0,.str []]] (oQ [2,0] [⟨some 4,none,.build [.int .i64 0,.int .i64 0,.str []] [(0,1)],[oK 3]⟩,
 oA 3 [.int .i64 0,.int .i64 0,.str []],oS 3 3 4] (.seq (.seq (.reg [2,3,0] false [oM 5 0]) (oC 5 (oR [2,3] [oF 6 1 3,oJ (.store 1) [.tmp 6,oK 1]])
 (.skip))) (oQ [2,3] [oL 7 3 true 3,oS 3 2 7] (.ret))))
def zHU : AF:={ results:=[.cell 2 3 true],body:=b_value_Is }
def b_value_Wrong : AC:=oQ [0] [oA 2 [.int .i64 0,.int .i64 0,.str []]] (oQ [2,0] [oM 3 0,⟨some 4,none,.build [.int .i64 0,.int .i64 0,.str []] [(0,
 1),(1,1)],[oK 4,.tmp 3]⟩,oS 3 2 4] (.ret))
def zEg : AF:={ results:=[.cell 2 3 true],body:=b_value_Wrong }
def b_strings_Trim : AC:=oQ [0,1] [oI 4 .mv [.const (.str [])]] (.seq (oQ [0,1] [oM 7 0,oI 8 (.bin .eql) [.tmp 7,.const (.str [])],oM 9 8,oV 10 9 false
 1,oG 11 9 false (.bin .eql) [.tmp 10,.const (.str [])],oP 12 9 true 11] (oC 12 (oQ [0] [oM 13 0,oM 4 13] (.ret)) (.skip))) (.seq (oQ [1,0] [oM 14 1,oT 15
 (.len true) 14,oE 16 .eql 15 1,oM 17 16,oV 18 17 true 1,oG 19 17 true .idxStr [.tmp 18,oK 0],oG 20 17 true (.bin .lss) [.tmp 19,.const (.int .u8 128)],oI
 21 .pick [.tmp 17,.tmp 20,oB false]] (oC 21 (.seq (.reg [1,0] true [oM 22 0,oM 23 1,oI 24 .idxStr [.tmp 23,oK 0],oD 25 (.call zEd
 true) 22 24,oM 26 1,oI 27 .idxStr [.tmp 26,oK 0],oD 28 (.call zE0 true) 25 27,oM 4 28]) (.ret)) (.skip))) (.seq (oQ [0,1] [oM 30 1,oT
 31 (.call zAd true) 30,oM 29 31,oT 32 (.extract 0) 29,oT 33 (.extract 1) 29,⟨some 5,none,.alloc (List.replicate 256 (.bool false)),[]⟩,
 oS 256 5 32,oM 6 33] (oQ [5,0,1,6] [oM 34 6] (oC 34 (oQ [5,0] [oM 35 0,oD 36 (.call zAK true) 35 5,oD 37 (.call
 zAS true) 36 5,oM 4 37] (.ret)) (.skip)))) (oQ [1,0] [oM 38 0,oM 39 1,oD 40 (.call zDY true) 38 39,oM 41 1,oD 42
 (.call zDx true) 40 41,oM 4 42] (.ret)))))
def zD1 : AF:={ results:=[.tmp 4],body:=b_strings_Trim }
def zDa : AC:=oQ [0] [oA 2 oZ] (oQ [2,0] [oM 7 0,oT 8 (.call zN false) 7] (oQ [2,0] [oM 9 0,oN 10 9,oF 11 1
 10,oO 12 11,oM 3 12] (oQ [2,0,3] [oM 14 0,oT 15 (.call zd false) 14,oT 16 (.call zAr true) 15,oM 13 16,oT 17 (.extract 0) 13,
 oT 18 (.extract 1) 13,⟨some 4,none,.alloc [.int .i64 0,.int .i64 0,.bool false,.bool false],[]⟩,oS 4 4 17,oM 5 18] (.seq (.seq (.reg [2,0,3,4,5]
 true [oM 19 5,oI 20 (.eqn .iface true true) [.tmp 19,.const (.nili)],oM 21 20,oV 22 21 false 0,oW 23 21 false .nilchk 22,oW 24 21 false (.fieldAddr 1) 23,
 oW 25 21 false (.load 1 false) 24,oV 26 21 false 0,oW 27 21 false .nilchk 26,oW 28 21 false (.fieldAddr 0) 27,oW 29 21 false (.load 1 false) 28,oW 30 21
 false (.len true) 29,oXG 31 21 false .eql 25 30,oP 32 21 true 31,oM 33 32,oV 34 33 false 0,oW 35 33 false .nilchk 34,oW 36 33 false (.fieldAddr 0) 35,oW
 37 33 false (.load 1 false) 36,oV 38 33 false 0,oW 39 33 false .nilchk 38,oW 40 33 false (.fieldAddr 1) 39,oW 41 33 false (.load 1 false) 40,oY 42 33 false
 .idxStr 37 41,oG 43 33 false (.bin .neq) [.tmp 42,.const (.int .u8 58)],oP 44 33 true 43]) (oC 44 (oQ [2,0,3] [oM 45 0,oM 46 3,oN 47 45,oF 48 1 47,oS 1
 48 46] (.seq (.regt [2,0] false [oM 49 0,oI 50 (.callp zU) [.tmp 49,oK 0],oS 12 2 50] (.step 0 (.step 1 (.step 2 (.done))))) (.ret)))
 (.skip))) (oQ [2,4,0] [oM 51 0,oN 52 51,oF 53 1 52,oO 54 53,oE 55 .add 54 1,oN 56 51,oF 57 1 56,oS 1 57 55] (oQ [2,4,0] [oM 58 0,oN 59 58,oF 60 1
 59,oO 61 60,oM 3 61] (oQ [2,4,3,0] [oM 63 0,oT 64 (.call zd false) 63,oT 65 (.call zAr true) 64,oM 62 65,oT 66 (.extract 0)
 62,oT 67 (.extract 1) 62,⟨some 6,none,.alloc [.int .i64 0,.int .i64 0,.bool false,.bool false],[]⟩,oS 4 6 66,oM 5 67] (.seq (oQ [2,6,4,3,0,5] [oM
 68 5,oI 69 (.eqn .iface true true) [.tmp 68,.const (.nili)]] (oC 69 (.regt [2,6,4,3,0] false [oM 70 0,oM 71 3,oI 72 (.mkIface zK) [oK 2],oI 73
 (.callp zL) [.tmp 70,.tmp 71,.tmp 72]] (.step 0 (.step 1 (.step 2 (.step 3 (.done)))))) (.skip))) (oQ [2,6,4] [oL 74 4 true 4,oL 75 4
 true 6,⟨some 76,none,.build oZ [(0,1),(3,4),(7,4)],[oK 6,.tmp 74,.tmp 75]⟩,oS 12 2 76] (.ret))))))))))
def zBA : AF:={ results:=[.cell 2 12 true],body:=zDa }
def b_value_Whole : AC:=oQ [0] [oI 2 .mv [oK 0],oI 3 .mv [oB false]] (oQ [0] [oM 7 0,oI 8 (.call zAW true) [.tmp 7,.const (.str [45])],oM
 4 8] (.seq (oQ [0,4] [oM 9 4,oI 10 (.bin .eql) [.tmp 9,.const (.str [])],oM 11 10,oV 12 11 false 4,oG 13 11 false .idxStr [.tmp 12,oK 0],oG 14 11 false
 (.bin .eql) [.tmp 13,.const (.int .u8 48)],oV 15 11 false 14,oV 16 15 true 0,oG 17 15 true (.bin .neq) [.tmp 16,.const (.str [48])],oG 18 11 false .pick
 [.tmp 15,.tmp 17,oB false],oP 19 11 true 18,oM 20 19,oV 21 20 false 4,oG 22 20 false (.call zBI true) [.tmp 21,.const (.str [48,49,50,51,
 52,53,54,55,56,57])],oG 23 20 false (.bin .neq) [.tmp 22,.const (.str [])],oP 24 20 true 23] (oC 24 (oQ [] [oI 2 .mv [oK 0],oI 3 .mv [oB false]] (.ret))
 (.skip))) (oQ [0] [oM 26 0,oT 27 (.call zAl true) 26,oM 25 27,oT 28 (.extract 0) 25,oT 29 (.extract 1) 25,oM 5 28,oM 6 29] (.seq (.reg [6,5]
 true [oM 30 5,oM 31 6,oI 32 (.eqn .iface false true) [.tmp 31,.const (.nili)],oM 2 30,oM 3 32]) (.ret)))))
def zEh : AF:={ results:=[.tmp 2,.tmp 3],body:=b_value_Whole }
def b_addr_Ref_0 : AC:=oQ [2,52,53,54] [oX 55 .lss 54 53] (.seq (oC 55 (.skip) (.exit 0)) (.seq (.block 1 [2,52,53,54] (oQ [2,52,53,54] [oXI 56 1 52
 54,oO 57 56,oM 6 57] (.seq (oQ [2,52,53,54,6] [oM 58 6,oI 59 (.bin .lss) [.tmp 58,.const (.int .u8 48)],oM 60 59,oV 61 60 false 6,oG 62 60 false (.bin
 .gtr) [.tmp 61,.const (.int .u8 57)],oP 63 60 true 62] (oC 63 (oQ [2] [⟨some 64,none,.build [.int .i64 0,.int .i64 0,.bool false,.bool false] [],[]⟩,oI
 65 (.mkIface zK) [oK 2],oS 4 2 64,oM 3 65] (.ret)) (.skip))) (oR [2,52,53,54,6] [oF 66 0 2,oF 67 1 66,oO 68 67,oE 69 .mul 68 10,oM 70 6,oI 71
 (.bin .sub) [.tmp 70,.const (.int .u8 48)],oT 72 (.convInt .i64) 71,oX 73 .add 69 72,oF 74 0 2,oF 75 1 74,oS 1 75 73])))) (oR [2,52,53,54] [oE 76 .add
 54 1,oM 54 76])))
def b_addr_Ref : AC:=oQ [0] [oT 1 .box 0,oA 2 [.int .i64 0,.int .i64 0,.bool false,.bool false],oI 3 .mv [.const (.nili)]] (oQ [2,1] [oT 7 (.mkFn
 zCY 0) 1,oM 4 7] (oQ [2,1,4] [oM 8 4,oT 9 (.callv false) 8,oF 10 2 2,oS 1 10 9] (.seq (oQ [2,1,4] [oO 11 1,oI 12 (.bin .eql) [.tmp 11,.const
 (.str [])],oM 13 12,oW 14 13 false (.load 1 false) 1,oG 15 13 false .idxStr [.tmp 14,oK 0],oG 16 13 false (.bin .lss) [.tmp 15,.const (.int .u8 65)],oP 17
 13 true 16,oM 18 17,oW 19 18 false (.load 1 false) 1,oG 20 18 false .idxStr [.tmp 19,oK 0],oG 21 18 false (.bin .gtr) [.tmp 20,.const (.int .u8 90)],oP 22
 18 true 21] (oC 22 (oQ [2] [⟨some 23,none,.build [.int .i64 0,.int .i64 0,.bool false,.bool false] [],[]⟩,oI 24 (.mkIface zK) [oK 2],oS 4 2 23,
 oM 3 24] (.ret)) (.skip))) (oQ [2,1,4] [oO 25 1,oI 26 .idxStr [.tmp 25,oK 0],oI 27 (.bin .sub) [.tmp 26,.const (.int .u8 65)],oT 28 (.convInt .i64) 27,oE
 29 .add 28 1,oF 30 0 2,oF 31 0 30,oS 1 31 29] (oQ [2,1,4] [oO 32 1,oI 33 (.slc none true false) [.tmp 32,oK 1],oS 1 1 33] (oQ [2,1,4] [oM 34 4,oT 35
 (.callv false) 34,oF 36 3 2,oS 1 36 35] (.seq (oQ [2,1] [oO 37 1,oI 38 (.bin .eql) [.tmp 37,.const (.str [])],oM 39 38,oW 40 39 false (.load 1 false) 1,
 oW 41 39 false (.len true) 40,oEG 42 39 false .gtr 41 2,oP 43 39 true 42,oM 44 43,oW 45 44 false (.load 1 false) 1,oG 46 44 false .idxStr [.tmp 45,oK 0],
 oG 47 44 false (.bin .eql) [.tmp 46,.const (.int .u8 48)],oP 48 44 true 47] (.cond (.tmp 48) (oQ [2] [⟨some 49,none,.build [.int .i64 0,.int .i64 0,.bool
 false,.bool false] [],[]⟩,oI 50 (.mkIface zK) [oK 2],oS 4 2 49,oM 3 50] (.ret)) (.skip))) (.seq (oQ [2,1] [oO 51 1,oT 52 .strToBytes 51,zGl 53
 52,oI 54 .mv [oK 0]] (.block 0 [2] (.loop [2,54,52,53] b_addr_Ref_0))) (oQ [2] [oL 77 4 true 2,oS 4 2 77,oI 3 .mv [.const (.nili)]] (.ret))))))))))
def zHV : AF:={ results:=[.cell 2 4 true,.tmp 3],body:=b_addr_Ref }
def zEI : AC:=.seq (oQ [2,0,4] [oM 6 4,oM 7 0,oT 8 (.len true) 7,oX 9 .lss 6 8] (oC 9 (.skip) (.exit 0))) (.seq (.block 1 [2,0,4]
 (oQ [2,0,4] [oM 12 0,oM 13 4,oD 14 .idxStr 12 13,oM 5 14] (.seq (oQ [2,0,4,5] [oM 15 5,oI 16 (.bin .geq) [.tmp 15,.const (.int .u8 128)]] (oC 16 (oQ
 [2] [oL 17 256 true 2,oS 256 2 17,oI 3 .mv [oB false]] (.ret)) (.skip))) (oR [2,0,4,5] [oM 18 5,oD 19 (.idxArr 1 256) 2 18,oJ (.store 1) [.tmp 19,oB
 true]])))) (oR [2,0,4] [oM 10 4,oE 11 .add 10 1,oM 4 11]))
def zE8 : AC:=oQ [0] [⟨some 2,none,.alloc (List.replicate 256 (.bool false)),[]⟩,oI 3 .mv [oB false]] (.seq (oQ [2,0] [oI 4 .mv [oK 0]]
 (.block 0 [2] (.loop [2,4,0] zEI))) (oQ [2] [oL 20 256 true 2,oS 256 2 20,oI 3 .mv [oB true]] (.ret)))
def zBq : AF:={ results:=[.cell 2 256 true,.tmp 3],body:=zE8 }
def zD2 : AC:=.seq (oQ [0,1] [oM 5 0,oT 6 (.len true) 5,oE 7 .gtr 6 0] (oC 7 (.skip) (.exit 0))) (.block 1 [0,1] (.seq (oQ [0,1] [oM
 8 1,oM 9 0,oI 10 .idxStr [.tmp 9,oK 0],oD 11 (.call zb true) 8 10,oT 12 (.un .not) 11] (oC 12 (.exit 0) (.skip))) (oR [1,0] [oM
 13 0,oI 14 (.slc none true false) [.tmp 13,oK 1],oM 0 14])))
def zEi : AC:=oQ [0,1] [oI 4 .mv [.const (.str [])]] (.seq (.block 0 [0] (.loop [0,1] zD2)) (oQ [0] [oM 15 0,oM 4
 15] (.ret)))
def zBh : AF:={ results:=[.tmp 4],body:=zEi }
def zDb : AC:=.seq (oQ [0,1] [oM 5 0,oT 6 (.len true) 5,oE 7 .gtr 6 0] (oC 7 (.skip) (.exit 0))) (.block 1 [0,1] (.seq (oQ [0,1]
 [oM 8 1,oM 9 0,oM 10 0,oT 11 (.len true) 10,oE 12 .sub 11 1,oD 13 .idxStr 9 12,oD 14 (.call zb true) 8 13,oT 15 (.un .not) 14]
 (oC 15 (.exit 0) (.skip))) (oR [1,0] [oM 16 0,oM 17 0,oT 18 (.len true) 17,oE 19 .sub 18 1,oD 20 (.slc none false true) 16 19,oM 0 20])))
def zEJ : AC:=oQ [0,1] [oI 4 .mv [.const (.str [])]] (.seq (.block 0 [0] (.loop [0,1] zDb)) (oQ [0] [oM 21 0,oM
 4 21] (.ret)))
def zBR : AF:={ results:=[.tmp 4],body:=zEJ }
def zFr : AC:=oQ [1,0] [oI 4 .mv [.const (.str [])]] (oQ [1,0] [oM 5 0,oM 6 1,oD 7 (.call zAL true) 5 6,oM 4 7]
 (.ret))
def zB9 : AF:={ results:=[.tmp 4],body:=zFr }
def b_addr_Ref_c1 : AC:=oQ [0] [oI 1 .mv [oB false]] (.seq (oQ [0] [oO 2 0,oI 3 (.bin .neq) [.tmp 2,.const (.str [])],oM 4 3,oW 5 4 true (.load 1 false) 0,
 oG 6 4 true .idxStr [.tmp 5,oK 0],oG 7 4 true (.bin .eql) [.tmp 6,.const (.int .u8 36)],oI 8 .pick [.tmp 4,.tmp 7,oB false]] (oC 8 (oQ [0] [oO 9 0,oI 10
 (.slc none true false) [.tmp 9,oK 1],oS 1 0 10] (oQ [] [oI 1 .mv [oB true]] (.ret))) (.skip))) (oQ [] [oI 1 .mv [oB false]] (.ret)))
def zEj : AF:={ results:=[.tmp 1],body:=b_addr_Ref_c1 }
def zCy : AC:=oQ [1,0] [oI 4 .mv [oB false]] (oQ [1,0] [oM 5 0,oM 6 1,oN 7 5,oD 8 (.idxArr 1 256) 7 6,oO 9 8,oM 4 9] (.ret))
def zAp : AF:={ results:=[.tmp 4],body:=zCy }
def zEK : AC:=oQ [1,0] [oI 4 .mv [.const (.str [])]] (.seq (oQ [1,0] [oM 5 0,oM 6 1,oD 7 (.call zq true) 5 6] (oC
 7 (oQ [1,0] [oM 8 0,oM 9 1,oT 10 (.len true) 9,oD 11 (.slc none true false) 8 10,oM 4 11] (.ret)) (.skip))) (oQ [0] [oM 12 0,oM 4 12] (.ret)))
def zBS : AF:={ results:=[.tmp 4],body:=zEK }
end Go.AM
