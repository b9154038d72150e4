/- Abstract code, printed by a program of my own (wip/gen/Gen.lean.tpl) off the dump. -/
import Derived.Test.YtljipljfelkodaaGreatDoorGAm22Vn
set_option linter.all false
namespace Go.AM
def zIc : AC:=oQ [3,2,1,0] [oI 8 .mv [oB false]] (oQ [3,2,1,0] [oM 14 0,oM 15 1,oM 16 2,oM 17 3,oI 18 (.call zCk true)
 [.tmp 14,.tmp 15,.tmp 16,.tmp 17],oM 13 18,oT 19 (.extract 0) 13,oT 20 (.extract 1) 13,oM 9 19,oM 10 20] (oQ [10,9,3,2,1,0] [oM 22 0,oM 23 1,oM 24
 2,oM 25 3,oI 26 (.call zFr true) [.tmp 22,.tmp 23,.tmp 24,.tmp 25],oM 21 26,oT 27 (.extract 0) 21,oT 28 (.extract 1) 21,oM 11 27,oM 12 28] (oQ
 [10,9,12,11] [oM 29 11,oM 30 12,oM 31 9,oM 32 10,oI 33 (.call zDb true) [.tmp 29,.tmp 30,.tmp 31,.tmp 32],oM 8 33] (.ret))))
def zEi : AF:={ results:=[.tmp 8],body:=zIc }
def zKC : AC:=.seq (oQ [1,3,2,0,14,13] [oM 34 14,oM 35 0,zD9 36 35,oX 37 .lss 34 36] (oC 37 (.skip) (.exit 0))) (.seq (.block 1 [13,1,
 3,2,0,14] (oQ [1,3,2,0,14,13] [oM 40 0,oM 41 14,oXI 42 3 40 41,oL 43 3 true 42,oA 15 zV5,oS 3 15 43] (oQ [1,3,2,
 0,14,15,13] [oF 44 0 15,oF 45 0 44,oO 46 45,oM 16 46] (.seq (oQ [1,3,2,0,14,15,13,16] [oM 47 1] (oC 47 (oR [1,3,2,0,14,15,13] [oF 48 0 15,oF
 49 1 48,oO 50 49,oM 16 50]) (.skip))) (.seq (oQ [1,3,2,0,14,15,13,16] [oM 51 16,oM 52 2,oX 53 .eql 51 52] (.cond (.tmp 53) (oR [1,3,2,0,14,15,
 13] [oM 54 3,oM 16 54]) (oQ [1,3,2,0,14,15,13,16] [oM 55 16,oM 56 3,oX 57 .eql 55 56] (oC 57 (oR [1,3,2,0,14,15,13] [oM 58 2,oM 16 58])
 (.skip))))) (.seq (oQ [1,3,2,0,14,15,13,16] [oM 59 1] (oC 59 (oR [1,3,2,0,14,15,13,16] [oM 60 16,oF 61 0 15,oF 62 1 61,oS 1 62 60]) (oR [1,3,
 2,0,14,15,13,16] [oM 63 16,oF 64 0 15,oF 65 0 64,oS 1 65 63]))) (oR [1,3,2,0,14,15,13] [oM 66 13,oL 67 3 true 15,oT 68 (.bslice 3) 67,oD 69
 (.append 3 32) 66 68,oM 13 69]))))))) (oR [13,1,3,2,0,14] [oM 38 14,oE 39 .add 38 1,oM 14 39]))
def b_sccref3_Swap : AC:=oQ [1,3,2,0] [oI 8 .mv [.const (.lst (some true) 0 [])],oI 9 .mv [oK 0]] (oQ [1,3,2,0] [oM 17 0,oT 18 (.call zBn
 true) 17,oM 10 18] (.seq (oQ [10,1,3,2,0] [oM 19 10,oE 20 .neq 19 0] (oC 20 (oQ [10] [oM 21 10,oI 8 .mv [.const (.lst (some true) 0 [])],oM 9 21] (.ret))
 (.skip))) (oQ [1,3,2,0] [oM 22 1,oM 23 2,oI 24 (.call zCl true) [.tmp 22,.tmp 23,oK 0],oM 11 24] (oQ [1,3,2,0,11] [oM 25 1,oM 26 3,oI 27
 (.call zCl true) [.tmp 25,.tmp 26,oK 0],oM 12 27] (.seq (oQ [1,3,2,0,12,11] [oM 28 11,oT 29 (.un .not) 28,oM 30 29,oV 31 30 false 12,oW 32
 30 false (.un .not) 31,oP 33 30 true 32] (oC 33 (oQ [] [oI 8 .mv [.const (.lst (some true) 0 [])],oI 9 .mv [oK 1]] (.ret)) (.skip))) (oQ [1,3,2,0] [oI 13
 .mv [.const (.lst (some true) 0 [])]] (.seq (oQ [13,1,3,2,0] [oI 14 .mv [oK 0]] (.block 0 [13] (.loop [14,13,1,3,2,0] zKC))) (oQ [13] [oM
 70 13,oT 71 (.call zBQ true) 70,oM 8 71,oI 9 .mv [oK 0]] (.ret)))))))))
def zHk : AF:={ results:=[.tmp 8,.tmp 9],body:=b_sccref3_Swap }
def b_rows_Swap : AC:=oQ [0,3,2,1] [oT 5 .box 1,oT 6 .box 2,oT 7 .box 3,oI 8 .mv [.const (.lst (some true) 0 [])],oI 9 .mv [.const (.nili)]] (.seq (oQ
 [5,6,7,0] [oM 11 0,oT 12 (.call zDE true) 11,oM 10 12] (oQ [10,5,6,7,0] [oM 13 10,oI 14 (.eqn .iface true true) [.tmp 13,.const (.nili)]]
 (oC 14 (oQ [10] [oM 15 10,oI 8 .mv [.const (.lst (some true) 0 [])],oM 9 15] (.ret)) (.skip)))) (.seq (oQ [5,6,7,0] [oO 16 5,oO 17 6,oI 18 (.call
 zED true) [.tmp 16,.tmp 17,oK 0],oT 19 (.un .not) 18,oM 20 19,oW 21 20 false (.load 1 false) 5,oW 22 20 false (.load 1 false) 7,oG 23 20 false
 (.call zED true) [.tmp 21,.tmp 22,oK 0],oW 24 20 false (.un .not) 23,oP 25 20 true 24] (oC 25 (oQ [] [oI 26 (.mkIface zQ) [oK 1],oI 8 .mv
 [.const (.lst (some true) 0 [])],oM 9 26] (.ret)) (.skip))) (oQ [5,6,7,0] [oM 27 0,oI 28 (.mkFn zA6 0) [.tmp 5,.tmp 6,.tmp 7],oI 29 (.call
 zD1 true) [.tmp 27,.tmp 28,.fn zAP],oT 30 (.extract 0) 29,oT 31 (.extract 1) 29,oM 8 30,oM 9 31] (.ret))))
def zLG : AF:={ results:=[.tmp 8,.tmp 9],body:=b_rows_Swap }
def b_scclaw3_made : AC:=oQ [2,0,3,1] [oI 8 .mv [oB false]] (oQ [2,0,3,1] [oM 11 1,oM 12 3,oD 13 (.call zDF true) 11 12,oM 9 13] (oQ [9,
 2,0] [oM 14 0,oM 15 2,oD 16 (.call zCt true) 14 15,oM 10 16] (oQ [10,9] [oM 17 9,oM 18 17,oV 19 18 true 10,oI 20 .pick [.tmp 18,.tmp 19,oB
 false],oM 8 20] (.ret))))
def zHl : AF:={ results:=[.tmp 8],body:=b_scclaw3_made }
def zJR : AC:=.seq (oQ [0,3] [oM 9 3,oM 10 0,zD9 11 10,oX 12 .lss 9 11] (oC 12 (.skip) (.exit 0))) (.seq (.block 1 [0,3] (oQ [0,3] [oM 15
 0,oM 16 3,oXI 17 3 15 16,oF 18 0 17,oL 19 2 true 18,oT 20 (.call zDi true) 19,oM 4 20] (.seq (oQ [0,3,4] [oM 21 4,oT 22 (.un .not) 21] (oC 22
 (oQ [] [oI 2 .mv [oK 1]] (.ret)) (.skip))) (.seq (.seq (.reg [0,3] true [oM 23 3,oE 24 .gtr 23 0,oM 25 24,oV 26 25 true 0,oV 27 25 true 3,oEG 28 25 true
 .sub 27 1,oYI 29 25 true 3 26 28,oW 30 25 true (.fieldAddr 0) 29,oW 31 25 true (.load 2 true) 30,oV 32 25 true 0,oV 33 25 true 3,oYI 34 25 true 3 32 33,oW
 35 25 true (.fieldAddr 0) 34,oW 36 25 true (.load 2 true) 35,oY 37 25 true (.call zBE true) 31 36,oW 38 25 true (.un .not) 37,oI 39 .pick [.tmp
 25,.tmp 38,oB false]]) (oC 39 (oQ [] [oI 2 .mv [oK 5]] (.ret)) (.skip))) (.seq (oQ [0,3] [oM 40 0,oM 41 3,oXI 42 3 40 41,oF 43 2 42,oO 44 43,oI 45 (.bin
 .eql) [.tmp 44,.const (.str [])]] (oC 45 (oQ [] [oI 2 .mv [oK 3]] (.ret)) (.skip))) (oQ [0,3] [oM 46 0,oM 47 3,oXI 48 3 46 47,oF 49 2 48,oO 50 49,oT 51
 (.call zCm true) 50,oM 5 51] (oQ [5,0,3] [oM 52 5,oE 53 .neq 52 0] (oC 53 (oQ [5] [oM 54 5,oM 2 54] (.ret)) (.skip))))))))) (oR [0,3] [oM 13 3,
 oE 14 .add 13 1,oM 3 14]))
def zLH : AC:=oQ [0] [oI 2 .mv [oK 0]] (.seq (oQ [0] [oM 6 0,zD9 7 6,oE 8 .gtr 7 200] (oC 8 (oQ [] [oI 2 .mv [oK 4]] (.ret)) (.skip))) (.seq (oQ
 [0] [oI 3 .mv [oK 0]] (.block 0 [] (.loop [3,0] zJR))) (oQ [] [oI 2 .mv [oK 0]] (.ret))))
def zEE : AF:={ results:=[.tmp 2],body:=zLH }
def b_sccref2_Span : AC:=oQ [2,1,0] [oI 6 .mv [oB false]] (oQ [2,1,0] [oI 7 .mv [oK 26]] (.seq (.seq (.reg [2,1,7,0] false [oM 8 0]) (oC 8 (oR [2,1]
 [oI 7 .mv [oK 99]]) (.skip))) (oQ [7,2,1] [oM 9 1,oE 10 .geq 9 1,oM 11 10,oV 12 11 true 1,oV 13 11 true 7,oXG 14 11 true .leq 12 13,oI 15 .pick [.tmp 11,
 .tmp 14,oB false],oM 16 15,oV 17 16 true 2,oEG 18 16 true .geq 17 0,oI 19 .pick [.tmp 16,.tmp 18,oB false],oM 20 19,oV 21 20 true 2,oV 22 20 true 7,
 oXG 23 20 true .leq 21 22,oI 24 .pick [.tmp 20,.tmp 23,oB false],oM 6 24] (.ret))))
def zHm : AF:={ results:=[.tmp 6],body:=b_sccref2_Span }
def zId : AC:=.seq (.seq (.reg [0,4,3,5] true [oM 13 5,oM 14 3,zD9 15 14,oX 16 .lss 13 15,oM 17 16,oV 18 17 true 3,oV 19 17 true 5,
 oYI 20 17 true 3 18 19,oW 21 17 true (.fieldAddr 0) 20,oW 22 17 true (.load 2 true) 21,oV 23 17 true 0,oV 24 17 true 4,oYI 25 17 true 3 23 24,oW 26 17 true
 (.fieldAddr 0) 25,oW 27 17 true (.load 2 true) 26,oY 28 17 true (.call zBE true) 22 27,oI 29 .pick [.tmp 17,.tmp 28,oB false]]) (oC 29 (.skip)
 (.exit 2))) (.block 3 [5,0,4,3] (oR [0,4,3,5] [oM 30 5,oE 31 .add 30 1,oM 5 31]))
def zIe : AC:=.seq (oQ [0,4,3] [oM 7 4,oM 8 0,zD9 9 8,oX 10 .lss 7 9] (oC 10 (.skip) (.exit 0))) (.seq (.block 1 [3,0,4] (oQ [0,4,3]
 [oI 5 .mv [oK 0]] (.seq (.block 2 [0,4,5,3] (.loop [5,0,4,3] zId)) (oQ [0,4,5,3] [oI 6 .mv [.const (.lst (some true) 0 [])]] (oQ [0,4,
 5,3,6] [oM 32 6,oM 33 3,oM 34 5,oD 35 (.slc (some 3) false true) 33 34,oD 36 (.append 3 32) 32 35,oM 6 36] (oQ [0,4,5,3,6] [oM 37 6,oM 38 0,oM 39 4,
 oXI 40 3 38 39,oL 41 3 true 40,oT 42 (.bslice 3) 41,oD 43 (.append 3 32) 37 42,oM 6 43] (oQ [0,4,5,3,6] [oM 44 6,oM 45 3,oM 46 5,oD 47 (.slc (some 3)
 true false) 45 46,oD 48 (.append 3 32) 44 47,oM 6 48] (oR [0,4,6] [oM 49 6,oM 3 49])))))))) (oR [3,0,4] [oM 11 4,oE 12 .add 11 1,oM 4 12]))
def zKD : AC:=oQ [0] [oI 2 .mv [.const (.lst (some true) 0 [])]] (oQ [0] [oI 3 .mv [.const (.lst (some true) 0 [])]] (.seq (oQ [3,0] [oI 4 .mv
 [oK 0]] (.block 0 [3] (.loop [4,3,0] zIe))) (oQ [3] [oM 50 3,oM 2 50] (.ret))))
def zDs : AF:={ results:=[.tmp 2],body:=zKD }
def zLI : AC:=oQ [0,10,11,12] [oX 13 .lss 12 11] (.seq (oC 13 (.skip) (.exit 0)) (.seq (.block 1 [0,10,11,12] (oQ [0,10,11,12] [oM 14 12,
 oXI 15 3 10 12,oL 16 3 true 15,oA 4 zV5,oM 3 14,oS 3 4 16] (.seq (.block 2 [0,10,11,12,4] (oQ [0,10,11,12,4,3] [oF
 18 0 4,oL 19 2 true 18,oT 20 (.call zDj true) 19,oI 21 (.eqn .iface true true) [.tmp 20,.const (.nili)],oM 17 21] (oC 17 (oQ [] [oI 22 (.mkIface
 zQ) [oK 1],oM 2 22] (.ret)) (.seq (.reg [0,10,11,12,4,3] true [oM 24 3,oE 25 .gtr 24 0,oM 26 25,oV 27 26 true 0,oV 28 26 true 3,oEG 29 26
 true .sub 28 1,oYI 30 26 true 3 27 29,oW 31 26 true (.fieldAddr 0) 30,oW 32 26 true (.load 2 true) 31,oW 33 26 true (.fieldAddr 0) 4,oW 34 26 true (.load 2
 true) 33,oY 35 26 true (.call zFs true) 32 34,oW 36 26 true (.un .not) 35,oI 37 .pick [.tmp 26,.tmp 36,oB false],oM 23 37]) (oC 23 (oQ [] [oI 38
 (.mkIface zQ) [oK 5],oM 2 38] (.ret)) (oQ [0,10,11,12,4] [oF 40 2 4,oO 41 40,oI 42 (.bin .eql) [.tmp 41,.const (.str [])],oM 39 42] (oC 39 (oQ
 [] [oI 43 (.mkIface zQ) [oK 3],oM 2 43] (.ret)) (.skip)))))))) (oQ [0,10,11,12,4] [oF 44 2 4,oO 45 44,oT 46 (.call zBy true) 45,oM 5
 46] (oQ [5,0,10,11,12] [oM 47 5,oI 48 (.eqn .iface true true) [.tmp 47,.const (.nili)]] (oC 48 (oQ [5] [oM 49 5,oM 2 49] (.ret)) (.skip))))))) (oR [0,10,
 11,12] [oE 50 .add 12 1,oM 12 50])))
def b_graph_Check : AC:=oQ [0] [oI 2 .mv [.const (.nili)]] (.seq (oQ [0] [oM 6 0,zD9 7 6,oE 8 .gtr 7 200] (oC 8 (oQ [] [oI 9 (.mkIface zQ) [oK 4],
 oM 2 9] (.ret)) (.skip))) (.seq (oQ [0] [oM 10 0,zD9 11 10,oI 12 .mv [oK 0]] (.block 0 [] (.loop [12,0,10,11] zLI))) (oQ [] [oI 2 .mv [.const
 (.nili)]] (.ret))))
def zIf : AF:={ results:=[.tmp 2],body:=b_graph_Check }
def b_refs_Span : AC:=oQ [2,1,0] [oI 6 .mv [oB false]] (oQ [2,1,0] [oI 7 .mv [oK 26]] (.seq (.seq (.reg [2,1,7,0] false [oM 8 0]) (oC 8 (oR [2,1] [oI 7
 .mv [oK 99]]) (.skip))) (oQ [7,2,1] [oM 9 1,oE 10 .geq 9 1,oM 11 10,oV 12 11 true 1,oV 13 11 true 7,oXG 14 11 true .leq 12 13,oI 15 .pick [.tmp 11,.tmp
 14,oB false],oM 16 15,oV 17 16 true 2,oEG 18 16 true .geq 17 0,oI 19 .pick [.tmp 16,.tmp 18,oB false],oM 20 19,oV 21 20 true 2,oV 22 20 true 7,oXG 23
 20 true .leq 21 22,oI 24 .pick [.tmp 20,.tmp 23,oB false],oM 6 24] (.ret))))
def zLJ : AF:={ results:=[.tmp 6],body:=b_refs_Span }
def zLK : AC:=oQ [8,2,1,13,14,15] [oX 16 .lss 15 14] (.seq (oC 16 (.skip) (.exit 0)) (.seq (.block 1 [8,2,1,13,14,15] (oQ [8,2,1,13,
 14,15] [oXI 17 3 13 15,oL 18 3 true 17,oA 10 zV5,oS 3 10 18] (oQ [8,2,1,13,14,15,10] [oM 20 1,oF 21 0 10,oD 22
 (.callv false) 20 21,oM 19 22,oT 23 (.extract 0) 19,oT 24 (.extract 1) 19,oM 11 23,oM 12 24] (.seq (oQ [12,8,2,1,13,14,15,10,11] [oM 25 12,oI 26
 (.eqn .iface true true) [.tmp 25,.const (.nili)]] (oC 26 (oQ [12] [oM 27 12,oI 6 .mv [.const (.lst (some true) 0 [])],oM 7 27] (.ret)) (.skip))) (.seq (.seq
 (.reg [8,2,1,13,14,15,10,11] false [oM 28 11,oT 29 (.un .not) 28]) (oC 29 (.exit 1) (.skip))) (.seq (oQ [2,1,13,14,15,10,8] [oF 31 2 10,oO 32 31,
 oM 33 2,oD 34 (.call zB6 true) 32 33,oM 30 34,oT 35 (.extract 0) 30,oT 36 (.extract 1) 30,oF 37 2 10,oS 1 37 35,oM 12 36] (oQ [12,2,1,13,
 14,15,10,8] [oM 38 12,oI 39 (.eqn .iface true true) [.tmp 38,.const (.nili)]] (oC 39 (oQ [12] [oM 40 12,oI 6 .mv [.const (.lst (some true) 0 [])],oM 7 40]
 (.ret)) (.skip)))) (oR [2,1,13,14,15,10,8] [oM 41 8,oL 42 3 true 10,oT 43 (.bslice 3) 42,oD 44 (.append 3 32) 41 43,oM 8 44]))))))) (oR [8,2,1,13,
 14,15] [oE 45 .add 15 1,oM 15 45])))
def b_rows_change : AC:=oQ [2,1,0] [oI 6 .mv [.const (.lst (some true) 0 [])],oI 7 .mv [.const (.nili)]] (oQ [2,1,0] [oI 8 .mv [.const (.lst (some true) 0
 [])]] (.seq (oQ [8,2,1,0] [oM 13 0,zD9 14 13,oI 15 .mv [oK 0]] (.block 0 [8] (.loop [15,8,2,1,13,14] zLK))) (oQ [8] [oM 46 8,oT 47 (.call
 zCZ false) 46,oM 6 47,oI 7 .mv [.const (.nili)]] (.ret))))
def zIg : AF:={ results:=[.tmp 6,.tmp 7],body:=b_rows_change }
def b_rows_Swap_c1 : AC:=oQ [3,2,1,0] [oI 5 .mv [oB false],oI 6 .mv [.const (.nili)]] (.seq (oQ [3,2,1,0] [oM 8 0,oO 9 1,oD 10 (.call zEh
 true) 8 9,oM 7 10] (oQ [3,7,2] [oM 11 7,oN 12 11,oO 13 12] (.block 0 [] (oQ [3,7,2,13] [oO 15 2,oX 16 .eql 13 15,oM 14 16] (oC 14 (oR [3,7] [oM 17 7,
 oO 18 3,oN 19 17,oS 1 19 18]) (oQ [2,7,13,3] [oO 21 3,oX 22 .eql 13 21,oM 20 22] (oC 20 (oR [2,7] [oM 23 7,oO 24 2,oN 25 23,oS 1 25 24])
 (.skip)))))))) (oQ [] [oI 5 .mv [oB true],oI 6 .mv [.const (.nili)]] (.ret)))
def zHn : AF:={ results:=[.tmp 5,.tmp 6],body:=b_rows_Swap_c1 }
def b_rows_along : AC:=oQ [0,1] [oI 4 .mv [.const (.nilp)]] (.seq (oQ [0,1] [oM 5 1] (oC 5 (.seq (.reg [0] false [oM 6 0,oN 7 6,oF 8 1 7,oM 4 8]) (.ret))
 (.skip))) (oQ [0] [oM 9 0,oN 10 9,oF 11 0 10,oM 4 11] (.ret)))
def zJ0 : AF:={ results:=[.tmp 4],body:=b_rows_along }
def b_rows_Swap_c2 : AC:=oQ [0] [oT 1 .box 0,oA 2 oZ,oI 3 .mv [.const (.nili)]] (oQ [2,1] [oL 4 12 true 1,oS 12 2 4,oI 3 .mv [.const (.nili)]] (.ret))
def zHo : AF:={ results:=[.cell 2 12 true,.tmp 3],body:=b_rows_Swap_c2 }
def zLL : AC:=oQ [1,0] [oI 4 .mv [oB false]] (oQ [1,0] [oM 6 0,oT 7 (.call zC6 true) 6,oM 5 7] (oQ [1,5] [oM 8 5,oM 9 1,oX 10 .eql
 8 9,oM 4 10] (.ret)))
def zGz : AF:={ results:=[.tmp 4],body:=zLL }
def zIh : AC:=.seq (oQ [1,0,5] [oM 11 5,oM 12 0,zD9 13 12,oX 14 .lss 11 13] (oC 14 (.skip) (.exit 0))) (.seq (.block 1 [1,0,5] (.seq
 (.reg [1,0,5] true [oM 17 0,oM 18 5,oXI 19 3 17 18,oL 20 3 true 19,oM 21 1,oM 22 5,oXI 23 3 21 22,oL 24 3 true 23,⟨some 25,none,.eqs true [.int .i64,
 .int .i64,.str],[.tmp 20,.tmp 24]⟩]) (oC 25 (oQ [] [oI 4 .mv [oB false]] (.ret)) (.skip)))) (oR [1,0,5] [oM 15 5,oE 16 .add 15 1,oM 5 16]))
def zKE : AC:=oQ [1,0] [oI 4 .mv [oB false]] (.seq (oQ [1,0] [oM 6 0,zD9 7 6,oM 8 1,zD9 9 8,oX 10 .neq 7 9] (oC 10 (oQ [] [oI 4 .mv [oB
 false]] (.ret)) (.skip))) (.seq (oQ [1,0] [oI 5 .mv [oK 0]] (.block 0 [] (.loop [5,1,0] zIh))) (oQ [] [oI 4 .mv [oB true]] (.ret))))
def zGJ : AF:={ results:=[.tmp 4],body:=zKE }
def b_sccref1_In : AC:=oQ [0] [oT 1 .box 0,oI 2 .mv [oB false]] (oQ [1] [oF 3 0 1,oO 4 3,oE 5 .geq 4 1,oM 6 5,oW 7 6 true (.fieldAddr 0) 1,oW 8 6 true
 (.load 1 false) 7,oEG 9 6 true .leq 8 26,oI 10 .pick [.tmp 6,.tmp 9,oB false],oM 11 10,oW 12 11 true (.fieldAddr 1) 1,oW 13 11 true (.load 1 false) 12,
 oEG 14 11 true .geq 13 1,oI 15 .pick [.tmp 11,.tmp 14,oB false],oM 16 15,oW 17 16 true (.fieldAddr 1) 1,oW 18 16 true (.load 1 false) 17,oEG 19 16 true
 .leq 18 99,oI 20 .pick [.tmp 16,.tmp 19,oB false],oM 2 20] (.ret))
def zG0 : AF:={ results:=[.tmp 2],body:=b_sccref1_In }
def zLM : AC:=oQ [1,0] [oT 2 .box 0,oT 3 .box 1,oI 4 .mv [oB false]] (.seq (oQ [3,2] [oF 5 1 2,oO 6 5,oF 7 1 3,oO 8 7,oX 9 .neq 6 8] (oC 9
 (oQ [3,2] [oF 10 1 2,oO 11 10,oF 12 1 3,oO 13 12,oX 14 .lss 11 13,oM 4 14] (.ret)) (.skip))) (oQ [3,2] [oF 15 0 2,oO 16 15,oF 17 0 3,oO 18 17,oX 19
 .lss 16 18,oM 4 19] (.ret)))
def zEF : AF:={ results:=[.tmp 4],body:=zLM }
def b_sccref2_Text : AC:=oQ [0] [oI 2 .mv [oK 0]] (.seq (oQ [0] [oM 6 0,oT 7 (.len true) 6,oE 8 .gtr 7 200] (oC 8 (oQ [] [oI 2 .mv [oK 4]] (.ret)) (.skip)))
 (.seq (oQ [0] [oM 9 0,oI 10 (.bin .neq) [.tmp 9,.const (.str [])],oM 11 10,oV 12 11 true 0,oG 13 11 true .idxStr [.tmp 12,oK 0],oG 14 11 true (.bin .eql)
 [.tmp 13,.const (.int .u8 61)],oI 15 .pick [.tmp 11,.tmp 14,oB false]] (oC 15 (oQ [0] [oM 17 0,oT 18 (.call zCO true) 17,oM 16 18,oT 19
 (.extract 0) 16,oT 20 (.extract 1) 16,oT 21 (.extract 2) 16,oA 3 oZ,oS 12 3 19,oM 4 20,oM 5 21] (oQ [5] [oM 22 5,oE 23 .neq 22 0] (oC 23 (oQ [] [oI 2 .mv
 [oK 2]] (.ret)) (.skip)))) (.skip))) (oQ [] [oI 2 .mv [oK 0]] (.ret))))
def zE2 : AF:={ results:=[.tmp 2],body:=b_sccref2_Text }
def b_addr_Check : AC:=oQ [0] [oT 1 .box 0,oI 2 .mv [.const (.nili)]] (.seq (oQ [1] [oL 3 2 true 1,oT 4 (.call zIb true) 3,oT 5 (.un .not) 4] (oC 5
 (oQ [] [oI 6 (.mkIface zQ) [oK 1],oM 2 6] (.ret)) (.skip))) (oQ [] [oI 2 .mv [.const (.nili)]] (.ret)))
def zJ1 : AF:={ results:=[.tmp 2],body:=b_addr_Check }
def b_addr_Less : AC:=oQ [1,0] [oT 2 .box 0,oT 3 .box 1,oI 4 .mv [oB false]] (oQ [3,2] [oL 5 2 true 2,oL 6 2 true 3,oD 7 (.call zDc true) 5 6,
 oE 8 .lss 7 0,oM 4 8] (.ret))
def zLN : AF:={ results:=[.tmp 4],body:=b_addr_Less }
def b_graph_Text : AC:=oQ [0] [oI 2 .mv [.const (.nili)]] (.seq (oQ [0] [oM 6 0,oT 7 (.len true) 6,oE 8 .gtr 7 200] (oC 8 (oQ [] [oI 9 (.mkIface zQ)
 [oK 4],oM 2 9] (.ret)) (.skip))) (.seq (oQ [0] [oM 10 0,oT 11 (.call zAK true) 10,oT 12 (.un .not) 11] (oC 12 (oQ [0] [oM 14 0,oT 15 (.call
 zAN true) 14,oM 13 15,oT 16 (.extract 0) 13,oT 17 (.extract 1) 13,oT 18 (.extract 2) 13,oA 3 oZ,oS 12 3 16,oM 4 17,oM 5 18] (oQ [5] [oM 19 5,
 oI 20 (.eqn .iface true true) [.tmp 19,.const (.nili)]] (oC 20 (oQ [] [oI 21 (.mkIface zQ) [oK 2],oM 2 21] (.ret)) (.skip)))) (.skip))) (oQ [] [oI 2
 .mv [.const (.nili)]] (.ret))))
def zJ2 : AF:={ results:=[.tmp 2],body:=b_graph_Text }
def zKF : AC:=oQ [0,1] [oI 4 .mv [.const (.str [])],oI 5 .mv [.const (.nili)]] (.seq (oQ [0,1] [oM 11 0,oT 12 (.call zAK true)
 11] (oC 12 (oQ [0] [oM 13 0,oM 4 13,oI 5 .mv [.const (.nili)]] (.ret)) (.skip))) (.seq (.reg [0,1] false [oM 15 0,oT 16 (.call zAN true) 15,oM
 14 16,oT 17 (.extract 0) 14,oT 18 (.extract 1) 14,oT 19 (.extract 2) 14,⟨some 6,none,.alloc oZ,[]⟩,oS 12 6 17,oM 7 18,oM 8 19]) (.seq (oQ [0,6,1,8]
 [oM 20 8,oI 21 (.eqn .iface true true) [.tmp 20,.const (.nili)]] (oC 21 (oQ [] [oI 22 (.mkIface zQ) [oK 2],oI 4 .mv [.const (.str [])],oM 5 22]
 (.ret)) (.skip))) (.seq (.reg [0,6,1] false [oM 24 1,oL 25 12 true 6,oD 26 (.callv true) 24 25,oM 23 26,oT 27 (.extract 0) 23,oT 28 (.extract 1) 23,oA 9
 oZ,oS 12 9 27,oM 8 28]) (.seq (oQ [8,0,9,6] [oM 29 8,oI 30 (.eqn .iface true true) [.tmp 29,.const (.nili)]] (oC 30 (oQ [8] [oM 31 8,oI 4 .mv [.const
 (.str [])],oM 5 31] (.ret)) (.skip))) (.seq (oQ [0,9,6] [oL 32 12 true 6,oL 33 12 true 9,oD 34 (.call z8 true) 32 33] (oC 34 (oQ [0] [oM 35 0,oM 4
 35,oI 5 .mv [.const (.nili)]] (.ret)) (.skip))) (oQ [9] [oL 37 12 true 9,oT 38 (.call zLF true) 37,oM 36 38,oT 39 (.extract 0) 36,oT 40
 (.extract 1) 36,oM 10 39,oM 8 40] (.seq (oQ [10,8] [oM 41 8,oI 42 (.eqn .iface true true) [.tmp 41,.const (.nili)]] (oC 42 (oQ [] [oI 43 (.mkIface
 zQ) [oK 4],oI 4 .mv [.const (.str [])],oM 5 43] (.ret)) (.skip))) (oQ [10] [oM 44 10,oM 4 44,oI 5 .mv [.const (.nili)]] (.ret))))))))))
def zGK : AF:={ results:=[.tmp 4,.tmp 5],body:=zKF }
def b_rows_sorted : AC:=oQ [0] [oI 2 .mv [.const (.lst (some true) 0 [])]] (oQ [0] [oM 3 0,oI 4 (.call zAG false) [.tmp
 3,.fn zDr]] (oQ [0] [oM 5 0,oM 2 5] (.ret)))
def zFw : AF:={ results:=[.tmp 2],body:=b_rows_sorted }
def b_plain_Told : AC:=oQ [0] [oI 2 .mv [oK 0]] (.seq (oQ [0] [oM 4 0,oI 5 (.eqn .iface false true) [.tmp 4,.const (.nili)]] (oC 5 (oQ [] [oI 2 .mv [oK 0]]
 (.ret)) (.skip))) (oQ [0] [oA 3 [.int .i64 0]] (.seq (oQ [3,0] [oM 6 0,oT 7 (.mkIface zGy) 3,oD 8 (.call zH3 false) 6 7] (oC 8 (oQ [3] [oO 9
 3,oM 2 9] (.ret)) (.skip))) (oQ [] [oI 2 .mv [oK (-1)]] (.ret)))))
def zG1 : AF:={ results:=[.tmp 2],body:=b_plain_Told }
def zLO : AC:=oQ [0] [oA 2 oZ,oI 3 .mv [oK 0],oI 4 .mv [oK 0]] (.seq (oQ [2,0] [oM 8 0,oT 9 (.len true) 8,oE 10 .gtr 9 200] (oC 10 (oQ [2]
 [⟨some 11,none,.build oZ [],[]⟩,oS 12 2 11,oI 3 .mv [oK 0],oI 4 .mv [oK 4]] (.ret)) (.skip))) (.seq (oQ [2,0] [oM 12 0,oI 13 (.bin .eql) [.tmp 12,.const
 (.str [])],oM 14 13,oV 15 14 false 0,oG 16 14 false .idxStr [.tmp 15,oK 0],oG 17 14 false (.bin .neq) [.tmp 16,.const (.int .u8 61)],oP 18 14 true 17]
 (.cond (.tmp 18) (oQ [2] [⟨some 19,none,.build oZ [],[]⟩,oS 12 2 19,oI 3 .mv [oK 0],oI 4 .mv [oK 2]] (.ret)) (.skip))) (.seq (.reg [2,0] false [oM 20 0,
 ⟨some 21,none,.build [.str [],.int .i64 0,.int .i64 0,.int .i64 0,.int .i64 0] [(0,1),(1,1)],[.tmp 20,oK 1]⟩,oT 22 .box 21,oM 5 22]) (oQ [2,5,0]
 [oM 23 5,oI 24 (.call zU false) [.tmp 23,oK 1],oA 6 oZ,oS 12 6 24] (oQ [2,5,6,0] [oM 25 0,oM 26 5,oN 27 26,oF 28 1 27,oO 29 28,oD 30
 (.call zT true) 25 29,oA 7 zV4,oS 4 7 30] (.seq (oQ [2,5,6,7] [oM 31 5,oN 32 31,oF 33 3 32,oO
 34 33,oE 35 .eql 34 0,oM 36 35,oW 37 36 true (.fieldAddr 0) 7,oW 38 36 true (.load 1 false) 37,oEG 39 36 true .neq 38 0,oI 40 .pick [.tmp 36,.tmp 39,oB
 false]] (oC 40 (oR [2,5,6,7] [oM 41 5,oF 42 1 7,oO 43 42,oI 44 (.call zd false) [.tmp 41,.tmp 43,oK 2]]) (.skip))) (.seq (oQ [2,5,6] [oM
 45 5,oN 46 45,oF 47 3 46,oO 48 47,oE 49 .neq 48 0] (oC 49 (.seq (.regt [2,5] true [⟨some 50,none,.build oZ [],[]⟩,oM 51 5,oN 52 51,oF 53 2 52,oO 54
 53,oM 55 5,oN 56 55,oF 57 3 56,oO 58 57,oS 12 2 50,oM 3 54,oM 4 58] (.step 0 (.step 1 (.step 2 (.step 3 (.step 5 (.step 6 (.step 7 (.alt (.step 4 (.alt
 (.step 8 (.step 9 (.step 10 (.step 11 (.done))))) (.step 9 (.step 8 (.step 10 (.step 11 (.done))))))) (.alt (.step 8 (.alt (.step 4 (.step 9 (.step 10 (.step 11
 (.done))))) (.step 9 (.step 4 (.step 10 (.step 11 (.done))))))) (.step 9 (.step 4 (.step 8 (.step 10 (.step 11 (.done)))))))))))))))) (.ret)) (.skip))) (oQ [2,
 6] [oL 59 12 true 6,oS 12 2 59,oI 3 .mv [oK 0],oI 4 .mv [oK 0]] (.ret)))))))))
def zCP : AF:={ results:=[.cell 2 12 true,.tmp 3,.tmp 4],body:=zLO }
def b_addr_ok : AC:=oQ [0] [oT 1 .box 0,oI 2 .mv [oB false]] (oQ [1] [oF 3 0 1,oO 4 3,oE 5 .geq 4 1,oM 6 5,oW 7 6 true (.fieldAddr 0) 1,oW 8 6 true
 (.load 1 false) 7,oEG 9 6 true .leq 8 26,oI 10 .pick [.tmp 6,.tmp 9,oB false],oM 11 10,oW 12 11 true (.fieldAddr 1) 1,oW 13 11 true (.load 1 false) 12,
 oEG 14 11 true .geq 13 1,oI 15 .pick [.tmp 11,.tmp 14,oB false],oM 16 15,oW 17 16 true (.fieldAddr 1) 1,oW 18 16 true (.load 1 false) 17,oEG 19 16 true
 .leq 18 99,oI 20 .pick [.tmp 16,.tmp 19,oB false],oM 2 20] (.ret))
def a_addr_ok : AF:={ results:=[.tmp 2],body:=b_addr_ok }
def b_addr_Compare : AC:=oQ [1,0] [oT 2 .box 0,oT 3 .box 1,oI 4 .mv [oK 0]] (.seq (.reg [3,2] true [oF 5 1 2,oO 6 5,oF 7 1 3,oO 8 7,oD 9 (.call
 zBX true) 6 8,oF 10 0 2,oO 11 10,oF 12 0 3,oO 13 12,oD 14 (.call zBX true) 11 13,oD 15 (.bslice 1) 9 14,oT 16 (.call
 zD2 true) 15,oM 4 16]) (.ret))
def zHp : AF:={ results:=[.tmp 4],body:=b_addr_Compare }
def zIi : AC:=oQ [0] [oI 2 .mv [oB false]] (oQ [0] [oM 3 0,oI 4 (.call zAO true) [.tmp 3,.const (.str [61])],oT 5 (.un .not)
 4,oM 2 5] (.ret))
def zDL : AF:={ results:=[.tmp 2],body:=zIi }
def zDM : AC:=oQ [0] [oA 2 oZ,oA 3 [.int .i64 0],oA 4 [.nili]] (.seq (oQ [2,3,4,0] [oM 6 0,oT 7 (.len true) 6,oE 8 .gtr 7 200] (oC 8 (oQ [2,
 3,4] [⟨some 9,none,.build oZ [],[]⟩,oI 10 (.mkIface zQ) [oK 4],oS 12 2 9,oJ (.store 1) [.tmp 3,oK 0],oS 1 4 10] (.ret)) (.skip))) (oQ [2,3,4,
 0] [oI 11 (.mkFn zAL 0) [.tmp 2,.tmp 3,.tmp 4],oJ .stuck []] (oQ [2,3,4,0] [oM 12 0,⟨some 13,none,.build [.str [],.int .i64 0,.int .i64
 0] [(0,1)],[.tmp 12]⟩,oT 14 .box 13,oM 5 14] (.seq (oQ [2,3,4,5,0] [oM 15 0,oT 16 (.call zAK true) 15] (oC 16 (.regt [2,3,4,5,0]
 false [oM 17 5,oI 18 (.mkIface zQ) [oK 2],oI 19 (.callp zV) [.tmp 17,oK 0,.tmp 18]] (.step 0 (.step 1 (.step 2 (.done)))))
 (.skip))) (oQ [2,3,4,5,0] [oM 20 5,oN 21 20,oF 22 1 21,oO 23 22,oE 24 .add 23 1,oN 25 20,oF 26 1 25,oS 1 26 24] (.seq (.regt [2,3,4,5,0] false [oM
 27 5,oI 28 (.callp zi) [.tmp 27,oK 0],oS 12 2 28] (.step 0 (.step 1 (.step 2 (.done))))) (.seq (oQ [2,3,4,5,0] [oM 29 5,oT 30 (.call
 za false) 29] (oQ [2,3,4,5,0] [oM 31 5,oN 32 31,oF 33 1 32,oO 34 33,oM 35 0,oT 36 (.len true) 35,oX 37 .lss 34 36] (oC 37 (.regt
 [2,3,4,5] false [oM 38 5,oM 39 5,oN 40 39,oF 41 1 40,oO 42 41,oI 43 (.mkIface zQ) [oK 2],oI 44 (.callp zV) [.tmp 38,.tmp
 42,.tmp 43]] (.step 0 (.step 1 (.step 2 (.step 3 (.step 4 (.step 5 (.step 6 (.done))))))))) (.skip)))) (oQ [2,3,4] [oL 45 12 true 2,oS 12 2 45,oJ (.store 1)
 [.tmp 3,oK 0],oJ (.store 1) [.tmp 4,.const (.nili)]] (.ret)))))))))
def zBG : AF:={ results:=[.cell 2 12 true,.cell 3 1 false,.cell 4 1 false],body:=zDM }
def b_rows_same : AC:=oQ [1,0] [oT 2 .box 0,oT 3 .box 1,oI 4 .mv [oB false]] (oQ [3,2] [oF 5 0 2,oO 6 5,oF 7 0 3,oO 8 7,oX 9 .eql 6 8,oM 10 9,oW 11
 10 true (.fieldAddr 1) 2,oW 12 10 true (.load 1 false) 11,oW 13 10 true (.fieldAddr 1) 3,oW 14 10 true (.load 1 false) 13,oXG 15 10 true .eql 12 14,oI 16
 .pick [.tmp 10,.tmp 15,oB false],oM 17 16,oW 18 17 true (.fieldAddr 2) 2,oW 19 17 true (.load 1 false) 18,oW 20 17 true (.fieldAddr 2) 3,oW 21 17 true
 (.load 1 false) 20,oXG 22 17 true .eql 19 21,oI 23 .pick [.tmp 17,.tmp 22,oB false],oM 24 23,oW 25 24 true (.fieldAddr 3) 2,oW 26 24 true (.load 4 true)
 25,oW 27 24 true (.fieldAddr 3) 3,oW 28 24 true (.load 4 true) 27,⟨some 29,some (24,true),.eqs false [.int .i64,.int .i64,.bool,.bool],[.tmp 26,.tmp
 28]⟩,oI 30 .pick [.tmp 24,.tmp 29,oB false],oM 31 30,oW 32 31 true (.fieldAddr 7) 2,oW 33 31 true (.load 4 true) 32,oW 34 31 true (.fieldAddr 7) 3,oW 35
 31 true (.load 4 true) 34,⟨some 36,some (31,true),.eqs false [.int .i64,.int .i64,.bool,.bool],[.tmp 33,.tmp 35]⟩,oI 37 .pick [.tmp 31,.tmp 36,oB
 false],oM 38 37,oW 39 38 true (.fieldAddr 11) 2,oW 40 38 true (.load 1 false) 39,oW 41 38 true (.fieldAddr 11) 3,oW 42 38 true (.load 1 false) 41,oG 43 38
 true (.call zR true) [.tmp 40,.tmp 42,.fn z8],oI 44 .pick [.tmp 38,.tmp 43,oB false],oM 4
 44] (.ret))
def zLP : AF:={ results:=[.tmp 4],body:=b_rows_same }
def zHU : AC:=.seq (oQ [4,5,0,1] [oM 11 0,oN 12 11,oF 13 3 12,oO 14 13,oE 15 .eql 14 0] (oC 15 (.skip) (.exit 0))) (.block 1 [4,5,0,
 1] (.seq (.regt [4,5,0,1] true [oM 16 0,oN 17 16,oF 18 0 17,oO 19 18,oM 20 0,oN 21 20,oF 22 1 21,oO 23 22,oD 24 (.call zT true) 19 23,oA
 6 zV4,oS 4 6 24] (.step 0 (.step 1 (.step 2 (.step 3 (.step 4 (.step 5 (.step 6 (.step 7 (.alt (.step 8 (.step 9
 (.step 10 (.done)))) (.step 9 (.step 8 (.step 10 (.done)))))))))))))) (oQ [4,5,0,1,6] [oI 7 .mv [oK 0]] (.seq (oQ [4,5,0,1,6,7] [oF 25 0 6,oO 26 25,oE
 27 .eql 26 4] (oC 27 (oR [4,5,0,1,6] [oF 28 3 6,oO 29 28,oT 30 (.call zB8 true) 29,oM 7 30]) (.skip))) (.seq (oQ [4,5,0,1,7,6] [oM 31 7,
 oE 32 .eql 31 0,oM 33 32,oV 34 33 false 7,oW 35 33 false (.call zBF true) 34,oV 36 33 false 1,oXG 37 33 false .lss 35 36,oP 38 33 true 37]
 (.cond (.tmp 38) (oQ [4,5] [oL 39 12 true 5,oS 12 4 39] (.ret)) (.skip))) (oQ [4,5,0,1,7,6] [oM 40 0,oF 41 2 6,oO 42 41,oN 43 40,oF 44 1 43,oS 1 44
 42] (oQ [4,5,0,1,7] [oM 45 0,oM 46 7,oT 47 (.call zBF true) 46,oE 48 .add 47 1,oD 49 (.call zU false) 45 48,oA 8 oZ,oS 12 8
 49] (oR [4,5,0,1,8,7] [oM 50 7,oL 51 12 true 5,oL 52 12 true 8,oD 53 (.bslice 12) 51 52,⟨some 54,none,.build oZ [(0,1),(1,1),(11,1)],[oK 8,.tmp
 50,.tmp 53]⟩,oS 12 5 54]))))))))
def zIj : AC:=oQ [0,1] [oA 4 oZ] (oQ [4,0,1] [oM 9 0,oT 10 (.call zAB false) 9,oA 5 oZ,oS 12 5 10] (.seq (.block 0 [4] (.loop
 [4,5,0,1] zHU)) (oQ [4] [⟨some 55,none,.build oZ [],[]⟩,oS 12 4 55] (.ret))))
def zBa : AF:={ results:=[.cell 4 12 true],body:=zIj }
def zJS : AC:=.seq (oQ [4,0,1] [oM 14 1,oM 15 0,oT 16 (.len true) 15,oX 17 .lss 14 16,oM 18 17,oV 19 18 true 0,oV 20 18 true 1,oY 21 18
 true .idxStr 19 20,oG 22 18 true (.bin .eql) [.tmp 21,.const (.int .u8 32)],oI 23 .pick [.tmp 18,.tmp 22,oB false]] (oC 23 (.skip) (.exit 0))) (.block 1 [1,
 4,0] (oR [4,0,1] [oM 24 1,oE 25 .add 24 1,oM 1 25]))
def zJT : AC:=.seq (oQ [4,1,0,7] [oM 40 7,oM 41 0,oT 42 (.len true) 41,oX 43 .lss 40 42,oM 44 43,oV 45 44 true 0,oV 46 44 true 7,oY 47
 44 true .idxStr 45 46,oW 48 44 true (.call zBR true) 47,oI 49 .pick [.tmp 44,.tmp 48,oB false]] (oC 49 (.skip) (.exit 2))) (.block 3 [7,4,1,
 0] (oR [4,1,0,7] [oM 50 7,oE 51 .add 50 1,oM 7 51]))
def zJU : AC:=.seq (oQ [4,1,0,9,8] [oM 63 9,oM 64 0,oT 65 (.len true) 64,oX 66 .lss 63 65] (oC 66 (.skip) (.exit 4))) (.block 5 [9,8,4,
 1,0] (.seq (oQ [4,1,0,9,8] [oM 67 0,oM 68 9,oD 69 .idxStr 67 68,oI 70 (.bin .eql) [.tmp 69,.const (.int .u8 34)]] (oC 70 (.seq (oQ [4,1,0,9,8] [oM
 71 9,oE 72 .add 71 1,oM 73 0,oT 74 (.len true) 73,oX 75 .lss 72 74,oM 76 75,oV 77 76 true 0,oV 78 76 true 9,oEG 79 76 true .add 78 1,oY 80 76 true
 .idxStr 77 79,oG 81 76 true (.bin .eql) [.tmp 80,.const (.int .u8 34)],oI 82 .pick [.tmp 76,.tmp 81,oB false]] (oC 82 (oQ [4,1,0,9,8] [oM 83 8,oI 84
 (.bslice 1) [.const (.int .u8 34)],oD 85 (.append 1 1) 83 84,oM 8 85] (oQ [8,4,1,0,9] [oM 86 9,oE 87 .add 86 2,oM 9 87] (.exit 5))) (.skip))) (oQ [4,8,
 9,1] [oM 88 1,oM 89 9,oE 90 .add 89 1,oM 91 8,oT 92 .bytesToStr 91,⟨some 93,none,.build zV4 [(0,1),(1,1),
 (2,1),(3,1)],[oK 2,.tmp 88,.tmp 90,.tmp 92]⟩,oS 4 4 93] (.ret))) (.skip))) (oQ [4,1,0,9,8] [oM 94 8,oM 95 0,oM 96 9,oD 97 .idxStr 95 96,oT 98
 (.bslice 1) 97,oD 99 (.append 1 1) 94 98,oM 8 99] (oR [8,4,1,0,9] [oM 100 9,oE 101 .add 100 1,oM 9 101]))))
def zJV : AC:=.seq (oQ [4,11,10,1,0] [oM 108 11,oM 109 10,zD9 110 109,oX 111 .lss 108 110] (.cond (.tmp 111) (.skip) (.exit 6))) (.seq
 (.block 7 [4,10,1,0,11] (oQ [4,11,10,1,0] [oM 114 10,oM 115 11,oXI 116 1 114 115,oO 117 116,oT 118 (.len true) 117,oM 12 118] (.seq (.reg [4,11,
 10,12,1,0] true [oM 119 1,oM 120 12,oX 121 .add 119 120,oM 122 0,oT 123 (.len true) 122,oX 124 .leq 121 123,oM 125 124,oV 126 125 true 0,oV 127 125
 true 1,oV 128 125 true 1,oV 129 125 true 12,oXG 130 125 true .add 128 129,oG 131 125 true (.slc none true true) [.tmp 126,.tmp 127,.tmp 130],oV 132 125
 true 10,oV 133 125 true 11,oYI 134 125 true 1 132 133,oW 135 125 true (.load 1 false) 134,oXG 136 125 true .eql 131 135,oI 137 .pick [.tmp 125,.tmp 136,oB
 false]]) (oC 137 (oQ [4,11,10,12,1] [oM 138 1,oM 139 1,oM 140 12,oX 141 .add 139 140,oM 142 10,oM 143 11,oXI 144 1 142 143,oO 145 144,⟨some 146,
 none,.build zV4 [(0,1),(1,1),(2,1),(3,1)],[oK 3,.tmp 138,.tmp 141,.tmp 145]⟩,oS 4 4 146] (.ret))
 (.skip))))) (oR [4,10,1,0,11] [oM 112 11,oE 113 .add 112 1,oM 11 113]))
def zLQ : AC:=oQ [1,0] [oA 4 zV4] (.seq (.block 0 [4,1,0] (.loop [1,4,0] zJS))
 (.seq (oQ [4,1,0] [oM 26 1,oM 27 0,oT 28 (.len true) 27,oX 29 .eql 26 28] (oC 29 (oQ [4,1] [oM 30 1,oM 31 1,⟨some 32,none,.build [.int .i64 0,.int
 .i64 0,.int .i64 0,.str []] [(0,1),(1,1),(2,1)],[oK 0,.tmp 30,.tmp 31]⟩,oS 4 4 32] (.ret)) (.skip))) (oQ [4,1,0] [oM 33 0,oM 34 1,oD 35 .idxStr 33
 34,oM 5 35] (oQ [4,1,0,5] [oM 36 5,oT 37 (.call zBR true) 36,oM 6 37] (.seq (oQ [4,1,0,5,6] [oM 38 6] (oC 38 (oQ [4,1,0] [oM 39 1,oM 7
 39] (.seq (.block 2 [4,7,1,0] (.loop [7,4,1,0] zJT)) (oQ [4,7,1,0] [oM 52 1,oM 53 7,oM 54 0,oM 55 1,oM 56 7,oI 57 (.slc none true
 true) [.tmp 54,.tmp 55,.tmp 56],⟨some 58,none,.build zV4 [(0,1),(1,1),(2,1),(3,1)],[oK 1,.tmp 52,.tmp
 53,.tmp 57]⟩,oS 4 4 58] (.ret)))) (.skip))) (.seq (oQ [4,1,0,5] [oM 59 5,oI 60 (.bin .eql) [.tmp 59,.const (.int .u8 34)]] (oC 60 (oQ [4,1,0] [oI 8 .mv
 [.const (.lst (some true) 0 [])]] (oQ [8,4,1,0] [oM 61 1,oE 62 .add 61 1,oM 9 62] (.seq (.block 4 [4,1] (.loop [9,8,4,1,0] zJU)) (oQ [4,
 1] [oM 102 1,oM 103 1,⟨some 104,none,.build zV4 [(0,1),(1,1),(2,1)],[oK 9,.tmp 102,.tmp 103]⟩,oS 4 4
 104] (.ret))))) (.skip))) (.seq (oQ [4,1,0,5] [oM 105 5,oI 106 (.bin .eql) [.tmp 105,.const (.int .u8 35)]] (oC 106 (.seq (.reg [4,1,0] false [oI 107
 (.call zA2 true) [],oM 10 107]) (.seq (oQ [4,10,1,0] [oI 11 .mv [oK 1]] (.block 6 [4,1] (.loop [4,11,10,1,0] zJV))) (oQ [4,
 1] [oM 147 1,oM 148 1,⟨some 149,none,.build zV4 [(0,1),(1,1),(2,1)],[oK 9,.tmp 147,.tmp 148]⟩,oS 4 4
 149] (.ret)))) (.skip))) (.seq (oQ [4,1,0] [oM 150 1,oE 151 .add 150 2,oM 152 0,oT 153 (.len true) 152,oX 154 .leq 151 153] (oC 154 (oQ [4,1,0] [oM 155
 0,oM 156 1,oM 157 1,oE 158 .add 157 2,oI 159 (.slc none true true) [.tmp 155,.tmp 156,.tmp 158],oM 13 159] (oQ [4,13,1,0] [oM 160 13,oI 161 (.bin
 .eql) [.tmp 160,.const (.str [60,62])],oM 162 161,oV 163 162 false 13,oG 164 162 false (.bin .eql) [.tmp 163,.const (.str [60,61])],oP 165 162 true 164,
 oM 166 165,oV 167 166 false 13,oG 168 166 false (.bin .eql) [.tmp 167,.const (.str [62,61])],oP 169 166 true 168] (oC 169 (oQ [4,13,1] [oM 170 1,oM 171
 1,oE 172 .add 171 2,oM 173 13,⟨some 174,none,.build zV4 [(0,1),(1,1),(2,1),(3,1)],[oK 4,.tmp 170,.tmp
 172,.tmp 173]⟩,oS 4 4 174] (.ret)) (.skip)))) (.skip))) (oQ [4,1,0] [oM 175 1,oM 176 1,oE 177 .add 176 1,oM 178 0,oM 179 1,oM 180 1,oE 181 .add 180 1,
 oI 182 (.slc none true true) [.tmp 178,.tmp 179,.tmp 181],⟨some 183,none,.build zV4 [(0,1),(1,1),(2,1),
 (3,1)],[oK 4,.tmp 175,.tmp 177,.tmp 182]⟩,oS 4 4 183] (.ret))))))))))
def zEG : AF:={ results:=[.cell 4 4 true],body:=zLQ }
def zJW : AC:=oQ [2,0,1] [oM 6 0,oN 7 6,oF 8 3 7,oO 9 8,oE 10 .eql 9 0] (oC 10 (oQ [2,0,1] [oM 11 0,oM 12 1,oN 13 11,oF 14 2 13,oS 1
 14 12] (oR [2,0] [oM 15 0,oM 16 2,oN 17 15,oF 18 3 17,oS 1 18 16])) (.skip))
def zDZ : AF:={ results:=[],body:=zJW }
def zLR : AC:=oQ [3,6,7,8] [oX 9 .lss 8 7] (.seq (oC 9 (.skip) (.exit 0)) (.seq (.block 1 [3,6,7,8] (oQ [3,6,7,8] [oXI 10 1 6 8,oO 11 10,
 oM 5 11] (oQ [5,3,6,7,8] [oM 12 5,oM 13 3,oX 14 .neq 12 13] (oC 14 (oQ [5] [oM 15 5,oM 2 15] (.ret)) (.skip))))) (oR [3,6,7,8] [oE 16 .add 8 1,oM 8
 16])))
def b_cmp_Or_int_ : AC:=oQ [0] [oI 2 .mv [oK 0]] (oQ [0] [oI 3 .mv [oK 0]] (.seq (oQ [3,0] [oM 6 0,zD9 7 6,oI 8 .mv [oK 0]] (.block 0 [3] (.loop [8,3,6,
 7] zLR))) (oQ [3] [oM 17 3,oM 2 17] (.ret))))
def zIk : AF:={ results:=[.tmp 2],body:=b_cmp_Or_int_ }
def zIl : AC:=oQ [1,0] [oI 4 .mv [oK 0]] (oQ [1,0] [oM 7 0,oT 8 (.call zB7 true) 7,oM 5 8] (oQ [1,0,5] [oM 9 1,oT 10 (.call
 zB7 true) 9,oM 6 10] (.seq (oQ [6,1,0,5] [oM 11 5] (oC 11 (.seq (oQ [6] [oM 12 6] (oC 12 (oQ [] [oI 4 .mv [oK 0]] (.ret)) (.skip))) (oQ [] [oI 4
 .mv [oK (-1)]] (.ret))) (.skip))) (.seq (oQ [1,0,6] [oM 13 6] (oC 13 (oQ [] [oI 4 .mv [oK 1]] (.ret)) (.skip))) (.seq (oQ [1,0] [oM 14 0,oM 15 1,oX 16 .lss
 14 15] (oC 16 (oQ [] [oI 4 .mv [oK (-1)]] (.ret)) (.skip))) (.seq (oQ [1,0] [oM 17 0,oM 18 1,oX 19 .gtr 17 18] (oC 19 (oQ [] [oI 4 .mv [oK 1]] (.ret))
 (.skip))) (.seq (.reg [] false [oI 4 .mv [oK 0]]) (.ret))))))))
def zEj : AF:={ results:=[.tmp 4],body:=zIl }
def zH4 : AC:=oQ [1,0] [oI 4 .mv [oB false]] (oQ [1,0] [oM 5 0,oM 6 1,oD 7 (.call zAF true) 5 6,oM 4 7] (.ret))
def zCz : AF:={ results:=[.tmp 4],body:=zH4 }
def zEk : AC:=oQ [2,1,0] [oI 6 .stuck [],oM 3 6] (oQ [2,1,0,3] [oM 7 3,oI 8 (.eqn .iface true true) [.tmp 7,.const (.nili)]] (oC 8 (oQ
 [2,1,0,3] [oM 10 3,oT 11 (.tyAs zDJ) 10,oM 9 11,oT 12 (.extract 0) 9,oT 13 (.extract 1) 9,oA 4 [.int .i64 0,.nili],oS 2 4 12,oM 5 13]
 (.seq (oQ [2,1,0,4,3,5] [oM 14 5,oT 15 (.un .not) 14] (.cond (.tmp 15) (.regt [2,1,0,4,3] false [oM 16 3,oJ .panic [.tmp 16]] (.step 0 (.step 1
 (.done)))) (.skip))) (.regt [2,1,0,4] true [⟨some 17,none,.build oZ [],[]⟩,oF 18 0 4,oO 19 18,oF 20 1 4,oO 21 20,oS 12 0 17,oS 1 1 19,oS 1 2 21]
 (.step 0 (.step 1 (.step 3 (.alt (.step 2 (.alt (.step 4 (.step 5 (.step 6 (.step 7 (.done))))) (.step 5 (.alt (.step 4 (.step 6 (.step 7 (.done)))) (.step 6
 (.step 4 (.step 7 (.done)))))))) (.alt (.step 4 (.alt (.step 2 (.step 5 (.step 6 (.step 7 (.done))))) (.step 5 (.step 2 (.step 6 (.step 7 (.done))))))) (.step 5
 (.step 2 (.alt (.step 4 (.step 6 (.step 7 (.done)))) (.step 6 (.step 4 (.step 7 (.done))))))))))))))) (.skip)))
def zDN : AF:={ results:=[],body:=zEk }
def zGR : AC:=.regt [2,1] false [oM 6 1,oM 7 2,⟨some 8,none,.build [.int .i64 0,.nili] [(0,1),(1,1)],[.tmp 6,.tmp 7]⟩,oT 9
 (.mkIface zDJ) 8,oJ .panic [.tmp 9]] (.step 0 (.step 1 (.step 2 (.step 3 (.step 4 (.done))))))
def zCB : AF:={ results:=[],body:=zGR }
def zDk : AC:=oQ [0,1] [oA 4 oZ] (.scope [5,1,0,4] 0 (.seq (oQ [4,0,1] [oM 8 1,oE 9 .eql 8 4] (oC 9 (.seq (.regt [4,0] false [oM 10
 0,oT 11 (.callp zAE) 10,oS 12 4 11] (.step 0 (.step 1 (.step 2 (.done))))) (.ret)) (.skip))) (.seq (.regt [1,0,4] false [oM 12 0,oM 13 1,
 oE 14 .add 13 1,oD 15 (.callp zi) 12 14,oA 5 oZ,oS 12 5 15] (.step 0 (.step 1 (.step 2 (.step 3 (.step 4 (.step 5 (.done)))))))) (.seq
 (.label) (oQ [5,1,0,4] [oM 16 0,oT 17 (.call za false) 16] (.seq (oQ [5,1,0,4] [oM 18 1,oI 19 (.idxArr 1 4) [.glob zDK,
 .tmp 18],oO 20 19,zD9 21 20,oI 22 .mv [oK 0]] (.block 0 [4,5] (.loop [5,1,0,4,22,20,21] (.seq (.reg [5,1,0,4,20,21,22] false [oX 23 .lss 22 21])
 (.seq (oC 23 (.skip) (.exit 0)) (.seq (.block 1 [5,1,0,4,20,21,22] (.seq (.reg [5,1,0,4,20,21,22] false [oXI 24 1 20 22,oO 25 24,oM 7 25]) (.seq
 (.reg [5,1,0,4,7,20,21,22] true [oM 26 0,oN 27 26,oF 28 0 27,oO 29 28,oM 30 0,oN 31 30,oF 32 1 31,oO 33 32,oD 34 (.slc none true false) 29 33,oM
 35 7,oD 36 (.call zAO true) 34 35]) (oC 36 (oQ [5,1,0,4,7] [oM 37 0,oN 38 37,oF 39 1 38,oO 40 39,oM 41 7,oT 42 (.len true) 41,oX 43
 .add 40 42,oN 44 37,oF 45 1 44,oS 1 45 43] (.seq (.regt [5,1,0,4,7] true [oM 46 7,oT 47 (.call zB9 true) 46,oL 48 12 true 5,oM 49 0,oM 50
 1,oE 51 .add 50 1,oD 52 (.callp zi) 49 51,oD 53 (.bslice 12) 48 52,⟨some 54,none,.build oZ [(0,1),(1,1),(11,1)],[oK 8,.tmp 47,
 .tmp 53]⟩,oS 12 5 54] (.step 0 (.step 1 (.step 3 (.step 4 (.step 5 (.alt (.step 2 (.step 6 (.step 7 (.step 8 (.step 9 (.done)))))) (.step 6 (.step 2 (.step 7
 (.step 8 (.step 9 (.done))))))))))))) (.goto 0))) (.skip))))) (oR [5,1,0,4,20,21,22] [oE 55 .add 22 1,oM 22 55]))))))) (oQ [4,5] [oL 56 12 true 5,oS 12
 4 56] (.ret))))))) (.seq (.skip) (oQ [5,1,0,4] [oM 16 0,oT 17 (.call za false) 16] (.seq (oQ [5,1,0,4] [oM 18 1,oI 19 (.idxArr 1 4)
 [.glob zDK,.tmp 18],oO 20 19,zD9 21 20,oI 22 .mv [oK 0]] (.block 0 [4,5] (.loop [5,1,0,4,22,20,21] (oQ [5,1,0,4,20,21,22] [oX 23
 .lss 22 21] (.seq (oC 23 (.skip) (.exit 0)) (.seq (.block 1 [5,1,0,4,20,21,22] (oQ [5,1,0,4,20,21,22] [oXI 24 1 20 22,oO 25 24,oM 7 25] (.seq (.reg
 [5,1,0,4,7,20,21,22] true [oM 26 0,oN 27 26,oF 28 0 27,oO 29 28,oM 30 0,oN 31 30,oF 32 1 31,oO 33 32,oD 34 (.slc none true false) 29 33,oM 35 7,
 oD 36 (.call zAO true) 34 35]) (oC 36 (oQ [5,1,0,4,7] [oM 37 0,oN 38 37,oF 39 1 38,oO 40 39,oM 41 7,oT 42 (.len true) 41,oX 43 .add 40
 42,oN 44 37,oF 45 1 44,oS 1 45 43] (.seq (.regt [5,1,0,4,7] true [oM 46 7,oT 47 (.call zB9 true) 46,oL 48 12 true 5,oM 49 0,oM 50 1,oE 51
 .add 50 1,oD 52 (.callp zi) 49 51,oD 53 (.bslice 12) 48 52,⟨some 54,none,.build oZ [(0,1),(1,1),(11,1)],[oK 8,.tmp 47,.tmp 53]⟩,
 oS 12 5 54] (.step 0 (.step 1 (.step 3 (.step 4 (.step 5 (.alt (.step 2 (.step 6 (.step 7 (.step 8 (.step 9 (.done)))))) (.step 6 (.step 2 (.step 7 (.step 8
 (.step 9 (.done))))))))))))) (.goto 0))) (.skip))))) (oR [5,1,0,4,20,21,22] [oE 55 .add 22 1,oM 22 55]))))))) (.seq (.reg [4,5] false [oL 56 12 true 5,
 oS 12 4 56]) (.ret))))))
def zBb : AF:={ results:=[.cell 4 12 true],body:=zDk }
def zEU : AC:=.seq (.seq (.reg [0] true [oM 2 0,oN 3 2,oF 4 1 3,oO 5 4,oM 6 0,oN 7 6,oF 8 0 7,oO 9 8,oT 10 (.len true) 9,oX 11
 .lss 5 10,oM 12 11,oV 13 12 true 0,oW 14 12 true .nilchk 13,oW 15 12 true (.fieldAddr 0) 14,oW 16 12 true (.load 1 false) 15,oV 17 12 true 0,oW 18 12 true
 .nilchk 17,oW 19 12 true (.fieldAddr 1) 18,oW 20 12 true (.load 1 false) 19,oY 21 12 true .idxStr 16 20,oG 22 12 true (.bin .eql) [.tmp 21,.const (.int .u8
 32)],oI 23 .pick [.tmp 12,.tmp 22,oB false]]) (oC 23 (.skip) (.exit 0))) (.block 1 [0] (oR [0] [oM 24 0,oN 25 24,oF 26 1 25,oO 27 26,oE 28 .add 27 1,oN
 29 24,oF 30 1 29,oS 1 30 28]))
def zFN : AC:=.block 0 [] (.loop [0] zEU)
def zBq : AF:={ results:=[],body:=zFN }
def zAk : AC:=oQ [2,1,15,16,17] [oX 18 .lss 17 16] (.seq (.cond (.tmp 18) (.skip) (.exit 0))
 (.seq (.block 1 [2,1,15,16,17] (oQ [2,1,15,16,17] [oM 19 17,oXI 20 12 15 17,oL 21 12 true 20,oA 8 oZ,oM 7 19,oS 12 8 21] (oQ [2,1,15,16,17,8,
 7] [oM 22 1,oM 23 7,oXI 24 12 22 23,oL 25 12 true 24,oA 9 oZ,oS 12 9 25] (oQ [2,1,15,16,17,9,8] [oM 26 2,oL 27 12 true 8,oL 28 12 true 9,oI 29
 (.callv true) [.tmp 26,.tmp 27,.tmp 28],oT 30 (.un .not) 29] (oC 30 (oQ [] [oI 6 .mv [oB false]] (.ret)) (.skip)))))) (oR [2,1,15,16,17] [oE 31 .add 17 1,
 oM 17 31])))
def zAt : AC:=oQ [2,1,0] [oI 6 .mv [oB false]] (.seq (oQ [2,1,0] [oM 10 0,zD9 11 10,oM 12 1,
 zD9 13 12,oX 14 .neq 11 13] (oC 14 (oQ [] [oI 6 .mv [oB false]] (.ret)) (.skip))) (.seq (oQ [2,1,0] [oM 15 0,zD9 16 15,oI 17 .mv [oK 0]] (.block 0 []
 (.loop [17,2,1,15,16] zAk))) (oQ [] [oI 6 .mv [oB true]] (.ret))))
def zAC : AF:={ results:=[.tmp 6],body:=
 zAt }
def zGL : AC:=oQ [0] [oA 2 oZ] (.seq (.regt [2,0] true [oM 15 0,oN 16 15,oF 17 0 16,oO 18 17,oM 19 0,oN 20 19,oF 21 1 20,oO 22 21,oD 23
 (.call zT true) 18 22,⟨some 3,none,.alloc zV4,[]⟩,oS 4 3 23] (.step 0 (.step 1 (.step 2 (.step 3
 (.step 4 (.step 5 (.step 6 (.step 7 (.alt (.step 8 (.step 9 (.step 10 (.done)))) (.step 9 (.step 8 (.step 10 (.done)))))))))))))) (oQ [2,3,0] [oM 24 0,oF 25 2
 3,oO 26 25,oN 27 24,oF 28 1 27,oS 1 28 26] (.seq (oQ [2,3,0] [oF 29 0 3,oO 30 29] (.block 0 [2,3,0] (oQ [2,3,0,30] [oE 32 .eql 30 1,oM 31 32] (oC 31
 (oQ [2,3,0] [oF 33 3 3,oO 34 33,oT 35 (.call zf true) 34,oM 4 35] (.seq (.seq (.reg [2,3,0,4] true [oM 36 4,oM 37 36,oW 38 37 true
 (.fieldAddr 2) 3,oW 39 37 true (.load 1 false) 38,oV 40 37 true 0,oW 41 37 true .nilchk 40,oW 42 37 true (.fieldAddr 0) 41,oW 43 37 true (.load 1 false) 42,
 oW 44 37 true (.len true) 43,oXG 45 37 true .lss 39 44,oI 46 .pick [.tmp 37,.tmp 45,oB false],oM 47 46,oV 48 47 true 0,oW 49 47 true .nilchk 48,oW 50 47
 true (.fieldAddr 0) 49,oW 51 47 true (.load 1 false) 50,oW 52 47 true (.fieldAddr 2) 3,oW 53 47 true (.load 1 false) 52,oY 54 47 true .idxStr 51 53,oG 55 47
 true (.bin .eql) [.tmp 54,.const (.int .u8 40)],oI 56 .pick [.tmp 47,.tmp 55,oB false]]) (oC 56 (oQ [2,3,0] [oM 57 0,oF 58 1 3,oO 59 58,oD 60 (.call
 ze false) 57 59,oM 5 60] (.seq (oQ [2,3,0,5] [oM 61 5,oT 62 (.un .not) 61] (oC 62 (oQ [2] [⟨some 63,none,.build oZ [],[]⟩,oS 12 2 63]
 (.ret)) (.skip))) (oQ [2,3,0] [oM 64 0,oF 65 3 3,oO 66 65,oD 67 (.call zBo false) 64 66,oS 12 2 67] (.ret)))) (.skip))) (oQ [2,3,0] [oF 69
 3 3,oO 70 69,oI 71 (.call zS true) [.tmp 70,oB false],oM 68 71,oT 72 (.extract 0) 68,oT 73 (.extract 1) 68,oM 6 72,oM 7 73] (.seq (oQ [2,6,
 3,0,7] [oM 74 7] (oC 74 (oQ [2,6] [oM 75 6,⟨some 76,none,.build oZ [(0,1),(1,1)],[oK 1,.tmp 75]⟩,oS 12 2 76] (.ret)) (.skip))) (.seq (oQ [2,3,0]
 [oF 77 3 3,oO 78 77,oI 79 (.bin .eql) [.tmp 78,.const (.str [84,82,85,69])]] (oC 79 (oQ [2] [⟨some 80,none,.build oZ [(0,1),(1,1)],[oK 3,oK 1]⟩,oS
 12 2 80] (.ret)) (.skip))) (.seq (oQ [2,3,0] [oF 81 3 3,oO 82 81,oI 83 (.bin .eql) [.tmp 82,.const (.str [70,65,76,83,69])]] (oC 83 (oQ [2] [⟨some 84,
 none,.build oZ [(0,1)],[oK 3]⟩,oS 12 2 84] (.ret)) (.skip))) (oQ [2,3,0] [oF 86 3 3,oO 87 86,oT 88 (.call zj true) 87,oM 85 88,oT 89
 (.extract 0) 85,oT 90 (.extract 1) 85,oA 8 zV1,oS 4 8 89,oM 7 90] (oQ [2,8,3,0,7] [oM 91 7] (oC 91 (oQ
 [2,8] [oL 92 4 true 8,⟨some 93,none,.build oZ [(0,1),(3,4)],[oK 5,.tmp 92]⟩,oS 12 2 93] (.ret)) (.skip)))))))))) (oQ [2,3,0,30] [oE 95 .eql 30 2,oM
 94 95] (oC 94 (oQ [2,3] [oF 96 3 3,oO 97 96,⟨some 98,none,.build oZ [(0,1),(2,1)],[oK 2,.tmp 97]⟩,oS 12 2 98] (.ret)) (oQ [2,3,0,30] [oE 100 .eql
 30 3,oM 99 100] (oC 99 (oQ [2,3] [oF 102 3 3,oO 103 102,oT 104 (.call zBp true) 103,oM 101 104,oT 105 (.extract 0) 101,oT 106 (.extract 1)
 101,oA 9 zV5,oS 3 9 105,oM 10 106] (oQ [2,9] [oF 107 1 9,oO 108 107,⟨some 109,none,.build oZ [(0,1),(1,1)],[oK 4,
 .tmp 108]⟩,oS 12 2 109] (.ret))) (.seq (.reg [2,0,3,30] false [oE 111 .eql 30 4,oM 110 111]) (oC 110 (.seq (oQ [2,0,3] [oF 112 3 3,oO 113 112,oI 114
 (.bin .eql) [.tmp 113,.const (.str [45])]] (oC 114 (oQ [2,0,3] [oM 115 0,oF 116 1 3,oO 117 116,oD 118 (.call ze false) 115 117,oM 11 118]
 (.seq (oQ [2,0,11] [oM 119 11,oT 120 (.un .not) 119] (oC 120 (.seq (.reg [2] false [⟨some 121,none,.build oZ [],[]⟩,oS 12 2 121]) (.ret)) (.skip))) (oQ
 [2,0] [oM 122 0,oT 123 (.call zAB false) 122,oA 12 oZ,oS 12 12 123] (oQ [2,12,0] [oM 124 0,oN 125 124,oF 126 4 125,oO 127 126,oE 128 .sub
 127 1,oN 129 124,oF 130 4 129,oS 1 130 128] (oQ [2,12] [oL 131 12 true 12,oT 132 (.bslice 12) 131,⟨some 133,none,.build oZ [(0,1),(11,1)],[oK 7,.tmp
 132]⟩,oS 12 2 133] (.ret)))))) (.skip))) (oQ [2,0,3] [oF 134 3 3,oO 135 134,oI 136 (.bin .eql) [.tmp 135,.const (.str [40])]] (oC 136 (oQ [2,0,3] [oM 137
 0,oF 138 1 3,oO 139 138,oD 140 (.call ze false) 137 139,oM 13 140] (.seq (oQ [2,0,13] [oM 141 13,oT 142 (.un .not) 141] (oC 142 (oQ [2]
 [⟨some 143,none,.build oZ [],[]⟩,oS 12 2 143] (.ret)) (.skip))) (oQ [2,0] [oM 144 0,oI 145 (.call zU false) [.tmp 144,oK 1],⟨some 14,
 none,.alloc oZ,[]⟩,oS 12 14 145] (oQ [2,14,0] [oM 146 0,oT 147 (.call zc false) 146] (oQ [2,14] [oL 148 12 true 14,oS 12 2 148]
 (.ret)))))) (.skip)))) (.skip))))))))))) (oQ [2,3,0] [oM 149 0,oF 150 1 3,oO 151 150,oI 152 (.call zd false) [.tmp 149,.tmp 151,oK 2]] (oQ
 [2] [⟨some 153,none,.build oZ [],[]⟩,oS 12 2 153] (.ret))))))
def zO : AF:={ results:=[.cell 2 12 true],body:=zGL }
def zKG : AC:=.seq (oQ [4,0,3] [oM 6 4,oM 7 3,zD9 8 7,oX 9 .lss 6 8] (oC 9 (.skip) (.exit 0))) (.seq (.block 1 [0,3,4] (oQ [4,0,3] [oM
 12 3,oM 13 4,oXI 14 1 12 13,oO 15 14,oM 16 0,oX 17 .eql 15 16] (oC 17 (oQ [4] [oM 18 4,oM 2 18] (.ret)) (.skip)))) (oR [0,3,4] [oM 10 4,oE 11 .add 10 1,
 oM 4 11]))
def b_sccref1_Sign : AC:=oQ [0] [oI 2 .mv [oK 0]] (oQ [0] [oI 5 (.bslice 1) [.const (.str []),.const (.str [61]),.const (.str [60,62]),.const (.str [60]),
 .const (.str [60,61]),.const (.str [62]),.const (.str [62,61]),.const (.str [38]),.const (.str [43]),.const (.str [45]),.const (.str [42]),.const (.str
 [47])],oM 3 5] (.seq (oQ [0,3] [oI 4 .mv [oK 1]] (.block 0 [] (.loop [4,0,3] zKG))) (oQ [] [oI 2 .mv [oK 0]] (.ret))))
def zE3 : AF:={ results:=[.tmp 2],body:=b_sccref1_Sign }
def zLS : AC:=oQ [0] [oI 2 .mv [oK 0]] (.seq (oQ [0] [oM 3 0,oE 4 .leq 3 6] (oC 4 (oQ [] [oI 2 .mv [oK 1]] (.ret)) (.skip))) (.seq (oQ [0] [oM 5
 0,oE 6 .eql 5 7] (oC 6 (oQ [] [oI 2 .mv [oK 2]] (.ret)) (.skip))) (.seq (oQ [0] [oM 7 0,oE 8 .leq 7 9] (oC 8 (.seq (.reg [] false [oI 2 .mv [oK 3]]) (.ret))
 (.skip))) (oQ [] [oI 2 .mv [oK 4]] (.ret)))))
def zEH : AF:={ results:=[.tmp 2],body:=zLS }
def zKH : AC:=oQ [0] [oI 2 .mv [oB false]] (oQ [0] [oM 3 0,oI 4 (.bin .eql) [.tmp 3,.const (.int .u8 36)],oM 5 4,oV 6 5 false 0,oG 7 5 false
 (.bin .geq) [.tmp 6,.const (.int .u8 48)],oV 8 5 false 7,oV 9 8 true 0,oG 10 8 true (.bin .leq) [.tmp 9,.const (.int .u8 57)],oG 11 5 false .pick [.tmp 8,
 .tmp 10,oB false],oP 12 5 true 11,oM 13 12,oV 14 13 false 0,oG 15 13 false (.bin .geq) [.tmp 14,.const (.int .u8 65)],oV 16 13 false 15,oV 17 16 true 0,
 oG 18 16 true (.bin .leq) [.tmp 17,.const (.int .u8 90)],oG 19 13 false .pick [.tmp 16,.tmp 18,oB false],oP 20 13 true 19,oM 21 20,oV 22 21 false 0,oG 23
 21 false (.bin .geq) [.tmp 22,.const (.int .u8 97)],oV 24 21 false 23,oV 25 24 true 0,oG 26 24 true (.bin .leq) [.tmp 25,.const (.int .u8 122)],oG 27 21
 false .pick [.tmp 24,.tmp 26,oB false],oP 28 21 true 27,oM 2 28] (.ret))
def zCu : AF:={ results:=[.tmp 2],body:=zKH }
def zKI : AC:=oQ [] [oI 0 .mv [.const (.lst (some true) 0 [])]] (oQ [] [oI 1 (.bslice 1) [.const (.str []),.const (.str [35,68,73,86,33]),
 .const (.str [35,86,65,76,85,69,33]),.const (.str [35,82,69,70,33]),.const (.str [35,78,65,77,69,33]),.const (.str [35,78,85,77,33]),
 .const (.str [35,78,79,78,69,33])],oM 0 1] (.ret))
def zDt : AF:={ results:=[.tmp 0],body:=zKI }
def zKJ : AC:=oQ [0] [oI 2 .mv [oB false]] (oQ [0] [oM 3 0,oM 4 0,oX 5 .neq 3 4,oM 2 5] (.ret))
def zGM : AF:={ results:=[.tmp 2],body:=zKJ }
def zFx : AC:=oQ [1,0] [oI 4 .mv [oB false]] (oQ [1,0] [oM 5 0,oT 6 (.len true) 5,oM 7 1,oT 8 (.len true) 7,oX 9 .geq 6 8,oM 10 9,
 oV 11 10 true 0,oV 12 10 true 1,oW 13 10 true (.len true) 12,oY 14 10 true (.slc none false true) 11 13,oV 15 10 true 1,oXG 16 10 true .eql 14 15,oI 17
 .pick [.tmp 10,.tmp 16,oB false],oM 4 17] (.ret))
def zB1 : AF:={ results:=[.tmp 4],body:=zFx }
def zG2 : AC:=oQ [0] [oT 1 .box 0,oA 2 oZ] (oQ [2,1] [oO 4 1,oT 5 (.call za false) 4] (.seq (.seq (.reg [2,1] true
 [oO 6 1,oN 7 6,oF 8 1 7,oO 9 8,oO 10 1,oN 11 10,oF 12 0 11,oO 13 12,oT 14 (.len true) 13,oX 15 .lss 9 14,oM 16 15,oW 17 16 true (.load 1 false) 1,oW
 18 16 true .nilchk 17,oW 19 16 true (.fieldAddr 0) 18,oW 20 16 true (.load 1 false) 19,oW 21 16 true (.load 1 false) 1,oW 22 16 true .nilchk 21,oW 23 16
 true (.fieldAddr 1) 22,oW 24 16 true (.load 1 false) 23,oY 25 16 true .idxStr 20 24,oG 26 16 true (.bin .eql) [.tmp 25,.const (.int .u8 45)],oI 27 .pick
 [.tmp 16,.tmp 26,oB false]]) (oC 27 (oQ [2,1] [oO 28 1,oN 29 28,oF 30 1 29,oO 31 30,oM 3 31] (.seq (.regt [2,1,3] false [oO 32 1,oM 33 3,oT 34 (.mkFn
 zAX 0) 1,oI 35 (.callp zk) [.tmp 32,.tmp 33,.tmp 34],oS 12 2 35] (.step 0 (.step 1 (.step 2 (.step 3 (.step 4
 (.done))))))) (.ret))) (.skip))) (.seq (.regt [2,1] false [oO 36 1,oT 37 (.callp zAn) 36,oS 12 2 37] (.step 0 (.step 1 (.step 2 (.done)))))
 (.ret))))
def zCQ : AF:={ results:=[.cell 2 12 true],body:=zG2 }
def b_formula_opOf : AC:=oQ [0] [oI 2 .mv [oK 0]] (.seq (oQ [0] [oM 3 0] (.block 0 [] (oQ [3] [oI 5 (.bin .eql) [.tmp 3,.const (.str [61])],oM 4 5] (oC 4 (oQ
 [] [oI 2 .mv [oK 1]] (.ret)) (oQ [3] [oI 7 (.bin .eql) [.tmp 3,.const (.str [60,62])],oM 6 7] (oC 6 (oQ [] [oI 2 .mv [oK 2]] (.ret)) (oQ [3] [oI 9 (.bin .eql)
 [.tmp 3,.const (.str [60])],oM 8 9] (oC 8 (oQ [] [oI 2 .mv [oK 3]] (.ret)) (oQ [3] [oI 11 (.bin .eql) [.tmp 3,.const (.str [60,61])],oM 10 11] (oC 10 (oQ []
 [oI 2 .mv [oK 4]] (.ret)) (oQ [3] [oI 13 (.bin .eql) [.tmp 3,.const (.str [62])],oM 12 13] (oC 12 (oQ [] [oI 2 .mv [oK 5]] (.ret)) (oQ [3] [oI 15 (.bin .eql)
 [.tmp 3,.const (.str [62,61])],oM 14 15] (oC 14 (oQ [] [oI 2 .mv [oK 6]] (.ret)) (oQ [3] [oI 17 (.bin .eql) [.tmp 3,.const (.str [38])],oM 16 17] (oC 16 (oQ
 [] [oI 2 .mv [oK 7]] (.ret)) (oQ [3] [oI 19 (.bin .eql) [.tmp 3,.const (.str [43])],oM 18 19] (oC 18 (oQ [] [oI 2 .mv [oK 8]] (.ret)) (oQ [3] [oI 21 (.bin
 .eql) [.tmp 3,.const (.str [45])],oM 20 21] (oC 20 (oQ [] [oI 2 .mv [oK 9]] (.ret)) (oQ [3] [oI 23 (.bin .eql) [.tmp 3,.const (.str [42])],oM 22 23] (oC 22
 (oQ [] [oI 2 .mv [oK 10]] (.ret)) (.skip))))))))))))))))))))))) (oQ [] [oI 2 .mv [oK 11]] (.ret)))
def zE4 : AF:={ results:=[.tmp 2],body:=b_formula_opOf }
def zKK : AC:=oQ [0] [oI 2 .mv [oB false]] (oQ [0] [oM 3 0,oT 4 (.len true) 3,oE 5 .geq 4 2,oM 6 5,oV 7 6 true 0,oW 8 6 true (.len true) 7,
 oEG 9 6 true .leq 8 10,oI 10 .pick [.tmp 6,.tmp 9,oB false],oM 11 10,oV 12 11 true 0,oG 13 11 true (.call zBf true) [.tmp 12,.const (.str [65,
 66,67,68,69,70,71,72,73,74,75,76,77,78,79,80,81,82,83,84,85,86,87,88,89,90])],oG 14 11 true (.bin .eql) [.tmp 13,.const (.str [])],oI
 15 .pick [.tmp 11,.tmp 14,oB false],oM 2 15] (.ret))
def zDu : AF:={ results:=[.tmp 2],body:=zKK }
def b_value_Is : AC:=oQ [0] [oA 2 zV5] (oQ [2,0] [⟨some 4,none,.build zV5 [(0,1)],[oK 3]⟩,
 oA 3 zV5,oS 3 3 4] (.seq (.seq (.reg [2,3,0] false [oM 5 0]) (oC 5 (oR [2,3] [oF 6 1 3,oJ (.store 1) [.tmp 6,oK 1]])
 (.skip))) (oQ [2,3] [oL 7 3 true 3,oS 3 2 7] (.ret))))
def zJX : AF:={ results:=[.cell 2 3 true],body:=b_value_Is }
def b_value_Wrong : AC:=oQ [0] [oA 2 zV5] (oQ [2,0] [oM 3 0,⟨some 4,none,.build zV5 [(0,
 1),(1,1)],[oK 4,.tmp 3]⟩,oS 3 2 4] (.ret))
def zFy : AF:={ results:=[.cell 2 3 true],body:=b_value_Wrong }
def zIm : AC:=.seq (oQ [0,3] [oM 12 3,oM 13 0,oT 14 (.len true) 13,oX 15 .lss 12 14] (oC 15 (.skip) (.exit 0))) (.seq (.block 1 [0,3] (oQ
 [0,3] [oM 18 0,oM 19 3,oD 20 .idxStr 18 19,oI 21 (.bin .lss) [.tmp 20,.const (.int .u8 65)],oM 22 21,oV 23 22 false 0,oV 24 22 false 3,oY 25 22 false
 .idxStr 23 24,oG 26 22 false (.bin .gtr) [.tmp 25,.const (.int .u8 90)],oP 27 22 true 26] (oC 27 (oQ [] [oI 2 .mv [oB false]] (.ret)) (.skip)))) (oR [0,3]
 [oM 16 3,oE 17 .add 16 1,oM 3 17]))
def zKL : AC:=oQ [0] [oI 2 .mv [oB false]] (.seq (oQ [0] [oM 4 0,oT 5 (.len true) 4,oE 6 .lss 5 2,oM 7 6,oV 8 7 false 0,oW 9 7 false (.len
 true) 8,oEG 10 7 false .gtr 9 10,oP 11 7 true 10] (oC 11 (oQ [] [oI 2 .mv [oB false]] (.ret)) (.skip))) (.seq (oQ [0] [oI 3 .mv [oK 0]] (.block 0 [] (.loop [3,
 0] zIm))) (oQ [] [oI 2 .mv [oB true]] (.ret))))
def zDv : AF:={ results:=[.tmp 2],body:=zKL }
def zH5 : AC:=oQ [1,0] [oI 4 .mv [oB false]] (.seq (oQ [1,0] [oM 5 0,oN 6 5,oF 7 4 6,oO 8 7,oE 9 .eql 8 30] (oC 9 (oQ [1,0] [oM 10 0,oM
 11 1,oI 12 (.call zd false) [.tmp 10,.tmp 11,oK 4]] (oQ [] [oI 4 .mv [oB false]] (.ret))) (.skip))) (oQ [0] [oM 13 0,oN 14 13,oF 15 4 14,oO
 16 15,oE 17 .add 16 1,oN 18 13,oF 19 4 18,oS 1 19 17] (oQ [] [oI 4 .mv [oB true]] (.ret))))
def zC0 : AF:={ results:=[.tmp 4],body:=zH5 }
def zBH : AC:=.seq (oQ [6,0,4,5] [oM 42 0,oN 43 42,oF 44 3 43,oO 45 44,oE 46 .eql 45 0] (oC 46 (.skip) (.exit 0))) (.block 1 [6,0,4,
 5] (.seq (.reg [6,0,4,5] true [oM 47 0,oN 48 47,oF 49 0 48,oO 50 49,oM 51 0,oN 52 51,oF 53 1 52,oO 54 53,oD 55 (.call zT true) 50 54,oS
 4 6 55]) (oQ [6,0,4,5] [oF 57 3 6,oO 58 57,oT 59 (.call zj true) 58,oM 56 59,oT 60 (.extract 0) 56,oT 61 (.extract 1) 56,oA 7 [.int .i64 0,
 .int .i64 0,.bool false,.bool false],oS 4 7 60,oM 8 61] (oQ [6,0,4,5,7,8] [oA 9 oZ] (.seq (.seq (.reg [6,0,4,5,9,7,8] true [oF 62 0 6,oO 63 62,
 oE 64 .eql 63 1,oM 65 64,oV 66 65 true 8,oI 67 .pick [.tmp 65,.tmp 66,oB false],oM 68 67,oW 69 68 true (.fieldAddr 2) 6,oW 70 68 true (.load 1 false) 69,
 oV 71 68 true 0,oW 72 68 true .nilchk 71,oW 73 68 true (.fieldAddr 0) 72,oW 74 68 true (.load 1 false) 73,oW 75 68 true (.len true) 74,oXG 76 68 true .lss
 70 75,oI 77 .pick [.tmp 68,.tmp 76,oB false],oM 78 77,oV 79 78 true 0,oW 80 78 true .nilchk 79,oW 81 78 true (.fieldAddr 0) 80,oW 82 78 true (.load 1
 false) 81,oW 83 78 true (.fieldAddr 2) 6,oW 84 78 true (.load 1 false) 83,oY 85 78 true .idxStr 82 84,oG 86 78 true (.bin .eql) [.tmp 85,.const (.int .u8
 58)],oI 87 .pick [.tmp 78,.tmp 86,oB false]]) (oC 87 (.seq (.regt [6,0,4,5,9,7] true [oM 88 0,oN 89 88,oF 90 0 89,oO 91 90,oF 92 2 6,oO 93 92,oE 94
 .add 93 1,oD 95 (.call zT true) 91 94,oA 10 zV4,oS 4 10 95] (.step 0 (.step 1 (.step 2 (.step 3
 (.step 4 (.step 5 (.step 6 (.alt (.step 7 (.step 8 (.step 9 (.done)))) (.step 8 (.step 7 (.step 9 (.done))))))))))))) (oQ [6,0,4,5,9,7,10] [oF 97 3 10,oO
 98 97,oT 99 (.call zj true) 98,oM 96 99,oT 100 (.extract 0) 96,oT 101 (.extract 1) 96,oA 11 zV1,
 oS 4 11 100,oM 12 101] (.seq (oQ [6,0,4,5,9,11,7,10,12] [oF 102 1 10,oO 103 102,oF 104 2 6,oO 105 104,oE 106 .add 105 1,oX 107 .neq 103 106,oM 108
 107,oW 109 108 false (.fieldAddr 0) 10,oW 110 108 false (.load 1 false) 109,oEG 111 108 false .neq 110 1,oP 112 108 true 111,oM 113 112,oV 114 113 false
 12,oW 115 113 false (.un .not) 114,oP 116 113 true 115] (oC 116 (oR [6,0,4,5,9,11,7,10] [oM 117 0,oF 118 2 6,oO 119 118,oE 120 .add 119 1,oI 121
 (.call zd false) [.tmp 117,.tmp 120,oK 2]]) (.skip))) (oQ [6,0,4,5,9,11,7,10] [oM 122 0,oF 123 2 10,oO 124 123,oN 125 122,oF 126 1
 125,oS 1 126 124] (oR [6,0,4,5,9,11,7] [oL 127 4 true 7,oL 128 4 true 11,⟨some 129,none,.build oZ [(0,1),(3,4),(7,4)],[oK 6,.tmp 127,.tmp
 128]⟩,oS 12 9 129]))))) (oR [6,0,4,5,9] [oM 130 0,oI 131 (.call zU false) [.tmp 130,oK 1],oS 12 9 131]))) (oQ [6,0,4,5,9] [oF 132 11
 5,oO 133 132,oL 134 12 true 9,oT 135 (.bslice 12) 134,oD 136 (.append 12 104) 133 135,oF 137 11 5,oS 1 137 136] (.seq (.reg [6,0,4,5] true [oM 138 0,oN
 139 138,oF 140 0 139,oO 141 140,oM 142 0,oN 143 142,oF 144 1 143,oO 145 144,oD 146 (.call zT true) 141 145,oS 4 6 146]) (.seq (oQ [6,0,4,
 5] [oM 147 0,oN 148 147,oF 149 3 148,oO 150 149,oE 151 .eql 150 0,oM 152 151,oW 153 152 true (.fieldAddr 0) 6,oW 154 152 true (.load 1 false) 153,oEG 155
 152 true .eql 154 4,oI 156 .pick [.tmp 152,.tmp 155,oB false],oM 157 156,oW 158 157 true (.fieldAddr 3) 6,oW 159 157 true (.load 1 false) 158,oG 160 157
 true (.bin .eql) [.tmp 159,.const (.str [44])],oI 161 .pick [.tmp 157,.tmp 160,oB false]] (oC 161 (oQ [6,0,4,5] [oM 162 0,oF 163 2 6,oO 164 163,oN 165
 162,oF 166 1 165,oS 1 166 164] (.exit 1)) (.skip))) (.seq (.reg [4,5,0] false [oM 167 0,oT 168 (.call zc false) 167]) (oQ [4,5] [oL 169 12
 true 5,oS 12 4 169] (.ret)))))))))))
def zA8 : AC:=oQ [0,1] [oA 4 oZ] (oQ [4,0,1] [oM 13 1,⟨some 14,none,.build oZ [(0,1),(2,1)],[oK 9,.tmp 13]⟩,oA 5 oZ,oS 12 5 14] (oQ
 [4,5,0] [oM 15 0,oN 16 15,oF 17 1 16,oO 18 17,oE 19 .add 18 1,oN 20 15,oF 21 1 20,oS 1 21 19] (.seq (.regt [4,5,0] true [oM 22 0,oN 23 22,oF 24 0
 23,oO 25 24,oM 26 0,oN 27 26,oF 28 1 27,oO 29 28,oD 30 (.call zT true) 25 29,oA 6 zV4,oS 4 6
 30] (.step 0 (.step 1 (.step 2 (.step 3 (.step 4 (.step 5 (.step 6 (.step 7 (.alt (.step 8 (.step 9 (.step 10 (.done)))) (.step 9 (.step 8 (.step 10
 (.done)))))))))))))) (.seq (oQ [4,5,0,6] [oF 31 0 6,oO 32 31,oE 33 .eql 32 4,oM 34 33,oW 35 34 true (.fieldAddr 3) 6,oW 36 34 true (.load 1 false) 35,oG
 37 34 true (.bin .eql) [.tmp 36,.const (.str [41])],oI 38 .pick [.tmp 34,.tmp 37,oB false]] (.cond (.tmp 38) (oQ [4,5,0] [oM 39 0,oT 40 (.call
 zc false) 39] (oQ [4,5] [oL 41 12 true 5,oS 12 4 41] (.ret))) (.skip))) (.seq (.block 0 [4,5] (.loop [6,0,4,5] zBH)) (oQ
 [4,5] [oL 170 12 true 5,oS 12 4 170] (.ret)))))))
def zA9 : AF:={ results:=[.cell 4 12 true],body:=zA8 }
def zFO : AC:=.seq (oQ [6,7,0,8] [oM 35 8,oM 36 6,oT 37 (.len true) 36,oX 38 .lss 35 37] (oC 38 (.skip) (.exit 0))) (.seq (.block 1 [6,7,
 0,8] (.seq (oQ [6,7,0,8] [oM 41 6,oM 42 8,oD 43 .idxStr 41 42,oI 44 (.bin .lss) [.tmp 43,.const (.int .u8 48)],oM 45 44,oV 46 45 false 6,oV 47 45
 false 8,oY 48 45 false .idxStr 46 47,oG 49 45 false (.bin .gtr) [.tmp 48,.const (.int .u8 57)],oP 50 45 true 49] (oC 50 (oQ [] [oI 4 .mv [oK 0],oI 5 .mv [oB
 false]] (.ret)) (.skip))) (oQ [6,7,0,8] [oM 51 7,oM 52 7,oI 53 (.call zAY false) [oK 10],oI 54 (.call zAe false)
 [.tmp 51,.tmp 52,.tmp 53]] (oR [6,7,0,8] [oM 55 7,oM 56 7,oM 57 6,oM 58 8,oD 59 .idxStr 57 58,oT 60 (.convInt .i64) 59,oE 61 .sub 60 48,oT 62 (.call
 zAY false) 61,oI 63 (.call zAf false) [.tmp 55,.tmp 56,.tmp 62]])))) (oR [6,7,0,8] [oM 39 8,oE 40 .add 39 1,oM 8
 40]))
def zG3 : AC:=oQ [0,1] [oI 4 .mv [oK 0],oI 5 .mv [oB false]] (oQ [0,1] [oM 10 0,oM 6 10] (.seq (.seq (.reg [0,6,1] false [oM 11 1,oM 12 11,
 oV 13 12 true 6,oG 14 12 true (.bin .neq) [.tmp 13,.const (.str [])],oI 15 .pick [.tmp 12,.tmp 14,oB false],oM 16 15,oV 17 16 true 6,oG 18 16 true
 .idxStr [.tmp 17,oK 0],oG 19 16 true (.bin .eql) [.tmp 18,.const (.int .u8 45)],oI 20 .pick [.tmp 16,.tmp 19,oB false]]) (oC 20 (oR [0,6] [oM 21 6,oI 22
 (.slc none true false) [.tmp 21,oK 1],oM 6 22]) (.skip))) (.seq (oQ [6,0] [oM 23 6,oI 24 (.bin .eql) [.tmp 23,.const (.str [])],oM 25 24,oV 26 25 false 6,
 oG 27 25 false .idxStr [.tmp 26,oK 0],oG 28 25 false (.bin .eql) [.tmp 27,.const (.int .u8 48)],oV 29 25 false 28,oV 30 29 true 0,oG 31 29 true (.bin .neq)
 [.tmp 30,.const (.str [48])],oG 32 25 false .pick [.tmp 29,.tmp 31,oB false],oP 33 25 true 32] (oC 33 (oQ [] [oI 4 .mv [oK 0],oI 5 .mv [oB false]] (.ret))
 (.skip))) (oQ [6,0] [oA 34 zV8,oM 7 34] (.seq (oQ [6,7,0] [oI 8 .mv [oK 0]] (.block 0 [7,0,6] (.loop [8,6,7,0]
 zFO))) (.seq (oQ [7,0,6] [oM 64 6,oT 65 (.len true) 64,oM 66 0,oT 67 (.len true) 66,oX 68 .neq 65 67] (oC 68 (oR [7] [oM 69 7,oM 70 7,oD 71
 (.call zFt false) 69 70]) (.skip))) (oQ [7] [oM 72 7,oT 73 (.call zCn true) 72,oM 9 73] (.seq (oQ [7,9] [oM 74 9,oT 75 (.un
 .not) 74] (oC 75 (oQ [] [oI 4 .mv [oK 0],oI 5 .mv [oB false]] (.ret)) (.skip))) (oQ [7] [oM 76 7,oT 77 (.call zAS true) 76,oM 4 77,oI 5
 .mv [oB true]] (.ret))))))))))
def zCR : AF:={ results:=[.tmp 4,.tmp 5],body:=zG3 }
def b_sccref1_Ref : AC:=oQ [0] [oA 2 zV1,oI 3 .mv [oB false]] (oQ [2,0] [oA 4 [.int .i64 0,.int .i64 0,
 .bool false,.bool false]] (oQ [2,4,0] [oI 5 .mv [oK 0]] (.seq (oQ [2,4,0,5] [oM 8 5,oM 9 0,oT 10 (.len true) 9,oX 11 .lss 8 10,oM 12 11,oV 13 12 true
 0,oV 14 12 true 5,oY 15 12 true .idxStr 13 14,oG 16 12 true (.bin .eql) [.tmp 15,.const (.int .u8 36)],oI 17 .pick [.tmp 12,.tmp 16,oB false]] (oC 17 (oQ
 [2,4,0,5] [oF 18 2 4,oJ (.store 1) [.tmp 18,oB true]] (oR [2,4,0,5] [oM 19 5,oE 20 .add 19 1,oM 5 20])) (.skip))) (.seq (oQ [2,4,0,5] [oM 21 5,oM
 22 0,oT 23 (.len true) 22,oX 24 .geq 21 23,oM 25 24,oV 26 25 false 0,oV 27 25 false 5,oY 28 25 false .idxStr 26 27,oG 29 25 false (.bin .lss) [.tmp 28,
 .const (.int .u8 65)],oP 30 25 true 29,oM 31 30,oV 32 31 false 0,oV 33 31 false 5,oY 34 31 false .idxStr 32 33,oG 35 31 false (.bin .gtr) [.tmp 34,.const
 (.int .u8 90)],oP 36 31 true 35] (oC 36 (oQ [2] [⟨some 37,none,.build zV1 [],[]⟩,oS 4 2 37,oI 3 .mv [oB
 false]] (.ret)) (.skip))) (oQ [2,4,0,5] [oM 38 0,oM 39 5,oD 40 .idxStr 38 39,oT 41 (.convInt .i64) 40,oE 42 .sub 41 64,oF 43 0 4,oF 44 0 43,oS 1 44 42]
 (oQ [2,4,0,5] [oM 45 5,oE 46 .add 45 1,oM 5 46] (.seq (oQ [2,4,0,5] [oM 47 5,oM 48 0,oT 49 (.len true) 48,oX 50 .lss 47 49,oM 51 50,oV 52 51 true 0,
 oV 53 51 true 5,oY 54 51 true .idxStr 52 53,oG 55 51 true (.bin .eql) [.tmp 54,.const (.int .u8 36)],oI 56 .pick [.tmp 51,.tmp 55,oB false]] (oC 56 (oQ [2,
 4,0,5] [oF 57 3 4,oJ (.store 1) [.tmp 57,oB true]] (oR [2,4,0,5] [oM 58 5,oE 59 .add 58 1,oM 5 59])) (.skip))) (oQ [2,4,5,0] [oM 61 0,oM 62 5,oD 63
 (.slc none true false) 61 62,oI 64 (.call zS true) [.tmp 63,oB false],oM 60 64,oT 65 (.extract 0) 60,oT 66 (.extract 1) 60,oM 6 65,oM 7 66]
 (.seq (oQ [2,4,6,7] [oM 67 7,oT 68 (.un .not) 67,oM 69 68,oV 70 69 false 6,oEG 71 69 false .lss 70 1,oP 72 69 true 71,oM 73 72,oV 74 73 false 6,oEG 75
 73 false .gtr 74 99,oP 76 73 true 75] (oC 76 (oQ [2] [⟨some 77,none,.build zV1 [],[]⟩,oS 4 2 77,oI 3 .mv
 [oB false]] (.ret)) (.skip))) (oQ [2,4,6] [oM 78 6,oF 79 0 4,oF 80 1 79,oS 1 80 78] (oQ [2,4] [oL 81 4 true 4,oS 4 2 81,oI 3 .mv [oB true]]
 (.ret))))))))))))
def zFz : AF:={ results:=[.cell 2 4 true,.tmp 3],body:=b_sccref1_Ref }
def zJY : AC:=.seq (oQ [2,5,0,4] [oM 16 5,oM 17 4,zD9 18 17,oX 19 .lss 16 18] (oC 19 (.skip) (.exit 0))) (.seq (.block 1 [2,0,4,5] (oQ
 [2,5,0,4] [oM 22 4,oM 23 5,oXI 24 1 22 23,oO 25 24,oM 26 0,oX 27 .eql 25 26] (oC 27 (oQ [2,5] [oM 28 5,oT 29 (.call zDH true) 28,oS 3 2 29,
 oI 3 .mv [oB true]] (.ret)) (.skip)))) (oR [2,0,4,5] [oM 20 5,oE 21 .add 20 1,oM 5 21]))
def zLT : AC:=oQ [0] [oA 2 zV5,oI 3 .mv [oB false]] (.seq (oQ [2,0] [oM 6 0,oI 7 (.bin .eql) [.tmp 6,.const
 (.str [84,82,85,69])],oM 8 7,oV 9 8 false 0,oG 10 8 false (.bin .eql) [.tmp 9,.const (.str [70,65,76,83,69])],oP 11 8 true 10] (oC 11 (oQ [2,0] [oM
 12 0,oI 13 (.bin .eql) [.tmp 12,.const (.str [84,82,85,69])],oT 14 (.call f_sccref1_Tru true) 13,oS 3 2 14,oI 3 .mv [oB true]] (.ret)) (.skip))) (oQ [2,
 0] [oI 15 (.call zA2 true) [],oM 4 15] (.seq (oQ [2,0,4] [oI 5 .mv [oK 1]] (.block 0 [2] (.loop [2,5,0,4] zJY))) (oQ [2] [⟨some
 30,none,.build zV5 [],[]⟩,oS 3 2 30,oI 3 .mv [oB false]] (.ret)))))
def zEI : AF:={ results:=[.cell 2 3 true,.tmp 3],body:=zLT }
def zIn : AC:=.seq (.regt [0] true [oM 3 0,oN 4 3,oF 5 0 4,oO 6 5,oM 7 0,oN 8 7,oF 9 1 8,oO 10 9,oD 11 (.call zT true) 6
 10,oA 2 zV4,oS 4 2 11] (.step 0 (.step 1 (.step 2 (.step 3 (.step 4 (.step 5 (.step 6 (.step 7 (.alt (.step 8
 (.step 9 (.step 10 (.done)))) (.step 9 (.step 8 (.step 10 (.done)))))))))))))) (.seq (oQ [0,2] [oM 12 0,oN 13 12,oF 14 3 13,oO 15 14,oE 16 .eql 15 0,oM 17
 16,oW 18 17 true (.fieldAddr 0) 2,oW 19 17 true (.load 1 false) 18,oEG 20 17 true .neq 19 4,oV 21 17 true 20,oW 22 21 false (.fieldAddr 3) 2,oW 23 21 false
 (.load 1 false) 22,oG 24 21 false (.bin .neq) [.tmp 23,.const (.str [41])],oG 25 17 true .pick [.tmp 21,oB true,.tmp 24],oI 26 .pick [.tmp 17,.tmp 25,oB
 false]] (oC 26 (oR [0,2] [oM 27 0,oF 28 1 2,oO 29 28,oI 30 (.call zd false) [.tmp 27,.tmp 29,oK 2]]) (.skip))) (oQ [0,2] [oM 31 0,oF 32 2
 2,oO 33 32,oN 34 31,oF 35 1 34,oS 1 35 33] (oR [0] [oM 36 0,oN 37 36,oF 38 4 37,oO 39 38,oE 40 .sub 39 1,oN 41 36,oF 42 4 41,oS 1 42 40])))
def zBc : AF:={ results:=[],body:=zIn }
def zFP : AC:=oQ [0,2,1] [oA 6 oZ] (.seq (oQ [6,0,2,1] [oM 8 0,oN 9 8,oF 10 2 9,oO 11 10,oE 12 .eql 11 30] (oC 12 (.regt [6,0,
 2,1] false [oM 13 0,oM 14 1,oI 15 (.mkIface zQ) [oK 4],oI 16 (.callp zV) [.tmp 13,.tmp 14,.tmp 15]] (.step 0 (.step 1 (.step 2
 (.step 3 (.done)))))) (.skip))) (oQ [6,0,2] [oM 17 0,oN 18 17,oF 19 2 18,oO 20 19,oE 21 .add 20 1,oN 22 17,oF 23 2 22,oS 1 23 21] (.seq (.regt [6,0,2]
 false [oM 24 2,oT 25 .callvp 24,oA 7 oZ,oS 12 7 25] (.step 0 (.step 1 (.step 2 (.step 3 (.done)))))) (oQ [6,7,0] [oM 26 0,oN 27 26,oF 28 2 27,oO 29 28,
 oE 30 .sub 29 1,oN 31 26,oF 32 2 31,oS 1 32 30] (oQ [6,7] [oL 33 12 true 7,oS 12 6 33] (.ret))))))
def zBr : AF:={ results:=[.cell 6 12 true],body:=zFP }
def zFQ : AC:=oQ [0] [oA 1 oZ] (oQ [1,0] [oO 2 0,oN 3 2,oF 4 1 3,oO 5 4,oE 6 .add 5 1,oN 7 2,oF 8 1 7,oS 1 8 6] (.seq (.regt [1,
 0] false [oO 9 0,oT 10 (.callp zAE) 9,oT 11 (.bslice 12) 10,⟨some 12,none,.build oZ [(0,1),(11,1)],[oK 7,.tmp 11]⟩,oS 12 1 12]
 (.step 0 (.step 1 (.step 2 (.step 3 (.step 4 (.done))))))) (.ret)))
def zBs : AF:={ results:=[.cell 1 12 true],body:=zFQ }
def zFR : AC:=.seq (oQ [2,5,1,3] [oM 49 5,oO 50 1,oN 51 50,oF 52 0 51,oO 53 52,oT 54 (.len true) 53,oX 55 .leq 49 54] (oC 55
 (.skip) (.exit 1))) (.seq (.block 2 [2,1,3,5] (oQ [2,5,1,3] [oO 59 1,oN 60 59,oF 61 0 60,oO 62 61,oM 63 3,oM 64 5,oI 65 (.slc none true true) [.tmp
 62,.tmp 63,.tmp 64],oT 66 (.call zAH true) 65,oM 58 66,oT 67 (.extract 0) 58,oT 68 (.extract 1) 58,oA 6 zV5,
 oS 3 6 67,oM 7 68] (.seq (.reg [2,6,5,1,3,7] false [oM 69 7]) (oC 69 (oQ [2,6,5,1] [oO 70 1,oM 71 5,oN 72 70,oF 73 1 72,oS 1 73 71] (oQ [2,6] [oF
 74 1 6,oO 75 74,⟨some 76,none,.build oZ [(0,1),(1,1)],[oK 4,.tmp 75]⟩,oS 12 2 76] (.ret))) (.skip))))) (oR [2,1,3,5] [oM 56 5,oE 57 .add 56 1,oM 5
 57]))
def zGS : AC:=oQ [0] [oT 1 .box 0,oA 2 oZ] (oQ [2,1] [oO 11 1,oN 12 11,oF 13 1 12,oO 14 13,oM 3 14] (.seq (oQ [2,1,3] [oM 15 3,oO
 16 1,oN 17 16,oF 18 0 17,oO 19 18,oT 20 (.len true) 19,oX 21 .eql 15 20] (oC 21 (.regt [2,1,3] false [oO 22 1,oM 23 3,oI 24 (.mkIface zQ) [oK
 2],oI 25 (.callp zV) [.tmp 22,.tmp 23,.tmp 24]] (.step 0 (.step 1 (.step 2 (.step 3 (.done)))))) (.skip))) (.seq (oQ [2,1,3] [oO 26 1,
 oN 27 26,oF 28 0 27,oO 29 28,oM 30 3,oD 31 .idxStr 29 30,oM 4 31] (.block 0 [2,3,1] (oQ [2,1,3,4] [oM 33 4,oI 34 (.bin .eql) [.tmp 33,.const (.int
 .u8 40)],oM 32 34] (oC 32 (.seq (.regt [2,1,3] false [oO 35 1,oM 36 3,oT 37 (.mkFn zAJ 0) 1,oI 38 (.callp zk)
 [.tmp 35,.tmp 36,.tmp 37],oS 12 2 38] (.step 0 (.step 1 (.step 2 (.step 3 (.step 4 (.done))))))) (.ret)) (oQ [2,1,3,4] [oM 40 4,oI 41 (.bin .eql) [.tmp
 40,.const (.int .u8 34)],oM 39 41] (oC 39 (.seq (.regt [2,1] false [oO 42 1,oT 43 (.callp zAo) 42,oS 12 2 43] (.step 0 (.step 1 (.step 2
 (.done))))) (.ret)) (.seq (.reg [2,1,3,4] false [oM 45 4,oI 46 (.bin .eql) [.tmp 45,.const (.int .u8 35)],oM 44 46]) (oC 44 (oQ [2,1,3] [oM 47 3,oE 48
 .add 47 1,oM 5 48] (.block 1 [2,3,1] (.loop [2,5,1,3] zFR))) (oQ [2,1,3,4] [oM 78 4,oT 79 (.call zAQ true) 78,oM 77
 79] (oC 77 (oQ [2,1,3] [oO 80 1,oT 81 (.call zo false) 80,⟨some 8,none,.alloc [.str []],[]⟩,oS 1 8 81] (.seq (.seq (.reg [2,1,8,3]
 true [oO 82 1,oN 83 82,oF 84 1 83,oO 85 84,oO 86 1,oN 87 86,oF 88 0 87,oO 89 88,oT 90 (.len true) 89,oX 91 .lss 85 90,oM 92 91,oW 93 92 true (.load 1
 false) 1,oW 94 92 true .nilchk 93,oW 95 92 true (.fieldAddr 0) 94,oW 96 92 true (.load 1 false) 95,oW 97 92 true (.load 1 false) 1,oW 98 92 true .nilchk 97,
 oW 99 92 true (.fieldAddr 1) 98,oW 100 92 true (.load 1 false) 99,oY 101 92 true .idxStr 96 100,oG 102 92 true (.bin .eql) [.tmp 101,.const (.int .u8 40)],
 oI 103 .pick [.tmp 92,.tmp 102,oB false],oM 104 103,oW 105 104 true (.load 1 false) 8,oW 106 104 true (.call zBS true) 105,oI 107 .pick [.tmp
 104,.tmp 106,oB false]]) (oC 107 (.seq (.regt [2,1,8,3] false [oO 108 1,oM 109 3,oD 110 (.mkFn zAA 0) 1 8,oI 111 (.callp
 zk) [.tmp 108,.tmp 109,.tmp 110],oS 12 2 111] (.step 0 (.step 1 (.step 2 (.step 3 (.step 4 (.done))))))) (.ret)) (.skip))) (oQ [2,3,1,
 8] [oO 113 8,oT 114 (.call zAT true) 113,oM 112 114,oT 115 (.extract 0) 112,oT 116 (.extract 1) 112,oA 9 oZ,oS 12 9 115,oM 10 116] (oQ [2,9,
 3,1,10] [oM 117 10] (.cond (.tmp 117) (oQ [2,9] [oL 118 12 true 9,oS 12 2 118] (.ret)) (.skip)))))) (.skip))))))))))) (.seq (.regt [2,3,1] false [oO 119 1,
 oM 120 3,oI 121 (.mkIface zQ) [oK 2],oI 122 (.callp zV) [.tmp 119,.tmp 120,.tmp 121]] (.step 0 (.step 1 (.step 2 (.step 3
 (.done)))))) (oQ [2] [⟨some 123,none,.build oZ [],[]⟩,oS 12 2 123] (.ret))))))
def zq : AF:={ results:=[.cell 2 12 true],body:=zGS }
def b_strings_Trim : AC:=oQ [0,1] [oI 4 .mv [.const (.str [])]] (.seq (oQ [0,1] [oM 7 0,oI 8 (.bin .eql) [.tmp 7,.const (.str [])],oM 9 8,oV 10 9 false
 1,oG 11 9 false (.bin .eql) [.tmp 10,.const (.str [])],oP 12 9 true 11] (oC 12 (oQ [0] [oM 13 0,oM 4 13] (.ret)) (.skip))) (.seq (oQ [1,0] [oM 14 1,oT 15
 (.len true) 14,oE 16 .eql 15 1,oM 17 16,oV 18 17 true 1,oG 19 17 true .idxStr [.tmp 18,oK 0],oG 20 17 true (.bin .lss) [.tmp 19,.const (.int .u8 128)],oI
 21 .pick [.tmp 17,.tmp 20,oB false]] (oC 21 (.seq (.reg [1,0] true [oM 22 0,oM 23 1,oI 24 .idxStr [.tmp 23,oK 0],oD 25 (.call zFu
 true) 22 24,oM 26 1,oI 27 .idxStr [.tmp 26,oK 0],oD 28 (.call zGQ true) 25 27,oM 4 28]) (.ret)) (.skip))) (.seq (oQ [0,1] [oM 30 1,oT
 31 (.call zAp true) 30,oM 29 31,oT 32 (.extract 0) 29,oT 33 (.extract 1) 29,⟨some 5,none,.alloc (List.replicate 256 (.bool false)),[]⟩,
 oS 256 5 32,oM 6 33] (oQ [5,0,1,6] [oM 34 6] (oC 34 (oQ [5,0] [oM 35 0,oD 36 (.call zAZ true) 35 5,oD 37 (.call
 zAg true) 36 5,oM 4 37] (.ret)) (.skip)))) (oQ [1,0] [oM 38 0,oM 39 1,oD 40 (.call zET true) 38 39,oM 41 1,oD 42
 (.call zE1 true) 40 41,oM 4 42] (.ret)))))
def zE5 : AF:={ results:=[.tmp 4],body:=b_strings_Trim }
def zF0 : AC:=oQ [2,1,0] [oI 6 .mv [.const (.nilp)]] (.seq (.reg [2,1,0] true [oM 7 0,oM 8 1,oN 9 8,oF 10 0 9,oO 11 10,oM 12 2,oN
 13 12,oF 14 0 13,oO 15 14,oD 16 (.eqb true) 11 15,oM 17 1,oN 18 17,oF 19 1 18,oO 20 19,oM 21 2,oN 22 21,oF 23 1 22,oO 24 23,oD 25 (.call
 zCH true) 20 24,oI 26 (.call zn false) [.tmp 7,.tmp 16,.tmp 25],oM 6 26]) (.ret))
def zDO : AF:={ results:=[.tmp 6],body:=zF0 }
def zG4 : AC:=oQ [0] [oI 2 .mv [.const (.nilp)]] (oQ [0] [oA 3 zV8,oM 4 0,oD 5 (.call
 zAb false) 3 4,oM 2 5] (.ret))
def zG5 : AF:={ results:=[.tmp 2],body:=zG4 }
def zF1 : AC:=oQ [2,1,0] [oI 6 .mv [.const (.nilp)]] (.seq (.reg [2,1,0] true [oM 7 0,oM 8 1,oN 9 8,oF 10 0 9,oO 11 10,oM 12 1,oN
 13 12,oF 14 1 13,oO 15 14,oM 16 2,oN 17 16,oF 18 0 17,oO 19 18,oM 20 2,oN 21 20,oF 22 1 21,oO 23 22,oI 24 (.call zCI true) [.tmp 11,
 .tmp 15,.tmp 19,.tmp 23],oT 25 (.extract 0) 24,oT 26 (.extract 1) 24,oI 27 (.call zn false) [.tmp 7,.tmp 25,.tmp 26],oM 6 27])
 (.ret))
def zDP : AF:={ results:=[.tmp 6],body:=zF1 }
def b_sccref1_Fits : AC:=oQ [0] [oI 2 .mv [oB false]] (oQ [0] [oM 3 0,oT 4 (.call zAh true) 3,oM 2 4] (.ret))
def zHq : AF:={ results:=[.tmp 2],body:=b_sccref1_Fits }
def zE6 : AC:=oQ [0] [oI 2 .mv [oK 0]] (oQ [0] [oM 4 0,oT 5 (.call zAl true) 4,oT 6 (.convInt .i64) 5,oM 3 6]
 (.seq (oQ [3,0] [oM 7 0,oN 8 7,oF 9 0 8,oO 10 9] (oC 10 (oR [3] [oM 11 3,oT 12 (.un .neg) 11,oM 3 12]) (.skip))) (oQ [3] [oM 13 3,oM 2 13] (.ret))))
def zCo : AF:={ results:=[.tmp 2],body:=zE6 }
def b_sccref1_Bad : AC:=oQ [0] [oA 2 zV5] (oQ [2,0] [oM 3 0,⟨some 4,none,.build zV5 [(0,
 1),(1,1)],[oK 4,.tmp 3]⟩,oS 3 2 4] (.ret))
def zF2 : AF:={ results:=[.cell 2 3 true],body:=b_sccref1_Bad }
def zE7 : AC:=oQ [0] [oA 1 oZ] (oQ [1,0] [oO 3 0,oN 4 3,oF 5 1 4,oO 6 5,oE 7 .add 6 1,oN 8 3,oF 9 1 8,oS 1 9 7] (.seq (.regt [1,
 0] false [oO 10 0,oI 11 (.callp zi) [.tmp 10,oK 0],oA 2 oZ,oS 12 2 11] (.step 0 (.step 1 (.step 2 (.step 3 (.done)))))) (.seq (.regt [1,
 2,0] false [oO 12 0,oI 13 (.callp zp) [.tmp 12,.const (.int .u8 41)]] (.step 0 (.step 1 (.done)))) (oQ [1,2] [oL 14 12 true 2,oS 12 1
 14] (.ret)))))
def zBg : AF:={ results:=[.cell 1 12 true],body:=zE7 }
def zGT : AC:=oQ [0,1] [oM 4 0,oT 5 (.call za false) 4] (.seq (.seq (.reg [0,1] true [oM 6 0,oN 7 6,oF 8 1 7,oO
 9 8,oM 10 0,oN 11 10,oF 12 0 11,oO 13 12,oT 14 (.len true) 13,oX 15 .eql 9 14,oM 16 15,oV 17 16 false 0,oW 18 16 false .nilchk 17,oW 19 16 false
 (.fieldAddr 0) 18,oW 20 16 false (.load 1 false) 19,oV 21 16 false 0,oW 22 16 false .nilchk 21,oW 23 16 false (.fieldAddr 1) 22,oW 24 16 false (.load 1
 false) 23,oY 25 16 false .idxStr 20 24,oV 26 16 false 1,oXG 27 16 false .neq 25 26,oP 28 16 true 27]) (oC 28 (.regt [0] false [oM 29 0,oM 30 0,oN 31 30,oF
 32 1 31,oO 33 32,oI 34 (.mkIface zQ) [oK 2],oI 35 (.callp zV) [.tmp 29,.tmp 33,.tmp 34]] (.step 0 (.step 1 (.step 2 (.step 3
 (.step 4 (.step 5 (.step 6 (.done))))))))) (.skip))) (oR [0] [oM 36 0,oN 37 36,oF 38 1 37,oO 39 38,oE 40 .add 39 1,oN 41 36,oF 42 1 41,oS 1 42 40]))
def zCC : AF:={ results:=[],body:=zGT }
def zFS : AC:=.seq (.seq (.reg [2,4,0,3] true [oM 16 0,oN 17 16,oF 18 1 17,oO 19 18,oM 20 0,oN 21 20,oF 22 0 21,oO 23 22,oT 24
 (.len true) 23,oX 25 .lss 19 24]) (oC 25 (.skip) (.exit 0))) (.seq (.block 1 [2,4,0,3] (.seq (.seq (.reg [2,4,0,3] true [oM 33 0,oN 34 33,oF 35 0 34,oO
 36 35,oM 37 0,oN 38 37,oF 39 1 38,oO 40 39,oD 41 .idxStr 36 40,oI 42 (.bin .eql) [.tmp 41,.const (.int .u8 34)]]) (oC 42 (oQ [2,4,0,3] [oM 43 0,oN 44
 43,oF 45 1 44,oO 46 45,oE 47 .add 46 1,oN 48 43,oF 49 1 48,oS 1 49 47] (.seq (.reg [2,4,0,3] true [oM 50 0,oN 51 50,oF 52 1 51,oO 53 52,oM 54 0,oN
 55 54,oF 56 0 55,oO 57 56,oT 58 (.len true) 57,oX 59 .eql 53 58,oM 60 59,oV 61 60 false 0,oW 62 60 false .nilchk 61,oW 63 60 false (.fieldAddr 0) 62,oW
 64 60 false (.load 1 false) 63,oV 65 60 false 0,oW 66 60 false .nilchk 65,oW 67 60 false (.fieldAddr 1) 66,oW 68 60 false (.load 1 false) 67,oY 69 60 false
 .idxStr 64 68,oG 70 60 false (.bin .neq) [.tmp 69,.const (.int .u8 34)],oP 71 60 true 70]) (oC 71 (oQ [2,4] [oM 72 4,oT 73 .bytesToStr 72,⟨some 74,none,
 .build oZ [(0,1),(2,1)],[oK 2,.tmp 73]⟩,oS 12 2 74] (.ret)) (.skip)))) (.skip))) (.reg [2,0,3,4] true [oM 75 4,oM 76 0,oN 77 76,oF 78 0 77,oO 79 78,
 oM 80 0,oN 81 80,oF 82 1 81,oO 83 82,oD 84 .idxStr 79 83,oT 85 (.bslice 1) 84,oD 86 (.append 1 1) 75 85,oM 4 86]))) (oR [2,4,0,3] [oM 26 0,oN 27 26,
 oF 28 1 27,oO 29 28,oE 30 .add 29 1,oN 31 26,oF 32 1 31,oS 1 32 30]))
def zGU : AC:=oQ [0] [oA 2 oZ] (oQ [2,0] [oM 5 0,oN 6 5,oF 7 1 6,oO 8 7,oM 3 8] (oQ [2,0,3] [oI 4 .mv [.const (.lst (some true) 0
 [])]] (.seq (oQ [2,4,0,3] [oM 9 0,oN 10 9,oF 11 1 10,oO 12 11,oE 13 .add 12 1,oN 14 9,oF 15 1 14,oS 1 15 13] (.block 0 [2,3,0] (.loop [2,4,0,3]
 zFS))) (.seq (.regt [2,3,0] false [oM 87 0,oM 88 3,oI 89 (.mkIface zQ) [oK 2],oI 90 (.callp zV) [.tmp 87,
 .tmp 88,.tmp 89]] (.step 0 (.step 1 (.step 2 (.step 3 (.done)))))) (oQ [2] [⟨some 91,none,.build oZ [],[]⟩,oS 12 2 91] (.ret))))))
def zCD : AF:={ results:=[.cell 2 12 true],body:=zGU }
def zJZ : AC:=oQ [2,0,13,14] [oE 15 .lss 14 7] (.seq (oC 15 (.skip) (.exit 1)) (.seq (.block 2 [2,0,13,14] (oQ [2,0,13,14] [oM 16 14,oD
 17 (.idxAgg 1 7 false) 13 14,oM 4 16,oM 5 17] (oQ [2,4,0,13,14,5] [oM 18 5,oM 19 0,oX 20 .eql 18 19,oM 21 20,oV 22 21 true 0,oG 23 21 true (.bin
 .neq) [.tmp 22,.const (.str [])],oI 24 .pick [.tmp 21,.tmp 23,oB false]] (oC 24 (oQ [2,4] [oM 25 4,oT 26 (.call zDG true) 25,oS 3 2 26,oI 3 .mv
 [oB true]] (.ret)) (.skip))))) (oR [2,0,13,14] [oE 27 .add 14 1,oM 14 27])))
def zLU : AC:=oQ [0] [oA 2 zV5,oI 3 .mv [oB false]] (.seq (oQ [2,0] [oM 6 0] (.block 0 [2,0] (oQ [2,0,6] [oI 8
 (.bin .eql) [.tmp 6,.const (.str [84,82,85,69])],oM 7 8] (oC 7 (oQ [2] [oI 9 (.call zC7 true) [oB true],oS 3 2 9,oI 3 .mv [oB true]] (.ret)) (oQ
 [2,0,6] [oI 11 (.bin .eql) [.tmp 6,.const (.str [70,65,76,83,69])],oM 10 11] (oC 10 (oQ [2] [oI 12 (.call zC7 true) [oB false],oS 3 2 12,oI 3
 .mv [oB true]] (.ret)) (.skip))))))) (.seq (oQ [2,0] [oI 13 (.load 7 true) [.glob zFv],oI 14 .mv [oK 0]] (.block 1 [2] (.loop [2,14,0,13]
 zJZ))) (oQ [2] [⟨some 28,none,.build zV5 [],[]⟩,oS 3 2 28,oI 3 .mv [oB false]] (.ret))))
def zEJ : AF:={ results:=[.cell 2 3 true,.tmp 3],body:=zLU }
def zKM : AC:=oQ [0] [oI 2 .mv [oB false]] (oQ [0] [oM 3 0,oI 4 (.bin .eql) [.tmp 3,.const (.int .u8 36)],oM 5 4,oV 6 5 false 0,oG 7 5 false
 (.bin .geq) [.tmp 6,.const (.int .u8 48)],oV 8 5 false 7,oV 9 8 true 0,oG 10 8 true (.bin .leq) [.tmp 9,.const (.int .u8 57)],oG 11 5 false .pick [.tmp 8,
 .tmp 10,oB false],oP 12 5 true 11,oM 13 12,oV 14 13 false 0,oG 15 13 false (.bin .geq) [.tmp 14,.const (.int .u8 65)],oV 16 13 false 15,oV 17 16 true 0,
 oG 18 16 true (.bin .leq) [.tmp 17,.const (.int .u8 90)],oG 19 13 false .pick [.tmp 16,.tmp 18,oB false],oP 20 13 true 19,oM 21 20,oV 22 21 false 0,oG 23
 21 false (.bin .geq) [.tmp 22,.const (.int .u8 97)],oV 24 21 false 23,oV 25 24 true 0,oG 26 24 true (.bin .leq) [.tmp 25,.const (.int .u8 122)],oG 27 21
 false .pick [.tmp 24,.tmp 26,oB false],oP 28 21 true 27,oM 2 28] (.ret))
def zCv : AF:={ results:=[.tmp 2],body:=zKM }
def zFT : AC:=.seq (.seq (.reg [0,3] true [oM 8 0,oN 9 8,oF 10 1 9,oO 11 10,oM 12 0,oN 13 12,oF 14 0 13,oO 15 14,oT 16 (.len
 true) 15,oX 17 .lss 11 16,oM 18 17,oV 19 18 true 0,oW 20 18 true .nilchk 19,oW 21 18 true (.fieldAddr 0) 20,oW 22 18 true (.load 1 false) 21,oV 23 18 true
 0,oW 24 18 true .nilchk 23,oW 25 18 true (.fieldAddr 1) 24,oW 26 18 true (.load 1 false) 25,oY 27 18 true .idxStr 22 26,oW 28 18 true (.call
 zAQ true) 27,oI 29 .pick [.tmp 18,.tmp 28,oB false]]) (oC 29 (.skip) (.exit 0))) (.block 1 [0,3] (oR [0,3] [oM 30 0,oN 31 30,oF 32 1 31,oO
 33 32,oE 34 .add 33 1,oN 35 30,oF 36 1 35,oS 1 36 34]))
def zGV : AC:=oQ [0] [oI 2 .mv [.const (.str [])]] (oQ [0] [oM 4 0,oN 5 4,oF 6 1 5,oO 7 6,oM 3 7] (.seq (.block 0 [0,3] (.loop [0,3]
 zFT)) (.seq (.reg [0,3] true [oM 37 0,oN 38 37,oF 39 0 38,oO 40 39,oM 41 3,oM 42 0,oN 43 42,oF 44 1 43,oO 45 44,oI 46 (.slc none
 true true) [.tmp 40,.tmp 41,.tmp 45],oM 2 46]) (.ret))))
def zCE : AF:={ results:=[.tmp 2],body:=zGV }
def zE8 : AC:=oQ [1,0] [oA 2 oZ] (.seq (.regt [2,1,0] false [oO 3 0,oO 4 1,oD 5 (.callp zBK) 3 4,oS 12 2 5]
 (.step 0 (.step 1 (.step 2 (.step 3 (.done)))))) (.ret))
def zBh : AF:={ results:=[.cell 2 12 true],body:=zE8 }
def zC8 : AC:=.block 1 [0,4,5] (.seq (.regt [0,4,5] true [oF 47 11 5,oO 48 47,oM 49 0,oT 50 (.callp zAm) 49,
 oT 51 (.bslice 12) 50,oD 52 (.append 12 104) 48 51,oF 53 11 5,oS 1 53 52] (.step 0 (.step 2 (.alt (.step 1 (.step 3 (.step 4 (.step 5 (.step 6 (.step 7
 (.done))))))) (.step 3 (.alt (.step 1 (.step 4 (.step 5 (.step 6 (.step 7 (.done)))))) (.step 4 (.step 1 (.step 5 (.step 6 (.step 7 (.done)))))))))))) (oQ [0,4,
 5] [oM 54 0,oT 55 (.call za false) 54] (.seq (.seq (.reg [0,4,5] true [oM 56 0,oN 57 56,oF 58 1 57,oO 59 58,oM 60 0,oN 61 60,oF 62
 0 61,oO 63 62,oT 64 (.len true) 63,oX 65 .lss 59 64,oM 66 65,oV 67 66 true 0,oW 68 66 true .nilchk 67,oW 69 66 true (.fieldAddr 0) 68,oW 70 66 true
 (.load 1 false) 69,oV 71 66 true 0,oW 72 66 true .nilchk 71,oW 73 66 true (.fieldAddr 1) 72,oW 74 66 true (.load 1 false) 73,oY 75 66 true .idxStr 70 74,oG
 76 66 true (.bin .eql) [.tmp 75,.const (.int .u8 44)],oI 77 .pick [.tmp 66,.tmp 76,oB false]]) (oC 77 (oQ [0,4,5] [oM 78 0,oN 79 78,oF 80 1 79,oO 81 80,
 oE 82 .add 81 1,oN 83 78,oF 84 1 83,oS 1 84 82] (.exit 1)) (.skip))) (.seq (.regt [4,5,0] false [oM 85 0,oI 86 (.callp zp) [.tmp 85,
 .const (.int .u8 41)]] (.step 0 (.step 1 (.done)))) (oQ [4,5] [oL 87 12 true 5,oS 12 4 87] (.ret))))))
def zGW : AC:=oQ [0,1] [oA 4 oZ] (oQ [4,0,1] [oM 6 1,⟨some 7,none,.build oZ [(0,1),(2,1)],[oK 9,.tmp 6]⟩,oA 5 oZ,oS 12 5 7] (oQ
 [4,5,0] [oM 8 0,oN 9 8,oF 10 1 9,oO 11 10,oE 12 .add 11 1,oN 13 8,oF 14 1 13,oS 1 14 12] (oQ [4,5,0] [oM 15 0,oT 16 (.call za
 false) 15] (.seq (.seq (.reg [4,5,0] true [oM 17 0,oN 18 17,oF 19 1 18,oO 20 19,oM 21 0,oN 22 21,oF 23 0 22,oO 24 23,oT 25 (.len true) 24,oX 26 .lss
 20 25,oM 27 26,oV 28 27 true 0,oW 29 27 true .nilchk 28,oW 30 27 true (.fieldAddr 0) 29,oW 31 27 true (.load 1 false) 30,oV 32 27 true 0,oW 33 27 true
 .nilchk 32,oW 34 27 true (.fieldAddr 1) 33,oW 35 27 true (.load 1 false) 34,oY 36 27 true .idxStr 31 35,oG 37 27 true (.bin .eql) [.tmp 36,.const (.int .u8
 41)],oI 38 .pick [.tmp 27,.tmp 37,oB false]]) (oC 38 (.seq (.reg [4,5,0] false [oM 39 0,oN 40 39,oF 41 1 40,oO 42 41,oE 43 .add 42 1,oN 44 39,oF 45 1
 44,oS 1 45 43]) (.seq (.reg [4,5] false [oL 46 12 true 5,oS 12 4 46]) (.ret))) (.skip))) (.block 0 [4] (.loop [0,4,5] zC8))))))
def zBL : AF:={ results:=[.cell 4 12 true],body:=zGW }
def zLV : AC:=oQ [0] [oA 2 oZ,oI 3 .mv [oB false]] (.seq (oQ [2,0] [oM 11 0,oT 12 (.call zB0 true) 11,oM 10 12,oT 13 (.extract 0)
 10,oT 14 (.extract 1) 10,oM 4 13,oM 5 14] (oQ [2,4,0,5] [oM 15 5] (oC 15 (oQ [2,4] [oM 16 4,⟨some 17,none,.build oZ [(0,1),(1,1)],[oK 1,.tmp 16]⟩,
 oS 12 2 17,oI 3 .mv [oB true]] (.ret)) (.skip)))) (.seq (oQ [2,0] [oM 19 0,oT 20 (.call zAH true) 19,oM 18 20,oT 21 (.extract 0) 18,oT 22
 (.extract 1) 18,oA 6 zV5,oS 3 6 21,oM 7 22] (oQ [2,6,0,7] [oM 23 7] (oC 23 (oQ [2,6] [oF 24 1 6,oO 25 24,⟨some 26,none,
 .build oZ [(0,1),(1,1)],[oK 3,.tmp 25]⟩,oS 12 2 26,oI 3 .mv [oB true]] (.ret)) (.skip)))) (.seq (.seq (.reg [2,0] false [oM 28 0,oT 29 (.call zA0
 true) 28,oM 27 29,oT 30 (.extract 0) 27,oT 31 (.extract 1) 27,oA 8 zV1,oS 4 8 30,oM 9 31]) (oQ [2,8,9]
 [oM 32 9,oI 33 (.eqn .iface false true) [.tmp 32,.const (.nili)]] (.cond (.tmp 33) (oQ [2,8] [oL 34 4 true 8,⟨some 35,none,.build oZ [(0,1),(3,4)],[oK
 5,.tmp 34]⟩,oS 12 2 35,oI 3 .mv [oB true]] (.ret)) (.skip)))) (oQ [2] [⟨some 36,none,.build oZ [],[]⟩,oS 12 2 36,oI 3 .mv [oB false]] (.ret)))))
def zEK : AF:={ results:=[.cell 2 12 true,.tmp 3],body:=zLV }
def zFU : AC:=.seq (oQ [2,0,4] [oM 6 4,oM 7 0,oT 8 (.len true) 7,oX 9 .lss 6 8] (oC 9 (.skip) (.exit 0))) (.seq (.block 1 [2,0,4]
 (oQ [2,0,4] [oM 12 0,oM 13 4,oD 14 .idxStr 12 13,oM 5 14] (.seq (oQ [2,0,4,5] [oM 15 5,oI 16 (.bin .geq) [.tmp 15,.const (.int .u8 128)]] (oC 16 (oQ
 [2] [oL 17 256 true 2,oS 256 2 17,oI 3 .mv [oB false]] (.ret)) (.skip))) (oR [2,0,4,5] [oM 18 5,oD 19 (.idxArr 1 256) 2 18,oJ (.store 1) [.tmp 19,oB
 true]])))) (oR [2,0,4] [oM 10 4,oE 11 .add 10 1,oM 4 11]))
def zGX : AC:=oQ [0] [⟨some 2,none,.alloc (List.replicate 256 (.bool false)),[]⟩,oI 3 .mv [oB false]] (.seq (oQ [2,0] [oI 4 .mv [oK 0]]
 (.block 0 [2] (.loop [2,4,0] zFU))) (oQ [2] [oL 20 256 true 2,oS 256 2 20,oI 3 .mv [oB true]] (.ret)))
def zCF : AF:={ results:=[.cell 2 256 true,.tmp 3],body:=zGX }
def zE9 : AC:=.seq (oQ [0,1] [oM 5 0,oT 6 (.len true) 5,oE 7 .gtr 6 0] (oC 7 (.skip) (.exit 0))) (.block 1 [0,1] (.seq (oQ [0,1] [oM
 8 1,oM 9 0,oI 10 .idxStr [.tmp 9,oK 0],oD 11 (.call zm true) 8 10,oT 12 (.un .not) 11] (oC 12 (.exit 0) (.skip))) (oR [1,0] [oM
 13 0,oI 14 (.slc none true false) [.tmp 13,oK 1],oM 0 14])))
def zF3 : AC:=oQ [0,1] [oI 4 .mv [.const (.str [])]] (.seq (.block 0 [0] (.loop [0,1] zE9)) (oQ [0] [oM 15 0,oM 4
 15] (.ret)))
def zB2 : AF:={ results:=[.tmp 4],body:=zF3 }
def zEV : AC:=.seq (oQ [0,1] [oM 5 0,oT 6 (.len true) 5,oE 7 .gtr 6 0] (oC 7 (.skip) (.exit 0))) (.block 1 [0,1] (.seq (oQ [0,1]
 [oM 8 1,oM 9 0,oM 10 0,oT 11 (.len true) 10,oE 12 .sub 11 1,oD 13 .idxStr 9 12,oD 14 (.call zm true) 8 13,oT 15 (.un .not) 14]
 (oC 15 (.exit 0) (.skip))) (oR [1,0] [oM 16 0,oM 17 0,oT 18 (.len true) 17,oE 19 .sub 18 1,oD 20 (.slc none false true) 16 19,oM 0 20])))
def zFV : AC:=oQ [0,1] [oI 4 .mv [.const (.str [])]] (.seq (.block 0 [0] (.loop [0,1] zEV)) (oQ [0] [oM 21 0,oM
 4 21] (.ret)))
def zBt : AF:={ results:=[.tmp 4],body:=zFV }
def zFW : AC:=oQ [0,2,1] [oI 6 .mv [.const (.nilp)]] (oQ [0,2,1] [oM 7 0,oM 8 2,oN 9 7,oF 10 1 9,oS 1 10 8] (oQ [0,2,1] [oM 11
 0,oM 12 1,oM 13 12,oV 14 13 true 2,oW 15 13 true (.len false) 14,oEG 16 13 true .gtr 15 0,oI 17 .pick [.tmp 13,.tmp 16,oB false],oN 18 11,oF 19 0 18,
 oS 1 19 17] (oQ [0] [oM 20 0,oM 6 20] (.ret))))
def zBu : AF:={ results:=[.tmp 6],body:=zFW }
def zHV : AC:=.seq (oQ [6,5,1,0,8,7] [oM 29 8,oM 30 1,zD9 31 30,oX 32 .lss 29 31] (.cond (.tmp 32) (.skip) (.exit 2))) (.seq (.block
 3 [6,5,1,0,7,8] (.seq (.reg [6,5,1,0,8,7] true [oM 35 7,oM 36 0,oM 37 6,oXI 38 1 36 37,oO 39 38,oT 40 (.convInt .u64) 39,oM 41 1,oM 42 8,oXI 43
 1 41 42,oO 44 43,oT 45 (.convInt .u64) 44,oX 46 .mul 40 45,oM 47 5,oM 48 6,oM 49 8,oX 50 .add 48 49,oXI 51 1 47 50,oO 52 51,oT 53 (.convInt .u64) 52,
 oX 54 .add 46 53,oX 55 .add 35 54,oM 7 55]) (oQ [6,5,1,0,8,7] [oM 56 5,oM 57 6,oM 58 8,oX 59 .add 57 58,oM 60 7,oT 61 (.convInt .u32) 60,oXI 62 1 56
 59,oS 1 62 61] (oR [6,5,1,0,8,7] [oM 63 7,oI 64 (.bin .shr) [.tmp 63,.const (.int .u64 32)],oM 7 64])))) (oR [6,5,1,0,7,8] [oM 33 8,oE 34 .add 33
 1,oM 8 34]))
def zHW : AC:=.seq (oQ [6,5,1,0] [oM 23 6,oM 24 0,zD9 25 24,oX 26 .lss 23 25] (oC 26 (.skip) (.exit 0))) (.seq (.block 1 [5,1,0,6]
 (oQ [6,5,1,0] [oI 7 .mv [.const (.int .u64 0)]] (.seq (oQ [6,5,1,0,7] [oI 8 .mv [oK 0]] (.block 2 [5,1,0,6,7] (.loop [8,6,5,1,0,7]
 zHV))) (oR [5,1,0,6,7] [oM 65 5,oM 66 6,oM 67 1,zD9 68 67,oX 69 .add 66 68,oM 70 7,oT 71 (.convInt .u32) 70,oXI 72 1 65 69,oS 1 72
 71])))) (oR [5,1,0,6] [oM 27 6,oE 28 .add 27 1,oM 6 28]))
def zIo : AC:=oQ [1,0] [oI 4 .mv [.const (.lst (some true) 0 [])]] (.seq (oQ [1,0] [oM 9 0,zD9 10 9,oE 11 .eql 10 0,oM 12 11,oV 13 12
 false 1,oW 14 12 false (.len false) 13,oEG 15 12 false .eql 14 0,oP 16 12 true 15] (oC 16 (oQ [] [oI 4 .mv [.const (.lst (some true) 0 [])]] (.ret)) (.skip)))
 (oQ [1,0] [oM 17 0,zD9 18 17,oM 19 1,zD9 20 19,oX 21 .add 18 20,⟨some 22,none,.make 1 4 (.int .u32 0),[.tmp 21,.tmp 21]⟩,oM 5 22] (.seq (oQ [5,1,
 0] [oI 6 .mv [oK 0]] (.block 0 [5] (.loop [6,5,1,0] zHW))) (oQ [5] [oM 73 5,oT 74 (.call zw true) 73,oM 4 74] (.ret)))))
def zEl : AF:={ results:=[.tmp 4],body:=zIo }
def zD3 : AC:=oQ [1,0] [oI 4 .mv [.const (.nilp)]] (oQ [1,0] [oM 6 1,oT 7 (.convInt .u64) 6,oM 5 7] (.seq (oQ [1,0,5] [oM 8 1,
 oE 9 .lss 8 0] (oC 9 (oR [1,0,5] [oM 10 5,oT 11 (.un .neg) 10,oM 5 11]) (.skip))) (oQ [5,1,0] [oM 12 0,oM 13 1,oE 14 .lss 13 0,oM 15 5,oT 16 (.call
 zBk true) 15,oI 17 (.call zn false) [.tmp 12,.tmp 14,.tmp 16],oM 4 17] (.ret))))
def zCM : AF:={ results:=[.tmp 4],body:=zD3 }
def zIp : AC:=oQ [3,1,0,2] [oI 8 .mv [oB false],oI 9 .mv [.const (.lst (some true) 0 [])]] (.seq (.seq (.reg [3,1,0,2] false [oM 10 0,oM
 11 2,oD 12 (.eqb false) 10 11]) (oC 12 (oQ [3,1,0] [oM 13 0,oM 14 1,oM 15 3,oD 16 (.call zCJ true) 14 15,oM 8 13,oM 9 16] (.ret))
 (.skip))) (.seq (oQ [3,1,0,2] [oM 17 1,oM 18 3,oD 19 (.call zCK true) 17 18,oE 20 .geq 19 0] (oC 20 (oQ [3,1,0] [oM 21 0,oM 22 1,oM 23
 3,oD 24 (.call zBY true) 22 23,oM 8 21,oM 9 24] (.ret)) (.skip))) (oQ [1,3,2] [oM 25 2,oM 26 3,oM 27 1,oD 28 (.call zBY
 true) 26 27,oM 8 25,oM 9 28] (.ret))))
def zEm : AF:={ results:=[.tmp 8,.tmp 9],body:=zIp }
def zEL : AC:=oQ [0] [oI 2 .mv [oB false]] (oQ [0] [oM 4 0,oN 5 4,oF 6 1 5,oO 7 6,oT 8 (.call zBZ true) 7,oM 3
 8] (oQ [0,3] [oM 9 3,oE 10 .lss 9 64,oM 11 10,oV 12 11 false 3,oEG 13 11 false .eql 12 64,oV 14 11 false 13,oV 15 14 true 0,oW 16 14 true .nilchk 15,oW
 17 14 true (.fieldAddr 0) 16,oW 18 14 true (.load 1 false) 17,oG 19 11 false .pick [.tmp 14,.tmp 18,oB false],oV 20 11 false 19,oV 21 20 true 0,oW 22 20
 true (.call zAD true) 21,oG 23 20 true (.bin .eql) [.tmp 22,.const (.int .u64 63)],oG 24 11 false .pick [.tmp 20,.tmp 23,oB
 false],oP 25 11 true 24,oM 2 25] (.ret)))
def zCS : AF:={ results:=[.tmp 2],body:=zEL }
def zEW : AC:=oQ [0] [oI 2 .mv [.const (.int .u64 0)]] (oQ [0] [oI 3 .mv [.const (.int .u64 0)]] (.seq (oQ [0,3] [oM 4 0,oN 5 4,oF 6
 1 5,oO 7 6,zD9 8 7,oE 9 .gtr 8 0] (oC 9 (oR [0] [oM 10 0,oN 11 10,oF 12 1 11,oO 13 12,oI 14 (.idxAddr 1) [.tmp 13,oK 0],oO 15 14,oT 16 (.convInt .u64)
 15,oM 3 16]) (.skip))) (.seq (oQ [0,3] [oM 17 0,oN 18 17,oF 19 1 18,oO 20 19,zD9 21 20,oE 22 .gtr 21 1] (oC 22 (.reg [0,3] false [oM 23 3,oM 24 0,oN
 25 24,oF 26 1 25,oO 27 26,oI 28 (.idxAddr 1) [.tmp 27,oK 1],oO 29 28,oT 30 (.convInt .u64) 29,oI 31 (.bin .shl) [.tmp 30,.const (.int .u64 32)],oX 32
 .or 23 31,oM 3 32]) (.skip))) (oQ [3] [oM 33 3,oM 2 33] (.ret)))))
def zCb : AF:={ results:=[.tmp 2],body:=zEW }
def zEX : AC:=oQ [0] [oA 2 oZ] (oQ [2,0] [oM 7 0,oT 8 (.call za false) 7] (oQ [2,0] [oM 9 0,oN 10 9,oF 11 1
 10,oO 12 11,oM 3 12] (oQ [2,0,3] [oM 14 0,oT 15 (.call zo false) 14,oT 16 (.call zA0 true) 15,oM 13 16,oT 17 (.extract 0) 13,
 oT 18 (.extract 1) 13,⟨some 4,none,.alloc zV1,[]⟩,oS 4 4 17,oM 5 18] (.seq (.seq (.reg [2,0,3,4,5]
 true [oM 19 5,oI 20 (.eqn .iface true true) [.tmp 19,.const (.nili)],oM 21 20,oV 22 21 false 0,oW 23 21 false .nilchk 22,oW 24 21 false (.fieldAddr 1) 23,
 oW 25 21 false (.load 1 false) 24,oV 26 21 false 0,oW 27 21 false .nilchk 26,oW 28 21 false (.fieldAddr 0) 27,oW 29 21 false (.load 1 false) 28,oW 30 21
 false (.len true) 29,oXG 31 21 false .eql 25 30,oP 32 21 true 31,oM 33 32,oV 34 33 false 0,oW 35 33 false .nilchk 34,oW 36 33 false (.fieldAddr 0) 35,oW
 37 33 false (.load 1 false) 36,oV 38 33 false 0,oW 39 33 false .nilchk 38,oW 40 33 false (.fieldAddr 1) 39,oW 41 33 false (.load 1 false) 40,oY 42 33 false
 .idxStr 37 41,oG 43 33 false (.bin .neq) [.tmp 42,.const (.int .u8 58)],oP 44 33 true 43]) (oC 44 (oQ [2,0,3] [oM 45 0,oM 46 3,oN 47 45,oF 48 1 47,oS 1
 48 46] (.seq (.regt [2,0] false [oM 49 0,oI 50 (.callp zi) [.tmp 49,oK 0],oS 12 2 50] (.step 0 (.step 1 (.step 2 (.done))))) (.ret)))
 (.skip))) (oQ [2,4,0] [oM 51 0,oN 52 51,oF 53 1 52,oO 54 53,oE 55 .add 54 1,oN 56 51,oF 57 1 56,oS 1 57 55] (oQ [2,4,0] [oM 58 0,oN 59 58,oF 60 1
 59,oO 61 60,oM 3 61] (oQ [2,4,3,0] [oM 63 0,oT 64 (.call zo false) 63,oT 65 (.call zA0 true) 64,oM 62 65,oT 66 (.extract 0)
 62,oT 67 (.extract 1) 62,⟨some 6,none,.alloc zV1,[]⟩,oS 4 6 66,oM 5 67] (.seq (oQ [2,6,4,3,0,5] [oM
 68 5,oI 69 (.eqn .iface true true) [.tmp 68,.const (.nili)]] (oC 69 (.regt [2,6,4,3,0] false [oM 70 0,oM 71 3,oI 72 (.mkIface zQ) [oK 2],oI 73
 (.callp zV) [.tmp 70,.tmp 71,.tmp 72]] (.step 0 (.step 1 (.step 2 (.step 3 (.done)))))) (.skip))) (oQ [2,6,4] [oL 74 4 true 4,oL 75 4
 true 6,⟨some 76,none,.build oZ [(0,1),(3,4),(7,4)],[oK 6,.tmp 74,.tmp 75]⟩,oS 12 2 76] (.ret))))))))))
def zBN : AF:={ results:=[.cell 2 12 true],body:=zEX }
def b_value_Whole : AC:=oQ [0] [oI 2 .mv [oK 0],oI 3 .mv [oB false]] (oQ [0] [oM 7 0,oI 8 (.call zAj true) [.tmp 7,.const (.str [45])],oM
 4 8] (.seq (oQ [0,4] [oM 9 4,oI 10 (.bin .eql) [.tmp 9,.const (.str [])],oM 11 10,oV 12 11 false 4,oG 13 11 false .idxStr [.tmp 12,oK 0],oG 14 11 false
 (.bin .eql) [.tmp 13,.const (.int .u8 48)],oV 15 11 false 14,oV 16 15 true 0,oG 17 15 true (.bin .neq) [.tmp 16,.const (.str [48])],oG 18 11 false .pick
 [.tmp 15,.tmp 17,oB false],oP 19 11 true 18,oM 20 19,oV 21 20 false 4,oG 22 20 false (.call zBf true) [.tmp 21,.const (.str [48,49,50,51,
 52,53,54,55,56,57])],oG 23 20 false (.bin .neq) [.tmp 22,.const (.str [])],oP 24 20 true 23] (oC 24 (oQ [] [oI 2 .mv [oK 0],oI 3 .mv [oB false]] (.ret))
 (.skip))) (oQ [0] [oM 26 0,oT 27 (.call zAw true) 26,oM 25 27,oT 28 (.extract 0) 25,oT 29 (.extract 1) 25,oM 5 28,oM 6 29] (.seq (.reg [6,5]
 true [oM 30 5,oM 31 6,oI 32 (.eqn .iface false true) [.tmp 31,.const (.nili)],oM 2 30,oM 3 32]) (.ret)))))
def zF4 : AF:={ results:=[.tmp 2,.tmp 3],body:=b_value_Whole }
def b_addr_Ref_0 : AC:=oQ [2,52,53,54] [oX 55 .lss 54 53] (.seq (oC 55 (.skip) (.exit 0)) (.seq (.block 1 [2,52,53,54] (oQ [2,52,53,54] [oXI 56 1 52
 54,oO 57 56,oM 6 57] (.seq (oQ [2,52,53,54,6] [oM 58 6,oI 59 (.bin .lss) [.tmp 58,.const (.int .u8 48)],oM 60 59,oV 61 60 false 6,oG 62 60 false (.bin
 .gtr) [.tmp 61,.const (.int .u8 57)],oP 63 60 true 62] (oC 63 (oQ [2] [⟨some 64,none,.build zV1 [],[]⟩,oI
 65 (.mkIface zQ) [oK 2],oS 4 2 64,oM 3 65] (.ret)) (.skip))) (oR [2,52,53,54,6] [oF 66 0 2,oF 67 1 66,oO 68 67,oE 69 .mul 68 10,oM 70 6,oI 71
 (.bin .sub) [.tmp 70,.const (.int .u8 48)],oT 72 (.convInt .i64) 71,oX 73 .add 69 72,oF 74 0 2,oF 75 1 74,oS 1 75 73])))) (oR [2,52,53,54] [oE 76 .add
 54 1,oM 54 76])))
def b_addr_Ref : AC:=oQ [0] [oT 1 .box 0,oA 2 zV1,oI 3 .mv [.const (.nili)]] (oQ [2,1] [oT 7 (.mkFn
 zDI 0) 1,oM 4 7] (oQ [2,1,4] [oM 8 4,oT 9 (.callv false) 8,oF 10 2 2,oS 1 10 9] (.seq (oQ [2,1,4] [oO 11 1,oI 12 (.bin .eql) [.tmp 11,.const
 (.str [])],oM 13 12,oW 14 13 false (.load 1 false) 1,oG 15 13 false .idxStr [.tmp 14,oK 0],oG 16 13 false (.bin .lss) [.tmp 15,.const (.int .u8 65)],oP 17
 13 true 16,oM 18 17,oW 19 18 false (.load 1 false) 1,oG 20 18 false .idxStr [.tmp 19,oK 0],oG 21 18 false (.bin .gtr) [.tmp 20,.const (.int .u8 90)],oP 22
 18 true 21] (oC 22 (oQ [2] [⟨some 23,none,.build zV1 [],[]⟩,oI 24 (.mkIface zQ) [oK 2],oS 4 2 23,
 oM 3 24] (.ret)) (.skip))) (oQ [2,1,4] [oO 25 1,oI 26 .idxStr [.tmp 25,oK 0],oI 27 (.bin .sub) [.tmp 26,.const (.int .u8 65)],oT 28 (.convInt .i64) 27,oE
 29 .add 28 1,oF 30 0 2,oF 31 0 30,oS 1 31 29] (oQ [2,1,4] [oO 32 1,oI 33 (.slc none true false) [.tmp 32,oK 1],oS 1 1 33] (oQ [2,1,4] [oM 34 4,oT 35
 (.callv false) 34,oF 36 3 2,oS 1 36 35] (.seq (oQ [2,1] [oO 37 1,oI 38 (.bin .eql) [.tmp 37,.const (.str [])],oM 39 38,oW 40 39 false (.load 1 false) 1,
 oW 41 39 false (.len true) 40,oEG 42 39 false .gtr 41 2,oP 43 39 true 42,oM 44 43,oW 45 44 false (.load 1 false) 1,oG 46 44 false .idxStr [.tmp 45,oK 0],
 oG 47 44 false (.bin .eql) [.tmp 46,.const (.int .u8 48)],oP 48 44 true 47] (.cond (.tmp 48) (oQ [2] [⟨some 49,none,.build [.int .i64 0,.int .i64 0,.bool
 false,.bool false] [],[]⟩,oI 50 (.mkIface zQ) [oK 2],oS 4 2 49,oM 3 50] (.ret)) (.skip))) (.seq (oQ [2,1] [oO 51 1,oT 52 .strToBytes 51,zD9 53
 52,oI 54 .mv [oK 0]] (.block 0 [2] (.loop [2,54,52,53] b_addr_Ref_0))) (oQ [2] [oL 77 4 true 2,oS 4 2 77,oI 3 .mv [.const (.nili)]] (.ret))))))))))
def zJa : AF:={ results:=[.cell 2 4 true,.tmp 3],body:=b_addr_Ref }
def zDl : AC:=oQ [1,0] [oI 4 .mv [oB false]] (oQ [1,0] [oM 5 0,oM 6 1,oN 7 5,oD 8 (.idxArr 1 256) 7 6,oO 9 8,oM 4 9] (.ret))
def zAy : AF:={ results:=[.tmp 4],body:=zDl }
def zG6 : AC:=.seq (oQ [0,3] [oM 6 3,oE 7 .gtr 6 0,oM 8 7,oV 9 8 true 0,oV 10 8 true 3,oEG 11 8 true .sub 10 1,oYI 12 8 true 1 9 11,
 oW 13 8 true (.load 1 false) 12,oG 14 8 true (.bin .eql) [.tmp 13,.const (.int .u32 0)],oI 15 .pick [.tmp 8,.tmp 14,oB false]] (oC 15 (.skip) (.exit 0)))
 (.block 1 [3,0] (oR [0,3] [oM 16 3,oE 17 .sub 16 1,oM 3 17]))
def zH6 : AC:=oQ [0] [oI 2 .mv [.const (.lst (some true) 0 [])]] (oQ [0] [oM 4 0,zD9 5 4,oM 3 5] (.seq (.block 0 [3,0] (.loop [3,0]
 zG6)) (oQ [3,0] [oM 18 0,oM 19 3,oD 20 (.slc (some 1) false true) 18 19,oM 2 20] (.ret))))
def zEM : AF:={ results:=[.tmp 2],body:=zH6 }
def zHX : AC:=oQ [0] [oI 2 .mv [.const (.lst (some true) 0 [])]] (oQ [0] [oM 3 0,oT 4 (.convInt .u32) 3,oM 5 0,oI 6 (.bin .shr) [.tmp 5,
 .const (.int .u64 32)],oT 7 (.convInt .u32) 6,oD 8 (.bslice 1) 4 7,oT 9 (.call zw true) 8,oM 2 9] (.ret))
def zDx : AF:={ results:=[.tmp 2],body:=zHX }
def zHY : AC:=.seq (oQ [5,1,0,7,6] [oM 19 7,oM 20 0,zD9 21 20,oX 22 .lss 19 21] (oC 22 (.skip) (.exit 0))) (.seq (.block 1 [5,1,0,
 6,7] (oQ [5,1,0,7,6] [oM 25 6,oM 26 0,oM 27 7,oXI 28 1 26 27,oO 29 28,oT 30 (.convInt .u64) 29,oX 31 .add 25 30,oM 6 31] (.seq (oQ [5,1,0,7,6]
 [oM 32 7,oM 33 1,zD9 34 33,oX 35 .lss 32 34] (oC 35 (oR [5,1,0,7,6] [oM 36 6,oM 37 1,oM 38 7,oXI 39 1 37 38,oO 40 39,oT 41 (.convInt .u64) 40,oX 42
 .add 36 41,oM 6 42]) (.skip))) (oQ [5,1,0,7,6] [oM 43 5,oM 44 7,oM 45 6,oT 46 (.convInt .u32) 45,oXI 47 1 43 44,oS 1 47 46] (oR [5,1,0,7,6] [oM 48
 6,oI 49 (.bin .shr) [.tmp 48,.const (.int .u64 32)],oM 6 49]))))) (oR [5,1,0,6,7] [oM 23 7,oE 24 .add 23 1,oM 7 24]))
def zEn : AC:=oQ [0,1] [oI 4 .mv [.const (.lst (some true) 0 [])]] (.seq (oQ [0,1] [oM 8 0,zD9 9 8,oM 10 1,zD9 11 10,oX 12 .lss 9 11]
 (oC 12 (oR [0,1] [oM 13 1,oM 14 0,oM 0 13,oM 1 14]) (.skip))) (.seq (.reg [1,0] false [oM 15 0,zD9 16 15,oE 17 .add 16 1,⟨some 18,none,.make 1 4 (.int
 .u32 0),[.tmp 17,.tmp 17]⟩,oM 5 18]) (oQ [5,1,0] [oI 6 .mv [.const (.int .u64 0)]] (.seq (oQ [5,1,0,6] [oI 7 .mv [oK 0]] (.block 0 [5,6,0] (.loop [7,
 5,1,0,6] zHY))) (oQ [5,6,0] [oM 50 5,oM 51 0,zD9 52 51,oM 53 6,oT 54 (.convInt .u32) 53,oXI 55 1 50 52,oS 1 55 54] (oQ [5] [oM 56 5,
 oT 57 (.call zw true) 56,oM 4 57] (.ret)))))))
def zDQ : AF:={ results:=[.tmp 4],body:=zEn }
def zHZ : AC:=.seq (oQ [5,1,0] [oM 19 5,oE 20 .geq 19 0] (oC 20 (.skip) (.exit 0))) (.seq (.block 1 [1,0,5] (.seq (.reg [5,1,0] true
 [oM 23 0,oM 24 5,oXI 25 1 23 24,oO 26 25,oM 27 1,oM 28 5,oXI 29 1 27 28,oO 30 29,oX 31 .neq 26 30]) (oC 31 (.seq (.seq (.reg [5,1,0] true [oM 32 0,oM
 33 5,oXI 34 1 32 33,oO 35 34,oM 36 1,oM 37 5,oXI 38 1 36 37,oO 39 38,oX 40 .lss 35 39]) (oC 40 (oQ [] [oI 4 .mv [oK (-1)]] (.ret)) (.skip))) (oQ [] [oI 4
 .mv [oK 1]] (.ret))) (.skip)))) (oR [1,0,5] [oM 21 5,oE 22 .sub 21 1,oM 5 22]))
def zIq : AC:=oQ [1,0] [oI 4 .mv [oK 0]] (.seq (oQ [1,0] [oM 6 0,zD9 7 6,oM 8 1,zD9 9 8,oX 10 .neq 7 9] (oC 10 (.seq (oQ [1,0] [oM 11
 0,zD9 12 11,oM 13 1,zD9 14 13,oX 15 .lss 12 14] (oC 15 (oQ [] [oI 4 .mv [oK (-1)]] (.ret)) (.skip))) (oQ [] [oI 4 .mv [oK 1]] (.ret))) (.skip))) (.seq (oQ
 [1,0] [oM 16 0,zD9 17 16,oE 18 .sub 17 1,oM 5 18] (.block 0 [] (.loop [5,1,0] zHZ))) (oQ [] [oI 4 .mv [oK 0]] (.ret))))
def zEo : AF:={ results:=[.tmp 4],body:=zIq }
def zHa : AC:=.seq (oQ [5,1,0,7,6] [oM 12 7,oM 13 0,zD9 14 13,oX 15 .lss 12 14] (oC 15 (.skip) (.exit 0))) (.seq (.block 1 [5,1,6,
 0,7] (oQ [5,1,0,7,6] [oM 18 0,oM 19 7,oXI 20 1 18 19,oO 21 20,oT 22 (.convInt .u64) 21,oM 23 6,oX 24 .sub 22 23,oM 8 24] (.seq (oQ [5,1,0,7,8]
 [oM 25 7,oM 26 1,zD9 27 26,oX 28 .lss 25 27] (oC 28 (oR [5,1,0,7,8] [oM 29 8,oM 30 1,oM 31 7,oXI 32 1 30 31,oO 33 32,oT 34 (.convInt .u64) 33,oX 35
 .sub 29 34,oM 8 35]) (.skip))) (oQ [5,1,0,7,8] [oM 36 5,oM 37 7,oM 38 8,oT 39 (.convInt .u32) 38,oXI 40 1 36 37,oS 1 40 39] (oR [5,1,0,7,8] [oM 41
 8,oI 42 (.bin .shr) [.tmp 41,.const (.int .u64 63)],oM 6 42]))))) (oR [5,1,6,0,7] [oM 16 7,oE 17 .add 16 1,oM 7 17]))
def zIr : AC:=oQ [1,0] [oI 4 .mv [.const (.lst (some true) 0 [])]] (oQ [1,0] [oM 9 0,zD9 10 9,⟨some 11,none,.make 1 4 (.int .u32 0),
 [.tmp 10,.tmp 10]⟩,oM 5 11] (oQ [5,1,0] [oI 6 .mv [.const (.int .u64 0)]] (.seq (oQ [5,1,6,0] [oI 7 .mv [oK 0]] (.block 0 [5] (.loop [7,5,1,6,0]
 zHa))) (oQ [5] [oM 43 5,oT 44 (.call zw true) 43,oM 4 44] (.ret)))))
def zEp : AF:={ results:=[.tmp 4],body:=zIr }
def zF5 : AC:=.seq (oQ [0,4,3] [oM 14 4,oI 15 (.bin .neq) [.tmp 14,.const (.int .u32 0)]] (oC 15 (.skip) (.exit 0))) (.seq (.block 1
 [3,0,4] (oR [0,4,3] [oM 18 3,oE 19 .add 18 1,oM 3 19])) (oR [3,0,4] [oM 16 4,oI 17 (.bin .shr) [.tmp 16,.const (.int .u64 1)],oM 4 17]))
def zG7 : AC:=oQ [0] [oI 2 .mv [oK 0]] (.seq (oQ [0] [oM 5 0,zD9 6 5,oE 7 .eql 6 0] (oC 7 (oQ [] [oI 2 .mv [oK 0]] (.ret)) (.skip))) (oQ
 [0] [oI 3 .mv [oK 0]] (.seq (.seq (.reg [3,0] false [oM 8 0,oM 9 0,zD9 10 9,oE 11 .sub 10 1,oXI 12 1 8 11,oO 13 12,oM 4 13]) (.block 0 [3,0] (.loop [4,
 3,0] zF5))) (oQ [3,0] [oM 20 0,zD9 21 20,oE 22 .sub 21 1,oE 23 .mul 22 32,oM 24 3,oX 25 .add 23 24,oM 2 25] (.ret)))))
def zDm : AF:={ results:=[.tmp 2],body:=zG7 }
def zCa : AC:=.seq (oQ [0,3] [oM 10 0,oN 11 10,oF 12 1 11,oO 13 12,oM 14 3,oT 15 (.convInt .i64) 14,oD 16 (.call
 zCL true) 13 15,oI 17 (.bin .eql) [.tmp 16,.const (.int .u64 0)]] (oC 17 (.skip) (.exit 0))) (.block 1 [3,0] (oR [0,3] [oM 18 3,oI 19 (.bin
 .add) [.tmp 18,.const (.int .u64 1)],oM 3 19]))
def zCp : AC:=oQ [0] [oI 2 .mv [.const (.int .u64 0)]] (oQ [0] [oI 3 .mv [.const (.int .u64 0)]] (.seq (oQ [3,0] [oM 4 0,oN
 5 4,oF 6 1 5,oO 7 6,zD9 8 7,oE 9 .eql 8 0] (oC 9 (oQ [] [oI 2 .mv [.const (.int .u64 0)]] (.ret)) (.skip))) (.seq (.block 0 [3] (.loop [3,0]
 zCa)) (oQ [3] [oM 20 3,oM 2 20] (.ret)))))
def zA7 : AF:={ results:=[.tmp 2],body:=zCp }
def zHb : AC:=oQ [1,0] [oI 4 .mv [.const (.str [])]] (oQ [1,0] [oM 5 0,oM 6 1,oD 7 (.call zAa true) 5 6,oM 4 7]
 (.ret))
def zCf : AF:={ results:=[.tmp 4],body:=zHb }
def b_addr_Ref_c1 : AC:=oQ [0] [oI 1 .mv [oB false]] (.seq (oQ [0] [oO 2 0,oI 3 (.bin .neq) [.tmp 2,.const (.str [])],oM 4 3,oW 5 4 true (.load 1 false) 0,
 oG 6 4 true .idxStr [.tmp 5,oK 0],oG 7 4 true (.bin .eql) [.tmp 6,.const (.int .u8 36)],oI 8 .pick [.tmp 4,.tmp 7,oB false]] (oC 8 (oQ [0] [oO 9 0,oI 10
 (.slc none true false) [.tmp 9,oK 1],oS 1 0 10] (oQ [] [oI 1 .mv [oB true]] (.ret))) (.skip))) (oQ [] [oI 1 .mv [oB false]] (.ret)))
def zF6 : AF:={ results:=[.tmp 1],body:=b_addr_Ref_c1 }
def zIs : AC:=oQ [1,0] [oI 4 .mv [.const (.int .u64 0)]] (.seq (oQ [1,0] [oM 5 1,oE 6 .lss 5 0,oM 7 6,oV 8 7 false 1,oEG 9 7 false .quo 8
 32,oV 10 7 false 0,oW 11 7 false (.len false) 10,oXG 12 7 false .geq 9 11,oP 13 7 true 12] (oC 13 (oQ [] [oI 4 .mv [.const (.int .u64 0)]] (.ret)) (.skip)))
 (oQ [1,0] [oM 14 0,oM 15 1,oE 16 .quo 15 32,oXI 17 1 14 16,oO 18 17,oM 19 1,oT 20 (.convInt .u64) 19,oI 21 (.bin .rem) [.tmp 20,.const (.int .u64 32)],
 oX 22 .shr 18 21,oT 23 (.convInt .u64) 22,oI 24 (.bin .and) [.tmp 23,.const (.int .u64 1)],oM 4 24] (.ret)))
def zEq : AF:={ results:=[.tmp 4],body:=zIs }
def zFX : AC:=oQ [1,0] [oI 4 .mv [.const (.str [])]] (.seq (oQ [1,0] [oM 5 0,oM 6 1,oD 7 (.call zAF true) 5 6] (oC
 7 (oQ [1,0] [oM 8 0,oM 9 1,oT 10 (.len true) 9,oD 11 (.slc none true false) 8 10,oM 4 11] (.ret)) (.skip))) (oQ [0] [oM 12 0,oM 4 12] (.ret)))
def zBv : AF:={ results:=[.tmp 4],body:=zFX }
end Go.AM
