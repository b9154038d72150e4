/- Abstract code, printed by a program of my own (wip/gen/Gen.lean.tpl) off the dump. -/
import Derived.Test.YtaohficjbicfgaaGreatDoorGAm22Qn
set_option linter.all false
namespace Go.AM
def zGA : AC:=.seq (oR [3,2,1,0] [oI 8 .mv [oB false]]) (.seq (oR [3,2,1,0] [oM 17 0,oM 18 1,oM 19 2,oM 20 3,oI 21 (.call
 zB8 true) [.tmp 17,.tmp 18,.tmp 19,.tmp 20],oM 16 21,oT 22 (.extract 0) 16,oT 23 (.extract 1) 16,oT 24 (.extract 2) 16,oM 9 22,oM 10 23,
 oM 11 24]) (.seq (oR [10,11,9,3,2,1,0] [oM 26 0,oM 27 1,oM 28 2,oM 29 3,oI 30 (.call zDR true) [.tmp 26,.tmp 27,.tmp 28,.tmp 29],oM 25
 30,oT 31 (.extract 0) 25,oT 32 (.extract 1) 25,oT 33 (.extract 2) 25,oM 12 31,oM 13 32,oM 14 33]) (.seq (.reg [10,13,11,9,14,12] false [oM 34 12,oM
 35 14,oM 36 9,oM 37 11,oI 38 (.call zDS true) [.tmp 34,.tmp 35,.tmp 36,.tmp 37],oM 15 38]) (.seq (oR [10,13,15] [oM 39 15,oM 40 39,oG 41 40
 true .mv [.tmp 13],oG 42 40 true .mv [.tmp 10],oG 43 40 true (.bin .eql) [.tmp 41,.tmp 42],oI 44 .pick [.tmp 40,.tmp 43,oB false],oM 8 44]) (.ret)))))
def zDM : AF:={ results:=[.tmp 8],body:=zGA }
def b_sccref1_In : AC:=.seq (oR [0] [oT 1 .box 0,oI 2 .mv [oB false]]) (.seq (oR [1] [oF 3 0 1,oL 4 1 false 3,oI 5 (.bin .geq) [.tmp 4,oK 1],oM 6 5,oG 7
 6 true (.fieldAddr 0) [.tmp 1],oG 8 6 true (.load 1 false) [.tmp 7],oG 9 6 true (.bin .leq) [.tmp 8,oK 26],oI 10 .pick [.tmp 6,.tmp 9,oB false],oM 11 10,
 oG 12 11 true (.fieldAddr 1) [.tmp 1],oG 13 11 true (.load 1 false) [.tmp 12],oG 14 11 true (.bin .geq) [.tmp 13,oK 1],oI 15 .pick [.tmp 11,.tmp 14,oB
 false],oM 16 15,oG 17 16 true (.fieldAddr 1) [.tmp 1],oG 18 16 true (.load 1 false) [.tmp 17],oG 19 16 true (.bin .leq) [.tmp 18,oK 99],oI 20 .pick [.tmp
 16,.tmp 19,oB false],oM 2 20]) (.ret))
def zGd : AF:={ results:=[.tmp 2],body:=b_sccref1_In }
def b_sccref2_Text : AC:=.seq (oR [0] [oI 2 .mv [oK 0]]) (.seq (.seq (oR [0] [oM 6 0,oT 7 (.len true) 6,oI 8 (.bin .gtr) [.tmp 7,oK 200]]) (oC 8 (.seq (oR
 [] [oI 2 .mv [oK 4]]) (.ret)) (.skip))) (.seq (.seq (oR [0] [oM 9 0,oI 10 (.bin .neq) [.tmp 9,.const (.str [])],oM 11 10,oG 12 11 true .mv [.tmp 0],oG 13 11
 true .idxStr [.tmp 12,oK 0],oG 14 11 true (.bin .eql) [.tmp 13,.const (.int .u8 61)],oI 15 .pick [.tmp 11,.tmp 14,oB false]]) (oC 15 (.seq (oR [0] [oM 17
 0,oT 18 (.call zCI true) 17,oM 16 18,oT 19 (.extract 0) 16,oT 20 (.extract 1) 16,oT 21 (.extract 2) 16,oA 3 oZ,oS 12 3 19,oM 4 20,oM 5 21])
 (.seq (oR [5] [oM 22 5,oI 23 (.bin .neq) [.tmp 22,oK 0]]) (oC 23 (.seq (oR [] [oI 2 .mv [oK 2]]) (.ret)) (.skip)))) (.skip))) (.seq (oR [] [oI 2 .mv [oK 0]])
 (.ret))))
def zEp : AF:={ results:=[.tmp 2],body:=b_sccref2_Text }
def zKe : AC:=.seq (oR [1,0] [oI 4 .mv [oB false]]) (.seq (oR [1,0] [oM 6 0,oT 7 (.call zCt true) 6,oM 5 7]) (.seq (oR [1,5] [oM 8 5,
 oM 9 1,oD 10 (.bin .eql) 8 9,oM 4 10]) (.ret)))
def zGe : AF:={ results:=[.tmp 4],body:=zKe }
def zI1 : AC:=.seq (.seq (oR [0,3] [oM 9 3,oM 10 0,oT 11 (.len false) 10,oD 12 (.bin .lss) 9 11]) (oC 12 (.skip) (.exit 0))) (.seq (.block 1
 [0,3] (.seq (oR [0,3] [oM 15 0,oM 16 3,oD 17 (.idxAddr 3) 15 16,oF 18 0 17,oL 19 2 true 18,oT 20 (.call zDa true) 19,oM 4 20]) (.seq (.seq (oR
 [0,3,4] [oM 21 4,oT 22 (.un .not) 21]) (oC 22 (.seq (oR [] [oI 2 .mv [oK 1]]) (.ret)) (.skip))) (.seq (.seq (.reg [0,3] true [oM 23 3,oI 24 (.bin .gtr)
 [.tmp 23,oK 0],oM 25 24,oG 26 25 true .mv [.tmp 0],oG 27 25 true .mv [.tmp 3],oG 28 25 true (.bin .sub) [.tmp 27,oK 1],oG 29 25 true (.idxAddr 3) [.tmp
 26,.tmp 28],oG 30 25 true (.fieldAddr 0) [.tmp 29],oG 31 25 true (.load 2 true) [.tmp 30],oG 32 25 true .mv [.tmp 0],oG 33 25 true .mv [.tmp 3],oG 34 25
 true (.idxAddr 3) [.tmp 32,.tmp 33],oG 35 25 true (.fieldAddr 0) [.tmp 34],oG 36 25 true (.load 2 true) [.tmp 35],oG 37 25 true (.call zCJ true)
 [.tmp 31,.tmp 36],oG 38 25 true (.un .not) [.tmp 37],oI 39 .pick [.tmp 25,.tmp 38,oB false]]) (oC 39 (.seq (oR [] [oI 2 .mv [oK 5]]) (.ret)) (.skip))) (.seq
 (.seq (oR [0,3] [oM 40 0,oM 41 3,oD 42 (.idxAddr 3) 40 41,oF 43 2 42,oL 44 1 false 43,oI 45 (.bin .eql) [.tmp 44,.const (.str [])]]) (oC 45 (.seq (oR []
 [oI 2 .mv [oK 3]]) (.ret)) (.skip))) (.seq (oR [0,3] [oM 46 0,oM 47 3,oD 48 (.idxAddr 3) 46 47,oF 49 2 48,oL 50 1 false 49,oT 51 (.call zA0
 true) 50,oM 5 51]) (.seq (oR [5,0,3] [oM 52 5,oI 53 (.bin .neq) [.tmp 52,oK 0]]) (oC 53 (.seq (oR [5] [oM 54 5,oM 2 54]) (.ret)) (.skip))))))))) (oR [0,3]
 [oM 13 3,oI 14 (.bin .add) [.tmp 13,oK 1],oM 3 14]))
def zKf : AC:=.seq (oR [0] [oI 2 .mv [oK 0]]) (.seq (.seq (oR [0] [oM 6 0,oT 7 (.len false) 6,oI 8 (.bin .gtr) [.tmp 7,oK 200]]) (oC 8 (.seq (oR
 [] [oI 2 .mv [oK 4]]) (.ret)) (.skip))) (.seq (.seq (oR [0] [oI 3 .mv [oK 0]]) (.block 0 [] (.loop [3,0] zI1))) (.seq (oR [] [oI 2 .mv [oK 0]])
 (.ret))))
def zD2 : AF:={ results:=[.tmp 2],body:=zKf }
def zI2 : AC:=.seq (.seq (oR [1,2,0,10,9,8] [oM 11 10,oM 12 0,oT 13 (.len true) 12,oD 14 (.bin .lss) 11 13]) (oC 14 (.skip) (.exit 0)))
 (.block 1 [1,10,2,9,8,0] (.seq (oR [1,2,0,10,9,8] [oM 15 10,oM 16 1,oT 17 (.len true) 16,oD 18 (.bin .add) 15 17,oM 19 0,oT 20 (.len true) 19,oD
 21 (.bin .leq) 18 20,oM 22 21,oG 23 22 true .mv [.tmp 0],oG 24 22 true .mv [.tmp 10],oG 25 22 true .mv [.tmp 10],oG 26 22 true .mv [.tmp 1],oG 27 22 true
 (.len true) [.tmp 26],oG 28 22 true (.bin .add) [.tmp 25,.tmp 27],oG 29 22 true (.slc none true true) [.tmp 23,.tmp 24,.tmp 28],oG 30 22 true .mv [.tmp 1],
 oG 31 22 true (.bin .eql) [.tmp 29,.tmp 30],oI 32 .pick [.tmp 22,.tmp 31,oB false]]) (oC 32 (.seq (oR [1,2,0,10,9,8] [oM 33 8,oI 34 (.bin .add) [.tmp
 33,oK 1],oM 8 34]) (.seq (oR [1,2,8,0,10,9] [oM 35 9,oM 36 2,oD 37 .appendS 35 36,oM 9 37]) (oR [1,2,9,8,0,10] [oM 38 10,oM 39 1,oT 40 (.len
 true) 39,oD 41 (.bin .add) 38 40,oM 10 41]))) (.seq (oR [1,2,8,0,10,9] [oM 42 9,oM 43 0,oM 44 10,oD 45 .idxStr 43 44,oT 46 (.bslice 1) 45,oD 47
 (.append 1 1) 42 46,oM 9 47]) (oR [1,2,9,8,0,10] [oM 48 10,oI 49 (.bin .add) [.tmp 48,oK 1],oM 10 49])))))
def zKg : AC:=.seq (oR [1,2,0] [oI 6 .mv [oK 0],oI 7 .mv [.const (.str [])]]) (.seq (oR [1,2,0] [oI 8 .mv [oK 0]]) (.seq (oR [1,2,8,0] [oI
 9 .mv [.const (.lst (some true) 0 [])]]) (.seq (oR [1,2,9,8,0] [oI 10 .mv [oK 0]]) (.seq (.block 0 [9,8] (.loop [1,10,2,9,8,0] zI2))
 (.seq (.reg [9,8] true [oM 50 8,oM 51 9,oT 52 .bytesToStr 51,oM 6 50,oM 7 52]) (.ret))))))
def zGf : AF:={ results:=[.tmp 6,.tmp 7],body:=zKg }
def zG6 : AC:=.seq (.seq (oR [2,1,3,0,14,13,12] [oM 33 14,oM 34 0,oT 35 (.len false) 34,oD 36 (.bin .lss) 33 35]) (.cond (.tmp 36)
 (.skip) (.exit 0))) (.seq (.block 1 [13,12,2,1,3,0,14] (.seq (oR [2,1,3,0,14,13,12] [oM 39 0,oM 40 14,oD 41 (.idxAddr 3) 39 40,oL 42 3 true 41,oA
 15 [.int .i64 0,.int .i64 0,.str []],oS 3 15 42]) (.seq (.seq (oR [2,1,3,0,14,15,13,12] [oM 43 3,oT 44 (.un .not) 43,oM 45 44,oG 46 45 false
 (.fieldAddr 2) [.tmp 15],oG 47 45 false (.load 1 false) [.tmp 46],oG 48 45 false .mv [.tmp 1],oG 49 45 false (.bin .eql) [.tmp 47,.tmp 48],oI 50 .pick [.tmp
 45,oB true,.tmp 49]]) (oC 50 (.seq (oR [2,1,3,0,14,15,13,12] [oF 52 2 15,oL 53 1 false 52,oM 54 1,oM 55 2,oI 56 (.call zC3 true) [.tmp
 53,.tmp 54,.tmp 55],oM 51 56,oT 57 (.extract 0) 51,oT 58 (.extract 1) 51,oM 16 57,oM 17 58]) (.seq (oR [2,1,3,0,14,15,13,17,16,12] [oM 59 12,oM
 60 16,oD 61 (.bin .add) 59 60,oM 12 61]) (.seq (oR [12,2,1,3,0,14,15,13,17,16] [oM 62 16,oI 63 (.bin .gtr) [.tmp 62,oK 0]]) (oC 63 (.seq (oR [12,2,
 1,3,0,14,15,13,17] [oM 64 17,oT 65 (.call zA0 true) 64,oM 11 65]) (.seq (.seq (oR [11,12,2,1,3,0,14,15,13,17] [oM 66 11,oI 67 (.bin
 .neq) [.tmp 66,oK 0]]) (.cond (.tmp 67) (.seq (oR [11] [oM 68 11,oI 8 .mv [.const (.lst (some true) 0 [])],oI 9 .mv [oK 0],oM 10 68]) (.ret)) (.skip))) (oR
 [12,2,1,3,0,14,15,13,17] [oM 69 17,oF 70 2 15,oS 1 70 69]))) (.skip))))) (.skip))) (.seq (oR [12,2,1,3,0,14,15,13] [oF 71 2 15,oL 72 1 false
 71,oI 73 (.bin .neq) [.tmp 72,.const (.str [])]]) (oC 73 (oR [12,2,1,3,0,14,15,13] [oM 74 13,oL 75 3 true 15,oT 76 (.bslice 3) 75,oD 77 (.append 3
 32) 74 76,oM 13 77]) (.skip)))))) (oR [13,12,2,1,3,0,14] [oM 37 14,oI 38 (.bin .add) [.tmp 37,oK 1],oM 14 38]))
def zIE : AC:=.seq (oR [2,1,3,0] [oI 8 .mv [.const (.lst (some true) 0 [])],oI 9 .mv [oK 0],oI 10 .mv [oK 0]]) (.seq (oR [2,1,3,0] [oM
 18 0,oT 19 (.call zBd true) 18,oM 11 19]) (.seq (.seq (oR [11,2,1,3,0] [oM 20 11,oI 21 (.bin .neq) [.tmp 20,oK 0]]) (oC 21 (.seq (oR [11] [oM
 22 11,oI 8 .mv [.const (.lst (some true) 0 [])],oI 9 .mv [oK 0],oM 10 22]) (.ret)) (.skip))) (.seq (.seq (oR [2,1,3,0] [oM 23 1,oT 24 (.len true) 23,oI
 25 (.bin .gtr) [.tmp 24,oK 200],oM 26 25,oG 27 26 false .mv [.tmp 2],oG 28 26 false (.len true) [.tmp 27],oG 29 26 false (.bin .gtr) [.tmp 28,oK 200],oI
 30 .pick [.tmp 26,oB true,.tmp 29]]) (oC 30 (.seq (oR [] [oI 8 .mv [.const (.lst (some true) 0 [])],oI 9 .mv [oK 0],oI 10 .mv [oK 4]]) (.ret)) (.skip)))
 (.seq (.seq (oR [2,1,3,0] [oM 31 1,oI 32 (.bin .eql) [.tmp 31,.const (.str [])]]) (oC 32 (.seq (oR [] [oI 8 .mv [.const (.lst (some true) 0 [])],oI 9 .mv
 [oK 0],oI 10 .mv [oK 2]]) (.ret)) (.skip))) (.seq (oR [2,1,3,0] [oI 12 .mv [oK 0]]) (.seq (oR [12,2,1,3,0] [oI 13 .mv [.const (.lst (some true) 0 [])]])
 (.seq (.seq (oR [13,12,2,1,3,0] [oI 14 .mv [oK 0]]) (.block 0 [12,13] (.loop [14,13,12,2,1,3,0] zG6))) (.seq (oR [12,13] [oM 78 13,
 oM 79 12,oM 8 78,oM 9 79,oI 10 .mv [oK 0]]) (.ret)))))))))
def zEU : AF:={ results:=[.tmp 8,.tmp 9,.tmp 10],body:=zIE }
def zJh : AC:=.seq (oR [2,1,3,37,38,39,12,13] [oD 40 (.bin .lss) 39 38]) (.seq (oC 40 (.skip) (.exit 1)) (.seq (.block 2 [12,2,1,13,3,
 37,38,39] (.seq (oR [2,1,3,37,38,39,12,13] [oD 41 (.idxAddr 3) 37 39,oL 42 3 true 41,oA 15 [.int .i64 0,.int .i64 0,.str []],oS 3 15 42]) (.seq (oR
 [2,1,3,37,38,39,15,12,13] [oF 43 2 15,oL 44 1 false 43,oM 45 1,oD 46 (.call zC5 true) 44 45,oM 16 46]) (.seq (.seq (oR [2,1,3,37,38,
 39,15,12,13,16] [oM 47 3]) (oC 47 (.seq (oR [2,1,3,37,38,39,15,12,13] [oI 16 .mv [oK 0]]) (.seq (oR [2,1,3,37,38,39,15,12,13,16] [oF 48 2
 15,oL 49 1 false 48,oM 50 1,oD 51 (.bin .eql) 49 50]) (oC 51 (oR [2,1,3,37,38,39,15,12,13] [oI 16 .mv [oK 1]]) (.skip)))) (.skip))) (.seq (.seq (oR
 [2,1,3,37,38,39,15,12,16,13] [oM 52 16,oI 53 (.bin .gtr) [.tmp 52,oK 0]]) (oC 53 (.seq (oR [2,1,3,37,38,39,15,12,16,13] [oM 54 13,oM 55 16,
 oD 56 (.bin .add) 54 55,oM 13 56]) (.seq (oR [2,1,13,3,37,38,39,15,12] [oF 57 2 15,oL 58 1 false 57,oM 59 1,oM 60 2,oI 61 (.call
 zBZ true) [.tmp 58,.tmp 59,.tmp 60],oF 62 2 15,oS 1 62 61]) (.seq (oR [2,1,13,3,37,38,39,15,12] [oF 63 2 15,oL 64 1 false 63,oT 65
 (.call zAr true) 64,oM 17 65]) (.seq (oR [17,2,1,13,3,37,38,39,15,12] [oM 66 17,oI 67 (.eqn .iface true true) [.tmp 66,.const (.nili)]]) (oC
 67 (.seq (oR [17] [oM 68 17,oI 8 .mv [.const (.lst (some true) 0 [])],oI 9 .mv [oK 0],oM 10 68]) (.ret)) (.skip)))))) (.skip))) (.seq (oR [2,1,13,3,37,
 38,39,15,12] [oF 69 2 15,oL 70 1 false 69,oI 71 (.bin .neq) [.tmp 70,.const (.str [])]]) (oC 71 (oR [2,1,13,3,37,38,39,15,12] [oM 72 12,oL 73 3
 true 15,oT 74 (.bslice 3) 73,oD 75 (.append 3 32) 72 74,oM 12 75]) (.skip)))))))) (oR [12,2,1,13,3,37,38,39] [oI 76 (.bin .add) [.tmp 39,oK 1],oM 39
 76])))
def b_find_Replace : AC:=.seq (oR [2,1,3,0] [oI 8 .mv [.const (.lst (some true) 0 [])],oI 9 .mv [oK 0],oI 10 .mv [.const (.nili)]]) (.seq (.seq (oR [2,1,
 3,0] [oM 18 0,oT 19 (.call zC4 true) 18,oM 11 19]) (.seq (oR [11,2,1,3,0] [oM 20 11,oI 21 (.eqn .iface true true) [.tmp 20,.const (.nili)]])
 (oC 21 (.seq (oR [11] [oM 22 11,oI 8 .mv [.const (.lst (some true) 0 [])],oI 9 .mv [oK 0],oM 10 22]) (.ret)) (.skip)))) (.seq (.block 0 [2,1,3,0] (.seq (oR
 [2,1,3,0] [oM 24 1,oT 25 (.len true) 24,oI 26 (.bin .gtr) [.tmp 25,oK 200],oM 27 26,oG 28 27 false .mv [.tmp 2],oG 29 27 false (.len true) [.tmp 28],oG
 30 27 false (.bin .gtr) [.tmp 29,oK 200],oI 31 .pick [.tmp 27,oB true,.tmp 30],oM 23 31]) (oC 23 (.seq (oR [] [oI 32 (.mkIface zS) [oK 4],oI 8 .mv
 [.const (.lst (some true) 0 [])],oI 9 .mv [oK 0],oM 10 32]) (.ret)) (.seq (oR [2,1,3,0] [oM 34 1,oI 35 (.bin .eql) [.tmp 34,.const (.str [])],oM 33 35])
 (oC 33 (.seq (oR [] [oI 36 (.mkIface zS) [oK 2],oI 8 .mv [.const (.lst (some true) 0 [])],oI 9 .mv [oK 0],oM 10 36]) (.ret)) (.skip)))))) (.seq (oR
 [2,1,3,0] [oI 12 .mv [.const (.lst (some true) 0 [])]]) (.seq (oR [12,2,1,3,0] [oI 13 .mv [oK 0]]) (.seq (.seq (oR [12,2,1,13,3,0] [oM 37 0,oT 38
 (.len false) 37,oI 39 .mv [oK 0]]) (.block 1 [13,12] (.loop [39,12,2,1,13,3,37,38] zJh))) (.seq (oR [13,12] [oM 77 12,oM 78 13,oM 8 77,
 oM 9 78,oI 10 .mv [.const (.nili)]]) (.ret)))))))
def zHP : AF:={ results:=[.tmp 8,.tmp 9,.tmp 10],body:=b_find_Replace }
def b_scclaw3_made : AC:=.seq (oR [2,0,3,1] [oI 8 .mv [oB false]]) (.seq (oR [2,0,3,1] [oM 11 1,oM 12 3,oD 13 (.call zC2 true) 11 12,oM 9
 13]) (.seq (oR [9,2,0] [oM 14 0,oM 15 2,oD 16 (.call zCi true) 14 15,oM 10 16]) (.seq (oR [10,9] [oM 17 9,oM 18 17,oG 19 18 true .mv [.tmp
 10],oI 20 .pick [.tmp 18,.tmp 19,oB false],oM 8 20]) (.ret))))
def zHQ : AF:={ results:=[.tmp 8],body:=b_scclaw3_made }
def zKh : AC:=.seq (oR [0] [oA 2 oZ,oI 3 .mv [oK 0],oI 4 .mv [oK 0]]) (.seq (.seq (oR [2,0] [oM 8 0,oT 9 (.len true) 8,oI 10 (.bin .gtr) [.tmp
 9,oK 200]]) (oC 10 (.seq (oR [2] [⟨some 11,none,.build oZ [],[]⟩,oS 12 2 11,oI 3 .mv [oK 0],oI 4 .mv [oK 4]]) (.ret)) (.skip))) (.seq (.seq (oR [2,0] [oM
 12 0,oI 13 (.bin .eql) [.tmp 12,.const (.str [])],oM 14 13,oG 15 14 false .mv [.tmp 0],oG 16 14 false .idxStr [.tmp 15,oK 0],oG 17 14 false (.bin .neq)
 [.tmp 16,.const (.int .u8 61)],oI 18 .pick [.tmp 14,oB true,.tmp 17]]) (.cond (.tmp 18) (.seq (oR [2] [⟨some 19,none,.build oZ [],[]⟩,oS 12 2 19,oI 3
 .mv [oK 0],oI 4 .mv [oK 2]]) (.ret)) (.skip))) (.seq (.reg [2,0] false [oM 20 0,⟨some 21,none,.build [.str [],.int .i64 0,.int .i64 0,.int .i64 0,.int
 .i64 0] [(0,1),(1,1)],[.tmp 20,oK 1]⟩,oT 22 .box 21,oM 5 22]) (.seq (oR [2,5,0] [oM 23 5,oI 24 (.call zW false) [.tmp 23,oK 1],oA 6
 oZ,oS 12 6 24]) (.seq (oR [2,5,6,0] [oM 25 0,oM 26 5,oN 27 26,oF 28 1 27,oL 29 1 false 28,oD 30 (.call zV true) 25 29,oA 7 [.int .i64 0,
 .int .i64 0,.int .i64 0,.str []],oS 4 7 30]) (.seq (.seq (oR [2,5,6,7] [oM 31 5,oN 32 31,oF 33 3 32,oL 34 1 false 33,oI 35 (.bin .eql) [.tmp 34,oK 0],
 oM 36 35,oG 37 36 true (.fieldAddr 0) [.tmp 7],oG 38 36 true (.load 1 false) [.tmp 37],oG 39 36 true (.bin .neq) [.tmp 38,oK 0],oI 40 .pick [.tmp 36,.tmp
 39,oB false]]) (oC 40 (oR [2,5,6,7] [oM 41 5,oF 42 1 7,oL 43 1 false 42,oI 44 (.call zd false) [.tmp 41,.tmp 43,oK 2]]) (.skip))) (.seq
 (.seq (oR [2,5,6] [oM 45 5,oN 46 45,oF 47 3 46,oL 48 1 false 47,oI 49 (.bin .neq) [.tmp 48,oK 0]]) (oC 49 (.seq (.regt [2,5] true [⟨some 50,none,.build
 oZ [],[]⟩,oM 51 5,oN 52 51,oF 53 2 52,oL 54 1 false 53,oM 55 5,oN 56 55,oF 57 3 56,oL 58 1 false 57,oS 12 2 50,oM 3 54,oM 4 58] (.step 0 (.step 1
 (.step 2 (.step 3 (.step 5 (.step 6 (.step 7 (.alt (.step 4 (.alt (.step 8 (.step 9 (.step 10 (.step 11 (.done))))) (.step 9 (.step 8 (.step 10 (.step 11
 (.done))))))) (.alt (.step 8 (.alt (.step 4 (.step 9 (.step 10 (.step 11 (.done))))) (.step 9 (.step 4 (.step 10 (.step 11 (.done))))))) (.step 9 (.step 4 (.step
 8 (.step 10 (.step 11 (.done)))))))))))))))) (.ret)) (.skip))) (.seq (oR [2,6] [oL 59 12 true 6,oS 12 2 59,oI 3 .mv [oK 0],oI 4 .mv [oK 0]]) (.ret)))))))))
def zCK : AF:={ results:=[.cell 2 12 true,.tmp 3,.tmp 4],body:=zKh }
def b_plain_Told : AC:=.seq (oR [0] [oI 2 .mv [oK 0]]) (.seq (.seq (oR [0] [oM 4 0,oI 5 (.eqn .iface false true) [.tmp 4,.const (.nili)]]) (oC 5 (.seq (oR []
 [oI 2 .mv [oK 0]]) (.ret)) (.skip))) (.seq (oR [0] [oA 3 [.int .i64 0]]) (.seq (.seq (oR [3,0] [oM 6 0,oT 7 (.mkIface zGc) 3,oD 8 (.call zHg
 false) 6 7]) (oC 8 (.seq (oR [3] [oL 9 1 false 3,oM 2 9]) (.ret)) (.skip))) (.seq (oR [] [oI 2 .mv [oK (-1)]]) (.ret)))))
def zGg : AF:={ results:=[.tmp 2],body:=b_plain_Told }
def zKi : AC:=.seq (oR [1,0] [oT 2 .box 0,oT 3 .box 1,oI 4 .mv [oB false]]) (.seq (.seq (oR [3,2] [oF 5 1 2,oL 6 1 false 5,oF 7 1 3,oL 8 1
 false 7,oD 9 (.bin .neq) 6 8]) (oC 9 (.seq (oR [3,2] [oF 10 1 2,oL 11 1 false 10,oF 12 1 3,oL 13 1 false 12,oD 14 (.bin .lss) 11 13,oM 4 14]) (.ret))
 (.skip))) (.seq (oR [3,2] [oF 15 0 2,oL 16 1 false 15,oF 17 0 3,oL 18 1 false 17,oD 19 (.bin .lss) 16 18,oM 4 19]) (.ret)))
def zD3 : AF:={ results:=[.tmp 4],body:=zKi }
def zKj : AC:=.seq (oR [0,10,11,12] [oD 13 (.bin .lss) 12 11]) (.seq (oC 13 (.skip) (.exit 0)) (.seq (.block 1 [0,10,11,12] (.seq (oR [0,10,
 11,12] [oM 14 12,oD 15 (.idxAddr 3) 10 12,oL 16 3 true 15,oA 4 [.int .i64 0,.int .i64 0,.str []],oM 3 14,oS 3 4 16]) (.seq (.block 2 [0,10,11,12,4]
 (.seq (oR [0,10,11,12,4,3] [oF 18 0 4,oL 19 2 true 18,oT 20 (.call zDb true) 19,oI 21 (.eqn .iface true true) [.tmp 20,.const (.nili)],oM 17
 21]) (oC 17 (.seq (oR [] [oI 22 (.mkIface zS) [oK 1],oM 2 22]) (.ret)) (.seq (.reg [0,10,11,12,4,3] true [oM 24 3,oI 25 (.bin .gtr) [.tmp 24,oK
 0],oM 26 25,oG 27 26 true .mv [.tmp 0],oG 28 26 true .mv [.tmp 3],oG 29 26 true (.bin .sub) [.tmp 28,oK 1],oG 30 26 true (.idxAddr 3) [.tmp 27,.tmp 29],
 oG 31 26 true (.fieldAddr 0) [.tmp 30],oG 32 26 true (.load 2 true) [.tmp 31],oG 33 26 true (.fieldAddr 0) [.tmp 4],oG 34 26 true (.load 2 true) [.tmp 33],oG
 35 26 true (.call zFe true) [.tmp 32,.tmp 34],oG 36 26 true (.un .not) [.tmp 35],oI 37 .pick [.tmp 26,.tmp 36,oB false],oM 23 37]) (oC 23 (.seq (oR
 [] [oI 38 (.mkIface zS) [oK 5],oM 2 38]) (.ret)) (.seq (oR [0,10,11,12,4] [oF 40 2 4,oL 41 1 false 40,oI 42 (.bin .eql) [.tmp 41,.const (.str
 [])],oM 39 42]) (oC 39 (.seq (oR [] [oI 43 (.mkIface zS) [oK 3],oM 2 43]) (.ret)) (.skip)))))))) (.seq (oR [0,10,11,12,4] [oF 44 2 4,oL 45 1
 false 44,oT 46 (.call zAr true) 45,oM 5 46]) (.seq (oR [5,0,10,11,12] [oM 47 5,oI 48 (.eqn .iface true true) [.tmp 47,.const (.nili)]]) (oC 48
 (.seq (oR [5] [oM 49 5,oM 2 49]) (.ret)) (.skip))))))) (oR [0,10,11,12] [oI 50 (.bin .add) [.tmp 12,oK 1],oM 12 50])))
def b_graph_Check : AC:=.seq (oR [0] [oI 2 .mv [.const (.nili)]]) (.seq (.seq (oR [0] [oM 6 0,oT 7 (.len false) 6,oI 8 (.bin .gtr) [.tmp 7,oK 200]]) (oC 8
 (.seq (oR [] [oI 9 (.mkIface zS) [oK 4],oM 2 9]) (.ret)) (.skip))) (.seq (.seq (oR [0] [oM 10 0,oT 11 (.len false) 10,oI 12 .mv [oK 0]]) (.block 0 []
 (.loop [12,0,10,11] zKj))) (.seq (oR [] [oI 2 .mv [.const (.nili)]]) (.ret))))
def zIF : AF:={ results:=[.tmp 2],body:=b_graph_Check }
def b_graph_Text : AC:=.seq (oR [0] [oI 2 .mv [.const (.nili)]]) (.seq (.seq (oR [0] [oM 6 0,oT 7 (.len true) 6,oI 8 (.bin .gtr) [.tmp 7,oK 200]]) (oC 8
 (.seq (oR [] [oI 9 (.mkIface zS) [oK 4],oM 2 9]) (.ret)) (.skip))) (.seq (.seq (oR [0] [oM 10 0,oT 11 (.call zAb true) 10,oT 12 (.un
 .not) 11]) (oC 12 (.seq (oR [0] [oM 14 0,oT 15 (.call zAs true) 14,oM 13 15,oT 16 (.extract 0) 13,oT 17 (.extract 1) 13,oT 18 (.extract 2) 13,
 oA 3 oZ,oS 12 3 16,oM 4 17,oM 5 18]) (.seq (oR [5] [oM 19 5,oI 20 (.eqn .iface true true) [.tmp 19,.const (.nili)]]) (oC 20 (.seq (oR [] [oI 21 (.mkIface
 zS) [oK 2],oM 2 21]) (.ret)) (.skip)))) (.skip))) (.seq (oR [] [oI 2 .mv [.const (.nili)]]) (.ret))))
def zJW : AF:={ results:=[.tmp 2],body:=b_graph_Text }
def zIG : AC:=.seq (.seq (oR [1,0,5] [oM 11 5,oM 12 0,oT 13 (.len false) 12,oD 14 (.bin .lss) 11 13]) (oC 14 (.skip) (.exit 0))) (.seq
 (.block 1 [1,0,5] (.seq (.reg [1,0,5] true [oM 17 0,oM 18 5,oD 19 (.idxAddr 3) 17 18,oL 20 3 true 19,oM 21 1,oM 22 5,oD 23 (.idxAddr 3) 21 22,oL 24 3
 true 23,⟨some 25,none,.eqs true [.int .i64,.int .i64,.str],[.tmp 20,.tmp 24]⟩]) (oC 25 (.seq (oR [] [oI 4 .mv [oB false]]) (.ret)) (.skip)))) (oR [1,0,
 5] [oM 15 5,oI 16 (.bin .add) [.tmp 15,oK 1],oM 5 16]))
def zJi : AC:=.seq (oR [1,0] [oI 4 .mv [oB false]]) (.seq (.seq (oR [1,0] [oM 6 0,oT 7 (.len false) 6,oM 8 1,oT 9 (.len false) 8,oD 10 (.bin
 .neq) 7 9]) (oC 10 (.seq (oR [] [oI 4 .mv [oB false]]) (.ret)) (.skip))) (.seq (.seq (oR [1,0] [oI 5 .mv [oK 0]]) (.block 0 [] (.loop [5,1,0]
 zIG))) (.seq (oR [] [oI 4 .mv [oB true]]) (.ret))))
def zF4 : AF:={ results:=[.tmp 4],body:=zJi }
def zG7 : AC:=.seq (.seq (oR [4,5,0,1] [oM 11 0,oN 12 11,oF 13 3 12,oL 14 1 false 13,oI 15 (.bin .eql) [.tmp 14,oK 0]]) (oC 15 (.skip)
 (.exit 0))) (.block 1 [4,5,0,1] (.seq (.regt [4,5,0,1] true [oM 16 0,oN 17 16,oF 18 0 17,oL 19 1 false 18,oM 20 0,oN 21 20,oF 22 1 21,oL 23 1 false
 22,oD 24 (.call zV true) 19 23,oA 6 [.int .i64 0,.int .i64 0,.int .i64 0,.str []],oS 4 6 24] (.step 0 (.step 1 (.step 2 (.step 3 (.step 4
 (.step 5 (.step 6 (.step 7 (.alt (.step 8 (.step 9 (.step 10 (.done)))) (.step 9 (.step 8 (.step 10 (.done)))))))))))))) (.seq (oR [4,5,0,1,6] [oI 7 .mv [oK
 0]]) (.seq (.seq (oR [4,5,0,1,6,7] [oF 25 0 6,oL 26 1 false 25,oI 27 (.bin .eql) [.tmp 26,oK 4]]) (oC 27 (oR [4,5,0,1,6] [oF 28 3 6,oL 29 1 false
 28,oT 30 (.call zBz true) 29,oM 7 30]) (.skip))) (.seq (.seq (oR [4,5,0,1,7,6] [oM 31 7,oI 32 (.bin .eql) [.tmp 31,oK 0],oM 33 32,oG 34 33
 false .mv [.tmp 7],oG 35 33 false (.call zA7 true) [.tmp 34],oG 36 33 false .mv [.tmp 1],oG 37 33 false (.bin .lss) [.tmp 35,.tmp 36],oI 38
 .pick [.tmp 33,oB true,.tmp 37]]) (.cond (.tmp 38) (.seq (oR [4,5] [oL 39 12 true 5,oS 12 4 39]) (.ret)) (.skip))) (.seq (oR [4,5,0,1,7,6] [oM 40 0,oF
 41 2 6,oL 42 1 false 41,oN 43 40,oF 44 1 43,oS 1 44 42]) (.seq (oR [4,5,0,1,7] [oM 45 0,oM 46 7,oT 47 (.call zA7 true) 46,oI 48 (.bin
 .add) [.tmp 47,oK 1],oD 49 (.call zW false) 45 48,oA 8 oZ,oS 12 8 49]) (oR [4,5,0,1,8,7] [oM 50 7,oL 51 12 true 5,oL 52 12 true 8,oD
 53 (.bslice 12) 51 52,⟨some 54,none,.build oZ [(0,1),(1,1),(11,1)],[oK 8,.tmp 50,.tmp 53]⟩,oS 12 5 54]))))))))
def zIH : AC:=.seq (oR [0,1] [oA 4 oZ]) (.seq (oR [4,0,1] [oM 9 0,oT 10 (.call zAB false) 9,oA 5 oZ,oS 12 5 10]) (.seq
 (.block 0 [4] (.loop [4,5,0,1] zG7)) (.seq (oR [4] [⟨some 55,none,.build oZ [],[]⟩,oS 12 4 55]) (.ret))))
def zBN : AF:={ results:=[.cell 4 12 true],body:=zIH }
def zI3 : AC:=.seq (.seq (oR [4,0,1] [oM 14 1,oM 15 0,oT 16 (.len true) 15,oD 17 (.bin .lss) 14 16,oM 18 17,oG 19 18 true .mv [.tmp 0],oG
 20 18 true .mv [.tmp 1],oG 21 18 true .idxStr [.tmp 19,.tmp 20],oG 22 18 true (.bin .eql) [.tmp 21,.const (.int .u8 32)],oI 23 .pick [.tmp 18,.tmp 22,oB
 false]]) (oC 23 (.skip) (.exit 0))) (.block 1 [1,4,0] (oR [4,0,1] [oM 24 1,oI 25 (.bin .add) [.tmp 24,oK 1],oM 1 25]))
def zI4 : AC:=.seq (.seq (oR [4,1,0,7] [oM 40 7,oM 41 0,oT 42 (.len true) 41,oD 43 (.bin .lss) 40 42,oM 44 43,oG 45 44 true .mv [.tmp 0],
 oG 46 44 true .mv [.tmp 7],oG 47 44 true .idxStr [.tmp 45,.tmp 46],oG 48 44 true (.call zBF true) [.tmp 47],oI 49 .pick [.tmp 44,.tmp 48,oB
 false]]) (oC 49 (.skip) (.exit 2))) (.block 3 [7,4,1,0] (oR [4,1,0,7] [oM 50 7,oI 51 (.bin .add) [.tmp 50,oK 1],oM 7 51]))
def zI5 : AC:=.seq (.seq (oR [4,1,0,9,8] [oM 63 9,oM 64 0,oT 65 (.len true) 64,oD 66 (.bin .lss) 63 65]) (oC 66 (.skip) (.exit 4)))
 (.block 5 [9,8,4,1,0] (.seq (.seq (oR [4,1,0,9,8] [oM 67 0,oM 68 9,oD 69 .idxStr 67 68,oI 70 (.bin .eql) [.tmp 69,.const (.int .u8 34)]]) (oC 70
 (.seq (.seq (oR [4,1,0,9,8] [oM 71 9,oI 72 (.bin .add) [.tmp 71,oK 1],oM 73 0,oT 74 (.len true) 73,oD 75 (.bin .lss) 72 74,oM 76 75,oG 77 76 true .mv
 [.tmp 0],oG 78 76 true .mv [.tmp 9],oG 79 76 true (.bin .add) [.tmp 78,oK 1],oG 80 76 true .idxStr [.tmp 77,.tmp 79],oG 81 76 true (.bin .eql) [.tmp 80,
 .const (.int .u8 34)],oI 82 .pick [.tmp 76,.tmp 81,oB false]]) (oC 82 (.seq (oR [4,1,0,9,8] [oM 83 8,oI 84 (.bslice 1) [.const (.int .u8 34)],oD 85
 (.append 1 1) 83 84,oM 8 85]) (.seq (oR [8,4,1,0,9] [oM 86 9,oI 87 (.bin .add) [.tmp 86,oK 2],oM 9 87]) (.exit 5))) (.skip))) (.seq (oR [4,8,9,1] [oM
 88 1,oM 89 9,oI 90 (.bin .add) [.tmp 89,oK 1],oM 91 8,oT 92 .bytesToStr 91,⟨some 93,none,.build [.int .i64 0,.int .i64 0,.int .i64 0,.str []] [(0,1),
 (1,1),(2,1),(3,1)],[oK 2,.tmp 88,.tmp 90,.tmp 92]⟩,oS 4 4 93]) (.ret))) (.skip))) (.seq (oR [4,1,0,9,8] [oM 94 8,oM 95 0,oM 96 9,oD 97 .idxStr
 95 96,oT 98 (.bslice 1) 97,oD 99 (.append 1 1) 94 98,oM 8 99]) (oR [8,4,1,0,9] [oM 100 9,oI 101 (.bin .add) [.tmp 100,oK 1],oM 9 101]))))
def zI6 : AC:=.seq (.seq (oR [4,11,10,1,0] [oM 108 11,oM 109 10,oT 110 (.len false) 109,oD 111 (.bin .lss) 108 110]) (.cond (.tmp 111)
 (.skip) (.exit 6))) (.seq (.block 7 [4,10,1,0,11] (.seq (oR [4,11,10,1,0] [oM 114 10,oM 115 11,oD 116 (.idxAddr 1) 114 115,oL 117 1 false 116,oT 118
 (.len true) 117,oM 12 118]) (.seq (.reg [4,11,10,12,1,0] true [oM 119 1,oM 120 12,oD 121 (.bin .add) 119 120,oM 122 0,oT 123 (.len true) 122,oD 124
 (.bin .leq) 121 123,oM 125 124,oG 126 125 true .mv [.tmp 0],oG 127 125 true .mv [.tmp 1],oG 128 125 true .mv [.tmp 1],oG 129 125 true .mv [.tmp 12],oG 130
 125 true (.bin .add) [.tmp 128,.tmp 129],oG 131 125 true (.slc none true true) [.tmp 126,.tmp 127,.tmp 130],oG 132 125 true .mv [.tmp 10],oG 133 125 true
 .mv [.tmp 11],oG 134 125 true (.idxAddr 1) [.tmp 132,.tmp 133],oG 135 125 true (.load 1 false) [.tmp 134],oG 136 125 true (.bin .eql) [.tmp 131,.tmp 135],
 oI 137 .pick [.tmp 125,.tmp 136,oB false]]) (oC 137 (.seq (oR [4,11,10,12,1] [oM 138 1,oM 139 1,oM 140 12,oD 141 (.bin .add) 139 140,oM 142 10,oM 143
 11,oD 144 (.idxAddr 1) 142 143,oL 145 1 false 144,⟨some 146,none,.build [.int .i64 0,.int .i64 0,.int .i64 0,.str []] [(0,1),(1,1),(2,1),(3,1)],
 [oK 3,.tmp 138,.tmp 141,.tmp 145]⟩,oS 4 4 146]) (.ret)) (.skip))))) (oR [4,10,1,0,11] [oM 112 11,oI 113 (.bin .add) [.tmp 112,oK 1],oM 11 113]))
def zKk : AC:=.seq (oR [1,0] [oA 4 [.int .i64 0,.int .i64 0,.int .i64 0,.str []]]) (.seq (.block 0 [4,1,0] (.loop [1,4,0]
 zI3)) (.seq (.seq (oR [4,1,0] [oM 26 1,oM 27 0,oT 28 (.len true) 27,oD 29 (.bin .eql) 26 28]) (oC 29 (.seq (oR [4,1] [oM 30 1,oM 31 1,⟨some
 32,none,.build [.int .i64 0,.int .i64 0,.int .i64 0,.str []] [(0,1),(1,1),(2,1)],[oK 0,.tmp 30,.tmp 31]⟩,oS 4 4 32]) (.ret)) (.skip))) (.seq (oR
 [4,1,0] [oM 33 0,oM 34 1,oD 35 .idxStr 33 34,oM 5 35]) (.seq (oR [4,1,0,5] [oM 36 5,oT 37 (.call zBF true) 36,oM 6 37]) (.seq (.seq (oR
 [4,1,0,5,6] [oM 38 6]) (oC 38 (.seq (oR [4,1,0] [oM 39 1,oM 7 39]) (.seq (.block 2 [4,7,1,0] (.loop [7,4,1,0] zI4)) (.seq (oR [4,7,
 1,0] [oM 52 1,oM 53 7,oM 54 0,oM 55 1,oM 56 7,oI 57 (.slc none true true) [.tmp 54,.tmp 55,.tmp 56],⟨some 58,none,.build [.int .i64 0,.int .i64 0,
 .int .i64 0,.str []] [(0,1),(1,1),(2,1),(3,1)],[oK 1,.tmp 52,.tmp 53,.tmp 57]⟩,oS 4 4 58]) (.ret)))) (.skip))) (.seq (.seq (oR [4,1,0,5] [oM 59
 5,oI 60 (.bin .eql) [.tmp 59,.const (.int .u8 34)]]) (oC 60 (.seq (oR [4,1,0] [oI 8 .mv [.const (.lst (some true) 0 [])]]) (.seq (oR [8,4,1,0] [oM 61 1,
 oI 62 (.bin .add) [.tmp 61,oK 1],oM 9 62]) (.seq (.block 4 [4,1] (.loop [9,8,4,1,0] zI5)) (.seq (oR [4,1] [oM 102 1,oM 103 1,⟨some 104,
 none,.build [.int .i64 0,.int .i64 0,.int .i64 0,.str []] [(0,1),(1,1),(2,1)],[oK 9,.tmp 102,.tmp 103]⟩,oS 4 4 104]) (.ret))))) (.skip))) (.seq
 (.seq (oR [4,1,0,5] [oM 105 5,oI 106 (.bin .eql) [.tmp 105,.const (.int .u8 35)]]) (oC 106 (.seq (.reg [4,1,0] false [oI 107 (.call zAv true)
 [],oM 10 107]) (.seq (.seq (oR [4,10,1,0] [oI 11 .mv [oK 1]]) (.block 6 [4,1] (.loop [4,11,10,1,0] zI6))) (.seq (oR [4,1] [oM 147 1,oM
 148 1,⟨some 149,none,.build [.int .i64 0,.int .i64 0,.int .i64 0,.str []] [(0,1),(1,1),(2,1)],[oK 9,.tmp 147,.tmp 148]⟩,oS 4 4 149]) (.ret))))
 (.skip))) (.seq (.seq (oR [4,1,0] [oM 150 1,oI 151 (.bin .add) [.tmp 150,oK 2],oM 152 0,oT 153 (.len true) 152,oD 154 (.bin .leq) 151 153]) (oC 154 (.seq
 (oR [4,1,0] [oM 155 0,oM 156 1,oM 157 1,oI 158 (.bin .add) [.tmp 157,oK 2],oI 159 (.slc none true true) [.tmp 155,.tmp 156,.tmp 158],oM 13 159]) (.seq
 (oR [4,13,1,0] [oM 160 13,oI 161 (.bin .eql) [.tmp 160,.const (.str [60,62])],oM 162 161,oG 163 162 false .mv [.tmp 13],oG 164 162 false (.bin .eql)
 [.tmp 163,.const (.str [60,61])],oI 165 .pick [.tmp 162,oB true,.tmp 164],oM 166 165,oG 167 166 false .mv [.tmp 13],oG 168 166 false (.bin .eql) [.tmp
 167,.const (.str [62,61])],oI 169 .pick [.tmp 166,oB true,.tmp 168]]) (oC 169 (.seq (oR [4,13,1] [oM 170 1,oM 171 1,oI 172 (.bin .add) [.tmp 171,oK 2],
 oM 173 13,⟨some 174,none,.build [.int .i64 0,.int .i64 0,.int .i64 0,.str []] [(0,1),(1,1),(2,1),(3,1)],[oK 4,.tmp 170,.tmp 172,.tmp 173]⟩,oS 4
 4 174]) (.ret)) (.skip)))) (.skip))) (.seq (oR [4,1,0] [oM 175 1,oM 176 1,oI 177 (.bin .add) [.tmp 176,oK 1],oM 178 0,oM 179 1,oM 180 1,oI 181 (.bin
 .add) [.tmp 180,oK 1],oI 182 (.slc none true true) [.tmp 178,.tmp 179,.tmp 181],⟨some 183,none,.build [.int .i64 0,.int .i64 0,.int .i64 0,.str []]
 [(0,1),(1,1),(2,1),(3,1)],[oK 4,.tmp 175,.tmp 177,.tmp 182]⟩,oS 4 4 183]) (.ret))))))))))
def zD4 : AF:={ results:=[.cell 4 4 true],body:=zKk }
def zI7 : AC:=.seq (oR [2,0,1] [oM 6 0,oN 7 6,oF 8 3 7,oL 9 1 false 8,oI 10 (.bin .eql) [.tmp 9,oK 0]]) (oC 10 (.seq (oR [2,0,1] [oM 11
 0,oM 12 1,oN 13 11,oF 14 2 13,oS 1 14 12]) (oR [2,0] [oM 15 0,oM 16 2,oN 17 15,oF 18 3 17,oS 1 18 16])) (.skip))
def zDP : AF:={ results:=[],body:=zI7 }
def b_addr_Check : AC:=.seq (oR [0] [oT 1 .box 0,oI 2 .mv [.const (.nili)]]) (.seq (.seq (oR [1] [oL 3 2 true 1,oT 4 (.call zID true) 3,oT 5 (.un
 .not) 4]) (oC 5 (.seq (oR [] [oI 6 (.mkIface zS) [oK 1],oM 2 6]) (.ret)) (.skip))) (.seq (oR [] [oI 2 .mv [.const (.nili)]]) (.ret)))
def zJX : AF:={ results:=[.tmp 2],body:=b_addr_Check }
def b_addr_Less : AC:=.seq (oR [1,0] [oT 2 .box 0,oT 3 .box 1,oI 4 .mv [oB false]]) (.seq (oR [3,2] [oL 5 2 true 2,oL 6 2 true 3,oD 7 (.call
 zDT true) 5 6,oI 8 (.bin .lss) [.tmp 7,oK 0],oM 4 8]) (.ret))
def zKl : AF:={ results:=[.tmp 4],body:=b_addr_Less }
def zII : AC:=.seq (oR [0] [oI 2 .mv [oB false]]) (.seq (oR [0] [oM 3 0,oI 4 (.call zAN true) [.tmp 3,.const (.str [61])],oT
 5 (.un .not) 4,oM 2 5]) (.ret))
def zDB : AF:={ results:=[.tmp 2],body:=zII }
def zDC : AC:=.seq (oR [0] [oA 2 oZ,oA 3 [.int .i64 0],oA 4 [.nili]]) (.seq (.seq (oR [2,3,4,0] [oM 6 0,oT 7 (.len true) 6,oI 8 (.bin .gtr)
 [.tmp 7,oK 200]]) (oC 8 (.seq (oR [2,3,4] [⟨some 9,none,.build oZ [],[]⟩,oI 10 (.mkIface zS) [oK 4],oS 12 2 9,oJ (.store 1) [.tmp 3,oK 0],oS
 1 4 10]) (.ret)) (.skip))) (.seq (oR [2,3,4,0] [oI 11 (.mkFn zAL 0) [.tmp 2,.tmp 3,.tmp 4],oJ .stuck []]) (.seq (oR [2,3,4,0] [oM 12 0,
 ⟨some 13,none,.build [.str [],.int .i64 0,.int .i64 0] [(0,1)],[.tmp 12]⟩,oT 14 .box 13,oM 5 14]) (.seq (.seq (oR [2,3,4,5,0] [oM 15 0,oT 16 (.call
 zAb true) 15]) (oC 16 (.regt [2,3,4,5,0] false [oM 17 5,oI 18 (.mkIface zS) [oK 2],oI 19 (.callp zX) [.tmp 17,
 oK 0,.tmp 18]] (.step 0 (.step 1 (.step 2 (.done))))) (.skip))) (.seq (oR [2,3,4,5,0] [oM 20 5,oN 21 20,oF 22 1 21,oL 23 1 false 22,oI 24 (.bin .add)
 [.tmp 23,oK 1],oN 25 20,oF 26 1 25,oS 1 26 24]) (.seq (.regt [2,3,4,5,0] false [oM 27 5,oI 28 (.callp zi) [.tmp 27,oK 0],oS 12 2
 28] (.step 0 (.step 1 (.step 2 (.done))))) (.seq (.seq (oR [2,3,4,5,0] [oM 29 5,oT 30 (.call za false) 29]) (.seq (oR [2,3,4,5,0]
 [oM 31 5,oN 32 31,oF 33 1 32,oL 34 1 false 33,oM 35 0,oT 36 (.len true) 35,oD 37 (.bin .lss) 34 36]) (oC 37 (.regt [2,3,4,5] false [oM 38 5,oM 39 5,oN
 40 39,oF 41 1 40,oL 42 1 false 41,oI 43 (.mkIface zS) [oK 2],oI 44 (.callp zX) [.tmp 38,.tmp 42,.tmp 43]] (.step 0 (.step 1
 (.step 2 (.step 3 (.step 4 (.step 5 (.step 6 (.done))))))))) (.skip)))) (.seq (oR [2,3,4] [oL 45 12 true 2,oS 12 2 45,oJ (.store 1) [.tmp 3,oK 0],oJ
 (.store 1) [.tmp 4,.const (.nili)]]) (.ret)))))))))
def zA8 : AF:={ results:=[.cell 2 12 true,.cell 3 1 false,.cell 4 1 false],body:=zDC }
def zF5 : AC:=.seq (oR [0] [oA 2 oZ]) (.seq (.regt [2,0] true [oM 15 0,oN 16 15,oF 17 0 16,oL 18 1 false 17,oM 19 0,oN 20 19,oF 21 1 20,oL
 22 1 false 21,oD 23 (.call zV true) 18 22,⟨some 3,none,.alloc [.int .i64 0,.int .i64 0,.int .i64 0,.str []],[]⟩,oS 4 3 23] (.step 0 (.step
 1 (.step 2 (.step 3 (.step 4 (.step 5 (.step 6 (.step 7 (.alt (.step 8 (.step 9 (.step 10 (.done)))) (.step 9 (.step 8 (.step 10 (.done)))))))))))))) (.seq (oR
 [2,3,0] [oM 24 0,oF 25 2 3,oL 26 1 false 25,oN 27 24,oF 28 1 27,oS 1 28 26]) (.seq (.seq (oR [2,3,0] [oF 29 0 3,oL 30 1 false 29]) (.block 0 [2,3,0]
 (.seq (oR [2,3,0,30] [oI 32 (.bin .eql) [.tmp 30,oK 1],oM 31 32]) (oC 31 (.seq (oR [2,3,0] [oF 33 3 3,oL 34 1 false 33,oT 35 (.call zh
 true) 34,oM 4 35]) (.seq (.seq (.reg [2,3,0,4] true [oM 36 4,oM 37 36,oG 38 37 true (.fieldAddr 2) [.tmp 3],oG 39 37 true (.load 1 false) [.tmp 38],oG 40
 37 true .mv [.tmp 0],oG 41 37 true .nilchk [.tmp 40],oG 42 37 true (.fieldAddr 0) [.tmp 41],oG 43 37 true (.load 1 false) [.tmp 42],oG 44 37 true (.len true)
 [.tmp 43],oG 45 37 true (.bin .lss) [.tmp 39,.tmp 44],oI 46 .pick [.tmp 37,.tmp 45,oB false],oM 47 46,oG 48 47 true .mv [.tmp 0],oG 49 47 true .nilchk
 [.tmp 48],oG 50 47 true (.fieldAddr 0) [.tmp 49],oG 51 47 true (.load 1 false) [.tmp 50],oG 52 47 true (.fieldAddr 2) [.tmp 3],oG 53 47 true (.load 1 false)
 [.tmp 52],oG 54 47 true .idxStr [.tmp 51,.tmp 53],oG 55 47 true (.bin .eql) [.tmp 54,.const (.int .u8 40)],oI 56 .pick [.tmp 47,.tmp 55,oB false]]) (oC 56
 (.seq (oR [2,3,0] [oM 57 0,oF 58 1 3,oL 59 1 false 58,oD 60 (.call ze false) 57 59,oM 5 60]) (.seq (.seq (oR [2,3,0,5] [oM 61 5,oT 62
 (.un .not) 61]) (oC 62 (.seq (oR [2] [⟨some 63,none,.build oZ [],[]⟩,oS 12 2 63]) (.ret)) (.skip))) (.seq (oR [2,3,0] [oM 64 0,oF 65 3 3,oL 66 1 false
 65,oD 67 (.call zBe false) 64 66,oS 12 2 67]) (.ret)))) (.skip))) (.seq (oR [2,3,0] [oF 69 3 3,oL 70 1 false 69,oI 71 (.call zT
 true) [.tmp 70,oB false],oM 68 71,oT 72 (.extract 0) 68,oT 73 (.extract 1) 68,oM 6 72,oM 7 73]) (.seq (.seq (oR [2,6,3,0,7] [oM 74 7]) (oC 74 (.seq (oR
 [2,6] [oM 75 6,⟨some 76,none,.build oZ [(0,1),(1,1)],[oK 1,.tmp 75]⟩,oS 12 2 76]) (.ret)) (.skip))) (.seq (.seq (oR [2,3,0] [oF 77 3 3,oL 78 1 false
 77,oI 79 (.bin .eql) [.tmp 78,.const (.str [84,82,85,69])]]) (oC 79 (.seq (oR [2] [⟨some 80,none,.build oZ [(0,1),(1,1)],[oK 3,oK 1]⟩,oS 12 2 80])
 (.ret)) (.skip))) (.seq (.seq (oR [2,3,0] [oF 81 3 3,oL 82 1 false 81,oI 83 (.bin .eql) [.tmp 82,.const (.str [70,65,76,83,69])]]) (oC 83 (.seq (oR [2]
 [⟨some 84,none,.build oZ [(0,1)],[oK 3]⟩,oS 12 2 84]) (.ret)) (.skip))) (.seq (oR [2,3,0] [oF 86 3 3,oL 87 1 false 86,oT 88 (.call zj true)
 87,oM 85 88,oT 89 (.extract 0) 85,oT 90 (.extract 1) 85,oA 8 [.int .i64 0,.int .i64 0,.bool false,.bool false],oS 4 8 89,oM 7 90]) (.seq (oR [2,8,3,
 0,7] [oM 91 7]) (oC 91 (.seq (oR [2,8] [oL 92 4 true 8,⟨some 93,none,.build oZ [(0,1),(3,4)],[oK 5,.tmp 92]⟩,oS 12 2 93]) (.ret)) (.skip))))))))))
 (.seq (oR [2,3,0,30] [oI 95 (.bin .eql) [.tmp 30,oK 2],oM 94 95]) (oC 94 (.seq (oR [2,3] [oF 96 3 3,oL 97 1 false 96,⟨some 98,none,.build oZ [(0,1),
 (2,1)],[oK 2,.tmp 97]⟩,oS 12 2 98]) (.ret)) (.seq (oR [2,3,0,30] [oI 100 (.bin .eql) [.tmp 30,oK 3],oM 99 100]) (oC 99 (.seq (oR [2,3] [oF 102 3 3,oL
 103 1 false 102,oT 104 (.call zBf true) 103,oM 101 104,oT 105 (.extract 0) 101,oT 106 (.extract 1) 101,oA 9 [.int .i64 0,.int .i64 0,.str []],
 oS 3 9 105,oM 10 106]) (.seq (oR [2,9] [oF 107 1 9,oL 108 1 false 107,⟨some 109,none,.build oZ [(0,1),(1,1)],[oK 4,.tmp 108]⟩,oS 12 2 109]) (.ret)))
 (.seq (.reg [2,0,3,30] false [oI 111 (.bin .eql) [.tmp 30,oK 4],oM 110 111]) (oC 110 (.seq (.seq (oR [2,0,3] [oF 112 3 3,oL 113 1 false 112,oI 114 (.bin
 .eql) [.tmp 113,.const (.str [45])]]) (oC 114 (.seq (oR [2,0,3] [oM 115 0,oF 116 1 3,oL 117 1 false 116,oD 118 (.call ze false) 115 117,
 oM 11 118]) (.seq (.seq (oR [2,0,11] [oM 119 11,oT 120 (.un .not) 119]) (oC 120 (.seq (.reg [2] false [⟨some 121,none,.build oZ [],[]⟩,oS 12 2 121])
 (.ret)) (.skip))) (.seq (oR [2,0] [oM 122 0,oT 123 (.call zAB false) 122,oA 12 oZ,oS 12 12 123]) (.seq (oR [2,12,0] [oM 124 0,oN 125 124,oF
 126 4 125,oL 127 1 false 126,oI 128 (.bin .sub) [.tmp 127,oK 1],oN 129 124,oF 130 4 129,oS 1 130 128]) (.seq (oR [2,12] [oL 131 12 true 12,oT 132
 (.bslice 12) 131,⟨some 133,none,.build oZ [(0,1),(11,1)],[oK 7,.tmp 132]⟩,oS 12 2 133]) (.ret)))))) (.skip))) (.seq (oR [2,0,3] [oF 134 3 3,oL 135 1
 false 134,oI 136 (.bin .eql) [.tmp 135,.const (.str [40])]]) (oC 136 (.seq (oR [2,0,3] [oM 137 0,oF 138 1 3,oL 139 1 false 138,oD 140 (.call
 ze false) 137 139,oM 13 140]) (.seq (.seq (oR [2,0,13] [oM 141 13,oT 142 (.un .not) 141]) (oC 142 (.seq (oR [2] [⟨some 143,none,.build oZ
 [],[]⟩,oS 12 2 143]) (.ret)) (.skip))) (.seq (oR [2,0] [oM 144 0,oI 145 (.call zW false) [.tmp 144,oK 1],⟨some 14,none,.alloc oZ,[]⟩,oS
 12 14 145]) (.seq (oR [2,14,0] [oM 146 0,oT 147 (.call zb false) 146]) (.seq (oR [2,14] [oL 148 12 true 14,oS 12 2 148]) (.ret))))))
 (.skip)))) (.skip))))))))))) (.seq (oR [2,3,0] [oM 149 0,oF 150 1 3,oL 151 1 false 150,oI 152 (.call zd false) [.tmp 149,.tmp 151,oK 2]])
 (.seq (oR [2] [⟨some 153,none,.build oZ [],[]⟩,oS 12 2 153]) (.ret))))))
def zQ : AF:={ results:=[.cell 2 12 true],body:=zF5 }
def zJj : AC:=.seq (.seq (oR [4,0,3] [oM 6 4,oM 7 3,oT 8 (.len false) 7,oD 9 (.bin .lss) 6 8]) (oC 9 (.skip) (.exit 0))) (.seq (.block 1 [0,
 3,4] (.seq (oR [4,0,3] [oM 12 3,oM 13 4,oD 14 (.idxAddr 1) 12 13,oL 15 1 false 14,oM 16 0,oD 17 (.bin .eql) 15 16]) (oC 17 (.seq (oR [4] [oM 18 4,oM 2
 18]) (.ret)) (.skip)))) (oR [0,3,4] [oM 10 4,oI 11 (.bin .add) [.tmp 10,oK 1],oM 4 11]))
def b_sccref1_Sign : AC:=.seq (oR [0] [oI 2 .mv [oK 0]]) (.seq (oR [0] [oI 5 (.bslice 1) [.const (.str []),.const (.str [61]),.const (.str [60,62]),.const
 (.str [60]),.const (.str [60,61]),.const (.str [62]),.const (.str [62,61]),.const (.str [38]),.const (.str [43]),.const (.str [45]),.const (.str [42]),
 .const (.str [47])],oM 3 5]) (.seq (.seq (oR [0,3] [oI 4 .mv [oK 1]]) (.block 0 [] (.loop [4,0,3] zJj))) (.seq (oR [] [oI 2 .mv [oK 0]])
 (.ret))))
def zEq : AF:={ results:=[.tmp 2],body:=b_sccref1_Sign }
def zKm : AC:=.seq (oR [0] [oI 2 .mv [oK 0]]) (.seq (.seq (oR [0] [oM 3 0,oI 4 (.bin .leq) [.tmp 3,oK 6]]) (oC 4 (.seq (oR [] [oI 2 .mv [oK 1]])
 (.ret)) (.skip))) (.seq (.seq (oR [0] [oM 5 0,oI 6 (.bin .eql) [.tmp 5,oK 7]]) (oC 6 (.seq (oR [] [oI 2 .mv [oK 2]]) (.ret)) (.skip))) (.seq (.seq (oR [0] [oM
 7 0,oI 8 (.bin .leq) [.tmp 7,oK 9]]) (oC 8 (.seq (.reg [] false [oI 2 .mv [oK 3]]) (.ret)) (.skip))) (.seq (oR [] [oI 2 .mv [oK 4]]) (.ret)))))
def zD5 : AF:={ results:=[.tmp 2],body:=zKm }
def zJk : AC:=.seq (oR [0] [oI 2 .mv [oB false]]) (.seq (oR [0] [oM 3 0,oI 4 (.bin .eql) [.tmp 3,.const (.int .u8 36)],oM 5 4,oG 6 5 false .mv
 [.tmp 0],oG 7 5 false (.bin .geq) [.tmp 6,.const (.int .u8 48)],oG 8 5 false .mv [.tmp 7],oG 9 8 true .mv [.tmp 0],oG 10 8 true (.bin .leq) [.tmp 9,.const
 (.int .u8 57)],oG 11 5 false .pick [.tmp 8,.tmp 10,oB false],oI 12 .pick [.tmp 5,oB true,.tmp 11],oM 13 12,oG 14 13 false .mv [.tmp 0],oG 15 13 false
 (.bin .geq) [.tmp 14,.const (.int .u8 65)],oG 16 13 false .mv [.tmp 15],oG 17 16 true .mv [.tmp 0],oG 18 16 true (.bin .leq) [.tmp 17,.const (.int .u8 90)],
 oG 19 13 false .pick [.tmp 16,.tmp 18,oB false],oI 20 .pick [.tmp 13,oB true,.tmp 19],oM 21 20,oG 22 21 false .mv [.tmp 0],oG 23 21 false (.bin .geq)
 [.tmp 22,.const (.int .u8 97)],oG 24 21 false .mv [.tmp 23],oG 25 24 true .mv [.tmp 0],oG 26 24 true (.bin .leq) [.tmp 25,.const (.int .u8 122)],oG 27 21
 false .pick [.tmp 24,.tmp 26,oB false],oI 28 .pick [.tmp 21,oB true,.tmp 27],oM 2 28]) (.ret))
def zCj : AF:={ results:=[.tmp 2],body:=zJk }
def zJl : AC:=.seq (oR [] [oI 0 .mv [.const (.lst (some true) 0 [])]]) (.seq (oR [] [oI 1 (.bslice 1) [.const (.str []),.const (.str [35,68,73,
 86,33]),.const (.str [35,86,65,76,85,69,33]),.const (.str [35,82,69,70,33]),.const (.str [35,78,65,77,69,33]),.const (.str [35,78,85,77,
 33]),.const (.str [35,78,79,78,69,33])],oM 0 1]) (.ret))
def zDg : AF:={ results:=[.tmp 0],body:=zJl }
def b_addr_ok : AC:=.seq (oR [0] [oT 1 .box 0,oI 2 .mv [oB false]]) (.seq (oR [1] [oF 3 0 1,oL 4 1 false 3,oI 5 (.bin .geq) [.tmp 4,oK 1],oM 6 5,oG 7 6
 true (.fieldAddr 0) [.tmp 1],oG 8 6 true (.load 1 false) [.tmp 7],oG 9 6 true (.bin .leq) [.tmp 8,oK 26],oI 10 .pick [.tmp 6,.tmp 9,oB false],oM 11 10,oG
 12 11 true (.fieldAddr 1) [.tmp 1],oG 13 11 true (.load 1 false) [.tmp 12],oG 14 11 true (.bin .geq) [.tmp 13,oK 1],oI 15 .pick [.tmp 11,.tmp 14,oB false],
 oM 16 15,oG 17 16 true (.fieldAddr 1) [.tmp 1],oG 18 16 true (.load 1 false) [.tmp 17],oG 19 16 true (.bin .leq) [.tmp 18,oK 99],oI 20 .pick [.tmp 16,.tmp
 19,oB false],oM 2 20]) (.ret))
def a_addr_ok : AF:={ results:=[.tmp 2],body:=b_addr_ok }
def b_addr_Compare : AC:=.seq (oR [1,0] [oT 2 .box 0,oT 3 .box 1,oI 4 .mv [oK 0]]) (.seq (.reg [3,2] true [oF 5 1 2,oL 6 1 false 5,oF 7 1 3,oL 8 1 false
 7,oD 9 (.call zBK true) 6 8,oF 10 0 2,oL 11 1 false 10,oF 12 0 3,oL 13 1 false 12,oD 14 (.call zBK true) 11 13,oD 15
 (.bslice 1) 9 14,oT 16 (.call zDr true) 15,oM 4 16]) (.ret))
def zHR : AF:={ results:=[.tmp 4],body:=b_addr_Compare }
def zHh : AC:=.seq (oR [1,0] [oI 4 .mv [oB false]]) (.seq (oR [1,0] [oM 5 0,oM 6 1,oD 7 (.call zAF true) 5 6,oM 4 7])
 (.ret))
def zCo : AF:={ results:=[.tmp 4],body:=zHh }
def zEV : AC:=.seq (oR [2,1,0] [oI 6 .stuck [],oM 3 6]) (.seq (oR [2,1,0,3] [oM 7 3,oI 8 (.eqn .iface true true) [.tmp 7,.const
 (.nili)]]) (oC 8 (.seq (oR [2,1,0,3] [oM 10 3,oT 11 (.tyAs zC9) 10,oM 9 11,oT 12 (.extract 0) 9,oT 13 (.extract 1) 9,oA 4 [.int .i64 0,
 .nili],oS 2 4 12,oM 5 13]) (.seq (.seq (oR [2,1,0,4,3,5] [oM 14 5,oT 15 (.un .not) 14]) (.cond (.tmp 15) (.regt [2,1,0,4,3] false [oM 16 3,oJ .panic
 [.tmp 16]] (.step 0 (.step 1 (.done)))) (.skip))) (.regt [2,1,0,4] true [⟨some 17,none,.build oZ [],[]⟩,oF 18 0 4,oL 19 1 false 18,oF 20 1 4,oL 21 1
 false 20,oS 12 0 17,oS 1 1 19,oS 1 2 21] (.step 0 (.step 1 (.step 3 (.alt (.step 2 (.alt (.step 4 (.step 5 (.step 6 (.step 7 (.done))))) (.step 5 (.alt (.step
 4 (.step 6 (.step 7 (.done)))) (.step 6 (.step 4 (.step 7 (.done)))))))) (.alt (.step 4 (.alt (.step 2 (.step 5 (.step 6 (.step 7 (.done))))) (.step 5 (.step 2
 (.step 6 (.step 7 (.done))))))) (.step 5 (.step 2 (.alt (.step 4 (.step 6 (.step 7 (.done)))) (.step 6 (.step 4 (.step 7 (.done))))))))))))))) (.skip)))
def zDD : AF:={ results:=[],body:=zEV }
def zGB : AC:=.regt [2,1] false [oM 6 1,oM 7 2,⟨some 8,none,.build [.int .i64 0,.nili] [(0,1),(1,1)],[.tmp 6,.tmp 7]⟩,oT 9
 (.mkIface zC9) 8,oJ .panic [.tmp 9]] (.step 0 (.step 1 (.step 2 (.step 3 (.step 4 (.done))))))
def zB2 : AF:={ results:=[],body:=zGB }
def zDc : AC:=.seq (oR [0,1] [oA 4 oZ]) (.scope [5,1,0,4] 0 (.seq (.seq (oR [4,0,1] [oM 8 1,oI 9 (.bin .eql) [.tmp 8,oK 4]]) (oC 9
 (.seq (.regt [4,0] false [oM 10 0,oT 11 (.callp zAE) 10,oS 12 4 11] (.step 0 (.step 1 (.step 2 (.done))))) (.ret)) (.skip))) (.seq (.regt
 [1,0,4] false [oM 12 0,oM 13 1,oI 14 (.bin .add) [.tmp 13,oK 1],oD 15 (.callp zi) 12 14,oA 5 oZ,oS 12 5 15] (.step 0 (.step 1 (.step 2
 (.step 3 (.step 4 (.step 5 (.done)))))))) (.seq (.label) (.seq (oR [5,1,0,4] [oM 16 0,oT 17 (.call za false) 16]) (.seq (.seq (oR [5,
 1,0,4] [oM 18 1,oI 19 (.idxArr 1 4) [.glob zDA,.tmp 18],oL 20 1 false 19,oT 21 (.len false) 20,oI 22 .mv [oK 0]]) (.block 0 [4,5] (.loop [5,
 1,0,4,22,20,21] (.seq (.reg [5,1,0,4,20,21,22] false [oD 23 (.bin .lss) 22 21]) (.seq (oC 23 (.skip) (.exit 0)) (.seq (.block 1 [5,1,0,4,20,21,
 22] (.seq (.reg [5,1,0,4,20,21,22] false [oD 24 (.idxAddr 1) 20 22,oL 25 1 false 24,oM 7 25]) (.seq (.reg [5,1,0,4,7,20,21,22] true [oM 26 0,oN
 27 26,oF 28 0 27,oL 29 1 false 28,oM 30 0,oN 31 30,oF 32 1 31,oL 33 1 false 32,oD 34 (.slc none true false) 29 33,oM 35 7,oD 36 (.call
 zAN true) 34 35]) (oC 36 (.seq (oR [5,1,0,4,7] [oM 37 0,oN 38 37,oF 39 1 38,oL 40 1 false 39,oM 41 7,oT 42 (.len true) 41,oD 43 (.bin
 .add) 40 42,oN 44 37,oF 45 1 44,oS 1 45 43]) (.seq (.regt [5,1,0,4,7] true [oM 46 7,oT 47 (.call zB0 true) 46,oL 48 12 true 5,oM 49 0,oM 50
 1,oI 51 (.bin .add) [.tmp 50,oK 1],oD 52 (.callp zi) 49 51,oD 53 (.bslice 12) 48 52,⟨some 54,none,.build oZ [(0,1),(1,1),(11,1)],
 [oK 8,.tmp 47,.tmp 53]⟩,oS 12 5 54] (.step 0 (.step 1 (.step 3 (.step 4 (.step 5 (.alt (.step 2 (.step 6 (.step 7 (.step 8 (.step 9 (.done)))))) (.step 6
 (.step 2 (.step 7 (.step 8 (.step 9 (.done))))))))))))) (.goto 0))) (.skip))))) (oR [5,1,0,4,20,21,22] [oI 55 (.bin .add) [.tmp 22,oK 1],oM 22 55])))))))
 (.seq (oR [4,5] [oL 56 12 true 5,oS 12 4 56]) (.ret))))))) (.seq (.skip) (.seq (oR [5,1,0,4] [oM 16 0,oT 17 (.call za false) 16])
 (.seq (.seq (oR [5,1,0,4] [oM 18 1,oI 19 (.idxArr 1 4) [.glob zDA,.tmp 18],oL 20 1 false 19,oT 21 (.len false) 20,oI 22 .mv [oK 0]]) (.block
 0 [4,5] (.loop [5,1,0,4,22,20,21] (.seq (oR [5,1,0,4,20,21,22] [oD 23 (.bin .lss) 22 21]) (.seq (oC 23 (.skip) (.exit 0)) (.seq (.block 1 [5,1,0,
 4,20,21,22] (.seq (oR [5,1,0,4,20,21,22] [oD 24 (.idxAddr 1) 20 22,oL 25 1 false 24,oM 7 25]) (.seq (.reg [5,1,0,4,7,20,21,22] true [oM 26 0,
 oN 27 26,oF 28 0 27,oL 29 1 false 28,oM 30 0,oN 31 30,oF 32 1 31,oL 33 1 false 32,oD 34 (.slc none true false) 29 33,oM 35 7,oD 36 (.call
 zAN true) 34 35]) (oC 36 (.seq (oR [5,1,0,4,7] [oM 37 0,oN 38 37,oF 39 1 38,oL 40 1 false 39,oM 41 7,oT 42 (.len true) 41,oD 43 (.bin
 .add) 40 42,oN 44 37,oF 45 1 44,oS 1 45 43]) (.seq (.regt [5,1,0,4,7] true [oM 46 7,oT 47 (.call zB0 true) 46,oL 48 12 true 5,oM 49 0,oM 50
 1,oI 51 (.bin .add) [.tmp 50,oK 1],oD 52 (.callp zi) 49 51,oD 53 (.bslice 12) 48 52,⟨some 54,none,.build oZ [(0,1),(1,1),(11,1)],
 [oK 8,.tmp 47,.tmp 53]⟩,oS 12 5 54] (.step 0 (.step 1 (.step 3 (.step 4 (.step 5 (.alt (.step 2 (.step 6 (.step 7 (.step 8 (.step 9 (.done)))))) (.step 6
 (.step 2 (.step 7 (.step 8 (.step 9 (.done))))))))))))) (.goto 0))) (.skip))))) (oR [5,1,0,4,20,21,22] [oI 55 (.bin .add) [.tmp 22,oK 1],oM 22 55])))))))
 (.seq (.reg [4,5] false [oL 56 12 true 5,oS 12 4 56]) (.ret))))))
def zBO : AF:={ results:=[.cell 4 12 true],body:=zDc }
def zEJ : AC:=.seq (.seq (.reg [0] true [oM 2 0,oN 3 2,oF 4 1 3,oL 5 1 false 4,oM 6 0,oN 7 6,oF 8 0 7,oL 9 1 false 8,oT 10 (.len
 true) 9,oD 11 (.bin .lss) 5 10,oM 12 11,oG 13 12 true .mv [.tmp 0],oG 14 12 true .nilchk [.tmp 13],oG 15 12 true (.fieldAddr 0) [.tmp 14],oG 16 12 true
 (.load 1 false) [.tmp 15],oG 17 12 true .mv [.tmp 0],oG 18 12 true .nilchk [.tmp 17],oG 19 12 true (.fieldAddr 1) [.tmp 18],oG 20 12 true (.load 1 false)
 [.tmp 19],oG 21 12 true .idxStr [.tmp 16,.tmp 20],oG 22 12 true (.bin .eql) [.tmp 21,.const (.int .u8 32)],oI 23 .pick [.tmp 12,.tmp 22,oB false]]) (oC 23
 (.skip) (.exit 0))) (.block 1 [0] (oR [0] [oM 24 0,oN 25 24,oF 26 1 25,oL 27 1 false 26,oI 28 (.bin .add) [.tmp 27,oK 1],oN 29 24,oF 30 1 29,oS 1 30
 28]))
def zE9 : AC:=.block 0 [] (.loop [0] zEJ)
def zBg : AF:={ results:=[],body:=zE9 }
def zIJ : AC:=.seq (.seq (oR [0,3] [oM 12 3,oM 13 0,oT 14 (.len true) 13,oD 15 (.bin .lss) 12 14]) (oC 15 (.skip) (.exit 0))) (.seq (.block
 1 [0,3] (.seq (oR [0,3] [oM 18 0,oM 19 3,oD 20 .idxStr 18 19,oI 21 (.bin .lss) [.tmp 20,.const (.int .u8 65)],oM 22 21,oG 23 22 false .mv [.tmp 0],oG 24
 22 false .mv [.tmp 3],oG 25 22 false .idxStr [.tmp 23,.tmp 24],oG 26 22 false (.bin .gtr) [.tmp 25,.const (.int .u8 90)],oI 27 .pick [.tmp 22,oB true,.tmp
 26]]) (oC 27 (.seq (oR [] [oI 2 .mv [oB false]]) (.ret)) (.skip)))) (oR [0,3] [oM 16 3,oI 17 (.bin .add) [.tmp 16,oK 1],oM 3 17]))
def zJm : AC:=.seq (oR [0] [oI 2 .mv [oB false]]) (.seq (.seq (oR [0] [oM 4 0,oT 5 (.len true) 4,oI 6 (.bin .lss) [.tmp 5,oK 2],oM 7 6,oG 8 7
 false .mv [.tmp 0],oG 9 7 false (.len true) [.tmp 8],oG 10 7 false (.bin .gtr) [.tmp 9,oK 10],oI 11 .pick [.tmp 7,oB true,.tmp 10]]) (oC 11 (.seq (oR []
 [oI 2 .mv [oB false]]) (.ret)) (.skip))) (.seq (.seq (oR [0] [oI 3 .mv [oK 0]]) (.block 0 [] (.loop [3,0] zIJ))) (.seq (oR [] [oI 2 .mv [oB
 true]]) (.ret))))
def zDh : AF:={ results:=[.tmp 2],body:=zJm }
def zHi : AC:=.seq (oR [1,0] [oI 4 .mv [oB false]]) (.seq (.seq (oR [1,0] [oM 5 0,oN 6 5,oF 7 4 6,oL 8 1 false 7,oI 9 (.bin .eql) [.tmp
 8,oK 30]]) (oC 9 (.seq (oR [1,0] [oM 10 0,oM 11 1,oI 12 (.call zd false) [.tmp 10,.tmp 11,oK 4]]) (.seq (oR [] [oI 4 .mv [oB false]])
 (.ret))) (.skip))) (.seq (oR [0] [oM 13 0,oN 14 13,oF 15 4 14,oL 16 1 false 15,oI 17 (.bin .add) [.tmp 16,oK 1],oN 18 13,oF 19 4 18,oS 1 19 17]) (.seq
 (oR [] [oI 4 .mv [oB true]]) (.ret))))
def zCp : AF:={ results:=[.tmp 4],body:=zHi }
def zA9 : AC:=.seq (.seq (oR [6,0,4,5] [oM 42 0,oN 43 42,oF 44 3 43,oL 45 1 false 44,oI 46 (.bin .eql) [.tmp 45,oK 0]]) (oC 46 (.skip)
 (.exit 0))) (.block 1 [6,0,4,5] (.seq (.reg [6,0,4,5] true [oM 47 0,oN 48 47,oF 49 0 48,oL 50 1 false 49,oM 51 0,oN 52 51,oF 53 1 52,oL 54 1 false
 53,oD 55 (.call zV true) 50 54,oS 4 6 55]) (.seq (oR [6,0,4,5] [oF 57 3 6,oL 58 1 false 57,oT 59 (.call zj true) 58,oM 56 59,oT
 60 (.extract 0) 56,oT 61 (.extract 1) 56,oA 7 [.int .i64 0,.int .i64 0,.bool false,.bool false],oS 4 7 60,oM 8 61]) (.seq (oR [6,0,4,5,7,8] [oA 9
 oZ]) (.seq (.seq (.reg [6,0,4,5,9,7,8] true [oF 62 0 6,oL 63 1 false 62,oI 64 (.bin .eql) [.tmp 63,oK 1],oM 65 64,oG 66 65 true .mv [.tmp 8],oI 67
 .pick [.tmp 65,.tmp 66,oB false],oM 68 67,oG 69 68 true (.fieldAddr 2) [.tmp 6],oG 70 68 true (.load 1 false) [.tmp 69],oG 71 68 true .mv [.tmp 0],oG 72
 68 true .nilchk [.tmp 71],oG 73 68 true (.fieldAddr 0) [.tmp 72],oG 74 68 true (.load 1 false) [.tmp 73],oG 75 68 true (.len true) [.tmp 74],oG 76 68 true
 (.bin .lss) [.tmp 70,.tmp 75],oI 77 .pick [.tmp 68,.tmp 76,oB false],oM 78 77,oG 79 78 true .mv [.tmp 0],oG 80 78 true .nilchk [.tmp 79],oG 81 78 true
 (.fieldAddr 0) [.tmp 80],oG 82 78 true (.load 1 false) [.tmp 81],oG 83 78 true (.fieldAddr 2) [.tmp 6],oG 84 78 true (.load 1 false) [.tmp 83],oG 85 78 true
 .idxStr [.tmp 82,.tmp 84],oG 86 78 true (.bin .eql) [.tmp 85,.const (.int .u8 58)],oI 87 .pick [.tmp 78,.tmp 86,oB false]]) (oC 87 (.seq (.regt [6,0,4,
 5,9,7] true [oM 88 0,oN 89 88,oF 90 0 89,oL 91 1 false 90,oF 92 2 6,oL 93 1 false 92,oI 94 (.bin .add) [.tmp 93,oK 1],oD 95 (.call zV
 true) 91 94,oA 10 [.int .i64 0,.int .i64 0,.int .i64 0,.str []],oS 4 10 95] (.step 0 (.step 1 (.step 2 (.step 3 (.step 4 (.step 5 (.step 6 (.alt (.step 7
 (.step 8 (.step 9 (.done)))) (.step 8 (.step 7 (.step 9 (.done))))))))))))) (.seq (oR [6,0,4,5,9,7,10] [oF 97 3 10,oL 98 1 false 97,oT 99 (.call
 zj true) 98,oM 96 99,oT 100 (.extract 0) 96,oT 101 (.extract 1) 96,oA 11 [.int .i64 0,.int .i64 0,.bool false,.bool false],oS 4 11 100,oM 12
 101]) (.seq (.seq (oR [6,0,4,5,9,11,7,10,12] [oF 102 1 10,oL 103 1 false 102,oF 104 2 6,oL 105 1 false 104,oI 106 (.bin .add) [.tmp 105,oK 1],oD
 107 (.bin .neq) 103 106,oM 108 107,oG 109 108 false (.fieldAddr 0) [.tmp 10],oG 110 108 false (.load 1 false) [.tmp 109],oG 111 108 false (.bin .neq) [.tmp
 110,oK 1],oI 112 .pick [.tmp 108,oB true,.tmp 111],oM 113 112,oG 114 113 false .mv [.tmp 12],oG 115 113 false (.un .not) [.tmp 114],oI 116 .pick [.tmp
 113,oB true,.tmp 115]]) (oC 116 (oR [6,0,4,5,9,11,7,10] [oM 117 0,oF 118 2 6,oL 119 1 false 118,oI 120 (.bin .add) [.tmp 119,oK 1],oI 121 (.call
 zd false) [.tmp 117,.tmp 120,oK 2]]) (.skip))) (.seq (oR [6,0,4,5,9,11,7,10] [oM 122 0,oF 123 2 10,oL 124 1 false 123,oN 125 122,oF
 126 1 125,oS 1 126 124]) (oR [6,0,4,5,9,11,7] [oL 127 4 true 7,oL 128 4 true 11,⟨some 129,none,.build oZ [(0,1),(3,4),(7,4)],[oK 6,.tmp 127,
 .tmp 128]⟩,oS 12 9 129]))))) (oR [6,0,4,5,9] [oM 130 0,oI 131 (.call zW false) [.tmp 130,oK 1],oS 12 9 131]))) (.seq (oR [6,0,4,5,9]
 [oF 132 11 5,oL 133 1 false 132,oL 134 12 true 9,oT 135 (.bslice 12) 134,oD 136 (.append 12 104) 133 135,oF 137 11 5,oS 1 137 136]) (.seq (.reg [6,0,4,
 5] true [oM 138 0,oN 139 138,oF 140 0 139,oL 141 1 false 140,oM 142 0,oN 143 142,oF 144 1 143,oL 145 1 false 144,oD 146 (.call zV true) 141
 145,oS 4 6 146]) (.seq (.seq (oR [6,0,4,5] [oM 147 0,oN 148 147,oF 149 3 148,oL 150 1 false 149,oI 151 (.bin .eql) [.tmp 150,oK 0],oM 152 151,oG 153
 152 true (.fieldAddr 0) [.tmp 6],oG 154 152 true (.load 1 false) [.tmp 153],oG 155 152 true (.bin .eql) [.tmp 154,oK 4],oI 156 .pick [.tmp 152,.tmp 155,oB
 false],oM 157 156,oG 158 157 true (.fieldAddr 3) [.tmp 6],oG 159 157 true (.load 1 false) [.tmp 158],oG 160 157 true (.bin .eql) [.tmp 159,.const (.str
 [44])],oI 161 .pick [.tmp 157,.tmp 160,oB false]]) (oC 161 (.seq (oR [6,0,4,5] [oM 162 0,oF 163 2 6,oL 164 1 false 163,oN 165 162,oF 166 1 165,oS 1
 166 164]) (.exit 1)) (.skip))) (.seq (.reg [4,5,0] false [oM 167 0,oT 168 (.call zb false) 167]) (.seq (oR [4,5] [oL 169 12 true 5,oS 12 4
 169]) (.ret)))))))))))
def zA2 : AC:=.seq (oR [0,1] [oA 4 oZ]) (.seq (oR [4,0,1] [oM 13 1,⟨some 14,none,.build oZ [(0,1),(2,1)],[oK 9,.tmp 13]⟩,oA 5 oZ,oS
 12 5 14]) (.seq (oR [4,5,0] [oM 15 0,oN 16 15,oF 17 1 16,oL 18 1 false 17,oI 19 (.bin .add) [.tmp 18,oK 1],oN 20 15,oF 21 1 20,oS 1 21 19]) (.seq
 (.regt [4,5,0] true [oM 22 0,oN 23 22,oF 24 0 23,oL 25 1 false 24,oM 26 0,oN 27 26,oF 28 1 27,oL 29 1 false 28,oD 30 (.call zV true) 25
 29,oA 6 [.int .i64 0,.int .i64 0,.int .i64 0,.str []],oS 4 6 30] (.step 0 (.step 1 (.step 2 (.step 3 (.step 4 (.step 5 (.step 6 (.step 7 (.alt (.step 8
 (.step 9 (.step 10 (.done)))) (.step 9 (.step 8 (.step 10 (.done)))))))))))))) (.seq (.seq (oR [4,5,0,6] [oF 31 0 6,oL 32 1 false 31,oI 33 (.bin .eql) [.tmp
 32,oK 4],oM 34 33,oG 35 34 true (.fieldAddr 3) [.tmp 6],oG 36 34 true (.load 1 false) [.tmp 35],oG 37 34 true (.bin .eql) [.tmp 36,.const (.str [41])],oI
 38 .pick [.tmp 34,.tmp 37,oB false]]) (.cond (.tmp 38) (.seq (oR [4,5,0] [oM 39 0,oT 40 (.call zb false) 39]) (.seq (oR [4,5] [oL 41 12
 true 5,oS 12 4 41]) (.ret))) (.skip))) (.seq (.block 0 [4,5] (.loop [6,0,4,5] zA9)) (.seq (oR [4,5] [oL 170 12 true 5,oS 12 4 170])
 (.ret)))))))
def zA3 : AF:={ results:=[.cell 4 12 true],body:=zA2 }
def zFA : AC:=.seq (.seq (oR [6,7,0,8] [oM 35 8,oM 36 6,oT 37 (.len true) 36,oD 38 (.bin .lss) 35 37]) (oC 38 (.skip) (.exit 0))) (.seq
 (.block 1 [6,7,0,8] (.seq (.seq (oR [6,7,0,8] [oM 41 6,oM 42 8,oD 43 .idxStr 41 42,oI 44 (.bin .lss) [.tmp 43,.const (.int .u8 48)],oM 45 44,oG 46 45
 false .mv [.tmp 6],oG 47 45 false .mv [.tmp 8],oG 48 45 false .idxStr [.tmp 46,.tmp 47],oG 49 45 false (.bin .gtr) [.tmp 48,.const (.int .u8 57)],oI 50
 .pick [.tmp 45,oB true,.tmp 49]]) (oC 50 (.seq (oR [] [oI 4 .mv [oK 0],oI 5 .mv [oB false]]) (.ret)) (.skip))) (.seq (oR [6,7,0,8] [oM 51 7,oM 52 7,oI 53
 (.call zAU false) [oK 10],oI 54 (.call zAc false) [.tmp 51,.tmp 52,.tmp 53]]) (oR [6,7,0,8] [oM 55 7,oM 56 7,oM 57
 6,oM 58 8,oD 59 .idxStr 57 58,oT 60 (.convInt .i64) 59,oI 61 (.bin .sub) [.tmp 60,oK 48],oT 62 (.call zAU false) 61,oI 63 (.call
 zAd false) [.tmp 55,.tmp 56,.tmp 62]])))) (oR [6,7,0,8] [oM 39 8,oI 40 (.bin .add) [.tmp 39,oK 1],oM 8 40]))
def zGh : AC:=.seq (oR [0,1] [oI 4 .mv [oK 0],oI 5 .mv [oB false]]) (.seq (oR [0,1] [oM 10 0,oM 6 10]) (.seq (.seq (.reg [0,6,1] false [oM 11
 1,oM 12 11,oG 13 12 true .mv [.tmp 6],oG 14 12 true (.bin .neq) [.tmp 13,.const (.str [])],oI 15 .pick [.tmp 12,.tmp 14,oB false],oM 16 15,oG 17 16 true
 .mv [.tmp 6],oG 18 16 true .idxStr [.tmp 17,oK 0],oG 19 16 true (.bin .eql) [.tmp 18,.const (.int .u8 45)],oI 20 .pick [.tmp 16,.tmp 19,oB false]]) (oC 20
 (oR [0,6] [oM 21 6,oI 22 (.slc none true false) [.tmp 21,oK 1],oM 6 22]) (.skip))) (.seq (.seq (oR [6,0] [oM 23 6,oI 24 (.bin .eql) [.tmp 23,.const (.str
 [])],oM 25 24,oG 26 25 false .mv [.tmp 6],oG 27 25 false .idxStr [.tmp 26,oK 0],oG 28 25 false (.bin .eql) [.tmp 27,.const (.int .u8 48)],oG 29 25 false
 .mv [.tmp 28],oG 30 29 true .mv [.tmp 0],oG 31 29 true (.bin .neq) [.tmp 30,.const (.str [48])],oG 32 25 false .pick [.tmp 29,.tmp 31,oB false],oI 33
 .pick [.tmp 25,oB true,.tmp 32]]) (oC 33 (.seq (oR [] [oI 4 .mv [oK 0],oI 5 .mv [oB false]]) (.ret)) (.skip))) (.seq (oR [6,0] [oA 34 [.bool false,.lst
 (some true) 0 []],oM 7 34]) (.seq (.seq (oR [6,7,0] [oI 8 .mv [oK 0]]) (.block 0 [7,0,6] (.loop [8,6,7,0] zFA))) (.seq (.seq (oR [7,0,6]
 [oM 64 6,oT 65 (.len true) 64,oM 66 0,oT 67 (.len true) 66,oD 68 (.bin .neq) 65 67]) (oC 68 (oR [7] [oM 69 7,oM 70 7,oD 71 (.call zFf
 false) 69 70]) (.skip))) (.seq (oR [7] [oM 72 7,oT 73 (.call zCb true) 72,oM 9 73]) (.seq (.seq (oR [7,9] [oM 74 9,oT 75 (.un .not) 74]) (oC 75
 (.seq (oR [] [oI 4 .mv [oK 0],oI 5 .mv [oB false]]) (.ret)) (.skip))) (.seq (oR [7] [oM 76 7,oT 77 (.call zAQ true) 76,oM 4 77,oI 5 .mv
 [oB true]]) (.ret))))))))))
def zCL : AF:={ results:=[.tmp 4,.tmp 5],body:=zGh }
def b_sccref1_Ref : AC:=.seq (oR [0] [oA 2 [.int .i64 0,.int .i64 0,.bool false,.bool false],oI 3 .mv [oB false]]) (.seq (oR [2,0] [oA 4 [.int .i64 0,
 .int .i64 0,.bool false,.bool false]]) (.seq (oR [2,4,0] [oI 5 .mv [oK 0]]) (.seq (.seq (oR [2,4,0,5] [oM 8 5,oM 9 0,oT 10 (.len true) 9,oD 11 (.bin
 .lss) 8 10,oM 12 11,oG 13 12 true .mv [.tmp 0],oG 14 12 true .mv [.tmp 5],oG 15 12 true .idxStr [.tmp 13,.tmp 14],oG 16 12 true (.bin .eql) [.tmp 15,
 .const (.int .u8 36)],oI 17 .pick [.tmp 12,.tmp 16,oB false]]) (oC 17 (.seq (oR [2,4,0,5] [oF 18 2 4,oJ (.store 1) [.tmp 18,oB true]]) (oR [2,4,0,5]
 [oM 19 5,oI 20 (.bin .add) [.tmp 19,oK 1],oM 5 20])) (.skip))) (.seq (.seq (oR [2,4,0,5] [oM 21 5,oM 22 0,oT 23 (.len true) 22,oD 24 (.bin .geq) 21 23,
 oM 25 24,oG 26 25 false .mv [.tmp 0],oG 27 25 false .mv [.tmp 5],oG 28 25 false .idxStr [.tmp 26,.tmp 27],oG 29 25 false (.bin .lss) [.tmp 28,.const (.int
 .u8 65)],oI 30 .pick [.tmp 25,oB true,.tmp 29],oM 31 30,oG 32 31 false .mv [.tmp 0],oG 33 31 false .mv [.tmp 5],oG 34 31 false .idxStr [.tmp 32,.tmp 33],
 oG 35 31 false (.bin .gtr) [.tmp 34,.const (.int .u8 90)],oI 36 .pick [.tmp 31,oB true,.tmp 35]]) (oC 36 (.seq (oR [2] [⟨some 37,none,.build [.int .i64 0,
 .int .i64 0,.bool false,.bool false] [],[]⟩,oS 4 2 37,oI 3 .mv [oB false]]) (.ret)) (.skip))) (.seq (oR [2,4,0,5] [oM 38 0,oM 39 5,oD 40 .idxStr 38 39,
 oT 41 (.convInt .i64) 40,oI 42 (.bin .sub) [.tmp 41,oK 64],oF 43 0 4,oF 44 0 43,oS 1 44 42]) (.seq (oR [2,4,0,5] [oM 45 5,oI 46 (.bin .add) [.tmp 45,oK
 1],oM 5 46]) (.seq (.seq (oR [2,4,0,5] [oM 47 5,oM 48 0,oT 49 (.len true) 48,oD 50 (.bin .lss) 47 49,oM 51 50,oG 52 51 true .mv [.tmp 0],oG 53 51 true
 .mv [.tmp 5],oG 54 51 true .idxStr [.tmp 52,.tmp 53],oG 55 51 true (.bin .eql) [.tmp 54,.const (.int .u8 36)],oI 56 .pick [.tmp 51,.tmp 55,oB false]]) (oC
 56 (.seq (oR [2,4,0,5] [oF 57 3 4,oJ (.store 1) [.tmp 57,oB true]]) (oR [2,4,0,5] [oM 58 5,oI 59 (.bin .add) [.tmp 58,oK 1],oM 5 59])) (.skip))) (.seq
 (oR [2,4,5,0] [oM 61 0,oM 62 5,oD 63 (.slc none true false) 61 62,oI 64 (.call zT true) [.tmp 63,oB false],oM 60 64,oT 65 (.extract 0) 60,
 oT 66 (.extract 1) 60,oM 6 65,oM 7 66]) (.seq (.seq (oR [2,4,6,7] [oM 67 7,oT 68 (.un .not) 67,oM 69 68,oG 70 69 false .mv [.tmp 6],oG 71 69 false (.bin
 .lss) [.tmp 70,oK 1],oI 72 .pick [.tmp 69,oB true,.tmp 71],oM 73 72,oG 74 73 false .mv [.tmp 6],oG 75 73 false (.bin .gtr) [.tmp 74,oK 99],oI 76 .pick
 [.tmp 73,oB true,.tmp 75]]) (oC 76 (.seq (oR [2] [⟨some 77,none,.build [.int .i64 0,.int .i64 0,.bool false,.bool false] [],[]⟩,oS 4 2 77,oI 3 .mv [oB
 false]]) (.ret)) (.skip))) (.seq (oR [2,4,6] [oM 78 6,oF 79 0 4,oF 80 1 79,oS 1 80 78]) (.seq (oR [2,4] [oL 81 4 true 4,oS 4 2 81,oI 3 .mv [oB true]])
 (.ret))))))))))))
def zFi : AF:={ results:=[.cell 2 4 true,.tmp 3],body:=b_sccref1_Ref }
def zI8 : AC:=.seq (.seq (oR [2,5,0,4] [oM 16 5,oM 17 4,oT 18 (.len false) 17,oD 19 (.bin .lss) 16 18]) (oC 19 (.skip) (.exit 0))) (.seq
 (.block 1 [2,0,4,5] (.seq (oR [2,5,0,4] [oM 22 4,oM 23 5,oD 24 (.idxAddr 1) 22 23,oL 25 1 false 24,oM 26 0,oD 27 (.bin .eql) 25 26]) (oC 27 (.seq (oR
 [2,5] [oM 28 5,oT 29 (.call zC6 true) 28,oS 3 2 29,oI 3 .mv [oB true]]) (.ret)) (.skip)))) (oR [2,0,4,5] [oM 20 5,oI 21 (.bin .add) [.tmp 20,
 oK 1],oM 5 21]))
def zKn : AC:=.seq (oR [0] [oA 2 [.int .i64 0,.int .i64 0,.str []],oI 3 .mv [oB false]]) (.seq (.seq (oR [2,0] [oM 6 0,oI 7 (.bin .eql) [.tmp
 6,.const (.str [84,82,85,69])],oM 8 7,oG 9 8 false .mv [.tmp 0],oG 10 8 false (.bin .eql) [.tmp 9,.const (.str [70,65,76,83,69])],oI 11 .pick [.tmp
 8,oB true,.tmp 10]]) (oC 11 (.seq (oR [2,0] [oM 12 0,oI 13 (.bin .eql) [.tmp 12,.const (.str [84,82,85,69])],oT 14 (.call f_sccref1_Tru true) 13,oS 3 2
 14,oI 3 .mv [oB true]]) (.ret)) (.skip))) (.seq (oR [2,0] [oI 15 (.call zAv true) [],oM 4 15]) (.seq (.seq (oR [2,0,4] [oI 5 .mv [oK 1]])
 (.block 0 [2] (.loop [2,5,0,4] zI8))) (.seq (oR [2] [⟨some 30,none,.build [.int .i64 0,.int .i64 0,.str []] [],[]⟩,oS 3 2 30,oI 3 .mv [oB
 false]]) (.ret)))))
def zD6 : AF:={ results:=[.cell 2 3 true,.tmp 3],body:=zKn }
def zIK : AC:=.seq (.regt [0] true [oM 3 0,oN 4 3,oF 5 0 4,oL 6 1 false 5,oM 7 0,oN 8 7,oF 9 1 8,oL 10 1 false 9,oD 11 (.call
 zV true) 6 10,oA 2 [.int .i64 0,.int .i64 0,.int .i64 0,.str []],oS 4 2 11] (.step 0 (.step 1 (.step 2 (.step 3 (.step 4 (.step 5 (.step 6
 (.step 7 (.alt (.step 8 (.step 9 (.step 10 (.done)))) (.step 9 (.step 8 (.step 10 (.done)))))))))))))) (.seq (.seq (oR [0,2] [oM 12 0,oN 13 12,oF 14 3 13,oL
 15 1 false 14,oI 16 (.bin .eql) [.tmp 15,oK 0],oM 17 16,oG 18 17 true (.fieldAddr 0) [.tmp 2],oG 19 17 true (.load 1 false) [.tmp 18],oG 20 17 true (.bin
 .neq) [.tmp 19,oK 4],oG 21 17 true .mv [.tmp 20],oG 22 21 false (.fieldAddr 3) [.tmp 2],oG 23 21 false (.load 1 false) [.tmp 22],oG 24 21 false (.bin .neq)
 [.tmp 23,.const (.str [41])],oG 25 17 true .pick [.tmp 21,oB true,.tmp 24],oI 26 .pick [.tmp 17,.tmp 25,oB false]]) (oC 26 (oR [0,2] [oM 27 0,oF 28 1 2,
 oL 29 1 false 28,oI 30 (.call zd false) [.tmp 27,.tmp 29,oK 2]]) (.skip))) (.seq (oR [0,2] [oM 31 0,oF 32 2 2,oL 33 1 false 32,oN 34 31,oF
 35 1 34,oS 1 35 33]) (oR [0] [oM 36 0,oN 37 36,oF 38 4 37,oL 39 1 false 38,oI 40 (.bin .sub) [.tmp 39,oK 1],oN 41 36,oF 42 4 41,oS 1 42 40])))
def zBP : AF:={ results:=[],body:=zIK }
def zKo : AC:=.seq (oR [3,6,7,8] [oD 9 (.bin .lss) 8 7]) (.seq (oC 9 (.skip) (.exit 0)) (.seq (.block 1 [3,6,7,8] (.seq (oR [3,6,7,8] [oD
 10 (.idxAddr 1) 6 8,oL 11 1 false 10,oM 5 11]) (.seq (oR [5,3,6,7,8] [oM 12 5,oM 13 3,oD 14 (.bin .neq) 12 13]) (oC 14 (.seq (oR [5] [oM 15 5,oM 2 15])
 (.ret)) (.skip))))) (oR [3,6,7,8] [oI 16 (.bin .add) [.tmp 8,oK 1],oM 8 16])))
def b_cmp_Or_int_ : AC:=.seq (oR [0] [oI 2 .mv [oK 0]]) (.seq (oR [0] [oI 3 .mv [oK 0]]) (.seq (.seq (oR [3,0] [oM 6 0,oT 7 (.len false) 6,oI 8 .mv [oK 0]])
 (.block 0 [3] (.loop [8,3,6,7] zKo))) (.seq (oR [3] [oM 17 3,oM 2 17]) (.ret))))
def zIL : AF:={ results:=[.tmp 2],body:=b_cmp_Or_int_ }
def zIM : AC:=.seq (oR [1,0] [oI 4 .mv [oK 0]]) (.seq (oR [1,0] [oM 7 0,oT 8 (.call zBv true) 7,oM 5 8]) (.seq (oR [1,0,5]
 [oM 9 1,oT 10 (.call zBv true) 9,oM 6 10]) (.seq (.seq (oR [6,1,0,5] [oM 11 5]) (oC 11 (.seq (.seq (oR [6] [oM 12 6]) (oC 12 (.seq (oR [] [oI 4
 .mv [oK 0]]) (.ret)) (.skip))) (.seq (oR [] [oI 4 .mv [oK (-1)]]) (.ret))) (.skip))) (.seq (.seq (oR [1,0,6] [oM 13 6]) (oC 13 (.seq (oR [] [oI 4 .mv [oK 1]])
 (.ret)) (.skip))) (.seq (.seq (oR [1,0] [oM 14 0,oM 15 1,oD 16 (.bin .lss) 14 15]) (oC 16 (.seq (oR [] [oI 4 .mv [oK (-1)]]) (.ret)) (.skip))) (.seq (.seq (oR
 [1,0] [oM 17 0,oM 18 1,oD 19 (.bin .gtr) 17 18]) (oC 19 (.seq (oR [] [oI 4 .mv [oK 1]]) (.ret)) (.skip))) (.seq (.reg [] false [oI 4 .mv [oK 0]])
 (.ret))))))))
def zEW : AF:={ results:=[.tmp 4],body:=zIM }
def zFj : AC:=.seq (oR [1,0] [oI 4 .mv [oB false]]) (.seq (oR [1,0] [oM 5 0,oT 6 (.len true) 5,oM 7 1,oT 8 (.len true) 7,oD 9 (.bin
 .geq) 6 8,oM 10 9,oG 11 10 true .mv [.tmp 0],oG 12 10 true .mv [.tmp 1],oG 13 10 true (.len true) [.tmp 12],oG 14 10 true (.slc none false true) [.tmp 11,
 .tmp 13],oG 15 10 true .mv [.tmp 1],oG 16 10 true (.bin .eql) [.tmp 14,.tmp 15],oI 17 .pick [.tmp 10,.tmp 16,oB false],oM 4 17]) (.ret))
def zBr : AF:={ results:=[.tmp 4],body:=zFj }
def zGi : AC:=.seq (oR [0] [oT 1 .box 0,oA 2 oZ]) (.seq (oR [2,1] [oL 4 1 false 1,oT 5 (.call za false) 4]) (.seq
 (.seq (.reg [2,1] true [oL 6 1 false 1,oN 7 6,oF 8 1 7,oL 9 1 false 8,oL 10 1 false 1,oN 11 10,oF 12 0 11,oL 13 1 false 12,oT 14 (.len true) 13,oD 15
 (.bin .lss) 9 14,oM 16 15,oG 17 16 true (.load 1 false) [.tmp 1],oG 18 16 true .nilchk [.tmp 17],oG 19 16 true (.fieldAddr 0) [.tmp 18],oG 20 16 true (.load
 1 false) [.tmp 19],oG 21 16 true (.load 1 false) [.tmp 1],oG 22 16 true .nilchk [.tmp 21],oG 23 16 true (.fieldAddr 1) [.tmp 22],oG 24 16 true (.load 1
 false) [.tmp 23],oG 25 16 true .idxStr [.tmp 20,.tmp 24],oG 26 16 true (.bin .eql) [.tmp 25,.const (.int .u8 45)],oI 27 .pick [.tmp 16,.tmp 26,oB false]])
 (oC 27 (.seq (oR [2,1] [oL 28 1 false 1,oN 29 28,oF 30 1 29,oL 31 1 false 30,oM 3 31]) (.seq (.regt [2,1,3] false [oL 32 1 false 1,oM 33 3,oT 34 (.mkFn
 zAV 0) 1,oI 35 (.callp zn) [.tmp 32,.tmp 33,.tmp 34],oS 12 2 35] (.step 0 (.step 1 (.step 2 (.step 3 (.step 4
 (.done))))))) (.ret))) (.skip))) (.seq (.regt [2,1] false [oL 36 1 false 1,oT 37 (.callp zAl) 36,oS 12 2 37] (.step 0 (.step 1 (.step 2
 (.done))))) (.ret))))
def zCM : AF:={ results:=[.cell 2 12 true],body:=zGi }
def b_formula_opOf : AC:=.seq (oR [0] [oI 2 .mv [oK 0]]) (.seq (.seq (oR [0] [oM 3 0]) (.block 0 [] (.seq (oR [3] [oI 5 (.bin .eql) [.tmp 3,.const (.str
 [61])],oM 4 5]) (oC 4 (.seq (oR [] [oI 2 .mv [oK 1]]) (.ret)) (.seq (oR [3] [oI 7 (.bin .eql) [.tmp 3,.const (.str [60,62])],oM 6 7]) (oC 6 (.seq (oR [] [oI
 2 .mv [oK 2]]) (.ret)) (.seq (oR [3] [oI 9 (.bin .eql) [.tmp 3,.const (.str [60])],oM 8 9]) (oC 8 (.seq (oR [] [oI 2 .mv [oK 3]]) (.ret)) (.seq (oR [3] [oI 11
 (.bin .eql) [.tmp 3,.const (.str [60,61])],oM 10 11]) (oC 10 (.seq (oR [] [oI 2 .mv [oK 4]]) (.ret)) (.seq (oR [3] [oI 13 (.bin .eql) [.tmp 3,.const (.str
 [62])],oM 12 13]) (oC 12 (.seq (oR [] [oI 2 .mv [oK 5]]) (.ret)) (.seq (oR [3] [oI 15 (.bin .eql) [.tmp 3,.const (.str [62,61])],oM 14 15]) (oC 14 (.seq (oR
 [] [oI 2 .mv [oK 6]]) (.ret)) (.seq (oR [3] [oI 17 (.bin .eql) [.tmp 3,.const (.str [38])],oM 16 17]) (oC 16 (.seq (oR [] [oI 2 .mv [oK 7]]) (.ret)) (.seq (oR
 [3] [oI 19 (.bin .eql) [.tmp 3,.const (.str [43])],oM 18 19]) (oC 18 (.seq (oR [] [oI 2 .mv [oK 8]]) (.ret)) (.seq (oR [3] [oI 21 (.bin .eql) [.tmp 3,.const
 (.str [45])],oM 20 21]) (oC 20 (.seq (oR [] [oI 2 .mv [oK 9]]) (.ret)) (.seq (oR [3] [oI 23 (.bin .eql) [.tmp 3,.const (.str [42])],oM 22 23]) (oC 22 (.seq
 (oR [] [oI 2 .mv [oK 10]]) (.ret)) (.skip))))))))))))))))))))))) (.seq (oR [] [oI 2 .mv [oK 11]]) (.ret)))
def zEr : AF:={ results:=[.tmp 2],body:=b_formula_opOf }
def zFk : AC:=.seq (oR [2,1,0] [oI 6 .mv [.const (.nilp)]]) (.seq (.reg [2,1,0] true [oM 7 0,oM 8 1,oN 9 8,oF 10 0 9,oL 11 1 false
 10,oM 12 2,oN 13 12,oF 14 0 13,oL 15 1 false 14,oD 16 (.eqb true) 11 15,oM 17 1,oN 18 17,oF 19 1 18,oL 20 1 false 19,oM 21 2,oN 22 21,oF 23 1 22,oL
 24 1 false 23,oD 25 (.call zB9 true) 20 24,oI 26 (.call zp false) [.tmp 7,.tmp 16,.tmp 25],oM 6 26]) (.ret))
def zDE : AF:={ results:=[.tmp 6],body:=zFk }
def zGj : AC:=.seq (oR [0] [oI 2 .mv [.const (.nilp)]]) (.seq (oR [0] [oA 3 [.bool false,.lst (some true) 0 []],oM 4 0,oD 5 (.call
 zAY false) 3 4,oM 2 5]) (.ret))
def zGk : AF:={ results:=[.tmp 2],body:=zGj }
def zFl : AC:=.seq (oR [2,1,0] [oI 6 .mv [.const (.nilp)]]) (.seq (.reg [2,1,0] true [oM 7 0,oM 8 1,oN 9 8,oF 10 0 9,oL 11 1 false
 10,oM 12 1,oN 13 12,oF 14 1 13,oL 15 1 false 14,oM 16 2,oN 17 16,oF 18 0 17,oL 19 1 false 18,oM 20 2,oN 21 20,oF 22 1 21,oL 23 1 false 22,oI 24
 (.call zCA true) [.tmp 11,.tmp 15,.tmp 19,.tmp 23],oT 25 (.extract 0) 24,oT 26 (.extract 1) 24,oI 27 (.call zp false)
 [.tmp 7,.tmp 25,.tmp 26],oM 6 27]) (.ret))
def zDF : AF:={ results:=[.tmp 6],body:=zFl }
def b_sccref1_Fits : AC:=.seq (oR [0] [oI 2 .mv [oB false]]) (.seq (oR [0] [oM 3 0,oT 4 (.call zAe true) 3,oM 2 4]) (.ret))
def zHS : AF:={ results:=[.tmp 2],body:=b_sccref1_Fits }
def zEs : AC:=.seq (oR [0] [oI 2 .mv [oK 0]]) (.seq (oR [0] [oM 4 0,oT 5 (.call zAj true) 4,oT 6 (.convInt .i64)
 5,oM 3 6]) (.seq (.seq (oR [3,0] [oM 7 0,oN 8 7,oF 9 0 8,oL 10 1 false 9]) (oC 10 (oR [3] [oM 11 3,oT 12 (.un .neg) 11,oM 3 12]) (.skip))) (.seq (oR [3]
 [oM 13 3,oM 2 13]) (.ret))))
def zCc : AF:={ results:=[.tmp 2],body:=zEs }
def b_sccref1_Bad : AC:=.seq (oR [0] [oA 2 [.int .i64 0,.int .i64 0,.str []]]) (.seq (oR [2,0] [oM 3 0,⟨some 4,none,.build [.int .i64 0,.int .i64 0,
 .str []] [(0,1),(1,1)],[oK 4,.tmp 3]⟩,oS 3 2 4]) (.ret))
def zFm : AF:={ results:=[.cell 2 3 true],body:=b_sccref1_Bad }
def zJn : AC:=.seq (oR [0] [oI 2 .mv [oB false]]) (.seq (oR [0] [oM 3 0,oM 4 0,oD 5 (.bin .neq) 3 4,oM 2 5]) (.ret))
def zF6 : AF:={ results:=[.tmp 2],body:=zJn }
def zFB : AC:=.seq (oR [0,2,1] [oA 6 oZ]) (.seq (.seq (oR [6,0,2,1] [oM 8 0,oN 9 8,oF 10 2 9,oL 11 1 false 10,oI 12 (.bin .eql)
 [.tmp 11,oK 30]]) (oC 12 (.regt [6,0,2,1] false [oM 13 0,oM 14 1,oI 15 (.mkIface zS) [oK 4],oI 16 (.callp zX) [.tmp 13,.tmp
 14,.tmp 15]] (.step 0 (.step 1 (.step 2 (.step 3 (.done)))))) (.skip))) (.seq (oR [6,0,2] [oM 17 0,oN 18 17,oF 19 2 18,oL 20 1 false 19,oI 21 (.bin .add)
 [.tmp 20,oK 1],oN 22 17,oF 23 2 22,oS 1 23 21]) (.seq (.regt [6,0,2] false [oM 24 2,oT 25 .callvp 24,oA 7 oZ,oS 12 7 25] (.step 0 (.step 1 (.step 2
 (.step 3 (.done)))))) (.seq (oR [6,7,0] [oM 26 0,oN 27 26,oF 28 2 27,oL 29 1 false 28,oI 30 (.bin .sub) [.tmp 29,oK 1],oN 31 26,oF 32 2 31,oS 1 32 30])
 (.seq (oR [6,7] [oL 33 12 true 7,oS 12 6 33]) (.ret))))))
def zBh : AF:={ results:=[.cell 6 12 true],body:=zFB }
def zFC : AC:=.seq (oR [0] [oA 1 oZ]) (.seq (oR [1,0] [oL 2 1 false 0,oN 3 2,oF 4 1 3,oL 5 1 false 4,oI 6 (.bin .add) [.tmp 5,oK 1],
 oN 7 2,oF 8 1 7,oS 1 8 6]) (.seq (.regt [1,0] false [oL 9 1 false 0,oT 10 (.callp zAE) 9,oT 11 (.bslice 12) 10,⟨some 12,none,.build oZ
 [(0,1),(11,1)],[oK 7,.tmp 11]⟩,oS 12 1 12] (.step 0 (.step 1 (.step 2 (.step 3 (.step 4 (.done))))))) (.ret)))
def zBi : AF:={ results:=[.cell 1 12 true],body:=zFC }
def zFD : AC:=.seq (.seq (oR [2,5,1,3] [oM 49 5,oL 50 1 false 1,oN 51 50,oF 52 0 51,oL 53 1 false 52,oT 54 (.len true) 53,oD 55
 (.bin .leq) 49 54]) (oC 55 (.skip) (.exit 1))) (.seq (.block 2 [2,1,3,5] (.seq (oR [2,5,1,3] [oL 59 1 false 1,oN 60 59,oF 61 0 60,oL 62 1 false 61,oM
 63 3,oM 64 5,oI 65 (.slc none true true) [.tmp 62,.tmp 63,.tmp 64],oT 66 (.call zAG true) 65,oM 58 66,oT 67 (.extract 0) 58,oT 68 (.extract
 1) 58,oA 6 [.int .i64 0,.int .i64 0,.str []],oS 3 6 67,oM 7 68]) (.seq (.reg [2,6,5,1,3,7] false [oM 69 7]) (oC 69 (.seq (oR [2,6,5,1] [oL 70 1
 false 1,oM 71 5,oN 72 70,oF 73 1 72,oS 1 73 71]) (.seq (oR [2,6] [oF 74 1 6,oL 75 1 false 74,⟨some 76,none,.build oZ [(0,1),(1,1)],[oK 4,.tmp 75]⟩,
 oS 12 2 76]) (.ret))) (.skip))))) (oR [2,1,3,5] [oM 56 5,oI 57 (.bin .add) [.tmp 56,oK 1],oM 5 57]))
def zGC : AC:=.seq (oR [0] [oT 1 .box 0,oA 2 oZ]) (.seq (oR [2,1] [oL 11 1 false 1,oN 12 11,oF 13 1 12,oL 14 1 false 13,oM 3 14])
 (.seq (.seq (oR [2,1,3] [oM 15 3,oL 16 1 false 1,oN 17 16,oF 18 0 17,oL 19 1 false 18,oT 20 (.len true) 19,oD 21 (.bin .eql) 15 20]) (oC 21 (.regt [2,1,
 3] false [oL 22 1 false 1,oM 23 3,oI 24 (.mkIface zS) [oK 2],oI 25 (.callp zX) [.tmp 22,.tmp 23,.tmp 24]] (.step 0 (.step 1
 (.step 2 (.step 3 (.done)))))) (.skip))) (.seq (.seq (oR [2,1,3] [oL 26 1 false 1,oN 27 26,oF 28 0 27,oL 29 1 false 28,oM 30 3,oD 31 .idxStr 29 30,oM 4
 31]) (.block 0 [2,3,1] (.seq (oR [2,1,3,4] [oM 33 4,oI 34 (.bin .eql) [.tmp 33,.const (.int .u8 40)],oM 32 34]) (oC 32 (.seq (.regt [2,1,3] false [oL
 35 1 false 1,oM 36 3,oT 37 (.mkFn zAK 0) 1,oI 38 (.callp zn) [.tmp 35,.tmp 36,.tmp 37],oS 12 2 38] (.step 0
 (.step 1 (.step 2 (.step 3 (.step 4 (.done))))))) (.ret)) (.seq (oR [2,1,3,4] [oM 40 4,oI 41 (.bin .eql) [.tmp 40,.const (.int .u8 34)],oM 39 41]) (oC 39
 (.seq (.regt [2,1] false [oL 42 1 false 1,oT 43 (.callp zAm) 42,oS 12 2 43] (.step 0 (.step 1 (.step 2 (.done))))) (.ret)) (.seq (.reg [2,
 1,3,4] false [oM 45 4,oI 46 (.bin .eql) [.tmp 45,.const (.int .u8 35)],oM 44 46]) (oC 44 (.seq (oR [2,1,3] [oM 47 3,oI 48 (.bin .add) [.tmp 47,oK 1],oM
 5 48]) (.block 1 [2,3,1] (.loop [2,5,1,3] zFD))) (.seq (oR [2,1,3,4] [oM 78 4,oT 79 (.call zAO true) 78,oM 77 79])
 (oC 77 (.seq (oR [2,1,3] [oL 80 1 false 1,oT 81 (.call zq false) 80,⟨some 8,none,.alloc [.str []],[]⟩,oS 1 8 81]) (.seq (.seq (.reg
 [2,1,8,3] true [oL 82 1 false 1,oN 83 82,oF 84 1 83,oL 85 1 false 84,oL 86 1 false 1,oN 87 86,oF 88 0 87,oL 89 1 false 88,oT 90 (.len true) 89,oD 91
 (.bin .lss) 85 90,oM 92 91,oG 93 92 true (.load 1 false) [.tmp 1],oG 94 92 true .nilchk [.tmp 93],oG 95 92 true (.fieldAddr 0) [.tmp 94],oG 96 92 true
 (.load 1 false) [.tmp 95],oG 97 92 true (.load 1 false) [.tmp 1],oG 98 92 true .nilchk [.tmp 97],oG 99 92 true (.fieldAddr 1) [.tmp 98],oG 100 92 true (.load
 1 false) [.tmp 99],oG 101 92 true .idxStr [.tmp 96,.tmp 100],oG 102 92 true (.bin .eql) [.tmp 101,.const (.int .u8 40)],oI 103 .pick [.tmp 92,.tmp 102,oB
 false],oM 104 103,oG 105 104 true (.load 1 false) [.tmp 8],oG 106 104 true (.call zBG true) [.tmp 105],oI 107 .pick [.tmp 104,.tmp 106,oB
 false]]) (oC 107 (.seq (.regt [2,1,8,3] false [oL 108 1 false 1,oM 109 3,oD 110 (.mkFn zAA 0) 1 8,oI 111 (.callp
 zn) [.tmp 108,.tmp 109,.tmp 110],oS 12 2 111] (.step 0 (.step 1 (.step 2 (.step 3 (.step 4 (.done))))))) (.ret)) (.skip))) (.seq (oR [2,
 3,1,8] [oL 113 1 false 8,oT 114 (.call zAR true) 113,oM 112 114,oT 115 (.extract 0) 112,oT 116 (.extract 1) 112,oA 9 oZ,oS 12 9 115,oM 10
 116]) (.seq (oR [2,9,3,1,10] [oM 117 10]) (.cond (.tmp 117) (.seq (oR [2,9] [oL 118 12 true 9,oS 12 2 118]) (.ret)) (.skip)))))) (.skip))))))))))) (.seq
 (.regt [2,3,1] false [oL 119 1 false 1,oM 120 3,oI 121 (.mkIface zS) [oK 2],oI 122 (.callp zX) [.tmp 119,.tmp 120,.tmp 121]]
 (.step 0 (.step 1 (.step 2 (.step 3 (.done)))))) (.seq (oR [2] [⟨some 123,none,.build oZ [],[]⟩,oS 12 2 123]) (.ret))))))
def zt : AF:={ results:=[.cell 2 12 true],body:=zGC }
def zFE : AC:=.seq (oR [0,2,1] [oI 6 .mv [.const (.nilp)]]) (.seq (oR [0,2,1] [oM 7 0,oM 8 2,oN 9 7,oF 10 1 9,oS 1 10 8]) (.seq
 (oR [0,2,1] [oM 11 0,oM 12 1,oM 13 12,oG 14 13 true .mv [.tmp 2],oG 15 13 true (.len false) [.tmp 14],oG 16 13 true (.bin .gtr) [.tmp 15,oK 0],oI 17
 .pick [.tmp 13,.tmp 16,oB false],oN 18 11,oF 19 0 18,oS 1 19 17]) (.seq (oR [0] [oM 20 0,oM 6 20]) (.ret))))
def zBj : AF:={ results:=[.tmp 6],body:=zFE }
def zG8 : AC:=.seq (.seq (oR [6,5,1,0,8,7] [oM 29 8,oM 30 1,oT 31 (.len false) 30,oD 32 (.bin .lss) 29 31]) (.cond (.tmp 32) (.skip)
 (.exit 2))) (.seq (.block 3 [6,5,1,0,7,8] (.seq (.reg [6,5,1,0,8,7] true [oM 35 7,oM 36 0,oM 37 6,oD 38 (.idxAddr 1) 36 37,oL 39 1 false 38,oT 40
 (.convInt .u64) 39,oM 41 1,oM 42 8,oD 43 (.idxAddr 1) 41 42,oL 44 1 false 43,oT 45 (.convInt .u64) 44,oD 46 (.bin .mul) 40 45,oM 47 5,oM 48 6,oM 49 8,
 oD 50 (.bin .add) 48 49,oD 51 (.idxAddr 1) 47 50,oL 52 1 false 51,oT 53 (.convInt .u64) 52,oD 54 (.bin .add) 46 53,oD 55 (.bin .add) 35 54,oM 7 55]) (.seq
 (oR [6,5,1,0,8,7] [oM 56 5,oM 57 6,oM 58 8,oD 59 (.bin .add) 57 58,oM 60 7,oT 61 (.convInt .u32) 60,oD 62 (.idxAddr 1) 56 59,oS 1 62 61]) (oR [6,5,
 1,0,8,7] [oM 63 7,oI 64 (.bin .shr) [.tmp 63,.const (.int .u64 32)],oM 7 64])))) (oR [6,5,1,0,7,8] [oM 33 8,oI 34 (.bin .add) [.tmp 33,oK 1],oM 8
 34]))
def zG9 : AC:=.seq (.seq (oR [6,5,1,0] [oM 23 6,oM 24 0,oT 25 (.len false) 24,oD 26 (.bin .lss) 23 25]) (oC 26 (.skip) (.exit 0))) (.seq
 (.block 1 [5,1,0,6] (.seq (oR [6,5,1,0] [oI 7 .mv [.const (.int .u64 0)]]) (.seq (.seq (oR [6,5,1,0,7] [oI 8 .mv [oK 0]]) (.block 2 [5,1,0,6,7]
 (.loop [8,6,5,1,0,7] zG8))) (oR [5,1,0,6,7] [oM 65 5,oM 66 6,oM 67 1,oT 68 (.len false) 67,oD 69 (.bin .add) 66 68,oM 70 7,oT 71
 (.convInt .u32) 70,oD 72 (.idxAddr 1) 65 69,oS 1 72 71])))) (oR [5,1,0,6] [oM 27 6,oI 28 (.bin .add) [.tmp 27,oK 1],oM 6 28]))
def zIN : AC:=.seq (oR [1,0] [oI 4 .mv [.const (.lst (some true) 0 [])]]) (.seq (.seq (oR [1,0] [oM 9 0,oT 10 (.len false) 9,oI 11 (.bin
 .eql) [.tmp 10,oK 0],oM 12 11,oG 13 12 false .mv [.tmp 1],oG 14 12 false (.len false) [.tmp 13],oG 15 12 false (.bin .eql) [.tmp 14,oK 0],oI 16 .pick
 [.tmp 12,oB true,.tmp 15]]) (oC 16 (.seq (oR [] [oI 4 .mv [.const (.lst (some true) 0 [])]]) (.ret)) (.skip))) (.seq (oR [1,0] [oM 17 0,oT 18 (.len false)
 17,oM 19 1,oT 20 (.len false) 19,oD 21 (.bin .add) 18 20,⟨some 22,none,.make 1 4 (.int .u32 0),[.tmp 21,.tmp 21]⟩,oM 5 22]) (.seq (.seq (oR [5,1,0]
 [oI 6 .mv [oK 0]]) (.block 0 [5] (.loop [6,5,1,0] zG9))) (.seq (oR [5] [oM 73 5,oT 74 (.call zx true) 73,oM 4 74])
 (.ret)))))
def zEX : AF:={ results:=[.tmp 4],body:=zIN }
def zDs : AC:=.seq (oR [1,0] [oI 4 .mv [.const (.nilp)]]) (.seq (oR [1,0] [oM 6 1,oT 7 (.convInt .u64) 6,oM 5 7]) (.seq (.seq (oR
 [1,0,5] [oM 8 1,oI 9 (.bin .lss) [.tmp 8,oK 0]]) (oC 9 (oR [1,0,5] [oM 10 5,oT 11 (.un .neg) 10,oM 5 11]) (.skip))) (.seq (oR [5,1,0] [oM 12 0,oM 13
 1,oI 14 (.bin .lss) [.tmp 13,oK 0],oM 15 5,oT 16 (.call zBa true) 15,oI 17 (.call zp false) [.tmp 12,.tmp 14,.tmp
 16],oM 4 17]) (.ret))))
def zCE : AF:={ results:=[.tmp 4],body:=zDs }
def zIO : AC:=.seq (oR [3,1,0,2] [oI 8 .mv [oB false],oI 9 .mv [.const (.lst (some true) 0 [])]]) (.seq (.seq (.reg [3,1,0,2] false [oM
 10 0,oM 11 2,oD 12 (.eqb false) 10 11]) (oC 12 (.seq (oR [3,1,0] [oM 13 0,oM 14 1,oM 15 3,oD 16 (.call zCB true) 14 15,oM 8 13,oM 9 16])
 (.ret)) (.skip))) (.seq (.seq (oR [3,1,0,2] [oM 17 1,oM 18 3,oD 19 (.call zCC true) 17 18,oI 20 (.bin .geq) [.tmp 19,oK 0]]) (oC 20 (.seq
 (oR [3,1,0] [oM 21 0,oM 22 1,oM 23 3,oD 24 (.call zBL true) 22 23,oM 8 21,oM 9 24]) (.ret)) (.skip))) (.seq (oR [1,3,2] [oM 25 2,oM 26
 3,oM 27 1,oD 28 (.call zBL true) 26 27,oM 8 25,oM 9 28]) (.ret))))
def zEY : AF:={ results:=[.tmp 8,.tmp 9],body:=zIO }
def zD7 : AC:=.seq (oR [0] [oI 2 .mv [oB false]]) (.seq (oR [0] [oM 4 0,oN 5 4,oF 6 1 5,oL 7 1 false 6,oT 8 (.call
 zBM true) 7,oM 3 8]) (.seq (oR [0,3] [oM 9 3,oI 10 (.bin .lss) [.tmp 9,oK 64],oM 11 10,oG 12 11 false .mv [.tmp 3],oG 13 11 false (.bin
 .eql) [.tmp 12,oK 64],oG 14 11 false .mv [.tmp 13],oG 15 14 true .mv [.tmp 0],oG 16 14 true .nilchk [.tmp 15],oG 17 14 true (.fieldAddr 0) [.tmp 16],oG 18
 14 true (.load 1 false) [.tmp 17],oG 19 11 false .pick [.tmp 14,.tmp 18,oB false],oG 20 11 false .mv [.tmp 19],oG 21 20 true .mv [.tmp 0],oG 22 20 true
 (.call zAD true) [.tmp 21],oG 23 20 true (.bin .eql) [.tmp 22,.const (.int .u64 63)],oG 24 11 false .pick [.tmp 20,.tmp 23,
 oB false],oI 25 .pick [.tmp 11,oB true,.tmp 24],oM 2 25]) (.ret)))
def zCN : AF:={ results:=[.tmp 2],body:=zD7 }
def zEK : AC:=.seq (oR [0] [oI 2 .mv [.const (.int .u64 0)]]) (.seq (oR [0] [oI 3 .mv [.const (.int .u64 0)]]) (.seq (.seq (oR [0,3]
 [oM 4 0,oN 5 4,oF 6 1 5,oL 7 1 false 6,oT 8 (.len false) 7,oI 9 (.bin .gtr) [.tmp 8,oK 0]]) (oC 9 (oR [0] [oM 10 0,oN 11 10,oF 12 1 11,oL 13 1 false 12,
 oI 14 (.idxAddr 1) [.tmp 13,oK 0],oL 15 1 false 14,oT 16 (.convInt .u64) 15,oM 3 16]) (.skip))) (.seq (.seq (oR [0,3] [oM 17 0,oN 18 17,oF 19 1 18,oL 20
 1 false 19,oT 21 (.len false) 20,oI 22 (.bin .gtr) [.tmp 21,oK 1]]) (oC 22 (.reg [0,3] false [oM 23 3,oM 24 0,oN 25 24,oF 26 1 25,oL 27 1 false 26,oI 28
 (.idxAddr 1) [.tmp 27,oK 1],oL 29 1 false 28,oT 30 (.convInt .u64) 29,oI 31 (.bin .shl) [.tmp 30,.const (.int .u64 32)],oD 32 (.bin .or) 23 31,oM 3 32])
 (.skip))) (.seq (oR [3] [oM 33 3,oM 2 33]) (.ret)))))
def zCU : AF:={ results:=[.tmp 2],body:=zEK }
def zEt : AC:=.seq (oR [0] [oA 1 oZ]) (.seq (oR [1,0] [oL 3 1 false 0,oN 4 3,oF 5 1 4,oL 6 1 false 5,oI 7 (.bin .add) [.tmp 6,oK
 1],oN 8 3,oF 9 1 8,oS 1 9 7]) (.seq (.regt [1,0] false [oL 10 1 false 0,oI 11 (.callp zi) [.tmp 10,oK 0],oA 2 oZ,oS 12 2 11] (.step 0
 (.step 1 (.step 2 (.step 3 (.done)))))) (.seq (.regt [1,2,0] false [oL 12 1 false 0,oI 13 (.callp zr) [.tmp 12,.const (.int .u8 41)]]
 (.step 0 (.step 1 (.done)))) (.seq (oR [1,2] [oL 14 12 true 2,oS 12 1 14]) (.ret)))))
def zBV : AF:={ results:=[.cell 1 12 true],body:=zEt }
def zGD : AC:=.seq (oR [0,1] [oM 4 0,oT 5 (.call za false) 4]) (.seq (.seq (.reg [0,1] true [oM 6 0,oN 7 6,oF 8 1
 7,oL 9 1 false 8,oM 10 0,oN 11 10,oF 12 0 11,oL 13 1 false 12,oT 14 (.len true) 13,oD 15 (.bin .eql) 9 14,oM 16 15,oG 17 16 false .mv [.tmp 0],oG 18 16
 false .nilchk [.tmp 17],oG 19 16 false (.fieldAddr 0) [.tmp 18],oG 20 16 false (.load 1 false) [.tmp 19],oG 21 16 false .mv [.tmp 0],oG 22 16 false .nilchk
 [.tmp 21],oG 23 16 false (.fieldAddr 1) [.tmp 22],oG 24 16 false (.load 1 false) [.tmp 23],oG 25 16 false .idxStr [.tmp 20,.tmp 24],oG 26 16 false .mv [.tmp
 1],oG 27 16 false (.bin .neq) [.tmp 25,.tmp 26],oI 28 .pick [.tmp 16,oB true,.tmp 27]]) (oC 28 (.regt [0] false [oM 29 0,oM 30 0,oN 31 30,oF 32 1 31,oL
 33 1 false 32,oI 34 (.mkIface zS) [oK 2],oI 35 (.callp zX) [.tmp 29,.tmp 33,.tmp 34]] (.step 0 (.step 1 (.step 2 (.step 3 (.step
 4 (.step 5 (.step 6 (.done))))))))) (.skip))) (oR [0] [oM 36 0,oN 37 36,oF 38 1 37,oL 39 1 false 38,oI 40 (.bin .add) [.tmp 39,oK 1],oN 41 36,oF 42 1 41,
 oS 1 42 40]))
def zB3 : AF:={ results:=[],body:=zGD }
def zFF : AC:=.seq (.seq (.reg [2,4,0,3] true [oM 16 0,oN 17 16,oF 18 1 17,oL 19 1 false 18,oM 20 0,oN 21 20,oF 22 0 21,oL 23 1
 false 22,oT 24 (.len true) 23,oD 25 (.bin .lss) 19 24]) (oC 25 (.skip) (.exit 0))) (.seq (.block 1 [2,4,0,3] (.seq (.seq (.reg [2,4,0,3] true [oM 33 0,
 oN 34 33,oF 35 0 34,oL 36 1 false 35,oM 37 0,oN 38 37,oF 39 1 38,oL 40 1 false 39,oD 41 .idxStr 36 40,oI 42 (.bin .eql) [.tmp 41,.const (.int .u8 34)]])
 (oC 42 (.seq (oR [2,4,0,3] [oM 43 0,oN 44 43,oF 45 1 44,oL 46 1 false 45,oI 47 (.bin .add) [.tmp 46,oK 1],oN 48 43,oF 49 1 48,oS 1 49 47]) (.seq (.reg
 [2,4,0,3] true [oM 50 0,oN 51 50,oF 52 1 51,oL 53 1 false 52,oM 54 0,oN 55 54,oF 56 0 55,oL 57 1 false 56,oT 58 (.len true) 57,oD 59 (.bin .eql) 53
 58,oM 60 59,oG 61 60 false .mv [.tmp 0],oG 62 60 false .nilchk [.tmp 61],oG 63 60 false (.fieldAddr 0) [.tmp 62],oG 64 60 false (.load 1 false) [.tmp 63],
 oG 65 60 false .mv [.tmp 0],oG 66 60 false .nilchk [.tmp 65],oG 67 60 false (.fieldAddr 1) [.tmp 66],oG 68 60 false (.load 1 false) [.tmp 67],oG 69 60 false
 .idxStr [.tmp 64,.tmp 68],oG 70 60 false (.bin .neq) [.tmp 69,.const (.int .u8 34)],oI 71 .pick [.tmp 60,oB true,.tmp 70]]) (oC 71 (.seq (oR [2,4] [oM 72
 4,oT 73 .bytesToStr 72,⟨some 74,none,.build oZ [(0,1),(2,1)],[oK 2,.tmp 73]⟩,oS 12 2 74]) (.ret)) (.skip)))) (.skip))) (.reg [2,0,3,4] true [oM 75
 4,oM 76 0,oN 77 76,oF 78 0 77,oL 79 1 false 78,oM 80 0,oN 81 80,oF 82 1 81,oL 83 1 false 82,oD 84 .idxStr 79 83,oT 85 (.bslice 1) 84,oD 86 (.append 1
 1) 75 85,oM 4 86]))) (oR [2,4,0,3] [oM 26 0,oN 27 26,oF 28 1 27,oL 29 1 false 28,oI 30 (.bin .add) [.tmp 29,oK 1],oN 31 26,oF 32 1 31,oS 1 32 30]))
def zGE : AC:=.seq (oR [0] [oA 2 oZ]) (.seq (oR [2,0] [oM 5 0,oN 6 5,oF 7 1 6,oL 8 1 false 7,oM 3 8]) (.seq (oR [2,0,3] [oI 4 .mv
 [.const (.lst (some true) 0 [])]]) (.seq (.seq (oR [2,4,0,3] [oM 9 0,oN 10 9,oF 11 1 10,oL 12 1 false 11,oI 13 (.bin .add) [.tmp 12,oK 1],oN 14 9,oF 15
 1 14,oS 1 15 13]) (.block 0 [2,3,0] (.loop [2,4,0,3] zFF))) (.seq (.regt [2,3,0] false [oM 87 0,oM 88 3,oI 89 (.mkIface
 zS) [oK 2],oI 90 (.callp zX) [.tmp 87,.tmp 88,.tmp 89]] (.step 0 (.step 1 (.step 2 (.step 3 (.done)))))) (.seq (oR [2] [⟨some 91,
 none,.build oZ [],[]⟩,oS 12 2 91]) (.ret))))))
def zB4 : AF:={ results:=[.cell 2 12 true],body:=zGE }
def zI9 : AC:=.seq (oR [2,0,13,14] [oI 15 (.bin .lss) [.tmp 14,oK 7]]) (.seq (oC 15 (.skip) (.exit 1)) (.seq (.block 2 [2,0,13,14] (.seq
 (oR [2,0,13,14] [oM 16 14,oD 17 (.idxAgg 1 7 false) 13 14,oM 4 16,oM 5 17]) (.seq (oR [2,4,0,13,14,5] [oM 18 5,oM 19 0,oD 20 (.bin .eql) 18 19,oM
 21 20,oG 22 21 true .mv [.tmp 0],oG 23 21 true (.bin .neq) [.tmp 22,.const (.str [])],oI 24 .pick [.tmp 21,.tmp 23,oB false]]) (oC 24 (.seq (oR [2,4] [oM
 25 4,oT 26 (.call zC7 true) 25,oS 3 2 26,oI 3 .mv [oB true]]) (.ret)) (.skip))))) (oR [2,0,13,14] [oI 27 (.bin .add) [.tmp 14,oK 1],oM 14
 27])))
def zKp : AC:=.seq (oR [0] [oA 2 [.int .i64 0,.int .i64 0,.str []],oI 3 .mv [oB false]]) (.seq (.seq (oR [2,0] [oM 6 0]) (.block 0 [2,0] (.seq
 (oR [2,0,6] [oI 8 (.bin .eql) [.tmp 6,.const (.str [84,82,85,69])],oM 7 8]) (oC 7 (.seq (oR [2] [oI 9 (.call zCu true) [oB true],oS 3 2 9,oI 3
 .mv [oB true]]) (.ret)) (.seq (oR [2,0,6] [oI 11 (.bin .eql) [.tmp 6,.const (.str [70,65,76,83,69])],oM 10 11]) (oC 10 (.seq (oR [2] [oI 12 (.call
 zCu true) [oB false],oS 3 2 12,oI 3 .mv [oB true]]) (.ret)) (.skip))))))) (.seq (.seq (oR [2,0] [oI 13 (.load 7 true) [.glob zFh],oI 14 .mv
 [oK 0]]) (.block 1 [2] (.loop [2,14,0,13] zI9))) (.seq (oR [2] [⟨some 28,none,.build [.int .i64 0,.int .i64 0,.str []] [],[]⟩,oS 3 2 28,
 oI 3 .mv [oB false]]) (.ret))))
def zD8 : AF:={ results:=[.cell 2 3 true,.tmp 3],body:=zKp }
def zJo : AC:=.seq (oR [0] [oI 2 .mv [oB false]]) (.seq (oR [0] [oM 3 0,oI 4 (.bin .eql) [.tmp 3,.const (.int .u8 36)],oM 5 4,oG 6 5 false .mv
 [.tmp 0],oG 7 5 false (.bin .geq) [.tmp 6,.const (.int .u8 48)],oG 8 5 false .mv [.tmp 7],oG 9 8 true .mv [.tmp 0],oG 10 8 true (.bin .leq) [.tmp 9,.const
 (.int .u8 57)],oG 11 5 false .pick [.tmp 8,.tmp 10,oB false],oI 12 .pick [.tmp 5,oB true,.tmp 11],oM 13 12,oG 14 13 false .mv [.tmp 0],oG 15 13 false
 (.bin .geq) [.tmp 14,.const (.int .u8 65)],oG 16 13 false .mv [.tmp 15],oG 17 16 true .mv [.tmp 0],oG 18 16 true (.bin .leq) [.tmp 17,.const (.int .u8 90)],
 oG 19 13 false .pick [.tmp 16,.tmp 18,oB false],oI 20 .pick [.tmp 13,oB true,.tmp 19],oM 21 20,oG 22 21 false .mv [.tmp 0],oG 23 21 false (.bin .geq)
 [.tmp 22,.const (.int .u8 97)],oG 24 21 false .mv [.tmp 23],oG 25 24 true .mv [.tmp 0],oG 26 24 true (.bin .leq) [.tmp 25,.const (.int .u8 122)],oG 27 21
 false .pick [.tmp 24,.tmp 26,oB false],oI 28 .pick [.tmp 21,oB true,.tmp 27],oM 2 28]) (.ret))
def zCk : AF:={ results:=[.tmp 2],body:=zJo }
def zFG : AC:=.seq (.seq (.reg [0,3] true [oM 8 0,oN 9 8,oF 10 1 9,oL 11 1 false 10,oM 12 0,oN 13 12,oF 14 0 13,oL 15 1 false 14,
 oT 16 (.len true) 15,oD 17 (.bin .lss) 11 16,oM 18 17,oG 19 18 true .mv [.tmp 0],oG 20 18 true .nilchk [.tmp 19],oG 21 18 true (.fieldAddr 0) [.tmp 20],oG
 22 18 true (.load 1 false) [.tmp 21],oG 23 18 true .mv [.tmp 0],oG 24 18 true .nilchk [.tmp 23],oG 25 18 true (.fieldAddr 1) [.tmp 24],oG 26 18 true (.load 1
 false) [.tmp 25],oG 27 18 true .idxStr [.tmp 22,.tmp 26],oG 28 18 true (.call zAO true) [.tmp 27],oI 29 .pick [.tmp 18,.tmp 28,oB false]]) (oC
 29 (.skip) (.exit 0))) (.block 1 [0,3] (oR [0,3] [oM 30 0,oN 31 30,oF 32 1 31,oL 33 1 false 32,oI 34 (.bin .add) [.tmp 33,oK 1],oN 35 30,oF 36 1 35,oS
 1 36 34]))
def zGF : AC:=.seq (oR [0] [oI 2 .mv [.const (.str [])]]) (.seq (oR [0] [oM 4 0,oN 5 4,oF 6 1 5,oL 7 1 false 6,oM 3 7]) (.seq (.block 0
 [0,3] (.loop [0,3] zFG)) (.seq (.reg [0,3] true [oM 37 0,oN 38 37,oF 39 0 38,oL 40 1 false 39,oM 41 3,oM 42 0,oN 43 42,oF 44 1 43,
 oL 45 1 false 44,oI 46 (.slc none true true) [.tmp 40,.tmp 41,.tmp 45],oM 2 46]) (.ret))))
def zB5 : AF:={ results:=[.tmp 2],body:=zGF }
def zJp : AC:=.seq (oR [0] [oI 2 .mv [oB false]]) (.seq (oR [0] [oM 3 0,oT 4 (.len true) 3,oI 5 (.bin .geq) [.tmp 4,oK 2],oM 6 5,oG 7 6 true
 .mv [.tmp 0],oG 8 6 true (.len true) [.tmp 7],oG 9 6 true (.bin .leq) [.tmp 8,oK 10],oI 10 .pick [.tmp 6,.tmp 9,oB false],oM 11 10,oG 12 11 true .mv
 [.tmp 0],oG 13 11 true (.call zBU true) [.tmp 12,.const (.str [65,66,67,68,69,70,71,72,73,74,75,76,77,78,79,80,81,82,83,84,85,
 86,87,88,89,90])],oG 14 11 true (.bin .eql) [.tmp 13,.const (.str [])],oI 15 .pick [.tmp 11,.tmp 14,oB false],oM 2 15]) (.ret))
def zDi : AF:={ results:=[.tmp 2],body:=zJp }
def zEu : AC:=.seq (oR [1,0] [oA 2 oZ]) (.seq (.regt [2,1,0] false [oL 3 1 false 0,oL 4 1 false 1,oD 5 (.callp
 zBA) 3 4,oS 12 2 5] (.step 0 (.step 1 (.step 2 (.step 3 (.done)))))) (.ret))
def zBW : AF:={ results:=[.cell 2 12 true],body:=zEu }
def zCv : AC:=.block 1 [0,4,5] (.seq (.regt [0,4,5] true [oF 47 11 5,oL 48 1 false 47,oM 49 0,oT 50 (.callp
 zAk) 49,oT 51 (.bslice 12) 50,oD 52 (.append 12 104) 48 51,oF 53 11 5,oS 1 53 52] (.step 0 (.step 2 (.alt (.step 1 (.step 3 (.step 4
 (.step 5 (.step 6 (.step 7 (.done))))))) (.step 3 (.alt (.step 1 (.step 4 (.step 5 (.step 6 (.step 7 (.done)))))) (.step 4 (.step 1 (.step 5 (.step 6 (.step 7
 (.done)))))))))))) (.seq (oR [0,4,5] [oM 54 0,oT 55 (.call za false) 54]) (.seq (.seq (.reg [0,4,5] true [oM 56 0,oN 57 56,oF 58 1
 57,oL 59 1 false 58,oM 60 0,oN 61 60,oF 62 0 61,oL 63 1 false 62,oT 64 (.len true) 63,oD 65 (.bin .lss) 59 64,oM 66 65,oG 67 66 true .mv [.tmp 0],oG 68
 66 true .nilchk [.tmp 67],oG 69 66 true (.fieldAddr 0) [.tmp 68],oG 70 66 true (.load 1 false) [.tmp 69],oG 71 66 true .mv [.tmp 0],oG 72 66 true .nilchk
 [.tmp 71],oG 73 66 true (.fieldAddr 1) [.tmp 72],oG 74 66 true (.load 1 false) [.tmp 73],oG 75 66 true .idxStr [.tmp 70,.tmp 74],oG 76 66 true (.bin .eql)
 [.tmp 75,.const (.int .u8 44)],oI 77 .pick [.tmp 66,.tmp 76,oB false]]) (oC 77 (.seq (oR [0,4,5] [oM 78 0,oN 79 78,oF 80 1 79,oL 81 1 false 80,oI 82
 (.bin .add) [.tmp 81,oK 1],oN 83 78,oF 84 1 83,oS 1 84 82]) (.exit 1)) (.skip))) (.seq (.regt [4,5,0] false [oM 85 0,oI 86 (.callp zr)
 [.tmp 85,.const (.int .u8 41)]] (.step 0 (.step 1 (.done)))) (.seq (oR [4,5] [oL 87 12 true 5,oS 12 4 87]) (.ret))))))
def zGG : AC:=.seq (oR [0,1] [oA 4 oZ]) (.seq (oR [4,0,1] [oM 6 1,⟨some 7,none,.build oZ [(0,1),(2,1)],[oK 9,.tmp 6]⟩,oA 5 oZ,
 oS 12 5 7]) (.seq (oR [4,5,0] [oM 8 0,oN 9 8,oF 10 1 9,oL 11 1 false 10,oI 12 (.bin .add) [.tmp 11,oK 1],oN 13 8,oF 14 1 13,oS 1 14 12]) (.seq (oR [4,
 5,0] [oM 15 0,oT 16 (.call za false) 15]) (.seq (.seq (.reg [4,5,0] true [oM 17 0,oN 18 17,oF 19 1 18,oL 20 1 false 19,oM 21 0,oN
 22 21,oF 23 0 22,oL 24 1 false 23,oT 25 (.len true) 24,oD 26 (.bin .lss) 20 25,oM 27 26,oG 28 27 true .mv [.tmp 0],oG 29 27 true .nilchk [.tmp 28],oG 30
 27 true (.fieldAddr 0) [.tmp 29],oG 31 27 true (.load 1 false) [.tmp 30],oG 32 27 true .mv [.tmp 0],oG 33 27 true .nilchk [.tmp 32],oG 34 27 true (.fieldAddr
 1) [.tmp 33],oG 35 27 true (.load 1 false) [.tmp 34],oG 36 27 true .idxStr [.tmp 31,.tmp 35],oG 37 27 true (.bin .eql) [.tmp 36,.const (.int .u8 41)],oI 38
 .pick [.tmp 27,.tmp 37,oB false]]) (oC 38 (.seq (.reg [4,5,0] false [oM 39 0,oN 40 39,oF 41 1 40,oL 42 1 false 41,oI 43 (.bin .add) [.tmp 42,oK 1],oN
 44 39,oF 45 1 44,oS 1 45 43]) (.seq (.reg [4,5] false [oL 46 12 true 5,oS 12 4 46]) (.ret))) (.skip))) (.block 0 [4] (.loop [0,4,5]
 zCv))))))
def zBB : AF:={ results:=[.cell 4 12 true],body:=zGG }
def zKq : AC:=.seq (oR [0] [oA 2 oZ,oI 3 .mv [oB false]]) (.seq (.seq (oR [2,0] [oM 11 0,oT 12 (.call zBq true) 11,oM 10 12,oT 13
 (.extract 0) 10,oT 14 (.extract 1) 10,oM 4 13,oM 5 14]) (.seq (oR [2,4,0,5] [oM 15 5]) (oC 15 (.seq (oR [2,4] [oM 16 4,⟨some 17,none,.build oZ [(0,1),
 (1,1)],[oK 1,.tmp 16]⟩,oS 12 2 17,oI 3 .mv [oB true]]) (.ret)) (.skip)))) (.seq (.seq (oR [2,0] [oM 19 0,oT 20 (.call zAG true) 19,oM 18 20,
 oT 21 (.extract 0) 18,oT 22 (.extract 1) 18,oA 6 [.int .i64 0,.int .i64 0,.str []],oS 3 6 21,oM 7 22]) (.seq (oR [2,6,0,7] [oM 23 7]) (oC 23 (.seq (oR
 [2,6] [oF 24 1 6,oL 25 1 false 24,⟨some 26,none,.build oZ [(0,1),(1,1)],[oK 3,.tmp 25]⟩,oS 12 2 26,oI 3 .mv [oB true]]) (.ret)) (.skip)))) (.seq
 (.seq (.reg [2,0] false [oM 28 0,oT 29 (.call zAu true) 28,oM 27 29,oT 30 (.extract 0) 27,oT 31 (.extract 1) 27,oA 8 [.int .i64 0,.int .i64 0,
 .bool false,.bool false],oS 4 8 30,oM 9 31]) (.seq (oR [2,8,9] [oM 32 9,oI 33 (.eqn .iface false true) [.tmp 32,.const (.nili)]]) (.cond (.tmp 33) (.seq
 (oR [2,8] [oL 34 4 true 8,⟨some 35,none,.build oZ [(0,1),(3,4)],[oK 5,.tmp 34]⟩,oS 12 2 35,oI 3 .mv [oB true]]) (.ret)) (.skip)))) (.seq (oR [2]
 [⟨some 36,none,.build oZ [],[]⟩,oS 12 2 36,oI 3 .mv [oB false]]) (.ret)))))
def zD9 : AF:={ results:=[.cell 2 12 true,.tmp 3],body:=zKq }
def zGl : AC:=.seq (.seq (oR [0,3] [oM 6 3,oI 7 (.bin .gtr) [.tmp 6,oK 0],oM 8 7,oG 9 8 true .mv [.tmp 0],oG 10 8 true .mv [.tmp 3],oG
 11 8 true (.bin .sub) [.tmp 10,oK 1],oG 12 8 true (.idxAddr 1) [.tmp 9,.tmp 11],oG 13 8 true (.load 1 false) [.tmp 12],oG 14 8 true (.bin .eql) [.tmp 13,
 .const (.int .u32 0)],oI 15 .pick [.tmp 8,.tmp 14,oB false]]) (oC 15 (.skip) (.exit 0))) (.block 1 [3,0] (oR [0,3] [oM 16 3,oI 17 (.bin .sub) [.tmp 16,oK
 1],oM 3 17]))
def zHj : AC:=.seq (oR [0] [oI 2 .mv [.const (.lst (some true) 0 [])]]) (.seq (oR [0] [oM 4 0,oT 5 (.len false) 4,oM 3 5]) (.seq (.block 0
 [3,0] (.loop [3,0] zGl)) (.seq (oR [3,0] [oM 18 0,oM 19 3,oD 20 (.slc (some 1) false true) 18 19,oM 2 20]) (.ret))))
def zEA : AF:={ results:=[.tmp 2],body:=zHj }
def zHA : AC:=.seq (oR [0] [oI 2 .mv [.const (.lst (some true) 0 [])]]) (.seq (oR [0] [oM 3 0,oT 4 (.convInt .u32) 3,oM 5 0,oI 6 (.bin
 .shr) [.tmp 5,.const (.int .u64 32)],oT 7 (.convInt .u32) 6,oD 8 (.bslice 1) 4 7,oT 9 (.call zx true) 8,oM 2 9]) (.ret))
def zDm : AF:={ results:=[.tmp 2],body:=zHA }
def zHB : AC:=.seq (.seq (oR [5,1,0,7,6] [oM 19 7,oM 20 0,oT 21 (.len false) 20,oD 22 (.bin .lss) 19 21]) (oC 22 (.skip) (.exit 0)))
 (.seq (.block 1 [5,1,0,6,7] (.seq (oR [5,1,0,7,6] [oM 25 6,oM 26 0,oM 27 7,oD 28 (.idxAddr 1) 26 27,oL 29 1 false 28,oT 30 (.convInt .u64) 29,oD 31
 (.bin .add) 25 30,oM 6 31]) (.seq (.seq (oR [5,1,0,7,6] [oM 32 7,oM 33 1,oT 34 (.len false) 33,oD 35 (.bin .lss) 32 34]) (oC 35 (oR [5,1,0,7,6] [oM
 36 6,oM 37 1,oM 38 7,oD 39 (.idxAddr 1) 37 38,oL 40 1 false 39,oT 41 (.convInt .u64) 40,oD 42 (.bin .add) 36 41,oM 6 42]) (.skip))) (.seq (oR [5,1,0,7,
 6] [oM 43 5,oM 44 7,oM 45 6,oT 46 (.convInt .u32) 45,oD 47 (.idxAddr 1) 43 44,oS 1 47 46]) (oR [5,1,0,7,6] [oM 48 6,oI 49 (.bin .shr) [.tmp 48,.const
 (.int .u64 32)],oM 6 49]))))) (oR [5,1,0,6,7] [oM 23 7,oI 24 (.bin .add) [.tmp 23,oK 1],oM 7 24]))
def zEZ : AC:=.seq (oR [0,1] [oI 4 .mv [.const (.lst (some true) 0 [])]]) (.seq (.seq (oR [0,1] [oM 8 0,oT 9 (.len false) 8,oM 10 1,oT 11
 (.len false) 10,oD 12 (.bin .lss) 9 11]) (oC 12 (oR [0,1] [oM 13 1,oM 14 0,oM 0 13,oM 1 14]) (.skip))) (.seq (.reg [1,0] false [oM 15 0,oT 16 (.len false)
 15,oI 17 (.bin .add) [.tmp 16,oK 1],⟨some 18,none,.make 1 4 (.int .u32 0),[.tmp 17,.tmp 17]⟩,oM 5 18]) (.seq (oR [5,1,0] [oI 6 .mv [.const (.int .u64
 0)]]) (.seq (.seq (oR [5,1,0,6] [oI 7 .mv [oK 0]]) (.block 0 [5,6,0] (.loop [7,5,1,0,6] zHB))) (.seq (oR [5,6,0] [oM 50 5,oM 51 0,
 oT 52 (.len false) 51,oM 53 6,oT 54 (.convInt .u32) 53,oD 55 (.idxAddr 1) 50 52,oS 1 55 54]) (.seq (oR [5] [oM 56 5,oT 57 (.call zx true)
 56,oM 4 57]) (.ret)))))))
def zDG : AF:={ results:=[.tmp 4],body:=zEZ }
def zHC : AC:=.seq (.seq (oR [5,1,0] [oM 19 5,oI 20 (.bin .geq) [.tmp 19,oK 0]]) (oC 20 (.skip) (.exit 0))) (.seq (.block 1 [1,0,5]
 (.seq (.reg [5,1,0] true [oM 23 0,oM 24 5,oD 25 (.idxAddr 1) 23 24,oL 26 1 false 25,oM 27 1,oM 28 5,oD 29 (.idxAddr 1) 27 28,oL 30 1 false 29,oD 31
 (.bin .neq) 26 30]) (oC 31 (.seq (.seq (.reg [5,1,0] true [oM 32 0,oM 33 5,oD 34 (.idxAddr 1) 32 33,oL 35 1 false 34,oM 36 1,oM 37 5,oD 38 (.idxAddr 1)
 36 37,oL 39 1 false 38,oD 40 (.bin .lss) 35 39]) (oC 40 (.seq (oR [] [oI 4 .mv [oK (-1)]]) (.ret)) (.skip))) (.seq (oR [] [oI 4 .mv [oK 1]]) (.ret)))
 (.skip)))) (oR [1,0,5] [oM 21 5,oI 22 (.bin .sub) [.tmp 21,oK 1],oM 5 22]))
def zIP : AC:=.seq (oR [1,0] [oI 4 .mv [oK 0]]) (.seq (.seq (oR [1,0] [oM 6 0,oT 7 (.len false) 6,oM 8 1,oT 9 (.len false) 8,oD 10 (.bin
 .neq) 7 9]) (oC 10 (.seq (.seq (oR [1,0] [oM 11 0,oT 12 (.len false) 11,oM 13 1,oT 14 (.len false) 13,oD 15 (.bin .lss) 12 14]) (oC 15 (.seq (oR [] [oI 4
 .mv [oK (-1)]]) (.ret)) (.skip))) (.seq (oR [] [oI 4 .mv [oK 1]]) (.ret))) (.skip))) (.seq (.seq (oR [1,0] [oM 16 0,oT 17 (.len false) 16,oI 18 (.bin .sub)
 [.tmp 17,oK 1],oM 5 18]) (.block 0 [] (.loop [5,1,0] zHC))) (.seq (oR [] [oI 4 .mv [oK 0]]) (.ret))))
def zEa : AF:={ results:=[.tmp 4],body:=zIP }
def zHD : AC:=.seq (.seq (oR [5,1,0,7,6] [oM 12 7,oM 13 0,oT 14 (.len false) 13,oD 15 (.bin .lss) 12 14]) (oC 15 (.skip) (.exit 0)))
 (.seq (.block 1 [5,1,6,0,7] (.seq (oR [5,1,0,7,6] [oM 18 0,oM 19 7,oD 20 (.idxAddr 1) 18 19,oL 21 1 false 20,oT 22 (.convInt .u64) 21,oM 23 6,oD 24
 (.bin .sub) 22 23,oM 8 24]) (.seq (.seq (oR [5,1,0,7,8] [oM 25 7,oM 26 1,oT 27 (.len false) 26,oD 28 (.bin .lss) 25 27]) (oC 28 (oR [5,1,0,7,8] [oM
 29 8,oM 30 1,oM 31 7,oD 32 (.idxAddr 1) 30 31,oL 33 1 false 32,oT 34 (.convInt .u64) 33,oD 35 (.bin .sub) 29 34,oM 8 35]) (.skip))) (.seq (oR [5,1,0,7,
 8] [oM 36 5,oM 37 7,oM 38 8,oT 39 (.convInt .u32) 38,oD 40 (.idxAddr 1) 36 37,oS 1 40 39]) (oR [5,1,0,7,8] [oM 41 8,oI 42 (.bin .shr) [.tmp 41,.const
 (.int .u64 63)],oM 6 42]))))) (oR [5,1,6,0,7] [oM 16 7,oI 17 (.bin .add) [.tmp 16,oK 1],oM 7 17]))
def zIQ : AC:=.seq (oR [1,0] [oI 4 .mv [.const (.lst (some true) 0 [])]]) (.seq (oR [1,0] [oM 9 0,oT 10 (.len false) 9,⟨some 11,none,.make
 1 4 (.int .u32 0),[.tmp 10,.tmp 10]⟩,oM 5 11]) (.seq (oR [5,1,0] [oI 6 .mv [.const (.int .u64 0)]]) (.seq (.seq (oR [5,1,6,0] [oI 7 .mv [oK 0]]) (.block
 0 [5] (.loop [7,5,1,6,0] zHD))) (.seq (oR [5] [oM 43 5,oT 44 (.call zx true) 43,oM 4 44]) (.ret)))))
def zEb : AF:={ results:=[.tmp 4],body:=zIQ }
def zFn : AC:=.seq (.seq (oR [0,4,3] [oM 14 4,oI 15 (.bin .neq) [.tmp 14,.const (.int .u32 0)]]) (oC 15 (.skip) (.exit 0))) (.seq
 (.block 1 [3,0,4] (oR [0,4,3] [oM 18 3,oI 19 (.bin .add) [.tmp 18,oK 1],oM 3 19])) (oR [3,0,4] [oM 16 4,oI 17 (.bin .shr) [.tmp 16,.const (.int .u64
 1)],oM 4 17]))
def zGm : AC:=.seq (oR [0] [oI 2 .mv [oK 0]]) (.seq (.seq (oR [0] [oM 5 0,oT 6 (.len false) 5,oI 7 (.bin .eql) [.tmp 6,oK 0]]) (oC 7 (.seq
 (oR [] [oI 2 .mv [oK 0]]) (.ret)) (.skip))) (.seq (oR [0] [oI 3 .mv [oK 0]]) (.seq (.seq (.reg [3,0] false [oM 8 0,oM 9 0,oT 10 (.len false) 9,oI 11 (.bin
 .sub) [.tmp 10,oK 1],oD 12 (.idxAddr 1) 8 11,oL 13 1 false 12,oM 4 13]) (.block 0 [3,0] (.loop [4,3,0] zFn))) (.seq (oR [3,0] [oM 20
 0,oT 21 (.len false) 20,oI 22 (.bin .sub) [.tmp 21,oK 1],oI 23 (.bin .mul) [.tmp 22,oK 32],oM 24 3,oD 25 (.bin .add) 23 24,oM 2 25]) (.ret)))))
def zDd : AF:={ results:=[.tmp 2],body:=zGm }
def zCT : AC:=.seq (.seq (oR [0,3] [oM 10 0,oN 11 10,oF 12 1 11,oL 13 1 false 12,oM 14 3,oT 15 (.convInt .i64) 14,oD
 16 (.call zCD true) 13 15,oI 17 (.bin .eql) [.tmp 16,.const (.int .u64 0)]]) (oC 17 (.skip) (.exit 0))) (.block 1 [3,0] (oR [0,3] [oM 18 3,oI
 19 (.bin .add) [.tmp 18,.const (.int .u64 1)],oM 3 19]))
def zCd : AC:=.seq (oR [0] [oI 2 .mv [.const (.int .u64 0)]]) (.seq (oR [0] [oI 3 .mv [.const (.int .u64 0)]]) (.seq (.seq (oR
 [3,0] [oM 4 0,oN 5 4,oF 6 1 5,oL 7 1 false 6,oT 8 (.len false) 7,oI 9 (.bin .eql) [.tmp 8,oK 0]]) (oC 9 (.seq (oR [] [oI 2 .mv [.const (.int .u64 0)]])
 (.ret)) (.skip))) (.seq (.block 0 [3] (.loop [3,0] zCT)) (.seq (oR [3] [oM 20 3,oM 2 20]) (.ret)))))
def zA1 : AF:={ results:=[.tmp 2],body:=zCd }
def b_value_Is : AC:=.seq (oR [0] [oA 2 [.int .i64 0,.int .i64 0,.str []]]) (.seq (oR [2,0] [⟨some 4,none,.build [.int .i64 0,.int .i64 0,.str []] [(0,
 1)],[oK 3]⟩,oA 3 [.int .i64 0,.int .i64 0,.str []],oS 3 3 4]) (.seq (.seq (.reg [2,3,0] false [oM 5 0]) (oC 5 (oR [2,3] [oF 6 1 3,oJ (.store 1) [.tmp 6,
 oK 1]]) (.skip))) (.seq (oR [2,3] [oL 7 3 true 3,oS 3 2 7]) (.ret))))
def zJA : AF:={ results:=[.cell 2 3 true],body:=b_value_Is }
def b_value_Wrong : AC:=.seq (oR [0] [oA 2 [.int .i64 0,.int .i64 0,.str []]]) (.seq (oR [2,0] [oM 3 0,⟨some 4,none,.build [.int .i64 0,.int .i64 0,
 .str []] [(0,1),(1,1)],[oK 4,.tmp 3]⟩,oS 3 2 4]) (.ret))
def zFo : AF:={ results:=[.cell 2 3 true],body:=b_value_Wrong }
def b_strings_Trim : AC:=.seq (oR [0,1] [oI 4 .mv [.const (.str [])]]) (.seq (.seq (oR [0,1] [oM 7 0,oI 8 (.bin .eql) [.tmp 7,.const (.str [])],oM 9 8,oG
 10 9 false .mv [.tmp 1],oG 11 9 false (.bin .eql) [.tmp 10,.const (.str [])],oI 12 .pick [.tmp 9,oB true,.tmp 11]]) (oC 12 (.seq (oR [0] [oM 13 0,oM 4 13])
 (.ret)) (.skip))) (.seq (.seq (oR [1,0] [oM 14 1,oT 15 (.len true) 14,oI 16 (.bin .eql) [.tmp 15,oK 1],oM 17 16,oG 18 17 true .mv [.tmp 1],oG 19 17 true
 .idxStr [.tmp 18,oK 0],oG 20 17 true (.bin .lss) [.tmp 19,.const (.int .u8 128)],oI 21 .pick [.tmp 17,.tmp 20,oB false]]) (oC 21 (.seq (.reg [1,0] true
 [oM 22 0,oM 23 1,oI 24 .idxStr [.tmp 23,oK 0],oD 25 (.call zFg true) 22 24,oM 26 1,oI 27 .idxStr [.tmp 26,oK 0],oD 28 (.call
 zF9 true) 25 27,oM 4 28]) (.ret)) (.skip))) (.seq (.seq (oR [0,1] [oM 30 1,oT 31 (.call zAn true) 30,oM 29 31,oT 32
 (.extract 0) 29,oT 33 (.extract 1) 29,⟨some 5,none,.alloc (List.replicate 256 (.bool false)),[]⟩,oS 256 5 32,oM 6 33]) (.seq (oR [5,0,1,6] [oM 34 6])
 (oC 34 (.seq (oR [5,0] [oM 35 0,oD 36 (.call zAW true) 35 5,oD 37 (.call zAf true) 36 5,oM 4 37]) (.ret)) (.skip))))
 (.seq (oR [1,0] [oM 38 0,oM 39 1,oD 40 (.call zEI true) 38 39,oM 41 1,oD 42 (.call zEo true) 40 41,oM 4 42])
 (.ret)))))
def zEv : AF:={ results:=[.tmp 4],body:=b_strings_Trim }
def zEL : AC:=.seq (oR [0] [oA 2 oZ]) (.seq (oR [2,0] [oM 7 0,oT 8 (.call za false) 7]) (.seq (oR [2,0] [oM 9
 0,oN 10 9,oF 11 1 10,oL 12 1 false 11,oM 3 12]) (.seq (oR [2,0,3] [oM 14 0,oT 15 (.call zq false) 14,oT 16 (.call zAu true)
 15,oM 13 16,oT 17 (.extract 0) 13,oT 18 (.extract 1) 13,⟨some 4,none,.alloc [.int .i64 0,.int .i64 0,.bool false,.bool false],[]⟩,oS 4 4 17,oM 5 18])
 (.seq (.seq (.reg [2,0,3,4,5] true [oM 19 5,oI 20 (.eqn .iface true true) [.tmp 19,.const (.nili)],oM 21 20,oG 22 21 false .mv [.tmp 0],oG 23 21 false
 .nilchk [.tmp 22],oG 24 21 false (.fieldAddr 1) [.tmp 23],oG 25 21 false (.load 1 false) [.tmp 24],oG 26 21 false .mv [.tmp 0],oG 27 21 false .nilchk [.tmp
 26],oG 28 21 false (.fieldAddr 0) [.tmp 27],oG 29 21 false (.load 1 false) [.tmp 28],oG 30 21 false (.len true) [.tmp 29],oG 31 21 false (.bin .eql) [.tmp
 25,.tmp 30],oI 32 .pick [.tmp 21,oB true,.tmp 31],oM 33 32,oG 34 33 false .mv [.tmp 0],oG 35 33 false .nilchk [.tmp 34],oG 36 33 false (.fieldAddr 0)
 [.tmp 35],oG 37 33 false (.load 1 false) [.tmp 36],oG 38 33 false .mv [.tmp 0],oG 39 33 false .nilchk [.tmp 38],oG 40 33 false (.fieldAddr 1) [.tmp 39],oG
 41 33 false (.load 1 false) [.tmp 40],oG 42 33 false .idxStr [.tmp 37,.tmp 41],oG 43 33 false (.bin .neq) [.tmp 42,.const (.int .u8 58)],oI 44 .pick [.tmp
 33,oB true,.tmp 43]]) (oC 44 (.seq (oR [2,0,3] [oM 45 0,oM 46 3,oN 47 45,oF 48 1 47,oS 1 48 46]) (.seq (.regt [2,0] false [oM 49 0,oI 50 (.callp
 zi) [.tmp 49,oK 0],oS 12 2 50] (.step 0 (.step 1 (.step 2 (.done))))) (.ret))) (.skip))) (.seq (oR [2,4,0] [oM 51 0,oN 52 51,oF 53 1 52,
 oL 54 1 false 53,oI 55 (.bin .add) [.tmp 54,oK 1],oN 56 51,oF 57 1 56,oS 1 57 55]) (.seq (oR [2,4,0] [oM 58 0,oN 59 58,oF 60 1 59,oL 61 1 false 60,oM
 3 61]) (.seq (oR [2,4,3,0] [oM 63 0,oT 64 (.call zq false) 63,oT 65 (.call zAu true) 64,oM 62 65,oT 66 (.extract 0) 62,oT 67
 (.extract 1) 62,⟨some 6,none,.alloc [.int .i64 0,.int .i64 0,.bool false,.bool false],[]⟩,oS 4 6 66,oM 5 67]) (.seq (.seq (oR [2,6,4,3,0,5] [oM 68
 5,oI 69 (.eqn .iface true true) [.tmp 68,.const (.nili)]]) (oC 69 (.regt [2,6,4,3,0] false [oM 70 0,oM 71 3,oI 72 (.mkIface zS) [oK 2],oI 73
 (.callp zX) [.tmp 70,.tmp 71,.tmp 72]] (.step 0 (.step 1 (.step 2 (.step 3 (.done)))))) (.skip))) (.seq (oR [2,6,4] [oL 74 4 true 4,oL
 75 4 true 6,⟨some 76,none,.build oZ [(0,1),(3,4),(7,4)],[oK 6,.tmp 74,.tmp 75]⟩,oS 12 2 76]) (.ret))))))))))
def zBC : AF:={ results:=[.cell 2 12 true],body:=zEL }
def b_value_Whole : AC:=.seq (oR [0] [oI 2 .mv [oK 0],oI 3 .mv [oB false]]) (.seq (oR [0] [oM 7 0,oI 8 (.call zAh true) [.tmp 7,.const
 (.str [45])],oM 4 8]) (.seq (.seq (oR [0,4] [oM 9 4,oI 10 (.bin .eql) [.tmp 9,.const (.str [])],oM 11 10,oG 12 11 false .mv [.tmp 4],oG 13 11 false
 .idxStr [.tmp 12,oK 0],oG 14 11 false (.bin .eql) [.tmp 13,.const (.int .u8 48)],oG 15 11 false .mv [.tmp 14],oG 16 15 true .mv [.tmp 0],oG 17 15 true
 (.bin .neq) [.tmp 16,.const (.str [48])],oG 18 11 false .pick [.tmp 15,.tmp 17,oB false],oI 19 .pick [.tmp 11,oB true,.tmp 18],oM 20 19,oG 21 20 false
 .mv [.tmp 4],oG 22 20 false (.call zBU true) [.tmp 21,.const (.str [48,49,50,51,52,53,54,55,56,57])],oG 23 20 false (.bin .neq) [.tmp 22,
 .const (.str [])],oI 24 .pick [.tmp 20,oB true,.tmp 23]]) (oC 24 (.seq (oR [] [oI 2 .mv [oK 0],oI 3 .mv [oB false]]) (.ret)) (.skip))) (.seq (oR [0] [oM 26
 0,oT 27 (.call zAq true) 26,oM 25 27,oT 28 (.extract 0) 25,oT 29 (.extract 1) 25,oM 5 28,oM 6 29]) (.seq (.reg [6,5] true [oM 30 5,oM 31 6,oI
 32 (.eqn .iface false true) [.tmp 31,.const (.nili)],oM 2 30,oM 3 32]) (.ret)))))
def zFp : AF:={ results:=[.tmp 2,.tmp 3],body:=b_value_Whole }
def b_addr_Ref_0 : AC:=.seq (oR [2,52,53,54] [oD 55 (.bin .lss) 54 53]) (.seq (oC 55 (.skip) (.exit 0)) (.seq (.block 1 [2,52,53,54] (.seq (oR [2,52,
 53,54] [oD 56 (.idxAddr 1) 52 54,oL 57 1 false 56,oM 6 57]) (.seq (.seq (oR [2,52,53,54,6] [oM 58 6,oI 59 (.bin .lss) [.tmp 58,.const (.int .u8 48)],oM
 60 59,oG 61 60 false .mv [.tmp 6],oG 62 60 false (.bin .gtr) [.tmp 61,.const (.int .u8 57)],oI 63 .pick [.tmp 60,oB true,.tmp 62]]) (oC 63 (.seq (oR [2]
 [⟨some 64,none,.build [.int .i64 0,.int .i64 0,.bool false,.bool false] [],[]⟩,oI 65 (.mkIface zS) [oK 2],oS 4 2 64,oM 3 65]) (.ret)) (.skip)))
 (oR [2,52,53,54,6] [oF 66 0 2,oF 67 1 66,oL 68 1 false 67,oI 69 (.bin .mul) [.tmp 68,oK 10],oM 70 6,oI 71 (.bin .sub) [.tmp 70,.const (.int .u8 48)],
 oT 72 (.convInt .i64) 71,oD 73 (.bin .add) 69 72,oF 74 0 2,oF 75 1 74,oS 1 75 73])))) (oR [2,52,53,54] [oI 76 (.bin .add) [.tmp 54,oK 1],oM 54 76])))
def b_addr_Ref : AC:=.seq (oR [0] [oT 1 .box 0,oA 2 [.int .i64 0,.int .i64 0,.bool false,.bool false],oI 3 .mv [.const (.nili)]]) (.seq (oR [2,1] [oT 7
 (.mkFn zC8 0) 1,oM 4 7]) (.seq (oR [2,1,4] [oM 8 4,oT 9 (.callv false) 8,oF 10 2 2,oS 1 10 9]) (.seq (.seq (oR [2,1,4] [oL 11 1 false 1,oI 12
 (.bin .eql) [.tmp 11,.const (.str [])],oM 13 12,oG 14 13 false (.load 1 false) [.tmp 1],oG 15 13 false .idxStr [.tmp 14,oK 0],oG 16 13 false (.bin .lss)
 [.tmp 15,.const (.int .u8 65)],oI 17 .pick [.tmp 13,oB true,.tmp 16],oM 18 17,oG 19 18 false (.load 1 false) [.tmp 1],oG 20 18 false .idxStr [.tmp 19,oK
 0],oG 21 18 false (.bin .gtr) [.tmp 20,.const (.int .u8 90)],oI 22 .pick [.tmp 18,oB true,.tmp 21]]) (oC 22 (.seq (oR [2] [⟨some 23,none,.build [.int .i64
 0,.int .i64 0,.bool false,.bool false] [],[]⟩,oI 24 (.mkIface zS) [oK 2],oS 4 2 23,oM 3 24]) (.ret)) (.skip))) (.seq (oR [2,1,4] [oL 25 1 false
 1,oI 26 .idxStr [.tmp 25,oK 0],oI 27 (.bin .sub) [.tmp 26,.const (.int .u8 65)],oT 28 (.convInt .i64) 27,oI 29 (.bin .add) [.tmp 28,oK 1],oF 30 0 2,oF
 31 0 30,oS 1 31 29]) (.seq (oR [2,1,4] [oL 32 1 false 1,oI 33 (.slc none true false) [.tmp 32,oK 1],oS 1 1 33]) (.seq (oR [2,1,4] [oM 34 4,oT 35 (.callv
 false) 34,oF 36 3 2,oS 1 36 35]) (.seq (.seq (oR [2,1] [oL 37 1 false 1,oI 38 (.bin .eql) [.tmp 37,.const (.str [])],oM 39 38,oG 40 39 false (.load 1
 false) [.tmp 1],oG 41 39 false (.len true) [.tmp 40],oG 42 39 false (.bin .gtr) [.tmp 41,oK 2],oI 43 .pick [.tmp 39,oB true,.tmp 42],oM 44 43,oG 45 44
 false (.load 1 false) [.tmp 1],oG 46 44 false .idxStr [.tmp 45,oK 0],oG 47 44 false (.bin .eql) [.tmp 46,.const (.int .u8 48)],oI 48 .pick [.tmp 44,oB
 true,.tmp 47]]) (.cond (.tmp 48) (.seq (oR [2] [⟨some 49,none,.build [.int .i64 0,.int .i64 0,.bool false,.bool false] [],[]⟩,oI 50 (.mkIface
 zS) [oK 2],oS 4 2 49,oM 3 50]) (.ret)) (.skip))) (.seq (.seq (oR [2,1] [oL 51 1 false 1,oT 52 .strToBytes 51,oT 53 (.len false) 52,oI 54 .mv [oK
 0]]) (.block 0 [2] (.loop [2,54,52,53] b_addr_Ref_0))) (.seq (oR [2] [oL 77 4 true 2,oS 4 2 77,oI 3 .mv [.const (.nili)]]) (.ret))))))))))
def zJB : AF:={ results:=[.cell 2 4 true,.tmp 3],body:=b_addr_Ref }
def zIR : AC:=.seq (oR [1,0] [oI 4 .mv [.const (.int .u64 0)]]) (.seq (.seq (oR [1,0] [oM 5 1,oI 6 (.bin .lss) [.tmp 5,oK 0],oM 7 6,oG 8 7
 false .mv [.tmp 1],oG 9 7 false (.bin .quo) [.tmp 8,oK 32],oG 10 7 false .mv [.tmp 0],oG 11 7 false (.len false) [.tmp 10],oG 12 7 false (.bin .geq) [.tmp
 9,.tmp 11],oI 13 .pick [.tmp 7,oB true,.tmp 12]]) (oC 13 (.seq (oR [] [oI 4 .mv [.const (.int .u64 0)]]) (.ret)) (.skip))) (.seq (oR [1,0] [oM 14 0,oM 15
 1,oI 16 (.bin .quo) [.tmp 15,oK 32],oD 17 (.idxAddr 1) 14 16,oL 18 1 false 17,oM 19 1,oT 20 (.convInt .u64) 19,oI 21 (.bin .rem) [.tmp 20,.const (.int
 .u64 32)],oD 22 (.bin .shr) 18 21,oT 23 (.convInt .u64) 22,oI 24 (.bin .and) [.tmp 23,.const (.int .u64 1)],oM 4 24]) (.ret)))
def zEc : AF:={ results:=[.tmp 4],body:=zIR }
def zFH : AC:=.seq (.seq (oR [2,0,4] [oM 6 4,oM 7 0,oT 8 (.len true) 7,oD 9 (.bin .lss) 6 8]) (oC 9 (.skip) (.exit 0))) (.seq (.block
 1 [2,0,4] (.seq (oR [2,0,4] [oM 12 0,oM 13 4,oD 14 .idxStr 12 13,oM 5 14]) (.seq (.seq (oR [2,0,4,5] [oM 15 5,oI 16 (.bin .geq) [.tmp 15,.const (.int
 .u8 128)]]) (oC 16 (.seq (oR [2] [oL 17 256 true 2,oS 256 2 17,oI 3 .mv [oB false]]) (.ret)) (.skip))) (oR [2,0,4,5] [oM 18 5,oD 19 (.idxArr 1 256) 2 18,
 oJ (.store 1) [.tmp 19,oB true]])))) (oR [2,0,4] [oM 10 4,oI 11 (.bin .add) [.tmp 10,oK 1],oM 4 11]))
def zGH : AC:=.seq (oR [0] [⟨some 2,none,.alloc (List.replicate 256 (.bool false)),[]⟩,oI 3 .mv [oB false]]) (.seq (.seq (oR [2,0] [oI
 4 .mv [oK 0]]) (.block 0 [2] (.loop [2,4,0] zFH))) (.seq (oR [2] [oL 20 256 true 2,oS 256 2 20,oI 3 .mv [oB true]]) (.ret)))
def zB6 : AF:={ results:=[.cell 2 256 true,.tmp 3],body:=zGH }
def zEw : AC:=.seq (.seq (oR [0,1] [oM 5 0,oT 6 (.len true) 5,oI 7 (.bin .gtr) [.tmp 6,oK 0]]) (oC 7 (.skip) (.exit 0))) (.block 1
 [0,1] (.seq (.seq (oR [0,1] [oM 8 1,oM 9 0,oI 10 .idxStr [.tmp 9,oK 0],oD 11 (.call zo true) 8 10,oT 12 (.un .not) 11]) (oC 12
 (.exit 0) (.skip))) (oR [1,0] [oM 13 0,oI 14 (.slc none true false) [.tmp 13,oK 1],oM 0 14])))
def zFq : AC:=.seq (oR [0,1] [oI 4 .mv [.const (.str [])]]) (.seq (.block 0 [0] (.loop [0,1] zEw)) (.seq (oR [0]
 [oM 15 0,oM 4 15]) (.ret)))
def zBs : AF:={ results:=[.tmp 4],body:=zFq }
def zEM : AC:=.seq (.seq (oR [0,1] [oM 5 0,oT 6 (.len true) 5,oI 7 (.bin .gtr) [.tmp 6,oK 0]]) (oC 7 (.skip) (.exit 0))) (.block 1
 [0,1] (.seq (.seq (oR [0,1] [oM 8 1,oM 9 0,oM 10 0,oT 11 (.len true) 10,oI 12 (.bin .sub) [.tmp 11,oK 1],oD 13 .idxStr 9 12,oD 14 (.call
 zo true) 8 13,oT 15 (.un .not) 14]) (oC 15 (.exit 0) (.skip))) (oR [1,0] [oM 16 0,oM 17 0,oT 18 (.len true) 17,oI 19 (.bin .sub)
 [.tmp 18,oK 1],oD 20 (.slc none false true) 16 19,oM 0 20])))
def zFI : AC:=.seq (oR [0,1] [oI 4 .mv [.const (.str [])]]) (.seq (.block 0 [0] (.loop [0,1] zEM)) (.seq (oR [0]
 [oM 21 0,oM 4 21]) (.ret)))
def zBk : AF:={ results:=[.tmp 4],body:=zFI }
def zHE : AC:=.seq (oR [1,0] [oI 4 .mv [.const (.str [])]]) (.seq (oR [1,0] [oM 5 0,oM 6 1,oD 7 (.call zAX true) 5 6,
 oM 4 7]) (.ret))
def zCX : AF:={ results:=[.tmp 4],body:=zHE }
def b_addr_Ref_c1 : AC:=.seq (oR [0] [oI 1 .mv [oB false]]) (.seq (.seq (oR [0] [oL 2 1 false 0,oI 3 (.bin .neq) [.tmp 2,.const (.str [])],oM 4 3,oG 5 4
 true (.load 1 false) [.tmp 0],oG 6 4 true .idxStr [.tmp 5,oK 0],oG 7 4 true (.bin .eql) [.tmp 6,.const (.int .u8 36)],oI 8 .pick [.tmp 4,.tmp 7,oB
 false]]) (oC 8 (.seq (oR [0] [oL 9 1 false 0,oI 10 (.slc none true false) [.tmp 9,oK 1],oS 1 0 10]) (.seq (oR [] [oI 1 .mv [oB true]]) (.ret))) (.skip)))
 (.seq (oR [] [oI 1 .mv [oB false]]) (.ret)))
def zFr : AF:={ results:=[.tmp 1],body:=b_addr_Ref_c1 }
def zDe : AC:=.seq (oR [1,0] [oI 4 .mv [oB false]]) (.seq (oR [1,0] [oM 5 0,oM 6 1,oN 7 5,oD 8 (.idxArr 1 256) 7 6,oL 9 1
 false 8,oM 4 9]) (.ret))
def zAt : AF:={ results:=[.tmp 4],body:=zDe }
def zFJ : AC:=.seq (oR [1,0] [oI 4 .mv [.const (.str [])]]) (.seq (.seq (oR [1,0] [oM 5 0,oM 6 1,oD 7 (.call zAF
 true) 5 6]) (oC 7 (.seq (oR [1,0] [oM 8 0,oM 9 1,oT 10 (.len true) 9,oD 11 (.slc none true false) 8 10,oM 4 11]) (.ret)) (.skip))) (.seq (oR [0] [oM 12 0,
 oM 4 12]) (.ret)))
def zBl : AF:={ results:=[.tmp 4],body:=zFJ }
end Go.AM
