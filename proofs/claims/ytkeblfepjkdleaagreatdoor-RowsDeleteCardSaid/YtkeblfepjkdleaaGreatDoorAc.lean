/- Abstract code, printed by a program of my own (wip/gen/Gen.lean.tpl) off the dump. -/
import Derived.Test.YtkeblfepjkdleaaGreatDoorGAm22An
set_option linter.all false
namespace Go.AM
abbrev oc1 (d f a:Nat):AI:=⟨some d,none,.call f true,[.tmp a]⟩
abbrev oc2 (d f a b:Nat):AI:=⟨some d,none,.call f true,[.tmp a,.tmp b]⟩
abbrev oc3 (d f a b c:Nat):AI:=⟨some d,none,.call f true,[.tmp a,.tmp b,.tmp c]⟩
abbrev oc4 (d f a b c e:Nat):AI:=⟨some d,none,.call f true,[.tmp a,.tmp b,.tmp c,.tmp e]⟩
abbrev ox1 (d f a:Nat):AI:=⟨some d,none,.call f false,[.tmp a]⟩
abbrev ox2 (d f a b:Nat):AI:=⟨some d,none,.call f false,[.tmp a,.tmp b]⟩
abbrev ox3 (d f a b c:Nat):AI:=⟨some d,none,.call f false,[.tmp a,.tmp b,.tmp c]⟩
abbrev oe (d i a:Nat):AI:=⟨some d,none,.extract i,[.tmp a]⟩
abbrev oi (d:Nat) (x:Opd):AI:=⟨some d,none,.mv,[x]⟩
abbrev oNl:Opd:=.const (.lst (some true) 0 [])
abbrev oNi:Opd:=.const .nili
abbrev oNs:Opd:=.const (.str [])
abbrev oWf (d g:Nat) (b:Bool) (o a:Nat):AI:=⟨some d,some (g,b),.fieldAddr o,[.tmp a]⟩
abbrev oWo (d g:Nat) (b:Bool) (a:Nat):AI:=⟨some d,some (g,b),.load 1 false,[.tmp a]⟩
abbrev oe8 (d:Nat) (o:BinOp) (a:Nat) (n:Int):AI:=⟨some d,none,.bin o,[.tmp a,.const (.int .u8 n)]⟩
abbrev og8 (d g:Nat) (b:Bool) (o:BinOp) (a:Nat) (n:Int):AI:=⟨some d,some (g,b),.bin o,[.tmp a,.const (.int .u8 n)]⟩
abbrev oXs (d a b:Nat):AI:=⟨some d,none,.idxStr,[.tmp a,.tmp b]⟩
abbrev oUn (d a:Nat):AI:=⟨some d,none,.un .not,[.tmp a]⟩
abbrev oAF (r:List ARes) (b:AC):AF:={ results:=r,body:=b }
abbrev zaK:List Nat:=[3,2,1,0]
def zKa:AC:=oQ zaK [oi 8 (oB false)] (oQ zaK [oM 14 0,oM 15 1,oM 16 2,oM 17 3,oc4 18 zEO 14 15 16 17,oM 13 18,oe 19 0 13,oe
 20 1 13,oM 9 19,oM 10 20] (.seq (.reg [10,9,3,2,1,0] false [oM 22 0,oM 23 1,oM 24 2,oM 25 3,oc4 26 zF4 22 23 24 25,oM 21 26,oe 27 0 21,oe 28 1 21,oM 11
 27,oM 12 28]) (oQ [10,9,12,11] [oM 29 11,oM 30 12,oM 31 9,oM 32 10,oc4 33
zFQ 29 30 31 32,oM 8 33] (.ret))))
def zFx:AF:=oAF [.tmp 8] zKa
abbrev zC33:List Nat:=[3,2,1,0,13,14,12,15]
def zEw:AC:=.seq (oQ [12,3,2,1,0,13] [oM 29 13,oM 30 0,zEN 31 30,oX 32 .lss 29 31] (.cond (.tmp 32) (.skip) (.exit 0))) (.seq (.block 1
 [12,3,2,1,0,13] (oQ [12,3,2,1,0,13] [oM 35 0,oM 36 13,oXI 37 3 35 36,oL 38 3 true 37,oA 14 zV3,oS 3 14 38] (oQ [12,3,2,1,0,13,14]
 [oF 39 0 14,oF 40 0 39,oO 41 40,oM 15 41] (.seq (oQ [12,3,2,1,0,13,14,15] [oM 42 1]
(oC 42 (oR [12,3,2,1,0,13,14] [oF 43 0 14,oF 44 1 43,oO 45 44,oM 15 45]) (.skip))) (.seq (oQ [12,3,2,1,0,13,14,15] [oM 46 15,oM 47 2,oX 48 .geq 46 47,oM 49 48,oV
 50 49 true 15,oV 51 49 true 2,oV 52 49 true 3,oXG 53 49 true .add 51 52,oXG 54 49 true .lss 50 53,oI 55 .pick [.tmp 49,.tmp 54,oB false]] (oC 55 (.exit 1)
 (.skip))) (.seq (oQ zC33 [oM 56 15,oM 57 2,oX 58 .geq 56 57,oM 59 58,oV 60 59 true
1,oI 61 .pick [.tmp 59,.tmp 60,oB false]] (oC 61 (oR zC33 [oM 62 15,oM 63 3,oX 64 .sub 62 63,oF 65 0 14,oF 66 1 65,oS 1 66 64]) (.skip))) (.seq (oQ zC33 [oM 67
 15,oM 68 2,oX 69 .geq 67 68,oM 70 69,oV 71 70 true 1,oW 72 70 true (.un .not) 71,oI 73 .pick [.tmp 70,.tmp 72,oB false]] (oC 73 (oR zC33 [oM 74 15,oM 75 3,oX 76
 .sub 74 75,oF 77 0 14,oF 78 0 77,oS 1 78 76]) (.skip))) (oQ [3,2,1,0,13,14,12]
[oF 80 2 14,oO 81 80,oM 82 1,oM 83 2,oM 84 3,⟨some 85,none,.build [.int .i64 0,.bool false,.int .i64 0,.int .i64 0,.int .i64 0,.int .i64 0,.int .i64 0,.int .i64
 0,.int .i64 0,.int .i64 0] [(0,1),(1,1),(2,1),(3,1)],[oK 3,.tmp 82,.tmp 83,.tmp 84]⟩,oc2 86 zBx 81 85,oM 79 86,oe 87 0 79,oe 88 1 79,oM 16 87,oM
 17 88] (.seq (.seq (.reg [17,3,2,1,0,13,14,12,16] false [oM 89 17,oE 90 .neq 89
0]) (oC 90 (oQ [17] [oM 91 17,oi 8 oNl,oM 9 91] (.ret)) (.skip))) (oQ [3,2,1,0,13,14,12,16] [oM 92 16,oF 93 2 14,oS 1 93 92] (oR [3,2,1,0,13,14,12] [oM 94 12,oL
 95 3 true 14,oT 96 (.bslice 3) 95,oD 97 (.append 3 32) 94 96,oM 12 97]))))))))))) (oR [12,3,2,1,0,13] [oM 33 13,oE 34 .add 33 1,oM 13 34]))
def zOE:AC:=oQ zaK [oi 8 oNl,oi 9 (oK 0)] (oQ zaK [oM 18 0,oc1 19 zCf 18,oM 10 19] (.seq (oQ [10,3,2,1,0] [oM 20 10,oE 21 .neq 20
 0] (oC 21 (oQ [10] [oM 22 10,oi 8 oNl,oM 9 22] (.ret)) (.skip))) (oQ zaK [oM 23 1,oM 24 2,oM 25 3,oc3 26 zFR 23 24 25,oM 11 26] (.seq (oQ
 [3,2,1,0,11] [oM 27 11,oUn 28 27] (oC 28 (oQ [] [oi 8 oNl,oi 9 (oK 1)] (.ret)) (.skip)))
(oQ zaK [oi 12 oNl] (.seq (oQ [12,3,2,1,0] [oi 13 (oK 0)] (.block 0 [12] (.loop [13,12,3,2,1,0] zEw))) (oQ [12] [oM 98 12,oc1 99 zCG
 98,oM 8 99,oi 9 (oK 0)] (.ret))))))))
def zI5:AF:=oAF [.tmp 8,.tmp 9] zOE
def zST:AC:=oQ [0,3,2,1] [oT 5 .box 1,oT 6 .box 2,oT 7 .box 3,oi 8 oNl,oi 9 oNi] (.seq (oQ [5,6,7,0] [oM 11 0,oc1 12 zF5 11,oM 10 12] (oQ
 [10,5,6,7,0] [oM 13 10,oI 14 (.eqn .iface true true) [.tmp 13,oNi]] (oC 14 (oQ [10] [oM 15 10,oi 8 oNl,oM 9 15] (.ret)) (.skip)))) (.seq (oQ [5,6,7,0] [oO 16
 5,oO 17 6,oO 18 7,oc3 19 zFI 16 17 18,oUn 20 19] (oC 20 (oQ [] [oI 21
(.mkIface zO) [oK 1],oi 8 oNl,oM 9 21] (.ret)) (.skip))) (oQ [5,6,7,0] [oM 22 0,oI 23 (.mkFn zEP 0) [.tmp 5,.tmp 6,.tmp 7],oI 24 (.mkFn
 zDJ 0) [.tmp 5,.tmp 6,.tmp 7],oc3 25 zIW 22 23 24,oe 26 0 25,oe 27 1 25,oM 8 26,oM 9 27] (.ret))))
def zL4:AF:=oAF [.tmp 8,.tmp 9] zST
def zQt:AC:=oQ [2,0,3,1] [oi 8 (oB false)] (oQ [2,0,3,1] [oM 11 1,oM 12 3,oc2 13 zEn 11 12,oM 9 13] (oQ [9,2,0] [oM 14 0,oM 15 2,oc2
 16 zEQ 14 15,oM 10 16] (oQ [10,9] [oM 17 9,oM 18 17,oV 19 18 true 10,oI 20 .pick [.tmp 18,.tmp 19,oB false],oM 8 20] (.ret))))
def zKt:AF:=oAF [.tmp 8] zQt
abbrev zC28:AC:=(oQ [] [oi 2 (oK 1)] (.ret))
def zM9:AC:=.seq (oQ [0,3] [oM 9 3,oM 10 0,zEN 11 10,oX 12 .lss 9 11] (oC 12 (.skip) (.exit 0))) (.seq (.block 1 [0,3] (oQ [0,3] [oM 15 0,oM
 16 3,oXI 17 3 15 16,oF 18 0 17,oL 19 2 true 18,oc1 20 zBo 19,oM 4 20] (.seq (oQ [0,3,4] [oM 21 4,oUn 22 21] (oC 22 zC28 (.skip))) (.seq (.seq (.reg
 [0,3] true [oM 23 3,oE 24 .gtr 23 0,oM 25 24,oV 26 25 true 0,oV 27 25 true 3,oEG 28
25 true .sub 27 1,oYI 29 25 true 3 26 28,oWf 30 25 true 0 29,oW 31 25 true (.load 2 true) 30,oV 32 25 true 0,oV 33 25 true 3,oYI 34 25 true 3 32 33,oWf 35 25
 true 0 34,oW 36 25 true (.load 2 true) 35,oY 37 25 true (.call zBy true) 31 36,oW 38 25 true (.un .not) 37,oI 39 .pick [.tmp 25,.tmp 38,oB false]])
 (oC 39 (oQ [] [oi 2 (oK 5)] (.ret)) (.skip))) (.seq (oQ [0,3] [oM 40 0,oM 41 3,oXI
42 3 40 41,oF 43 2 42,oO 44 43,oI 45 (.bin .eql) [.tmp 44,oNs]] (oC 45 (oQ [] [oi 2 (oK 3)] (.ret)) (.skip))) (oQ [0,3] [oM 46 0,oM 47 3,oXI 48 3 46 47,oF 49 2
 48,oO 50 49,oc1 51 zEB 50,oM 5 51] (oQ [5,0,3] [oM 52 5,oE 53 .neq 52 0] (oC 53 (oQ [5] [oM 54 5,oM 2 54] (.ret)) (.skip))))))))) (oR [0,3] [oM 13
 3,oE 14 .add 13 1,oM 3 14]))
abbrev zC26:AC:=(oQ [] [oi 2 (oK 4)] (.ret))
abbrev zji:AC:=(oQ [] [oi 2 (oK 0)] (.ret))
def zPZ:AC:=oQ [0] [oi 2 (oK 0)] (.seq (oQ [0] [oM 6 0,zEN 7 6,oE 8 .gtr 7 200] (oC 8 zC26 (.skip))) (.seq (oQ [0] [oi 3 (oK 0)] (.block 0 []
 (.loop [3,0] zM9))) zji))
def zGN:AF:=oAF [.tmp 2] zPZ
abbrev zC3:AC:=(oQ [7,2,1] [oM 9 1,oE 10 .geq 9 1,oM 11 10,oV 12 11 true 1,oV 13 11 true 7,oXG 14 11 true .leq 12 13,oI 15 .pick [.tmp 11,.tmp 14,oB
 false],oM 16 15,oV 17 16 true 2,oEG 18 16 true .geq 17 0,oI 19 .pick [.tmp 16,.tmp 18,oB false],oM 20 19,oV 21 20 true 2,oV 22 20 true 7,oXG 23 20 true .leq 21
 22,oI 24 .pick [.tmp 20,.tmp 23,oB false],oM 6 24] (.ret))
abbrev zC14:AC:=(oQ [2,1,0] [oi 7 (oK 26)] (.seq (.seq (.reg [2,1,7,0] false [oM 8 0]) (oC 8 (oR [2,1] [oi 7 (oK 99)]) (.skip))) zC3))
def zQu:AC:=oQ [2,1,0] [oi 6 (oB false)] zC14
def zKu:AF:=oAF [.tmp 6] zQu
def zLJ:AC:=oQ [0,1] [oT 3 .box 1,oi 4 oNs,oi 5 (oK 0)] (.seq (oQ [0,3] [oM 12 0,oI 13 (.bin .eql) [.tmp 12,oNs],oM 14 13,oV 15 14 false 0,oG
 16 14 false .idxStr [.tmp 15,oK 0],og8 17 14 false .neq 16 61,oP 18 14 true 17] (oC 18 (oQ [0] [oM 19 0,oM 4 19,oi 5 (oK 0)] (.ret)) (.skip))) (oQ [0,3] [oM 21
 0,oc1 22 zBI 21,oM 20 22,oe 23 0 20,oe 24 1 20,oe 25 2 20,oA 6
oZ,oS 12 6 23,oM 7 24,oM 8 25] (.seq (oQ [0,6,3,8] [oM 26 8,oE 27 .neq 26 0] (.cond (.tmp 27) (oQ [] [oi 4 oNs,oi 5 (oK 2)] (.ret)) (.skip))) (oQ [0,6,3] [oL 28
 10 true 3,oL 29 12 true 6,oc2 30 zBc 28 29,oA 9 oZ,oS 12 9 30] (oQ [0,9,6] [oL 31 12 true 6,oL 32 12 true 9,oc2 33 zCS 31 32,oM 10 33]
 (.seq (oQ [0,9,10] [oM 34 10] (oC 34 (oQ [0] [oM 35 0,oM 4 35,oi 5 (oK 0)] (.ret))
(.skip))) (oQ [9] [oL 37 12 true 9,oc1 38 zEo 37,oM 36 38,oe 39 0 36,oe 40 1 36,oM 11 39,oM 8 40] (.seq (oQ [11,8] [oM 41 8,oE 42 .neq 41 0] (oC 42
 (oQ [] [oi 4 oNs,oi 5 (oK 4)] (.ret)) (.skip))) (oQ [11] [oM 43 11,oM 4 43,oi 5 (oK 0)] (.ret))))))))))
def zEZ:AF:=oAF [.tmp 4,.tmp 5] zLJ
def zL5:AC:=.seq (.seq (.reg [0,4,3,5] true [oM 13 5,oM 14 3,zEN 15 14,oX 16 .lss 13 15,oM 17 16,oV 18 17 true 3,oV 19 17 true 5,oYI 20 17
 true 3 18 19,oWf 21 17 true 0 20,oW 22 17 true (.load 2 true) 21,oV 23 17 true 0,oV 24 17 true 4,oYI 25 17 true 3 23 24,oWf 26 17 true 0 25,oW 27 17 true (.load
 2 true) 26,oY 28 17 true (.call zBy true) 22 27,oI 29 .pick [.tmp
17,.tmp 28,oB false]]) (oC 29 (.skip) (.exit 2))) (.block 3 [5,0,4,3] (oR [0,4,3,5] [oM 30 5,oE 31 .add 30 1,oM 5 31]))
def zL6:AC:=.seq (oQ [0,4,3] [oM 7 4,oM 8 0,zEN 9 8,oX 10 .lss 7 9] (oC 10 (.skip) (.exit 0))) (.seq (.block 1 [3,0,4] (oQ [0,4,3] [oi 5 (oK
 0)] (.seq (.block 2 [0,4,5,3] (.loop [5,0,4,3] zL5)) (oQ [0,4,5,3] [oi 6 oNl] (oQ [0,4,5,3,6] [oM 32 6,oM 33 3,oM 34 5,oD 35 (.slc (some 3) false
 true) 33 34,oD 36 (.append 3 32) 32 35,oM 6 36] (oQ [0,4,5,3,6] [oM 37 6,oM 38
0,oM 39 4,oXI 40 3 38 39,oL 41 3 true 40,oT 42 (.bslice 3) 41,oD 43 (.append 3 32) 37 42,oM 6 43] (oQ [0,4,5,3,6] [oM 44 6,oM 45 3,oM 46 5,oD 47 (.slc (some 3)
 true false) 45 46,oD 48 (.append 3 32) 44 47,oM 6 48] (oR [0,4,6] [oM 49 6,oM 3 49])))))))) (oR [3,0,4] [oM 11 4,oE 12 .add 11 1,oM 4 12]))
def zOF:AC:=oQ [0] [oi 2 oNl] (oQ [0] [oi 3 oNl] (.seq (oQ [3,0] [oi 4 (oK 0)] (.block 0 [3] (.loop [4,3,0] zL6))) (oQ [3] [oM 50
 3,oM 2 50] (.ret))))
def zFp:AF:=oAF [.tmp 2] zOF
def zPa:AC:=oQ [0,10,11,12] [oX 13 .lss 12 11] (.seq (oC 13 (.skip) (.exit 0)) (.seq (.block 1 [0,10,11,12] (oQ [0,10,11,12] [oM 14 12,oXI 15 3
 10 12,oL 16 3 true 15,oA 4 zV3,oM 3 14,oS 3 4 16] (.seq (.block 2 [0,10,11,12,4] (oQ [0,10,11,12,4,3] [oF 18 0 4,oL 19 2 true
 18,oc1 20 zBd 19,oI 21 (.eqn .iface true true) [.tmp 20,oNi],oM 17 21] (oC
17 (oQ [] [oI 22 (.mkIface zO) [oK 1],oM 2 22] (.ret)) (.seq (.reg [0,10,11,12,4,3] true [oM 24 3,oE 25 .gtr 24 0,oM 26 25,oV 27 26 true 0,oV 28 26 true
 3,oEG 29 26 true .sub 28 1,oYI 30 26 true 3 27 29,oWf 31 26 true 0 30,oW 32 26 true (.load 2 true) 31,oWf 33 26 true 0 4,oW 34 26 true (.load 2 true) 33,oY 35 26
 true (.call zIX true) 32 34,oW 36 26 true (.un .not) 35,oI 37 .pick
[.tmp 26,.tmp 36,oB false],oM 23 37]) (oC 23 (oQ [] [oI 38 (.mkIface zO) [oK 5],oM 2 38] (.ret)) (oQ [0,10,11,12,4] [oF 40 2 4,oO 41 40,oI 42 (.bin
 .eql) [.tmp 41,oNs],oM 39 42] (oC 39 (oQ [] [oI 43 (.mkIface zO) [oK 3],oM 2 43] (.ret)) (.skip)))))))) (oQ [0,10,11,12,4] [oF 44 2 4,oO 45 44,oc1 46
 zCy 45,oM 5 46] (oQ [5,0,10,11,12] [oM 47 5,oI 48 (.eqn .iface true true)
[.tmp 47,oNi]] (oC 48 (oQ [5] [oM 49 5,oM 2 49] (.ret)) (.skip))))))) (oR [0,10,11,12] [oE 50 .add 12 1,oM 12 50])))
abbrev zC29:AC:=(oC 8 (oQ [] [oI 9 (.mkIface zO) [oK 4],oM 2 9] (.ret)) (.skip))
def zSU:AC:=oQ [0] [oi 2 oNi] (.seq (oQ [0] [oM 6 0,zEN 7 6,oE 8 .gtr 7 200] zC29) (.seq (oQ [0] [oM 10 0,zEN 11 10,oi 12 (oK 0)] (.block 0 []
 (.loop [12,0,10,11] zPa))) (oQ [] [oi 2 oNi] (.ret))))
def zL7:AF:=oAF [.tmp 2] zSU
def zVl:AC:=oQ [2,1,0] [oi 6 (oB false)] zC14
def zPb:AF:=oAF [.tmp 6] zVl
def zPc:AC:=oQ [8,2,1,13,14,15] [oX 16 .lss 15 14] (.seq (oC 16 (.skip) (.exit 0)) (.seq (.block 1 [8,2,1,13,14,15] (oQ [8,2,1,13,14,15] [oXI 17
 3 13 15,oL 18 3 true 17,oA 10 zV3,oS 3 10 18] (oQ [8,2,1,13,14,15,10] [oM 20 1,oF 21 0 10,oD 22 (.callv false) 20 21,oM 19 22,oe 23
 0 19,oe 24 1 19,oM 11 23,oM 12 24] (.seq (oQ [12,8,2,1,13,14,15,10,11] [oM 25
12,oI 26 (.eqn .iface true true) [.tmp 25,oNi]] (oC 26 (oQ [12] [oM 27 12,oi 6 oNl,oM 7 27] (.ret)) (.skip))) (.seq (.seq (.reg [8,2,1,13,14,15,10,11] false [oM
 28 11,oUn 29 28]) (oC 29 (.exit 1) (.skip))) (.seq (oQ [2,1,13,14,15,10,8] [oF 31 2 10,oO 32 31,oM 33 2,oc2 34 zDK 32 33,oM 30 34,oe 35 0 30,oe 36 1
 30,oF 37 2 10,oS 1 37 35,oM 12 36] (oQ [12,2,1,13,14,15,10,8] [oM 38 12,oI 39
(.eqn .iface true true) [.tmp 38,oNi]] (oC 39 (oQ [12] [oM 40 12,oi 6 oNl,oM 7 40] (.ret)) (.skip)))) (oR [2,1,13,14,15,10,8] [oM 41 8,oL 42 3 true 10,oT 43
 (.bslice 3) 42,oD 44 (.append 3 32) 41 43,oM 8 44]))))))) (oR [8,2,1,13,14,15] [oE 45 .add 15 1,oM 15 45])))
def zSV:AC:=oQ [2,1,0] [oi 6 oNl,oi 7 oNi] (oQ [2,1,0] [oi 8 oNl] (.seq (oQ [8,2,1,0] [oM 13 0,zEN 14 13,oi 15 (oK 0)] (.block 0 [8] (.loop
 [15,8,2,1,13,14] zPc))) (oQ [8] [oM 46 8,ox1 47 zDw 46,oM 6 47,oi 7 oNi] (.ret))))
def zL8:AF:=oAF [.tmp 6,.tmp 7] zSV
def zOG:AC:=oQ zaK [oi 5 (oB false),oi 6 oNi] (oQ zaK [oM 8 0,oO 9 1,oc2 10 zG1 8 9,oM 7 10] (.seq (.seq (.reg [3,7,2] true [oM 11
 7,oN 12 11,oO 13 12,oO 14 2,oX 15 .geq 13 14,oM 16 15,oV 17 16 true 7,oW 18 16 true .nilchk 17,oWo 19 16 true 18,oWo 20 16 true 2,oWo 21 16 true 3,oXG 22 16 true
 .add 20 21,oXG 23 16 true .lss 19 22,oI 24 .pick [.tmp 16,.tmp 23,oB false]])
(oC 24 (oQ [] [oi 5 (oB false),oi 6 oNi] (.ret)) (.skip))) (.seq (.seq (.reg [3,7,2] true [oM 25 7,oN 26 25,oO 27 26,oO 28 2,oX 29 .geq 27 28]) (oC 29 (.reg
 [3,7] true [oM 30 7,oN 31 30,oO 32 31,oO 33 3,oX 34 .sub 32 33,oN 35 30,oS 1 35 34]) (.skip))) (oQ [] [oi 5 (oB true),oi 6 oNi] (.ret)))))
def zI6:AF:=oAF [.tmp 5,.tmp 6] zOG
abbrev zC11:AC:=(.seq (oQ [0,1] [oM 5 1] (oC 5 (.seq (.reg [0] false [oM 6 0,oN 7 6,oF 8 1 7,oM 4 8]) (.ret)) (.skip))) (oQ [0] [oM 9 0,oN 10 9,oF 11 0 10,oM
 4 11] (.ret)))
def zUA:AC:=oQ [0,1] [oI 4 .mv [.const (.nilp)]] zC11
def zN0:AF:=oAF [.tmp 4] zUA
def zOH:AC:=oQ zaK [oT 4 .box 0,oA 5 oZ,oi 6 oNi] (oQ [5,3,2,1,4] [oL 7 12 true 4,oO 8 1,oO 9 2,oO 10 3,oc4 11 zFS 7 8 9 10,oe 12 0
 11,oe 13 1 11,oS 12 5 12,oM 6 13] (.ret))
def zI7:AF:=oAF [.cell 5 12 true,.tmp 6] zOH
def zKv:AC:=oQ zaK [oT 4 .box 0,oT 5 .box 1,oT 6 .box 2,oT 7 .box 3,oA 8 oZ,oi 9 oNi] (.seq (oQ [8,4,5,6,7] [oL 14 12 true 4,oc1 15
 zGL 14,oM 10 15] (oQ [8,10,4,5,6,7] [oM 16 10,oI 17 (.eqn .iface true true) [.tmp 16,oNi]] (oC 17 (oQ [8,10] [⟨some 18,none,.build oZ [],[]⟩,oM 19
 10,oS 12 8 18,oM 9 19] (.ret)) (.skip)))) (.seq (oQ [8,4,5,6,7] [oO 20 5,oO 21 6,oO 22 7,oc3
23 zFI 20 21 22,oUn 24 23] (oC 24 (oQ [8] [⟨some 25,none,.build oZ [],[]⟩,oI 26 (.mkIface zO) [oK 1],oS 12 8 25,oM 9 26] (.ret)) (.skip))) (oQ
 [8,4,5,6,7] [oD 27 (.mkFn z6 0) 6 7,⟨some 11,none,.alloc [.nilf],[]⟩,oS 1 11 27] (oQ [8,4,5,11,6,7] [oD 28 (.mkFn zu 0) 6 7,oA 12
 [.nilf],oS 1 12 28] (oQ [8,4,5,11,6,7,12] [oI 29 (.mkFn zAe 0)
[.tmp 5,.tmp 11,.tmp 12],⟨some 30,none,.build [.nilf,.nilf] [(0,1)],[.tmp 29]⟩,oA 13 [.nilf,.nilf],oS 2 13 30] (oQ [8,4,13,5,11,6,7,12] [oI 31 (.mkFn
 zAq 0) [.tmp 5,.tmp 11,.tmp 6,.tmp 7,.tmp 12],oF 32 1 13,oS 1 32 31] (oQ [8,4,13] [oL 33 2 true 13,oL 34 12 true 4,oc2 35 zAS 33
 34,oS 12 8 35,oi 9 oNi] (.ret))))))))
def zHQ:AF:=oAF [.cell 8 12 true,.tmp 9] zKv
def zPd:AC:=oQ [1,0] [oi 4 (oB false)] (oQ [1,0] [oM 6 0,oc1 7 zEh 6,oM 5 7] (oQ [1,5] [oM 8 5,oM 9 1,oX 10 .eql 8 9,oM 4 10] (.ret)))
def zJm:AF:=oAF [.tmp 4] zPd
abbrev zC4:AC:=(oQ [] [oi 4 (oB false)] (.ret))
def zL9:AC:=.seq (oQ [1,0,5] [oM 11 5,oM 12 0,zEN 13 12,oX 14 .lss 11 13] (oC 14 (.skip) (.exit 0))) (.seq (.block 1 [1,0,5] (.seq (.reg
 [1,0,5] true [oM 17 0,oM 18 5,oXI 19 3 17 18,oL 20 3 true 19,oM 21 1,oM 22 5,oXI 23 3 21 22,oL 24 3 true 23,⟨some 25,none,.eqs true [.int .i64,.int
 .i64,.str],[.tmp 20,.tmp 24]⟩]) (oC 25 zC4 (.skip)))) (oR [1,0,5] [oM 15 5,oE 16 .add 15 1,oM 5
16]))
abbrev zjP:AC:=(oQ [] [oi 4 (oB true)] (.ret))
def zOI:AC:=oQ [1,0] [oi 4 (oB false)] (.seq (oQ [1,0] [oM 6 0,zEN 7 6,oM 8 1,zEN 9 8,oX 10 .neq 7 9] (oC 10 zC4 (.skip))) (.seq (oQ [1,0] [oi
 5 (oK 0)] (.block 0 [] (.loop [5,1,0] zL9))) zjP))
def zI8:AF:=oAF [.tmp 4] zOI
abbrev zC2:AC:=(oQ [1] [oF 3 0 1,oO 4 3,oE 5 .geq 4 1,oM 6 5,oWf 7 6 true 0 1,oWo 8 6 true 7,oEG 9 6 true .leq 8 26,oI 10 .pick [.tmp 6,.tmp 9,oB false],oM
 11 10,oWf 12 11 true 1 1,oWo 13 11 true 12,oEG 14 11 true .geq 13 1,oI 15 .pick [.tmp 11,.tmp 14,oB false],oM 16 15,oWf 17 16 true 1 1,oWo 18 16 true 17,oEG 19
 16 true .leq 18 99,oI 20 .pick [.tmp 16,.tmp 19,oB false],oM 2 20] (.ret))
def zUB:AC:=oQ [0] [oT 1 .box 0,oi 2 (oB false)] zC2
def zJn:AF:=oAF [.tmp 2] zUB
def zPe:AC:=oQ [1,0] [oT 2 .box 0,oT 3 .box 1,oi 4 (oB false)] (.seq (oQ [3,2] [oF 5 1 2,oO 6 5,oF 7 1 3,oO 8 7,oX 9 .neq 6 8] (oC 9 (oQ [3,2]
 [oF 10 1 2,oO 11 10,oF 12 1 3,oO 13 12,oX 14 .lss 11 13,oM 4 14] (.ret)) (.skip))) (oQ [3,2] [oF 15 0 2,oO 16 15,oF 17 0 3,oO 18 17,oX 19 .lss 16 18,oM 4 19]
 (.ret)))
def zGO:AF:=oAF [.tmp 4] zPe
abbrev zC27:AC:=(oQ [] [oi 2 (oK 2)] (.ret))
def zQv:AC:=oQ [0] [oi 2 (oK 0)] (.seq (oQ [0] [oM 6 0,oT 7 (.len true) 6,oE 8 .gtr 7 200] (oC 8 zC26 (.skip))) (.seq (oQ [0] [oM 9 0,oI 10 (.bin
 .neq) [.tmp 9,oNs],oM 11 10,oV 12 11 true 0,oG 13 11 true .idxStr [.tmp 12,oK 0],og8 14 11 true .eql 13 61,oI 15 .pick [.tmp 11,.tmp 14,oB false]] (oC 15 (oQ [0]
 [oM 17 0,oc1 18 zBI 17,oM 16 18,oe 19 0 16,oe 20 1 16,oe 21 2
16,oA 3 oZ,oS 12 3 19,oM 4 20,oM 5 21] (oQ [5] [oM 22 5,oE 23 .neq 22 0] (oC 23 zC27 (.skip)))) (.skip))) zji))
def zHR:AF:=oAF [.tmp 2] zQv
abbrev zjj:OT:=(.step 10 (.step 11 (.done)))
def zPf:AC:=oQ [0] [oA 2 oZ,oi 3 (oK 0),oi 4 (oK 0)] (.seq (oQ [2,0] [oM 8 0,oT 9 (.len true) 8,oE 10 .gtr 9 200] (oC 10 (oQ [2] [⟨some
 11,none,.build oZ [],[]⟩,oS 12 2 11,oi 3 (oK 0),oi 4 (oK 4)] (.ret)) (.skip))) (.seq (oQ [2,0] [oM 12 0,oI 13 (.bin .eql) [.tmp 12,oNs],oM 14 13,oV 15 14 false
 0,oG 16 14 false .idxStr [.tmp 15,oK 0],og8 17 14 false .neq 16 61,oP 18 14 true 17]
(.cond (.tmp 18) (oQ [2] [⟨some 19,none,.build oZ [],[]⟩,oS 12 2 19,oi 3 (oK 0),oi 4 (oK 2)] (.ret)) (.skip))) (.seq (.reg [2,0] false [oM 20 0,⟨some
 21,none,.build [.str [],.int .i64 0,.int .i64 0,.int .i64 0,.int .i64 0] [(0,1),(1,1)],[.tmp 20,oK 1]⟩,oT 22 .box 21,oM 5 22]) (oQ [2,5,0] [oM 23 5,oI 24 (.call
 zX false) [.tmp 23,oK 1],oA 6 oZ,oS 12 6 24] (oQ [2,5,6,0] [oM 25 0,oM 26
5,oN 27 26,oF 28 1 27,oO 29 28,oc2 30 zY 25 29,oA 7 zV4,oS 4 7 30] (.seq (oQ [2,5,6,7] [oM 31 5,oN 32
 31,oF 33 3 32,oO 34 33,oE 35 .eql 34 0,oM 36 35,oWf 37 36 true 0 7,oWo 38 36 true 37,oEG 39 36 true .neq 38 0,oI 40 .pick [.tmp 36,.tmp 39,oB false]] (oC 40 (oR
 [2,5,6,7] [oM 41 5,oF 42 1 7,oO 43 42,oI 44 (.call zc false) [.tmp
41,.tmp 43,oK 2]]) (.skip))) (.seq (oQ [2,5,6] [oM 45 5,oN 46 45,oF 47 3 46,oO 48 47,oE 49 .neq 48 0] (oC 49 (.seq (.regt [2,5] true [⟨some 50,none,.build oZ
 [],[]⟩,oM 51 5,oN 52 51,oF 53 2 52,oO 54 53,oM 55 5,oN 56 55,oF 57 3 56,oO 58 57,oS 12 2 50,oM 3 54,oM 4 58] (.step 0 (.step 1 (.step 2 (.step 3 (.step 5 (.step
 6 (.step 7 (.alt (.step 4 (.alt (.step 8 (.step 9 zjj)) (.step 9 (.step 8
zjj)))) (.alt (.step 8 (.alt (.step 4 (.step 9 zjj)) (.step 9 (.step 4 zjj)))) (.step 9 (.step 4 (.step 8 zjj))))))))))))) (.ret)) (.skip))) (oQ [2,6] [oL 59
 12 true 6,oS 12 2 59,oi 3 (oK 0),oi 4 (oK 0)] (.ret)))))))))
def zDi:AF:=oAF [.cell 2 12 true,.tmp 3,.tmp 4] zPf
def zHt:AC:=.seq (oQ [3,2,4,11,10] [oM 47 11,oF 48 11 3,oO 49 48,zEN 50 49,oX 51 .lss 47 50] (oC 51 (.skip) (.exit 1))) (.seq (.block 2
 [10,3,2,4,11] (.seq (.regt [3,2,4,11,10] true [oL 54 10 true 2,oF 55 11 3,oO 56 55,oM 57 11,oXI 58 12 56 57,oL 59 12 true 58,oc2 60 zBc 54 59,oA 12
 oZ,oS 12 12 60] (.step 0 (.step 1 (.step 2 (.step 3 (.step 4 (.step 5 (.alt (.step 6
(.step 7 (.step 8 (.done)))) (.step 7 (.step 6 (.step 8 (.done)))))))))))) (oR [3,2,4,11,12,10] [oM 61 10,oL 62 12 true 12,oT 63 (.bslice 12) 62,oD 64 (.append
 12 104) 61 63,oM 10 64]))) (oR [10,3,2,4,11] [oM 52 11,oE 53 .add 52 1,oM 11 53]))
def zPg:AC:=oQ [1,0] [oT 2 .box 0,oT 3 .box 1,oA 4 oZ] (.seq (oQ [4,3,2] [oF 13 0 3,oO 14 13] (.block 0 [3,2,4] (oQ [4,3,2,14] [oE 16 .eql 14
 5,oM 15 16] (oC 15 (oQ [4,3,2] [oL 18 10 true 2,oF 19 3 3,oL 20 4 true 19,oc2 21 zAL 18 20,oM 17 21,oe 22 0 17,oe 23 1 17,⟨some 5,none,.alloc [.int
 .i64 0,.int .i64 0,.bool false,.bool false],[]⟩,oS 4 5 22,oM 6 23] (.seq (oQ
[4,5,6] [oM 24 6,oUn 25 24] (oC 25 (oQ [4] [⟨some 26,none,.build oZ [(0,1),(1,1)],[oK 4,oK 3]⟩,oS 12 4 26] (.ret)) (.skip))) (.seq (.reg [4,5] false [oL 27 4
 true 5,⟨some 28,none,.build oZ [(0,1),(3,4)],[oK 5,.tmp 27]⟩,oS 12 4 28]) (.ret)))) (oQ [4,3,2,14] [oE 30 .eql 14 6,oM 29 30] (oC 29 (oQ [4,3,2] [oL 32 10 true
 2,oF 33 3 3,oL 34 4 true 33,oF 35 7 3,oL 36 4 true 35,oc3 37 zFm 32 34
36,oM 31 37,oe 38 0 31,oe 39 1 31,oe 40 2 31,⟨some 7,none,.alloc zV2,[]⟩,oA 8 [.int .i64 0,.int .i64 0,.bool
 false,.bool false],oS 4 7 38,oS 4 8 39,oM 9 40] (.seq (oQ [4,8,7,9] [oM 41 9,oUn 42 41] (oC 42 (oQ [4] [⟨some 43,none,.build oZ [(0,1),(1,1)],[oK 4,oK 3]⟩,oS 12
 4 43] (.ret)) (.skip))) (oQ [4,8,7] [oL 44 4 true 7,oL 45 4 true 8,⟨some
46,none,.build oZ [(0,1),(3,4),(7,4)],[oK 6,.tmp 44,.tmp 45]⟩,oS 12 4 46] (.ret)))) (.skip))))))) (oQ [3,2,4] [oi 10 oNl] (.seq (oQ [10,3,2,4] [oi 11 (oK 0)]
 (.block 1 [4,3,10] (.loop [11,10,3,2,4] zHt))) (oQ [4,3,10] [oM 65 10,oF 66 11 3,oS 1 66 65] (oQ [4,3] [oL 67 12 true 3,oS 12 4 67] (.ret))))))
def zCn:AF:=oAF [.cell 4 12 true] zPg
def zOJ:AC:=.seq (oQ [3,2,5] [oM 49 5,oF 50 11 2,oO 51 50,zEN 52 51,oX 53 .lss 49 52] (.cond (.tmp 53) (.skip) (.exit 0))) (.seq (.block 1
 [3,2,5] (.seq (.reg [3,2,5] true [oF 56 11 2,oO 57 56,oM 58 5,oXI 59 12 57 58,oL 60 12 true 59,oF 61 11 3,oO 62 61,oM 63 5,oXI 64 12 62 63,oL 65 12 true 64,oc2
 66 zCS 60 65,oM 6 66]) (.seq (.reg [3,2,5,6] false [oM 67 6,oUn 68 67])
(oC 68 zC4 (.skip))))) (oR [3,2,5] [oM 54 5,oE 55 .add 54 1,oM 5 55]))
def zQw:AC:=oQ [1,0] [oT 2 .box 0,oT 3 .box 1,oi 4 (oB false)] (.seq (oQ [3,2] [oF 7 0 2,oO 8 7,oF 9 0 3,oO 10 9,oX 11 .neq 8 10,oM 12 11,oWf 13
 12 false 1 2,oWo 14 12 false 13,oWf 15 12 false 1 3,oWo 16 12 false 15,oXG 17 12 false .neq 14 16,oP 18 12 true 17,oM 19 18,oWf 20 19 false 2 2,oWo 21 19 false
 20,oWf 22 19 false 2 3,oWo 23 19 false 22,oXG 24 19 false .neq 21 23,oP 25 19
true 24,oM 26 25,oWf 27 26 false 3 2,oW 28 26 false (.load 4 true) 27,oWf 29 26 false 3 3,oW 30 26 false (.load 4 true) 29,⟨some 31,some (26,false),.eqs true
 [.int .i64,.int .i64,.bool,.bool],[.tmp 28,.tmp 30]⟩,oP 32 26 true 31,oM 33 32,oWf 34 33 false 7 2,oW 35 33 false (.load 4 true) 34,oWf 36 33 false 7 3,oW 37 33
 false (.load 4 true) 36,⟨some 38,some (33,false),.eqs true [.int .i64,.int
.i64,.bool,.bool],[.tmp 35,.tmp 37]⟩,oP 39 33 true 38,oM 40 39,oWf 41 40 false 11 2,oWo 42 40 false 41,oW 43 40 false (.len false) 42,oWf 44 40 false 11 3,oWo 45
 40 false 44,oW 46 40 false (.len false) 45,oXG 47 40 false .neq 43 46,oP 48 40 true 47] (oC 48 zC4 (.skip))) (.seq (oQ [3,2] [oi 5 (oK 0)] (.block 0 [] (.loop
 [5,3,2] zOJ))) zjP))
def zKw:AF:=oAF [.tmp 4] zQw
def zPh:AC:=oQ [0] [oT 1 .box 0,oi 2 oNs,oi 3 (oK 0)] (oQ [1] [oL 10 12 true 1,oI 11 (.call zEp true) [.tmp 10,oK 200],oM 4 11] (.seq
 (oQ [1,4] [oM 12 4,oE 13 .gtr 12 200] (oC 13 (oQ [] [oi 2 oNs,oi 3 (oK 4)] (.ret)) (.skip))) (oQ [1] [oL 14 12 true 1,oI 15 (.call zAO true) [.tmp
 14,oB false],oM 5 15] (.seq (oQ [1,5] [oM 16 5,oUn 17 16] (oC 17 (oQ [] [oi 2
oNs,oi 3 (oK 2)] (.ret)) (.skip))) (oQ [1] [oL 18 12 true 1,oc1 19 zAo 18,oI 20 (.bin .add) [.const (.str [61]),.tmp 19],oM 6 20] (.seq (oQ [6] [oM 21
 6,oT 22 (.len true) 21,oE 23 .gtr 22 200] (oC 23 (.seq (.reg [] false [oi 2 oNs,oi 3 (oK 4)]) (.ret)) (.skip))) (oQ [6] [oM 25 6,oc1 26 zBI 25,oM 24
 26,oe 27 0 24,oe 28 1 24,oe 29 2 24,oA 7 oZ,oS 12 7 27,oM 8 28,oM 9 29] (.seq
(.seq (.reg [6,9] false [oM 30 9,oE 31 .neq 30 0]) (oC 31 (oQ [] [oi 2 oNs,oi 3 (oK 4)] (.ret)) (.skip))) (oQ [6] [oM 32 6,oM 2 32,oi 3 (oK 0)] (.ret))))))))))
def zJo:AF:=oAF [.tmp 2,.tmp 3] zPh
def zUC:AC:=oQ [0] [oT 1 .box 0,oi 2 oNi] (.seq (oQ [1] [oL 3 2 true 1,oc1 4 zGM 3,oUn 5 4] (oC 5 (oQ [] [oI 6 (.mkIface zO) [oK
 1],oM 2 6] (.ret)) (.skip))) (oQ [] [oi 2 oNi] (.ret)))
def zN1:AF:=oAF [.tmp 2] zUC
def zVm:AC:=oQ [1,0] [oT 2 .box 0,oT 3 .box 1,oi 4 (oB false)] (oQ [3,2] [oL 5 2 true 2,oL 6 2 true 3,oc2 7 zFT 5 6,oE 8 .lss 7 0,oM 4 8]
 (.ret))
def zPi:AF:=oAF [.tmp 4] zVm
def zUD:AC:=oQ [0] [oi 2 oNi] (.seq (oQ [0] [oM 6 0,oT 7 (.len true) 6,oE 8 .gtr 7 200] zC29) (.seq (oQ [0] [oM 10 0,oc1 11 zAh
 10,oUn 12 11] (oC 12 (oQ [0] [oM 14 0,oc1 15 zAF 14,oM 13 15,oe 16 0 13,oe 17 1 13,oe 18 2 13,oA 3 oZ,oS 12 3 16,oM 4 17,oM 5 18] (oQ [5] [oM 19 5,oI
 20 (.eqn .iface true true) [.tmp 19,oNi]] (oC 20 (oQ [] [oI 21 (.mkIface
zO) [oK 2],oM 2 21] (.ret)) (.skip)))) (.skip))) (oQ [] [oi 2 oNi] (.ret))))
def zN2:AF:=oAF [.tmp 2] zUD
def zOK:AC:=oQ [0,1] [oi 4 oNs,oi 5 oNi] (.seq (oQ [0,1] [oM 11 0,oc1 12 zAh 11] (oC 12 (oQ [0] [oM 13 0,oM 4 13,oi 5 oNi]
 (.ret)) (.skip))) (.seq (.reg [0,1] false [oM 15 0,oc1 16 zAF 15,oM 14 16,oe 17 0 14,oe 18 1 14,oe 19 2 14,⟨some 6,none,.alloc oZ,[]⟩,oS 12 6 17,oM 7
 18,oM 8 19]) (.seq (oQ [0,6,1,8] [oM 20 8,oI 21 (.eqn .iface true true) [.tmp
20,oNi]] (oC 21 (oQ [] [oI 22 (.mkIface zO) [oK 2],oi 4 oNs,oM 5 22] (.ret)) (.skip))) (.seq (.reg [0,6,1] false [oM 24 1,oL 25 12 true 6,oD 26 (.callv
 true) 24 25,oM 23 26,oe 27 0 23,oe 28 1 23,oA 9 oZ,oS 12 9 27,oM 8 28]) (.seq (oQ [8,0,9,6] [oM 29 8,oI 30 (.eqn .iface true true) [.tmp 29,oNi]] (oC 30 (oQ [8]
 [oM 31 8,oi 4 oNs,oM 5 31] (.ret)) (.skip))) (.seq (oQ [0,9,6] [oL 32 12 true
6,oL 33 12 true 9,oc2 34 zAk 32 33] (oC 34 (oQ [0] [oM 35 0,oM 4 35,oi 5 oNi] (.ret)) (.skip))) (oQ [9] [oL 37 12 true 9,oc1 38 zCg 37,oM 36
 38,oe 39 0 36,oe 40 1 36,oM 10 39,oM 8 40] (.seq (oQ [10,8] [oM 41 8,oI 42 (.eqn .iface true true) [.tmp 41,oNi]] (oC 42 (oQ [] [oI 43 (.mkIface zO) [oK
 4],oi 4 oNs,oM 5 43] (.ret)) (.skip))) (oQ [10] [oM 44 10,oM 4 44,oi 5 oNi]
(.ret))))))))))
def zES:AF:=oAF [.tmp 4,.tmp 5] zOK
def zSW:AC:=oQ [0] [oi 2 oNl] (oQ [0] [oM 3 0,oI 4 (.call zAc false) [.tmp 3,.fn zFn]] (oQ [0]
 [oM 5 0,oM 2 5] (.ret)))
def zIb:AF:=oAF [.tmp 2] zSW
def zPj:AC:=oQ [0] [oT 1 .box 0,oi 2 oNi] (oQ [1] [oL 6 12 true 1,oc1 7 zCg 6,oM 5 7,oe 8 0 5,oe 9 1 5,oM 3 8,oM 4 9] (oQ [4] [oM 10
 4,oM 2 10] (.ret)))
def zJp:AF:=oAF [.tmp 2] zPj
def zNA:AC:=oQ [2,1,0] [oi 4 (oB false)] (oQ [2,1,0] [oM 5 0,oO 6 1,oX 7 .geq 5 6,oM 8 7,oV 9 8 true 0,oWo 10 8 true 1,oWo 11 8 true 2,oXG 12 8
 true .add 10 11,oXG 13 8 true .lss 9 12,oI 14 .pick [.tmp 8,.tmp 13,oB false],oM 4 14] (.ret))
def zHu:AF:=oAF [.tmp 4] zNA
def zNB:AC:=.seq (.reg [2,0,1] true [oM 4 0,oN 5 4,oO 6 5,oO 7 1,oO 8 2,oX 9 .add 7 8,oX 10 .geq 6 9]) (oC 10 (.reg [2,0] true [oM 11 0,oN 12
 11,oO 13 12,oO 14 2,oX 15 .sub 13 14,oN 16 11,oS 1 16 15]) (.skip))
def zHv:AF:=oAF [] zNB
def zNC:AC:=oQ zaK [oT 4 .box 0,oA 5 zV2,oi 6 (oB false)] (oQ [5,4,3,2,1] [oF 8 0 4,oO 9 1,oc2
 10 zFc 8 9,oM 7 10] (.seq (.seq (.reg [5,4,7,3,2] true [oO 11 2,oM 12 7,oN 13 12,oO 14 13,oD 15 (.callv false) 11 14]) (oC 15 (oQ [5,4] [oL 16 4 true
 4,oS 4 5 16,oi 6 (oB false)] (.ret)) (.skip))) (oQ [5,4,7,3] [oO 17 3,oM 18 7,oD
19 (.callv false) 17 18] (oQ [5,4] [oL 20 4 true 4,oS 4 5 20,oi 6 (oB true)] (.ret)))))
def zHw:AF:=oAF [.cell 5 4 true,.tmp 6] zNC
def zUE:AC:=oQ [0,1] [oI 4 .mv [.const (.nilp)]] zC11
def zN3:AF:=oAF [.tmp 4] zUE
abbrev zC1:OT:=(.step 0 (.alt (.step 1 (.step 2 (.step 3 (.step 4 (.done))))) (.step 2 (.step 1 (.step 3 (.step 4 (.done)))))))
def zFK:AC:=oQ [6,4,3,5,2,1,0] [oT 7 .box 0,oT 8 .box 1,oA 9 zV2,oA 10 [.int .i64 0,.int .i64
 0,.bool false,.bool false],oi 11 (oB false)] (.seq (.reg [9,10,8,7,6,4,3,5,2] true [oF 14 0 7,oO 15 2,oc2 16 zFc 14 15,oF 17 0 8,oO 18 2,oc2 19
 zFc 17 18,oM 12 16,oM 13 19]) (.seq (.seq (.reg [9,10,8,7,6,4,3,5,12,13] true [oM
20 12,oN 21 20,oO 22 21,oM 23 13,oN 24 23,oO 25 24,oX 26 .gtr 22 25]) (oC 26 (oR [9,10,8,7,6,4,3,5,12,13] [oM 27 13,oM 28 12,oM 12 27,oM 13 28]) (.skip))) (.seq
 (.seq (.reg [9,10,8,7,13,6,12,4,3,5] true [oO 29 3,oM 30 12,oN 31 30,oO 32 31,oD 33 (.callv false) 29 32,oM 34 33,oWo 35 34 true 3,oV 36 34 true 13,oW 37 34 true
 .nilchk 36,oWo 38 34 true 37,oY 39 34 true (.callv false) 35 38,oI 40 .pick
[.tmp 34,.tmp 39,oB false]]) (oC 40 (.seq (.regt [9,10,8,7] true [oL 41 4 true 7,oL 42 4 true 8,oS 4 9 41,oS 4 10 42,oi 11 (oB false)] zC1) (.ret)) (.skip)))
 (.seq (.seq (.reg [9,10,8,7,13,6,12,4,3,5] true [oO 43 3,oM 44 12,oN 45 44,oO 46 45,oD 47 (.callv false) 43 46]) (oC 47 (oR [9,10,8,7,13,6,12,4,3,5] [oM 48 12,oO
 49 4,oO 50 5,oX 51 .add 49 50,oN 52 48,oS 1 52 51]) (.skip))) (.seq (.seq (.reg
[9,10,8,7,13,6,12,4,3] true [oO 53 3,oM 54 13,oN 55 54,oO 56 55,oD 57 (.callv false) 53 56]) (oC 57 (oR [9,10,8,7,13,6,12,4] [oM 58 13,oO 59 4,oE 60 .sub 59 1,oN
 61 58,oS 1 61 60]) (.skip))) (oQ [9,10,8,7,13,6,12] [oO 62 6,oM 63 12,oD 64 (.callv false) 62 63] (oQ [9,10,8,7,13,6] [oO 65 6,oM 66 13,oD 67 (.callv false) 65
 66] (.seq (.regt [9,10,8,7] true [oL 68 4 true 7,oL 69 4 true 8,oS 4 9 68,oS 4
10 69,oi 11 (oB true)] zC1) (.ret)))))))))
def zDx:AF:=oAF [.cell 9 4 true,.cell 10 4 true,.tmp 11] zFK
def zGP:AC:=oQ [2,3,56,4,57,58] [oX 59 .lss 58 57] (.seq (oC 59 (.skip) (.exit 1)) (.seq (.block 2 [2,3,56,4,57,58] (oQ [2,3,56,4,57,58] [oM
 60 58,oXI 61 12 56 58,oL 62 12 true 61,oA 12 oZ,oM 11 60,oS 12 12 62] (.reg [2,3,56,4,57,58,12,11] true [oF 63 11 3,oO 64 63,oM 65 11,oL 66 2 true 2,oL 67 12
 true 12,oc2 68 zAS 66 67,oXI 69 12 64 65,oS 12 69 68]))) (oR
[2,3,56,4,57,58] [oE 70 .add 58 1,oM 58 70])))
def zND:AC:=oQ [1,0] [oT 2 .box 0,oT 3 .box 1,oA 4 oZ] (oQ [4,2,3] [⟨some 13,none,.build oZ [(0,1),(1,1)],[oK 4,oK 3]⟩,oA 5 oZ,oS 12 5 13]
 (.seq (oQ [4,5,2,3] [oF 14 0 3,oO 15 14] (.block 0 [2,3,4] (oQ [4,5,2,3,15] [oE 17 .eql 15 5,oM 16 17] (oC 16 (oQ [4,5,2,3] [oF 19 0 2,oO 20 19,oF 21 3 3,oL 22 4
 true 21,oD 23 (.callv true) 20 22,oM 18 23,oe 24 0 18,oe 25 1 18,⟨some
6,none,.alloc zV2,[]⟩,oS 4 6 24,oM 7 25] (.seq (oQ [4,5,2,3,6,7] [oM 26 7,oUn 27 26] (oC 27 (oQ [4,5] [oL 28 12
 true 5,oS 12 4 28] (.ret)) (.skip))) (oR [2,3,4,6] [oL 29 4 true 6,oF 30 3 3,oS 4 30 29]))) (oQ [4,5,2,3,15] [oE 32 .eql 15 6,oM 31 32] (oC 31 (oQ [4,5,2,3] [oF
 34 1 2,oO 35 34,oF 36 3 3,oL 37 4 true 36,oF 38 7 3,oL 39 4 true 38,oI 40 (.callv
true) [.tmp 35,.tmp 37,.tmp 39],oM 33 40,oe 41 0 33,oe 42 1 33,oe 43 2 33,oA 8 zV2,oA 9 [.int .i64 0,.int .i64
 0,.bool false,.bool false],oS 4 8 41,oS 4 9 42,oM 10 43] (.seq (oQ [4,5,2,3,9,8,10] [oM 44 10,oUn 45 44] (oC 45 (oQ [4,5] [oL 46 12 true 5,oS 12 4 46] (.ret))
 (.skip))) (.regt [2,3,4,9,8] true [oL 47 4 true 8,oL 48 4 true 9,oF 49 3 3,oS 4 49
47,oF 50 7 3,oS 4 50 48] (.step 0 (.step 2 (.alt (.step 1 (.step 3 (.step 4 (.step 5 (.done))))) (.step 3 (.step 1 (.step 4 (.step 5 (.done)))))))))))
 (.skip))))))) (oQ [2,3,4] [oF 51 11 3,oO 52 51,ox1 53 zw 52,oF 54 11 3,oS 1 54 53] (.seq (oQ [2,3,4] [oF 55 11 3,oO 56 55,zEN
 57 56,oi 58 (oK 0)] (.block 1 [4,3] (.loop [58,2,3,56,4,57] zGP))) (oQ
[4,3] [oL 71 12 true 3,oS 12 4 71] (.ret))))))
def zBr:AF:=oAF [.cell 4 12 true] zND
def zUF:AC:=oQ [0] [oi 2 (oK 0)] (.seq (oQ [0] [oM 4 0,oI 5 (.eqn .iface false true) [.tmp 4,oNi]] (oC 5 zji (.skip))) (oQ [0] [oA 3 [.int .i64 0]]
 (.seq (oQ [3,0] [oM 6 0,oT 7 (.mkIface zJl) 3,ox2 8 zLI 6 7] (oC 8 (oQ [3] [oO 9 3,oM 2 9] (.ret)) (.skip))) (oQ [] [oI 2 .mv [oK (-1)]]
 (.ret)))))
def zJq:AF:=oAF [.tmp 2] zUF
abbrev zjQ:AC:=(oC 15 (.skip) (.exit 0))
abbrev zC0:OT:=(.step 0 (.step 1 (.step 2 (.step 3 (.step 4 (.step 5 (.step 6 (.step 7 (.alt (.step 8 (.step 9 (.step 10 (.done)))) (.step 9 (.step 8 (.step
 10 (.done)))))))))))))
def zKb:AC:=.seq (oQ [4,5,0,1] [oM 11 0,oN 12 11,oF 13 3 12,oO 14 13,oE 15 .eql 14 0] zjQ) (.block 1 [4,5,0,1] (.seq (.regt [4,5,0,1] true
 [oM 16 0,oN 17 16,oF 18 0 17,oO 19 18,oM 20 0,oN 21 20,oF 22 1 21,oO 23 22,oc2 24 zY 19 23,oA 6 zV4,oS 4 6
 24] zC0) (oQ [4,5,0,1,6] [oi 7 (oK 0)] (.seq (oQ [4,5,0,1,6,7] [oF 25 0 6,oO
26 25,oE 27 .eql 26 4] (oC 27 (oR [4,5,0,1,6] [oF 28 3 6,oO 29 28,oc1 30 zDP 29,oM 7 30]) (.skip))) (.seq (oQ [4,5,0,1,7,6] [oM 31 7,oE 32 .eql 31
 0,oM 33 32,oV 34 33 false 7,oW 35 33 false (.call zAl true) 34,oV 36 33 false 1,oXG 37 33 false .lss 35 36,oP 38 33 true 37] (.cond (.tmp 38) (oQ
 [4,5] [oL 39 12 true 5,oS 12 4 39] (.ret)) (.skip))) (oQ [4,5,0,1,7,6] [oM 40 0,oF 41
2 6,oO 42 41,oN 43 40,oF 44 1 43,oS 1 44 42] (oQ [4,5,0,1,7] [oM 45 0,oM 46 7,oc1 47 zAl 46,oE 48 .add 47 1,ox2 49 zX 45 48,oA 8
 oZ,oS 12 8 49] (oR [4,5,0,1,8,7] [oM 50 7,oL 51 12 true 5,oL 52 12 true 8,oD 53 (.bslice 12) 51 52,⟨some 54,none,.build oZ [(0,1),(1,1),(11,1)],[oK 8,.tmp
 50,.tmp 53]⟩,oS 12 5 54]))))))))
def zMA:AC:=oQ [0,1] [oA 4 oZ] (oQ [4,0,1] [oM 9 0,ox1 10 zAP 9,oA 5 oZ,oS 12 5 10] (.seq (.block 0 [4] (.loop [4,5,0,1]
 zKb)) (oQ [4] [⟨some 55,none,.build oZ [],[]⟩,oS 12 4 55] (.ret))))
def zCN:AF:=oAF [.cell 4 12 true] zMA
abbrev zC30:AC:=(oC 23 (.skip) (.exit 0))
def zNE:AC:=.seq (oQ [4,0,1] [oM 14 1,oM 15 0,oT 16 (.len true) 15,oX 17 .lss 14 16,oM 18 17,oV 19 18 true 0,oV 20 18 true 1,oY 21 18 true
 .idxStr 19 20,og8 22 18 true .eql 21 32,oI 23 .pick [.tmp 18,.tmp 22,oB false]] zC30) (.block 1 [1,4,0] (oR [4,0,1] [oM 24 1,oE 25 .add 24 1,oM 1 25]))
def zNF:AC:=.seq (oQ [4,1,0,7] [oM 40 7,oM 41 0,oT 42 (.len true) 41,oX 43 .lss 40 42,oM 44 43,oV 45 44 true 0,oV 46 44 true 7,oY 47 44 true
 .idxStr 45 46,oW 48 44 true (.call zCH true) 47,oI 49 .pick [.tmp 44,.tmp 48,oB false]] (oC 49 (.skip) (.exit 2))) (.block 3 [7,4,1,0] (oR [4,1,0,7]
 [oM 50 7,oE 51 .add 50 1,oM 7 51]))
def zNG:AC:=.seq (oQ [4,1,0,9,8] [oM 63 9,oM 64 0,oT 65 (.len true) 64,oX 66 .lss 63 65] (oC 66 (.skip) (.exit 4))) (.block 5 [9,8,4,1,0] (.seq
 (oQ [4,1,0,9,8] [oM 67 0,oM 68 9,oXs 69 67 68,oe8 70 .eql 69 34] (oC 70 (.seq (oQ [4,1,0,9,8] [oM 71 9,oE 72 .add 71 1,oM 73 0,oT 74 (.len true) 73,oX 75 .lss 72
 74,oM 76 75,oV 77 76 true 0,oV 78 76 true 9,oEG 79 76 true .add 78 1,oY 80 76
true .idxStr 77 79,og8 81 76 true .eql 80 34,oI 82 .pick [.tmp 76,.tmp 81,oB false]] (oC 82 (oQ [4,1,0,9,8] [oM 83 8,oI 84 (.bslice 1) [.const (.int .u8 34)],oD
 85 (.append 1 1) 83 84,oM 8 85] (oQ [8,4,1,0,9] [oM 86 9,oE 87 .add 86 2,oM 9 87] (.exit 5))) (.skip))) (oQ [4,8,9,1] [oM 88 1,oM 89 9,oE 90 .add 89 1,oM 91 8,oT
 92 .bytesToStr 91,⟨some 93,none,.build [.int .i64 0,.int .i64 0,.int .i64
0,.str []] [(0,1),(1,1),(2,1),(3,1)],[oK 2,.tmp 88,.tmp 90,.tmp 92]⟩,oS 4 4 93] (.ret))) (.skip))) (oQ [4,1,0,9,8] [oM 94 8,oM 95 0,oM 96 9,oXs 97 95 96,oT 98
 (.bslice 1) 97,oD 99 (.append 1 1) 94 98,oM 8 99] (oR [8,4,1,0,9] [oM 100 9,oE 101 .add 100 1,oM 9 101]))))
def zNH:AC:=.seq (oQ [4,11,10,1,0] [oM 108 11,oM 109 10,zEN 110 109,oX 111 .lss 108 110] (.cond (.tmp 111) (.skip) (.exit 6))) (.seq (.block 7
 [4,10,1,0,11] (oQ [4,11,10,1,0] [oM 114 10,oM 115 11,oXI 116 1 114 115,oO 117 116,oT 118 (.len true) 117,oM 12 118] (.seq (.reg [4,11,10,12,1,0] true [oM 119
 1,oM 120 12,oX 121 .add 119 120,oM 122 0,oT 123 (.len true) 122,oX 124 .leq 121
123,oM 125 124,oV 126 125 true 0,oV 127 125 true 1,oV 128 125 true 1,oV 129 125 true 12,oXG 130 125 true .add 128 129,oG 131 125 true (.slc none true true) [.tmp
 126,.tmp 127,.tmp 130],oV 132 125 true 10,oV 133 125 true 11,oYI 134 125 true 1 132 133,oWo 135 125 true 134,oXG 136 125 true .eql 131 135,oI 137 .pick [.tmp
 125,.tmp 136,oB false]]) (oC 137 (oQ [4,11,10,12,1] [oM 138 1,oM 139 1,oM 140
12,oX 141 .add 139 140,oM 142 10,oM 143 11,oXI 144 1 142 143,oO 145 144,⟨some 146,none,.build zV4
 [(0,1),(1,1),(2,1),(3,1)],[oK 3,.tmp 138,.tmp 141,.tmp 145]⟩,oS 4 4 146] (.ret)) (.skip))))) (oR [4,10,1,0,11] [oM 112 11,oE 113 .add 112 1,oM 11 113]))
def zPk:AC:=oQ [1,0] [oA 4 zV4] (.seq (.block 0 [4,1,0] (.loop [1,4,0] zNE)) (.seq (oQ
 [4,1,0] [oM 26 1,oM 27 0,oT 28 (.len true) 27,oX 29 .eql 26 28] (oC 29 (oQ [4,1] [oM 30 1,oM 31 1,⟨some 32,none,.build [.int .i64 0,.int .i64 0,.int .i64 0,.str
 []] [(0,1),(1,1),(2,1)],[oK 0,.tmp 30,.tmp 31]⟩,oS 4 4 32] (.ret)) (.skip))) (oQ
[4,1,0] [oM 33 0,oM 34 1,oXs 35 33 34,oM 5 35] (oQ [4,1,0,5] [oM 36 5,oc1 37 zCH 36,oM 6 37] (.seq (oQ [4,1,0,5,6] [oM 38 6] (oC 38 (oQ [4,1,0] [oM
 39 1,oM 7 39] (.seq (.block 2 [4,7,1,0] (.loop [7,4,1,0] zNF)) (oQ [4,7,1,0] [oM 52 1,oM 53 7,oM 54 0,oM 55 1,oM 56 7,oI 57 (.slc none true true)
 [.tmp 54,.tmp 55,.tmp 56],⟨some 58,none,.build [.int .i64 0,.int .i64 0,.int
.i64 0,.str []] [(0,1),(1,1),(2,1),(3,1)],[oK 1,.tmp 52,.tmp 53,.tmp 57]⟩,oS 4 4 58] (.ret)))) (.skip))) (.seq (oQ [4,1,0,5] [oM 59 5,oe8 60 .eql 59 34] (oC 60
 (oQ [4,1,0] [oi 8 oNl] (oQ [8,4,1,0] [oM 61 1,oE 62 .add 61 1,oM 9 62] (.seq (.block 4 [4,1] (.loop [9,8,4,1,0] zNG)) (oQ [4,1] [oM 102 1,oM 103
 1,⟨some 104,none,.build zV4
[(0,1),(1,1),(2,1)],[oK 9,.tmp 102,.tmp 103]⟩,oS 4 4 104] (.ret))))) (.skip))) (.seq (oQ [4,1,0,5] [oM 105 5,oe8 106 .eql 105 35] (oC 106 (.seq (.reg [4,1,0]
 false [oI 107 (.call zA3 true) [],oM 10 107]) (.seq (oQ [4,10,1,0] [oi 11 (oK 1)] (.block 6 [4,1] (.loop [4,11,10,1,0] zNH))) (oQ
 [4,1] [oM 147 1,oM 148 1,⟨some 149,none,.build [.int .i64 0,.int .i64 0,.int .i64
0,.str []] [(0,1),(1,1),(2,1)],[oK 9,.tmp 147,.tmp 148]⟩,oS 4 4 149] (.ret)))) (.skip))) (.seq (oQ [4,1,0] [oM 150 1,oE 151 .add 150 2,oM 152 0,oT 153 (.len
 true) 152,oX 154 .leq 151 153] (oC 154 (oQ [4,1,0] [oM 155 0,oM 156 1,oM 157 1,oE 158 .add 157 2,oI 159 (.slc none true true) [.tmp 155,.tmp 156,.tmp 158],oM 13
 159] (oQ [4,13,1,0] [oM 160 13,oI 161 (.bin .eql) [.tmp 160,.const (.str
[60,62])],oM 162 161,oV 163 162 false 13,oG 164 162 false (.bin .eql) [.tmp 163,.const (.str [60,61])],oP 165 162 true 164,oM 166 165,oV 167 166 false 13,oG 168
 166 false (.bin .eql) [.tmp 167,.const (.str [62,61])],oP 169 166 true 168] (oC 169 (oQ [4,13,1] [oM 170 1,oM 171 1,oE 172 .add 171 2,oM 173 13,⟨some
 174,none,.build zV4
[(0,1),(1,1),(2,1),(3,1)],[oK 4,.tmp 170,.tmp 172,.tmp 173]⟩,oS 4 4 174] (.ret)) (.skip)))) (.skip))) (oQ [4,1,0] [oM 175 1,oM 176 1,oE 177 .add 176 1,oM 178
 0,oM 179 1,oM 180 1,oE 181 .add 180 1,oI 182 (.slc none true true) [.tmp 178,.tmp 179,.tmp 181],⟨some 183,none,.build [.int .i64 0,.int .i64 0,.int .i64 0,.str
 []] [(0,1),(1,1),(2,1),(3,1)],[oK 4,.tmp 175,.tmp 177,.tmp 182]⟩,oS 4 4 183]
(.ret))))))))))
def zGQ:AF:=oAF [.cell 4 4 true] zPk
def zNI:AC:=oQ [2,0,1] [oM 6 0,oN 7 6,oF 8 3 7,oO 9 8,oE 10 .eql 9 0] (oC 10 (oQ [2,0,1] [oM 11 0,oM 12 1,oN 13 11,oF 14 2 13,oS 1 14 12] (oR
 [2,0] [oM 15 0,oM 16 2,oN 17 15,oF 18 3 17,oS 1 18 16])) (.skip))
def zFL:AF:=oAF [] zNI
def zOL:AC:=oQ [1,0] [oT 2 .box 0,oT 3 .box 1,oA 4 zV2,oi 5 (oB false)] (.seq (oQ [4,2,3] [oF 10 0
 2,oO 11 10] (.block 0 [4,3,2] (oQ [4,2,3,11] [oE 13 .eql 11 1,oM 12 13] (oC 12 (oQ [4,2,3] [oL 14 4 true 3,oF 15 4 2,oO 16 15,oF 17 5 2,oO 18 17,oc3 19
 zJk 14 16 18,oe 20 0 19,oe 21 1 19,oS 4 4 20,oM 5 21] (.ret)) (oQ
[4,3,2,11] [oE 23 .eql 11 2,oM 22 23] (oC 22 (.seq (oQ [4,3,2] [oF 24 1 2,oO 25 24,oM 26 25,oWf 27 26 true 0 3,oWf 28 26 true 1 27,oWo 29 26 true 28,oWf 30 26
 true 2 2,oWo 31 26 true 30,oXG 32 26 true .geq 29 31,oI 33 .pick [.tmp 26,.tmp 32,oB false]] (oC 33 (oR [4,3,2] [oF 34 0 3,oF 35 1 34,oO 36 35,oF 37 3 2,oO 38
 37,oX 39 .add 36 38,oF 40 0 3,oF 41 1 40,oS 1 41 39]) (.skip))) (.seq (oQ [4,3,2]
[oF 42 1 2,oO 43 42,oUn 44 43,oM 45 44,oWf 46 45 true 0 3,oWf 47 45 true 0 46,oWo 48 45 true 47,oWf 49 45 true 2 2,oWo 50 45 true 49,oXG 51 45 true .geq 48 50,oI
 52 .pick [.tmp 45,.tmp 51,oB false]] (oC 52 (oR [4,3,2] [oF 53 0 3,oF 54 0 53,oO 55 54,oF 56 3 2,oO 57 56,oX 58 .add 55 57,oF 59 0 3,oF 60 0 59,oS 1 60 58])
 (.skip))) (.seq (.reg [4,3] true [oL 61 4 true 3,oF 62 0 3,oL 63 2 true 62,oc1 64
zBo 63,oS 4 4 61,oM 5 64]) (.ret)))) (oQ [4,3,2,11] [oE 66 .eql 11 3,oM 65 66] (oC 65 (oQ [4,3,2] [oF 67 0 3,oF 68 0 67,oO 69 68,oM 6 69] (.seq (oQ
 [4,3,2,6] [oF 70 1 2,oO 71 70] (.cond (.tmp 71) (oR [4,3,2] [oF 72 0 3,oF 73 1 72,oO 74 73,oM 6 74]) (.skip))) (.seq (oQ [4,3,2,6] [oM 75 6,oF 76 2 2,oO 77 76,oX
 78 .geq 75 77,oM 79 78,oV 80 79 true 6,oWf 81 79 true 2 2,oWo 82 79 true 81,oWf 83
79 true 3 2,oWo 84 79 true 83,oXG 85 79 true .add 82 84,oXG 86 79 true .lss 80 85,oI 87 .pick [.tmp 79,.tmp 86,oB false]] (oC 87 (oQ [4,3] [oL 88 4 true 3,oS 4 4
 88,oi 5 (oB false)] (.ret)) (.skip))) (.seq (oQ [4,3,2,6] [oM 89 6,oF 90 2 2,oO 91 90,oX 92 .geq 89 91] (oC 92 (oR [4,3,2,6] [oM 93 6,oF 94 3 2,oO 95 94,oX 96
 .sub 93 95,oM 6 96]) (.skip))) (.seq (oQ [4,3,6,2] [oF 97 1 2,oO 98 97] (.cond
(.tmp 98) (oR [4,3,6] [oM 99 6,oF 100 0 3,oF 101 1 100,oS 1 101 99]) (oR [4,3,6] [oM 102 6,oF 103 0 3,oF 104 0 103,oS 1 104 102]))) (oQ [4,3] [oL 105 4 true 3,oS
 4 4 105,oi 5 (oB true)] (.ret))))))) (.skip))))))))) (oQ [4,3,2] [oF 106 6 2,oL 107 4 true 106,oF 108 0 3,oL 109 2 true 108,oc2 110 zFo 107 109,oM 7
 110] (.seq (oQ [4,3,2,7] [oM 111 7,oUn 112 111] (oC 112 (oQ [4,3] [oL 113 4
true 3,oS 4 4 113,oi 5 (oB true)] (.ret)) (.skip))) (oQ [4,3,2] [oF 115 0 3,oL 116 2 true 115,⟨some 117,none,.build [.int .i64 0,.int .i64 0,.bool false,.bool
 false] [(0,2)],[.tmp 116]⟩,oF 118 4 2,oO 119 118,oF 120 5 2,oO 121 120,oc3 122 zJk 117 119 121,oM 114 122,oe 123 0 114,oe 124 1 114,oA 8 [.int .i64
 0,.int .i64 0,.bool false,.bool false],oS 4 8 123,oM 9 124] (oQ [4,9,3,8] [oF 125
0 8,oL 126 2 true 125,oF 127 0 3,oS 2 127 126] (oQ [4,9,3] [oL 128 4 true 3,oM 129 9,oS 4 4 128,oM 5 129] (.ret)))))))
def zI9:AF:=oAF [.cell 4 4 true,.tmp 5] zOL
def zJA:AC:=oQ [2,1,0] [oT 3 .box 0,oT 4 .box 1,oT 5 .box 2,oA 6 zV2,oA 7 [.int .i64 0,.int .i64
 0,.bool false,.bool false],oi 8 (oB false)] (.seq (.seq (.reg [6,7,5,4,3] false [oF 23 0 3,oO 24 23]) (.block 0 [6,7,5,3,4] (oQ [6,7,5,4,3,24] [oE 26 .eql 24
 3,oM 25 26] (.cond (.tmp 25) (oQ [6,7,5,4,3] [oF 27 0 4,oF 28 0 27,oO 29 28,oM 9
29] (oQ [6,7,5,4,3,9] [oF 30 0 5,oF 31 0 30,oO 32 31,oM 10 32] (.seq (oQ [6,7,5,4,3,10,9] [oF 33 1 3,oO 34 33] (oC 34 (.seq (.reg [6,7,5,4,3] false [oF 35 0 4,oF
 36 1 35,oO 37 36,oM 9 37]) (oR [6,7,5,4,3,9] [oF 38 0 5,oF 39 1 38,oO 40 39,oM 10 40])) (.skip))) (oQ [6,7,5,4,3,10,9] [oM 41 9,oM 42 10,oX 43 .gtr 41 42,oM 11
 43] (.seq (oQ [6,7,5,4,3,11,10,9] [oM 44 11] (oC 44 (oQ [6,7,5,4,3,11,10,9] [oM
45 9,oM 12 45] (oQ [6,7,5,4,3,11,12,10] [oM 46 10,oM 9 46] (.reg [6,7,5,4,3,11,9,12] false [oM 47 12,oM 10 47]))) (.skip))) (oQ [6,7,5,4,3,11,10,9] [oL 49 10
 true 3,oM 50 9,oM 51 10,oc3 52 zFJ 49 50 51,oM 48 52,oe 53 0 48,oe 54 1 48,oe 55 2 48,oM 13 53,oM 14 54,oM 15 55] (.seq (oQ [6,7,5,4,3,14,13,11,15]
 [oM 56 15,oUn 57 56] (oC 57 (.seq (.regt [6,7,5,4] true [oL 58 4 true 4,oL 59 4
true 5,oS 4 6 58,oS 4 7 59,oi 8 (oB false)] zC1) (.ret)) (.skip))) (.seq (oQ [6,7,5,4,3,14,13,11] [oM 60 11] (oC 60 (oQ [6,7,5,4,3,14,13] [oM 61 13,oM 16 61] (oQ
 [6,7,5,4,3,16,14] [oM 62 14,oM 13 62] (oR [6,7,5,4,3,13,16] [oM 63 16,oM 14 63]))) (.skip))) (.seq (oQ [6,7,5,4,3,14,13] [oF 64 1 3,oO 65 64] (oC 65 (oQ
 [6,7,5,4,3,14,13] [oM 66 13,oF 67 0 4,oF 68 1 67,oS 1 68 66] (oR [6,7,5,4,3,14] [oM 69
14,oF 70 0 5,oF 71 1 70,oS 1 71 69])) (oQ [6,7,5,4,3,14,13] [oM 72 13,oF 73 0 4,oF 74 0 73,oS 1 74 72] (oR [6,7,5,4,3,14] [oM 75 14,oF 76 0 5,oF 77 0 76,oS 1 77
 75])))) (oQ [6,7,5,4,3] [oL 79 10 true 3,oL 80 4 true 4,oc2 81 zAL 79 80,oM 78 81,oe 82 0 78,oe 83 1 78,oS 4 4 82] (oQ [6,7,5,4,3] [oL 85 10 true
 3,oL 86 4 true 5,oc2 87 zAL 85 86,oM 84 87,oe 88 0 84,oe 89 1 84,oS
4 5 88] (.seq (.regt [6,7,5,4] true [oL 90 4 true 4,oL 91 4 true 5,oS 4 6 90,oS 4 7 91,oi 8 (oB true)] zC1) (.ret))))))))))))) (oQ [6,7,5,4,3,24] [oE 93 .eql 24
 4,oM 92 93] (oC 92 (oQ [6,7,5,4,3] [oF 94 6 3,oL 95 4 true 94,oF 96 0 4,oL 97 2 true 96,oc2 98 zFo 95 97,oM 17 98] (oQ [6,7,5,4,3,17] [oF 99 6 3,oL
 100 4 true 99,oF 101 0 5,oL 102 2 true 101,oc2 103 zFo 100 102,oM
18 103] (oQ [6,7,5,4,3,18,17] [oM 104 17,oUn 105 104,oM 106 105,oV 107 106 false 18,oW 108 106 false (.un .not) 107,oP 109 106 true 108] (oC 109 (.seq (.regt
 [6,7,5,4] true [oL 110 4 true 4,oL 111 4 true 5,oS 4 6 110,oS 4 7 111,oi 8 (oB true)] zC1) (.ret)) (.skip))))) (.skip))))))) (oQ [6,7,5,3,4] [oL 113 10 true 3,oL
 114 4 true 4,oc2 115 zAL 113 114,oM 112 115,oe 116 0 112,oe 117 1
112,oA 19 zV2,oS 4 19 116,oM 20 117] (oQ [6,7,20,19,5,3] [oL 119 10 true 3,oL 120 4 true 5,oc2 121 zAL
 119 120,oM 118 121,oe 122 0 118,oe 123 1 118,oA 21 zV2,oS 4 21 122,oM 22 123] (.seq (.regt [6,7,22,20,21,19] true
 [oL 124 4 true 19,oL 125 4 true 21,oM 126 20,oM 127 126,oV 128 127 true 22,oI
129 .pick [.tmp 127,.tmp 128,oB false],oS 4 6 124,oS 4 7 125,oM 8 129] (.step 0 (.step 2 (.step 3 (.step 4 (.step 5 (.alt (.step 1 (.step 6 (.step 7 (.step 8
 (.done))))) (.step 6 (.step 1 (.step 7 (.step 8 (.done)))))))))))) (.ret)))))
def zDN:AF:=oAF [.cell 6 4 true,.cell 7 4 true,.tmp 8] zJA
def zNJ:AC:=.seq (oQ [1,2,6,5] [oM 10 6,oF 11 11 2,oO 12 11,zEN 13 12,oX 14 .lss 10 13,oM 15 14,oV 16 15 true 5,oV 17 15 true 1,oXG 18 15 true
 .leq 16 17,oI 19 .pick [.tmp 15,.tmp 18,oB false]] (.cond (.tmp 19) (.skip) (.exit 0))) (.seq (.block 1 [5,1,2,6] (oQ [1,2,6,5] [oF 22 11 2,oO 23 22,oM 24 6,oXI
 25 12 23 24,oL 26 12 true 25,oM 27 1,oM 28 5,oX 29 .sub 27 28,oc2 30
zEp 26 29,oM 7 30] (oR [1,2,6,7,5] [oM 31 5,oM 32 7,oX 33 .add 31 32,oM 5 33]))) (oR [5,1,2,6] [oM 20 6,oE 21 .add 20 1,oM 6 21]))
abbrev zjk:AC:=(oQ [] [oi 4 (oK 1)] (.ret))
def zPl:AC:=oQ [1,0] [oT 2 .box 0,oi 4 (oK 0)] (.seq (oQ [1,2] [oM 8 1,oE 9 .leq 8 0] (oC 9 zjk (.skip))) (oQ [1,2] [oi 5 (oK 1)] (.seq (oQ
 [5,1,2] [oi 6 (oK 0)] (.block 0 [5] (.loop [6,5,1,2] zNJ))) (oQ [5] [oM 34 5,oM 4 34] (.ret)))))
def zJr:AF:=oAF [.tmp 4] zPl
def zMB:AC:=.seq (oQ [2,8] [oM 210 8,oF 211 11 2,oO 212 211,zEN 213 212,oX 214 .lss 210 213] (oC 214 (.skip) (.exit 1))) (.seq (.block 2
 [2,8] (oQ [2,8] [oF 217 11 2,oO 218 217,oM 219 8,oXI 220 12 218 219,oL 221 12 true 220,oI 222 (.call zAO true) [.tmp 221,oB true],oM 7 222] (oQ
 [2,8,7] [oM 223 7,oUn 224 223] (oC 224 zC4 (.skip))))) (oR [2,8] [oM 215 8,oE 216 .add
215 1,oM 8 216]))
def zOM:AC:=oQ [1,0] [oT 2 .box 0,oi 4 (oB false)] (oQ [2,1] [oF 9 3 2,oL 10 4 true 9,⟨some 11,none,.build [.int .i64 0,.int .i64 0,.bool
 false,.bool false] [],[]⟩,⟨some 12,none,.eqs false [.int .i64,.int .i64,.bool,.bool],[.tmp 10,.tmp 11]⟩,oM 13 12,oWf 14 13 true 7 2,oW 15 13 true (.load 4 true)
 14,⟨some 16,some (13,true),.build zV2
[],[]⟩,⟨some 17,some (13,true),.eqs false [.int .i64,.int .i64,.bool,.bool],[.tmp 15,.tmp 16]⟩,oI 18 .pick [.tmp 13,.tmp 17,oB false],oM 5 18] (oQ [2,5,1] [oF 19
 2 2,oO 20 19,oI 21 (.bin .eql) [.tmp 20,oNs],oM 22 21,oWf 23 22 true 11 2,oWo 24 22 true 23,oW 25 22 true (.len false) 24,oEG 26 22 true .eql 25 0,oI 27 .pick
 [.tmp 22,.tmp 26,oB false],oM 6 27] (.seq (oQ [2,6,5,1] [oF 28 0 2,oO 29 28]
(.block 0 [] (oQ [2,6,5,1,29] [oE 31 .eql 29 1,oM 30 31] (oC 30 (oQ [2,6,5] [oM 32 5,oM 33 32,oV 34 33 true 6,oI 35 .pick [.tmp 33,.tmp 34,oB false],oM 36 35,oWf
 37 36 true 1 2,oWo 38 36 true 37,oEG 39 36 true .geq 38 0,oI 40 .pick [.tmp 36,.tmp 39,oB false],oM 4 40] (.ret)) (oQ [2,5,6,1,29] [oE 42 .eql 29 2,oM 41 42] (oC
 41 (.seq (.reg [2,5] false [oM 43 5,oM 44 43,oWf 45 44 true 11 2,oWo 46 44
true 45,oW 47 44 true (.len false) 46,oEG 48 44 true .eql 47 0,oI 49 .pick [.tmp 44,.tmp 48,oB false],oM 50 49,oWf 51 50 true 1 2,oWo 52 50 true 51,oEG 53 50
 true .eql 52 0,oI 54 .pick [.tmp 50,.tmp 53,oB false],oM 4 54]) (.ret)) (oQ [2,6,5,1,29] [oE 56 .eql 29 3,oM 55 56] (oC 55 (oQ [2,6,5] [oM 57 5,oM 58 57,oV 59 58
 true 6,oI 60 .pick [.tmp 58,.tmp 59,oB false],oM 61 60,oWf 62 61 true 1 2,oWo 63
61 true 62,oEG 64 61 true .eql 63 0,oV 65 61 true 64,oWf 66 65 false 1 2,oWo 67 65 false 66,oEG 68 65 false .eql 67 1,oG 69 61 true .pick [.tmp 65,oB true,.tmp
 68],oI 70 .pick [.tmp 61,.tmp 69,oB false],oM 4 70] (.ret)) (oQ [2,6,5,1,29] [oE 72 .eql 29 4,oM 71 72] (oC 71 (oQ [2,6,5] [oM 73 5,oM 74 73,oV 75 74 true 6,oI
 76 .pick [.tmp 74,.tmp 75,oB false],oM 77 76,oWf 78 77 true 1 2,oWo 79 77 true
78,oEG 80 77 true .geq 79 1,oI 81 .pick [.tmp 77,.tmp 80,oB false],oM 82 81,oWf 83 82 true 1 2,oWo 84 82 true 83,oEG 85 82 true .leq 84 6,oI 86 .pick [.tmp
 82,.tmp 85,oB false],oM 4 86] (.ret)) (oQ [2,6,1,5,29] [oE 88 .eql 29 5,oM 87 88] (oC 87 (.seq (.reg [2,6] false [oM 89 6,oM 90 89,oWf 91 90 true 1 2,oWo 92 90
 true 91,oEG 93 90 true .eql 92 0,oI 94 .pick [.tmp 90,.tmp 93,oB false],oM 95 94,oWf
96 95 true 7 2,oW 97 95 true (.load 4 true) 96,⟨some 98,some (95,true),.build zV2 [],[]⟩,⟨some 99,some
 (95,true),.eqs false [.int .i64,.int .i64,.bool,.bool],[.tmp 97,.tmp 98]⟩,oI 100 .pick [.tmp 95,.tmp 99,oB false],oM 101 100,oWf 102 101 true 3 2,oWf 103 101
 true 0 102,oW 104 101 true (.load 2 true) 103,oW 105 101 true (.call zBo true) 104,oI
106 .pick [.tmp 101,.tmp 105,oB false],oM 4 106]) (.ret)) (oQ [2,6,1,5,29] [oE 108 .eql 29 6,oM 107 108] (oC 107 (oQ [2,6,1] [oM 109 1,oM 110 109,oV 111 110 true
 6,oI 112 .pick [.tmp 110,.tmp 111,oB false],oM 113 112,oWf 114 113 true 1 2,oWo 115 113 true 114,oEG 116 113 true .eql 115 0,oI 117 .pick [.tmp 113,.tmp 116,oB
 false],oM 118 117,oWf 119 118 true 3 2,oWf 120 118 true 0 119,oW 121 118 true
(.load 2 true) 120,oW 122 118 true (.call zBo true) 121,oI 123 .pick [.tmp 118,.tmp 122,oB false],oM 124 123,oWf 125 124 true 7 2,oWf 126 124 true 0
 125,oW 127 124 true (.load 2 true) 126,oW 128 124 true (.call zBo true) 127,oI 129 .pick [.tmp 124,.tmp 128,oB false],oM 4 129] (.ret)) (oQ [2,5,29] [oE
 131 .eql 29 7,oM 130 131] (oC 130 (oQ [2,5] [oM 132 5,oM 133 132,oWf 134 133 true
2 2,oWo 135 133 true 134,oG 136 133 true (.bin .eql) [.tmp 135,oNs],oI 137 .pick [.tmp 133,.tmp 136,oB false],oM 138 137,oWf 139 138 true 1 2,oWo 140 138 true
 139,oEG 141 138 true .eql 140 0,oI 142 .pick [.tmp 138,.tmp 141,oB false],oM 143 142,oWf 144 143 true 11 2,oWo 145 143 true 144,oW 146 143 true (.len false)
 145,oEG 147 143 true .eql 146 1,oI 148 .pick [.tmp 143,.tmp 147,oB false],oM 149
148,oWf 150 149 true 11 2,oWo 151 149 true 150,oG 152 149 true (.idxAddr 12) [.tmp 151,oK 0],oW 153 149 true (.load 12 true) 152,oG 154 149 true (.call
 zAO true) [.tmp 153,oB false],oI 155 .pick [.tmp 149,.tmp 154,oB false],oM 4 155] (.ret)) (oQ [2,5,29] [oE 157 .eql 29 8,oM 156 157] (oC 156 (oQ
 [2,5] [oM 158 5,oM 159 158,oWf 160 159 true 2 2,oWo 161 159 true 160,oG 162 159 true (.bin
.eql) [.tmp 161,oNs],oI 163 .pick [.tmp 159,.tmp 162,oB false],oM 164 163,oWf 165 164 true 1 2,oWo 166 164 true 165,oEG 167 164 true .geq 166 1,oI 168 .pick
 [.tmp 164,.tmp 167,oB false],oM 169 168,oWf 170 169 true 1 2,oWo 171 169 true 170,oEG 172 169 true .leq 171 11,oI 173 .pick [.tmp 169,.tmp 172,oB false],oM 174
 173,oWf 175 174 true 11 2,oWo 176 174 true 175,oW 177 174 true (.len false) 176,oEG
178 174 true .eql 177 2,oI 179 .pick [.tmp 174,.tmp 178,oB false],oM 180 179,oWf 181 180 true 11 2,oWo 182 180 true 181,oG 183 180 true (.idxAddr 12) [.tmp
 182,oK 0],oW 184 180 true (.load 12 true) 183,oG 185 180 true (.call zAO true) [.tmp 184,oB false],oI 186 .pick [.tmp 180,.tmp 185,oB false],oM 187
 186,oWf 188 187 true 11 2,oWo 189 187 true 188,oG 190 187 true (.idxAddr 12) [.tmp
189,oK 1],oW 191 187 true (.load 12 true) 190,oG 192 187 true (.call zAO true) [.tmp 191,oB false],oI 193 .pick [.tmp 187,.tmp 192,oB false],oM 4
 193] (.ret)) (oQ [2,5,29] [oE 195 .eql 29 9,oM 194 195] (oC 194 (.seq (.reg [2,5] false [oF 196 2 2,oO 197 196,oc1 198 zAB 197,oM 7 198]) (.seq (oQ
 [2,5,7] [oM 199 7,oUn 200 199,oM 201 200,oV 202 201 false 5,oW 203 201 false (.un
.not) 202,oP 204 201 true 203,oM 205 204,oWf 206 205 false 1 2,oWo 207 205 false 206,oEG 208 205 false .neq 207 0,oP 209 205 true 208] (oC 209 zC4 (.skip)))
 (.seq (oQ [2] [oi 8 (oK 0)] (.block 1 [] (.loop [8,2] zMB))) zjP))) (.skip))))))))))))))))))))) zC4)))
def zAQ:AF:=oAF [.tmp 4] zOM
def zON:AC:=.seq (oQ [1,4,3] [oM 26 4,oF 27 2 1,oO 28 27,oT 29 (.len true) 28,oX 30 .lss 26 29] (.cond (.tmp 30) (.skip) (.exit 1))) (.seq
 (.block 2 [1,3,4] (.seq (oQ [1,4,3] [oF 33 2 1,oO 34 33,oM 35 4,oXs 36 34 35,oe8 37 .eql 36 34] (oC 37 (oR [1,4,3] [oM 38 3,oI 39 (.bslice 1) [.const (.int .u8
 34)],oD 40 (.append 1 1) 38 39,oM 3 40]) (.skip))) (oR [1,4,3] [oM 41 3,oF 42 2 1,oO
43 42,oM 44 4,oXs 45 43 44,oT 46 (.bslice 1) 45,oD 47 (.append 1 1) 41 46,oM 3 47]))) (oR [1,3,4] [oM 31 4,oE 32 .add 31 1,oM 4 32]))
def zOO:AC:=.seq (oQ [1,12,11] [oM 140 12,oF 141 11 1,oO 142 141,zEN 143 142,oX 144 .lss 140 143] (oC 144 (.skip) (.exit 3))) (.seq (.block 4
 [1,11,12] (.seq (oQ [1,12,11] [oM 147 12,oE 148 .gtr 147 0] (oC 148 (oR [1,12,11] [oM 149 11,oI 150 (.bin .add) [.tmp 149,.const (.str [44])],oM 11 150])
 (.skip))) (.seq (.reg [1,12,11] false [oF 151 11 1,oO 152 151,oM 153 12,oXI 154 12 152
153,oL 155 12 true 154,oc1 156 zAo 155,oM 13 156]) (.reg [1,12,13,11] false [oM 157 11,oM 158 13,oX 159 .add 157 158,oM 11 159])))) (oR [1,11,12] [oM
 145 12,oE 146 .add 145 1,oM 12 146]))
def zQx:AC:=oQ [0] [oT 1 .box 0,oi 2 oNs] (.seq (oQ [1] [oF 14 0 1,oO 15 14] (.block 0 [1] (oQ [1,15] [oE 17 .eql 15 1,oM 16 17] (oC 16 (oQ [1]
 [oF 18 1 1,oO 19 18,oc1 20 zDL 19,oM 2 20] (.ret)) (oQ [1,15] [oE 22 .eql 15 2,oM 21 22] (oC 21 (oQ [1] [oi 3 oNl] (oQ [1,3] [oM 23 3,oI 24 (.bslice
 1) [.const (.int .u8 34)],oD 25 (.append 1 1) 23 24,oM 3 25] (.seq (oQ [1,3] [oi
4 (oK 0)] (.block 1 [3] (.loop [4,1,3] zON))) (oQ [3] [oM 48 3,oI 49 (.bslice 1) [.const (.int .u8 34)],oD 50 (.append 1 1) 48 49,oM 3 50] (oQ [3]
 [oM 51 3,oT 52 .bytesToStr 51,oM 2 52] (.ret)))))) (oQ [1,15] [oE 54 .eql 15 3,oM 53 54] (oC 53 (oQ [1] [oF 55 1 1,oO 56 55,oE 57 .eql 56 1,oc1 58 zF6
 57,oc1 59 zEC 58,oM 2 59] (.ret)) (oQ [1,15] [oE 61 .eql 15 4,oM 60
61] (oC 60 (oQ [1] [oF 62 1 1,oO 63 62,oc1 64 zDB 63,oc1 65 zEC 64,oM 2 65] (.ret)) (oQ [1,15] [oE 67 .eql 15 5,oM 66 67] (oC 66 (oQ [1] [oF
 68 3 1,oL 69 4 true 68,oc1 70 zCh 69,oM 2 70] (.ret)) (oQ [1,15] [oE 72 .eql 15 6,oM 71 72] (oC 71 (.seq (.reg [1] true [oF 73 3 1,oL 74 4 true
 73,oc1 75 zCh 74,oI 76 (.bin .add) [.tmp 75,.const (.str [58])],oF
77 7 1,oL 78 4 true 77,oc1 79 zCh 78,oX 80 .add 76 79,oM 2 80]) (.ret)) (oQ [1,15] [oE 82 .eql 15 7,oM 81 82] (oC 81 (oQ [1] [oF 83 11 1,oO 84
 83,oI 85 (.idxAddr 12) [.tmp 84,oK 0],oL 86 12 true 85,oc1 87 zAo 86,oM 5 87] (oQ [1,5] [oM 88 5,oF 89 11 1,oO 90 89,oI 91 (.idxAddr 12) [.tmp 90,oK
 0],oF 92 0 91,oO 93 92,oE 94 .eql 93 8,oc2 95 zFd 88 94,oI 96 (.bin .add)
[.const (.str [45]),.tmp 95],oM 2 96] (.ret))) (oQ [1,15] [oE 98 .eql 15 8,oM 97 98] (oC 97 (oQ [1] [oF 99 11 1,oO 100 99,oI 101 (.idxAddr 12) [.tmp 100,oK 0],oL
 102 12 true 101,oc1 103 zAo 102,oM 6 103] (oQ [1,6] [oF 104 11 1,oO 105 104,oI 106 (.idxAddr 12) [.tmp 105,oK 1],oL 107 12 true 106,oc1 108
 zAo 107,oM 7 108] (oQ [1,7,6] [oF 109 1 1,oO 110 109,oc1 111 zAl
110,oM 8 111] (oQ [1,8,7,6] [oM 112 6,oF 113 11 1,oO 114 113,oI 115 (.idxAddr 12) [.tmp 114,oK 0],oL 116 12 true 115,oc1 117 zEq 116,oM 118 8,oX 119
 .lss 117 118,oc2 120 zFd 112 119,oM 9 120] (oQ [1,9,8,7] [oM 121 7,oF 122 11 1,oO 123 122,oI 124 (.idxAddr 12) [.tmp 123,oK 1],oL 125 12 true 124,oc1
 126 zEq 125,oM 127 8,oX 128 .leq 126 127,oc2 129 zFd 121
128,oM 10 129] (oQ [10,1,9] [oM 130 9,oF 131 1 1,oO 132 131,oc1 133 zEr 132,oX 134 .add 130 133,oM 135 10,oX 136 .add 134 135,oM 2 136]
 (.ret))))))) (.skip))))))))))))))))))) (oQ [1] [oF 137 2 1,oO 138 137,oI 139 (.bin .add) [.tmp 138,.const (.str [40])],oM 11 139] (.seq (oQ [1,11] [oi 12 (oK 0)]
 (.block 3 [11] (.loop [12,1,11] zOO))) (oQ [11] [oM 160 11,oI 161 (.bin
.add) [.tmp 160,.const (.str [41])],oM 2 161] (.ret)))))
def zAy:AF:=oAF [.tmp 2] zQx
def zaL:AC:=oQ [0] [oT 1 .box 0,oi 2 (oB false)] zC2
def zUG:AF:=oAF [.tmp 2] zaL
def zQy:AC:=oQ [1,0] [oT 2 .box 0,oT 3 .box 1,oi 4 (oK 0)] (.seq (.reg [3,2] true [oF 5 1 2,oO 6 5,oF 7 1 3,oO 8 7,oc2 9 zCJ 6 8,oF
 10 0 2,oO 11 10,oF 12 0 3,oO 13 12,oc2 14 zCJ 11 13,oD 15 (.bslice 1) 9 14,oc1 16 zF7 15,oM 4 16]) (.ret))
def zKx:AF:=oAF [.tmp 4] zQy
def zMC:AC:=oQ [0] [oi 2 (oB false)] (oQ [0] [oM 3 0,oI 4 (.call zA7 true) [.tmp 3,.const (.str [61])],oUn 5 4,oM 2 5] (.ret))
def zEx:AF:=oAF [.tmp 2] zMC
abbrev zC9:OT:=(.step 0 (.step 1 (.step 2 (.done))))
abbrev zC25:OT:=(.step 0 (.step 1 (.step 2 (.step 3 (.step 4 (.step 5 (.step 6 (.done))))))))
def zEy:AC:=oQ [0] [oA 2 oZ,oA 3 [.int .i64 0],oA 4 [.nili]] (.seq (oQ [2,3,4,0] [oM 6 0,oT 7 (.len true) 6,oE 8 .gtr 7 200] (oC 8 (oQ [2,3,4]
 [⟨some 9,none,.build oZ [],[]⟩,oI 10 (.mkIface zO) [oK 4],oS 12 2 9,oJ (.store 1) [.tmp 3,oK 0],oS 1 4 10] (.ret)) (.skip))) (oQ [2,3,4,0] [oI 11 (.mkFn
 zAi 0) [.tmp 2,.tmp 3,.tmp 4],oJ .stuck []] (oQ [2,3,4,0] [oM 12
0,⟨some 13,none,.build [.str [],.int .i64 0,.int .i64 0] [(0,1)],[.tmp 12]⟩,oT 14 .box 13,oM 5 14] (.seq (oQ [2,3,4,5,0] [oM 15 0,oc1 16 zAh 15]
 (oC 16 (.regt [2,3,4,5,0] false [oM 17 5,oI 18 (.mkIface zO) [oK 2],oI 19 (.callp zV) [.tmp 17,oK 0,.tmp 18]] zC9) (.skip))) (oQ
 [2,3,4,5,0] [oM 20 5,oN 21 20,oF 22 1 21,oO 23 22,oE 24 .add 23 1,oN 25 20,oF 26 1
25,oS 1 26 24] (.seq (.regt [2,3,4,5,0] false [oM 27 5,oI 28 (.callp zj) [.tmp 27,oK 0],oS 12 2 28] zC9) (.seq (oQ [2,3,4,5,0] [oM 29 5,ox1 30
 zW 29] (oQ [2,3,4,5,0] [oM 31 5,oN 32 31,oF 33 1 32,oO 34 33,oM 35 0,oT 36 (.len true) 35,oX 37 .lss 34 36] (oC 37 (.regt [2,3,4,5] false
 [oM 38 5,oM 39 5,oN 40 39,oF 41 1 40,oO 42 41,oI 43 (.mkIface zO) [oK
2],oI 44 (.callp zV) [.tmp 38,.tmp 42,.tmp 43]] zC25) (.skip)))) (oQ [2,3,4] [oL 45 12 true 2,oS 12 2 45,oJ (.store 1) [.tmp 3,oK 0],oJ
 (.store 1) [.tmp 4,oNi]] (.ret)))))))))
def zBz:AF:=oAF [.cell 2 12 true,.cell 3 1 false,.cell 4 1 false] zEy
def zVn:AC:=oQ [1,0] [oT 2 .box 0,oT 3 .box 1,oi 4 (oB false)] (oQ [3,2] [oF 5 0 2,oO 6 5,oF 7 0 3,oO 8 7,oX 9 .eql 6 8,oM 10 9,oWf 11 10 true 1
 2,oWo 12 10 true 11,oWf 13 10 true 1 3,oWo 14 10 true 13,oXG 15 10 true .eql 12 14,oI 16 .pick [.tmp 10,.tmp 15,oB false],oM 17 16,oWf 18 17 true 2 2,oWo 19 17
 true 18,oWf 20 17 true 2 3,oWo 21 17 true 20,oXG 22 17 true .eql 19 21,oI 23 .pick
[.tmp 17,.tmp 22,oB false],oM 24 23,oWf 25 24 true 3 2,oW 26 24 true (.load 4 true) 25,oWf 27 24 true 3 3,oW 28 24 true (.load 4 true) 27,⟨some 29,some
 (24,true),.eqs false [.int .i64,.int .i64,.bool,.bool],[.tmp 26,.tmp 28]⟩,oI 30 .pick [.tmp 24,.tmp 29,oB false],oM 31 30,oWf 32 31 true 7 2,oW 33 31 true (.load
 4 true) 32,oWf 34 31 true 7 3,oW 35 31 true (.load 4 true) 34,⟨some 36,some
(31,true),.eqs false [.int .i64,.int .i64,.bool,.bool],[.tmp 33,.tmp 35]⟩,oI 37 .pick [.tmp 31,.tmp 36,oB false],oM 38 37,oWf 39 38 true 11 2,oWo 40 38 true
 39,oWf 41 38 true 11 3,oWo 42 38 true 41,oG 43 38 true (.call zd true) [.tmp 40,.tmp 42,.fn
 zAk],oI 44 .pick [.tmp 38,.tmp 43,oB false],oM 4 44] (.ret))
def zPm:AF:=oAF [.tmp 4] zVn
def zPn:AC:=oQ [0] [oT 1 .box 0,oi 2 oNs,oi 3 oNi] (oQ [1] [⟨some 4,none,.alloc [.int .i64 0],[]⟩,oJ (.store 1) [.tmp 4,oK 200]] (.seq (oQ [1,4]
 [oL 9 12 true 1,ox2 10 zCi 9 4,oUn 11 10] (oC 11 (oQ [] [oI 12 (.mkIface zO) [oK 4],oi 2 oNs,oM 3 12] (.ret)) (.skip))) (.seq (oQ [1] [oL 13
 12 true 1,oI 14 (.call zAp true) [.tmp 13,oB false],oUn 15 14] (oC
15 (oQ [] [oI 16 (.mkIface zO) [oK 2],oi 2 oNs,oM 3 16] (.ret)) (.skip))) (oQ [1] [⟨some 5,none,.allocT zAC [.nilp,.lst (some true) 0
 []],[]⟩] (oQ [5,1] [oI 17 (.call zk false) [.tmp 5,.const (.int .u8 61)]] (oQ [5,1] [oL 18 12 true 1,ox2 19 zCj 5 18]
 (.seq (oQ [5] [ox1 21 zy 5,oc1 22 zAF 21,oM 20
22,oe 23 0 20,oe 24 1 20,oe 25 2 20,⟨some 6,none,.alloc oZ,[]⟩,oS 12 6 23,oM 7 24,oM 8 25] (oQ [5,8] [oM 26 8,oI 27 (.eqn .iface true true) [.tmp 26,oNi]] (.cond
 (.tmp 27) (oQ [] [oI 28 (.mkIface zO) [oK 4],oi 2 oNs,oM 3 28] (.ret)) (.skip)))) (oQ [5] [ox1 29 zy 5,oM 2 29,oi 3 oNi]
 (.ret)))))))))
def zJs:AF:=oAF [.tmp 2,.tmp 3] zPn
def zEa:AC:=oQ [0] [oi 2 oNl] (.seq (oQ [0] [oM 3 0,oI 4 (.eqn .sl false true) [.tmp 3,oNl]] (oC 4 (oQ [] [oi 2 oNl] (.ret))
 (.skip))) (oQ [0] [oI 5 (.bslice 12) [],oM 6 0,oD 7 (.append 12 104) 5 6,oM 2 7] (.ret)))
def zB0:AF:=oAF [.tmp 2] zEa
def zJB:AC:=oQ [0] [oA 2 oZ] (.seq (.regt [2,0] true [oM 15 0,oN 16 15,oF 17 0 16,oO 18 17,oM 19 0,oN 20 19,oF 21 1 20,oO 22 21,oc2 23
 zY 18 22,⟨some 3,none,.alloc zV4,[]⟩,oS 4 3 23] zC0) (oQ [2,3,0] [oM 24 0,oF 25 2 3,oO 26 25,oN 27 24,oF
 28 1 27,oS 1 28 26] (.seq (oQ [2,3,0] [oF 29 0 3,oO 30 29] (.block 0 [2,3,0] (oQ
[2,3,0,30] [oE 32 .eql 30 1,oM 31 32] (oC 31 (oQ [2,3,0] [oF 33 3 3,oO 34 33,oc1 35 zAB 34,oM 4 35] (.seq (.seq (.reg [2,3,0,4] true [oM 36 4,oM 37
 36,oWf 38 37 true 2 3,oWo 39 37 true 38,oV 40 37 true 0,oW 41 37 true .nilchk 40,oWf 42 37 true 0 41,oWo 43 37 true 42,oW 44 37 true (.len true) 43,oXG 45 37
 true .lss 39 44,oI 46 .pick [.tmp 37,.tmp 45,oB false],oM 47 46,oV 48 47 true 0,oW
49 47 true .nilchk 48,oWf 50 47 true 0 49,oWo 51 47 true 50,oWf 52 47 true 2 3,oWo 53 47 true 52,oY 54 47 true .idxStr 51 53,og8 55 47 true .eql 54 40,oI 56
 .pick [.tmp 47,.tmp 55,oB false]]) (oC 56 (oQ [2,3,0] [oM 57 0,oF 58 1 3,oO 59 58,ox2 60 ze 57 59,oM 5 60] (.seq (oQ [2,3,0,5] [oM 61 5,oUn 62
 61] (oC 62 (oQ [2] [⟨some 63,none,.build oZ [],[]⟩,oS 12 2 63] (.ret)) (.skip))) (oQ
[2,3,0] [oM 64 0,oF 65 3 3,oO 66 65,ox2 67 zCk 64 66,oS 12 2 67] (.ret)))) (.skip))) (oQ [2,3,0] [oF 69 3 3,oO 70 69,oI 71 (.call zq
 true) [.tmp 70,oB false],oM 68 71,oe 72 0 68,oe 73 1 68,oM 6 72,oM 7 73] (.seq (oQ [2,6,3,0,7] [oM 74 7] (oC 74 (oQ [2,6] [oM 75 6,⟨some 76,none,.build oZ
 [(0,1),(1,1)],[oK 1,.tmp 75]⟩,oS 12 2 76] (.ret)) (.skip))) (.seq (oQ [2,3,0] [oF 77 3
3,oO 78 77,oI 79 (.bin .eql) [.tmp 78,.const (.str [84,82,85,69])]] (oC 79 (oQ [2] [⟨some 80,none,.build oZ [(0,1),(1,1)],[oK 3,oK 1]⟩,oS 12 2 80] (.ret))
 (.skip))) (.seq (oQ [2,3,0] [oF 81 3 3,oO 82 81,oI 83 (.bin .eql) [.tmp 82,.const (.str [70,65,76,83,69])]] (oC 83 (oQ [2] [⟨some 84,none,.build oZ [(0,1)],[oK
 3]⟩,oS 12 2 84] (.ret)) (.skip))) (oQ [2,3,0] [oF 86 3 3,oO 87 86,oc1 88 zm
87,oM 85 88,oe 89 0 85,oe 90 1 85,oA 8 zV2,oS 4 8 89,oM 7 90] (oQ [2,8,3,0,7] [oM 91 7] (oC 91 (oQ [2,8] [oL 92 4
 true 8,⟨some 93,none,.build oZ [(0,1),(3,4)],[oK 5,.tmp 92]⟩,oS 12 2 93] (.ret)) (.skip)))))))))) (oQ [2,3,0,30] [oE 95 .eql 30 2,oM 94 95] (oC 94 (oQ [2,3] [oF
 96 3 3,oO 97 96,⟨some 98,none,.build oZ [(0,1),(2,1)],[oK 2,.tmp 97]⟩,oS 12 2
98] (.ret)) (oQ [2,3,0,30] [oE 100 .eql 30 3,oM 99 100] (oC 99 (oQ [2,3] [oF 102 3 3,oO 103 102,oc1 104 zCl 103,oM 101 104,oe 105 0 101,oe 106 1
 101,oA 9 zV3,oS 3 9 105,oM 10 106] (oQ [2,9] [oF 107 1 9,oO 108 107,⟨some 109,none,.build oZ [(0,1),(1,1)],[oK 4,.tmp 108]⟩,oS 12 2
 109] (.ret))) (.seq (.reg [2,0,3,30] false [oE 111 .eql 30 4,oM 110 111]) (oC 110
(.seq (oQ [2,0,3] [oF 112 3 3,oO 113 112,oI 114 (.bin .eql) [.tmp 113,.const (.str [45])]] (oC 114 (oQ [2,0,3] [oM 115 0,oF 116 1 3,oO 117 116,ox2 118
 ze 115 117,oM 11 118] (.seq (oQ [2,0,11] [oM 119 11,oUn 120 119] (oC 120 (.seq (.reg [2] false [⟨some 121,none,.build oZ [],[]⟩,oS 12 2 121])
 (.ret)) (.skip))) (oQ [2,0] [oM 122 0,ox1 123 zAP 122,oA 12 oZ,oS 12 12 123]
(oQ [2,12,0] [oM 124 0,oN 125 124,oF 126 4 125,oO 127 126,oE 128 .sub 127 1,oN 129 124,oF 130 4 129,oS 1 130 128] (oQ [2,12] [oL 131 12 true 12,oT 132 (.bslice
 12) 131,⟨some 133,none,.build oZ [(0,1),(11,1)],[oK 7,.tmp 132]⟩,oS 12 2 133] (.ret)))))) (.skip))) (oQ [2,0,3] [oF 134 3 3,oO 135 134,oI 136 (.bin .eql) [.tmp
 135,.const (.str [40])]] (oC 136 (oQ [2,0,3] [oM 137 0,oF 138 1 3,oO 139 138,ox2
140 ze 137 139,oM 13 140] (.seq (oQ [2,0,13] [oM 141 13,oUn 142 141] (oC 142 (oQ [2] [⟨some 143,none,.build oZ [],[]⟩,oS 12 2 143] (.ret))
 (.skip))) (oQ [2,0] [oM 144 0,oI 145 (.call zX false) [.tmp 144,oK 1],⟨some 14,none,.alloc oZ,[]⟩,oS 12 14 145] (oQ [2,14,0] [oM 146 0,ox1 147
 zb 146] (oQ [2,14] [oL 148 12 true 14,oS 12 2 148] (.ret))))))
(.skip)))) (.skip))))))))))) (oQ [2,3,0] [oM 149 0,oF 150 1 3,oO 151 150,oI 152 (.call zc false) [.tmp 149,.tmp 151,oK 2]] (oQ [2] [⟨some
 153,none,.build oZ [],[]⟩,oS 12 2 153] (.ret))))))
def zQ:AF:=oAF [.cell 2 12 true] zJB
def zOP:AC:=.seq (oQ [4,0,3] [oM 6 4,oM 7 3,zEN 8 7,oX 9 .lss 6 8] (oC 9 (.skip) (.exit 0))) (.seq (.block 1 [0,3,4] (oQ [4,0,3] [oM 12 3,oM 13
 4,oXI 14 1 12 13,oO 15 14,oM 16 0,oX 17 .eql 15 16] (oC 17 (oQ [4] [oM 18 4,oM 2 18] (.ret)) (.skip)))) (oR [0,3,4] [oM 10 4,oE 11 .add 10 1,oM 4 11]))
def zQz:AC:=oQ [0] [oi 2 (oK 0)] (oQ [0] [oI 5 (.bslice 1) [oNs,.const (.str [61]),.const (.str [60,62]),.const (.str [60]),.const (.str
 [60,61]),.const (.str [62]),.const (.str [62,61]),.const (.str [38]),.const (.str [43]),.const (.str [45]),.const (.str [42]),.const (.str [47])],oM 3 5] (.seq
 (oQ [0,3] [oi 4 (oK 1)] (.block 0 [] (.loop [4,0,3] zOP))) zji))
def zHS:AF:=oAF [.tmp 2] zQz
def zPo:AC:=oQ [0] [oi 2 (oK 0)] (.seq (oQ [0] [oM 3 0,oE 4 .leq 3 6] (oC 4 zC28 (.skip))) (.seq (oQ [0] [oM 5 0,oE 6 .eql 5 7] (oC 6 zC27
 (.skip))) (.seq (oQ [0] [oM 7 0,oE 8 .leq 7 9] (oC 8 (.seq (.reg [] false [oi 2 (oK 3)]) (.ret)) (.skip))) zC26)))
def zGR:AF:=oAF [.tmp 2] zPo
def zOQ:AC:=oQ [0] [oi 2 (oB false)] (oQ [0] [oM 3 0,oe8 4 .eql 3 36,oM 5 4,oV 6 5 false 0,og8 7 5 false .geq 6 48,oV 8 5 false 7,oV 9 8 true
 0,og8 10 8 true .leq 9 57,oG 11 5 false .pick [.tmp 8,.tmp 10,oB false],oP 12 5 true 11,oM 13 12,oV 14 13 false 0,og8 15 13 false .geq 14 65,oV 16 13 false 15,oV
 17 16 true 0,og8 18 16 true .leq 17 90,oG 19 13 false .pick [.tmp 16,.tmp 18,oB
false],oP 20 13 true 19,oM 21 20,oV 22 21 false 0,og8 23 21 false .geq 22 97,oV 24 21 false 23,oV 25 24 true 0,og8 26 24 true .leq 25 122,oG 27 21 false .pick
 [.tmp 24,.tmp 26,oB false],oP 28 21 true 27,oM 2 28] (.ret))
def zET:AF:=oAF [.tmp 2] zOQ
def zOR:AC:=oQ [] [oi 0 oNl] (oQ [] [oI 1 (.bslice 1) [oNs,.const (.str [35,68,73,86,33]),.const (.str [35,86,65,76,85,69,33]),.const (.str
 [35,82,69,70,33]),.const (.str [35,78,65,77,69,33]),.const (.str [35,78,85,77,33]),.const (.str [35,78,79,78,69,33])],oM 0 1] (.ret))
def zFq:AF:=oAF [.tmp 0] zOR
def zLK:AC:=.seq (oQ [9,3,10,2,11] [oM 13 11,oM 14 2,oX 15 .leq 13 14] zjQ) (.seq (.block 1 [9,3,10,2,11] (.seq (oQ [9,3,10,2,11] [oM 18
 11,oF 19 2 3,oO 20 19,oX 21 .geq 18 20,oM 22 21,oV 23 22 true 11,oWf 24 22 true 2 3,oWo 25 22 true 24,oWf 26 22 true 3 3,oWo 27 22 true 26,oXG 28 22 true .add 25
 27,oXG 29 22 true .lss 23 28,oI 30 .pick [.tmp 22,.tmp 29,oB false]] (oC 30
(.exit 1) (.skip))) (.seq (oQ [3,2,11,9] [oM 31 9,oE 32 .eql 31 0] (oC 32 (oR [3,2,11] [oM 33 11,oM 9 33]) (.skip))) (oR [9,3,2,11] [oM 34 11,oM 10 34])))) (oR
 [9,3,10,2,11] [oM 16 11,oE 17 .add 16 1,oM 11 17]))
def zNK:AC:=oQ [2,1,0] [oT 3 .box 0,oi 6 (oK 0),oi 7 (oK 0),oi 8 (oB false)] (oQ [3,2,1] [oi 9 (oK 0)] (oQ [9,3,2,1] [oi 10 (oK 0)] (.seq (oQ
 [9,3,10,2,1] [oM 12 1,oM 11 12] (.block 0 [9,10] (.loop [11,9,3,10,2] zLK))) (oQ [9,10] [oM 35 9,oM 36 10,oM 37 9,oE 38 .gtr 37 0,oM 6 35,oM 7
 36,oM 8 38] (.ret)))))
def zHx:AF:=oAF [.tmp 6,.tmp 7,.tmp 8] zNK
def zMD:AC:=.seq (oQ [0,3] [oM 12 3,oM 13 0,oT 14 (.len true) 13,oX 15 .lss 12 14] zjQ) (.seq (.block 1 [0,3] (oQ [0,3] [oM 18 0,oM 19 3,oXs
 20 18 19,oe8 21 .lss 20 65,oM 22 21,oV 23 22 false 0,oV 24 22 false 3,oY 25 22 false .idxStr 23 24,og8 26 22 false .gtr 25 90,oP 27 22 true 26] (oC 27 (oQ [] [oi
 2 (oB false)] (.ret)) (.skip)))) (oR [0,3] [oM 16 3,oE 17 .add 16 1,oM 3 17]))
def zOS:AC:=oQ [0] [oi 2 (oB false)] (.seq (oQ [0] [oM 4 0,oT 5 (.len true) 4,oE 6 .lss 5 2,oM 7 6,oV 8 7 false 0,oW 9 7 false (.len true) 8,oEG
 10 7 false .gtr 9 10,oP 11 7 true 10] (oC 11 (oQ [] [oi 2 (oB false)] (.ret)) (.skip))) (.seq (oQ [0] [oi 3 (oK 0)] (.block 0 [] (.loop [3,0]
 zMD))) (oQ [] [oi 2 (oB true)] (.ret))))
def zFr:AF:=oAF [.tmp 2] zOS
def zOT:AC:=oQ [0] [oi 2 oNs] (oQ [0] [oM 3 0,ox1 4 zAV 3,oc1 5 zCC 4,oM 2 5] (.ret))
def zJC:AF:=oAF [.tmp 2] zOT
abbrev zC34:AC:=(oQ [] [oI 2 .mv [.const (.str [84,82,85,69])]] (.ret))
abbrev zC32:AC:=(oQ [] [oI 2 .mv [.const (.str [70,65,76,83,69])]] (.ret))
def zQ0:AC:=oQ [0] [oT 1 .box 0,oi 2 oNs] (.seq (oQ [1] [oF 4 0 1,oO 5 4] (.block 0 [] (oQ [1,5] [oE 7 .eql 5 1,oM 6 7] (oC 6 (oQ [1] [oF 8 1 1,oO
 9 8,oc1 10 zDL 9,oM 2 10] (.ret)) (oQ [1,5] [oE 12 .eql 5 2,oM 11 12] (oC 11 (oQ [1] [oF 13 2 1,oO 14 13,oM 2 14] (.ret)) (oQ [1,5] [oE 16 .eql 5
 3,oM 15 16] (oC 15 (.seq (.seq (.reg [1] false [oF 17 1 1,oO 18 17,oE 19 .eql 18
1]) (oC 19 zC34 (.skip))) zC32) (oQ [1,5] [oE 21 .eql 5 4,oM 20 21] (oC 20 (oQ [1] [oI 22 (.call zA3 true) [],oM 3 22] (oQ [1,3] [oM 23 3,oF 24 1
 1,oO 25 24,oXI 26 1 23 25,oO 27 26,oM 2 27] (.ret))) (.skip))))))))))) (oQ [] [oi 2 oNs] (.ret)))
def zHT:AF:=oAF [.tmp 2] zQ0
def zSX:AC:=oQ [0] [oA 2 zV3] (.seq (oQ [2,0] [oM 3 0] (oC 3 (oQ [2] [⟨some 4,none,.build [.int .i64 0,.int .i64
 0,.str []] [(0,1),(1,1)],[oK 3,oK 1]⟩,oS 3 2 4] (.ret)) (.skip))) (oQ [2] [⟨some 5,none,.build zV3 [(0,1)],[oK 3]⟩,oS 3 2 5]
 (.ret)))
def zME:AF:=oAF [.cell 2 3 true] zSX
abbrev zC15:AC:=(oQ [2,0] [oM 3 0,⟨some 4,none,.build zV3 [(0,1),(1,1)],[oK 4,.tmp 3]⟩,oS 3 2 4] (.ret))
def zSY:AC:=oQ [0] [oA 2 zV3] zC15
def zIc:AF:=oAF [.cell 2 3 true] zSY
def zNL:AC:=oQ [0] [oT 1 .box 0,oi 2 oNs] (oQ [1] [oi 3 oNs] (.seq (oQ [1,3] [oF 5 2 1,oO 6 5] (oC 6 (oR [1] [oI 3 .mv [.const (.str [36])]])
 (.skip))) (oQ [1,3] [oM 7 3,oF 8 0 1,oF 9 0 8,oO 10 9,oI 11 (.bin .add) [oK 64,.tmp 10],oT 12 (.convInt .u8) 11,oT 13 (.bslice 1) 12,oT 14 .bytesToStr 13,oX 15
 .add 7 14,oM 3 15] (.seq (oQ [1,3] [oF 16 3 1,oO 17 16] (oC 17 (oR [1,3] [oM 18
3,oI 19 (.bin .add) [.tmp 18,.const (.str [36])],oM 3 19]) (.skip))) (oQ [3,1] [oF 20 0 1,oF 21 1 20,oO 22 21,oc1 23 zDL 22,oM 4 23] (oQ [4,3] [oM
 24 3,oM 25 4,oX 26 .add 24 25,oM 2 26] (.ret)))))))
def zCo:AF:=oAF [.tmp 2] zNL
def zUH:AC:=oQ [0,1] [oi 4 oNs] (.seq (oQ [0,1] [oM 5 1] (oC 5 (.seq (.reg [0] false [oM 6 0,oI 7 (.bin .add) [.const (.str [40]),.tmp 6],oI 8 (.bin
 .add) [.tmp 7,.const (.str [41])],oM 4 8]) (.ret)) (.skip))) (oQ [0] [oM 9 0,oM 4 9] (.ret)))
def zN4:AF:=oAF [.tmp 4] zUH
def zPp:AC:=oQ [0] [oT 1 .box 0,oi 2 (oK 0)] (.seq (oQ [1] [oF 3 0 1,oO 4 3,oE 5 .eql 4 8] (oC 5 (oQ [1] [oF 6 1 1,oO 7 6,oc1 8 zAl
 7,oM 2 8] (.ret)) (.skip))) (oQ [] [oi 2 (oK 9)] (.ret)))
def zJt:AF:=oAF [.tmp 2] zPp
def zMF:AC:=oQ [0] [oi 2 oNs] (oQ [0] [oI 4 (.bslice 1) [oNs,.const (.str [61]),.const (.str [60,62]),.const (.str [60]),.const (.str
 [60,61]),.const (.str [62]),.const (.str [62,61]),.const (.str [38]),.const (.str [43]),.const (.str [45]),.const (.str [42]),.const (.str [47])],oM 3 4] (oQ
 [0,3] [oM 5 3,oM 6 0,oXI 7 1 5 6,oO 8 7,oM 2 8] (.ret)))
def zG2:AF:=oAF [.tmp 2] zMF
def zPq:AC:=oQ [3,6,7,8] [oX 9 .lss 8 7] (.seq (oC 9 (.skip) (.exit 0)) (.seq (.block 1 [3,6,7,8] (oQ [3,6,7,8] [oXI 10 1 6 8,oO 11 10,oM 5 11]
 (oQ [5,3,6,7,8] [oM 12 5,oM 13 3,oX 14 .neq 12 13] (oC 14 (oQ [5] [oM 15 5,oM 2 15] (.ret)) (.skip))))) (oR [3,6,7,8] [oE 16 .add 8 1,oM 8 16])))
def zSZ:AC:=oQ [0] [oi 2 (oK 0)] (oQ [0] [oi 3 (oK 0)] (.seq (oQ [3,0] [oM 6 0,zEN 7 6,oi 8 (oK 0)] (.block 0 [3] (.loop [8,3,6,7]
 zPq))) (oQ [3] [oM 17 3,oM 2 17] (.ret))))
def zMG:AF:=oAF [.tmp 2] zSZ
abbrev zC21:AC:=(oQ [] [oI 4 .mv [oK (-1)]] (.ret))
def zMH:AC:=oQ [1,0] [oi 4 (oK 0)] (oQ [1,0] [oM 7 0,oc1 8 zDM 7,oM 5 8] (oQ [1,0,5] [oM 9 1,oc1 10 zDM 9,oM 6 10]
 (.seq (oQ [6,1,0,5] [oM 11 5] (oC 11 (.seq (oQ [6] [oM 12 6] (oC 12 (oQ [] [oi 4 (oK 0)] (.ret)) (.skip))) zC21) (.skip))) (.seq (oQ [1,0,6] [oM 13 6] (oC 13
 zjk (.skip))) (.seq (oQ [1,0] [oM 14 0,oM 15 1,oX 16 .lss 14 15] (oC 16 zC21
(.skip))) (.seq (oQ [1,0] [oM 17 0,oM 18 1,oX 19 .gtr 17 18] (oC 19 zjk (.skip))) (.seq (.reg [] false [oi 4 (oK 0)]) (.ret))))))))
def zG3:AF:=oAF [.tmp 4] zMH
def zLL:AC:=oQ [1,0] [oi 4 (oB false)] (oQ [1,0] [oM 5 0,oM 6 1,oc2 7 zAZ 5 6,oM 4 7] (.ret))
def zEb:AF:=oAF [.tmp 4] zLL
abbrev zhI:OT:=(.step 6 (.step 7 (.done)))
abbrev zC31:OT:=(.alt (.step 4 zhI) (.step 6 (.step 4 (.step 7 (.done)))))
def zG4:AC:=oQ [2,1,0] [oI 6 .stuck [],oM 3 6] (oQ [2,1,0,3] [oM 7 3,oI 8 (.eqn .iface true true) [.tmp 7,oNi]] (oC 8 (oQ [2,1,0,3] [oM 10
 3,oT 11 (.tyAs zEt) 10,oM 9 11,oe 12 0 9,oe 13 1 9,oA 4 [.int .i64 0,.nili],oS 2 4 12,oM 5 13] (.seq (oQ [2,1,0,4,3,5] [oM 14 5,oUn 15 14] (.cond
 (.tmp 15) (.regt [2,1,0,4,3] false [oM 16 3,oJ .panic [.tmp 16]] (.step 0 (.step 1
(.done)))) (.skip))) (.regt [2,1,0,4] true [⟨some 17,none,.build oZ [],[]⟩,oF 18 0 4,oO 19 18,oF 20 1 4,oO 21 20,oS 12 0 17,oS 1 1 19,oS 1 2 21] (.step 0 (.step
 1 (.step 3 (.alt (.step 2 (.alt (.step 4 (.step 5 zhI)) (.step 5 zC31))) (.alt (.step 4 (.alt (.step 2 (.step 5 zhI)) (.step 5 (.step 2 zhI)))) (.step 5
 (.step 2 zC31)))))))))) (.skip)))
def zEz:AF:=oAF [] zG4
abbrev zC6:OT:=(.step 0 (.step 1 (.step 2 (.step 3 (.step 4 (.done))))))
def zJJ:AC:=.regt [2,1] false [oM 6 1,oM 7 2,⟨some 8,none,.build [.int .i64 0,.nili] [(0,1),(1,1)],[.tmp 6,.tmp 7]⟩,oT 9 (.mkIface
 zEt) 8,oJ .panic [.tmp 9]] zC6
def zDR:AF:=oAF [] zJJ
abbrev zgg:List Nat:=[5,1,0,4,20,21,22]
abbrev zC7:AC:=(.reg [5,1,0,4,7,20,21,22] true [oM 26 0,oN 27 26,oF 28 0 27,oO 29 28,oM 30 0,oN 31 30,oF 32 1 31,oO 33 32,oD 34 (.slc none true false) 29
 33,oM 35 7,oc2 36 zA7 34 35])
abbrev zC8:OT:=(.step 0 (.step 1 (.step 3 (.step 4 (.step 5 (.alt (.step 2 (.step 6 (.step 7 (.step 8 (.step 9 (.done)))))) (.step 6 (.step 2 (.step 7 (.step
 8 (.step 9 (.done))))))))))))
abbrev zC12:AC:=(.seq (.regt [5,1,0,4,7] true [oM 46 7,oc1 47 zED 46,oL 48 12 true 5,oM 49 0,oM 50 1,oE 51 .add 50 1,oD 52 (.callp
 zj) 49 51,oD 53 (.bslice 12) 48 52,⟨some 54,none,.build oZ [(0,1),(1,1),(11,1)],[oK 8,.tmp 47,.tmp 53]⟩,oS 12 5 54] zC8) (.goto 0))
abbrev zC22:AC:=(.seq zC7 (oC 36 (oQ [5,1,0,4,7] [oM 37 0,oN 38 37,oF 39 1 38,oO 40 39,oM 41 7,oT 42 (.len true) 41,oX 43 .add 40 42,oN 44 37,oF 45 1 44,oS 1
 45 43] zC12) (.skip)))
def zFe:AC:=oQ [0,1] [oA 4 oZ] (.scope [5,1,0,4] 0 (.seq (oQ [4,0,1] [oM 8 1,oE 9 .eql 8 4] (oC 9 (.seq (.regt [4,0] false [oM 10 0,oT 11
 (.callp zAW) 10,oS 12 4 11] zC9) (.ret)) (.skip))) (.seq (.regt [1,0,4] false [oM 12 0,oM 13 1,oE 14 .add 13 1,oD 15 (.callp
 zj) 12 14,oA 5 oZ,oS 12 5 15] (.step 0 (.step 1 (.step 2 (.step 3 (.step 4
(.step 5 (.done)))))))) (.seq (.label) (oQ [5,1,0,4] [oM 16 0,ox1 17 zW 16] (.seq (oQ [5,1,0,4] [oM 18 1,oI 19 (.idxArr 1 4) [.glob
 zEu,.tmp 18],oO 20 19,zEN 21 20,oi 22 (oK 0)] (.block 0 [4,5] (.loop [5,1,0,4,22,20,21] (.seq (.reg zgg false [oX 23 .lss 22 21]) (.seq zC30 (.seq
 (.block 1 zgg (.seq (.reg zgg false [oXI 24 1 20 22,oO 25 24,oM 7 25]) zC22)) (oR
zgg [oE 55 .add 22 1,oM 22 55]))))))) (oQ [4,5] [oL 56 12 true 5,oS 12 4 56] (.ret))))))) (.seq (.skip) (oQ [5,1,0,4] [oM 16 0,ox1 17 zW
 16] (.seq (oQ [5,1,0,4] [oM 18 1,oI 19 (.idxArr 1 4) [.glob zEu,.tmp 18],oO 20 19,zEN 21 20,oi 22 (oK 0)] (.block 0 [4,5] (.loop [5,1,0,4,22,20,21]
 (oQ zgg [oX 23 .lss 22 21] (.seq zC30 (.seq (.block 1 zgg (oQ zgg [oXI 24 1
20 22,oO 25 24,oM 7 25] zC22)) (oR zgg [oE 55 .add 22 1,oM 22 55]))))))) (.seq (.reg [4,5] false [oL 56 12 true 5,oS 12 4 56]) (.ret))))))
def zCO:AF:=oAF [.cell 4 12 true] zFe
def zGl:AC:=.seq (.seq (.reg [0] true [oM 2 0,oN 3 2,oF 4 1 3,oO 5 4,oM 6 0,oN 7 6,oF 8 0 7,oO 9 8,oT 10 (.len true) 9,oX 11 .lss 5
 10,oM 12 11,oV 13 12 true 0,oW 14 12 true .nilchk 13,oWf 15 12 true 0 14,oWo 16 12 true 15,oV 17 12 true 0,oW 18 12 true .nilchk 17,oWf 19 12 true 1 18,oWo 20 12
 true 19,oY 21 12 true .idxStr 16 20,og8 22 12 true .eql 21 32,oI 23 .pick [.tmp
12,.tmp 22,oB false]]) zC30) (.block 1 [0] (oR [0] [oM 24 0,oN 25 24,oF 26 1 25,oO 27 26,oE 28 .add 27 1,oN 29 24,oF 30 1 29,oS 1 30 28]))
def zHy:AC:=.block 0 [] (.loop [0] zGl)
def zCp:AF:=oAF [] zHy
def zBQ:AC:=oQ [2,1,15,16,17] [oX 18 .lss 17 16] (.seq (.cond (.tmp 18) (.skip) (.exit 0)) (.seq
 (.block 1 [2,1,15,16,17] (oQ [2,1,15,16,17] [oM 19 17,oXI 20 12 15 17,oL 21 12 true 20,oA 8 oZ,oM 7 19,oS 12 8 21] (oQ [2,1,15,16,17,8,7] [oM 22 1,oM 23 7,oXI 24
 12 22 23,oL 25 12 true 24,oA 9 oZ,oS 12 9 25] (oQ [2,1,15,16,17,9,8] [oM 26 2,oL
27 12 true 8,oL 28 12 true 9,oI 29 (.callv true) [.tmp 26,.tmp 27,.tmp 28],oUn 30 29] (oC 30 (oQ [] [oi 6 (oB false)] (.ret)) (.skip)))))) (oR [2,1,15,16,17] [oE
 31 .add 17 1,oM 17 31])))
def zBW:AC:=oQ [2,1,0] [oi 6 (oB false)] (.seq (oQ [2,1,0] [oM 10 0,zEN 11 10,oM 12 1,zEN 13 12,oX
 14 .neq 11 13] (oC 14 (oQ [] [oi 6 (oB false)] (.ret)) (.skip))) (.seq (oQ [2,1,0] [oM 15 0,zEN 16 15,oi 17 (oK 0)] (.block 0 [] (.loop [17,2,1,15,16]
 zBQ))) (oQ [] [oi 6 (oB true)]
(.ret))))
def zAT:AF:=oAF [.tmp 6] zBW
def zNM:AC:=oQ [1,17,18,19] [oX 20 .lss 19 18] (.seq (oC 20 (.skip) (.exit 0)) (.seq (.block 1 [1,17,18,19] (oQ [1,17,18,19] [oXI 21 12 17
 19,oL 22 12 true 21,oA 6 oZ,oS 12 6 22] (oQ [1,17,18,19,6] [oL 23 12 true 6,oM 24 1,ox2 25 zCi 23 24,oUn 26 25] (oC 26 zC4 (.skip))))) (oR
 [1,17,18,19] [oE 27 .add 19 1,oM 19 27])))
def zPr:AC:=oQ [1,0] [oT 2 .box 0,oi 4 (oB false)] (.seq (oQ [1,2] [oM 7 1,oN 8 7,oO 9 8,oE 10 .sub 9 1,oN 11 7,oS 1 11 10] (oQ [1,2] [oM 12 1,oN
 13 12,oO 14 13,oE 15 .lss 14 0] (.cond (.tmp 15) zC4 (.skip)))) (.seq (oQ [1,2] [oF 16 11 2,oO 17 16,zEN 18 17,oi 19 (oK 0)] (.block 0 [] (.loop [19,1,17,18]
 zNM))) zjP))
def zGS:AF:=oAF [.tmp 4] zPr
def zOU:AC:=oQ [196,197,198] [oX 199 .lss 198 197] (.seq (oC 199 (.skip) (.exit 1)) (.seq (.block 2 [196,197,198] (oQ [196,197,198] [oXI 200 12
 196 198,oL 201 12 true 200,oA 8 oZ,oS 12 8 201] (.seq (.reg [196,197,198,8] false [oL 202 12 true 8,oI 203 (.call zAp true) [.tmp 202,oB true],oUn 204
 203]) (oC 204 (.seq (.reg [] false [oi 4 (oB false)]) (.ret)) (.skip))))) (oR
[196,197,198] [oE 205 .add 198 1,oM 198 205])))
def zQ1:AC:=oQ [1,0] [oT 2 .box 0,oi 4 (oB false)] (oQ [2,1] [oT 9 (.mkFn zAf 0) 2,oM 5 9] (oQ [2,5,1] [oF 10 3 2,oL 11 4 true
 10,⟨some 12,none,.build zV2 [],[]⟩,⟨some 13,none,.eqs false [.int .i64,.int .i64,.bool,.bool],[.tmp 11,.tmp 12]⟩,oM
 14 13,oWf 15 14 true 7 2,oW 16 14 true (.load 4 true) 15,⟨some 17,some
(14,true),.build zV2 [],[]⟩,⟨some 18,some (14,true),.eqs false [.int .i64,.int .i64,.bool,.bool],[.tmp 16,.tmp
 17]⟩,oI 19 .pick [.tmp 14,.tmp 18,oB false],oM 6 19] (.seq (oQ [2,6,5,1] [oF 20 0 2,oO 21 20] (.block 0 [] (oQ [2,6,5,1,21] [oE 23 .eql 21 1,oM 22 23] (oC 22 (oQ
 [2,6,5] [oM 24 5,oI 25 (.callv true) [.tmp 24,oK 0],oM 26 25,oV 27 26 true 6,oI 28
.pick [.tmp 26,.tmp 27,oB false],oM 29 28,oWf 30 29 true 1 2,oWo 31 29 true 30,oEG 32 29 true .geq 31 0,oI 33 .pick [.tmp 29,.tmp 32,oB false],oM 4 33] (.ret))
 (.seq (.reg [2,6,5,1,21] false [oE 35 .eql 21 2,oM 34 35]) (oC 34 (oQ [2,6] [oF 36 11 2,oO 37 36,zEN 38 37,oE 39 .eql 38 0,oM 40 39,oV 41 40 true 6,oI 42 .pick
 [.tmp 40,.tmp 41,oB false],oM 43 42,oWf 44 43 true 1 2,oWo 45 43 true 44,oEG 46
43 true .eql 45 0,oI 47 .pick [.tmp 43,.tmp 46,oB false],oM 4 47] (.ret)) (oQ [2,6,5,1,21] [oE 49 .eql 21 3,oM 48 49] (oC 48 (oQ [2,6,5] [oM 50 5,oI 51 (.callv
 true) [.tmp 50,oK 0],oM 52 51,oV 53 52 true 6,oI 54 .pick [.tmp 52,.tmp 53,oB false],oM 55 54,oWf 56 55 true 1 2,oWo 57 55 true 56,oEG 58 55 true .eql 57 0,oV 59
 55 true 58,oWf 60 59 false 1 2,oWo 61 59 false 60,oEG 62 59 false .eql 61 1,oG
63 55 true .pick [.tmp 59,oB true,.tmp 62],oI 64 .pick [.tmp 55,.tmp 63,oB false],oM 4 64] (.ret)) (oQ [2,6,5,1,21] [oE 66 .eql 21 4,oM 65 66] (oC 65 (oQ [2,6,5]
 [oM 67 5,oI 68 (.callv true) [.tmp 67,oK 0],oM 69 68,oV 70 69 true 6,oI 71 .pick [.tmp 69,.tmp 70,oB false],oM 72 71,oWf 73 72 true 1 2,oWo 74 72 true 73,oEG 75
 72 true .geq 74 1,oI 76 .pick [.tmp 72,.tmp 75,oB false],oM 77 76,oWf 78 77
true 1 2,oWo 79 77 true 78,oEG 80 77 true .leq 79 6,oI 81 .pick [.tmp 77,.tmp 80,oB false],oM 4 81] (.ret)) (oQ [2,5,1,6,21] [oE 83 .eql 21 5,oM 82 83] (oC 82
 (oQ [2,5] [oM 84 5,oI 85 (.callv true) [.tmp 84,oK 0],oM 86 85,oWf 87 86 true 1 2,oWo 88 86 true 87,oEG 89 86 true .eql 88 0,oI 90 .pick [.tmp 86,.tmp 89,oB
 false],oM 91 90,oWf 92 91 true 7 2,oW 93 91 true (.load 4 true) 92,⟨some 94,some
(91,true),.build zV2 [],[]⟩,⟨some 95,some (91,true),.eqs false [.int .i64,.int .i64,.bool,.bool],[.tmp 93,.tmp
 94]⟩,oI 96 .pick [.tmp 91,.tmp 95,oB false],oM 97 96,oWf 98 97 true 3 2,oWf 99 97 true 0 98,oW 100 97 true (.load 2 true) 99,oW 101 97 true (.call zBd
 true) 100,oG 102 97 true (.eqn .iface false true) [.tmp 101,oNi],oI 103 .pick [.tmp
97,.tmp 102,oB false],oM 4 103] (.ret)) (oQ [2,5,1,6,21] [oE 105 .eql 21 6,oM 104 105] (oC 104 (.seq (.reg [2,5,1] false [oM 106 1,oM 107 106,oV 108 107 true
 5,oG 109 107 true (.callv true) [.tmp 108,oK 0],oI 110 .pick [.tmp 107,.tmp 109,oB false],oM 111 110,oWf 112 111 true 1 2,oWo 113 111 true 112,oEG 114 111 true
 .eql 113 0,oI 115 .pick [.tmp 111,.tmp 114,oB false],oM 116 115,oWf 117 116 true 3
2,oWf 118 116 true 0 117,oW 119 116 true (.load 2 true) 118,oW 120 116 true (.call zBd true) 119,oG 121 116 true (.eqn .iface false true) [.tmp
 120,oNi],oI 122 .pick [.tmp 116,.tmp 121,oB false],oM 123 122,oWf 124 123 true 7 2,oWf 125 123 true 0 124,oW 126 123 true (.load 2 true) 125,oW 127 123 true
 (.call zBd true) 126,oG 128 123 true (.eqn .iface false true) [.tmp 127,oNi],oI
129 .pick [.tmp 123,.tmp 128,oB false],oM 4 129]) (.ret)) (oQ [2,6,5,21] [oE 131 .eql 21 7,oM 130 131] (oC 130 (oQ [2,6,5] [oM 132 5,oI 133 (.callv true) [.tmp
 132,oK 1],oM 134 133,oV 135 134 true 6,oI 136 .pick [.tmp 134,.tmp 135,oB false],oM 137 136,oWf 138 137 true 1 2,oWo 139 137 true 138,oEG 140 137 true .eql 139
 0,oI 141 .pick [.tmp 137,.tmp 140,oB false],oM 142 141,oWf 143 142 true 11 2,oWo
144 142 true 143,oG 145 142 true (.idxAddr 12) [.tmp 144,oK 0],oW 146 142 true (.load 12 true) 145,oG 147 142 true (.call zAp true) [.tmp 146,oB
 false],oI 148 .pick [.tmp 142,.tmp 147,oB false],oM 4 148] (.ret)) (oQ [2,6,5,21] [oE 150 .eql 21 8,oM 149 150] (oC 149 (oQ [2,6,5] [oM 151 5,oI 152 (.callv
 true) [.tmp 151,oK 2],oM 153 152,oV 154 153 true 6,oI 155 .pick [.tmp 153,.tmp 154,oB
false],oM 156 155,oWf 157 156 true 1 2,oWo 158 156 true 157,oEG 159 156 true .geq 158 1,oI 160 .pick [.tmp 156,.tmp 159,oB false],oM 161 160,oWf 162 161 true 1
 2,oWo 163 161 true 162,oEG 164 161 true .leq 163 11,oI 165 .pick [.tmp 161,.tmp 164,oB false],oM 166 165,oWf 167 166 true 11 2,oWo 168 166 true 167,oG 169 166
 true (.idxAddr 12) [.tmp 168,oK 0],oW 170 166 true (.load 12 true) 169,oG 171 166
true (.call zAp true) [.tmp 170,oB false],oI 172 .pick [.tmp 166,.tmp 171,oB false],oM 173 172,oWf 174 173 true 11 2,oWo 175 173 true 174,oG 176 173
 true (.idxAddr 12) [.tmp 175,oK 1],oW 177 173 true (.load 12 true) 176,oG 178 173 true (.call zAp true) [.tmp 177,oB false],oI 179 .pick [.tmp
 173,.tmp 178,oB false],oM 4 179] (.ret)) (oQ [2,6,21] [oE 181 .eql 21 9,oM 180 181] (oC
180 (.seq (oQ [2,6] [oF 182 2 2,oO 183 182,oc1 184 zA4 183,oUn 185 184,oM 186 185,oV 187 186 false 6,oW 188 186 false (.un .not) 187,oP 189 186 true
 188,oM 190 189,oWf 191 190 false 1 2,oWo 192 190 false 191,oEG 193 190 false .neq 192 0,oP 194 190 true 193] (oC 194 zC4 (.skip))) (.seq (oQ [2] [oF 195 11 2,oO
 196 195,zEN 197 196,oi 198 (oK 0)] (.block 1 [] (.loop [198,196,197]
zOU))) zjP)) (.skip))))))))))))))))))))) zC4)))
def zAz:AF:=oAF [.tmp 4] zQ1
def zFf:AC:=oQ [1,0] [oi 4 oNi] (oQ [1,0] [oM 5 0,ox1 6 zAX 5] (oQ [1,0] [oM 7 0,oM 8 0,oN 9 8,oF 10 1
 9,oO 11 10,oM 12 1,oT 13 (.bslice 1) 12,oD 14 (.appT zD7 false) 11 13,oN 15 7,oF 16 1 15,oS 1 16 14] (oQ [] [oi 4 oNi] (.ret))))
def zCz:AF:=oAF [.tmp 4] zFf
def zNN:AC:=oQ [0,128,129,130] [oX 131 .lss 130 129] (.seq (oC 131 (.skip) (.exit 1)) (.seq (.block 2 [0,128,129,130] (oQ [0,128,129,130] [oM
 132 130,oXI 133 12 128 130,oL 134 12 true 133,oA 7 oZ,oM 6 132,oS 12 7 134] (.seq (oQ [0,128,129,130,7,6] [oM 135 6,oE 136 .gtr 135 0] (oC 136 (oR
 [0,128,129,130,7] [oM 137 0,oI 138 (.call zk false) [.tmp
137,.const (.int .u8 44)]]) (.skip))) (oR [0,128,129,130,7] [oM 139 0,oL 140 12 true 7,ox2 141 zCj 139 140])))) (oR [0,128,129,130] [oE 142 .add 130
 1,oM 130 142])))
def zPs:AC:=oQ [0,1] [oT 3 .box 1] (oQ [3,0] [oF 8 0 3,oO 9 8] (.block 0 [] (.seq (.reg [3,0,9] false [oE 11 .eql 9 1,oM 10 11]) (oC 10 (oR [3,0]
 [oM 12 0,oF 13 1 3,oO 14 13,oc1 15 zIY 14,oc1 16 zBp 15,ox2 17 za 12 16]) (oQ [3,0,9] [oE 19 .eql 9 2,oM 18 19]
 (oC 18 (oR [3,0] [oM 20 0,oF 21 2 3,oO 22 21,oI 23 (.call zBO
true) [.tmp 22,.const (.str [34]),.const (.str [34,34])],oI 24 (.bin .add) [.const (.str [34]),.tmp 23],oI 25 (.bin .add) [.tmp 24,.const (.str [34])],ox2 26
 za 20 25]) (oQ [3,0,9] [oE 28 .eql 9 3,oM 27 28] (oC 27 (oR [3,0] [oM 29 0,oF 30 1 3,oO 31 30,oE 32 .eql 31 1,oc1 33 zCm
 32,oc1 34 zBp 33,ox2 35 za 29 34]) (oQ [3,0,9]
[oE 37 .eql 9 4,oM 36 37] (oC 36 (oR [3,0] [oM 38 0,oF 39 1 3,oO 40 39,oc1 41 zCK 40,oc1 42 zBp 41,ox2 43 za 38
 42]) (.seq (oQ [0,3,9] [oE 45 .eql 9 5,oM 44 45] (oC 44 (.skip) (oR [0,3,9] [oE 46 .eql 9 6,oM 44 46]))) (oC 44 (oQ [0,3] [oF 48 3 3,oL 49 4 true 48,oc1 50
 zCT 49,oM 47 50,oe 51 0 47,oe 52 1 47,oM 4 51,oM 5 52] (oQ [0,3,4] [oM 53
0,oM 54 4,ox2 55 za 53 54] (oQ [0,3] [oF 56 0 3,oO 57 56,oE 58 .eql 57 6] (oC 58 (oQ [0,3] [oF 60 7 3,oL 61 4 true 60,oc1 62
 zCT 61,oM 59 62,oe 63 0 59,oe 64 1 59,oM 4 63] (oR [4,0] [oM 65 0,oM 66 4,oI 67 (.bin .add) [.const (.str [58]),.tmp 66],ox2 68
 za 65 67])) (.skip))))) (oQ [3,0,9] [oE 70 .eql 9 7,oM 69 70] (oC 69 (oQ
[3,0] [oM 71 0,oI 72 (.call zk false) [.tmp 71,.const (.int .u8 45)]] (.reg [3,0] true [oM 73 0,oF 74 11 3,oO 75 74,oI 76 (.idxAddr
 12) [.tmp 75,oK 0],oL 77 12 true 76,oF 78 11 3,oO 79 78,oI 80 (.idxAddr 12) [.tmp 79,oK 0],oL 81 12 true 80,oc1 82 zAm 81,oE 83 .lss 82 5,ox3 84
 zBf 73 77 83])) (oQ [3,0,9] [oE 86 .eql 9 8,oM 85 86] (oC 85 (.seq
(.reg [3,0] true [oM 87 0,oF 88 11 3,oO 89 88,oI 90 (.idxAddr 12) [.tmp 89,oK 0],oL 91 12 true 90,oF 92 11 3,oO 93 92,oI 94 (.idxAddr 12) [.tmp 93,oK 0],oL 95 12
 true 94,oc1 96 zAm 95,oL 97 12 true 3,oc1 98 zAm 97,oX 99 .lss 96 98,ox3 100 zBf 87 91 99]) (oQ [3,0] [oM 101 0,oF 102 1
 3,oO 103 102,oc1 104 zER 103,ox2 105
za 101 104] (.reg [3,0] true [oM 106 0,oF 107 11 3,oO 108 107,oI 109 (.idxAddr 12) [.tmp 108,oK 1],oL 110 12 true 109,oF 111 11
 3,oO 112 111,oI 113 (.idxAddr 12) [.tmp 112,oK 1],oL 114 12 true 113,oc1 115 zAm 114,oL 116 12 true 3,oc1 117 zAm 116,oX 118 .leq 115
 117,ox3 119 zBf 106 110 118]))) (oQ [0,3,9] [oE 121 .eql 9 9,oM 120
121] (oC 120 (oQ [0,3] [oM 122 0,oF 123 2 3,oO 124 123,oI 125 (.bin .add) [.tmp 124,.const (.str [40])],ox2 126 za 122 125] (.seq
 (oQ [0,3] [oF 127 11 3,oO 128 127,zEN 129 128,oi 130 (oK 0)] (.block 1 [0] (.loop [130,0,128,129] zNN))) (oR [0] [oM 143 0,oI 144 (.call
 zk false) [.tmp 143,.const (.int .u8 41)]])))
(.skip)))))))))))))))))))
def zJu:AF:=oAF [] zPs
def zLM:AC:=oQ [1,0] [oi 4 (oB false)] (.seq (oQ [1,0] [oM 5 0,oN 6 5,oF 7 4 6,oO 8 7,oE 9 .eql 8 30] (oC 9 (oQ [1,0] [oM 10 0,oM 11 1,oI 12
 (.call zc false) [.tmp 10,.tmp 11,oK 4]] zC4) (.skip))) (oQ [0] [oM 13 0,oN 14 13,oF 15 4 14,oO 16 15,oE 17 .add 16 1,oN 18 13,oF 19 4 18,oS 1 19
 17] zjP))
def zEc:AF:=oAF [.tmp 4] zLM
def zB1:AC:=.seq (oQ [6,0,4,5] [oM 42 0,oN 43 42,oF 44 3 43,oO 45 44,oE 46 .eql 45 0] (oC 46 (.skip) (.exit 0))) (.block 1 [6,0,4,5] (.seq
 (.reg [6,0,4,5] true [oM 47 0,oN 48 47,oF 49 0 48,oO 50 49,oM 51 0,oN 52 51,oF 53 1 52,oO 54 53,oc2 55 zY 50 54,oS 4 6 55]) (oQ [6,0,4,5] [oF 57 3
 6,oO 58 57,oc1 59 zm 58,oM 56 59,oe 60 0 56,oe 61 1 56,oA 7 [.int .i64
0,.int .i64 0,.bool false,.bool false],oS 4 7 60,oM 8 61] (oQ [6,0,4,5,7,8] [oA 9 oZ] (.seq (.seq (.reg [6,0,4,5,9,7,8] true [oF 62 0 6,oO 63 62,oE 64 .eql 63
 1,oM 65 64,oV 66 65 true 8,oI 67 .pick [.tmp 65,.tmp 66,oB false],oM 68 67,oWf 69 68 true 2 6,oWo 70 68 true 69,oV 71 68 true 0,oW 72 68 true .nilchk 71,oWf 73
 68 true 0 72,oWo 74 68 true 73,oW 75 68 true (.len true) 74,oXG 76 68 true .lss 70
75,oI 77 .pick [.tmp 68,.tmp 76,oB false],oM 78 77,oV 79 78 true 0,oW 80 78 true .nilchk 79,oWf 81 78 true 0 80,oWo 82 78 true 81,oWf 83 78 true 2 6,oWo 84 78
 true 83,oY 85 78 true .idxStr 82 84,og8 86 78 true .eql 85 58,oI 87 .pick [.tmp 78,.tmp 86,oB false]]) (oC 87 (.seq (.regt [6,0,4,5,9,7] true [oM 88 0,oN 89
 88,oF 90 0 89,oO 91 90,oF 92 2 6,oO 93 92,oE 94 .add 93 1,oc2 95 zY 91
94,oA 10 zV4,oS 4 10 95] (.step 0 (.step 1 (.step 2 (.step 3 (.step 4 (.step 5 (.step 6 (.alt (.step 7 (.step 8 (.step
 9 (.done)))) (.step 8 (.step 7 (.step 9 (.done))))))))))))) (oQ [6,0,4,5,9,7,10] [oF 97 3 10,oO 98 97,oc1 99 zm 98,oM 96 99,oe 100 0 96,oe 101 1 96,oA
 11 zV2,oS 4 11 100,oM 12 101]
(.seq (oQ [6,0,4,5,9,11,7,10,12] [oF 102 1 10,oO 103 102,oF 104 2 6,oO 105 104,oE 106 .add 105 1,oX 107 .neq 103 106,oM 108 107,oWf 109 108 false 0 10,oWo 110
 108 false 109,oEG 111 108 false .neq 110 1,oP 112 108 true 111,oM 113 112,oV 114 113 false 12,oW 115 113 false (.un .not) 114,oP 116 113 true 115] (oC 116 (oR
 [6,0,4,5,9,11,7,10] [oM 117 0,oF 118 2 6,oO 119 118,oE 120 .add 119 1,oI 121 (.call
zc false) [.tmp 117,.tmp 120,oK 2]]) (.skip))) (oQ [6,0,4,5,9,11,7,10] [oM 122 0,oF 123 2 10,oO 124 123,oN 125 122,oF 126 1 125,oS 1 126 124] (oR
 [6,0,4,5,9,11,7] [oL 127 4 true 7,oL 128 4 true 11,⟨some 129,none,.build oZ [(0,1),(3,4),(7,4)],[oK 6,.tmp 127,.tmp 128]⟩,oS 12 9 129]))))) (oR [6,0,4,5,9] [oM
 130 0,oI 131 (.call zX false) [.tmp 130,oK 1],oS 12 9 131])))
(oQ [6,0,4,5,9] [oF 132 11 5,oO 133 132,oL 134 12 true 9,oT 135 (.bslice 12) 134,oD 136 (.append 12 104) 133 135,oF 137 11 5,oS 1 137 136] (.seq (.reg [6,0,4,5]
 true [oM 138 0,oN 139 138,oF 140 0 139,oO 141 140,oM 142 0,oN 143 142,oF 144 1 143,oO 145 144,oc2 146 zY 141 145,oS 4 6 146]) (.seq (oQ [6,0,4,5]
 [oM 147 0,oN 148 147,oF 149 3 148,oO 150 149,oE 151 .eql 150 0,oM 152 151,oWf 153
152 true 0 6,oWo 154 152 true 153,oEG 155 152 true .eql 154 4,oI 156 .pick [.tmp 152,.tmp 155,oB false],oM 157 156,oWf 158 157 true 3 6,oWo 159 157 true 158,oG
 160 157 true (.bin .eql) [.tmp 159,.const (.str [44])],oI 161 .pick [.tmp 157,.tmp 160,oB false]] (oC 161 (oQ [6,0,4,5] [oM 162 0,oF 163 2 6,oO 164 163,oN 165
 162,oF 166 1 165,oS 1 166 164] (.exit 1)) (.skip))) (.seq (.reg [4,5,0] false [oM
167 0,ox1 168 zb 167]) (oQ [4,5] [oL 169 12 true 5,oS 12 4 169] (.ret)))))))))))
def zBs:AC:=oQ [0,1] [oA 4 oZ] (oQ [4,0,1] [oM 13 1,⟨some 14,none,.build oZ [(0,1),(2,1)],[oK 9,.tmp 13]⟩,oA 5 oZ,oS 12 5 14] (oQ [4,5,0] [oM
 15 0,oN 16 15,oF 17 1 16,oO 18 17,oE 19 .add 18 1,oN 20 15,oF 21 1 20,oS 1 21 19] (.seq (.regt [4,5,0] true [oM 22 0,oN 23 22,oF 24 0 23,oO 25 24,oM 26 0,oN 27
 26,oF 28 1 27,oO 29 28,oc2 30 zY 25 29,oA 6 [.int .i64 0,.int .i64
0,.int .i64 0,.str []],oS 4 6 30] zC0) (.seq (oQ [4,5,0,6] [oF 31 0 6,oO 32 31,oE 33 .eql 32 4,oM 34 33,oWf 35 34 true 3 6,oWo 36 34 true 35,oG 37 34 true (.bin
 .eql) [.tmp 36,.const (.str [41])],oI 38 .pick [.tmp 34,.tmp 37,oB false]] (.cond (.tmp 38) (oQ [4,5,0] [oM 39 0,ox1 40 zb 39] (oQ [4,5] [oL 41
 12 true 5,oS 12 4 41] (.ret))) (.skip))) (.seq (.block 0 [4,5] (.loop [6,0,4,5]
zB1)) (oQ [4,5] [oL 170 12 true 5,oS 12 4 170] (.ret)))))))
def zBt:AF:=oAF [.cell 4 12 true] zBs
abbrev zC23:AC:=(oQ [] [oi 4 (oK 0),oi 5 (oB false)] (.ret))
def zHz:AC:=.seq (oQ [6,7,0,8] [oM 35 8,oM 36 6,oT 37 (.len true) 36,oX 38 .lss 35 37] (oC 38 (.skip) (.exit 0))) (.seq (.block 1 [6,7,0,8]
 (.seq (oQ [6,7,0,8] [oM 41 6,oM 42 8,oXs 43 41 42,oe8 44 .lss 43 48,oM 45 44,oV 46 45 false 6,oV 47 45 false 8,oY 48 45 false .idxStr 46 47,og8 49 45 false .gtr
 48 57,oP 50 45 true 49] (oC 50 zC23 (.skip))) (oQ [6,7,0,8] [oM 51 7,oM 52 7,oI 53
(.call zAV false) [oK 10],ox3 54 zBJ 51 52 53] (oR [6,7,0,8] [oM 55 7,oM 56 7,oM 57 6,oM 58 8,oXs 59 57 58,oT 60 (.convInt
 .i64) 59,oE 61 .sub 60 48,ox1 62 zAV 61,ox3 63 zBK 55 56 62])))) (oR [6,7,0,8] [oM 39 8,oE 40 .add 39 1,oM 8 40]))
def zJv:AC:=oQ [0,1] [oi 4 (oK 0),oi 5 (oB false)] (oQ [0,1] [oM 10 0,oM 6 10] (.seq (.seq (.reg [0,6,1] false [oM 11 1,oM 12 11,oV 13 12 true
 6,oG 14 12 true (.bin .neq) [.tmp 13,oNs],oI 15 .pick [.tmp 12,.tmp 14,oB false],oM 16 15,oV 17 16 true 6,oG 18 16 true .idxStr [.tmp 17,oK 0],og8 19 16 true
 .eql 18 45,oI 20 .pick [.tmp 16,.tmp 19,oB false]]) (oC 20 (oR [0,6] [oM 21 6,oI 22
(.slc none true false) [.tmp 21,oK 1],oM 6 22]) (.skip))) (.seq (oQ [6,0] [oM 23 6,oI 24 (.bin .eql) [.tmp 23,oNs],oM 25 24,oV 26 25 false 6,oG 27 25 false
 .idxStr [.tmp 26,oK 0],og8 28 25 false .eql 27 48,oV 29 25 false 28,oV 30 29 true 0,oG 31 29 true (.bin .neq) [.tmp 30,.const (.str [48])],oG 32 25 false .pick
 [.tmp 29,.tmp 31,oB false],oP 33 25 true 32] (oC 33 zC23 (.skip))) (oQ [6,0] [oA 34
zV6,oM 7 34] (.seq (oQ [6,7,0] [oi 8 (oK 0)] (.block 0 [7,0,6] (.loop [8,6,7,0] zHz))) (.seq (oQ [7,0,6] [oM 64
 6,oT 65 (.len true) 64,oM 66 0,oT 67 (.len true) 66,oX 68 .neq 65 67] (oC 68 (oR [7] [oM 69 7,oM 70 7,ox2 71 zIZ 69 70]) (.skip))) (oQ [7]
 [oM 72 7,oc1 73 zEE 72,oM 9 73] (.seq (oQ [7,9] [oM 74 9,oUn 75 74] (oC
75 zC23 (.skip))) (oQ [7] [oM 76 7,oc1 77 zAw 76,oM 4 77,oi 5 (oB true)] (.ret))))))))))
def zDj:AF:=oAF [.tmp 4,.tmp 5] zJv
def zId:AC:=oQ [0] [oA 2 zV2,oi 3 (oB false)] (oQ [2,0] [oA 4 [.int .i64 0,.int .i64 0,.bool
 false,.bool false]] (oQ [2,4,0] [oi 5 (oK 0)] (.seq (oQ [2,4,0,5] [oM 8 5,oM 9 0,oT 10 (.len true) 9,oX 11 .lss 8 10,oM 12 11,oV 13 12 true 0,oV 14 12 true 5,oY
 15 12 true .idxStr 13 14,og8 16 12 true .eql 15 36,oI 17 .pick [.tmp 12,.tmp 16,oB
false]] (oC 17 (oQ [2,4,0,5] [oF 18 2 4,oJ (.store 1) [.tmp 18,oB true]] (oR [2,4,0,5] [oM 19 5,oE 20 .add 19 1,oM 5 20])) (.skip))) (.seq (oQ [2,4,0,5] [oM 21
 5,oM 22 0,oT 23 (.len true) 22,oX 24 .geq 21 23,oM 25 24,oV 26 25 false 0,oV 27 25 false 5,oY 28 25 false .idxStr 26 27,og8 29 25 false .lss 28 65,oP 30 25 true
 29,oM 31 30,oV 32 31 false 0,oV 33 31 false 5,oY 34 31 false .idxStr 32 33,og8
35 31 false .gtr 34 90,oP 36 31 true 35] (oC 36 (oQ [2] [⟨some 37,none,.build zV2 [],[]⟩,oS 4 2 37,oi 3 (oB false)]
 (.ret)) (.skip))) (oQ [2,4,0,5] [oM 38 0,oM 39 5,oXs 40 38 39,oT 41 (.convInt .i64) 40,oE 42 .sub 41 64,oF 43 0 4,oF 44 0 43,oS 1 44 42] (oQ [2,4,0,5] [oM 45
 5,oE 46 .add 45 1,oM 5 46] (.seq (oQ [2,4,0,5] [oM 47 5,oM 48 0,oT 49 (.len true)
48,oX 50 .lss 47 49,oM 51 50,oV 52 51 true 0,oV 53 51 true 5,oY 54 51 true .idxStr 52 53,og8 55 51 true .eql 54 36,oI 56 .pick [.tmp 51,.tmp 55,oB false]] (oC 56
 (oQ [2,4,0,5] [oF 57 3 4,oJ (.store 1) [.tmp 57,oB true]] (oR [2,4,0,5] [oM 58 5,oE 59 .add 58 1,oM 5 59])) (.skip))) (oQ [2,4,5,0] [oM 61 0,oM 62 5,oD 63 (.slc
 none true false) 61 62,oI 64 (.call zq true) [.tmp 63,oB
false],oM 60 64,oe 65 0 60,oe 66 1 60,oM 6 65,oM 7 66] (.seq (oQ [2,4,6,7] [oM 67 7,oUn 68 67,oM 69 68,oV 70 69 false 6,oEG 71 69 false .lss 70 1,oP 72 69 true
 71,oM 73 72,oV 74 73 false 6,oEG 75 73 false .gtr 74 99,oP 76 73 true 75] (oC 76 (oQ [2] [⟨some 77,none,.build zV2
 [],[]⟩,oS 4 2 77,oi 3 (oB false)] (.ret)) (.skip))) (oQ [2,4,6] [oM 78 6,oF 79 0
4,oF 80 1 79,oS 1 80 78] (oQ [2,4] [oL 81 4 true 4,oS 4 2 81,oi 3 (oB true)] (.ret))))))))))))
def zDy:AF:=oAF [.cell 2 4 true,.tmp 3] zId
def zNO:AC:=.seq (oQ [2,5,0,4] [oM 16 5,oM 17 4,zEN 18 17,oX 19 .lss 16 18] (oC 19 (.skip) (.exit 0))) (.seq (.block 1 [2,0,4,5] (oQ [2,5,0,4]
 [oM 22 4,oM 23 5,oXI 24 1 22 23,oO 25 24,oM 26 0,oX 27 .eql 25 26] (oC 27 (oQ [2,5] [oM 28 5,oc1 29 zDB 28,oS 3 2 29,oi 3 (oB true)] (.ret)) (.skip))))
 (oR [2,0,4,5] [oM 20 5,oE 21 .add 20 1,oM 5 21]))
def zPt:AC:=oQ [0] [oA 2 zV3,oi 3 (oB false)] (.seq (oQ [2,0] [oM 6 0,oI 7 (.bin .eql) [.tmp 6,.const (.str
 [84,82,85,69])],oM 8 7,oV 9 8 false 0,oG 10 8 false (.bin .eql) [.tmp 9,.const (.str [70,65,76,83,69])],oP 11 8 true 10] (oC 11 (oQ [2,0] [oM 12 0,oI 13 (.bin
 .eql) [.tmp 12,.const (.str [84,82,85,69])],oc1 14 zF6 13,oS 3 2 14,oi 3 (oB
true)] (.ret)) (.skip))) (oQ [2,0] [oI 15 (.call zA3 true) [],oM 4 15] (.seq (oQ [2,0,4] [oi 5 (oK 1)] (.block 0 [2] (.loop [2,5,0,4]
 zNO))) (oQ [2] [⟨some 30,none,.build zV3 [],[]⟩,oS 3 2 30,oi 3 (oB false)] (.ret)))))
def zGT:AF:=oAF [.cell 2 3 true,.tmp 3] zPt
def zMI:AC:=.seq (.regt [0] true [oM 3 0,oN 4 3,oF 5 0 4,oO 6 5,oM 7 0,oN 8 7,oF 9 1 8,oO 10 9,oc2 11 zY 6 10,oA 2 [.int .i64
 0,.int .i64 0,.int .i64 0,.str []],oS 4 2 11] zC0) (.seq (oQ [0,2] [oM 12 0,oN 13 12,oF 14 3 13,oO 15 14,oE 16 .eql 15 0,oM 17 16,oWf 18 17 true 0 2,oWo 19 17
 true 18,oEG 20 17 true .neq 19 4,oV 21 17 true 20,oWf 22 21 false 3 2,oWo 23 21
false 22,oG 24 21 false (.bin .neq) [.tmp 23,.const (.str [41])],oG 25 17 true .pick [.tmp 21,oB true,.tmp 24],oI 26 .pick [.tmp 17,.tmp 25,oB false]] (oC 26 (oR
 [0,2] [oM 27 0,oF 28 1 2,oO 29 28,oI 30 (.call zc false) [.tmp 27,.tmp 29,oK 2]]) (.skip))) (oQ [0,2] [oM 31 0,oF 32 2 2,oO 33 32,oN 34 31,oF 35 1
 34,oS 1 35 33] (oR [0] [oM 36 0,oN 37 36,oF 38 4 37,oO 39 38,oE 40 .sub 39
1,oN 41 36,oF 42 4 41,oS 1 42 40])))
def zCP:AF:=oAF [] zMI
def zJw:AC:=oQ [0] [oI 2 .mv [.const (.nilp)]] (oQ [0] [oA 3 zV6,oM 4 0,ox2 5 zBE
 3 4,oM 2 5] (.ret))
def zJx:AF:=oAF [.tmp 2] zJw
def zGm:AC:=oQ [0] [oi 2 oNs] (oQ [0] [oM 3 0,oI 4 (.call zBA true) [.tmp 3,oK 10],oM 2 4] (.ret))
def zD3:AF:=oAF [.tmp 2] zGm
def zOV:AC:=oQ [0] [oi 2 (oB false)] (oQ [0] [oM 3 0,oM 4 0,oX 5 .neq 3 4,oM 2 5] (.ret))
def zJD:AF:=oAF [.tmp 2] zOV
def zIe:AC:=oQ [1,0] [oi 4 (oB false)] (oQ [1,0] [oM 5 0,oT 6 (.len true) 5,oM 7 1,oT 8 (.len true) 7,oX 9 .geq 6 8,oM 10 9,oV 11 10 true
 0,oV 12 10 true 1,oW 13 10 true (.len true) 12,oY 14 10 true (.slc none false true) 11 13,oV 15 10 true 1,oXG 16 10 true .eql 14 15,oI 17 .pick [.tmp 10,.tmp
 16,oB false],oM 4 17] (.ret))
def zDE:AF:=oAF [.tmp 4] zIe
def zJy:AC:=oQ [0] [oT 1 .box 0,oA 2 oZ] (oQ [2,1] [oO 4 1,ox1 5 zW 4] (.seq (.seq (.reg [2,1] true [oO 6 1,oN 7 6,oF
 8 1 7,oO 9 8,oO 10 1,oN 11 10,oF 12 0 11,oO 13 12,oT 14 (.len true) 13,oX 15 .lss 9 14,oM 16 15,oWo 17 16 true 1,oW 18 16 true .nilchk 17,oWf 19 16 true 0 18,oWo
 20 16 true 19,oWo 21 16 true 1,oW 22 16 true .nilchk 21,oWf 23 16 true 1
22,oWo 24 16 true 23,oY 25 16 true .idxStr 20 24,og8 26 16 true .eql 25 45,oI 27 .pick [.tmp 16,.tmp 26,oB false]]) (oC 27 (oQ [2,1] [oO 28 1,oN 29 28,oF 30 1
 29,oO 31 30,oM 3 31] (.seq (.regt [2,1,3] false [oO 32 1,oM 33 3,oT 34 (.mkFn zBB 0) 1,oI 35 (.callp zp) [.tmp 32,.tmp
 33,.tmp 34],oS 12 2 35] zC6) (.ret))) (.skip))) (.seq (.regt [2,1] false [oO 36
1,oT 37 (.callp zBT) 36,oS 12 2 37] zC9) (.ret))))
def zDk:AF:=oAF [.cell 2 12 true] zJy
def zQ2:AC:=oQ [0] [oi 2 (oK 0)] (.seq (oQ [0] [oM 3 0] (.block 0 [] (oQ [3] [oI 5 (.bin .eql) [.tmp 3,.const (.str [61])],oM 4 5] (oC 4 zC28 (oQ
 [3] [oI 7 (.bin .eql) [.tmp 3,.const (.str [60,62])],oM 6 7] (oC 6 zC27 (oQ [3] [oI 9 (.bin .eql) [.tmp 3,.const (.str [60])],oM 8 9] (oC 8 (oQ [] [oi 2 (oK 3)]
 (.ret)) (oQ [3] [oI 11 (.bin .eql) [.tmp 3,.const (.str [60,61])],oM 10 11] (oC
10 zC26 (oQ [3] [oI 13 (.bin .eql) [.tmp 3,.const (.str [62])],oM 12 13] (oC 12 (oQ [] [oi 2 (oK 5)] (.ret)) (oQ [3] [oI 15 (.bin .eql) [.tmp 3,.const (.str
 [62,61])],oM 14 15] (oC 14 (oQ [] [oi 2 (oK 6)] (.ret)) (oQ [3] [oI 17 (.bin .eql) [.tmp 3,.const (.str [38])],oM 16 17] (oC 16 (oQ [] [oi 2 (oK 7)] (.ret)) (oQ
 [3] [oI 19 (.bin .eql) [.tmp 3,.const (.str [43])],oM 18 19] (oC 18 (oQ [] [oi 2
(oK 8)] (.ret)) (oQ [3] [oI 21 (.bin .eql) [.tmp 3,.const (.str [45])],oM 20 21] (oC 20 (oQ [] [oi 2 (oK 9)] (.ret)) (oQ [3] [oI 23 (.bin .eql) [.tmp 3,.const
 (.str [42])],oM 22 23] (oC 22 (oQ [] [oi 2 (oK 10)] (.ret)) (.skip))))))))))))))))))))))) (oQ [] [oi 2 (oK 11)] (.ret)))
def zHU:AF:=oAF [.tmp 2] zQ2
def zNP:AC:=oQ [1,0] [oi 3 (oB false)] (oQ [1,0] [oF 4 11 1,oO 5 4,zEN 6 5,oM 7 0,oX 8 .eql 6 7,oM 9 8,oWf 10 9 true 2 1,oWo 11 9 true 10,oG
 12 9 true (.bin .eql) [.tmp 11,oNs],oI 13 .pick [.tmp 9,.tmp 12,oB false],oM 3 13] (.ret))
def zH0:AF:=oAF [.tmp 3] zNP
def zOW:AC:=oQ [0] [oi 2 (oB false)] (oQ [0] [oM 3 0,oT 4 (.len true) 3,oE 5 .geq 4 2,oM 6 5,oV 7 6 true 0,oW 8 6 true (.len true) 7,oEG 9 6
 true .leq 8 10,oI 10 .pick [.tmp 6,.tmp 9,oB false],oM 11 10,oV 12 11 true 0,oG 13 11 true (.call zCU true) [.tmp 12,.const (.str
 [65,66,67,68,69,70,71,72,73,74,75,76,77,78,79,80,81,82,83,84,85,86,87,88,89,90])],oG 14 11 true (.bin
.eql) [.tmp 13,oNs],oI 15 .pick [.tmp 11,.tmp 14,oB false],oM 2 15] (.ret))
def zFs:AF:=oAF [.tmp 2] zOW
def zFE:AC:=oQ [1,0] [oi 4 (oK 0),oi 5 oNi] (oQ [1,0] [oM 6 0,ox1 7 zAX 6] (oQ [1,0] [oM 8 0,oM 9
 0,oN 10 9,oF 11 1 10,oO 12 11,oM 13 1,oD 14 (.appT zD7 true) 12 13,oN 15 8,oF 16 1 15,oS 1 16 14] (oQ [1] [oM 17 1,oT 18 (.len true) 17,oM 4 18,oi 5 oNi]
 (.ret))))
def zCa:AF:=oAF [.tmp 4,.tmp 5] zFE
def zUI:AC:=oQ [0] [oT 1 .box 0,oi 2 oNs] (.seq (oQ [1] [oF 3 0 1,oO 4 3] (.block 0 [] (oQ [1,4] [oE 6 .eql 4 1,oM 5 6] (oC 5 (oQ [1] [oF 7 1 1,oO 8
 7,oc1 9 zDQ 8,oM 2 9] (.ret)) (oQ [1,4] [oE 11 .eql 4 2,oM 10 11] (oC 10 (oQ [1] [oF 12 2 1,oO 13 12,oM 2 13] (.ret)) (oQ [1,4] [oE 15 .eql 4 3,oM 14
 15] (oC 14 (.seq (.seq (.reg [1] false [oF 16 1 1,oO 17 16,oE 18 .eql 17 1])
(oC 18 zC34 (.skip))) zC32) (oQ [1,4] [oE 20 .eql 4 4,oM 19 20] (oC 19 (oQ [1] [oF 21 1 1,oO 22 21,oE 23 .gtr 22 0,oM 24 23,oWf 25 24 true 1 1,oWo 26 24 true
 25,oEG 27 24 true .lss 26 7,oI 28 .pick [.tmp 24,.tmp 27,oB false]] (oC 28 (oQ [1] [oF 29 1 1,oO 30 29,oI 31 (.idxArr 1 7) [.glob zEv,.tmp 30],oO 32
 31,oM 2 32] (.ret)) (.skip))) (.skip))))))))))) (oQ [] [oi 2 oNs] (.ret)))
def zG5:AF:=oAF [.tmp 2] zUI
def zVo:AC:=oQ [0] [oA 2 zV3] (oQ [2,0] [oM 3 0,⟨some 4,none,.build zV3 [(0,1),(1,1)],[oK
 1,.tmp 3]⟩,oS 3 2 4] (.ret))
def zPu:AF:=oAF [.cell 2 3 true] zVo
def zYS:AC:=oQ [0] [oA 2 zV3] (oQ [2,0] [⟨some 4,none,.build zV3 [(0,1)],[oK 3]⟩,oA 3
 zV3,oS 3 3 4] (.seq (.seq (.reg [2,3,0] false [oM 5 0]) (oC 5 (oR [2,3] [oF 6 1 3,oJ (.store 1) [.tmp 6,oK 1]]) (.skip))) (oQ [2,3]
 [oL 7 3 true 3,oS 3 2 7] (.ret))))
def zNQ:AF:=oAF [.cell 2 3 true] zYS
def zSa:AC:=oQ [0] [oA 2 zV3] zC15
def zIf:AF:=oAF [.cell 2 3 true] zSa
def zQ3:AC:=oQ [0] [oT 1 .box 0,oi 2 oNs,oi 3 oNi] (.seq (oQ [1] [oF 5 0 1,oL 6 2 true 5,oc1 7 zGM 6,oUn 8 7] (oC 8 (oQ [] [oI 9 (.mkIface
 zO) [oK 1],oi 2 oNs,oM 3 9] (.ret)) (.skip))) (oQ [1] [oi 4 oNs] (.seq (oQ [1,4] [oF 10 2 1,oO 11 10] (oC 11 (oR [1] [oI 4 .mv [.const (.str [36])]])
 (.skip))) (oQ [1,4] [oM 12 4,oF 13 0 1,oF 14 0 13,oO 15 14,oI 16 (.bin .add) [oK
65,.tmp 15],oE 17 .sub 16 1,oT 18 (.convInt .i32) 17,oT 19 .convRune 18,oX 20 .add 12 19,oM 4 20] (.seq (oQ [1,4] [oF 21 3 1,oO 22 21] (oC 22 (oR [1,4] [oM 23
 4,oI 24 (.bin .add) [.tmp 23,.const (.str [36])],oM 4 24]) (.skip))) (oQ [1,4] [oM 25 4,oF 26 0 1,oF 27 1 26,oO 28 27,oc1 29 zDQ 28,oX 30 .add 25
 29,oM 2 30,oi 3 oNi] (.ret)))))))
def zKy:AF:=oAF [.tmp 2,.tmp 3] zQ3
def zMJ:AC:=oQ [0,2,1] [oT 4 .box 1] (.seq (oQ [0,2,4] [oM 6 2] (oC 6 (oR [0,2,4] [oM 7 0,oI 8 (.call zk false)
 [.tmp 7,.const (.int .u8 40)]]) (.skip))) (oQ [0,2,4] [oM 9 0,oL 10 12 true 4,ox2 11 zCj 9 10] (oQ [0,2] [oM 12 2] (oC 12 (oR [0] [oM 13 0,oI 14
 (.call zk false) [.tmp 13,.const (.int .u8 41)]])
(.skip)))))
def zG6:AF:=oAF [] zMJ
def zPv:AC:=oQ [0] [oT 1 .box 0,oi 2 (oK 0)] (.seq (.block 0 [] (oQ [1] [oF 4 0 1,oO 5 4,oE 6 .neq 5 8,oM 3 6] (oC 3 (oQ [] [oi 2 (oK 5)] (.ret))
 (oQ [1] [oF 8 1 1,oO 9 8,oE 10 .leq 9 6,oM 7 10] (oC 7 zC28 (oQ [1] [oF 12 1 1,oO 13 12,oE 14 .eql 13 7,oM 11 14] (oC 11 zC27 (oQ [1] [oF 16 1 1,oO 17 16,oE 18
 .leq 17 9,oM 15 18] (oC 15 (oQ [] [oi 2 (oK 3)] (.ret)) (.skip)))))))))) (.seq
(.reg [] false [oi 2 (oK 4)]) (.ret)))
def zJz:AF:=oAF [.tmp 2] zPv
def zOX:AC:=oQ [0] [oi 2 oNs] (oQ [0] [⟨some 3,none,.build [.str [],.str [],.str [],.str [],.str [],.str [],.str [],.str [],.str [],.str [],.str
 [],.str []] [(0,1),(1,1),(2,1),(3,1),(4,1),(5,1),(6,1),(7,1),(8,1),(9,1),(10,1),(11,1)],[oNs,.const (.str [61]),.const (.str [60,62]),.const (.str [60]),.const
 (.str [60,61]),.const (.str [62]),.const (.str [62,61]),.const (.str
[38]),.const (.str [43]),.const (.str [45]),.const (.str [42]),.const (.str [47])]⟩,oM 4 0,oD 5 (.idxAgg 1 12 false) 3 4,oM 2 5] (.ret))
def zJE:AF:=oAF [.tmp 2] zOX
def zIg:AC:=oQ [2,1,0] [oI 6 .mv [.const (.nilp)]] (.seq (.reg [2,1,0] true [oM 7 0,oM 8 1,oN 9 8,oF 10 0 9,oO 11 10,oM 12 2,oN 13 12,oF
 14 0 13,oO 15 14,oD 16 (.eqb true) 11 15,oM 17 1,oN 18 17,oF 19 1 18,oO 20 19,oM 21 2,oN 22 21,oF 23 1 22,oO 24 23,oc2 25 zDW 20 24,ox3 26
 z7 7 16 25,oM 6 26]) (.ret))
def zE0:AF:=oAF [.tmp 6] zIg
def zIh:AC:=oQ [2,1,0] [oI 6 .mv [.const (.nilp)]] (.seq (.reg [2,1,0] true [oM 7 0,oM 8 1,oN 9 8,oF 10 0 9,oO 11 10,oM 12 1,oN 13 12,oF
 14 1 13,oO 15 14,oM 16 2,oN 17 16,oF 18 0 17,oO 19 18,oM 20 2,oN 21 20,oF 22 1 21,oO 23 22,oc4 24 zDX 11 15 19 23,oe 25 0 24,oe 26 1 24,ox3 27
 z7 7 25 26,oM 6 27]) (.ret))
def zE1:AF:=oAF [.tmp 6] zIh
def zQ4:AC:=oQ [0] [oi 2 (oB false)] (oQ [0] [oM 3 0,oc1 4 zBL 3,oM 2 4] (.ret))
def zKz:AF:=oAF [.tmp 2] zQ4
def zHV:AC:=oQ [0] [oi 2 (oK 0)] (oQ [0] [oM 4 0,oc1 5 zBR 4,oT 6 (.convInt .i64) 5,oM 3 6] (.seq (oQ [3,0] [oM
 7 0,oN 8 7,oF 9 0 8,oO 10 9] (oC 10 (oR [3] [oM 11 3,oT 12 (.un .neg) 11,oM 3 12]) (.skip))) (oQ [3] [oM 13 3,oM 2 13] (.ret))))
def zEF:AF:=oAF [.tmp 2] zHV
def zF8:AC:=oQ [1,0] [oI 4 .mv [.const (.nilp)]] (oQ [1,0] [oM 6 1,oT 7 (.convInt .u64) 6,oM 5 7] (.seq (oQ [1,0,5] [oM 8 1,oE 9
 .lss 8 0] (oC 9 (oR [1,0,5] [oM 10 5,oT 11 (.un .neg) 10,oM 5 11]) (.skip))) (oQ [5,1,0] [oM 12 0,oM 13 1,oE 14 .lss 13 0,oM 15 5,oc1 16 zCb
 15,ox3 17 z7 12 14 16,oM 4 17] (.ret))))
def zDb:AF:=oAF [.tmp 4] zF8
def zGn:AC:=.seq (oQ [1,0,5,6] [oM 24 6,zEN 25 24,oE 26 .gtr 25 0] (.cond (.tmp 26) (.skip) (.exit 0))) (.block 1 [5,1,6,0] (oQ
 [1,0,5,6] [oI 7 .mv [.const (.int .u32 0)]] (oQ [1,0,5,6] [oM 28 6,oM 29 1,oT 30 (.convInt .u32) 29,oc2 31 zCc 28 30,oM 27 31,oe 32 0 27,oe 33 1
 27,oM 6 32,oM 7 33] (oQ [1,6,0,7,5] [oM 34 7,oI 35 (.bin .lss) [.tmp 34,.const
(.int .u32 10)]] (oC 35 (oR [1,6,0,7,5] [oM 36 5,oM 37 7,oI 38 (.bin .add) [.const (.int .u32 48),.tmp 37],oT 39 (.convInt .u8) 38,oT 40 (.bslice 1) 39,oD 41
 (.append 1 1) 36 40,oM 5 41]) (.reg [1,6,0,7,5] false [oM 42 5,oM 43 7,oI 44 (.bin .add) [.const (.int .u32 97),.tmp 43],oI 45 (.bin .sub) [.tmp 44,.const (.int
 .u32 10)],oT 46 (.convInt .u8) 45,oT 47 (.bslice 1) 46,oD 48 (.append 1 1) 42
47,oM 5 48]))))))
def zGo:AC:=.seq (oQ [5,9,8] [oM 59 8,oM 60 9,oX 61 .lss 59 60] (oC 61 (.skip) (.exit 2))) (.seq (.block 3 [5,9,8] (oQ [5,9,8] [oM 66
 5,oM 67 8,oXI 68 1 66 67,oO 69 68,oM 10 69] (.seq (.reg [5,9,8,10] false [oM 70 5,oM 71 8,oM 72 5,oM 73 9,oXI 74 1 72 73,oO 75 74,oXI 76 1 70 71,oS 1 76 75]) (oR
 [5,9,8,10] [oM 77 5,oM 78 9,oM 79 10,oXI 80 1 77 78,oS 1 80 79])))) (oR
[5,9,8] [oM 62 8,oE 63 .add 62 1,oM 64 9,oE 65 .sub 64 1,oM 8 63,oM 9 65]))
def zEi:AC:=oQ [1,0] [oi 4 oNs] (.seq (oQ [1,0] [oM 11 0,oI 12 (.eqn .ptr false true) [.tmp 11,.const (.nilp)]] (oC 12 (oQ [] [oI 4 .mv
 [.const (.str [60,110,105,108,62])]] (.ret)) (.skip))) (.seq (oQ [1,0] [oM 13 0,oN 14 13,oF 15 1 14,oO 16 15,zEN 17 16,oE 18 .eql 17 0] (oC 18 (.seq (.reg []
 false [oI 4 .mv [.const (.str [48])]]) (.ret)) (.skip))) (oQ [1,0] [oi 5 oNl]
(.seq (oQ [5,1,0] [oM 19 0,oN 20 19,oF 21 1 20,oO 22 21,oc1 23 zDC 22,oM 6 23] (.block 0 [5,0] (.loop [5,1,6,0] zGn)))
 (.seq (oQ [5,0] [oM 49 0,oN 50 49,oF 51 0 50,oO 52 51] (oC 52 (oR [5] [oM 53 5,oI 54 (.bslice 1) [.const (.int .u8 45)],oD 55 (.append 1 1) 53 54,oM 5 55])
 (.skip))) (.seq (oQ [5] [oM 56 5,zEN 57 56,oE 58 .sub 57 1,oi 8 (oK 0),oM 9 58]
(.block 2 [5] (.loop [9,8,5] zGo))) (oQ [5] [oM 81 5,oT 82 .bytesToStr 81,oM 4 82] (.ret))))))))
def zCq:AF:=oAF [.tmp 4] zEi
abbrev zC5:OT:=(.step 0 (.step 1 (.step 2 (.step 3 (.done)))))
def zH1:AC:=oQ [0,2,1] [oA 6 oZ] (.seq (oQ [6,0,2,1] [oM 8 0,oN 9 8,oF 10 2 9,oO 11 10,oE 12 .eql 11 30] (oC 12 (.regt [6,0,2,1] false
 [oM 13 0,oM 14 1,oI 15 (.mkIface zO) [oK 4],oI 16 (.callp zV) [.tmp 13,.tmp 14,.tmp 15]] zC5) (.skip))) (oQ [6,0,2] [oM 17 0,oN 18
 17,oF 19 2 18,oO 20 19,oE 21 .add 20 1,oN 22 17,oF 23 2 22,oS 1 23 21] (.seq
(.regt [6,0,2] false [oM 24 2,oT 25 .callvp 24,oA 7 oZ,oS 12 7 25] zC5) (oQ [6,7,0] [oM 26 0,oN 27 26,oF 28 2 27,oO 29 28,oE 30 .sub 29 1,oN 31 26,oF 32 2 31,oS
 1 32 30] (oQ [6,7] [oL 33 12 true 7,oS 12 6 33] (.ret))))))
def zCr:AF:=oAF [.cell 6 12 true] zH1
def zH2:AC:=oQ [0] [oA 1 oZ] (oQ [1,0] [oO 2 0,oN 3 2,oF 4 1 3,oO 5 4,oE 6 .add 5 1,oN 7 2,oF 8 1 7,oS 1 8 6] (.seq (.regt [1,0] false
 [oO 9 0,oT 10 (.callp zAW) 9,oT 11 (.bslice 12) 10,⟨some 12,none,.build oZ [(0,1),(11,1)],[oK 7,.tmp 11]⟩,oS 12 1 12] zC6) (.ret)))
def zCs:AF:=oAF [.cell 1 12 true] zH2
def zH3:AC:=.seq (oQ [2,5,1,3] [oM 49 5,oO 50 1,oN 51 50,oF 52 0 51,oO 53 52,oT 54 (.len true) 53,oX 55 .leq 49 54] (oC 55 (.skip)
 (.exit 1))) (.seq (.block 2 [2,1,3,5] (oQ [2,5,1,3] [oO 59 1,oN 60 59,oF 61 0 60,oO 62 61,oM 63 3,oM 64 5,oI 65 (.slc none true true) [.tmp 62,.tmp 63,.tmp
 64],oc1 66 zAd 65,oM 58 66,oe 67 0 58,oe 68 1 58,oA 6 [.int .i64 0,.int .i64
0,.str []],oS 3 6 67,oM 7 68] (.seq (.reg [2,6,5,1,3,7] false [oM 69 7]) (oC 69 (oQ [2,6,5,1] [oO 70 1,oM 71 5,oN 72 70,oF 73 1 72,oS 1 73 71] (oQ [2,6] [oF 74 1
 6,oO 75 74,⟨some 76,none,.build oZ [(0,1),(1,1)],[oK 4,.tmp 75]⟩,oS 12 2 76] (.ret))) (.skip))))) (oR [2,1,3,5] [oM 56 5,oE 57 .add 56 1,oM 5 57]))
def zJK:AC:=oQ [0] [oT 1 .box 0,oA 2 oZ] (oQ [2,1] [oO 11 1,oN 12 11,oF 13 1 12,oO 14 13,oM 3 14] (.seq (oQ [2,1,3] [oM 15 3,oO 16 1,oN 17
 16,oF 18 0 17,oO 19 18,oT 20 (.len true) 19,oX 21 .eql 15 20] (oC 21 (.regt [2,1,3] false [oO 22 1,oM 23 3,oI 24 (.mkIface zO) [oK 2],oI 25 (.callp
 zV) [.tmp 22,.tmp 23,.tmp 24]] zC5) (.skip))) (.seq (oQ
[2,1,3] [oO 26 1,oN 27 26,oF 28 0 27,oO 29 28,oM 30 3,oXs 31 29 30,oM 4 31] (.block 0 [2,3,1] (oQ [2,1,3,4] [oM 33 4,oe8 34 .eql 33 40,oM 32 34] (oC 32 (.seq
 (.regt [2,1,3] false [oO 35 1,oM 36 3,oT 37 (.mkFn zAg 0) 1,oI 38 (.callp zp) [.tmp 35,.tmp 36,.tmp 37],oS 12 2 38]
 zC6) (.ret)) (oQ [2,1,3,4] [oM 40 4,oe8 41 .eql 40 34,oM 39 41] (oC 39 (.seq (.regt
[2,1] false [oO 42 1,oT 43 (.callp zBU) 42,oS 12 2 43] zC9) (.ret)) (.seq (.reg [2,1,3,4] false [oM 45 4,oe8 46 .eql 45 35,oM 44 46]) (oC 44
 (oQ [2,1,3] [oM 47 3,oE 48 .add 47 1,oM 5 48] (.block 1 [2,3,1] (.loop [2,5,1,3] zH3))) (oQ [2,1,3,4] [oM 78 4,oc1 79 zA5 78,oM
 77 79] (oC 77 (oQ [2,1,3] [oO 80 1,ox1 81 zAI 80,⟨some
8,none,.alloc [.str []],[]⟩,oS 1 8 81] (.seq (.seq (.reg [2,1,8,3] true [oO 82 1,oN 83 82,oF 84 1 83,oO 85 84,oO 86 1,oN 87 86,oF 88 0 87,oO 89 88,oT 90 (.len
 true) 89,oX 91 .lss 85 90,oM 92 91,oWo 93 92 true 1,oW 94 92 true .nilchk 93,oWf 95 92 true 0 94,oWo 96 92 true 95,oWo 97 92 true 1,oW 98 92 true .nilchk 97,oWf
 99 92 true 1 98,oWo 100 92 true 99,oY 101 92 true .idxStr 96 100,og8 102 92 true
.eql 101 40,oI 103 .pick [.tmp 92,.tmp 102,oB false],oM 104 103,oWo 105 104 true 8,oW 106 104 true (.call zA4 true) 105,oI 107 .pick [.tmp 104,.tmp
 106,oB false]]) (oC 107 (.seq (.regt [2,1,8,3] false [oO 108 1,oM 109 3,oD 110 (.mkFn zAN 0) 1 8,oI 111 (.callp zp)
 [.tmp 108,.tmp 109,.tmp 110],oS 12 2 111] zC6) (.ret)) (.skip))) (oQ [2,3,1,8]
[oO 113 8,oc1 114 zAx 113,oM 112 114,oe 115 0 112,oe 116 1 112,oA 9 oZ,oS 12 9 115,oM 10 116] (oQ [2,9,3,1,10] [oM 117 10] (.cond (.tmp 117) (oQ
 [2,9] [oL 118 12 true 9,oS 12 2 118] (.ret)) (.skip)))))) (.skip))))))))))) (.seq (.regt [2,3,1] false [oO 119 1,oM 120 3,oI 121 (.mkIface zO) [oK 2],oI
 122 (.callp zV) [.tmp 119,.tmp 120,.tmp 121]] zC5) (oQ [2]
[⟨some 123,none,.build oZ [],[]⟩,oS 12 2 123] (.ret))))))
def zAA:AF:=oAF [.cell 2 12 true] zJK
def zQ5:AC:=oQ [0,1] [oi 4 oNs] (.seq (oQ [0,1] [oM 7 0,oI 8 (.bin .eql) [.tmp 7,oNs],oM 9 8,oV 10 9 false 1,oG 11 9 false (.bin .eql) [.tmp
 10,oNs],oP 12 9 true 11] (oC 12 (oQ [0] [oM 13 0,oM 4 13] (.ret)) (.skip))) (.seq (oQ [1,0] [oM 14 1,oT 15 (.len true) 14,oE 16 .eql 15 1,oM 17 16,oV 18 17 true
 1,oG 19 17 true .idxStr [.tmp 18,oK 0],og8 20 17 true .lss 19 128,oI 21 .pick [.tmp
17,.tmp 20,oB false]] (oC 21 (.seq (.reg [1,0] true [oM 22 0,oM 23 1,oI 24 .idxStr [.tmp 23,oK 0],oc2 25 zIa 22 24,oM 26 1,oI 27 .idxStr
 [.tmp 26,oK 0],oc2 28 zJI 25 27,oM 4 28]) (.ret)) (.skip))) (.seq (oQ [0,1] [oM 30 1,oc1 31 zBV 30,oM 29 31,oe 32 0 29,oe
 33 1 29,⟨some 5,none,.alloc (List.replicate 256 (.bool false)),[]⟩,oS 256 5 32,oM 6
33] (oQ [5,0,1,6] [oM 34 6] (oC 34 (oQ [5,0] [oM 35 0,oc2 36 zBC 35 5,oc2 37 zBM 36 5,oM 4 37] (.ret)) (.skip)))) (oQ
 [1,0] [oM 38 0,oM 39 1,oc2 40 zGk 38 39,oM 41 1,oc2 42 zHP 40 41,oM 4 42] (.ret)))))
def zHW:AF:=oAF [.tmp 4] zQ5
def zH4:AC:=oQ [0,2,1] [oI 6 .mv [.const (.nilp)]] (oQ [0,2,1] [oM 7 0,oM 8 2,oN 9 7,oF 10 1 9,oS 1 10 8] (oQ [0,2,1] [oM 11 0,oM 12
 1,oM 13 12,oV 14 13 true 2,oW 15 13 true (.len false) 14,oEG 16 13 true .gtr 15 0,oI 17 .pick [.tmp 13,.tmp 16,oB false],oN 18 11,oF 19 0 18,oS 1 19 17] (oQ [0]
 [oM 20 0,oM 6 20] (.ret))))
def zCt:AF:=oAF [.tmp 6] zH4
def zKc:AC:=.seq (oQ [6,5,1,0,8,7] [oM 29 8,oM 30 1,zEN 31 30,oX 32 .lss 29 31] (.cond (.tmp 32) (.skip) (.exit 2))) (.seq (.block 3
 [6,5,1,0,7,8] (.seq (.reg [6,5,1,0,8,7] true [oM 35 7,oM 36 0,oM 37 6,oXI 38 1 36 37,oO 39 38,oT 40 (.convInt .u64) 39,oM 41 1,oM 42 8,oXI 43 1 41 42,oO 44 43,oT
 45 (.convInt .u64) 44,oX 46 .mul 40 45,oM 47 5,oM 48 6,oM 49 8,oX 50 .add 48 49,oXI
51 1 47 50,oO 52 51,oT 53 (.convInt .u64) 52,oX 54 .add 46 53,oX 55 .add 35 54,oM 7 55]) (oQ [6,5,1,0,8,7] [oM 56 5,oM 57 6,oM 58 8,oX 59 .add 57 58,oM 60 7,oT
 61 (.convInt .u32) 60,oXI 62 1 56 59,oS 1 62 61] (oR [6,5,1,0,8,7] [oM 63 7,oI 64 (.bin .shr) [.tmp 63,.const (.int .u64 32)],oM 7 64])))) (oR [6,5,1,0,7,8] [oM
 33 8,oE 34 .add 33 1,oM 8 34]))
def zKd:AC:=.seq (oQ [6,5,1,0] [oM 23 6,oM 24 0,zEN 25 24,oX 26 .lss 23 25] (oC 26 (.skip) (.exit 0))) (.seq (.block 1 [5,1,0,6] (oQ
 [6,5,1,0] [oI 7 .mv [.const (.int .u64 0)]] (.seq (oQ [6,5,1,0,7] [oi 8 (oK 0)] (.block 2 [5,1,0,6,7] (.loop [8,6,5,1,0,7] zKc))) (oR
 [5,1,0,6,7] [oM 65 5,oM 66 6,oM 67 1,zEN 68 67,oX 69 .add 66 68,oM 70 7,oT 71 (.convInt .u32)
70,oXI 72 1 65 69,oS 1 72 71])))) (oR [5,1,0,6] [oM 27 6,oE 28 .add 27 1,oM 6 28]))
def zMK:AC:=oQ [1,0] [oi 4 oNl] (.seq (oQ [1,0] [oM 9 0,zEN 10 9,oE 11 .eql 10 0,oM 12 11,oV 13 12 false 1,oW 14 12 false (.len false) 13,oEG
 15 12 false .eql 14 0,oP 16 12 true 15] (oC 16 (oQ [] [oi 4 oNl] (.ret)) (.skip))) (oQ [1,0] [oM 17 0,zEN 18 17,oM 19 1,zEN 20 19,oX 21 .add 18 20,⟨some
 22,none,.make 1 4 (.int .u32 0),[.tmp 21,.tmp 21]⟩,oM 5 22] (.seq (oQ [5,1,0] [oi 6
(oK 0)] (.block 0 [5] (.loop [6,5,1,0] zKd))) (oQ [5] [oM 73 5,oc1 74 zAG 73,oM 4 74] (.ret)))))
def zG7:AF:=oAF [.tmp 4] zMK
def zML:AC:=oQ [3,1,0,2] [oi 8 (oB false),oi 9 oNl] (.seq (.seq (.reg [3,1,0,2] false [oM 10 0,oM 11 2,oD 12 (.eqb false) 10 11]) (oC 12 (oQ
 [3,1,0] [oM 13 0,oM 14 1,oM 15 3,oc2 16 zDY 14 15,oM 8 13,oM 9 16] (.ret)) (.skip))) (.seq (oQ [3,1,0,2] [oM 17 1,oM 18 3,oc2 19
 zDZ 17 18,oE 20 .geq 19 0] (oC 20 (oQ [3,1,0] [oM 21 0,oM 22 1,oM 23 3,oc2 24
zCL 22 23,oM 8 21,oM 9 24] (.ret)) (.skip))) (oQ [1,3,2] [oM 25 2,oM 26 3,oM 27 1,oc2 28 zCL 26 27,oM 8 25,oM 9 28] (.ret))))
def zG8:AF:=oAF [.tmp 8,.tmp 9] zML
def zLN:AC:=oQ [0] [oi 2 oNl] (oQ [0] [oM 3 0,oI 4 (.append 1 4) [oNl,.tmp 3],oM 2 4] (.ret))
def zGU:AF:=oAF [.tmp 2] zLN
def zGV:AC:=oQ [0] [oi 2 (oB false)] (oQ [0] [oM 4 0,oN 5 4,oF 6 1 5,oO 7 6,oc1 8 zCM 7,oM 3 8] (oQ [0,3] [oM 9
 3,oE 10 .lss 9 64,oM 11 10,oV 12 11 false 3,oEG 13 11 false .eql 12 64,oV 14 11 false 13,oV 15 14 true 0,oW 16 14 true .nilchk 15,oWf 17 14 true 0 16,oWo 18 14
 true 17,oG 19 11 false .pick [.tmp 14,.tmp 18,oB false],oV 20 11 false 19,oV 21 20
true 0,oW 22 20 true (.call zAU true) 21,oG 23 20 true (.bin .eql) [.tmp 22,.const (.int .u64 63)],oG 24 11 false .pick [.tmp
 20,.tmp 23,oB false],oP 25 11 true 24,oM 2 25] (.ret)))
def zDl:AF:=oAF [.tmp 2] zGV
def zGp:AC:=oQ [0] [oI 2 .mv [.const (.int .u64 0)]] (oQ [0] [oI 3 .mv [.const (.int .u64 0)]] (.seq (oQ [0,3] [oM 4 0,oN 5 4,oF 6 1
 5,oO 7 6,zEN 8 7,oE 9 .gtr 8 0] (oC 9 (oR [0] [oM 10 0,oN 11 10,oF 12 1 11,oO 13 12,oI 14 (.idxAddr 1) [.tmp 13,oK 0],oO 15 14,oT 16 (.convInt .u64) 15,oM 3
 16]) (.skip))) (.seq (oQ [0,3] [oM 17 0,oN 18 17,oF 19 1 18,oO 20 19,zEN 21 20,oE
22 .gtr 21 1] (oC 22 (.reg [0,3] false [oM 23 3,oM 24 0,oN 25 24,oF 26 1 25,oO 27 26,oI 28 (.idxAddr 1) [.tmp 27,oK 1],oO 29 28,oT 30 (.convInt .u64) 29,oI 31
 (.bin .shl) [.tmp 30,.const (.int .u64 32)],oX 32 .or 23 31,oM 3 32]) (.skip))) (oQ [3] [oM 33 3,oM 2 33] (.ret)))))
def zD4:AF:=oAF [.tmp 2] zGp
def zKe:AC:=oQ [0] [oi 2 oNl] (oQ [0] [oM 3 0,oT 4 (.convInt .u32) 3,oM 5 0,oI 6 (.bin .shr) [.tmp 5,.const (.int .u64 32)],oT 7 (.convInt
 .u32) 6,oD 8 (.bslice 1) 4 7,oc1 9 zAG 8,oM 2 9] (.ret))
def zFy:AF:=oAF [.tmp 2] zKe
def zJL:AC:=.seq (oQ [1,6,0,8,7] [oM 15 8,oE 16 .geq 15 0] (oC 16 (.skip) (.exit 0))) (.seq (.block 1 [1,6,0,7,8] (oQ [1,6,0,8,7] [oM 19
 7,oI 20 (.bin .shl) [.tmp 19,.const (.int .u64 32)],oM 21 0,oM 22 8,oXI 23 1 21 22,oO 24 23,oT 25 (.convInt .u64) 24,oX 26 .or 20 25,oM 7 26] (oQ [1,6,0,8,7] [oM
 27 6,oM 28 8,oM 29 7,oM 30 1,oT 31 (.convInt .u64) 30,oX 32 .quo 29 31,oT 33
(.convInt .u32) 32,oXI 34 1 27 28,oS 1 34 33] (oR [1,6,0,8,7] [oM 35 7,oM 36 1,oT 37 (.convInt .u64) 36,oX 38 .rem 35 37,oM 7 38])))) (oR [1,6,0,7,8] [oM 17 8,oE
 18 .sub 17 1,oM 8 18]))
def zKf:AC:=oQ [1,0] [oi 4 oNl,oI 5 .mv [.const (.int .u32 0)]] (.seq (.reg [1,0] false [oM 9 0,zEN 10 9,⟨some 11,none,.make 1 4 (.int .u32
 0),[.tmp 10,.tmp 10]⟩,oM 6 11]) (oQ [1,6,0] [oI 7 .mv [.const (.int .u64 0)]] (.seq (oQ [1,6,0,7] [oM 12 0,zEN 13 12,oE 14 .sub 13 1,oM 8 14] (.block 0 [7,6]
 (.loop [8,1,6,0,7] zJL))) (oQ [7,6] [oM 39 6,oc1 40
zAG 39,oM 41 7,oT 42 (.convInt .u32) 41,oM 4 40,oM 5 42] (.ret)))))
def zFz:AF:=oAF [.tmp 4,.tmp 5] zKf
def zHX:AC:=oQ [0] [oA 1 oZ] (oQ [1,0] [oO 3 0,oN 4 3,oF 5 1 4,oO 6 5,oE 7 .add 6 1,oN 8 3,oF 9 1 8,oS 1 9 7] (.seq (.regt [1,0] false
 [oO 10 0,oI 11 (.callp zj) [.tmp 10,oK 0],oA 2 oZ,oS 12 2 11] zC5) (.seq (.regt [1,2,0] false [oO 12 0,oI 13 (.callp z8)
 [.tmp 12,.const (.int .u8 41)]] (.step 0 (.step 1 (.done)))) (oQ [1,2] [oL 14 12
true 2,oS 12 1 14] (.ret)))))
def zCV:AF:=oAF [.cell 1 12 true] zHX
def zJM:AC:=oQ [0,1] [oM 4 0,ox1 5 zW 4] (.seq (.seq (.reg [0,1] true [oM 6 0,oN 7 6,oF 8 1 7,oO 9 8,oM 10 0,oN 11
 10,oF 12 0 11,oO 13 12,oT 14 (.len true) 13,oX 15 .eql 9 14,oM 16 15,oV 17 16 false 0,oW 18 16 false .nilchk 17,oWf 19 16 false 0 18,oWo 20 16 false 19,oV 21 16
 false 0,oW 22 16 false .nilchk 21,oWf 23 16 false 1 22,oWo 24 16 false 23,oY 25
16 false .idxStr 20 24,oV 26 16 false 1,oXG 27 16 false .neq 25 26,oP 28 16 true 27]) (oC 28 (.regt [0] false [oM 29 0,oM 30 0,oN 31 30,oF 32 1 31,oO 33 32,oI 34
 (.mkIface zO) [oK 2],oI 35 (.callp zV) [.tmp 29,.tmp 33,.tmp 34]] zC25) (.skip))) (oR [0] [oM 36 0,oN 37 36,oF 38 1 37,oO 39 38,oE
 40 .add 39 1,oN 41 36,oF 42 1 41,oS 1 42 40]))
def zDS:AF:=oAF [] zJM
def zH5:AC:=.seq (.seq (.reg [2,4,0,3] true [oM 16 0,oN 17 16,oF 18 1 17,oO 19 18,oM 20 0,oN 21 20,oF 22 0 21,oO 23 22,oT 24 (.len true)
 23,oX 25 .lss 19 24]) (oC 25 (.skip) (.exit 0))) (.seq (.block 1 [2,4,0,3] (.seq (.seq (.reg [2,4,0,3] true [oM 33 0,oN 34 33,oF 35 0 34,oO 36 35,oM 37 0,oN 38
 37,oF 39 1 38,oO 40 39,oXs 41 36 40,oe8 42 .eql 41 34]) (oC 42 (oQ [2,4,0,3]
[oM 43 0,oN 44 43,oF 45 1 44,oO 46 45,oE 47 .add 46 1,oN 48 43,oF 49 1 48,oS 1 49 47] (.seq (.reg [2,4,0,3] true [oM 50 0,oN 51 50,oF 52 1 51,oO 53 52,oM 54 0,oN
 55 54,oF 56 0 55,oO 57 56,oT 58 (.len true) 57,oX 59 .eql 53 58,oM 60 59,oV 61 60 false 0,oW 62 60 false .nilchk 61,oWf 63 60 false 0 62,oWo 64 60 false 63,oV 65
 60 false 0,oW 66 60 false .nilchk 65,oWf 67 60 false 1 66,oWo 68 60 false
67,oY 69 60 false .idxStr 64 68,og8 70 60 false .neq 69 34,oP 71 60 true 70]) (oC 71 (oQ [2,4] [oM 72 4,oT 73 .bytesToStr 72,⟨some 74,none,.build oZ
 [(0,1),(2,1)],[oK 2,.tmp 73]⟩,oS 12 2 74] (.ret)) (.skip)))) (.skip))) (.reg [2,0,3,4] true [oM 75 4,oM 76 0,oN 77 76,oF 78 0 77,oO 79 78,oM 80 0,oN 81 80,oF 82
 1 81,oO 83 82,oXs 84 79 83,oT 85 (.bslice 1) 84,oD 86 (.append 1 1) 75 85,oM 4 86]))) (oR
[2,4,0,3] [oM 26 0,oN 27 26,oF 28 1 27,oO 29 28,oE 30 .add 29 1,oN 31 26,oF 32 1 31,oS 1 32 30]))
def zJN:AC:=oQ [0] [oA 2 oZ] (oQ [2,0] [oM 5 0,oN 6 5,oF 7 1 6,oO 8 7,oM 3 8] (oQ [2,0,3] [oi 4 oNl] (.seq (oQ [2,4,0,3] [oM 9 0,oN 10
 9,oF 11 1 10,oO 12 11,oE 13 .add 12 1,oN 14 9,oF 15 1 14,oS 1 15 13] (.block 0 [2,3,0] (.loop [2,4,0,3] zH5))) (.seq (.regt [2,3,0] false
 [oM 87 0,oM 88 3,oI 89 (.mkIface zO) [oK 2],oI 90 (.callp
zV) [.tmp 87,.tmp 88,.tmp 89]] zC5) (oQ [2] [⟨some 91,none,.build oZ [],[]⟩,oS 12 2 91] (.ret))))))
def zDT:AF:=oAF [.cell 2 12 true] zJN
def zNR:AC:=oQ [2,0,13,14] [oE 15 .lss 14 7] (.seq (oC 15 (.skip) (.exit 1)) (.seq (.block 2 [2,0,13,14] (oQ [2,0,13,14] [oM 16 14,oD 17
 (.idxAgg 1 7 false) 13 14,oM 4 16,oM 5 17] (oQ [2,4,0,13,14,5] [oM 18 5,oM 19 0,oX 20 .eql 18 19,oM 21 20,oV 22 21 true 0,oG 23 21 true (.bin .neq) [.tmp
 22,oNs],oI 24 .pick [.tmp 21,.tmp 23,oB false]] (oC 24 (oQ [2,4] [oM 25 4,oc1 26
zCK 25,oS 3 2 26,oi 3 (oB true)] (.ret)) (.skip))))) (oR [2,0,13,14] [oE 27 .add 14 1,oM 14 27])))
def zPw:AC:=oQ [0] [oA 2 zV3,oi 3 (oB false)] (.seq (oQ [2,0] [oM 6 0] (.block 0 [2,0] (oQ [2,0,6] [oI 8 (.bin
 .eql) [.tmp 6,.const (.str [84,82,85,69])],oM 7 8] (oC 7 (oQ [2] [oI 9 (.call zCm true) [oB true],oS 3 2 9,oi 3 (oB true)] (.ret)) (oQ [2,0,6] [oI 11
 (.bin .eql) [.tmp 6,.const (.str [70,65,76,83,69])],oM 10 11] (oC 10 (oQ [2] [oI 12
(.call zCm true) [oB false],oS 3 2 12,oi 3 (oB true)] (.ret)) (.skip))))))) (.seq (oQ [2,0] [oI 13 (.load 7 true) [.glob zEv],oi 14 (oK 0)]
 (.block 1 [2] (.loop [2,14,0,13] zNR))) (oQ [2] [⟨some 28,none,.build zV3 [],[]⟩,oS 3 2 28,oi 3 (oB false)] (.ret))))
def zGW:AF:=oAF [.cell 2 3 true,.tmp 3] zPw
def zOY:AC:=oQ [0] [oi 2 (oB false)] (oQ [0] [oM 3 0,oe8 4 .eql 3 36,oM 5 4,oV 6 5 false 0,og8 7 5 false .geq 6 48,oV 8 5 false 7,oV 9 8 true
 0,og8 10 8 true .leq 9 57,oG 11 5 false .pick [.tmp 8,.tmp 10,oB false],oP 12 5 true 11,oM 13 12,oV 14 13 false 0,og8 15 13 false .geq 14 65,oV 16 13 false 15,oV
 17 16 true 0,og8 18 16 true .leq 17 90,oG 19 13 false .pick [.tmp 16,.tmp 18,oB
false],oP 20 13 true 19,oM 21 20,oV 22 21 false 0,og8 23 21 false .geq 22 97,oV 24 21 false 23,oV 25 24 true 0,og8 26 24 true .leq 25 122,oG 27 21 false .pick
 [.tmp 24,.tmp 26,oB false],oP 28 21 true 27,oM 2 28] (.ret))
def zEU:AF:=oAF [.tmp 2] zOY
def zH6:AC:=.seq (.seq (.reg [0,3] true [oM 8 0,oN 9 8,oF 10 1 9,oO 11 10,oM 12 0,oN 13 12,oF 14 0 13,oO 15 14,oT 16 (.len true) 15,oX
 17 .lss 11 16,oM 18 17,oV 19 18 true 0,oW 20 18 true .nilchk 19,oWf 21 18 true 0 20,oWo 22 18 true 21,oV 23 18 true 0,oW 24 18 true .nilchk 23,oWf 25 18 true 1
 24,oWo 26 18 true 25,oY 27 18 true .idxStr 22 26,oW 28 18 true (.call
zA5 true) 27,oI 29 .pick [.tmp 18,.tmp 28,oB false]]) (oC 29 (.skip) (.exit 0))) (.block 1 [0,3] (oR [0,3] [oM 30 0,oN 31 30,oF 32 1 31,oO 33 32,oE
 34 .add 33 1,oN 35 30,oF 36 1 35,oS 1 36 34]))
def zJO:AC:=oQ [0] [oi 2 oNs] (oQ [0] [oM 4 0,oN 5 4,oF 6 1 5,oO 7 6,oM 3 7] (.seq (.block 0 [0,3] (.loop [0,3] zH6))
 (.seq (.reg [0,3] true [oM 37 0,oN 38 37,oF 39 0 38,oO 40 39,oM 41 3,oM 42 0,oN 43 42,oF 44 1 43,oO 45 44,oI 46 (.slc none true true) [.tmp 40,.tmp 41,.tmp
 45],oM 2 46]) (.ret))))
def zDU:AF:=oAF [.tmp 2] zJO
def zHY:AC:=oQ [1,0] [oA 2 oZ] (.seq (.regt [2,1,0] false [oO 3 0,oO 4 1,oD 5 (.callp zB5) 3 4,oS 12 2 5] zC5)
 (.ret))
def zCW:AF:=oAF [.cell 2 12 true] zHY
def zEj:AC:=.block 1 [0,4,5] (.seq (.regt [0,4,5] true [oF 47 11 5,oO 48 47,oM 49 0,oT 50 (.callp zBS) 49,oT 51
 (.bslice 12) 50,oD 52 (.append 12 104) 48 51,oF 53 11 5,oS 1 53 52] (.step 0 (.step 2 (.alt (.step 1 (.step 3 (.step 4 (.step 5 zhI)))) (.step 3 (.alt (.step 1
 (.step 4 (.step 5 zhI))) (.step 4 (.step 1 (.step 5 zhI))))))))) (oQ [0,4,5]
[oM 54 0,ox1 55 zW 54] (.seq (.seq (.reg [0,4,5] true [oM 56 0,oN 57 56,oF 58 1 57,oO 59 58,oM 60 0,oN 61 60,oF 62 0 61,oO 63 62,oT 64
 (.len true) 63,oX 65 .lss 59 64,oM 66 65,oV 67 66 true 0,oW 68 66 true .nilchk 67,oWf 69 66 true 0 68,oWo 70 66 true 69,oV 71 66 true 0,oW 72 66 true .nilchk
 71,oWf 73 66 true 1 72,oWo 74 66 true 73,oY 75 66 true .idxStr 70 74,og8 76 66 true
.eql 75 44,oI 77 .pick [.tmp 66,.tmp 76,oB false]]) (oC 77 (oQ [0,4,5] [oM 78 0,oN 79 78,oF 80 1 79,oO 81 80,oE 82 .add 81 1,oN 83 78,oF 84 1 83,oS 1 84 82]
 (.exit 1)) (.skip))) (.seq (.regt [4,5,0] false [oM 85 0,oI 86 (.callp z8) [.tmp 85,.const (.int .u8 41)]] (.step 0 (.step 1 (.done)))) (oQ
 [4,5] [oL 87 12 true 5,oS 12 4 87] (.ret))))))
def zJP:AC:=oQ [0,1] [oA 4 oZ] (oQ [4,0,1] [oM 6 1,⟨some 7,none,.build oZ [(0,1),(2,1)],[oK 9,.tmp 6]⟩,oA 5 oZ,oS 12 5 7] (oQ [4,5,0] [oM
 8 0,oN 9 8,oF 10 1 9,oO 11 10,oE 12 .add 11 1,oN 13 8,oF 14 1 13,oS 1 14 12] (oQ [4,5,0] [oM 15 0,ox1 16 zW 15] (.seq (.seq (.reg [4,5,0]
 true [oM 17 0,oN 18 17,oF 19 1 18,oO 20 19,oM 21 0,oN 22 21,oF 23 0 22,oO 24
23,oT 25 (.len true) 24,oX 26 .lss 20 25,oM 27 26,oV 28 27 true 0,oW 29 27 true .nilchk 28,oWf 30 27 true 0 29,oWo 31 27 true 30,oV 32 27 true 0,oW 33 27 true
 .nilchk 32,oWf 34 27 true 1 33,oWo 35 27 true 34,oY 36 27 true .idxStr 31 35,og8 37 27 true .eql 36 41,oI 38 .pick [.tmp 27,.tmp 37,oB false]]) (oC 38 (.seq
 (.reg [4,5,0] false [oM 39 0,oN 40 39,oF 41 1 40,oO 42 41,oE 43 .add 42 1,oN 44 39,oF
45 1 44,oS 1 45 43]) (.seq (.reg [4,5] false [oL 46 12 true 5,oS 12 4 46]) (.ret))) (.skip))) (.block 0 [4] (.loop [0,4,5] zEj))))))
def zB6:AF:=oAF [.cell 4 12 true] zJP
def zPx:AC:=oQ [0] [oA 2 oZ,oi 3 (oB false)] (.seq (oQ [2,0] [oM 11 0,oc1 12 zDD 11,oM 10 12,oe 13 0 10,oe 14 1 10,oM 4 13,oM 5 14] (oQ
 [2,4,0,5] [oM 15 5] (oC 15 (oQ [2,4] [oM 16 4,⟨some 17,none,.build oZ [(0,1),(1,1)],[oK 1,.tmp 16]⟩,oS 12 2 17,oi 3 (oB true)] (.ret)) (.skip)))) (.seq (oQ [2,0]
 [oM 19 0,oc1 20 zAd 19,oM 18 20,oe 21 0 18,oe 22 1 18,oA 6 [.int
.i64 0,.int .i64 0,.str []],oS 3 6 21,oM 7 22] (oQ [2,6,0,7] [oM 23 7] (oC 23 (oQ [2,6] [oF 24 1 6,oO 25 24,⟨some 26,none,.build oZ [(0,1),(1,1)],[oK 3,.tmp
 25]⟩,oS 12 2 26,oi 3 (oB true)] (.ret)) (.skip)))) (.seq (.seq (.reg [2,0] false [oM 28 0,oc1 29 zBg 28,oM 27 29,oe 30 0 27,oe 31 1 27,oA 8 [.int .i64
 0,.int .i64 0,.bool false,.bool false],oS 4 8 30,oM 9 31]) (oQ [2,8,9] [oM 32 9,oI 33
(.eqn .iface false true) [.tmp 32,oNi]] (.cond (.tmp 33) (oQ [2,8] [oL 34 4 true 8,⟨some 35,none,.build oZ [(0,1),(3,4)],[oK 5,.tmp 34]⟩,oS 12 2 35,oi 3 (oB
 true)] (.ret)) (.skip)))) (oQ [2] [⟨some 36,none,.build oZ [],[]⟩,oS 12 2 36,oi 3 (oB false)] (.ret)))))
def zGX:AF:=oAF [.cell 2 12 true,.tmp 3] zPx
def zH7:AC:=.seq (oQ [2,0,4] [oM 6 4,oM 7 0,oT 8 (.len true) 7,oX 9 .lss 6 8] (oC 9 (.skip) (.exit 0))) (.seq (.block 1 [2,0,4] (oQ
 [2,0,4] [oM 12 0,oM 13 4,oXs 14 12 13,oM 5 14] (.seq (oQ [2,0,4,5] [oM 15 5,oe8 16 .geq 15 128] (oC 16 (oQ [2] [oL 17 256 true 2,oS 256 2 17,oi 3 (oB false)]
 (.ret)) (.skip))) (oR [2,0,4,5] [oM 18 5,oD 19 (.idxArr 1 256) 2 18,oJ (.store 1)
[.tmp 19,oB true]])))) (oR [2,0,4] [oM 10 4,oE 11 .add 10 1,oM 4 11]))
def zJQ:AC:=oQ [0] [⟨some 2,none,.alloc (List.replicate 256 (.bool false)),[]⟩,oi 3 (oB false)] (.seq (oQ [2,0] [oi 4 (oK 0)] (.block 0
 [2] (.loop [2,4,0] zH7))) (oQ [2] [oL 20 256 true 2,oS 256 2 20,oi 3 (oB true)] (.ret)))
def zDV:AF:=oAF [.cell 2 256 true,.tmp 3] zJQ
abbrev zC24:AC:=(oQ [0,1] [oM 5 0,oT 6 (.len true) 5,oE 7 .gtr 6 0] (oC 7 (.skip) (.exit 0)))
def zHZ:AC:=.seq zC24 (.block 1 [0,1] (.seq (oQ [0,1] [oM 8 1,oM 9 0,oI 10 .idxStr [.tmp 9,oK 0],oc2 11 zz
 8 10,oUn 12 11] (oC 12 (.exit 0) (.skip))) (oR [1,0] [oM 13 0,oI 14 (.slc none true false) [.tmp 13,oK 1],oM 0 14])))
def zIi:AC:=oQ [0,1] [oi 4 oNs] (.seq (.block 0 [0] (.loop [0,1] zHZ)) (oQ [0] [oM 15 0,oM 4 15] (.ret)))
def zDF:AF:=oAF [.tmp 4] zIi
def zGq:AC:=.seq zC24 (.block 1 [0,1] (.seq (oQ [0,1] [oM 8 1,oM 9 0,oM 10 0,oT 11 (.len true) 10,oE 12 .sub 11 1,oXs 13 9 12,oc2 14
 zz 8 13,oUn 15 14] (oC 15 (.exit 0) (.skip))) (oR [1,0] [oM 16 0,oM 17 0,oT 18 (.len true) 17,oE 19 .sub 18 1,oD 20 (.slc none false
 true) 16 19,oM 0 20])))
def zH8:AC:=oQ [0,1] [oi 4 oNs] (.seq (.block 0 [0] (.loop [0,1] zGq)) (oQ [0] [oM 21 0,oM 4 21] (.ret)))
def zCu:AF:=oAF [.tmp 4] zH8
def zJ0:AC:=.seq (oQ [0,3] [oM 6 3,oE 7 .gtr 6 0,oM 8 7,oV 9 8 true 0,oV 10 8 true 3,oEG 11 8 true .sub 10 1,oYI 12 8 true 1 9 11,oWo 13 8
 true 12,oG 14 8 true (.bin .eql) [.tmp 13,.const (.int .u32 0)],oI 15 .pick [.tmp 8,.tmp 14,oB false]] zjQ) (.block 1 [3,0] (oR [0,3] [oM 16 3,oE 17 .sub 16
 1,oM 3 17]))
def zLO:AC:=oQ [0] [oi 2 oNl] (oQ [0] [oM 4 0,zEN 5 4,oM 3 5] (.seq (.block 0 [3,0] (.loop [3,0] zJ0)) (oQ [3,0] [oM 18
 0,oM 19 3,oD 20 (.slc (some 1) false true) 18 19,oM 2 20] (.ret))))
def zGY:AF:=oAF [.tmp 2] zLO
def zKg:AC:=.seq (oQ [5,1,0,7,6] [oM 19 7,oM 20 0,zEN 21 20,oX 22 .lss 19 21] (oC 22 (.skip) (.exit 0))) (.seq (.block 1 [5,1,0,6,7] (oQ
 [5,1,0,7,6] [oM 25 6,oM 26 0,oM 27 7,oXI 28 1 26 27,oO 29 28,oT 30 (.convInt .u64) 29,oX 31 .add 25 30,oM 6 31] (.seq (oQ [5,1,0,7,6] [oM 32 7,oM 33 1,zEN 34
 33,oX 35 .lss 32 34] (oC 35 (oR [5,1,0,7,6] [oM 36 6,oM 37 1,oM 38 7,oXI 39 1 37
38,oO 40 39,oT 41 (.convInt .u64) 40,oX 42 .add 36 41,oM 6 42]) (.skip))) (oQ [5,1,0,7,6] [oM 43 5,oM 44 7,oM 45 6,oT 46 (.convInt .u32) 45,oXI 47 1 43 44,oS 1
 47 46] (oR [5,1,0,7,6] [oM 48 6,oI 49 (.bin .shr) [.tmp 48,.const (.int .u64 32)],oM 6 49]))))) (oR [5,1,0,6,7] [oM 23 7,oE 24 .add 23 1,oM 7 24]))
def zG9:AC:=oQ [0,1] [oi 4 oNl] (.seq (oQ [0,1] [oM 8 0,zEN 9 8,oM 10 1,zEN 11 10,oX 12 .lss 9 11] (oC 12 (oR [0,1] [oM 13 1,oM 14 0,oM 0
 13,oM 1 14]) (.skip))) (.seq (.reg [1,0] false [oM 15 0,zEN 16 15,oE 17 .add 16 1,⟨some 18,none,.make 1 4 (.int .u32 0),[.tmp 17,.tmp 17]⟩,oM 5 18]) (oQ [5,1,0]
 [oI 6 .mv [.const (.int .u64 0)]] (.seq (oQ [5,1,0,6] [oi 7 (oK 0)] (.block 0
[5,6,0] (.loop [7,5,1,0,6] zKg))) (oQ [5,6,0] [oM 50 5,oM 51 0,zEN 52 51,oM 53 6,oT 54 (.convInt .u32) 53,oXI 55 1 50 52,oS 1 55 54] (oQ [5]
 [oM 56 5,oc1 57 zAG 56,oM 4 57] (.ret)))))))
def zE2:AF:=oAF [.tmp 4] zG9
def zKh:AC:=.seq (oQ [5,1,0] [oM 19 5,oE 20 .geq 19 0] (oC 20 (.skip) (.exit 0))) (.seq (.block 1 [1,0,5] (.seq (.reg [5,1,0] true [oM 23
 0,oM 24 5,oXI 25 1 23 24,oO 26 25,oM 27 1,oM 28 5,oXI 29 1 27 28,oO 30 29,oX 31 .neq 26 30]) (oC 31 (.seq (.seq (.reg [5,1,0] true [oM 32 0,oM 33 5,oXI 34 1 32
 33,oO 35 34,oM 36 1,oM 37 5,oXI 38 1 36 37,oO 39 38,oX 40 .lss 35 39]) (oC 40 zC21
(.skip))) zjk) (.skip)))) (oR [1,0,5] [oM 21 5,oE 22 .sub 21 1,oM 5 22]))
def zMM:AC:=oQ [1,0] [oi 4 (oK 0)] (.seq (oQ [1,0] [oM 6 0,zEN 7 6,oM 8 1,zEN 9 8,oX 10 .neq 7 9] (oC 10 (.seq (oQ [1,0] [oM 11 0,zEN 12
 11,oM 13 1,zEN 14 13,oX 15 .lss 12 14] (oC 15 zC21 (.skip))) zjk) (.skip))) (.seq (oQ [1,0] [oM 16 0,zEN 17 16,oE 18 .sub 17 1,oM 5 18] (.block 0 [] (.loop
 [5,1,0] zKh))) (oQ [] [oi 4 (oK 0)] (.ret))))
def zHA:AF:=oAF [.tmp 4] zMM
def zKi:AC:=.seq (oQ [5,1,0,7,6] [oM 12 7,oM 13 0,zEN 14 13,oX 15 .lss 12 14] zjQ) (.seq (.block 1 [5,1,6,0,7] (oQ [5,1,0,7,6] [oM 18 0,oM
 19 7,oXI 20 1 18 19,oO 21 20,oT 22 (.convInt .u64) 21,oM 23 6,oX 24 .sub 22 23,oM 8 24] (.seq (oQ [5,1,0,7,8] [oM 25 7,oM 26 1,zEN 27 26,oX 28 .lss 25 27] (oC
 28 (oR [5,1,0,7,8] [oM 29 8,oM 30 1,oM 31 7,oXI 32 1 30 31,oO 33 32,oT 34
(.convInt .u64) 33,oX 35 .sub 29 34,oM 8 35]) (.skip))) (oQ [5,1,0,7,8] [oM 36 5,oM 37 7,oM 38 8,oT 39 (.convInt .u32) 38,oXI 40 1 36 37,oS 1 40 39] (oR
 [5,1,0,7,8] [oM 41 8,oI 42 (.bin .shr) [.tmp 41,.const (.int .u64 63)],oM 6 42]))))) (oR [5,1,6,0,7] [oM 16 7,oE 17 .add 16 1,oM 7 17]))
def zMN:AC:=oQ [1,0] [oi 4 oNl] (oQ [1,0] [oM 9 0,zEN 10 9,⟨some 11,none,.make 1 4 (.int .u32 0),[.tmp 10,.tmp 10]⟩,oM 5 11] (oQ [5,1,0] [oI
 6 .mv [.const (.int .u64 0)]] (.seq (oQ [5,1,6,0] [oi 7 (oK 0)] (.block 0 [5] (.loop [7,5,1,6,0] zKi))) (oQ [5] [oM 43 5,oc1 44
 zAG 43,oM 4 44] (.ret)))))
def zHB:AF:=oAF [.tmp 4] zMN
def zIj:AC:=.seq (oQ [0,4,3] [oM 14 4,oI 15 (.bin .neq) [.tmp 14,.const (.int .u32 0)]] zjQ) (.seq (.block 1 [3,0,4] (oR [0,4,3] [oM 18
 3,oE 19 .add 18 1,oM 3 19])) (oR [3,0,4] [oM 16 4,oI 17 (.bin .shr) [.tmp 16,.const (.int .u64 1)],oM 4 17]))
def zJ1:AC:=oQ [0] [oi 2 (oK 0)] (.seq (oQ [0] [oM 5 0,zEN 6 5,oE 7 .eql 6 0] (oC 7 zji (.skip))) (oQ [0] [oi 3 (oK 0)] (.seq (.seq (.reg
 [3,0] false [oM 8 0,oM 9 0,zEN 10 9,oE 11 .sub 10 1,oXI 12 1 8 11,oO 13 12,oM 4 13]) (.block 0 [3,0] (.loop [4,3,0] zIj))) (oQ [3,0] [oM 20
 0,zEN 21 20,oE 22 .sub 21 1,oE 23 .mul 22 32,oM 24 3,oX 25 .add 23 24,oM 2
25] (.ret)))))
def zFg:AF:=oAF [.tmp 2] zJ1
def zDz:AC:=.seq (oQ [0,3] [oM 10 0,oN 11 10,oF 12 1 11,oO 13 12,oM 14 3,oT 15 (.convInt .i64) 14,oc2 16
 zDa 13 15,oI 17 (.bin .eql) [.tmp 16,.const (.int .u64 0)]] (oC 17 (.skip) (.exit 0))) (.block 1 [3,0] (oR [0,3] [oM 18 3,oI 19 (.bin .add) [.tmp
 18,.const (.int .u64 1)],oM 3 19]))
def zEG:AC:=oQ [0] [oI 2 .mv [.const (.int .u64 0)]] (oQ [0] [oI 3 .mv [.const (.int .u64 0)]] (.seq (oQ [3,0] [oM 4 0,oN 5
 4,oF 6 1 5,oO 7 6,zEN 8 7,oE 9 .eql 8 0] (oC 9 (oQ [] [oI 2 .mv [.const (.int .u64 0)]] (.ret)) (.skip))) (.seq (.block 0 [3] (.loop [3,0]
 zDz)) (oQ [3] [oM 20 3,oM 2 20] (.ret)))))
def zBq:AF:=oAF [.tmp 2] zEG
def zGr:AC:=oQ [0] [oA 2 oZ] (oQ [2,0] [oM 7 0,ox1 8 zW 7] (oQ [2,0] [oM 9 0,oN 10 9,oF 11 1 10,oO 12 11,oM 3
 12] (oQ [2,0,3] [oM 14 0,ox1 15 zAI 14,oc1 16 zBg 15,oM 13 16,oe 17 0 13,oe 18 1 13,⟨some 4,none,.alloc [.int .i64 0,.int .i64 0,.bool
 false,.bool false],[]⟩,oS 4 4 17,oM 5 18] (.seq (.seq (.reg [2,0,3,4,5] true [oM
19 5,oI 20 (.eqn .iface true true) [.tmp 19,oNi],oM 21 20,oV 22 21 false 0,oW 23 21 false .nilchk 22,oWf 24 21 false 1 23,oWo 25 21 false 24,oV 26 21 false 0,oW
 27 21 false .nilchk 26,oWf 28 21 false 0 27,oWo 29 21 false 28,oW 30 21 false (.len true) 29,oXG 31 21 false .eql 25 30,oP 32 21 true 31,oM 33 32,oV 34 33 false
 0,oW 35 33 false .nilchk 34,oWf 36 33 false 0 35,oWo 37 33 false 36,oV 38 33
false 0,oW 39 33 false .nilchk 38,oWf 40 33 false 1 39,oWo 41 33 false 40,oY 42 33 false .idxStr 37 41,og8 43 33 false .neq 42 58,oP 44 33 true 43]) (oC 44 (oQ
 [2,0,3] [oM 45 0,oM 46 3,oN 47 45,oF 48 1 47,oS 1 48 46] (.seq (.regt [2,0] false [oM 49 0,oI 50 (.callp zj) [.tmp 49,oK 0],oS 12 2 50] zC9)
 (.ret))) (.skip))) (oQ [2,4,0] [oM 51 0,oN 52 51,oF 53 1 52,oO 54 53,oE 55 .add
54 1,oN 56 51,oF 57 1 56,oS 1 57 55] (oQ [2,4,0] [oM 58 0,oN 59 58,oF 60 1 59,oO 61 60,oM 3 61] (oQ [2,4,3,0] [oM 63 0,ox1 64 zAI 63,oc1 65
 zBg 64,oM 62 65,oe 66 0 62,oe 67 1 62,⟨some 6,none,.alloc zV2,[]⟩,oS 4 6 66,oM 5 67] (.seq (oQ [2,6,4,3,0,5]
 [oM 68 5,oI 69 (.eqn .iface true true) [.tmp 68,oNi]] (oC 69 (.regt [2,6,4,3,0]
false [oM 70 0,oM 71 3,oI 72 (.mkIface zO) [oK 2],oI 73 (.callp zV) [.tmp 70,.tmp 71,.tmp 72]] zC5) (.skip))) (oQ [2,6,4] [oL 74 4
 true 4,oL 75 4 true 6,⟨some 76,none,.build oZ [(0,1),(3,4),(7,4)],[oK 6,.tmp 74,.tmp 75]⟩,oS 12 2 76] (.ret))))))))))
def zCD:AF:=oAF [.cell 2 12 true] zGr
def zSb:AC:=oQ [0] [oi 2 (oK 0),oi 3 (oB false)] (oQ [0] [oM 7 0,oI 8 (.call zBP true) [.tmp 7,.const (.str [45])],oM 4 8] (.seq
 (oQ [0,4] [oM 9 4,oI 10 (.bin .eql) [.tmp 9,oNs],oM 11 10,oV 12 11 false 4,oG 13 11 false .idxStr [.tmp 12,oK 0],og8 14 11 false .eql 13 48,oV 15 11 false 14,oV
 16 15 true 0,oG 17 15 true (.bin .neq) [.tmp 16,.const (.str [48])],oG 18 11
false .pick [.tmp 15,.tmp 17,oB false],oP 19 11 true 18,oM 20 19,oV 21 20 false 4,oG 22 20 false (.call zCU true) [.tmp 21,.const (.str
 [48,49,50,51,52,53,54,55,56,57])],oG 23 20 false (.bin .neq) [.tmp 22,oNs],oP 24 20 true 23] (oC 24 (oQ [] [oi 2 (oK 0),oi 3 (oB false)] (.ret)) (.skip))) (oQ
 [0] [oM 26 0,oc1 27 zBb 26,oM 25 27,oe 28 0 25,oe 29 1 25,oM 5 28,oM 6 29] (.seq
(.reg [6,5] true [oM 30 5,oM 31 6,oI 32 (.eqn .iface false true) [.tmp 31,oNi],oM 2 30,oM 3 32]) (.ret)))))
def zIk:AF:=oAF [.tmp 2,.tmp 3] zSb
def zUJ:AC:=oQ [2,52,53,54] [oX 55 .lss 54 53] (.seq (oC 55 (.skip) (.exit 0)) (.seq (.block 1 [2,52,53,54] (oQ [2,52,53,54] [oXI 56 1 52 54,oO 57
 56,oM 6 57] (.seq (oQ [2,52,53,54,6] [oM 58 6,oe8 59 .lss 58 48,oM 60 59,oV 61 60 false 6,og8 62 60 false .gtr 61 57,oP 63 60 true 62] (oC 63 (oQ [2] [⟨some
 64,none,.build zV2 [],[]⟩,oI 65
(.mkIface zO) [oK 2],oS 4 2 64,oM 3 65] (.ret)) (.skip))) (oR [2,52,53,54,6] [oF 66 0 2,oF 67 1 66,oO 68 67,oE 69 .mul 68 10,oM 70 6,oe8 71 .sub 70
 48,oT 72 (.convInt .i64) 71,oX 73 .add 69 72,oF 74 0 2,oF 75 1 74,oS 1 75 73])))) (oR [2,52,53,54] [oE 76 .add 54 1,oM 54 76])))
def zYT:AC:=oQ [0] [oT 1 .box 0,oA 2 zV2,oi 3 oNi] (oQ [2,1] [oT 7 (.mkFn zEs 0) 1,oM 4 7] (oQ
 [2,1,4] [oM 8 4,oT 9 (.callv false) 8,oF 10 2 2,oS 1 10 9] (.seq (oQ [2,1,4] [oO 11 1,oI 12 (.bin .eql) [.tmp 11,oNs],oM 13 12,oWo 14 13 false 1,oG 15 13 false
 .idxStr [.tmp 14,oK 0],og8 16 13 false .lss 15 65,oP 17 13 true 16,oM 18 17,oWo
19 18 false 1,oG 20 18 false .idxStr [.tmp 19,oK 0],og8 21 18 false .gtr 20 90,oP 22 18 true 21] (oC 22 (oQ [2] [⟨some 23,none,.build [.int .i64 0,.int .i64
 0,.bool false,.bool false] [],[]⟩,oI 24 (.mkIface zO) [oK 2],oS 4 2 23,oM 3 24] (.ret)) (.skip))) (oQ [2,1,4] [oO 25 1,oI 26 .idxStr [.tmp 25,oK 0],oe8
 27 .sub 26 65,oT 28 (.convInt .i64) 27,oE 29 .add 28 1,oF 30 0 2,oF 31 0 30,oS 1 31
29] (oQ [2,1,4] [oO 32 1,oI 33 (.slc none true false) [.tmp 32,oK 1],oS 1 1 33] (oQ [2,1,4] [oM 34 4,oT 35 (.callv false) 34,oF 36 3 2,oS 1 36 35] (.seq (oQ
 [2,1] [oO 37 1,oI 38 (.bin .eql) [.tmp 37,oNs],oM 39 38,oWo 40 39 false 1,oW 41 39 false (.len true) 40,oEG 42 39 false .gtr 41 2,oP 43 39 true 42,oM 44 43,oWo
 45 44 false 1,oG 46 44 false .idxStr [.tmp 45,oK 0],og8 47 44 false .eql 46 48,oP 48
44 true 47] (.cond (.tmp 48) (oQ [2] [⟨some 49,none,.build zV2 [],[]⟩,oI 50 (.mkIface zO) [oK 2],oS 4 2
 49,oM 3 50] (.ret)) (.skip))) (.seq (oQ [2,1] [oO 51 1,oT 52 .strToBytes 51,zEN 53 52,oi 54 (oK 0)] (.block 0 [2] (.loop [2,54,52,53] zUJ))) (oQ [2]
 [oL 77 4 true 2,oS 4 2 77,oi 3 oNi] (.ret))))))))))
def zNS:AF:=oAF [.cell 2 4 true,.tmp 3] zYT
def zFh:AC:=oQ [1,0] [oi 4 (oB false)] (oQ [1,0] [oM 5 0,oM 6 1,oN 7 5,oD 8 (.idxArr 1 256) 7 6,oO 9 8,oM 4 9] (.ret))
def zBe:AF:=oAF [.tmp 4] zFh
def zMO:AC:=oQ [1,0] [oI 4 .mv [.const (.int .u64 0)]] (.seq (oQ [1,0] [oM 5 1,oE 6 .lss 5 0,oM 7 6,oV 8 7 false 1,oEG 9 7 false .quo 8 32,oV
 10 7 false 0,oW 11 7 false (.len false) 10,oXG 12 7 false .geq 9 11,oP 13 7 true 12] (oC 13 (oQ [] [oI 4 .mv [.const (.int .u64 0)]] (.ret)) (.skip))) (oQ [1,0]
 [oM 14 0,oM 15 1,oE 16 .quo 15 32,oXI 17 1 14 16,oO 18 17,oM 19 1,oT 20
(.convInt .u64) 19,oI 21 (.bin .rem) [.tmp 20,.const (.int .u64 32)],oX 22 .shr 18 21,oT 23 (.convInt .u64) 22,oI 24 (.bin .and) [.tmp 23,.const (.int .u64
 1)],oM 4 24] (.ret)))
def zHC:AF:=oAF [.tmp 4] zMO
def zKj:AC:=oQ [1,0] [oi 4 oNs] (oQ [1,0] [oM 5 0,oM 6 1,oc2 7 zBD 5 6,oM 4 7] (.ret))
def zD8:AF:=oAF [.tmp 4] zKj
def zSc:AC:=oQ [0] [oi 1 (oB false)] (.seq (oQ [0] [oO 2 0,oI 3 (.bin .neq) [.tmp 2,oNs],oM 4 3,oWo 5 4 true 0,oG 6 4 true .idxStr [.tmp 5,oK
 0],og8 7 4 true .eql 6 36,oI 8 .pick [.tmp 4,.tmp 7,oB false]] (oC 8 (oQ [0] [oO 9 0,oI 10 (.slc none true false) [.tmp 9,oK 1],oS 1 0 10] (oQ [] [oi 1 (oB
 true)] (.ret))) (.skip))) (oQ [] [oi 1 (oB false)] (.ret)))
def zIl:AF:=oAF [.tmp 1] zSc
def zH9:AC:=oQ [1,0] [oi 4 oNs] (.seq (oQ [1,0] [oM 5 0,oM 6 1,oc2 7 zAZ 5 6] (oC 7 (oQ [1,0] [oM 8 0,oM 9 1,oT 10
 (.len true) 9,oD 11 (.slc none true false) 8 10,oM 4 11] (.ret)) (.skip))) (oQ [0] [oM 12 0,oM 4 12] (.ret)))
def zCv:AF:=oAF [.tmp 4] zH9
end Go.AM
