/- Abstract code, printed by a program of my own (wip/gen/Gen.lean.tpl) off the dump. -/
import Derived.Test.YtniijfcjdlhfcaaDoorDan
set_option linter.all false
namespace Go.AM
/- sccsettle/scclaw3.FindLike, 2 params, 0 free: [] -/
def b_scclaw3_FindLike : AC :=
  .seq (
   .reg [1, 0] false [⟨some 4, none, .mv, [.const (.bool false)]⟩]) (
   .seq (
    .reg [1, 0] false [⟨some 5, none, .mv, [.const (.int .i64 0)]⟩]) (
    .seq (
     .reg [1, 0, 5] false [⟨some 6, none, .mv, [.const (.bool false)]⟩]) (
     .seq (
      .seq (
       .reg [6, 1, 0, 5] false [⟨some 12, none, .mv, [.tmp 0]⟩,
         ⟨some 13, none, .len true, [.tmp 12]⟩,
         ⟨some 14, none, .bin .gtr, [.tmp 13, .const (.int .i64 200)]⟩,
         ⟨some 15, none, .mv, [.tmp 14]⟩,
         ⟨some 16, some (15, false), .mv, [.tmp 1]⟩,
         ⟨some 17, some (15, false), .len true, [.tmp 16]⟩,
         ⟨some 18, some (15, false), .bin .gtr, [.tmp 17, .const (.int .i64 200)]⟩,
         ⟨some 19, none, .pick, [.tmp 15, .const (.bool true), .tmp 18]⟩]) (
       .cond (.tmp 19) (
        .reg [6, 1, 0] false [⟨some 5, none, .mv, [.const (.int .i64 4)]⟩]) (
        .seq (
         .reg [5, 1, 0, 6] false [⟨some 21, none, .mv, [.tmp 1]⟩,
           ⟨some 22, none, .call f_sccref3_Masks true, [.tmp 21]⟩,
           ⟨some 20, none, .mv, [.tmp 22]⟩,
           ⟨some 23, none, .extract 0, [.tmp 20]⟩,
           ⟨some 24, none, .extract 1, [.tmp 20]⟩,
           ⟨some 7, none, .mv, [.tmp 23]⟩,
           ⟨some 8, none, .mv, [.tmp 24]⟩]) (
         .seq (
          .reg [5, 1, 0, 7, 6, 8] false [⟨some 25, none, .mv, [.tmp 8]⟩]) (
          .cond (.tmp 25) (
           .reg [5, 1, 0, 7] false [⟨some 26, none, .mv, [.tmp 0]⟩,
             ⟨some 27, none, .mv, [.tmp 7]⟩,
             ⟨some 28, none, .call f_sccref3_Like true, [.tmp 26, .tmp 27]⟩,
             ⟨some 6, none, .mv, [.tmp 28]⟩]) (
           .reg [6, 1, 0] false [⟨some 5, none, .mv, [.const (.int .i64 2)]⟩])))))) (
      .seq (
       .reg [6, 5, 1, 0] false [⟨some 30, none, .mv, [.tmp 0]⟩,
         ⟨some 31, none, .mv, [.tmp 1]⟩,
         ⟨some 32, none, .call f_find_Like true, [.tmp 30, .tmp 31]⟩,
         ⟨some 29, none, .mv, [.tmp 32]⟩,
         ⟨some 33, none, .extract 0, [.tmp 29]⟩,
         ⟨some 34, none, .extract 1, [.tmp 29]⟩,
         ⟨some 9, none, .mv, [.tmp 33]⟩,
         ⟨some 10, none, .mv, [.tmp 34]⟩]) (
       .seq (
        .reg [6, 9, 5, 10] false [⟨some 35, none, .mv, [.tmp 10]⟩,
          ⟨some 36, none, .mv, [.tmp 5]⟩,
          ⟨some 37, none, .call f_sccsame_Error true, [.tmp 35, .tmp 36]⟩,
          ⟨some 11, none, .mv, [.tmp 37]⟩]) (
        .seq (
         .reg [6, 9, 11] false [⟨some 38, none, .mv, [.tmp 11]⟩,
           ⟨some 39, none, .mv, [.tmp 38]⟩,
           ⟨some 40, some (39, true), .mv, [.tmp 9]⟩,
           ⟨some 41, some (39, true), .mv, [.tmp 6]⟩,
           ⟨some 42, some (39, true), .eqb false, [.tmp 40, .tmp 41]⟩,
           ⟨some 43, none, .pick, [.tmp 39, .tmp 42, .const (.bool false)]⟩,
           ⟨some 4, none, .mv, [.tmp 43]⟩]) (
         .ret)))))))
def a_scclaw3_FindLike : AF := { results := [.tmp 4], body := b_scclaw3_FindLike }

/- sccsettle/sccref3.Masks, 1 params, 0 free: [] -/
/- a loop's body; at its head: [5, 4, 0] -/
def b_sccref3_Masks_0 : AC :=
  .seq (
   .seq (
    .reg [0, 5, 4] false [⟨some 6, none, .mv, [.tmp 5]⟩,
      ⟨some 7, none, .mv, [.tmp 0]⟩,
      ⟨some 8, none, .len true, [.tmp 7]⟩,
      ⟨some 9, none, .bin .lss, [.tmp 6, .tmp 8]⟩]) (
    .cond (.tmp 9) (
     .skip) (
     .exit 0))) (
   .seq (
    .block 1 [4, 0, 5] (
     .seq (
      .reg [0, 5, 4] false [⟨some 12, none, .mv, [.tmp 0]⟩,
        ⟨some 13, none, .mv, [.tmp 5]⟩,
        ⟨some 14, none, .idxStr, [.tmp 12, .tmp 13]⟩]) (
      .block 2 [4, 0, 5] (
       .seq (
        .reg [0, 5, 4, 14] false [⟨some 23, none, .bin .eql, [.tmp 14, .const (.int .u8 42)]⟩,
          ⟨some 22, none, .mv, [.tmp 23]⟩]) (
        .cond (.tmp 22) (
         .reg [0, 5, 4] false [⟨some 24, none, .mv, [.tmp 4]⟩,
           ⟨some 25, none, .build [.int .i64 0, .int .u8 0] [(0, 1)], [.const (.int .i64 1)]⟩,
           ⟨some 26, none, .bslice 2, [.tmp 25]⟩,
           ⟨some 27, none, .append 2 16, [.tmp 24, .tmp 26]⟩,
           ⟨some 4, none, .mv, [.tmp 27]⟩]) (
         .seq (
          .reg [0, 5, 4, 14] false [⟨some 29, none, .bin .eql, [.tmp 14, .const (.int .u8 63)]⟩,
            ⟨some 28, none, .mv, [.tmp 29]⟩]) (
          .cond (.tmp 28) (
           .reg [0, 5, 4] false [⟨some 30, none, .mv, [.tmp 4]⟩,
             ⟨some 31, none, .build [.int .i64 0, .int .u8 0] [(0, 1)], [.const (.int .i64 2)]⟩,
             ⟨some 32, none, .bslice 2, [.tmp 31]⟩,
             ⟨some 33, none, .append 2 16, [.tmp 30, .tmp 32]⟩,
             ⟨some 4, none, .mv, [.tmp 33]⟩]) (
           .seq (
            .reg [0, 4, 5, 14] false [⟨some 35, none, .bin .eql, [.tmp 14, .const (.int .u8 126)]⟩,
              ⟨some 34, none, .mv, [.tmp 35]⟩]) (
            .cond (.tmp 34) (
             .seq (
              .reg [0, 4, 5] false [⟨some 36, none, .mv, [.tmp 5]⟩,
                ⟨some 37, none, .bin .add, [.tmp 36, .const (.int .i64 1)]⟩,
                ⟨some 5, none, .mv, [.tmp 37]⟩]) (
              .seq (
               .seq (
                .reg [0, 5, 4] false [⟨some 38, none, .mv, [.tmp 5]⟩,
                  ⟨some 39, none, .mv, [.tmp 0]⟩,
                  ⟨some 40, none, .len true, [.tmp 39]⟩,
                  ⟨some 41, none, .bin .eql, [.tmp 38, .tmp 40]⟩]) (
                .cond (.tmp 41) (
                 .seq (
                  .reg [] false [⟨some 2, none, .mv, [.const (.lst (some true) 0 [])]⟩,
                    ⟨some 3, none, .mv, [.const (.bool false)]⟩]) (
                  .ret)) (
                 .skip))) (
               .reg [0, 5, 4] false [⟨some 42, none, .mv, [.tmp 4]⟩,
                 ⟨some 43, none, .mv, [.tmp 0]⟩,
                 ⟨some 44, none, .mv, [.tmp 5]⟩,
                 ⟨some 45, none, .idxStr, [.tmp 43, .tmp 44]⟩,
                 ⟨some 46, none, .build [.int .i64 0, .int .u8 0] [(1, 1)], [.tmp 45]⟩,
                 ⟨some 47, none, .bslice 2, [.tmp 46]⟩,
                 ⟨some 48, none, .append 2 16, [.tmp 42, .tmp 47]⟩,
                 ⟨some 4, none, .mv, [.tmp 48]⟩]))) (
             .reg [0, 5, 4] false [⟨some 15, none, .mv, [.tmp 4]⟩,
               ⟨some 16, none, .mv, [.tmp 0]⟩,
               ⟨some 17, none, .mv, [.tmp 5]⟩,
               ⟨some 18, none, .idxStr, [.tmp 16, .tmp 17]⟩,
               ⟨some 19, none, .build [.int .i64 0, .int .u8 0] [(1, 1)], [.tmp 18]⟩,
               ⟨some 20, none, .bslice 2, [.tmp 19]⟩,
               ⟨some 21, none, .append 2 16, [.tmp 15, .tmp 20]⟩,
               ⟨some 4, none, .mv, [.tmp 21]⟩])))))))))) (
    .reg [4, 0, 5] false [⟨some 10, none, .mv, [.tmp 5]⟩,
      ⟨some 11, none, .bin .add, [.tmp 10, .const (.int .i64 1)]⟩,
      ⟨some 5, none, .mv, [.tmp 11]⟩]))

def b_sccref3_Masks : AC :=
  .seq (
   .reg [0] false [⟨some 2, none, .mv, [.const (.lst (some true) 0 [])]⟩,
     ⟨some 3, none, .mv, [.const (.bool false)]⟩]) (
   .seq (
    .reg [0] false [⟨some 4, none, .mv, [.const (.lst (some true) 0 [])]⟩]) (
    .seq (
     .seq (
      .reg [4, 0] false [⟨some 5, none, .mv, [.const (.int .i64 0)]⟩]) (
      .block 0 [4] (
       .loop [5, 4, 0] b_sccref3_Masks_0))) (
     .seq (
      .reg [4] false [⟨some 49, none, .mv, [.tmp 4]⟩,
        ⟨some 2, none, .mv, [.tmp 49]⟩,
        ⟨some 3, none, .mv, [.const (.bool true)]⟩]) (
      .ret))))
def a_sccref3_Masks : AF := { results := [.tmp 2, .tmp 3], body := b_sccref3_Masks }

/- sccsettle/sccref3.Like, 2 params, 0 free: [] -/
/- a loop's body; at its head: [8, 7, 0, 5, 6, 1] -/
def b_sccref3_Like_0 : AC :=
  .seq (
   .seq (
    .reg [7, 0, 5, 6, 1, 8] false [⟨some 30, none, .mv, [.tmp 8]⟩,
      ⟨some 31, none, .bin .geq, [.tmp 30, .const (.int .i64 0)]⟩]) (
    .cond (.tmp 31) (
     .skip) (
     .exit 2))) (
   .seq (
    .block 3 [7, 0, 5, 6, 1, 8] (
     .seq (
      .reg [7, 0, 5, 6, 1, 8] false [⟨some 34, none, .mv, [.tmp 1]⟩,
        ⟨some 35, none, .mv, [.tmp 6]⟩,
        ⟨some 36, none, .idxAddr 2, [.tmp 34, .tmp 35]⟩,
        ⟨some 37, none, .fieldAddr 0, [.tmp 36]⟩,
        ⟨some 38, none, .load 1 false, [.tmp 37]⟩,
        ⟨some 39, none, .bin .eql, [.tmp 38, .const (.int .i64 1)]⟩]) (
      .cond (.tmp 39) (
       .reg [7, 0, 5, 6, 1, 8] false [⟨some 40, none, .mv, [.tmp 7]⟩,
         ⟨some 41, none, .mv, [.tmp 8]⟩,
         ⟨some 42, none, .mv, [.tmp 5]⟩,
         ⟨some 43, none, .mv, [.tmp 8]⟩,
         ⟨some 44, none, .idxAddr 1, [.tmp 42, .tmp 43]⟩,
         ⟨some 45, none, .load 1 false, [.tmp 44]⟩,
         ⟨some 46, none, .mv, [.tmp 45]⟩,
         ⟨some 47, some (46, false), .mv, [.tmp 8]⟩,
         ⟨some 48, some (46, false), .mv, [.tmp 0]⟩,
         ⟨some 49, some (46, false), .len true, [.tmp 48]⟩,
         ⟨some 50, some (46, false), .bin .lss, [.tmp 47, .tmp 49]⟩,
         ⟨some 51, some (46, false), .mv, [.tmp 50]⟩,
         ⟨some 52, some (51, true), .mv, [.tmp 7]⟩,
         ⟨some 53, some (51, true), .mv, [.tmp 8]⟩,
         ⟨some 54, some (51, true), .bin .add, [.tmp 53, .const (.int .i64 1)]⟩,
         ⟨some 55, some (51, true), .idxAddr 1, [.tmp 52, .tmp 54]⟩,
         ⟨some 56, some (51, true), .load 1 false, [.tmp 55]⟩,
         ⟨some 57, some (46, false), .pick, [.tmp 51, .tmp 56, .const (.bool false)]⟩,
         ⟨some 58, none, .pick, [.tmp 46, .const (.bool true), .tmp 57]⟩,
         ⟨some 59, none, .idxAddr 1, [.tmp 40, .tmp 41]⟩,
         ⟨none, none, .store 1, [.tmp 59, .tmp 58]⟩]) (
       .seq (
        .reg [7, 0, 5, 6, 1, 8] true [⟨some 60, none, .mv, [.tmp 8]⟩,
          ⟨some 61, none, .mv, [.tmp 0]⟩,
          ⟨some 62, none, .len true, [.tmp 61]⟩,
          ⟨some 63, none, .bin .lss, [.tmp 60, .tmp 62]⟩,
          ⟨some 64, none, .mv, [.tmp 63]⟩,
          ⟨some 65, some (64, true), .mv, [.tmp 1]⟩,
          ⟨some 66, some (64, true), .mv, [.tmp 6]⟩,
          ⟨some 67, some (64, true), .idxAddr 2, [.tmp 65, .tmp 66]⟩,
          ⟨some 68, some (64, true), .fieldAddr 0, [.tmp 67]⟩,
          ⟨some 69, some (64, true), .load 1 false, [.tmp 68]⟩,
          ⟨some 70, some (64, true), .bin .eql, [.tmp 69, .const (.int .i64 2)]⟩,
          ⟨some 71, some (64, true), .mv, [.tmp 70]⟩,
          ⟨some 72, some (71, false), .mv, [.tmp 1]⟩,
          ⟨some 73, some (71, false), .mv, [.tmp 6]⟩,
          ⟨some 74, some (71, false), .idxAddr 2, [.tmp 72, .tmp 73]⟩,
          ⟨some 75, some (71, false), .fieldAddr 1, [.tmp 74]⟩,
          ⟨some 76, some (71, false), .load 1 false, [.tmp 75]⟩,
          ⟨some 77, some (71, false), .mv, [.tmp 0]⟩,
          ⟨some 78, some (71, false), .mv, [.tmp 8]⟩,
          ⟨some 79, some (71, false), .idxStr, [.tmp 77, .tmp 78]⟩,
          ⟨some 80, some (71, false), .bin .eql, [.tmp 76, .tmp 79]⟩,
          ⟨some 81, some (64, true), .pick, [.tmp 71, .const (.bool true), .tmp 80]⟩,
          ⟨some 82, none, .pick, [.tmp 64, .tmp 81, .const (.bool false)]⟩]) (
        .cond (.tmp 82) (
         .reg [7, 0, 5, 6, 1, 8] false [⟨some 83, none, .mv, [.tmp 7]⟩,
           ⟨some 84, none, .mv, [.tmp 8]⟩,
           ⟨some 85, none, .mv, [.tmp 5]⟩,
           ⟨some 86, none, .mv, [.tmp 8]⟩,
           ⟨some 87, none, .bin .add, [.tmp 86, .const (.int .i64 1)]⟩,
           ⟨some 88, none, .idxAddr 1, [.tmp 85, .tmp 87]⟩,
           ⟨some 89, none, .load 1 false, [.tmp 88]⟩,
           ⟨some 90, none, .idxAddr 1, [.tmp 83, .tmp 84]⟩,
           ⟨none, none, .store 1, [.tmp 90, .tmp 89]⟩]) (
         .skip)))))) (
    .reg [7, 0, 5, 6, 1, 8] false [⟨some 32, none, .mv, [.tmp 8]⟩,
      ⟨some 33, none, .bin .sub, [.tmp 32, .const (.int .i64 1)]⟩,
      ⟨some 8, none, .mv, [.tmp 33]⟩]))

/- a loop's body; at its head: [0, 5, 6, 1] -/
def b_sccref3_Like_1 : AC :=
  .seq (
   .seq (
    .reg [0, 5, 6, 1] false [⟨some 20, none, .mv, [.tmp 6]⟩,
      ⟨some 21, none, .bin .geq, [.tmp 20, .const (.int .i64 0)]⟩]) (
    .cond (.tmp 21) (
     .skip) (
     .exit 0))) (
   .seq (
    .block 1 [0, 5, 1, 6] (
     .seq (
      .reg [0, 5, 6, 1] false [⟨some 24, none, .mv, [.tmp 0]⟩,
        ⟨some 25, none, .len true, [.tmp 24]⟩,
        ⟨some 26, none, .bin .add, [.tmp 25, .const (.int .i64 1)]⟩,
        ⟨some 27, none, .make 1 1 (.bool false), [.tmp 26, .tmp 26]⟩,
        ⟨some 7, none, .mv, [.tmp 27]⟩]) (
      .seq (
       .seq (
        .reg [7, 0, 5, 6, 1] false [⟨some 28, none, .mv, [.tmp 0]⟩,
          ⟨some 29, none, .len true, [.tmp 28]⟩,
          ⟨some 8, none, .mv, [.tmp 29]⟩]) (
        .block 2 [0, 1, 6, 7] (
         .loop [8, 7, 0, 5, 6, 1] b_sccref3_Like_0))) (
       .reg [0, 1, 6, 7] false [⟨some 91, none, .mv, [.tmp 7]⟩,
         ⟨some 5, none, .mv, [.tmp 91]⟩])))) (
    .reg [0, 5, 1, 6] false [⟨some 22, none, .mv, [.tmp 6]⟩,
      ⟨some 23, none, .bin .sub, [.tmp 22, .const (.int .i64 1)]⟩,
      ⟨some 6, none, .mv, [.tmp 23]⟩]))

def b_sccref3_Like : AC :=
  .seq (
   .reg [0, 1] false [⟨some 4, none, .mv, [.const (.bool false)]⟩]) (
   .seq (
    .reg [0, 1] false [⟨some 9, none, .mv, [.tmp 0]⟩,
      ⟨some 10, none, .len true, [.tmp 9]⟩,
      ⟨some 11, none, .bin .add, [.tmp 10, .const (.int .i64 1)]⟩,
      ⟨some 12, none, .make 1 1 (.bool false), [.tmp 11, .tmp 11]⟩,
      ⟨some 5, none, .mv, [.tmp 12]⟩]) (
    .seq (
     .reg [0, 5, 1] false [⟨some 13, none, .mv, [.tmp 5]⟩,
       ⟨some 14, none, .mv, [.tmp 0]⟩,
       ⟨some 15, none, .len true, [.tmp 14]⟩,
       ⟨some 16, none, .idxAddr 1, [.tmp 13, .tmp 15]⟩,
       ⟨none, none, .store 1, [.tmp 16, .const (.bool true)]⟩]) (
     .seq (
      .seq (
       .reg [0, 5, 1] false [⟨some 17, none, .mv, [.tmp 1]⟩,
         ⟨some 18, none, .len false, [.tmp 17]⟩,
         ⟨some 19, none, .bin .sub, [.tmp 18, .const (.int .i64 1)]⟩,
         ⟨some 6, none, .mv, [.tmp 19]⟩]) (
       .block 0 [5] (
        .loop [0, 5, 6, 1] b_sccref3_Like_1))) (
      .seq (
       .reg [5] false [⟨some 92, none, .mv, [.tmp 5]⟩,
         ⟨some 93, none, .idxAddr 1, [.tmp 92, .const (.int .i64 0)]⟩,
         ⟨some 94, none, .load 1 false, [.tmp 93]⟩,
         ⟨some 4, none, .mv, [.tmp 94]⟩]) (
       .ret)))))
def a_sccref3_Like : AF := { results := [.tmp 4], body := b_sccref3_Like }

/- sccsettle/find.Like, 2 params, 0 free: [] -/
/- a loop's body; at its head: [45, 8, 6, 10, 0, 1, 7, 44] -/
def b_find_Like_0 : AC :=
  .seq (
   .reg [8, 6, 0, 1, 7, 44, 45, 10] false [⟨some 46, none, .bin .lss, [.tmp 45, .tmp 44]⟩]) (
   .seq (
    .cond (.tmp 46) (
     .skip) (
     .exit 2)) (
    .seq (
     .block 3 [8, 6, 10, 0, 1, 7, 44, 45] (
      .seq (
       .reg [8, 6, 0, 1, 7, 44, 45, 10] false [⟨some 47, none, .mv, [.tmp 45]⟩,
         ⟨some 11, none, .mv, [.tmp 47]⟩]) (
       .seq (
        .reg [8, 6, 0, 1, 7, 44, 45, 11, 10] false [⟨some 48, none, .mv, [.tmp 10]⟩,
          ⟨some 49, none, .mv, [.tmp 48]⟩,
          ⟨some 50, some (49, false), .mv, [.tmp 6]⟩,
          ⟨some 51, some (49, false), .mv, [.tmp 11]⟩,
          ⟨some 52, some (49, false), .idxAddr 1, [.tmp 50, .tmp 51]⟩,
          ⟨some 53, some (49, false), .load 1 false, [.tmp 52]⟩,
          ⟨some 54, none, .pick, [.tmp 49, .const (.bool true), .tmp 53]⟩,
          ⟨some 10, none, .mv, [.tmp 54]⟩]) (
        .reg [8, 6, 10, 0, 1, 7, 44, 45, 11] false [⟨some 55, none, .mv, [.tmp 8]⟩,
          ⟨some 56, none, .mv, [.tmp 11]⟩,
          ⟨some 57, none, .mv, [.tmp 10]⟩,
          ⟨some 58, none, .idxAddr 1, [.tmp 55, .tmp 56]⟩,
          ⟨none, none, .store 1, [.tmp 58, .tmp 57]⟩])))) (
     .reg [8, 6, 10, 0, 1, 7, 44, 45] false [⟨some 59, none, .bin .add, [.tmp 45, .const (.int .i64 1)]⟩,
       ⟨some 45, none, .mv, [.tmp 59]⟩])))

/- a loop's body; at its head: [77, 9, 0, 12, 6, 8, 1, 7, 76] -/
def b_find_Like_1 : AC :=
  .seq (
   .reg [9, 0, 12, 6, 8, 1, 7, 76, 77] false [⟨some 78, none, .bin .lss, [.tmp 77, .tmp 76]⟩]) (
   .seq (
    .cond (.tmp 78) (
     .skip) (
     .exit 4)) (
    .seq (
     .block 5 [9, 0, 12, 6, 8, 1, 7, 76, 77] (
      .seq (
       .reg [9, 0, 12, 6, 8, 1, 7, 76, 77] false [⟨some 79, none, .mv, [.tmp 77]⟩,
         ⟨some 13, none, .mv, [.tmp 79]⟩]) (
       .reg [9, 0, 12, 6, 8, 1, 7, 76, 77, 13] false [⟨some 80, none, .mv, [.tmp 8]⟩,
         ⟨some 81, none, .mv, [.tmp 13]⟩,
         ⟨some 82, none, .bin .add, [.tmp 81, .const (.int .i64 1)]⟩,
         ⟨some 83, none, .mv, [.tmp 6]⟩,
         ⟨some 84, none, .mv, [.tmp 13]⟩,
         ⟨some 85, none, .idxAddr 1, [.tmp 83, .tmp 84]⟩,
         ⟨some 86, none, .load 1 false, [.tmp 85]⟩,
         ⟨some 87, none, .mv, [.tmp 86]⟩,
         ⟨some 88, some (87, true), .mv, [.tmp 12]⟩,
         ⟨some 89, some (87, true), .mv, [.tmp 88]⟩,
         ⟨some 90, some (89, false), .mv, [.tmp 0]⟩,
         ⟨some 91, some (89, false), .mv, [.tmp 13]⟩,
         ⟨some 92, some (89, false), .idxStr, [.tmp 90, .tmp 91]⟩,
         ⟨some 93, some (89, false), .mv, [.tmp 9]⟩,
         ⟨some 94, some (89, false), .bin .eql, [.tmp 92, .tmp 93]⟩,
         ⟨some 95, some (87, true), .pick, [.tmp 89, .const (.bool true), .tmp 94]⟩,
         ⟨some 96, none, .pick, [.tmp 87, .tmp 95, .const (.bool false)]⟩,
         ⟨some 97, none, .idxAddr 1, [.tmp 80, .tmp 82]⟩,
         ⟨none, none, .store 1, [.tmp 97, .tmp 96]⟩]))) (
     .reg [9, 0, 12, 6, 8, 1, 7, 76, 77] false [⟨some 98, none, .bin .add, [.tmp 77, .const (.int .i64 1)]⟩,
       ⟨some 77, none, .mv, [.tmp 98]⟩])))

/- a loop's body; at its head: [6, 7, 0, 1] -/
def b_find_Like_2 : AC :=
  .seq (
   .seq (
    .reg [6, 0, 1, 7] false [⟨some 29, none, .mv, [.tmp 7]⟩,
      ⟨some 30, none, .mv, [.tmp 1]⟩,
      ⟨some 31, none, .len true, [.tmp 30]⟩,
      ⟨some 32, none, .bin .lss, [.tmp 29, .tmp 31]⟩]) (
    .cond (.tmp 32) (
     .skip) (
     .exit 0))) (
   .seq (
    .block 1 [6, 0, 1, 7] (
     .seq (
      .reg [6, 0, 1, 7] false [⟨some 35, none, .mv, [.tmp 6]⟩,
        ⟨some 36, none, .len false, [.tmp 35]⟩,
        ⟨some 37, none, .make 1 1 (.bool false), [.tmp 36, .tmp 36]⟩,
        ⟨some 8, none, .mv, [.tmp 37]⟩]) (
      .seq (
       .reg [8, 6, 0, 1, 7] false [⟨some 38, none, .mv, [.tmp 1]⟩,
         ⟨some 39, none, .mv, [.tmp 7]⟩,
         ⟨some 40, none, .idxStr, [.tmp 38, .tmp 39]⟩,
         ⟨some 9, none, .mv, [.tmp 40]⟩]) (
       .seq (
        .seq (
         .reg [8, 6, 0, 1, 7, 9] false [⟨some 41, none, .mv, [.tmp 9]⟩,
           ⟨some 42, none, .bin .eql, [.tmp 41, .const (.int .u8 42)]⟩]) (
         .cond (.tmp 42) (
          .seq (
           .reg [8, 6, 0, 1, 7] false [⟨some 10, none, .mv, [.const (.bool false)]⟩]) (
           .seq (
            .seq (
             .reg [8, 6, 10, 0, 1, 7] false [⟨some 43, none, .mv, [.tmp 6]⟩,
               ⟨some 44, none, .len false, [.tmp 43]⟩,
               ⟨some 45, none, .mv, [.const (.int .i64 0)]⟩]) (
             .block 2 [0, 1, 7, 8] (
              .loop [45, 8, 6, 10, 0, 1, 7, 44] b_find_Like_0))) (
            .seq (
             .reg [0, 1, 7, 8] false [⟨some 60, none, .mv, [.tmp 8]⟩,
               ⟨some 6, none, .mv, [.tmp 60]⟩]) (
             .exit 1)))) (
          .skip))) (
        .seq (
         .reg [0, 6, 8, 1, 7, 9] false [⟨some 61, none, .mv, [.tmp 9]⟩,
           ⟨some 62, none, .bin .eql, [.tmp 61, .const (.int .u8 63)]⟩,
           ⟨some 12, none, .mv, [.tmp 62]⟩]) (
         .seq (
          .seq (
           .reg [0, 12, 6, 8, 1, 7, 9] false [⟨some 63, none, .mv, [.tmp 9]⟩,
             ⟨some 64, none, .bin .eql, [.tmp 63, .const (.int .u8 126)]⟩]) (
           .cond (.tmp 64) (
            .seq (
             .seq (
              .reg [0, 12, 6, 8, 1, 7] false [⟨some 65, none, .mv, [.tmp 7]⟩,
                ⟨some 66, none, .bin .add, [.tmp 65, .const (.int .i64 1)]⟩,
                ⟨some 7, none, .mv, [.tmp 66]⟩]) (
              .seq (
               .reg [0, 12, 6, 8, 1, 7] false [⟨some 67, none, .mv, [.tmp 7]⟩,
                 ⟨some 68, none, .mv, [.tmp 1]⟩,
                 ⟨some 69, none, .len true, [.tmp 68]⟩,
                 ⟨some 70, none, .bin .eql, [.tmp 67, .tmp 69]⟩]) (
               .cond (.tmp 70) (
                .seq (
                 .reg [] false [⟨some 71, none, .mkIface t_api_Errno, [.const (.int .i64 2)]⟩,
                   ⟨some 4, none, .mv, [.const (.bool false)]⟩,
                   ⟨some 5, none, .mv, [.tmp 71]⟩]) (
                 .ret)) (
                .skip)))) (
             .reg [0, 12, 6, 8, 1, 7] false [⟨some 72, none, .mv, [.tmp 1]⟩,
               ⟨some 73, none, .mv, [.tmp 7]⟩,
               ⟨some 74, none, .idxStr, [.tmp 72, .tmp 73]⟩,
               ⟨some 9, none, .mv, [.tmp 74]⟩])) (
            .skip))) (
          .seq (
           .seq (
            .reg [9, 0, 12, 6, 8, 1, 7] false [⟨some 75, none, .mv, [.tmp 0]⟩,
              ⟨some 76, none, .len true, [.tmp 75]⟩,
              ⟨some 77, none, .mv, [.const (.int .i64 0)]⟩]) (
            .block 4 [0, 1, 7, 8] (
             .loop [77, 9, 0, 12, 6, 8, 1, 7, 76] b_find_Like_1))) (
           .reg [0, 1, 7, 8] false [⟨some 99, none, .mv, [.tmp 8]⟩,
             ⟨some 6, none, .mv, [.tmp 99]⟩])))))))) (
    .reg [6, 0, 1, 7] false [⟨some 33, none, .mv, [.tmp 7]⟩,
      ⟨some 34, none, .bin .add, [.tmp 33, .const (.int .i64 1)]⟩,
      ⟨some 7, none, .mv, [.tmp 34]⟩]))

def b_find_Like : AC :=
  .seq (
   .reg [0, 1] false [⟨some 4, none, .mv, [.const (.bool false)]⟩,
     ⟨some 5, none, .mv, [.const (.nili)]⟩]) (
   .seq (
    .seq (
     .reg [0, 1] false [⟨some 14, none, .mv, [.tmp 0]⟩,
       ⟨some 15, none, .len true, [.tmp 14]⟩,
       ⟨some 16, none, .bin .gtr, [.tmp 15, .const (.int .i64 200)]⟩,
       ⟨some 17, none, .mv, [.tmp 16]⟩,
       ⟨some 18, some (17, false), .mv, [.tmp 1]⟩,
       ⟨some 19, some (17, false), .len true, [.tmp 18]⟩,
       ⟨some 20, some (17, false), .bin .gtr, [.tmp 19, .const (.int .i64 200)]⟩,
       ⟨some 21, none, .pick, [.tmp 17, .const (.bool true), .tmp 20]⟩]) (
     .cond (.tmp 21) (
      .seq (
       .reg [] false [⟨some 22, none, .mkIface t_api_Errno, [.const (.int .i64 4)]⟩,
         ⟨some 4, none, .mv, [.const (.bool false)]⟩,
         ⟨some 5, none, .mv, [.tmp 22]⟩]) (
       .ret)) (
      .skip))) (
    .seq (
     .reg [0, 1] false [⟨some 23, none, .mv, [.tmp 0]⟩,
       ⟨some 24, none, .len true, [.tmp 23]⟩,
       ⟨some 25, none, .bin .add, [.tmp 24, .const (.int .i64 1)]⟩,
       ⟨some 26, none, .make 1 1 (.bool false), [.tmp 25, .tmp 25]⟩,
       ⟨some 6, none, .mv, [.tmp 26]⟩]) (
     .seq (
      .reg [6, 0, 1] false [⟨some 27, none, .mv, [.tmp 6]⟩,
        ⟨some 28, none, .idxAddr 1, [.tmp 27, .const (.int .i64 0)]⟩,
        ⟨none, none, .store 1, [.tmp 28, .const (.bool true)]⟩]) (
      .seq (
       .seq (
        .reg [6, 0, 1] false [⟨some 7, none, .mv, [.const (.int .i64 0)]⟩]) (
        .block 0 [0, 6] (
         .loop [6, 7, 0, 1] b_find_Like_2))) (
       .seq (
        .reg [0, 6] false [⟨some 100, none, .mv, [.tmp 6]⟩,
          ⟨some 101, none, .mv, [.tmp 0]⟩,
          ⟨some 102, none, .len true, [.tmp 101]⟩,
          ⟨some 103, none, .idxAddr 1, [.tmp 100, .tmp 102]⟩,
          ⟨some 104, none, .load 1 false, [.tmp 103]⟩,
          ⟨some 4, none, .mv, [.tmp 104]⟩,
          ⟨some 5, none, .mv, [.const (.nili)]⟩]) (
        .ret))))))
def a_find_Like : AF := { results := [.tmp 4, .tmp 5], body := b_find_Like }

/- sccsettle/sccsame.Error, 2 params, 0 free: [] -/
def b_sccsame_Error : AC :=
  .seq (
   .reg [1, 0] false [⟨some 4, none, .mv, [.const (.bool false)]⟩]) (
   .seq (
    .reg [1, 0] false [⟨some 6, none, .mv, [.tmp 0]⟩,
      ⟨some 7, none, .call f_plain_Told true, [.tmp 6]⟩,
      ⟨some 5, none, .mv, [.tmp 7]⟩]) (
    .seq (
     .reg [1, 5] false [⟨some 8, none, .mv, [.tmp 5]⟩,
       ⟨some 9, none, .mv, [.tmp 1]⟩,
       ⟨some 10, none, .bin .eql, [.tmp 8, .tmp 9]⟩,
       ⟨some 4, none, .mv, [.tmp 10]⟩]) (
     .ret)))
def a_sccsame_Error : AF := { results := [.tmp 4], body := b_sccsame_Error }

/- sccsettle/plain.Told, 1 params, 0 free: [] -/
def b_plain_Told : AC :=
  .seq (
   .reg [0] false [⟨some 2, none, .mv, [.const (.int .i64 0)]⟩]) (
   .seq (
    .seq (
     .reg [0] false [⟨some 4, none, .mv, [.tmp 0]⟩,
       ⟨some 5, none, .eqn .iface false true, [.tmp 4, .const (.nili)]⟩]) (
     .cond (.tmp 5) (
      .seq (
       .reg [] false [⟨some 2, none, .mv, [.const (.int .i64 0)]⟩]) (
       .ret)) (
      .skip))) (
    .seq (
     .reg [0] false [⟨some 3, none, .alloc [.int .i64 0], []⟩]) (
     .seq (
      .seq (
       .reg [3, 0] false [⟨some 6, none, .mv, [.tmp 0]⟩,
         ⟨some 7, none, .mkIface t__api_Errno, [.tmp 3]⟩,
         ⟨some 8, none, .call f_errors_As false, [.tmp 6, .tmp 7]⟩]) (
       .cond (.tmp 8) (
        .seq (
         .reg [3] false [⟨some 9, none, .load 1 false, [.tmp 3]⟩,
           ⟨some 2, none, .mv, [.tmp 9]⟩]) (
         .ret)) (
        .skip))) (
      .seq (
       .reg [] false [⟨some 2, none, .mv, [.const (.int .i64 (-1))]⟩]) (
       .ret)))))
def a_plain_Told : AF := { results := [.tmp 2], body := b_plain_Told }

end Go.AM
