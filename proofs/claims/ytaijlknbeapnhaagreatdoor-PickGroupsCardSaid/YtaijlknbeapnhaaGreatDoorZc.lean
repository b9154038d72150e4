/- Abstract code, printed by a program of my own (wip/gen/Gen.lean.tpl) off the dump. -/
import Derived.Test.YtaijlknbeapnhaaGreatDoorZn
set_option linter.all false
namespace Go.AM
/- sccsettle/scclaw3.PickRows, 2 params, 0 free: [] -/
/- a loop's body; at its head: [8, 7, 6, 1, 0, 5] -/
def b_scclaw3_PickRows_0 : AC :=
  .seq (
   .seq (
    .reg [1, 0, 5, 8, 7, 6] false [⟨some 20, none, .mv, [.tmp 5]⟩,
      ⟨some 21, none, .bin .eql, [.tmp 20, .const (.int .i64 0)]⟩,
      ⟨some 22, none, .mv, [.tmp 21]⟩,
      ⟨some 23, some (22, true), .mv, [.tmp 8]⟩,
      ⟨some 24, some (22, true), .mv, [.tmp 0]⟩,
      ⟨some 25, some (22, true), .len false, [.tmp 24]⟩,
      ⟨some 26, some (22, true), .bin .lss, [.tmp 23, .tmp 25]⟩,
      ⟨some 27, none, .pick, [.tmp 22, .tmp 26, .const (.bool false)]⟩]) (
    .cond (.tmp 27) (
     .skip) (
     .exit 0))) (
   .seq (
    .block 1 [7, 6, 1, 0, 5, 8] (
     .seq (
      .reg [1, 0, 5, 8, 7, 6] false [⟨some 30, none, .mv, [.tmp 0]⟩,
        ⟨some 31, none, .mv, [.tmp 8]⟩,
        ⟨some 32, none, .idxAddr 1, [.tmp 30, .tmp 31]⟩,
        ⟨some 33, none, .load 1 false, [.tmp 32]⟩,
        ⟨some 34, none, .mv, [.tmp 1]⟩,
        ⟨some 35, none, .call f_sccref3_Meets true, [.tmp 33, .tmp 34]⟩,
        ⟨some 9, none, .mv, [.tmp 35]⟩]) (
      .seq (
       .seq (
        .reg [1, 0, 5, 8, 7, 9, 6] false [⟨some 36, none, .mv, [.tmp 9]⟩,
          ⟨some 37, none, .mv, [.tmp 1]⟩,
          ⟨some 38, none, .len false, [.tmp 37]⟩,
          ⟨some 39, none, .bin .eql, [.tmp 36, .tmp 38]⟩]) (
        .cond (.tmp 39) (
         .reg [1, 0, 5, 8, 7, 9, 6] false [⟨some 40, none, .mv, [.tmp 6]⟩,
           ⟨some 41, none, .mv, [.tmp 8]⟩,
           ⟨some 42, none, .bslice 1, [.tmp 41]⟩,
           ⟨some 43, none, .append 1 8, [.tmp 40, .tmp 42]⟩,
           ⟨some 6, none, .mv, [.tmp 43]⟩]) (
         .skip))) (
       .seq (
        .reg [6, 1, 0, 5, 8, 7, 9] false [⟨some 44, none, .mv, [.tmp 9]⟩,
          ⟨some 45, none, .bin .gtr, [.tmp 44, .const (.int .i64 0)]⟩]) (
        .cond (.tmp 45) (
         .reg [6, 1, 0, 5, 8, 7] false [⟨some 46, none, .mv, [.tmp 7]⟩,
           ⟨some 47, none, .mv, [.tmp 8]⟩,
           ⟨some 48, none, .bslice 1, [.tmp 47]⟩,
           ⟨some 49, none, .append 1 8, [.tmp 46, .tmp 48]⟩,
           ⟨some 7, none, .mv, [.tmp 49]⟩]) (
         .skip)))))) (
    .reg [7, 6, 1, 0, 5, 8] false [⟨some 28, none, .mv, [.tmp 8]⟩,
      ⟨some 29, none, .bin .add, [.tmp 28, .const (.int .i64 1)]⟩,
      ⟨some 8, none, .mv, [.tmp 29]⟩]))

def b_scclaw3_PickRows : AC :=
  .seq (
   .reg [1, 0] false [⟨some 4, none, .mv, [.const (.bool false)]⟩]) (
   .seq (
    .reg [1, 0] false [⟨some 17, none, .mv, [.tmp 0]⟩,
      ⟨some 18, none, .mv, [.tmp 1]⟩,
      ⟨some 19, none, .call f_sccref3_Wants true, [.tmp 17, .tmp 18]⟩,
      ⟨some 5, none, .mv, [.tmp 19]⟩]) (
    .seq (
     .reg [1, 0, 5] false [⟨some 6, none, .mv, [.const (.lst (some true) 0 [])]⟩,
       ⟨some 7, none, .mv, [.const (.lst (some true) 0 [])]⟩]) (
     .seq (
      .seq (
       .reg [7, 6, 1, 0, 5] false [⟨some 8, none, .mv, [.const (.int .i64 0)]⟩]) (
       .block 0 [7, 6, 5, 1, 0] (
        .loop [8, 7, 6, 1, 0, 5] b_scclaw3_PickRows_0))) (
      .seq (
       .reg [7, 6, 5, 1, 0] false [⟨some 51, none, .mv, [.tmp 0]⟩,
         ⟨some 52, none, .mv, [.tmp 1]⟩,
         ⟨some 53, none, .call f_pick_Pick true, [.tmp 51, .tmp 52]⟩,
         ⟨some 50, none, .mv, [.tmp 53]⟩,
         ⟨some 54, none, .extract 0, [.tmp 50]⟩,
         ⟨some 55, none, .extract 1, [.tmp 50]⟩,
         ⟨some 10, none, .mv, [.tmp 54]⟩,
         ⟨some 11, none, .mv, [.tmp 55]⟩]) (
       .seq (
        .reg [7, 6, 10, 5, 1, 0, 11] false [⟨some 56, none, .mv, [.tmp 11]⟩,
          ⟨some 57, none, .mv, [.tmp 5]⟩,
          ⟨some 58, none, .call f_sccsame_Error true, [.tmp 56, .tmp 57]⟩,
          ⟨some 12, none, .mv, [.tmp 58]⟩]) (
        .seq (
         .reg [12, 7, 6, 10, 5, 1, 0] false [⟨some 60, none, .mv, [.tmp 0]⟩,
           ⟨some 61, none, .mv, [.tmp 1]⟩,
           ⟨some 62, none, .call f_pick_Any true, [.tmp 60, .tmp 61]⟩,
           ⟨some 59, none, .mv, [.tmp 62]⟩,
           ⟨some 63, none, .extract 0, [.tmp 59]⟩,
           ⟨some 64, none, .extract 1, [.tmp 59]⟩,
           ⟨some 13, none, .mv, [.tmp 63]⟩,
           ⟨some 11, none, .mv, [.tmp 64]⟩]) (
         .seq (
          .reg [12, 7, 13, 6, 10, 5, 11] false [⟨some 65, none, .mv, [.tmp 11]⟩,
            ⟨some 66, none, .mv, [.tmp 5]⟩,
            ⟨some 67, none, .call f_sccsame_Error true, [.tmp 65, .tmp 66]⟩,
            ⟨some 14, none, .mv, [.tmp 67]⟩]) (
          .seq (
           .reg [14, 12, 7, 13, 6, 10] false [⟨some 68, none, .mv, [.tmp 10]⟩,
             ⟨some 69, none, .mv, [.tmp 6]⟩,
             ⟨some 70, none, .call f_sccsame_Ints true, [.tmp 68, .tmp 69]⟩,
             ⟨some 15, none, .mv, [.tmp 70]⟩]) (
           .seq (
            .reg [15, 14, 12, 7, 13] false [⟨some 71, none, .mv, [.tmp 13]⟩,
              ⟨some 72, none, .mv, [.tmp 7]⟩,
              ⟨some 73, none, .call f_sccsame_Ints true, [.tmp 71, .tmp 72]⟩,
              ⟨some 16, none, .mv, [.tmp 73]⟩]) (
            .seq (
             .reg [16, 15, 14, 12] false [⟨some 74, none, .mv, [.tmp 12]⟩,
               ⟨some 75, none, .mv, [.tmp 74]⟩,
               ⟨some 76, some (75, true), .mv, [.tmp 14]⟩,
               ⟨some 77, none, .pick, [.tmp 75, .tmp 76, .const (.bool false)]⟩,
               ⟨some 78, none, .mv, [.tmp 77]⟩,
               ⟨some 79, some (78, true), .mv, [.tmp 15]⟩,
               ⟨some 80, none, .pick, [.tmp 78, .tmp 79, .const (.bool false)]⟩,
               ⟨some 81, none, .mv, [.tmp 80]⟩,
               ⟨some 82, some (81, true), .mv, [.tmp 16]⟩,
               ⟨some 83, none, .pick, [.tmp 81, .tmp 82, .const (.bool false)]⟩,
               ⟨some 4, none, .mv, [.tmp 83]⟩]) (
             .ret)))))))))))
def a_scclaw3_PickRows : AF := { results := [.tmp 4], body := b_scclaw3_PickRows }

/- sccsettle/scclaw3.PickGroups, 3 params, 0 free: [] -/
/- a loop's body; at its head: [13, 9, 10] -/
def b_scclaw3_PickGroups_0 : AC :=
  .seq (
   .seq (
    .reg [9, 10, 13] false [⟨some 52, none, .mv, [.tmp 13]⟩,
      ⟨some 53, none, .mv, [.tmp 10]⟩,
      ⟨some 54, none, .len false, [.tmp 53]⟩,
      ⟨some 55, none, .bin .lss, [.tmp 52, .tmp 54]⟩]) (
    .cond (.tmp 55) (
     .skip) (
     .exit 0))) (
   .seq (
    .block 1 [9, 10, 13] (
     .seq (
      .reg [9, 10, 13] true [⟨some 58, none, .mv, [.tmp 10]⟩,
        ⟨some 59, none, .mv, [.tmp 13]⟩,
        ⟨some 60, none, .idxAddr 5, [.tmp 58, .tmp 59]⟩,
        ⟨some 61, none, .fieldAddr 0, [.tmp 60]⟩,
        ⟨some 62, none, .load 1 false, [.tmp 61]⟩,
        ⟨some 63, none, .mv, [.tmp 9]⟩,
        ⟨some 64, none, .mv, [.tmp 13]⟩,
        ⟨some 65, none, .idxAddr 5, [.tmp 63, .tmp 64]⟩,
        ⟨some 66, none, .fieldAddr 0, [.tmp 65]⟩,
        ⟨some 67, none, .load 1 false, [.tmp 66]⟩,
        ⟨some 68, none, .call f_sccsame_Values true, [.tmp 62, .tmp 67]⟩,
        ⟨some 14, none, .mv, [.tmp 68]⟩]) (
      .seq (
       .reg [9, 10, 13, 14] true [⟨some 69, none, .mv, [.tmp 14]⟩,
         ⟨some 70, none, .un .not, [.tmp 69]⟩,
         ⟨some 71, none, .mv, [.tmp 70]⟩,
         ⟨some 72, some (71, false), .mv, [.tmp 10]⟩,
         ⟨some 73, some (71, false), .mv, [.tmp 13]⟩,
         ⟨some 74, some (71, false), .idxAddr 5, [.tmp 72, .tmp 73]⟩,
         ⟨some 75, some (71, false), .fieldAddr 1, [.tmp 74]⟩,
         ⟨some 76, some (71, false), .load 1 false, [.tmp 75]⟩,
         ⟨some 77, some (71, false), .mv, [.tmp 9]⟩,
         ⟨some 78, some (71, false), .mv, [.tmp 13]⟩,
         ⟨some 79, some (71, false), .idxAddr 5, [.tmp 77, .tmp 78]⟩,
         ⟨some 80, some (71, false), .fieldAddr 1, [.tmp 79]⟩,
         ⟨some 81, some (71, false), .load 1 false, [.tmp 80]⟩,
         ⟨some 82, some (71, false), .bin .neq, [.tmp 76, .tmp 81]⟩,
         ⟨some 83, none, .pick, [.tmp 71, .const (.bool true), .tmp 82]⟩,
         ⟨some 84, none, .mv, [.tmp 83]⟩,
         ⟨some 85, some (84, false), .mv, [.tmp 10]⟩,
         ⟨some 86, some (84, false), .mv, [.tmp 13]⟩,
         ⟨some 87, some (84, false), .idxAddr 5, [.tmp 85, .tmp 86]⟩,
         ⟨some 88, some (84, false), .fieldAddr 2, [.tmp 87]⟩,
         ⟨some 89, some (84, false), .load 3 true, [.tmp 88]⟩,
         ⟨some 90, some (84, false), .mv, [.tmp 9]⟩,
         ⟨some 91, some (84, false), .mv, [.tmp 13]⟩,
         ⟨some 92, some (84, false), .idxAddr 5, [.tmp 90, .tmp 91]⟩,
         ⟨some 93, some (84, false), .fieldAddr 2, [.tmp 92]⟩,
         ⟨some 94, some (84, false), .load 3 true, [.tmp 93]⟩,
         ⟨some 95, some (84, false), .eqs true [.int .i64, .int .i64, .str], [.tmp 89, .tmp 94]⟩,
         ⟨some 96, none, .pick, [.tmp 84, .const (.bool true), .tmp 95]⟩]) (
       .cond (.tmp 96) (
        .seq (
         .reg [] false [⟨some 6, none, .mv, [.const (.bool false)]⟩]) (
         .ret)) (
        .skip))))) (
    .reg [9, 10, 13] false [⟨some 56, none, .mv, [.tmp 13]⟩,
      ⟨some 57, none, .bin .add, [.tmp 56, .const (.int .i64 1)]⟩,
      ⟨some 13, none, .mv, [.tmp 57]⟩]))

def b_scclaw3_PickGroups : AC :=
  .seq (
   .reg [2, 1, 0] false [⟨some 6, none, .mv, [.const (.bool false)]⟩]) (
   .seq (
    .reg [2, 1, 0] false [⟨some 15, none, .mv, [.tmp 0]⟩,
      ⟨some 16, none, .mv, [.tmp 1]⟩,
      ⟨some 17, none, .call f_sccref3_Columns true, [.tmp 15, .tmp 16]⟩,
      ⟨some 7, none, .mv, [.tmp 17]⟩]) (
    .seq (
     .reg [2, 1, 0, 7] false [⟨some 18, none, .mv, [.tmp 0]⟩,
       ⟨some 19, none, .mv, [.tmp 2]⟩,
       ⟨some 20, none, .call f_sccref3_Column true, [.tmp 18, .tmp 19]⟩,
       ⟨some 8, none, .mv, [.tmp 20]⟩]) (
     .seq (
      .seq (
       .reg [2, 1, 0, 7, 8] false [⟨some 21, none, .mv, [.tmp 7]⟩,
         ⟨some 22, none, .bin .eql, [.tmp 21, .const (.int .i64 0)]⟩,
         ⟨some 23, none, .mv, [.tmp 22]⟩,
         ⟨some 24, some (23, true), .mv, [.tmp 8]⟩,
         ⟨some 25, some (23, true), .un .not, [.tmp 24]⟩,
         ⟨some 26, none, .pick, [.tmp 23, .tmp 25, .const (.bool false)]⟩]) (
       .cond (.tmp 26) (
        .reg [2, 1, 0] false [⟨some 7, none, .mv, [.const (.int .i64 1)]⟩]) (
        .skip))) (
      .seq (
       .reg [7, 2, 1, 0] false [⟨some 9, none, .mv, [.const (.lst (some true) 0 [])]⟩]) (
       .seq (
        .seq (
         .reg [7, 2, 1, 0, 9] false [⟨some 27, none, .mv, [.tmp 7]⟩,
           ⟨some 28, none, .bin .eql, [.tmp 27, .const (.int .i64 0)]⟩]) (
         .cond (.tmp 28) (
          .reg [7, 2, 1, 0] false [⟨some 29, none, .mv, [.tmp 0]⟩,
            ⟨some 30, none, .mv, [.tmp 1]⟩,
            ⟨some 31, none, .mv, [.tmp 2]⟩,
            ⟨some 32, none, .call f_sccref3_Group true, [.tmp 29, .tmp 30, .tmp 31]⟩,
            ⟨some 9, none, .mv, [.tmp 32]⟩]) (
          .skip))) (
        .seq (
         .reg [9, 7, 2, 1, 0] false [⟨some 34, none, .mv, [.tmp 0]⟩,
           ⟨some 35, none, .mv, [.tmp 1]⟩,
           ⟨some 36, none, .mv, [.tmp 2]⟩,
           ⟨some 37, none, .call f_pick_Group true, [.tmp 34, .tmp 35, .tmp 36]⟩,
           ⟨some 33, none, .mv, [.tmp 37]⟩,
           ⟨some 38, none, .extract 0, [.tmp 33]⟩,
           ⟨some 39, none, .extract 1, [.tmp 33]⟩,
           ⟨some 10, none, .mv, [.tmp 38]⟩,
           ⟨some 11, none, .mv, [.tmp 39]⟩]) (
         .seq (
          .reg [9, 10, 7, 11] false [⟨some 40, none, .mv, [.tmp 11]⟩,
            ⟨some 41, none, .mv, [.tmp 7]⟩,
            ⟨some 42, none, .call f_sccsame_Error true, [.tmp 40, .tmp 41]⟩,
            ⟨some 12, none, .mv, [.tmp 42]⟩]) (
          .seq (
           .seq (
            .reg [9, 10, 12] false [⟨some 43, none, .mv, [.tmp 12]⟩,
              ⟨some 44, none, .un .not, [.tmp 43]⟩,
              ⟨some 45, none, .mv, [.tmp 44]⟩,
              ⟨some 46, some (45, false), .mv, [.tmp 10]⟩,
              ⟨some 47, some (45, false), .len false, [.tmp 46]⟩,
              ⟨some 48, some (45, false), .mv, [.tmp 9]⟩,
              ⟨some 49, some (45, false), .len false, [.tmp 48]⟩,
              ⟨some 50, some (45, false), .bin .neq, [.tmp 47, .tmp 49]⟩,
              ⟨some 51, none, .pick, [.tmp 45, .const (.bool true), .tmp 50]⟩]) (
            .cond (.tmp 51) (
             .seq (
              .reg [] false [⟨some 6, none, .mv, [.const (.bool false)]⟩]) (
              .ret)) (
             .skip))) (
           .seq (
            .seq (
             .reg [9, 10] false [⟨some 13, none, .mv, [.const (.int .i64 0)]⟩]) (
             .block 0 [] (
              .loop [13, 9, 10] b_scclaw3_PickGroups_0))) (
            .seq (
             .reg [] false [⟨some 6, none, .mv, [.const (.bool true)]⟩]) (
             .ret)))))))))))
def a_scclaw3_PickGroups : AF := { results := [.tmp 6], body := b_scclaw3_PickGroups }

/- sccsettle/sccref1.Is, 1 params, 0 free: [] -/
def b_sccref1_Is : AC :=
  .seq (
   .reg [0] false [⟨some 1, none, .box, [.tmp 0]⟩,
     ⟨some 2, none, .mv, [.const (.bool false)]⟩]) (
   .seq (
    .seq (
     .reg [1] false [⟨some 3, none, .fieldAddr 0, [.tmp 1]⟩,
       ⟨some 4, none, .load 1 false, [.tmp 3]⟩]) (
     .block 0 [] (
      .seq (
       .reg [1, 4] false [⟨some 6, none, .bin .eql, [.tmp 4, .const (.int .i64 0)]⟩,
         ⟨some 5, none, .mv, [.tmp 6]⟩]) (
       .cond (.tmp 5) (
        .seq (
         .reg [1] false [⟨some 7, none, .fieldAddr 1, [.tmp 1]⟩,
           ⟨some 8, none, .load 1 false, [.tmp 7]⟩,
           ⟨some 9, none, .bin .eql, [.tmp 8, .const (.int .i64 0)]⟩,
           ⟨some 10, none, .mv, [.tmp 9]⟩,
           ⟨some 11, some (10, true), .fieldAddr 2, [.tmp 1]⟩,
           ⟨some 12, some (10, true), .load 1 false, [.tmp 11]⟩,
           ⟨some 13, some (10, true), .bin .eql, [.tmp 12, .const (.str [])]⟩,
           ⟨some 14, none, .pick, [.tmp 10, .tmp 13, .const (.bool false)]⟩,
           ⟨some 2, none, .mv, [.tmp 14]⟩]) (
         .ret)) (
        .seq (
         .reg [1, 4] false [⟨some 16, none, .bin .eql, [.tmp 4, .const (.int .i64 1)]⟩,
           ⟨some 15, none, .mv, [.tmp 16]⟩]) (
         .cond (.tmp 15) (
          .seq (
           .reg [1] false [⟨some 17, none, .fieldAddr 2, [.tmp 1]⟩,
             ⟨some 18, none, .load 1 false, [.tmp 17]⟩,
             ⟨some 19, none, .bin .eql, [.tmp 18, .const (.str [])]⟩,
             ⟨some 2, none, .mv, [.tmp 19]⟩]) (
           .ret)) (
          .seq (
           .reg [1, 4] false [⟨some 21, none, .bin .eql, [.tmp 4, .const (.int .i64 2)]⟩,
             ⟨some 20, none, .mv, [.tmp 21]⟩]) (
           .cond (.tmp 20) (
            .seq (
             .reg [1] false [⟨some 22, none, .fieldAddr 1, [.tmp 1]⟩,
               ⟨some 23, none, .load 1 false, [.tmp 22]⟩,
               ⟨some 24, none, .bin .eql, [.tmp 23, .const (.int .i64 0)]⟩,
               ⟨some 25, none, .mv, [.tmp 24]⟩,
               ⟨some 26, some (25, true), .fieldAddr 2, [.tmp 1]⟩,
               ⟨some 27, some (25, true), .load 1 false, [.tmp 26]⟩,
               ⟨some 28, some (25, true), .len true, [.tmp 27]⟩,
               ⟨some 29, some (25, true), .bin .leq, [.tmp 28, .const (.int .i64 200)]⟩,
               ⟨some 30, none, .pick, [.tmp 25, .tmp 29, .const (.bool false)]⟩,
               ⟨some 2, none, .mv, [.tmp 30]⟩]) (
             .ret)) (
            .seq (
             .reg [1, 4] false [⟨some 32, none, .bin .eql, [.tmp 4, .const (.int .i64 3)]⟩,
               ⟨some 31, none, .mv, [.tmp 32]⟩]) (
             .cond (.tmp 31) (
              .seq (
               .reg [1] false [⟨some 33, none, .fieldAddr 2, [.tmp 1]⟩,
                 ⟨some 34, none, .load 1 false, [.tmp 33]⟩,
                 ⟨some 35, none, .bin .eql, [.tmp 34, .const (.str [])]⟩,
                 ⟨some 36, none, .mv, [.tmp 35]⟩,
                 ⟨some 37, some (36, true), .fieldAddr 1, [.tmp 1]⟩,
                 ⟨some 38, some (36, true), .load 1 false, [.tmp 37]⟩,
                 ⟨some 39, some (36, true), .bin .eql, [.tmp 38, .const (.int .i64 0)]⟩,
                 ⟨some 40, some (36, true), .mv, [.tmp 39]⟩,
                 ⟨some 41, some (40, false), .fieldAddr 1, [.tmp 1]⟩,
                 ⟨some 42, some (40, false), .load 1 false, [.tmp 41]⟩,
                 ⟨some 43, some (40, false), .bin .eql, [.tmp 42, .const (.int .i64 1)]⟩,
                 ⟨some 44, some (36, true), .pick, [.tmp 40, .const (.bool true), .tmp 43]⟩,
                 ⟨some 45, none, .pick, [.tmp 36, .tmp 44, .const (.bool false)]⟩,
                 ⟨some 2, none, .mv, [.tmp 45]⟩]) (
               .ret)) (
              .seq (
               .reg [1, 4] false [⟨some 47, none, .bin .eql, [.tmp 4, .const (.int .i64 4)]⟩,
                 ⟨some 46, none, .mv, [.tmp 47]⟩]) (
               .cond (.tmp 46) (
                .seq (
                 .reg [1] false [⟨some 48, none, .fieldAddr 2, [.tmp 1]⟩,
                   ⟨some 49, none, .load 1 false, [.tmp 48]⟩,
                   ⟨some 50, none, .bin .eql, [.tmp 49, .const (.str [])]⟩,
                   ⟨some 51, none, .mv, [.tmp 50]⟩,
                   ⟨some 52, some (51, true), .fieldAddr 1, [.tmp 1]⟩,
                   ⟨some 53, some (51, true), .load 1 false, [.tmp 52]⟩,
                   ⟨some 54, some (51, true), .bin .geq, [.tmp 53, .const (.int .i64 1)]⟩,
                   ⟨some 55, none, .pick, [.tmp 51, .tmp 54, .const (.bool false)]⟩,
                   ⟨some 56, none, .mv, [.tmp 55]⟩,
                   ⟨some 57, some (56, true), .fieldAddr 1, [.tmp 1]⟩,
                   ⟨some 58, some (56, true), .load 1 false, [.tmp 57]⟩,
                   ⟨some 59, some (56, true), .bin .leq, [.tmp 58, .const (.int .i64 6)]⟩,
                   ⟨some 60, none, .pick, [.tmp 56, .tmp 59, .const (.bool false)]⟩,
                   ⟨some 2, none, .mv, [.tmp 60]⟩]) (
                 .ret)) (
                .skip))))))))))))) (
    .seq (
     .reg [] false [⟨some 2, none, .mv, [.const (.bool false)]⟩]) (
     .ret)))
def a_sccref1_Is : AF := { results := [.tmp 2], body := b_sccref1_Is }

/- sccsettle/sccsame.Error, 2 params, 0 free: [] -/
def b_sccsame_Error : AC :=
  .seq (
   .reg [1, 0] false [⟨some 4, none, .mv, [.const (.bool false)]⟩]) (
   .seq (
    .reg [1, 0] false [⟨some 6, none, .mv, [.tmp 0]⟩,
      ⟨some 7, none, .call f_plain_Told true, [.tmp 6]⟩,
      ⟨some 5, none, .mv, [.tmp 7]⟩]) (
    .seq (
     .reg [1, 5] false [⟨some 8, none, .mv, [.tmp 5]⟩,
       ⟨some 9, none, .mv, [.tmp 1]⟩,
       ⟨some 10, none, .bin .eql, [.tmp 8, .tmp 9]⟩,
       ⟨some 4, none, .mv, [.tmp 10]⟩]) (
     .ret)))
def a_sccsame_Error : AF := { results := [.tmp 4], body := b_sccsame_Error }

/- sccsettle/sccref3.Wants, 2 params, 0 free: [] -/
/- a loop's body; at its head: [6, 1, 0] -/
def b_sccref3_Wants_0 : AC :=
  .seq (
   .seq (
    .reg [1, 0, 6] false [⟨some 17, none, .mv, [.tmp 6]⟩,
      ⟨some 18, none, .mv, [.tmp 1]⟩,
      ⟨some 19, none, .len false, [.tmp 18]⟩,
      ⟨some 20, none, .bin .lss, [.tmp 17, .tmp 19]⟩]) (
    .cond (.tmp 20) (
     .skip) (
     .exit 0))) (
   .seq (
    .block 1 [1, 0, 6] (
     .seq (
      .reg [1, 0, 6] false [⟨some 23, none, .mv, [.tmp 0]⟩,
        ⟨some 24, none, .mv, [.tmp 1]⟩,
        ⟨some 25, none, .mv, [.tmp 6]⟩,
        ⟨some 26, none, .idxAddr 5, [.tmp 24, .tmp 25]⟩,
        ⟨some 27, none, .fieldAddr 0, [.tmp 26]⟩,
        ⟨some 28, none, .load 1 false, [.tmp 27]⟩,
        ⟨some 29, none, .call f_sccref3_Column true, [.tmp 23, .tmp 28]⟩,
        ⟨some 7, none, .mv, [.tmp 29]⟩]) (
      .seq (
       .reg [1, 0, 6, 7] false [⟨some 30, none, .mv, [.tmp 1]⟩,
         ⟨some 31, none, .mv, [.tmp 6]⟩,
         ⟨some 32, none, .idxAddr 5, [.tmp 30, .tmp 31]⟩,
         ⟨some 33, none, .fieldAddr 2, [.tmp 32]⟩,
         ⟨some 34, none, .load 3 true, [.tmp 33]⟩,
         ⟨some 35, none, .call f_sccref1_Is true, [.tmp 34]⟩,
         ⟨some 8, none, .mv, [.tmp 35]⟩]) (
       .seq (
        .reg [1, 0, 6, 8, 7] false [⟨some 36, none, .mv, [.tmp 7]⟩,
          ⟨some 37, none, .un .not, [.tmp 36]⟩,
          ⟨some 38, none, .mv, [.tmp 37]⟩,
          ⟨some 39, some (38, false), .mv, [.tmp 8]⟩,
          ⟨some 40, some (38, false), .un .not, [.tmp 39]⟩,
          ⟨some 41, none, .pick, [.tmp 38, .const (.bool true), .tmp 40]⟩,
          ⟨some 42, none, .mv, [.tmp 41]⟩,
          ⟨some 43, some (42, false), .mv, [.tmp 1]⟩,
          ⟨some 44, some (42, false), .mv, [.tmp 6]⟩,
          ⟨some 45, some (42, false), .idxAddr 5, [.tmp 43, .tmp 44]⟩,
          ⟨some 46, some (42, false), .fieldAddr 1, [.tmp 45]⟩,
          ⟨some 47, some (42, false), .load 1 false, [.tmp 46]⟩,
          ⟨some 48, some (42, false), .bin .lss, [.tmp 47, .const (.int .i64 1)]⟩,
          ⟨some 49, none, .pick, [.tmp 42, .const (.bool true), .tmp 48]⟩,
          ⟨some 50, none, .mv, [.tmp 49]⟩,
          ⟨some 51, some (50, false), .mv, [.tmp 1]⟩,
          ⟨some 52, some (50, false), .mv, [.tmp 6]⟩,
          ⟨some 53, some (50, false), .idxAddr 5, [.tmp 51, .tmp 52]⟩,
          ⟨some 54, some (50, false), .fieldAddr 1, [.tmp 53]⟩,
          ⟨some 55, some (50, false), .load 1 false, [.tmp 54]⟩,
          ⟨some 56, some (50, false), .bin .gtr, [.tmp 55, .const (.int .i64 6)]⟩,
          ⟨some 57, none, .pick, [.tmp 50, .const (.bool true), .tmp 56]⟩]) (
        .cond (.tmp 57) (
         .seq (
          .reg [] false [⟨some 4, none, .mv, [.const (.int .i64 1)]⟩]) (
          .ret)) (
         .skip)))))) (
    .reg [1, 0, 6] false [⟨some 21, none, .mv, [.tmp 6]⟩,
      ⟨some 22, none, .bin .add, [.tmp 21, .const (.int .i64 1)]⟩,
      ⟨some 6, none, .mv, [.tmp 22]⟩]))

def b_sccref3_Wants : AC :=
  .seq (
   .reg [1, 0] false [⟨some 4, none, .mv, [.const (.int .i64 0)]⟩]) (
   .seq (
    .reg [1, 0] false [⟨some 9, none, .mv, [.tmp 0]⟩,
      ⟨some 10, none, .call f_sccref3_Table true, [.tmp 9]⟩,
      ⟨some 5, none, .mv, [.tmp 10]⟩]) (
    .seq (
     .seq (
      .reg [5, 1, 0] false [⟨some 11, none, .mv, [.tmp 5]⟩,
        ⟨some 12, none, .bin .neq, [.tmp 11, .const (.int .i64 0)]⟩]) (
      .cond (.tmp 12) (
       .seq (
        .reg [5] false [⟨some 13, none, .mv, [.tmp 5]⟩,
          ⟨some 4, none, .mv, [.tmp 13]⟩]) (
        .ret)) (
       .skip))) (
     .seq (
      .seq (
       .reg [1, 0] false [⟨some 14, none, .mv, [.tmp 1]⟩,
         ⟨some 15, none, .len false, [.tmp 14]⟩,
         ⟨some 16, none, .bin .gtr, [.tmp 15, .const (.int .i64 12)]⟩]) (
       .cond (.tmp 16) (
        .seq (
         .reg [] false [⟨some 4, none, .mv, [.const (.int .i64 4)]⟩]) (
         .ret)) (
        .skip))) (
      .seq (
       .seq (
        .reg [1, 0] false [⟨some 6, none, .mv, [.const (.int .i64 0)]⟩]) (
        .block 0 [] (
         .loop [6, 1, 0] b_sccref3_Wants_0))) (
       .seq (
        .reg [] false [⟨some 4, none, .mv, [.const (.int .i64 0)]⟩]) (
        .ret))))))
def a_sccref3_Wants : AF := { results := [.tmp 4], body := b_sccref3_Wants }

/- sccsettle/sccref3.Meets, 2 params, 0 free: [ways 2] -/
/- a loop's body; at its head: [6, 5, 1, 0] -/
def b_sccref3_Meets_0 : AC :=
  .seq (
   .seq (
    .reg [1, 0, 6, 5] false [⟨some 8, none, .mv, [.tmp 6]⟩,
      ⟨some 9, none, .mv, [.tmp 1]⟩,
      ⟨some 10, none, .len false, [.tmp 9]⟩,
      ⟨some 11, none, .bin .lss, [.tmp 8, .tmp 10]⟩]) (
    .cond (.tmp 11) (
     .skip) (
     .exit 0))) (
   .seq (
    .block 1 [5, 1, 0, 6] (
     .seq (
      .regt [1, 0, 6, 5] true [⟨some 14, none, .mv, [.tmp 1]⟩,
        ⟨some 15, none, .mv, [.tmp 6]⟩,
        ⟨some 16, none, .idxAddr 5, [.tmp 14, .tmp 15]⟩,
        ⟨some 17, none, .fieldAddr 1, [.tmp 16]⟩,
        ⟨some 18, none, .load 1 false, [.tmp 17]⟩,
        ⟨some 19, none, .mv, [.tmp 0]⟩,
        ⟨some 20, none, .mv, [.tmp 1]⟩,
        ⟨some 21, none, .mv, [.tmp 6]⟩,
        ⟨some 22, none, .idxAddr 5, [.tmp 20, .tmp 21]⟩,
        ⟨some 23, none, .fieldAddr 0, [.tmp 22]⟩,
        ⟨some 24, none, .load 1 false, [.tmp 23]⟩,
        ⟨some 25, none, .idxAddr 3, [.tmp 19, .tmp 24]⟩,
        ⟨some 26, none, .load 3 true, [.tmp 25]⟩,
        ⟨some 27, none, .mv, [.tmp 1]⟩,
        ⟨some 28, none, .mv, [.tmp 6]⟩,
        ⟨some 29, none, .idxAddr 5, [.tmp 27, .tmp 28]⟩,
        ⟨some 30, none, .fieldAddr 2, [.tmp 29]⟩,
        ⟨some 31, none, .load 3 true, [.tmp 30]⟩,
        ⟨some 32, none, .call f_sccref1_Two true, [.tmp 18, .tmp 26, .tmp 31]⟩,
        ⟨some 7, none, .alloc [.int .i64 0, .int .i64 0, .str []], []⟩,
        ⟨none, none, .store 3, [.tmp 7, .tmp 32]⟩] (.step 0 (.step 1 (.step 2 (.step 3 (.step 4 (.step 5 (.step 6 (.step 7 (.step 8 (.step 9 (.step 10 (.step 11 (.step 12 (.step 13 (.step 14 (.step 15 (.step 16 (.step 17 (.alt (.step 18 (.step 19 (.step 20 (.done)))) (.step 19 (.step 18 (.step 20 (.done)))))))))))))))))))))))) (
      .seq (
       .reg [1, 0, 6, 5, 7] false [⟨some 33, none, .fieldAddr 0, [.tmp 7]⟩,
         ⟨some 34, none, .load 1 false, [.tmp 33]⟩,
         ⟨some 35, none, .bin .eql, [.tmp 34, .const (.int .i64 3)]⟩,
         ⟨some 36, none, .mv, [.tmp 35]⟩,
         ⟨some 37, some (36, true), .fieldAddr 1, [.tmp 7]⟩,
         ⟨some 38, some (36, true), .load 1 false, [.tmp 37]⟩,
         ⟨some 39, some (36, true), .bin .eql, [.tmp 38, .const (.int .i64 1)]⟩,
         ⟨some 40, none, .pick, [.tmp 36, .tmp 39, .const (.bool false)]⟩]) (
       .cond (.tmp 40) (
        .reg [1, 0, 6, 5] false [⟨some 41, none, .mv, [.tmp 5]⟩,
          ⟨some 42, none, .bin .add, [.tmp 41, .const (.int .i64 1)]⟩,
          ⟨some 5, none, .mv, [.tmp 42]⟩]) (
        .skip))))) (
    .reg [5, 1, 0, 6] false [⟨some 12, none, .mv, [.tmp 6]⟩,
      ⟨some 13, none, .bin .add, [.tmp 12, .const (.int .i64 1)]⟩,
      ⟨some 6, none, .mv, [.tmp 13]⟩]))

def b_sccref3_Meets : AC :=
  .seq (
   .reg [1, 0] false [⟨some 4, none, .mv, [.const (.int .i64 0)]⟩]) (
   .seq (
    .reg [1, 0] false [⟨some 5, none, .mv, [.const (.int .i64 0)]⟩]) (
    .seq (
     .seq (
      .reg [5, 1, 0] false [⟨some 6, none, .mv, [.const (.int .i64 0)]⟩]) (
      .block 0 [5] (
       .loop [6, 5, 1, 0] b_sccref3_Meets_0))) (
     .seq (
      .reg [5] false [⟨some 43, none, .mv, [.tmp 5]⟩,
        ⟨some 4, none, .mv, [.tmp 43]⟩]) (
      .ret))))
def a_sccref3_Meets : AF := { results := [.tmp 4], body := b_sccref3_Meets }

/- sccsettle/pick.Pick, 2 params, 0 free: [] -/
def b_pick_Pick : AC :=
  .seq (
   .reg [0, 1] false [⟨some 3, none, .box, [.tmp 1]⟩,
     ⟨some 4, none, .mv, [.const (.lst (some true) 0 [])]⟩,
     ⟨some 5, none, .mv, [.const (.nili)]⟩]) (
   .seq (
    .reg [3, 0] false [⟨some 6, none, .mv, [.tmp 0]⟩,
      ⟨some 7, none, .load 1 false, [.tmp 3]⟩,
      ⟨some 8, none, .mkFn f_pick_Pick_c1 0, [.tmp 3]⟩,
      ⟨some 9, none, .call f_pick_picked true, [.tmp 6, .tmp 7, .tmp 8]⟩,
      ⟨some 10, none, .extract 0, [.tmp 9]⟩,
      ⟨some 11, none, .extract 1, [.tmp 9]⟩,
      ⟨some 4, none, .mv, [.tmp 10]⟩,
      ⟨some 5, none, .mv, [.tmp 11]⟩]) (
    .ret))
def a_pick_Pick : AF := { results := [.tmp 4, .tmp 5], body := b_pick_Pick }

/- sccsettle/pick.Any, 2 params, 0 free: [] -/
def b_pick_Any : AC :=
  .seq (
   .reg [1, 0] false [⟨some 4, none, .mv, [.const (.lst (some true) 0 [])]⟩,
     ⟨some 5, none, .mv, [.const (.nili)]⟩]) (
   .seq (
    .reg [1, 0] false [⟨some 6, none, .mv, [.tmp 0]⟩,
      ⟨some 7, none, .mv, [.tmp 1]⟩,
      ⟨some 8, none, .call f_pick_picked true, [.tmp 6, .tmp 7, .fn f_pick_Any_c1]⟩,
      ⟨some 9, none, .extract 0, [.tmp 8]⟩,
      ⟨some 10, none, .extract 1, [.tmp 8]⟩,
      ⟨some 4, none, .mv, [.tmp 9]⟩,
      ⟨some 5, none, .mv, [.tmp 10]⟩]) (
    .ret))
def a_pick_Any : AF := { results := [.tmp 4, .tmp 5], body := b_pick_Any }

/- sccsettle/sccsame.Ints, 2 params, 0 free: [] -/
/- a loop's body; at its head: [5, 1, 0] -/
def b_sccsame_Ints_0 : AC :=
  .seq (
   .seq (
    .reg [1, 0, 5] false [⟨some 11, none, .mv, [.tmp 5]⟩,
      ⟨some 12, none, .mv, [.tmp 0]⟩,
      ⟨some 13, none, .len false, [.tmp 12]⟩,
      ⟨some 14, none, .bin .lss, [.tmp 11, .tmp 13]⟩]) (
    .cond (.tmp 14) (
     .skip) (
     .exit 0))) (
   .seq (
    .block 1 [1, 0, 5] (
     .seq (
      .reg [1, 0, 5] true [⟨some 17, none, .mv, [.tmp 0]⟩,
        ⟨some 18, none, .mv, [.tmp 5]⟩,
        ⟨some 19, none, .idxAddr 1, [.tmp 17, .tmp 18]⟩,
        ⟨some 20, none, .load 1 false, [.tmp 19]⟩,
        ⟨some 21, none, .mv, [.tmp 1]⟩,
        ⟨some 22, none, .mv, [.tmp 5]⟩,
        ⟨some 23, none, .idxAddr 1, [.tmp 21, .tmp 22]⟩,
        ⟨some 24, none, .load 1 false, [.tmp 23]⟩,
        ⟨some 25, none, .bin .neq, [.tmp 20, .tmp 24]⟩]) (
      .cond (.tmp 25) (
       .seq (
        .reg [] false [⟨some 4, none, .mv, [.const (.bool false)]⟩]) (
        .ret)) (
       .skip)))) (
    .reg [1, 0, 5] false [⟨some 15, none, .mv, [.tmp 5]⟩,
      ⟨some 16, none, .bin .add, [.tmp 15, .const (.int .i64 1)]⟩,
      ⟨some 5, none, .mv, [.tmp 16]⟩]))

def b_sccsame_Ints : AC :=
  .seq (
   .reg [1, 0] false [⟨some 4, none, .mv, [.const (.bool false)]⟩]) (
   .seq (
    .seq (
     .reg [1, 0] false [⟨some 6, none, .mv, [.tmp 0]⟩,
       ⟨some 7, none, .len false, [.tmp 6]⟩,
       ⟨some 8, none, .mv, [.tmp 1]⟩,
       ⟨some 9, none, .len false, [.tmp 8]⟩,
       ⟨some 10, none, .bin .neq, [.tmp 7, .tmp 9]⟩]) (
     .cond (.tmp 10) (
      .seq (
       .reg [] false [⟨some 4, none, .mv, [.const (.bool false)]⟩]) (
       .ret)) (
      .skip))) (
    .seq (
     .seq (
      .reg [1, 0] false [⟨some 5, none, .mv, [.const (.int .i64 0)]⟩]) (
      .block 0 [] (
       .loop [5, 1, 0] b_sccsame_Ints_0))) (
     .seq (
      .reg [] false [⟨some 4, none, .mv, [.const (.bool true)]⟩]) (
      .ret))))
def a_sccsame_Ints : AF := { results := [.tmp 4], body := b_sccsame_Ints }

/- sccsettle/sccref3.Columns, 2 params, 0 free: [] -/
/- a loop's body; at its head: [6, 1, 0] -/
def b_sccref3_Columns_0 : AC :=
  .seq (
   .seq (
    .reg [1, 0, 6] false [⟨some 16, none, .mv, [.tmp 6]⟩,
      ⟨some 17, none, .mv, [.tmp 1]⟩,
      ⟨some 18, none, .len false, [.tmp 17]⟩,
      ⟨some 19, none, .bin .lss, [.tmp 16, .tmp 18]⟩]) (
    .cond (.tmp 19) (
     .skip) (
     .exit 0))) (
   .seq (
    .block 1 [1, 0, 6] (
     .seq (
      .reg [1, 0, 6] false [⟨some 22, none, .mv, [.tmp 0]⟩,
        ⟨some 23, none, .mv, [.tmp 1]⟩,
        ⟨some 24, none, .mv, [.tmp 6]⟩,
        ⟨some 25, none, .idxAddr 1, [.tmp 23, .tmp 24]⟩,
        ⟨some 26, none, .load 1 false, [.tmp 25]⟩,
        ⟨some 27, none, .call f_sccref3_Column true, [.tmp 22, .tmp 26]⟩,
        ⟨some 7, none, .mv, [.tmp 27]⟩]) (
      .seq (
       .reg [1, 0, 6, 7] false [⟨some 28, none, .mv, [.tmp 7]⟩,
         ⟨some 29, none, .un .not, [.tmp 28]⟩]) (
       .cond (.tmp 29) (
        .seq (
         .reg [] false [⟨some 4, none, .mv, [.const (.int .i64 1)]⟩]) (
         .ret)) (
        .skip))))) (
    .reg [1, 0, 6] false [⟨some 20, none, .mv, [.tmp 6]⟩,
      ⟨some 21, none, .bin .add, [.tmp 20, .const (.int .i64 1)]⟩,
      ⟨some 6, none, .mv, [.tmp 21]⟩]))

def b_sccref3_Columns : AC :=
  .seq (
   .reg [1, 0] false [⟨some 4, none, .mv, [.const (.int .i64 0)]⟩]) (
   .seq (
    .reg [1, 0] false [⟨some 8, none, .mv, [.tmp 0]⟩,
      ⟨some 9, none, .call f_sccref3_Table true, [.tmp 8]⟩,
      ⟨some 5, none, .mv, [.tmp 9]⟩]) (
    .seq (
     .seq (
      .reg [5, 1, 0] false [⟨some 10, none, .mv, [.tmp 5]⟩,
        ⟨some 11, none, .bin .neq, [.tmp 10, .const (.int .i64 0)]⟩]) (
      .cond (.tmp 11) (
       .seq (
        .reg [5] false [⟨some 12, none, .mv, [.tmp 5]⟩,
          ⟨some 4, none, .mv, [.tmp 12]⟩]) (
        .ret)) (
       .skip))) (
     .seq (
      .seq (
       .reg [1, 0] false [⟨some 13, none, .mv, [.tmp 1]⟩,
         ⟨some 14, none, .len false, [.tmp 13]⟩,
         ⟨some 15, none, .bin .gtr, [.tmp 14, .const (.int .i64 12)]⟩]) (
       .cond (.tmp 15) (
        .seq (
         .reg [] false [⟨some 4, none, .mv, [.const (.int .i64 4)]⟩]) (
         .ret)) (
        .skip))) (
      .seq (
       .seq (
        .reg [1, 0] false [⟨some 6, none, .mv, [.const (.int .i64 0)]⟩]) (
        .block 0 [] (
         .loop [6, 1, 0] b_sccref3_Columns_0))) (
       .seq (
        .reg [] false [⟨some 4, none, .mv, [.const (.int .i64 0)]⟩]) (
        .ret))))))
def a_sccref3_Columns : AF := { results := [.tmp 4], body := b_sccref3_Columns }

/- sccsettle/sccref3.Column, 2 params, 0 free: [] -/
def b_sccref3_Column : AC :=
  .seq (
   .reg [1, 0] false [⟨some 4, none, .mv, [.const (.bool false)]⟩]) (
   .seq (
    .reg [1, 0] false [⟨some 5, none, .mv, [.const (.int .i64 12)]⟩]) (
    .seq (
     .seq (
      .reg [1, 0, 5] false [⟨some 6, none, .mv, [.tmp 0]⟩,
        ⟨some 7, none, .len false, [.tmp 6]⟩,
        ⟨some 8, none, .bin .gtr, [.tmp 7, .const (.int .i64 0)]⟩]) (
      .cond (.tmp 8) (
       .reg [1, 0] false [⟨some 9, none, .mv, [.tmp 0]⟩,
         ⟨some 10, none, .idxAddr 1, [.tmp 9, .const (.int .i64 0)]⟩,
         ⟨some 11, none, .load 1 false, [.tmp 10]⟩,
         ⟨some 12, none, .len false, [.tmp 11]⟩,
         ⟨some 5, none, .mv, [.tmp 12]⟩]) (
       .skip))) (
     .seq (
      .reg [5, 1] false [⟨some 13, none, .mv, [.tmp 1]⟩,
        ⟨some 14, none, .bin .geq, [.tmp 13, .const (.int .i64 0)]⟩,
        ⟨some 15, none, .mv, [.tmp 14]⟩,
        ⟨some 16, some (15, true), .mv, [.tmp 1]⟩,
        ⟨some 17, some (15, true), .mv, [.tmp 5]⟩,
        ⟨some 18, some (15, true), .bin .lss, [.tmp 16, .tmp 17]⟩,
        ⟨some 19, none, .pick, [.tmp 15, .tmp 18, .const (.bool false)]⟩,
        ⟨some 4, none, .mv, [.tmp 19]⟩]) (
      .ret))))
def a_sccref3_Column : AF := { results := [.tmp 4], body := b_sccref3_Column }

/- sccsettle/sccref3.Group, 3 params, 0 free: [ways 2] -/
/- a loop's body; at its head: [8, 1, 7, 0, 2] -/
def b_sccref3_Group_0 : AC :=
  .seq (
   .seq (
    .reg [1, 0, 2, 8, 7] false [⟨some 20, none, .mv, [.tmp 8]⟩,
      ⟨some 21, none, .mv, [.tmp 1]⟩,
      ⟨some 22, none, .len false, [.tmp 21]⟩,
      ⟨some 23, none, .bin .lss, [.tmp 20, .tmp 22]⟩]) (
    .cond (.tmp 23) (
     .skip) (
     .exit 0))) (
   .seq (
    .block 1 [1, 7, 0, 2, 8] (
     .reg [1, 0, 2, 8, 7] false [⟨some 26, none, .mv, [.tmp 7]⟩,
       ⟨some 27, none, .mv, [.tmp 1]⟩,
       ⟨some 28, none, .mv, [.tmp 8]⟩,
       ⟨some 29, none, .idxAddr 1, [.tmp 27, .tmp 28]⟩,
       ⟨some 30, none, .load 1 false, [.tmp 29]⟩,
       ⟨some 31, none, .build [.int .i64 0, .bool false] [(0, 1)], [.tmp 30]⟩,
       ⟨some 32, none, .bslice 2, [.tmp 31]⟩,
       ⟨some 33, none, .append 2 16, [.tmp 26, .tmp 32]⟩,
       ⟨some 7, none, .mv, [.tmp 33]⟩])) (
    .reg [1, 7, 0, 2, 8] false [⟨some 24, none, .mv, [.tmp 8]⟩,
      ⟨some 25, none, .bin .add, [.tmp 24, .const (.int .i64 1)]⟩,
      ⟨some 8, none, .mv, [.tmp 25]⟩]))

/- a loop's body; at its head: [14, 12, 9, 10, 13, 1, 0, 2, 11] -/
def b_sccref3_Group_1 : AC :=
  .seq (
   .seq (
    .reg [12, 9, 10, 1, 0, 2, 11, 14, 13] false [⟨some 46, none, .mv, [.tmp 14]⟩,
      ⟨some 47, none, .mv, [.tmp 10]⟩,
      ⟨some 48, none, .len false, [.tmp 47]⟩,
      ⟨some 49, none, .bin .lss, [.tmp 46, .tmp 48]⟩]) (
    .cond (.tmp 49) (
     .skip) (
     .exit 4))) (
   .seq (
    .block 5 [12, 9, 10, 13, 1, 0, 2, 11, 14] (
     .reg [12, 9, 10, 1, 0, 2, 11, 14, 13] true [⟨some 52, none, .mv, [.tmp 13]⟩,
       ⟨some 53, none, .mv, [.tmp 52]⟩,
       ⟨some 54, some (53, false), .mv, [.tmp 10]⟩,
       ⟨some 55, some (53, false), .mv, [.tmp 14]⟩,
       ⟨some 56, some (53, false), .idxAddr 1, [.tmp 54, .tmp 55]⟩,
       ⟨some 57, some (53, false), .load 1 false, [.tmp 56]⟩,
       ⟨some 58, some (53, false), .mv, [.tmp 9]⟩,
       ⟨some 59, some (53, false), .mv, [.tmp 12]⟩,
       ⟨some 60, some (53, false), .idxAddr 1, [.tmp 58, .tmp 59]⟩,
       ⟨some 61, some (53, false), .load 1 false, [.tmp 60]⟩,
       ⟨some 62, some (53, false), .bin .eql, [.tmp 57, .tmp 61]⟩,
       ⟨some 63, none, .pick, [.tmp 53, .const (.bool true), .tmp 62]⟩,
       ⟨some 13, none, .mv, [.tmp 63]⟩])) (
    .reg [12, 9, 10, 13, 1, 0, 2, 11, 14] false [⟨some 50, none, .mv, [.tmp 14]⟩,
      ⟨some 51, none, .bin .add, [.tmp 50, .const (.int .i64 1)]⟩,
      ⟨some 14, none, .mv, [.tmp 51]⟩]))

/- a loop's body; at its head: [16, 15, 1, 12, 9, 0, 2, 10, 11] -/
def b_sccref3_Group_2 : AC :=
  .seq (
   .seq (
    .reg [15, 1, 12, 9, 0, 2, 10, 11, 16] false [⟨some 67, none, .mv, [.tmp 16]⟩,
      ⟨some 68, none, .mv, [.tmp 1]⟩,
      ⟨some 69, none, .len false, [.tmp 68]⟩,
      ⟨some 70, none, .bin .lss, [.tmp 67, .tmp 69]⟩]) (
    .cond (.tmp 70) (
     .skip) (
     .exit 6))) (
   .seq (
    .block 7 [15, 1, 12, 9, 0, 2, 10, 11, 16] (
     .regt [15, 1, 12, 9, 0, 2, 10, 11, 16] true [⟨some 73, none, .fieldAddr 0, [.tmp 15]⟩,
       ⟨some 74, none, .load 1 false, [.tmp 73]⟩,
       ⟨some 75, none, .mv, [.tmp 0]⟩,
       ⟨some 76, none, .mv, [.tmp 9]⟩,
       ⟨some 77, none, .mv, [.tmp 12]⟩,
       ⟨some 78, none, .idxAddr 1, [.tmp 76, .tmp 77]⟩,
       ⟨some 79, none, .load 1 false, [.tmp 78]⟩,
       ⟨some 80, none, .idxAddr 1, [.tmp 75, .tmp 79]⟩,
       ⟨some 81, none, .load 1 false, [.tmp 80]⟩,
       ⟨some 82, none, .mv, [.tmp 1]⟩,
       ⟨some 83, none, .mv, [.tmp 16]⟩,
       ⟨some 84, none, .idxAddr 1, [.tmp 82, .tmp 83]⟩,
       ⟨some 85, none, .load 1 false, [.tmp 84]⟩,
       ⟨some 86, none, .idxAddr 3, [.tmp 81, .tmp 85]⟩,
       ⟨some 87, none, .load 3 true, [.tmp 86]⟩,
       ⟨some 88, none, .bslice 3, [.tmp 87]⟩,
       ⟨some 89, none, .append 3 32, [.tmp 74, .tmp 88]⟩,
       ⟨some 90, none, .fieldAddr 0, [.tmp 15]⟩,
       ⟨none, none, .store 1, [.tmp 90, .tmp 89]⟩] (.step 0 (.step 2 (.step 3 (.step 4 (.step 5 (.step 6 (.step 7 (.step 8 (.step 9 (.step 10 (.step 11 (.step 12 (.step 13 (.step 14 (.alt (.step 1 (.step 15 (.step 16 (.step 17 (.step 18 (.done)))))) (.step 15 (.step 1 (.step 16 (.step 17 (.step 18 (.done))))))))))))))))))))))) (
    .reg [15, 1, 12, 9, 0, 2, 10, 11, 16] false [⟨some 71, none, .mv, [.tmp 16]⟩,
      ⟨some 72, none, .bin .add, [.tmp 71, .const (.int .i64 1)]⟩,
      ⟨some 16, none, .mv, [.tmp 72]⟩]))

/- a loop's body; at its head: [18, 2, 0, 17, 15, 1, 12, 9, 10, 11] -/
def b_sccref3_Group_3 : AC :=
  .seq (
   .seq (
    .reg [2, 0, 15, 1, 12, 9, 10, 11, 18, 17] false [⟨some 91, none, .mv, [.tmp 18]⟩,
      ⟨some 92, none, .mv, [.tmp 0]⟩,
      ⟨some 93, none, .len false, [.tmp 92]⟩,
      ⟨some 94, none, .bin .lss, [.tmp 91, .tmp 93]⟩]) (
    .cond (.tmp 94) (
     .skip) (
     .exit 8))) (
   .seq (
    .block 9 [2, 0, 17, 15, 1, 12, 9, 10, 11, 18] (
     .seq (
      .reg [2, 0, 15, 1, 12, 9, 10, 11, 18, 17] true [⟨some 97, none, .mv, [.tmp 0]⟩,
        ⟨some 98, none, .mv, [.tmp 18]⟩,
        ⟨some 99, none, .idxAddr 1, [.tmp 97, .tmp 98]⟩,
        ⟨some 100, none, .load 1 false, [.tmp 99]⟩,
        ⟨some 101, none, .mv, [.tmp 0]⟩,
        ⟨some 102, none, .mv, [.tmp 9]⟩,
        ⟨some 103, none, .mv, [.tmp 12]⟩,
        ⟨some 104, none, .idxAddr 1, [.tmp 102, .tmp 103]⟩,
        ⟨some 105, none, .load 1 false, [.tmp 104]⟩,
        ⟨some 106, none, .idxAddr 1, [.tmp 101, .tmp 105]⟩,
        ⟨some 107, none, .load 1 false, [.tmp 106]⟩,
        ⟨some 108, none, .mv, [.tmp 1]⟩,
        ⟨some 109, none, .call f_sccref3_Alike true, [.tmp 100, .tmp 107, .tmp 108]⟩,
        ⟨some 19, none, .mv, [.tmp 109]⟩]) (
      .seq (
       .reg [2, 0, 15, 1, 12, 9, 10, 11, 18, 17, 19] false [⟨some 110, none, .mv, [.tmp 19]⟩]) (
       .cond (.tmp 110) (
        .seq (
         .reg [2, 0, 15, 1, 12, 9, 10, 11, 18, 17] false [⟨some 111, none, .fieldAddr 1, [.tmp 15]⟩,
           ⟨some 112, none, .load 1 false, [.tmp 111]⟩,
           ⟨some 113, none, .bin .add, [.tmp 112, .const (.int .i64 1)]⟩,
           ⟨some 114, none, .fieldAddr 1, [.tmp 15]⟩,
           ⟨none, none, .store 1, [.tmp 114, .tmp 113]⟩]) (
         .reg [2, 0, 15, 1, 12, 9, 10, 11, 18, 17] false [⟨some 115, none, .mv, [.tmp 17]⟩,
           ⟨some 116, none, .mv, [.tmp 0]⟩,
           ⟨some 117, none, .mv, [.tmp 18]⟩,
           ⟨some 118, none, .idxAddr 1, [.tmp 116, .tmp 117]⟩,
           ⟨some 119, none, .load 1 false, [.tmp 118]⟩,
           ⟨some 120, none, .mv, [.tmp 2]⟩,
           ⟨some 121, none, .idxAddr 3, [.tmp 119, .tmp 120]⟩,
           ⟨some 122, none, .load 3 true, [.tmp 121]⟩,
           ⟨some 123, none, .bslice 3, [.tmp 122]⟩,
           ⟨some 124, none, .append 3 32, [.tmp 115, .tmp 123]⟩,
           ⟨some 17, none, .mv, [.tmp 124]⟩])) (
        .skip))))) (
    .reg [2, 0, 17, 15, 1, 12, 9, 10, 11, 18] false [⟨some 95, none, .mv, [.tmp 18]⟩,
      ⟨some 96, none, .bin .add, [.tmp 95, .const (.int .i64 1)]⟩,
      ⟨some 18, none, .mv, [.tmp 96]⟩]))

/- a loop's body; at its head: [12, 9, 10, 1, 0, 2, 11] -/
def b_sccref3_Group_4 : AC :=
  .seq (
   .seq (
    .reg [12, 9, 10, 1, 0, 2, 11] false [⟨some 40, none, .mv, [.tmp 12]⟩,
      ⟨some 41, none, .mv, [.tmp 9]⟩,
      ⟨some 42, none, .len false, [.tmp 41]⟩,
      ⟨some 43, none, .bin .lss, [.tmp 40, .tmp 42]⟩]) (
    .cond (.tmp 43) (
     .skip) (
     .exit 2))) (
   .seq (
    .block 3 [9, 10, 1, 0, 2, 11, 12] (
     .seq (
      .reg [12, 9, 10, 1, 0, 2, 11] false [⟨some 13, none, .mv, [.const (.bool false)]⟩]) (
      .seq (
       .seq (
        .reg [12, 9, 10, 13, 1, 0, 2, 11] false [⟨some 14, none, .mv, [.const (.int .i64 0)]⟩]) (
        .block 4 [9, 10, 1, 0, 2, 11, 12, 13] (
         .loop [14, 12, 9, 10, 13, 1, 0, 2, 11] b_sccref3_Group_1))) (
       .seq (
        .seq (
         .reg [9, 10, 1, 0, 2, 11, 12, 13] false [⟨some 64, none, .mv, [.tmp 13]⟩,
           ⟨some 65, none, .un .not, [.tmp 64]⟩]) (
         .cond (.tmp 65) (
          .exit 3) (
          .skip))) (
        .seq (
         .reg [1, 12, 9, 0, 2, 10, 11] false [⟨some 66, none, .build [.lst (some true) 0 [], .int .i64 0, .int .i64 0, .int .i64 0, .str []] [], []⟩,
           ⟨some 15, none, .alloc [.lst (some true) 0 [], .int .i64 0, .int .i64 0, .int .i64 0, .str []], []⟩,
           ⟨none, none, .store 5, [.tmp 15, .tmp 66]⟩]) (
         .seq (
          .seq (
           .reg [15, 1, 12, 9, 0, 2, 10, 11] false [⟨some 16, none, .mv, [.const (.int .i64 0)]⟩]) (
           .block 6 [2, 0, 15, 1, 12, 9, 10, 11] (
            .loop [16, 15, 1, 12, 9, 0, 2, 10, 11] b_sccref3_Group_2))) (
          .seq (
           .reg [2, 0, 15, 1, 12, 9, 10, 11] false [⟨some 17, none, .mv, [.const (.lst (some true) 0 [])]⟩]) (
           .seq (
            .seq (
             .reg [2, 0, 17, 15, 1, 12, 9, 10, 11] false [⟨some 18, none, .mv, [.const (.int .i64 0)]⟩]) (
             .block 8 [9, 10, 1, 0, 2, 12, 15, 11, 17] (
              .loop [18, 2, 0, 17, 15, 1, 12, 9, 10, 11] b_sccref3_Group_3))) (
            .seq (
             .reg [9, 10, 1, 0, 2, 12, 15, 11, 17] false [⟨some 125, none, .mv, [.tmp 17]⟩,
               ⟨some 126, none, .call f_sccref3_Sum true, [.tmp 125]⟩,
               ⟨some 127, none, .fieldAddr 2, [.tmp 15]⟩,
               ⟨none, none, .store 3, [.tmp 127, .tmp 126]⟩]) (
             .reg [9, 10, 1, 0, 2, 12, 15, 11] false [⟨some 128, none, .mv, [.tmp 11]⟩,
               ⟨some 129, none, .load 5 true, [.tmp 15]⟩,
               ⟨some 130, none, .bslice 5, [.tmp 129]⟩,
               ⟨some 131, none, .append 5 64, [.tmp 128, .tmp 130]⟩,
               ⟨some 11, none, .mv, [.tmp 131]⟩])))))))))) (
    .reg [9, 10, 1, 0, 2, 11, 12] false [⟨some 44, none, .mv, [.tmp 12]⟩,
      ⟨some 45, none, .bin .add, [.tmp 44, .const (.int .i64 1)]⟩,
      ⟨some 12, none, .mv, [.tmp 45]⟩]))

def b_sccref3_Group : AC :=
  .seq (
   .reg [1, 0, 2] false [⟨some 6, none, .mv, [.const (.lst (some true) 0 [])]⟩]) (
   .seq (
    .reg [1, 0, 2] false [⟨some 7, none, .mv, [.const (.lst (some true) 0 [])]⟩]) (
    .seq (
     .seq (
      .reg [1, 7, 0, 2] false [⟨some 8, none, .mv, [.const (.int .i64 0)]⟩]) (
      .block 0 [1, 0, 2, 7] (
       .loop [8, 1, 7, 0, 2] b_sccref3_Group_0))) (
     .seq (
      .reg [1, 0, 2, 7] false [⟨some 34, none, .mv, [.tmp 0]⟩,
        ⟨some 35, none, .mv, [.tmp 7]⟩,
        ⟨some 36, none, .call f_sccref3_Sort true, [.tmp 34, .tmp 35]⟩,
        ⟨some 9, none, .mv, [.tmp 36]⟩]) (
      .seq (
       .reg [9, 1, 0, 2] false [⟨some 37, none, .mv, [.tmp 0]⟩,
         ⟨some 38, none, .mv, [.tmp 1]⟩,
         ⟨some 39, none, .call f_sccref3_Distinct true, [.tmp 37, .tmp 38]⟩,
         ⟨some 10, none, .mv, [.tmp 39]⟩]) (
       .seq (
        .reg [9, 10, 1, 0, 2] false [⟨some 11, none, .mv, [.const (.lst (some true) 0 [])]⟩]) (
        .seq (
         .seq (
          .reg [9, 10, 1, 0, 2, 11] false [⟨some 12, none, .mv, [.const (.int .i64 0)]⟩]) (
          .block 2 [11] (
           .loop [12, 9, 10, 1, 0, 2, 11] b_sccref3_Group_4))) (
         .seq (
          .reg [11] false [⟨some 132, none, .mv, [.tmp 11]⟩,
            ⟨some 6, none, .mv, [.tmp 132]⟩]) (
          .ret))))))))
def a_sccref3_Group : AF := { results := [.tmp 6], body := b_sccref3_Group }

/- sccsettle/pick.Group, 3 params, 0 free: [ways 2] -/
/- a loop's body; at its head: [35, 9, 33, 0, 2, 1, 34] -/
def b_pick_Group_0 : AC :=
  .seq (
   .reg [33, 0, 2, 1, 34, 35, 9] false [⟨some 36, none, .bin .lss, [.tmp 35, .tmp 34]⟩]) (
   .seq (
    .cond (.tmp 36) (
     .skip) (
     .exit 0)) (
    .seq (
     .block 1 [9, 33, 0, 2, 1, 34, 35] (
      .seq (
       .reg [33, 0, 2, 1, 34, 35, 9] false [⟨some 37, none, .idxAddr 1, [.tmp 33, .tmp 35]⟩,
         ⟨some 38, none, .load 1 false, [.tmp 37]⟩,
         ⟨some 11, none, .mv, [.tmp 38]⟩]) (
       .reg [33, 0, 2, 1, 34, 35, 11, 9] false [⟨some 39, none, .mv, [.tmp 9]⟩,
         ⟨some 40, none, .mv, [.tmp 11]⟩,
         ⟨some 41, none, .build [.int .i64 0, .bool false] [(0, 1)], [.tmp 40]⟩,
         ⟨some 42, none, .bslice 2, [.tmp 41]⟩,
         ⟨some 43, none, .append 2 16, [.tmp 39, .tmp 42]⟩,
         ⟨some 9, none, .mv, [.tmp 43]⟩]))) (
     .reg [9, 33, 0, 2, 1, 34, 35] false [⟨some 44, none, .bin .add, [.tmp 35, .const (.int .i64 1)]⟩,
       ⟨some 35, none, .mv, [.tmp 44]⟩])))

/- a loop's body; at its head: [15, 12, 0, 2, 1, 9, 14] -/
def b_pick_Group_1 : AC :=
  .seq (
   .seq (
    .reg [12, 0, 2, 1, 9, 14, 15] true [⟨some 57, none, .mv, [.tmp 15]⟩,
      ⟨some 58, none, .mv, [.tmp 12]⟩,
      ⟨some 59, none, .len false, [.tmp 58]⟩,
      ⟨some 60, none, .bin .lss, [.tmp 57, .tmp 59]⟩,
      ⟨some 61, none, .mv, [.tmp 60]⟩,
      ⟨some 62, some (61, true), .mv, [.tmp 0]⟩,
      ⟨some 63, some (61, true), .mv, [.tmp 12]⟩,
      ⟨some 64, some (61, true), .idxAddr 1, [.tmp 63, .const (.int .i64 0)]⟩,
      ⟨some 65, some (61, true), .load 1 false, [.tmp 64]⟩,
      ⟨some 66, some (61, true), .idxAddr 1, [.tmp 62, .tmp 65]⟩,
      ⟨some 67, some (61, true), .load 1 false, [.tmp 66]⟩,
      ⟨some 68, some (61, true), .mv, [.tmp 0]⟩,
      ⟨some 69, some (61, true), .mv, [.tmp 12]⟩,
      ⟨some 70, some (61, true), .mv, [.tmp 15]⟩,
      ⟨some 71, some (61, true), .idxAddr 1, [.tmp 69, .tmp 70]⟩,
      ⟨some 72, some (61, true), .load 1 false, [.tmp 71]⟩,
      ⟨some 73, some (61, true), .idxAddr 1, [.tmp 68, .tmp 72]⟩,
      ⟨some 74, some (61, true), .load 1 false, [.tmp 73]⟩,
      ⟨some 75, some (61, true), .mv, [.tmp 9]⟩,
      ⟨some 76, some (61, true), .call f_sort_Compare true, [.tmp 67, .tmp 74, .tmp 75]⟩,
      ⟨some 77, some (61, true), .bin .eql, [.tmp 76, .const (.int .i64 0)]⟩,
      ⟨some 78, none, .pick, [.tmp 61, .tmp 77, .const (.bool false)]⟩]) (
    .cond (.tmp 78) (
     .skip) (
     .exit 4))) (
   .block 5 [15, 12, 0, 2, 1, 9, 14] (
    .reg [12, 0, 2, 1, 9, 14, 15] false [⟨some 79, none, .mv, [.tmp 15]⟩,
      ⟨some 80, none, .bin .add, [.tmp 79, .const (.int .i64 1)]⟩,
      ⟨some 15, none, .mv, [.tmp 80]⟩]))

/- a loop's body; at its head: [85, 16, 12, 0, 83, 2, 1, 9, 15, 14, 84] -/
def b_pick_Group_2 : AC :=
  .seq (
   .reg [16, 12, 0, 83, 2, 1, 9, 15, 14, 84, 85] false [⟨some 86, none, .bin .lss, [.tmp 85, .tmp 84]⟩]) (
   .seq (
    .cond (.tmp 86) (
     .skip) (
     .exit 6)) (
    .seq (
     .block 7 [16, 12, 0, 83, 2, 1, 9, 15, 14, 84, 85] (
      .seq (
       .reg [16, 12, 0, 83, 2, 1, 9, 15, 14, 84, 85] false [⟨some 87, none, .idxAddr 1, [.tmp 83, .tmp 85]⟩,
         ⟨some 88, none, .load 1 false, [.tmp 87]⟩,
         ⟨some 18, none, .mv, [.tmp 88]⟩]) (
       .regt [16, 12, 0, 83, 2, 1, 9, 15, 14, 84, 85, 18] true [⟨some 89, none, .fieldAddr 0, [.tmp 16]⟩,
         ⟨some 90, none, .load 1 false, [.tmp 89]⟩,
         ⟨some 91, none, .mv, [.tmp 0]⟩,
         ⟨some 92, none, .mv, [.tmp 12]⟩,
         ⟨some 93, none, .idxAddr 1, [.tmp 92, .const (.int .i64 0)]⟩,
         ⟨some 94, none, .load 1 false, [.tmp 93]⟩,
         ⟨some 95, none, .idxAddr 1, [.tmp 91, .tmp 94]⟩,
         ⟨some 96, none, .load 1 false, [.tmp 95]⟩,
         ⟨some 97, none, .mv, [.tmp 18]⟩,
         ⟨some 98, none, .idxAddr 3, [.tmp 96, .tmp 97]⟩,
         ⟨some 99, none, .load 3 true, [.tmp 98]⟩,
         ⟨some 100, none, .bslice 3, [.tmp 99]⟩,
         ⟨some 101, none, .append 3 32, [.tmp 90, .tmp 100]⟩,
         ⟨some 102, none, .fieldAddr 0, [.tmp 16]⟩,
         ⟨none, none, .store 1, [.tmp 102, .tmp 101]⟩] (.step 0 (.step 2 (.step 3 (.step 4 (.step 5 (.step 6 (.step 7 (.step 8 (.step 9 (.step 10 (.alt (.step 1 (.step 11 (.step 12 (.step 13 (.step 14 (.done)))))) (.step 11 (.step 1 (.step 12 (.step 13 (.step 14 (.done)))))))))))))))))))) (
     .reg [16, 12, 0, 83, 2, 1, 9, 15, 14, 84, 85] false [⟨some 103, none, .bin .add, [.tmp 85, .const (.int .i64 1)]⟩,
       ⟨some 85, none, .mv, [.tmp 103]⟩])))

/- a loop's body; at its head: [108, 2, 0, 19, 106, 1, 9, 15, 12, 16, 14, 107] -/
def b_pick_Group_3 : AC :=
  .seq (
   .reg [2, 0, 106, 1, 9, 15, 12, 16, 14, 107, 108, 19] false [⟨some 109, none, .bin .lss, [.tmp 108, .tmp 107]⟩]) (
   .seq (
    .cond (.tmp 109) (
     .skip) (
     .exit 8)) (
    .seq (
     .block 9 [2, 0, 19, 106, 1, 9, 15, 12, 16, 14, 107, 108] (
      .seq (
       .reg [2, 0, 106, 1, 9, 15, 12, 16, 14, 107, 108, 19] false [⟨some 110, none, .idxAddr 1, [.tmp 106, .tmp 108]⟩,
         ⟨some 111, none, .load 1 false, [.tmp 110]⟩,
         ⟨some 21, none, .mv, [.tmp 111]⟩]) (
       .reg [2, 0, 106, 1, 9, 15, 12, 16, 14, 107, 108, 21, 19] false [⟨some 112, none, .mv, [.tmp 19]⟩,
         ⟨some 113, none, .mv, [.tmp 0]⟩,
         ⟨some 114, none, .mv, [.tmp 21]⟩,
         ⟨some 115, none, .idxAddr 1, [.tmp 113, .tmp 114]⟩,
         ⟨some 116, none, .load 1 false, [.tmp 115]⟩,
         ⟨some 117, none, .mv, [.tmp 2]⟩,
         ⟨some 118, none, .idxAddr 3, [.tmp 116, .tmp 117]⟩,
         ⟨some 119, none, .load 3 true, [.tmp 118]⟩,
         ⟨some 120, none, .bslice 3, [.tmp 119]⟩,
         ⟨some 121, none, .append 3 32, [.tmp 112, .tmp 120]⟩,
         ⟨some 19, none, .mv, [.tmp 121]⟩]))) (
     .reg [2, 0, 19, 106, 1, 9, 15, 12, 16, 14, 107, 108] false [⟨some 122, none, .bin .add, [.tmp 108, .const (.int .i64 1)]⟩,
       ⟨some 108, none, .mv, [.tmp 122]⟩])))

/- a loop's body; at its head: [12, 0, 2, 14, 1, 9] -/
def b_pick_Group_4 : AC :=
  .seq (
   .seq (
    .reg [12, 0, 2, 1, 9, 14] false [⟨some 54, none, .mv, [.tmp 12]⟩,
      ⟨some 55, none, .len false, [.tmp 54]⟩,
      ⟨some 56, none, .bin .gtr, [.tmp 55, .const (.int .i64 0)]⟩]) (
    .cond (.tmp 56) (
     .skip) (
     .exit 2))) (
   .block 3 [12, 0, 2, 14, 1, 9] (
    .seq (
     .reg [12, 0, 2, 1, 9, 14] false [⟨some 15, none, .mv, [.const (.int .i64 1)]⟩]) (
     .seq (
      .block 4 [12, 0, 2, 1, 9, 15, 14] (
       .loop [15, 12, 0, 2, 1, 9, 14] b_pick_Group_1)) (
      .seq (
       .reg [12, 0, 2, 1, 9, 15, 14] false [⟨some 81, none, .mv, [.tmp 15]⟩,
         ⟨some 82, none, .build [.lst (some true) 0 [], .int .i64 0, .int .i64 0, .int .i64 0, .str []] [(1, 1)], [.tmp 81]⟩,
         ⟨some 16, none, .alloc [.lst (some true) 0 [], .int .i64 0, .int .i64 0, .int .i64 0, .str []], []⟩,
         ⟨none, none, .store 5, [.tmp 16, .tmp 82]⟩]) (
       .seq (
        .seq (
         .reg [16, 12, 0, 2, 1, 9, 15, 14] false [⟨some 83, none, .mv, [.tmp 1]⟩,
           ⟨some 84, none, .len false, [.tmp 83]⟩,
           ⟨some 85, none, .mv, [.const (.int .i64 0)]⟩]) (
         .block 6 [2, 0, 1, 9, 15, 12, 16, 14] (
          .loop [85, 16, 12, 0, 83, 2, 1, 9, 15, 14, 84] b_pick_Group_2))) (
        .seq (
         .reg [2, 0, 1, 9, 15, 12, 16, 14] false [⟨some 19, none, .mv, [.const (.lst (some true) 0 [])]⟩]) (
         .seq (
          .seq (
           .reg [2, 0, 19, 1, 9, 15, 12, 16, 14] false [⟨some 104, none, .mv, [.tmp 12]⟩,
             ⟨some 105, none, .mv, [.tmp 15]⟩,
             ⟨some 106, none, .slc (some 1) false true, [.tmp 104, .tmp 105]⟩,
             ⟨some 107, none, .len false, [.tmp 106]⟩,
             ⟨some 108, none, .mv, [.const (.int .i64 0)]⟩]) (
           .block 8 [0, 2, 1, 9, 15, 12, 16, 14, 19] (
            .loop [108, 2, 0, 19, 106, 1, 9, 15, 12, 16, 14, 107] b_pick_Group_3))) (
          .seq (
           .reg [0, 2, 1, 9, 15, 12, 16, 14, 19] false [⟨some 123, none, .mv, [.tmp 19]⟩,
             ⟨some 124, none, .call f_pick_sum true, [.tmp 123]⟩,
             ⟨some 125, none, .fieldAddr 2, [.tmp 16]⟩,
             ⟨none, none, .store 3, [.tmp 125, .tmp 124]⟩]) (
           .seq (
            .reg [0, 2, 1, 9, 15, 12, 16, 14] false [⟨some 126, none, .mv, [.tmp 14]⟩,
              ⟨some 127, none, .load 5 true, [.tmp 16]⟩,
              ⟨some 128, none, .bslice 5, [.tmp 127]⟩,
              ⟨some 129, none, .append 5 64, [.tmp 126, .tmp 128]⟩,
              ⟨some 14, none, .mv, [.tmp 129]⟩]) (
            .reg [0, 2, 14, 1, 9, 15, 12] false [⟨some 130, none, .mv, [.tmp 12]⟩,
              ⟨some 131, none, .mv, [.tmp 15]⟩,
              ⟨some 132, none, .slc (some 1) true false, [.tmp 130, .tmp 131]⟩,
              ⟨some 12, none, .mv, [.tmp 132]⟩]))))))))))

def b_pick_Group : AC :=
  .seq (
   .reg [0, 2, 1] false [⟨some 6, none, .mv, [.const (.lst (some true) 0 [])]⟩,
     ⟨some 7, none, .mv, [.const (.nili)]⟩]) (
   .seq (
    .seq (
     .reg [0, 2, 1] false [⟨some 22, none, .mv, [.tmp 0]⟩,
       ⟨some 23, none, .mv, [.tmp 1]⟩,
       ⟨some 24, none, .call f_sort_Columns true, [.tmp 22, .tmp 23]⟩,
       ⟨some 8, none, .mv, [.tmp 24]⟩]) (
     .seq (
      .reg [8, 0, 2, 1] false [⟨some 25, none, .mv, [.tmp 8]⟩,
        ⟨some 26, none, .eqn .iface true true, [.tmp 25, .const (.nili)]⟩]) (
      .cond (.tmp 26) (
       .seq (
        .reg [8] false [⟨some 27, none, .mv, [.tmp 8]⟩,
          ⟨some 6, none, .mv, [.const (.lst (some true) 0 [])]⟩,
          ⟨some 7, none, .mv, [.tmp 27]⟩]) (
        .ret)) (
       .skip)))) (
    .seq (
     .seq (
      .reg [0, 2, 1] false [⟨some 28, none, .mv, [.tmp 0]⟩,
        ⟨some 29, none, .mv, [.tmp 2]⟩,
        ⟨some 30, none, .call f_sort_Column true, [.tmp 28, .tmp 29]⟩,
        ⟨some 31, none, .un .not, [.tmp 30]⟩]) (
      .cond (.tmp 31) (
       .seq (
        .reg [] false [⟨some 32, none, .mkIface t_api_Errno, [.const (.int .i64 1)]⟩,
          ⟨some 6, none, .mv, [.const (.lst (some true) 0 [])]⟩,
          ⟨some 7, none, .mv, [.tmp 32]⟩]) (
        .ret)) (
       .skip))) (
     .seq (
      .reg [0, 2, 1] false [⟨some 9, none, .mv, [.const (.lst (some true) 0 [])]⟩]) (
      .seq (
       .seq (
        .reg [9, 0, 2, 1] false [⟨some 33, none, .mv, [.tmp 1]⟩,
          ⟨some 34, none, .len false, [.tmp 33]⟩,
          ⟨some 35, none, .mv, [.const (.int .i64 0)]⟩]) (
        .block 0 [0, 2, 1, 9] (
         .loop [35, 9, 33, 0, 2, 1, 34] b_pick_Group_0))) (
       .seq (
        .reg [0, 2, 1, 9] false [⟨some 46, none, .mv, [.tmp 0]⟩,
          ⟨some 47, none, .mv, [.tmp 9]⟩,
          ⟨some 48, none, .call f_sort_Sort true, [.tmp 46, .tmp 47]⟩,
          ⟨some 45, none, .mv, [.tmp 48]⟩,
          ⟨some 49, none, .extract 0, [.tmp 45]⟩,
          ⟨some 50, none, .extract 1, [.tmp 45]⟩,
          ⟨some 12, none, .mv, [.tmp 49]⟩,
          ⟨some 13, none, .mv, [.tmp 50]⟩]) (
        .seq (
         .seq (
          .reg [13, 12, 0, 2, 1, 9] false [⟨some 51, none, .mv, [.tmp 13]⟩,
            ⟨some 52, none, .eqn .iface true true, [.tmp 51, .const (.nili)]⟩]) (
          .cond (.tmp 52) (
           .seq (
            .reg [13] false [⟨some 53, none, .mv, [.tmp 13]⟩,
              ⟨some 6, none, .mv, [.const (.lst (some true) 0 [])]⟩,
              ⟨some 7, none, .mv, [.tmp 53]⟩]) (
            .ret)) (
           .skip))) (
         .seq (
          .reg [12, 0, 2, 1, 9] false [⟨some 14, none, .mv, [.const (.lst (some true) 0 [])]⟩]) (
          .seq (
           .block 2 [14] (
            .loop [12, 0, 2, 14, 1, 9] b_pick_Group_4)) (
           .seq (
            .reg [14] false [⟨some 133, none, .mv, [.tmp 14]⟩,
              ⟨some 6, none, .mv, [.tmp 133]⟩,
              ⟨some 7, none, .mv, [.const (.nili)]⟩]) (
            .ret))))))))))
def a_pick_Group : AF := { results := [.tmp 6, .tmp 7], body := b_pick_Group }

/- sccsettle/sccsame.Values, 2 params, 0 free: [] -/
/- a loop's body; at its head: [5, 1, 0] -/
def b_sccsame_Values_0 : AC :=
  .seq (
   .seq (
    .reg [1, 0, 5] false [⟨some 11, none, .mv, [.tmp 5]⟩,
      ⟨some 12, none, .mv, [.tmp 0]⟩,
      ⟨some 13, none, .len false, [.tmp 12]⟩,
      ⟨some 14, none, .bin .lss, [.tmp 11, .tmp 13]⟩]) (
    .cond (.tmp 14) (
     .skip) (
     .exit 0))) (
   .seq (
    .block 1 [1, 0, 5] (
     .seq (
      .reg [1, 0, 5] true [⟨some 17, none, .mv, [.tmp 0]⟩,
        ⟨some 18, none, .mv, [.tmp 5]⟩,
        ⟨some 19, none, .idxAddr 3, [.tmp 17, .tmp 18]⟩,
        ⟨some 20, none, .load 3 true, [.tmp 19]⟩,
        ⟨some 21, none, .mv, [.tmp 1]⟩,
        ⟨some 22, none, .mv, [.tmp 5]⟩,
        ⟨some 23, none, .idxAddr 3, [.tmp 21, .tmp 22]⟩,
        ⟨some 24, none, .load 3 true, [.tmp 23]⟩,
        ⟨some 25, none, .eqs true [.int .i64, .int .i64, .str], [.tmp 20, .tmp 24]⟩]) (
      .cond (.tmp 25) (
       .seq (
        .reg [] false [⟨some 4, none, .mv, [.const (.bool false)]⟩]) (
        .ret)) (
       .skip)))) (
    .reg [1, 0, 5] false [⟨some 15, none, .mv, [.tmp 5]⟩,
      ⟨some 16, none, .bin .add, [.tmp 15, .const (.int .i64 1)]⟩,
      ⟨some 5, none, .mv, [.tmp 16]⟩]))

def b_sccsame_Values : AC :=
  .seq (
   .reg [1, 0] false [⟨some 4, none, .mv, [.const (.bool false)]⟩]) (
   .seq (
    .seq (
     .reg [1, 0] false [⟨some 6, none, .mv, [.tmp 0]⟩,
       ⟨some 7, none, .len false, [.tmp 6]⟩,
       ⟨some 8, none, .mv, [.tmp 1]⟩,
       ⟨some 9, none, .len false, [.tmp 8]⟩,
       ⟨some 10, none, .bin .neq, [.tmp 7, .tmp 9]⟩]) (
     .cond (.tmp 10) (
      .seq (
       .reg [] false [⟨some 4, none, .mv, [.const (.bool false)]⟩]) (
       .ret)) (
      .skip))) (
    .seq (
     .seq (
      .reg [1, 0] false [⟨some 5, none, .mv, [.const (.int .i64 0)]⟩]) (
      .block 0 [] (
       .loop [5, 1, 0] b_sccsame_Values_0))) (
     .seq (
      .reg [] false [⟨some 4, none, .mv, [.const (.bool true)]⟩]) (
      .ret))))
def a_sccsame_Values : AF := { results := [.tmp 4], body := b_sccsame_Values }

/- sccsettle/sccref3.Sum, 1 params, 0 free: [] -/
/- a loop's body; at its head: [2, 4, 0, 3] -/
def b_sccref3_Sum_0 : AC :=
  .seq (
   .seq (
    .reg [2, 4, 0, 3] false [⟨some 5, none, .mv, [.tmp 4]⟩,
      ⟨some 6, none, .mv, [.tmp 0]⟩,
      ⟨some 7, none, .len false, [.tmp 6]⟩,
      ⟨some 8, none, .bin .lss, [.tmp 5, .tmp 7]⟩]) (
    .cond (.tmp 8) (
     .skip) (
     .exit 0))) (
   .seq (
    .block 1 [2, 0, 3, 4] (
     .seq (
      .seq (
       .reg [2, 4, 0, 3] false [⟨some 11, none, .mv, [.tmp 0]⟩,
         ⟨some 12, none, .mv, [.tmp 4]⟩,
         ⟨some 13, none, .idxAddr 3, [.tmp 11, .tmp 12]⟩,
         ⟨some 14, none, .fieldAddr 0, [.tmp 13]⟩,
         ⟨some 15, none, .load 1 false, [.tmp 14]⟩,
         ⟨some 16, none, .bin .eql, [.tmp 15, .const (.int .i64 4)]⟩]) (
       .cond (.tmp 16) (
        .seq (
         .reg [2, 4, 0] false [⟨some 17, none, .mv, [.tmp 0]⟩,
           ⟨some 18, none, .mv, [.tmp 4]⟩,
           ⟨some 19, none, .idxAddr 3, [.tmp 17, .tmp 18]⟩,
           ⟨some 20, none, .load 3 true, [.tmp 19]⟩,
           ⟨none, none, .store 3, [.tmp 2, .tmp 20]⟩]) (
         .ret)) (
        .skip))) (
      .seq (
       .reg [2, 0, 4, 3] false [⟨some 21, none, .mv, [.tmp 0]⟩,
         ⟨some 22, none, .mv, [.tmp 4]⟩,
         ⟨some 23, none, .idxAddr 3, [.tmp 21, .tmp 22]⟩,
         ⟨some 24, none, .fieldAddr 0, [.tmp 23]⟩,
         ⟨some 25, none, .load 1 false, [.tmp 24]⟩,
         ⟨some 26, none, .bin .eql, [.tmp 25, .const (.int .i64 1)]⟩]) (
       .cond (.tmp 26) (
        .reg [2, 0, 4, 3] false [⟨some 27, none, .mv, [.tmp 3]⟩,
          ⟨some 28, none, .mv, [.tmp 0]⟩,
          ⟨some 29, none, .mv, [.tmp 4]⟩,
          ⟨some 30, none, .idxAddr 3, [.tmp 28, .tmp 29]⟩,
          ⟨some 31, none, .fieldAddr 1, [.tmp 30]⟩,
          ⟨some 32, none, .load 1 false, [.tmp 31]⟩,
          ⟨some 33, none, .bslice 1, [.tmp 32]⟩,
          ⟨some 34, none, .append 1 8, [.tmp 27, .tmp 33]⟩,
          ⟨some 3, none, .mv, [.tmp 34]⟩]) (
        .skip))))) (
    .reg [2, 0, 3, 4] false [⟨some 9, none, .mv, [.tmp 4]⟩,
      ⟨some 10, none, .bin .add, [.tmp 9, .const (.int .i64 1)]⟩,
      ⟨some 4, none, .mv, [.tmp 10]⟩]))

def b_sccref3_Sum : AC :=
  .seq (
   .reg [0] false [⟨some 2, none, .alloc [.int .i64 0, .int .i64 0, .str []], []⟩]) (
   .seq (
    .reg [2, 0] false [⟨some 3, none, .mv, [.const (.lst (some true) 0 [])]⟩]) (
    .seq (
     .seq (
      .reg [2, 0, 3] false [⟨some 4, none, .mv, [.const (.int .i64 0)]⟩]) (
      .block 0 [2, 3] (
       .loop [2, 4, 0, 3] b_sccref3_Sum_0))) (
     .seq (
      .reg [2, 3] false [⟨some 35, none, .mv, [.tmp 3]⟩,
        ⟨some 36, none, .call f_sccref2_Sum true, [.tmp 35]⟩,
        ⟨none, none, .store 3, [.tmp 2, .tmp 36]⟩]) (
      .ret))))
def a_sccref3_Sum : AF := { results := [.cell 2 3 true], body := b_sccref3_Sum }

/- sccsettle/sccref1.Digits, 1 params, 0 free: [] -/
def b_sccref1_Digits : AC :=
  .seq (
   .reg [0] false [⟨some 2, none, .mv, [.const (.str [])]⟩]) (
   .seq (
    .reg [0] false [⟨some 3, none, .mv, [.tmp 0]⟩,
      ⟨some 4, none, .call f_sccsettlebig_NewInt false, [.tmp 3]⟩,
      ⟨some 5, none, .call f_sccsettlebig_Int__String true, [.tmp 4]⟩,
      ⟨some 2, none, .mv, [.tmp 5]⟩]) (
    .ret))
def a_sccref1_Digits : AF := { results := [.tmp 2], body := b_sccref1_Digits }

/- sccsettle/sccsettlebig.NewInt, 1 params, 0 free: [] -/
def b_sccsettlebig_NewInt : AC :=
  .seq (
   .reg [0] false [⟨some 2, none, .mv, [.const (.nilp)]⟩]) (
   .seq (
    .reg [0] false [⟨some 3, none, .alloc [.bool false, .lst (some true) 0 []], []⟩,
      ⟨some 4, none, .mv, [.tmp 0]⟩,
      ⟨some 5, none, .call f_sccsettlebig_Int__SetInt64 false, [.tmp 3, .tmp 4]⟩,
      ⟨some 2, none, .mv, [.tmp 5]⟩]) (
    .ret))
def a_sccsettlebig_NewInt : AF := { results := [.tmp 2], body := b_sccsettlebig_NewInt }

/- (*sccsettle/sccsettlebig.Int).String, 1 params, 0 free: [] -/
def b_sccsettlebig_Int__String : AC :=
  .seq (
   .reg [0] false [⟨some 2, none, .mv, [.const (.str [])]⟩]) (
   .seq (
    .reg [0] false [⟨some 3, none, .mv, [.tmp 0]⟩,
      ⟨some 4, none, .call f_sccsettlebig_Int__Text true, [.tmp 3, .const (.int .i64 10)]⟩,
      ⟨some 2, none, .mv, [.tmp 4]⟩]) (
    .ret))
def a_sccsettlebig_Int__String : AF := { results := [.tmp 2], body := b_sccsettlebig_Int__String }

/- sccsettle/plain.Told, 1 params, 0 free: [] -/
def b_plain_Told : AC :=
  .seq (
   .reg [0] false [⟨some 2, none, .mv, [.const (.int .i64 0)]⟩]) (
   .seq (
    .seq (
     .reg [0] false [⟨some 4, none, .mv, [.tmp 0]⟩,
       ⟨some 5, none, .eqn .iface false true, [.tmp 4, .const (.nili)]⟩]) (
     .cond (.tmp 5) (
      .seq (
       .reg [] false [⟨some 2, none, .mv, [.const (.int .i64 0)]⟩]) (
       .ret)) (
      .skip))) (
    .seq (
     .reg [0] false [⟨some 3, none, .alloc [.int .i64 0], []⟩]) (
     .seq (
      .seq (
       .reg [3, 0] false [⟨some 6, none, .mv, [.tmp 0]⟩,
         ⟨some 7, none, .mkIface t__api_Errno, [.tmp 3]⟩,
         ⟨some 8, none, .call f_errors_As false, [.tmp 6, .tmp 7]⟩]) (
       .cond (.tmp 8) (
        .seq (
         .reg [3] false [⟨some 9, none, .load 1 false, [.tmp 3]⟩,
           ⟨some 2, none, .mv, [.tmp 9]⟩]) (
         .ret)) (
        .skip))) (
      .seq (
       .reg [] false [⟨some 2, none, .mv, [.const (.int .i64 (-1))]⟩]) (
       .ret)))))
def a_plain_Told : AF := { results := [.tmp 2], body := b_plain_Told }

/- sccsettle/sccref3.Table, 1 params, 0 free: [] -/
/- a loop's body; at its head: [3, 0] -/
def b_sccref3_Table_0 : AC :=
  .seq (
   .seq (
    .reg [0, 3] false [⟨some 11, none, .mv, [.tmp 3]⟩,
      ⟨some 12, none, .mv, [.tmp 0]⟩,
      ⟨some 13, none, .len false, [.tmp 12]⟩,
      ⟨some 14, none, .bin .lss, [.tmp 11, .tmp 13]⟩]) (
    .cond (.tmp 14) (
     .skip) (
     .exit 0))) (
   .seq (
    .block 1 [0, 3] (
     .seq (
      .reg [0, 3] false [⟨some 17, none, .mv, [.tmp 0]⟩,
        ⟨some 18, none, .mv, [.tmp 3]⟩,
        ⟨some 19, none, .idxAddr 1, [.tmp 17, .tmp 18]⟩,
        ⟨some 20, none, .load 1 false, [.tmp 19]⟩,
        ⟨some 21, none, .len false, [.tmp 20]⟩,
        ⟨some 22, none, .bin .gtr, [.tmp 21, .const (.int .i64 12)]⟩]) (
      .cond (.tmp 22) (
       .seq (
        .reg [] false [⟨some 2, none, .mv, [.const (.int .i64 4)]⟩]) (
        .ret)) (
       .skip)))) (
    .reg [0, 3] false [⟨some 15, none, .mv, [.tmp 3]⟩,
      ⟨some 16, none, .bin .add, [.tmp 15, .const (.int .i64 1)]⟩,
      ⟨some 3, none, .mv, [.tmp 16]⟩]))

/- a loop's body; at its head: [4, 0] -/
def b_sccref3_Table_1 : AC :=
  .seq (
   .seq (
    .reg [0, 4] false [⟨some 23, none, .mv, [.tmp 4]⟩,
      ⟨some 24, none, .mv, [.tmp 0]⟩,
      ⟨some 25, none, .len false, [.tmp 24]⟩,
      ⟨some 26, none, .bin .lss, [.tmp 23, .tmp 25]⟩]) (
    .cond (.tmp 26) (
     .skip) (
     .exit 2))) (
   .seq (
    .block 3 [0, 4] (
     .seq (
      .reg [0, 4] true [⟨some 29, none, .mv, [.tmp 0]⟩,
        ⟨some 30, none, .mv, [.tmp 4]⟩,
        ⟨some 31, none, .idxAddr 1, [.tmp 29, .tmp 30]⟩,
        ⟨some 32, none, .load 1 false, [.tmp 31]⟩,
        ⟨some 33, none, .len false, [.tmp 32]⟩,
        ⟨some 34, none, .mv, [.tmp 0]⟩,
        ⟨some 35, none, .idxAddr 1, [.tmp 34, .const (.int .i64 0)]⟩,
        ⟨some 36, none, .load 1 false, [.tmp 35]⟩,
        ⟨some 37, none, .len false, [.tmp 36]⟩,
        ⟨some 38, none, .bin .neq, [.tmp 33, .tmp 37]⟩]) (
      .cond (.tmp 38) (
       .seq (
        .reg [] false [⟨some 2, none, .mv, [.const (.int .i64 3)]⟩]) (
        .ret)) (
       .skip)))) (
    .reg [0, 4] false [⟨some 27, none, .mv, [.tmp 4]⟩,
      ⟨some 28, none, .bin .add, [.tmp 27, .const (.int .i64 1)]⟩,
      ⟨some 4, none, .mv, [.tmp 28]⟩]))

/- a loop's body; at its head: [6, 5, 0] -/
def b_sccref3_Table_2 : AC :=
  .seq (
   .seq (
    .reg [5, 0, 6] false [⟨some 45, none, .mv, [.tmp 6]⟩,
      ⟨some 46, none, .mv, [.tmp 0]⟩,
      ⟨some 47, none, .mv, [.tmp 5]⟩,
      ⟨some 48, none, .idxAddr 1, [.tmp 46, .tmp 47]⟩,
      ⟨some 49, none, .load 1 false, [.tmp 48]⟩,
      ⟨some 50, none, .len false, [.tmp 49]⟩,
      ⟨some 51, none, .bin .lss, [.tmp 45, .tmp 50]⟩]) (
    .cond (.tmp 51) (
     .skip) (
     .exit 6))) (
   .seq (
    .block 7 [5, 0, 6] (
     .seq (
      .reg [5, 0, 6] false [⟨some 54, none, .mv, [.tmp 0]⟩,
        ⟨some 55, none, .mv, [.tmp 5]⟩,
        ⟨some 56, none, .idxAddr 1, [.tmp 54, .tmp 55]⟩,
        ⟨some 57, none, .load 1 false, [.tmp 56]⟩,
        ⟨some 58, none, .mv, [.tmp 6]⟩,
        ⟨some 59, none, .idxAddr 3, [.tmp 57, .tmp 58]⟩,
        ⟨some 60, none, .load 3 true, [.tmp 59]⟩,
        ⟨some 61, none, .call f_sccref1_Is true, [.tmp 60]⟩,
        ⟨some 7, none, .mv, [.tmp 61]⟩]) (
      .seq (
       .reg [5, 0, 6, 7] false [⟨some 62, none, .mv, [.tmp 7]⟩,
         ⟨some 63, none, .un .not, [.tmp 62]⟩]) (
       .cond (.tmp 63) (
        .seq (
         .reg [] false [⟨some 2, none, .mv, [.const (.int .i64 1)]⟩]) (
         .ret)) (
        .skip))))) (
    .reg [5, 0, 6] false [⟨some 52, none, .mv, [.tmp 6]⟩,
      ⟨some 53, none, .bin .add, [.tmp 52, .const (.int .i64 1)]⟩,
      ⟨some 6, none, .mv, [.tmp 53]⟩]))

/- a loop's body; at its head: [5, 0] -/
def b_sccref3_Table_3 : AC :=
  .seq (
   .seq (
    .reg [5, 0] false [⟨some 39, none, .mv, [.tmp 5]⟩,
      ⟨some 40, none, .mv, [.tmp 0]⟩,
      ⟨some 41, none, .len false, [.tmp 40]⟩,
      ⟨some 42, none, .bin .lss, [.tmp 39, .tmp 41]⟩]) (
    .cond (.tmp 42) (
     .skip) (
     .exit 4))) (
   .seq (
    .block 5 [0, 5] (
     .seq (
      .reg [5, 0] false [⟨some 6, none, .mv, [.const (.int .i64 0)]⟩]) (
      .block 6 [0, 5] (
       .loop [6, 5, 0] b_sccref3_Table_2)))) (
    .reg [0, 5] false [⟨some 43, none, .mv, [.tmp 5]⟩,
      ⟨some 44, none, .bin .add, [.tmp 43, .const (.int .i64 1)]⟩,
      ⟨some 5, none, .mv, [.tmp 44]⟩]))

def b_sccref3_Table : AC :=
  .seq (
   .reg [0] false [⟨some 2, none, .mv, [.const (.int .i64 0)]⟩]) (
   .seq (
    .seq (
     .reg [0] false [⟨some 8, none, .mv, [.tmp 0]⟩,
       ⟨some 9, none, .len false, [.tmp 8]⟩,
       ⟨some 10, none, .bin .gtr, [.tmp 9, .const (.int .i64 60)]⟩]) (
     .cond (.tmp 10) (
      .seq (
       .reg [] false [⟨some 2, none, .mv, [.const (.int .i64 4)]⟩]) (
       .ret)) (
      .skip))) (
    .seq (
     .seq (
      .reg [0] false [⟨some 3, none, .mv, [.const (.int .i64 0)]⟩]) (
      .block 0 [0] (
       .loop [3, 0] b_sccref3_Table_0))) (
     .seq (
      .seq (
       .reg [0] false [⟨some 4, none, .mv, [.const (.int .i64 0)]⟩]) (
       .block 2 [0] (
        .loop [4, 0] b_sccref3_Table_1))) (
      .seq (
       .seq (
        .reg [0] false [⟨some 5, none, .mv, [.const (.int .i64 0)]⟩]) (
        .block 4 [] (
         .loop [5, 0] b_sccref3_Table_3))) (
       .seq (
        .reg [] false [⟨some 2, none, .mv, [.const (.int .i64 0)]⟩]) (
        .ret))))))
def a_sccref3_Table : AF := { results := [.tmp 2], body := b_sccref3_Table }

/- sccsettle/sccref1.Two, 3 params, 0 free: [] -/
def b_sccref1_Two : AC :=
  .seq (
   .reg [0, 2, 1] false [⟨some 4, none, .box, [.tmp 1]⟩,
     ⟨some 5, none, .box, [.tmp 2]⟩,
     ⟨some 6, none, .alloc [.int .i64 0, .int .i64 0, .str []], []⟩]) (
   .seq (
    .seq (
     .reg [6, 4, 5, 0] false [⟨some 10, none, .mv, [.tmp 0]⟩,
       ⟨some 11, none, .bin .lss, [.tmp 10, .const (.int .i64 1)]⟩,
       ⟨some 12, none, .mv, [.tmp 11]⟩,
       ⟨some 13, some (12, false), .mv, [.tmp 0]⟩,
       ⟨some 14, some (12, false), .bin .gtr, [.tmp 13, .const (.int .i64 11)]⟩,
       ⟨some 15, none, .pick, [.tmp 12, .const (.bool true), .tmp 14]⟩]) (
     .cond (.tmp 15) (
      .seq (
       .reg [6] false [⟨some 16, none, .call f_sccref1_Bad true, [.const (.int .i64 4)]⟩,
         ⟨none, none, .store 3, [.tmp 6, .tmp 16]⟩]) (
       .ret)) (
      .skip))) (
    .seq (
     .seq (
      .reg [6, 4, 5, 0] false [⟨some 17, none, .mv, [.tmp 0]⟩,
        ⟨some 18, none, .bin .geq, [.tmp 17, .const (.int .i64 8)]⟩]) (
      .cond (.tmp 18) (
       .seq (
        .reg [6, 4, 5, 0] false [⟨some 19, none, .load 3 true, [.tmp 4]⟩,
          ⟨some 20, none, .call f_sccref1_Number true, [.tmp 19]⟩,
          ⟨none, none, .store 3, [.tmp 4, .tmp 20]⟩]) (
        .reg [6, 4, 5, 0] false [⟨some 21, none, .load 3 true, [.tmp 5]⟩,
          ⟨some 22, none, .call f_sccref1_Number true, [.tmp 21]⟩,
          ⟨none, none, .store 3, [.tmp 5, .tmp 22]⟩])) (
       .skip))) (
     .seq (
      .seq (
       .reg [6, 4, 5, 0] false [⟨some 23, none, .fieldAddr 0, [.tmp 4]⟩,
         ⟨some 24, none, .load 1 false, [.tmp 23]⟩,
         ⟨some 25, none, .bin .eql, [.tmp 24, .const (.int .i64 4)]⟩]) (
       .cond (.tmp 25) (
        .seq (
         .reg [6, 4] false [⟨some 26, none, .load 3 true, [.tmp 4]⟩,
           ⟨none, none, .store 3, [.tmp 6, .tmp 26]⟩]) (
         .ret)) (
        .skip))) (
      .seq (
       .seq (
        .reg [6, 5, 4, 0] false [⟨some 27, none, .fieldAddr 0, [.tmp 5]⟩,
          ⟨some 28, none, .load 1 false, [.tmp 27]⟩,
          ⟨some 29, none, .bin .eql, [.tmp 28, .const (.int .i64 4)]⟩]) (
        .cond (.tmp 29) (
         .seq (
          .reg [6, 5] false [⟨some 30, none, .load 3 true, [.tmp 5]⟩,
            ⟨none, none, .store 3, [.tmp 6, .tmp 30]⟩]) (
          .ret)) (
         .skip))) (
       .seq (
        .seq (
         .reg [6, 5, 4, 0] false [⟨some 31, none, .mv, [.tmp 0]⟩,
           ⟨some 32, none, .bin .geq, [.tmp 31, .const (.int .i64 8)]⟩]) (
         .cond (.tmp 32) (
          .seq (
           .reg [6, 5, 4, 0] false [⟨some 33, none, .mv, [.tmp 0]⟩,
             ⟨some 34, none, .fieldAddr 1, [.tmp 4]⟩,
             ⟨some 35, none, .load 1 false, [.tmp 34]⟩,
             ⟨some 36, none, .fieldAddr 1, [.tmp 5]⟩,
             ⟨some 37, none, .load 1 false, [.tmp 36]⟩,
             ⟨some 38, none, .call f_sccref1_Reckon true, [.tmp 33, .tmp 35, .tmp 37]⟩,
             ⟨none, none, .store 3, [.tmp 6, .tmp 38]⟩]) (
           .ret)) (
          .skip))) (
        .seq (
         .seq (
          .reg [6, 5, 4, 0] false [⟨some 39, none, .mv, [.tmp 0]⟩,
            ⟨some 40, none, .bin .eql, [.tmp 39, .const (.int .i64 7)]⟩]) (
          .cond (.tmp 40) (
           .seq (
            .reg [6, 5, 4] true [⟨some 41, none, .load 3 true, [.tmp 4]⟩,
              ⟨some 42, none, .call f_sccref1_Show true, [.tmp 41]⟩,
              ⟨some 43, none, .load 3 true, [.tmp 5]⟩,
              ⟨some 44, none, .call f_sccref1_Show true, [.tmp 43]⟩,
              ⟨some 45, none, .bin .add, [.tmp 42, .tmp 44]⟩,
              ⟨some 7, none, .mv, [.tmp 45]⟩]) (
            .seq (
             .seq (
              .reg [6, 7] false [⟨some 46, none, .mv, [.tmp 7]⟩,
                ⟨some 47, none, .len true, [.tmp 46]⟩,
                ⟨some 48, none, .bin .gtr, [.tmp 47, .const (.int .i64 200)]⟩]) (
              .cond (.tmp 48) (
               .seq (
                .reg [6] false [⟨some 49, none, .call f_sccref1_Bad true, [.const (.int .i64 2)]⟩,
                  ⟨none, none, .store 3, [.tmp 6, .tmp 49]⟩]) (
                .ret)) (
               .skip))) (
             .seq (
              .reg [6, 7] false [⟨some 50, none, .mv, [.tmp 7]⟩,
                ⟨some 51, none, .call f_sccref1_Txt true, [.tmp 50]⟩,
                ⟨none, none, .store 3, [.tmp 6, .tmp 51]⟩]) (
              .ret)))) (
           .skip))) (
         .seq (
          .reg [6, 0, 4, 5] true [⟨some 52, none, .load 3 true, [.tmp 4]⟩,
            ⟨some 53, none, .load 3 true, [.tmp 5]⟩,
            ⟨some 54, none, .call f_sccref1_beside true, [.tmp 52, .tmp 53]⟩,
            ⟨some 55, none, .load 3 true, [.tmp 5]⟩,
            ⟨some 56, none, .load 3 true, [.tmp 4]⟩,
            ⟨some 57, none, .call f_sccref1_beside true, [.tmp 55, .tmp 56]⟩,
            ⟨some 58, none, .call f_sccref1_Compare true, [.tmp 54, .tmp 57]⟩,
            ⟨some 8, none, .mv, [.tmp 58]⟩]) (
          .seq (
           .reg [6, 8, 0] false [⟨some 9, none, .mv, [.const (.bool false)]⟩]) (
           .seq (
            .seq (
             .reg [6, 8, 9, 0] false [⟨some 59, none, .mv, [.tmp 0]⟩]) (
             .block 0 [6, 9] (
              .seq (
               .reg [6, 8, 9, 59] false [⟨some 61, none, .bin .eql, [.tmp 59, .const (.int .i64 1)]⟩,
                 ⟨some 60, none, .mv, [.tmp 61]⟩]) (
               .cond (.tmp 60) (
                .reg [6, 8] false [⟨some 62, none, .mv, [.tmp 8]⟩,
                  ⟨some 63, none, .bin .eql, [.tmp 62, .const (.int .i64 0)]⟩,
                  ⟨some 9, none, .mv, [.tmp 63]⟩]) (
                .seq (
                 .reg [6, 8, 9, 59] false [⟨some 65, none, .bin .eql, [.tmp 59, .const (.int .i64 2)]⟩,
                   ⟨some 64, none, .mv, [.tmp 65]⟩]) (
                 .cond (.tmp 64) (
                  .reg [6, 8] false [⟨some 66, none, .mv, [.tmp 8]⟩,
                    ⟨some 67, none, .bin .neq, [.tmp 66, .const (.int .i64 0)]⟩,
                    ⟨some 9, none, .mv, [.tmp 67]⟩]) (
                  .seq (
                   .reg [6, 8, 9, 59] false [⟨some 69, none, .bin .eql, [.tmp 59, .const (.int .i64 3)]⟩,
                     ⟨some 68, none, .mv, [.tmp 69]⟩]) (
                   .cond (.tmp 68) (
                    .reg [6, 8] false [⟨some 70, none, .mv, [.tmp 8]⟩,
                      ⟨some 71, none, .bin .lss, [.tmp 70, .const (.int .i64 0)]⟩,
                      ⟨some 9, none, .mv, [.tmp 71]⟩]) (
                    .seq (
                     .reg [6, 8, 9, 59] false [⟨some 73, none, .bin .eql, [.tmp 59, .const (.int .i64 4)]⟩,
                       ⟨some 72, none, .mv, [.tmp 73]⟩]) (
                     .cond (.tmp 72) (
                      .reg [6, 8] false [⟨some 74, none, .mv, [.tmp 8]⟩,
                        ⟨some 75, none, .bin .leq, [.tmp 74, .const (.int .i64 0)]⟩,
                        ⟨some 9, none, .mv, [.tmp 75]⟩]) (
                      .seq (
                       .reg [6, 8, 9, 59] false [⟨some 77, none, .bin .eql, [.tmp 59, .const (.int .i64 5)]⟩,
                         ⟨some 76, none, .mv, [.tmp 77]⟩]) (
                       .cond (.tmp 76) (
                        .reg [6, 8] false [⟨some 78, none, .mv, [.tmp 8]⟩,
                          ⟨some 79, none, .bin .gtr, [.tmp 78, .const (.int .i64 0)]⟩,
                          ⟨some 9, none, .mv, [.tmp 79]⟩]) (
                        .seq (
                         .reg [6, 8, 9, 59] false [⟨some 81, none, .bin .eql, [.tmp 59, .const (.int .i64 6)]⟩,
                           ⟨some 80, none, .mv, [.tmp 81]⟩]) (
                         .cond (.tmp 80) (
                          .reg [6, 8] false [⟨some 82, none, .mv, [.tmp 8]⟩,
                            ⟨some 83, none, .bin .geq, [.tmp 82, .const (.int .i64 0)]⟩,
                            ⟨some 9, none, .mv, [.tmp 83]⟩]) (
                          .skip))))))))))))))) (
            .seq (
             .reg [6, 9] false [⟨some 84, none, .mv, [.tmp 9]⟩,
               ⟨some 85, none, .call f_sccref1_Tru true, [.tmp 84]⟩,
               ⟨none, none, .store 3, [.tmp 6, .tmp 85]⟩]) (
             .ret)))))))))))
def a_sccref1_Two : AF := { results := [.cell 6 3 true], body := b_sccref1_Two }

/- sccsettle/pick.picked, 3 params, 0 free: [] -/
/- a loop's body; at its head: [30, 12, 11, 28, 2, 1, 21, 22, 23, 10, 9, 29] -/
def b_pick_picked_0 : AC :=
  .seq (
   .reg [11, 28, 2, 1, 21, 22, 23, 10, 9, 29, 30, 12] false [⟨some 31, none, .bin .lss, [.tmp 30, .tmp 29]⟩]) (
   .seq (
    .cond (.tmp 31) (
     .skip) (
     .exit 2)) (
    .seq (
     .block 3 [12, 11, 28, 2, 1, 21, 22, 23, 10, 9, 29, 30] (
      .seq (
       .reg [11, 28, 2, 1, 21, 22, 23, 10, 9, 29, 30, 12] false [⟨some 32, none, .idxAddr 5, [.tmp 28, .tmp 30]⟩,
         ⟨some 33, none, .load 5 true, [.tmp 32]⟩,
         ⟨some 14, none, .alloc [.int .i64 0, .int .i64 0, .int .i64 0, .int .i64 0, .str []], []⟩,
         ⟨none, none, .store 5, [.tmp 14, .tmp 33]⟩]) (
       .seq (
        .reg [11, 28, 2, 1, 21, 22, 23, 10, 9, 29, 30, 12, 14] true [⟨some 34, none, .fieldAddr 1, [.tmp 14]⟩,
          ⟨some 35, none, .load 1 false, [.tmp 34]⟩,
          ⟨some 36, none, .mv, [.tmp 11]⟩,
          ⟨some 37, none, .fieldAddr 0, [.tmp 14]⟩,
          ⟨some 38, none, .load 1 false, [.tmp 37]⟩,
          ⟨some 39, none, .idxAddr 3, [.tmp 36, .tmp 38]⟩,
          ⟨some 40, none, .load 3 true, [.tmp 39]⟩,
          ⟨some 41, none, .fieldAddr 2, [.tmp 14]⟩,
          ⟨some 42, none, .load 3 true, [.tmp 41]⟩,
          ⟨some 43, none, .call f_value_Two true, [.tmp 35, .tmp 40, .tmp 42]⟩,
          ⟨some 44, none, .call f_value_IsTrue true, [.tmp 43]⟩]) (
        .cond (.tmp 44) (
         .reg [11, 28, 2, 1, 21, 22, 23, 10, 9, 29, 30, 12] false [⟨some 45, none, .mv, [.tmp 12]⟩,
           ⟨some 46, none, .bin .add, [.tmp 45, .const (.int .i64 1)]⟩,
           ⟨some 12, none, .mv, [.tmp 46]⟩]) (
         .skip))))) (
     .reg [12, 11, 28, 2, 1, 21, 22, 23, 10, 9, 29, 30] false [⟨some 47, none, .bin .add, [.tmp 30, .const (.int .i64 1)]⟩,
       ⟨some 30, none, .mv, [.tmp 47]⟩])))

/- a loop's body; at its head: [23, 9, 2, 1, 21, 22] -/
def b_pick_picked_1 : AC :=
  .seq (
   .reg [2, 1, 21, 22, 23, 9] false [⟨some 24, none, .bin .lss, [.tmp 23, .tmp 22]⟩]) (
   .seq (
    .cond (.tmp 24) (
     .skip) (
     .exit 0)) (
    .seq (
     .block 1 [9, 2, 1, 21, 22, 23] (
      .seq (
       .reg [2, 1, 21, 22, 23, 9] false [⟨some 25, none, .mv, [.tmp 23]⟩,
         ⟨some 26, none, .idxAddr 1, [.tmp 21, .tmp 23]⟩,
         ⟨some 27, none, .load 1 false, [.tmp 26]⟩,
         ⟨some 10, none, .mv, [.tmp 25]⟩,
         ⟨some 11, none, .mv, [.tmp 27]⟩]) (
       .seq (
        .reg [11, 2, 1, 21, 22, 23, 10, 9] false [⟨some 12, none, .mv, [.const (.int .i64 0)]⟩]) (
        .seq (
         .seq (
          .reg [12, 11, 2, 1, 21, 22, 23, 10, 9] false [⟨some 28, none, .mv, [.tmp 1]⟩,
            ⟨some 29, none, .len false, [.tmp 28]⟩,
            ⟨some 30, none, .mv, [.const (.int .i64 0)]⟩]) (
          .block 2 [2, 1, 21, 22, 23, 10, 9, 12] (
           .loop [30, 12, 11, 28, 2, 1, 21, 22, 23, 10, 9, 29] b_pick_picked_0))) (
         .seq (
          .reg [2, 1, 21, 22, 23, 10, 9, 12] false [⟨some 48, none, .mv, [.tmp 2]⟩,
            ⟨some 49, none, .mv, [.tmp 12]⟩,
            ⟨some 50, none, .callv true, [.tmp 48, .tmp 49]⟩]) (
          .cond (.tmp 50) (
           .reg [2, 1, 21, 22, 23, 10, 9] false [⟨some 51, none, .mv, [.tmp 9]⟩,
             ⟨some 52, none, .mv, [.tmp 10]⟩,
             ⟨some 53, none, .bslice 1, [.tmp 52]⟩,
             ⟨some 54, none, .append 1 8, [.tmp 51, .tmp 53]⟩,
             ⟨some 9, none, .mv, [.tmp 54]⟩]) (
           .skip))))))) (
     .reg [9, 2, 1, 21, 22, 23] false [⟨some 55, none, .bin .add, [.tmp 23, .const (.int .i64 1)]⟩,
       ⟨some 23, none, .mv, [.tmp 55]⟩])))

def b_pick_picked : AC :=
  .seq (
   .reg [2, 1, 0] false [⟨some 6, none, .mv, [.const (.lst (some true) 0 [])]⟩,
     ⟨some 7, none, .mv, [.const (.nili)]⟩]) (
   .seq (
    .seq (
     .reg [2, 1, 0] false [⟨some 15, none, .mv, [.tmp 0]⟩,
       ⟨some 16, none, .mv, [.tmp 1]⟩,
       ⟨some 17, none, .call f_pick_check true, [.tmp 15, .tmp 16]⟩,
       ⟨some 8, none, .mv, [.tmp 17]⟩]) (
     .seq (
      .reg [8, 2, 1, 0] false [⟨some 18, none, .mv, [.tmp 8]⟩,
        ⟨some 19, none, .eqn .iface true true, [.tmp 18, .const (.nili)]⟩]) (
      .cond (.tmp 19) (
       .seq (
        .reg [8] false [⟨some 20, none, .mv, [.tmp 8]⟩,
          ⟨some 6, none, .mv, [.const (.lst (some true) 0 [])]⟩,
          ⟨some 7, none, .mv, [.tmp 20]⟩]) (
        .ret)) (
       .skip)))) (
    .seq (
     .reg [2, 1, 0] false [⟨some 9, none, .mv, [.const (.lst (some true) 0 [])]⟩]) (
     .seq (
      .seq (
       .reg [9, 2, 1, 0] false [⟨some 21, none, .mv, [.tmp 0]⟩,
         ⟨some 22, none, .len false, [.tmp 21]⟩,
         ⟨some 23, none, .mv, [.const (.int .i64 0)]⟩]) (
       .block 0 [9] (
        .loop [23, 9, 2, 1, 21, 22] b_pick_picked_1))) (
      .seq (
       .reg [9] false [⟨some 56, none, .mv, [.tmp 9]⟩,
         ⟨some 6, none, .mv, [.tmp 56]⟩,
         ⟨some 7, none, .mv, [.const (.nili)]⟩]) (
       .ret)))))
def a_pick_picked : AF := { results := [.tmp 6, .tmp 7], body := b_pick_picked }

/- sccsettle/pick.Pick$1, 1 params, 1 free: [] -/
def b_pick_Pick_c1 : AC :=
  .seq (
   .reg [1, 0] false [⟨some 3, none, .mv, [.const (.bool false)]⟩]) (
   .seq (
    .reg [1, 0] false [⟨some 4, none, .mv, [.tmp 0]⟩,
      ⟨some 5, none, .load 1 false, [.tmp 1]⟩,
      ⟨some 6, none, .len false, [.tmp 5]⟩,
      ⟨some 7, none, .bin .eql, [.tmp 4, .tmp 6]⟩,
      ⟨some 3, none, .mv, [.tmp 7]⟩]) (
    .ret))
def a_pick_Pick_c1 : AF := { results := [.tmp 3], body := b_pick_Pick_c1 }

/- sccsettle/pick.Any$1, 1 params, 0 free: [] -/
def b_pick_Any_c1 : AC :=
  .seq (
   .reg [0] false [⟨some 2, none, .mv, [.const (.bool false)]⟩]) (
   .seq (
    .reg [0] false [⟨some 3, none, .mv, [.tmp 0]⟩,
      ⟨some 4, none, .bin .gtr, [.tmp 3, .const (.int .i64 0)]⟩,
      ⟨some 2, none, .mv, [.tmp 4]⟩]) (
    .ret))
def a_pick_Any_c1 : AF := { results := [.tmp 2], body := b_pick_Any_c1 }

/- sccsettle/sccref3.Sort, 2 params, 0 free: [] -/
/- a loop's body; at its head: [7, 1, 0, 6, 5] -/
def b_sccref3_Sort_0 : AC :=
  .seq (
   .seq (
    .reg [1, 0, 6, 5, 7] true [⟨some 17, none, .mv, [.tmp 7]⟩,
      ⟨some 18, none, .bin .gtr, [.tmp 17, .const (.int .i64 0)]⟩,
      ⟨some 19, none, .mv, [.tmp 18]⟩,
      ⟨some 20, some (19, true), .mv, [.tmp 0]⟩,
      ⟨some 21, some (19, true), .mv, [.tmp 6]⟩,
      ⟨some 22, some (19, true), .idxAddr 1, [.tmp 20, .tmp 21]⟩,
      ⟨some 23, some (19, true), .load 1 false, [.tmp 22]⟩,
      ⟨some 24, some (19, true), .mv, [.tmp 0]⟩,
      ⟨some 25, some (19, true), .mv, [.tmp 5]⟩,
      ⟨some 26, some (19, true), .mv, [.tmp 7]⟩,
      ⟨some 27, some (19, true), .bin .sub, [.tmp 26, .const (.int .i64 1)]⟩,
      ⟨some 28, some (19, true), .idxAddr 1, [.tmp 25, .tmp 27]⟩,
      ⟨some 29, some (19, true), .load 1 false, [.tmp 28]⟩,
      ⟨some 30, some (19, true), .idxAddr 1, [.tmp 24, .tmp 29]⟩,
      ⟨some 31, some (19, true), .load 1 false, [.tmp 30]⟩,
      ⟨some 32, some (19, true), .mv, [.tmp 1]⟩,
      ⟨some 33, some (19, true), .call f_sccref3_Ahead true, [.tmp 23, .tmp 31, .tmp 32]⟩,
      ⟨some 34, none, .pick, [.tmp 19, .tmp 33, .const (.bool false)]⟩]) (
    .cond (.tmp 34) (
     .skip) (
     .exit 2))) (
   .block 3 [7, 1, 0, 6, 5] (
    .reg [1, 0, 6, 5, 7] false [⟨some 35, none, .mv, [.tmp 7]⟩,
      ⟨some 36, none, .bin .sub, [.tmp 35, .const (.int .i64 1)]⟩,
      ⟨some 7, none, .mv, [.tmp 36]⟩]))

/- a loop's body; at its head: [6, 5, 1, 0] -/
def b_sccref3_Sort_1 : AC :=
  .seq (
   .seq (
    .reg [1, 0, 6, 5] false [⟨some 9, none, .mv, [.tmp 6]⟩,
      ⟨some 10, none, .mv, [.tmp 0]⟩,
      ⟨some 11, none, .len false, [.tmp 10]⟩,
      ⟨some 12, none, .bin .lss, [.tmp 9, .tmp 11]⟩]) (
    .cond (.tmp 12) (
     .skip) (
     .exit 0))) (
   .seq (
    .block 1 [5, 1, 0, 6] (
     .seq (
      .reg [1, 0, 6, 5] false [⟨some 15, none, .mv, [.tmp 5]⟩,
        ⟨some 16, none, .len false, [.tmp 15]⟩,
        ⟨some 7, none, .mv, [.tmp 16]⟩]) (
      .seq (
       .block 2 [1, 0, 6, 7, 5] (
        .loop [7, 1, 0, 6, 5] b_sccref3_Sort_0)) (
       .seq (
        .reg [1, 0, 6, 7, 5] false [⟨some 8, none, .mv, [.const (.lst (some true) 0 [])]⟩]) (
        .seq (
         .reg [1, 0, 6, 7, 5, 8] false [⟨some 37, none, .mv, [.tmp 8]⟩,
           ⟨some 38, none, .mv, [.tmp 5]⟩,
           ⟨some 39, none, .mv, [.tmp 7]⟩,
           ⟨some 40, none, .slc (some 1) false true, [.tmp 38, .tmp 39]⟩,
           ⟨some 41, none, .append 1 8, [.tmp 37, .tmp 40]⟩,
           ⟨some 8, none, .mv, [.tmp 41]⟩]) (
         .seq (
          .reg [1, 0, 6, 7, 5, 8] false [⟨some 42, none, .mv, [.tmp 8]⟩,
            ⟨some 43, none, .mv, [.tmp 6]⟩,
            ⟨some 44, none, .bslice 1, [.tmp 43]⟩,
            ⟨some 45, none, .append 1 8, [.tmp 42, .tmp 44]⟩,
            ⟨some 8, none, .mv, [.tmp 45]⟩]) (
          .seq (
           .reg [1, 0, 6, 7, 5, 8] false [⟨some 46, none, .mv, [.tmp 8]⟩,
             ⟨some 47, none, .mv, [.tmp 5]⟩,
             ⟨some 48, none, .mv, [.tmp 7]⟩,
             ⟨some 49, none, .slc (some 1) true false, [.tmp 47, .tmp 48]⟩,
             ⟨some 50, none, .append 1 8, [.tmp 46, .tmp 49]⟩,
             ⟨some 8, none, .mv, [.tmp 50]⟩]) (
           .reg [1, 0, 6, 8] false [⟨some 51, none, .mv, [.tmp 8]⟩,
             ⟨some 5, none, .mv, [.tmp 51]⟩])))))))) (
    .reg [5, 1, 0, 6] false [⟨some 13, none, .mv, [.tmp 6]⟩,
      ⟨some 14, none, .bin .add, [.tmp 13, .const (.int .i64 1)]⟩,
      ⟨some 6, none, .mv, [.tmp 14]⟩]))

def b_sccref3_Sort : AC :=
  .seq (
   .reg [1, 0] false [⟨some 4, none, .mv, [.const (.lst (some true) 0 [])]⟩]) (
   .seq (
    .reg [1, 0] false [⟨some 5, none, .mv, [.const (.lst (some true) 0 [])]⟩]) (
    .seq (
     .seq (
      .reg [5, 1, 0] false [⟨some 6, none, .mv, [.const (.int .i64 0)]⟩]) (
      .block 0 [5] (
       .loop [6, 5, 1, 0] b_sccref3_Sort_1))) (
     .seq (
      .reg [5] false [⟨some 52, none, .mv, [.tmp 5]⟩,
        ⟨some 4, none, .mv, [.tmp 52]⟩]) (
      .ret))))
def a_sccref3_Sort : AF := { results := [.tmp 4], body := b_sccref3_Sort }

/- sccsettle/sccref3.Distinct, 2 params, 0 free: [] -/
/- a loop's body; at its head: [8, 1, 0, 6, 5, 7] -/
def b_sccref3_Distinct_0 : AC :=
  .seq (
   .seq (
    .reg [1, 0, 6, 5, 8, 7] false [⟨some 16, none, .mv, [.tmp 8]⟩,
      ⟨some 17, none, .mv, [.tmp 6]⟩,
      ⟨some 18, none, .bin .lss, [.tmp 16, .tmp 17]⟩]) (
    .cond (.tmp 18) (
     .skip) (
     .exit 2))) (
   .seq (
    .block 3 [1, 0, 6, 5, 7, 8] (
     .seq (
      .reg [1, 0, 6, 5, 8, 7] true [⟨some 21, none, .mv, [.tmp 0]⟩,
        ⟨some 22, none, .mv, [.tmp 6]⟩,
        ⟨some 23, none, .idxAddr 1, [.tmp 21, .tmp 22]⟩,
        ⟨some 24, none, .load 1 false, [.tmp 23]⟩,
        ⟨some 25, none, .mv, [.tmp 0]⟩,
        ⟨some 26, none, .mv, [.tmp 8]⟩,
        ⟨some 27, none, .idxAddr 1, [.tmp 25, .tmp 26]⟩,
        ⟨some 28, none, .load 1 false, [.tmp 27]⟩,
        ⟨some 29, none, .mv, [.tmp 1]⟩,
        ⟨some 30, none, .call f_sccref3_Alike true, [.tmp 24, .tmp 28, .tmp 29]⟩,
        ⟨some 9, none, .mv, [.tmp 30]⟩]) (
      .seq (
       .reg [1, 0, 6, 5, 8, 7, 9] false [⟨some 31, none, .mv, [.tmp 9]⟩]) (
       .cond (.tmp 31) (
        .reg [1, 0, 6, 5, 8] false [⟨some 7, none, .mv, [.const (.bool false)]⟩]) (
        .skip))))) (
    .reg [1, 0, 6, 5, 7, 8] false [⟨some 19, none, .mv, [.tmp 8]⟩,
      ⟨some 20, none, .bin .add, [.tmp 19, .const (.int .i64 1)]⟩,
      ⟨some 8, none, .mv, [.tmp 20]⟩]))

/- a loop's body; at its head: [1, 0, 6, 5] -/
def b_sccref3_Distinct_1 : AC :=
  .seq (
   .seq (
    .reg [1, 0, 6, 5] false [⟨some 10, none, .mv, [.tmp 6]⟩,
      ⟨some 11, none, .mv, [.tmp 0]⟩,
      ⟨some 12, none, .len false, [.tmp 11]⟩,
      ⟨some 13, none, .bin .lss, [.tmp 10, .tmp 12]⟩]) (
    .cond (.tmp 13) (
     .skip) (
     .exit 0))) (
   .seq (
    .block 1 [1, 0, 5, 6] (
     .seq (
      .reg [1, 0, 6, 5] false [⟨some 7, none, .mv, [.const (.bool true)]⟩]) (
      .seq (
       .seq (
        .reg [1, 0, 6, 5, 7] false [⟨some 8, none, .mv, [.const (.int .i64 0)]⟩]) (
        .block 2 [1, 0, 6, 5, 7] (
         .loop [8, 1, 0, 6, 5, 7] b_sccref3_Distinct_0))) (
       .seq (
        .reg [1, 0, 6, 5, 7] false [⟨some 32, none, .mv, [.tmp 7]⟩]) (
        .cond (.tmp 32) (
         .reg [1, 0, 6, 5] false [⟨some 33, none, .mv, [.tmp 5]⟩,
           ⟨some 34, none, .mv, [.tmp 6]⟩,
           ⟨some 35, none, .bslice 1, [.tmp 34]⟩,
           ⟨some 36, none, .append 1 8, [.tmp 33, .tmp 35]⟩,
           ⟨some 5, none, .mv, [.tmp 36]⟩]) (
         .skip)))))) (
    .reg [1, 0, 5, 6] false [⟨some 14, none, .mv, [.tmp 6]⟩,
      ⟨some 15, none, .bin .add, [.tmp 14, .const (.int .i64 1)]⟩,
      ⟨some 6, none, .mv, [.tmp 15]⟩]))

def b_sccref3_Distinct : AC :=
  .seq (
   .reg [1, 0] false [⟨some 4, none, .mv, [.const (.lst (some true) 0 [])]⟩]) (
   .seq (
    .reg [1, 0] false [⟨some 5, none, .mv, [.const (.lst (some true) 0 [])]⟩]) (
    .seq (
     .seq (
      .reg [1, 0, 5] false [⟨some 6, none, .mv, [.const (.int .i64 0)]⟩]) (
      .block 0 [5] (
       .loop [1, 0, 6, 5] b_sccref3_Distinct_1))) (
     .seq (
      .reg [5] false [⟨some 37, none, .mv, [.tmp 5]⟩,
        ⟨some 4, none, .mv, [.tmp 37]⟩]) (
      .ret))))
def a_sccref3_Distinct : AF := { results := [.tmp 4], body := b_sccref3_Distinct }

/- sccsettle/sccref3.Alike, 3 params, 0 free: [] -/
/- a loop's body; at its head: [7, 2, 1, 0] -/
def b_sccref3_Alike_0 : AC :=
  .seq (
   .seq (
    .reg [2, 1, 0, 7] false [⟨some 8, none, .mv, [.tmp 7]⟩,
      ⟨some 9, none, .mv, [.tmp 2]⟩,
      ⟨some 10, none, .len false, [.tmp 9]⟩,
      ⟨some 11, none, .bin .lss, [.tmp 8, .tmp 10]⟩]) (
    .cond (.tmp 11) (
     .skip) (
     .exit 0))) (
   .seq (
    .block 1 [2, 1, 0, 7] (
     .seq (
      .reg [2, 1, 0, 7] true [⟨some 14, none, .mv, [.tmp 0]⟩,
        ⟨some 15, none, .mv, [.tmp 2]⟩,
        ⟨some 16, none, .mv, [.tmp 7]⟩,
        ⟨some 17, none, .idxAddr 1, [.tmp 15, .tmp 16]⟩,
        ⟨some 18, none, .load 1 false, [.tmp 17]⟩,
        ⟨some 19, none, .idxAddr 3, [.tmp 14, .tmp 18]⟩,
        ⟨some 20, none, .load 3 true, [.tmp 19]⟩,
        ⟨some 21, none, .mv, [.tmp 1]⟩,
        ⟨some 22, none, .mv, [.tmp 2]⟩,
        ⟨some 23, none, .mv, [.tmp 7]⟩,
        ⟨some 24, none, .idxAddr 1, [.tmp 22, .tmp 23]⟩,
        ⟨some 25, none, .load 1 false, [.tmp 24]⟩,
        ⟨some 26, none, .idxAddr 3, [.tmp 21, .tmp 25]⟩,
        ⟨some 27, none, .load 3 true, [.tmp 26]⟩,
        ⟨some 28, none, .eqs true [.int .i64, .int .i64, .str], [.tmp 20, .tmp 27]⟩]) (
      .cond (.tmp 28) (
       .seq (
        .reg [] false [⟨some 6, none, .mv, [.const (.bool false)]⟩]) (
        .ret)) (
       .skip)))) (
    .reg [2, 1, 0, 7] false [⟨some 12, none, .mv, [.tmp 7]⟩,
      ⟨some 13, none, .bin .add, [.tmp 12, .const (.int .i64 1)]⟩,
      ⟨some 7, none, .mv, [.tmp 13]⟩]))

def b_sccref3_Alike : AC :=
  .seq (
   .reg [2, 1, 0] false [⟨some 6, none, .mv, [.const (.bool false)]⟩]) (
   .seq (
    .seq (
     .reg [2, 1, 0] false [⟨some 7, none, .mv, [.const (.int .i64 0)]⟩]) (
     .block 0 [] (
      .loop [7, 2, 1, 0] b_sccref3_Alike_0))) (
    .seq (
     .reg [] false [⟨some 6, none, .mv, [.const (.bool true)]⟩]) (
     .ret)))
def a_sccref3_Alike : AF := { results := [.tmp 6], body := b_sccref3_Alike }

/- sccsettle/sort.Columns, 2 params, 0 free: [] -/
/- a loop's body; at its head: [19, 0, 17, 18] -/
def b_sort_Columns_0 : AC :=
  .seq (
   .reg [0, 17, 18, 19] false [⟨some 20, none, .bin .lss, [.tmp 19, .tmp 18]⟩]) (
   .seq (
    .cond (.tmp 20) (
     .skip) (
     .exit 0)) (
    .seq (
     .block 1 [0, 17, 18, 19] (
      .seq (
       .reg [0, 17, 18, 19] false [⟨some 21, none, .idxAddr 1, [.tmp 17, .tmp 19]⟩,
         ⟨some 22, none, .load 1 false, [.tmp 21]⟩,
         ⟨some 7, none, .mv, [.tmp 22]⟩]) (
       .seq (
        .reg [0, 17, 18, 19, 7] false [⟨some 23, none, .mv, [.tmp 0]⟩,
          ⟨some 24, none, .mv, [.tmp 7]⟩,
          ⟨some 25, none, .call f_sort_Column true, [.tmp 23, .tmp 24]⟩,
          ⟨some 26, none, .un .not, [.tmp 25]⟩]) (
        .cond (.tmp 26) (
         .seq (
          .reg [] false [⟨some 27, none, .mkIface t_api_Errno, [.const (.int .i64 1)]⟩,
            ⟨some 4, none, .mv, [.tmp 27]⟩]) (
          .ret)) (
         .skip))))) (
     .reg [0, 17, 18, 19] false [⟨some 28, none, .bin .add, [.tmp 19, .const (.int .i64 1)]⟩,
       ⟨some 19, none, .mv, [.tmp 28]⟩])))

def b_sort_Columns : AC :=
  .seq (
   .reg [0, 1] false [⟨some 4, none, .mv, [.const (.nili)]⟩]) (
   .seq (
    .seq (
     .reg [0, 1] false [⟨some 8, none, .mv, [.tmp 0]⟩,
       ⟨some 9, none, .call f_sort_Check true, [.tmp 8]⟩,
       ⟨some 5, none, .mv, [.tmp 9]⟩]) (
     .seq (
      .reg [5, 0, 1] false [⟨some 10, none, .mv, [.tmp 5]⟩,
        ⟨some 11, none, .eqn .iface true true, [.tmp 10, .const (.nili)]⟩]) (
      .cond (.tmp 11) (
       .seq (
        .reg [5] false [⟨some 12, none, .mv, [.tmp 5]⟩,
          ⟨some 4, none, .mv, [.tmp 12]⟩]) (
        .ret)) (
       .skip)))) (
    .seq (
     .seq (
      .reg [0, 1] false [⟨some 13, none, .mv, [.tmp 1]⟩,
        ⟨some 14, none, .len false, [.tmp 13]⟩,
        ⟨some 15, none, .bin .gtr, [.tmp 14, .const (.int .i64 12)]⟩]) (
      .cond (.tmp 15) (
       .seq (
        .reg [] false [⟨some 16, none, .mkIface t_api_Errno, [.const (.int .i64 4)]⟩,
          ⟨some 4, none, .mv, [.tmp 16]⟩]) (
        .ret)) (
       .skip))) (
     .seq (
      .seq (
       .reg [0, 1] false [⟨some 17, none, .mv, [.tmp 1]⟩,
         ⟨some 18, none, .len false, [.tmp 17]⟩,
         ⟨some 19, none, .mv, [.const (.int .i64 0)]⟩]) (
       .block 0 [] (
        .loop [19, 0, 17, 18] b_sort_Columns_0))) (
      .seq (
       .reg [] false [⟨some 4, none, .mv, [.const (.nili)]⟩]) (
       .ret)))))
def a_sort_Columns : AF := { results := [.tmp 4], body := b_sort_Columns }

/- sccsettle/sort.Column, 2 params, 0 free: [] -/
def b_sort_Column : AC :=
  .seq (
   .reg [1, 0] false [⟨some 4, none, .mv, [.const (.bool false)]⟩]) (
   .seq (
    .reg [1, 0] false [⟨some 5, none, .mv, [.const (.int .i64 12)]⟩]) (
    .seq (
     .seq (
      .reg [1, 0, 5] false [⟨some 6, none, .mv, [.tmp 0]⟩,
        ⟨some 7, none, .len false, [.tmp 6]⟩,
        ⟨some 8, none, .bin .gtr, [.tmp 7, .const (.int .i64 0)]⟩]) (
      .cond (.tmp 8) (
       .reg [1, 0] false [⟨some 9, none, .mv, [.tmp 0]⟩,
         ⟨some 10, none, .idxAddr 1, [.tmp 9, .const (.int .i64 0)]⟩,
         ⟨some 11, none, .load 1 false, [.tmp 10]⟩,
         ⟨some 12, none, .len false, [.tmp 11]⟩,
         ⟨some 5, none, .mv, [.tmp 12]⟩]) (
       .skip))) (
     .seq (
      .reg [5, 1] false [⟨some 13, none, .mv, [.tmp 1]⟩,
        ⟨some 14, none, .bin .geq, [.tmp 13, .const (.int .i64 0)]⟩,
        ⟨some 15, none, .mv, [.tmp 14]⟩,
        ⟨some 16, some (15, true), .mv, [.tmp 1]⟩,
        ⟨some 17, some (15, true), .mv, [.tmp 5]⟩,
        ⟨some 18, some (15, true), .bin .lss, [.tmp 16, .tmp 17]⟩,
        ⟨some 19, none, .pick, [.tmp 15, .tmp 18, .const (.bool false)]⟩,
        ⟨some 4, none, .mv, [.tmp 19]⟩]) (
      .ret))))
def a_sort_Column : AF := { results := [.tmp 4], body := b_sort_Column }

/- sccsettle/sort.Sort, 2 params, 0 free: [] -/
/- a loop's body; at its head: [17, 7, 2, 3, 16] -/
def b_sort_Sort_0 : AC :=
  .seq (
   .reg [2, 3, 16, 17, 7] false [⟨some 18, none, .bin .lss, [.tmp 17, .tmp 16]⟩]) (
   .seq (
    .cond (.tmp 18) (
     .skip) (
     .exit 0)) (
    .seq (
     .block 1 [7, 2, 3, 16, 17] (
      .seq (
       .reg [2, 3, 16, 17, 7] false [⟨some 19, none, .mv, [.tmp 17]⟩,
         ⟨some 8, none, .mv, [.tmp 19]⟩]) (
       .reg [2, 3, 16, 17, 8, 7] false [⟨some 20, none, .mv, [.tmp 7]⟩,
         ⟨some 21, none, .mv, [.tmp 8]⟩,
         ⟨some 22, none, .bslice 1, [.tmp 21]⟩,
         ⟨some 23, none, .append 1 8, [.tmp 20, .tmp 22]⟩,
         ⟨some 7, none, .mv, [.tmp 23]⟩]))) (
     .reg [7, 2, 3, 16, 17] false [⟨some 24, none, .bin .add, [.tmp 17, .const (.int .i64 1)]⟩,
       ⟨some 17, none, .mv, [.tmp 24]⟩])))

def b_sort_Sort : AC :=
  .seq (
   .reg [1, 0] false [⟨some 2, none, .box, [.tmp 0]⟩,
     ⟨some 3, none, .box, [.tmp 1]⟩,
     ⟨some 4, none, .mv, [.const (.lst (some true) 0 [])]⟩,
     ⟨some 5, none, .mv, [.const (.nili)]⟩]) (
   .seq (
    .seq (
     .reg [2, 3] false [⟨some 9, none, .load 1 false, [.tmp 2]⟩,
       ⟨some 10, none, .load 1 false, [.tmp 3]⟩,
       ⟨some 11, none, .call f_sort_columns true, [.tmp 9, .tmp 10]⟩,
       ⟨some 6, none, .mv, [.tmp 11]⟩]) (
     .seq (
      .reg [6, 2, 3] false [⟨some 12, none, .mv, [.tmp 6]⟩,
        ⟨some 13, none, .eqn .iface true true, [.tmp 12, .const (.nili)]⟩]) (
      .cond (.tmp 13) (
       .seq (
        .reg [6] false [⟨some 14, none, .mv, [.tmp 6]⟩,
          ⟨some 4, none, .mv, [.const (.lst (some true) 0 [])]⟩,
          ⟨some 5, none, .mv, [.tmp 14]⟩]) (
        .ret)) (
       .skip)))) (
    .seq (
     .reg [2, 3] false [⟨some 7, none, .mv, [.const (.lst (some true) 0 [])]⟩]) (
     .seq (
      .seq (
       .reg [7, 2, 3] false [⟨some 15, none, .load 1 false, [.tmp 2]⟩,
         ⟨some 16, none, .len false, [.tmp 15]⟩,
         ⟨some 17, none, .mv, [.const (.int .i64 0)]⟩]) (
       .block 0 [7, 2, 3] (
        .loop [17, 7, 2, 3, 16] b_sort_Sort_0))) (
      .seq (
       .reg [7, 2, 3] false [⟨some 25, none, .mv, [.tmp 7]⟩,
         ⟨some 26, none, .mkFn f_sort_Sort_c1 0, [.tmp 2, .tmp 3]⟩,
         ⟨some 27, none, .call f_slices_SortStableFunc___int_int_ false, [.tmp 25, .tmp 26]⟩]) (
       .seq (
        .reg [7] false [⟨some 28, none, .mv, [.tmp 7]⟩,
          ⟨some 4, none, .mv, [.tmp 28]⟩,
          ⟨some 5, none, .mv, [.const (.nili)]⟩]) (
        .ret))))))
def a_sort_Sort : AF := { results := [.tmp 4, .tmp 5], body := b_sort_Sort }

/- sccsettle/sort.Compare, 3 params, 0 free: [] -/
/- a loop's body; at its head: [12, 1, 0, 10, 11] -/
def b_sort_Compare_0 : AC :=
  .seq (
   .reg [1, 0, 10, 11, 12] false [⟨some 13, none, .bin .lss, [.tmp 12, .tmp 11]⟩]) (
   .seq (
    .cond (.tmp 13) (
     .skip) (
     .exit 0)) (
    .seq (
     .block 1 [1, 0, 10, 11, 12] (
      .seq (
       .reg [1, 0, 10, 11, 12] false [⟨some 14, none, .idxAddr 2, [.tmp 10, .tmp 12]⟩,
         ⟨some 15, none, .load 2 true, [.tmp 14]⟩,
         ⟨some 8, none, .alloc [.int .i64 0, .bool false], []⟩,
         ⟨none, none, .store 2, [.tmp 8, .tmp 15]⟩]) (
       .seq (
        .reg [1, 0, 10, 11, 12, 8] true [⟨some 16, none, .mv, [.tmp 0]⟩,
          ⟨some 17, none, .fieldAddr 0, [.tmp 8]⟩,
          ⟨some 18, none, .load 1 false, [.tmp 17]⟩,
          ⟨some 19, none, .idxAddr 3, [.tmp 16, .tmp 18]⟩,
          ⟨some 20, none, .load 3 true, [.tmp 19]⟩,
          ⟨some 21, none, .mv, [.tmp 1]⟩,
          ⟨some 22, none, .fieldAddr 0, [.tmp 8]⟩,
          ⟨some 23, none, .load 1 false, [.tmp 22]⟩,
          ⟨some 24, none, .idxAddr 3, [.tmp 21, .tmp 23]⟩,
          ⟨some 25, none, .load 3 true, [.tmp 24]⟩,
          ⟨some 26, none, .call f_value_Compare true, [.tmp 20, .tmp 25]⟩,
          ⟨some 9, none, .mv, [.tmp 26]⟩]) (
        .seq (
         .seq (
          .reg [1, 0, 10, 11, 12, 9, 8] false [⟨some 27, none, .fieldAddr 1, [.tmp 8]⟩,
            ⟨some 28, none, .load 1 false, [.tmp 27]⟩]) (
          .cond (.tmp 28) (
           .reg [1, 0, 10, 11, 12, 9] false [⟨some 29, none, .mv, [.tmp 9]⟩,
             ⟨some 30, none, .un .neg, [.tmp 29]⟩,
             ⟨some 9, none, .mv, [.tmp 30]⟩]) (
           .skip))) (
         .seq (
          .reg [9, 1, 0, 10, 11, 12] false [⟨some 31, none, .mv, [.tmp 9]⟩,
            ⟨some 32, none, .bin .neq, [.tmp 31, .const (.int .i64 0)]⟩]) (
          .cond (.tmp 32) (
           .seq (
            .reg [9] false [⟨some 33, none, .mv, [.tmp 9]⟩,
              ⟨some 6, none, .mv, [.tmp 33]⟩]) (
            .ret)) (
           .skip))))))) (
     .reg [1, 0, 10, 11, 12] false [⟨some 34, none, .bin .add, [.tmp 12, .const (.int .i64 1)]⟩,
       ⟨some 12, none, .mv, [.tmp 34]⟩])))

def b_sort_Compare : AC :=
  .seq (
   .reg [1, 0, 2] false [⟨some 6, none, .mv, [.const (.int .i64 0)]⟩]) (
   .seq (
    .seq (
     .reg [1, 0, 2] false [⟨some 10, none, .mv, [.tmp 2]⟩,
       ⟨some 11, none, .len false, [.tmp 10]⟩,
       ⟨some 12, none, .mv, [.const (.int .i64 0)]⟩]) (
     .block 0 [] (
      .loop [12, 1, 0, 10, 11] b_sort_Compare_0))) (
    .seq (
     .reg [] false [⟨some 6, none, .mv, [.const (.int .i64 0)]⟩]) (
     .ret)))
def a_sort_Compare : AF := { results := [.tmp 6], body := b_sort_Compare }

/- sccsettle/pick.sum, 1 params, 0 free: [] -/
/- a loop's body; at its head: [2, 8, 3, 6, 7] -/
def b_pick_sum_0 : AC :=
  .seq (
   .reg [2, 6, 7, 8, 3] false [⟨some 9, none, .bin .lss, [.tmp 8, .tmp 7]⟩]) (
   .seq (
    .cond (.tmp 9) (
     .skip) (
     .exit 0)) (
    .seq (
     .block 1 [2, 3, 6, 7, 8] (
      .seq (
       .reg [2, 6, 7, 8, 3] false [⟨some 10, none, .idxAddr 3, [.tmp 6, .tmp 8]⟩,
         ⟨some 11, none, .load 3 true, [.tmp 10]⟩,
         ⟨some 5, none, .alloc [.int .i64 0, .int .i64 0, .str []], []⟩,
         ⟨none, none, .store 3, [.tmp 5, .tmp 11]⟩]) (
       .seq (
        .reg [2, 5, 6, 7, 8, 3] false [⟨some 12, none, .fieldAddr 0, [.tmp 5]⟩,
          ⟨some 13, none, .load 1 false, [.tmp 12]⟩]) (
        .block 2 [2, 3, 6, 7, 8] (
         .seq (
          .reg [2, 5, 6, 7, 8, 3, 13] false [⟨some 15, none, .bin .eql, [.tmp 13, .const (.int .i64 4)]⟩,
            ⟨some 14, none, .mv, [.tmp 15]⟩]) (
          .cond (.tmp 14) (
           .seq (
            .reg [2, 5] false [⟨some 16, none, .load 3 true, [.tmp 5]⟩,
              ⟨none, none, .store 3, [.tmp 2, .tmp 16]⟩]) (
            .ret)) (
           .seq (
            .reg [2, 6, 7, 8, 5, 3, 13] false [⟨some 18, none, .bin .eql, [.tmp 13, .const (.int .i64 1)]⟩,
              ⟨some 17, none, .mv, [.tmp 18]⟩]) (
            .cond (.tmp 17) (
             .reg [2, 6, 7, 8, 5, 3] false [⟨some 19, none, .mv, [.tmp 3]⟩,
               ⟨some 20, none, .fieldAddr 1, [.tmp 5]⟩,
               ⟨some 21, none, .load 1 false, [.tmp 20]⟩,
               ⟨some 22, none, .bslice 1, [.tmp 21]⟩,
               ⟨some 23, none, .append 1 8, [.tmp 19, .tmp 22]⟩,
               ⟨some 3, none, .mv, [.tmp 23]⟩]) (
             .skip))))))))) (
     .reg [2, 3, 6, 7, 8] false [⟨some 24, none, .bin .add, [.tmp 8, .const (.int .i64 1)]⟩,
       ⟨some 8, none, .mv, [.tmp 24]⟩])))

def b_pick_sum : AC :=
  .seq (
   .reg [0] false [⟨some 2, none, .alloc [.int .i64 0, .int .i64 0, .str []], []⟩]) (
   .seq (
    .reg [2, 0] false [⟨some 3, none, .mv, [.const (.lst (some true) 0 [])]⟩]) (
    .seq (
     .seq (
      .reg [2, 3, 0] false [⟨some 6, none, .mv, [.tmp 0]⟩,
        ⟨some 7, none, .len false, [.tmp 6]⟩,
        ⟨some 8, none, .mv, [.const (.int .i64 0)]⟩]) (
      .block 0 [2, 3] (
       .loop [2, 8, 3, 6, 7] b_pick_sum_0))) (
     .seq (
      .reg [2, 3] false [⟨some 25, none, .mv, [.tmp 3]⟩,
        ⟨some 26, none, .call f_eval_Sum true, [.tmp 25]⟩,
        ⟨none, none, .store 3, [.tmp 2, .tmp 26]⟩]) (
      .ret))))
def a_pick_sum : AF := { results := [.cell 2 3 true], body := b_pick_sum }

/- sccsettle/sccref2.Sum, 1 params, 0 free: [] -/
/- a loop's body; at its head: [4, 3, 0, 2] -/
def b_sccref2_Sum_0 : AC :=
  .seq (
   .seq (
    .reg [3, 0, 2, 4] false [⟨some 6, none, .mv, [.tmp 4]⟩,
      ⟨some 7, none, .mv, [.tmp 0]⟩,
      ⟨some 8, none, .len false, [.tmp 7]⟩,
      ⟨some 9, none, .bin .lss, [.tmp 6, .tmp 8]⟩]) (
    .cond (.tmp 9) (
     .skip) (
     .exit 0))) (
   .seq (
    .block 1 [3, 0, 2, 4] (
     .reg [3, 0, 2, 4] true [⟨some 12, none, .load 3 true, [.tmp 3]⟩,
       ⟨some 13, none, .mv, [.tmp 0]⟩,
       ⟨some 14, none, .mv, [.tmp 4]⟩,
       ⟨some 15, none, .idxAddr 1, [.tmp 13, .tmp 14]⟩,
       ⟨some 16, none, .load 1 false, [.tmp 15]⟩,
       ⟨some 17, none, .call f_sccref1_Num true, [.tmp 16]⟩,
       ⟨some 18, none, .call f_sccref1_Two true, [.const (.int .i64 8), .tmp 12, .tmp 17]⟩,
       ⟨none, none, .store 3, [.tmp 3, .tmp 18]⟩])) (
    .reg [3, 0, 2, 4] false [⟨some 10, none, .mv, [.tmp 4]⟩,
      ⟨some 11, none, .bin .add, [.tmp 10, .const (.int .i64 1)]⟩,
      ⟨some 4, none, .mv, [.tmp 11]⟩]))

def b_sccref2_Sum : AC :=
  .seq (
   .reg [0] false [⟨some 2, none, .alloc [.int .i64 0, .int .i64 0, .str []], []⟩]) (
   .seq (
    .reg [0, 2] false [⟨some 5, none, .call f_sccref1_Num true, [.const (.int .i64 0)]⟩,
      ⟨some 3, none, .alloc [.int .i64 0, .int .i64 0, .str []], []⟩,
      ⟨none, none, .store 3, [.tmp 3, .tmp 5]⟩]) (
    .seq (
     .seq (
      .reg [3, 0, 2] false [⟨some 4, none, .mv, [.const (.int .i64 0)]⟩]) (
      .block 0 [2, 3] (
       .loop [4, 3, 0, 2] b_sccref2_Sum_0))) (
     .seq (
      .reg [2, 3] false [⟨some 19, none, .load 3 true, [.tmp 3]⟩,
        ⟨none, none, .store 3, [.tmp 2, .tmp 19]⟩]) (
      .ret))))
def a_sccref2_Sum : AF := { results := [.cell 2 3 true], body := b_sccref2_Sum }

/- (*sccsettle/sccsettlebig.Int).SetInt64, 2 params, 0 free: [] -/
def b_sccsettlebig_Int__SetInt64 : AC :=
  .seq (
   .reg [1, 0] false [⟨some 4, none, .mv, [.const (.nilp)]⟩]) (
   .seq (
    .reg [1, 0] false [⟨some 6, none, .mv, [.tmp 1]⟩,
      ⟨some 7, none, .convInt .u64, [.tmp 6]⟩,
      ⟨some 5, none, .mv, [.tmp 7]⟩]) (
    .seq (
     .seq (
      .reg [1, 0, 5] false [⟨some 8, none, .mv, [.tmp 1]⟩,
        ⟨some 9, none, .bin .lss, [.tmp 8, .const (.int .i64 0)]⟩]) (
      .cond (.tmp 9) (
       .reg [1, 0, 5] false [⟨some 10, none, .mv, [.tmp 5]⟩,
         ⟨some 11, none, .un .neg, [.tmp 10]⟩,
         ⟨some 5, none, .mv, [.tmp 11]⟩]) (
       .skip))) (
     .seq (
      .reg [5, 1, 0] false [⟨some 12, none, .mv, [.tmp 0]⟩,
        ⟨some 13, none, .mv, [.tmp 1]⟩,
        ⟨some 14, none, .bin .lss, [.tmp 13, .const (.int .i64 0)]⟩,
        ⟨some 15, none, .mv, [.tmp 5]⟩,
        ⟨some 16, none, .call f_sccsettlebig_words true, [.tmp 15]⟩,
        ⟨some 17, none, .call f_sccsettlebig_Int__give false, [.tmp 12, .tmp 14, .tmp 16]⟩,
        ⟨some 4, none, .mv, [.tmp 17]⟩]) (
      .ret))))
def a_sccsettlebig_Int__SetInt64 : AF := { results := [.tmp 4], body := b_sccsettlebig_Int__SetInt64 }

/- (*sccsettle/sccsettlebig.Int).give, 3 params, 0 free: [] -/
def b_sccsettlebig_Int__give : AC :=
  .seq (
   .reg [0, 2, 1] false [⟨some 6, none, .mv, [.const (.nilp)]⟩]) (
   .seq (
    .reg [0, 2, 1] false [⟨some 7, none, .mv, [.tmp 0]⟩,
      ⟨some 8, none, .mv, [.tmp 2]⟩,
      ⟨some 9, none, .nilchk, [.tmp 7]⟩,
      ⟨some 10, none, .fieldAddr 1, [.tmp 9]⟩,
      ⟨none, none, .store 1, [.tmp 10, .tmp 8]⟩]) (
    .seq (
     .reg [0, 2, 1] false [⟨some 11, none, .mv, [.tmp 0]⟩,
       ⟨some 12, none, .mv, [.tmp 1]⟩,
       ⟨some 13, none, .mv, [.tmp 12]⟩,
       ⟨some 14, some (13, true), .mv, [.tmp 2]⟩,
       ⟨some 15, some (13, true), .len false, [.tmp 14]⟩,
       ⟨some 16, some (13, true), .bin .gtr, [.tmp 15, .const (.int .i64 0)]⟩,
       ⟨some 17, none, .pick, [.tmp 13, .tmp 16, .const (.bool false)]⟩,
       ⟨some 18, none, .nilchk, [.tmp 11]⟩,
       ⟨some 19, none, .fieldAddr 0, [.tmp 18]⟩,
       ⟨none, none, .store 1, [.tmp 19, .tmp 17]⟩]) (
     .seq (
      .reg [0] false [⟨some 20, none, .mv, [.tmp 0]⟩,
        ⟨some 6, none, .mv, [.tmp 20]⟩]) (
      .ret))))
def a_sccsettlebig_Int__give : AF := { results := [.tmp 6], body := b_sccsettlebig_Int__give }

/- sccsettle/sccsettlebig.twin, 1 params, 0 free: [] -/
def b_sccsettlebig_twin : AC :=
  .seq (
   .reg [0] false [⟨some 2, none, .mv, [.const (.lst (some true) 0 [])]⟩]) (
   .seq (
    .reg [0] false [⟨some 3, none, .mv, [.tmp 0]⟩,
      ⟨some 4, none, .append 1 4, [.const (.lst (some true) 0 []), .tmp 3]⟩,
      ⟨some 2, none, .mv, [.tmp 4]⟩]) (
    .ret))
def a_sccsettlebig_twin : AF := { results := [.tmp 2], body := b_sccsettlebig_twin }

/- (*sccsettle/sccsettlebig.Int).Text, 2 params, 0 free: [] -/
/- a loop's body; at its head: [5, 1, 6, 0] -/
def b_sccsettlebig_Int__Text_0 : AC :=
  .seq (
   .seq (
    .reg [1, 0, 5, 6] false [⟨some 24, none, .mv, [.tmp 6]⟩,
      ⟨some 25, none, .len false, [.tmp 24]⟩,
      ⟨some 26, none, .bin .gtr, [.tmp 25, .const (.int .i64 0)]⟩]) (
    .cond (.tmp 26) (
     .skip) (
     .exit 0))) (
   .block 1 [5, 1, 6, 0] (
    .seq (
     .reg [1, 0, 5, 6] false [⟨some 7, none, .mv, [.const (.int .u32 0)]⟩]) (
     .seq (
      .reg [1, 0, 5, 6] false [⟨some 28, none, .mv, [.tmp 6]⟩,
        ⟨some 29, none, .mv, [.tmp 1]⟩,
        ⟨some 30, none, .convInt .u32, [.tmp 29]⟩,
        ⟨some 31, none, .call f_sccsettlebig_small true, [.tmp 28, .tmp 30]⟩,
        ⟨some 27, none, .mv, [.tmp 31]⟩,
        ⟨some 32, none, .extract 0, [.tmp 27]⟩,
        ⟨some 33, none, .extract 1, [.tmp 27]⟩,
        ⟨some 6, none, .mv, [.tmp 32]⟩,
        ⟨some 7, none, .mv, [.tmp 33]⟩]) (
      .seq (
       .reg [1, 6, 0, 7, 5] false [⟨some 34, none, .mv, [.tmp 7]⟩,
         ⟨some 35, none, .bin .lss, [.tmp 34, .const (.int .u32 10)]⟩]) (
       .cond (.tmp 35) (
        .reg [1, 6, 0, 7, 5] false [⟨some 36, none, .mv, [.tmp 5]⟩,
          ⟨some 37, none, .mv, [.tmp 7]⟩,
          ⟨some 38, none, .bin .add, [.const (.int .u32 48), .tmp 37]⟩,
          ⟨some 39, none, .convInt .u8, [.tmp 38]⟩,
          ⟨some 40, none, .bslice 1, [.tmp 39]⟩,
          ⟨some 41, none, .append 1 1, [.tmp 36, .tmp 40]⟩,
          ⟨some 5, none, .mv, [.tmp 41]⟩]) (
        .reg [1, 6, 0, 7, 5] false [⟨some 42, none, .mv, [.tmp 5]⟩,
          ⟨some 43, none, .mv, [.tmp 7]⟩,
          ⟨some 44, none, .bin .add, [.const (.int .u32 97), .tmp 43]⟩,
          ⟨some 45, none, .bin .sub, [.tmp 44, .const (.int .u32 10)]⟩,
          ⟨some 46, none, .convInt .u8, [.tmp 45]⟩,
          ⟨some 47, none, .bslice 1, [.tmp 46]⟩,
          ⟨some 48, none, .append 1 1, [.tmp 42, .tmp 47]⟩,
          ⟨some 5, none, .mv, [.tmp 48]⟩]))))))

/- a loop's body; at its head: [9, 8, 5] -/
def b_sccsettlebig_Int__Text_1 : AC :=
  .seq (
   .seq (
    .reg [5, 9, 8] false [⟨some 59, none, .mv, [.tmp 8]⟩,
      ⟨some 60, none, .mv, [.tmp 9]⟩,
      ⟨some 61, none, .bin .lss, [.tmp 59, .tmp 60]⟩]) (
    .cond (.tmp 61) (
     .skip) (
     .exit 2))) (
   .seq (
    .block 3 [5, 9, 8] (
     .seq (
      .reg [5, 9, 8] false [⟨some 66, none, .mv, [.tmp 5]⟩,
        ⟨some 67, none, .mv, [.tmp 8]⟩,
        ⟨some 68, none, .idxAddr 1, [.tmp 66, .tmp 67]⟩,
        ⟨some 69, none, .load 1 false, [.tmp 68]⟩,
        ⟨some 10, none, .mv, [.tmp 69]⟩]) (
      .seq (
       .reg [5, 9, 8, 10] false [⟨some 70, none, .mv, [.tmp 5]⟩,
         ⟨some 71, none, .mv, [.tmp 8]⟩,
         ⟨some 72, none, .mv, [.tmp 5]⟩,
         ⟨some 73, none, .mv, [.tmp 9]⟩,
         ⟨some 74, none, .idxAddr 1, [.tmp 72, .tmp 73]⟩,
         ⟨some 75, none, .load 1 false, [.tmp 74]⟩,
         ⟨some 76, none, .idxAddr 1, [.tmp 70, .tmp 71]⟩,
         ⟨none, none, .store 1, [.tmp 76, .tmp 75]⟩]) (
       .reg [5, 9, 8, 10] false [⟨some 77, none, .mv, [.tmp 5]⟩,
         ⟨some 78, none, .mv, [.tmp 9]⟩,
         ⟨some 79, none, .mv, [.tmp 10]⟩,
         ⟨some 80, none, .idxAddr 1, [.tmp 77, .tmp 78]⟩,
         ⟨none, none, .store 1, [.tmp 80, .tmp 79]⟩])))) (
    .reg [5, 9, 8] false [⟨some 62, none, .mv, [.tmp 8]⟩,
      ⟨some 63, none, .bin .add, [.tmp 62, .const (.int .i64 1)]⟩,
      ⟨some 64, none, .mv, [.tmp 9]⟩,
      ⟨some 65, none, .bin .sub, [.tmp 64, .const (.int .i64 1)]⟩,
      ⟨some 8, none, .mv, [.tmp 63]⟩,
      ⟨some 9, none, .mv, [.tmp 65]⟩]))

def b_sccsettlebig_Int__Text : AC :=
  .seq (
   .reg [1, 0] false [⟨some 4, none, .mv, [.const (.str [])]⟩]) (
   .seq (
    .seq (
     .reg [1, 0] false [⟨some 11, none, .mv, [.tmp 0]⟩,
       ⟨some 12, none, .eqn .ptr false true, [.tmp 11, .const (.nilp)]⟩]) (
     .cond (.tmp 12) (
      .seq (
       .reg [] false [⟨some 4, none, .mv, [.const (.str [60, 110, 105, 108, 62])]⟩]) (
       .ret)) (
      .skip))) (
    .seq (
     .seq (
      .reg [1, 0] false [⟨some 13, none, .mv, [.tmp 0]⟩,
        ⟨some 14, none, .nilchk, [.tmp 13]⟩,
        ⟨some 15, none, .fieldAddr 1, [.tmp 14]⟩,
        ⟨some 16, none, .load 1 false, [.tmp 15]⟩,
        ⟨some 17, none, .len false, [.tmp 16]⟩,
        ⟨some 18, none, .bin .eql, [.tmp 17, .const (.int .i64 0)]⟩]) (
      .cond (.tmp 18) (
       .seq (
        .reg [] false [⟨some 4, none, .mv, [.const (.str [48])]⟩]) (
        .ret)) (
       .skip))) (
     .seq (
      .reg [1, 0] false [⟨some 5, none, .mv, [.const (.lst (some true) 0 [])]⟩]) (
      .seq (
       .seq (
        .reg [5, 1, 0] false [⟨some 19, none, .mv, [.tmp 0]⟩,
          ⟨some 20, none, .nilchk, [.tmp 19]⟩,
          ⟨some 21, none, .fieldAddr 1, [.tmp 20]⟩,
          ⟨some 22, none, .load 1 false, [.tmp 21]⟩,
          ⟨some 23, none, .call f_sccsettlebig_twin true, [.tmp 22]⟩,
          ⟨some 6, none, .mv, [.tmp 23]⟩]) (
        .block 0 [5, 0] (
         .loop [5, 1, 6, 0] b_sccsettlebig_Int__Text_0))) (
       .seq (
        .seq (
         .reg [5, 0] false [⟨some 49, none, .mv, [.tmp 0]⟩,
           ⟨some 50, none, .nilchk, [.tmp 49]⟩,
           ⟨some 51, none, .fieldAddr 0, [.tmp 50]⟩,
           ⟨some 52, none, .load 1 false, [.tmp 51]⟩]) (
         .cond (.tmp 52) (
          .reg [5] false [⟨some 53, none, .mv, [.tmp 5]⟩,
            ⟨some 54, none, .bslice 1, [.const (.int .u8 45)]⟩,
            ⟨some 55, none, .append 1 1, [.tmp 53, .tmp 54]⟩,
            ⟨some 5, none, .mv, [.tmp 55]⟩]) (
          .skip))) (
        .seq (
         .seq (
          .reg [5] false [⟨some 56, none, .mv, [.tmp 5]⟩,
            ⟨some 57, none, .len false, [.tmp 56]⟩,
            ⟨some 58, none, .bin .sub, [.tmp 57, .const (.int .i64 1)]⟩,
            ⟨some 8, none, .mv, [.const (.int .i64 0)]⟩,
            ⟨some 9, none, .mv, [.tmp 58]⟩]) (
          .block 2 [5] (
           .loop [9, 8, 5] b_sccsettlebig_Int__Text_1))) (
         .seq (
          .reg [5] false [⟨some 81, none, .mv, [.tmp 5]⟩,
            ⟨some 82, none, .bytesToStr, [.tmp 81]⟩,
            ⟨some 4, none, .mv, [.tmp 82]⟩]) (
          .ret))))))))
def a_sccsettlebig_Int__Text : AF := { results := [.tmp 4], body := b_sccsettlebig_Int__Text }

/- sccsettle/sccref1.Bad, 1 params, 0 free: [] -/
def b_sccref1_Bad : AC :=
  .seq (
   .reg [0] false [⟨some 2, none, .alloc [.int .i64 0, .int .i64 0, .str []], []⟩]) (
   .seq (
    .reg [2, 0] false [⟨some 3, none, .mv, [.tmp 0]⟩,
      ⟨some 4, none, .build [.int .i64 0, .int .i64 0, .str []] [(0, 1), (1, 1)], [.const (.int .i64 4), .tmp 3]⟩,
      ⟨none, none, .store 3, [.tmp 2, .tmp 4]⟩]) (
    .ret))
def a_sccref1_Bad : AF := { results := [.cell 2 3 true], body := b_sccref1_Bad }

/- sccsettle/sccref1.Number, 1 params, 0 free: [] -/
def b_sccref1_Number : AC :=
  .seq (
   .reg [0] false [⟨some 1, none, .box, [.tmp 0]⟩,
     ⟨some 2, none, .alloc [.int .i64 0, .int .i64 0, .str []], []⟩]) (
   .seq (
    .seq (
     .reg [2, 1] false [⟨some 4, none, .fieldAddr 0, [.tmp 1]⟩,
       ⟨some 5, none, .load 1 false, [.tmp 4]⟩]) (
     .block 0 [2, 1] (
      .seq (
       .seq (
        .reg [2, 1, 5] false [⟨some 7, none, .bin .eql, [.tmp 5, .const (.int .i64 1)]⟩,
          ⟨some 6, none, .mv, [.tmp 7]⟩]) (
        .cond (.tmp 6) (
         .skip) (
         .reg [2, 1, 5] false [⟨some 8, none, .bin .eql, [.tmp 5, .const (.int .i64 4)]⟩,
           ⟨some 6, none, .mv, [.tmp 8]⟩]))) (
       .cond (.tmp 6) (
        .seq (
         .reg [2, 1] false [⟨some 9, none, .load 3 true, [.tmp 1]⟩,
           ⟨none, none, .store 3, [.tmp 2, .tmp 9]⟩]) (
         .ret)) (
        .seq (
         .reg [2, 1, 5] false [⟨some 11, none, .bin .eql, [.tmp 5, .const (.int .i64 0)]⟩,
           ⟨some 10, none, .mv, [.tmp 11]⟩]) (
         .cond (.tmp 10) (
          .seq (
           .reg [2] false [⟨some 12, none, .call f_sccref1_Num true, [.const (.int .i64 0)]⟩,
             ⟨none, none, .store 3, [.tmp 2, .tmp 12]⟩]) (
           .ret)) (
          .seq (
           .reg [2, 1, 5] false [⟨some 14, none, .bin .eql, [.tmp 5, .const (.int .i64 3)]⟩,
             ⟨some 13, none, .mv, [.tmp 14]⟩]) (
           .cond (.tmp 13) (
            .seq (
             .reg [2, 1] false [⟨some 15, none, .fieldAddr 1, [.tmp 1]⟩,
               ⟨some 16, none, .load 1 false, [.tmp 15]⟩,
               ⟨some 17, none, .call f_sccref1_Num true, [.tmp 16]⟩,
               ⟨none, none, .store 3, [.tmp 2, .tmp 17]⟩]) (
             .ret)) (
            .skip))))))))) (
    .seq (
     .reg [2, 1] false [⟨some 18, none, .fieldAddr 2, [.tmp 1]⟩,
       ⟨some 19, none, .load 1 false, [.tmp 18]⟩,
       ⟨some 20, none, .call f_sccref1_Read true, [.tmp 19]⟩,
       ⟨some 3, none, .alloc [.int .i64 0, .int .i64 0, .str []], []⟩,
       ⟨none, none, .store 3, [.tmp 3, .tmp 20]⟩]) (
     .seq (
      .seq (
       .reg [2, 3] false [⟨some 21, none, .fieldAddr 0, [.tmp 3]⟩,
         ⟨some 22, none, .load 1 false, [.tmp 21]⟩,
         ⟨some 23, none, .bin .eql, [.tmp 22, .const (.int .i64 1)]⟩]) (
       .cond (.tmp 23) (
        .seq (
         .reg [2, 3] false [⟨some 24, none, .load 3 true, [.tmp 3]⟩,
           ⟨none, none, .store 3, [.tmp 2, .tmp 24]⟩]) (
         .ret)) (
        .skip))) (
      .seq (
       .reg [2] false [⟨some 25, none, .call f_sccref1_Bad true, [.const (.int .i64 2)]⟩,
         ⟨none, none, .store 3, [.tmp 2, .tmp 25]⟩]) (
       .ret)))))
def a_sccref1_Number : AF := { results := [.cell 2 3 true], body := b_sccref1_Number }

/- sccsettle/sccref1.Reckon, 3 params, 0 free: [] -/
def b_sccref1_Reckon : AC :=
  .seq (
   .reg [2, 0, 1] false [⟨some 6, none, .alloc [.int .i64 0, .int .i64 0, .str []], []⟩]) (
   .seq (
    .reg [6, 2, 0, 1] false [⟨some 11, none, .mv, [.tmp 1]⟩,
      ⟨some 12, none, .call f_sccsettlebig_NewInt false, [.tmp 11]⟩,
      ⟨some 7, none, .mv, [.tmp 12]⟩]) (
    .seq (
     .reg [6, 7, 2, 0] false [⟨some 13, none, .mv, [.tmp 2]⟩,
       ⟨some 14, none, .call f_sccsettlebig_NewInt false, [.tmp 13]⟩,
       ⟨some 8, none, .mv, [.tmp 14]⟩]) (
     .seq (
      .reg [6, 8, 7, 2, 0] false [⟨some 15, none, .alloc [.bool false, .lst (some true) 0 []], []⟩,
        ⟨some 9, none, .mv, [.tmp 15]⟩]) (
      .seq (
       .seq (
        .reg [6, 9, 8, 7, 2, 0] false [⟨some 16, none, .mv, [.tmp 0]⟩]) (
        .block 0 [6, 9] (
         .seq (
          .reg [6, 9, 8, 7, 2, 16] false [⟨some 25, none, .bin .eql, [.tmp 16, .const (.int .i64 8)]⟩,
            ⟨some 24, none, .mv, [.tmp 25]⟩]) (
          .cond (.tmp 24) (
           .reg [6, 9, 8, 7] false [⟨some 26, none, .mv, [.tmp 9]⟩,
             ⟨some 27, none, .mv, [.tmp 7]⟩,
             ⟨some 28, none, .mv, [.tmp 8]⟩,
             ⟨some 29, none, .call f_sccsettlebig_Int__Add false, [.tmp 26, .tmp 27, .tmp 28]⟩]) (
           .seq (
            .reg [6, 9, 8, 7, 2, 16] false [⟨some 31, none, .bin .eql, [.tmp 16, .const (.int .i64 9)]⟩,
              ⟨some 30, none, .mv, [.tmp 31]⟩]) (
            .cond (.tmp 30) (
             .reg [6, 9, 8, 7] false [⟨some 32, none, .mv, [.tmp 9]⟩,
               ⟨some 33, none, .mv, [.tmp 7]⟩,
               ⟨some 34, none, .mv, [.tmp 8]⟩,
               ⟨some 35, none, .call f_sccsettlebig_Int__Sub true, [.tmp 32, .tmp 33, .tmp 34]⟩]) (
             .seq (
              .reg [6, 9, 8, 7, 2, 16] false [⟨some 37, none, .bin .eql, [.tmp 16, .const (.int .i64 10)]⟩,
                ⟨some 36, none, .mv, [.tmp 37]⟩]) (
              .cond (.tmp 36) (
               .reg [6, 9, 8, 7] false [⟨some 38, none, .mv, [.tmp 9]⟩,
                 ⟨some 39, none, .mv, [.tmp 7]⟩,
                 ⟨some 40, none, .mv, [.tmp 8]⟩,
                 ⟨some 41, none, .call f_sccsettlebig_Int__Mul true, [.tmp 38, .tmp 39, .tmp 40]⟩]) (
               .seq (
                .seq (
                 .reg [6, 9, 8, 7, 2] false [⟨some 17, none, .mv, [.tmp 2]⟩,
                   ⟨some 18, none, .bin .eql, [.tmp 17, .const (.int .i64 0)]⟩]) (
                 .cond (.tmp 18) (
                  .seq (
                   .reg [6] false [⟨some 19, none, .call f_sccref1_Bad true, [.const (.int .i64 1)]⟩,
                     ⟨none, none, .store 3, [.tmp 6, .tmp 19]⟩]) (
                   .ret)) (
                  .skip))) (
                .reg [6, 9, 8, 7] false [⟨some 20, none, .mv, [.tmp 9]⟩,
                  ⟨some 21, none, .mv, [.tmp 7]⟩,
                  ⟨some 22, none, .mv, [.tmp 8]⟩,
                  ⟨some 23, none, .call f_sccsettlebig_Int__Quo true, [.tmp 20, .tmp 21, .tmp 22]⟩])))))))))) (
       .seq (
        .reg [6, 9] false [⟨some 42, none, .mv, [.tmp 9]⟩,
          ⟨some 43, none, .call f_sccref1_Fits true, [.tmp 42]⟩,
          ⟨some 10, none, .mv, [.tmp 43]⟩]) (
        .seq (
         .seq (
          .reg [6, 9, 10] false [⟨some 44, none, .mv, [.tmp 10]⟩,
            ⟨some 45, none, .un .not, [.tmp 44]⟩]) (
          .cond (.tmp 45) (
           .seq (
            .reg [6] false [⟨some 46, none, .call f_sccref1_Bad true, [.const (.int .i64 5)]⟩,
              ⟨none, none, .store 3, [.tmp 6, .tmp 46]⟩]) (
            .ret)) (
           .skip))) (
         .seq (
          .reg [6, 9] false [⟨some 47, none, .mv, [.tmp 9]⟩,
            ⟨some 48, none, .call f_sccsettlebig_Int__Int64 true, [.tmp 47]⟩,
            ⟨some 49, none, .call f_sccref1_Num true, [.tmp 48]⟩,
            ⟨none, none, .store 3, [.tmp 6, .tmp 49]⟩]) (
          .ret))))))))
def a_sccref1_Reckon : AF := { results := [.cell 6 3 true], body := b_sccref1_Reckon }

/- sccsettle/sccref1.Txt, 1 params, 0 free: [] -/
def b_sccref1_Txt : AC :=
  .seq (
   .reg [0] false [⟨some 2, none, .alloc [.int .i64 0, .int .i64 0, .str []], []⟩]) (
   .seq (
    .reg [2, 0] false [⟨some 3, none, .mv, [.tmp 0]⟩,
      ⟨some 4, none, .build [.int .i64 0, .int .i64 0, .str []] [(0, 1), (2, 1)], [.const (.int .i64 2), .tmp 3]⟩,
      ⟨none, none, .store 3, [.tmp 2, .tmp 4]⟩]) (
    .ret))
def a_sccref1_Txt : AF := { results := [.cell 2 3 true], body := b_sccref1_Txt }

/- sccsettle/sccref1.Compare, 2 params, 0 free: [] -/
def b_sccref1_Compare : AC :=
  .seq (
   .reg [1, 0] false [⟨some 2, none, .box, [.tmp 0]⟩,
     ⟨some 3, none, .box, [.tmp 1]⟩,
     ⟨some 4, none, .mv, [.const (.int .i64 0)]⟩]) (
   .seq (
    .reg [2, 3] false [⟨some 7, none, .load 3 true, [.tmp 2]⟩,
      ⟨some 8, none, .load 3 true, [.tmp 3]⟩,
      ⟨some 9, none, .call f_sccref1_less true, [.tmp 7, .tmp 8]⟩,
      ⟨some 5, none, .mv, [.tmp 9]⟩]) (
    .seq (
     .reg [5, 2, 3] false [⟨some 10, none, .load 3 true, [.tmp 3]⟩,
       ⟨some 11, none, .load 3 true, [.tmp 2]⟩,
       ⟨some 12, none, .call f_sccref1_less true, [.tmp 10, .tmp 11]⟩,
       ⟨some 6, none, .mv, [.tmp 12]⟩]) (
     .seq (
      .seq (
       .reg [6, 5] false [⟨some 13, none, .mv, [.tmp 5]⟩]) (
       .cond (.tmp 13) (
        .seq (
         .reg [] false [⟨some 4, none, .mv, [.const (.int .i64 (-1))]⟩]) (
         .ret)) (
        .skip))) (
      .seq (
       .seq (
        .reg [6] false [⟨some 14, none, .mv, [.tmp 6]⟩]) (
        .cond (.tmp 14) (
         .seq (
          .reg [] false [⟨some 4, none, .mv, [.const (.int .i64 1)]⟩]) (
          .ret)) (
         .skip))) (
       .seq (
        .reg [] false [⟨some 4, none, .mv, [.const (.int .i64 0)]⟩]) (
        .ret))))))
def a_sccref1_Compare : AF := { results := [.tmp 4], body := b_sccref1_Compare }

/- sccsettle/sccref1.beside, 2 params, 0 free: [] -/
def b_sccref1_beside : AC :=
  .seq (
   .reg [1, 0] false [⟨some 2, none, .box, [.tmp 0]⟩,
     ⟨some 3, none, .box, [.tmp 1]⟩,
     ⟨some 4, none, .alloc [.int .i64 0, .int .i64 0, .str []], []⟩]) (
   .seq (
    .seq (
     .reg [4, 2, 3] false [⟨some 5, none, .fieldAddr 0, [.tmp 2]⟩,
       ⟨some 6, none, .load 1 false, [.tmp 5]⟩,
       ⟨some 7, none, .bin .eql, [.tmp 6, .const (.int .i64 0)]⟩]) (
     .cond (.tmp 7) (
      .seq (
       .reg [4, 2, 3] false [⟨some 8, none, .fieldAddr 0, [.tmp 3]⟩,
         ⟨some 9, none, .load 1 false, [.tmp 8]⟩]) (
       .block 0 [4, 2] (
        .seq (
         .reg [4, 2, 9] false [⟨some 11, none, .bin .eql, [.tmp 9, .const (.int .i64 1)]⟩,
           ⟨some 10, none, .mv, [.tmp 11]⟩]) (
         .cond (.tmp 10) (
          .seq (
           .reg [4] false [⟨some 12, none, .call f_sccref1_Num true, [.const (.int .i64 0)]⟩,
             ⟨none, none, .store 3, [.tmp 4, .tmp 12]⟩]) (
           .ret)) (
          .seq (
           .reg [4, 2, 9] false [⟨some 14, none, .bin .eql, [.tmp 9, .const (.int .i64 2)]⟩,
             ⟨some 13, none, .mv, [.tmp 14]⟩]) (
           .cond (.tmp 13) (
            .seq (
             .reg [4] false [⟨some 15, none, .call f_sccref1_Txt true, [.const (.str [])]⟩,
               ⟨none, none, .store 3, [.tmp 4, .tmp 15]⟩]) (
             .ret)) (
            .seq (
             .reg [4, 2, 9] false [⟨some 17, none, .bin .eql, [.tmp 9, .const (.int .i64 3)]⟩,
               ⟨some 16, none, .mv, [.tmp 17]⟩]) (
             .cond (.tmp 16) (
              .seq (
               .reg [4] false [⟨some 18, none, .call f_sccref1_Tru true, [.const (.bool false)]⟩,
                 ⟨none, none, .store 3, [.tmp 4, .tmp 18]⟩]) (
               .ret)) (
              .skip))))))))) (
      .skip))) (
    .seq (
     .reg [4, 2] false [⟨some 19, none, .load 3 true, [.tmp 2]⟩,
       ⟨none, none, .store 3, [.tmp 4, .tmp 19]⟩]) (
     .ret)))
def a_sccref1_beside : AF := { results := [.cell 4 3 true], body := b_sccref1_beside }

/- sccsettle/sccref1.Tru, 1 params, 0 free: [] -/
def b_sccref1_Tru : AC :=
  .seq (
   .reg [0] false [⟨some 2, none, .alloc [.int .i64 0, .int .i64 0, .str []], []⟩]) (
   .seq (
    .seq (
     .reg [2, 0] false [⟨some 3, none, .mv, [.tmp 0]⟩]) (
     .cond (.tmp 3) (
      .seq (
       .reg [2] false [⟨some 4, none, .build [.int .i64 0, .int .i64 0, .str []] [(0, 1), (1, 1)], [.const (.int .i64 3), .const (.int .i64 1)]⟩,
         ⟨none, none, .store 3, [.tmp 2, .tmp 4]⟩]) (
       .ret)) (
      .skip))) (
    .seq (
     .reg [2] false [⟨some 5, none, .build [.int .i64 0, .int .i64 0, .str []] [(0, 1)], [.const (.int .i64 3)]⟩,
       ⟨none, none, .store 3, [.tmp 2, .tmp 5]⟩]) (
     .ret)))
def a_sccref1_Tru : AF := { results := [.cell 2 3 true], body := b_sccref1_Tru }

/- sccsettle/pick.check, 2 params, 0 free: [] -/
/- a loop's body; at its head: [19, 0, 17, 18] -/
def b_pick_check_0 : AC :=
  .seq (
   .reg [0, 17, 18, 19] false [⟨some 20, none, .bin .lss, [.tmp 19, .tmp 18]⟩]) (
   .seq (
    .cond (.tmp 20) (
     .skip) (
     .exit 0)) (
    .seq (
     .block 1 [0, 17, 18, 19] (
      .seq (
       .reg [0, 17, 18, 19] false [⟨some 21, none, .idxAddr 5, [.tmp 17, .tmp 19]⟩,
         ⟨some 22, none, .load 5 true, [.tmp 21]⟩,
         ⟨some 7, none, .alloc [.int .i64 0, .int .i64 0, .int .i64 0, .int .i64 0, .str []], []⟩,
         ⟨none, none, .store 5, [.tmp 7, .tmp 22]⟩]) (
       .seq (
        .reg [0, 17, 18, 19, 7] false [⟨some 23, none, .mv, [.tmp 0]⟩,
          ⟨some 24, none, .fieldAddr 0, [.tmp 7]⟩,
          ⟨some 25, none, .load 1 false, [.tmp 24]⟩,
          ⟨some 26, none, .call f_sort_Column true, [.tmp 23, .tmp 25]⟩,
          ⟨some 27, none, .un .not, [.tmp 26]⟩,
          ⟨some 28, none, .mv, [.tmp 27]⟩,
          ⟨some 29, some (28, false), .fieldAddr 1, [.tmp 7]⟩,
          ⟨some 30, some (28, false), .load 1 false, [.tmp 29]⟩,
          ⟨some 31, some (28, false), .bin .lss, [.tmp 30, .const (.int .i64 1)]⟩,
          ⟨some 32, none, .pick, [.tmp 28, .const (.bool true), .tmp 31]⟩,
          ⟨some 33, none, .mv, [.tmp 32]⟩,
          ⟨some 34, some (33, false), .fieldAddr 1, [.tmp 7]⟩,
          ⟨some 35, some (33, false), .load 1 false, [.tmp 34]⟩,
          ⟨some 36, some (33, false), .bin .gtr, [.tmp 35, .const (.int .i64 6)]⟩,
          ⟨some 37, none, .pick, [.tmp 33, .const (.bool true), .tmp 36]⟩,
          ⟨some 38, none, .mv, [.tmp 37]⟩,
          ⟨some 39, some (38, false), .fieldAddr 2, [.tmp 7]⟩,
          ⟨some 40, some (38, false), .load 3 true, [.tmp 39]⟩,
          ⟨some 41, some (38, false), .call f_value_Check true, [.tmp 40]⟩,
          ⟨some 42, some (38, false), .eqn .iface true true, [.tmp 41, .const (.nili)]⟩,
          ⟨some 43, none, .pick, [.tmp 38, .const (.bool true), .tmp 42]⟩]) (
        .cond (.tmp 43) (
         .seq (
          .reg [] false [⟨some 44, none, .mkIface t_api_Errno, [.const (.int .i64 1)]⟩,
            ⟨some 4, none, .mv, [.tmp 44]⟩]) (
          .ret)) (
         .skip))))) (
     .reg [0, 17, 18, 19] false [⟨some 45, none, .bin .add, [.tmp 19, .const (.int .i64 1)]⟩,
       ⟨some 19, none, .mv, [.tmp 45]⟩])))

def b_pick_check : AC :=
  .seq (
   .reg [0, 1] false [⟨some 4, none, .mv, [.const (.nili)]⟩]) (
   .seq (
    .seq (
     .reg [0, 1] false [⟨some 8, none, .mv, [.tmp 0]⟩,
       ⟨some 9, none, .call f_sort_Check true, [.tmp 8]⟩,
       ⟨some 5, none, .mv, [.tmp 9]⟩]) (
     .seq (
      .reg [5, 0, 1] false [⟨some 10, none, .mv, [.tmp 5]⟩,
        ⟨some 11, none, .eqn .iface true true, [.tmp 10, .const (.nili)]⟩]) (
      .cond (.tmp 11) (
       .seq (
        .reg [5] false [⟨some 12, none, .mv, [.tmp 5]⟩,
          ⟨some 4, none, .mv, [.tmp 12]⟩]) (
        .ret)) (
       .skip)))) (
    .seq (
     .seq (
      .reg [0, 1] false [⟨some 13, none, .mv, [.tmp 1]⟩,
        ⟨some 14, none, .len false, [.tmp 13]⟩,
        ⟨some 15, none, .bin .gtr, [.tmp 14, .const (.int .i64 12)]⟩]) (
      .cond (.tmp 15) (
       .seq (
        .reg [] false [⟨some 16, none, .mkIface t_api_Errno, [.const (.int .i64 4)]⟩,
          ⟨some 4, none, .mv, [.tmp 16]⟩]) (
        .ret)) (
       .skip))) (
     .seq (
      .seq (
       .reg [0, 1] false [⟨some 17, none, .mv, [.tmp 1]⟩,
         ⟨some 18, none, .len false, [.tmp 17]⟩,
         ⟨some 19, none, .mv, [.const (.int .i64 0)]⟩]) (
       .block 0 [] (
        .loop [19, 0, 17, 18] b_pick_check_0))) (
      .seq (
       .reg [] false [⟨some 4, none, .mv, [.const (.nili)]⟩]) (
       .ret)))))
def a_pick_check : AF := { results := [.tmp 4], body := b_pick_check }

/- sccsettle/value.IsTrue, 1 params, 0 free: [] -/
def b_value_IsTrue : AC :=
  .seq (
   .reg [0] false [⟨some 1, none, .box, [.tmp 0]⟩,
     ⟨some 2, none, .mv, [.const (.bool false)]⟩]) (
   .seq (
    .reg [1] false [⟨some 3, none, .fieldAddr 0, [.tmp 1]⟩,
      ⟨some 4, none, .load 1 false, [.tmp 3]⟩,
      ⟨some 5, none, .bin .eql, [.tmp 4, .const (.int .i64 3)]⟩,
      ⟨some 6, none, .mv, [.tmp 5]⟩,
      ⟨some 7, some (6, true), .fieldAddr 1, [.tmp 1]⟩,
      ⟨some 8, some (6, true), .load 1 false, [.tmp 7]⟩,
      ⟨some 9, some (6, true), .bin .eql, [.tmp 8, .const (.int .i64 1)]⟩,
      ⟨some 10, none, .pick, [.tmp 6, .tmp 9, .const (.bool false)]⟩,
      ⟨some 2, none, .mv, [.tmp 10]⟩]) (
    .ret))
def a_value_IsTrue : AF := { results := [.tmp 2], body := b_value_IsTrue }

/- sccsettle/value.Two, 3 params, 0 free: [] -/
def b_value_Two : AC :=
  .seq (
   .reg [0, 2, 1] false [⟨some 4, none, .box, [.tmp 1]⟩,
     ⟨some 5, none, .box, [.tmp 2]⟩,
     ⟨some 6, none, .alloc [.int .i64 0, .int .i64 0, .str []], []⟩]) (
   .seq (
    .block 0 [6, 4, 5, 0] (
     .seq (
      .reg [6, 4, 5, 0] false [⟨some 10, none, .mv, [.tmp 0]⟩,
        ⟨some 11, none, .bin .lss, [.tmp 10, .const (.int .i64 1)]⟩,
        ⟨some 12, none, .mv, [.tmp 11]⟩,
        ⟨some 13, some (12, false), .mv, [.tmp 0]⟩,
        ⟨some 14, some (12, false), .bin .gtr, [.tmp 13, .const (.int .i64 11)]⟩,
        ⟨some 15, none, .pick, [.tmp 12, .const (.bool true), .tmp 14]⟩,
        ⟨some 9, none, .mv, [.tmp 15]⟩]) (
      .cond (.tmp 9) (
       .seq (
        .reg [6] false [⟨some 16, none, .call f_value_Wrong true, [.const (.int .i64 4)]⟩,
          ⟨none, none, .store 3, [.tmp 6, .tmp 16]⟩]) (
        .ret)) (
       .seq (
        .reg [6, 4, 5, 0] false [⟨some 18, none, .mv, [.tmp 0]⟩,
          ⟨some 19, none, .bin .geq, [.tmp 18, .const (.int .i64 8)]⟩,
          ⟨some 17, none, .mv, [.tmp 19]⟩]) (
        .cond (.tmp 17) (
         .reg [6, 4, 5, 0] true [⟨some 20, none, .load 3 true, [.tmp 4]⟩,
           ⟨some 21, none, .call f_value_Number true, [.tmp 20]⟩,
           ⟨some 22, none, .load 3 true, [.tmp 5]⟩,
           ⟨some 23, none, .call f_value_Number true, [.tmp 22]⟩,
           ⟨none, none, .store 3, [.tmp 4, .tmp 21]⟩,
           ⟨none, none, .store 3, [.tmp 5, .tmp 23]⟩]) (
         .skip)))))) (
    .seq (
     .block 1 [6, 0, 4, 5] (
      .seq (
       .reg [6, 4, 5, 0] false [⟨some 25, none, .load 3 true, [.tmp 4]⟩,
         ⟨some 26, none, .call f_value_IsBad true, [.tmp 25]⟩,
         ⟨some 24, none, .mv, [.tmp 26]⟩]) (
       .cond (.tmp 24) (
        .seq (
         .reg [6, 4] false [⟨some 27, none, .load 3 true, [.tmp 4]⟩,
           ⟨none, none, .store 3, [.tmp 6, .tmp 27]⟩]) (
         .ret)) (
        .seq (
         .reg [6, 5, 4, 0] false [⟨some 29, none, .load 3 true, [.tmp 5]⟩,
           ⟨some 30, none, .call f_value_IsBad true, [.tmp 29]⟩,
           ⟨some 28, none, .mv, [.tmp 30]⟩]) (
         .cond (.tmp 28) (
          .seq (
           .reg [6, 5] false [⟨some 31, none, .load 3 true, [.tmp 5]⟩,
             ⟨none, none, .store 3, [.tmp 6, .tmp 31]⟩]) (
           .ret)) (
          .seq (
           .reg [6, 5, 4, 0] false [⟨some 33, none, .mv, [.tmp 0]⟩,
             ⟨some 34, none, .bin .geq, [.tmp 33, .const (.int .i64 8)]⟩,
             ⟨some 32, none, .mv, [.tmp 34]⟩]) (
           .cond (.tmp 32) (
            .seq (
             .reg [6, 5, 4, 0] false [⟨some 35, none, .mv, [.tmp 0]⟩,
               ⟨some 36, none, .fieldAddr 1, [.tmp 4]⟩,
               ⟨some 37, none, .load 1 false, [.tmp 36]⟩,
               ⟨some 38, none, .fieldAddr 1, [.tmp 5]⟩,
               ⟨some 39, none, .load 1 false, [.tmp 38]⟩,
               ⟨some 40, none, .call f_value_reckon true, [.tmp 35, .tmp 37, .tmp 39]⟩,
               ⟨none, none, .store 3, [.tmp 6, .tmp 40]⟩]) (
             .ret)) (
            .seq (
             .reg [6, 5, 4, 0] false [⟨some 42, none, .mv, [.tmp 0]⟩,
               ⟨some 43, none, .bin .eql, [.tmp 42, .const (.int .i64 7)]⟩,
               ⟨some 41, none, .mv, [.tmp 43]⟩]) (
             .cond (.tmp 41) (
              .seq (
               .reg [6, 5, 4] true [⟨some 44, none, .load 3 true, [.tmp 4]⟩,
                 ⟨some 45, none, .call f_value_Show true, [.tmp 44]⟩,
                 ⟨some 46, none, .load 3 true, [.tmp 5]⟩,
                 ⟨some 47, none, .call f_value_Show true, [.tmp 46]⟩,
                 ⟨some 48, none, .bin .add, [.tmp 45, .tmp 47]⟩,
                 ⟨some 7, none, .mv, [.tmp 48]⟩]) (
               .seq (
                .seq (
                 .reg [6, 7] false [⟨some 49, none, .mv, [.tmp 7]⟩,
                   ⟨some 50, none, .len true, [.tmp 49]⟩,
                   ⟨some 51, none, .bin .gtr, [.tmp 50, .const (.int .i64 200)]⟩]) (
                 .cond (.tmp 51) (
                  .seq (
                   .reg [6] false [⟨some 52, none, .call f_value_Wrong true, [.const (.int .i64 2)]⟩,
                     ⟨none, none, .store 3, [.tmp 6, .tmp 52]⟩]) (
                   .ret)) (
                  .skip))) (
                .seq (
                 .reg [6, 7] false [⟨some 53, none, .mv, [.tmp 7]⟩,
                   ⟨some 54, none, .call f_value_Of true, [.tmp 53]⟩,
                   ⟨none, none, .store 3, [.tmp 6, .tmp 54]⟩]) (
                 .ret)))) (
              .skip)))))))))) (
     .seq (
      .reg [6, 0, 4, 5] true [⟨some 55, none, .load 3 true, [.tmp 4]⟩,
        ⟨some 56, none, .load 3 true, [.tmp 5]⟩,
        ⟨some 57, none, .call f_value_like true, [.tmp 55, .tmp 56]⟩,
        ⟨some 58, none, .load 3 true, [.tmp 5]⟩,
        ⟨some 59, none, .load 3 true, [.tmp 4]⟩,
        ⟨some 60, none, .call f_value_like true, [.tmp 58, .tmp 59]⟩,
        ⟨some 61, none, .call f_value_Compare true, [.tmp 57, .tmp 60]⟩,
        ⟨some 8, none, .mv, [.tmp 61]⟩]) (
      .seq (
       .seq (
        .reg [6, 8, 0] false [⟨some 62, none, .mv, [.tmp 0]⟩]) (
        .block 2 [6, 8] (
         .seq (
          .reg [6, 8, 62] false [⟨some 64, none, .bin .eql, [.tmp 62, .const (.int .i64 1)]⟩,
            ⟨some 63, none, .mv, [.tmp 64]⟩]) (
          .cond (.tmp 63) (
           .seq (
            .reg [6, 8] false [⟨some 65, none, .mv, [.tmp 8]⟩,
              ⟨some 66, none, .bin .eql, [.tmp 65, .const (.int .i64 0)]⟩,
              ⟨some 67, none, .call f_value_Is true, [.tmp 66]⟩,
              ⟨none, none, .store 3, [.tmp 6, .tmp 67]⟩]) (
            .ret)) (
           .seq (
            .reg [6, 8, 62] false [⟨some 69, none, .bin .eql, [.tmp 62, .const (.int .i64 2)]⟩,
              ⟨some 68, none, .mv, [.tmp 69]⟩]) (
            .cond (.tmp 68) (
             .seq (
              .reg [6, 8] false [⟨some 70, none, .mv, [.tmp 8]⟩,
                ⟨some 71, none, .bin .neq, [.tmp 70, .const (.int .i64 0)]⟩,
                ⟨some 72, none, .call f_value_Is true, [.tmp 71]⟩,
                ⟨none, none, .store 3, [.tmp 6, .tmp 72]⟩]) (
              .ret)) (
             .seq (
              .reg [6, 8, 62] false [⟨some 74, none, .bin .eql, [.tmp 62, .const (.int .i64 3)]⟩,
                ⟨some 73, none, .mv, [.tmp 74]⟩]) (
              .cond (.tmp 73) (
               .seq (
                .reg [6, 8] false [⟨some 75, none, .mv, [.tmp 8]⟩,
                  ⟨some 76, none, .bin .lss, [.tmp 75, .const (.int .i64 0)]⟩,
                  ⟨some 77, none, .call f_value_Is true, [.tmp 76]⟩,
                  ⟨none, none, .store 3, [.tmp 6, .tmp 77]⟩]) (
                .ret)) (
               .seq (
                .reg [6, 8, 62] false [⟨some 79, none, .bin .eql, [.tmp 62, .const (.int .i64 4)]⟩,
                  ⟨some 78, none, .mv, [.tmp 79]⟩]) (
                .cond (.tmp 78) (
                 .seq (
                  .reg [6, 8] false [⟨some 80, none, .mv, [.tmp 8]⟩,
                    ⟨some 81, none, .bin .leq, [.tmp 80, .const (.int .i64 0)]⟩,
                    ⟨some 82, none, .call f_value_Is true, [.tmp 81]⟩,
                    ⟨none, none, .store 3, [.tmp 6, .tmp 82]⟩]) (
                  .ret)) (
                 .seq (
                  .reg [6, 8, 62] false [⟨some 84, none, .bin .eql, [.tmp 62, .const (.int .i64 5)]⟩,
                    ⟨some 83, none, .mv, [.tmp 84]⟩]) (
                  .cond (.tmp 83) (
                   .seq (
                    .reg [6, 8] false [⟨some 85, none, .mv, [.tmp 8]⟩,
                      ⟨some 86, none, .bin .gtr, [.tmp 85, .const (.int .i64 0)]⟩,
                      ⟨some 87, none, .call f_value_Is true, [.tmp 86]⟩,
                      ⟨none, none, .store 3, [.tmp 6, .tmp 87]⟩]) (
                    .ret)) (
                   .skip))))))))))))) (
       .seq (
        .reg [6, 8] false [⟨some 88, none, .mv, [.tmp 8]⟩,
          ⟨some 89, none, .bin .geq, [.tmp 88, .const (.int .i64 0)]⟩,
          ⟨some 90, none, .call f_value_Is true, [.tmp 89]⟩,
          ⟨none, none, .store 3, [.tmp 6, .tmp 90]⟩]) (
        .ret))))))
def a_value_Two : AF := { results := [.cell 6 3 true], body := b_value_Two }

/- sccsettle/sccref3.Ahead, 3 params, 0 free: [] -/
/- a loop's body; at its head: [7, 2, 1, 0] -/
def b_sccref3_Ahead_0 : AC :=
  .seq (
   .seq (
    .reg [2, 1, 0, 7] false [⟨some 9, none, .mv, [.tmp 7]⟩,
      ⟨some 10, none, .mv, [.tmp 2]⟩,
      ⟨some 11, none, .len false, [.tmp 10]⟩,
      ⟨some 12, none, .bin .lss, [.tmp 9, .tmp 11]⟩]) (
    .cond (.tmp 12) (
     .skip) (
     .exit 0))) (
   .seq (
    .block 1 [2, 1, 0, 7] (
     .seq (
      .reg [2, 1, 0, 7] true [⟨some 15, none, .mv, [.tmp 0]⟩,
        ⟨some 16, none, .mv, [.tmp 2]⟩,
        ⟨some 17, none, .mv, [.tmp 7]⟩,
        ⟨some 18, none, .idxAddr 2, [.tmp 16, .tmp 17]⟩,
        ⟨some 19, none, .fieldAddr 0, [.tmp 18]⟩,
        ⟨some 20, none, .load 1 false, [.tmp 19]⟩,
        ⟨some 21, none, .idxAddr 3, [.tmp 15, .tmp 20]⟩,
        ⟨some 22, none, .load 3 true, [.tmp 21]⟩,
        ⟨some 23, none, .mv, [.tmp 1]⟩,
        ⟨some 24, none, .mv, [.tmp 2]⟩,
        ⟨some 25, none, .mv, [.tmp 7]⟩,
        ⟨some 26, none, .idxAddr 2, [.tmp 24, .tmp 25]⟩,
        ⟨some 27, none, .fieldAddr 0, [.tmp 26]⟩,
        ⟨some 28, none, .load 1 false, [.tmp 27]⟩,
        ⟨some 29, none, .idxAddr 3, [.tmp 23, .tmp 28]⟩,
        ⟨some 30, none, .load 3 true, [.tmp 29]⟩,
        ⟨some 31, none, .call f_sccref1_Compare true, [.tmp 22, .tmp 30]⟩,
        ⟨some 8, none, .mv, [.tmp 31]⟩]) (
      .seq (
       .seq (
        .reg [2, 1, 0, 7, 8] false [⟨some 32, none, .mv, [.tmp 2]⟩,
          ⟨some 33, none, .mv, [.tmp 7]⟩,
          ⟨some 34, none, .idxAddr 2, [.tmp 32, .tmp 33]⟩,
          ⟨some 35, none, .fieldAddr 1, [.tmp 34]⟩,
          ⟨some 36, none, .load 1 false, [.tmp 35]⟩]) (
        .cond (.tmp 36) (
         .reg [2, 1, 0, 7, 8] false [⟨some 37, none, .mv, [.tmp 8]⟩,
           ⟨some 38, none, .un .neg, [.tmp 37]⟩,
           ⟨some 8, none, .mv, [.tmp 38]⟩]) (
         .skip))) (
       .seq (
        .reg [8, 2, 1, 0, 7] false [⟨some 39, none, .mv, [.tmp 8]⟩,
          ⟨some 40, none, .bin .neq, [.tmp 39, .const (.int .i64 0)]⟩]) (
        .cond (.tmp 40) (
         .seq (
          .reg [8] false [⟨some 41, none, .mv, [.tmp 8]⟩,
            ⟨some 42, none, .bin .lss, [.tmp 41, .const (.int .i64 0)]⟩,
            ⟨some 6, none, .mv, [.tmp 42]⟩]) (
          .ret)) (
         .skip)))))) (
    .reg [2, 1, 0, 7] false [⟨some 13, none, .mv, [.tmp 7]⟩,
      ⟨some 14, none, .bin .add, [.tmp 13, .const (.int .i64 1)]⟩,
      ⟨some 7, none, .mv, [.tmp 14]⟩]))

def b_sccref3_Ahead : AC :=
  .seq (
   .reg [2, 1, 0] false [⟨some 6, none, .mv, [.const (.bool false)]⟩]) (
   .seq (
    .seq (
     .reg [2, 1, 0] false [⟨some 7, none, .mv, [.const (.int .i64 0)]⟩]) (
     .block 0 [] (
      .loop [7, 2, 1, 0] b_sccref3_Ahead_0))) (
    .seq (
     .reg [] false [⟨some 6, none, .mv, [.const (.bool false)]⟩]) (
     .ret)))
def a_sccref3_Ahead : AF := { results := [.tmp 6], body := b_sccref3_Ahead }

/- sccsettle/sort.Check, 1 params, 0 free: [] -/
/- a loop's body; at its head: [18, 16, 0, 17] -/
def b_sort_Check_0 : AC :=
  .seq (
   .reg [16, 0, 17, 18] false [⟨some 19, none, .bin .lss, [.tmp 18, .tmp 17]⟩]) (
   .seq (
    .cond (.tmp 19) (
     .skip) (
     .exit 0)) (
    .seq (
     .block 1 [16, 0, 17, 18] (
      .seq (
       .reg [16, 0, 17, 18] false [⟨some 20, none, .idxAddr 1, [.tmp 16, .tmp 18]⟩,
         ⟨some 21, none, .load 1 false, [.tmp 20]⟩,
         ⟨some 4, none, .mv, [.tmp 21]⟩]) (
       .seq (
        .reg [16, 0, 17, 18, 4] false [⟨some 22, none, .mv, [.tmp 4]⟩,
          ⟨some 23, none, .len false, [.tmp 22]⟩,
          ⟨some 24, none, .bin .gtr, [.tmp 23, .const (.int .i64 12)]⟩]) (
        .cond (.tmp 24) (
         .seq (
          .reg [] false [⟨some 25, none, .mkIface t_api_Errno, [.const (.int .i64 4)]⟩,
            ⟨some 2, none, .mv, [.tmp 25]⟩]) (
          .ret)) (
         .skip))))) (
     .reg [16, 0, 17, 18] false [⟨some 26, none, .bin .add, [.tmp 18, .const (.int .i64 1)]⟩,
       ⟨some 18, none, .mv, [.tmp 26]⟩])))

/- a loop's body; at its head: [29, 0, 27, 28] -/
def b_sort_Check_1 : AC :=
  .seq (
   .reg [0, 27, 28, 29] false [⟨some 30, none, .bin .lss, [.tmp 29, .tmp 28]⟩]) (
   .seq (
    .cond (.tmp 30) (
     .skip) (
     .exit 2)) (
    .seq (
     .block 3 [0, 27, 28, 29] (
      .seq (
       .reg [0, 27, 28, 29] false [⟨some 31, none, .idxAddr 1, [.tmp 27, .tmp 29]⟩,
         ⟨some 32, none, .load 1 false, [.tmp 31]⟩,
         ⟨some 6, none, .mv, [.tmp 32]⟩]) (
       .seq (
        .reg [0, 27, 28, 29, 6] false [⟨some 33, none, .mv, [.tmp 6]⟩,
          ⟨some 34, none, .len false, [.tmp 33]⟩,
          ⟨some 35, none, .mv, [.tmp 0]⟩,
          ⟨some 36, none, .idxAddr 1, [.tmp 35, .const (.int .i64 0)]⟩,
          ⟨some 37, none, .load 1 false, [.tmp 36]⟩,
          ⟨some 38, none, .len false, [.tmp 37]⟩,
          ⟨some 39, none, .bin .neq, [.tmp 34, .tmp 38]⟩]) (
        .cond (.tmp 39) (
         .seq (
          .reg [] false [⟨some 40, none, .mkIface t_api_Errno, [.const (.int .i64 3)]⟩,
            ⟨some 2, none, .mv, [.tmp 40]⟩]) (
          .ret)) (
         .skip))))) (
     .reg [0, 27, 28, 29] false [⟨some 41, none, .bin .add, [.tmp 29, .const (.int .i64 1)]⟩,
       ⟨some 29, none, .mv, [.tmp 41]⟩])))

/- a loop's body; at its head: [50, 48, 42, 43, 44, 49] -/
def b_sort_Check_2 : AC :=
  .seq (
   .reg [48, 42, 43, 44, 49, 50] false [⟨some 51, none, .bin .lss, [.tmp 50, .tmp 49]⟩]) (
   .seq (
    .cond (.tmp 51) (
     .skip) (
     .exit 6)) (
    .seq (
     .block 7 [48, 42, 43, 44, 49, 50] (
      .seq (
       .reg [48, 42, 43, 44, 49, 50] false [⟨some 52, none, .idxAddr 3, [.tmp 48, .tmp 50]⟩,
         ⟨some 53, none, .load 3 true, [.tmp 52]⟩,
         ⟨some 10, none, .alloc [.int .i64 0, .int .i64 0, .str []], []⟩,
         ⟨none, none, .store 3, [.tmp 10, .tmp 53]⟩]) (
       .seq (
        .reg [48, 42, 43, 44, 49, 50, 10] false [⟨some 54, none, .load 3 true, [.tmp 10]⟩,
          ⟨some 55, none, .call f_value_Check true, [.tmp 54]⟩,
          ⟨some 11, none, .mv, [.tmp 55]⟩]) (
        .seq (
         .reg [11, 48, 42, 43, 44, 49, 50] false [⟨some 56, none, .mv, [.tmp 11]⟩,
           ⟨some 57, none, .eqn .iface true true, [.tmp 56, .const (.nili)]⟩]) (
         .cond (.tmp 57) (
          .seq (
           .reg [11] false [⟨some 58, none, .mv, [.tmp 11]⟩,
             ⟨some 2, none, .mv, [.tmp 58]⟩]) (
           .ret)) (
          .skip)))))) (
     .reg [48, 42, 43, 44, 49, 50] false [⟨some 59, none, .bin .add, [.tmp 50, .const (.int .i64 1)]⟩,
       ⟨some 50, none, .mv, [.tmp 59]⟩])))

/- a loop's body; at its head: [44, 42, 43] -/
def b_sort_Check_3 : AC :=
  .seq (
   .reg [42, 43, 44] false [⟨some 45, none, .bin .lss, [.tmp 44, .tmp 43]⟩]) (
   .seq (
    .cond (.tmp 45) (
     .skip) (
     .exit 4)) (
    .seq (
     .block 5 [42, 43, 44] (
      .seq (
       .reg [42, 43, 44] false [⟨some 46, none, .idxAddr 1, [.tmp 42, .tmp 44]⟩,
         ⟨some 47, none, .load 1 false, [.tmp 46]⟩,
         ⟨some 8, none, .mv, [.tmp 47]⟩]) (
       .seq (
        .reg [42, 43, 44, 8] false [⟨some 48, none, .mv, [.tmp 8]⟩,
          ⟨some 49, none, .len false, [.tmp 48]⟩,
          ⟨some 50, none, .mv, [.const (.int .i64 0)]⟩]) (
        .block 6 [42, 43, 44] (
         .loop [50, 48, 42, 43, 44, 49] b_sort_Check_2))))) (
     .reg [42, 43, 44] false [⟨some 60, none, .bin .add, [.tmp 44, .const (.int .i64 1)]⟩,
       ⟨some 44, none, .mv, [.tmp 60]⟩])))

def b_sort_Check : AC :=
  .seq (
   .reg [0] false [⟨some 2, none, .mv, [.const (.nili)]⟩]) (
   .seq (
    .seq (
     .reg [0] false [⟨some 12, none, .mv, [.tmp 0]⟩,
       ⟨some 13, none, .len false, [.tmp 12]⟩,
       ⟨some 14, none, .bin .gtr, [.tmp 13, .const (.int .i64 60)]⟩]) (
     .cond (.tmp 14) (
      .seq (
       .reg [] false [⟨some 15, none, .mkIface t_api_Errno, [.const (.int .i64 4)]⟩,
         ⟨some 2, none, .mv, [.tmp 15]⟩]) (
       .ret)) (
      .skip))) (
    .seq (
     .seq (
      .reg [0] false [⟨some 16, none, .mv, [.tmp 0]⟩,
        ⟨some 17, none, .len false, [.tmp 16]⟩,
        ⟨some 18, none, .mv, [.const (.int .i64 0)]⟩]) (
      .block 0 [0] (
       .loop [18, 16, 0, 17] b_sort_Check_0))) (
     .seq (
      .seq (
       .reg [0] false [⟨some 27, none, .mv, [.tmp 0]⟩,
         ⟨some 28, none, .len false, [.tmp 27]⟩,
         ⟨some 29, none, .mv, [.const (.int .i64 0)]⟩]) (
       .block 2 [0] (
        .loop [29, 0, 27, 28] b_sort_Check_1))) (
      .seq (
       .seq (
        .reg [0] false [⟨some 42, none, .mv, [.tmp 0]⟩,
          ⟨some 43, none, .len false, [.tmp 42]⟩,
          ⟨some 44, none, .mv, [.const (.int .i64 0)]⟩]) (
        .block 4 [] (
         .loop [44, 42, 43] b_sort_Check_3))) (
       .seq (
        .reg [] false [⟨some 2, none, .mv, [.const (.nili)]⟩]) (
        .ret))))))
def a_sort_Check : AF := { results := [.tmp 2], body := b_sort_Check }

/- sccsettle/sort.columns, 2 params, 0 free: [] -/
/- a loop's body; at its head: [10, 5, 8, 0, 9] -/
def b_sort_columns_0 : AC :=
  .seq (
   .reg [8, 0, 9, 10, 5] false [⟨some 11, none, .bin .lss, [.tmp 10, .tmp 9]⟩]) (
   .seq (
    .cond (.tmp 11) (
     .skip) (
     .exit 0)) (
    .seq (
     .block 1 [5, 8, 0, 9, 10] (
      .seq (
       .reg [8, 0, 9, 10, 5] false [⟨some 12, none, .idxAddr 2, [.tmp 8, .tmp 10]⟩,
         ⟨some 13, none, .load 2 true, [.tmp 12]⟩,
         ⟨some 7, none, .alloc [.int .i64 0, .bool false], []⟩,
         ⟨none, none, .store 2, [.tmp 7, .tmp 13]⟩]) (
       .reg [8, 0, 9, 10, 7, 5] false [⟨some 14, none, .mv, [.tmp 5]⟩,
         ⟨some 15, none, .fieldAddr 0, [.tmp 7]⟩,
         ⟨some 16, none, .load 1 false, [.tmp 15]⟩,
         ⟨some 17, none, .bslice 1, [.tmp 16]⟩,
         ⟨some 18, none, .append 1 8, [.tmp 14, .tmp 17]⟩,
         ⟨some 5, none, .mv, [.tmp 18]⟩]))) (
     .reg [5, 8, 0, 9, 10] false [⟨some 19, none, .bin .add, [.tmp 10, .const (.int .i64 1)]⟩,
       ⟨some 10, none, .mv, [.tmp 19]⟩])))

def b_sort_columns : AC :=
  .seq (
   .reg [0, 1] false [⟨some 4, none, .mv, [.const (.nili)]⟩]) (
   .seq (
    .reg [0, 1] false [⟨some 5, none, .mv, [.const (.lst (some true) 0 [])]⟩]) (
    .seq (
     .seq (
      .reg [5, 0, 1] false [⟨some 8, none, .mv, [.tmp 1]⟩,
        ⟨some 9, none, .len false, [.tmp 8]⟩,
        ⟨some 10, none, .mv, [.const (.int .i64 0)]⟩]) (
      .block 0 [5, 0] (
       .loop [10, 5, 8, 0, 9] b_sort_columns_0))) (
     .seq (
      .reg [5, 0] false [⟨some 20, none, .mv, [.tmp 0]⟩,
        ⟨some 21, none, .mv, [.tmp 5]⟩,
        ⟨some 22, none, .call f_sort_Columns true, [.tmp 20, .tmp 21]⟩,
        ⟨some 4, none, .mv, [.tmp 22]⟩]) (
      .ret))))
def a_sort_columns : AF := { results := [.tmp 4], body := b_sort_columns }

/- slices.SortStableFunc[[]int,int], 2 params, 0 free: [] -/
def b_slices_SortStableFunc___int_int_ : AC :=
  .reg [1, 0] false [⟨some 4, none, .mv, [.tmp 0]⟩,
    ⟨some 5, none, .mv, [.tmp 0]⟩,
    ⟨some 6, none, .len false, [.tmp 5]⟩,
    ⟨some 7, none, .mv, [.tmp 1]⟩,
    ⟨some 8, none, .call f_slices_stableCmpFunc_int_ false, [.tmp 4, .tmp 6, .tmp 7]⟩]
def a_slices_SortStableFunc___int_int_ : AF := { results := [], body := b_slices_SortStableFunc___int_int_ }

/- sccsettle/sort.Sort$1, 2 params, 2 free: [] -/
def b_sort_Sort_c1 : AC :=
  .seq (
   .reg [3, 1, 2, 0] false [⟨some 6, none, .mv, [.const (.int .i64 0)]⟩]) (
   .seq (
    .reg [3, 1, 2, 0] true [⟨some 7, none, .load 1 false, [.tmp 2]⟩,
      ⟨some 8, none, .mv, [.tmp 0]⟩,
      ⟨some 9, none, .idxAddr 1, [.tmp 7, .tmp 8]⟩,
      ⟨some 10, none, .load 1 false, [.tmp 9]⟩,
      ⟨some 11, none, .load 1 false, [.tmp 2]⟩,
      ⟨some 12, none, .mv, [.tmp 1]⟩,
      ⟨some 13, none, .idxAddr 1, [.tmp 11, .tmp 12]⟩,
      ⟨some 14, none, .load 1 false, [.tmp 13]⟩,
      ⟨some 15, none, .load 1 false, [.tmp 3]⟩,
      ⟨some 16, none, .call f_sort_Compare true, [.tmp 10, .tmp 14, .tmp 15]⟩,
      ⟨some 6, none, .mv, [.tmp 16]⟩]) (
    .ret))
def a_sort_Sort_c1 : AF := { results := [.tmp 6], body := b_sort_Sort_c1 }

/- sccsettle/value.Compare, 2 params, 0 free: [] -/
def b_value_Compare : AC :=
  .seq (
   .reg [1, 0] false [⟨some 2, none, .box, [.tmp 0]⟩,
     ⟨some 3, none, .box, [.tmp 1]⟩,
     ⟨some 4, none, .mv, [.const (.int .i64 0)]⟩]) (
   .seq (
    .reg [3, 2] true [⟨some 5, none, .fieldAddr 0, [.tmp 2]⟩,
      ⟨some 6, none, .load 1 false, [.tmp 5]⟩,
      ⟨some 7, none, .fieldAddr 0, [.tmp 3]⟩,
      ⟨some 8, none, .load 1 false, [.tmp 7]⟩,
      ⟨some 9, none, .call f_cmp_Compare_int_ true, [.tmp 6, .tmp 8]⟩,
      ⟨some 10, none, .fieldAddr 1, [.tmp 2]⟩,
      ⟨some 11, none, .load 1 false, [.tmp 10]⟩,
      ⟨some 12, none, .fieldAddr 1, [.tmp 3]⟩,
      ⟨some 13, none, .load 1 false, [.tmp 12]⟩,
      ⟨some 14, none, .call f_cmp_Compare_int_ true, [.tmp 11, .tmp 13]⟩,
      ⟨some 15, none, .fieldAddr 2, [.tmp 2]⟩,
      ⟨some 16, none, .load 1 false, [.tmp 15]⟩,
      ⟨some 17, none, .fieldAddr 2, [.tmp 3]⟩,
      ⟨some 18, none, .load 1 false, [.tmp 17]⟩,
      ⟨some 19, none, .call f_cmp_Compare_string_ true, [.tmp 16, .tmp 18]⟩,
      ⟨some 20, none, .bslice 1, [.tmp 9, .tmp 14, .tmp 19]⟩,
      ⟨some 21, none, .call f_cmp_Or_int_ true, [.tmp 20]⟩,
      ⟨some 4, none, .mv, [.tmp 21]⟩]) (
    .ret))
def a_value_Compare : AF := { results := [.tmp 4], body := b_value_Compare }

/- sccsettle/eval.Sum, 1 params, 0 free: [] -/
/- a loop's body; at its head: [9, 3, 7, 2, 8] -/
def b_eval_Sum_0 : AC :=
  .seq (
   .reg [3, 7, 2, 8, 9] false [⟨some 10, none, .bin .lss, [.tmp 9, .tmp 8]⟩]) (
   .seq (
    .cond (.tmp 10) (
     .skip) (
     .exit 0)) (
    .seq (
     .block 1 [3, 7, 2, 8, 9] (
      .seq (
       .reg [3, 7, 2, 8, 9] false [⟨some 11, none, .idxAddr 1, [.tmp 7, .tmp 9]⟩,
         ⟨some 12, none, .load 1 false, [.tmp 11]⟩,
         ⟨some 5, none, .mv, [.tmp 12]⟩]) (
       .reg [3, 7, 2, 8, 9, 5] true [⟨some 13, none, .load 3 true, [.tmp 3]⟩,
         ⟨some 14, none, .mv, [.tmp 5]⟩,
         ⟨some 15, none, .call f_value_Num true, [.tmp 14]⟩,
         ⟨some 16, none, .call f_value_Two true, [.const (.int .i64 8), .tmp 13, .tmp 15]⟩,
         ⟨none, none, .store 3, [.tmp 3, .tmp 16]⟩]))) (
     .reg [3, 7, 2, 8, 9] false [⟨some 17, none, .bin .add, [.tmp 9, .const (.int .i64 1)]⟩,
       ⟨some 9, none, .mv, [.tmp 17]⟩])))

def b_eval_Sum : AC :=
  .seq (
   .reg [0] false [⟨some 2, none, .alloc [.int .i64 0, .int .i64 0, .str []], []⟩]) (
   .seq (
    .reg [2, 0] false [⟨some 6, none, .call f_value_Num true, [.const (.int .i64 0)]⟩,
      ⟨some 3, none, .alloc [.int .i64 0, .int .i64 0, .str []], []⟩,
      ⟨none, none, .store 3, [.tmp 3, .tmp 6]⟩]) (
    .seq (
     .seq (
      .reg [3, 2, 0] false [⟨some 7, none, .mv, [.tmp 0]⟩,
        ⟨some 8, none, .len false, [.tmp 7]⟩,
        ⟨some 9, none, .mv, [.const (.int .i64 0)]⟩]) (
      .block 0 [2, 3] (
       .loop [9, 3, 7, 2, 8] b_eval_Sum_0))) (
     .seq (
      .reg [2, 3] false [⟨some 18, none, .load 3 true, [.tmp 3]⟩,
        ⟨none, none, .store 3, [.tmp 2, .tmp 18]⟩]) (
      .ret))))
def a_eval_Sum : AF := { results := [.cell 2 3 true], body := b_eval_Sum }

/- sccsettle/sccref1.Num, 1 params, 0 free: [] -/
def b_sccref1_Num : AC :=
  .seq (
   .reg [0] false [⟨some 2, none, .alloc [.int .i64 0, .int .i64 0, .str []], []⟩]) (
   .seq (
    .reg [2, 0] false [⟨some 3, none, .mv, [.tmp 0]⟩,
      ⟨some 4, none, .build [.int .i64 0, .int .i64 0, .str []] [(0, 1), (1, 1)], [.const (.int .i64 1), .tmp 3]⟩,
      ⟨none, none, .store 3, [.tmp 2, .tmp 4]⟩]) (
    .ret))
def a_sccref1_Num : AF := { results := [.cell 2 3 true], body := b_sccref1_Num }

/- sccsettle/sccsettlebig.words, 1 params, 0 free: [] -/
def b_sccsettlebig_words : AC :=
  .seq (
   .reg [0] false [⟨some 2, none, .mv, [.const (.lst (some true) 0 [])]⟩]) (
   .seq (
    .reg [0] false [⟨some 3, none, .mv, [.tmp 0]⟩,
      ⟨some 4, none, .convInt .u32, [.tmp 3]⟩,
      ⟨some 5, none, .mv, [.tmp 0]⟩,
      ⟨some 6, none, .bin .shr, [.tmp 5, .const (.int .u64 32)]⟩,
      ⟨some 7, none, .convInt .u32, [.tmp 6]⟩,
      ⟨some 8, none, .bslice 1, [.tmp 4, .tmp 7]⟩,
      ⟨some 9, none, .call f_sccsettlebig_trim true, [.tmp 8]⟩,
      ⟨some 2, none, .mv, [.tmp 9]⟩]) (
    .ret))
def a_sccsettlebig_words : AF := { results := [.tmp 2], body := b_sccsettlebig_words }

/- sccsettle/sccsettlebig.small, 2 params, 0 free: [] -/
/- a loop's body; at its head: [8, 1, 6, 0, 7] -/
def b_sccsettlebig_small_0 : AC :=
  .seq (
   .seq (
    .reg [1, 6, 0, 8, 7] false [⟨some 15, none, .mv, [.tmp 8]⟩,
      ⟨some 16, none, .bin .geq, [.tmp 15, .const (.int .i64 0)]⟩]) (
    .cond (.tmp 16) (
     .skip) (
     .exit 0))) (
   .seq (
    .block 1 [1, 6, 0, 7, 8] (
     .seq (
      .reg [1, 6, 0, 8, 7] false [⟨some 19, none, .mv, [.tmp 7]⟩,
        ⟨some 20, none, .bin .shl, [.tmp 19, .const (.int .u64 32)]⟩,
        ⟨some 21, none, .mv, [.tmp 0]⟩,
        ⟨some 22, none, .mv, [.tmp 8]⟩,
        ⟨some 23, none, .idxAddr 1, [.tmp 21, .tmp 22]⟩,
        ⟨some 24, none, .load 1 false, [.tmp 23]⟩,
        ⟨some 25, none, .convInt .u64, [.tmp 24]⟩,
        ⟨some 26, none, .bin .or, [.tmp 20, .tmp 25]⟩,
        ⟨some 7, none, .mv, [.tmp 26]⟩]) (
      .seq (
       .reg [1, 6, 0, 8, 7] false [⟨some 27, none, .mv, [.tmp 6]⟩,
         ⟨some 28, none, .mv, [.tmp 8]⟩,
         ⟨some 29, none, .mv, [.tmp 7]⟩,
         ⟨some 30, none, .mv, [.tmp 1]⟩,
         ⟨some 31, none, .convInt .u64, [.tmp 30]⟩,
         ⟨some 32, none, .bin .quo, [.tmp 29, .tmp 31]⟩,
         ⟨some 33, none, .convInt .u32, [.tmp 32]⟩,
         ⟨some 34, none, .idxAddr 1, [.tmp 27, .tmp 28]⟩,
         ⟨none, none, .store 1, [.tmp 34, .tmp 33]⟩]) (
       .reg [1, 6, 0, 8, 7] false [⟨some 35, none, .mv, [.tmp 7]⟩,
         ⟨some 36, none, .mv, [.tmp 1]⟩,
         ⟨some 37, none, .convInt .u64, [.tmp 36]⟩,
         ⟨some 38, none, .bin .rem, [.tmp 35, .tmp 37]⟩,
         ⟨some 7, none, .mv, [.tmp 38]⟩])))) (
    .reg [1, 6, 0, 7, 8] false [⟨some 17, none, .mv, [.tmp 8]⟩,
      ⟨some 18, none, .bin .sub, [.tmp 17, .const (.int .i64 1)]⟩,
      ⟨some 8, none, .mv, [.tmp 18]⟩]))

def b_sccsettlebig_small : AC :=
  .seq (
   .reg [1, 0] false [⟨some 4, none, .mv, [.const (.lst (some true) 0 [])]⟩,
     ⟨some 5, none, .mv, [.const (.int .u32 0)]⟩]) (
   .seq (
    .reg [1, 0] false [⟨some 9, none, .mv, [.tmp 0]⟩,
      ⟨some 10, none, .len false, [.tmp 9]⟩,
      ⟨some 11, none, .make 1 4 (.int .u32 0), [.tmp 10, .tmp 10]⟩,
      ⟨some 6, none, .mv, [.tmp 11]⟩]) (
    .seq (
     .reg [1, 6, 0] false [⟨some 7, none, .mv, [.const (.int .u64 0)]⟩]) (
     .seq (
      .seq (
       .reg [1, 6, 0, 7] false [⟨some 12, none, .mv, [.tmp 0]⟩,
         ⟨some 13, none, .len false, [.tmp 12]⟩,
         ⟨some 14, none, .bin .sub, [.tmp 13, .const (.int .i64 1)]⟩,
         ⟨some 8, none, .mv, [.tmp 14]⟩]) (
       .block 0 [7, 6] (
        .loop [8, 1, 6, 0, 7] b_sccsettlebig_small_0))) (
      .seq (
       .reg [7, 6] false [⟨some 39, none, .mv, [.tmp 6]⟩,
         ⟨some 40, none, .call f_sccsettlebig_trim true, [.tmp 39]⟩,
         ⟨some 41, none, .mv, [.tmp 7]⟩,
         ⟨some 42, none, .convInt .u32, [.tmp 41]⟩,
         ⟨some 4, none, .mv, [.tmp 40]⟩,
         ⟨some 5, none, .mv, [.tmp 42]⟩]) (
       .ret)))))
def a_sccsettlebig_small : AF := { results := [.tmp 4, .tmp 5], body := b_sccsettlebig_small }

/- (*sccsettle/sccsettlebig.Int).Add, 3 params, 0 free: [] -/
def b_sccsettlebig_Int__Add : AC :=
  .seq (
   .reg [2, 1, 0] false [⟨some 6, none, .mv, [.const (.nilp)]⟩]) (
   .seq (
    .reg [2, 1, 0] true [⟨some 7, none, .mv, [.tmp 0]⟩,
      ⟨some 8, none, .mv, [.tmp 1]⟩,
      ⟨some 9, none, .nilchk, [.tmp 8]⟩,
      ⟨some 10, none, .fieldAddr 0, [.tmp 9]⟩,
      ⟨some 11, none, .load 1 false, [.tmp 10]⟩,
      ⟨some 12, none, .mv, [.tmp 1]⟩,
      ⟨some 13, none, .nilchk, [.tmp 12]⟩,
      ⟨some 14, none, .fieldAddr 1, [.tmp 13]⟩,
      ⟨some 15, none, .load 1 false, [.tmp 14]⟩,
      ⟨some 16, none, .mv, [.tmp 2]⟩,
      ⟨some 17, none, .nilchk, [.tmp 16]⟩,
      ⟨some 18, none, .fieldAddr 0, [.tmp 17]⟩,
      ⟨some 19, none, .load 1 false, [.tmp 18]⟩,
      ⟨some 20, none, .mv, [.tmp 2]⟩,
      ⟨some 21, none, .nilchk, [.tmp 20]⟩,
      ⟨some 22, none, .fieldAddr 1, [.tmp 21]⟩,
      ⟨some 23, none, .load 1 false, [.tmp 22]⟩,
      ⟨some 24, none, .call f_sccsettlebig_sum true, [.tmp 11, .tmp 15, .tmp 19, .tmp 23]⟩,
      ⟨some 25, none, .extract 0, [.tmp 24]⟩,
      ⟨some 26, none, .extract 1, [.tmp 24]⟩,
      ⟨some 27, none, .call f_sccsettlebig_Int__give false, [.tmp 7, .tmp 25, .tmp 26]⟩,
      ⟨some 6, none, .mv, [.tmp 27]⟩]) (
    .ret))
def a_sccsettlebig_Int__Add : AF := { results := [.tmp 6], body := b_sccsettlebig_Int__Add }

/- sccsettle/sccref1.Fits, 1 params, 0 free: [] -/
def b_sccref1_Fits : AC :=
  .seq (
   .reg [0] false [⟨some 2, none, .mv, [.const (.bool false)]⟩]) (
   .seq (
    .reg [0] false [⟨some 3, none, .mv, [.tmp 0]⟩,
      ⟨some 4, none, .call f_sccsettlebig_Int__IsInt64 true, [.tmp 3]⟩,
      ⟨some 2, none, .mv, [.tmp 4]⟩]) (
    .ret))
def a_sccref1_Fits : AF := { results := [.tmp 2], body := b_sccref1_Fits }

/- (*sccsettle/sccsettlebig.Int).Int64, 1 params, 0 free: [] -/
def b_sccsettlebig_Int__Int64 : AC :=
  .seq (
   .reg [0] false [⟨some 2, none, .mv, [.const (.int .i64 0)]⟩]) (
   .seq (
    .reg [0] false [⟨some 4, none, .mv, [.tmp 0]⟩,
      ⟨some 5, none, .call f_sccsettlebig_Int__Uint64 true, [.tmp 4]⟩,
      ⟨some 6, none, .convInt .i64, [.tmp 5]⟩,
      ⟨some 3, none, .mv, [.tmp 6]⟩]) (
    .seq (
     .seq (
      .reg [3, 0] false [⟨some 7, none, .mv, [.tmp 0]⟩,
        ⟨some 8, none, .nilchk, [.tmp 7]⟩,
        ⟨some 9, none, .fieldAddr 0, [.tmp 8]⟩,
        ⟨some 10, none, .load 1 false, [.tmp 9]⟩]) (
      .cond (.tmp 10) (
       .reg [3] false [⟨some 11, none, .mv, [.tmp 3]⟩,
         ⟨some 12, none, .un .neg, [.tmp 11]⟩,
         ⟨some 3, none, .mv, [.tmp 12]⟩]) (
       .skip))) (
     .seq (
      .reg [3] false [⟨some 13, none, .mv, [.tmp 3]⟩,
        ⟨some 2, none, .mv, [.tmp 13]⟩]) (
      .ret))))
def a_sccsettlebig_Int__Int64 : AF := { results := [.tmp 2], body := b_sccsettlebig_Int__Int64 }

/- sccsettle/sccref1.less, 2 params, 0 free: [] -/
def b_sccref1_less : AC :=
  .seq (
   .reg [1, 0] false [⟨some 2, none, .box, [.tmp 0]⟩,
     ⟨some 3, none, .box, [.tmp 1]⟩,
     ⟨some 4, none, .mv, [.const (.bool false)]⟩]) (
   .seq (
    .seq (
     .reg [3, 2] false [⟨some 5, none, .fieldAddr 0, [.tmp 2]⟩,
       ⟨some 6, none, .load 1 false, [.tmp 5]⟩,
       ⟨some 7, none, .fieldAddr 0, [.tmp 3]⟩,
       ⟨some 8, none, .load 1 false, [.tmp 7]⟩,
       ⟨some 9, none, .bin .neq, [.tmp 6, .tmp 8]⟩]) (
     .cond (.tmp 9) (
      .seq (
       .reg [3, 2] false [⟨some 10, none, .fieldAddr 0, [.tmp 2]⟩,
         ⟨some 11, none, .load 1 false, [.tmp 10]⟩,
         ⟨some 12, none, .fieldAddr 0, [.tmp 3]⟩,
         ⟨some 13, none, .load 1 false, [.tmp 12]⟩,
         ⟨some 14, none, .bin .lss, [.tmp 11, .tmp 13]⟩,
         ⟨some 4, none, .mv, [.tmp 14]⟩]) (
       .ret)) (
      .skip))) (
    .seq (
     .seq (
      .reg [3, 2] false [⟨some 15, none, .fieldAddr 0, [.tmp 2]⟩,
        ⟨some 16, none, .load 1 false, [.tmp 15]⟩,
        ⟨some 17, none, .bin .eql, [.tmp 16, .const (.int .i64 2)]⟩]) (
      .cond (.tmp 17) (
       .seq (
        .reg [3, 2] false [⟨some 18, none, .fieldAddr 2, [.tmp 2]⟩,
          ⟨some 19, none, .load 1 false, [.tmp 18]⟩,
          ⟨some 20, none, .fieldAddr 2, [.tmp 3]⟩,
          ⟨some 21, none, .load 1 false, [.tmp 20]⟩,
          ⟨some 22, none, .bin .lss, [.tmp 19, .tmp 21]⟩,
          ⟨some 4, none, .mv, [.tmp 22]⟩]) (
        .ret)) (
       .skip))) (
     .seq (
      .reg [3, 2] false [⟨some 23, none, .fieldAddr 1, [.tmp 2]⟩,
        ⟨some 24, none, .load 1 false, [.tmp 23]⟩,
        ⟨some 25, none, .fieldAddr 1, [.tmp 3]⟩,
        ⟨some 26, none, .load 1 false, [.tmp 25]⟩,
        ⟨some 27, none, .bin .lss, [.tmp 24, .tmp 26]⟩,
        ⟨some 4, none, .mv, [.tmp 27]⟩]) (
      .ret))))
def a_sccref1_less : AF := { results := [.tmp 4], body := b_sccref1_less }

/- sccsettle/value.Check, 1 params, 0 free: [] -/
def b_value_Check : AC :=
  .seq (
   .reg [0] false [⟨some 1, none, .box, [.tmp 0]⟩,
     ⟨some 2, none, .mv, [.const (.nili)]⟩]) (
   .seq (
    .reg [1] false [⟨some 3, none, .mv, [.const (.bool false)]⟩]) (
    .seq (
     .seq (
      .reg [1, 3] false [⟨some 4, none, .fieldAddr 0, [.tmp 1]⟩,
        ⟨some 5, none, .load 1 false, [.tmp 4]⟩]) (
      .block 0 [3] (
       .seq (
        .reg [1, 3, 5] false [⟨some 7, none, .bin .eql, [.tmp 5, .const (.int .i64 0)]⟩,
          ⟨some 6, none, .mv, [.tmp 7]⟩]) (
        .cond (.tmp 6) (
         .reg [1] false [⟨some 8, none, .fieldAddr 1, [.tmp 1]⟩,
           ⟨some 9, none, .load 1 false, [.tmp 8]⟩,
           ⟨some 10, none, .bin .eql, [.tmp 9, .const (.int .i64 0)]⟩,
           ⟨some 11, none, .mv, [.tmp 10]⟩,
           ⟨some 12, some (11, true), .fieldAddr 2, [.tmp 1]⟩,
           ⟨some 13, some (11, true), .load 1 false, [.tmp 12]⟩,
           ⟨some 14, some (11, true), .bin .eql, [.tmp 13, .const (.str [])]⟩,
           ⟨some 15, none, .pick, [.tmp 11, .tmp 14, .const (.bool false)]⟩,
           ⟨some 3, none, .mv, [.tmp 15]⟩]) (
         .seq (
          .reg [1, 3, 5] false [⟨some 17, none, .bin .eql, [.tmp 5, .const (.int .i64 1)]⟩,
            ⟨some 16, none, .mv, [.tmp 17]⟩]) (
          .cond (.tmp 16) (
           .reg [1] false [⟨some 18, none, .fieldAddr 2, [.tmp 1]⟩,
             ⟨some 19, none, .load 1 false, [.tmp 18]⟩,
             ⟨some 20, none, .bin .eql, [.tmp 19, .const (.str [])]⟩,
             ⟨some 3, none, .mv, [.tmp 20]⟩]) (
           .seq (
            .reg [1, 3, 5] false [⟨some 22, none, .bin .eql, [.tmp 5, .const (.int .i64 2)]⟩,
              ⟨some 21, none, .mv, [.tmp 22]⟩]) (
            .cond (.tmp 21) (
             .reg [1] false [⟨some 23, none, .fieldAddr 1, [.tmp 1]⟩,
               ⟨some 24, none, .load 1 false, [.tmp 23]⟩,
               ⟨some 25, none, .bin .eql, [.tmp 24, .const (.int .i64 0)]⟩,
               ⟨some 26, none, .mv, [.tmp 25]⟩,
               ⟨some 27, some (26, true), .fieldAddr 2, [.tmp 1]⟩,
               ⟨some 28, some (26, true), .load 1 false, [.tmp 27]⟩,
               ⟨some 29, some (26, true), .len true, [.tmp 28]⟩,
               ⟨some 30, some (26, true), .bin .leq, [.tmp 29, .const (.int .i64 200)]⟩,
               ⟨some 31, none, .pick, [.tmp 26, .tmp 30, .const (.bool false)]⟩,
               ⟨some 3, none, .mv, [.tmp 31]⟩]) (
             .seq (
              .reg [1, 3, 5] false [⟨some 33, none, .bin .eql, [.tmp 5, .const (.int .i64 3)]⟩,
                ⟨some 32, none, .mv, [.tmp 33]⟩]) (
              .cond (.tmp 32) (
               .reg [1] false [⟨some 34, none, .fieldAddr 1, [.tmp 1]⟩,
                 ⟨some 35, none, .load 1 false, [.tmp 34]⟩,
                 ⟨some 36, none, .bin .eql, [.tmp 35, .const (.int .i64 0)]⟩,
                 ⟨some 37, none, .mv, [.tmp 36]⟩,
                 ⟨some 38, some (37, false), .fieldAddr 1, [.tmp 1]⟩,
                 ⟨some 39, some (37, false), .load 1 false, [.tmp 38]⟩,
                 ⟨some 40, some (37, false), .bin .eql, [.tmp 39, .const (.int .i64 1)]⟩,
                 ⟨some 41, none, .pick, [.tmp 37, .const (.bool true), .tmp 40]⟩,
                 ⟨some 42, none, .mv, [.tmp 41]⟩,
                 ⟨some 43, some (42, true), .fieldAddr 2, [.tmp 1]⟩,
                 ⟨some 44, some (42, true), .load 1 false, [.tmp 43]⟩,
                 ⟨some 45, some (42, true), .bin .eql, [.tmp 44, .const (.str [])]⟩,
                 ⟨some 46, none, .pick, [.tmp 42, .tmp 45, .const (.bool false)]⟩,
                 ⟨some 3, none, .mv, [.tmp 46]⟩]) (
               .seq (
                .reg [1, 3, 5] false [⟨some 48, none, .bin .eql, [.tmp 5, .const (.int .i64 4)]⟩,
                  ⟨some 47, none, .mv, [.tmp 48]⟩]) (
                .cond (.tmp 47) (
                 .reg [1] false [⟨some 49, none, .fieldAddr 1, [.tmp 1]⟩,
                   ⟨some 50, none, .load 1 false, [.tmp 49]⟩,
                   ⟨some 51, none, .bin .geq, [.tmp 50, .const (.int .i64 1)]⟩,
                   ⟨some 52, none, .mv, [.tmp 51]⟩,
                   ⟨some 53, some (52, true), .fieldAddr 1, [.tmp 1]⟩,
                   ⟨some 54, some (52, true), .load 1 false, [.tmp 53]⟩,
                   ⟨some 55, some (52, true), .bin .leq, [.tmp 54, .const (.int .i64 6)]⟩,
                   ⟨some 56, none, .pick, [.tmp 52, .tmp 55, .const (.bool false)]⟩,
                   ⟨some 57, none, .mv, [.tmp 56]⟩,
                   ⟨some 58, some (57, true), .fieldAddr 2, [.tmp 1]⟩,
                   ⟨some 59, some (57, true), .load 1 false, [.tmp 58]⟩,
                   ⟨some 60, some (57, true), .bin .eql, [.tmp 59, .const (.str [])]⟩,
                   ⟨some 61, none, .pick, [.tmp 57, .tmp 60, .const (.bool false)]⟩,
                   ⟨some 3, none, .mv, [.tmp 61]⟩]) (
                 .skip))))))))))))) (
     .seq (
      .seq (
       .reg [3] false [⟨some 62, none, .mv, [.tmp 3]⟩,
         ⟨some 63, none, .un .not, [.tmp 62]⟩]) (
       .cond (.tmp 63) (
        .seq (
         .reg [] false [⟨some 64, none, .mkIface t_api_Errno, [.const (.int .i64 1)]⟩,
           ⟨some 2, none, .mv, [.tmp 64]⟩]) (
         .ret)) (
        .skip))) (
      .seq (
       .reg [] false [⟨some 2, none, .mv, [.const (.nili)]⟩]) (
       .ret)))))
def a_value_Check : AF := { results := [.tmp 2], body := b_value_Check }

/- sccsettle/value.Wrong, 1 params, 0 free: [] -/
def b_value_Wrong : AC :=
  .seq (
   .reg [0] false [⟨some 2, none, .alloc [.int .i64 0, .int .i64 0, .str []], []⟩]) (
   .seq (
    .reg [2, 0] false [⟨some 3, none, .mv, [.tmp 0]⟩,
      ⟨some 4, none, .build [.int .i64 0, .int .i64 0, .str []] [(0, 1), (1, 1)], [.const (.int .i64 4), .tmp 3]⟩,
      ⟨none, none, .store 3, [.tmp 2, .tmp 4]⟩]) (
    .ret))
def a_value_Wrong : AF := { results := [.cell 2 3 true], body := b_value_Wrong }

/- sccsettle/value.Number, 1 params, 0 free: [] -/
def b_value_Number : AC :=
  .seq (
   .reg [0] false [⟨some 1, none, .box, [.tmp 0]⟩,
     ⟨some 2, none, .alloc [.int .i64 0, .int .i64 0, .str []], []⟩]) (
   .seq (
    .seq (
     .reg [2, 1] false [⟨some 5, none, .fieldAddr 0, [.tmp 1]⟩,
       ⟨some 6, none, .load 1 false, [.tmp 5]⟩]) (
     .block 0 [2, 1] (
      .seq (
       .seq (
        .reg [2, 1, 6] false [⟨some 8, none, .bin .eql, [.tmp 6, .const (.int .i64 1)]⟩,
          ⟨some 7, none, .mv, [.tmp 8]⟩]) (
        .cond (.tmp 7) (
         .skip) (
         .reg [2, 1, 6] false [⟨some 9, none, .bin .eql, [.tmp 6, .const (.int .i64 4)]⟩,
           ⟨some 7, none, .mv, [.tmp 9]⟩]))) (
       .cond (.tmp 7) (
        .seq (
         .reg [2, 1] false [⟨some 10, none, .load 3 true, [.tmp 1]⟩,
           ⟨none, none, .store 3, [.tmp 2, .tmp 10]⟩]) (
         .ret)) (
        .seq (
         .reg [2, 1, 6] false [⟨some 12, none, .bin .eql, [.tmp 6, .const (.int .i64 2)]⟩,
           ⟨some 11, none, .mv, [.tmp 12]⟩]) (
         .cond (.tmp 11) (
          .seq (
           .seq (
            .reg [2, 1] false [⟨some 14, none, .fieldAddr 2, [.tmp 1]⟩,
              ⟨some 15, none, .load 1 false, [.tmp 14]⟩,
              ⟨some 16, none, .call f_value_Whole true, [.tmp 15]⟩,
              ⟨some 13, none, .mv, [.tmp 16]⟩,
              ⟨some 17, none, .extract 0, [.tmp 13]⟩,
              ⟨some 18, none, .extract 1, [.tmp 13]⟩,
              ⟨some 3, none, .mv, [.tmp 17]⟩,
              ⟨some 4, none, .mv, [.tmp 18]⟩]) (
            .seq (
             .reg [2, 3, 4] false [⟨some 19, none, .mv, [.tmp 4]⟩]) (
             .cond (.tmp 19) (
              .seq (
               .reg [2, 3] false [⟨some 20, none, .mv, [.tmp 3]⟩,
                 ⟨some 21, none, .call f_value_Num true, [.tmp 20]⟩,
                 ⟨none, none, .store 3, [.tmp 2, .tmp 21]⟩]) (
               .ret)) (
              .skip)))) (
           .seq (
            .reg [2] false [⟨some 22, none, .call f_value_Wrong true, [.const (.int .i64 2)]⟩,
              ⟨none, none, .store 3, [.tmp 2, .tmp 22]⟩]) (
            .ret))) (
          .skip))))))) (
    .seq (
     .reg [2, 1] false [⟨some 23, none, .fieldAddr 1, [.tmp 1]⟩,
       ⟨some 24, none, .load 1 false, [.tmp 23]⟩,
       ⟨some 25, none, .call f_value_Num true, [.tmp 24]⟩,
       ⟨none, none, .store 3, [.tmp 2, .tmp 25]⟩]) (
     .ret)))
def a_value_Number : AF := { results := [.cell 2 3 true], body := b_value_Number }

/- sccsettle/value.IsBad, 1 params, 0 free: [] -/
def b_value_IsBad : AC :=
  .seq (
   .reg [0] false [⟨some 1, none, .box, [.tmp 0]⟩,
     ⟨some 2, none, .mv, [.const (.bool false)]⟩]) (
   .seq (
    .reg [1] false [⟨some 3, none, .fieldAddr 0, [.tmp 1]⟩,
      ⟨some 4, none, .load 1 false, [.tmp 3]⟩,
      ⟨some 5, none, .bin .eql, [.tmp 4, .const (.int .i64 4)]⟩,
      ⟨some 2, none, .mv, [.tmp 5]⟩]) (
    .ret))
def a_value_IsBad : AF := { results := [.tmp 2], body := b_value_IsBad }

/- sccsettle/value.reckon, 3 params, 0 free: [] -/
def b_value_reckon : AC :=
  .seq (
   .reg [2, 1, 0] false [⟨some 6, none, .alloc [.int .i64 0, .int .i64 0, .str []], []⟩]) (
   .seq (
    .seq (
     .reg [6, 2, 1, 0] false [⟨some 13, none, .mv, [.tmp 0]⟩]) (
     .block 0 [6] (
      .seq (
       .reg [6, 2, 1, 13] false [⟨some 15, none, .bin .eql, [.tmp 13, .const (.int .i64 8)]⟩,
         ⟨some 14, none, .mv, [.tmp 15]⟩]) (
       .cond (.tmp 14) (
        .seq (
         .reg [6, 2, 1] false [⟨some 16, none, .mv, [.tmp 1]⟩,
           ⟨some 17, none, .mv, [.tmp 2]⟩,
           ⟨some 18, none, .bin .add, [.tmp 16, .tmp 17]⟩,
           ⟨some 7, none, .mv, [.tmp 18]⟩]) (
         .seq (
          .reg [6, 7, 2, 1] false [⟨some 19, none, .mv, [.tmp 7]⟩,
            ⟨some 20, none, .mv, [.tmp 1]⟩,
            ⟨some 21, none, .bin .geq, [.tmp 19, .tmp 20]⟩,
            ⟨some 22, none, .mv, [.tmp 2]⟩,
            ⟨some 23, none, .bin .geq, [.tmp 22, .const (.int .i64 0)]⟩,
            ⟨some 24, none, .eqb false, [.tmp 21, .tmp 23]⟩]) (
          .cond (.tmp 24) (
           .seq (
            .reg [6, 7] false [⟨some 25, none, .mv, [.tmp 7]⟩,
              ⟨some 26, none, .call f_value_Num true, [.tmp 25]⟩,
              ⟨none, none, .store 3, [.tmp 6, .tmp 26]⟩]) (
            .ret)) (
           .skip)))) (
        .seq (
         .reg [6, 2, 1, 13] false [⟨some 28, none, .bin .eql, [.tmp 13, .const (.int .i64 9)]⟩,
           ⟨some 27, none, .mv, [.tmp 28]⟩]) (
         .cond (.tmp 27) (
          .seq (
           .reg [6, 2, 1] false [⟨some 29, none, .mv, [.tmp 1]⟩,
             ⟨some 30, none, .mv, [.tmp 2]⟩,
             ⟨some 31, none, .bin .sub, [.tmp 29, .tmp 30]⟩,
             ⟨some 8, none, .mv, [.tmp 31]⟩]) (
           .seq (
            .reg [6, 8, 2, 1] false [⟨some 32, none, .mv, [.tmp 8]⟩,
              ⟨some 33, none, .mv, [.tmp 1]⟩,
              ⟨some 34, none, .bin .leq, [.tmp 32, .tmp 33]⟩,
              ⟨some 35, none, .mv, [.tmp 2]⟩,
              ⟨some 36, none, .bin .geq, [.tmp 35, .const (.int .i64 0)]⟩,
              ⟨some 37, none, .eqb false, [.tmp 34, .tmp 36]⟩]) (
            .cond (.tmp 37) (
             .seq (
              .reg [6, 8] false [⟨some 38, none, .mv, [.tmp 8]⟩,
                ⟨some 39, none, .call f_value_Num true, [.tmp 38]⟩,
                ⟨none, none, .store 3, [.tmp 6, .tmp 39]⟩]) (
              .ret)) (
             .skip)))) (
          .seq (
           .reg [6, 2, 1, 13] false [⟨some 41, none, .bin .eql, [.tmp 13, .const (.int .i64 10)]⟩,
             ⟨some 40, none, .mv, [.tmp 41]⟩]) (
           .cond (.tmp 40) (
            .seq (
             .reg [6, 2, 1] false [⟨some 43, none, .mv, [.tmp 1]⟩,
               ⟨some 44, none, .call f_value_abs true, [.tmp 43]⟩,
               ⟨some 45, none, .mv, [.tmp 2]⟩,
               ⟨some 46, none, .call f_value_abs true, [.tmp 45]⟩,
               ⟨some 47, none, .call f_bits_Mul64 true, [.tmp 44, .tmp 46]⟩,
               ⟨some 42, none, .mv, [.tmp 47]⟩,
               ⟨some 48, none, .extract 0, [.tmp 42]⟩,
               ⟨some 49, none, .extract 1, [.tmp 42]⟩,
               ⟨some 9, none, .mv, [.tmp 48]⟩,
               ⟨some 10, none, .mv, [.tmp 49]⟩]) (
             .seq (
              .reg [6, 2, 1, 10, 9] false [⟨some 50, none, .mv, [.tmp 1]⟩,
                ⟨some 51, none, .bin .lss, [.tmp 50, .const (.int .i64 0)]⟩,
                ⟨some 52, none, .mv, [.tmp 2]⟩,
                ⟨some 53, none, .bin .lss, [.tmp 52, .const (.int .i64 0)]⟩,
                ⟨some 54, none, .eqb true, [.tmp 51, .tmp 53]⟩,
                ⟨some 11, none, .mv, [.tmp 54]⟩]) (
              .seq (
               .reg [6, 2, 1, 10, 11, 9] false [⟨some 55, none, .mv, [.tmp 9]⟩,
                 ⟨some 56, none, .bin .eql, [.tmp 55, .const (.int .u64 0)]⟩,
                 ⟨some 57, none, .mv, [.tmp 56]⟩,
                 ⟨some 58, some (57, true), .mv, [.tmp 10]⟩,
                 ⟨some 59, some (57, true), .bin .lss, [.tmp 58, .const (.int .u64 9223372036854775808)]⟩,
                 ⟨some 60, some (57, true), .mv, [.tmp 59]⟩,
                 ⟨some 61, some (60, false), .mv, [.tmp 11]⟩,
                 ⟨some 62, some (60, false), .mv, [.tmp 61]⟩,
                 ⟨some 63, some (62, true), .mv, [.tmp 10]⟩,
                 ⟨some 64, some (62, true), .bin .eql, [.tmp 63, .const (.int .u64 9223372036854775808)]⟩,
                 ⟨some 65, some (60, false), .pick, [.tmp 62, .tmp 64, .const (.bool false)]⟩,
                 ⟨some 66, some (57, true), .pick, [.tmp 60, .const (.bool true), .tmp 65]⟩,
                 ⟨some 67, none, .pick, [.tmp 57, .tmp 66, .const (.bool false)]⟩]) (
               .cond (.tmp 67) (
                .seq (
                 .reg [6, 2, 1] false [⟨some 68, none, .mv, [.tmp 1]⟩,
                   ⟨some 69, none, .mv, [.tmp 2]⟩,
                   ⟨some 70, none, .bin .mul, [.tmp 68, .tmp 69]⟩,
                   ⟨some 71, none, .call f_value_Num true, [.tmp 70]⟩,
                   ⟨none, none, .store 3, [.tmp 6, .tmp 71]⟩]) (
                 .ret)) (
                .skip))))) (
            .seq (
             .reg [6, 1, 2, 13] false [⟨some 73, none, .bin .eql, [.tmp 13, .const (.int .i64 11)]⟩,
               ⟨some 72, none, .mv, [.tmp 73]⟩]) (
             .cond (.tmp 72) (
              .seq (
               .seq (
                .reg [6, 1, 2] false [⟨some 74, none, .mv, [.tmp 2]⟩,
                  ⟨some 75, none, .bin .eql, [.tmp 74, .const (.int .i64 0)]⟩]) (
                .cond (.tmp 75) (
                 .seq (
                  .reg [6] false [⟨some 76, none, .call f_value_Wrong true, [.const (.int .i64 1)]⟩,
                    ⟨none, none, .store 3, [.tmp 6, .tmp 76]⟩]) (
                  .ret)) (
                 .skip))) (
               .seq (
                .reg [6, 1, 2] false [⟨some 77, none, .mv, [.tmp 1]⟩,
                  ⟨some 78, none, .mv, [.tmp 2]⟩,
                  ⟨some 79, none, .bin .quo, [.tmp 77, .tmp 78]⟩,
                  ⟨some 12, none, .mv, [.tmp 79]⟩]) (
                .seq (
                 .reg [6, 12, 1, 2] false [⟨some 80, none, .mv, [.tmp 2]⟩,
                   ⟨some 81, none, .bin .neq, [.tmp 80, .const (.int .i64 (-1))]⟩,
                   ⟨some 82, none, .mv, [.tmp 81]⟩,
                   ⟨some 83, some (82, false), .mv, [.tmp 1]⟩,
                   ⟨some 84, some (82, false), .bin .eql, [.tmp 83, .const (.int .i64 0)]⟩,
                   ⟨some 85, none, .pick, [.tmp 82, .const (.bool true), .tmp 84]⟩,
                   ⟨some 86, none, .mv, [.tmp 85]⟩,
                   ⟨some 87, some (86, false), .mv, [.tmp 12]⟩,
                   ⟨some 88, some (86, false), .bin .lss, [.tmp 87, .const (.int .i64 0)]⟩,
                   ⟨some 89, some (86, false), .mv, [.tmp 1]⟩,
                   ⟨some 90, some (86, false), .bin .gtr, [.tmp 89, .const (.int .i64 0)]⟩,
                   ⟨some 91, some (86, false), .eqb false, [.tmp 88, .tmp 90]⟩,
                   ⟨some 92, none, .pick, [.tmp 86, .const (.bool true), .tmp 91]⟩]) (
                 .cond (.tmp 92) (
                  .seq (
                   .reg [6, 12] false [⟨some 93, none, .mv, [.tmp 12]⟩,
                     ⟨some 94, none, .call f_value_Num true, [.tmp 93]⟩,
                     ⟨none, none, .store 3, [.tmp 6, .tmp 94]⟩]) (
                   .ret)) (
                  .skip))))) (
              .skip))))))))))) (
    .seq (
     .reg [6] false [⟨some 95, none, .call f_value_Wrong true, [.const (.int .i64 5)]⟩,
       ⟨none, none, .store 3, [.tmp 6, .tmp 95]⟩]) (
     .ret)))
def a_value_reckon : AF := { results := [.cell 6 3 true], body := b_value_reckon }

/- sccsettle/value.like, 2 params, 0 free: [] -/
def b_value_like : AC :=
  .seq (
   .reg [1, 0] false [⟨some 2, none, .box, [.tmp 0]⟩,
     ⟨some 3, none, .box, [.tmp 1]⟩,
     ⟨some 4, none, .alloc [.int .i64 0, .int .i64 0, .str []], []⟩]) (
   .seq (
    .seq (
     .reg [4, 2, 3] false [⟨some 5, none, .fieldAddr 0, [.tmp 2]⟩,
       ⟨some 6, none, .load 1 false, [.tmp 5]⟩,
       ⟨some 7, none, .bin .eql, [.tmp 6, .const (.int .i64 0)]⟩,
       ⟨some 8, none, .mv, [.tmp 7]⟩,
       ⟨some 9, some (8, true), .fieldAddr 0, [.tmp 3]⟩,
       ⟨some 10, some (8, true), .load 1 false, [.tmp 9]⟩,
       ⟨some 11, some (8, true), .bin .neq, [.tmp 10, .const (.int .i64 4)]⟩,
       ⟨some 12, none, .pick, [.tmp 8, .tmp 11, .const (.bool false)]⟩]) (
     .cond (.tmp 12) (
      .reg [4, 2, 3] false [⟨some 13, none, .fieldAddr 0, [.tmp 3]⟩,
        ⟨some 14, none, .load 1 false, [.tmp 13]⟩,
        ⟨some 15, none, .fieldAddr 0, [.tmp 2]⟩,
        ⟨none, none, .store 1, [.tmp 15, .tmp 14]⟩]) (
      .skip))) (
    .seq (
     .reg [4, 2] false [⟨some 16, none, .load 3 true, [.tmp 2]⟩,
       ⟨none, none, .store 3, [.tmp 4, .tmp 16]⟩]) (
     .ret)))
def a_value_like : AF := { results := [.cell 4 3 true], body := b_value_like }

/- sccsettle/value.Is, 1 params, 0 free: [] -/
def b_value_Is : AC :=
  .seq (
   .reg [0] false [⟨some 2, none, .alloc [.int .i64 0, .int .i64 0, .str []], []⟩]) (
   .seq (
    .reg [2, 0] false [⟨some 4, none, .build [.int .i64 0, .int .i64 0, .str []] [(0, 1)], [.const (.int .i64 3)]⟩,
      ⟨some 3, none, .alloc [.int .i64 0, .int .i64 0, .str []], []⟩,
      ⟨none, none, .store 3, [.tmp 3, .tmp 4]⟩]) (
    .seq (
     .seq (
      .reg [2, 3, 0] false [⟨some 5, none, .mv, [.tmp 0]⟩]) (
      .cond (.tmp 5) (
       .reg [2, 3] false [⟨some 6, none, .fieldAddr 1, [.tmp 3]⟩,
         ⟨none, none, .store 1, [.tmp 6, .const (.int .i64 1)]⟩]) (
       .skip))) (
     .seq (
      .reg [2, 3] false [⟨some 7, none, .load 3 true, [.tmp 3]⟩,
        ⟨none, none, .store 3, [.tmp 2, .tmp 7]⟩]) (
      .ret))))
def a_value_Is : AF := { results := [.cell 2 3 true], body := b_value_Is }

/- cmp.Or[int], 1 params, 0 free: [] -/
/- a loop's body; at its head: [8, 3, 6, 7] -/
def b_cmp_Or_int__0 : AC :=
  .seq (
   .reg [3, 6, 7, 8] false [⟨some 9, none, .bin .lss, [.tmp 8, .tmp 7]⟩]) (
   .seq (
    .cond (.tmp 9) (
     .skip) (
     .exit 0)) (
    .seq (
     .block 1 [3, 6, 7, 8] (
      .seq (
       .reg [3, 6, 7, 8] false [⟨some 10, none, .idxAddr 1, [.tmp 6, .tmp 8]⟩,
         ⟨some 11, none, .load 1 false, [.tmp 10]⟩,
         ⟨some 5, none, .mv, [.tmp 11]⟩]) (
       .seq (
        .reg [5, 3, 6, 7, 8] false [⟨some 12, none, .mv, [.tmp 5]⟩,
          ⟨some 13, none, .mv, [.tmp 3]⟩,
          ⟨some 14, none, .bin .neq, [.tmp 12, .tmp 13]⟩]) (
        .cond (.tmp 14) (
         .seq (
          .reg [5] false [⟨some 15, none, .mv, [.tmp 5]⟩,
            ⟨some 2, none, .mv, [.tmp 15]⟩]) (
          .ret)) (
         .skip))))) (
     .reg [3, 6, 7, 8] false [⟨some 16, none, .bin .add, [.tmp 8, .const (.int .i64 1)]⟩,
       ⟨some 8, none, .mv, [.tmp 16]⟩])))

def b_cmp_Or_int_ : AC :=
  .seq (
   .reg [0] false [⟨some 2, none, .mv, [.const (.int .i64 0)]⟩]) (
   .seq (
    .reg [0] false [⟨some 3, none, .mv, [.const (.int .i64 0)]⟩]) (
    .seq (
     .seq (
      .reg [3, 0] false [⟨some 6, none, .mv, [.tmp 0]⟩,
        ⟨some 7, none, .len false, [.tmp 6]⟩,
        ⟨some 8, none, .mv, [.const (.int .i64 0)]⟩]) (
      .block 0 [3] (
       .loop [8, 3, 6, 7] b_cmp_Or_int__0))) (
     .seq (
      .reg [3] false [⟨some 17, none, .mv, [.tmp 3]⟩,
        ⟨some 2, none, .mv, [.tmp 17]⟩]) (
      .ret))))
def a_cmp_Or_int_ : AF := { results := [.tmp 2], body := b_cmp_Or_int_ }

/- cmp.Compare[int], 2 params, 0 free: [] -/
def b_cmp_Compare_int_ : AC :=
  .seq (
   .reg [1, 0] false [⟨some 4, none, .mv, [.const (.int .i64 0)]⟩]) (
   .seq (
    .reg [1, 0] false [⟨some 7, none, .mv, [.tmp 0]⟩,
      ⟨some 8, none, .call f_cmp_isNaN_int_ true, [.tmp 7]⟩,
      ⟨some 5, none, .mv, [.tmp 8]⟩]) (
    .seq (
     .reg [1, 0, 5] false [⟨some 9, none, .mv, [.tmp 1]⟩,
       ⟨some 10, none, .call f_cmp_isNaN_int_ true, [.tmp 9]⟩,
       ⟨some 6, none, .mv, [.tmp 10]⟩]) (
     .seq (
      .seq (
       .reg [6, 1, 0, 5] false [⟨some 11, none, .mv, [.tmp 5]⟩]) (
       .cond (.tmp 11) (
        .seq (
         .seq (
          .reg [6] false [⟨some 12, none, .mv, [.tmp 6]⟩]) (
          .cond (.tmp 12) (
           .seq (
            .reg [] false [⟨some 4, none, .mv, [.const (.int .i64 0)]⟩]) (
            .ret)) (
           .skip))) (
         .seq (
          .reg [] false [⟨some 4, none, .mv, [.const (.int .i64 (-1))]⟩]) (
          .ret))) (
        .skip))) (
      .seq (
       .seq (
        .reg [1, 0, 6] false [⟨some 13, none, .mv, [.tmp 6]⟩]) (
        .cond (.tmp 13) (
         .seq (
          .reg [] false [⟨some 4, none, .mv, [.const (.int .i64 1)]⟩]) (
          .ret)) (
         .skip))) (
       .seq (
        .seq (
         .reg [1, 0] false [⟨some 14, none, .mv, [.tmp 0]⟩,
           ⟨some 15, none, .mv, [.tmp 1]⟩,
           ⟨some 16, none, .bin .lss, [.tmp 14, .tmp 15]⟩]) (
         .cond (.tmp 16) (
          .seq (
           .reg [] false [⟨some 4, none, .mv, [.const (.int .i64 (-1))]⟩]) (
           .ret)) (
          .skip))) (
        .seq (
         .seq (
          .reg [1, 0] false [⟨some 17, none, .mv, [.tmp 0]⟩,
            ⟨some 18, none, .mv, [.tmp 1]⟩,
            ⟨some 19, none, .bin .gtr, [.tmp 17, .tmp 18]⟩]) (
          .cond (.tmp 19) (
           .seq (
            .reg [] false [⟨some 4, none, .mv, [.const (.int .i64 1)]⟩]) (
            .ret)) (
           .skip))) (
         .seq (
          .reg [] false [⟨some 4, none, .mv, [.const (.int .i64 0)]⟩]) (
          .ret))))))))
def a_cmp_Compare_int_ : AF := { results := [.tmp 4], body := b_cmp_Compare_int_ }

/- slices.stableCmpFunc[int], 3 params, 0 free: [] -/
/- a loop's body; at its head: [6, 8, 2, 7, 0, 1] -/
def b_slices_stableCmpFunc_int__0 : AC :=
  .seq (
   .seq (
    .reg [6, 2, 0, 1, 8, 7] false [⟨some 11, none, .mv, [.tmp 8]⟩,
      ⟨some 12, none, .mv, [.tmp 1]⟩,
      ⟨some 13, none, .bin .leq, [.tmp 11, .tmp 12]⟩]) (
    .cond (.tmp 13) (
     .skip) (
     .exit 0))) (
   .block 1 [6, 8, 2, 7, 0, 1] (
    .seq (
     .reg [6, 2, 0, 1, 8, 7] false [⟨some 14, none, .mv, [.tmp 0]⟩,
       ⟨some 15, none, .mv, [.tmp 7]⟩,
       ⟨some 16, none, .mv, [.tmp 8]⟩,
       ⟨some 17, none, .mv, [.tmp 2]⟩,
       ⟨some 18, none, .call f_slices_insertionSortCmpFunc_int_ false, [.tmp 14, .tmp 15, .tmp 16, .tmp 17]⟩]) (
     .seq (
      .reg [6, 2, 0, 1, 8] false [⟨some 19, none, .mv, [.tmp 8]⟩,
        ⟨some 7, none, .mv, [.tmp 19]⟩]) (
      .reg [6, 2, 7, 0, 1, 8] false [⟨some 20, none, .mv, [.tmp 8]⟩,
        ⟨some 21, none, .mv, [.tmp 6]⟩,
        ⟨some 22, none, .bin .add, [.tmp 20, .tmp 21]⟩,
        ⟨some 8, none, .mv, [.tmp 22]⟩]))))

/- a loop's body; at its head: [6, 8, 2, 7, 0, 1] -/
def b_slices_stableCmpFunc_int__1 : AC :=
  .seq (
   .seq (
    .reg [6, 2, 0, 1, 8, 7] false [⟨some 33, none, .mv, [.tmp 8]⟩,
      ⟨some 34, none, .mv, [.tmp 1]⟩,
      ⟨some 35, none, .bin .leq, [.tmp 33, .tmp 34]⟩]) (
    .cond (.tmp 35) (
     .skip) (
     .exit 4))) (
   .block 5 [6, 8, 2, 7, 0, 1] (
    .seq (
     .reg [6, 2, 0, 1, 8, 7] false [⟨some 36, none, .mv, [.tmp 0]⟩,
       ⟨some 37, none, .mv, [.tmp 7]⟩,
       ⟨some 38, none, .mv, [.tmp 7]⟩,
       ⟨some 39, none, .mv, [.tmp 6]⟩,
       ⟨some 40, none, .bin .add, [.tmp 38, .tmp 39]⟩,
       ⟨some 41, none, .mv, [.tmp 8]⟩,
       ⟨some 42, none, .mv, [.tmp 2]⟩,
       ⟨some 43, none, .call f_slices_symMergeCmpFunc_int_ false, [.tmp 36, .tmp 37, .tmp 40, .tmp 41, .tmp 42]⟩]) (
     .seq (
      .reg [6, 2, 0, 1, 8] false [⟨some 44, none, .mv, [.tmp 8]⟩,
        ⟨some 7, none, .mv, [.tmp 44]⟩]) (
      .reg [6, 2, 7, 0, 1, 8] false [⟨some 45, none, .mv, [.tmp 8]⟩,
        ⟨some 46, none, .mv, [.tmp 6]⟩,
        ⟨some 47, none, .bin .mul, [.const (.int .i64 2), .tmp 46]⟩,
        ⟨some 48, none, .bin .add, [.tmp 45, .tmp 47]⟩,
        ⟨some 8, none, .mv, [.tmp 48]⟩]))))

/- a loop's body; at its head: [6, 2, 0, 1] -/
def b_slices_stableCmpFunc_int__2 : AC :=
  .seq (
   .seq (
    .reg [6, 2, 0, 1] false [⟨some 28, none, .mv, [.tmp 6]⟩,
      ⟨some 29, none, .mv, [.tmp 1]⟩,
      ⟨some 30, none, .bin .lss, [.tmp 28, .tmp 29]⟩]) (
    .cond (.tmp 30) (
     .skip) (
     .exit 2))) (
   .block 3 [6, 2, 0, 1] (
    .seq (
     .reg [6, 2, 0, 1] false [⟨some 31, none, .mv, [.tmp 6]⟩,
       ⟨some 32, none, .bin .mul, [.const (.int .i64 2), .tmp 31]⟩,
       ⟨some 7, none, .mv, [.const (.int .i64 0)]⟩,
       ⟨some 8, none, .mv, [.tmp 32]⟩]) (
     .seq (
      .block 4 [2, 0, 1, 6, 7] (
       .loop [6, 8, 2, 7, 0, 1] b_slices_stableCmpFunc_int__1)) (
      .seq (
       .seq (
        .reg [2, 0, 1, 6, 7] false [⟨some 49, none, .mv, [.tmp 7]⟩,
          ⟨some 50, none, .mv, [.tmp 6]⟩,
          ⟨some 51, none, .bin .add, [.tmp 49, .tmp 50]⟩,
          ⟨some 9, none, .mv, [.tmp 51]⟩]) (
        .seq (
         .reg [2, 0, 1, 6, 9, 7] false [⟨some 52, none, .mv, [.tmp 9]⟩,
           ⟨some 53, none, .mv, [.tmp 1]⟩,
           ⟨some 54, none, .bin .lss, [.tmp 52, .tmp 53]⟩]) (
         .cond (.tmp 54) (
          .reg [2, 0, 1, 6, 9, 7] false [⟨some 55, none, .mv, [.tmp 0]⟩,
            ⟨some 56, none, .mv, [.tmp 7]⟩,
            ⟨some 57, none, .mv, [.tmp 9]⟩,
            ⟨some 58, none, .mv, [.tmp 1]⟩,
            ⟨some 59, none, .mv, [.tmp 2]⟩,
            ⟨some 60, none, .call f_slices_symMergeCmpFunc_int_ false, [.tmp 55, .tmp 56, .tmp 57, .tmp 58, .tmp 59]⟩]) (
          .skip)))) (
       .reg [2, 0, 1, 6] false [⟨some 61, none, .mv, [.tmp 6]⟩,
         ⟨some 62, none, .bin .mul, [.tmp 61, .const (.int .i64 2)]⟩,
         ⟨some 6, none, .mv, [.tmp 62]⟩])))))

def b_slices_stableCmpFunc_int_ : AC :=
  .seq (
   .reg [2, 0, 1] false [⟨some 6, none, .mv, [.const (.int .i64 20)]⟩]) (
   .seq (
    .reg [6, 2, 0, 1] false [⟨some 10, none, .mv, [.tmp 6]⟩,
      ⟨some 7, none, .mv, [.const (.int .i64 0)]⟩,
      ⟨some 8, none, .mv, [.tmp 10]⟩]) (
    .seq (
     .block 0 [6, 2, 0, 1, 7] (
      .loop [6, 8, 2, 7, 0, 1] b_slices_stableCmpFunc_int__0)) (
     .seq (
      .reg [6, 2, 0, 1, 7] false [⟨some 23, none, .mv, [.tmp 0]⟩,
        ⟨some 24, none, .mv, [.tmp 7]⟩,
        ⟨some 25, none, .mv, [.tmp 1]⟩,
        ⟨some 26, none, .mv, [.tmp 2]⟩,
        ⟨some 27, none, .call f_slices_insertionSortCmpFunc_int_ false, [.tmp 23, .tmp 24, .tmp 25, .tmp 26]⟩]) (
      .block 2 [] (
       .loop [6, 2, 0, 1] b_slices_stableCmpFunc_int__2)))))
def a_slices_stableCmpFunc_int_ : AF := { results := [], body := b_slices_stableCmpFunc_int_ }

/- cmp.Compare[string], 2 params, 0 free: [] -/
def b_cmp_Compare_string_ : AC :=
  .seq (
   .reg [1, 0] false [⟨some 4, none, .mv, [.const (.int .i64 0)]⟩]) (
   .seq (
    .reg [1, 0] false [⟨some 7, none, .mv, [.tmp 0]⟩,
      ⟨some 8, none, .call f_cmp_isNaN_string_ true, [.tmp 7]⟩,
      ⟨some 5, none, .mv, [.tmp 8]⟩]) (
    .seq (
     .reg [1, 0, 5] false [⟨some 9, none, .mv, [.tmp 1]⟩,
       ⟨some 10, none, .call f_cmp_isNaN_string_ true, [.tmp 9]⟩,
       ⟨some 6, none, .mv, [.tmp 10]⟩]) (
     .seq (
      .seq (
       .reg [6, 1, 0, 5] false [⟨some 11, none, .mv, [.tmp 5]⟩]) (
       .cond (.tmp 11) (
        .seq (
         .seq (
          .reg [6] false [⟨some 12, none, .mv, [.tmp 6]⟩]) (
          .cond (.tmp 12) (
           .seq (
            .reg [] false [⟨some 4, none, .mv, [.const (.int .i64 0)]⟩]) (
            .ret)) (
           .skip))) (
         .seq (
          .reg [] false [⟨some 4, none, .mv, [.const (.int .i64 (-1))]⟩]) (
          .ret))) (
        .skip))) (
      .seq (
       .seq (
        .reg [1, 0, 6] false [⟨some 13, none, .mv, [.tmp 6]⟩]) (
        .cond (.tmp 13) (
         .seq (
          .reg [] false [⟨some 4, none, .mv, [.const (.int .i64 1)]⟩]) (
          .ret)) (
         .skip))) (
       .seq (
        .seq (
         .reg [1, 0] false [⟨some 14, none, .mv, [.tmp 0]⟩,
           ⟨some 15, none, .mv, [.tmp 1]⟩,
           ⟨some 16, none, .bin .lss, [.tmp 14, .tmp 15]⟩]) (
         .cond (.tmp 16) (
          .seq (
           .reg [] false [⟨some 4, none, .mv, [.const (.int .i64 (-1))]⟩]) (
           .ret)) (
          .skip))) (
        .seq (
         .seq (
          .reg [1, 0] false [⟨some 17, none, .mv, [.tmp 0]⟩,
            ⟨some 18, none, .mv, [.tmp 1]⟩,
            ⟨some 19, none, .bin .gtr, [.tmp 17, .tmp 18]⟩]) (
          .cond (.tmp 19) (
           .seq (
            .reg [] false [⟨some 4, none, .mv, [.const (.int .i64 1)]⟩]) (
            .ret)) (
           .skip))) (
         .seq (
          .reg [] false [⟨some 4, none, .mv, [.const (.int .i64 0)]⟩]) (
          .ret))))))))
def a_cmp_Compare_string_ : AF := { results := [.tmp 4], body := b_cmp_Compare_string_ }

/- sccsettle/value.Num, 1 params, 0 free: [] -/
def b_value_Num : AC :=
  .seq (
   .reg [0] false [⟨some 2, none, .alloc [.int .i64 0, .int .i64 0, .str []], []⟩]) (
   .seq (
    .reg [2, 0] false [⟨some 3, none, .mv, [.tmp 0]⟩,
      ⟨some 4, none, .build [.int .i64 0, .int .i64 0, .str []] [(0, 1), (1, 1)], [.const (.int .i64 1), .tmp 3]⟩,
      ⟨none, none, .store 3, [.tmp 2, .tmp 4]⟩]) (
    .ret))
def a_value_Num : AF := { results := [.cell 2 3 true], body := b_value_Num }

/- sccsettle/sccsettlebig.trim, 1 params, 0 free: [] -/
/- a loop's body; at its head: [3, 0] -/
def b_sccsettlebig_trim_0 : AC :=
  .seq (
   .seq (
    .reg [0, 3] false [⟨some 6, none, .mv, [.tmp 3]⟩,
      ⟨some 7, none, .bin .gtr, [.tmp 6, .const (.int .i64 0)]⟩,
      ⟨some 8, none, .mv, [.tmp 7]⟩,
      ⟨some 9, some (8, true), .mv, [.tmp 0]⟩,
      ⟨some 10, some (8, true), .mv, [.tmp 3]⟩,
      ⟨some 11, some (8, true), .bin .sub, [.tmp 10, .const (.int .i64 1)]⟩,
      ⟨some 12, some (8, true), .idxAddr 1, [.tmp 9, .tmp 11]⟩,
      ⟨some 13, some (8, true), .load 1 false, [.tmp 12]⟩,
      ⟨some 14, some (8, true), .bin .eql, [.tmp 13, .const (.int .u32 0)]⟩,
      ⟨some 15, none, .pick, [.tmp 8, .tmp 14, .const (.bool false)]⟩]) (
    .cond (.tmp 15) (
     .skip) (
     .exit 0))) (
   .block 1 [3, 0] (
    .reg [0, 3] false [⟨some 16, none, .mv, [.tmp 3]⟩,
      ⟨some 17, none, .bin .sub, [.tmp 16, .const (.int .i64 1)]⟩,
      ⟨some 3, none, .mv, [.tmp 17]⟩]))

def b_sccsettlebig_trim : AC :=
  .seq (
   .reg [0] false [⟨some 2, none, .mv, [.const (.lst (some true) 0 [])]⟩]) (
   .seq (
    .reg [0] false [⟨some 4, none, .mv, [.tmp 0]⟩,
      ⟨some 5, none, .len false, [.tmp 4]⟩,
      ⟨some 3, none, .mv, [.tmp 5]⟩]) (
    .seq (
     .block 0 [3, 0] (
      .loop [3, 0] b_sccsettlebig_trim_0)) (
     .seq (
      .reg [3, 0] false [⟨some 18, none, .mv, [.tmp 0]⟩,
        ⟨some 19, none, .mv, [.tmp 3]⟩,
        ⟨some 20, none, .slc (some 1) false true, [.tmp 18, .tmp 19]⟩,
        ⟨some 2, none, .mv, [.tmp 20]⟩]) (
      .ret))))
def a_sccsettlebig_trim : AF := { results := [.tmp 2], body := b_sccsettlebig_trim }

/- sccsettle/sccsettlebig.sum, 4 params, 0 free: [] -/
def b_sccsettlebig_sum : AC :=
  .seq (
   .reg [3, 1, 0, 2] false [⟨some 8, none, .mv, [.const (.bool false)]⟩,
     ⟨some 9, none, .mv, [.const (.lst (some true) 0 [])]⟩]) (
   .seq (
    .seq (
     .reg [3, 1, 0, 2] false [⟨some 10, none, .mv, [.tmp 0]⟩,
       ⟨some 11, none, .mv, [.tmp 2]⟩,
       ⟨some 12, none, .eqb false, [.tmp 10, .tmp 11]⟩]) (
     .cond (.tmp 12) (
      .seq (
       .reg [3, 1, 0] false [⟨some 13, none, .mv, [.tmp 0]⟩,
         ⟨some 14, none, .mv, [.tmp 1]⟩,
         ⟨some 15, none, .mv, [.tmp 3]⟩,
         ⟨some 16, none, .call f_sccsettlebig_add true, [.tmp 14, .tmp 15]⟩,
         ⟨some 8, none, .mv, [.tmp 13]⟩,
         ⟨some 9, none, .mv, [.tmp 16]⟩]) (
       .ret)) (
      .skip))) (
    .seq (
     .seq (
      .reg [3, 1, 0, 2] false [⟨some 17, none, .mv, [.tmp 1]⟩,
        ⟨some 18, none, .mv, [.tmp 3]⟩,
        ⟨some 19, none, .call f_sccsettlebig_cmp true, [.tmp 17, .tmp 18]⟩,
        ⟨some 20, none, .bin .geq, [.tmp 19, .const (.int .i64 0)]⟩]) (
      .cond (.tmp 20) (
       .seq (
        .reg [3, 1, 0] false [⟨some 21, none, .mv, [.tmp 0]⟩,
          ⟨some 22, none, .mv, [.tmp 1]⟩,
          ⟨some 23, none, .mv, [.tmp 3]⟩,
          ⟨some 24, none, .call f_sccsettlebig_sub true, [.tmp 22, .tmp 23]⟩,
          ⟨some 8, none, .mv, [.tmp 21]⟩,
          ⟨some 9, none, .mv, [.tmp 24]⟩]) (
        .ret)) (
       .skip))) (
     .seq (
      .reg [1, 3, 2] false [⟨some 25, none, .mv, [.tmp 2]⟩,
        ⟨some 26, none, .mv, [.tmp 3]⟩,
        ⟨some 27, none, .mv, [.tmp 1]⟩,
        ⟨some 28, none, .call f_sccsettlebig_sub true, [.tmp 26, .tmp 27]⟩,
        ⟨some 8, none, .mv, [.tmp 25]⟩,
        ⟨some 9, none, .mv, [.tmp 28]⟩]) (
      .ret))))
def a_sccsettlebig_sum : AF := { results := [.tmp 8, .tmp 9], body := b_sccsettlebig_sum }

/- (*sccsettle/sccsettlebig.Int).IsInt64, 1 params, 0 free: [] -/
def b_sccsettlebig_Int__IsInt64 : AC :=
  .seq (
   .reg [0] false [⟨some 2, none, .mv, [.const (.bool false)]⟩]) (
   .seq (
    .reg [0] false [⟨some 4, none, .mv, [.tmp 0]⟩,
      ⟨some 5, none, .nilchk, [.tmp 4]⟩,
      ⟨some 6, none, .fieldAddr 1, [.tmp 5]⟩,
      ⟨some 7, none, .load 1 false, [.tmp 6]⟩,
      ⟨some 8, none, .call f_sccsettlebig_length true, [.tmp 7]⟩,
      ⟨some 3, none, .mv, [.tmp 8]⟩]) (
    .seq (
     .reg [0, 3] false [⟨some 9, none, .mv, [.tmp 3]⟩,
       ⟨some 10, none, .bin .lss, [.tmp 9, .const (.int .i64 64)]⟩,
       ⟨some 11, none, .mv, [.tmp 10]⟩,
       ⟨some 12, some (11, false), .mv, [.tmp 3]⟩,
       ⟨some 13, some (11, false), .bin .eql, [.tmp 12, .const (.int .i64 64)]⟩,
       ⟨some 14, some (11, false), .mv, [.tmp 13]⟩,
       ⟨some 15, some (14, true), .mv, [.tmp 0]⟩,
       ⟨some 16, some (14, true), .nilchk, [.tmp 15]⟩,
       ⟨some 17, some (14, true), .fieldAddr 0, [.tmp 16]⟩,
       ⟨some 18, some (14, true), .load 1 false, [.tmp 17]⟩,
       ⟨some 19, some (11, false), .pick, [.tmp 14, .tmp 18, .const (.bool false)]⟩,
       ⟨some 20, some (11, false), .mv, [.tmp 19]⟩,
       ⟨some 21, some (20, true), .mv, [.tmp 0]⟩,
       ⟨some 22, some (20, true), .call f_sccsettlebig_Int__TrailingZeroBits true, [.tmp 21]⟩,
       ⟨some 23, some (20, true), .bin .eql, [.tmp 22, .const (.int .u64 63)]⟩,
       ⟨some 24, some (11, false), .pick, [.tmp 20, .tmp 23, .const (.bool false)]⟩,
       ⟨some 25, none, .pick, [.tmp 11, .const (.bool true), .tmp 24]⟩,
       ⟨some 2, none, .mv, [.tmp 25]⟩]) (
     .ret)))
def a_sccsettlebig_Int__IsInt64 : AF := { results := [.tmp 2], body := b_sccsettlebig_Int__IsInt64 }

/- (*sccsettle/sccsettlebig.Int).Uint64, 1 params, 0 free: [] -/
def b_sccsettlebig_Int__Uint64 : AC :=
  .seq (
   .reg [0] false [⟨some 2, none, .mv, [.const (.int .u64 0)]⟩]) (
   .seq (
    .reg [0] false [⟨some 3, none, .mv, [.const (.int .u64 0)]⟩]) (
    .seq (
     .seq (
      .reg [0, 3] false [⟨some 4, none, .mv, [.tmp 0]⟩,
        ⟨some 5, none, .nilchk, [.tmp 4]⟩,
        ⟨some 6, none, .fieldAddr 1, [.tmp 5]⟩,
        ⟨some 7, none, .load 1 false, [.tmp 6]⟩,
        ⟨some 8, none, .len false, [.tmp 7]⟩,
        ⟨some 9, none, .bin .gtr, [.tmp 8, .const (.int .i64 0)]⟩]) (
      .cond (.tmp 9) (
       .reg [0] false [⟨some 10, none, .mv, [.tmp 0]⟩,
         ⟨some 11, none, .nilchk, [.tmp 10]⟩,
         ⟨some 12, none, .fieldAddr 1, [.tmp 11]⟩,
         ⟨some 13, none, .load 1 false, [.tmp 12]⟩,
         ⟨some 14, none, .idxAddr 1, [.tmp 13, .const (.int .i64 0)]⟩,
         ⟨some 15, none, .load 1 false, [.tmp 14]⟩,
         ⟨some 16, none, .convInt .u64, [.tmp 15]⟩,
         ⟨some 3, none, .mv, [.tmp 16]⟩]) (
       .skip))) (
     .seq (
      .seq (
       .reg [0, 3] false [⟨some 17, none, .mv, [.tmp 0]⟩,
         ⟨some 18, none, .nilchk, [.tmp 17]⟩,
         ⟨some 19, none, .fieldAddr 1, [.tmp 18]⟩,
         ⟨some 20, none, .load 1 false, [.tmp 19]⟩,
         ⟨some 21, none, .len false, [.tmp 20]⟩,
         ⟨some 22, none, .bin .gtr, [.tmp 21, .const (.int .i64 1)]⟩]) (
       .cond (.tmp 22) (
        .reg [0, 3] false [⟨some 23, none, .mv, [.tmp 3]⟩,
          ⟨some 24, none, .mv, [.tmp 0]⟩,
          ⟨some 25, none, .nilchk, [.tmp 24]⟩,
          ⟨some 26, none, .fieldAddr 1, [.tmp 25]⟩,
          ⟨some 27, none, .load 1 false, [.tmp 26]⟩,
          ⟨some 28, none, .idxAddr 1, [.tmp 27, .const (.int .i64 1)]⟩,
          ⟨some 29, none, .load 1 false, [.tmp 28]⟩,
          ⟨some 30, none, .convInt .u64, [.tmp 29]⟩,
          ⟨some 31, none, .bin .shl, [.tmp 30, .const (.int .u64 32)]⟩,
          ⟨some 32, none, .bin .or, [.tmp 23, .tmp 31]⟩,
          ⟨some 3, none, .mv, [.tmp 32]⟩]) (
        .skip))) (
      .seq (
       .reg [3] false [⟨some 33, none, .mv, [.tmp 3]⟩,
         ⟨some 2, none, .mv, [.tmp 33]⟩]) (
       .ret)))))
def a_sccsettlebig_Int__Uint64 : AF := { results := [.tmp 2], body := b_sccsettlebig_Int__Uint64 }

/- cmp.isNaN[int], 1 params, 0 free: [] -/
def b_cmp_isNaN_int_ : AC :=
  .seq (
   .reg [0] false [⟨some 2, none, .mv, [.const (.bool false)]⟩]) (
   .seq (
    .reg [0] false [⟨some 3, none, .mv, [.tmp 0]⟩,
      ⟨some 4, none, .mv, [.tmp 0]⟩,
      ⟨some 5, none, .bin .neq, [.tmp 3, .tmp 4]⟩,
      ⟨some 2, none, .mv, [.tmp 5]⟩]) (
    .ret))
def a_cmp_isNaN_int_ : AF := { results := [.tmp 2], body := b_cmp_isNaN_int_ }

/- slices.insertionSortCmpFunc[int], 4 params, 0 free: [] -/
/- a loop's body; at its head: [9, 0, 3, 1, 2, 8] -/
def b_slices_insertionSortCmpFunc_int__0 : AC :=
  .seq (
   .seq (
    .reg [0, 3, 1, 2, 8, 9] true [⟨some 18, none, .mv, [.tmp 9]⟩,
      ⟨some 19, none, .mv, [.tmp 1]⟩,
      ⟨some 20, none, .bin .gtr, [.tmp 18, .tmp 19]⟩,
      ⟨some 21, none, .mv, [.tmp 20]⟩,
      ⟨some 22, some (21, true), .mv, [.tmp 3]⟩,
      ⟨some 23, some (21, true), .mv, [.tmp 0]⟩,
      ⟨some 24, some (21, true), .mv, [.tmp 9]⟩,
      ⟨some 25, some (21, true), .idxAddr 1, [.tmp 23, .tmp 24]⟩,
      ⟨some 26, some (21, true), .load 1 false, [.tmp 25]⟩,
      ⟨some 27, some (21, true), .mv, [.tmp 0]⟩,
      ⟨some 28, some (21, true), .mv, [.tmp 9]⟩,
      ⟨some 29, some (21, true), .bin .sub, [.tmp 28, .const (.int .i64 1)]⟩,
      ⟨some 30, some (21, true), .idxAddr 1, [.tmp 27, .tmp 29]⟩,
      ⟨some 31, some (21, true), .load 1 false, [.tmp 30]⟩,
      ⟨some 32, some (21, true), .callv true, [.tmp 22, .tmp 26, .tmp 31]⟩,
      ⟨some 33, some (21, true), .bin .lss, [.tmp 32, .const (.int .i64 0)]⟩,
      ⟨some 34, none, .pick, [.tmp 21, .tmp 33, .const (.bool false)]⟩]) (
    .cond (.tmp 34) (
     .skip) (
     .exit 2))) (
   .seq (
    .block 3 [0, 3, 1, 2, 8, 9] (
     .reg [0, 3, 1, 2, 8, 9] true [⟨some 37, none, .mv, [.tmp 0]⟩,
       ⟨some 38, none, .mv, [.tmp 9]⟩,
       ⟨some 39, none, .mv, [.tmp 0]⟩,
       ⟨some 40, none, .mv, [.tmp 9]⟩,
       ⟨some 41, none, .bin .sub, [.tmp 40, .const (.int .i64 1)]⟩,
       ⟨some 42, none, .mv, [.tmp 0]⟩,
       ⟨some 43, none, .mv, [.tmp 9]⟩,
       ⟨some 44, none, .bin .sub, [.tmp 43, .const (.int .i64 1)]⟩,
       ⟨some 45, none, .idxAddr 1, [.tmp 42, .tmp 44]⟩,
       ⟨some 46, none, .load 1 false, [.tmp 45]⟩,
       ⟨some 47, none, .mv, [.tmp 0]⟩,
       ⟨some 48, none, .mv, [.tmp 9]⟩,
       ⟨some 49, none, .idxAddr 1, [.tmp 47, .tmp 48]⟩,
       ⟨some 50, none, .load 1 false, [.tmp 49]⟩,
       ⟨some 51, none, .idxAddr 1, [.tmp 37, .tmp 38]⟩,
       ⟨none, none, .store 1, [.tmp 51, .tmp 46]⟩,
       ⟨some 52, none, .idxAddr 1, [.tmp 39, .tmp 41]⟩,
       ⟨none, none, .store 1, [.tmp 52, .tmp 50]⟩])) (
    .reg [0, 3, 1, 2, 8, 9] false [⟨some 35, none, .mv, [.tmp 9]⟩,
      ⟨some 36, none, .bin .sub, [.tmp 35, .const (.int .i64 1)]⟩,
      ⟨some 9, none, .mv, [.tmp 36]⟩]))

/- a loop's body; at its head: [0, 8, 3, 1, 2] -/
def b_slices_insertionSortCmpFunc_int__1 : AC :=
  .seq (
   .seq (
    .reg [0, 3, 1, 2, 8] false [⟨some 12, none, .mv, [.tmp 8]⟩,
      ⟨some 13, none, .mv, [.tmp 2]⟩,
      ⟨some 14, none, .bin .lss, [.tmp 12, .tmp 13]⟩]) (
    .cond (.tmp 14) (
     .skip) (
     .exit 0))) (
   .seq (
    .block 1 [0, 3, 1, 2, 8] (
     .seq (
      .reg [0, 3, 1, 2, 8] false [⟨some 17, none, .mv, [.tmp 8]⟩,
        ⟨some 9, none, .mv, [.tmp 17]⟩]) (
      .block 2 [0, 3, 1, 2, 8] (
       .loop [9, 0, 3, 1, 2, 8] b_slices_insertionSortCmpFunc_int__0)))) (
    .reg [0, 3, 1, 2, 8] false [⟨some 15, none, .mv, [.tmp 8]⟩,
      ⟨some 16, none, .bin .add, [.tmp 15, .const (.int .i64 1)]⟩,
      ⟨some 8, none, .mv, [.tmp 16]⟩]))

def b_slices_insertionSortCmpFunc_int_ : AC :=
  .seq (
   .reg [0, 3, 1, 2] false [⟨some 10, none, .mv, [.tmp 1]⟩,
     ⟨some 11, none, .bin .add, [.tmp 10, .const (.int .i64 1)]⟩,
     ⟨some 8, none, .mv, [.tmp 11]⟩]) (
   .block 0 [] (
    .loop [0, 8, 3, 1, 2] b_slices_insertionSortCmpFunc_int__1))
def a_slices_insertionSortCmpFunc_int_ : AF := { results := [], body := b_slices_insertionSortCmpFunc_int_ }

/- slices.symMergeCmpFunc[int], 5 params, 0 free: [] -/
/- a loop's body; at its head: [1, 0, 4, 11, 10] -/
def b_slices_symMergeCmpFunc_int__0 : AC :=
  .seq (
   .seq (
    .reg [1, 0, 4, 11, 10] false [⟨some 31, none, .mv, [.tmp 10]⟩,
      ⟨some 32, none, .mv, [.tmp 11]⟩,
      ⟨some 33, none, .bin .lss, [.tmp 31, .tmp 32]⟩]) (
    .cond (.tmp 33) (
     .skip) (
     .exit 0))) (
   .block 1 [1, 0, 4, 11, 10] (
    .seq (
     .reg [1, 0, 4, 11, 10] false [⟨some 34, none, .mv, [.tmp 10]⟩,
       ⟨some 35, none, .mv, [.tmp 11]⟩,
       ⟨some 36, none, .bin .add, [.tmp 34, .tmp 35]⟩,
       ⟨some 37, none, .convInt .u64, [.tmp 36]⟩,
       ⟨some 38, none, .bin .shr, [.tmp 37, .const (.int .u64 1)]⟩,
       ⟨some 39, none, .convInt .i64, [.tmp 38]⟩,
       ⟨some 12, none, .mv, [.tmp 39]⟩]) (
     .seq (
      .reg [1, 0, 4, 11, 12, 10] true [⟨some 40, none, .mv, [.tmp 4]⟩,
        ⟨some 41, none, .mv, [.tmp 0]⟩,
        ⟨some 42, none, .mv, [.tmp 12]⟩,
        ⟨some 43, none, .idxAddr 1, [.tmp 41, .tmp 42]⟩,
        ⟨some 44, none, .load 1 false, [.tmp 43]⟩,
        ⟨some 45, none, .mv, [.tmp 0]⟩,
        ⟨some 46, none, .mv, [.tmp 1]⟩,
        ⟨some 47, none, .idxAddr 1, [.tmp 45, .tmp 46]⟩,
        ⟨some 48, none, .load 1 false, [.tmp 47]⟩,
        ⟨some 49, none, .callv true, [.tmp 40, .tmp 44, .tmp 48]⟩,
        ⟨some 50, none, .bin .lss, [.tmp 49, .const (.int .i64 0)]⟩]) (
      .cond (.tmp 50) (
       .reg [1, 0, 4, 11, 12] false [⟨some 51, none, .mv, [.tmp 12]⟩,
         ⟨some 52, none, .bin .add, [.tmp 51, .const (.int .i64 1)]⟩,
         ⟨some 10, none, .mv, [.tmp 52]⟩]) (
       .reg [1, 0, 4, 10, 12] false [⟨some 53, none, .mv, [.tmp 12]⟩,
         ⟨some 11, none, .mv, [.tmp 53]⟩])))))

/- a loop's body; at its head: [13, 0, 10] -/
def b_slices_symMergeCmpFunc_int__1 : AC :=
  .seq (
   .seq (
    .reg [0, 10, 13] false [⟨some 55, none, .mv, [.tmp 13]⟩,
      ⟨some 56, none, .mv, [.tmp 10]⟩,
      ⟨some 57, none, .bin .sub, [.tmp 56, .const (.int .i64 1)]⟩,
      ⟨some 58, none, .bin .lss, [.tmp 55, .tmp 57]⟩]) (
    .cond (.tmp 58) (
     .skip) (
     .exit 2))) (
   .seq (
    .block 3 [0, 10, 13] (
     .reg [0, 10, 13] true [⟨some 61, none, .mv, [.tmp 0]⟩,
       ⟨some 62, none, .mv, [.tmp 13]⟩,
       ⟨some 63, none, .mv, [.tmp 0]⟩,
       ⟨some 64, none, .mv, [.tmp 13]⟩,
       ⟨some 65, none, .bin .add, [.tmp 64, .const (.int .i64 1)]⟩,
       ⟨some 66, none, .mv, [.tmp 0]⟩,
       ⟨some 67, none, .mv, [.tmp 13]⟩,
       ⟨some 68, none, .bin .add, [.tmp 67, .const (.int .i64 1)]⟩,
       ⟨some 69, none, .idxAddr 1, [.tmp 66, .tmp 68]⟩,
       ⟨some 70, none, .load 1 false, [.tmp 69]⟩,
       ⟨some 71, none, .mv, [.tmp 0]⟩,
       ⟨some 72, none, .mv, [.tmp 13]⟩,
       ⟨some 73, none, .idxAddr 1, [.tmp 71, .tmp 72]⟩,
       ⟨some 74, none, .load 1 false, [.tmp 73]⟩,
       ⟨some 75, none, .idxAddr 1, [.tmp 61, .tmp 62]⟩,
       ⟨none, none, .store 1, [.tmp 75, .tmp 70]⟩,
       ⟨some 76, none, .idxAddr 1, [.tmp 63, .tmp 65]⟩,
       ⟨none, none, .store 1, [.tmp 76, .tmp 74]⟩])) (
    .reg [0, 10, 13] false [⟨some 59, none, .mv, [.tmp 13]⟩,
      ⟨some 60, none, .bin .add, [.tmp 59, .const (.int .i64 1)]⟩,
      ⟨some 13, none, .mv, [.tmp 60]⟩]))

/- a loop's body; at its head: [0, 2, 4, 15, 14] -/
def b_slices_symMergeCmpFunc_int__2 : AC :=
  .seq (
   .seq (
    .reg [0, 2, 4, 15, 14] false [⟨some 83, none, .mv, [.tmp 14]⟩,
      ⟨some 84, none, .mv, [.tmp 15]⟩,
      ⟨some 85, none, .bin .lss, [.tmp 83, .tmp 84]⟩]) (
    .cond (.tmp 85) (
     .skip) (
     .exit 4))) (
   .block 5 [0, 2, 4, 15, 14] (
    .seq (
     .reg [0, 2, 4, 15, 14] false [⟨some 86, none, .mv, [.tmp 14]⟩,
       ⟨some 87, none, .mv, [.tmp 15]⟩,
       ⟨some 88, none, .bin .add, [.tmp 86, .tmp 87]⟩,
       ⟨some 89, none, .convInt .u64, [.tmp 88]⟩,
       ⟨some 90, none, .bin .shr, [.tmp 89, .const (.int .u64 1)]⟩,
       ⟨some 91, none, .convInt .i64, [.tmp 90]⟩,
       ⟨some 16, none, .mv, [.tmp 91]⟩]) (
     .seq (
      .reg [0, 2, 4, 15, 16, 14] true [⟨some 92, none, .mv, [.tmp 4]⟩,
        ⟨some 93, none, .mv, [.tmp 0]⟩,
        ⟨some 94, none, .mv, [.tmp 2]⟩,
        ⟨some 95, none, .idxAddr 1, [.tmp 93, .tmp 94]⟩,
        ⟨some 96, none, .load 1 false, [.tmp 95]⟩,
        ⟨some 97, none, .mv, [.tmp 0]⟩,
        ⟨some 98, none, .mv, [.tmp 16]⟩,
        ⟨some 99, none, .idxAddr 1, [.tmp 97, .tmp 98]⟩,
        ⟨some 100, none, .load 1 false, [.tmp 99]⟩,
        ⟨some 101, none, .callv true, [.tmp 92, .tmp 96, .tmp 100]⟩,
        ⟨some 102, none, .bin .lss, [.tmp 101, .const (.int .i64 0)]⟩,
        ⟨some 103, none, .un .not, [.tmp 102]⟩]) (
      .cond (.tmp 103) (
       .reg [0, 2, 4, 15, 16] false [⟨some 104, none, .mv, [.tmp 16]⟩,
         ⟨some 105, none, .bin .add, [.tmp 104, .const (.int .i64 1)]⟩,
         ⟨some 14, none, .mv, [.tmp 105]⟩]) (
       .reg [0, 2, 4, 14, 16] false [⟨some 106, none, .mv, [.tmp 16]⟩,
         ⟨some 15, none, .mv, [.tmp 106]⟩])))))

/- a loop's body; at its head: [17, 0, 14] -/
def b_slices_symMergeCmpFunc_int__3 : AC :=
  .seq (
   .seq (
    .reg [0, 14, 17] false [⟨some 108, none, .mv, [.tmp 17]⟩,
      ⟨some 109, none, .mv, [.tmp 14]⟩,
      ⟨some 110, none, .bin .gtr, [.tmp 108, .tmp 109]⟩]) (
    .cond (.tmp 110) (
     .skip) (
     .exit 6))) (
   .seq (
    .block 7 [0, 14, 17] (
     .reg [0, 14, 17] true [⟨some 113, none, .mv, [.tmp 0]⟩,
       ⟨some 114, none, .mv, [.tmp 17]⟩,
       ⟨some 115, none, .mv, [.tmp 0]⟩,
       ⟨some 116, none, .mv, [.tmp 17]⟩,
       ⟨some 117, none, .bin .sub, [.tmp 116, .const (.int .i64 1)]⟩,
       ⟨some 118, none, .mv, [.tmp 0]⟩,
       ⟨some 119, none, .mv, [.tmp 17]⟩,
       ⟨some 120, none, .bin .sub, [.tmp 119, .const (.int .i64 1)]⟩,
       ⟨some 121, none, .idxAddr 1, [.tmp 118, .tmp 120]⟩,
       ⟨some 122, none, .load 1 false, [.tmp 121]⟩,
       ⟨some 123, none, .mv, [.tmp 0]⟩,
       ⟨some 124, none, .mv, [.tmp 17]⟩,
       ⟨some 125, none, .idxAddr 1, [.tmp 123, .tmp 124]⟩,
       ⟨some 126, none, .load 1 false, [.tmp 125]⟩,
       ⟨some 127, none, .idxAddr 1, [.tmp 113, .tmp 114]⟩,
       ⟨none, none, .store 1, [.tmp 127, .tmp 122]⟩,
       ⟨some 128, none, .idxAddr 1, [.tmp 115, .tmp 117]⟩,
       ⟨none, none, .store 1, [.tmp 128, .tmp 126]⟩])) (
    .reg [0, 14, 17] false [⟨some 111, none, .mv, [.tmp 17]⟩,
      ⟨some 112, none, .bin .sub, [.tmp 111, .const (.int .i64 1)]⟩,
      ⟨some 17, none, .mv, [.tmp 112]⟩]))

/- a loop's body; at its head: [0, 22, 4, 21, 20, 3, 18, 1, 2, 19] -/
def b_slices_symMergeCmpFunc_int__4 : AC :=
  .seq (
   .seq (
    .reg [0, 22, 4, 21, 3, 18, 1, 2, 19, 20] false [⟨some 149, none, .mv, [.tmp 20]⟩,
      ⟨some 150, none, .mv, [.tmp 21]⟩,
      ⟨some 151, none, .bin .lss, [.tmp 149, .tmp 150]⟩]) (
    .cond (.tmp 151) (
     .skip) (
     .exit 8))) (
   .block 9 [0, 22, 4, 21, 20, 3, 18, 1, 2, 19] (
    .seq (
     .reg [0, 22, 4, 21, 3, 18, 1, 2, 19, 20] false [⟨some 152, none, .mv, [.tmp 20]⟩,
       ⟨some 153, none, .mv, [.tmp 21]⟩,
       ⟨some 154, none, .bin .add, [.tmp 152, .tmp 153]⟩,
       ⟨some 155, none, .convInt .u64, [.tmp 154]⟩,
       ⟨some 156, none, .bin .shr, [.tmp 155, .const (.int .u64 1)]⟩,
       ⟨some 157, none, .convInt .i64, [.tmp 156]⟩,
       ⟨some 23, none, .mv, [.tmp 157]⟩]) (
     .seq (
      .reg [0, 22, 4, 21, 3, 18, 1, 2, 19, 23, 20] true [⟨some 158, none, .mv, [.tmp 4]⟩,
        ⟨some 159, none, .mv, [.tmp 0]⟩,
        ⟨some 160, none, .mv, [.tmp 22]⟩,
        ⟨some 161, none, .mv, [.tmp 23]⟩,
        ⟨some 162, none, .bin .sub, [.tmp 160, .tmp 161]⟩,
        ⟨some 163, none, .idxAddr 1, [.tmp 159, .tmp 162]⟩,
        ⟨some 164, none, .load 1 false, [.tmp 163]⟩,
        ⟨some 165, none, .mv, [.tmp 0]⟩,
        ⟨some 166, none, .mv, [.tmp 23]⟩,
        ⟨some 167, none, .idxAddr 1, [.tmp 165, .tmp 166]⟩,
        ⟨some 168, none, .load 1 false, [.tmp 167]⟩,
        ⟨some 169, none, .callv true, [.tmp 158, .tmp 164, .tmp 168]⟩,
        ⟨some 170, none, .bin .lss, [.tmp 169, .const (.int .i64 0)]⟩,
        ⟨some 171, none, .un .not, [.tmp 170]⟩]) (
      .cond (.tmp 171) (
       .reg [0, 22, 4, 21, 3, 18, 1, 2, 19, 23] false [⟨some 172, none, .mv, [.tmp 23]⟩,
         ⟨some 173, none, .bin .add, [.tmp 172, .const (.int .i64 1)]⟩,
         ⟨some 20, none, .mv, [.tmp 173]⟩]) (
       .reg [0, 22, 4, 20, 3, 18, 1, 2, 19, 23] false [⟨some 174, none, .mv, [.tmp 23]⟩,
         ⟨some 21, none, .mv, [.tmp 174]⟩])))))

def b_slices_symMergeCmpFunc_int_ : AC :=
  .seq (
   .seq (
    .reg [1, 0, 4, 3, 2] false [⟨some 25, none, .mv, [.tmp 2]⟩,
      ⟨some 26, none, .mv, [.tmp 1]⟩,
      ⟨some 27, none, .bin .sub, [.tmp 25, .tmp 26]⟩,
      ⟨some 28, none, .bin .eql, [.tmp 27, .const (.int .i64 1)]⟩]) (
    .cond (.tmp 28) (
     .seq (
      .reg [1, 0, 4, 3, 2] false [⟨some 29, none, .mv, [.tmp 2]⟩,
        ⟨some 10, none, .mv, [.tmp 29]⟩]) (
      .seq (
       .reg [1, 0, 4, 10, 3] false [⟨some 30, none, .mv, [.tmp 3]⟩,
         ⟨some 11, none, .mv, [.tmp 30]⟩]) (
       .seq (
        .block 0 [0, 10, 1] (
         .loop [1, 0, 4, 11, 10] b_slices_symMergeCmpFunc_int__0)) (
        .seq (
         .seq (
          .reg [0, 10, 1] false [⟨some 54, none, .mv, [.tmp 1]⟩,
            ⟨some 13, none, .mv, [.tmp 54]⟩]) (
          .block 2 [] (
           .loop [13, 0, 10] b_slices_symMergeCmpFunc_int__1))) (
         .ret))))) (
     .skip))) (
   .seq (
    .seq (
     .reg [0, 2, 4, 1, 3] false [⟨some 77, none, .mv, [.tmp 3]⟩,
       ⟨some 78, none, .mv, [.tmp 2]⟩,
       ⟨some 79, none, .bin .sub, [.tmp 77, .tmp 78]⟩,
       ⟨some 80, none, .bin .eql, [.tmp 79, .const (.int .i64 1)]⟩]) (
     .cond (.tmp 80) (
      .seq (
       .reg [0, 2, 4, 1] false [⟨some 81, none, .mv, [.tmp 1]⟩,
         ⟨some 14, none, .mv, [.tmp 81]⟩]) (
       .seq (
        .reg [0, 2, 4, 14] false [⟨some 82, none, .mv, [.tmp 2]⟩,
          ⟨some 15, none, .mv, [.tmp 82]⟩]) (
        .seq (
         .block 4 [0, 14, 2] (
          .loop [0, 2, 4, 15, 14] b_slices_symMergeCmpFunc_int__2)) (
         .seq (
          .seq (
           .reg [0, 14, 2] false [⟨some 107, none, .mv, [.tmp 2]⟩,
             ⟨some 17, none, .mv, [.tmp 107]⟩]) (
           .block 6 [] (
            .loop [17, 0, 14] b_slices_symMergeCmpFunc_int__3))) (
          .ret))))) (
      .skip))) (
    .seq (
     .reg [0, 4, 3, 1, 2] false [⟨some 129, none, .mv, [.tmp 1]⟩,
       ⟨some 130, none, .mv, [.tmp 3]⟩,
       ⟨some 131, none, .bin .add, [.tmp 129, .tmp 130]⟩,
       ⟨some 132, none, .convInt .u64, [.tmp 131]⟩,
       ⟨some 133, none, .bin .shr, [.tmp 132, .const (.int .u64 1)]⟩,
       ⟨some 134, none, .convInt .i64, [.tmp 133]⟩,
       ⟨some 18, none, .mv, [.tmp 134]⟩]) (
     .seq (
      .reg [0, 4, 3, 18, 1, 2] false [⟨some 135, none, .mv, [.tmp 18]⟩,
        ⟨some 136, none, .mv, [.tmp 2]⟩,
        ⟨some 137, none, .bin .add, [.tmp 135, .tmp 136]⟩,
        ⟨some 19, none, .mv, [.tmp 137]⟩]) (
      .seq (
       .reg [0, 4, 3, 18, 1, 2, 19] false [⟨some 20, none, .mv, [.const (.int .i64 0)]⟩,
         ⟨some 21, none, .mv, [.const (.int .i64 0)]⟩]) (
       .seq (
        .seq (
         .reg [0, 4, 3, 18, 1, 2, 19] false [⟨some 138, none, .mv, [.tmp 2]⟩,
           ⟨some 139, none, .mv, [.tmp 18]⟩,
           ⟨some 140, none, .bin .gtr, [.tmp 138, .tmp 139]⟩]) (
         .cond (.tmp 140) (
          .seq (
           .reg [0, 4, 3, 18, 1, 2, 19] false [⟨some 141, none, .mv, [.tmp 19]⟩,
             ⟨some 142, none, .mv, [.tmp 3]⟩,
             ⟨some 143, none, .bin .sub, [.tmp 141, .tmp 142]⟩,
             ⟨some 20, none, .mv, [.tmp 143]⟩]) (
           .reg [0, 4, 20, 3, 18, 1, 2, 19] false [⟨some 144, none, .mv, [.tmp 18]⟩,
             ⟨some 21, none, .mv, [.tmp 144]⟩])) (
          .seq (
           .reg [0, 4, 3, 18, 1, 2, 19] false [⟨some 145, none, .mv, [.tmp 1]⟩,
             ⟨some 20, none, .mv, [.tmp 145]⟩]) (
           .reg [0, 4, 20, 3, 18, 1, 2, 19] false [⟨some 146, none, .mv, [.tmp 2]⟩,
             ⟨some 21, none, .mv, [.tmp 146]⟩])))) (
        .seq (
         .reg [0, 4, 21, 20, 3, 18, 1, 2, 19] false [⟨some 147, none, .mv, [.tmp 19]⟩,
           ⟨some 148, none, .bin .sub, [.tmp 147, .const (.int .i64 1)]⟩,
           ⟨some 22, none, .mv, [.tmp 148]⟩]) (
         .seq (
          .block 8 [4, 3, 18, 0, 20, 1, 2, 19] (
           .loop [0, 22, 4, 21, 20, 3, 18, 1, 2, 19] b_slices_symMergeCmpFunc_int__4)) (
          .seq (
           .reg [4, 3, 18, 0, 20, 1, 2, 19] false [⟨some 175, none, .mv, [.tmp 19]⟩,
             ⟨some 176, none, .mv, [.tmp 20]⟩,
             ⟨some 177, none, .bin .sub, [.tmp 175, .tmp 176]⟩,
             ⟨some 24, none, .mv, [.tmp 177]⟩]) (
           .seq (
            .seq (
             .reg [4, 3, 24, 18, 0, 20, 1, 2] false [⟨some 178, none, .mv, [.tmp 20]⟩,
               ⟨some 179, none, .mv, [.tmp 2]⟩,
               ⟨some 180, none, .bin .lss, [.tmp 178, .tmp 179]⟩,
               ⟨some 181, none, .mv, [.tmp 180]⟩,
               ⟨some 182, some (181, true), .mv, [.tmp 2]⟩,
               ⟨some 183, some (181, true), .mv, [.tmp 24]⟩,
               ⟨some 184, some (181, true), .bin .lss, [.tmp 182, .tmp 183]⟩,
               ⟨some 185, none, .pick, [.tmp 181, .tmp 184, .const (.bool false)]⟩]) (
             .cond (.tmp 185) (
              .reg [4, 3, 24, 18, 0, 20, 1, 2] false [⟨some 186, none, .mv, [.tmp 0]⟩,
                ⟨some 187, none, .mv, [.tmp 20]⟩,
                ⟨some 188, none, .mv, [.tmp 2]⟩,
                ⟨some 189, none, .mv, [.tmp 24]⟩,
                ⟨some 190, none, .mv, [.tmp 4]⟩,
                ⟨some 191, none, .call f_slices_rotateCmpFunc_int_ false, [.tmp 186, .tmp 187, .tmp 188, .tmp 189, .tmp 190]⟩]) (
              .skip))) (
            .seq (
             .seq (
              .reg [4, 3, 24, 18, 0, 20, 1] false [⟨some 192, none, .mv, [.tmp 1]⟩,
                ⟨some 193, none, .mv, [.tmp 20]⟩,
                ⟨some 194, none, .bin .lss, [.tmp 192, .tmp 193]⟩,
                ⟨some 195, none, .mv, [.tmp 194]⟩,
                ⟨some 196, some (195, true), .mv, [.tmp 20]⟩,
                ⟨some 197, some (195, true), .mv, [.tmp 18]⟩,
                ⟨some 198, some (195, true), .bin .lss, [.tmp 196, .tmp 197]⟩,
                ⟨some 199, none, .pick, [.tmp 195, .tmp 198, .const (.bool false)]⟩]) (
              .cond (.tmp 199) (
               .reg [4, 3, 24, 18, 0, 20, 1] false [⟨some 200, none, .mv, [.tmp 0]⟩,
                 ⟨some 201, none, .mv, [.tmp 1]⟩,
                 ⟨some 202, none, .mv, [.tmp 20]⟩,
                 ⟨some 203, none, .mv, [.tmp 18]⟩,
                 ⟨some 204, none, .mv, [.tmp 4]⟩,
                 ⟨some 205, none, .call f_slices_symMergeCmpFunc_int_ false, [.tmp 200, .tmp 201, .tmp 202, .tmp 203, .tmp 204]⟩]) (
               .skip))) (
             .seq (
              .reg [4, 3, 24, 18, 0] false [⟨some 206, none, .mv, [.tmp 18]⟩,
                ⟨some 207, none, .mv, [.tmp 24]⟩,
                ⟨some 208, none, .bin .lss, [.tmp 206, .tmp 207]⟩,
                ⟨some 209, none, .mv, [.tmp 208]⟩,
                ⟨some 210, some (209, true), .mv, [.tmp 24]⟩,
                ⟨some 211, some (209, true), .mv, [.tmp 3]⟩,
                ⟨some 212, some (209, true), .bin .lss, [.tmp 210, .tmp 211]⟩,
                ⟨some 213, none, .pick, [.tmp 209, .tmp 212, .const (.bool false)]⟩]) (
              .cond (.tmp 213) (
               .reg [4, 3, 24, 18, 0] false [⟨some 214, none, .mv, [.tmp 0]⟩,
                 ⟨some 215, none, .mv, [.tmp 18]⟩,
                 ⟨some 216, none, .mv, [.tmp 24]⟩,
                 ⟨some 217, none, .mv, [.tmp 3]⟩,
                 ⟨some 218, none, .mv, [.tmp 4]⟩,
                 ⟨some 219, none, .call f_slices_symMergeCmpFunc_int_ false, [.tmp 214, .tmp 215, .tmp 216, .tmp 217, .tmp 218]⟩]) (
               .skip)))))))))))))
def a_slices_symMergeCmpFunc_int_ : AF := { results := [], body := b_slices_symMergeCmpFunc_int_ }

/- cmp.isNaN[string], 1 params, 0 free: [] -/
def b_cmp_isNaN_string_ : AC :=
  .seq (
   .reg [0] false [⟨some 2, none, .mv, [.const (.bool false)]⟩]) (
   .seq (
    .reg [0] false [⟨some 3, none, .mv, [.tmp 0]⟩,
      ⟨some 4, none, .mv, [.tmp 0]⟩,
      ⟨some 5, none, .bin .neq, [.tmp 3, .tmp 4]⟩,
      ⟨some 2, none, .mv, [.tmp 5]⟩]) (
    .ret))
def a_cmp_isNaN_string_ : AF := { results := [.tmp 2], body := b_cmp_isNaN_string_ }

/- sccsettle/sccsettlebig.add, 2 params, 0 free: [] -/
/- a loop's body; at its head: [7, 5, 1, 0, 6] -/
def b_sccsettlebig_add_0 : AC :=
  .seq (
   .seq (
    .reg [5, 1, 0, 7, 6] false [⟨some 19, none, .mv, [.tmp 7]⟩,
      ⟨some 20, none, .mv, [.tmp 0]⟩,
      ⟨some 21, none, .len false, [.tmp 20]⟩,
      ⟨some 22, none, .bin .lss, [.tmp 19, .tmp 21]⟩]) (
    .cond (.tmp 22) (
     .skip) (
     .exit 0))) (
   .seq (
    .block 1 [5, 1, 0, 6, 7] (
     .seq (
      .reg [5, 1, 0, 7, 6] false [⟨some 25, none, .mv, [.tmp 6]⟩,
        ⟨some 26, none, .mv, [.tmp 0]⟩,
        ⟨some 27, none, .mv, [.tmp 7]⟩,
        ⟨some 28, none, .idxAddr 1, [.tmp 26, .tmp 27]⟩,
        ⟨some 29, none, .load 1 false, [.tmp 28]⟩,
        ⟨some 30, none, .convInt .u64, [.tmp 29]⟩,
        ⟨some 31, none, .bin .add, [.tmp 25, .tmp 30]⟩,
        ⟨some 6, none, .mv, [.tmp 31]⟩]) (
      .seq (
       .seq (
        .reg [5, 1, 0, 7, 6] false [⟨some 32, none, .mv, [.tmp 7]⟩,
          ⟨some 33, none, .mv, [.tmp 1]⟩,
          ⟨some 34, none, .len false, [.tmp 33]⟩,
          ⟨some 35, none, .bin .lss, [.tmp 32, .tmp 34]⟩]) (
        .cond (.tmp 35) (
         .reg [5, 1, 0, 7, 6] false [⟨some 36, none, .mv, [.tmp 6]⟩,
           ⟨some 37, none, .mv, [.tmp 1]⟩,
           ⟨some 38, none, .mv, [.tmp 7]⟩,
           ⟨some 39, none, .idxAddr 1, [.tmp 37, .tmp 38]⟩,
           ⟨some 40, none, .load 1 false, [.tmp 39]⟩,
           ⟨some 41, none, .convInt .u64, [.tmp 40]⟩,
           ⟨some 42, none, .bin .add, [.tmp 36, .tmp 41]⟩,
           ⟨some 6, none, .mv, [.tmp 42]⟩]) (
         .skip))) (
       .seq (
        .reg [5, 1, 0, 7, 6] false [⟨some 43, none, .mv, [.tmp 5]⟩,
          ⟨some 44, none, .mv, [.tmp 7]⟩,
          ⟨some 45, none, .mv, [.tmp 6]⟩,
          ⟨some 46, none, .convInt .u32, [.tmp 45]⟩,
          ⟨some 47, none, .idxAddr 1, [.tmp 43, .tmp 44]⟩,
          ⟨none, none, .store 1, [.tmp 47, .tmp 46]⟩]) (
        .reg [5, 1, 0, 7, 6] false [⟨some 48, none, .mv, [.tmp 6]⟩,
          ⟨some 49, none, .bin .shr, [.tmp 48, .const (.int .u64 32)]⟩,
          ⟨some 6, none, .mv, [.tmp 49]⟩]))))) (
    .reg [5, 1, 0, 6, 7] false [⟨some 23, none, .mv, [.tmp 7]⟩,
      ⟨some 24, none, .bin .add, [.tmp 23, .const (.int .i64 1)]⟩,
      ⟨some 7, none, .mv, [.tmp 24]⟩]))

def b_sccsettlebig_add : AC :=
  .seq (
   .reg [0, 1] false [⟨some 4, none, .mv, [.const (.lst (some true) 0 [])]⟩]) (
   .seq (
    .seq (
     .reg [0, 1] false [⟨some 8, none, .mv, [.tmp 0]⟩,
       ⟨some 9, none, .len false, [.tmp 8]⟩,
       ⟨some 10, none, .mv, [.tmp 1]⟩,
       ⟨some 11, none, .len false, [.tmp 10]⟩,
       ⟨some 12, none, .bin .lss, [.tmp 9, .tmp 11]⟩]) (
     .cond (.tmp 12) (
      .reg [0, 1] false [⟨some 13, none, .mv, [.tmp 1]⟩,
        ⟨some 14, none, .mv, [.tmp 0]⟩,
        ⟨some 0, none, .mv, [.tmp 13]⟩,
        ⟨some 1, none, .mv, [.tmp 14]⟩]) (
      .skip))) (
    .seq (
     .reg [1, 0] false [⟨some 15, none, .mv, [.tmp 0]⟩,
       ⟨some 16, none, .len false, [.tmp 15]⟩,
       ⟨some 17, none, .bin .add, [.tmp 16, .const (.int .i64 1)]⟩,
       ⟨some 18, none, .make 1 4 (.int .u32 0), [.tmp 17, .tmp 17]⟩,
       ⟨some 5, none, .mv, [.tmp 18]⟩]) (
     .seq (
      .reg [5, 1, 0] false [⟨some 6, none, .mv, [.const (.int .u64 0)]⟩]) (
      .seq (
       .seq (
        .reg [5, 1, 0, 6] false [⟨some 7, none, .mv, [.const (.int .i64 0)]⟩]) (
        .block 0 [5, 6, 0] (
         .loop [7, 5, 1, 0, 6] b_sccsettlebig_add_0))) (
       .seq (
        .reg [5, 6, 0] false [⟨some 50, none, .mv, [.tmp 5]⟩,
          ⟨some 51, none, .mv, [.tmp 0]⟩,
          ⟨some 52, none, .len false, [.tmp 51]⟩,
          ⟨some 53, none, .mv, [.tmp 6]⟩,
          ⟨some 54, none, .convInt .u32, [.tmp 53]⟩,
          ⟨some 55, none, .idxAddr 1, [.tmp 50, .tmp 52]⟩,
          ⟨none, none, .store 1, [.tmp 55, .tmp 54]⟩]) (
        .seq (
         .reg [5] false [⟨some 56, none, .mv, [.tmp 5]⟩,
           ⟨some 57, none, .call f_sccsettlebig_trim true, [.tmp 56]⟩,
           ⟨some 4, none, .mv, [.tmp 57]⟩]) (
         .ret)))))))
def a_sccsettlebig_add : AF := { results := [.tmp 4], body := b_sccsettlebig_add }

/- sccsettle/sccsettlebig.cmp, 2 params, 0 free: [] -/
/- a loop's body; at its head: [5, 1, 0] -/
def b_sccsettlebig_cmp_0 : AC :=
  .seq (
   .seq (
    .reg [5, 1, 0] false [⟨some 19, none, .mv, [.tmp 5]⟩,
      ⟨some 20, none, .bin .geq, [.tmp 19, .const (.int .i64 0)]⟩]) (
    .cond (.tmp 20) (
     .skip) (
     .exit 0))) (
   .seq (
    .block 1 [1, 0, 5] (
     .seq (
      .reg [5, 1, 0] true [⟨some 23, none, .mv, [.tmp 0]⟩,
        ⟨some 24, none, .mv, [.tmp 5]⟩,
        ⟨some 25, none, .idxAddr 1, [.tmp 23, .tmp 24]⟩,
        ⟨some 26, none, .load 1 false, [.tmp 25]⟩,
        ⟨some 27, none, .mv, [.tmp 1]⟩,
        ⟨some 28, none, .mv, [.tmp 5]⟩,
        ⟨some 29, none, .idxAddr 1, [.tmp 27, .tmp 28]⟩,
        ⟨some 30, none, .load 1 false, [.tmp 29]⟩,
        ⟨some 31, none, .bin .neq, [.tmp 26, .tmp 30]⟩]) (
      .cond (.tmp 31) (
       .seq (
        .seq (
         .reg [5, 1, 0] true [⟨some 32, none, .mv, [.tmp 0]⟩,
           ⟨some 33, none, .mv, [.tmp 5]⟩,
           ⟨some 34, none, .idxAddr 1, [.tmp 32, .tmp 33]⟩,
           ⟨some 35, none, .load 1 false, [.tmp 34]⟩,
           ⟨some 36, none, .mv, [.tmp 1]⟩,
           ⟨some 37, none, .mv, [.tmp 5]⟩,
           ⟨some 38, none, .idxAddr 1, [.tmp 36, .tmp 37]⟩,
           ⟨some 39, none, .load 1 false, [.tmp 38]⟩,
           ⟨some 40, none, .bin .lss, [.tmp 35, .tmp 39]⟩]) (
         .cond (.tmp 40) (
          .seq (
           .reg [] false [⟨some 4, none, .mv, [.const (.int .i64 (-1))]⟩]) (
           .ret)) (
          .skip))) (
        .seq (
         .reg [] false [⟨some 4, none, .mv, [.const (.int .i64 1)]⟩]) (
         .ret))) (
       .skip)))) (
    .reg [1, 0, 5] false [⟨some 21, none, .mv, [.tmp 5]⟩,
      ⟨some 22, none, .bin .sub, [.tmp 21, .const (.int .i64 1)]⟩,
      ⟨some 5, none, .mv, [.tmp 22]⟩]))

def b_sccsettlebig_cmp : AC :=
  .seq (
   .reg [1, 0] false [⟨some 4, none, .mv, [.const (.int .i64 0)]⟩]) (
   .seq (
    .seq (
     .reg [1, 0] false [⟨some 6, none, .mv, [.tmp 0]⟩,
       ⟨some 7, none, .len false, [.tmp 6]⟩,
       ⟨some 8, none, .mv, [.tmp 1]⟩,
       ⟨some 9, none, .len false, [.tmp 8]⟩,
       ⟨some 10, none, .bin .neq, [.tmp 7, .tmp 9]⟩]) (
     .cond (.tmp 10) (
      .seq (
       .seq (
        .reg [1, 0] false [⟨some 11, none, .mv, [.tmp 0]⟩,
          ⟨some 12, none, .len false, [.tmp 11]⟩,
          ⟨some 13, none, .mv, [.tmp 1]⟩,
          ⟨some 14, none, .len false, [.tmp 13]⟩,
          ⟨some 15, none, .bin .lss, [.tmp 12, .tmp 14]⟩]) (
        .cond (.tmp 15) (
         .seq (
          .reg [] false [⟨some 4, none, .mv, [.const (.int .i64 (-1))]⟩]) (
          .ret)) (
         .skip))) (
       .seq (
        .reg [] false [⟨some 4, none, .mv, [.const (.int .i64 1)]⟩]) (
        .ret))) (
      .skip))) (
    .seq (
     .seq (
      .reg [1, 0] false [⟨some 16, none, .mv, [.tmp 0]⟩,
        ⟨some 17, none, .len false, [.tmp 16]⟩,
        ⟨some 18, none, .bin .sub, [.tmp 17, .const (.int .i64 1)]⟩,
        ⟨some 5, none, .mv, [.tmp 18]⟩]) (
      .block 0 [] (
       .loop [5, 1, 0] b_sccsettlebig_cmp_0))) (
     .seq (
      .reg [] false [⟨some 4, none, .mv, [.const (.int .i64 0)]⟩]) (
      .ret))))
def a_sccsettlebig_cmp : AF := { results := [.tmp 4], body := b_sccsettlebig_cmp }

/- sccsettle/sccsettlebig.sub, 2 params, 0 free: [] -/
/- a loop's body; at its head: [7, 5, 1, 6, 0] -/
def b_sccsettlebig_sub_0 : AC :=
  .seq (
   .seq (
    .reg [5, 1, 0, 7, 6] false [⟨some 12, none, .mv, [.tmp 7]⟩,
      ⟨some 13, none, .mv, [.tmp 0]⟩,
      ⟨some 14, none, .len false, [.tmp 13]⟩,
      ⟨some 15, none, .bin .lss, [.tmp 12, .tmp 14]⟩]) (
    .cond (.tmp 15) (
     .skip) (
     .exit 0))) (
   .seq (
    .block 1 [5, 1, 6, 0, 7] (
     .seq (
      .reg [5, 1, 0, 7, 6] false [⟨some 18, none, .mv, [.tmp 0]⟩,
        ⟨some 19, none, .mv, [.tmp 7]⟩,
        ⟨some 20, none, .idxAddr 1, [.tmp 18, .tmp 19]⟩,
        ⟨some 21, none, .load 1 false, [.tmp 20]⟩,
        ⟨some 22, none, .convInt .u64, [.tmp 21]⟩,
        ⟨some 23, none, .mv, [.tmp 6]⟩,
        ⟨some 24, none, .bin .sub, [.tmp 22, .tmp 23]⟩,
        ⟨some 8, none, .mv, [.tmp 24]⟩]) (
      .seq (
       .seq (
        .reg [5, 1, 0, 7, 8] false [⟨some 25, none, .mv, [.tmp 7]⟩,
          ⟨some 26, none, .mv, [.tmp 1]⟩,
          ⟨some 27, none, .len false, [.tmp 26]⟩,
          ⟨some 28, none, .bin .lss, [.tmp 25, .tmp 27]⟩]) (
        .cond (.tmp 28) (
         .reg [5, 1, 0, 7, 8] false [⟨some 29, none, .mv, [.tmp 8]⟩,
           ⟨some 30, none, .mv, [.tmp 1]⟩,
           ⟨some 31, none, .mv, [.tmp 7]⟩,
           ⟨some 32, none, .idxAddr 1, [.tmp 30, .tmp 31]⟩,
           ⟨some 33, none, .load 1 false, [.tmp 32]⟩,
           ⟨some 34, none, .convInt .u64, [.tmp 33]⟩,
           ⟨some 35, none, .bin .sub, [.tmp 29, .tmp 34]⟩,
           ⟨some 8, none, .mv, [.tmp 35]⟩]) (
         .skip))) (
       .seq (
        .reg [5, 1, 0, 7, 8] false [⟨some 36, none, .mv, [.tmp 5]⟩,
          ⟨some 37, none, .mv, [.tmp 7]⟩,
          ⟨some 38, none, .mv, [.tmp 8]⟩,
          ⟨some 39, none, .convInt .u32, [.tmp 38]⟩,
          ⟨some 40, none, .idxAddr 1, [.tmp 36, .tmp 37]⟩,
          ⟨none, none, .store 1, [.tmp 40, .tmp 39]⟩]) (
        .reg [5, 1, 0, 7, 8] false [⟨some 41, none, .mv, [.tmp 8]⟩,
          ⟨some 42, none, .bin .shr, [.tmp 41, .const (.int .u64 63)]⟩,
          ⟨some 6, none, .mv, [.tmp 42]⟩]))))) (
    .reg [5, 1, 6, 0, 7] false [⟨some 16, none, .mv, [.tmp 7]⟩,
      ⟨some 17, none, .bin .add, [.tmp 16, .const (.int .i64 1)]⟩,
      ⟨some 7, none, .mv, [.tmp 17]⟩]))

def b_sccsettlebig_sub : AC :=
  .seq (
   .reg [1, 0] false [⟨some 4, none, .mv, [.const (.lst (some true) 0 [])]⟩]) (
   .seq (
    .reg [1, 0] false [⟨some 9, none, .mv, [.tmp 0]⟩,
      ⟨some 10, none, .len false, [.tmp 9]⟩,
      ⟨some 11, none, .make 1 4 (.int .u32 0), [.tmp 10, .tmp 10]⟩,
      ⟨some 5, none, .mv, [.tmp 11]⟩]) (
    .seq (
     .reg [5, 1, 0] false [⟨some 6, none, .mv, [.const (.int .u64 0)]⟩]) (
     .seq (
      .seq (
       .reg [5, 1, 6, 0] false [⟨some 7, none, .mv, [.const (.int .i64 0)]⟩]) (
       .block 0 [5] (
        .loop [7, 5, 1, 6, 0] b_sccsettlebig_sub_0))) (
      .seq (
       .reg [5] false [⟨some 43, none, .mv, [.tmp 5]⟩,
         ⟨some 44, none, .call f_sccsettlebig_trim true, [.tmp 43]⟩,
         ⟨some 4, none, .mv, [.tmp 44]⟩]) (
       .ret)))))
def a_sccsettlebig_sub : AF := { results := [.tmp 4], body := b_sccsettlebig_sub }

/- sccsettle/sccsettlebig.length, 1 params, 0 free: [] -/
/- a loop's body; at its head: [4, 3, 0] -/
def b_sccsettlebig_length_0 : AC :=
  .seq (
   .seq (
    .reg [0, 4, 3] false [⟨some 14, none, .mv, [.tmp 4]⟩,
      ⟨some 15, none, .bin .neq, [.tmp 14, .const (.int .u32 0)]⟩]) (
    .cond (.tmp 15) (
     .skip) (
     .exit 0))) (
   .seq (
    .block 1 [3, 0, 4] (
     .reg [0, 4, 3] false [⟨some 18, none, .mv, [.tmp 3]⟩,
       ⟨some 19, none, .bin .add, [.tmp 18, .const (.int .i64 1)]⟩,
       ⟨some 3, none, .mv, [.tmp 19]⟩])) (
    .reg [3, 0, 4] false [⟨some 16, none, .mv, [.tmp 4]⟩,
      ⟨some 17, none, .bin .shr, [.tmp 16, .const (.int .u64 1)]⟩,
      ⟨some 4, none, .mv, [.tmp 17]⟩]))

def b_sccsettlebig_length : AC :=
  .seq (
   .reg [0] false [⟨some 2, none, .mv, [.const (.int .i64 0)]⟩]) (
   .seq (
    .seq (
     .reg [0] false [⟨some 5, none, .mv, [.tmp 0]⟩,
       ⟨some 6, none, .len false, [.tmp 5]⟩,
       ⟨some 7, none, .bin .eql, [.tmp 6, .const (.int .i64 0)]⟩]) (
     .cond (.tmp 7) (
      .seq (
       .reg [] false [⟨some 2, none, .mv, [.const (.int .i64 0)]⟩]) (
       .ret)) (
      .skip))) (
    .seq (
     .reg [0] false [⟨some 3, none, .mv, [.const (.int .i64 0)]⟩]) (
     .seq (
      .seq (
       .reg [3, 0] false [⟨some 8, none, .mv, [.tmp 0]⟩,
         ⟨some 9, none, .mv, [.tmp 0]⟩,
         ⟨some 10, none, .len false, [.tmp 9]⟩,
         ⟨some 11, none, .bin .sub, [.tmp 10, .const (.int .i64 1)]⟩,
         ⟨some 12, none, .idxAddr 1, [.tmp 8, .tmp 11]⟩,
         ⟨some 13, none, .load 1 false, [.tmp 12]⟩,
         ⟨some 4, none, .mv, [.tmp 13]⟩]) (
       .block 0 [3, 0] (
        .loop [4, 3, 0] b_sccsettlebig_length_0))) (
      .seq (
       .reg [3, 0] false [⟨some 20, none, .mv, [.tmp 0]⟩,
         ⟨some 21, none, .len false, [.tmp 20]⟩,
         ⟨some 22, none, .bin .sub, [.tmp 21, .const (.int .i64 1)]⟩,
         ⟨some 23, none, .bin .mul, [.tmp 22, .const (.int .i64 32)]⟩,
         ⟨some 24, none, .mv, [.tmp 3]⟩,
         ⟨some 25, none, .bin .add, [.tmp 23, .tmp 24]⟩,
         ⟨some 2, none, .mv, [.tmp 25]⟩]) (
       .ret)))))
def a_sccsettlebig_length : AF := { results := [.tmp 2], body := b_sccsettlebig_length }

/- (*sccsettle/sccsettlebig.Int).TrailingZeroBits, 1 params, 0 free: [] -/
/- a loop's body; at its head: [3, 0] -/
def b_sccsettlebig_Int__TrailingZeroBits_0 : AC :=
  .seq (
   .seq (
    .reg [0, 3] false [⟨some 10, none, .mv, [.tmp 0]⟩,
      ⟨some 11, none, .nilchk, [.tmp 10]⟩,
      ⟨some 12, none, .fieldAddr 1, [.tmp 11]⟩,
      ⟨some 13, none, .load 1 false, [.tmp 12]⟩,
      ⟨some 14, none, .mv, [.tmp 3]⟩,
      ⟨some 15, none, .convInt .i64, [.tmp 14]⟩,
      ⟨some 16, none, .call f_sccsettlebig_bit true, [.tmp 13, .tmp 15]⟩,
      ⟨some 17, none, .bin .eql, [.tmp 16, .const (.int .u64 0)]⟩]) (
    .cond (.tmp 17) (
     .skip) (
     .exit 0))) (
   .block 1 [3, 0] (
    .reg [0, 3] false [⟨some 18, none, .mv, [.tmp 3]⟩,
      ⟨some 19, none, .bin .add, [.tmp 18, .const (.int .u64 1)]⟩,
      ⟨some 3, none, .mv, [.tmp 19]⟩]))

def b_sccsettlebig_Int__TrailingZeroBits : AC :=
  .seq (
   .reg [0] false [⟨some 2, none, .mv, [.const (.int .u64 0)]⟩]) (
   .seq (
    .reg [0] false [⟨some 3, none, .mv, [.const (.int .u64 0)]⟩]) (
    .seq (
     .seq (
      .reg [3, 0] false [⟨some 4, none, .mv, [.tmp 0]⟩,
        ⟨some 5, none, .nilchk, [.tmp 4]⟩,
        ⟨some 6, none, .fieldAddr 1, [.tmp 5]⟩,
        ⟨some 7, none, .load 1 false, [.tmp 6]⟩,
        ⟨some 8, none, .len false, [.tmp 7]⟩,
        ⟨some 9, none, .bin .eql, [.tmp 8, .const (.int .i64 0)]⟩]) (
      .cond (.tmp 9) (
       .seq (
        .reg [] false [⟨some 2, none, .mv, [.const (.int .u64 0)]⟩]) (
        .ret)) (
       .skip))) (
     .seq (
      .block 0 [3] (
       .loop [3, 0] b_sccsettlebig_Int__TrailingZeroBits_0)) (
      .seq (
       .reg [3] false [⟨some 20, none, .mv, [.tmp 3]⟩,
         ⟨some 2, none, .mv, [.tmp 20]⟩]) (
       .ret)))))
def a_sccsettlebig_Int__TrailingZeroBits : AF := { results := [.tmp 2], body := b_sccsettlebig_Int__TrailingZeroBits }

/- slices.rotateCmpFunc[int], 5 params, 0 free: [] -/
/- a loop's body; at its head: [11, 10, 4, 2, 0] -/
def b_slices_rotateCmpFunc_int__0 : AC :=
  .seq (
   .seq (
    .reg [11, 4, 2, 0, 10] false [⟨some 18, none, .mv, [.tmp 10]⟩,
      ⟨some 19, none, .mv, [.tmp 11]⟩,
      ⟨some 20, none, .bin .neq, [.tmp 18, .tmp 19]⟩]) (
    .cond (.tmp 20) (
     .skip) (
     .exit 0))) (
   .block 1 [11, 10, 4, 2, 0] (
    .seq (
     .reg [11, 4, 2, 0, 10] false [⟨some 21, none, .mv, [.tmp 10]⟩,
       ⟨some 22, none, .mv, [.tmp 11]⟩,
       ⟨some 23, none, .bin .gtr, [.tmp 21, .tmp 22]⟩]) (
     .cond (.tmp 23) (
      .seq (
       .reg [11, 4, 2, 0, 10] false [⟨some 24, none, .mv, [.tmp 0]⟩,
         ⟨some 25, none, .mv, [.tmp 2]⟩,
         ⟨some 26, none, .mv, [.tmp 10]⟩,
         ⟨some 27, none, .bin .sub, [.tmp 25, .tmp 26]⟩,
         ⟨some 28, none, .mv, [.tmp 2]⟩,
         ⟨some 29, none, .mv, [.tmp 11]⟩,
         ⟨some 30, none, .mv, [.tmp 4]⟩,
         ⟨some 31, none, .call f_slices_swapRangeCmpFunc_int_ false, [.tmp 24, .tmp 27, .tmp 28, .tmp 29, .tmp 30]⟩]) (
       .reg [11, 4, 2, 0, 10] false [⟨some 32, none, .mv, [.tmp 10]⟩,
         ⟨some 33, none, .mv, [.tmp 11]⟩,
         ⟨some 34, none, .bin .sub, [.tmp 32, .tmp 33]⟩,
         ⟨some 10, none, .mv, [.tmp 34]⟩])) (
      .seq (
       .reg [10, 4, 2, 0, 11] false [⟨some 35, none, .mv, [.tmp 0]⟩,
         ⟨some 36, none, .mv, [.tmp 2]⟩,
         ⟨some 37, none, .mv, [.tmp 10]⟩,
         ⟨some 38, none, .bin .sub, [.tmp 36, .tmp 37]⟩,
         ⟨some 39, none, .mv, [.tmp 2]⟩,
         ⟨some 40, none, .mv, [.tmp 11]⟩,
         ⟨some 41, none, .bin .add, [.tmp 39, .tmp 40]⟩,
         ⟨some 42, none, .mv, [.tmp 10]⟩,
         ⟨some 43, none, .bin .sub, [.tmp 41, .tmp 42]⟩,
         ⟨some 44, none, .mv, [.tmp 10]⟩,
         ⟨some 45, none, .mv, [.tmp 4]⟩,
         ⟨some 46, none, .call f_slices_swapRangeCmpFunc_int_ false, [.tmp 35, .tmp 38, .tmp 43, .tmp 44, .tmp 45]⟩]) (
       .reg [10, 4, 2, 0, 11] false [⟨some 47, none, .mv, [.tmp 11]⟩,
         ⟨some 48, none, .mv, [.tmp 10]⟩,
         ⟨some 49, none, .bin .sub, [.tmp 47, .tmp 48]⟩,
         ⟨some 11, none, .mv, [.tmp 49]⟩])))))

def b_slices_rotateCmpFunc_int_ : AC :=
  .seq (
   .reg [4, 2, 0, 3, 1] false [⟨some 12, none, .mv, [.tmp 2]⟩,
     ⟨some 13, none, .mv, [.tmp 1]⟩,
     ⟨some 14, none, .bin .sub, [.tmp 12, .tmp 13]⟩,
     ⟨some 10, none, .mv, [.tmp 14]⟩]) (
   .seq (
    .reg [10, 4, 2, 0, 3] false [⟨some 15, none, .mv, [.tmp 3]⟩,
      ⟨some 16, none, .mv, [.tmp 2]⟩,
      ⟨some 17, none, .bin .sub, [.tmp 15, .tmp 16]⟩,
      ⟨some 11, none, .mv, [.tmp 17]⟩]) (
    .seq (
     .block 0 [4, 10, 2, 0] (
      .loop [11, 10, 4, 2, 0] b_slices_rotateCmpFunc_int__0)) (
     .reg [4, 10, 2, 0] false [⟨some 50, none, .mv, [.tmp 0]⟩,
       ⟨some 51, none, .mv, [.tmp 2]⟩,
       ⟨some 52, none, .mv, [.tmp 10]⟩,
       ⟨some 53, none, .bin .sub, [.tmp 51, .tmp 52]⟩,
       ⟨some 54, none, .mv, [.tmp 2]⟩,
       ⟨some 55, none, .mv, [.tmp 10]⟩,
       ⟨some 56, none, .mv, [.tmp 4]⟩,
       ⟨some 57, none, .call f_slices_swapRangeCmpFunc_int_ false, [.tmp 50, .tmp 53, .tmp 54, .tmp 55, .tmp 56]⟩])))
def a_slices_rotateCmpFunc_int_ : AF := { results := [], body := b_slices_rotateCmpFunc_int_ }

/- sccsettle/sccsettlebig.bit, 2 params, 0 free: [] -/
def b_sccsettlebig_bit : AC :=
  .seq (
   .reg [1, 0] false [⟨some 4, none, .mv, [.const (.int .u64 0)]⟩]) (
   .seq (
    .seq (
     .reg [1, 0] false [⟨some 5, none, .mv, [.tmp 1]⟩,
       ⟨some 6, none, .bin .lss, [.tmp 5, .const (.int .i64 0)]⟩,
       ⟨some 7, none, .mv, [.tmp 6]⟩,
       ⟨some 8, some (7, false), .mv, [.tmp 1]⟩,
       ⟨some 9, some (7, false), .bin .quo, [.tmp 8, .const (.int .i64 32)]⟩,
       ⟨some 10, some (7, false), .mv, [.tmp 0]⟩,
       ⟨some 11, some (7, false), .len false, [.tmp 10]⟩,
       ⟨some 12, some (7, false), .bin .geq, [.tmp 9, .tmp 11]⟩,
       ⟨some 13, none, .pick, [.tmp 7, .const (.bool true), .tmp 12]⟩]) (
     .cond (.tmp 13) (
      .seq (
       .reg [] false [⟨some 4, none, .mv, [.const (.int .u64 0)]⟩]) (
       .ret)) (
      .skip))) (
    .seq (
     .reg [1, 0] false [⟨some 14, none, .mv, [.tmp 0]⟩,
       ⟨some 15, none, .mv, [.tmp 1]⟩,
       ⟨some 16, none, .bin .quo, [.tmp 15, .const (.int .i64 32)]⟩,
       ⟨some 17, none, .idxAddr 1, [.tmp 14, .tmp 16]⟩,
       ⟨some 18, none, .load 1 false, [.tmp 17]⟩,
       ⟨some 19, none, .mv, [.tmp 1]⟩,
       ⟨some 20, none, .convInt .u64, [.tmp 19]⟩,
       ⟨some 21, none, .bin .rem, [.tmp 20, .const (.int .u64 32)]⟩,
       ⟨some 22, none, .bin .shr, [.tmp 18, .tmp 21]⟩,
       ⟨some 23, none, .convInt .u64, [.tmp 22]⟩,
       ⟨some 24, none, .bin .and, [.tmp 23, .const (.int .u64 1)]⟩,
       ⟨some 4, none, .mv, [.tmp 24]⟩]) (
     .ret)))
def a_sccsettlebig_bit : AF := { results := [.tmp 4], body := b_sccsettlebig_bit }

/- slices.swapRangeCmpFunc[int], 5 params, 0 free: [] -/
/- a loop's body; at its head: [10, 1, 0, 2, 3] -/
def b_slices_swapRangeCmpFunc_int__0 : AC :=
  .seq (
   .seq (
    .reg [1, 0, 2, 3, 10] false [⟨some 11, none, .mv, [.tmp 10]⟩,
      ⟨some 12, none, .mv, [.tmp 3]⟩,
      ⟨some 13, none, .bin .lss, [.tmp 11, .tmp 12]⟩]) (
    .cond (.tmp 13) (
     .skip) (
     .exit 0))) (
   .seq (
    .block 1 [1, 0, 2, 3, 10] (
     .reg [1, 0, 2, 3, 10] true [⟨some 16, none, .mv, [.tmp 0]⟩,
       ⟨some 17, none, .mv, [.tmp 1]⟩,
       ⟨some 18, none, .mv, [.tmp 10]⟩,
       ⟨some 19, none, .bin .add, [.tmp 17, .tmp 18]⟩,
       ⟨some 20, none, .mv, [.tmp 0]⟩,
       ⟨some 21, none, .mv, [.tmp 2]⟩,
       ⟨some 22, none, .mv, [.tmp 10]⟩,
       ⟨some 23, none, .bin .add, [.tmp 21, .tmp 22]⟩,
       ⟨some 24, none, .mv, [.tmp 0]⟩,
       ⟨some 25, none, .mv, [.tmp 2]⟩,
       ⟨some 26, none, .mv, [.tmp 10]⟩,
       ⟨some 27, none, .bin .add, [.tmp 25, .tmp 26]⟩,
       ⟨some 28, none, .idxAddr 1, [.tmp 24, .tmp 27]⟩,
       ⟨some 29, none, .load 1 false, [.tmp 28]⟩,
       ⟨some 30, none, .mv, [.tmp 0]⟩,
       ⟨some 31, none, .mv, [.tmp 1]⟩,
       ⟨some 32, none, .mv, [.tmp 10]⟩,
       ⟨some 33, none, .bin .add, [.tmp 31, .tmp 32]⟩,
       ⟨some 34, none, .idxAddr 1, [.tmp 30, .tmp 33]⟩,
       ⟨some 35, none, .load 1 false, [.tmp 34]⟩,
       ⟨some 36, none, .idxAddr 1, [.tmp 16, .tmp 19]⟩,
       ⟨none, none, .store 1, [.tmp 36, .tmp 29]⟩,
       ⟨some 37, none, .idxAddr 1, [.tmp 20, .tmp 23]⟩,
       ⟨none, none, .store 1, [.tmp 37, .tmp 35]⟩])) (
    .reg [1, 0, 2, 3, 10] false [⟨some 14, none, .mv, [.tmp 10]⟩,
      ⟨some 15, none, .bin .add, [.tmp 14, .const (.int .i64 1)]⟩,
      ⟨some 10, none, .mv, [.tmp 15]⟩]))

def b_slices_swapRangeCmpFunc_int_ : AC :=
  .seq (
   .reg [1, 0, 2, 3] false [⟨some 10, none, .mv, [.const (.int .i64 0)]⟩]) (
   .block 0 [] (
    .loop [10, 1, 0, 2, 3] b_slices_swapRangeCmpFunc_int__0))
def a_slices_swapRangeCmpFunc_int_ : AF := { results := [], body := b_slices_swapRangeCmpFunc_int_ }

end Go.AM
