/- Abstract code, printed by a program of my own (wip/gen/Gen.lean.tpl) off the dump. -/
import Derived.Test.YtniijfcjdlhfcaaR1n
set_option linter.all false
namespace Go.AM
/- sccsettle/scclaw4.FindMasks, 2 params, 0 free: [] -/
/- a loop's body; at its head: [8, 0, 7, 1] -/
def b_scclaw4_FindMasks_0 : AC :=
  .seq (
   .seq (
    .reg [0, 1, 8, 7] false [⟨some 35, none, .mv, [.tmp 8]⟩,
      ⟨some 36, none, .mv, [.tmp 0]⟩,
      ⟨some 37, none, .len true, [.tmp 36]⟩,
      ⟨some 38, none, .bin .lss, [.tmp 35, .tmp 37]⟩]) (
    .cond (.tmp 38) (
     .skip) (
     .exit 0))) (
   .seq (
    .block 1 [0, 7, 1, 8] (
     .reg [0, 1, 8, 7] false [⟨some 41, none, .mv, [.tmp 7]⟩,
       ⟨some 42, none, .mv, [.tmp 0]⟩,
       ⟨some 43, none, .mv, [.tmp 8]⟩,
       ⟨some 44, none, .idxStr, [.tmp 42, .tmp 43]⟩,
       ⟨some 45, none, .bslice 1, [.const (.int .u8 126), .tmp 44]⟩,
       ⟨some 46, none, .append 1 1, [.tmp 41, .tmp 45]⟩,
       ⟨some 7, none, .mv, [.tmp 46]⟩])) (
    .reg [0, 7, 1, 8] false [⟨some 39, none, .mv, [.tmp 8]⟩,
      ⟨some 40, none, .bin .add, [.tmp 39, .const (.int .i64 1)]⟩,
      ⟨some 8, none, .mv, [.tmp 40]⟩]))

def b_scclaw4_FindMasks : AC :=
  .seq (
   .reg [0, 1] false [⟨some 4, none, .mv, [.const (.bool false)]⟩]) (
   .seq (
    .reg [0, 1] false [⟨some 18, none, .call f_find_Like true, [.const (.str [97, 98, 99]), .const (.str [97, 63, 42])]⟩,
      ⟨some 17, none, .mv, [.tmp 18]⟩,
      ⟨some 19, none, .extract 0, [.tmp 17]⟩,
      ⟨some 20, none, .extract 1, [.tmp 17]⟩,
      ⟨some 5, none, .mv, [.tmp 19]⟩,
      ⟨some 6, none, .mv, [.tmp 20]⟩]) (
    .seq (
     .seq (
      .reg [0, 1, 5, 6] false [⟨some 21, none, .mv, [.tmp 6]⟩,
        ⟨some 22, none, .eqn .iface true true, [.tmp 21, .const (.nili)]⟩,
        ⟨some 23, none, .mv, [.tmp 22]⟩,
        ⟨some 24, some (23, false), .mv, [.tmp 5]⟩,
        ⟨some 25, some (23, false), .un .not, [.tmp 24]⟩,
        ⟨some 26, none, .pick, [.tmp 23, .const (.bool true), .tmp 25]⟩]) (
      .cond (.tmp 26) (
       .seq (
        .reg [] false [⟨some 4, none, .mv, [.const (.bool false)]⟩]) (
        .ret)) (
       .skip))) (
     .seq (
      .seq (
       .reg [0, 1] false [⟨some 27, none, .mv, [.tmp 0]⟩,
         ⟨some 28, none, .len true, [.tmp 27]⟩,
         ⟨some 29, none, .bin .gtr, [.tmp 28, .const (.int .i64 90)]⟩,
         ⟨some 30, none, .mv, [.tmp 29]⟩,
         ⟨some 31, some (30, false), .mv, [.tmp 1]⟩,
         ⟨some 32, some (30, false), .len true, [.tmp 31]⟩,
         ⟨some 33, some (30, false), .bin .gtr, [.tmp 32, .const (.int .i64 90)]⟩,
         ⟨some 34, none, .pick, [.tmp 30, .const (.bool true), .tmp 33]⟩]) (
       .cond (.tmp 34) (
        .seq (
         .reg [] false [⟨some 4, none, .mv, [.const (.bool true)]⟩]) (
         .ret)) (
        .skip))) (
      .seq (
       .reg [0, 1] false [⟨some 7, none, .mv, [.const (.lst (some true) 0 [])]⟩]) (
       .seq (
        .seq (
         .reg [0, 7, 1] false [⟨some 8, none, .mv, [.const (.int .i64 0)]⟩]) (
         .block 0 [1, 0, 7] (
          .loop [8, 0, 7, 1] b_scclaw4_FindMasks_0))) (
        .seq (
         .reg [1, 0, 7] false [⟨some 48, none, .mv, [.tmp 0]⟩,
           ⟨some 49, none, .mv, [.tmp 7]⟩,
           ⟨some 50, none, .bytesToStr, [.tmp 49]⟩,
           ⟨some 51, none, .call f_find_Like true, [.tmp 48, .tmp 50]⟩,
           ⟨some 47, none, .mv, [.tmp 51]⟩,
           ⟨some 52, none, .extract 0, [.tmp 47]⟩,
           ⟨some 53, none, .extract 1, [.tmp 47]⟩,
           ⟨some 9, none, .mv, [.tmp 52]⟩,
           ⟨some 10, none, .mv, [.tmp 53]⟩]) (
         .seq (
          .reg [1, 0, 9, 10, 7] false [⟨some 55, none, .mv, [.tmp 1]⟩,
            ⟨some 56, none, .mv, [.tmp 7]⟩,
            ⟨some 57, none, .bytesToStr, [.tmp 56]⟩,
            ⟨some 58, none, .call f_find_Like true, [.tmp 55, .tmp 57]⟩,
            ⟨some 54, none, .mv, [.tmp 58]⟩,
            ⟨some 59, none, .extract 0, [.tmp 54]⟩,
            ⟨some 60, none, .extract 1, [.tmp 54]⟩,
            ⟨some 11, none, .mv, [.tmp 59]⟩,
            ⟨some 12, none, .mv, [.tmp 60]⟩]) (
          .seq (
           .reg [1, 0, 11, 9, 12, 10, 7] false [⟨some 62, none, .mv, [.tmp 1]⟩,
             ⟨some 63, none, .call f_find_Like true, [.tmp 62, .const (.str [42])]⟩,
             ⟨some 61, none, .mv, [.tmp 63]⟩,
             ⟨some 64, none, .extract 0, [.tmp 61]⟩,
             ⟨some 65, none, .extract 1, [.tmp 61]⟩,
             ⟨some 13, none, .mv, [.tmp 64]⟩,
             ⟨some 14, none, .mv, [.tmp 65]⟩]) (
           .seq (
            .reg [13, 1, 0, 11, 9, 14, 12, 10, 7] false [⟨some 67, none, .mv, [.tmp 0]⟩,
              ⟨some 68, none, .mv, [.tmp 1]⟩,
              ⟨some 69, none, .bin .add, [.tmp 67, .tmp 68]⟩,
              ⟨some 70, none, .mv, [.tmp 7]⟩,
              ⟨some 71, none, .bytesToStr, [.tmp 70]⟩,
              ⟨some 72, none, .bin .add, [.tmp 71, .const (.str [42])]⟩,
              ⟨some 73, none, .call f_find_Like true, [.tmp 69, .tmp 72]⟩,
              ⟨some 66, none, .mv, [.tmp 73]⟩,
              ⟨some 74, none, .extract 0, [.tmp 66]⟩,
              ⟨some 75, none, .extract 1, [.tmp 66]⟩,
              ⟨some 15, none, .mv, [.tmp 74]⟩,
              ⟨some 16, none, .mv, [.tmp 75]⟩]) (
            .seq (
             .reg [15, 13, 1, 0, 11, 9, 16, 14, 12, 10] false [⟨some 76, none, .mv, [.tmp 10]⟩,
               ⟨some 77, none, .eqn .iface false true, [.tmp 76, .const (.nili)]⟩,
               ⟨some 78, none, .mv, [.tmp 77]⟩,
               ⟨some 79, some (78, true), .mv, [.tmp 12]⟩,
               ⟨some 80, some (78, true), .eqn .iface false true, [.tmp 79, .const (.nili)]⟩,
               ⟨some 81, none, .pick, [.tmp 78, .tmp 80, .const (.bool false)]⟩,
               ⟨some 82, none, .mv, [.tmp 81]⟩,
               ⟨some 83, some (82, true), .mv, [.tmp 14]⟩,
               ⟨some 84, some (82, true), .eqn .iface false true, [.tmp 83, .const (.nili)]⟩,
               ⟨some 85, none, .pick, [.tmp 82, .tmp 84, .const (.bool false)]⟩,
               ⟨some 86, none, .mv, [.tmp 85]⟩,
               ⟨some 87, some (86, true), .mv, [.tmp 16]⟩,
               ⟨some 88, some (86, true), .eqn .iface false true, [.tmp 87, .const (.nili)]⟩,
               ⟨some 89, none, .pick, [.tmp 86, .tmp 88, .const (.bool false)]⟩,
               ⟨some 90, none, .mv, [.tmp 89]⟩,
               ⟨some 91, some (90, true), .mv, [.tmp 9]⟩,
               ⟨some 92, none, .pick, [.tmp 90, .tmp 91, .const (.bool false)]⟩,
               ⟨some 93, none, .mv, [.tmp 92]⟩,
               ⟨some 94, some (93, true), .mv, [.tmp 11]⟩,
               ⟨some 95, some (93, true), .mv, [.tmp 0]⟩,
               ⟨some 96, some (93, true), .mv, [.tmp 1]⟩,
               ⟨some 97, some (93, true), .bin .eql, [.tmp 95, .tmp 96]⟩,
               ⟨some 98, some (93, true), .eqb false, [.tmp 94, .tmp 97]⟩,
               ⟨some 99, none, .pick, [.tmp 93, .tmp 98, .const (.bool false)]⟩,
               ⟨some 100, none, .mv, [.tmp 99]⟩,
               ⟨some 101, some (100, true), .mv, [.tmp 13]⟩,
               ⟨some 102, none, .pick, [.tmp 100, .tmp 101, .const (.bool false)]⟩,
               ⟨some 103, none, .mv, [.tmp 102]⟩,
               ⟨some 104, some (103, true), .mv, [.tmp 15]⟩,
               ⟨some 105, none, .pick, [.tmp 103, .tmp 104, .const (.bool false)]⟩,
               ⟨some 4, none, .mv, [.tmp 105]⟩]) (
             .ret)))))))))))
def a_scclaw4_FindMasks : AF := { results := [.tmp 4], body := b_scclaw4_FindMasks }

/- sccsettle/find.Like, 2 params, 0 free: [] -/
/- a loop's body; at its head: [45, 8, 6, 10, 0, 1, 7, 44] -/
def b_find_Like_0 : AC :=
  .seq (
   .reg [8, 6, 0, 1, 7, 44, 45, 10] false [⟨some 46, none, .bin .lss, [.tmp 45, .tmp 44]⟩]) (
   .seq (
    .cond (.tmp 46) (
     .skip) (
     .exit 2)) (
    .seq (
     .block 3 [8, 6, 10, 0, 1, 7, 44, 45] (
      .seq (
       .reg [8, 6, 0, 1, 7, 44, 45, 10] false [⟨some 47, none, .mv, [.tmp 45]⟩,
         ⟨some 11, none, .mv, [.tmp 47]⟩]) (
       .seq (
        .reg [8, 6, 0, 1, 7, 44, 45, 11, 10] false [⟨some 48, none, .mv, [.tmp 10]⟩,
          ⟨some 49, none, .mv, [.tmp 48]⟩,
          ⟨some 50, some (49, false), .mv, [.tmp 6]⟩,
          ⟨some 51, some (49, false), .mv, [.tmp 11]⟩,
          ⟨some 52, some (49, false), .idxAddr 1, [.tmp 50, .tmp 51]⟩,
          ⟨some 53, some (49, false), .load 1 false, [.tmp 52]⟩,
          ⟨some 54, none, .pick, [.tmp 49, .const (.bool true), .tmp 53]⟩,
          ⟨some 10, none, .mv, [.tmp 54]⟩]) (
        .reg [8, 6, 10, 0, 1, 7, 44, 45, 11] false [⟨some 55, none, .mv, [.tmp 8]⟩,
          ⟨some 56, none, .mv, [.tmp 11]⟩,
          ⟨some 57, none, .mv, [.tmp 10]⟩,
          ⟨some 58, none, .idxAddr 1, [.tmp 55, .tmp 56]⟩,
          ⟨none, none, .store 1, [.tmp 58, .tmp 57]⟩])))) (
     .reg [8, 6, 10, 0, 1, 7, 44, 45] false [⟨some 59, none, .bin .add, [.tmp 45, .const (.int .i64 1)]⟩,
       ⟨some 45, none, .mv, [.tmp 59]⟩])))

/- a loop's body; at its head: [77, 9, 0, 12, 6, 8, 1, 7, 76] -/
def b_find_Like_1 : AC :=
  .seq (
   .reg [9, 0, 12, 6, 8, 1, 7, 76, 77] false [⟨some 78, none, .bin .lss, [.tmp 77, .tmp 76]⟩]) (
   .seq (
    .cond (.tmp 78) (
     .skip) (
     .exit 4)) (
    .seq (
     .block 5 [9, 0, 12, 6, 8, 1, 7, 76, 77] (
      .seq (
       .reg [9, 0, 12, 6, 8, 1, 7, 76, 77] false [⟨some 79, none, .mv, [.tmp 77]⟩,
         ⟨some 13, none, .mv, [.tmp 79]⟩]) (
       .reg [9, 0, 12, 6, 8, 1, 7, 76, 77, 13] false [⟨some 80, none, .mv, [.tmp 8]⟩,
         ⟨some 81, none, .mv, [.tmp 13]⟩,
         ⟨some 82, none, .bin .add, [.tmp 81, .const (.int .i64 1)]⟩,
         ⟨some 83, none, .mv, [.tmp 6]⟩,
         ⟨some 84, none, .mv, [.tmp 13]⟩,
         ⟨some 85, none, .idxAddr 1, [.tmp 83, .tmp 84]⟩,
         ⟨some 86, none, .load 1 false, [.tmp 85]⟩,
         ⟨some 87, none, .mv, [.tmp 86]⟩,
         ⟨some 88, some (87, true), .mv, [.tmp 12]⟩,
         ⟨some 89, some (87, true), .mv, [.tmp 88]⟩,
         ⟨some 90, some (89, false), .mv, [.tmp 0]⟩,
         ⟨some 91, some (89, false), .mv, [.tmp 13]⟩,
         ⟨some 92, some (89, false), .idxStr, [.tmp 90, .tmp 91]⟩,
         ⟨some 93, some (89, false), .mv, [.tmp 9]⟩,
         ⟨some 94, some (89, false), .bin .eql, [.tmp 92, .tmp 93]⟩,
         ⟨some 95, some (87, true), .pick, [.tmp 89, .const (.bool true), .tmp 94]⟩,
         ⟨some 96, none, .pick, [.tmp 87, .tmp 95, .const (.bool false)]⟩,
         ⟨some 97, none, .idxAddr 1, [.tmp 80, .tmp 82]⟩,
         ⟨none, none, .store 1, [.tmp 97, .tmp 96]⟩]))) (
     .reg [9, 0, 12, 6, 8, 1, 7, 76, 77] false [⟨some 98, none, .bin .add, [.tmp 77, .const (.int .i64 1)]⟩,
       ⟨some 77, none, .mv, [.tmp 98]⟩])))

/- a loop's body; at its head: [6, 7, 0, 1] -/
def b_find_Like_2 : AC :=
  .seq (
   .seq (
    .reg [6, 0, 1, 7] false [⟨some 29, none, .mv, [.tmp 7]⟩,
      ⟨some 30, none, .mv, [.tmp 1]⟩,
      ⟨some 31, none, .len true, [.tmp 30]⟩,
      ⟨some 32, none, .bin .lss, [.tmp 29, .tmp 31]⟩]) (
    .cond (.tmp 32) (
     .skip) (
     .exit 0))) (
   .seq (
    .block 1 [6, 0, 1, 7] (
     .seq (
      .reg [6, 0, 1, 7] false [⟨some 35, none, .mv, [.tmp 6]⟩,
        ⟨some 36, none, .len false, [.tmp 35]⟩,
        ⟨some 37, none, .make 1 1 (.bool false), [.tmp 36, .tmp 36]⟩,
        ⟨some 8, none, .mv, [.tmp 37]⟩]) (
      .seq (
       .reg [8, 6, 0, 1, 7] false [⟨some 38, none, .mv, [.tmp 1]⟩,
         ⟨some 39, none, .mv, [.tmp 7]⟩,
         ⟨some 40, none, .idxStr, [.tmp 38, .tmp 39]⟩,
         ⟨some 9, none, .mv, [.tmp 40]⟩]) (
       .seq (
        .seq (
         .reg [8, 6, 0, 1, 7, 9] false [⟨some 41, none, .mv, [.tmp 9]⟩,
           ⟨some 42, none, .bin .eql, [.tmp 41, .const (.int .u8 42)]⟩]) (
         .cond (.tmp 42) (
          .seq (
           .reg [8, 6, 0, 1, 7] false [⟨some 10, none, .mv, [.const (.bool false)]⟩]) (
           .seq (
            .seq (
             .reg [8, 6, 10, 0, 1, 7] false [⟨some 43, none, .mv, [.tmp 6]⟩,
               ⟨some 44, none, .len false, [.tmp 43]⟩,
               ⟨some 45, none, .mv, [.const (.int .i64 0)]⟩]) (
             .block 2 [0, 1, 7, 8] (
              .loop [45, 8, 6, 10, 0, 1, 7, 44] b_find_Like_0))) (
            .seq (
             .reg [0, 1, 7, 8] false [⟨some 60, none, .mv, [.tmp 8]⟩,
               ⟨some 6, none, .mv, [.tmp 60]⟩]) (
             .exit 1)))) (
          .skip))) (
        .seq (
         .reg [0, 6, 8, 1, 7, 9] false [⟨some 61, none, .mv, [.tmp 9]⟩,
           ⟨some 62, none, .bin .eql, [.tmp 61, .const (.int .u8 63)]⟩,
           ⟨some 12, none, .mv, [.tmp 62]⟩]) (
         .seq (
          .seq (
           .reg [0, 12, 6, 8, 1, 7, 9] false [⟨some 63, none, .mv, [.tmp 9]⟩,
             ⟨some 64, none, .bin .eql, [.tmp 63, .const (.int .u8 126)]⟩]) (
           .cond (.tmp 64) (
            .seq (
             .seq (
              .reg [0, 12, 6, 8, 1, 7] false [⟨some 65, none, .mv, [.tmp 7]⟩,
                ⟨some 66, none, .bin .add, [.tmp 65, .const (.int .i64 1)]⟩,
                ⟨some 7, none, .mv, [.tmp 66]⟩]) (
              .seq (
               .reg [0, 12, 6, 8, 1, 7] false [⟨some 67, none, .mv, [.tmp 7]⟩,
                 ⟨some 68, none, .mv, [.tmp 1]⟩,
                 ⟨some 69, none, .len true, [.tmp 68]⟩,
                 ⟨some 70, none, .bin .eql, [.tmp 67, .tmp 69]⟩]) (
               .cond (.tmp 70) (
                .seq (
                 .reg [] false [⟨some 71, none, .mkIface t_api_Errno, [.const (.int .i64 2)]⟩,
                   ⟨some 4, none, .mv, [.const (.bool false)]⟩,
                   ⟨some 5, none, .mv, [.tmp 71]⟩]) (
                 .ret)) (
                .skip)))) (
             .reg [0, 12, 6, 8, 1, 7] false [⟨some 72, none, .mv, [.tmp 1]⟩,
               ⟨some 73, none, .mv, [.tmp 7]⟩,
               ⟨some 74, none, .idxStr, [.tmp 72, .tmp 73]⟩,
               ⟨some 9, none, .mv, [.tmp 74]⟩])) (
            .skip))) (
          .seq (
           .seq (
            .reg [9, 0, 12, 6, 8, 1, 7] false [⟨some 75, none, .mv, [.tmp 0]⟩,
              ⟨some 76, none, .len true, [.tmp 75]⟩,
              ⟨some 77, none, .mv, [.const (.int .i64 0)]⟩]) (
            .block 4 [0, 1, 7, 8] (
             .loop [77, 9, 0, 12, 6, 8, 1, 7, 76] b_find_Like_1))) (
           .reg [0, 1, 7, 8] false [⟨some 99, none, .mv, [.tmp 8]⟩,
             ⟨some 6, none, .mv, [.tmp 99]⟩])))))))) (
    .reg [6, 0, 1, 7] false [⟨some 33, none, .mv, [.tmp 7]⟩,
      ⟨some 34, none, .bin .add, [.tmp 33, .const (.int .i64 1)]⟩,
      ⟨some 7, none, .mv, [.tmp 34]⟩]))

def b_find_Like : AC :=
  .seq (
   .reg [0, 1] false [⟨some 4, none, .mv, [.const (.bool false)]⟩,
     ⟨some 5, none, .mv, [.const (.nili)]⟩]) (
   .seq (
    .seq (
     .reg [0, 1] false [⟨some 14, none, .mv, [.tmp 0]⟩,
       ⟨some 15, none, .len true, [.tmp 14]⟩,
       ⟨some 16, none, .bin .gtr, [.tmp 15, .const (.int .i64 200)]⟩,
       ⟨some 17, none, .mv, [.tmp 16]⟩,
       ⟨some 18, some (17, false), .mv, [.tmp 1]⟩,
       ⟨some 19, some (17, false), .len true, [.tmp 18]⟩,
       ⟨some 20, some (17, false), .bin .gtr, [.tmp 19, .const (.int .i64 200)]⟩,
       ⟨some 21, none, .pick, [.tmp 17, .const (.bool true), .tmp 20]⟩]) (
     .cond (.tmp 21) (
      .seq (
       .reg [] false [⟨some 22, none, .mkIface t_api_Errno, [.const (.int .i64 4)]⟩,
         ⟨some 4, none, .mv, [.const (.bool false)]⟩,
         ⟨some 5, none, .mv, [.tmp 22]⟩]) (
       .ret)) (
      .skip))) (
    .seq (
     .reg [0, 1] false [⟨some 23, none, .mv, [.tmp 0]⟩,
       ⟨some 24, none, .len true, [.tmp 23]⟩,
       ⟨some 25, none, .bin .add, [.tmp 24, .const (.int .i64 1)]⟩,
       ⟨some 26, none, .make 1 1 (.bool false), [.tmp 25, .tmp 25]⟩,
       ⟨some 6, none, .mv, [.tmp 26]⟩]) (
     .seq (
      .reg [6, 0, 1] false [⟨some 27, none, .mv, [.tmp 6]⟩,
        ⟨some 28, none, .idxAddr 1, [.tmp 27, .const (.int .i64 0)]⟩,
        ⟨none, none, .store 1, [.tmp 28, .const (.bool true)]⟩]) (
      .seq (
       .seq (
        .reg [6, 0, 1] false [⟨some 7, none, .mv, [.const (.int .i64 0)]⟩]) (
        .block 0 [0, 6] (
         .loop [6, 7, 0, 1] b_find_Like_2))) (
       .seq (
        .reg [0, 6] false [⟨some 100, none, .mv, [.tmp 6]⟩,
          ⟨some 101, none, .mv, [.tmp 0]⟩,
          ⟨some 102, none, .len true, [.tmp 101]⟩,
          ⟨some 103, none, .idxAddr 1, [.tmp 100, .tmp 102]⟩,
          ⟨some 104, none, .load 1 false, [.tmp 103]⟩,
          ⟨some 4, none, .mv, [.tmp 104]⟩,
          ⟨some 5, none, .mv, [.const (.nili)]⟩]) (
        .ret))))))
def a_find_Like : AF := { results := [.tmp 4, .tmp 5], body := b_find_Like }

end Go.AM
