/- Abstract code, printed by a program of my own (wip/gen/Gen.lean.tpl) off the dump. -/
import Derived.Test.YtibdekobocpfdaaDoorTn
set_option linter.all false
namespace Go.AM
/- sccsettle/scclaw3.ChartTicks, 3 params, 0 free: [] -/
/- a loop's body; at its head: [13, 10, 9] -/
def b_scclaw3_ChartTicks_0 : AC :=
  .seq (
   .seq (
    .reg [10, 9, 13] false [⟨some 73, none, .mv, [.tmp 13]⟩,
      ⟨some 74, none, .mv, [.tmp 10]⟩,
      ⟨some 75, none, .len false, [.tmp 74]⟩,
      ⟨some 76, none, .bin .lss, [.tmp 73, .tmp 75]⟩]) (
    .cond (.tmp 76) (
     .skip) (
     .exit 0))) (
   .seq (
    .block 1 [10, 9, 13] (
     .seq (
      .reg [10, 9, 13] false [⟨some 79, none, .mv, [.tmp 9]⟩,
        ⟨some 80, none, .mv, [.tmp 13]⟩,
        ⟨some 81, none, .idxAddr 1, [.tmp 79, .tmp 80]⟩,
        ⟨some 82, none, .load 1 false, [.tmp 81]⟩,
        ⟨some 83, none, .call f_sccref1_Digits true, [.tmp 82]⟩,
        ⟨some 14, none, .mv, [.tmp 83]⟩]) (
      .seq (
       .reg [10, 9, 13, 14] true [⟨some 84, none, .mv, [.tmp 10]⟩,
         ⟨some 85, none, .mv, [.tmp 13]⟩,
         ⟨some 86, none, .idxAddr 2, [.tmp 84, .tmp 85]⟩,
         ⟨some 87, none, .fieldAddr 0, [.tmp 86]⟩,
         ⟨some 88, none, .load 1 false, [.tmp 87]⟩,
         ⟨some 89, none, .mv, [.tmp 9]⟩,
         ⟨some 90, none, .mv, [.tmp 13]⟩,
         ⟨some 91, none, .idxAddr 1, [.tmp 89, .tmp 90]⟩,
         ⟨some 92, none, .load 1 false, [.tmp 91]⟩,
         ⟨some 93, none, .bin .neq, [.tmp 88, .tmp 92]⟩,
         ⟨some 94, none, .mv, [.tmp 93]⟩,
         ⟨some 95, some (94, false), .mv, [.tmp 10]⟩,
         ⟨some 96, some (94, false), .mv, [.tmp 13]⟩,
         ⟨some 97, some (94, false), .idxAddr 2, [.tmp 95, .tmp 96]⟩,
         ⟨some 98, some (94, false), .fieldAddr 1, [.tmp 97]⟩,
         ⟨some 99, some (94, false), .load 1 false, [.tmp 98]⟩,
         ⟨some 100, some (94, false), .mv, [.tmp 14]⟩,
         ⟨some 101, some (94, false), .bin .neq, [.tmp 99, .tmp 100]⟩,
         ⟨some 102, none, .pick, [.tmp 94, .const (.bool true), .tmp 101]⟩]) (
       .cond (.tmp 102) (
        .seq (
         .reg [] false [⟨some 6, none, .mv, [.const (.bool false)]⟩]) (
         .ret)) (
        .skip))))) (
    .reg [10, 9, 13] false [⟨some 77, none, .mv, [.tmp 13]⟩,
      ⟨some 78, none, .bin .add, [.tmp 77, .const (.int .i64 1)]⟩,
      ⟨some 13, none, .mv, [.tmp 78]⟩]))

def b_scclaw3_ChartTicks : AC :=
  .seq (
   .reg [2, 1, 0] false [⟨some 6, none, .mv, [.const (.bool false)]⟩]) (
   .seq (
    .reg [2, 1, 0] false [⟨some 7, none, .mv, [.const (.int .i64 1000000000000000)]⟩]) (
    .seq (
     .reg [2, 1, 0, 7] false [⟨some 8, none, .mv, [.const (.int .i64 0)]⟩]) (
     .seq (
      .seq (
       .reg [2, 1, 0, 8, 7] false [⟨some 15, none, .mv, [.tmp 0]⟩,
         ⟨some 16, none, .mv, [.tmp 1]⟩,
         ⟨some 17, none, .bin .gtr, [.tmp 15, .tmp 16]⟩,
         ⟨some 18, none, .mv, [.tmp 17]⟩,
         ⟨some 19, some (18, false), .mv, [.tmp 0]⟩,
         ⟨some 20, some (18, false), .mv, [.tmp 7]⟩,
         ⟨some 21, some (18, false), .un .neg, [.tmp 20]⟩,
         ⟨some 22, some (18, false), .bin .lss, [.tmp 19, .tmp 21]⟩,
         ⟨some 23, none, .pick, [.tmp 18, .const (.bool true), .tmp 22]⟩,
         ⟨some 24, none, .mv, [.tmp 23]⟩,
         ⟨some 25, some (24, false), .mv, [.tmp 1]⟩,
         ⟨some 26, some (24, false), .mv, [.tmp 7]⟩,
         ⟨some 27, some (24, false), .bin .gtr, [.tmp 25, .tmp 26]⟩,
         ⟨some 28, none, .pick, [.tmp 24, .const (.bool true), .tmp 27]⟩,
         ⟨some 29, none, .mv, [.tmp 28]⟩,
         ⟨some 30, some (29, false), .mv, [.tmp 0]⟩,
         ⟨some 31, some (29, false), .mv, [.tmp 7]⟩,
         ⟨some 32, some (29, false), .bin .gtr, [.tmp 30, .tmp 31]⟩,
         ⟨some 33, none, .pick, [.tmp 29, .const (.bool true), .tmp 32]⟩,
         ⟨some 34, none, .mv, [.tmp 33]⟩,
         ⟨some 35, some (34, false), .mv, [.tmp 1]⟩,
         ⟨some 36, some (34, false), .mv, [.tmp 7]⟩,
         ⟨some 37, some (34, false), .un .neg, [.tmp 36]⟩,
         ⟨some 38, some (34, false), .bin .lss, [.tmp 35, .tmp 37]⟩,
         ⟨some 39, none, .pick, [.tmp 34, .const (.bool true), .tmp 38]⟩,
         ⟨some 40, none, .mv, [.tmp 39]⟩,
         ⟨some 41, some (40, false), .mv, [.tmp 2]⟩,
         ⟨some 42, some (40, false), .bin .lss, [.tmp 41, .const (.int .i64 1)]⟩,
         ⟨some 43, none, .pick, [.tmp 40, .const (.bool true), .tmp 42]⟩,
         ⟨some 44, none, .mv, [.tmp 43]⟩,
         ⟨some 45, some (44, false), .mv, [.tmp 2]⟩,
         ⟨some 46, some (44, false), .bin .gtr, [.tmp 45, .const (.int .i64 60)]⟩,
         ⟨some 47, none, .pick, [.tmp 44, .const (.bool true), .tmp 46]⟩]) (
       .cond (.tmp 47) (
        .reg [2, 1, 0] false [⟨some 8, none, .mv, [.const (.int .i64 1)]⟩]) (
        .skip))) (
      .seq (
       .reg [8, 2, 1, 0] false [⟨some 9, none, .mv, [.const (.lst (some true) 0 [])]⟩]) (
       .seq (
        .seq (
         .reg [8, 2, 1, 0, 9] false [⟨some 48, none, .mv, [.tmp 8]⟩,
           ⟨some 49, none, .bin .eql, [.tmp 48, .const (.int .i64 0)]⟩]) (
         .cond (.tmp 49) (
          .reg [8, 2, 1, 0] false [⟨some 50, none, .mv, [.tmp 0]⟩,
            ⟨some 51, none, .mv, [.tmp 1]⟩,
            ⟨some 52, none, .mv, [.tmp 2]⟩,
            ⟨some 53, none, .call f_sccref3_Ticks true, [.tmp 50, .tmp 51, .tmp 52]⟩,
            ⟨some 9, none, .mv, [.tmp 53]⟩]) (
          .skip))) (
        .seq (
         .reg [9, 8, 2, 1, 0] false [⟨some 55, none, .mv, [.tmp 0]⟩,
           ⟨some 56, none, .mv, [.tmp 1]⟩,
           ⟨some 57, none, .mv, [.tmp 2]⟩,
           ⟨some 58, none, .call f_chart_Ticks true, [.tmp 55, .tmp 56, .tmp 57]⟩,
           ⟨some 54, none, .mv, [.tmp 58]⟩,
           ⟨some 59, none, .extract 0, [.tmp 54]⟩,
           ⟨some 60, none, .extract 1, [.tmp 54]⟩,
           ⟨some 10, none, .mv, [.tmp 59]⟩,
           ⟨some 11, none, .mv, [.tmp 60]⟩]) (
         .seq (
          .reg [10, 9, 8, 11] false [⟨some 61, none, .mv, [.tmp 11]⟩,
            ⟨some 62, none, .mv, [.tmp 8]⟩,
            ⟨some 63, none, .call f_sccsame_Error true, [.tmp 61, .tmp 62]⟩,
            ⟨some 12, none, .mv, [.tmp 63]⟩]) (
          .seq (
           .seq (
            .reg [10, 9, 12] false [⟨some 64, none, .mv, [.tmp 12]⟩,
              ⟨some 65, none, .un .not, [.tmp 64]⟩,
              ⟨some 66, none, .mv, [.tmp 65]⟩,
              ⟨some 67, some (66, false), .mv, [.tmp 10]⟩,
              ⟨some 68, some (66, false), .len false, [.tmp 67]⟩,
              ⟨some 69, some (66, false), .mv, [.tmp 9]⟩,
              ⟨some 70, some (66, false), .len false, [.tmp 69]⟩,
              ⟨some 71, some (66, false), .bin .neq, [.tmp 68, .tmp 70]⟩,
              ⟨some 72, none, .pick, [.tmp 66, .const (.bool true), .tmp 71]⟩]) (
            .cond (.tmp 72) (
             .seq (
              .reg [] false [⟨some 6, none, .mv, [.const (.bool false)]⟩]) (
              .ret)) (
             .skip))) (
           .seq (
            .seq (
             .reg [10, 9] false [⟨some 13, none, .mv, [.const (.int .i64 0)]⟩]) (
             .block 0 [] (
              .loop [13, 10, 9] b_scclaw3_ChartTicks_0))) (
            .seq (
             .reg [] false [⟨some 6, none, .mv, [.const (.bool true)]⟩]) (
             .ret)))))))))))
def a_scclaw3_ChartTicks : AF := { results := [.tmp 6], body := b_scclaw3_ChartTicks }

/- sccsettle/sccref3.Ticks, 3 params, 0 free: [] -/
/- a loop's body; at its head: [12, 7, 9, 11, 10] -/
def b_sccref3_Ticks_0 : AC :=
  .seq (
   .seq (
    .reg [7, 9, 10, 12, 11] false [⟨some 38, none, .mv, [.tmp 12]⟩,
      ⟨some 39, none, .mv, [.tmp 10]⟩,
      ⟨some 40, none, .bin .lss, [.tmp 38, .tmp 39]⟩]) (
    .cond (.tmp 40) (
     .skip) (
     .exit 2))) (
   .seq (
    .block 3 [7, 9, 11, 10, 12] (
     .reg [7, 9, 10, 12, 11] false [⟨some 43, none, .mv, [.tmp 11]⟩,
       ⟨some 44, none, .mv, [.tmp 9]⟩,
       ⟨some 45, none, .mv, [.tmp 12]⟩,
       ⟨some 46, none, .mv, [.tmp 7]⟩,
       ⟨some 47, none, .bin .mul, [.tmp 45, .tmp 46]⟩,
       ⟨some 48, none, .bin .add, [.tmp 44, .tmp 47]⟩,
       ⟨some 49, none, .bslice 1, [.tmp 48]⟩,
       ⟨some 50, none, .append 1 8, [.tmp 43, .tmp 49]⟩,
       ⟨some 11, none, .mv, [.tmp 50]⟩])) (
    .reg [7, 9, 11, 10, 12] false [⟨some 41, none, .mv, [.tmp 12]⟩,
      ⟨some 42, none, .bin .add, [.tmp 41, .const (.int .i64 1)]⟩,
      ⟨some 12, none, .mv, [.tmp 42]⟩]))

/- a loop's body; at its head: [7, 8, 2, 1, 0] -/
def b_sccref3_Ticks_1 : AC :=
  .seq (
   .block 1 [7, 2, 1, 0, 8] (
    .seq (
     .reg [7, 2, 1, 0, 8] false [⟨some 15, none, .mv, [.tmp 0]⟩,
       ⟨some 16, none, .mv, [.tmp 7]⟩,
       ⟨some 17, none, .bin .quo, [.tmp 15, .tmp 16]⟩,
       ⟨some 18, none, .mv, [.tmp 7]⟩,
       ⟨some 19, none, .bin .mul, [.tmp 17, .tmp 18]⟩,
       ⟨some 9, none, .mv, [.tmp 19]⟩]) (
     .seq (
      .seq (
       .reg [7, 2, 1, 0, 8, 9] false [⟨some 20, none, .mv, [.tmp 9]⟩,
         ⟨some 21, none, .mv, [.tmp 0]⟩,
         ⟨some 22, none, .bin .lss, [.tmp 20, .tmp 21]⟩]) (
       .cond (.tmp 22) (
        .reg [7, 2, 1, 0, 8, 9] false [⟨some 23, none, .mv, [.tmp 9]⟩,
          ⟨some 24, none, .mv, [.tmp 7]⟩,
          ⟨some 25, none, .bin .add, [.tmp 23, .tmp 24]⟩,
          ⟨some 9, none, .mv, [.tmp 25]⟩]) (
        .skip))) (
      .seq (
       .reg [7, 9, 2, 1, 0, 8] false [⟨some 10, none, .mv, [.const (.int .i64 0)]⟩]) (
       .seq (
        .seq (
         .reg [7, 9, 2, 1, 0, 8, 10] false [⟨some 26, none, .mv, [.tmp 9]⟩,
           ⟨some 27, none, .mv, [.tmp 1]⟩,
           ⟨some 28, none, .bin .leq, [.tmp 26, .tmp 27]⟩]) (
         .cond (.tmp 28) (
          .reg [7, 9, 2, 1, 0, 8] false [⟨some 29, none, .mv, [.tmp 1]⟩,
            ⟨some 30, none, .mv, [.tmp 9]⟩,
            ⟨some 31, none, .bin .sub, [.tmp 29, .tmp 30]⟩,
            ⟨some 32, none, .mv, [.tmp 7]⟩,
            ⟨some 33, none, .bin .quo, [.tmp 31, .tmp 32]⟩,
            ⟨some 34, none, .bin .add, [.tmp 33, .const (.int .i64 1)]⟩,
            ⟨some 10, none, .mv, [.tmp 34]⟩]) (
          .skip))) (
        .seq (
         .seq (
          .reg [7, 9, 10, 2, 1, 0, 8] false [⟨some 35, none, .mv, [.tmp 10]⟩,
            ⟨some 36, none, .mv, [.tmp 2]⟩,
            ⟨some 37, none, .bin .leq, [.tmp 35, .tmp 36]⟩]) (
          .cond (.tmp 37) (
           .seq (
            .reg [7, 9, 10] false [⟨some 11, none, .mv, [.const (.lst (some true) 0 [])]⟩]) (
            .seq (
             .seq (
              .reg [7, 9, 11, 10] false [⟨some 12, none, .mv, [.const (.int .i64 0)]⟩]) (
              .block 2 [11] (
               .loop [12, 7, 9, 11, 10] b_sccref3_Ticks_0))) (
             .seq (
              .reg [11] false [⟨some 51, none, .mv, [.tmp 11]⟩,
                ⟨some 6, none, .mv, [.tmp 51]⟩]) (
              .ret)))) (
           .skip))) (
         .seq (
          .reg [2, 1, 0, 8, 7] false [⟨some 52, none, .mv, [.tmp 8]⟩,
            ⟨some 53, none, .bin .rem, [.tmp 52, .const (.int .i64 3)]⟩,
            ⟨some 54, none, .bin .eql, [.tmp 53, .const (.int .i64 1)]⟩]) (
          .cond (.tmp 54) (
           .reg [2, 1, 0, 8, 7] false [⟨some 55, none, .mv, [.tmp 7]⟩,
             ⟨some 56, none, .bin .quo, [.tmp 55, .const (.int .i64 2)]⟩,
             ⟨some 57, none, .bin .mul, [.tmp 56, .const (.int .i64 5)]⟩,
             ⟨some 7, none, .mv, [.tmp 57]⟩]) (
           .reg [2, 1, 0, 8, 7] false [⟨some 58, none, .mv, [.tmp 7]⟩,
             ⟨some 59, none, .bin .mul, [.tmp 58, .const (.int .i64 2)]⟩,
             ⟨some 7, none, .mv, [.tmp 59]⟩]))))))))) (
   .reg [7, 2, 1, 0, 8] false [⟨some 13, none, .mv, [.tmp 8]⟩,
     ⟨some 14, none, .bin .add, [.tmp 13, .const (.int .i64 1)]⟩,
     ⟨some 8, none, .mv, [.tmp 14]⟩])

def b_sccref3_Ticks : AC :=
  .seq (
   .reg [2, 1, 0] false [⟨some 6, none, .mv, [.const (.lst (some true) 0 [])]⟩]) (
   .seq (
    .reg [2, 1, 0] false [⟨some 7, none, .mv, [.const (.int .i64 1)]⟩]) (
    .seq (
     .reg [7, 2, 1, 0] false [⟨some 8, none, .mv, [.const (.int .i64 0)]⟩]) (
     .block 0 [6] (
      .loop [7, 8, 2, 1, 0] b_sccref3_Ticks_1))))
def a_sccref3_Ticks : AF := { results := [.tmp 6], body := b_sccref3_Ticks }

/- sccsettle/chart.Ticks, 3 params, 0 free: [] -/
/- a loop's body; at its head: [8, 1, 0, 9, 2] -/
def b_chart_Ticks_0 : AC :=
  .seq (
   .block 1 [8, 1, 0, 2, 9] (
    .seq (
     .seq (
      .reg [8, 1, 0, 2, 9] false [⟨some 36, none, .mv, [.tmp 1]⟩,
        ⟨some 37, none, .mv, [.tmp 8]⟩,
        ⟨some 38, none, .call f_chart_floor true, [.tmp 36, .tmp 37]⟩,
        ⟨some 39, none, .mv, [.tmp 0]⟩,
        ⟨some 40, none, .bin .sub, [.tmp 39, .const (.int .i64 1)]⟩,
        ⟨some 41, none, .mv, [.tmp 8]⟩,
        ⟨some 42, none, .call f_chart_floor true, [.tmp 40, .tmp 41]⟩,
        ⟨some 43, none, .bin .sub, [.tmp 38, .tmp 42]⟩,
        ⟨some 44, none, .mv, [.tmp 2]⟩,
        ⟨some 45, none, .bin .leq, [.tmp 43, .tmp 44]⟩]) (
      .cond (.tmp 45) (
       .exit 0) (
       .skip))) (
     .reg [1, 0, 2, 9, 8] true [⟨some 46, none, .mv, [.tmp 8]⟩,
       ⟨some 47, none, .build [.int .i64 0, .int .i64 0, .int .i64 0] [(0, 1), (1, 1), (2, 1)], [.const (.int .i64 2), .const (.int .i64 5), .const (.int .i64 2)]⟩,
       ⟨some 48, none, .mv, [.tmp 9]⟩,
       ⟨some 49, none, .bin .rem, [.tmp 48, .const (.int .i64 3)]⟩,
       ⟨some 50, none, .idxAgg 1 3 false, [.tmp 47, .tmp 49]⟩,
       ⟨some 51, none, .bin .mul, [.tmp 46, .tmp 50]⟩,
       ⟨some 52, none, .build [.int .i64 0, .int .i64 0, .int .i64 0] [(0, 1), (1, 1), (2, 1)], [.const (.int .i64 1), .const (.int .i64 2), .const (.int .i64 1)]⟩,
       ⟨some 53, none, .mv, [.tmp 9]⟩,
       ⟨some 54, none, .bin .rem, [.tmp 53, .const (.int .i64 3)]⟩,
       ⟨some 55, none, .idxAgg 1 3 false, [.tmp 52, .tmp 54]⟩,
       ⟨some 56, none, .bin .quo, [.tmp 51, .tmp 55]⟩,
       ⟨some 8, none, .mv, [.tmp 56]⟩]))) (
   .reg [8, 1, 0, 2, 9] false [⟨some 34, none, .mv, [.tmp 9]⟩,
     ⟨some 35, none, .bin .add, [.tmp 34, .const (.int .i64 1)]⟩,
     ⟨some 9, none, .mv, [.tmp 35]⟩])

/- a loop's body; at its head: [8, 11, 10, 1] -/
def b_chart_Ticks_1 : AC :=
  .seq (
   .seq (
    .reg [8, 1, 11, 10] false [⟨some 64, none, .mv, [.tmp 11]⟩,
      ⟨some 65, none, .mv, [.tmp 1]⟩,
      ⟨some 66, none, .bin .leq, [.tmp 64, .tmp 65]⟩]) (
    .cond (.tmp 66) (
     .skip) (
     .exit 2))) (
   .seq (
    .block 3 [8, 10, 1, 11] (
     .reg [8, 1, 11, 10] false [⟨some 70, none, .mv, [.tmp 10]⟩,
       ⟨some 71, none, .mv, [.tmp 11]⟩,
       ⟨some 72, none, .mv, [.tmp 11]⟩,
       ⟨some 73, none, .call f_strconv_Itoa true, [.tmp 72]⟩,
       ⟨some 74, none, .build [.int .i64 0, .str []] [(0, 1), (1, 1)], [.tmp 71, .tmp 73]⟩,
       ⟨some 75, none, .bslice 2, [.tmp 74]⟩,
       ⟨some 76, none, .append 2 24, [.tmp 70, .tmp 75]⟩,
       ⟨some 10, none, .mv, [.tmp 76]⟩])) (
    .reg [8, 10, 1, 11] false [⟨some 67, none, .mv, [.tmp 11]⟩,
      ⟨some 68, none, .mv, [.tmp 8]⟩,
      ⟨some 69, none, .bin .add, [.tmp 67, .tmp 68]⟩,
      ⟨some 11, none, .mv, [.tmp 69]⟩]))

def b_chart_Ticks : AC :=
  .seq (
   .reg [1, 0, 2] false [⟨some 6, none, .mv, [.const (.lst (some true) 0 [])]⟩,
     ⟨some 7, none, .mv, [.const (.nili)]⟩]) (
   .seq (
    .seq (
     .reg [1, 0, 2] false [⟨some 12, none, .mv, [.tmp 0]⟩,
       ⟨some 13, none, .mv, [.tmp 1]⟩,
       ⟨some 14, none, .bin .gtr, [.tmp 12, .tmp 13]⟩,
       ⟨some 15, none, .mv, [.tmp 14]⟩,
       ⟨some 16, some (15, false), .mv, [.tmp 0]⟩,
       ⟨some 17, some (15, false), .call f_chart_near true, [.tmp 16]⟩,
       ⟨some 18, some (15, false), .un .not, [.tmp 17]⟩,
       ⟨some 19, none, .pick, [.tmp 15, .const (.bool true), .tmp 18]⟩,
       ⟨some 20, none, .mv, [.tmp 19]⟩,
       ⟨some 21, some (20, false), .mv, [.tmp 1]⟩,
       ⟨some 22, some (20, false), .call f_chart_near true, [.tmp 21]⟩,
       ⟨some 23, some (20, false), .un .not, [.tmp 22]⟩,
       ⟨some 24, none, .pick, [.tmp 20, .const (.bool true), .tmp 23]⟩,
       ⟨some 25, none, .mv, [.tmp 24]⟩,
       ⟨some 26, some (25, false), .mv, [.tmp 2]⟩,
       ⟨some 27, some (25, false), .bin .lss, [.tmp 26, .const (.int .i64 1)]⟩,
       ⟨some 28, none, .pick, [.tmp 25, .const (.bool true), .tmp 27]⟩,
       ⟨some 29, none, .mv, [.tmp 28]⟩,
       ⟨some 30, some (29, false), .mv, [.tmp 2]⟩,
       ⟨some 31, some (29, false), .bin .gtr, [.tmp 30, .const (.int .i64 60)]⟩,
       ⟨some 32, none, .pick, [.tmp 29, .const (.bool true), .tmp 31]⟩]) (
     .cond (.tmp 32) (
      .seq (
       .reg [] false [⟨some 33, none, .mkIface t_api_Errno, [.const (.int .i64 1)]⟩,
         ⟨some 6, none, .mv, [.const (.lst (some true) 0 [])]⟩,
         ⟨some 7, none, .mv, [.tmp 33]⟩]) (
       .ret)) (
      .skip))) (
    .seq (
     .reg [1, 0, 2] false [⟨some 8, none, .mv, [.const (.int .i64 1)]⟩]) (
     .seq (
      .seq (
       .reg [8, 1, 0, 2] false [⟨some 9, none, .mv, [.const (.int .i64 0)]⟩]) (
       .block 0 [8, 1, 0] (
        .loop [8, 1, 0, 9, 2] b_chart_Ticks_0))) (
      .seq (
       .reg [8, 1, 0] false [⟨some 10, none, .mv, [.const (.lst (some true) 0 [])]⟩]) (
       .seq (
        .seq (
         .reg [8, 10, 1, 0] false [⟨some 57, none, .mv, [.tmp 0]⟩,
           ⟨some 58, none, .un .neg, [.tmp 57]⟩,
           ⟨some 59, none, .mv, [.tmp 8]⟩,
           ⟨some 60, none, .call f_chart_floor true, [.tmp 58, .tmp 59]⟩,
           ⟨some 61, none, .un .neg, [.tmp 60]⟩,
           ⟨some 62, none, .mv, [.tmp 8]⟩,
           ⟨some 63, none, .bin .mul, [.tmp 61, .tmp 62]⟩,
           ⟨some 11, none, .mv, [.tmp 63]⟩]) (
         .block 2 [10] (
          .loop [8, 11, 10, 1] b_chart_Ticks_1))) (
        .seq (
         .reg [10] false [⟨some 77, none, .mv, [.tmp 10]⟩,
           ⟨some 6, none, .mv, [.tmp 77]⟩,
           ⟨some 7, none, .mv, [.const (.nili)]⟩]) (
         .ret)))))))
def a_chart_Ticks : AF := { results := [.tmp 6, .tmp 7], body := b_chart_Ticks }

/- sccsettle/sccsame.Error, 2 params, 0 free: [] -/
def b_sccsame_Error : AC :=
  .seq (
   .reg [1, 0] false [⟨some 4, none, .mv, [.const (.bool false)]⟩]) (
   .seq (
    .reg [1, 0] false [⟨some 6, none, .mv, [.tmp 0]⟩,
      ⟨some 7, none, .call f_plain_Told true, [.tmp 6]⟩,
      ⟨some 5, none, .mv, [.tmp 7]⟩]) (
    .seq (
     .reg [1, 5] false [⟨some 8, none, .mv, [.tmp 5]⟩,
       ⟨some 9, none, .mv, [.tmp 1]⟩,
       ⟨some 10, none, .bin .eql, [.tmp 8, .tmp 9]⟩,
       ⟨some 4, none, .mv, [.tmp 10]⟩]) (
     .ret)))
def a_sccsame_Error : AF := { results := [.tmp 4], body := b_sccsame_Error }

/- sccsettle/sccref1.Digits, 1 params, 0 free: [] -/
def b_sccref1_Digits : AC :=
  .seq (
   .reg [0] false [⟨some 2, none, .mv, [.const (.str [])]⟩]) (
   .seq (
    .reg [0] false [⟨some 3, none, .mv, [.tmp 0]⟩,
      ⟨some 4, none, .call f_sccsettlebig_NewInt false, [.tmp 3]⟩,
      ⟨some 5, none, .call f_sccsettlebig_Int__String true, [.tmp 4]⟩,
      ⟨some 2, none, .mv, [.tmp 5]⟩]) (
    .ret))
def a_sccref1_Digits : AF := { results := [.tmp 2], body := b_sccref1_Digits }

/- sccsettle/chart.near, 1 params, 0 free: [] -/
def b_chart_near : AC :=
  .seq (
   .reg [0] false [⟨some 2, none, .mv, [.const (.bool false)]⟩]) (
   .seq (
    .reg [0] false [⟨some 3, none, .mv, [.tmp 0]⟩,
      ⟨some 4, none, .bin .geq, [.tmp 3, .const (.int .i64 (-1000000000000000))]⟩,
      ⟨some 5, none, .mv, [.tmp 4]⟩,
      ⟨some 6, some (5, true), .mv, [.tmp 0]⟩,
      ⟨some 7, some (5, true), .bin .leq, [.tmp 6, .const (.int .i64 1000000000000000)]⟩,
      ⟨some 8, none, .pick, [.tmp 5, .tmp 7, .const (.bool false)]⟩,
      ⟨some 2, none, .mv, [.tmp 8]⟩]) (
    .ret))
def a_chart_near : AF := { results := [.tmp 2], body := b_chart_near }

/- sccsettle/chart.floor, 2 params, 0 free: [] -/
def b_chart_floor : AC :=
  .seq (
   .reg [1, 0] false [⟨some 4, none, .mv, [.const (.int .i64 0)]⟩]) (
   .seq (
    .reg [1, 0] false [⟨some 6, none, .mv, [.tmp 0]⟩,
      ⟨some 7, none, .mv, [.tmp 1]⟩,
      ⟨some 8, none, .bin .quo, [.tmp 6, .tmp 7]⟩,
      ⟨some 5, none, .mv, [.tmp 8]⟩]) (
    .seq (
     .seq (
      .reg [5, 1, 0] false [⟨some 9, none, .mv, [.tmp 0]⟩,
        ⟨some 10, none, .mv, [.tmp 1]⟩,
        ⟨some 11, none, .bin .rem, [.tmp 9, .tmp 10]⟩,
        ⟨some 12, none, .bin .lss, [.tmp 11, .const (.int .i64 0)]⟩]) (
      .cond (.tmp 12) (
       .reg [5] false [⟨some 13, none, .mv, [.tmp 5]⟩,
         ⟨some 14, none, .bin .sub, [.tmp 13, .const (.int .i64 1)]⟩,
         ⟨some 5, none, .mv, [.tmp 14]⟩]) (
       .skip))) (
     .seq (
      .reg [5] false [⟨some 15, none, .mv, [.tmp 5]⟩,
        ⟨some 4, none, .mv, [.tmp 15]⟩]) (
      .ret))))
def a_chart_floor : AF := { results := [.tmp 4], body := b_chart_floor }

/- sccsettle/plain.Told, 1 params, 0 free: [] -/
def b_plain_Told : AC :=
  .seq (
   .reg [0] false [⟨some 2, none, .mv, [.const (.int .i64 0)]⟩]) (
   .seq (
    .seq (
     .reg [0] false [⟨some 4, none, .mv, [.tmp 0]⟩,
       ⟨some 5, none, .eqn .iface false true, [.tmp 4, .const (.nili)]⟩]) (
     .cond (.tmp 5) (
      .seq (
       .reg [] false [⟨some 2, none, .mv, [.const (.int .i64 0)]⟩]) (
       .ret)) (
      .skip))) (
    .seq (
     .reg [0] false [⟨some 3, none, .alloc [.int .i64 0], []⟩]) (
     .seq (
      .seq (
       .reg [3, 0] false [⟨some 6, none, .mv, [.tmp 0]⟩,
         ⟨some 7, none, .mkIface t__api_Errno, [.tmp 3]⟩,
         ⟨some 8, none, .call f_errors_As false, [.tmp 6, .tmp 7]⟩]) (
       .cond (.tmp 8) (
        .seq (
         .reg [3] false [⟨some 9, none, .load 1 false, [.tmp 3]⟩,
           ⟨some 2, none, .mv, [.tmp 9]⟩]) (
         .ret)) (
        .skip))) (
      .seq (
       .reg [] false [⟨some 2, none, .mv, [.const (.int .i64 (-1))]⟩]) (
       .ret)))))
def a_plain_Told : AF := { results := [.tmp 2], body := b_plain_Told }

/- sccsettle/sccsettlebig.NewInt, 1 params, 0 free: [] -/
def b_sccsettlebig_NewInt : AC :=
  .seq (
   .reg [0] false [⟨some 2, none, .mv, [.const (.nilp)]⟩]) (
   .seq (
    .reg [0] false [⟨some 3, none, .alloc [.bool false, .lst (some true) 0 []], []⟩,
      ⟨some 4, none, .mv, [.tmp 0]⟩,
      ⟨some 5, none, .call f_sccsettlebig_Int__SetInt64 false, [.tmp 3, .tmp 4]⟩,
      ⟨some 2, none, .mv, [.tmp 5]⟩]) (
    .ret))
def a_sccsettlebig_NewInt : AF := { results := [.tmp 2], body := b_sccsettlebig_NewInt }

/- (*sccsettle/sccsettlebig.Int).String, 1 params, 0 free: [] -/
def b_sccsettlebig_Int__String : AC :=
  .seq (
   .reg [0] false [⟨some 2, none, .mv, [.const (.str [])]⟩]) (
   .seq (
    .reg [0] false [⟨some 3, none, .mv, [.tmp 0]⟩,
      ⟨some 4, none, .call f_sccsettlebig_Int__Text true, [.tmp 3, .const (.int .i64 10)]⟩,
      ⟨some 2, none, .mv, [.tmp 4]⟩]) (
    .ret))
def a_sccsettlebig_Int__String : AF := { results := [.tmp 2], body := b_sccsettlebig_Int__String }

/- (*sccsettle/sccsettlebig.Int).SetInt64, 2 params, 0 free: [] -/
def b_sccsettlebig_Int__SetInt64 : AC :=
  .seq (
   .reg [1, 0] false [⟨some 4, none, .mv, [.const (.nilp)]⟩]) (
   .seq (
    .reg [1, 0] false [⟨some 6, none, .mv, [.tmp 1]⟩,
      ⟨some 7, none, .convInt .u64, [.tmp 6]⟩,
      ⟨some 5, none, .mv, [.tmp 7]⟩]) (
    .seq (
     .seq (
      .reg [1, 0, 5] false [⟨some 8, none, .mv, [.tmp 1]⟩,
        ⟨some 9, none, .bin .lss, [.tmp 8, .const (.int .i64 0)]⟩]) (
      .cond (.tmp 9) (
       .reg [1, 0, 5] false [⟨some 10, none, .mv, [.tmp 5]⟩,
         ⟨some 11, none, .un .neg, [.tmp 10]⟩,
         ⟨some 5, none, .mv, [.tmp 11]⟩]) (
       .skip))) (
     .seq (
      .reg [5, 1, 0] false [⟨some 12, none, .mv, [.tmp 0]⟩,
        ⟨some 13, none, .mv, [.tmp 1]⟩,
        ⟨some 14, none, .bin .lss, [.tmp 13, .const (.int .i64 0)]⟩,
        ⟨some 15, none, .mv, [.tmp 5]⟩,
        ⟨some 16, none, .call f_sccsettlebig_words true, [.tmp 15]⟩,
        ⟨some 17, none, .call f_sccsettlebig_Int__give false, [.tmp 12, .tmp 14, .tmp 16]⟩,
        ⟨some 4, none, .mv, [.tmp 17]⟩]) (
      .ret))))
def a_sccsettlebig_Int__SetInt64 : AF := { results := [.tmp 4], body := b_sccsettlebig_Int__SetInt64 }

/- (*sccsettle/sccsettlebig.Int).Text, 2 params, 0 free: [] -/
/- a loop's body; at its head: [5, 1, 6, 0] -/
def b_sccsettlebig_Int__Text_0 : AC :=
  .seq (
   .seq (
    .reg [1, 0, 5, 6] false [⟨some 24, none, .mv, [.tmp 6]⟩,
      ⟨some 25, none, .len false, [.tmp 24]⟩,
      ⟨some 26, none, .bin .gtr, [.tmp 25, .const (.int .i64 0)]⟩]) (
    .cond (.tmp 26) (
     .skip) (
     .exit 0))) (
   .block 1 [5, 1, 6, 0] (
    .seq (
     .reg [1, 0, 5, 6] false [⟨some 7, none, .mv, [.const (.int .u32 0)]⟩]) (
     .seq (
      .reg [1, 0, 5, 6] false [⟨some 28, none, .mv, [.tmp 6]⟩,
        ⟨some 29, none, .mv, [.tmp 1]⟩,
        ⟨some 30, none, .convInt .u32, [.tmp 29]⟩,
        ⟨some 31, none, .call f_sccsettlebig_small true, [.tmp 28, .tmp 30]⟩,
        ⟨some 27, none, .mv, [.tmp 31]⟩,
        ⟨some 32, none, .extract 0, [.tmp 27]⟩,
        ⟨some 33, none, .extract 1, [.tmp 27]⟩,
        ⟨some 6, none, .mv, [.tmp 32]⟩,
        ⟨some 7, none, .mv, [.tmp 33]⟩]) (
      .seq (
       .reg [1, 6, 0, 7, 5] false [⟨some 34, none, .mv, [.tmp 7]⟩,
         ⟨some 35, none, .bin .lss, [.tmp 34, .const (.int .u32 10)]⟩]) (
       .cond (.tmp 35) (
        .reg [1, 6, 0, 7, 5] false [⟨some 36, none, .mv, [.tmp 5]⟩,
          ⟨some 37, none, .mv, [.tmp 7]⟩,
          ⟨some 38, none, .bin .add, [.const (.int .u32 48), .tmp 37]⟩,
          ⟨some 39, none, .convInt .u8, [.tmp 38]⟩,
          ⟨some 40, none, .bslice 1, [.tmp 39]⟩,
          ⟨some 41, none, .append 1 1, [.tmp 36, .tmp 40]⟩,
          ⟨some 5, none, .mv, [.tmp 41]⟩]) (
        .reg [1, 6, 0, 7, 5] false [⟨some 42, none, .mv, [.tmp 5]⟩,
          ⟨some 43, none, .mv, [.tmp 7]⟩,
          ⟨some 44, none, .bin .add, [.const (.int .u32 97), .tmp 43]⟩,
          ⟨some 45, none, .bin .sub, [.tmp 44, .const (.int .u32 10)]⟩,
          ⟨some 46, none, .convInt .u8, [.tmp 45]⟩,
          ⟨some 47, none, .bslice 1, [.tmp 46]⟩,
          ⟨some 48, none, .append 1 1, [.tmp 42, .tmp 47]⟩,
          ⟨some 5, none, .mv, [.tmp 48]⟩]))))))

/- a loop's body; at its head: [9, 8, 5] -/
def b_sccsettlebig_Int__Text_1 : AC :=
  .seq (
   .seq (
    .reg [5, 9, 8] false [⟨some 59, none, .mv, [.tmp 8]⟩,
      ⟨some 60, none, .mv, [.tmp 9]⟩,
      ⟨some 61, none, .bin .lss, [.tmp 59, .tmp 60]⟩]) (
    .cond (.tmp 61) (
     .skip) (
     .exit 2))) (
   .seq (
    .block 3 [5, 9, 8] (
     .seq (
      .reg [5, 9, 8] false [⟨some 66, none, .mv, [.tmp 5]⟩,
        ⟨some 67, none, .mv, [.tmp 8]⟩,
        ⟨some 68, none, .idxAddr 1, [.tmp 66, .tmp 67]⟩,
        ⟨some 69, none, .load 1 false, [.tmp 68]⟩,
        ⟨some 10, none, .mv, [.tmp 69]⟩]) (
      .seq (
       .reg [5, 9, 8, 10] false [⟨some 70, none, .mv, [.tmp 5]⟩,
         ⟨some 71, none, .mv, [.tmp 8]⟩,
         ⟨some 72, none, .mv, [.tmp 5]⟩,
         ⟨some 73, none, .mv, [.tmp 9]⟩,
         ⟨some 74, none, .idxAddr 1, [.tmp 72, .tmp 73]⟩,
         ⟨some 75, none, .load 1 false, [.tmp 74]⟩,
         ⟨some 76, none, .idxAddr 1, [.tmp 70, .tmp 71]⟩,
         ⟨none, none, .store 1, [.tmp 76, .tmp 75]⟩]) (
       .reg [5, 9, 8, 10] false [⟨some 77, none, .mv, [.tmp 5]⟩,
         ⟨some 78, none, .mv, [.tmp 9]⟩,
         ⟨some 79, none, .mv, [.tmp 10]⟩,
         ⟨some 80, none, .idxAddr 1, [.tmp 77, .tmp 78]⟩,
         ⟨none, none, .store 1, [.tmp 80, .tmp 79]⟩])))) (
    .reg [5, 9, 8] false [⟨some 62, none, .mv, [.tmp 8]⟩,
      ⟨some 63, none, .bin .add, [.tmp 62, .const (.int .i64 1)]⟩,
      ⟨some 64, none, .mv, [.tmp 9]⟩,
      ⟨some 65, none, .bin .sub, [.tmp 64, .const (.int .i64 1)]⟩,
      ⟨some 8, none, .mv, [.tmp 63]⟩,
      ⟨some 9, none, .mv, [.tmp 65]⟩]))

def b_sccsettlebig_Int__Text : AC :=
  .seq (
   .reg [1, 0] false [⟨some 4, none, .mv, [.const (.str [])]⟩]) (
   .seq (
    .seq (
     .reg [1, 0] false [⟨some 11, none, .mv, [.tmp 0]⟩,
       ⟨some 12, none, .eqn .ptr false true, [.tmp 11, .const (.nilp)]⟩]) (
     .cond (.tmp 12) (
      .seq (
       .reg [] false [⟨some 4, none, .mv, [.const (.str [60, 110, 105, 108, 62])]⟩]) (
       .ret)) (
      .skip))) (
    .seq (
     .seq (
      .reg [1, 0] false [⟨some 13, none, .mv, [.tmp 0]⟩,
        ⟨some 14, none, .nilchk, [.tmp 13]⟩,
        ⟨some 15, none, .fieldAddr 1, [.tmp 14]⟩,
        ⟨some 16, none, .load 1 false, [.tmp 15]⟩,
        ⟨some 17, none, .len false, [.tmp 16]⟩,
        ⟨some 18, none, .bin .eql, [.tmp 17, .const (.int .i64 0)]⟩]) (
      .cond (.tmp 18) (
       .seq (
        .reg [] false [⟨some 4, none, .mv, [.const (.str [48])]⟩]) (
        .ret)) (
       .skip))) (
     .seq (
      .reg [1, 0] false [⟨some 5, none, .mv, [.const (.lst (some true) 0 [])]⟩]) (
      .seq (
       .seq (
        .reg [5, 1, 0] false [⟨some 19, none, .mv, [.tmp 0]⟩,
          ⟨some 20, none, .nilchk, [.tmp 19]⟩,
          ⟨some 21, none, .fieldAddr 1, [.tmp 20]⟩,
          ⟨some 22, none, .load 1 false, [.tmp 21]⟩,
          ⟨some 23, none, .call f_sccsettlebig_twin true, [.tmp 22]⟩,
          ⟨some 6, none, .mv, [.tmp 23]⟩]) (
        .block 0 [5, 0] (
         .loop [5, 1, 6, 0] b_sccsettlebig_Int__Text_0))) (
       .seq (
        .seq (
         .reg [5, 0] false [⟨some 49, none, .mv, [.tmp 0]⟩,
           ⟨some 50, none, .nilchk, [.tmp 49]⟩,
           ⟨some 51, none, .fieldAddr 0, [.tmp 50]⟩,
           ⟨some 52, none, .load 1 false, [.tmp 51]⟩]) (
         .cond (.tmp 52) (
          .reg [5] false [⟨some 53, none, .mv, [.tmp 5]⟩,
            ⟨some 54, none, .bslice 1, [.const (.int .u8 45)]⟩,
            ⟨some 55, none, .append 1 1, [.tmp 53, .tmp 54]⟩,
            ⟨some 5, none, .mv, [.tmp 55]⟩]) (
          .skip))) (
        .seq (
         .seq (
          .reg [5] false [⟨some 56, none, .mv, [.tmp 5]⟩,
            ⟨some 57, none, .len false, [.tmp 56]⟩,
            ⟨some 58, none, .bin .sub, [.tmp 57, .const (.int .i64 1)]⟩,
            ⟨some 8, none, .mv, [.const (.int .i64 0)]⟩,
            ⟨some 9, none, .mv, [.tmp 58]⟩]) (
          .block 2 [5] (
           .loop [9, 8, 5] b_sccsettlebig_Int__Text_1))) (
         .seq (
          .reg [5] false [⟨some 81, none, .mv, [.tmp 5]⟩,
            ⟨some 82, none, .bytesToStr, [.tmp 81]⟩,
            ⟨some 4, none, .mv, [.tmp 82]⟩]) (
          .ret))))))))
def a_sccsettlebig_Int__Text : AF := { results := [.tmp 4], body := b_sccsettlebig_Int__Text }

/- (*sccsettle/sccsettlebig.Int).give, 3 params, 0 free: [] -/
def b_sccsettlebig_Int__give : AC :=
  .seq (
   .reg [0, 2, 1] false [⟨some 6, none, .mv, [.const (.nilp)]⟩]) (
   .seq (
    .reg [0, 2, 1] false [⟨some 7, none, .mv, [.tmp 0]⟩,
      ⟨some 8, none, .mv, [.tmp 2]⟩,
      ⟨some 9, none, .nilchk, [.tmp 7]⟩,
      ⟨some 10, none, .fieldAddr 1, [.tmp 9]⟩,
      ⟨none, none, .store 1, [.tmp 10, .tmp 8]⟩]) (
    .seq (
     .reg [0, 2, 1] false [⟨some 11, none, .mv, [.tmp 0]⟩,
       ⟨some 12, none, .mv, [.tmp 1]⟩,
       ⟨some 13, none, .mv, [.tmp 12]⟩,
       ⟨some 14, some (13, true), .mv, [.tmp 2]⟩,
       ⟨some 15, some (13, true), .len false, [.tmp 14]⟩,
       ⟨some 16, some (13, true), .bin .gtr, [.tmp 15, .const (.int .i64 0)]⟩,
       ⟨some 17, none, .pick, [.tmp 13, .tmp 16, .const (.bool false)]⟩,
       ⟨some 18, none, .nilchk, [.tmp 11]⟩,
       ⟨some 19, none, .fieldAddr 0, [.tmp 18]⟩,
       ⟨none, none, .store 1, [.tmp 19, .tmp 17]⟩]) (
     .seq (
      .reg [0] false [⟨some 20, none, .mv, [.tmp 0]⟩,
        ⟨some 6, none, .mv, [.tmp 20]⟩]) (
      .ret))))
def a_sccsettlebig_Int__give : AF := { results := [.tmp 6], body := b_sccsettlebig_Int__give }

/- sccsettle/sccsettlebig.words, 1 params, 0 free: [] -/
def b_sccsettlebig_words : AC :=
  .seq (
   .reg [0] false [⟨some 2, none, .mv, [.const (.lst (some true) 0 [])]⟩]) (
   .seq (
    .reg [0] false [⟨some 3, none, .mv, [.tmp 0]⟩,
      ⟨some 4, none, .convInt .u32, [.tmp 3]⟩,
      ⟨some 5, none, .mv, [.tmp 0]⟩,
      ⟨some 6, none, .bin .shr, [.tmp 5, .const (.int .u64 32)]⟩,
      ⟨some 7, none, .convInt .u32, [.tmp 6]⟩,
      ⟨some 8, none, .bslice 1, [.tmp 4, .tmp 7]⟩,
      ⟨some 9, none, .call f_sccsettlebig_trim true, [.tmp 8]⟩,
      ⟨some 2, none, .mv, [.tmp 9]⟩]) (
    .ret))
def a_sccsettlebig_words : AF := { results := [.tmp 2], body := b_sccsettlebig_words }

/- sccsettle/sccsettlebig.twin, 1 params, 0 free: [] -/
def b_sccsettlebig_twin : AC :=
  .seq (
   .reg [0] false [⟨some 2, none, .mv, [.const (.lst (some true) 0 [])]⟩]) (
   .seq (
    .reg [0] false [⟨some 3, none, .mv, [.tmp 0]⟩,
      ⟨some 4, none, .append 1 4, [.const (.lst (some true) 0 []), .tmp 3]⟩,
      ⟨some 2, none, .mv, [.tmp 4]⟩]) (
    .ret))
def a_sccsettlebig_twin : AF := { results := [.tmp 2], body := b_sccsettlebig_twin }

/- sccsettle/sccsettlebig.small, 2 params, 0 free: [] -/
/- a loop's body; at its head: [8, 1, 6, 0, 7] -/
def b_sccsettlebig_small_0 : AC :=
  .seq (
   .seq (
    .reg [1, 6, 0, 8, 7] false [⟨some 15, none, .mv, [.tmp 8]⟩,
      ⟨some 16, none, .bin .geq, [.tmp 15, .const (.int .i64 0)]⟩]) (
    .cond (.tmp 16) (
     .skip) (
     .exit 0))) (
   .seq (
    .block 1 [1, 6, 0, 7, 8] (
     .seq (
      .reg [1, 6, 0, 8, 7] false [⟨some 19, none, .mv, [.tmp 7]⟩,
        ⟨some 20, none, .bin .shl, [.tmp 19, .const (.int .u64 32)]⟩,
        ⟨some 21, none, .mv, [.tmp 0]⟩,
        ⟨some 22, none, .mv, [.tmp 8]⟩,
        ⟨some 23, none, .idxAddr 1, [.tmp 21, .tmp 22]⟩,
        ⟨some 24, none, .load 1 false, [.tmp 23]⟩,
        ⟨some 25, none, .convInt .u64, [.tmp 24]⟩,
        ⟨some 26, none, .bin .or, [.tmp 20, .tmp 25]⟩,
        ⟨some 7, none, .mv, [.tmp 26]⟩]) (
      .seq (
       .reg [1, 6, 0, 8, 7] false [⟨some 27, none, .mv, [.tmp 6]⟩,
         ⟨some 28, none, .mv, [.tmp 8]⟩,
         ⟨some 29, none, .mv, [.tmp 7]⟩,
         ⟨some 30, none, .mv, [.tmp 1]⟩,
         ⟨some 31, none, .convInt .u64, [.tmp 30]⟩,
         ⟨some 32, none, .bin .quo, [.tmp 29, .tmp 31]⟩,
         ⟨some 33, none, .convInt .u32, [.tmp 32]⟩,
         ⟨some 34, none, .idxAddr 1, [.tmp 27, .tmp 28]⟩,
         ⟨none, none, .store 1, [.tmp 34, .tmp 33]⟩]) (
       .reg [1, 6, 0, 8, 7] false [⟨some 35, none, .mv, [.tmp 7]⟩,
         ⟨some 36, none, .mv, [.tmp 1]⟩,
         ⟨some 37, none, .convInt .u64, [.tmp 36]⟩,
         ⟨some 38, none, .bin .rem, [.tmp 35, .tmp 37]⟩,
         ⟨some 7, none, .mv, [.tmp 38]⟩])))) (
    .reg [1, 6, 0, 7, 8] false [⟨some 17, none, .mv, [.tmp 8]⟩,
      ⟨some 18, none, .bin .sub, [.tmp 17, .const (.int .i64 1)]⟩,
      ⟨some 8, none, .mv, [.tmp 18]⟩]))

def b_sccsettlebig_small : AC :=
  .seq (
   .reg [1, 0] false [⟨some 4, none, .mv, [.const (.lst (some true) 0 [])]⟩,
     ⟨some 5, none, .mv, [.const (.int .u32 0)]⟩]) (
   .seq (
    .reg [1, 0] false [⟨some 9, none, .mv, [.tmp 0]⟩,
      ⟨some 10, none, .len false, [.tmp 9]⟩,
      ⟨some 11, none, .make 1 4 (.int .u32 0), [.tmp 10, .tmp 10]⟩,
      ⟨some 6, none, .mv, [.tmp 11]⟩]) (
    .seq (
     .reg [1, 6, 0] false [⟨some 7, none, .mv, [.const (.int .u64 0)]⟩]) (
     .seq (
      .seq (
       .reg [1, 6, 0, 7] false [⟨some 12, none, .mv, [.tmp 0]⟩,
         ⟨some 13, none, .len false, [.tmp 12]⟩,
         ⟨some 14, none, .bin .sub, [.tmp 13, .const (.int .i64 1)]⟩,
         ⟨some 8, none, .mv, [.tmp 14]⟩]) (
       .block 0 [7, 6] (
        .loop [8, 1, 6, 0, 7] b_sccsettlebig_small_0))) (
      .seq (
       .reg [7, 6] false [⟨some 39, none, .mv, [.tmp 6]⟩,
         ⟨some 40, none, .call f_sccsettlebig_trim true, [.tmp 39]⟩,
         ⟨some 41, none, .mv, [.tmp 7]⟩,
         ⟨some 42, none, .convInt .u32, [.tmp 41]⟩,
         ⟨some 4, none, .mv, [.tmp 40]⟩,
         ⟨some 5, none, .mv, [.tmp 42]⟩]) (
       .ret)))))
def a_sccsettlebig_small : AF := { results := [.tmp 4, .tmp 5], body := b_sccsettlebig_small }

/- sccsettle/sccsettlebig.trim, 1 params, 0 free: [] -/
/- a loop's body; at its head: [3, 0] -/
def b_sccsettlebig_trim_0 : AC :=
  .seq (
   .seq (
    .reg [0, 3] false [⟨some 6, none, .mv, [.tmp 3]⟩,
      ⟨some 7, none, .bin .gtr, [.tmp 6, .const (.int .i64 0)]⟩,
      ⟨some 8, none, .mv, [.tmp 7]⟩,
      ⟨some 9, some (8, true), .mv, [.tmp 0]⟩,
      ⟨some 10, some (8, true), .mv, [.tmp 3]⟩,
      ⟨some 11, some (8, true), .bin .sub, [.tmp 10, .const (.int .i64 1)]⟩,
      ⟨some 12, some (8, true), .idxAddr 1, [.tmp 9, .tmp 11]⟩,
      ⟨some 13, some (8, true), .load 1 false, [.tmp 12]⟩,
      ⟨some 14, some (8, true), .bin .eql, [.tmp 13, .const (.int .u32 0)]⟩,
      ⟨some 15, none, .pick, [.tmp 8, .tmp 14, .const (.bool false)]⟩]) (
    .cond (.tmp 15) (
     .skip) (
     .exit 0))) (
   .block 1 [3, 0] (
    .reg [0, 3] false [⟨some 16, none, .mv, [.tmp 3]⟩,
      ⟨some 17, none, .bin .sub, [.tmp 16, .const (.int .i64 1)]⟩,
      ⟨some 3, none, .mv, [.tmp 17]⟩]))

def b_sccsettlebig_trim : AC :=
  .seq (
   .reg [0] false [⟨some 2, none, .mv, [.const (.lst (some true) 0 [])]⟩]) (
   .seq (
    .reg [0] false [⟨some 4, none, .mv, [.tmp 0]⟩,
      ⟨some 5, none, .len false, [.tmp 4]⟩,
      ⟨some 3, none, .mv, [.tmp 5]⟩]) (
    .seq (
     .block 0 [3, 0] (
      .loop [3, 0] b_sccsettlebig_trim_0)) (
     .seq (
      .reg [3, 0] false [⟨some 18, none, .mv, [.tmp 0]⟩,
        ⟨some 19, none, .mv, [.tmp 3]⟩,
        ⟨some 20, none, .slc (some 1) false true, [.tmp 18, .tmp 19]⟩,
        ⟨some 2, none, .mv, [.tmp 20]⟩]) (
      .ret))))
def a_sccsettlebig_trim : AF := { results := [.tmp 2], body := b_sccsettlebig_trim }

end Go.AM
