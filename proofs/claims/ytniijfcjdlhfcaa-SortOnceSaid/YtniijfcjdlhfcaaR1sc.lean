/- Abstract code, printed by a program of my own (wip/gen/Gen.lean.tpl) off the dump. -/
import Derived.Test.YtniijfcjdlhfcaaR1sn
set_option linter.all false
namespace Go.AM
/- sccsettle/scclaw4.SortOnce, 2 params, 0 free: [] -/
/- a loop's body; at its head: [10, 7, 9, 0, 1] -/
def b_scclaw4_SortOnce_0 : AC :=
  .seq (
   .seq (
    .reg [7, 9, 0, 1, 10] false [⟨some 45, none, .mv, [.tmp 10]⟩,
      ⟨some 46, none, .mv, [.tmp 7]⟩,
      ⟨some 47, none, .len false, [.tmp 46]⟩,
      ⟨some 48, none, .bin .lss, [.tmp 45, .tmp 47]⟩]) (
    .cond (.tmp 48) (
     .skip) (
     .exit 0))) (
   .seq (
    .block 1 [7, 9, 0, 1, 10] (
     .seq (
      .seq (
       .reg [7, 9, 0, 1, 10] true [⟨some 51, none, .mv, [.tmp 7]⟩,
         ⟨some 52, none, .mv, [.tmp 10]⟩,
         ⟨some 53, none, .idxAddr 1, [.tmp 51, .tmp 52]⟩,
         ⟨some 54, none, .load 1 false, [.tmp 53]⟩,
         ⟨some 55, none, .bin .lss, [.tmp 54, .const (.int .i64 0)]⟩,
         ⟨some 56, none, .mv, [.tmp 55]⟩,
         ⟨some 57, some (56, false), .mv, [.tmp 7]⟩,
         ⟨some 58, some (56, false), .mv, [.tmp 10]⟩,
         ⟨some 59, some (56, false), .idxAddr 1, [.tmp 57, .tmp 58]⟩,
         ⟨some 60, some (56, false), .load 1 false, [.tmp 59]⟩,
         ⟨some 61, some (56, false), .mv, [.tmp 0]⟩,
         ⟨some 62, some (56, false), .len false, [.tmp 61]⟩,
         ⟨some 63, some (56, false), .bin .geq, [.tmp 60, .tmp 62]⟩,
         ⟨some 64, none, .pick, [.tmp 56, .const (.bool true), .tmp 63]⟩,
         ⟨some 65, none, .mv, [.tmp 64]⟩,
         ⟨some 66, some (65, false), .mv, [.tmp 10]⟩,
         ⟨some 67, some (65, false), .bin .gtr, [.tmp 66, .const (.int .i64 0)]⟩,
         ⟨some 68, some (65, false), .mv, [.tmp 67]⟩,
         ⟨some 69, some (68, true), .mv, [.tmp 7]⟩,
         ⟨some 70, some (68, true), .mv, [.tmp 10]⟩,
         ⟨some 71, some (68, true), .idxAddr 1, [.tmp 69, .tmp 70]⟩,
         ⟨some 72, some (68, true), .load 1 false, [.tmp 71]⟩,
         ⟨some 73, some (68, true), .mv, [.tmp 7]⟩,
         ⟨some 74, some (68, true), .mv, [.tmp 10]⟩,
         ⟨some 75, some (68, true), .bin .sub, [.tmp 74, .const (.int .i64 1)]⟩,
         ⟨some 76, some (68, true), .idxAddr 1, [.tmp 73, .tmp 75]⟩,
         ⟨some 77, some (68, true), .load 1 false, [.tmp 76]⟩,
         ⟨some 78, some (68, true), .bin .leq, [.tmp 72, .tmp 77]⟩,
         ⟨some 79, some (65, false), .pick, [.tmp 68, .tmp 78, .const (.bool false)]⟩,
         ⟨some 80, none, .pick, [.tmp 65, .const (.bool true), .tmp 79]⟩]) (
       .cond (.tmp 80) (
        .seq (
         .reg [] false [⟨some 4, none, .mv, [.const (.bool false)]⟩]) (
         .ret)) (
        .skip))) (
      .reg [7, 9, 0, 1, 10] false [⟨some 81, none, .mv, [.tmp 9]⟩,
        ⟨some 82, none, .mv, [.tmp 7]⟩,
        ⟨some 83, none, .mv, [.tmp 10]⟩,
        ⟨some 84, none, .idxAddr 1, [.tmp 82, .tmp 83]⟩,
        ⟨some 85, none, .load 1 false, [.tmp 84]⟩,
        ⟨some 86, none, .idxAddr 1, [.tmp 81, .tmp 85]⟩,
        ⟨none, none, .store 1, [.tmp 86, .const (.bool true)]⟩]))) (
    .reg [7, 9, 0, 1, 10] false [⟨some 49, none, .mv, [.tmp 10]⟩,
      ⟨some 50, none, .bin .add, [.tmp 49, .const (.int .i64 1)]⟩,
      ⟨some 10, none, .mv, [.tmp 50]⟩]))

/- a loop's body; at its head: [15, 1, 13, 0, 11, 9, 14, 12] -/
def b_scclaw4_SortOnce_1 : AC :=
  .seq (
   .seq (
    .reg [1, 13, 0, 11, 9, 12, 15, 14] false [⟨some 102, none, .mv, [.tmp 15]⟩,
      ⟨some 103, none, .mv, [.tmp 1]⟩,
      ⟨some 104, none, .len false, [.tmp 103]⟩,
      ⟨some 105, none, .bin .lss, [.tmp 102, .tmp 104]⟩,
      ⟨some 106, none, .mv, [.tmp 105]⟩,
      ⟨some 107, some (106, true), .mv, [.tmp 14]⟩,
      ⟨some 108, none, .pick, [.tmp 106, .tmp 107, .const (.bool false)]⟩]) (
    .cond (.tmp 108) (
     .skip) (
     .exit 6))) (
   .seq (
    .block 7 [1, 13, 0, 11, 9, 14, 12, 15] (
     .seq (
      .reg [1, 13, 0, 11, 9, 12, 15] true [⟨some 111, none, .mv, [.tmp 0]⟩,
        ⟨some 112, none, .mv, [.tmp 11]⟩,
        ⟨some 113, none, .idxAddr 1, [.tmp 111, .tmp 112]⟩,
        ⟨some 114, none, .load 1 false, [.tmp 113]⟩,
        ⟨some 115, none, .mv, [.tmp 1]⟩,
        ⟨some 116, none, .mv, [.tmp 15]⟩,
        ⟨some 117, none, .idxAddr 1, [.tmp 115, .tmp 116]⟩,
        ⟨some 118, none, .load 1 false, [.tmp 117]⟩,
        ⟨some 119, none, .idxAddr 3, [.tmp 114, .tmp 118]⟩,
        ⟨some 120, none, .load 3 true, [.tmp 119]⟩,
        ⟨some 121, none, .mv, [.tmp 0]⟩,
        ⟨some 122, none, .mv, [.tmp 13]⟩,
        ⟨some 123, none, .idxAddr 1, [.tmp 121, .tmp 122]⟩,
        ⟨some 124, none, .load 1 false, [.tmp 123]⟩,
        ⟨some 125, none, .mv, [.tmp 1]⟩,
        ⟨some 126, none, .mv, [.tmp 15]⟩,
        ⟨some 127, none, .idxAddr 1, [.tmp 125, .tmp 126]⟩,
        ⟨some 128, none, .load 1 false, [.tmp 127]⟩,
        ⟨some 129, none, .idxAddr 3, [.tmp 124, .tmp 128]⟩,
        ⟨some 130, none, .load 3 true, [.tmp 129]⟩,
        ⟨some 131, none, .call f_value_Compare true, [.tmp 120, .tmp 130]⟩,
        ⟨some 16, none, .mv, [.tmp 131]⟩]) (
      .reg [1, 13, 0, 11, 9, 12, 15, 16] false [⟨some 132, none, .mv, [.tmp 16]⟩,
        ⟨some 133, none, .bin .eql, [.tmp 132, .const (.int .i64 0)]⟩,
        ⟨some 14, none, .mv, [.tmp 133]⟩]))) (
    .reg [1, 13, 0, 11, 9, 14, 12, 15] false [⟨some 109, none, .mv, [.tmp 15]⟩,
      ⟨some 110, none, .bin .add, [.tmp 109, .const (.int .i64 1)]⟩,
      ⟨some 15, none, .mv, [.tmp 110]⟩]))

/- a loop's body; at its head: [1, 13, 0, 11, 12, 9] -/
def b_scclaw4_SortOnce_2 : AC :=
  .seq (
   .seq (
    .reg [1, 13, 0, 11, 9, 12] false [⟨some 93, none, .mv, [.tmp 13]⟩,
      ⟨some 94, none, .mv, [.tmp 11]⟩,
      ⟨some 95, none, .bin .lss, [.tmp 93, .tmp 94]⟩]) (
    .cond (.tmp 95) (
     .skip) (
     .exit 4))) (
   .seq (
    .block 5 [1, 0, 11, 12, 9, 13] (
     .seq (
      .reg [1, 13, 0, 11, 9, 12] false [⟨some 98, none, .mv, [.tmp 9]⟩,
        ⟨some 99, none, .mv, [.tmp 13]⟩,
        ⟨some 100, none, .idxAddr 1, [.tmp 98, .tmp 99]⟩,
        ⟨some 101, none, .load 1 false, [.tmp 100]⟩,
        ⟨some 14, none, .mv, [.tmp 101]⟩]) (
      .seq (
       .seq (
        .reg [1, 13, 0, 11, 9, 14, 12] false [⟨some 15, none, .mv, [.const (.int .i64 0)]⟩]) (
        .block 6 [1, 0, 11, 9, 13, 14, 12] (
         .loop [15, 1, 13, 0, 11, 9, 14, 12] b_scclaw4_SortOnce_1))) (
       .reg [1, 0, 11, 9, 13, 14, 12] false [⟨some 134, none, .mv, [.tmp 12]⟩,
         ⟨some 135, none, .mv, [.tmp 134]⟩,
         ⟨some 136, some (135, false), .mv, [.tmp 14]⟩,
         ⟨some 137, none, .pick, [.tmp 135, .const (.bool true), .tmp 136]⟩,
         ⟨some 12, none, .mv, [.tmp 137]⟩])))) (
    .reg [1, 0, 11, 12, 9, 13] false [⟨some 96, none, .mv, [.tmp 13]⟩,
      ⟨some 97, none, .bin .add, [.tmp 96, .const (.int .i64 1)]⟩,
      ⟨some 13, none, .mv, [.tmp 97]⟩]))

/- a loop's body; at its head: [1, 0, 11, 9] -/
def b_scclaw4_SortOnce_3 : AC :=
  .seq (
   .seq (
    .reg [1, 0, 11, 9] false [⟨some 87, none, .mv, [.tmp 11]⟩,
      ⟨some 88, none, .mv, [.tmp 0]⟩,
      ⟨some 89, none, .len false, [.tmp 88]⟩,
      ⟨some 90, none, .bin .lss, [.tmp 87, .tmp 89]⟩]) (
    .cond (.tmp 90) (
     .skip) (
     .exit 2))) (
   .seq (
    .block 3 [1, 0, 9, 11] (
     .seq (
      .reg [1, 0, 11, 9] false [⟨some 12, none, .mv, [.const (.bool false)]⟩]) (
      .seq (
       .seq (
        .reg [1, 0, 11, 12, 9] false [⟨some 13, none, .mv, [.const (.int .i64 0)]⟩]) (
        .block 4 [1, 0, 9, 11, 12] (
         .loop [1, 13, 0, 11, 12, 9] b_scclaw4_SortOnce_2))) (
       .seq (
        .reg [1, 0, 9, 11, 12] false [⟨some 138, none, .mv, [.tmp 12]⟩,
          ⟨some 139, none, .mv, [.tmp 9]⟩,
          ⟨some 140, none, .mv, [.tmp 11]⟩,
          ⟨some 141, none, .idxAddr 1, [.tmp 139, .tmp 140]⟩,
          ⟨some 142, none, .load 1 false, [.tmp 141]⟩,
          ⟨some 143, none, .eqb false, [.tmp 138, .tmp 142]⟩]) (
        .cond (.tmp 143) (
         .seq (
          .reg [] false [⟨some 4, none, .mv, [.const (.bool false)]⟩]) (
          .ret)) (
         .skip)))))) (
    .reg [1, 0, 9, 11] false [⟨some 91, none, .mv, [.tmp 11]⟩,
      ⟨some 92, none, .bin .add, [.tmp 91, .const (.int .i64 1)]⟩,
      ⟨some 11, none, .mv, [.tmp 92]⟩]))

def b_scclaw4_SortOnce : AC :=
  .seq (
   .reg [0, 1] false [⟨some 4, none, .mv, [.const (.bool false)]⟩]) (
   .seq (
    .reg [0, 1] false [⟨some 18, none, .call f_sccref1_Num true, [.const (.int .i64 1)]⟩,
      ⟨some 19, none, .bslice 3, [.tmp 18]⟩,
      ⟨some 20, none, .call f_sccref1_Num true, [.const (.int .i64 1)]⟩,
      ⟨some 21, none, .bslice 3, [.tmp 20]⟩,
      ⟨some 22, none, .bslice 1, [.tmp 19, .tmp 21]⟩,
      ⟨some 23, none, .bslice 1, [.const (.int .i64 0)]⟩,
      ⟨some 24, none, .call f_sort_Distinct true, [.tmp 22, .tmp 23]⟩,
      ⟨some 17, none, .mv, [.tmp 24]⟩,
      ⟨some 25, none, .extract 0, [.tmp 17]⟩,
      ⟨some 26, none, .extract 1, [.tmp 17]⟩,
      ⟨some 5, none, .mv, [.tmp 25]⟩,
      ⟨some 6, none, .mv, [.tmp 26]⟩]) (
    .seq (
     .seq (
      .reg [0, 1, 5, 6] false [⟨some 27, none, .mv, [.tmp 6]⟩,
        ⟨some 28, none, .eqn .iface true true, [.tmp 27, .const (.nili)]⟩,
        ⟨some 29, none, .mv, [.tmp 28]⟩,
        ⟨some 30, some (29, false), .mv, [.tmp 5]⟩,
        ⟨some 31, some (29, false), .len false, [.tmp 30]⟩,
        ⟨some 32, some (29, false), .bin .neq, [.tmp 31, .const (.int .i64 1)]⟩,
        ⟨some 33, none, .pick, [.tmp 29, .const (.bool true), .tmp 32]⟩]) (
      .cond (.tmp 33) (
       .seq (
        .reg [] false [⟨some 4, none, .mv, [.const (.bool false)]⟩]) (
        .ret)) (
       .skip))) (
     .seq (
      .reg [0, 1] false [⟨some 35, none, .mv, [.tmp 0]⟩,
        ⟨some 36, none, .mv, [.tmp 1]⟩,
        ⟨some 37, none, .call f_sort_Distinct true, [.tmp 35, .tmp 36]⟩,
        ⟨some 34, none, .mv, [.tmp 37]⟩,
        ⟨some 38, none, .extract 0, [.tmp 34]⟩,
        ⟨some 39, none, .extract 1, [.tmp 34]⟩,
        ⟨some 7, none, .mv, [.tmp 38]⟩,
        ⟨some 8, none, .mv, [.tmp 39]⟩]) (
      .seq (
       .seq (
        .reg [7, 0, 1, 8] false [⟨some 40, none, .mv, [.tmp 8]⟩,
          ⟨some 41, none, .eqn .iface true true, [.tmp 40, .const (.nili)]⟩]) (
        .cond (.tmp 41) (
         .seq (
          .reg [] false [⟨some 4, none, .mv, [.const (.bool true)]⟩]) (
          .ret)) (
         .skip))) (
       .seq (
        .reg [7, 0, 1] false [⟨some 42, none, .mv, [.tmp 0]⟩,
          ⟨some 43, none, .len false, [.tmp 42]⟩,
          ⟨some 44, none, .make 1 1 (.bool false), [.tmp 43, .tmp 43]⟩,
          ⟨some 9, none, .mv, [.tmp 44]⟩]) (
        .seq (
         .seq (
          .reg [7, 9, 0, 1] false [⟨some 10, none, .mv, [.const (.int .i64 0)]⟩]) (
          .block 0 [1, 0, 9] (
           .loop [10, 7, 9, 0, 1] b_scclaw4_SortOnce_0))) (
         .seq (
          .seq (
           .reg [1, 0, 9] false [⟨some 11, none, .mv, [.const (.int .i64 0)]⟩]) (
           .block 2 [] (
            .loop [1, 0, 11, 9] b_scclaw4_SortOnce_3))) (
          .seq (
           .reg [] false [⟨some 4, none, .mv, [.const (.bool true)]⟩]) (
           .ret)))))))))
def a_scclaw4_SortOnce : AF := { results := [.tmp 4], body := b_scclaw4_SortOnce }

/- sccsettle/sort.Distinct, 2 params, 0 free: [] -/
/- a loop's body; at its head: [21, 7, 19, 2, 20] -/
def b_sort_Distinct_0 : AC :=
  .seq (
   .reg [7, 19, 2, 20, 21] false [⟨some 22, none, .bin .lss, [.tmp 21, .tmp 20]⟩]) (
   .seq (
    .cond (.tmp 22) (
     .skip) (
     .exit 0)) (
    .seq (
     .block 1 [7, 19, 2, 20, 21] (
      .seq (
       .reg [7, 19, 2, 20, 21] false [⟨some 23, none, .idxAddr 1, [.tmp 19, .tmp 21]⟩,
         ⟨some 24, none, .load 1 false, [.tmp 23]⟩,
         ⟨some 9, none, .mv, [.tmp 24]⟩]) (
       .reg [7, 19, 2, 20, 21, 9] false [⟨some 25, none, .load 1 false, [.tmp 7]⟩,
         ⟨some 26, none, .mv, [.tmp 9]⟩,
         ⟨some 27, none, .build [.int .i64 0, .bool false] [(0, 1)], [.tmp 26]⟩,
         ⟨some 28, none, .bslice 2, [.tmp 27]⟩,
         ⟨some 29, none, .append 2 16, [.tmp 25, .tmp 28]⟩,
         ⟨none, none, .store 1, [.tmp 7, .tmp 29]⟩]))) (
     .reg [7, 19, 2, 20, 21] false [⟨some 30, none, .bin .add, [.tmp 21, .const (.int .i64 1)]⟩,
       ⟨some 21, none, .mv, [.tmp 30]⟩])))

/- a loop's body; at its head: [33, 10, 2, 7, 31, 32] -/
def b_sort_Distinct_1 : AC :=
  .seq (
   .reg [2, 7, 31, 32, 33, 10] false [⟨some 34, none, .bin .lss, [.tmp 33, .tmp 32]⟩]) (
   .seq (
    .cond (.tmp 34) (
     .skip) (
     .exit 2)) (
    .seq (
     .block 3 [10, 2, 7, 31, 32, 33] (
      .seq (
       .reg [2, 7, 31, 32, 33, 10] false [⟨some 35, none, .mv, [.tmp 33]⟩,
         ⟨some 36, none, .idxAddr 1, [.tmp 31, .tmp 33]⟩,
         ⟨some 37, none, .load 1 false, [.tmp 36]⟩,
         ⟨some 12, none, .alloc [.lst (some true) 0 []], []⟩,
         ⟨some 11, none, .mv, [.tmp 35]⟩,
         ⟨none, none, .store 1, [.tmp 12, .tmp 37]⟩]) (
       .seq (
        .reg [2, 7, 31, 32, 33, 11, 10, 12] false [⟨some 38, none, .mv, [.tmp 10]⟩,
          ⟨some 39, none, .mkFn f_sort_Distinct_c1 0, [.tmp 2, .tmp 12, .tmp 7]⟩,
          ⟨some 40, none, .call f_slices_ContainsFunc___int_int_ true, [.tmp 38, .tmp 39]⟩,
          ⟨some 41, none, .un .not, [.tmp 40]⟩]) (
        .cond (.tmp 41) (
         .reg [2, 7, 31, 32, 33, 11, 10] false [⟨some 42, none, .mv, [.tmp 10]⟩,
           ⟨some 43, none, .mv, [.tmp 11]⟩,
           ⟨some 44, none, .bslice 1, [.tmp 43]⟩,
           ⟨some 45, none, .append 1 8, [.tmp 42, .tmp 44]⟩,
           ⟨some 10, none, .mv, [.tmp 45]⟩]) (
         .skip))))) (
     .reg [10, 2, 7, 31, 32, 33] false [⟨some 46, none, .bin .add, [.tmp 33, .const (.int .i64 1)]⟩,
       ⟨some 33, none, .mv, [.tmp 46]⟩])))

def b_sort_Distinct : AC :=
  .seq (
   .reg [1, 0] false [⟨some 2, none, .box, [.tmp 0]⟩,
     ⟨some 4, none, .mv, [.const (.lst (some true) 0 [])]⟩,
     ⟨some 5, none, .mv, [.const (.nili)]⟩]) (
   .seq (
    .seq (
     .reg [2, 1] false [⟨some 13, none, .load 1 false, [.tmp 2]⟩,
       ⟨some 14, none, .mv, [.tmp 1]⟩,
       ⟨some 15, none, .call f_sort_Columns true, [.tmp 13, .tmp 14]⟩,
       ⟨some 6, none, .mv, [.tmp 15]⟩]) (
     .seq (
      .reg [6, 2, 1] false [⟨some 16, none, .mv, [.tmp 6]⟩,
        ⟨some 17, none, .eqn .iface true true, [.tmp 16, .const (.nili)]⟩]) (
      .cond (.tmp 17) (
       .seq (
        .reg [6] false [⟨some 18, none, .mv, [.tmp 6]⟩,
          ⟨some 4, none, .mv, [.const (.lst (some true) 0 [])]⟩,
          ⟨some 5, none, .mv, [.tmp 18]⟩]) (
        .ret)) (
       .skip)))) (
    .seq (
     .reg [2, 1] false [⟨some 7, none, .alloc [.lst (some true) 0 []], []⟩]) (
     .seq (
      .seq (
       .reg [7, 2, 1] false [⟨some 19, none, .mv, [.tmp 1]⟩,
         ⟨some 20, none, .len false, [.tmp 19]⟩,
         ⟨some 21, none, .mv, [.const (.int .i64 0)]⟩]) (
       .block 0 [2, 7] (
        .loop [21, 7, 19, 2, 20] b_sort_Distinct_0))) (
      .seq (
       .reg [2, 7] false [⟨some 10, none, .mv, [.const (.lst (some true) 0 [])]⟩]) (
       .seq (
        .seq (
         .reg [10, 2, 7] false [⟨some 31, none, .load 1 false, [.tmp 2]⟩,
           ⟨some 32, none, .len false, [.tmp 31]⟩,
           ⟨some 33, none, .mv, [.const (.int .i64 0)]⟩]) (
         .block 2 [10] (
          .loop [33, 10, 2, 7, 31, 32] b_sort_Distinct_1))) (
        .seq (
         .reg [10] false [⟨some 47, none, .mv, [.tmp 10]⟩,
           ⟨some 4, none, .mv, [.tmp 47]⟩,
           ⟨some 5, none, .mv, [.const (.nili)]⟩]) (
         .ret)))))))
def a_sort_Distinct : AF := { results := [.tmp 4, .tmp 5], body := b_sort_Distinct }

/- sccsettle/sccref1.Num, 1 params, 0 free: [] -/
def b_sccref1_Num : AC :=
  .seq (
   .reg [0] false [⟨some 2, none, .alloc [.int .i64 0, .int .i64 0, .str []], []⟩]) (
   .seq (
    .reg [2, 0] false [⟨some 3, none, .mv, [.tmp 0]⟩,
      ⟨some 4, none, .build [.int .i64 0, .int .i64 0, .str []] [(0, 1), (1, 1)], [.const (.int .i64 1), .tmp 3]⟩,
      ⟨none, none, .store 3, [.tmp 2, .tmp 4]⟩]) (
    .ret))
def a_sccref1_Num : AF := { results := [.cell 2 3 true], body := b_sccref1_Num }

/- sccsettle/value.Compare, 2 params, 0 free: [] -/
def b_value_Compare : AC :=
  .seq (
   .reg [1, 0] false [⟨some 2, none, .box, [.tmp 0]⟩,
     ⟨some 3, none, .box, [.tmp 1]⟩,
     ⟨some 4, none, .mv, [.const (.int .i64 0)]⟩]) (
   .seq (
    .reg [3, 2] true [⟨some 5, none, .fieldAddr 0, [.tmp 2]⟩,
      ⟨some 6, none, .load 1 false, [.tmp 5]⟩,
      ⟨some 7, none, .fieldAddr 0, [.tmp 3]⟩,
      ⟨some 8, none, .load 1 false, [.tmp 7]⟩,
      ⟨some 9, none, .call f_cmp_Compare_int_ true, [.tmp 6, .tmp 8]⟩,
      ⟨some 10, none, .fieldAddr 1, [.tmp 2]⟩,
      ⟨some 11, none, .load 1 false, [.tmp 10]⟩,
      ⟨some 12, none, .fieldAddr 1, [.tmp 3]⟩,
      ⟨some 13, none, .load 1 false, [.tmp 12]⟩,
      ⟨some 14, none, .call f_cmp_Compare_int_ true, [.tmp 11, .tmp 13]⟩,
      ⟨some 15, none, .fieldAddr 2, [.tmp 2]⟩,
      ⟨some 16, none, .load 1 false, [.tmp 15]⟩,
      ⟨some 17, none, .fieldAddr 2, [.tmp 3]⟩,
      ⟨some 18, none, .load 1 false, [.tmp 17]⟩,
      ⟨some 19, none, .call f_cmp_Compare_string_ true, [.tmp 16, .tmp 18]⟩,
      ⟨some 20, none, .bslice 1, [.tmp 9, .tmp 14, .tmp 19]⟩,
      ⟨some 21, none, .call f_cmp_Or_int_ true, [.tmp 20]⟩,
      ⟨some 4, none, .mv, [.tmp 21]⟩]) (
    .ret))
def a_value_Compare : AF := { results := [.tmp 4], body := b_value_Compare }

/- sccsettle/sort.Columns, 2 params, 0 free: [] -/
/- a loop's body; at its head: [19, 0, 17, 18] -/
def b_sort_Columns_0 : AC :=
  .seq (
   .reg [0, 17, 18, 19] false [⟨some 20, none, .bin .lss, [.tmp 19, .tmp 18]⟩]) (
   .seq (
    .cond (.tmp 20) (
     .skip) (
     .exit 0)) (
    .seq (
     .block 1 [0, 17, 18, 19] (
      .seq (
       .reg [0, 17, 18, 19] false [⟨some 21, none, .idxAddr 1, [.tmp 17, .tmp 19]⟩,
         ⟨some 22, none, .load 1 false, [.tmp 21]⟩,
         ⟨some 7, none, .mv, [.tmp 22]⟩]) (
       .seq (
        .reg [0, 17, 18, 19, 7] false [⟨some 23, none, .mv, [.tmp 0]⟩,
          ⟨some 24, none, .mv, [.tmp 7]⟩,
          ⟨some 25, none, .call f_sort_Column true, [.tmp 23, .tmp 24]⟩,
          ⟨some 26, none, .un .not, [.tmp 25]⟩]) (
        .cond (.tmp 26) (
         .seq (
          .reg [] false [⟨some 27, none, .mkIface t_api_Errno, [.const (.int .i64 1)]⟩,
            ⟨some 4, none, .mv, [.tmp 27]⟩]) (
          .ret)) (
         .skip))))) (
     .reg [0, 17, 18, 19] false [⟨some 28, none, .bin .add, [.tmp 19, .const (.int .i64 1)]⟩,
       ⟨some 19, none, .mv, [.tmp 28]⟩])))

def b_sort_Columns : AC :=
  .seq (
   .reg [0, 1] false [⟨some 4, none, .mv, [.const (.nili)]⟩]) (
   .seq (
    .seq (
     .reg [0, 1] false [⟨some 8, none, .mv, [.tmp 0]⟩,
       ⟨some 9, none, .call f_sort_Check true, [.tmp 8]⟩,
       ⟨some 5, none, .mv, [.tmp 9]⟩]) (
     .seq (
      .reg [5, 0, 1] false [⟨some 10, none, .mv, [.tmp 5]⟩,
        ⟨some 11, none, .eqn .iface true true, [.tmp 10, .const (.nili)]⟩]) (
      .cond (.tmp 11) (
       .seq (
        .reg [5] false [⟨some 12, none, .mv, [.tmp 5]⟩,
          ⟨some 4, none, .mv, [.tmp 12]⟩]) (
        .ret)) (
       .skip)))) (
    .seq (
     .seq (
      .reg [0, 1] false [⟨some 13, none, .mv, [.tmp 1]⟩,
        ⟨some 14, none, .len false, [.tmp 13]⟩,
        ⟨some 15, none, .bin .gtr, [.tmp 14, .const (.int .i64 12)]⟩]) (
      .cond (.tmp 15) (
       .seq (
        .reg [] false [⟨some 16, none, .mkIface t_api_Errno, [.const (.int .i64 4)]⟩,
          ⟨some 4, none, .mv, [.tmp 16]⟩]) (
        .ret)) (
       .skip))) (
     .seq (
      .seq (
       .reg [0, 1] false [⟨some 17, none, .mv, [.tmp 1]⟩,
         ⟨some 18, none, .len false, [.tmp 17]⟩,
         ⟨some 19, none, .mv, [.const (.int .i64 0)]⟩]) (
       .block 0 [] (
        .loop [19, 0, 17, 18] b_sort_Columns_0))) (
      .seq (
       .reg [] false [⟨some 4, none, .mv, [.const (.nili)]⟩]) (
       .ret)))))
def a_sort_Columns : AF := { results := [.tmp 4], body := b_sort_Columns }

/- slices.ContainsFunc[[]int,int], 2 params, 0 free: [] -/
def b_slices_ContainsFunc___int_int_ : AC :=
  .seq (
   .reg [1, 0] false [⟨some 4, none, .mv, [.const (.bool false)]⟩]) (
   .seq (
    .reg [1, 0] false [⟨some 5, none, .mv, [.tmp 0]⟩,
      ⟨some 6, none, .mv, [.tmp 1]⟩,
      ⟨some 7, none, .call f_slices_IndexFunc___int_int_ true, [.tmp 5, .tmp 6]⟩,
      ⟨some 8, none, .bin .geq, [.tmp 7, .const (.int .i64 0)]⟩,
      ⟨some 4, none, .mv, [.tmp 8]⟩]) (
    .ret))
def a_slices_ContainsFunc___int_int_ : AF := { results := [.tmp 4], body := b_slices_ContainsFunc___int_int_ }

/- sccsettle/sort.Distinct$1, 1 params, 3 free: [] -/
def b_sort_Distinct_c1 : AC :=
  .seq (
   .reg [3, 2, 0, 1] false [⟨some 5, none, .mv, [.const (.bool false)]⟩]) (
   .seq (
    .reg [3, 2, 0, 1] true [⟨some 6, none, .load 1 false, [.tmp 1]⟩,
      ⟨some 7, none, .mv, [.tmp 0]⟩,
      ⟨some 8, none, .idxAddr 1, [.tmp 6, .tmp 7]⟩,
      ⟨some 9, none, .load 1 false, [.tmp 8]⟩,
      ⟨some 10, none, .load 1 false, [.tmp 2]⟩,
      ⟨some 11, none, .load 1 false, [.tmp 3]⟩,
      ⟨some 12, none, .call f_sort_Compare true, [.tmp 9, .tmp 10, .tmp 11]⟩,
      ⟨some 13, none, .bin .eql, [.tmp 12, .const (.int .i64 0)]⟩,
      ⟨some 5, none, .mv, [.tmp 13]⟩]) (
    .ret))
def a_sort_Distinct_c1 : AF := { results := [.tmp 5], body := b_sort_Distinct_c1 }

/- sccsettle/sort.Compare, 3 params, 0 free: [] -/
/- a loop's body; at its head: [12, 1, 0, 10, 11] -/
def b_sort_Compare_0 : AC :=
  .seq (
   .reg [1, 0, 10, 11, 12] false [⟨some 13, none, .bin .lss, [.tmp 12, .tmp 11]⟩]) (
   .seq (
    .cond (.tmp 13) (
     .skip) (
     .exit 0)) (
    .seq (
     .block 1 [1, 0, 10, 11, 12] (
      .seq (
       .reg [1, 0, 10, 11, 12] false [⟨some 14, none, .idxAddr 2, [.tmp 10, .tmp 12]⟩,
         ⟨some 15, none, .load 2 true, [.tmp 14]⟩,
         ⟨some 8, none, .alloc [.int .i64 0, .bool false], []⟩,
         ⟨none, none, .store 2, [.tmp 8, .tmp 15]⟩]) (
       .seq (
        .reg [1, 0, 10, 11, 12, 8] true [⟨some 16, none, .mv, [.tmp 0]⟩,
          ⟨some 17, none, .fieldAddr 0, [.tmp 8]⟩,
          ⟨some 18, none, .load 1 false, [.tmp 17]⟩,
          ⟨some 19, none, .idxAddr 3, [.tmp 16, .tmp 18]⟩,
          ⟨some 20, none, .load 3 true, [.tmp 19]⟩,
          ⟨some 21, none, .mv, [.tmp 1]⟩,
          ⟨some 22, none, .fieldAddr 0, [.tmp 8]⟩,
          ⟨some 23, none, .load 1 false, [.tmp 22]⟩,
          ⟨some 24, none, .idxAddr 3, [.tmp 21, .tmp 23]⟩,
          ⟨some 25, none, .load 3 true, [.tmp 24]⟩,
          ⟨some 26, none, .call f_value_Compare true, [.tmp 20, .tmp 25]⟩,
          ⟨some 9, none, .mv, [.tmp 26]⟩]) (
        .seq (
         .seq (
          .reg [1, 0, 10, 11, 12, 9, 8] false [⟨some 27, none, .fieldAddr 1, [.tmp 8]⟩,
            ⟨some 28, none, .load 1 false, [.tmp 27]⟩]) (
          .cond (.tmp 28) (
           .reg [1, 0, 10, 11, 12, 9] false [⟨some 29, none, .mv, [.tmp 9]⟩,
             ⟨some 30, none, .un .neg, [.tmp 29]⟩,
             ⟨some 9, none, .mv, [.tmp 30]⟩]) (
           .skip))) (
         .seq (
          .reg [9, 1, 0, 10, 11, 12] false [⟨some 31, none, .mv, [.tmp 9]⟩,
            ⟨some 32, none, .bin .neq, [.tmp 31, .const (.int .i64 0)]⟩]) (
          .cond (.tmp 32) (
           .seq (
            .reg [9] false [⟨some 33, none, .mv, [.tmp 9]⟩,
              ⟨some 6, none, .mv, [.tmp 33]⟩]) (
            .ret)) (
           .skip))))))) (
     .reg [1, 0, 10, 11, 12] false [⟨some 34, none, .bin .add, [.tmp 12, .const (.int .i64 1)]⟩,
       ⟨some 12, none, .mv, [.tmp 34]⟩])))

def b_sort_Compare : AC :=
  .seq (
   .reg [1, 0, 2] false [⟨some 6, none, .mv, [.const (.int .i64 0)]⟩]) (
   .seq (
    .seq (
     .reg [1, 0, 2] false [⟨some 10, none, .mv, [.tmp 2]⟩,
       ⟨some 11, none, .len false, [.tmp 10]⟩,
       ⟨some 12, none, .mv, [.const (.int .i64 0)]⟩]) (
     .block 0 [] (
      .loop [12, 1, 0, 10, 11] b_sort_Compare_0))) (
    .seq (
     .reg [] false [⟨some 6, none, .mv, [.const (.int .i64 0)]⟩]) (
     .ret)))
def a_sort_Compare : AF := { results := [.tmp 6], body := b_sort_Compare }

/- cmp.Or[int], 1 params, 0 free: [] -/
/- a loop's body; at its head: [8, 3, 6, 7] -/
def b_cmp_Or_int__0 : AC :=
  .seq (
   .reg [3, 6, 7, 8] false [⟨some 9, none, .bin .lss, [.tmp 8, .tmp 7]⟩]) (
   .seq (
    .cond (.tmp 9) (
     .skip) (
     .exit 0)) (
    .seq (
     .block 1 [3, 6, 7, 8] (
      .seq (
       .reg [3, 6, 7, 8] false [⟨some 10, none, .idxAddr 1, [.tmp 6, .tmp 8]⟩,
         ⟨some 11, none, .load 1 false, [.tmp 10]⟩,
         ⟨some 5, none, .mv, [.tmp 11]⟩]) (
       .seq (
        .reg [5, 3, 6, 7, 8] false [⟨some 12, none, .mv, [.tmp 5]⟩,
          ⟨some 13, none, .mv, [.tmp 3]⟩,
          ⟨some 14, none, .bin .neq, [.tmp 12, .tmp 13]⟩]) (
        .cond (.tmp 14) (
         .seq (
          .reg [5] false [⟨some 15, none, .mv, [.tmp 5]⟩,
            ⟨some 2, none, .mv, [.tmp 15]⟩]) (
          .ret)) (
         .skip))))) (
     .reg [3, 6, 7, 8] false [⟨some 16, none, .bin .add, [.tmp 8, .const (.int .i64 1)]⟩,
       ⟨some 8, none, .mv, [.tmp 16]⟩])))

def b_cmp_Or_int_ : AC :=
  .seq (
   .reg [0] false [⟨some 2, none, .mv, [.const (.int .i64 0)]⟩]) (
   .seq (
    .reg [0] false [⟨some 3, none, .mv, [.const (.int .i64 0)]⟩]) (
    .seq (
     .seq (
      .reg [3, 0] false [⟨some 6, none, .mv, [.tmp 0]⟩,
        ⟨some 7, none, .len false, [.tmp 6]⟩,
        ⟨some 8, none, .mv, [.const (.int .i64 0)]⟩]) (
      .block 0 [3] (
       .loop [8, 3, 6, 7] b_cmp_Or_int__0))) (
     .seq (
      .reg [3] false [⟨some 17, none, .mv, [.tmp 3]⟩,
        ⟨some 2, none, .mv, [.tmp 17]⟩]) (
      .ret))))
def a_cmp_Or_int_ : AF := { results := [.tmp 2], body := b_cmp_Or_int_ }

/- cmp.Compare[int], 2 params, 0 free: [] -/
def b_cmp_Compare_int_ : AC :=
  .seq (
   .reg [1, 0] false [⟨some 4, none, .mv, [.const (.int .i64 0)]⟩]) (
   .seq (
    .reg [1, 0] false [⟨some 7, none, .mv, [.tmp 0]⟩,
      ⟨some 8, none, .call f_cmp_isNaN_int_ true, [.tmp 7]⟩,
      ⟨some 5, none, .mv, [.tmp 8]⟩]) (
    .seq (
     .reg [1, 0, 5] false [⟨some 9, none, .mv, [.tmp 1]⟩,
       ⟨some 10, none, .call f_cmp_isNaN_int_ true, [.tmp 9]⟩,
       ⟨some 6, none, .mv, [.tmp 10]⟩]) (
     .seq (
      .seq (
       .reg [6, 1, 0, 5] false [⟨some 11, none, .mv, [.tmp 5]⟩]) (
       .cond (.tmp 11) (
        .seq (
         .seq (
          .reg [6] false [⟨some 12, none, .mv, [.tmp 6]⟩]) (
          .cond (.tmp 12) (
           .seq (
            .reg [] false [⟨some 4, none, .mv, [.const (.int .i64 0)]⟩]) (
            .ret)) (
           .skip))) (
         .seq (
          .reg [] false [⟨some 4, none, .mv, [.const (.int .i64 (-1))]⟩]) (
          .ret))) (
        .skip))) (
      .seq (
       .seq (
        .reg [1, 0, 6] false [⟨some 13, none, .mv, [.tmp 6]⟩]) (
        .cond (.tmp 13) (
         .seq (
          .reg [] false [⟨some 4, none, .mv, [.const (.int .i64 1)]⟩]) (
          .ret)) (
         .skip))) (
       .seq (
        .seq (
         .reg [1, 0] false [⟨some 14, none, .mv, [.tmp 0]⟩,
           ⟨some 15, none, .mv, [.tmp 1]⟩,
           ⟨some 16, none, .bin .lss, [.tmp 14, .tmp 15]⟩]) (
         .cond (.tmp 16) (
          .seq (
           .reg [] false [⟨some 4, none, .mv, [.const (.int .i64 (-1))]⟩]) (
           .ret)) (
          .skip))) (
        .seq (
         .seq (
          .reg [1, 0] false [⟨some 17, none, .mv, [.tmp 0]⟩,
            ⟨some 18, none, .mv, [.tmp 1]⟩,
            ⟨some 19, none, .bin .gtr, [.tmp 17, .tmp 18]⟩]) (
          .cond (.tmp 19) (
           .seq (
            .reg [] false [⟨some 4, none, .mv, [.const (.int .i64 1)]⟩]) (
            .ret)) (
           .skip))) (
         .seq (
          .reg [] false [⟨some 4, none, .mv, [.const (.int .i64 0)]⟩]) (
          .ret))))))))
def a_cmp_Compare_int_ : AF := { results := [.tmp 4], body := b_cmp_Compare_int_ }

/- cmp.Compare[string], 2 params, 0 free: [] -/
def b_cmp_Compare_string_ : AC :=
  .seq (
   .reg [1, 0] false [⟨some 4, none, .mv, [.const (.int .i64 0)]⟩]) (
   .seq (
    .reg [1, 0] false [⟨some 7, none, .mv, [.tmp 0]⟩,
      ⟨some 8, none, .call f_cmp_isNaN_string_ true, [.tmp 7]⟩,
      ⟨some 5, none, .mv, [.tmp 8]⟩]) (
    .seq (
     .reg [1, 0, 5] false [⟨some 9, none, .mv, [.tmp 1]⟩,
       ⟨some 10, none, .call f_cmp_isNaN_string_ true, [.tmp 9]⟩,
       ⟨some 6, none, .mv, [.tmp 10]⟩]) (
     .seq (
      .seq (
       .reg [6, 1, 0, 5] false [⟨some 11, none, .mv, [.tmp 5]⟩]) (
       .cond (.tmp 11) (
        .seq (
         .seq (
          .reg [6] false [⟨some 12, none, .mv, [.tmp 6]⟩]) (
          .cond (.tmp 12) (
           .seq (
            .reg [] false [⟨some 4, none, .mv, [.const (.int .i64 0)]⟩]) (
            .ret)) (
           .skip))) (
         .seq (
          .reg [] false [⟨some 4, none, .mv, [.const (.int .i64 (-1))]⟩]) (
          .ret))) (
        .skip))) (
      .seq (
       .seq (
        .reg [1, 0, 6] false [⟨some 13, none, .mv, [.tmp 6]⟩]) (
        .cond (.tmp 13) (
         .seq (
          .reg [] false [⟨some 4, none, .mv, [.const (.int .i64 1)]⟩]) (
          .ret)) (
         .skip))) (
       .seq (
        .seq (
         .reg [1, 0] false [⟨some 14, none, .mv, [.tmp 0]⟩,
           ⟨some 15, none, .mv, [.tmp 1]⟩,
           ⟨some 16, none, .bin .lss, [.tmp 14, .tmp 15]⟩]) (
         .cond (.tmp 16) (
          .seq (
           .reg [] false [⟨some 4, none, .mv, [.const (.int .i64 (-1))]⟩]) (
           .ret)) (
          .skip))) (
        .seq (
         .seq (
          .reg [1, 0] false [⟨some 17, none, .mv, [.tmp 0]⟩,
            ⟨some 18, none, .mv, [.tmp 1]⟩,
            ⟨some 19, none, .bin .gtr, [.tmp 17, .tmp 18]⟩]) (
          .cond (.tmp 19) (
           .seq (
            .reg [] false [⟨some 4, none, .mv, [.const (.int .i64 1)]⟩]) (
            .ret)) (
           .skip))) (
         .seq (
          .reg [] false [⟨some 4, none, .mv, [.const (.int .i64 0)]⟩]) (
          .ret))))))))
def a_cmp_Compare_string_ : AF := { results := [.tmp 4], body := b_cmp_Compare_string_ }

/- sccsettle/sort.Check, 1 params, 0 free: [] -/
/- a loop's body; at its head: [18, 16, 0, 17] -/
def b_sort_Check_0 : AC :=
  .seq (
   .reg [16, 0, 17, 18] false [⟨some 19, none, .bin .lss, [.tmp 18, .tmp 17]⟩]) (
   .seq (
    .cond (.tmp 19) (
     .skip) (
     .exit 0)) (
    .seq (
     .block 1 [16, 0, 17, 18] (
      .seq (
       .reg [16, 0, 17, 18] false [⟨some 20, none, .idxAddr 1, [.tmp 16, .tmp 18]⟩,
         ⟨some 21, none, .load 1 false, [.tmp 20]⟩,
         ⟨some 4, none, .mv, [.tmp 21]⟩]) (
       .seq (
        .reg [16, 0, 17, 18, 4] false [⟨some 22, none, .mv, [.tmp 4]⟩,
          ⟨some 23, none, .len false, [.tmp 22]⟩,
          ⟨some 24, none, .bin .gtr, [.tmp 23, .const (.int .i64 12)]⟩]) (
        .cond (.tmp 24) (
         .seq (
          .reg [] false [⟨some 25, none, .mkIface t_api_Errno, [.const (.int .i64 4)]⟩,
            ⟨some 2, none, .mv, [.tmp 25]⟩]) (
          .ret)) (
         .skip))))) (
     .reg [16, 0, 17, 18] false [⟨some 26, none, .bin .add, [.tmp 18, .const (.int .i64 1)]⟩,
       ⟨some 18, none, .mv, [.tmp 26]⟩])))

/- a loop's body; at its head: [29, 0, 27, 28] -/
def b_sort_Check_1 : AC :=
  .seq (
   .reg [0, 27, 28, 29] false [⟨some 30, none, .bin .lss, [.tmp 29, .tmp 28]⟩]) (
   .seq (
    .cond (.tmp 30) (
     .skip) (
     .exit 2)) (
    .seq (
     .block 3 [0, 27, 28, 29] (
      .seq (
       .reg [0, 27, 28, 29] false [⟨some 31, none, .idxAddr 1, [.tmp 27, .tmp 29]⟩,
         ⟨some 32, none, .load 1 false, [.tmp 31]⟩,
         ⟨some 6, none, .mv, [.tmp 32]⟩]) (
       .seq (
        .reg [0, 27, 28, 29, 6] false [⟨some 33, none, .mv, [.tmp 6]⟩,
          ⟨some 34, none, .len false, [.tmp 33]⟩,
          ⟨some 35, none, .mv, [.tmp 0]⟩,
          ⟨some 36, none, .idxAddr 1, [.tmp 35, .const (.int .i64 0)]⟩,
          ⟨some 37, none, .load 1 false, [.tmp 36]⟩,
          ⟨some 38, none, .len false, [.tmp 37]⟩,
          ⟨some 39, none, .bin .neq, [.tmp 34, .tmp 38]⟩]) (
        .cond (.tmp 39) (
         .seq (
          .reg [] false [⟨some 40, none, .mkIface t_api_Errno, [.const (.int .i64 3)]⟩,
            ⟨some 2, none, .mv, [.tmp 40]⟩]) (
          .ret)) (
         .skip))))) (
     .reg [0, 27, 28, 29] false [⟨some 41, none, .bin .add, [.tmp 29, .const (.int .i64 1)]⟩,
       ⟨some 29, none, .mv, [.tmp 41]⟩])))

/- a loop's body; at its head: [50, 48, 42, 43, 44, 49] -/
def b_sort_Check_2 : AC :=
  .seq (
   .reg [48, 42, 43, 44, 49, 50] false [⟨some 51, none, .bin .lss, [.tmp 50, .tmp 49]⟩]) (
   .seq (
    .cond (.tmp 51) (
     .skip) (
     .exit 6)) (
    .seq (
     .block 7 [48, 42, 43, 44, 49, 50] (
      .seq (
       .reg [48, 42, 43, 44, 49, 50] false [⟨some 52, none, .idxAddr 3, [.tmp 48, .tmp 50]⟩,
         ⟨some 53, none, .load 3 true, [.tmp 52]⟩,
         ⟨some 10, none, .alloc [.int .i64 0, .int .i64 0, .str []], []⟩,
         ⟨none, none, .store 3, [.tmp 10, .tmp 53]⟩]) (
       .seq (
        .reg [48, 42, 43, 44, 49, 50, 10] false [⟨some 54, none, .load 3 true, [.tmp 10]⟩,
          ⟨some 55, none, .call f_value_Check true, [.tmp 54]⟩,
          ⟨some 11, none, .mv, [.tmp 55]⟩]) (
        .seq (
         .reg [11, 48, 42, 43, 44, 49, 50] false [⟨some 56, none, .mv, [.tmp 11]⟩,
           ⟨some 57, none, .eqn .iface true true, [.tmp 56, .const (.nili)]⟩]) (
         .cond (.tmp 57) (
          .seq (
           .reg [11] false [⟨some 58, none, .mv, [.tmp 11]⟩,
             ⟨some 2, none, .mv, [.tmp 58]⟩]) (
           .ret)) (
          .skip)))))) (
     .reg [48, 42, 43, 44, 49, 50] false [⟨some 59, none, .bin .add, [.tmp 50, .const (.int .i64 1)]⟩,
       ⟨some 50, none, .mv, [.tmp 59]⟩])))

/- a loop's body; at its head: [44, 42, 43] -/
def b_sort_Check_3 : AC :=
  .seq (
   .reg [42, 43, 44] false [⟨some 45, none, .bin .lss, [.tmp 44, .tmp 43]⟩]) (
   .seq (
    .cond (.tmp 45) (
     .skip) (
     .exit 4)) (
    .seq (
     .block 5 [42, 43, 44] (
      .seq (
       .reg [42, 43, 44] false [⟨some 46, none, .idxAddr 1, [.tmp 42, .tmp 44]⟩,
         ⟨some 47, none, .load 1 false, [.tmp 46]⟩,
         ⟨some 8, none, .mv, [.tmp 47]⟩]) (
       .seq (
        .reg [42, 43, 44, 8] false [⟨some 48, none, .mv, [.tmp 8]⟩,
          ⟨some 49, none, .len false, [.tmp 48]⟩,
          ⟨some 50, none, .mv, [.const (.int .i64 0)]⟩]) (
        .block 6 [42, 43, 44] (
         .loop [50, 48, 42, 43, 44, 49] b_sort_Check_2))))) (
     .reg [42, 43, 44] false [⟨some 60, none, .bin .add, [.tmp 44, .const (.int .i64 1)]⟩,
       ⟨some 44, none, .mv, [.tmp 60]⟩])))

def b_sort_Check : AC :=
  .seq (
   .reg [0] false [⟨some 2, none, .mv, [.const (.nili)]⟩]) (
   .seq (
    .seq (
     .reg [0] false [⟨some 12, none, .mv, [.tmp 0]⟩,
       ⟨some 13, none, .len false, [.tmp 12]⟩,
       ⟨some 14, none, .bin .gtr, [.tmp 13, .const (.int .i64 60)]⟩]) (
     .cond (.tmp 14) (
      .seq (
       .reg [] false [⟨some 15, none, .mkIface t_api_Errno, [.const (.int .i64 4)]⟩,
         ⟨some 2, none, .mv, [.tmp 15]⟩]) (
       .ret)) (
      .skip))) (
    .seq (
     .seq (
      .reg [0] false [⟨some 16, none, .mv, [.tmp 0]⟩,
        ⟨some 17, none, .len false, [.tmp 16]⟩,
        ⟨some 18, none, .mv, [.const (.int .i64 0)]⟩]) (
      .block 0 [0] (
       .loop [18, 16, 0, 17] b_sort_Check_0))) (
     .seq (
      .seq (
       .reg [0] false [⟨some 27, none, .mv, [.tmp 0]⟩,
         ⟨some 28, none, .len false, [.tmp 27]⟩,
         ⟨some 29, none, .mv, [.const (.int .i64 0)]⟩]) (
       .block 2 [0] (
        .loop [29, 0, 27, 28] b_sort_Check_1))) (
      .seq (
       .seq (
        .reg [0] false [⟨some 42, none, .mv, [.tmp 0]⟩,
          ⟨some 43, none, .len false, [.tmp 42]⟩,
          ⟨some 44, none, .mv, [.const (.int .i64 0)]⟩]) (
        .block 4 [] (
         .loop [44, 42, 43] b_sort_Check_3))) (
       .seq (
        .reg [] false [⟨some 2, none, .mv, [.const (.nili)]⟩]) (
        .ret))))))
def a_sort_Check : AF := { results := [.tmp 2], body := b_sort_Check }

/- sccsettle/sort.Column, 2 params, 0 free: [] -/
def b_sort_Column : AC :=
  .seq (
   .reg [1, 0] false [⟨some 4, none, .mv, [.const (.bool false)]⟩]) (
   .seq (
    .reg [1, 0] false [⟨some 5, none, .mv, [.const (.int .i64 12)]⟩]) (
    .seq (
     .seq (
      .reg [1, 0, 5] false [⟨some 6, none, .mv, [.tmp 0]⟩,
        ⟨some 7, none, .len false, [.tmp 6]⟩,
        ⟨some 8, none, .bin .gtr, [.tmp 7, .const (.int .i64 0)]⟩]) (
      .cond (.tmp 8) (
       .reg [1, 0] false [⟨some 9, none, .mv, [.tmp 0]⟩,
         ⟨some 10, none, .idxAddr 1, [.tmp 9, .const (.int .i64 0)]⟩,
         ⟨some 11, none, .load 1 false, [.tmp 10]⟩,
         ⟨some 12, none, .len false, [.tmp 11]⟩,
         ⟨some 5, none, .mv, [.tmp 12]⟩]) (
       .skip))) (
     .seq (
      .reg [5, 1] false [⟨some 13, none, .mv, [.tmp 1]⟩,
        ⟨some 14, none, .bin .geq, [.tmp 13, .const (.int .i64 0)]⟩,
        ⟨some 15, none, .mv, [.tmp 14]⟩,
        ⟨some 16, some (15, true), .mv, [.tmp 1]⟩,
        ⟨some 17, some (15, true), .mv, [.tmp 5]⟩,
        ⟨some 18, some (15, true), .bin .lss, [.tmp 16, .tmp 17]⟩,
        ⟨some 19, none, .pick, [.tmp 15, .tmp 18, .const (.bool false)]⟩,
        ⟨some 4, none, .mv, [.tmp 19]⟩]) (
      .ret))))
def a_sort_Column : AF := { results := [.tmp 4], body := b_sort_Column }

/- slices.IndexFunc[[]int,int], 2 params, 0 free: [] -/
/- a loop's body; at its head: [8, 0, 1, 7] -/
def b_slices_IndexFunc___int_int__0 : AC :=
  .seq (
   .reg [0, 1, 7, 8] false [⟨some 9, none, .bin .lss, [.tmp 8, .tmp 7]⟩]) (
   .seq (
    .cond (.tmp 9) (
     .skip) (
     .exit 0)) (
    .seq (
     .block 1 [0, 1, 7, 8] (
      .seq (
       .reg [0, 1, 7, 8] false [⟨some 10, none, .mv, [.tmp 8]⟩,
         ⟨some 5, none, .mv, [.tmp 10]⟩]) (
       .seq (
        .reg [5, 0, 1, 7, 8] false [⟨some 11, none, .mv, [.tmp 1]⟩,
          ⟨some 12, none, .mv, [.tmp 0]⟩,
          ⟨some 13, none, .mv, [.tmp 5]⟩,
          ⟨some 14, none, .idxAddr 1, [.tmp 12, .tmp 13]⟩,
          ⟨some 15, none, .load 1 false, [.tmp 14]⟩,
          ⟨some 16, none, .callv true, [.tmp 11, .tmp 15]⟩]) (
        .cond (.tmp 16) (
         .seq (
          .reg [5] false [⟨some 17, none, .mv, [.tmp 5]⟩,
            ⟨some 4, none, .mv, [.tmp 17]⟩]) (
          .ret)) (
         .skip))))) (
     .reg [0, 1, 7, 8] false [⟨some 18, none, .bin .add, [.tmp 8, .const (.int .i64 1)]⟩,
       ⟨some 8, none, .mv, [.tmp 18]⟩])))

def b_slices_IndexFunc___int_int_ : AC :=
  .seq (
   .reg [0, 1] false [⟨some 4, none, .mv, [.const (.int .i64 0)]⟩]) (
   .seq (
    .seq (
     .reg [0, 1] false [⟨some 6, none, .mv, [.tmp 0]⟩,
       ⟨some 7, none, .len false, [.tmp 6]⟩,
       ⟨some 8, none, .mv, [.const (.int .i64 0)]⟩]) (
     .block 0 [] (
      .loop [8, 0, 1, 7] b_slices_IndexFunc___int_int__0))) (
    .seq (
     .reg [] false [⟨some 4, none, .mv, [.const (.int .i64 (-1))]⟩]) (
     .ret)))
def a_slices_IndexFunc___int_int_ : AF := { results := [.tmp 4], body := b_slices_IndexFunc___int_int_ }

/- cmp.isNaN[int], 1 params, 0 free: [] -/
def b_cmp_isNaN_int_ : AC :=
  .seq (
   .reg [0] false [⟨some 2, none, .mv, [.const (.bool false)]⟩]) (
   .seq (
    .reg [0] false [⟨some 3, none, .mv, [.tmp 0]⟩,
      ⟨some 4, none, .mv, [.tmp 0]⟩,
      ⟨some 5, none, .bin .neq, [.tmp 3, .tmp 4]⟩,
      ⟨some 2, none, .mv, [.tmp 5]⟩]) (
    .ret))
def a_cmp_isNaN_int_ : AF := { results := [.tmp 2], body := b_cmp_isNaN_int_ }

/- cmp.isNaN[string], 1 params, 0 free: [] -/
def b_cmp_isNaN_string_ : AC :=
  .seq (
   .reg [0] false [⟨some 2, none, .mv, [.const (.bool false)]⟩]) (
   .seq (
    .reg [0] false [⟨some 3, none, .mv, [.tmp 0]⟩,
      ⟨some 4, none, .mv, [.tmp 0]⟩,
      ⟨some 5, none, .bin .neq, [.tmp 3, .tmp 4]⟩,
      ⟨some 2, none, .mv, [.tmp 5]⟩]) (
    .ret))
def a_cmp_isNaN_string_ : AF := { results := [.tmp 2], body := b_cmp_isNaN_string_ }

/- sccsettle/value.Check, 1 params, 0 free: [] -/
def b_value_Check : AC :=
  .seq (
   .reg [0] false [⟨some 1, none, .box, [.tmp 0]⟩,
     ⟨some 2, none, .mv, [.const (.nili)]⟩]) (
   .seq (
    .reg [1] false [⟨some 3, none, .mv, [.const (.bool false)]⟩]) (
    .seq (
     .seq (
      .reg [1, 3] false [⟨some 4, none, .fieldAddr 0, [.tmp 1]⟩,
        ⟨some 5, none, .load 1 false, [.tmp 4]⟩]) (
      .block 0 [3] (
       .seq (
        .reg [1, 3, 5] false [⟨some 7, none, .bin .eql, [.tmp 5, .const (.int .i64 0)]⟩,
          ⟨some 6, none, .mv, [.tmp 7]⟩]) (
        .cond (.tmp 6) (
         .reg [1] false [⟨some 8, none, .fieldAddr 1, [.tmp 1]⟩,
           ⟨some 9, none, .load 1 false, [.tmp 8]⟩,
           ⟨some 10, none, .bin .eql, [.tmp 9, .const (.int .i64 0)]⟩,
           ⟨some 11, none, .mv, [.tmp 10]⟩,
           ⟨some 12, some (11, true), .fieldAddr 2, [.tmp 1]⟩,
           ⟨some 13, some (11, true), .load 1 false, [.tmp 12]⟩,
           ⟨some 14, some (11, true), .bin .eql, [.tmp 13, .const (.str [])]⟩,
           ⟨some 15, none, .pick, [.tmp 11, .tmp 14, .const (.bool false)]⟩,
           ⟨some 3, none, .mv, [.tmp 15]⟩]) (
         .seq (
          .reg [1, 3, 5] false [⟨some 17, none, .bin .eql, [.tmp 5, .const (.int .i64 1)]⟩,
            ⟨some 16, none, .mv, [.tmp 17]⟩]) (
          .cond (.tmp 16) (
           .reg [1] false [⟨some 18, none, .fieldAddr 2, [.tmp 1]⟩,
             ⟨some 19, none, .load 1 false, [.tmp 18]⟩,
             ⟨some 20, none, .bin .eql, [.tmp 19, .const (.str [])]⟩,
             ⟨some 3, none, .mv, [.tmp 20]⟩]) (
           .seq (
            .reg [1, 3, 5] false [⟨some 22, none, .bin .eql, [.tmp 5, .const (.int .i64 2)]⟩,
              ⟨some 21, none, .mv, [.tmp 22]⟩]) (
            .cond (.tmp 21) (
             .reg [1] false [⟨some 23, none, .fieldAddr 1, [.tmp 1]⟩,
               ⟨some 24, none, .load 1 false, [.tmp 23]⟩,
               ⟨some 25, none, .bin .eql, [.tmp 24, .const (.int .i64 0)]⟩,
               ⟨some 26, none, .mv, [.tmp 25]⟩,
               ⟨some 27, some (26, true), .fieldAddr 2, [.tmp 1]⟩,
               ⟨some 28, some (26, true), .load 1 false, [.tmp 27]⟩,
               ⟨some 29, some (26, true), .len true, [.tmp 28]⟩,
               ⟨some 30, some (26, true), .bin .leq, [.tmp 29, .const (.int .i64 200)]⟩,
               ⟨some 31, none, .pick, [.tmp 26, .tmp 30, .const (.bool false)]⟩,
               ⟨some 3, none, .mv, [.tmp 31]⟩]) (
             .seq (
              .reg [1, 3, 5] false [⟨some 33, none, .bin .eql, [.tmp 5, .const (.int .i64 3)]⟩,
                ⟨some 32, none, .mv, [.tmp 33]⟩]) (
              .cond (.tmp 32) (
               .reg [1] false [⟨some 34, none, .fieldAddr 1, [.tmp 1]⟩,
                 ⟨some 35, none, .load 1 false, [.tmp 34]⟩,
                 ⟨some 36, none, .bin .eql, [.tmp 35, .const (.int .i64 0)]⟩,
                 ⟨some 37, none, .mv, [.tmp 36]⟩,
                 ⟨some 38, some (37, false), .fieldAddr 1, [.tmp 1]⟩,
                 ⟨some 39, some (37, false), .load 1 false, [.tmp 38]⟩,
                 ⟨some 40, some (37, false), .bin .eql, [.tmp 39, .const (.int .i64 1)]⟩,
                 ⟨some 41, none, .pick, [.tmp 37, .const (.bool true), .tmp 40]⟩,
                 ⟨some 42, none, .mv, [.tmp 41]⟩,
                 ⟨some 43, some (42, true), .fieldAddr 2, [.tmp 1]⟩,
                 ⟨some 44, some (42, true), .load 1 false, [.tmp 43]⟩,
                 ⟨some 45, some (42, true), .bin .eql, [.tmp 44, .const (.str [])]⟩,
                 ⟨some 46, none, .pick, [.tmp 42, .tmp 45, .const (.bool false)]⟩,
                 ⟨some 3, none, .mv, [.tmp 46]⟩]) (
               .seq (
                .reg [1, 3, 5] false [⟨some 48, none, .bin .eql, [.tmp 5, .const (.int .i64 4)]⟩,
                  ⟨some 47, none, .mv, [.tmp 48]⟩]) (
                .cond (.tmp 47) (
                 .reg [1] false [⟨some 49, none, .fieldAddr 1, [.tmp 1]⟩,
                   ⟨some 50, none, .load 1 false, [.tmp 49]⟩,
                   ⟨some 51, none, .bin .geq, [.tmp 50, .const (.int .i64 1)]⟩,
                   ⟨some 52, none, .mv, [.tmp 51]⟩,
                   ⟨some 53, some (52, true), .fieldAddr 1, [.tmp 1]⟩,
                   ⟨some 54, some (52, true), .load 1 false, [.tmp 53]⟩,
                   ⟨some 55, some (52, true), .bin .leq, [.tmp 54, .const (.int .i64 6)]⟩,
                   ⟨some 56, none, .pick, [.tmp 52, .tmp 55, .const (.bool false)]⟩,
                   ⟨some 57, none, .mv, [.tmp 56]⟩,
                   ⟨some 58, some (57, true), .fieldAddr 2, [.tmp 1]⟩,
                   ⟨some 59, some (57, true), .load 1 false, [.tmp 58]⟩,
                   ⟨some 60, some (57, true), .bin .eql, [.tmp 59, .const (.str [])]⟩,
                   ⟨some 61, none, .pick, [.tmp 57, .tmp 60, .const (.bool false)]⟩,
                   ⟨some 3, none, .mv, [.tmp 61]⟩]) (
                 .skip))))))))))))) (
     .seq (
      .seq (
       .reg [3] false [⟨some 62, none, .mv, [.tmp 3]⟩,
         ⟨some 63, none, .un .not, [.tmp 62]⟩]) (
       .cond (.tmp 63) (
        .seq (
         .reg [] false [⟨some 64, none, .mkIface t_api_Errno, [.const (.int .i64 1)]⟩,
           ⟨some 2, none, .mv, [.tmp 64]⟩]) (
         .ret)) (
        .skip))) (
      .seq (
       .reg [] false [⟨some 2, none, .mv, [.const (.nili)]⟩]) (
       .ret)))))
def a_value_Check : AF := { results := [.tmp 2], body := b_value_Check }

end Go.AM
