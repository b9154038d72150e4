/- Abstract code, printed by a program of my own (wip/gen/Gen.lean.tpl) off the dump. -/
import Derived.Test.YtniijfcjdlhfcaaDoorDan
set_option linter.all false
namespace Go.AM
/- sccsettle/scclaw3.FindLike, 2 params, 0 free: [] -/
def b_scclaw3_FindLike : AC :=
  .seq (
   .reg [1, 0] false [⟨some 4, none, .mv, [.const (.bool false)]⟩]) (
   .seq (
    .reg [1, 0] false [⟨some 5, none, .mv, [.const (.int .i64 0)]⟩]) (
    .seq (
     .reg [1, 0, 5] false [⟨some 6, none, .mv, [.const (.bool false)]⟩]) (
     .seq (
      .seq (
       .reg [6, 1, 0, 5] false [⟨some 12, none, .mv, [.tmp 0]⟩,
         ⟨some 13, none, .len true, [.tmp 12]⟩,
         ⟨some 14, none, .bin .gtr, [.tmp 13, .const (.int .i64 200)]⟩,
         ⟨some 15, none, .mv, [.tmp 14]⟩,
         ⟨some 16, some (15, false), .mv, [.tmp 1]⟩,
         ⟨some 17, some (15, false), .len true, [.tmp 16]⟩,
         ⟨some 18, some (15, false), .bin .gtr, [.tmp 17, .const (.int .i64 200)]⟩,
         ⟨some 19, none, .pick, [.tmp 15, .const (.bool true), .tmp 18]⟩]) (
       .cond (.tmp 19) (
        .reg [6, 1, 0] false [⟨some 5, none, .mv, [.const (.int .i64 4)]⟩]) (
        .seq (
         .reg [5, 1, 0, 6] false [⟨some 21, none, .mv, [.tmp 1]⟩,
           ⟨some 22, none, .call f_sccref3_Masks true, [.tmp 21]⟩,
           ⟨some 20, none, .mv, [.tmp 22]⟩,
           ⟨some 23, none, .extract 0, [.tmp 20]⟩,
           ⟨some 24, none, .extract 1, [.tmp 20]⟩,
           ⟨some 7, none, .mv, [.tmp 23]⟩,
           ⟨some 8, none, .mv, [.tmp 24]⟩]) (
         .seq (
          .reg [5, 1, 0, 7, 6, 8] false [⟨some 25, none, .mv, [.tmp 8]⟩]) (
          .cond (.tmp 25) (
           .reg [5, 1, 0, 7] false [⟨some 26, none, .mv, [.tmp 0]⟩,
             ⟨some 27, none, .mv, [.tmp 7]⟩,
             ⟨some 28, none, .call f_sccref3_Like true, [.tmp 26, .tmp 27]⟩,
             ⟨some 6, none, .mv, [.tmp 28]⟩]) (
           .reg [6, 1, 0] false [⟨some 5, none, .mv, [.const (.int .i64 2)]⟩])))))) (
      .seq (
       .reg [6, 5, 1, 0] false [⟨some 30, none, .mv, [.tmp 0]⟩,
         ⟨some 31, none, .mv, [.tmp 1]⟩,
         ⟨some 32, none, .call f_find_Like true, [.tmp 30, .tmp 31]⟩,
         ⟨some 29, none, .mv, [.tmp 32]⟩,
         ⟨some 33, none, .extract 0, [.tmp 29]⟩,
         ⟨some 34, none, .extract 1, [.tmp 29]⟩,
         ⟨some 9, none, .mv, [.tmp 33]⟩,
         ⟨some 10, none, .mv, [.tmp 34]⟩]) (
       .seq (
        .reg [6, 9, 5, 10] false [⟨some 35, none, .mv, [.tmp 10]⟩,
          ⟨some 36, none, .mv, [.tmp 5]⟩,
          ⟨some 37, none, .call f_sccsame_Error true, [.tmp 35, .tmp 36]⟩,
          ⟨some 11, none, .mv, [.tmp 37]⟩]) (
        .seq (
         .reg [6, 9, 11] false [⟨some 38, none, .mv, [.tmp 11]⟩,
           ⟨some 39, none, .mv, [.tmp 38]⟩,
           ⟨some 40, some (39, true), .mv, [.tmp 9]⟩,
           ⟨some 41, some (39, true), .mv, [.tmp 6]⟩,
           ⟨some 42, some (39, true), .eqb false, [.tmp 40, .tmp 41]⟩,
           ⟨some 43, none, .pick, [.tmp 39, .tmp 42, .const (.bool false)]⟩,
           ⟨some 4, none, .mv, [.tmp 43]⟩]) (
         .ret)))))))
def a_scclaw3_FindLike : AF := { results := [.tmp 4], body := b_scclaw3_FindLike }

/- sccsettle/scclaw3.CsvReads, 1 params, 0 free: [] -/
def b_scclaw3_CsvReads : AC :=
  .seq (
   .reg [0] false [⟨some 2, none, .mv, [.const (.bool false)]⟩]) (
   .seq (
    .reg [0] false [⟨some 12, none, .mv, [.tmp 0]⟩,
      ⟨some 13, none, .call f_sccref3_Rows true, [.tmp 12]⟩,
      ⟨some 11, none, .mv, [.tmp 13]⟩,
      ⟨some 14, none, .extract 0, [.tmp 11]⟩,
      ⟨some 15, none, .extract 1, [.tmp 11]⟩,
      ⟨some 16, none, .extract 2, [.tmp 11]⟩,
      ⟨some 3, none, .mv, [.tmp 14]⟩,
      ⟨some 4, none, .mv, [.tmp 15]⟩,
      ⟨some 5, none, .mv, [.tmp 16]⟩]) (
    .seq (
     .reg [4, 3, 5, 0] false [⟨some 18, none, .mv, [.tmp 0]⟩,
       ⟨some 19, none, .call f_csv_Read true, [.tmp 18]⟩,
       ⟨some 17, none, .mv, [.tmp 19]⟩,
       ⟨some 20, none, .extract 0, [.tmp 17]⟩,
       ⟨some 21, none, .extract 1, [.tmp 17]⟩,
       ⟨some 22, none, .extract 2, [.tmp 17]⟩,
       ⟨some 6, none, .mv, [.tmp 20]⟩,
       ⟨some 7, none, .mv, [.tmp 21]⟩,
       ⟨some 8, none, .mv, [.tmp 22]⟩]) (
     .seq (
      .reg [4, 7, 3, 6, 5, 8] false [⟨some 23, none, .mv, [.tmp 8]⟩,
        ⟨some 24, none, .mv, [.tmp 5]⟩,
        ⟨some 25, none, .call f_sccsame_Error true, [.tmp 23, .tmp 24]⟩,
        ⟨some 9, none, .mv, [.tmp 25]⟩]) (
      .seq (
       .reg [4, 7, 9, 3, 6] false [⟨some 26, none, .mv, [.tmp 6]⟩,
         ⟨some 27, none, .mv, [.tmp 3]⟩,
         ⟨some 28, none, .call f_sccsame_Rows true, [.tmp 26, .tmp 27]⟩,
         ⟨some 10, none, .mv, [.tmp 28]⟩]) (
       .seq (
        .reg [4, 7, 10, 9] false [⟨some 29, none, .mv, [.tmp 9]⟩,
          ⟨some 30, none, .mv, [.tmp 29]⟩,
          ⟨some 31, some (30, true), .mv, [.tmp 10]⟩,
          ⟨some 32, none, .pick, [.tmp 30, .tmp 31, .const (.bool false)]⟩,
          ⟨some 33, none, .mv, [.tmp 32]⟩,
          ⟨some 34, some (33, true), .mv, [.tmp 7]⟩,
          ⟨some 35, some (33, true), .mv, [.tmp 4]⟩,
          ⟨some 36, some (33, true), .bin .eql, [.tmp 34, .tmp 35]⟩,
          ⟨some 37, none, .pick, [.tmp 33, .tmp 36, .const (.bool false)]⟩,
          ⟨some 2, none, .mv, [.tmp 37]⟩]) (
        .ret))))))
def a_scclaw3_CsvReads : AF := { results := [.tmp 2], body := b_scclaw3_CsvReads }

/- sccsettle/scclaw3.SortDistinct, 2 params, 0 free: [] -/
def b_scclaw3_SortDistinct : AC :=
  .seq (
   .reg [1, 0] false [⟨some 4, none, .mv, [.const (.bool false)]⟩]) (
   .seq (
    .reg [1, 0] false [⟨some 11, none, .mv, [.tmp 0]⟩,
      ⟨some 12, none, .mv, [.tmp 1]⟩,
      ⟨some 13, none, .call f_sccref3_Columns true, [.tmp 11, .tmp 12]⟩,
      ⟨some 5, none, .mv, [.tmp 13]⟩]) (
    .seq (
     .reg [5, 1, 0] false [⟨some 6, none, .mv, [.const (.lst (some true) 0 [])]⟩]) (
     .seq (
      .seq (
       .reg [5, 1, 0, 6] false [⟨some 14, none, .mv, [.tmp 5]⟩,
         ⟨some 15, none, .bin .eql, [.tmp 14, .const (.int .i64 0)]⟩]) (
       .cond (.tmp 15) (
        .reg [5, 1, 0] false [⟨some 16, none, .mv, [.tmp 0]⟩,
          ⟨some 17, none, .mv, [.tmp 1]⟩,
          ⟨some 18, none, .call f_sccref3_Distinct true, [.tmp 16, .tmp 17]⟩,
          ⟨some 6, none, .mv, [.tmp 18]⟩]) (
        .skip))) (
      .seq (
       .reg [6, 5, 1, 0] false [⟨some 20, none, .mv, [.tmp 0]⟩,
         ⟨some 21, none, .mv, [.tmp 1]⟩,
         ⟨some 22, none, .call f_sort_Distinct true, [.tmp 20, .tmp 21]⟩,
         ⟨some 19, none, .mv, [.tmp 22]⟩,
         ⟨some 23, none, .extract 0, [.tmp 19]⟩,
         ⟨some 24, none, .extract 1, [.tmp 19]⟩,
         ⟨some 7, none, .mv, [.tmp 23]⟩,
         ⟨some 8, none, .mv, [.tmp 24]⟩]) (
       .seq (
        .reg [6, 7, 5, 8] false [⟨some 25, none, .mv, [.tmp 8]⟩,
          ⟨some 26, none, .mv, [.tmp 5]⟩,
          ⟨some 27, none, .call f_sccsame_Error true, [.tmp 25, .tmp 26]⟩,
          ⟨some 9, none, .mv, [.tmp 27]⟩]) (
        .seq (
         .reg [9, 6, 7] false [⟨some 28, none, .mv, [.tmp 7]⟩,
           ⟨some 29, none, .mv, [.tmp 6]⟩,
           ⟨some 30, none, .call f_sccsame_Ints true, [.tmp 28, .tmp 29]⟩,
           ⟨some 10, none, .mv, [.tmp 30]⟩]) (
         .seq (
          .reg [10, 9] false [⟨some 31, none, .mv, [.tmp 9]⟩,
            ⟨some 32, none, .mv, [.tmp 31]⟩,
            ⟨some 33, some (32, true), .mv, [.tmp 10]⟩,
            ⟨some 34, none, .pick, [.tmp 32, .tmp 33, .const (.bool false)]⟩,
            ⟨some 4, none, .mv, [.tmp 34]⟩]) (
          .ret))))))))
def a_scclaw3_SortDistinct : AF := { results := [.tmp 4], body := b_scclaw3_SortDistinct }

/- sccsettle/scclaw3.FormatWide, 4 params, 0 free: [] -/
/- a loop's body; at its head: [16, 0, 14, 9, 15] -/
def b_scclaw3_FormatWide_0 : AC :=
  .seq (
   .seq (
    .reg [0, 14, 9, 16, 15] false [⟨some 83, none, .mv, [.tmp 16]⟩,
      ⟨some 84, none, .mv, [.tmp 0]⟩,
      ⟨some 85, none, .len true, [.tmp 84]⟩,
      ⟨some 86, none, .bin .lss, [.tmp 83, .tmp 85]⟩,
      ⟨some 87, none, .mv, [.tmp 86]⟩,
      ⟨some 88, some (87, true), .mv, [.tmp 15]⟩,
      ⟨some 89, none, .pick, [.tmp 87, .tmp 88, .const (.bool false)]⟩]) (
    .cond (.tmp 89) (
     .skip) (
     .exit 0))) (
   .seq (
    .block 1 [0, 14, 9, 15, 16] (
     .seq (
      .reg [0, 14, 9, 16, 15] false [⟨some 92, none, .mv, [.tmp 0]⟩,
        ⟨some 93, none, .mv, [.tmp 16]⟩,
        ⟨some 94, none, .idxStr, [.tmp 92, .tmp 93]⟩,
        ⟨some 95, none, .bin .lss, [.tmp 94, .const (.int .u8 65)]⟩,
        ⟨some 96, none, .mv, [.tmp 95]⟩,
        ⟨some 97, some (96, false), .mv, [.tmp 0]⟩,
        ⟨some 98, some (96, false), .mv, [.tmp 16]⟩,
        ⟨some 99, some (96, false), .idxStr, [.tmp 97, .tmp 98]⟩,
        ⟨some 100, some (96, false), .bin .gtr, [.tmp 99, .const (.int .u8 90)]⟩,
        ⟨some 101, none, .pick, [.tmp 96, .const (.bool true), .tmp 100]⟩]) (
      .cond (.tmp 101) (
       .reg [0, 14, 9, 16] false [⟨some 15, none, .mv, [.const (.bool false)]⟩]) (
       .reg [0, 9, 15, 16, 14] false [⟨some 102, none, .mv, [.tmp 14]⟩,
         ⟨some 103, none, .bin .mul, [.tmp 102, .const (.int .i64 26)]⟩,
         ⟨some 104, none, .mv, [.tmp 0]⟩,
         ⟨some 105, none, .mv, [.tmp 16]⟩,
         ⟨some 106, none, .idxStr, [.tmp 104, .tmp 105]⟩,
         ⟨some 107, none, .convInt .i64, [.tmp 106]⟩,
         ⟨some 108, none, .bin .add, [.tmp 103, .tmp 107]⟩,
         ⟨some 109, none, .bin .sub, [.tmp 108, .const (.int .i64 64)]⟩,
         ⟨some 14, none, .mv, [.tmp 109]⟩])))) (
    .reg [0, 14, 9, 15, 16] false [⟨some 90, none, .mv, [.tmp 16]⟩,
      ⟨some 91, none, .bin .add, [.tmp 90, .const (.int .i64 1)]⟩,
      ⟨some 16, none, .mv, [.tmp 91]⟩]))

def b_scclaw3_FormatWide : AC :=
  .seq (
   .reg [0, 3, 2, 1] false [⟨some 8, none, .mv, [.const (.bool false)]⟩]) (
   .seq (
    .reg [0, 3, 2, 1] false [⟨some 9, none, .mv, [.const (.int .i64 1)]⟩]) (
    .seq (
     .reg [0, 3, 2, 1, 9] false [⟨some 10, none, .mv, [.const (.str [])]⟩]) (
     .seq (
      .seq (
       .reg [0, 3, 2, 1, 10, 9] false [⟨some 18, none, .mv, [.tmp 1]⟩,
         ⟨some 19, none, .bin .geq, [.tmp 18, .const (.int .i64 0)]⟩,
         ⟨some 20, none, .mv, [.tmp 19]⟩,
         ⟨some 21, some (20, true), .mv, [.tmp 1]⟩,
         ⟨some 22, some (20, true), .bin .leq, [.tmp 21, .const (.int .i64 200)]⟩,
         ⟨some 23, none, .pick, [.tmp 20, .tmp 22, .const (.bool false)]⟩,
         ⟨some 24, none, .mv, [.tmp 23]⟩,
         ⟨some 25, some (24, true), .mv, [.tmp 2]⟩,
         ⟨some 26, some (24, true), .bin .geq, [.tmp 25, .const (.int .i64 0)]⟩,
         ⟨some 27, none, .pick, [.tmp 24, .tmp 26, .const (.bool false)]⟩,
         ⟨some 28, none, .mv, [.tmp 27]⟩,
         ⟨some 29, some (28, true), .mv, [.tmp 2]⟩,
         ⟨some 30, some (28, true), .bin .leq, [.tmp 29, .const (.int .i64 2)]⟩,
         ⟨some 31, none, .pick, [.tmp 28, .tmp 30, .const (.bool false)]⟩]) (
       .cond (.tmp 31) (
        .seq (
         .reg [0, 3, 2, 1] false [⟨some 9, none, .mv, [.const (.int .i64 0)]⟩]) (
         .reg [0, 3, 9, 2, 1] false [⟨some 32, none, .mv, [.tmp 0]⟩,
           ⟨some 33, none, .mv, [.tmp 1]⟩,
           ⟨some 34, none, .mv, [.tmp 2]⟩,
           ⟨some 35, none, .call f_sccref3_Wide true, [.tmp 32, .tmp 33, .tmp 34]⟩,
           ⟨some 10, none, .mv, [.tmp 35]⟩])) (
        .skip))) (
      .seq (
       .reg [0, 3, 10, 9, 2, 1] false [⟨some 37, none, .mv, [.tmp 0]⟩,
         ⟨some 38, none, .mv, [.tmp 1]⟩,
         ⟨some 39, none, .mv, [.tmp 2]⟩,
         ⟨some 40, none, .call f_format_Wide true, [.tmp 37, .tmp 38, .tmp 39]⟩,
         ⟨some 36, none, .mv, [.tmp 40]⟩,
         ⟨some 41, none, .extract 0, [.tmp 36]⟩,
         ⟨some 42, none, .extract 1, [.tmp 36]⟩,
         ⟨some 11, none, .mv, [.tmp 41]⟩,
         ⟨some 12, none, .mv, [.tmp 42]⟩]) (
       .seq (
        .reg [0, 3, 10, 11, 9, 12] false [⟨some 43, none, .mv, [.tmp 12]⟩,
          ⟨some 44, none, .mv, [.tmp 9]⟩,
          ⟨some 45, none, .call f_sccsame_Error true, [.tmp 43, .tmp 44]⟩,
          ⟨some 13, none, .mv, [.tmp 45]⟩]) (
        .seq (
         .seq (
          .reg [0, 3, 10, 11, 13] false [⟨some 46, none, .mv, [.tmp 13]⟩,
            ⟨some 47, none, .un .not, [.tmp 46]⟩,
            ⟨some 48, none, .mv, [.tmp 47]⟩,
            ⟨some 49, some (48, false), .mv, [.tmp 11]⟩,
            ⟨some 50, some (48, false), .mv, [.tmp 10]⟩,
            ⟨some 51, some (48, false), .bin .neq, [.tmp 49, .tmp 50]⟩,
            ⟨some 52, none, .pick, [.tmp 48, .const (.bool true), .tmp 51]⟩]) (
          .cond (.tmp 52) (
           .seq (
            .reg [] false [⟨some 8, none, .mv, [.const (.bool false)]⟩]) (
            .ret)) (
           .skip))) (
         .seq (
          .reg [0, 3] false [⟨some 9, none, .mv, [.const (.int .i64 1)]⟩]) (
          .seq (
           .reg [0, 3, 9] false [⟨some 10, none, .mv, [.const (.str [])]⟩]) (
           .seq (
            .seq (
             .reg [0, 3, 10, 9] false [⟨some 53, none, .mv, [.tmp 3]⟩,
               ⟨some 54, none, .bin .geq, [.tmp 53, .const (.int .i64 1)]⟩,
               ⟨some 55, none, .mv, [.tmp 54]⟩,
               ⟨some 56, some (55, true), .mv, [.tmp 3]⟩,
               ⟨some 57, some (55, true), .bin .leq, [.tmp 56, .const (.int .i64 1000000)]⟩,
               ⟨some 58, none, .pick, [.tmp 55, .tmp 57, .const (.bool false)]⟩]) (
             .cond (.tmp 58) (
              .seq (
               .reg [0, 3] false [⟨some 9, none, .mv, [.const (.int .i64 0)]⟩]) (
               .reg [0, 9, 3] false [⟨some 59, none, .mv, [.tmp 3]⟩,
                 ⟨some 60, none, .call f_sccref3_Letters true, [.tmp 59]⟩,
                 ⟨some 10, none, .mv, [.tmp 60]⟩])) (
              .skip))) (
            .seq (
             .reg [0, 10, 9, 3] false [⟨some 62, none, .mv, [.tmp 3]⟩,
               ⟨some 63, none, .call f_format_Column true, [.tmp 62]⟩,
               ⟨some 61, none, .mv, [.tmp 63]⟩,
               ⟨some 64, none, .extract 0, [.tmp 61]⟩,
               ⟨some 65, none, .extract 1, [.tmp 61]⟩,
               ⟨some 11, none, .mv, [.tmp 64]⟩,
               ⟨some 12, none, .mv, [.tmp 65]⟩]) (
             .seq (
              .reg [0, 10, 11, 9, 12] false [⟨some 66, none, .mv, [.tmp 12]⟩,
                ⟨some 67, none, .mv, [.tmp 9]⟩,
                ⟨some 68, none, .call f_sccsame_Error true, [.tmp 66, .tmp 67]⟩,
                ⟨some 13, none, .mv, [.tmp 68]⟩]) (
              .seq (
               .seq (
                .reg [0, 10, 11, 13] false [⟨some 69, none, .mv, [.tmp 13]⟩,
                  ⟨some 70, none, .un .not, [.tmp 69]⟩,
                  ⟨some 71, none, .mv, [.tmp 70]⟩,
                  ⟨some 72, some (71, false), .mv, [.tmp 11]⟩,
                  ⟨some 73, some (71, false), .mv, [.tmp 10]⟩,
                  ⟨some 74, some (71, false), .bin .neq, [.tmp 72, .tmp 73]⟩,
                  ⟨some 75, none, .pick, [.tmp 71, .const (.bool true), .tmp 74]⟩]) (
                .cond (.tmp 75) (
                 .seq (
                  .reg [] false [⟨some 8, none, .mv, [.const (.bool false)]⟩]) (
                  .ret)) (
                 .skip))) (
               .seq (
                .reg [0] false [⟨some 9, none, .mv, [.const (.int .i64 2)]⟩]) (
                .seq (
                 .reg [0, 9] false [⟨some 14, none, .mv, [.const (.int .i64 0)]⟩]) (
                 .seq (
                  .reg [0, 14, 9] false [⟨some 76, none, .mv, [.tmp 0]⟩,
                    ⟨some 77, none, .bin .neq, [.tmp 76, .const (.str [])]⟩,
                    ⟨some 78, none, .mv, [.tmp 77]⟩,
                    ⟨some 79, some (78, true), .mv, [.tmp 0]⟩,
                    ⟨some 80, some (78, true), .len true, [.tmp 79]⟩,
                    ⟨some 81, some (78, true), .bin .leq, [.tmp 80, .const (.int .i64 5)]⟩,
                    ⟨some 82, none, .pick, [.tmp 78, .tmp 81, .const (.bool false)]⟩,
                    ⟨some 15, none, .mv, [.tmp 82]⟩]) (
                  .seq (
                   .seq (
                    .reg [0, 14, 9, 15] false [⟨some 16, none, .mv, [.const (.int .i64 0)]⟩]) (
                    .block 0 [14, 0, 9, 15] (
                     .loop [16, 0, 14, 9, 15] b_scclaw3_FormatWide_0))) (
                   .seq (
                    .seq (
                     .reg [14, 0, 9, 15] false [⟨some 110, none, .mv, [.tmp 15]⟩,
                       ⟨some 111, none, .mv, [.tmp 110]⟩,
                       ⟨some 112, some (111, true), .mv, [.tmp 14]⟩,
                       ⟨some 113, some (111, true), .bin .leq, [.tmp 112, .const (.int .i64 1000000)]⟩,
                       ⟨some 114, none, .pick, [.tmp 111, .tmp 113, .const (.bool false)]⟩]) (
                     .cond (.tmp 114) (
                      .reg [14, 0] false [⟨some 9, none, .mv, [.const (.int .i64 0)]⟩]) (
                      .reg [9, 0] false [⟨some 14, none, .mv, [.const (.int .i64 0)]⟩]))) (
                    .seq (
                     .reg [14, 9, 0] false [⟨some 116, none, .mv, [.tmp 0]⟩,
                       ⟨some 117, none, .call f_format_Number true, [.tmp 116]⟩,
                       ⟨some 115, none, .mv, [.tmp 117]⟩,
                       ⟨some 118, none, .extract 0, [.tmp 115]⟩,
                       ⟨some 119, none, .extract 1, [.tmp 115]⟩,
                       ⟨some 17, none, .mv, [.tmp 118]⟩,
                       ⟨some 12, none, .mv, [.tmp 119]⟩]) (
                     .seq (
                      .reg [14, 17, 9, 12] false [⟨some 120, none, .mv, [.tmp 12]⟩,
                        ⟨some 121, none, .mv, [.tmp 9]⟩,
                        ⟨some 122, none, .call f_sccsame_Error true, [.tmp 120, .tmp 121]⟩,
                        ⟨some 13, none, .mv, [.tmp 122]⟩]) (
                      .seq (
                       .reg [14, 17, 13] false [⟨some 123, none, .mv, [.tmp 13]⟩,
                         ⟨some 124, none, .mv, [.tmp 123]⟩,
                         ⟨some 125, some (124, true), .mv, [.tmp 17]⟩,
                         ⟨some 126, some (124, true), .mv, [.tmp 14]⟩,
                         ⟨some 127, some (124, true), .bin .eql, [.tmp 125, .tmp 126]⟩,
                         ⟨some 128, none, .pick, [.tmp 124, .tmp 127, .const (.bool false)]⟩,
                         ⟨some 8, none, .mv, [.tmp 128]⟩]) (
                       .ret)))))))))))))))))))))
def a_scclaw3_FormatWide : AF := { results := [.tmp 8], body := b_scclaw3_FormatWide }

/- sccsettle/scclaw3.ChartTicks, 3 params, 0 free: [] -/
/- a loop's body; at its head: [13, 10, 9] -/
def b_scclaw3_ChartTicks_0 : AC :=
  .seq (
   .seq (
    .reg [10, 9, 13] false [⟨some 73, none, .mv, [.tmp 13]⟩,
      ⟨some 74, none, .mv, [.tmp 10]⟩,
      ⟨some 75, none, .len false, [.tmp 74]⟩,
      ⟨some 76, none, .bin .lss, [.tmp 73, .tmp 75]⟩]) (
    .cond (.tmp 76) (
     .skip) (
     .exit 0))) (
   .seq (
    .block 1 [10, 9, 13] (
     .seq (
      .reg [10, 9, 13] false [⟨some 79, none, .mv, [.tmp 9]⟩,
        ⟨some 80, none, .mv, [.tmp 13]⟩,
        ⟨some 81, none, .idxAddr 1, [.tmp 79, .tmp 80]⟩,
        ⟨some 82, none, .load 1 false, [.tmp 81]⟩,
        ⟨some 83, none, .call f_sccref1_Digits true, [.tmp 82]⟩,
        ⟨some 14, none, .mv, [.tmp 83]⟩]) (
      .seq (
       .reg [10, 9, 13, 14] true [⟨some 84, none, .mv, [.tmp 10]⟩,
         ⟨some 85, none, .mv, [.tmp 13]⟩,
         ⟨some 86, none, .idxAddr 2, [.tmp 84, .tmp 85]⟩,
         ⟨some 87, none, .fieldAddr 0, [.tmp 86]⟩,
         ⟨some 88, none, .load 1 false, [.tmp 87]⟩,
         ⟨some 89, none, .mv, [.tmp 9]⟩,
         ⟨some 90, none, .mv, [.tmp 13]⟩,
         ⟨some 91, none, .idxAddr 1, [.tmp 89, .tmp 90]⟩,
         ⟨some 92, none, .load 1 false, [.tmp 91]⟩,
         ⟨some 93, none, .bin .neq, [.tmp 88, .tmp 92]⟩,
         ⟨some 94, none, .mv, [.tmp 93]⟩,
         ⟨some 95, some (94, false), .mv, [.tmp 10]⟩,
         ⟨some 96, some (94, false), .mv, [.tmp 13]⟩,
         ⟨some 97, some (94, false), .idxAddr 2, [.tmp 95, .tmp 96]⟩,
         ⟨some 98, some (94, false), .fieldAddr 1, [.tmp 97]⟩,
         ⟨some 99, some (94, false), .load 1 false, [.tmp 98]⟩,
         ⟨some 100, some (94, false), .mv, [.tmp 14]⟩,
         ⟨some 101, some (94, false), .bin .neq, [.tmp 99, .tmp 100]⟩,
         ⟨some 102, none, .pick, [.tmp 94, .const (.bool true), .tmp 101]⟩]) (
       .cond (.tmp 102) (
        .seq (
         .reg [] false [⟨some 6, none, .mv, [.const (.bool false)]⟩]) (
         .ret)) (
        .skip))))) (
    .reg [10, 9, 13] false [⟨some 77, none, .mv, [.tmp 13]⟩,
      ⟨some 78, none, .bin .add, [.tmp 77, .const (.int .i64 1)]⟩,
      ⟨some 13, none, .mv, [.tmp 78]⟩]))

def b_scclaw3_ChartTicks : AC :=
  .seq (
   .reg [2, 1, 0] false [⟨some 6, none, .mv, [.const (.bool false)]⟩]) (
   .seq (
    .reg [2, 1, 0] false [⟨some 7, none, .mv, [.const (.int .i64 1000000000000000)]⟩]) (
    .seq (
     .reg [2, 1, 0, 7] false [⟨some 8, none, .mv, [.const (.int .i64 0)]⟩]) (
     .seq (
      .seq (
       .reg [2, 1, 0, 8, 7] false [⟨some 15, none, .mv, [.tmp 0]⟩,
         ⟨some 16, none, .mv, [.tmp 1]⟩,
         ⟨some 17, none, .bin .gtr, [.tmp 15, .tmp 16]⟩,
         ⟨some 18, none, .mv, [.tmp 17]⟩,
         ⟨some 19, some (18, false), .mv, [.tmp 0]⟩,
         ⟨some 20, some (18, false), .mv, [.tmp 7]⟩,
         ⟨some 21, some (18, false), .un .neg, [.tmp 20]⟩,
         ⟨some 22, some (18, false), .bin .lss, [.tmp 19, .tmp 21]⟩,
         ⟨some 23, none, .pick, [.tmp 18, .const (.bool true), .tmp 22]⟩,
         ⟨some 24, none, .mv, [.tmp 23]⟩,
         ⟨some 25, some (24, false), .mv, [.tmp 1]⟩,
         ⟨some 26, some (24, false), .mv, [.tmp 7]⟩,
         ⟨some 27, some (24, false), .bin .gtr, [.tmp 25, .tmp 26]⟩,
         ⟨some 28, none, .pick, [.tmp 24, .const (.bool true), .tmp 27]⟩,
         ⟨some 29, none, .mv, [.tmp 28]⟩,
         ⟨some 30, some (29, false), .mv, [.tmp 0]⟩,
         ⟨some 31, some (29, false), .mv, [.tmp 7]⟩,
         ⟨some 32, some (29, false), .bin .gtr, [.tmp 30, .tmp 31]⟩,
         ⟨some 33, none, .pick, [.tmp 29, .const (.bool true), .tmp 32]⟩,
         ⟨some 34, none, .mv, [.tmp 33]⟩,
         ⟨some 35, some (34, false), .mv, [.tmp 1]⟩,
         ⟨some 36, some (34, false), .mv, [.tmp 7]⟩,
         ⟨some 37, some (34, false), .un .neg, [.tmp 36]⟩,
         ⟨some 38, some (34, false), .bin .lss, [.tmp 35, .tmp 37]⟩,
         ⟨some 39, none, .pick, [.tmp 34, .const (.bool true), .tmp 38]⟩,
         ⟨some 40, none, .mv, [.tmp 39]⟩,
         ⟨some 41, some (40, false), .mv, [.tmp 2]⟩,
         ⟨some 42, some (40, false), .bin .lss, [.tmp 41, .const (.int .i64 1)]⟩,
         ⟨some 43, none, .pick, [.tmp 40, .const (.bool true), .tmp 42]⟩,
         ⟨some 44, none, .mv, [.tmp 43]⟩,
         ⟨some 45, some (44, false), .mv, [.tmp 2]⟩,
         ⟨some 46, some (44, false), .bin .gtr, [.tmp 45, .const (.int .i64 60)]⟩,
         ⟨some 47, none, .pick, [.tmp 44, .const (.bool true), .tmp 46]⟩]) (
       .cond (.tmp 47) (
        .reg [2, 1, 0] false [⟨some 8, none, .mv, [.const (.int .i64 1)]⟩]) (
        .skip))) (
      .seq (
       .reg [8, 2, 1, 0] false [⟨some 9, none, .mv, [.const (.lst (some true) 0 [])]⟩]) (
       .seq (
        .seq (
         .reg [8, 2, 1, 0, 9] false [⟨some 48, none, .mv, [.tmp 8]⟩,
           ⟨some 49, none, .bin .eql, [.tmp 48, .const (.int .i64 0)]⟩]) (
         .cond (.tmp 49) (
          .reg [8, 2, 1, 0] false [⟨some 50, none, .mv, [.tmp 0]⟩,
            ⟨some 51, none, .mv, [.tmp 1]⟩,
            ⟨some 52, none, .mv, [.tmp 2]⟩,
            ⟨some 53, none, .call f_sccref3_Ticks true, [.tmp 50, .tmp 51, .tmp 52]⟩,
            ⟨some 9, none, .mv, [.tmp 53]⟩]) (
          .skip))) (
        .seq (
         .reg [9, 8, 2, 1, 0] false [⟨some 55, none, .mv, [.tmp 0]⟩,
           ⟨some 56, none, .mv, [.tmp 1]⟩,
           ⟨some 57, none, .mv, [.tmp 2]⟩,
           ⟨some 58, none, .call f_chart_Ticks true, [.tmp 55, .tmp 56, .tmp 57]⟩,
           ⟨some 54, none, .mv, [.tmp 58]⟩,
           ⟨some 59, none, .extract 0, [.tmp 54]⟩,
           ⟨some 60, none, .extract 1, [.tmp 54]⟩,
           ⟨some 10, none, .mv, [.tmp 59]⟩,
           ⟨some 11, none, .mv, [.tmp 60]⟩]) (
         .seq (
          .reg [10, 9, 8, 11] false [⟨some 61, none, .mv, [.tmp 11]⟩,
            ⟨some 62, none, .mv, [.tmp 8]⟩,
            ⟨some 63, none, .call f_sccsame_Error true, [.tmp 61, .tmp 62]⟩,
            ⟨some 12, none, .mv, [.tmp 63]⟩]) (
          .seq (
           .seq (
            .reg [10, 9, 12] false [⟨some 64, none, .mv, [.tmp 12]⟩,
              ⟨some 65, none, .un .not, [.tmp 64]⟩,
              ⟨some 66, none, .mv, [.tmp 65]⟩,
              ⟨some 67, some (66, false), .mv, [.tmp 10]⟩,
              ⟨some 68, some (66, false), .len false, [.tmp 67]⟩,
              ⟨some 69, some (66, false), .mv, [.tmp 9]⟩,
              ⟨some 70, some (66, false), .len false, [.tmp 69]⟩,
              ⟨some 71, some (66, false), .bin .neq, [.tmp 68, .tmp 70]⟩,
              ⟨some 72, none, .pick, [.tmp 66, .const (.bool true), .tmp 71]⟩]) (
            .cond (.tmp 72) (
             .seq (
              .reg [] false [⟨some 6, none, .mv, [.const (.bool false)]⟩]) (
              .ret)) (
             .skip))) (
           .seq (
            .seq (
             .reg [10, 9] false [⟨some 13, none, .mv, [.const (.int .i64 0)]⟩]) (
             .block 0 [] (
              .loop [13, 10, 9] b_scclaw3_ChartTicks_0))) (
            .seq (
             .reg [] false [⟨some 6, none, .mv, [.const (.bool true)]⟩]) (
             .ret)))))))))))
def a_scclaw3_ChartTicks : AF := { results := [.tmp 6], body := b_scclaw3_ChartTicks }

/- sccsettle/scclaw3.SortRows, 3 params, 0 free: [] -/
def b_scclaw3_SortRows : AC :=
  .seq (
   .reg [2, 1, 0] false [⟨some 6, none, .mv, [.const (.bool false)]⟩]) (
   .seq (
    .reg [2, 1, 0] false [⟨some 17, none, .mv, [.tmp 0]⟩,
      ⟨some 18, none, .call f_sccref3_Table true, [.tmp 17]⟩,
      ⟨some 7, none, .mv, [.tmp 18]⟩]) (
    .seq (
     .reg [2, 1, 0, 7] false [⟨some 19, none, .mv, [.tmp 0]⟩,
       ⟨some 20, none, .call f_sort_Check true, [.tmp 19]⟩,
       ⟨some 8, none, .mv, [.tmp 20]⟩]) (
     .seq (
      .reg [2, 1, 0, 7, 8] false [⟨some 21, none, .mv, [.tmp 8]⟩,
        ⟨some 22, none, .mv, [.tmp 7]⟩,
        ⟨some 23, none, .call f_sccsame_Error true, [.tmp 21, .tmp 22]⟩,
        ⟨some 9, none, .mv, [.tmp 23]⟩]) (
      .seq (
       .reg [9, 2, 1, 0] false [⟨some 24, none, .mv, [.tmp 0]⟩,
         ⟨some 25, none, .mv, [.tmp 1]⟩,
         ⟨some 26, none, .call f_sccref3_Cols true, [.tmp 25]⟩,
         ⟨some 27, none, .call f_sccref3_Columns true, [.tmp 24, .tmp 26]⟩,
         ⟨some 7, none, .mv, [.tmp 27]⟩]) (
       .seq (
        .reg [9, 7, 2, 1, 0] false [⟨some 10, none, .mv, [.const (.lst (some true) 0 [])]⟩]) (
        .seq (
         .reg [9, 7, 2, 1, 0, 10] false [⟨some 11, none, .mv, [.const (.bool false)]⟩]) (
         .seq (
          .seq (
           .reg [9, 7, 2, 1, 0, 11, 10] false [⟨some 28, none, .mv, [.tmp 7]⟩,
             ⟨some 29, none, .bin .eql, [.tmp 28, .const (.int .i64 0)]⟩]) (
           .cond (.tmp 29) (
            .seq (
             .reg [9, 7, 2, 1, 0] false [⟨some 30, none, .mv, [.tmp 0]⟩,
               ⟨some 31, none, .mv, [.tmp 1]⟩,
               ⟨some 32, none, .call f_sccref3_Sort true, [.tmp 30, .tmp 31]⟩,
               ⟨some 10, none, .mv, [.tmp 32]⟩]) (
             .reg [9, 7, 2, 1, 0, 10] false [⟨some 33, none, .mv, [.tmp 2]⟩,
               ⟨some 34, none, .mv, [.tmp 10]⟩,
               ⟨some 35, none, .call f_sccsame_Ints true, [.tmp 33, .tmp 34]⟩,
               ⟨some 11, none, .mv, [.tmp 35]⟩])) (
            .skip))) (
          .seq (
           .reg [11, 9, 7, 2, 1, 0, 10] false [⟨some 37, none, .mv, [.tmp 0]⟩,
             ⟨some 38, none, .mv, [.tmp 1]⟩,
             ⟨some 39, none, .call f_sort_Sort true, [.tmp 37, .tmp 38]⟩,
             ⟨some 36, none, .mv, [.tmp 39]⟩,
             ⟨some 40, none, .extract 0, [.tmp 36]⟩,
             ⟨some 41, none, .extract 1, [.tmp 36]⟩,
             ⟨some 12, none, .mv, [.tmp 40]⟩,
             ⟨some 8, none, .mv, [.tmp 41]⟩]) (
           .seq (
            .reg [11, 9, 7, 2, 1, 0, 10, 12, 8] false [⟨some 42, none, .mv, [.tmp 8]⟩,
              ⟨some 43, none, .mv, [.tmp 7]⟩,
              ⟨some 44, none, .call f_sccsame_Error true, [.tmp 42, .tmp 43]⟩,
              ⟨some 13, none, .mv, [.tmp 44]⟩]) (
            .seq (
             .reg [11, 13, 9, 7, 2, 1, 0, 10, 12] false [⟨some 45, none, .mv, [.tmp 12]⟩,
               ⟨some 46, none, .mv, [.tmp 10]⟩,
               ⟨some 47, none, .call f_sccsame_Ints true, [.tmp 45, .tmp 46]⟩,
               ⟨some 14, none, .mv, [.tmp 47]⟩]) (
             .seq (
              .reg [11, 14, 13, 9, 7, 2, 1, 0] false [⟨some 49, none, .mv, [.tmp 0]⟩,
                ⟨some 50, none, .mv, [.tmp 1]⟩,
                ⟨some 51, none, .mv, [.tmp 2]⟩,
                ⟨some 52, none, .call f_sort_Sorted true, [.tmp 49, .tmp 50, .tmp 51]⟩,
                ⟨some 48, none, .mv, [.tmp 52]⟩,
                ⟨some 53, none, .extract 0, [.tmp 48]⟩,
                ⟨some 54, none, .extract 1, [.tmp 48]⟩,
                ⟨some 15, none, .mv, [.tmp 53]⟩,
                ⟨some 8, none, .mv, [.tmp 54]⟩]) (
              .seq (
               .reg [11, 15, 14, 13, 9, 7, 8] false [⟨some 55, none, .mv, [.tmp 8]⟩,
                 ⟨some 56, none, .mv, [.tmp 7]⟩,
                 ⟨some 57, none, .call f_sccsame_Error true, [.tmp 55, .tmp 56]⟩,
                 ⟨some 16, none, .mv, [.tmp 57]⟩]) (
               .seq (
                .reg [11, 15, 14, 16, 13, 9] false [⟨some 58, none, .mv, [.tmp 9]⟩,
                  ⟨some 59, none, .mv, [.tmp 58]⟩,
                  ⟨some 60, some (59, true), .mv, [.tmp 13]⟩,
                  ⟨some 61, none, .pick, [.tmp 59, .tmp 60, .const (.bool false)]⟩,
                  ⟨some 62, none, .mv, [.tmp 61]⟩,
                  ⟨some 63, some (62, true), .mv, [.tmp 16]⟩,
                  ⟨some 64, none, .pick, [.tmp 62, .tmp 63, .const (.bool false)]⟩,
                  ⟨some 65, none, .mv, [.tmp 64]⟩,
                  ⟨some 66, some (65, true), .mv, [.tmp 14]⟩,
                  ⟨some 67, none, .pick, [.tmp 65, .tmp 66, .const (.bool false)]⟩,
                  ⟨some 68, none, .mv, [.tmp 67]⟩,
                  ⟨some 69, some (68, true), .mv, [.tmp 15]⟩,
                  ⟨some 70, some (68, true), .mv, [.tmp 11]⟩,
                  ⟨some 71, some (68, true), .eqb false, [.tmp 69, .tmp 70]⟩,
                  ⟨some 72, none, .pick, [.tmp 68, .tmp 71, .const (.bool false)]⟩,
                  ⟨some 6, none, .mv, [.tmp 72]⟩]) (
                .ret))))))))))))))
def a_scclaw3_SortRows : AF := { results := [.tmp 6], body := b_scclaw3_SortRows }

/- sccsettle/scclaw4.CsvBack, 2 params, 0 free: [] -/
def b_scclaw4_CsvBack : AC :=
  .seq (
   .reg [1, 0] false [⟨some 4, none, .mv, [.const (.bool false)]⟩]) (
   .seq (
    .reg [1, 0] false [⟨some 21, none, .bslice 1, [.const (.str [97, 44, 98]), .const (.str [99])]⟩,
      ⟨some 22, none, .bslice 1, [.tmp 21]⟩,
      ⟨some 23, none, .call f_csv_Write true, [.tmp 22]⟩,
      ⟨some 20, none, .mv, [.tmp 23]⟩,
      ⟨some 24, none, .extract 0, [.tmp 20]⟩,
      ⟨some 25, none, .extract 1, [.tmp 20]⟩,
      ⟨some 5, none, .mv, [.tmp 24]⟩,
      ⟨some 6, none, .mv, [.tmp 25]⟩]) (
    .seq (
     .seq (
      .reg [1, 0, 5, 6] false [⟨some 26, none, .mv, [.tmp 6]⟩,
        ⟨some 27, none, .eqn .iface true true, [.tmp 26, .const (.nili)]⟩,
        ⟨some 28, none, .mv, [.tmp 27]⟩,
        ⟨some 29, some (28, false), .mv, [.tmp 5]⟩,
        ⟨some 30, some (28, false), .bin .neq, [.tmp 29, .const (.str [34, 97, 44, 98, 34, 44, 99, 10])]⟩,
        ⟨some 31, none, .pick, [.tmp 28, .const (.bool true), .tmp 30]⟩]) (
      .cond (.tmp 31) (
       .seq (
        .reg [] false [⟨some 4, none, .mv, [.const (.bool false)]⟩]) (
        .ret)) (
       .skip))) (
     .seq (
      .reg [1, 0] false [⟨some 33, none, .mv, [.tmp 0]⟩,
        ⟨some 34, none, .call f_csv_Write true, [.tmp 33]⟩,
        ⟨some 32, none, .mv, [.tmp 34]⟩,
        ⟨some 35, none, .extract 0, [.tmp 32]⟩,
        ⟨some 36, none, .extract 1, [.tmp 32]⟩,
        ⟨some 7, none, .mv, [.tmp 35]⟩,
        ⟨some 8, none, .mv, [.tmp 36]⟩]) (
      .seq (
       .seq (
        .reg [1, 0, 7, 8] false [⟨some 37, none, .mv, [.tmp 8]⟩,
          ⟨some 38, none, .eqn .iface false true, [.tmp 37, .const (.nili)]⟩]) (
        .cond (.tmp 38) (
         .seq (
          .reg [1, 0, 7] false [⟨some 40, none, .mv, [.tmp 7]⟩,
            ⟨some 41, none, .call f_csv_Read true, [.tmp 40]⟩,
            ⟨some 39, none, .mv, [.tmp 41]⟩,
            ⟨some 42, none, .extract 0, [.tmp 39]⟩,
            ⟨some 43, none, .extract 1, [.tmp 39]⟩,
            ⟨some 44, none, .extract 2, [.tmp 39]⟩,
            ⟨some 9, none, .mv, [.tmp 42]⟩,
            ⟨some 10, none, .mv, [.tmp 43]⟩,
            ⟨some 11, none, .mv, [.tmp 44]⟩]) (
          .seq (
           .reg [1, 11, 0, 9] false [⟨some 45, none, .mv, [.tmp 9]⟩,
             ⟨some 46, none, .mv, [.tmp 0]⟩,
             ⟨some 47, none, .call f_sccsame_Rows true, [.tmp 45, .tmp 46]⟩,
             ⟨some 12, none, .mv, [.tmp 47]⟩]) (
           .seq (
            .reg [1, 12, 11] false [⟨some 48, none, .mv, [.tmp 11]⟩,
              ⟨some 49, none, .eqn .iface true true, [.tmp 48, .const (.nili)]⟩,
              ⟨some 50, none, .mv, [.tmp 49]⟩,
              ⟨some 51, some (50, false), .mv, [.tmp 12]⟩,
              ⟨some 52, some (50, false), .un .not, [.tmp 51]⟩,
              ⟨some 53, none, .pick, [.tmp 50, .const (.bool true), .tmp 52]⟩]) (
            .cond (.tmp 53) (
             .seq (
              .reg [] false [⟨some 4, none, .mv, [.const (.bool false)]⟩]) (
              .ret)) (
             .skip))))) (
         .skip))) (
       .seq (
        .reg [1] false [⟨some 55, none, .mv, [.tmp 1]⟩,
          ⟨some 56, none, .call f_csv_Read true, [.tmp 55]⟩,
          ⟨some 54, none, .mv, [.tmp 56]⟩,
          ⟨some 57, none, .extract 0, [.tmp 54]⟩,
          ⟨some 58, none, .extract 1, [.tmp 54]⟩,
          ⟨some 59, none, .extract 2, [.tmp 54]⟩,
          ⟨some 13, none, .mv, [.tmp 57]⟩,
          ⟨some 14, none, .mv, [.tmp 58]⟩,
          ⟨some 15, none, .mv, [.tmp 59]⟩]) (
        .seq (
         .seq (
          .reg [13, 15] false [⟨some 60, none, .mv, [.tmp 15]⟩,
            ⟨some 61, none, .eqn .iface true true, [.tmp 60, .const (.nili)]⟩]) (
          .cond (.tmp 61) (
           .seq (
            .reg [] false [⟨some 4, none, .mv, [.const (.bool true)]⟩]) (
            .ret)) (
           .skip))) (
         .seq (
          .reg [13] false [⟨some 63, none, .mv, [.tmp 13]⟩,
            ⟨some 64, none, .call f_csv_Write true, [.tmp 63]⟩,
            ⟨some 62, none, .mv, [.tmp 64]⟩,
            ⟨some 65, none, .extract 0, [.tmp 62]⟩,
            ⟨some 66, none, .extract 1, [.tmp 62]⟩,
            ⟨some 16, none, .mv, [.tmp 65]⟩,
            ⟨some 8, none, .mv, [.tmp 66]⟩]) (
          .seq (
           .seq (
            .reg [13, 16, 8] false [⟨some 67, none, .mv, [.tmp 8]⟩,
              ⟨some 68, none, .eqn .iface true true, [.tmp 67, .const (.nili)]⟩]) (
            .cond (.tmp 68) (
             .seq (
              .reg [] false [⟨some 4, none, .mv, [.const (.bool true)]⟩]) (
              .ret)) (
             .skip))) (
           .seq (
            .reg [13, 16] false [⟨some 70, none, .mv, [.tmp 16]⟩,
              ⟨some 71, none, .call f_csv_Read true, [.tmp 70]⟩,
              ⟨some 69, none, .mv, [.tmp 71]⟩,
              ⟨some 72, none, .extract 0, [.tmp 69]⟩,
              ⟨some 73, none, .extract 1, [.tmp 69]⟩,
              ⟨some 74, none, .extract 2, [.tmp 69]⟩,
              ⟨some 17, none, .mv, [.tmp 72]⟩,
              ⟨some 18, none, .mv, [.tmp 73]⟩,
              ⟨some 15, none, .mv, [.tmp 74]⟩]) (
            .seq (
             .reg [15, 17, 13] false [⟨some 75, none, .mv, [.tmp 13]⟩,
               ⟨some 76, none, .mv, [.tmp 17]⟩,
               ⟨some 77, none, .call f_sccsame_Rows true, [.tmp 75, .tmp 76]⟩,
               ⟨some 19, none, .mv, [.tmp 77]⟩]) (
             .seq (
              .reg [19, 15] false [⟨some 78, none, .mv, [.tmp 15]⟩,
                ⟨some 79, none, .eqn .iface false true, [.tmp 78, .const (.nili)]⟩,
                ⟨some 80, none, .mv, [.tmp 79]⟩,
                ⟨some 81, some (80, true), .mv, [.tmp 19]⟩,
                ⟨some 82, none, .pick, [.tmp 80, .tmp 81, .const (.bool false)]⟩,
                ⟨some 4, none, .mv, [.tmp 82]⟩]) (
              .ret))))))))))))
def a_scclaw4_CsvBack : AF := { results := [.tmp 4], body := b_scclaw4_CsvBack }

/- sccsettle/scclaw3.CsvWrites, 1 params, 0 free: [] -/
def b_scclaw3_CsvWrites : AC :=
  .seq (
   .reg [0] false [⟨some 2, none, .mv, [.const (.bool false)]⟩]) (
   .seq (
    .reg [0] false [⟨some 9, none, .mv, [.tmp 0]⟩,
      ⟨some 10, none, .call f_sccref3_Csv true, [.tmp 9]⟩,
      ⟨some 8, none, .mv, [.tmp 10]⟩,
      ⟨some 11, none, .extract 0, [.tmp 8]⟩,
      ⟨some 12, none, .extract 1, [.tmp 8]⟩,
      ⟨some 3, none, .mv, [.tmp 11]⟩,
      ⟨some 4, none, .mv, [.tmp 12]⟩]) (
    .seq (
     .reg [3, 4, 0] false [⟨some 14, none, .mv, [.tmp 0]⟩,
       ⟨some 15, none, .call f_csv_Write true, [.tmp 14]⟩,
       ⟨some 13, none, .mv, [.tmp 15]⟩,
       ⟨some 16, none, .extract 0, [.tmp 13]⟩,
       ⟨some 17, none, .extract 1, [.tmp 13]⟩,
       ⟨some 5, none, .mv, [.tmp 16]⟩,
       ⟨some 6, none, .mv, [.tmp 17]⟩]) (
     .seq (
      .reg [3, 5, 4, 6] false [⟨some 18, none, .mv, [.tmp 6]⟩,
        ⟨some 19, none, .mv, [.tmp 4]⟩,
        ⟨some 20, none, .call f_sccsame_Error true, [.tmp 18, .tmp 19]⟩,
        ⟨some 7, none, .mv, [.tmp 20]⟩]) (
      .seq (
       .reg [3, 5, 7] false [⟨some 21, none, .mv, [.tmp 7]⟩,
         ⟨some 22, none, .mv, [.tmp 21]⟩,
         ⟨some 23, some (22, true), .mv, [.tmp 5]⟩,
         ⟨some 24, some (22, true), .mv, [.tmp 3]⟩,
         ⟨some 25, some (22, true), .bin .eql, [.tmp 23, .tmp 24]⟩,
         ⟨some 26, none, .pick, [.tmp 22, .tmp 25, .const (.bool false)]⟩,
         ⟨some 2, none, .mv, [.tmp 26]⟩]) (
       .ret)))))
def a_scclaw3_CsvWrites : AF := { results := [.tmp 2], body := b_scclaw3_CsvWrites }

/- sccsettle/sccref3.Masks, 1 params, 0 free: [] -/
/- a loop's body; at its head: [5, 4, 0] -/
def b_sccref3_Masks_0 : AC :=
  .seq (
   .seq (
    .reg [0, 5, 4] false [⟨some 6, none, .mv, [.tmp 5]⟩,
      ⟨some 7, none, .mv, [.tmp 0]⟩,
      ⟨some 8, none, .len true, [.tmp 7]⟩,
      ⟨some 9, none, .bin .lss, [.tmp 6, .tmp 8]⟩]) (
    .cond (.tmp 9) (
     .skip) (
     .exit 0))) (
   .seq (
    .block 1 [4, 0, 5] (
     .seq (
      .reg [0, 5, 4] false [⟨some 12, none, .mv, [.tmp 0]⟩,
        ⟨some 13, none, .mv, [.tmp 5]⟩,
        ⟨some 14, none, .idxStr, [.tmp 12, .tmp 13]⟩]) (
      .block 2 [4, 0, 5] (
       .seq (
        .reg [0, 5, 4, 14] false [⟨some 23, none, .bin .eql, [.tmp 14, .const (.int .u8 42)]⟩,
          ⟨some 22, none, .mv, [.tmp 23]⟩]) (
        .cond (.tmp 22) (
         .reg [0, 5, 4] false [⟨some 24, none, .mv, [.tmp 4]⟩,
           ⟨some 25, none, .build [.int .i64 0, .int .u8 0] [(0, 1)], [.const (.int .i64 1)]⟩,
           ⟨some 26, none, .bslice 2, [.tmp 25]⟩,
           ⟨some 27, none, .append 2 16, [.tmp 24, .tmp 26]⟩,
           ⟨some 4, none, .mv, [.tmp 27]⟩]) (
         .seq (
          .reg [0, 5, 4, 14] false [⟨some 29, none, .bin .eql, [.tmp 14, .const (.int .u8 63)]⟩,
            ⟨some 28, none, .mv, [.tmp 29]⟩]) (
          .cond (.tmp 28) (
           .reg [0, 5, 4] false [⟨some 30, none, .mv, [.tmp 4]⟩,
             ⟨some 31, none, .build [.int .i64 0, .int .u8 0] [(0, 1)], [.const (.int .i64 2)]⟩,
             ⟨some 32, none, .bslice 2, [.tmp 31]⟩,
             ⟨some 33, none, .append 2 16, [.tmp 30, .tmp 32]⟩,
             ⟨some 4, none, .mv, [.tmp 33]⟩]) (
           .seq (
            .reg [0, 4, 5, 14] false [⟨some 35, none, .bin .eql, [.tmp 14, .const (.int .u8 126)]⟩,
              ⟨some 34, none, .mv, [.tmp 35]⟩]) (
            .cond (.tmp 34) (
             .seq (
              .reg [0, 4, 5] false [⟨some 36, none, .mv, [.tmp 5]⟩,
                ⟨some 37, none, .bin .add, [.tmp 36, .const (.int .i64 1)]⟩,
                ⟨some 5, none, .mv, [.tmp 37]⟩]) (
              .seq (
               .seq (
                .reg [0, 5, 4] false [⟨some 38, none, .mv, [.tmp 5]⟩,
                  ⟨some 39, none, .mv, [.tmp 0]⟩,
                  ⟨some 40, none, .len true, [.tmp 39]⟩,
                  ⟨some 41, none, .bin .eql, [.tmp 38, .tmp 40]⟩]) (
                .cond (.tmp 41) (
                 .seq (
                  .reg [] false [⟨some 2, none, .mv, [.const (.lst (some true) 0 [])]⟩,
                    ⟨some 3, none, .mv, [.const (.bool false)]⟩]) (
                  .ret)) (
                 .skip))) (
               .reg [0, 5, 4] false [⟨some 42, none, .mv, [.tmp 4]⟩,
                 ⟨some 43, none, .mv, [.tmp 0]⟩,
                 ⟨some 44, none, .mv, [.tmp 5]⟩,
                 ⟨some 45, none, .idxStr, [.tmp 43, .tmp 44]⟩,
                 ⟨some 46, none, .build [.int .i64 0, .int .u8 0] [(1, 1)], [.tmp 45]⟩,
                 ⟨some 47, none, .bslice 2, [.tmp 46]⟩,
                 ⟨some 48, none, .append 2 16, [.tmp 42, .tmp 47]⟩,
                 ⟨some 4, none, .mv, [.tmp 48]⟩]))) (
             .reg [0, 5, 4] false [⟨some 15, none, .mv, [.tmp 4]⟩,
               ⟨some 16, none, .mv, [.tmp 0]⟩,
               ⟨some 17, none, .mv, [.tmp 5]⟩,
               ⟨some 18, none, .idxStr, [.tmp 16, .tmp 17]⟩,
               ⟨some 19, none, .build [.int .i64 0, .int .u8 0] [(1, 1)], [.tmp 18]⟩,
               ⟨some 20, none, .bslice 2, [.tmp 19]⟩,
               ⟨some 21, none, .append 2 16, [.tmp 15, .tmp 20]⟩,
               ⟨some 4, none, .mv, [.tmp 21]⟩])))))))))) (
    .reg [4, 0, 5] false [⟨some 10, none, .mv, [.tmp 5]⟩,
      ⟨some 11, none, .bin .add, [.tmp 10, .const (.int .i64 1)]⟩,
      ⟨some 5, none, .mv, [.tmp 11]⟩]))

def b_sccref3_Masks : AC :=
  .seq (
   .reg [0] false [⟨some 2, none, .mv, [.const (.lst (some true) 0 [])]⟩,
     ⟨some 3, none, .mv, [.const (.bool false)]⟩]) (
   .seq (
    .reg [0] false [⟨some 4, none, .mv, [.const (.lst (some true) 0 [])]⟩]) (
    .seq (
     .seq (
      .reg [4, 0] false [⟨some 5, none, .mv, [.const (.int .i64 0)]⟩]) (
      .block 0 [4] (
       .loop [5, 4, 0] b_sccref3_Masks_0))) (
     .seq (
      .reg [4] false [⟨some 49, none, .mv, [.tmp 4]⟩,
        ⟨some 2, none, .mv, [.tmp 49]⟩,
        ⟨some 3, none, .mv, [.const (.bool true)]⟩]) (
      .ret))))
def a_sccref3_Masks : AF := { results := [.tmp 2, .tmp 3], body := b_sccref3_Masks }

/- sccsettle/sccref3.Like, 2 params, 0 free: [] -/
/- a loop's body; at its head: [8, 7, 0, 5, 6, 1] -/
def b_sccref3_Like_0 : AC :=
  .seq (
   .seq (
    .reg [7, 0, 5, 6, 1, 8] false [⟨some 30, none, .mv, [.tmp 8]⟩,
      ⟨some 31, none, .bin .geq, [.tmp 30, .const (.int .i64 0)]⟩]) (
    .cond (.tmp 31) (
     .skip) (
     .exit 2))) (
   .seq (
    .block 3 [7, 0, 5, 6, 1, 8] (
     .seq (
      .reg [7, 0, 5, 6, 1, 8] false [⟨some 34, none, .mv, [.tmp 1]⟩,
        ⟨some 35, none, .mv, [.tmp 6]⟩,
        ⟨some 36, none, .idxAddr 2, [.tmp 34, .tmp 35]⟩,
        ⟨some 37, none, .fieldAddr 0, [.tmp 36]⟩,
        ⟨some 38, none, .load 1 false, [.tmp 37]⟩,
        ⟨some 39, none, .bin .eql, [.tmp 38, .const (.int .i64 1)]⟩]) (
      .cond (.tmp 39) (
       .reg [7, 0, 5, 6, 1, 8] false [⟨some 40, none, .mv, [.tmp 7]⟩,
         ⟨some 41, none, .mv, [.tmp 8]⟩,
         ⟨some 42, none, .mv, [.tmp 5]⟩,
         ⟨some 43, none, .mv, [.tmp 8]⟩,
         ⟨some 44, none, .idxAddr 1, [.tmp 42, .tmp 43]⟩,
         ⟨some 45, none, .load 1 false, [.tmp 44]⟩,
         ⟨some 46, none, .mv, [.tmp 45]⟩,
         ⟨some 47, some (46, false), .mv, [.tmp 8]⟩,
         ⟨some 48, some (46, false), .mv, [.tmp 0]⟩,
         ⟨some 49, some (46, false), .len true, [.tmp 48]⟩,
         ⟨some 50, some (46, false), .bin .lss, [.tmp 47, .tmp 49]⟩,
         ⟨some 51, some (46, false), .mv, [.tmp 50]⟩,
         ⟨some 52, some (51, true), .mv, [.tmp 7]⟩,
         ⟨some 53, some (51, true), .mv, [.tmp 8]⟩,
         ⟨some 54, some (51, true), .bin .add, [.tmp 53, .const (.int .i64 1)]⟩,
         ⟨some 55, some (51, true), .idxAddr 1, [.tmp 52, .tmp 54]⟩,
         ⟨some 56, some (51, true), .load 1 false, [.tmp 55]⟩,
         ⟨some 57, some (46, false), .pick, [.tmp 51, .tmp 56, .const (.bool false)]⟩,
         ⟨some 58, none, .pick, [.tmp 46, .const (.bool true), .tmp 57]⟩,
         ⟨some 59, none, .idxAddr 1, [.tmp 40, .tmp 41]⟩,
         ⟨none, none, .store 1, [.tmp 59, .tmp 58]⟩]) (
       .seq (
        .reg [7, 0, 5, 6, 1, 8] true [⟨some 60, none, .mv, [.tmp 8]⟩,
          ⟨some 61, none, .mv, [.tmp 0]⟩,
          ⟨some 62, none, .len true, [.tmp 61]⟩,
          ⟨some 63, none, .bin .lss, [.tmp 60, .tmp 62]⟩,
          ⟨some 64, none, .mv, [.tmp 63]⟩,
          ⟨some 65, some (64, true), .mv, [.tmp 1]⟩,
          ⟨some 66, some (64, true), .mv, [.tmp 6]⟩,
          ⟨some 67, some (64, true), .idxAddr 2, [.tmp 65, .tmp 66]⟩,
          ⟨some 68, some (64, true), .fieldAddr 0, [.tmp 67]⟩,
          ⟨some 69, some (64, true), .load 1 false, [.tmp 68]⟩,
          ⟨some 70, some (64, true), .bin .eql, [.tmp 69, .const (.int .i64 2)]⟩,
          ⟨some 71, some (64, true), .mv, [.tmp 70]⟩,
          ⟨some 72, some (71, false), .mv, [.tmp 1]⟩,
          ⟨some 73, some (71, false), .mv, [.tmp 6]⟩,
          ⟨some 74, some (71, false), .idxAddr 2, [.tmp 72, .tmp 73]⟩,
          ⟨some 75, some (71, false), .fieldAddr 1, [.tmp 74]⟩,
          ⟨some 76, some (71, false), .load 1 false, [.tmp 75]⟩,
          ⟨some 77, some (71, false), .mv, [.tmp 0]⟩,
          ⟨some 78, some (71, false), .mv, [.tmp 8]⟩,
          ⟨some 79, some (71, false), .idxStr, [.tmp 77, .tmp 78]⟩,
          ⟨some 80, some (71, false), .bin .eql, [.tmp 76, .tmp 79]⟩,
          ⟨some 81, some (64, true), .pick, [.tmp 71, .const (.bool true), .tmp 80]⟩,
          ⟨some 82, none, .pick, [.tmp 64, .tmp 81, .const (.bool false)]⟩]) (
        .cond (.tmp 82) (
         .reg [7, 0, 5, 6, 1, 8] false [⟨some 83, none, .mv, [.tmp 7]⟩,
           ⟨some 84, none, .mv, [.tmp 8]⟩,
           ⟨some 85, none, .mv, [.tmp 5]⟩,
           ⟨some 86, none, .mv, [.tmp 8]⟩,
           ⟨some 87, none, .bin .add, [.tmp 86, .const (.int .i64 1)]⟩,
           ⟨some 88, none, .idxAddr 1, [.tmp 85, .tmp 87]⟩,
           ⟨some 89, none, .load 1 false, [.tmp 88]⟩,
           ⟨some 90, none, .idxAddr 1, [.tmp 83, .tmp 84]⟩,
           ⟨none, none, .store 1, [.tmp 90, .tmp 89]⟩]) (
         .skip)))))) (
    .reg [7, 0, 5, 6, 1, 8] false [⟨some 32, none, .mv, [.tmp 8]⟩,
      ⟨some 33, none, .bin .sub, [.tmp 32, .const (.int .i64 1)]⟩,
      ⟨some 8, none, .mv, [.tmp 33]⟩]))

/- a loop's body; at its head: [0, 5, 6, 1] -/
def b_sccref3_Like_1 : AC :=
  .seq (
   .seq (
    .reg [0, 5, 6, 1] false [⟨some 20, none, .mv, [.tmp 6]⟩,
      ⟨some 21, none, .bin .geq, [.tmp 20, .const (.int .i64 0)]⟩]) (
    .cond (.tmp 21) (
     .skip) (
     .exit 0))) (
   .seq (
    .block 1 [0, 5, 1, 6] (
     .seq (
      .reg [0, 5, 6, 1] false [⟨some 24, none, .mv, [.tmp 0]⟩,
        ⟨some 25, none, .len true, [.tmp 24]⟩,
        ⟨some 26, none, .bin .add, [.tmp 25, .const (.int .i64 1)]⟩,
        ⟨some 27, none, .make 1 1 (.bool false), [.tmp 26, .tmp 26]⟩,
        ⟨some 7, none, .mv, [.tmp 27]⟩]) (
      .seq (
       .seq (
        .reg [7, 0, 5, 6, 1] false [⟨some 28, none, .mv, [.tmp 0]⟩,
          ⟨some 29, none, .len true, [.tmp 28]⟩,
          ⟨some 8, none, .mv, [.tmp 29]⟩]) (
        .block 2 [0, 1, 6, 7] (
         .loop [8, 7, 0, 5, 6, 1] b_sccref3_Like_0))) (
       .reg [0, 1, 6, 7] false [⟨some 91, none, .mv, [.tmp 7]⟩,
         ⟨some 5, none, .mv, [.tmp 91]⟩])))) (
    .reg [0, 5, 1, 6] false [⟨some 22, none, .mv, [.tmp 6]⟩,
      ⟨some 23, none, .bin .sub, [.tmp 22, .const (.int .i64 1)]⟩,
      ⟨some 6, none, .mv, [.tmp 23]⟩]))

def b_sccref3_Like : AC :=
  .seq (
   .reg [0, 1] false [⟨some 4, none, .mv, [.const (.bool false)]⟩]) (
   .seq (
    .reg [0, 1] false [⟨some 9, none, .mv, [.tmp 0]⟩,
      ⟨some 10, none, .len true, [.tmp 9]⟩,
      ⟨some 11, none, .bin .add, [.tmp 10, .const (.int .i64 1)]⟩,
      ⟨some 12, none, .make 1 1 (.bool false), [.tmp 11, .tmp 11]⟩,
      ⟨some 5, none, .mv, [.tmp 12]⟩]) (
    .seq (
     .reg [0, 5, 1] false [⟨some 13, none, .mv, [.tmp 5]⟩,
       ⟨some 14, none, .mv, [.tmp 0]⟩,
       ⟨some 15, none, .len true, [.tmp 14]⟩,
       ⟨some 16, none, .idxAddr 1, [.tmp 13, .tmp 15]⟩,
       ⟨none, none, .store 1, [.tmp 16, .const (.bool true)]⟩]) (
     .seq (
      .seq (
       .reg [0, 5, 1] false [⟨some 17, none, .mv, [.tmp 1]⟩,
         ⟨some 18, none, .len false, [.tmp 17]⟩,
         ⟨some 19, none, .bin .sub, [.tmp 18, .const (.int .i64 1)]⟩,
         ⟨some 6, none, .mv, [.tmp 19]⟩]) (
       .block 0 [5] (
        .loop [0, 5, 6, 1] b_sccref3_Like_1))) (
      .seq (
       .reg [5] false [⟨some 92, none, .mv, [.tmp 5]⟩,
         ⟨some 93, none, .idxAddr 1, [.tmp 92, .const (.int .i64 0)]⟩,
         ⟨some 94, none, .load 1 false, [.tmp 93]⟩,
         ⟨some 4, none, .mv, [.tmp 94]⟩]) (
       .ret)))))
def a_sccref3_Like : AF := { results := [.tmp 4], body := b_sccref3_Like }

/- sccsettle/find.Like, 2 params, 0 free: [] -/
/- a loop's body; at its head: [45, 8, 6, 10, 0, 1, 7, 44] -/
def b_find_Like_0 : AC :=
  .seq (
   .reg [8, 6, 0, 1, 7, 44, 45, 10] false [⟨some 46, none, .bin .lss, [.tmp 45, .tmp 44]⟩]) (
   .seq (
    .cond (.tmp 46) (
     .skip) (
     .exit 2)) (
    .seq (
     .block 3 [8, 6, 10, 0, 1, 7, 44, 45] (
      .seq (
       .reg [8, 6, 0, 1, 7, 44, 45, 10] false [⟨some 47, none, .mv, [.tmp 45]⟩,
         ⟨some 11, none, .mv, [.tmp 47]⟩]) (
       .seq (
        .reg [8, 6, 0, 1, 7, 44, 45, 11, 10] false [⟨some 48, none, .mv, [.tmp 10]⟩,
          ⟨some 49, none, .mv, [.tmp 48]⟩,
          ⟨some 50, some (49, false), .mv, [.tmp 6]⟩,
          ⟨some 51, some (49, false), .mv, [.tmp 11]⟩,
          ⟨some 52, some (49, false), .idxAddr 1, [.tmp 50, .tmp 51]⟩,
          ⟨some 53, some (49, false), .load 1 false, [.tmp 52]⟩,
          ⟨some 54, none, .pick, [.tmp 49, .const (.bool true), .tmp 53]⟩,
          ⟨some 10, none, .mv, [.tmp 54]⟩]) (
        .reg [8, 6, 10, 0, 1, 7, 44, 45, 11] false [⟨some 55, none, .mv, [.tmp 8]⟩,
          ⟨some 56, none, .mv, [.tmp 11]⟩,
          ⟨some 57, none, .mv, [.tmp 10]⟩,
          ⟨some 58, none, .idxAddr 1, [.tmp 55, .tmp 56]⟩,
          ⟨none, none, .store 1, [.tmp 58, .tmp 57]⟩])))) (
     .reg [8, 6, 10, 0, 1, 7, 44, 45] false [⟨some 59, none, .bin .add, [.tmp 45, .const (.int .i64 1)]⟩,
       ⟨some 45, none, .mv, [.tmp 59]⟩])))

/- a loop's body; at its head: [77, 9, 0, 12, 6, 8, 1, 7, 76] -/
def b_find_Like_1 : AC :=
  .seq (
   .reg [9, 0, 12, 6, 8, 1, 7, 76, 77] false [⟨some 78, none, .bin .lss, [.tmp 77, .tmp 76]⟩]) (
   .seq (
    .cond (.tmp 78) (
     .skip) (
     .exit 4)) (
    .seq (
     .block 5 [9, 0, 12, 6, 8, 1, 7, 76, 77] (
      .seq (
       .reg [9, 0, 12, 6, 8, 1, 7, 76, 77] false [⟨some 79, none, .mv, [.tmp 77]⟩,
         ⟨some 13, none, .mv, [.tmp 79]⟩]) (
       .reg [9, 0, 12, 6, 8, 1, 7, 76, 77, 13] false [⟨some 80, none, .mv, [.tmp 8]⟩,
         ⟨some 81, none, .mv, [.tmp 13]⟩,
         ⟨some 82, none, .bin .add, [.tmp 81, .const (.int .i64 1)]⟩,
         ⟨some 83, none, .mv, [.tmp 6]⟩,
         ⟨some 84, none, .mv, [.tmp 13]⟩,
         ⟨some 85, none, .idxAddr 1, [.tmp 83, .tmp 84]⟩,
         ⟨some 86, none, .load 1 false, [.tmp 85]⟩,
         ⟨some 87, none, .mv, [.tmp 86]⟩,
         ⟨some 88, some (87, true), .mv, [.tmp 12]⟩,
         ⟨some 89, some (87, true), .mv, [.tmp 88]⟩,
         ⟨some 90, some (89, false), .mv, [.tmp 0]⟩,
         ⟨some 91, some (89, false), .mv, [.tmp 13]⟩,
         ⟨some 92, some (89, false), .idxStr, [.tmp 90, .tmp 91]⟩,
         ⟨some 93, some (89, false), .mv, [.tmp 9]⟩,
         ⟨some 94, some (89, false), .bin .eql, [.tmp 92, .tmp 93]⟩,
         ⟨some 95, some (87, true), .pick, [.tmp 89, .const (.bool true), .tmp 94]⟩,
         ⟨some 96, none, .pick, [.tmp 87, .tmp 95, .const (.bool false)]⟩,
         ⟨some 97, none, .idxAddr 1, [.tmp 80, .tmp 82]⟩,
         ⟨none, none, .store 1, [.tmp 97, .tmp 96]⟩]))) (
     .reg [9, 0, 12, 6, 8, 1, 7, 76, 77] false [⟨some 98, none, .bin .add, [.tmp 77, .const (.int .i64 1)]⟩,
       ⟨some 77, none, .mv, [.tmp 98]⟩])))

/- a loop's body; at its head: [6, 7, 0, 1] -/
def b_find_Like_2 : AC :=
  .seq (
   .seq (
    .reg [6, 0, 1, 7] false [⟨some 29, none, .mv, [.tmp 7]⟩,
      ⟨some 30, none, .mv, [.tmp 1]⟩,
      ⟨some 31, none, .len true, [.tmp 30]⟩,
      ⟨some 32, none, .bin .lss, [.tmp 29, .tmp 31]⟩]) (
    .cond (.tmp 32) (
     .skip) (
     .exit 0))) (
   .seq (
    .block 1 [6, 0, 1, 7] (
     .seq (
      .reg [6, 0, 1, 7] false [⟨some 35, none, .mv, [.tmp 6]⟩,
        ⟨some 36, none, .len false, [.tmp 35]⟩,
        ⟨some 37, none, .make 1 1 (.bool false), [.tmp 36, .tmp 36]⟩,
        ⟨some 8, none, .mv, [.tmp 37]⟩]) (
      .seq (
       .reg [8, 6, 0, 1, 7] false [⟨some 38, none, .mv, [.tmp 1]⟩,
         ⟨some 39, none, .mv, [.tmp 7]⟩,
         ⟨some 40, none, .idxStr, [.tmp 38, .tmp 39]⟩,
         ⟨some 9, none, .mv, [.tmp 40]⟩]) (
       .seq (
        .seq (
         .reg [8, 6, 0, 1, 7, 9] false [⟨some 41, none, .mv, [.tmp 9]⟩,
           ⟨some 42, none, .bin .eql, [.tmp 41, .const (.int .u8 42)]⟩]) (
         .cond (.tmp 42) (
          .seq (
           .reg [8, 6, 0, 1, 7] false [⟨some 10, none, .mv, [.const (.bool false)]⟩]) (
           .seq (
            .seq (
             .reg [8, 6, 10, 0, 1, 7] false [⟨some 43, none, .mv, [.tmp 6]⟩,
               ⟨some 44, none, .len false, [.tmp 43]⟩,
               ⟨some 45, none, .mv, [.const (.int .i64 0)]⟩]) (
             .block 2 [0, 1, 7, 8] (
              .loop [45, 8, 6, 10, 0, 1, 7, 44] b_find_Like_0))) (
            .seq (
             .reg [0, 1, 7, 8] false [⟨some 60, none, .mv, [.tmp 8]⟩,
               ⟨some 6, none, .mv, [.tmp 60]⟩]) (
             .exit 1)))) (
          .skip))) (
        .seq (
         .reg [0, 6, 8, 1, 7, 9] false [⟨some 61, none, .mv, [.tmp 9]⟩,
           ⟨some 62, none, .bin .eql, [.tmp 61, .const (.int .u8 63)]⟩,
           ⟨some 12, none, .mv, [.tmp 62]⟩]) (
         .seq (
          .seq (
           .reg [0, 12, 6, 8, 1, 7, 9] false [⟨some 63, none, .mv, [.tmp 9]⟩,
             ⟨some 64, none, .bin .eql, [.tmp 63, .const (.int .u8 126)]⟩]) (
           .cond (.tmp 64) (
            .seq (
             .seq (
              .reg [0, 12, 6, 8, 1, 7] false [⟨some 65, none, .mv, [.tmp 7]⟩,
                ⟨some 66, none, .bin .add, [.tmp 65, .const (.int .i64 1)]⟩,
                ⟨some 7, none, .mv, [.tmp 66]⟩]) (
              .seq (
               .reg [0, 12, 6, 8, 1, 7] false [⟨some 67, none, .mv, [.tmp 7]⟩,
                 ⟨some 68, none, .mv, [.tmp 1]⟩,
                 ⟨some 69, none, .len true, [.tmp 68]⟩,
                 ⟨some 70, none, .bin .eql, [.tmp 67, .tmp 69]⟩]) (
               .cond (.tmp 70) (
                .seq (
                 .reg [] false [⟨some 71, none, .mkIface t_api_Errno, [.const (.int .i64 2)]⟩,
                   ⟨some 4, none, .mv, [.const (.bool false)]⟩,
                   ⟨some 5, none, .mv, [.tmp 71]⟩]) (
                 .ret)) (
                .skip)))) (
             .reg [0, 12, 6, 8, 1, 7] false [⟨some 72, none, .mv, [.tmp 1]⟩,
               ⟨some 73, none, .mv, [.tmp 7]⟩,
               ⟨some 74, none, .idxStr, [.tmp 72, .tmp 73]⟩,
               ⟨some 9, none, .mv, [.tmp 74]⟩])) (
            .skip))) (
          .seq (
           .seq (
            .reg [9, 0, 12, 6, 8, 1, 7] false [⟨some 75, none, .mv, [.tmp 0]⟩,
              ⟨some 76, none, .len true, [.tmp 75]⟩,
              ⟨some 77, none, .mv, [.const (.int .i64 0)]⟩]) (
            .block 4 [0, 1, 7, 8] (
             .loop [77, 9, 0, 12, 6, 8, 1, 7, 76] b_find_Like_1))) (
           .reg [0, 1, 7, 8] false [⟨some 99, none, .mv, [.tmp 8]⟩,
             ⟨some 6, none, .mv, [.tmp 99]⟩])))))))) (
    .reg [6, 0, 1, 7] false [⟨some 33, none, .mv, [.tmp 7]⟩,
      ⟨some 34, none, .bin .add, [.tmp 33, .const (.int .i64 1)]⟩,
      ⟨some 7, none, .mv, [.tmp 34]⟩]))

def b_find_Like : AC :=
  .seq (
   .reg [0, 1] false [⟨some 4, none, .mv, [.const (.bool false)]⟩,
     ⟨some 5, none, .mv, [.const (.nili)]⟩]) (
   .seq (
    .seq (
     .reg [0, 1] false [⟨some 14, none, .mv, [.tmp 0]⟩,
       ⟨some 15, none, .len true, [.tmp 14]⟩,
       ⟨some 16, none, .bin .gtr, [.tmp 15, .const (.int .i64 200)]⟩,
       ⟨some 17, none, .mv, [.tmp 16]⟩,
       ⟨some 18, some (17, false), .mv, [.tmp 1]⟩,
       ⟨some 19, some (17, false), .len true, [.tmp 18]⟩,
       ⟨some 20, some (17, false), .bin .gtr, [.tmp 19, .const (.int .i64 200)]⟩,
       ⟨some 21, none, .pick, [.tmp 17, .const (.bool true), .tmp 20]⟩]) (
     .cond (.tmp 21) (
      .seq (
       .reg [] false [⟨some 22, none, .mkIface t_api_Errno, [.const (.int .i64 4)]⟩,
         ⟨some 4, none, .mv, [.const (.bool false)]⟩,
         ⟨some 5, none, .mv, [.tmp 22]⟩]) (
       .ret)) (
      .skip))) (
    .seq (
     .reg [0, 1] false [⟨some 23, none, .mv, [.tmp 0]⟩,
       ⟨some 24, none, .len true, [.tmp 23]⟩,
       ⟨some 25, none, .bin .add, [.tmp 24, .const (.int .i64 1)]⟩,
       ⟨some 26, none, .make 1 1 (.bool false), [.tmp 25, .tmp 25]⟩,
       ⟨some 6, none, .mv, [.tmp 26]⟩]) (
     .seq (
      .reg [6, 0, 1] false [⟨some 27, none, .mv, [.tmp 6]⟩,
        ⟨some 28, none, .idxAddr 1, [.tmp 27, .const (.int .i64 0)]⟩,
        ⟨none, none, .store 1, [.tmp 28, .const (.bool true)]⟩]) (
      .seq (
       .seq (
        .reg [6, 0, 1] false [⟨some 7, none, .mv, [.const (.int .i64 0)]⟩]) (
        .block 0 [0, 6] (
         .loop [6, 7, 0, 1] b_find_Like_2))) (
       .seq (
        .reg [0, 6] false [⟨some 100, none, .mv, [.tmp 6]⟩,
          ⟨some 101, none, .mv, [.tmp 0]⟩,
          ⟨some 102, none, .len true, [.tmp 101]⟩,
          ⟨some 103, none, .idxAddr 1, [.tmp 100, .tmp 102]⟩,
          ⟨some 104, none, .load 1 false, [.tmp 103]⟩,
          ⟨some 4, none, .mv, [.tmp 104]⟩,
          ⟨some 5, none, .mv, [.const (.nili)]⟩]) (
        .ret))))))
def a_find_Like : AF := { results := [.tmp 4, .tmp 5], body := b_find_Like }

/- sccsettle/sccsame.Error, 2 params, 0 free: [] -/
def b_sccsame_Error : AC :=
  .seq (
   .reg [1, 0] false [⟨some 4, none, .mv, [.const (.bool false)]⟩]) (
   .seq (
    .reg [1, 0] false [⟨some 6, none, .mv, [.tmp 0]⟩,
      ⟨some 7, none, .call f_plain_Told true, [.tmp 6]⟩,
      ⟨some 5, none, .mv, [.tmp 7]⟩]) (
    .seq (
     .reg [1, 5] false [⟨some 8, none, .mv, [.tmp 5]⟩,
       ⟨some 9, none, .mv, [.tmp 1]⟩,
       ⟨some 10, none, .bin .eql, [.tmp 8, .tmp 9]⟩,
       ⟨some 4, none, .mv, [.tmp 10]⟩]) (
     .ret)))
def a_sccsame_Error : AF := { results := [.tmp 4], body := b_sccsame_Error }

/- sccsettle/sccref3.Rows, 1 params, 0 free: [] -/
/- a loop's body; at its head: [10, 7, 0, 5, 6, 8, 9] -/
def b_sccref3_Rows_0 : AC :=
  .seq (
   .seq (
    .reg [0, 5, 6, 8, 9, 10, 7] false [⟨some 16, none, .mv, [.tmp 10]⟩,
      ⟨some 17, none, .mv, [.tmp 0]⟩,
      ⟨some 18, none, .len true, [.tmp 17]⟩,
      ⟨some 19, none, .bin .lss, [.tmp 16, .tmp 18]⟩]) (
    .cond (.tmp 19) (
     .skip) (
     .exit 0))) (
   .seq (
    .block 1 [7, 0, 5, 6, 8, 9, 10] (
     .seq (
      .reg [0, 5, 6, 8, 9, 10, 7] false [⟨some 22, none, .mv, [.tmp 0]⟩,
        ⟨some 23, none, .mv, [.tmp 10]⟩,
        ⟨some 24, none, .idxStr, [.tmp 22, .tmp 23]⟩,
        ⟨some 11, none, .mv, [.tmp 24]⟩]) (
      .seq (
       .seq (
        .reg [0, 5, 6, 8, 9, 10, 7, 11] false [⟨some 25, none, .mv, [.tmp 8]⟩,
          ⟨some 26, none, .bin .eql, [.tmp 25, .const (.int .i64 2)]⟩]) (
        .cond (.tmp 26) (
         .seq (
          .seq (
           .reg [0, 5, 6, 8, 9, 10, 7, 11] false [⟨some 27, none, .mv, [.tmp 11]⟩,
             ⟨some 28, none, .bin .eql, [.tmp 27, .const (.int .u8 34)]⟩,
             ⟨some 29, none, .mv, [.tmp 28]⟩,
             ⟨some 30, some (29, true), .mv, [.tmp 10]⟩,
             ⟨some 31, some (29, true), .bin .add, [.tmp 30, .const (.int .i64 1)]⟩,
             ⟨some 32, some (29, true), .mv, [.tmp 0]⟩,
             ⟨some 33, some (29, true), .len true, [.tmp 32]⟩,
             ⟨some 34, some (29, true), .bin .lss, [.tmp 31, .tmp 33]⟩,
             ⟨some 35, none, .pick, [.tmp 29, .tmp 34, .const (.bool false)]⟩,
             ⟨some 36, none, .mv, [.tmp 35]⟩,
             ⟨some 37, some (36, true), .mv, [.tmp 0]⟩,
             ⟨some 38, some (36, true), .mv, [.tmp 10]⟩,
             ⟨some 39, some (36, true), .bin .add, [.tmp 38, .const (.int .i64 1)]⟩,
             ⟨some 40, some (36, true), .idxStr, [.tmp 37, .tmp 39]⟩,
             ⟨some 41, some (36, true), .bin .eql, [.tmp 40, .const (.int .u8 34)]⟩,
             ⟨some 42, none, .pick, [.tmp 36, .tmp 41, .const (.bool false)]⟩]) (
           .cond (.tmp 42) (
            .seq (
             .reg [0, 5, 6, 8, 9, 10, 7] false [⟨some 43, none, .mv, [.tmp 7]⟩,
               ⟨some 44, none, .bslice 1, [.const (.int .u8 34)]⟩,
               ⟨some 45, none, .append 1 1, [.tmp 43, .tmp 44]⟩,
               ⟨some 7, none, .mv, [.tmp 45]⟩]) (
             .reg [7, 0, 5, 6, 8, 9, 10] false [⟨some 46, none, .mv, [.tmp 10]⟩,
               ⟨some 47, none, .bin .add, [.tmp 46, .const (.int .i64 1)]⟩,
               ⟨some 10, none, .mv, [.tmp 47]⟩])) (
            .seq (
             .reg [7, 0, 5, 6, 9, 10, 8, 11] false [⟨some 48, none, .mv, [.tmp 11]⟩,
               ⟨some 49, none, .bin .eql, [.tmp 48, .const (.int .u8 34)]⟩]) (
             .cond (.tmp 49) (
              .reg [7, 0, 5, 6, 9, 10] false [⟨some 8, none, .mv, [.const (.int .i64 3)]⟩]) (
              .reg [0, 5, 6, 8, 9, 10, 11, 7] false [⟨some 50, none, .mv, [.tmp 7]⟩,
                ⟨some 51, none, .mv, [.tmp 11]⟩,
                ⟨some 52, none, .bslice 1, [.tmp 51]⟩,
                ⟨some 53, none, .append 1 1, [.tmp 50, .tmp 52]⟩,
                ⟨some 7, none, .mv, [.tmp 53]⟩]))))) (
          .exit 1)) (
         .skip))) (
       .seq (
        .reg [0, 10, 11, 5, 7, 6, 8] false [⟨some 54, none, .mv, [.tmp 11]⟩,
          ⟨some 55, none, .bin .eql, [.tmp 54, .const (.int .u8 10)]⟩,
          ⟨some 56, none, .mv, [.tmp 55]⟩,
          ⟨some 57, some (56, false), .mv, [.tmp 11]⟩,
          ⟨some 58, some (56, false), .bin .eql, [.tmp 57, .const (.int .u8 13)]⟩,
          ⟨some 59, some (56, false), .mv, [.tmp 58]⟩,
          ⟨some 60, some (59, true), .mv, [.tmp 10]⟩,
          ⟨some 61, some (59, true), .bin .add, [.tmp 60, .const (.int .i64 1)]⟩,
          ⟨some 62, some (59, true), .mv, [.tmp 0]⟩,
          ⟨some 63, some (59, true), .len true, [.tmp 62]⟩,
          ⟨some 64, some (59, true), .bin .lss, [.tmp 61, .tmp 63]⟩,
          ⟨some 65, some (56, false), .pick, [.tmp 59, .tmp 64, .const (.bool false)]⟩,
          ⟨some 66, some (56, false), .mv, [.tmp 65]⟩,
          ⟨some 67, some (66, true), .mv, [.tmp 0]⟩,
          ⟨some 68, some (66, true), .mv, [.tmp 10]⟩,
          ⟨some 69, some (66, true), .bin .add, [.tmp 68, .const (.int .i64 1)]⟩,
          ⟨some 70, some (66, true), .idxStr, [.tmp 67, .tmp 69]⟩,
          ⟨some 71, some (66, true), .bin .eql, [.tmp 70, .const (.int .u8 10)]⟩,
          ⟨some 72, some (56, false), .pick, [.tmp 66, .tmp 71, .const (.bool false)]⟩,
          ⟨some 73, none, .pick, [.tmp 56, .const (.bool true), .tmp 72]⟩,
          ⟨some 12, none, .mv, [.tmp 73]⟩]) (
        .seq (
         .seq (
          .reg [0, 10, 11, 5, 7, 6, 8, 12] false [⟨some 74, none, .mv, [.tmp 12]⟩]) (
          .cond (.tmp 74) (
           .seq (
            .reg [0, 10, 11, 5, 7, 6] false [⟨some 75, none, .mv, [.tmp 6]⟩,
              ⟨some 76, none, .mv, [.tmp 7]⟩,
              ⟨some 77, none, .bytesToStr, [.tmp 76]⟩,
              ⟨some 78, none, .bslice 1, [.tmp 77]⟩,
              ⟨some 79, none, .append 1 16, [.tmp 75, .tmp 78]⟩,
              ⟨some 6, none, .mv, [.tmp 79]⟩]) (
            .seq (
             .reg [0, 10, 11, 6, 5] false [⟨some 80, none, .mv, [.tmp 5]⟩,
               ⟨some 81, none, .mv, [.tmp 6]⟩,
               ⟨some 82, none, .bslice 1, [.tmp 81]⟩,
               ⟨some 83, none, .append 1 24, [.tmp 80, .tmp 82]⟩,
               ⟨some 5, none, .mv, [.tmp 83]⟩]) (
             .seq (
              .reg [0, 5, 10, 11] false [⟨some 6, none, .mv, [.const (.lst (some true) 0 [])]⟩]) (
              .seq (
               .reg [0, 5, 6, 10, 11] false [⟨some 7, none, .mv, [.const (.lst (some true) 0 [])]⟩]) (
               .seq (
                .reg [7, 0, 5, 6, 10, 11] false [⟨some 8, none, .mv, [.const (.int .i64 0)]⟩]) (
                .seq (
                 .reg [7, 0, 5, 6, 8, 10, 11] false [⟨some 9, none, .mv, [.const (.bool true)]⟩]) (
                 .seq (
                  .seq (
                   .reg [7, 0, 5, 6, 8, 9, 10, 11] false [⟨some 84, none, .mv, [.tmp 11]⟩,
                     ⟨some 85, none, .bin .eql, [.tmp 84, .const (.int .u8 13)]⟩]) (
                   .cond (.tmp 85) (
                    .reg [7, 0, 5, 6, 8, 9, 10] false [⟨some 86, none, .mv, [.tmp 10]⟩,
                      ⟨some 87, none, .bin .add, [.tmp 86, .const (.int .i64 1)]⟩,
                      ⟨some 10, none, .mv, [.tmp 87]⟩]) (
                    .skip))) (
                  .exit 1)))))))) (
           .skip))) (
         .seq (
          .reg [0, 5, 10, 7, 6, 11, 8] false [⟨some 9, none, .mv, [.const (.bool false)]⟩]) (
          .seq (
           .seq (
            .reg [0, 5, 9, 10, 7, 6, 11, 8] false [⟨some 88, none, .mv, [.tmp 11]⟩,
              ⟨some 89, none, .bin .eql, [.tmp 88, .const (.int .u8 44)]⟩]) (
            .cond (.tmp 89) (
             .seq (
              .reg [0, 5, 9, 10, 7, 6] false [⟨some 90, none, .mv, [.tmp 6]⟩,
                ⟨some 91, none, .mv, [.tmp 7]⟩,
                ⟨some 92, none, .bytesToStr, [.tmp 91]⟩,
                ⟨some 93, none, .bslice 1, [.tmp 92]⟩,
                ⟨some 94, none, .append 1 16, [.tmp 90, .tmp 93]⟩,
                ⟨some 6, none, .mv, [.tmp 94]⟩]) (
              .seq (
               .reg [0, 5, 6, 9, 10] false [⟨some 7, none, .mv, [.const (.lst (some true) 0 [])]⟩]) (
               .seq (
                .reg [7, 0, 5, 6, 9, 10] false [⟨some 8, none, .mv, [.const (.int .i64 0)]⟩]) (
                .exit 1)))) (
             .skip))) (
           .seq (
            .seq (
             .reg [10, 7, 0, 5, 6, 9, 11, 8] false [⟨some 95, none, .mv, [.tmp 8]⟩,
               ⟨some 96, none, .bin .eql, [.tmp 95, .const (.int .i64 3)]⟩,
               ⟨some 97, none, .mv, [.tmp 96]⟩,
               ⟨some 98, some (97, false), .mv, [.tmp 8]⟩,
               ⟨some 99, some (97, false), .bin .eql, [.tmp 98, .const (.int .i64 1)]⟩,
               ⟨some 100, some (97, false), .mv, [.tmp 99]⟩,
               ⟨some 101, some (100, true), .mv, [.tmp 11]⟩,
               ⟨some 102, some (100, true), .bin .eql, [.tmp 101, .const (.int .u8 34)]⟩,
               ⟨some 103, some (97, false), .pick, [.tmp 100, .tmp 102, .const (.bool false)]⟩,
               ⟨some 104, none, .pick, [.tmp 97, .const (.bool true), .tmp 103]⟩]) (
             .cond (.tmp 104) (
              .seq (
               .reg [10] false [⟨some 105, none, .mv, [.tmp 10]⟩,
                 ⟨some 2, none, .mv, [.const (.lst (some true) 0 [])]⟩,
                 ⟨some 3, none, .mv, [.tmp 105]⟩,
                 ⟨some 4, none, .mv, [.const (.int .i64 2)]⟩]) (
               .ret)) (
              .skip))) (
            .seq (
             .reg [7, 0, 5, 6, 9, 10, 11] false [⟨some 106, none, .mv, [.tmp 11]⟩,
               ⟨some 107, none, .bin .eql, [.tmp 106, .const (.int .u8 34)]⟩]) (
             .cond (.tmp 107) (
              .reg [7, 0, 5, 6, 9, 10] false [⟨some 8, none, .mv, [.const (.int .i64 2)]⟩]) (
              .seq (
               .reg [0, 5, 6, 9, 10, 11, 7] false [⟨some 108, none, .mv, [.tmp 7]⟩,
                 ⟨some 109, none, .mv, [.tmp 11]⟩,
                 ⟨some 110, none, .bslice 1, [.tmp 109]⟩,
                 ⟨some 111, none, .append 1 1, [.tmp 108, .tmp 110]⟩,
                 ⟨some 7, none, .mv, [.tmp 111]⟩]) (
               .reg [7, 0, 5, 6, 9, 10] false [⟨some 8, none, .mv, [.const (.int .i64 1)]⟩])))))))))))) (
    .reg [7, 0, 5, 6, 8, 9, 10] false [⟨some 20, none, .mv, [.tmp 10]⟩,
      ⟨some 21, none, .bin .add, [.tmp 20, .const (.int .i64 1)]⟩,
      ⟨some 10, none, .mv, [.tmp 21]⟩]))

def b_sccref3_Rows : AC :=
  .seq (
   .reg [0] false [⟨some 2, none, .mv, [.const (.lst (some true) 0 [])]⟩,
     ⟨some 3, none, .mv, [.const (.int .i64 0)]⟩,
     ⟨some 4, none, .mv, [.const (.int .i64 0)]⟩]) (
   .seq (
    .seq (
     .reg [0] false [⟨some 13, none, .mv, [.tmp 0]⟩,
       ⟨some 14, none, .len true, [.tmp 13]⟩,
       ⟨some 15, none, .bin .gtr, [.tmp 14, .const (.int .i64 4000)]⟩]) (
     .cond (.tmp 15) (
      .seq (
       .reg [] false [⟨some 2, none, .mv, [.const (.lst (some true) 0 [])]⟩,
         ⟨some 3, none, .mv, [.const (.int .i64 0)]⟩,
         ⟨some 4, none, .mv, [.const (.int .i64 4)]⟩]) (
       .ret)) (
      .skip))) (
    .seq (
     .reg [0] false [⟨some 5, none, .mv, [.const (.lst (some true) 0 [])]⟩]) (
     .seq (
      .reg [0, 5] false [⟨some 6, none, .mv, [.const (.lst (some true) 0 [])]⟩]) (
      .seq (
       .reg [0, 5, 6] false [⟨some 7, none, .mv, [.const (.lst (some true) 0 [])]⟩]) (
       .seq (
        .reg [7, 0, 5, 6] false [⟨some 8, none, .mv, [.const (.int .i64 0)]⟩]) (
        .seq (
         .reg [7, 0, 5, 6, 8] false [⟨some 9, none, .mv, [.const (.bool true)]⟩]) (
         .seq (
          .seq (
           .reg [7, 0, 5, 6, 8, 9] false [⟨some 10, none, .mv, [.const (.int .i64 0)]⟩]) (
           .block 0 [0, 5, 7, 6, 9, 8] (
            .loop [10, 7, 0, 5, 6, 8, 9] b_sccref3_Rows_0))) (
          .seq (
           .seq (
            .reg [0, 5, 7, 6, 9, 8] false [⟨some 112, none, .mv, [.tmp 8]⟩,
              ⟨some 113, none, .bin .eql, [.tmp 112, .const (.int .i64 2)]⟩]) (
            .cond (.tmp 113) (
             .seq (
              .reg [0] false [⟨some 114, none, .mv, [.tmp 0]⟩,
                ⟨some 115, none, .len true, [.tmp 114]⟩,
                ⟨some 2, none, .mv, [.const (.lst (some true) 0 [])]⟩,
                ⟨some 3, none, .mv, [.tmp 115]⟩,
                ⟨some 4, none, .mv, [.const (.int .i64 2)]⟩]) (
              .ret)) (
             .skip))) (
           .seq (
            .seq (
             .reg [5, 7, 6, 9] false [⟨some 116, none, .mv, [.tmp 9]⟩,
               ⟨some 117, none, .un .not, [.tmp 116]⟩]) (
             .cond (.tmp 117) (
              .seq (
               .reg [5, 7, 6] false [⟨some 118, none, .mv, [.tmp 6]⟩,
                 ⟨some 119, none, .mv, [.tmp 7]⟩,
                 ⟨some 120, none, .bytesToStr, [.tmp 119]⟩,
                 ⟨some 121, none, .bslice 1, [.tmp 120]⟩,
                 ⟨some 122, none, .append 1 16, [.tmp 118, .tmp 121]⟩,
                 ⟨some 6, none, .mv, [.tmp 122]⟩]) (
               .reg [6, 5] false [⟨some 123, none, .mv, [.tmp 5]⟩,
                 ⟨some 124, none, .mv, [.tmp 6]⟩,
                 ⟨some 125, none, .bslice 1, [.tmp 124]⟩,
                 ⟨some 126, none, .append 1 24, [.tmp 123, .tmp 125]⟩,
                 ⟨some 5, none, .mv, [.tmp 126]⟩])) (
              .skip))) (
            .seq (
             .reg [5] false [⟨some 127, none, .mv, [.tmp 5]⟩,
               ⟨some 2, none, .mv, [.tmp 127]⟩,
               ⟨some 3, none, .mv, [.const (.int .i64 0)]⟩,
               ⟨some 4, none, .mv, [.const (.int .i64 0)]⟩]) (
             .ret)))))))))))
def a_sccref3_Rows : AF := { results := [.tmp 2, .tmp 3, .tmp 4], body := b_sccref3_Rows }

/- sccsettle/csv.Read, 1 params, 0 free: [] -/
/- a loop's body; at its head: [7, 0, 5, 8, 6] -/
def b_csv_Read_0 : AC :=
  .seq (
   .block 3 [0, 5, 8, 6, 7] (
    .seq (
     .seq (
      .reg [7, 0, 5, 8, 6] false [⟨some 25, none, .mv, [.tmp 7]⟩,
        ⟨some 26, none, .mv, [.tmp 0]⟩,
        ⟨some 27, none, .len true, [.tmp 26]⟩,
        ⟨some 28, none, .bin .eql, [.tmp 25, .tmp 27]⟩]) (
      .cond (.tmp 28) (
       .seq (
        .reg [7] false [⟨some 29, none, .mv, [.tmp 7]⟩,
          ⟨some 30, none, .mkIface t_api_Errno, [.const (.int .i64 2)]⟩,
          ⟨some 2, none, .mv, [.const (.lst (some true) 0 [])]⟩,
          ⟨some 3, none, .mv, [.tmp 29]⟩,
          ⟨some 4, none, .mv, [.tmp 30]⟩]) (
        .ret)) (
       .skip))) (
     .seq (
      .seq (
       .reg [0, 5, 8, 6, 7] false [⟨some 31, none, .mv, [.tmp 0]⟩,
         ⟨some 32, none, .mv, [.tmp 7]⟩,
         ⟨some 33, none, .idxStr, [.tmp 31, .tmp 32]⟩,
         ⟨some 34, none, .bin .eql, [.tmp 33, .const (.int .u8 34)]⟩]) (
       .cond (.tmp 34) (
        .seq (
         .reg [0, 5, 8, 6, 7] false [⟨some 35, none, .mv, [.tmp 7]⟩,
           ⟨some 36, none, .bin .add, [.tmp 35, .const (.int .i64 1)]⟩,
           ⟨some 7, none, .mv, [.tmp 36]⟩]) (
         .seq (
          .reg [0, 7, 5, 8, 6] false [⟨some 37, none, .mv, [.tmp 7]⟩,
            ⟨some 38, none, .mv, [.tmp 0]⟩,
            ⟨some 39, none, .len true, [.tmp 38]⟩,
            ⟨some 40, none, .bin .eql, [.tmp 37, .tmp 39]⟩,
            ⟨some 41, none, .mv, [.tmp 40]⟩,
            ⟨some 42, some (41, false), .mv, [.tmp 0]⟩,
            ⟨some 43, some (41, false), .mv, [.tmp 7]⟩,
            ⟨some 44, some (41, false), .idxStr, [.tmp 42, .tmp 43]⟩,
            ⟨some 45, some (41, false), .bin .neq, [.tmp 44, .const (.int .u8 34)]⟩,
            ⟨some 46, none, .pick, [.tmp 41, .const (.bool true), .tmp 45]⟩]) (
          .cond (.tmp 46) (
           .exit 2) (
           .skip)))) (
        .skip))) (
      .reg [0, 5, 6, 7, 8] false [⟨some 47, none, .mv, [.tmp 8]⟩,
        ⟨some 48, none, .mv, [.tmp 0]⟩,
        ⟨some 49, none, .mv, [.tmp 7]⟩,
        ⟨some 50, none, .idxStr, [.tmp 48, .tmp 49]⟩,
        ⟨some 51, none, .bslice 1, [.tmp 50]⟩,
        ⟨some 52, none, .append 1 1, [.tmp 47, .tmp 51]⟩,
        ⟨some 8, none, .mv, [.tmp 52]⟩])))) (
   .reg [0, 5, 8, 6, 7] false [⟨some 23, none, .mv, [.tmp 7]⟩,
     ⟨some 24, none, .bin .add, [.tmp 23, .const (.int .i64 1)]⟩,
     ⟨some 7, none, .mv, [.tmp 24]⟩])

/- a loop's body; at its head: [7, 0, 8, 5, 6] -/
def b_csv_Read_1 : AC :=
  .seq (
   .seq (
    .reg [7, 0, 5, 6, 8] false [⟨some 53, none, .mv, [.tmp 7]⟩,
      ⟨some 54, none, .mv, [.tmp 0]⟩,
      ⟨some 55, none, .len true, [.tmp 54]⟩,
      ⟨some 56, none, .bin .lss, [.tmp 53, .tmp 55]⟩,
      ⟨some 57, none, .mv, [.tmp 56]⟩,
      ⟨some 58, some (57, true), .mv, [.tmp 0]⟩,
      ⟨some 59, some (57, true), .mv, [.tmp 7]⟩,
      ⟨some 60, some (57, true), .slc none true false, [.tmp 58, .tmp 59]⟩,
      ⟨some 61, some (57, true), .call f_csv_ends true, [.tmp 60]⟩,
      ⟨some 62, some (57, true), .un .not, [.tmp 61]⟩,
      ⟨some 63, none, .pick, [.tmp 57, .tmp 62, .const (.bool false)]⟩]) (
    .cond (.tmp 63) (
     .skip) (
     .exit 4))) (
   .block 5 [7, 0, 8, 5, 6] (
    .seq (
     .seq (
      .reg [7, 0, 5, 6, 8] false [⟨some 64, none, .mv, [.tmp 0]⟩,
        ⟨some 65, none, .mv, [.tmp 7]⟩,
        ⟨some 66, none, .idxStr, [.tmp 64, .tmp 65]⟩,
        ⟨some 67, none, .bin .eql, [.tmp 66, .const (.int .u8 34)]⟩]) (
      .cond (.tmp 67) (
       .seq (
        .reg [7] false [⟨some 68, none, .mv, [.tmp 7]⟩,
          ⟨some 69, none, .mkIface t_api_Errno, [.const (.int .i64 2)]⟩,
          ⟨some 2, none, .mv, [.const (.lst (some true) 0 [])]⟩,
          ⟨some 3, none, .mv, [.tmp 68]⟩,
          ⟨some 4, none, .mv, [.tmp 69]⟩]) (
        .ret)) (
       .skip))) (
     .seq (
      .reg [0, 5, 6, 7, 8] false [⟨some 70, none, .mv, [.tmp 8]⟩,
        ⟨some 71, none, .mv, [.tmp 0]⟩,
        ⟨some 72, none, .mv, [.tmp 7]⟩,
        ⟨some 73, none, .idxStr, [.tmp 71, .tmp 72]⟩,
        ⟨some 74, none, .bslice 1, [.tmp 73]⟩,
        ⟨some 75, none, .append 1 1, [.tmp 70, .tmp 74]⟩,
        ⟨some 8, none, .mv, [.tmp 75]⟩]) (
      .reg [0, 8, 5, 6, 7] false [⟨some 76, none, .mv, [.tmp 7]⟩,
        ⟨some 77, none, .bin .add, [.tmp 76, .const (.int .i64 1)]⟩,
        ⟨some 7, none, .mv, [.tmp 77]⟩]))))

/- a loop's body; at its head: [5, 0, 6, 7] -/
def b_csv_Read_2 : AC :=
  .seq (
   .seq (
    .reg [0, 5, 6, 7] false [⟨some 13, none, .mv, [.tmp 7]⟩,
      ⟨some 14, none, .mv, [.tmp 0]⟩,
      ⟨some 15, none, .len true, [.tmp 14]⟩,
      ⟨some 16, none, .bin .lss, [.tmp 13, .tmp 15]⟩]) (
    .cond (.tmp 16) (
     .skip) (
     .exit 0))) (
   .block 1 [5, 0, 6, 7] (
    .seq (
     .reg [0, 5, 6, 7] false [⟨some 8, none, .mv, [.const (.lst (some true) 0 [])]⟩]) (
     .seq (
      .seq (
       .reg [0, 5, 8, 6, 7] false [⟨some 17, none, .mv, [.tmp 0]⟩,
         ⟨some 18, none, .mv, [.tmp 7]⟩,
         ⟨some 19, none, .idxStr, [.tmp 17, .tmp 18]⟩,
         ⟨some 20, none, .bin .eql, [.tmp 19, .const (.int .u8 34)]⟩]) (
       .cond (.tmp 20) (
        .seq (
         .reg [0, 5, 8, 6, 7] false [⟨some 21, none, .mv, [.tmp 7]⟩,
           ⟨some 22, none, .bin .add, [.tmp 21, .const (.int .i64 1)]⟩,
           ⟨some 7, none, .mv, [.tmp 22]⟩]) (
         .block 2 [0, 7, 5, 8, 6] (
          .loop [7, 0, 5, 8, 6] b_csv_Read_0))) (
        .block 4 [0, 7, 5, 8, 6] (
         .loop [7, 0, 8, 5, 6] b_csv_Read_1)))) (
      .seq (
       .reg [0, 7, 5, 8, 6] false [⟨some 78, none, .mv, [.tmp 6]⟩,
         ⟨some 79, none, .mv, [.tmp 8]⟩,
         ⟨some 80, none, .bytesToStr, [.tmp 79]⟩,
         ⟨some 81, none, .bslice 1, [.tmp 80]⟩,
         ⟨some 82, none, .append 1 16, [.tmp 78, .tmp 81]⟩,
         ⟨some 6, none, .mv, [.tmp 82]⟩]) (
       .seq (
        .block 6 [0, 7, 6, 5] (
         .seq (
          .reg [0, 7, 6, 5] false [⟨some 86, none, .mv, [.tmp 7]⟩,
            ⟨some 87, none, .mv, [.tmp 0]⟩,
            ⟨some 88, none, .len true, [.tmp 87]⟩,
            ⟨some 89, none, .bin .eql, [.tmp 86, .tmp 88]⟩,
            ⟨some 85, none, .mv, [.tmp 89]⟩]) (
          .cond (.tmp 85) (
           .skip) (
           .seq (
            .reg [5, 0, 6, 7] false [⟨some 91, none, .mv, [.tmp 0]⟩,
              ⟨some 92, none, .mv, [.tmp 7]⟩,
              ⟨some 93, none, .idxStr, [.tmp 91, .tmp 92]⟩,
              ⟨some 94, none, .bin .eql, [.tmp 93, .const (.int .u8 44)]⟩,
              ⟨some 90, none, .mv, [.tmp 94]⟩]) (
            .cond (.tmp 90) (
             .seq (
              .seq (
               .reg [5, 0, 6, 7] false [⟨some 95, none, .mv, [.tmp 7]⟩,
                 ⟨some 96, none, .bin .add, [.tmp 95, .const (.int .i64 1)]⟩,
                 ⟨some 7, none, .mv, [.tmp 96]⟩]) (
               .seq (
                .reg [5, 0, 7, 6] false [⟨some 97, none, .mv, [.tmp 7]⟩,
                  ⟨some 98, none, .mv, [.tmp 0]⟩,
                  ⟨some 99, none, .len true, [.tmp 98]⟩,
                  ⟨some 100, none, .bin .eql, [.tmp 97, .tmp 99]⟩]) (
                .cond (.tmp 100) (
                 .reg [5, 0, 7, 6] false [⟨some 101, none, .mv, [.tmp 6]⟩,
                   ⟨some 102, none, .bslice 1, [.const (.str [])]⟩,
                   ⟨some 103, none, .append 1 16, [.tmp 101, .tmp 102]⟩,
                   ⟨some 6, none, .mv, [.tmp 103]⟩]) (
                 .skip)))) (
              .exit 1)) (
             .seq (
              .reg [7, 0, 6, 5] false [⟨some 105, none, .mv, [.tmp 0]⟩,
                ⟨some 106, none, .mv, [.tmp 7]⟩,
                ⟨some 107, none, .slc none true false, [.tmp 105, .tmp 106]⟩,
                ⟨some 108, none, .call f_csv_ends true, [.tmp 107]⟩,
                ⟨some 109, none, .un .not, [.tmp 108]⟩,
                ⟨some 104, none, .mv, [.tmp 109]⟩]) (
              .cond (.tmp 104) (
               .seq (
                .reg [7] false [⟨some 110, none, .mv, [.tmp 7]⟩,
                  ⟨some 111, none, .mkIface t_api_Errno, [.const (.int .i64 2)]⟩,
                  ⟨some 2, none, .mv, [.const (.lst (some true) 0 [])]⟩,
                  ⟨some 3, none, .mv, [.tmp 110]⟩,
                  ⟨some 4, none, .mv, [.tmp 111]⟩]) (
                .ret)) (
               .seq (
                .reg [0, 6, 5, 7] false [⟨some 113, none, .mv, [.tmp 0]⟩,
                  ⟨some 114, none, .mv, [.tmp 7]⟩,
                  ⟨some 115, none, .idxStr, [.tmp 113, .tmp 114]⟩,
                  ⟨some 116, none, .bin .eql, [.tmp 115, .const (.int .u8 13)]⟩,
                  ⟨some 112, none, .mv, [.tmp 116]⟩]) (
                .cond (.tmp 112) (
                 .reg [0, 6, 5, 7] false [⟨some 117, none, .mv, [.tmp 7]⟩,
                   ⟨some 118, none, .bin .add, [.tmp 117, .const (.int .i64 2)]⟩,
                   ⟨some 7, none, .mv, [.tmp 118]⟩]) (
                 .reg [0, 6, 5, 7] false [⟨some 83, none, .mv, [.tmp 7]⟩,
                   ⟨some 84, none, .bin .add, [.tmp 83, .const (.int .i64 1)]⟩,
                   ⟨some 7, none, .mv, [.tmp 84]⟩])))))))))) (
        .reg [0, 7, 6, 5] false [⟨some 119, none, .mv, [.tmp 5]⟩,
          ⟨some 120, none, .mv, [.tmp 6]⟩,
          ⟨some 121, none, .bslice 1, [.tmp 120]⟩,
          ⟨some 122, none, .append 1 24, [.tmp 119, .tmp 121]⟩,
          ⟨some 5, none, .mv, [.tmp 122]⟩,
          ⟨some 6, none, .mv, [.const (.lst (some true) 0 [])]⟩]))))))

def b_csv_Read : AC :=
  .seq (
   .reg [0] false [⟨some 2, none, .mv, [.const (.lst (some true) 0 [])]⟩,
     ⟨some 3, none, .mv, [.const (.int .i64 0)]⟩,
     ⟨some 4, none, .mv, [.const (.nili)]⟩]) (
   .seq (
    .seq (
     .reg [0] false [⟨some 9, none, .mv, [.tmp 0]⟩,
       ⟨some 10, none, .len true, [.tmp 9]⟩,
       ⟨some 11, none, .bin .gtr, [.tmp 10, .const (.int .i64 4000)]⟩]) (
     .cond (.tmp 11) (
      .seq (
       .reg [] false [⟨some 12, none, .mkIface t_api_Errno, [.const (.int .i64 4)]⟩,
         ⟨some 2, none, .mv, [.const (.lst (some true) 0 [])]⟩,
         ⟨some 3, none, .mv, [.const (.int .i64 0)]⟩,
         ⟨some 4, none, .mv, [.tmp 12]⟩]) (
       .ret)) (
      .skip))) (
    .seq (
     .reg [0] false [⟨some 5, none, .mv, [.const (.lst (some true) 0 [])]⟩]) (
     .seq (
      .reg [5, 0] false [⟨some 6, none, .mv, [.const (.lst (some true) 0 [])]⟩]) (
      .seq (
       .seq (
        .reg [5, 0, 6] false [⟨some 7, none, .mv, [.const (.int .i64 0)]⟩]) (
        .block 0 [6, 5] (
         .loop [5, 0, 6, 7] b_csv_Read_2))) (
       .seq (
        .seq (
         .reg [6, 5] false [⟨some 123, none, .mv, [.tmp 6]⟩,
           ⟨some 124, none, .eqn .sl true true, [.tmp 123, .const (.lst (some true) 0 [])]⟩]) (
         .cond (.tmp 124) (
          .reg [6, 5] false [⟨some 125, none, .mv, [.tmp 5]⟩,
            ⟨some 126, none, .mv, [.tmp 6]⟩,
            ⟨some 127, none, .bslice 1, [.tmp 126]⟩,
            ⟨some 128, none, .append 1 24, [.tmp 125, .tmp 127]⟩,
            ⟨some 5, none, .mv, [.tmp 128]⟩]) (
          .skip))) (
        .seq (
         .reg [5] false [⟨some 129, none, .mv, [.tmp 5]⟩,
           ⟨some 2, none, .mv, [.tmp 129]⟩,
           ⟨some 3, none, .mv, [.const (.int .i64 0)]⟩,
           ⟨some 4, none, .mv, [.const (.nili)]⟩]) (
         .ret)))))))
def a_csv_Read : AF := { results := [.tmp 2, .tmp 3, .tmp 4], body := b_csv_Read }

/- sccsettle/sccsame.Rows, 2 params, 0 free: [] -/
/- a loop's body; at its head: [6, 5, 1, 0] -/
def b_sccsame_Rows_0 : AC :=
  .seq (
   .seq (
    .reg [5, 1, 0, 6] false [⟨some 29, none, .mv, [.tmp 6]⟩,
      ⟨some 30, none, .mv, [.tmp 0]⟩,
      ⟨some 31, none, .mv, [.tmp 5]⟩,
      ⟨some 32, none, .idxAddr 1, [.tmp 30, .tmp 31]⟩,
      ⟨some 33, none, .load 1 false, [.tmp 32]⟩,
      ⟨some 34, none, .len false, [.tmp 33]⟩,
      ⟨some 35, none, .bin .lss, [.tmp 29, .tmp 34]⟩]) (
    .cond (.tmp 35) (
     .skip) (
     .exit 2))) (
   .seq (
    .block 3 [5, 1, 0, 6] (
     .seq (
      .reg [5, 1, 0, 6] true [⟨some 38, none, .mv, [.tmp 0]⟩,
        ⟨some 39, none, .mv, [.tmp 5]⟩,
        ⟨some 40, none, .idxAddr 1, [.tmp 38, .tmp 39]⟩,
        ⟨some 41, none, .load 1 false, [.tmp 40]⟩,
        ⟨some 42, none, .mv, [.tmp 6]⟩,
        ⟨some 43, none, .idxAddr 1, [.tmp 41, .tmp 42]⟩,
        ⟨some 44, none, .load 1 false, [.tmp 43]⟩,
        ⟨some 45, none, .mv, [.tmp 1]⟩,
        ⟨some 46, none, .mv, [.tmp 5]⟩,
        ⟨some 47, none, .idxAddr 1, [.tmp 45, .tmp 46]⟩,
        ⟨some 48, none, .load 1 false, [.tmp 47]⟩,
        ⟨some 49, none, .mv, [.tmp 6]⟩,
        ⟨some 50, none, .idxAddr 1, [.tmp 48, .tmp 49]⟩,
        ⟨some 51, none, .load 1 false, [.tmp 50]⟩,
        ⟨some 52, none, .bin .neq, [.tmp 44, .tmp 51]⟩]) (
      .cond (.tmp 52) (
       .seq (
        .reg [] false [⟨some 4, none, .mv, [.const (.bool false)]⟩]) (
        .ret)) (
       .skip)))) (
    .reg [5, 1, 0, 6] false [⟨some 36, none, .mv, [.tmp 6]⟩,
      ⟨some 37, none, .bin .add, [.tmp 36, .const (.int .i64 1)]⟩,
      ⟨some 6, none, .mv, [.tmp 37]⟩]))

/- a loop's body; at its head: [5, 1, 0] -/
def b_sccsame_Rows_1 : AC :=
  .seq (
   .seq (
    .reg [5, 1, 0] false [⟨some 12, none, .mv, [.tmp 5]⟩,
      ⟨some 13, none, .mv, [.tmp 0]⟩,
      ⟨some 14, none, .len false, [.tmp 13]⟩,
      ⟨some 15, none, .bin .lss, [.tmp 12, .tmp 14]⟩]) (
    .cond (.tmp 15) (
     .skip) (
     .exit 0))) (
   .seq (
    .block 1 [1, 0, 5] (
     .seq (
      .seq (
       .reg [5, 1, 0] true [⟨some 18, none, .mv, [.tmp 0]⟩,
         ⟨some 19, none, .mv, [.tmp 5]⟩,
         ⟨some 20, none, .idxAddr 1, [.tmp 18, .tmp 19]⟩,
         ⟨some 21, none, .load 1 false, [.tmp 20]⟩,
         ⟨some 22, none, .len false, [.tmp 21]⟩,
         ⟨some 23, none, .mv, [.tmp 1]⟩,
         ⟨some 24, none, .mv, [.tmp 5]⟩,
         ⟨some 25, none, .idxAddr 1, [.tmp 23, .tmp 24]⟩,
         ⟨some 26, none, .load 1 false, [.tmp 25]⟩,
         ⟨some 27, none, .len false, [.tmp 26]⟩,
         ⟨some 28, none, .bin .neq, [.tmp 22, .tmp 27]⟩]) (
       .cond (.tmp 28) (
        .seq (
         .reg [] false [⟨some 4, none, .mv, [.const (.bool false)]⟩]) (
         .ret)) (
        .skip))) (
      .seq (
       .reg [5, 1, 0] false [⟨some 6, none, .mv, [.const (.int .i64 0)]⟩]) (
       .block 2 [1, 0, 5] (
        .loop [6, 5, 1, 0] b_sccsame_Rows_0))))) (
    .reg [1, 0, 5] false [⟨some 16, none, .mv, [.tmp 5]⟩,
      ⟨some 17, none, .bin .add, [.tmp 16, .const (.int .i64 1)]⟩,
      ⟨some 5, none, .mv, [.tmp 17]⟩]))

def b_sccsame_Rows : AC :=
  .seq (
   .reg [1, 0] false [⟨some 4, none, .mv, [.const (.bool false)]⟩]) (
   .seq (
    .seq (
     .reg [1, 0] false [⟨some 7, none, .mv, [.tmp 0]⟩,
       ⟨some 8, none, .len false, [.tmp 7]⟩,
       ⟨some 9, none, .mv, [.tmp 1]⟩,
       ⟨some 10, none, .len false, [.tmp 9]⟩,
       ⟨some 11, none, .bin .neq, [.tmp 8, .tmp 10]⟩]) (
     .cond (.tmp 11) (
      .seq (
       .reg [] false [⟨some 4, none, .mv, [.const (.bool false)]⟩]) (
       .ret)) (
      .skip))) (
    .seq (
     .seq (
      .reg [1, 0] false [⟨some 5, none, .mv, [.const (.int .i64 0)]⟩]) (
      .block 0 [] (
       .loop [5, 1, 0] b_sccsame_Rows_1))) (
     .seq (
      .reg [] false [⟨some 4, none, .mv, [.const (.bool true)]⟩]) (
      .ret))))
def a_sccsame_Rows : AF := { results := [.tmp 4], body := b_sccsame_Rows }

/- sccsettle/sccref3.Columns, 2 params, 0 free: [] -/
/- a loop's body; at its head: [6, 1, 0] -/
def b_sccref3_Columns_0 : AC :=
  .seq (
   .seq (
    .reg [1, 0, 6] false [⟨some 16, none, .mv, [.tmp 6]⟩,
      ⟨some 17, none, .mv, [.tmp 1]⟩,
      ⟨some 18, none, .len false, [.tmp 17]⟩,
      ⟨some 19, none, .bin .lss, [.tmp 16, .tmp 18]⟩]) (
    .cond (.tmp 19) (
     .skip) (
     .exit 0))) (
   .seq (
    .block 1 [1, 0, 6] (
     .seq (
      .reg [1, 0, 6] false [⟨some 22, none, .mv, [.tmp 0]⟩,
        ⟨some 23, none, .mv, [.tmp 1]⟩,
        ⟨some 24, none, .mv, [.tmp 6]⟩,
        ⟨some 25, none, .idxAddr 1, [.tmp 23, .tmp 24]⟩,
        ⟨some 26, none, .load 1 false, [.tmp 25]⟩,
        ⟨some 27, none, .call f_sccref3_Column true, [.tmp 22, .tmp 26]⟩,
        ⟨some 7, none, .mv, [.tmp 27]⟩]) (
      .seq (
       .reg [1, 0, 6, 7] false [⟨some 28, none, .mv, [.tmp 7]⟩,
         ⟨some 29, none, .un .not, [.tmp 28]⟩]) (
       .cond (.tmp 29) (
        .seq (
         .reg [] false [⟨some 4, none, .mv, [.const (.int .i64 1)]⟩]) (
         .ret)) (
        .skip))))) (
    .reg [1, 0, 6] false [⟨some 20, none, .mv, [.tmp 6]⟩,
      ⟨some 21, none, .bin .add, [.tmp 20, .const (.int .i64 1)]⟩,
      ⟨some 6, none, .mv, [.tmp 21]⟩]))

def b_sccref3_Columns : AC :=
  .seq (
   .reg [1, 0] false [⟨some 4, none, .mv, [.const (.int .i64 0)]⟩]) (
   .seq (
    .reg [1, 0] false [⟨some 8, none, .mv, [.tmp 0]⟩,
      ⟨some 9, none, .call f_sccref3_Table true, [.tmp 8]⟩,
      ⟨some 5, none, .mv, [.tmp 9]⟩]) (
    .seq (
     .seq (
      .reg [5, 1, 0] false [⟨some 10, none, .mv, [.tmp 5]⟩,
        ⟨some 11, none, .bin .neq, [.tmp 10, .const (.int .i64 0)]⟩]) (
      .cond (.tmp 11) (
       .seq (
        .reg [5] false [⟨some 12, none, .mv, [.tmp 5]⟩,
          ⟨some 4, none, .mv, [.tmp 12]⟩]) (
        .ret)) (
       .skip))) (
     .seq (
      .seq (
       .reg [1, 0] false [⟨some 13, none, .mv, [.tmp 1]⟩,
         ⟨some 14, none, .len false, [.tmp 13]⟩,
         ⟨some 15, none, .bin .gtr, [.tmp 14, .const (.int .i64 12)]⟩]) (
       .cond (.tmp 15) (
        .seq (
         .reg [] false [⟨some 4, none, .mv, [.const (.int .i64 4)]⟩]) (
         .ret)) (
        .skip))) (
      .seq (
       .seq (
        .reg [1, 0] false [⟨some 6, none, .mv, [.const (.int .i64 0)]⟩]) (
        .block 0 [] (
         .loop [6, 1, 0] b_sccref3_Columns_0))) (
       .seq (
        .reg [] false [⟨some 4, none, .mv, [.const (.int .i64 0)]⟩]) (
        .ret))))))
def a_sccref3_Columns : AF := { results := [.tmp 4], body := b_sccref3_Columns }

/- sccsettle/sccref3.Distinct, 2 params, 0 free: [] -/
/- a loop's body; at its head: [8, 1, 0, 6, 5, 7] -/
def b_sccref3_Distinct_0 : AC :=
  .seq (
   .seq (
    .reg [1, 0, 6, 5, 8, 7] false [⟨some 16, none, .mv, [.tmp 8]⟩,
      ⟨some 17, none, .mv, [.tmp 6]⟩,
      ⟨some 18, none, .bin .lss, [.tmp 16, .tmp 17]⟩]) (
    .cond (.tmp 18) (
     .skip) (
     .exit 2))) (
   .seq (
    .block 3 [1, 0, 6, 5, 7, 8] (
     .seq (
      .reg [1, 0, 6, 5, 8, 7] true [⟨some 21, none, .mv, [.tmp 0]⟩,
        ⟨some 22, none, .mv, [.tmp 6]⟩,
        ⟨some 23, none, .idxAddr 1, [.tmp 21, .tmp 22]⟩,
        ⟨some 24, none, .load 1 false, [.tmp 23]⟩,
        ⟨some 25, none, .mv, [.tmp 0]⟩,
        ⟨some 26, none, .mv, [.tmp 8]⟩,
        ⟨some 27, none, .idxAddr 1, [.tmp 25, .tmp 26]⟩,
        ⟨some 28, none, .load 1 false, [.tmp 27]⟩,
        ⟨some 29, none, .mv, [.tmp 1]⟩,
        ⟨some 30, none, .call f_sccref3_Alike true, [.tmp 24, .tmp 28, .tmp 29]⟩,
        ⟨some 9, none, .mv, [.tmp 30]⟩]) (
      .seq (
       .reg [1, 0, 6, 5, 8, 7, 9] false [⟨some 31, none, .mv, [.tmp 9]⟩]) (
       .cond (.tmp 31) (
        .reg [1, 0, 6, 5, 8] false [⟨some 7, none, .mv, [.const (.bool false)]⟩]) (
        .skip))))) (
    .reg [1, 0, 6, 5, 7, 8] false [⟨some 19, none, .mv, [.tmp 8]⟩,
      ⟨some 20, none, .bin .add, [.tmp 19, .const (.int .i64 1)]⟩,
      ⟨some 8, none, .mv, [.tmp 20]⟩]))

/- a loop's body; at its head: [1, 0, 6, 5] -/
def b_sccref3_Distinct_1 : AC :=
  .seq (
   .seq (
    .reg [1, 0, 6, 5] false [⟨some 10, none, .mv, [.tmp 6]⟩,
      ⟨some 11, none, .mv, [.tmp 0]⟩,
      ⟨some 12, none, .len false, [.tmp 11]⟩,
      ⟨some 13, none, .bin .lss, [.tmp 10, .tmp 12]⟩]) (
    .cond (.tmp 13) (
     .skip) (
     .exit 0))) (
   .seq (
    .block 1 [1, 0, 5, 6] (
     .seq (
      .reg [1, 0, 6, 5] false [⟨some 7, none, .mv, [.const (.bool true)]⟩]) (
      .seq (
       .seq (
        .reg [1, 0, 6, 5, 7] false [⟨some 8, none, .mv, [.const (.int .i64 0)]⟩]) (
        .block 2 [1, 0, 6, 5, 7] (
         .loop [8, 1, 0, 6, 5, 7] b_sccref3_Distinct_0))) (
       .seq (
        .reg [1, 0, 6, 5, 7] false [⟨some 32, none, .mv, [.tmp 7]⟩]) (
        .cond (.tmp 32) (
         .reg [1, 0, 6, 5] false [⟨some 33, none, .mv, [.tmp 5]⟩,
           ⟨some 34, none, .mv, [.tmp 6]⟩,
           ⟨some 35, none, .bslice 1, [.tmp 34]⟩,
           ⟨some 36, none, .append 1 8, [.tmp 33, .tmp 35]⟩,
           ⟨some 5, none, .mv, [.tmp 36]⟩]) (
         .skip)))))) (
    .reg [1, 0, 5, 6] false [⟨some 14, none, .mv, [.tmp 6]⟩,
      ⟨some 15, none, .bin .add, [.tmp 14, .const (.int .i64 1)]⟩,
      ⟨some 6, none, .mv, [.tmp 15]⟩]))

def b_sccref3_Distinct : AC :=
  .seq (
   .reg [1, 0] false [⟨some 4, none, .mv, [.const (.lst (some true) 0 [])]⟩]) (
   .seq (
    .reg [1, 0] false [⟨some 5, none, .mv, [.const (.lst (some true) 0 [])]⟩]) (
    .seq (
     .seq (
      .reg [1, 0, 5] false [⟨some 6, none, .mv, [.const (.int .i64 0)]⟩]) (
      .block 0 [5] (
       .loop [1, 0, 6, 5] b_sccref3_Distinct_1))) (
     .seq (
      .reg [5] false [⟨some 37, none, .mv, [.tmp 5]⟩,
        ⟨some 4, none, .mv, [.tmp 37]⟩]) (
      .ret))))
def a_sccref3_Distinct : AF := { results := [.tmp 4], body := b_sccref3_Distinct }

/- sccsettle/sort.Distinct, 2 params, 0 free: [] -/
/- a loop's body; at its head: [21, 7, 19, 2, 20] -/
def b_sort_Distinct_0 : AC :=
  .seq (
   .reg [7, 19, 2, 20, 21] false [⟨some 22, none, .bin .lss, [.tmp 21, .tmp 20]⟩]) (
   .seq (
    .cond (.tmp 22) (
     .skip) (
     .exit 0)) (
    .seq (
     .block 1 [7, 19, 2, 20, 21] (
      .seq (
       .reg [7, 19, 2, 20, 21] false [⟨some 23, none, .idxAddr 1, [.tmp 19, .tmp 21]⟩,
         ⟨some 24, none, .load 1 false, [.tmp 23]⟩,
         ⟨some 9, none, .mv, [.tmp 24]⟩]) (
       .reg [7, 19, 2, 20, 21, 9] false [⟨some 25, none, .load 1 false, [.tmp 7]⟩,
         ⟨some 26, none, .mv, [.tmp 9]⟩,
         ⟨some 27, none, .build [.int .i64 0, .bool false] [(0, 1)], [.tmp 26]⟩,
         ⟨some 28, none, .bslice 2, [.tmp 27]⟩,
         ⟨some 29, none, .append 2 16, [.tmp 25, .tmp 28]⟩,
         ⟨none, none, .store 1, [.tmp 7, .tmp 29]⟩]))) (
     .reg [7, 19, 2, 20, 21] false [⟨some 30, none, .bin .add, [.tmp 21, .const (.int .i64 1)]⟩,
       ⟨some 21, none, .mv, [.tmp 30]⟩])))

/- a loop's body; at its head: [33, 10, 2, 7, 31, 32] -/
def b_sort_Distinct_1 : AC :=
  .seq (
   .reg [2, 7, 31, 32, 33, 10] false [⟨some 34, none, .bin .lss, [.tmp 33, .tmp 32]⟩]) (
   .seq (
    .cond (.tmp 34) (
     .skip) (
     .exit 2)) (
    .seq (
     .block 3 [10, 2, 7, 31, 32, 33] (
      .seq (
       .reg [2, 7, 31, 32, 33, 10] false [⟨some 35, none, .mv, [.tmp 33]⟩,
         ⟨some 36, none, .idxAddr 1, [.tmp 31, .tmp 33]⟩,
         ⟨some 37, none, .load 1 false, [.tmp 36]⟩,
         ⟨some 12, none, .alloc [.lst (some true) 0 []], []⟩,
         ⟨some 11, none, .mv, [.tmp 35]⟩,
         ⟨none, none, .store 1, [.tmp 12, .tmp 37]⟩]) (
       .seq (
        .reg [2, 7, 31, 32, 33, 11, 10, 12] false [⟨some 38, none, .mv, [.tmp 10]⟩,
          ⟨some 39, none, .mkFn f_sort_Distinct_c1 0, [.tmp 2, .tmp 12, .tmp 7]⟩,
          ⟨some 40, none, .call f_slices_ContainsFunc___int_int_ true, [.tmp 38, .tmp 39]⟩,
          ⟨some 41, none, .un .not, [.tmp 40]⟩]) (
        .cond (.tmp 41) (
         .reg [2, 7, 31, 32, 33, 11, 10] false [⟨some 42, none, .mv, [.tmp 10]⟩,
           ⟨some 43, none, .mv, [.tmp 11]⟩,
           ⟨some 44, none, .bslice 1, [.tmp 43]⟩,
           ⟨some 45, none, .append 1 8, [.tmp 42, .tmp 44]⟩,
           ⟨some 10, none, .mv, [.tmp 45]⟩]) (
         .skip))))) (
     .reg [10, 2, 7, 31, 32, 33] false [⟨some 46, none, .bin .add, [.tmp 33, .const (.int .i64 1)]⟩,
       ⟨some 33, none, .mv, [.tmp 46]⟩])))

def b_sort_Distinct : AC :=
  .seq (
   .reg [1, 0] false [⟨some 2, none, .box, [.tmp 0]⟩,
     ⟨some 4, none, .mv, [.const (.lst (some true) 0 [])]⟩,
     ⟨some 5, none, .mv, [.const (.nili)]⟩]) (
   .seq (
    .seq (
     .reg [2, 1] false [⟨some 13, none, .load 1 false, [.tmp 2]⟩,
       ⟨some 14, none, .mv, [.tmp 1]⟩,
       ⟨some 15, none, .call f_sort_Columns true, [.tmp 13, .tmp 14]⟩,
       ⟨some 6, none, .mv, [.tmp 15]⟩]) (
     .seq (
      .reg [6, 2, 1] false [⟨some 16, none, .mv, [.tmp 6]⟩,
        ⟨some 17, none, .eqn .iface true true, [.tmp 16, .const (.nili)]⟩]) (
      .cond (.tmp 17) (
       .seq (
        .reg [6] false [⟨some 18, none, .mv, [.tmp 6]⟩,
          ⟨some 4, none, .mv, [.const (.lst (some true) 0 [])]⟩,
          ⟨some 5, none, .mv, [.tmp 18]⟩]) (
        .ret)) (
       .skip)))) (
    .seq (
     .reg [2, 1] false [⟨some 7, none, .alloc [.lst (some true) 0 []], []⟩]) (
     .seq (
      .seq (
       .reg [7, 2, 1] false [⟨some 19, none, .mv, [.tmp 1]⟩,
         ⟨some 20, none, .len false, [.tmp 19]⟩,
         ⟨some 21, none, .mv, [.const (.int .i64 0)]⟩]) (
       .block 0 [2, 7] (
        .loop [21, 7, 19, 2, 20] b_sort_Distinct_0))) (
      .seq (
       .reg [2, 7] false [⟨some 10, none, .mv, [.const (.lst (some true) 0 [])]⟩]) (
       .seq (
        .seq (
         .reg [10, 2, 7] false [⟨some 31, none, .load 1 false, [.tmp 2]⟩,
           ⟨some 32, none, .len false, [.tmp 31]⟩,
           ⟨some 33, none, .mv, [.const (.int .i64 0)]⟩]) (
         .block 2 [10] (
          .loop [33, 10, 2, 7, 31, 32] b_sort_Distinct_1))) (
        .seq (
         .reg [10] false [⟨some 47, none, .mv, [.tmp 10]⟩,
           ⟨some 4, none, .mv, [.tmp 47]⟩,
           ⟨some 5, none, .mv, [.const (.nili)]⟩]) (
         .ret)))))))
def a_sort_Distinct : AF := { results := [.tmp 4, .tmp 5], body := b_sort_Distinct }

/- sccsettle/sccsame.Ints, 2 params, 0 free: [] -/
/- a loop's body; at its head: [5, 1, 0] -/
def b_sccsame_Ints_0 : AC :=
  .seq (
   .seq (
    .reg [1, 0, 5] false [⟨some 11, none, .mv, [.tmp 5]⟩,
      ⟨some 12, none, .mv, [.tmp 0]⟩,
      ⟨some 13, none, .len false, [.tmp 12]⟩,
      ⟨some 14, none, .bin .lss, [.tmp 11, .tmp 13]⟩]) (
    .cond (.tmp 14) (
     .skip) (
     .exit 0))) (
   .seq (
    .block 1 [1, 0, 5] (
     .seq (
      .reg [1, 0, 5] true [⟨some 17, none, .mv, [.tmp 0]⟩,
        ⟨some 18, none, .mv, [.tmp 5]⟩,
        ⟨some 19, none, .idxAddr 1, [.tmp 17, .tmp 18]⟩,
        ⟨some 20, none, .load 1 false, [.tmp 19]⟩,
        ⟨some 21, none, .mv, [.tmp 1]⟩,
        ⟨some 22, none, .mv, [.tmp 5]⟩,
        ⟨some 23, none, .idxAddr 1, [.tmp 21, .tmp 22]⟩,
        ⟨some 24, none, .load 1 false, [.tmp 23]⟩,
        ⟨some 25, none, .bin .neq, [.tmp 20, .tmp 24]⟩]) (
      .cond (.tmp 25) (
       .seq (
        .reg [] false [⟨some 4, none, .mv, [.const (.bool false)]⟩]) (
        .ret)) (
       .skip)))) (
    .reg [1, 0, 5] false [⟨some 15, none, .mv, [.tmp 5]⟩,
      ⟨some 16, none, .bin .add, [.tmp 15, .const (.int .i64 1)]⟩,
      ⟨some 5, none, .mv, [.tmp 16]⟩]))

def b_sccsame_Ints : AC :=
  .seq (
   .reg [1, 0] false [⟨some 4, none, .mv, [.const (.bool false)]⟩]) (
   .seq (
    .seq (
     .reg [1, 0] false [⟨some 6, none, .mv, [.tmp 0]⟩,
       ⟨some 7, none, .len false, [.tmp 6]⟩,
       ⟨some 8, none, .mv, [.tmp 1]⟩,
       ⟨some 9, none, .len false, [.tmp 8]⟩,
       ⟨some 10, none, .bin .neq, [.tmp 7, .tmp 9]⟩]) (
     .cond (.tmp 10) (
      .seq (
       .reg [] false [⟨some 4, none, .mv, [.const (.bool false)]⟩]) (
       .ret)) (
      .skip))) (
    .seq (
     .seq (
      .reg [1, 0] false [⟨some 5, none, .mv, [.const (.int .i64 0)]⟩]) (
      .block 0 [] (
       .loop [5, 1, 0] b_sccsame_Ints_0))) (
     .seq (
      .reg [] false [⟨some 4, none, .mv, [.const (.bool true)]⟩]) (
      .ret))))
def a_sccsame_Ints : AF := { results := [.tmp 4], body := b_sccsame_Ints }

/- sccsettle/sccref3.Wide, 3 params, 0 free: [] -/
/- a loop's body; at its head: [7, 1, 0, 8] -/
def b_sccref3_Wide_0 : AC :=
  .seq (
   .seq (
    .reg [1, 0, 8, 7] false [⟨some 34, none, .mv, [.tmp 7]⟩,
      ⟨some 35, none, .len false, [.tmp 34]⟩,
      ⟨some 36, none, .mv, [.tmp 8]⟩,
      ⟨some 37, none, .bin .lss, [.tmp 35, .tmp 36]⟩]) (
    .cond (.tmp 37) (
     .skip) (
     .exit 0))) (
   .block 1 [7, 1, 0, 8] (
    .reg [1, 0, 8, 7] false [⟨some 38, none, .mv, [.tmp 7]⟩,
      ⟨some 39, none, .bslice 1, [.const (.int .u8 32)]⟩,
      ⟨some 40, none, .append 1 1, [.tmp 38, .tmp 39]⟩,
      ⟨some 7, none, .mv, [.tmp 40]⟩]))

/- a loop's body; at its head: [7, 1] -/
def b_sccref3_Wide_1 : AC :=
  .seq (
   .seq (
    .reg [1, 7] false [⟨some 44, none, .mv, [.tmp 7]⟩,
      ⟨some 45, none, .len false, [.tmp 44]⟩,
      ⟨some 46, none, .mv, [.tmp 1]⟩,
      ⟨some 47, none, .bin .lss, [.tmp 45, .tmp 46]⟩]) (
    .cond (.tmp 47) (
     .skip) (
     .exit 2))) (
   .block 3 [7, 1] (
    .reg [1, 7] false [⟨some 48, none, .mv, [.tmp 7]⟩,
      ⟨some 49, none, .bslice 1, [.const (.int .u8 32)]⟩,
      ⟨some 50, none, .append 1 1, [.tmp 48, .tmp 49]⟩,
      ⟨some 7, none, .mv, [.tmp 50]⟩]))

def b_sccref3_Wide : AC :=
  .seq (
   .reg [1, 0, 2] false [⟨some 6, none, .mv, [.const (.str [])]⟩]) (
   .seq (
    .reg [1, 0, 2] false [⟨some 7, none, .mv, [.const (.lst (some true) 0 [])]⟩]) (
    .seq (
     .reg [7, 1, 0, 2] false [⟨some 8, none, .mv, [.const (.int .i64 0)]⟩]) (
     .seq (
      .seq (
       .reg [7, 1, 0, 2, 8] false [⟨some 9, none, .mv, [.tmp 2]⟩,
         ⟨some 10, none, .bin .eql, [.tmp 9, .const (.int .i64 2)]⟩,
         ⟨some 11, none, .mv, [.tmp 10]⟩,
         ⟨some 12, some (11, true), .mv, [.tmp 1]⟩,
         ⟨some 13, some (11, true), .mv, [.tmp 0]⟩,
         ⟨some 14, some (11, true), .len true, [.tmp 13]⟩,
         ⟨some 15, some (11, true), .bin .gtr, [.tmp 12, .tmp 14]⟩,
         ⟨some 16, none, .pick, [.tmp 11, .tmp 15, .const (.bool false)]⟩]) (
       .cond (.tmp 16) (
        .reg [7, 1, 0, 2] false [⟨some 17, none, .mv, [.tmp 1]⟩,
          ⟨some 18, none, .mv, [.tmp 0]⟩,
          ⟨some 19, none, .len true, [.tmp 18]⟩,
          ⟨some 20, none, .bin .sub, [.tmp 17, .tmp 19]⟩,
          ⟨some 8, none, .mv, [.tmp 20]⟩]) (
        .skip))) (
      .seq (
       .seq (
        .reg [7, 1, 0, 8, 2] false [⟨some 21, none, .mv, [.tmp 2]⟩,
          ⟨some 22, none, .bin .eql, [.tmp 21, .const (.int .i64 1)]⟩,
          ⟨some 23, none, .mv, [.tmp 22]⟩,
          ⟨some 24, some (23, true), .mv, [.tmp 1]⟩,
          ⟨some 25, some (23, true), .mv, [.tmp 0]⟩,
          ⟨some 26, some (23, true), .len true, [.tmp 25]⟩,
          ⟨some 27, some (23, true), .bin .gtr, [.tmp 24, .tmp 26]⟩,
          ⟨some 28, none, .pick, [.tmp 23, .tmp 27, .const (.bool false)]⟩]) (
        .cond (.tmp 28) (
         .reg [7, 1, 0] false [⟨some 29, none, .mv, [.tmp 1]⟩,
           ⟨some 30, none, .mv, [.tmp 0]⟩,
           ⟨some 31, none, .len true, [.tmp 30]⟩,
           ⟨some 32, none, .bin .sub, [.tmp 29, .tmp 31]⟩,
           ⟨some 33, none, .bin .quo, [.tmp 32, .const (.int .i64 2)]⟩,
           ⟨some 8, none, .mv, [.tmp 33]⟩]) (
         .skip))) (
       .seq (
        .block 0 [1, 0, 7] (
         .loop [7, 1, 0, 8] b_sccref3_Wide_0)) (
        .seq (
         .reg [1, 0, 7] false [⟨some 41, none, .mv, [.tmp 7]⟩,
           ⟨some 42, none, .mv, [.tmp 0]⟩,
           ⟨some 43, none, .appendS, [.tmp 41, .tmp 42]⟩,
           ⟨some 7, none, .mv, [.tmp 43]⟩]) (
         .seq (
          .block 2 [1, 7] (
           .loop [7, 1] b_sccref3_Wide_1)) (
          .seq (
           .reg [1, 7] false [⟨some 51, none, .mv, [.tmp 7]⟩,
             ⟨some 52, none, .mv, [.tmp 1]⟩,
             ⟨some 53, none, .slc (some 1) false true, [.tmp 51, .tmp 52]⟩,
             ⟨some 54, none, .bytesToStr, [.tmp 53]⟩,
             ⟨some 6, none, .mv, [.tmp 54]⟩]) (
           .ret)))))))))
def a_sccref3_Wide : AF := { results := [.tmp 6], body := b_sccref3_Wide }

/- sccsettle/format.Wide, 3 params, 0 free: [] -/
def b_format_Wide : AC :=
  .seq (
   .reg [1, 0, 2] false [⟨some 6, none, .mv, [.const (.str [])]⟩,
     ⟨some 7, none, .mv, [.const (.nili)]⟩]) (
   .seq (
    .seq (
     .reg [1, 0, 2] false [⟨some 10, none, .mv, [.tmp 1]⟩,
       ⟨some 11, none, .bin .lss, [.tmp 10, .const (.int .i64 0)]⟩,
       ⟨some 12, none, .mv, [.tmp 11]⟩,
       ⟨some 13, some (12, false), .mv, [.tmp 1]⟩,
       ⟨some 14, some (12, false), .bin .gtr, [.tmp 13, .const (.int .i64 200)]⟩,
       ⟨some 15, none, .pick, [.tmp 12, .const (.bool true), .tmp 14]⟩,
       ⟨some 16, none, .mv, [.tmp 15]⟩,
       ⟨some 17, some (16, false), .mv, [.tmp 2]⟩,
       ⟨some 18, some (16, false), .bin .lss, [.tmp 17, .const (.int .i64 0)]⟩,
       ⟨some 19, none, .pick, [.tmp 16, .const (.bool true), .tmp 18]⟩,
       ⟨some 20, none, .mv, [.tmp 19]⟩,
       ⟨some 21, some (20, false), .mv, [.tmp 2]⟩,
       ⟨some 22, some (20, false), .bin .gtr, [.tmp 21, .const (.int .i64 2)]⟩,
       ⟨some 23, none, .pick, [.tmp 20, .const (.bool true), .tmp 22]⟩]) (
     .cond (.tmp 23) (
      .seq (
       .reg [] false [⟨some 24, none, .mkIface t_api_Errno, [.const (.int .i64 1)]⟩,
         ⟨some 6, none, .mv, [.const (.str [])]⟩,
         ⟨some 7, none, .mv, [.tmp 24]⟩]) (
       .ret)) (
      .skip))) (
    .seq (
     .reg [1, 0, 2] false [⟨some 25, none, .mv, [.tmp 1]⟩,
       ⟨some 26, none, .mv, [.tmp 0]⟩,
       ⟨some 27, none, .len true, [.tmp 26]⟩,
       ⟨some 28, none, .bin .sub, [.tmp 25, .tmp 27]⟩,
       ⟨some 8, none, .mv, [.tmp 28]⟩]) (
     .seq (
      .seq (
       .reg [1, 0, 8, 2] false [⟨some 29, none, .mv, [.tmp 8]⟩,
         ⟨some 30, none, .bin .leq, [.tmp 29, .const (.int .i64 0)]⟩]) (
       .cond (.tmp 30) (
        .seq (
         .reg [1, 0] false [⟨some 31, none, .mv, [.tmp 0]⟩,
           ⟨some 32, none, .mv, [.tmp 1]⟩,
           ⟨some 33, none, .slc none false true, [.tmp 31, .tmp 32]⟩,
           ⟨some 6, none, .mv, [.tmp 33]⟩,
           ⟨some 7, none, .mv, [.const (.nili)]⟩]) (
         .ret)) (
        .skip))) (
      .seq (
       .reg [8, 0, 2] false [⟨some 34, none, .mv, [.tmp 8]⟩,
         ⟨some 35, none, .bin .quo, [.tmp 34, .const (.int .i64 2)]⟩,
         ⟨some 36, none, .mv, [.tmp 8]⟩,
         ⟨some 37, none, .build [.int .i64 0, .int .i64 0, .int .i64 0] [(0, 1), (1, 1), (2, 1)], [.const (.int .i64 0), .tmp 35, .tmp 36]⟩,
         ⟨some 38, none, .mv, [.tmp 2]⟩,
         ⟨some 39, none, .idxAgg 1 3 false, [.tmp 37, .tmp 38]⟩,
         ⟨some 9, none, .mv, [.tmp 39]⟩]) (
       .seq (
        .reg [9, 8, 0] false [⟨some 40, none, .mv, [.tmp 9]⟩,
          ⟨some 41, none, .call f_strings_Repeat true, [.const (.str [32]), .tmp 40]⟩,
          ⟨some 42, none, .mv, [.tmp 0]⟩,
          ⟨some 43, none, .bin .add, [.tmp 41, .tmp 42]⟩,
          ⟨some 44, none, .mv, [.tmp 8]⟩,
          ⟨some 45, none, .mv, [.tmp 9]⟩,
          ⟨some 46, none, .bin .sub, [.tmp 44, .tmp 45]⟩,
          ⟨some 47, none, .call f_strings_Repeat true, [.const (.str [32]), .tmp 46]⟩,
          ⟨some 48, none, .bin .add, [.tmp 43, .tmp 47]⟩,
          ⟨some 6, none, .mv, [.tmp 48]⟩,
          ⟨some 7, none, .mv, [.const (.nili)]⟩]) (
        .ret))))))
def a_format_Wide : AF := { results := [.tmp 6, .tmp 7], body := b_format_Wide }

/- sccsettle/sccref3.Letters, 1 params, 0 free: [] -/
/- a loop's body; at its head: [0, 3] -/
def b_sccref3_Letters_0 : AC :=
  .seq (
   .seq (
    .reg [0, 3] false [⟨some 5, none, .mv, [.tmp 0]⟩,
      ⟨some 6, none, .bin .gtr, [.tmp 5, .const (.int .i64 0)]⟩]) (
    .cond (.tmp 6) (
     .skip) (
     .exit 0))) (
   .block 1 [0, 3] (
    .seq (
     .reg [0, 3] false [⟨some 7, none, .mv, [.tmp 0]⟩,
       ⟨some 8, none, .bin .rem, [.tmp 7, .const (.int .i64 26)]⟩,
       ⟨some 4, none, .mv, [.tmp 8]⟩]) (
     .seq (
      .seq (
       .reg [0, 3, 4] false [⟨some 9, none, .mv, [.tmp 4]⟩,
         ⟨some 10, none, .bin .eql, [.tmp 9, .const (.int .i64 0)]⟩]) (
       .cond (.tmp 10) (
        .reg [0, 3] false [⟨some 4, none, .mv, [.const (.int .i64 26)]⟩]) (
        .skip))) (
      .seq (
       .reg [4, 0, 3] false [⟨some 11, none, .mv, [.tmp 4]⟩,
         ⟨some 12, none, .bin .add, [.const (.int .i64 64), .tmp 11]⟩,
         ⟨some 13, none, .convInt .u8, [.tmp 12]⟩,
         ⟨some 14, none, .bslice 1, [.tmp 13]⟩,
         ⟨some 15, none, .bytesToStr, [.tmp 14]⟩,
         ⟨some 16, none, .mv, [.tmp 3]⟩,
         ⟨some 17, none, .bin .add, [.tmp 15, .tmp 16]⟩,
         ⟨some 3, none, .mv, [.tmp 17]⟩]) (
       .reg [3, 4, 0] false [⟨some 18, none, .mv, [.tmp 0]⟩,
         ⟨some 19, none, .mv, [.tmp 4]⟩,
         ⟨some 20, none, .bin .sub, [.tmp 18, .tmp 19]⟩,
         ⟨some 21, none, .bin .quo, [.tmp 20, .const (.int .i64 26)]⟩,
         ⟨some 0, none, .mv, [.tmp 21]⟩])))))

def b_sccref3_Letters : AC :=
  .seq (
   .reg [0] false [⟨some 2, none, .mv, [.const (.str [])]⟩]) (
   .seq (
    .reg [0] false [⟨some 3, none, .mv, [.const (.str [])]⟩]) (
    .seq (
     .block 0 [3] (
      .loop [0, 3] b_sccref3_Letters_0)) (
     .seq (
      .reg [3] false [⟨some 22, none, .mv, [.tmp 3]⟩,
        ⟨some 2, none, .mv, [.tmp 22]⟩]) (
      .ret))))
def a_sccref3_Letters : AF := { results := [.tmp 2], body := b_sccref3_Letters }

/- sccsettle/format.Column, 1 params, 0 free: [] -/
/- a loop's body; at its head: [0, 4] -/
def b_format_Column_0 : AC :=
  .seq (
   .seq (
    .reg [0, 4] false [⟨some 12, none, .mv, [.tmp 0]⟩,
      ⟨some 13, none, .bin .gtr, [.tmp 12, .const (.int .i64 0)]⟩]) (
    .cond (.tmp 13) (
     .skip) (
     .exit 0))) (
   .seq (
    .block 1 [4, 0] (
     .reg [0, 4] false [⟨some 17, none, .mv, [.tmp 0]⟩,
       ⟨some 18, none, .bin .sub, [.tmp 17, .const (.int .i64 1)]⟩,
       ⟨some 19, none, .bin .rem, [.tmp 18, .const (.int .i64 26)]⟩,
       ⟨some 20, none, .bin .add, [.const (.int .i64 65), .tmp 19]⟩,
       ⟨some 21, none, .convInt .i32, [.tmp 20]⟩,
       ⟨some 22, none, .convRune, [.tmp 21]⟩,
       ⟨some 23, none, .mv, [.tmp 4]⟩,
       ⟨some 24, none, .bin .add, [.tmp 22, .tmp 23]⟩,
       ⟨some 4, none, .mv, [.tmp 24]⟩])) (
    .reg [4, 0] false [⟨some 14, none, .mv, [.tmp 0]⟩,
      ⟨some 15, none, .bin .sub, [.tmp 14, .const (.int .i64 1)]⟩,
      ⟨some 16, none, .bin .quo, [.tmp 15, .const (.int .i64 26)]⟩,
      ⟨some 0, none, .mv, [.tmp 16]⟩]))

def b_format_Column : AC :=
  .seq (
   .reg [0] false [⟨some 2, none, .mv, [.const (.str [])]⟩,
     ⟨some 3, none, .mv, [.const (.nili)]⟩]) (
   .seq (
    .seq (
     .reg [0] false [⟨some 5, none, .mv, [.tmp 0]⟩,
       ⟨some 6, none, .bin .lss, [.tmp 5, .const (.int .i64 1)]⟩,
       ⟨some 7, none, .mv, [.tmp 6]⟩,
       ⟨some 8, some (7, false), .mv, [.tmp 0]⟩,
       ⟨some 9, some (7, false), .bin .gtr, [.tmp 8, .const (.int .i64 1000000)]⟩,
       ⟨some 10, none, .pick, [.tmp 7, .const (.bool true), .tmp 9]⟩]) (
     .cond (.tmp 10) (
      .seq (
       .reg [] false [⟨some 11, none, .mkIface t_api_Errno, [.const (.int .i64 1)]⟩,
         ⟨some 2, none, .mv, [.const (.str [])]⟩,
         ⟨some 3, none, .mv, [.tmp 11]⟩]) (
       .ret)) (
      .skip))) (
    .seq (
     .reg [0] false [⟨some 4, none, .mv, [.const (.str [])]⟩]) (
     .seq (
      .block 0 [4] (
       .loop [0, 4] b_format_Column_0)) (
      .seq (
       .reg [4] false [⟨some 25, none, .mv, [.tmp 4]⟩,
         ⟨some 2, none, .mv, [.tmp 25]⟩,
         ⟨some 3, none, .mv, [.const (.nili)]⟩]) (
       .ret)))))
def a_format_Column : AF := { results := [.tmp 2, .tmp 3], body := b_format_Column }

/- sccsettle/format.Number, 1 params, 0 free: [] -/
/- a loop's body; at its head: [18, 4, 16, 17] -/
def b_format_Number_0 : AC :=
  .seq (
   .reg [16, 17, 18, 4] false [⟨some 19, none, .bin .lss, [.tmp 18, .tmp 17]⟩]) (
   .seq (
    .cond (.tmp 19) (
     .skip) (
     .exit 0)) (
    .seq (
     .block 1 [4, 16, 17, 18] (
      .seq (
       .reg [16, 17, 18, 4] false [⟨some 20, none, .idxAddr 1, [.tmp 16, .tmp 18]⟩,
         ⟨some 21, none, .load 1 false, [.tmp 20]⟩,
         ⟨some 6, none, .mv, [.tmp 21]⟩]) (
       .seq (
        .seq (
         .reg [16, 17, 18, 6, 4] false [⟨some 22, none, .mv, [.tmp 6]⟩,
           ⟨some 23, none, .bin .lss, [.tmp 22, .const (.int .u8 65)]⟩,
           ⟨some 24, none, .mv, [.tmp 23]⟩,
           ⟨some 25, some (24, false), .mv, [.tmp 6]⟩,
           ⟨some 26, some (24, false), .bin .gtr, [.tmp 25, .const (.int .u8 90)]⟩,
           ⟨some 27, none, .pick, [.tmp 24, .const (.bool true), .tmp 26]⟩]) (
         .cond (.tmp 27) (
          .seq (
           .reg [] false [⟨some 28, none, .mkIface t_api_Errno, [.const (.int .i64 2)]⟩,
             ⟨some 2, none, .mv, [.const (.int .i64 0)]⟩,
             ⟨some 3, none, .mv, [.tmp 28]⟩]) (
           .ret)) (
          .skip))) (
        .reg [16, 17, 18, 6, 4] false [⟨some 29, none, .mv, [.tmp 4]⟩,
          ⟨some 30, none, .bin .mul, [.tmp 29, .const (.int .i64 26)]⟩,
          ⟨some 31, none, .mv, [.tmp 6]⟩,
          ⟨some 32, none, .bin .sub, [.tmp 31, .const (.int .u8 65)]⟩,
          ⟨some 33, none, .convInt .i64, [.tmp 32]⟩,
          ⟨some 34, none, .bin .add, [.tmp 30, .tmp 33]⟩,
          ⟨some 35, none, .bin .add, [.tmp 34, .const (.int .i64 1)]⟩,
          ⟨some 4, none, .mv, [.tmp 35]⟩])))) (
     .reg [4, 16, 17, 18] false [⟨some 36, none, .bin .add, [.tmp 18, .const (.int .i64 1)]⟩,
       ⟨some 18, none, .mv, [.tmp 36]⟩])))

def b_format_Number : AC :=
  .seq (
   .reg [0] false [⟨some 2, none, .mv, [.const (.int .i64 0)]⟩,
     ⟨some 3, none, .mv, [.const (.nili)]⟩]) (
   .seq (
    .seq (
     .reg [0] false [⟨some 7, none, .mv, [.tmp 0]⟩,
       ⟨some 8, none, .bin .eql, [.tmp 7, .const (.str [])]⟩,
       ⟨some 9, none, .mv, [.tmp 8]⟩,
       ⟨some 10, some (9, false), .mv, [.tmp 0]⟩,
       ⟨some 11, some (9, false), .len true, [.tmp 10]⟩,
       ⟨some 12, some (9, false), .bin .gtr, [.tmp 11, .const (.int .i64 5)]⟩,
       ⟨some 13, none, .pick, [.tmp 9, .const (.bool true), .tmp 12]⟩]) (
     .cond (.tmp 13) (
      .seq (
       .reg [] false [⟨some 14, none, .mkIface t_api_Errno, [.const (.int .i64 2)]⟩,
         ⟨some 2, none, .mv, [.const (.int .i64 0)]⟩,
         ⟨some 3, none, .mv, [.tmp 14]⟩]) (
       .ret)) (
      .skip))) (
    .seq (
     .reg [0] false [⟨some 4, none, .mv, [.const (.int .i64 0)]⟩]) (
     .seq (
      .seq (
       .reg [4, 0] false [⟨some 15, none, .mv, [.tmp 0]⟩,
         ⟨some 16, none, .strToBytes, [.tmp 15]⟩,
         ⟨some 17, none, .len false, [.tmp 16]⟩,
         ⟨some 18, none, .mv, [.const (.int .i64 0)]⟩]) (
       .block 0 [4] (
        .loop [18, 4, 16, 17] b_format_Number_0))) (
      .seq (
       .seq (
        .reg [4] false [⟨some 37, none, .mv, [.tmp 4]⟩,
          ⟨some 38, none, .bin .gtr, [.tmp 37, .const (.int .i64 1000000)]⟩]) (
        .cond (.tmp 38) (
         .seq (
          .reg [] false [⟨some 39, none, .mkIface t_api_Errno, [.const (.int .i64 2)]⟩,
            ⟨some 2, none, .mv, [.const (.int .i64 0)]⟩,
            ⟨some 3, none, .mv, [.tmp 39]⟩]) (
          .ret)) (
         .skip))) (
       .seq (
        .reg [4] false [⟨some 40, none, .mv, [.tmp 4]⟩,
          ⟨some 2, none, .mv, [.tmp 40]⟩,
          ⟨some 3, none, .mv, [.const (.nili)]⟩]) (
        .ret))))))
def a_format_Number : AF := { results := [.tmp 2, .tmp 3], body := b_format_Number }

/- sccsettle/sccref3.Ticks, 3 params, 0 free: [] -/
/- a loop's body; at its head: [12, 7, 9, 11, 10] -/
def b_sccref3_Ticks_0 : AC :=
  .seq (
   .seq (
    .reg [7, 9, 10, 12, 11] false [⟨some 38, none, .mv, [.tmp 12]⟩,
      ⟨some 39, none, .mv, [.tmp 10]⟩,
      ⟨some 40, none, .bin .lss, [.tmp 38, .tmp 39]⟩]) (
    .cond (.tmp 40) (
     .skip) (
     .exit 2))) (
   .seq (
    .block 3 [7, 9, 11, 10, 12] (
     .reg [7, 9, 10, 12, 11] false [⟨some 43, none, .mv, [.tmp 11]⟩,
       ⟨some 44, none, .mv, [.tmp 9]⟩,
       ⟨some 45, none, .mv, [.tmp 12]⟩,
       ⟨some 46, none, .mv, [.tmp 7]⟩,
       ⟨some 47, none, .bin .mul, [.tmp 45, .tmp 46]⟩,
       ⟨some 48, none, .bin .add, [.tmp 44, .tmp 47]⟩,
       ⟨some 49, none, .bslice 1, [.tmp 48]⟩,
       ⟨some 50, none, .append 1 8, [.tmp 43, .tmp 49]⟩,
       ⟨some 11, none, .mv, [.tmp 50]⟩])) (
    .reg [7, 9, 11, 10, 12] false [⟨some 41, none, .mv, [.tmp 12]⟩,
      ⟨some 42, none, .bin .add, [.tmp 41, .const (.int .i64 1)]⟩,
      ⟨some 12, none, .mv, [.tmp 42]⟩]))

/- a loop's body; at its head: [7, 8, 2, 1, 0] -/
def b_sccref3_Ticks_1 : AC :=
  .seq (
   .block 1 [7, 2, 1, 0, 8] (
    .seq (
     .reg [7, 2, 1, 0, 8] false [⟨some 15, none, .mv, [.tmp 0]⟩,
       ⟨some 16, none, .mv, [.tmp 7]⟩,
       ⟨some 17, none, .bin .quo, [.tmp 15, .tmp 16]⟩,
       ⟨some 18, none, .mv, [.tmp 7]⟩,
       ⟨some 19, none, .bin .mul, [.tmp 17, .tmp 18]⟩,
       ⟨some 9, none, .mv, [.tmp 19]⟩]) (
     .seq (
      .seq (
       .reg [7, 2, 1, 0, 8, 9] false [⟨some 20, none, .mv, [.tmp 9]⟩,
         ⟨some 21, none, .mv, [.tmp 0]⟩,
         ⟨some 22, none, .bin .lss, [.tmp 20, .tmp 21]⟩]) (
       .cond (.tmp 22) (
        .reg [7, 2, 1, 0, 8, 9] false [⟨some 23, none, .mv, [.tmp 9]⟩,
          ⟨some 24, none, .mv, [.tmp 7]⟩,
          ⟨some 25, none, .bin .add, [.tmp 23, .tmp 24]⟩,
          ⟨some 9, none, .mv, [.tmp 25]⟩]) (
        .skip))) (
      .seq (
       .reg [7, 9, 2, 1, 0, 8] false [⟨some 10, none, .mv, [.const (.int .i64 0)]⟩]) (
       .seq (
        .seq (
         .reg [7, 9, 2, 1, 0, 8, 10] false [⟨some 26, none, .mv, [.tmp 9]⟩,
           ⟨some 27, none, .mv, [.tmp 1]⟩,
           ⟨some 28, none, .bin .leq, [.tmp 26, .tmp 27]⟩]) (
         .cond (.tmp 28) (
          .reg [7, 9, 2, 1, 0, 8] false [⟨some 29, none, .mv, [.tmp 1]⟩,
            ⟨some 30, none, .mv, [.tmp 9]⟩,
            ⟨some 31, none, .bin .sub, [.tmp 29, .tmp 30]⟩,
            ⟨some 32, none, .mv, [.tmp 7]⟩,
            ⟨some 33, none, .bin .quo, [.tmp 31, .tmp 32]⟩,
            ⟨some 34, none, .bin .add, [.tmp 33, .const (.int .i64 1)]⟩,
            ⟨some 10, none, .mv, [.tmp 34]⟩]) (
          .skip))) (
        .seq (
         .seq (
          .reg [7, 9, 10, 2, 1, 0, 8] false [⟨some 35, none, .mv, [.tmp 10]⟩,
            ⟨some 36, none, .mv, [.tmp 2]⟩,
            ⟨some 37, none, .bin .leq, [.tmp 35, .tmp 36]⟩]) (
          .cond (.tmp 37) (
           .seq (
            .reg [7, 9, 10] false [⟨some 11, none, .mv, [.const (.lst (some true) 0 [])]⟩]) (
            .seq (
             .seq (
              .reg [7, 9, 11, 10] false [⟨some 12, none, .mv, [.const (.int .i64 0)]⟩]) (
              .block 2 [11] (
               .loop [12, 7, 9, 11, 10] b_sccref3_Ticks_0))) (
             .seq (
              .reg [11] false [⟨some 51, none, .mv, [.tmp 11]⟩,
                ⟨some 6, none, .mv, [.tmp 51]⟩]) (
              .ret)))) (
           .skip))) (
         .seq (
          .reg [2, 1, 0, 8, 7] false [⟨some 52, none, .mv, [.tmp 8]⟩,
            ⟨some 53, none, .bin .rem, [.tmp 52, .const (.int .i64 3)]⟩,
            ⟨some 54, none, .bin .eql, [.tmp 53, .const (.int .i64 1)]⟩]) (
          .cond (.tmp 54) (
           .reg [2, 1, 0, 8, 7] false [⟨some 55, none, .mv, [.tmp 7]⟩,
             ⟨some 56, none, .bin .quo, [.tmp 55, .const (.int .i64 2)]⟩,
             ⟨some 57, none, .bin .mul, [.tmp 56, .const (.int .i64 5)]⟩,
             ⟨some 7, none, .mv, [.tmp 57]⟩]) (
           .reg [2, 1, 0, 8, 7] false [⟨some 58, none, .mv, [.tmp 7]⟩,
             ⟨some 59, none, .bin .mul, [.tmp 58, .const (.int .i64 2)]⟩,
             ⟨some 7, none, .mv, [.tmp 59]⟩]))))))))) (
   .reg [7, 2, 1, 0, 8] false [⟨some 13, none, .mv, [.tmp 8]⟩,
     ⟨some 14, none, .bin .add, [.tmp 13, .const (.int .i64 1)]⟩,
     ⟨some 8, none, .mv, [.tmp 14]⟩])

def b_sccref3_Ticks : AC :=
  .seq (
   .reg [2, 1, 0] false [⟨some 6, none, .mv, [.const (.lst (some true) 0 [])]⟩]) (
   .seq (
    .reg [2, 1, 0] false [⟨some 7, none, .mv, [.const (.int .i64 1)]⟩]) (
    .seq (
     .reg [7, 2, 1, 0] false [⟨some 8, none, .mv, [.const (.int .i64 0)]⟩]) (
     .block 0 [6] (
      .loop [7, 8, 2, 1, 0] b_sccref3_Ticks_1))))
def a_sccref3_Ticks : AF := { results := [.tmp 6], body := b_sccref3_Ticks }

/- sccsettle/chart.Ticks, 3 params, 0 free: [] -/
/- a loop's body; at its head: [8, 1, 0, 9, 2] -/
def b_chart_Ticks_0 : AC :=
  .seq (
   .block 1 [8, 1, 0, 2, 9] (
    .seq (
     .seq (
      .reg [8, 1, 0, 2, 9] false [⟨some 36, none, .mv, [.tmp 1]⟩,
        ⟨some 37, none, .mv, [.tmp 8]⟩,
        ⟨some 38, none, .call f_chart_floor true, [.tmp 36, .tmp 37]⟩,
        ⟨some 39, none, .mv, [.tmp 0]⟩,
        ⟨some 40, none, .bin .sub, [.tmp 39, .const (.int .i64 1)]⟩,
        ⟨some 41, none, .mv, [.tmp 8]⟩,
        ⟨some 42, none, .call f_chart_floor true, [.tmp 40, .tmp 41]⟩,
        ⟨some 43, none, .bin .sub, [.tmp 38, .tmp 42]⟩,
        ⟨some 44, none, .mv, [.tmp 2]⟩,
        ⟨some 45, none, .bin .leq, [.tmp 43, .tmp 44]⟩]) (
      .cond (.tmp 45) (
       .exit 0) (
       .skip))) (
     .reg [1, 0, 2, 9, 8] true [⟨some 46, none, .mv, [.tmp 8]⟩,
       ⟨some 47, none, .build [.int .i64 0, .int .i64 0, .int .i64 0] [(0, 1), (1, 1), (2, 1)], [.const (.int .i64 2), .const (.int .i64 5), .const (.int .i64 2)]⟩,
       ⟨some 48, none, .mv, [.tmp 9]⟩,
       ⟨some 49, none, .bin .rem, [.tmp 48, .const (.int .i64 3)]⟩,
       ⟨some 50, none, .idxAgg 1 3 false, [.tmp 47, .tmp 49]⟩,
       ⟨some 51, none, .bin .mul, [.tmp 46, .tmp 50]⟩,
       ⟨some 52, none, .build [.int .i64 0, .int .i64 0, .int .i64 0] [(0, 1), (1, 1), (2, 1)], [.const (.int .i64 1), .const (.int .i64 2), .const (.int .i64 1)]⟩,
       ⟨some 53, none, .mv, [.tmp 9]⟩,
       ⟨some 54, none, .bin .rem, [.tmp 53, .const (.int .i64 3)]⟩,
       ⟨some 55, none, .idxAgg 1 3 false, [.tmp 52, .tmp 54]⟩,
       ⟨some 56, none, .bin .quo, [.tmp 51, .tmp 55]⟩,
       ⟨some 8, none, .mv, [.tmp 56]⟩]))) (
   .reg [8, 1, 0, 2, 9] false [⟨some 34, none, .mv, [.tmp 9]⟩,
     ⟨some 35, none, .bin .add, [.tmp 34, .const (.int .i64 1)]⟩,
     ⟨some 9, none, .mv, [.tmp 35]⟩])

/- a loop's body; at its head: [8, 11, 10, 1] -/
def b_chart_Ticks_1 : AC :=
  .seq (
   .seq (
    .reg [8, 1, 11, 10] false [⟨some 64, none, .mv, [.tmp 11]⟩,
      ⟨some 65, none, .mv, [.tmp 1]⟩,
      ⟨some 66, none, .bin .leq, [.tmp 64, .tmp 65]⟩]) (
    .cond (.tmp 66) (
     .skip) (
     .exit 2))) (
   .seq (
    .block 3 [8, 10, 1, 11] (
     .reg [8, 1, 11, 10] false [⟨some 70, none, .mv, [.tmp 10]⟩,
       ⟨some 71, none, .mv, [.tmp 11]⟩,
       ⟨some 72, none, .mv, [.tmp 11]⟩,
       ⟨some 73, none, .call f_strconv_Itoa true, [.tmp 72]⟩,
       ⟨some 74, none, .build [.int .i64 0, .str []] [(0, 1), (1, 1)], [.tmp 71, .tmp 73]⟩,
       ⟨some 75, none, .bslice 2, [.tmp 74]⟩,
       ⟨some 76, none, .append 2 24, [.tmp 70, .tmp 75]⟩,
       ⟨some 10, none, .mv, [.tmp 76]⟩])) (
    .reg [8, 10, 1, 11] false [⟨some 67, none, .mv, [.tmp 11]⟩,
      ⟨some 68, none, .mv, [.tmp 8]⟩,
      ⟨some 69, none, .bin .add, [.tmp 67, .tmp 68]⟩,
      ⟨some 11, none, .mv, [.tmp 69]⟩]))

def b_chart_Ticks : AC :=
  .seq (
   .reg [1, 0, 2] false [⟨some 6, none, .mv, [.const (.lst (some true) 0 [])]⟩,
     ⟨some 7, none, .mv, [.const (.nili)]⟩]) (
   .seq (
    .seq (
     .reg [1, 0, 2] false [⟨some 12, none, .mv, [.tmp 0]⟩,
       ⟨some 13, none, .mv, [.tmp 1]⟩,
       ⟨some 14, none, .bin .gtr, [.tmp 12, .tmp 13]⟩,
       ⟨some 15, none, .mv, [.tmp 14]⟩,
       ⟨some 16, some (15, false), .mv, [.tmp 0]⟩,
       ⟨some 17, some (15, false), .call f_chart_near true, [.tmp 16]⟩,
       ⟨some 18, some (15, false), .un .not, [.tmp 17]⟩,
       ⟨some 19, none, .pick, [.tmp 15, .const (.bool true), .tmp 18]⟩,
       ⟨some 20, none, .mv, [.tmp 19]⟩,
       ⟨some 21, some (20, false), .mv, [.tmp 1]⟩,
       ⟨some 22, some (20, false), .call f_chart_near true, [.tmp 21]⟩,
       ⟨some 23, some (20, false), .un .not, [.tmp 22]⟩,
       ⟨some 24, none, .pick, [.tmp 20, .const (.bool true), .tmp 23]⟩,
       ⟨some 25, none, .mv, [.tmp 24]⟩,
       ⟨some 26, some (25, false), .mv, [.tmp 2]⟩,
       ⟨some 27, some (25, false), .bin .lss, [.tmp 26, .const (.int .i64 1)]⟩,
       ⟨some 28, none, .pick, [.tmp 25, .const (.bool true), .tmp 27]⟩,
       ⟨some 29, none, .mv, [.tmp 28]⟩,
       ⟨some 30, some (29, false), .mv, [.tmp 2]⟩,
       ⟨some 31, some (29, false), .bin .gtr, [.tmp 30, .const (.int .i64 60)]⟩,
       ⟨some 32, none, .pick, [.tmp 29, .const (.bool true), .tmp 31]⟩]) (
     .cond (.tmp 32) (
      .seq (
       .reg [] false [⟨some 33, none, .mkIface t_api_Errno, [.const (.int .i64 1)]⟩,
         ⟨some 6, none, .mv, [.const (.lst (some true) 0 [])]⟩,
         ⟨some 7, none, .mv, [.tmp 33]⟩]) (
       .ret)) (
      .skip))) (
    .seq (
     .reg [1, 0, 2] false [⟨some 8, none, .mv, [.const (.int .i64 1)]⟩]) (
     .seq (
      .seq (
       .reg [8, 1, 0, 2] false [⟨some 9, none, .mv, [.const (.int .i64 0)]⟩]) (
       .block 0 [8, 1, 0] (
        .loop [8, 1, 0, 9, 2] b_chart_Ticks_0))) (
      .seq (
       .reg [8, 1, 0] false [⟨some 10, none, .mv, [.const (.lst (some true) 0 [])]⟩]) (
       .seq (
        .seq (
         .reg [8, 10, 1, 0] false [⟨some 57, none, .mv, [.tmp 0]⟩,
           ⟨some 58, none, .un .neg, [.tmp 57]⟩,
           ⟨some 59, none, .mv, [.tmp 8]⟩,
           ⟨some 60, none, .call f_chart_floor true, [.tmp 58, .tmp 59]⟩,
           ⟨some 61, none, .un .neg, [.tmp 60]⟩,
           ⟨some 62, none, .mv, [.tmp 8]⟩,
           ⟨some 63, none, .bin .mul, [.tmp 61, .tmp 62]⟩,
           ⟨some 11, none, .mv, [.tmp 63]⟩]) (
         .block 2 [10] (
          .loop [8, 11, 10, 1] b_chart_Ticks_1))) (
        .seq (
         .reg [10] false [⟨some 77, none, .mv, [.tmp 10]⟩,
           ⟨some 6, none, .mv, [.tmp 77]⟩,
           ⟨some 7, none, .mv, [.const (.nili)]⟩]) (
         .ret)))))))
def a_chart_Ticks : AF := { results := [.tmp 6, .tmp 7], body := b_chart_Ticks }

/- sccsettle/sccref1.Digits, 1 params, 0 free: [] -/
def b_sccref1_Digits : AC :=
  .seq (
   .reg [0] false [⟨some 2, none, .mv, [.const (.str [])]⟩]) (
   .seq (
    .reg [0] false [⟨some 3, none, .mv, [.tmp 0]⟩,
      ⟨some 4, none, .call f_sccsettlebig_NewInt true, [.tmp 3]⟩,
      ⟨some 5, none, .call f_sccsettlebig_Int__String true, [.tmp 4]⟩,
      ⟨some 2, none, .mv, [.tmp 5]⟩]) (
    .ret))
def a_sccref1_Digits : AF := { results := [.tmp 2], body := b_sccref1_Digits }

/- sccsettle/sccref3.Table, 1 params, 0 free: [] -/
/- a loop's body; at its head: [3, 0] -/
def b_sccref3_Table_0 : AC :=
  .seq (
   .seq (
    .reg [0, 3] false [⟨some 11, none, .mv, [.tmp 3]⟩,
      ⟨some 12, none, .mv, [.tmp 0]⟩,
      ⟨some 13, none, .len false, [.tmp 12]⟩,
      ⟨some 14, none, .bin .lss, [.tmp 11, .tmp 13]⟩]) (
    .cond (.tmp 14) (
     .skip) (
     .exit 0))) (
   .seq (
    .block 1 [0, 3] (
     .seq (
      .reg [0, 3] false [⟨some 17, none, .mv, [.tmp 0]⟩,
        ⟨some 18, none, .mv, [.tmp 3]⟩,
        ⟨some 19, none, .idxAddr 1, [.tmp 17, .tmp 18]⟩,
        ⟨some 20, none, .load 1 false, [.tmp 19]⟩,
        ⟨some 21, none, .len false, [.tmp 20]⟩,
        ⟨some 22, none, .bin .gtr, [.tmp 21, .const (.int .i64 12)]⟩]) (
      .cond (.tmp 22) (
       .seq (
        .reg [] false [⟨some 2, none, .mv, [.const (.int .i64 4)]⟩]) (
        .ret)) (
       .skip)))) (
    .reg [0, 3] false [⟨some 15, none, .mv, [.tmp 3]⟩,
      ⟨some 16, none, .bin .add, [.tmp 15, .const (.int .i64 1)]⟩,
      ⟨some 3, none, .mv, [.tmp 16]⟩]))

/- a loop's body; at its head: [4, 0] -/
def b_sccref3_Table_1 : AC :=
  .seq (
   .seq (
    .reg [0, 4] false [⟨some 23, none, .mv, [.tmp 4]⟩,
      ⟨some 24, none, .mv, [.tmp 0]⟩,
      ⟨some 25, none, .len false, [.tmp 24]⟩,
      ⟨some 26, none, .bin .lss, [.tmp 23, .tmp 25]⟩]) (
    .cond (.tmp 26) (
     .skip) (
     .exit 2))) (
   .seq (
    .block 3 [0, 4] (
     .seq (
      .reg [0, 4] true [⟨some 29, none, .mv, [.tmp 0]⟩,
        ⟨some 30, none, .mv, [.tmp 4]⟩,
        ⟨some 31, none, .idxAddr 1, [.tmp 29, .tmp 30]⟩,
        ⟨some 32, none, .load 1 false, [.tmp 31]⟩,
        ⟨some 33, none, .len false, [.tmp 32]⟩,
        ⟨some 34, none, .mv, [.tmp 0]⟩,
        ⟨some 35, none, .idxAddr 1, [.tmp 34, .const (.int .i64 0)]⟩,
        ⟨some 36, none, .load 1 false, [.tmp 35]⟩,
        ⟨some 37, none, .len false, [.tmp 36]⟩,
        ⟨some 38, none, .bin .neq, [.tmp 33, .tmp 37]⟩]) (
      .cond (.tmp 38) (
       .seq (
        .reg [] false [⟨some 2, none, .mv, [.const (.int .i64 3)]⟩]) (
        .ret)) (
       .skip)))) (
    .reg [0, 4] false [⟨some 27, none, .mv, [.tmp 4]⟩,
      ⟨some 28, none, .bin .add, [.tmp 27, .const (.int .i64 1)]⟩,
      ⟨some 4, none, .mv, [.tmp 28]⟩]))

/- a loop's body; at its head: [6, 5, 0] -/
def b_sccref3_Table_2 : AC :=
  .seq (
   .seq (
    .reg [5, 0, 6] false [⟨some 45, none, .mv, [.tmp 6]⟩,
      ⟨some 46, none, .mv, [.tmp 0]⟩,
      ⟨some 47, none, .mv, [.tmp 5]⟩,
      ⟨some 48, none, .idxAddr 1, [.tmp 46, .tmp 47]⟩,
      ⟨some 49, none, .load 1 false, [.tmp 48]⟩,
      ⟨some 50, none, .len false, [.tmp 49]⟩,
      ⟨some 51, none, .bin .lss, [.tmp 45, .tmp 50]⟩]) (
    .cond (.tmp 51) (
     .skip) (
     .exit 6))) (
   .seq (
    .block 7 [5, 0, 6] (
     .seq (
      .reg [5, 0, 6] false [⟨some 54, none, .mv, [.tmp 0]⟩,
        ⟨some 55, none, .mv, [.tmp 5]⟩,
        ⟨some 56, none, .idxAddr 1, [.tmp 54, .tmp 55]⟩,
        ⟨some 57, none, .load 1 false, [.tmp 56]⟩,
        ⟨some 58, none, .mv, [.tmp 6]⟩,
        ⟨some 59, none, .idxAddr 3, [.tmp 57, .tmp 58]⟩,
        ⟨some 60, none, .load 3 true, [.tmp 59]⟩,
        ⟨some 61, none, .call f_sccref1_Is true, [.tmp 60]⟩,
        ⟨some 7, none, .mv, [.tmp 61]⟩]) (
      .seq (
       .reg [5, 0, 6, 7] false [⟨some 62, none, .mv, [.tmp 7]⟩,
         ⟨some 63, none, .un .not, [.tmp 62]⟩]) (
       .cond (.tmp 63) (
        .seq (
         .reg [] false [⟨some 2, none, .mv, [.const (.int .i64 1)]⟩]) (
         .ret)) (
        .skip))))) (
    .reg [5, 0, 6] false [⟨some 52, none, .mv, [.tmp 6]⟩,
      ⟨some 53, none, .bin .add, [.tmp 52, .const (.int .i64 1)]⟩,
      ⟨some 6, none, .mv, [.tmp 53]⟩]))

/- a loop's body; at its head: [5, 0] -/
def b_sccref3_Table_3 : AC :=
  .seq (
   .seq (
    .reg [5, 0] false [⟨some 39, none, .mv, [.tmp 5]⟩,
      ⟨some 40, none, .mv, [.tmp 0]⟩,
      ⟨some 41, none, .len false, [.tmp 40]⟩,
      ⟨some 42, none, .bin .lss, [.tmp 39, .tmp 41]⟩]) (
    .cond (.tmp 42) (
     .skip) (
     .exit 4))) (
   .seq (
    .block 5 [0, 5] (
     .seq (
      .reg [5, 0] false [⟨some 6, none, .mv, [.const (.int .i64 0)]⟩]) (
      .block 6 [0, 5] (
       .loop [6, 5, 0] b_sccref3_Table_2)))) (
    .reg [0, 5] false [⟨some 43, none, .mv, [.tmp 5]⟩,
      ⟨some 44, none, .bin .add, [.tmp 43, .const (.int .i64 1)]⟩,
      ⟨some 5, none, .mv, [.tmp 44]⟩]))

def b_sccref3_Table : AC :=
  .seq (
   .reg [0] false [⟨some 2, none, .mv, [.const (.int .i64 0)]⟩]) (
   .seq (
    .seq (
     .reg [0] false [⟨some 8, none, .mv, [.tmp 0]⟩,
       ⟨some 9, none, .len false, [.tmp 8]⟩,
       ⟨some 10, none, .bin .gtr, [.tmp 9, .const (.int .i64 60)]⟩]) (
     .cond (.tmp 10) (
      .seq (
       .reg [] false [⟨some 2, none, .mv, [.const (.int .i64 4)]⟩]) (
       .ret)) (
      .skip))) (
    .seq (
     .seq (
      .reg [0] false [⟨some 3, none, .mv, [.const (.int .i64 0)]⟩]) (
      .block 0 [0] (
       .loop [3, 0] b_sccref3_Table_0))) (
     .seq (
      .seq (
       .reg [0] false [⟨some 4, none, .mv, [.const (.int .i64 0)]⟩]) (
       .block 2 [0] (
        .loop [4, 0] b_sccref3_Table_1))) (
      .seq (
       .seq (
        .reg [0] false [⟨some 5, none, .mv, [.const (.int .i64 0)]⟩]) (
        .block 4 [] (
         .loop [5, 0] b_sccref3_Table_3))) (
       .seq (
        .reg [] false [⟨some 2, none, .mv, [.const (.int .i64 0)]⟩]) (
        .ret))))))
def a_sccref3_Table : AF := { results := [.tmp 2], body := b_sccref3_Table }

/- sccsettle/sort.Check, 1 params, 0 free: [] -/
/- a loop's body; at its head: [18, 16, 0, 17] -/
def b_sort_Check_0 : AC :=
  .seq (
   .reg [16, 0, 17, 18] false [⟨some 19, none, .bin .lss, [.tmp 18, .tmp 17]⟩]) (
   .seq (
    .cond (.tmp 19) (
     .skip) (
     .exit 0)) (
    .seq (
     .block 1 [16, 0, 17, 18] (
      .seq (
       .reg [16, 0, 17, 18] false [⟨some 20, none, .idxAddr 1, [.tmp 16, .tmp 18]⟩,
         ⟨some 21, none, .load 1 false, [.tmp 20]⟩,
         ⟨some 4, none, .mv, [.tmp 21]⟩]) (
       .seq (
        .reg [16, 0, 17, 18, 4] false [⟨some 22, none, .mv, [.tmp 4]⟩,
          ⟨some 23, none, .len false, [.tmp 22]⟩,
          ⟨some 24, none, .bin .gtr, [.tmp 23, .const (.int .i64 12)]⟩]) (
        .cond (.tmp 24) (
         .seq (
          .reg [] false [⟨some 25, none, .mkIface t_api_Errno, [.const (.int .i64 4)]⟩,
            ⟨some 2, none, .mv, [.tmp 25]⟩]) (
          .ret)) (
         .skip))))) (
     .reg [16, 0, 17, 18] false [⟨some 26, none, .bin .add, [.tmp 18, .const (.int .i64 1)]⟩,
       ⟨some 18, none, .mv, [.tmp 26]⟩])))

/- a loop's body; at its head: [29, 0, 27, 28] -/
def b_sort_Check_1 : AC :=
  .seq (
   .reg [0, 27, 28, 29] false [⟨some 30, none, .bin .lss, [.tmp 29, .tmp 28]⟩]) (
   .seq (
    .cond (.tmp 30) (
     .skip) (
     .exit 2)) (
    .seq (
     .block 3 [0, 27, 28, 29] (
      .seq (
       .reg [0, 27, 28, 29] false [⟨some 31, none, .idxAddr 1, [.tmp 27, .tmp 29]⟩,
         ⟨some 32, none, .load 1 false, [.tmp 31]⟩,
         ⟨some 6, none, .mv, [.tmp 32]⟩]) (
       .seq (
        .reg [0, 27, 28, 29, 6] false [⟨some 33, none, .mv, [.tmp 6]⟩,
          ⟨some 34, none, .len false, [.tmp 33]⟩,
          ⟨some 35, none, .mv, [.tmp 0]⟩,
          ⟨some 36, none, .idxAddr 1, [.tmp 35, .const (.int .i64 0)]⟩,
          ⟨some 37, none, .load 1 false, [.tmp 36]⟩,
          ⟨some 38, none, .len false, [.tmp 37]⟩,
          ⟨some 39, none, .bin .neq, [.tmp 34, .tmp 38]⟩]) (
        .cond (.tmp 39) (
         .seq (
          .reg [] false [⟨some 40, none, .mkIface t_api_Errno, [.const (.int .i64 3)]⟩,
            ⟨some 2, none, .mv, [.tmp 40]⟩]) (
          .ret)) (
         .skip))))) (
     .reg [0, 27, 28, 29] false [⟨some 41, none, .bin .add, [.tmp 29, .const (.int .i64 1)]⟩,
       ⟨some 29, none, .mv, [.tmp 41]⟩])))

/- a loop's body; at its head: [50, 48, 42, 43, 44, 49] -/
def b_sort_Check_2 : AC :=
  .seq (
   .reg [48, 42, 43, 44, 49, 50] false [⟨some 51, none, .bin .lss, [.tmp 50, .tmp 49]⟩]) (
   .seq (
    .cond (.tmp 51) (
     .skip) (
     .exit 6)) (
    .seq (
     .block 7 [48, 42, 43, 44, 49, 50] (
      .seq (
       .reg [48, 42, 43, 44, 49, 50] false [⟨some 52, none, .idxAddr 3, [.tmp 48, .tmp 50]⟩,
         ⟨some 53, none, .load 3 true, [.tmp 52]⟩,
         ⟨some 10, none, .alloc [.int .i64 0, .int .i64 0, .str []], []⟩,
         ⟨none, none, .store 3, [.tmp 10, .tmp 53]⟩]) (
       .seq (
        .reg [48, 42, 43, 44, 49, 50, 10] false [⟨some 54, none, .load 3 true, [.tmp 10]⟩,
          ⟨some 55, none, .call f_value_Check true, [.tmp 54]⟩,
          ⟨some 11, none, .mv, [.tmp 55]⟩]) (
        .seq (
         .reg [11, 48, 42, 43, 44, 49, 50] false [⟨some 56, none, .mv, [.tmp 11]⟩,
           ⟨some 57, none, .eqn .iface true true, [.tmp 56, .const (.nili)]⟩]) (
         .cond (.tmp 57) (
          .seq (
           .reg [11] false [⟨some 58, none, .mv, [.tmp 11]⟩,
             ⟨some 2, none, .mv, [.tmp 58]⟩]) (
           .ret)) (
          .skip)))))) (
     .reg [48, 42, 43, 44, 49, 50] false [⟨some 59, none, .bin .add, [.tmp 50, .const (.int .i64 1)]⟩,
       ⟨some 50, none, .mv, [.tmp 59]⟩])))

/- a loop's body; at its head: [44, 42, 43] -/
def b_sort_Check_3 : AC :=
  .seq (
   .reg [42, 43, 44] false [⟨some 45, none, .bin .lss, [.tmp 44, .tmp 43]⟩]) (
   .seq (
    .cond (.tmp 45) (
     .skip) (
     .exit 4)) (
    .seq (
     .block 5 [42, 43, 44] (
      .seq (
       .reg [42, 43, 44] false [⟨some 46, none, .idxAddr 1, [.tmp 42, .tmp 44]⟩,
         ⟨some 47, none, .load 1 false, [.tmp 46]⟩,
         ⟨some 8, none, .mv, [.tmp 47]⟩]) (
       .seq (
        .reg [42, 43, 44, 8] false [⟨some 48, none, .mv, [.tmp 8]⟩,
          ⟨some 49, none, .len false, [.tmp 48]⟩,
          ⟨some 50, none, .mv, [.const (.int .i64 0)]⟩]) (
        .block 6 [42, 43, 44] (
         .loop [50, 48, 42, 43, 44, 49] b_sort_Check_2))))) (
     .reg [42, 43, 44] false [⟨some 60, none, .bin .add, [.tmp 44, .const (.int .i64 1)]⟩,
       ⟨some 44, none, .mv, [.tmp 60]⟩])))

def b_sort_Check : AC :=
  .seq (
   .reg [0] false [⟨some 2, none, .mv, [.const (.nili)]⟩]) (
   .seq (
    .seq (
     .reg [0] false [⟨some 12, none, .mv, [.tmp 0]⟩,
       ⟨some 13, none, .len false, [.tmp 12]⟩,
       ⟨some 14, none, .bin .gtr, [.tmp 13, .const (.int .i64 60)]⟩]) (
     .cond (.tmp 14) (
      .seq (
       .reg [] false [⟨some 15, none, .mkIface t_api_Errno, [.const (.int .i64 4)]⟩,
         ⟨some 2, none, .mv, [.tmp 15]⟩]) (
       .ret)) (
      .skip))) (
    .seq (
     .seq (
      .reg [0] false [⟨some 16, none, .mv, [.tmp 0]⟩,
        ⟨some 17, none, .len false, [.tmp 16]⟩,
        ⟨some 18, none, .mv, [.const (.int .i64 0)]⟩]) (
      .block 0 [0] (
       .loop [18, 16, 0, 17] b_sort_Check_0))) (
     .seq (
      .seq (
       .reg [0] false [⟨some 27, none, .mv, [.tmp 0]⟩,
         ⟨some 28, none, .len false, [.tmp 27]⟩,
         ⟨some 29, none, .mv, [.const (.int .i64 0)]⟩]) (
       .block 2 [0] (
        .loop [29, 0, 27, 28] b_sort_Check_1))) (
      .seq (
       .seq (
        .reg [0] false [⟨some 42, none, .mv, [.tmp 0]⟩,
          ⟨some 43, none, .len false, [.tmp 42]⟩,
          ⟨some 44, none, .mv, [.const (.int .i64 0)]⟩]) (
        .block 4 [] (
         .loop [44, 42, 43] b_sort_Check_3))) (
       .seq (
        .reg [] false [⟨some 2, none, .mv, [.const (.nili)]⟩]) (
        .ret))))))
def a_sort_Check : AF := { results := [.tmp 2], body := b_sort_Check }

/- sccsettle/sccref3.Cols, 1 params, 0 free: [] -/
/- a loop's body; at its head: [4, 0, 3] -/
def b_sccref3_Cols_0 : AC :=
  .seq (
   .seq (
    .reg [0, 4, 3] false [⟨some 5, none, .mv, [.tmp 4]⟩,
      ⟨some 6, none, .mv, [.tmp 0]⟩,
      ⟨some 7, none, .len false, [.tmp 6]⟩,
      ⟨some 8, none, .bin .lss, [.tmp 5, .tmp 7]⟩]) (
    .cond (.tmp 8) (
     .skip) (
     .exit 0))) (
   .seq (
    .block 1 [0, 3, 4] (
     .reg [0, 4, 3] false [⟨some 11, none, .mv, [.tmp 3]⟩,
       ⟨some 12, none, .mv, [.tmp 0]⟩,
       ⟨some 13, none, .mv, [.tmp 4]⟩,
       ⟨some 14, none, .idxAddr 2, [.tmp 12, .tmp 13]⟩,
       ⟨some 15, none, .fieldAddr 0, [.tmp 14]⟩,
       ⟨some 16, none, .load 1 false, [.tmp 15]⟩,
       ⟨some 17, none, .bslice 1, [.tmp 16]⟩,
       ⟨some 18, none, .append 1 8, [.tmp 11, .tmp 17]⟩,
       ⟨some 3, none, .mv, [.tmp 18]⟩])) (
    .reg [0, 3, 4] false [⟨some 9, none, .mv, [.tmp 4]⟩,
      ⟨some 10, none, .bin .add, [.tmp 9, .const (.int .i64 1)]⟩,
      ⟨some 4, none, .mv, [.tmp 10]⟩]))

def b_sccref3_Cols : AC :=
  .seq (
   .reg [0] false [⟨some 2, none, .mv, [.const (.lst (some true) 0 [])]⟩]) (
   .seq (
    .reg [0] false [⟨some 3, none, .mv, [.const (.lst (some true) 0 [])]⟩]) (
    .seq (
     .seq (
      .reg [0, 3] false [⟨some 4, none, .mv, [.const (.int .i64 0)]⟩]) (
      .block 0 [3] (
       .loop [4, 0, 3] b_sccref3_Cols_0))) (
     .seq (
      .reg [3] false [⟨some 19, none, .mv, [.tmp 3]⟩,
        ⟨some 2, none, .mv, [.tmp 19]⟩]) (
      .ret))))
def a_sccref3_Cols : AF := { results := [.tmp 2], body := b_sccref3_Cols }

/- sccsettle/sccref3.Sort, 2 params, 0 free: [] -/
/- a loop's body; at its head: [7, 1, 0, 6, 5] -/
def b_sccref3_Sort_0 : AC :=
  .seq (
   .seq (
    .reg [1, 0, 6, 5, 7] true [⟨some 17, none, .mv, [.tmp 7]⟩,
      ⟨some 18, none, .bin .gtr, [.tmp 17, .const (.int .i64 0)]⟩,
      ⟨some 19, none, .mv, [.tmp 18]⟩,
      ⟨some 20, some (19, true), .mv, [.tmp 0]⟩,
      ⟨some 21, some (19, true), .mv, [.tmp 6]⟩,
      ⟨some 22, some (19, true), .idxAddr 1, [.tmp 20, .tmp 21]⟩,
      ⟨some 23, some (19, true), .load 1 false, [.tmp 22]⟩,
      ⟨some 24, some (19, true), .mv, [.tmp 0]⟩,
      ⟨some 25, some (19, true), .mv, [.tmp 5]⟩,
      ⟨some 26, some (19, true), .mv, [.tmp 7]⟩,
      ⟨some 27, some (19, true), .bin .sub, [.tmp 26, .const (.int .i64 1)]⟩,
      ⟨some 28, some (19, true), .idxAddr 1, [.tmp 25, .tmp 27]⟩,
      ⟨some 29, some (19, true), .load 1 false, [.tmp 28]⟩,
      ⟨some 30, some (19, true), .idxAddr 1, [.tmp 24, .tmp 29]⟩,
      ⟨some 31, some (19, true), .load 1 false, [.tmp 30]⟩,
      ⟨some 32, some (19, true), .mv, [.tmp 1]⟩,
      ⟨some 33, some (19, true), .call f_sccref3_Ahead true, [.tmp 23, .tmp 31, .tmp 32]⟩,
      ⟨some 34, none, .pick, [.tmp 19, .tmp 33, .const (.bool false)]⟩]) (
    .cond (.tmp 34) (
     .skip) (
     .exit 2))) (
   .block 3 [7, 1, 0, 6, 5] (
    .reg [1, 0, 6, 5, 7] false [⟨some 35, none, .mv, [.tmp 7]⟩,
      ⟨some 36, none, .bin .sub, [.tmp 35, .const (.int .i64 1)]⟩,
      ⟨some 7, none, .mv, [.tmp 36]⟩]))

/- a loop's body; at its head: [6, 5, 1, 0] -/
def b_sccref3_Sort_1 : AC :=
  .seq (
   .seq (
    .reg [1, 0, 6, 5] false [⟨some 9, none, .mv, [.tmp 6]⟩,
      ⟨some 10, none, .mv, [.tmp 0]⟩,
      ⟨some 11, none, .len false, [.tmp 10]⟩,
      ⟨some 12, none, .bin .lss, [.tmp 9, .tmp 11]⟩]) (
    .cond (.tmp 12) (
     .skip) (
     .exit 0))) (
   .seq (
    .block 1 [5, 1, 0, 6] (
     .seq (
      .reg [1, 0, 6, 5] false [⟨some 15, none, .mv, [.tmp 5]⟩,
        ⟨some 16, none, .len false, [.tmp 15]⟩,
        ⟨some 7, none, .mv, [.tmp 16]⟩]) (
      .seq (
       .block 2 [1, 0, 6, 7, 5] (
        .loop [7, 1, 0, 6, 5] b_sccref3_Sort_0)) (
       .seq (
        .reg [1, 0, 6, 7, 5] false [⟨some 8, none, .mv, [.const (.lst (some true) 0 [])]⟩]) (
        .seq (
         .reg [1, 0, 6, 7, 5, 8] false [⟨some 37, none, .mv, [.tmp 8]⟩,
           ⟨some 38, none, .mv, [.tmp 5]⟩,
           ⟨some 39, none, .mv, [.tmp 7]⟩,
           ⟨some 40, none, .slc (some 1) false true, [.tmp 38, .tmp 39]⟩,
           ⟨some 41, none, .append 1 8, [.tmp 37, .tmp 40]⟩,
           ⟨some 8, none, .mv, [.tmp 41]⟩]) (
         .seq (
          .reg [1, 0, 6, 7, 5, 8] false [⟨some 42, none, .mv, [.tmp 8]⟩,
            ⟨some 43, none, .mv, [.tmp 6]⟩,
            ⟨some 44, none, .bslice 1, [.tmp 43]⟩,
            ⟨some 45, none, .append 1 8, [.tmp 42, .tmp 44]⟩,
            ⟨some 8, none, .mv, [.tmp 45]⟩]) (
          .seq (
           .reg [1, 0, 6, 7, 5, 8] false [⟨some 46, none, .mv, [.tmp 8]⟩,
             ⟨some 47, none, .mv, [.tmp 5]⟩,
             ⟨some 48, none, .mv, [.tmp 7]⟩,
             ⟨some 49, none, .slc (some 1) true false, [.tmp 47, .tmp 48]⟩,
             ⟨some 50, none, .append 1 8, [.tmp 46, .tmp 49]⟩,
             ⟨some 8, none, .mv, [.tmp 50]⟩]) (
           .reg [1, 0, 6, 8] false [⟨some 51, none, .mv, [.tmp 8]⟩,
             ⟨some 5, none, .mv, [.tmp 51]⟩])))))))) (
    .reg [5, 1, 0, 6] false [⟨some 13, none, .mv, [.tmp 6]⟩,
      ⟨some 14, none, .bin .add, [.tmp 13, .const (.int .i64 1)]⟩,
      ⟨some 6, none, .mv, [.tmp 14]⟩]))

def b_sccref3_Sort : AC :=
  .seq (
   .reg [1, 0] false [⟨some 4, none, .mv, [.const (.lst (some true) 0 [])]⟩]) (
   .seq (
    .reg [1, 0] false [⟨some 5, none, .mv, [.const (.lst (some true) 0 [])]⟩]) (
    .seq (
     .seq (
      .reg [5, 1, 0] false [⟨some 6, none, .mv, [.const (.int .i64 0)]⟩]) (
      .block 0 [5] (
       .loop [6, 5, 1, 0] b_sccref3_Sort_1))) (
     .seq (
      .reg [5] false [⟨some 52, none, .mv, [.tmp 5]⟩,
        ⟨some 4, none, .mv, [.tmp 52]⟩]) (
      .ret))))
def a_sccref3_Sort : AF := { results := [.tmp 4], body := b_sccref3_Sort }

/- sccsettle/sort.Sort, 2 params, 0 free: [] -/
/- a loop's body; at its head: [17, 7, 2, 3, 16] -/
def b_sort_Sort_0 : AC :=
  .seq (
   .reg [2, 3, 16, 17, 7] false [⟨some 18, none, .bin .lss, [.tmp 17, .tmp 16]⟩]) (
   .seq (
    .cond (.tmp 18) (
     .skip) (
     .exit 0)) (
    .seq (
     .block 1 [7, 2, 3, 16, 17] (
      .seq (
       .reg [2, 3, 16, 17, 7] false [⟨some 19, none, .mv, [.tmp 17]⟩,
         ⟨some 8, none, .mv, [.tmp 19]⟩]) (
       .reg [2, 3, 16, 17, 8, 7] false [⟨some 20, none, .mv, [.tmp 7]⟩,
         ⟨some 21, none, .mv, [.tmp 8]⟩,
         ⟨some 22, none, .bslice 1, [.tmp 21]⟩,
         ⟨some 23, none, .append 1 8, [.tmp 20, .tmp 22]⟩,
         ⟨some 7, none, .mv, [.tmp 23]⟩]))) (
     .reg [7, 2, 3, 16, 17] false [⟨some 24, none, .bin .add, [.tmp 17, .const (.int .i64 1)]⟩,
       ⟨some 17, none, .mv, [.tmp 24]⟩])))

def b_sort_Sort : AC :=
  .seq (
   .reg [1, 0] false [⟨some 2, none, .box, [.tmp 0]⟩,
     ⟨some 3, none, .box, [.tmp 1]⟩,
     ⟨some 4, none, .mv, [.const (.lst (some true) 0 [])]⟩,
     ⟨some 5, none, .mv, [.const (.nili)]⟩]) (
   .seq (
    .seq (
     .reg [2, 3] false [⟨some 9, none, .load 1 false, [.tmp 2]⟩,
       ⟨some 10, none, .load 1 false, [.tmp 3]⟩,
       ⟨some 11, none, .call f_sort_columns true, [.tmp 9, .tmp 10]⟩,
       ⟨some 6, none, .mv, [.tmp 11]⟩]) (
     .seq (
      .reg [6, 2, 3] false [⟨some 12, none, .mv, [.tmp 6]⟩,
        ⟨some 13, none, .eqn .iface true true, [.tmp 12, .const (.nili)]⟩]) (
      .cond (.tmp 13) (
       .seq (
        .reg [6] false [⟨some 14, none, .mv, [.tmp 6]⟩,
          ⟨some 4, none, .mv, [.const (.lst (some true) 0 [])]⟩,
          ⟨some 5, none, .mv, [.tmp 14]⟩]) (
        .ret)) (
       .skip)))) (
    .seq (
     .reg [2, 3] false [⟨some 7, none, .mv, [.const (.lst (some true) 0 [])]⟩]) (
     .seq (
      .seq (
       .reg [7, 2, 3] false [⟨some 15, none, .load 1 false, [.tmp 2]⟩,
         ⟨some 16, none, .len false, [.tmp 15]⟩,
         ⟨some 17, none, .mv, [.const (.int .i64 0)]⟩]) (
       .block 0 [7, 2, 3] (
        .loop [17, 7, 2, 3, 16] b_sort_Sort_0))) (
      .seq (
       .reg [7, 2, 3] false [⟨some 25, none, .mv, [.tmp 7]⟩,
         ⟨some 26, none, .mkFn f_sort_Sort_c1 0, [.tmp 2, .tmp 3]⟩,
         ⟨some 27, none, .call f_slices_SortStableFunc___int_int_ false, [.tmp 25, .tmp 26]⟩]) (
       .seq (
        .reg [7] false [⟨some 28, none, .mv, [.tmp 7]⟩,
          ⟨some 4, none, .mv, [.tmp 28]⟩,
          ⟨some 5, none, .mv, [.const (.nili)]⟩]) (
        .ret))))))
def a_sort_Sort : AF := { results := [.tmp 4, .tmp 5], body := b_sort_Sort }

/- sccsettle/sort.Sorted, 3 params, 0 free: [] -/
def b_sort_Sorted : AC :=
  .seq (
   .reg [2, 1, 0] false [⟨some 6, none, .mv, [.const (.bool false)]⟩,
     ⟨some 7, none, .mv, [.const (.nili)]⟩]) (
   .seq (
    .reg [2, 1, 0] false [⟨some 11, none, .mv, [.tmp 0]⟩,
      ⟨some 12, none, .mv, [.tmp 1]⟩,
      ⟨some 13, none, .call f_sort_Sort true, [.tmp 11, .tmp 12]⟩,
      ⟨some 10, none, .mv, [.tmp 13]⟩,
      ⟨some 14, none, .extract 0, [.tmp 10]⟩,
      ⟨some 15, none, .extract 1, [.tmp 10]⟩,
      ⟨some 8, none, .mv, [.tmp 14]⟩,
      ⟨some 9, none, .mv, [.tmp 15]⟩]) (
    .seq (
     .reg [9, 8, 2] false [⟨some 16, none, .mv, [.tmp 9]⟩,
       ⟨some 17, none, .eqn .iface false true, [.tmp 16, .const (.nili)]⟩,
       ⟨some 18, none, .mv, [.tmp 17]⟩,
       ⟨some 19, some (18, true), .mv, [.tmp 2]⟩,
       ⟨some 20, some (18, true), .mv, [.tmp 8]⟩,
       ⟨some 21, some (18, true), .call f_slices_Equal___int_int_ true, [.tmp 19, .tmp 20]⟩,
       ⟨some 22, none, .pick, [.tmp 18, .tmp 21, .const (.bool false)]⟩,
       ⟨some 23, none, .mv, [.tmp 9]⟩,
       ⟨some 6, none, .mv, [.tmp 22]⟩,
       ⟨some 7, none, .mv, [.tmp 23]⟩]) (
     .ret)))
def a_sort_Sorted : AF := { results := [.tmp 6, .tmp 7], body := b_sort_Sorted }

/- sccsettle/csv.Write, 1 params, 0 free: [] -/
/- a loop's body; at its head: [13, 11, 4, 0, 12] -/
def b_csv_Write_0 : AC :=
  .seq (
   .reg [11, 4, 0, 12, 13] false [⟨some 14, none, .bin .lss, [.tmp 13, .tmp 12]⟩]) (
   .seq (
    .cond (.tmp 14) (
     .skip) (
     .exit 0)) (
    .seq (
     .block 1 [11, 4, 0, 12, 13] (
      .seq (
       .reg [11, 4, 0, 12, 13] false [⟨some 15, none, .idxAddr 1, [.tmp 11, .tmp 13]⟩,
         ⟨some 16, none, .load 1 false, [.tmp 15]⟩,
         ⟨some 6, none, .mv, [.tmp 16]⟩]) (
       .seq (
        .reg [11, 4, 0, 12, 13, 6] false [⟨some 17, none, .mv, [.tmp 6]⟩,
          ⟨some 18, none, .len false, [.tmp 17]⟩,
          ⟨some 19, none, .bin .eql, [.tmp 18, .const (.int .i64 0)]⟩]) (
        .cond (.tmp 19) (
         .seq (
          .reg [] false [⟨some 20, none, .mkIface t_api_Errno, [.const (.int .i64 3)]⟩,
            ⟨some 2, none, .mv, [.const (.str [])]⟩,
            ⟨some 3, none, .mv, [.tmp 20]⟩]) (
          .ret)) (
         .skip))))) (
     .reg [11, 4, 0, 12, 13] false [⟨some 21, none, .bin .add, [.tmp 13, .const (.int .i64 1)]⟩,
       ⟨some 13, none, .mv, [.tmp 21]⟩])))

/- a loop's body; at its head: [30, 4, 8, 28, 22, 23, 24, 29] -/
def b_csv_Write_1 : AC :=
  .seq (
   .reg [4, 8, 28, 22, 23, 24, 29, 30] false [⟨some 31, none, .bin .lss, [.tmp 30, .tmp 29]⟩]) (
   .seq (
    .cond (.tmp 31) (
     .skip) (
     .exit 4)) (
    .seq (
     .block 5 [4, 8, 28, 22, 23, 24, 29, 30] (
      .seq (
       .reg [4, 8, 28, 22, 23, 24, 29, 30] false [⟨some 32, none, .mv, [.tmp 30]⟩,
         ⟨some 33, none, .idxAddr 1, [.tmp 28, .tmp 30]⟩,
         ⟨some 34, none, .load 1 false, [.tmp 33]⟩,
         ⟨some 9, none, .mv, [.tmp 32]⟩,
         ⟨some 10, none, .mv, [.tmp 34]⟩]) (
       .seq (
        .seq (
         .reg [4, 8, 28, 22, 23, 24, 29, 30, 10, 9] false [⟨some 35, none, .mv, [.tmp 9]⟩,
           ⟨some 36, none, .bin .gtr, [.tmp 35, .const (.int .i64 0)]⟩]) (
         .cond (.tmp 36) (
          .reg [4, 8, 28, 22, 23, 24, 29, 30, 10] false [⟨some 37, none, .call f___strings_Builder__WriteByte true, [.tmp 4, .const (.int .u8 44)]⟩]) (
          .skip))) (
        .seq (
         .seq (
          .reg [4, 8, 28, 22, 23, 24, 29, 30, 10] false [⟨some 38, none, .mv, [.tmp 10]⟩,
            ⟨some 39, none, .bin .eql, [.tmp 38, .const (.str [])]⟩,
            ⟨some 40, none, .mv, [.tmp 39]⟩,
            ⟨some 41, some (40, true), .mv, [.tmp 8]⟩,
            ⟨some 42, some (40, true), .len false, [.tmp 41]⟩,
            ⟨some 43, some (40, true), .bin .eql, [.tmp 42, .const (.int .i64 1)]⟩,
            ⟨some 44, none, .pick, [.tmp 40, .tmp 43, .const (.bool false)]⟩,
            ⟨some 45, none, .mv, [.tmp 44]⟩,
            ⟨some 46, some (45, false), .mv, [.tmp 10]⟩,
            ⟨some 47, some (45, false), .call f_strings_ContainsAny true, [.tmp 46, .const (.str [44, 34, 10, 13])]⟩,
            ⟨some 48, none, .pick, [.tmp 45, .const (.bool true), .tmp 47]⟩]) (
          .cond (.tmp 48) (
           .reg [4, 8, 28, 22, 23, 24, 29, 30, 10] false [⟨some 49, none, .mv, [.tmp 10]⟩,
             ⟨some 50, none, .call f_strings_ReplaceAll true, [.tmp 49, .const (.str [34]), .const (.str [34, 34])]⟩,
             ⟨some 51, none, .bin .add, [.const (.str [34]), .tmp 50]⟩,
             ⟨some 52, none, .bin .add, [.tmp 51, .const (.str [34])]⟩,
             ⟨some 10, none, .mv, [.tmp 52]⟩]) (
           .skip))) (
         .seq (
          .reg [4, 8, 28, 22, 23, 24, 29, 30, 10] false [⟨some 53, none, .mv, [.tmp 10]⟩,
            ⟨some 54, none, .call f___strings_Builder__WriteString true, [.tmp 4, .tmp 53]⟩]) (
          .seq (
           .reg [4, 8, 28, 22, 23, 24, 29, 30] false [⟨some 55, none, .call f___strings_Builder__Len true, [.tmp 4]⟩,
             ⟨some 56, none, .bin .gtr, [.tmp 55, .const (.int .i64 4000)]⟩]) (
           .cond (.tmp 56) (
            .seq (
             .reg [] false [⟨some 57, none, .mkIface t_api_Errno, [.const (.int .i64 4)]⟩,
               ⟨some 2, none, .mv, [.const (.str [])]⟩,
               ⟨some 3, none, .mv, [.tmp 57]⟩]) (
             .ret)) (
            .skip)))))))) (
     .reg [4, 8, 28, 22, 23, 24, 29, 30] false [⟨some 58, none, .bin .add, [.tmp 30, .const (.int .i64 1)]⟩,
       ⟨some 30, none, .mv, [.tmp 58]⟩])))

/- a loop's body; at its head: [4, 24, 22, 23] -/
def b_csv_Write_2 : AC :=
  .seq (
   .reg [4, 22, 23, 24] false [⟨some 25, none, .bin .lss, [.tmp 24, .tmp 23]⟩]) (
   .seq (
    .cond (.tmp 25) (
     .skip) (
     .exit 2)) (
    .seq (
     .block 3 [4, 22, 23, 24] (
      .seq (
       .reg [4, 22, 23, 24] false [⟨some 26, none, .idxAddr 1, [.tmp 22, .tmp 24]⟩,
         ⟨some 27, none, .load 1 false, [.tmp 26]⟩,
         ⟨some 8, none, .mv, [.tmp 27]⟩]) (
       .seq (
        .seq (
         .reg [4, 8, 22, 23, 24] false [⟨some 28, none, .mv, [.tmp 8]⟩,
           ⟨some 29, none, .len false, [.tmp 28]⟩,
           ⟨some 30, none, .mv, [.const (.int .i64 0)]⟩]) (
         .block 4 [4, 22, 23, 24] (
          .loop [30, 4, 8, 28, 22, 23, 24, 29] b_csv_Write_1))) (
        .reg [4, 22, 23, 24] false [⟨some 59, none, .call f___strings_Builder__WriteByte true, [.tmp 4, .const (.int .u8 10)]⟩])))) (
     .reg [4, 22, 23, 24] false [⟨some 60, none, .bin .add, [.tmp 24, .const (.int .i64 1)]⟩,
       ⟨some 24, none, .mv, [.tmp 60]⟩])))

def b_csv_Write : AC :=
  .seq (
   .reg [0] false [⟨some 2, none, .mv, [.const (.str [])]⟩,
     ⟨some 3, none, .mv, [.const (.nili)]⟩]) (
   .seq (
    .reg [0] false [⟨some 4, none, .alloc [.nilp, .lst (some true) 0 []], []⟩]) (
    .seq (
     .seq (
      .reg [4, 0] false [⟨some 11, none, .mv, [.tmp 0]⟩,
        ⟨some 12, none, .len false, [.tmp 11]⟩,
        ⟨some 13, none, .mv, [.const (.int .i64 0)]⟩]) (
      .block 0 [4, 0] (
       .loop [13, 11, 4, 0, 12] b_csv_Write_0))) (
     .seq (
      .seq (
       .reg [4, 0] false [⟨some 22, none, .mv, [.tmp 0]⟩,
         ⟨some 23, none, .len false, [.tmp 22]⟩,
         ⟨some 24, none, .mv, [.const (.int .i64 0)]⟩]) (
       .block 2 [4] (
        .loop [4, 24, 22, 23] b_csv_Write_2))) (
      .seq (
       .seq (
        .reg [4] false [⟨some 61, none, .call f___strings_Builder__Len true, [.tmp 4]⟩,
          ⟨some 62, none, .bin .gtr, [.tmp 61, .const (.int .i64 4000)]⟩]) (
        .cond (.tmp 62) (
         .seq (
          .reg [] false [⟨some 63, none, .mkIface t_api_Errno, [.const (.int .i64 4)]⟩,
            ⟨some 2, none, .mv, [.const (.str [])]⟩,
            ⟨some 3, none, .mv, [.tmp 63]⟩]) (
          .ret)) (
         .skip))) (
       .seq (
        .reg [4] false [⟨some 64, none, .call f___strings_Builder__String true, [.tmp 4]⟩,
          ⟨some 2, none, .mv, [.tmp 64]⟩,
          ⟨some 3, none, .mv, [.const (.nili)]⟩]) (
        .ret))))))
def a_csv_Write : AF := { results := [.tmp 2, .tmp 3], body := b_csv_Write }

/- sccsettle/sccref3.Csv, 1 params, 0 free: [] -/
/- a loop's body; at its head: [5, 0, 4] -/
def b_sccref3_Csv_0 : AC :=
  .seq (
   .seq (
    .reg [0, 4, 5] false [⟨some 12, none, .mv, [.tmp 5]⟩,
      ⟨some 13, none, .mv, [.tmp 0]⟩,
      ⟨some 14, none, .len false, [.tmp 13]⟩,
      ⟨some 15, none, .bin .lss, [.tmp 12, .tmp 14]⟩]) (
    .cond (.tmp 15) (
     .skip) (
     .exit 0))) (
   .seq (
    .block 1 [0, 4, 5] (
     .seq (
      .reg [0, 4, 5] false [⟨some 18, none, .mv, [.tmp 0]⟩,
        ⟨some 19, none, .mv, [.tmp 5]⟩,
        ⟨some 20, none, .idxAddr 1, [.tmp 18, .tmp 19]⟩,
        ⟨some 21, none, .load 1 false, [.tmp 20]⟩,
        ⟨some 22, none, .len false, [.tmp 21]⟩,
        ⟨some 23, none, .bin .eql, [.tmp 22, .const (.int .i64 0)]⟩]) (
      .cond (.tmp 23) (
       .seq (
        .reg [] false [⟨some 2, none, .mv, [.const (.str [])]⟩,
          ⟨some 3, none, .mv, [.const (.int .i64 3)]⟩]) (
        .ret)) (
       .skip)))) (
    .reg [0, 4, 5] false [⟨some 16, none, .mv, [.tmp 5]⟩,
      ⟨some 17, none, .bin .add, [.tmp 16, .const (.int .i64 1)]⟩,
      ⟨some 5, none, .mv, [.tmp 17]⟩]))

/- a loop's body; at its head: [10, 8, 6, 0, 7, 9, 4] -/
def b_sccref3_Csv_1 : AC :=
  .seq (
   .seq (
    .reg [8, 6, 0, 7, 4, 10, 9] false [⟨some 61, none, .mv, [.tmp 10]⟩,
      ⟨some 62, none, .mv, [.tmp 8]⟩,
      ⟨some 63, none, .len true, [.tmp 62]⟩,
      ⟨some 64, none, .bin .lss, [.tmp 61, .tmp 63]⟩]) (
    .cond (.tmp 64) (
     .skip) (
     .exit 6))) (
   .seq (
    .block 7 [8, 6, 0, 7, 9, 4, 10] (
     .seq (
      .reg [8, 6, 0, 7, 4, 10, 9] false [⟨some 67, none, .mv, [.tmp 8]⟩,
        ⟨some 68, none, .mv, [.tmp 10]⟩,
        ⟨some 69, none, .idxStr, [.tmp 67, .tmp 68]⟩,
        ⟨some 70, none, .bin .eql, [.tmp 69, .const (.int .u8 44)]⟩,
        ⟨some 71, none, .mv, [.tmp 70]⟩,
        ⟨some 72, some (71, false), .mv, [.tmp 8]⟩,
        ⟨some 73, some (71, false), .mv, [.tmp 10]⟩,
        ⟨some 74, some (71, false), .idxStr, [.tmp 72, .tmp 73]⟩,
        ⟨some 75, some (71, false), .bin .eql, [.tmp 74, .const (.int .u8 34)]⟩,
        ⟨some 76, none, .pick, [.tmp 71, .const (.bool true), .tmp 75]⟩,
        ⟨some 77, none, .mv, [.tmp 76]⟩,
        ⟨some 78, some (77, false), .mv, [.tmp 8]⟩,
        ⟨some 79, some (77, false), .mv, [.tmp 10]⟩,
        ⟨some 80, some (77, false), .idxStr, [.tmp 78, .tmp 79]⟩,
        ⟨some 81, some (77, false), .bin .eql, [.tmp 80, .const (.int .u8 10)]⟩,
        ⟨some 82, none, .pick, [.tmp 77, .const (.bool true), .tmp 81]⟩,
        ⟨some 83, none, .mv, [.tmp 82]⟩,
        ⟨some 84, some (83, false), .mv, [.tmp 8]⟩,
        ⟨some 85, some (83, false), .mv, [.tmp 10]⟩,
        ⟨some 86, some (83, false), .idxStr, [.tmp 84, .tmp 85]⟩,
        ⟨some 87, some (83, false), .bin .eql, [.tmp 86, .const (.int .u8 13)]⟩,
        ⟨some 88, none, .pick, [.tmp 83, .const (.bool true), .tmp 87]⟩]) (
      .cond (.tmp 88) (
       .reg [8, 6, 0, 7, 4, 10] false [⟨some 9, none, .mv, [.const (.bool true)]⟩]) (
       .skip)))) (
    .reg [8, 6, 0, 7, 9, 4, 10] false [⟨some 65, none, .mv, [.tmp 10]⟩,
      ⟨some 66, none, .bin .add, [.tmp 65, .const (.int .i64 1)]⟩,
      ⟨some 10, none, .mv, [.tmp 66]⟩]))

/- a loop's body; at its head: [11, 8, 4, 6, 0, 7, 9] -/
def b_sccref3_Csv_2 : AC :=
  .seq (
   .seq (
    .reg [8, 6, 0, 7, 9, 11, 4] false [⟨some 93, none, .mv, [.tmp 11]⟩,
      ⟨some 94, none, .mv, [.tmp 8]⟩,
      ⟨some 95, none, .len true, [.tmp 94]⟩,
      ⟨some 96, none, .bin .lss, [.tmp 93, .tmp 95]⟩,
      ⟨some 97, none, .mv, [.tmp 96]⟩,
      ⟨some 98, some (97, true), .mv, [.tmp 4]⟩,
      ⟨some 99, some (97, true), .len false, [.tmp 98]⟩,
      ⟨some 100, some (97, true), .bin .leq, [.tmp 99, .const (.int .i64 4000)]⟩,
      ⟨some 101, none, .pick, [.tmp 97, .tmp 100, .const (.bool false)]⟩]) (
    .cond (.tmp 101) (
     .skip) (
     .exit 8))) (
   .seq (
    .block 9 [8, 4, 6, 0, 7, 9, 11] (
     .seq (
      .reg [8, 6, 0, 7, 9, 11, 4] false [⟨some 104, none, .mv, [.tmp 4]⟩,
        ⟨some 105, none, .mv, [.tmp 8]⟩,
        ⟨some 106, none, .mv, [.tmp 11]⟩,
        ⟨some 107, none, .idxStr, [.tmp 105, .tmp 106]⟩,
        ⟨some 108, none, .bslice 1, [.tmp 107]⟩,
        ⟨some 109, none, .append 1 1, [.tmp 104, .tmp 108]⟩,
        ⟨some 4, none, .mv, [.tmp 109]⟩]) (
      .seq (
       .reg [8, 6, 0, 7, 9, 11, 4] false [⟨some 110, none, .mv, [.tmp 8]⟩,
         ⟨some 111, none, .mv, [.tmp 11]⟩,
         ⟨some 112, none, .idxStr, [.tmp 110, .tmp 111]⟩,
         ⟨some 113, none, .bin .eql, [.tmp 112, .const (.int .u8 34)]⟩]) (
       .cond (.tmp 113) (
        .reg [8, 6, 0, 7, 9, 11, 4] false [⟨some 114, none, .mv, [.tmp 4]⟩,
          ⟨some 115, none, .bslice 1, [.const (.int .u8 34)]⟩,
          ⟨some 116, none, .append 1 1, [.tmp 114, .tmp 115]⟩,
          ⟨some 4, none, .mv, [.tmp 116]⟩]) (
        .skip))))) (
    .reg [8, 4, 6, 0, 7, 9, 11] false [⟨some 102, none, .mv, [.tmp 11]⟩,
      ⟨some 103, none, .bin .add, [.tmp 102, .const (.int .i64 1)]⟩,
      ⟨some 11, none, .mv, [.tmp 103]⟩]))

/- a loop's body; at its head: [7, 6, 0, 4] -/
def b_sccref3_Csv_3 : AC :=
  .seq (
   .seq (
    .reg [6, 0, 7, 4] false [⟨some 30, none, .mv, [.tmp 7]⟩,
      ⟨some 31, none, .mv, [.tmp 0]⟩,
      ⟨some 32, none, .mv, [.tmp 6]⟩,
      ⟨some 33, none, .idxAddr 1, [.tmp 31, .tmp 32]⟩,
      ⟨some 34, none, .load 1 false, [.tmp 33]⟩,
      ⟨some 35, none, .len false, [.tmp 34]⟩,
      ⟨some 36, none, .bin .lss, [.tmp 30, .tmp 35]⟩]) (
    .cond (.tmp 36) (
     .skip) (
     .exit 4))) (
   .seq (
    .block 5 [6, 0, 4, 7] (
     .seq (
      .reg [6, 0, 7, 4] false [⟨some 39, none, .mv, [.tmp 0]⟩,
        ⟨some 40, none, .mv, [.tmp 6]⟩,
        ⟨some 41, none, .idxAddr 1, [.tmp 39, .tmp 40]⟩,
        ⟨some 42, none, .load 1 false, [.tmp 41]⟩,
        ⟨some 43, none, .mv, [.tmp 7]⟩,
        ⟨some 44, none, .idxAddr 1, [.tmp 42, .tmp 43]⟩,
        ⟨some 45, none, .load 1 false, [.tmp 44]⟩,
        ⟨some 8, none, .mv, [.tmp 45]⟩]) (
      .seq (
       .seq (
        .reg [8, 6, 0, 7, 4] false [⟨some 46, none, .mv, [.tmp 7]⟩,
          ⟨some 47, none, .bin .gtr, [.tmp 46, .const (.int .i64 0)]⟩]) (
        .cond (.tmp 47) (
         .reg [8, 6, 0, 7, 4] false [⟨some 48, none, .mv, [.tmp 4]⟩,
           ⟨some 49, none, .bslice 1, [.const (.int .u8 44)]⟩,
           ⟨some 50, none, .append 1 1, [.tmp 48, .tmp 49]⟩,
           ⟨some 4, none, .mv, [.tmp 50]⟩]) (
         .skip))) (
       .seq (
        .reg [8, 6, 0, 7, 4] false [⟨some 51, none, .mv, [.tmp 8]⟩,
          ⟨some 52, none, .bin .eql, [.tmp 51, .const (.str [])]⟩,
          ⟨some 53, none, .mv, [.tmp 52]⟩,
          ⟨some 54, some (53, true), .mv, [.tmp 0]⟩,
          ⟨some 55, some (53, true), .mv, [.tmp 6]⟩,
          ⟨some 56, some (53, true), .idxAddr 1, [.tmp 54, .tmp 55]⟩,
          ⟨some 57, some (53, true), .load 1 false, [.tmp 56]⟩,
          ⟨some 58, some (53, true), .len false, [.tmp 57]⟩,
          ⟨some 59, some (53, true), .bin .eql, [.tmp 58, .const (.int .i64 1)]⟩,
          ⟨some 60, none, .pick, [.tmp 53, .tmp 59, .const (.bool false)]⟩,
          ⟨some 9, none, .mv, [.tmp 60]⟩]) (
        .seq (
         .seq (
          .reg [8, 6, 0, 7, 9, 4] false [⟨some 10, none, .mv, [.const (.int .i64 0)]⟩]) (
          .block 6 [8, 6, 0, 7, 9, 4] (
           .loop [10, 8, 6, 0, 7, 9, 4] b_sccref3_Csv_1))) (
         .seq (
          .seq (
           .reg [8, 6, 0, 7, 9, 4] false [⟨some 89, none, .mv, [.tmp 9]⟩]) (
           .cond (.tmp 89) (
            .reg [8, 6, 0, 7, 9, 4] false [⟨some 90, none, .mv, [.tmp 4]⟩,
              ⟨some 91, none, .bslice 1, [.const (.int .u8 34)]⟩,
              ⟨some 92, none, .append 1 1, [.tmp 90, .tmp 91]⟩,
              ⟨some 4, none, .mv, [.tmp 92]⟩]) (
            .skip))) (
          .seq (
           .seq (
            .reg [8, 4, 6, 0, 7, 9] false [⟨some 11, none, .mv, [.const (.int .i64 0)]⟩]) (
            .block 8 [6, 0, 7, 4, 9] (
             .loop [11, 8, 4, 6, 0, 7, 9] b_sccref3_Csv_2))) (
           .seq (
            .seq (
             .reg [6, 0, 7, 4, 9] false [⟨some 117, none, .mv, [.tmp 9]⟩]) (
             .cond (.tmp 117) (
              .reg [6, 0, 7, 4] false [⟨some 118, none, .mv, [.tmp 4]⟩,
                ⟨some 119, none, .bslice 1, [.const (.int .u8 34)]⟩,
                ⟨some 120, none, .append 1 1, [.tmp 118, .tmp 119]⟩,
                ⟨some 4, none, .mv, [.tmp 120]⟩]) (
              .skip))) (
            .seq (
             .reg [6, 0, 4, 7] false [⟨some 121, none, .mv, [.tmp 4]⟩,
               ⟨some 122, none, .len false, [.tmp 121]⟩,
               ⟨some 123, none, .bin .gtr, [.tmp 122, .const (.int .i64 4000)]⟩]) (
             .cond (.tmp 123) (
              .seq (
               .reg [] false [⟨some 2, none, .mv, [.const (.str [])]⟩,
                 ⟨some 3, none, .mv, [.const (.int .i64 4)]⟩]) (
               .ret)) (
              .skip))))))))))) (
    .reg [6, 0, 4, 7] false [⟨some 37, none, .mv, [.tmp 7]⟩,
      ⟨some 38, none, .bin .add, [.tmp 37, .const (.int .i64 1)]⟩,
      ⟨some 7, none, .mv, [.tmp 38]⟩]))

/- a loop's body; at its head: [6, 0, 4] -/
def b_sccref3_Csv_4 : AC :=
  .seq (
   .seq (
    .reg [6, 0, 4] false [⟨some 24, none, .mv, [.tmp 6]⟩,
      ⟨some 25, none, .mv, [.tmp 0]⟩,
      ⟨some 26, none, .len false, [.tmp 25]⟩,
      ⟨some 27, none, .bin .lss, [.tmp 24, .tmp 26]⟩]) (
    .cond (.tmp 27) (
     .skip) (
     .exit 2))) (
   .seq (
    .block 3 [0, 4, 6] (
     .seq (
      .seq (
       .reg [6, 0, 4] false [⟨some 7, none, .mv, [.const (.int .i64 0)]⟩]) (
       .block 4 [0, 6, 4] (
        .loop [7, 6, 0, 4] b_sccref3_Csv_3))) (
      .reg [0, 6, 4] false [⟨some 124, none, .mv, [.tmp 4]⟩,
        ⟨some 125, none, .bslice 1, [.const (.int .u8 10)]⟩,
        ⟨some 126, none, .append 1 1, [.tmp 124, .tmp 125]⟩,
        ⟨some 4, none, .mv, [.tmp 126]⟩]))) (
    .reg [0, 4, 6] false [⟨some 28, none, .mv, [.tmp 6]⟩,
      ⟨some 29, none, .bin .add, [.tmp 28, .const (.int .i64 1)]⟩,
      ⟨some 6, none, .mv, [.tmp 29]⟩]))

def b_sccref3_Csv : AC :=
  .seq (
   .reg [0] false [⟨some 2, none, .mv, [.const (.str [])]⟩,
     ⟨some 3, none, .mv, [.const (.int .i64 0)]⟩]) (
   .seq (
    .reg [0] false [⟨some 4, none, .mv, [.const (.lst (some true) 0 [])]⟩]) (
    .seq (
     .seq (
      .reg [0, 4] false [⟨some 5, none, .mv, [.const (.int .i64 0)]⟩]) (
      .block 0 [0, 4] (
       .loop [5, 0, 4] b_sccref3_Csv_0))) (
     .seq (
      .seq (
       .reg [0, 4] false [⟨some 6, none, .mv, [.const (.int .i64 0)]⟩]) (
       .block 2 [4] (
        .loop [6, 0, 4] b_sccref3_Csv_4))) (
      .seq (
       .seq (
        .reg [4] false [⟨some 127, none, .mv, [.tmp 4]⟩,
          ⟨some 128, none, .len false, [.tmp 127]⟩,
          ⟨some 129, none, .bin .gtr, [.tmp 128, .const (.int .i64 4000)]⟩]) (
        .cond (.tmp 129) (
         .seq (
          .reg [] false [⟨some 2, none, .mv, [.const (.str [])]⟩,
            ⟨some 3, none, .mv, [.const (.int .i64 4)]⟩]) (
          .ret)) (
         .skip))) (
       .seq (
        .reg [4] false [⟨some 130, none, .mv, [.tmp 4]⟩,
          ⟨some 131, none, .bytesToStr, [.tmp 130]⟩,
          ⟨some 2, none, .mv, [.tmp 131]⟩,
          ⟨some 3, none, .mv, [.const (.int .i64 0)]⟩]) (
        .ret))))))
def a_sccref3_Csv : AF := { results := [.tmp 2, .tmp 3], body := b_sccref3_Csv }

/- sccsettle/plain.Told, 1 params, 0 free: [] -/
def b_plain_Told : AC :=
  .seq (
   .reg [0] false [⟨some 2, none, .mv, [.const (.int .i64 0)]⟩]) (
   .seq (
    .seq (
     .reg [0] false [⟨some 4, none, .mv, [.tmp 0]⟩,
       ⟨some 5, none, .eqn .iface false true, [.tmp 4, .const (.nili)]⟩]) (
     .cond (.tmp 5) (
      .seq (
       .reg [] false [⟨some 2, none, .mv, [.const (.int .i64 0)]⟩]) (
       .ret)) (
      .skip))) (
    .seq (
     .reg [0] false [⟨some 3, none, .alloc [.int .i64 0], []⟩]) (
     .seq (
      .seq (
       .reg [3, 0] false [⟨some 6, none, .mv, [.tmp 0]⟩,
         ⟨some 7, none, .mkIface t__api_Errno, [.tmp 3]⟩,
         ⟨some 8, none, .call f_errors_As false, [.tmp 6, .tmp 7]⟩]) (
       .cond (.tmp 8) (
        .seq (
         .reg [3] false [⟨some 9, none, .load 1 false, [.tmp 3]⟩,
           ⟨some 2, none, .mv, [.tmp 9]⟩]) (
         .ret)) (
        .skip))) (
      .seq (
       .reg [] false [⟨some 2, none, .mv, [.const (.int .i64 (-1))]⟩]) (
       .ret)))))
def a_plain_Told : AF := { results := [.tmp 2], body := b_plain_Told }

/- sccsettle/csv.ends, 1 params, 0 free: [] -/
def b_csv_ends : AC :=
  .seq (
   .reg [0] false [⟨some 2, none, .mv, [.const (.bool false)]⟩]) (
   .seq (
    .reg [0] false [⟨some 3, none, .mv, [.tmp 0]⟩,
      ⟨some 4, none, .idxStr, [.tmp 3, .const (.int .i64 0)]⟩,
      ⟨some 5, none, .bin .eql, [.tmp 4, .const (.int .u8 44)]⟩,
      ⟨some 6, none, .mv, [.tmp 5]⟩,
      ⟨some 7, some (6, false), .mv, [.tmp 0]⟩,
      ⟨some 8, some (6, false), .idxStr, [.tmp 7, .const (.int .i64 0)]⟩,
      ⟨some 9, some (6, false), .bin .eql, [.tmp 8, .const (.int .u8 10)]⟩,
      ⟨some 10, none, .pick, [.tmp 6, .const (.bool true), .tmp 9]⟩,
      ⟨some 11, none, .mv, [.tmp 10]⟩,
      ⟨some 12, some (11, false), .mv, [.tmp 0]⟩,
      ⟨some 13, some (11, false), .call f_strings_HasPrefix true, [.tmp 12, .const (.str [13, 10])]⟩,
      ⟨some 14, none, .pick, [.tmp 11, .const (.bool true), .tmp 13]⟩,
      ⟨some 2, none, .mv, [.tmp 14]⟩]) (
    .ret))
def a_csv_ends : AF := { results := [.tmp 2], body := b_csv_ends }

/- sccsettle/sccref3.Column, 2 params, 0 free: [] -/
def b_sccref3_Column : AC :=
  .seq (
   .reg [1, 0] false [⟨some 4, none, .mv, [.const (.bool false)]⟩]) (
   .seq (
    .reg [1, 0] false [⟨some 5, none, .mv, [.const (.int .i64 12)]⟩]) (
    .seq (
     .seq (
      .reg [1, 0, 5] false [⟨some 6, none, .mv, [.tmp 0]⟩,
        ⟨some 7, none, .len false, [.tmp 6]⟩,
        ⟨some 8, none, .bin .gtr, [.tmp 7, .const (.int .i64 0)]⟩]) (
      .cond (.tmp 8) (
       .reg [1, 0] false [⟨some 9, none, .mv, [.tmp 0]⟩,
         ⟨some 10, none, .idxAddr 1, [.tmp 9, .const (.int .i64 0)]⟩,
         ⟨some 11, none, .load 1 false, [.tmp 10]⟩,
         ⟨some 12, none, .len false, [.tmp 11]⟩,
         ⟨some 5, none, .mv, [.tmp 12]⟩]) (
       .skip))) (
     .seq (
      .reg [5, 1] false [⟨some 13, none, .mv, [.tmp 1]⟩,
        ⟨some 14, none, .bin .geq, [.tmp 13, .const (.int .i64 0)]⟩,
        ⟨some 15, none, .mv, [.tmp 14]⟩,
        ⟨some 16, some (15, true), .mv, [.tmp 1]⟩,
        ⟨some 17, some (15, true), .mv, [.tmp 5]⟩,
        ⟨some 18, some (15, true), .bin .lss, [.tmp 16, .tmp 17]⟩,
        ⟨some 19, none, .pick, [.tmp 15, .tmp 18, .const (.bool false)]⟩,
        ⟨some 4, none, .mv, [.tmp 19]⟩]) (
      .ret))))
def a_sccref3_Column : AF := { results := [.tmp 4], body := b_sccref3_Column }

/- sccsettle/sccref3.Alike, 3 params, 0 free: [] -/
/- a loop's body; at its head: [7, 2, 1, 0] -/
def b_sccref3_Alike_0 : AC :=
  .seq (
   .seq (
    .reg [2, 1, 0, 7] false [⟨some 8, none, .mv, [.tmp 7]⟩,
      ⟨some 9, none, .mv, [.tmp 2]⟩,
      ⟨some 10, none, .len false, [.tmp 9]⟩,
      ⟨some 11, none, .bin .lss, [.tmp 8, .tmp 10]⟩]) (
    .cond (.tmp 11) (
     .skip) (
     .exit 0))) (
   .seq (
    .block 1 [2, 1, 0, 7] (
     .seq (
      .reg [2, 1, 0, 7] true [⟨some 14, none, .mv, [.tmp 0]⟩,
        ⟨some 15, none, .mv, [.tmp 2]⟩,
        ⟨some 16, none, .mv, [.tmp 7]⟩,
        ⟨some 17, none, .idxAddr 1, [.tmp 15, .tmp 16]⟩,
        ⟨some 18, none, .load 1 false, [.tmp 17]⟩,
        ⟨some 19, none, .idxAddr 3, [.tmp 14, .tmp 18]⟩,
        ⟨some 20, none, .load 3 true, [.tmp 19]⟩,
        ⟨some 21, none, .mv, [.tmp 1]⟩,
        ⟨some 22, none, .mv, [.tmp 2]⟩,
        ⟨some 23, none, .mv, [.tmp 7]⟩,
        ⟨some 24, none, .idxAddr 1, [.tmp 22, .tmp 23]⟩,
        ⟨some 25, none, .load 1 false, [.tmp 24]⟩,
        ⟨some 26, none, .idxAddr 3, [.tmp 21, .tmp 25]⟩,
        ⟨some 27, none, .load 3 true, [.tmp 26]⟩,
        ⟨some 28, none, .eqs true [.int .i64, .int .i64, .str], [.tmp 20, .tmp 27]⟩]) (
      .cond (.tmp 28) (
       .seq (
        .reg [] false [⟨some 6, none, .mv, [.const (.bool false)]⟩]) (
        .ret)) (
       .skip)))) (
    .reg [2, 1, 0, 7] false [⟨some 12, none, .mv, [.tmp 7]⟩,
      ⟨some 13, none, .bin .add, [.tmp 12, .const (.int .i64 1)]⟩,
      ⟨some 7, none, .mv, [.tmp 13]⟩]))

def b_sccref3_Alike : AC :=
  .seq (
   .reg [2, 1, 0] false [⟨some 6, none, .mv, [.const (.bool false)]⟩]) (
   .seq (
    .seq (
     .reg [2, 1, 0] false [⟨some 7, none, .mv, [.const (.int .i64 0)]⟩]) (
     .block 0 [] (
      .loop [7, 2, 1, 0] b_sccref3_Alike_0))) (
    .seq (
     .reg [] false [⟨some 6, none, .mv, [.const (.bool true)]⟩]) (
     .ret)))
def a_sccref3_Alike : AF := { results := [.tmp 6], body := b_sccref3_Alike }

/- sccsettle/sort.Columns, 2 params, 0 free: [] -/
/- a loop's body; at its head: [19, 0, 17, 18] -/
def b_sort_Columns_0 : AC :=
  .seq (
   .reg [0, 17, 18, 19] false [⟨some 20, none, .bin .lss, [.tmp 19, .tmp 18]⟩]) (
   .seq (
    .cond (.tmp 20) (
     .skip) (
     .exit 0)) (
    .seq (
     .block 1 [0, 17, 18, 19] (
      .seq (
       .reg [0, 17, 18, 19] false [⟨some 21, none, .idxAddr 1, [.tmp 17, .tmp 19]⟩,
         ⟨some 22, none, .load 1 false, [.tmp 21]⟩,
         ⟨some 7, none, .mv, [.tmp 22]⟩]) (
       .seq (
        .reg [0, 17, 18, 19, 7] false [⟨some 23, none, .mv, [.tmp 0]⟩,
          ⟨some 24, none, .mv, [.tmp 7]⟩,
          ⟨some 25, none, .call f_sort_Column true, [.tmp 23, .tmp 24]⟩,
          ⟨some 26, none, .un .not, [.tmp 25]⟩]) (
        .cond (.tmp 26) (
         .seq (
          .reg [] false [⟨some 27, none, .mkIface t_api_Errno, [.const (.int .i64 1)]⟩,
            ⟨some 4, none, .mv, [.tmp 27]⟩]) (
          .ret)) (
         .skip))))) (
     .reg [0, 17, 18, 19] false [⟨some 28, none, .bin .add, [.tmp 19, .const (.int .i64 1)]⟩,
       ⟨some 19, none, .mv, [.tmp 28]⟩])))

def b_sort_Columns : AC :=
  .seq (
   .reg [0, 1] false [⟨some 4, none, .mv, [.const (.nili)]⟩]) (
   .seq (
    .seq (
     .reg [0, 1] false [⟨some 8, none, .mv, [.tmp 0]⟩,
       ⟨some 9, none, .call f_sort_Check true, [.tmp 8]⟩,
       ⟨some 5, none, .mv, [.tmp 9]⟩]) (
     .seq (
      .reg [5, 0, 1] false [⟨some 10, none, .mv, [.tmp 5]⟩,
        ⟨some 11, none, .eqn .iface true true, [.tmp 10, .const (.nili)]⟩]) (
      .cond (.tmp 11) (
       .seq (
        .reg [5] false [⟨some 12, none, .mv, [.tmp 5]⟩,
          ⟨some 4, none, .mv, [.tmp 12]⟩]) (
        .ret)) (
       .skip)))) (
    .seq (
     .seq (
      .reg [0, 1] false [⟨some 13, none, .mv, [.tmp 1]⟩,
        ⟨some 14, none, .len false, [.tmp 13]⟩,
        ⟨some 15, none, .bin .gtr, [.tmp 14, .const (.int .i64 12)]⟩]) (
      .cond (.tmp 15) (
       .seq (
        .reg [] false [⟨some 16, none, .mkIface t_api_Errno, [.const (.int .i64 4)]⟩,
          ⟨some 4, none, .mv, [.tmp 16]⟩]) (
        .ret)) (
       .skip))) (
     .seq (
      .seq (
       .reg [0, 1] false [⟨some 17, none, .mv, [.tmp 1]⟩,
         ⟨some 18, none, .len false, [.tmp 17]⟩,
         ⟨some 19, none, .mv, [.const (.int .i64 0)]⟩]) (
       .block 0 [] (
        .loop [19, 0, 17, 18] b_sort_Columns_0))) (
      .seq (
       .reg [] false [⟨some 4, none, .mv, [.const (.nili)]⟩]) (
       .ret)))))
def a_sort_Columns : AF := { results := [.tmp 4], body := b_sort_Columns }

/- slices.ContainsFunc[[]int,int], 2 params, 0 free: [] -/
def b_slices_ContainsFunc___int_int_ : AC :=
  .seq (
   .reg [1, 0] false [⟨some 4, none, .mv, [.const (.bool false)]⟩]) (
   .seq (
    .reg [1, 0] false [⟨some 5, none, .mv, [.tmp 0]⟩,
      ⟨some 6, none, .mv, [.tmp 1]⟩,
      ⟨some 7, none, .call f_slices_IndexFunc___int_int_ true, [.tmp 5, .tmp 6]⟩,
      ⟨some 8, none, .bin .geq, [.tmp 7, .const (.int .i64 0)]⟩,
      ⟨some 4, none, .mv, [.tmp 8]⟩]) (
    .ret))
def a_slices_ContainsFunc___int_int_ : AF := { results := [.tmp 4], body := b_slices_ContainsFunc___int_int_ }

/- sccsettle/sort.Distinct$1, 1 params, 3 free: [] -/
def b_sort_Distinct_c1 : AC :=
  .seq (
   .reg [3, 2, 0, 1] false [⟨some 5, none, .mv, [.const (.bool false)]⟩]) (
   .seq (
    .reg [3, 2, 0, 1] true [⟨some 6, none, .load 1 false, [.tmp 1]⟩,
      ⟨some 7, none, .mv, [.tmp 0]⟩,
      ⟨some 8, none, .idxAddr 1, [.tmp 6, .tmp 7]⟩,
      ⟨some 9, none, .load 1 false, [.tmp 8]⟩,
      ⟨some 10, none, .load 1 false, [.tmp 2]⟩,
      ⟨some 11, none, .load 1 false, [.tmp 3]⟩,
      ⟨some 12, none, .call f_sort_Compare true, [.tmp 9, .tmp 10, .tmp 11]⟩,
      ⟨some 13, none, .bin .eql, [.tmp 12, .const (.int .i64 0)]⟩,
      ⟨some 5, none, .mv, [.tmp 13]⟩]) (
    .ret))
def a_sort_Distinct_c1 : AF := { results := [.tmp 5], body := b_sort_Distinct_c1 }

/- sccsettle/sort.Compare, 3 params, 0 free: [] -/
/- a loop's body; at its head: [12, 1, 0, 10, 11] -/
def b_sort_Compare_0 : AC :=
  .seq (
   .reg [1, 0, 10, 11, 12] false [⟨some 13, none, .bin .lss, [.tmp 12, .tmp 11]⟩]) (
   .seq (
    .cond (.tmp 13) (
     .skip) (
     .exit 0)) (
    .seq (
     .block 1 [1, 0, 10, 11, 12] (
      .seq (
       .reg [1, 0, 10, 11, 12] false [⟨some 14, none, .idxAddr 2, [.tmp 10, .tmp 12]⟩,
         ⟨some 15, none, .load 2 true, [.tmp 14]⟩,
         ⟨some 8, none, .alloc [.int .i64 0, .bool false], []⟩,
         ⟨none, none, .store 2, [.tmp 8, .tmp 15]⟩]) (
       .seq (
        .reg [1, 0, 10, 11, 12, 8] true [⟨some 16, none, .mv, [.tmp 0]⟩,
          ⟨some 17, none, .fieldAddr 0, [.tmp 8]⟩,
          ⟨some 18, none, .load 1 false, [.tmp 17]⟩,
          ⟨some 19, none, .idxAddr 3, [.tmp 16, .tmp 18]⟩,
          ⟨some 20, none, .load 3 true, [.tmp 19]⟩,
          ⟨some 21, none, .mv, [.tmp 1]⟩,
          ⟨some 22, none, .fieldAddr 0, [.tmp 8]⟩,
          ⟨some 23, none, .load 1 false, [.tmp 22]⟩,
          ⟨some 24, none, .idxAddr 3, [.tmp 21, .tmp 23]⟩,
          ⟨some 25, none, .load 3 true, [.tmp 24]⟩,
          ⟨some 26, none, .call f_value_Compare true, [.tmp 20, .tmp 25]⟩,
          ⟨some 9, none, .mv, [.tmp 26]⟩]) (
        .seq (
         .seq (
          .reg [1, 0, 10, 11, 12, 9, 8] false [⟨some 27, none, .fieldAddr 1, [.tmp 8]⟩,
            ⟨some 28, none, .load 1 false, [.tmp 27]⟩]) (
          .cond (.tmp 28) (
           .reg [1, 0, 10, 11, 12, 9] false [⟨some 29, none, .mv, [.tmp 9]⟩,
             ⟨some 30, none, .un .neg, [.tmp 29]⟩,
             ⟨some 9, none, .mv, [.tmp 30]⟩]) (
           .skip))) (
         .seq (
          .reg [9, 1, 0, 10, 11, 12] false [⟨some 31, none, .mv, [.tmp 9]⟩,
            ⟨some 32, none, .bin .neq, [.tmp 31, .const (.int .i64 0)]⟩]) (
          .cond (.tmp 32) (
           .seq (
            .reg [9] false [⟨some 33, none, .mv, [.tmp 9]⟩,
              ⟨some 6, none, .mv, [.tmp 33]⟩]) (
            .ret)) (
           .skip))))))) (
     .reg [1, 0, 10, 11, 12] false [⟨some 34, none, .bin .add, [.tmp 12, .const (.int .i64 1)]⟩,
       ⟨some 12, none, .mv, [.tmp 34]⟩])))

def b_sort_Compare : AC :=
  .seq (
   .reg [1, 0, 2] false [⟨some 6, none, .mv, [.const (.int .i64 0)]⟩]) (
   .seq (
    .seq (
     .reg [1, 0, 2] false [⟨some 10, none, .mv, [.tmp 2]⟩,
       ⟨some 11, none, .len false, [.tmp 10]⟩,
       ⟨some 12, none, .mv, [.const (.int .i64 0)]⟩]) (
     .block 0 [] (
      .loop [12, 1, 0, 10, 11] b_sort_Compare_0))) (
    .seq (
     .reg [] false [⟨some 6, none, .mv, [.const (.int .i64 0)]⟩]) (
     .ret)))
def a_sort_Compare : AF := { results := [.tmp 6], body := b_sort_Compare }

/- sccsettle/chart.near, 1 params, 0 free: [] -/
def b_chart_near : AC :=
  .seq (
   .reg [0] false [⟨some 2, none, .mv, [.const (.bool false)]⟩]) (
   .seq (
    .reg [0] false [⟨some 3, none, .mv, [.tmp 0]⟩,
      ⟨some 4, none, .bin .geq, [.tmp 3, .const (.int .i64 (-1000000000000000))]⟩,
      ⟨some 5, none, .mv, [.tmp 4]⟩,
      ⟨some 6, some (5, true), .mv, [.tmp 0]⟩,
      ⟨some 7, some (5, true), .bin .leq, [.tmp 6, .const (.int .i64 1000000000000000)]⟩,
      ⟨some 8, none, .pick, [.tmp 5, .tmp 7, .const (.bool false)]⟩,
      ⟨some 2, none, .mv, [.tmp 8]⟩]) (
    .ret))
def a_chart_near : AF := { results := [.tmp 2], body := b_chart_near }

/- sccsettle/chart.floor, 2 params, 0 free: [] -/
def b_chart_floor : AC :=
  .seq (
   .reg [1, 0] false [⟨some 4, none, .mv, [.const (.int .i64 0)]⟩]) (
   .seq (
    .reg [1, 0] false [⟨some 6, none, .mv, [.tmp 0]⟩,
      ⟨some 7, none, .mv, [.tmp 1]⟩,
      ⟨some 8, none, .bin .quo, [.tmp 6, .tmp 7]⟩,
      ⟨some 5, none, .mv, [.tmp 8]⟩]) (
    .seq (
     .seq (
      .reg [5, 1, 0] false [⟨some 9, none, .mv, [.tmp 0]⟩,
        ⟨some 10, none, .mv, [.tmp 1]⟩,
        ⟨some 11, none, .bin .rem, [.tmp 9, .tmp 10]⟩,
        ⟨some 12, none, .bin .lss, [.tmp 11, .const (.int .i64 0)]⟩]) (
      .cond (.tmp 12) (
       .reg [5] false [⟨some 13, none, .mv, [.tmp 5]⟩,
         ⟨some 14, none, .bin .sub, [.tmp 13, .const (.int .i64 1)]⟩,
         ⟨some 5, none, .mv, [.tmp 14]⟩]) (
       .skip))) (
     .seq (
      .reg [5] false [⟨some 15, none, .mv, [.tmp 5]⟩,
        ⟨some 4, none, .mv, [.tmp 15]⟩]) (
      .ret))))
def a_chart_floor : AF := { results := [.tmp 4], body := b_chart_floor }

/- sccsettle/sccref1.Is, 1 params, 0 free: [] -/
def b_sccref1_Is : AC :=
  .seq (
   .reg [0] false [⟨some 1, none, .box, [.tmp 0]⟩,
     ⟨some 2, none, .mv, [.const (.bool false)]⟩]) (
   .seq (
    .seq (
     .reg [1] false [⟨some 3, none, .fieldAddr 0, [.tmp 1]⟩,
       ⟨some 4, none, .load 1 false, [.tmp 3]⟩]) (
     .block 0 [] (
      .seq (
       .reg [1, 4] false [⟨some 6, none, .bin .eql, [.tmp 4, .const (.int .i64 0)]⟩,
         ⟨some 5, none, .mv, [.tmp 6]⟩]) (
       .cond (.tmp 5) (
        .seq (
         .reg [1] false [⟨some 7, none, .fieldAddr 1, [.tmp 1]⟩,
           ⟨some 8, none, .load 1 false, [.tmp 7]⟩,
           ⟨some 9, none, .bin .eql, [.tmp 8, .const (.int .i64 0)]⟩,
           ⟨some 10, none, .mv, [.tmp 9]⟩,
           ⟨some 11, some (10, true), .fieldAddr 2, [.tmp 1]⟩,
           ⟨some 12, some (10, true), .load 1 false, [.tmp 11]⟩,
           ⟨some 13, some (10, true), .bin .eql, [.tmp 12, .const (.str [])]⟩,
           ⟨some 14, none, .pick, [.tmp 10, .tmp 13, .const (.bool false)]⟩,
           ⟨some 2, none, .mv, [.tmp 14]⟩]) (
         .ret)) (
        .seq (
         .reg [1, 4] false [⟨some 16, none, .bin .eql, [.tmp 4, .const (.int .i64 1)]⟩,
           ⟨some 15, none, .mv, [.tmp 16]⟩]) (
         .cond (.tmp 15) (
          .seq (
           .reg [1] false [⟨some 17, none, .fieldAddr 2, [.tmp 1]⟩,
             ⟨some 18, none, .load 1 false, [.tmp 17]⟩,
             ⟨some 19, none, .bin .eql, [.tmp 18, .const (.str [])]⟩,
             ⟨some 2, none, .mv, [.tmp 19]⟩]) (
           .ret)) (
          .seq (
           .reg [1, 4] false [⟨some 21, none, .bin .eql, [.tmp 4, .const (.int .i64 2)]⟩,
             ⟨some 20, none, .mv, [.tmp 21]⟩]) (
           .cond (.tmp 20) (
            .seq (
             .reg [1] false [⟨some 22, none, .fieldAddr 1, [.tmp 1]⟩,
               ⟨some 23, none, .load 1 false, [.tmp 22]⟩,
               ⟨some 24, none, .bin .eql, [.tmp 23, .const (.int .i64 0)]⟩,
               ⟨some 25, none, .mv, [.tmp 24]⟩,
               ⟨some 26, some (25, true), .fieldAddr 2, [.tmp 1]⟩,
               ⟨some 27, some (25, true), .load 1 false, [.tmp 26]⟩,
               ⟨some 28, some (25, true), .len true, [.tmp 27]⟩,
               ⟨some 29, some (25, true), .bin .leq, [.tmp 28, .const (.int .i64 200)]⟩,
               ⟨some 30, none, .pick, [.tmp 25, .tmp 29, .const (.bool false)]⟩,
               ⟨some 2, none, .mv, [.tmp 30]⟩]) (
             .ret)) (
            .seq (
             .reg [1, 4] false [⟨some 32, none, .bin .eql, [.tmp 4, .const (.int .i64 3)]⟩,
               ⟨some 31, none, .mv, [.tmp 32]⟩]) (
             .cond (.tmp 31) (
              .seq (
               .reg [1] false [⟨some 33, none, .fieldAddr 2, [.tmp 1]⟩,
                 ⟨some 34, none, .load 1 false, [.tmp 33]⟩,
                 ⟨some 35, none, .bin .eql, [.tmp 34, .const (.str [])]⟩,
                 ⟨some 36, none, .mv, [.tmp 35]⟩,
                 ⟨some 37, some (36, true), .fieldAddr 1, [.tmp 1]⟩,
                 ⟨some 38, some (36, true), .load 1 false, [.tmp 37]⟩,
                 ⟨some 39, some (36, true), .bin .eql, [.tmp 38, .const (.int .i64 0)]⟩,
                 ⟨some 40, some (36, true), .mv, [.tmp 39]⟩,
                 ⟨some 41, some (40, false), .fieldAddr 1, [.tmp 1]⟩,
                 ⟨some 42, some (40, false), .load 1 false, [.tmp 41]⟩,
                 ⟨some 43, some (40, false), .bin .eql, [.tmp 42, .const (.int .i64 1)]⟩,
                 ⟨some 44, some (36, true), .pick, [.tmp 40, .const (.bool true), .tmp 43]⟩,
                 ⟨some 45, none, .pick, [.tmp 36, .tmp 44, .const (.bool false)]⟩,
                 ⟨some 2, none, .mv, [.tmp 45]⟩]) (
               .ret)) (
              .seq (
               .reg [1, 4] false [⟨some 47, none, .bin .eql, [.tmp 4, .const (.int .i64 4)]⟩,
                 ⟨some 46, none, .mv, [.tmp 47]⟩]) (
               .cond (.tmp 46) (
                .seq (
                 .reg [1] false [⟨some 48, none, .fieldAddr 2, [.tmp 1]⟩,
                   ⟨some 49, none, .load 1 false, [.tmp 48]⟩,
                   ⟨some 50, none, .bin .eql, [.tmp 49, .const (.str [])]⟩,
                   ⟨some 51, none, .mv, [.tmp 50]⟩,
                   ⟨some 52, some (51, true), .fieldAddr 1, [.tmp 1]⟩,
                   ⟨some 53, some (51, true), .load 1 false, [.tmp 52]⟩,
                   ⟨some 54, some (51, true), .bin .geq, [.tmp 53, .const (.int .i64 1)]⟩,
                   ⟨some 55, none, .pick, [.tmp 51, .tmp 54, .const (.bool false)]⟩,
                   ⟨some 56, none, .mv, [.tmp 55]⟩,
                   ⟨some 57, some (56, true), .fieldAddr 1, [.tmp 1]⟩,
                   ⟨some 58, some (56, true), .load 1 false, [.tmp 57]⟩,
                   ⟨some 59, some (56, true), .bin .leq, [.tmp 58, .const (.int .i64 6)]⟩,
                   ⟨some 60, none, .pick, [.tmp 56, .tmp 59, .const (.bool false)]⟩,
                   ⟨some 2, none, .mv, [.tmp 60]⟩]) (
                 .ret)) (
                .skip))))))))))))) (
    .seq (
     .reg [] false [⟨some 2, none, .mv, [.const (.bool false)]⟩]) (
     .ret)))
def a_sccref1_Is : AF := { results := [.tmp 2], body := b_sccref1_Is }

/- sccsettle/value.Check, 1 params, 0 free: [] -/
def b_value_Check : AC :=
  .seq (
   .reg [0] false [⟨some 1, none, .box, [.tmp 0]⟩,
     ⟨some 2, none, .mv, [.const (.nili)]⟩]) (
   .seq (
    .reg [1] false [⟨some 3, none, .mv, [.const (.bool false)]⟩]) (
    .seq (
     .seq (
      .reg [1, 3] false [⟨some 4, none, .fieldAddr 0, [.tmp 1]⟩,
        ⟨some 5, none, .load 1 false, [.tmp 4]⟩]) (
      .block 0 [3] (
       .seq (
        .reg [1, 3, 5] false [⟨some 7, none, .bin .eql, [.tmp 5, .const (.int .i64 0)]⟩,
          ⟨some 6, none, .mv, [.tmp 7]⟩]) (
        .cond (.tmp 6) (
         .reg [1] false [⟨some 8, none, .fieldAddr 1, [.tmp 1]⟩,
           ⟨some 9, none, .load 1 false, [.tmp 8]⟩,
           ⟨some 10, none, .bin .eql, [.tmp 9, .const (.int .i64 0)]⟩,
           ⟨some 11, none, .mv, [.tmp 10]⟩,
           ⟨some 12, some (11, true), .fieldAddr 2, [.tmp 1]⟩,
           ⟨some 13, some (11, true), .load 1 false, [.tmp 12]⟩,
           ⟨some 14, some (11, true), .bin .eql, [.tmp 13, .const (.str [])]⟩,
           ⟨some 15, none, .pick, [.tmp 11, .tmp 14, .const (.bool false)]⟩,
           ⟨some 3, none, .mv, [.tmp 15]⟩]) (
         .seq (
          .reg [1, 3, 5] false [⟨some 17, none, .bin .eql, [.tmp 5, .const (.int .i64 1)]⟩,
            ⟨some 16, none, .mv, [.tmp 17]⟩]) (
          .cond (.tmp 16) (
           .reg [1] false [⟨some 18, none, .fieldAddr 2, [.tmp 1]⟩,
             ⟨some 19, none, .load 1 false, [.tmp 18]⟩,
             ⟨some 20, none, .bin .eql, [.tmp 19, .const (.str [])]⟩,
             ⟨some 3, none, .mv, [.tmp 20]⟩]) (
           .seq (
            .reg [1, 3, 5] false [⟨some 22, none, .bin .eql, [.tmp 5, .const (.int .i64 2)]⟩,
              ⟨some 21, none, .mv, [.tmp 22]⟩]) (
            .cond (.tmp 21) (
             .reg [1] false [⟨some 23, none, .fieldAddr 1, [.tmp 1]⟩,
               ⟨some 24, none, .load 1 false, [.tmp 23]⟩,
               ⟨some 25, none, .bin .eql, [.tmp 24, .const (.int .i64 0)]⟩,
               ⟨some 26, none, .mv, [.tmp 25]⟩,
               ⟨some 27, some (26, true), .fieldAddr 2, [.tmp 1]⟩,
               ⟨some 28, some (26, true), .load 1 false, [.tmp 27]⟩,
               ⟨some 29, some (26, true), .len true, [.tmp 28]⟩,
               ⟨some 30, some (26, true), .bin .leq, [.tmp 29, .const (.int .i64 200)]⟩,
               ⟨some 31, none, .pick, [.tmp 26, .tmp 30, .const (.bool false)]⟩,
               ⟨some 3, none, .mv, [.tmp 31]⟩]) (
             .seq (
              .reg [1, 3, 5] false [⟨some 33, none, .bin .eql, [.tmp 5, .const (.int .i64 3)]⟩,
                ⟨some 32, none, .mv, [.tmp 33]⟩]) (
              .cond (.tmp 32) (
               .reg [1] false [⟨some 34, none, .fieldAddr 1, [.tmp 1]⟩,
                 ⟨some 35, none, .load 1 false, [.tmp 34]⟩,
                 ⟨some 36, none, .bin .eql, [.tmp 35, .const (.int .i64 0)]⟩,
                 ⟨some 37, none, .mv, [.tmp 36]⟩,
                 ⟨some 38, some (37, false), .fieldAddr 1, [.tmp 1]⟩,
                 ⟨some 39, some (37, false), .load 1 false, [.tmp 38]⟩,
                 ⟨some 40, some (37, false), .bin .eql, [.tmp 39, .const (.int .i64 1)]⟩,
                 ⟨some 41, none, .pick, [.tmp 37, .const (.bool true), .tmp 40]⟩,
                 ⟨some 42, none, .mv, [.tmp 41]⟩,
                 ⟨some 43, some (42, true), .fieldAddr 2, [.tmp 1]⟩,
                 ⟨some 44, some (42, true), .load 1 false, [.tmp 43]⟩,
                 ⟨some 45, some (42, true), .bin .eql, [.tmp 44, .const (.str [])]⟩,
                 ⟨some 46, none, .pick, [.tmp 42, .tmp 45, .const (.bool false)]⟩,
                 ⟨some 3, none, .mv, [.tmp 46]⟩]) (
               .seq (
                .reg [1, 3, 5] false [⟨some 48, none, .bin .eql, [.tmp 5, .const (.int .i64 4)]⟩,
                  ⟨some 47, none, .mv, [.tmp 48]⟩]) (
                .cond (.tmp 47) (
                 .reg [1] false [⟨some 49, none, .fieldAddr 1, [.tmp 1]⟩,
                   ⟨some 50, none, .load 1 false, [.tmp 49]⟩,
                   ⟨some 51, none, .bin .geq, [.tmp 50, .const (.int .i64 1)]⟩,
                   ⟨some 52, none, .mv, [.tmp 51]⟩,
                   ⟨some 53, some (52, true), .fieldAddr 1, [.tmp 1]⟩,
                   ⟨some 54, some (52, true), .load 1 false, [.tmp 53]⟩,
                   ⟨some 55, some (52, true), .bin .leq, [.tmp 54, .const (.int .i64 6)]⟩,
                   ⟨some 56, none, .pick, [.tmp 52, .tmp 55, .const (.bool false)]⟩,
                   ⟨some 57, none, .mv, [.tmp 56]⟩,
                   ⟨some 58, some (57, true), .fieldAddr 2, [.tmp 1]⟩,
                   ⟨some 59, some (57, true), .load 1 false, [.tmp 58]⟩,
                   ⟨some 60, some (57, true), .bin .eql, [.tmp 59, .const (.str [])]⟩,
                   ⟨some 61, none, .pick, [.tmp 57, .tmp 60, .const (.bool false)]⟩,
                   ⟨some 3, none, .mv, [.tmp 61]⟩]) (
                 .skip))))))))))))) (
     .seq (
      .seq (
       .reg [3] false [⟨some 62, none, .mv, [.tmp 3]⟩,
         ⟨some 63, none, .un .not, [.tmp 62]⟩]) (
       .cond (.tmp 63) (
        .seq (
         .reg [] false [⟨some 64, none, .mkIface t_api_Errno, [.const (.int .i64 1)]⟩,
           ⟨some 2, none, .mv, [.tmp 64]⟩]) (
         .ret)) (
        .skip))) (
      .seq (
       .reg [] false [⟨some 2, none, .mv, [.const (.nili)]⟩]) (
       .ret)))))
def a_value_Check : AF := { results := [.tmp 2], body := b_value_Check }

/- sccsettle/sccref3.Ahead, 3 params, 0 free: [] -/
/- a loop's body; at its head: [7, 2, 1, 0] -/
def b_sccref3_Ahead_0 : AC :=
  .seq (
   .seq (
    .reg [2, 1, 0, 7] false [⟨some 9, none, .mv, [.tmp 7]⟩,
      ⟨some 10, none, .mv, [.tmp 2]⟩,
      ⟨some 11, none, .len false, [.tmp 10]⟩,
      ⟨some 12, none, .bin .lss, [.tmp 9, .tmp 11]⟩]) (
    .cond (.tmp 12) (
     .skip) (
     .exit 0))) (
   .seq (
    .block 1 [2, 1, 0, 7] (
     .seq (
      .reg [2, 1, 0, 7] true [⟨some 15, none, .mv, [.tmp 0]⟩,
        ⟨some 16, none, .mv, [.tmp 2]⟩,
        ⟨some 17, none, .mv, [.tmp 7]⟩,
        ⟨some 18, none, .idxAddr 2, [.tmp 16, .tmp 17]⟩,
        ⟨some 19, none, .fieldAddr 0, [.tmp 18]⟩,
        ⟨some 20, none, .load 1 false, [.tmp 19]⟩,
        ⟨some 21, none, .idxAddr 3, [.tmp 15, .tmp 20]⟩,
        ⟨some 22, none, .load 3 true, [.tmp 21]⟩,
        ⟨some 23, none, .mv, [.tmp 1]⟩,
        ⟨some 24, none, .mv, [.tmp 2]⟩,
        ⟨some 25, none, .mv, [.tmp 7]⟩,
        ⟨some 26, none, .idxAddr 2, [.tmp 24, .tmp 25]⟩,
        ⟨some 27, none, .fieldAddr 0, [.tmp 26]⟩,
        ⟨some 28, none, .load 1 false, [.tmp 27]⟩,
        ⟨some 29, none, .idxAddr 3, [.tmp 23, .tmp 28]⟩,
        ⟨some 30, none, .load 3 true, [.tmp 29]⟩,
        ⟨some 31, none, .call f_sccref1_Compare true, [.tmp 22, .tmp 30]⟩,
        ⟨some 8, none, .mv, [.tmp 31]⟩]) (
      .seq (
       .seq (
        .reg [2, 1, 0, 7, 8] false [⟨some 32, none, .mv, [.tmp 2]⟩,
          ⟨some 33, none, .mv, [.tmp 7]⟩,
          ⟨some 34, none, .idxAddr 2, [.tmp 32, .tmp 33]⟩,
          ⟨some 35, none, .fieldAddr 1, [.tmp 34]⟩,
          ⟨some 36, none, .load 1 false, [.tmp 35]⟩]) (
        .cond (.tmp 36) (
         .reg [2, 1, 0, 7, 8] false [⟨some 37, none, .mv, [.tmp 8]⟩,
           ⟨some 38, none, .un .neg, [.tmp 37]⟩,
           ⟨some 8, none, .mv, [.tmp 38]⟩]) (
         .skip))) (
       .seq (
        .reg [8, 2, 1, 0, 7] false [⟨some 39, none, .mv, [.tmp 8]⟩,
          ⟨some 40, none, .bin .neq, [.tmp 39, .const (.int .i64 0)]⟩]) (
        .cond (.tmp 40) (
         .seq (
          .reg [8] false [⟨some 41, none, .mv, [.tmp 8]⟩,
            ⟨some 42, none, .bin .lss, [.tmp 41, .const (.int .i64 0)]⟩,
            ⟨some 6, none, .mv, [.tmp 42]⟩]) (
          .ret)) (
         .skip)))))) (
    .reg [2, 1, 0, 7] false [⟨some 13, none, .mv, [.tmp 7]⟩,
      ⟨some 14, none, .bin .add, [.tmp 13, .const (.int .i64 1)]⟩,
      ⟨some 7, none, .mv, [.tmp 14]⟩]))

def b_sccref3_Ahead : AC :=
  .seq (
   .reg [2, 1, 0] false [⟨some 6, none, .mv, [.const (.bool false)]⟩]) (
   .seq (
    .seq (
     .reg [2, 1, 0] false [⟨some 7, none, .mv, [.const (.int .i64 0)]⟩]) (
     .block 0 [] (
      .loop [7, 2, 1, 0] b_sccref3_Ahead_0))) (
    .seq (
     .reg [] false [⟨some 6, none, .mv, [.const (.bool false)]⟩]) (
     .ret)))
def a_sccref3_Ahead : AF := { results := [.tmp 6], body := b_sccref3_Ahead }

/- sccsettle/sort.columns, 2 params, 0 free: [] -/
/- a loop's body; at its head: [10, 5, 8, 0, 9] -/
def b_sort_columns_0 : AC :=
  .seq (
   .reg [8, 0, 9, 10, 5] false [⟨some 11, none, .bin .lss, [.tmp 10, .tmp 9]⟩]) (
   .seq (
    .cond (.tmp 11) (
     .skip) (
     .exit 0)) (
    .seq (
     .block 1 [5, 8, 0, 9, 10] (
      .seq (
       .reg [8, 0, 9, 10, 5] false [⟨some 12, none, .idxAddr 2, [.tmp 8, .tmp 10]⟩,
         ⟨some 13, none, .load 2 true, [.tmp 12]⟩,
         ⟨some 7, none, .alloc [.int .i64 0, .bool false], []⟩,
         ⟨none, none, .store 2, [.tmp 7, .tmp 13]⟩]) (
       .reg [8, 0, 9, 10, 7, 5] false [⟨some 14, none, .mv, [.tmp 5]⟩,
         ⟨some 15, none, .fieldAddr 0, [.tmp 7]⟩,
         ⟨some 16, none, .load 1 false, [.tmp 15]⟩,
         ⟨some 17, none, .bslice 1, [.tmp 16]⟩,
         ⟨some 18, none, .append 1 8, [.tmp 14, .tmp 17]⟩,
         ⟨some 5, none, .mv, [.tmp 18]⟩]))) (
     .reg [5, 8, 0, 9, 10] false [⟨some 19, none, .bin .add, [.tmp 10, .const (.int .i64 1)]⟩,
       ⟨some 10, none, .mv, [.tmp 19]⟩])))

def b_sort_columns : AC :=
  .seq (
   .reg [0, 1] false [⟨some 4, none, .mv, [.const (.nili)]⟩]) (
   .seq (
    .reg [0, 1] false [⟨some 5, none, .mv, [.const (.lst (some true) 0 [])]⟩]) (
    .seq (
     .seq (
      .reg [5, 0, 1] false [⟨some 8, none, .mv, [.tmp 1]⟩,
        ⟨some 9, none, .len false, [.tmp 8]⟩,
        ⟨some 10, none, .mv, [.const (.int .i64 0)]⟩]) (
      .block 0 [5, 0] (
       .loop [10, 5, 8, 0, 9] b_sort_columns_0))) (
     .seq (
      .reg [5, 0] false [⟨some 20, none, .mv, [.tmp 0]⟩,
        ⟨some 21, none, .mv, [.tmp 5]⟩,
        ⟨some 22, none, .call f_sort_Columns true, [.tmp 20, .tmp 21]⟩,
        ⟨some 4, none, .mv, [.tmp 22]⟩]) (
      .ret))))
def a_sort_columns : AF := { results := [.tmp 4], body := b_sort_columns }

/- slices.SortStableFunc[[]int,int], 2 params, 0 free: [] -/
def b_slices_SortStableFunc___int_int_ : AC :=
  .reg [1, 0] false [⟨some 4, none, .mv, [.tmp 0]⟩,
    ⟨some 5, none, .mv, [.tmp 0]⟩,
    ⟨some 6, none, .len false, [.tmp 5]⟩,
    ⟨some 7, none, .mv, [.tmp 1]⟩,
    ⟨some 8, none, .call f_slices_stableCmpFunc_int_ false, [.tmp 4, .tmp 6, .tmp 7]⟩]
def a_slices_SortStableFunc___int_int_ : AF := { results := [], body := b_slices_SortStableFunc___int_int_ }

/- sccsettle/sort.Sort$1, 2 params, 2 free: [] -/
def b_sort_Sort_c1 : AC :=
  .seq (
   .reg [3, 1, 2, 0] false [⟨some 6, none, .mv, [.const (.int .i64 0)]⟩]) (
   .seq (
    .reg [3, 1, 2, 0] true [⟨some 7, none, .load 1 false, [.tmp 2]⟩,
      ⟨some 8, none, .mv, [.tmp 0]⟩,
      ⟨some 9, none, .idxAddr 1, [.tmp 7, .tmp 8]⟩,
      ⟨some 10, none, .load 1 false, [.tmp 9]⟩,
      ⟨some 11, none, .load 1 false, [.tmp 2]⟩,
      ⟨some 12, none, .mv, [.tmp 1]⟩,
      ⟨some 13, none, .idxAddr 1, [.tmp 11, .tmp 12]⟩,
      ⟨some 14, none, .load 1 false, [.tmp 13]⟩,
      ⟨some 15, none, .load 1 false, [.tmp 3]⟩,
      ⟨some 16, none, .call f_sort_Compare true, [.tmp 10, .tmp 14, .tmp 15]⟩,
      ⟨some 6, none, .mv, [.tmp 16]⟩]) (
    .ret))
def a_sort_Sort_c1 : AF := { results := [.tmp 6], body := b_sort_Sort_c1 }

/- slices.Equal[[]int,int], 2 params, 0 free: [] -/
/- a loop's body; at its head: [13, 1, 0, 12] -/
def b_slices_Equal___int_int__0 : AC :=
  .seq (
   .reg [1, 0, 12, 13] false [⟨some 14, none, .bin .lss, [.tmp 13, .tmp 12]⟩]) (
   .seq (
    .cond (.tmp 14) (
     .skip) (
     .exit 0)) (
    .seq (
     .block 1 [1, 0, 12, 13] (
      .seq (
       .reg [1, 0, 12, 13] false [⟨some 15, none, .mv, [.tmp 13]⟩,
         ⟨some 5, none, .mv, [.tmp 15]⟩]) (
       .seq (
        .reg [1, 0, 12, 13, 5] true [⟨some 16, none, .mv, [.tmp 0]⟩,
          ⟨some 17, none, .mv, [.tmp 5]⟩,
          ⟨some 18, none, .idxAddr 1, [.tmp 16, .tmp 17]⟩,
          ⟨some 19, none, .load 1 false, [.tmp 18]⟩,
          ⟨some 20, none, .mv, [.tmp 1]⟩,
          ⟨some 21, none, .mv, [.tmp 5]⟩,
          ⟨some 22, none, .idxAddr 1, [.tmp 20, .tmp 21]⟩,
          ⟨some 23, none, .load 1 false, [.tmp 22]⟩,
          ⟨some 24, none, .bin .neq, [.tmp 19, .tmp 23]⟩]) (
        .cond (.tmp 24) (
         .seq (
          .reg [] false [⟨some 4, none, .mv, [.const (.bool false)]⟩]) (
          .ret)) (
         .skip))))) (
     .reg [1, 0, 12, 13] false [⟨some 25, none, .bin .add, [.tmp 13, .const (.int .i64 1)]⟩,
       ⟨some 13, none, .mv, [.tmp 25]⟩])))

def b_slices_Equal___int_int_ : AC :=
  .seq (
   .reg [1, 0] false [⟨some 4, none, .mv, [.const (.bool false)]⟩]) (
   .seq (
    .seq (
     .reg [1, 0] false [⟨some 6, none, .mv, [.tmp 0]⟩,
       ⟨some 7, none, .len false, [.tmp 6]⟩,
       ⟨some 8, none, .mv, [.tmp 1]⟩,
       ⟨some 9, none, .len false, [.tmp 8]⟩,
       ⟨some 10, none, .bin .neq, [.tmp 7, .tmp 9]⟩]) (
     .cond (.tmp 10) (
      .seq (
       .reg [] false [⟨some 4, none, .mv, [.const (.bool false)]⟩]) (
       .ret)) (
      .skip))) (
    .seq (
     .seq (
      .reg [1, 0] false [⟨some 11, none, .mv, [.tmp 0]⟩,
        ⟨some 12, none, .len false, [.tmp 11]⟩,
        ⟨some 13, none, .mv, [.const (.int .i64 0)]⟩]) (
      .block 0 [] (
       .loop [13, 1, 0, 12] b_slices_Equal___int_int__0))) (
     .seq (
      .reg [] false [⟨some 4, none, .mv, [.const (.bool true)]⟩]) (
      .ret))))
def a_slices_Equal___int_int_ : AF := { results := [.tmp 4], body := b_slices_Equal___int_int_ }

/- strings.HasPrefix, 2 params, 0 free: [] -/
def b_strings_HasPrefix : AC :=
  .seq (
   .reg [1, 0] false [⟨some 4, none, .mv, [.const (.bool false)]⟩]) (
   .seq (
    .reg [1, 0] false [⟨some 5, none, .mv, [.tmp 0]⟩,
      ⟨some 6, none, .mv, [.tmp 1]⟩,
      ⟨some 7, none, .call f_stringslite_HasPrefix true, [.tmp 5, .tmp 6]⟩,
      ⟨some 4, none, .mv, [.tmp 7]⟩]) (
    .ret))
def a_strings_HasPrefix : AF := { results := [.tmp 4], body := b_strings_HasPrefix }

/- sccsettle/sort.Column, 2 params, 0 free: [] -/
def b_sort_Column : AC :=
  .seq (
   .reg [1, 0] false [⟨some 4, none, .mv, [.const (.bool false)]⟩]) (
   .seq (
    .reg [1, 0] false [⟨some 5, none, .mv, [.const (.int .i64 12)]⟩]) (
    .seq (
     .seq (
      .reg [1, 0, 5] false [⟨some 6, none, .mv, [.tmp 0]⟩,
        ⟨some 7, none, .len false, [.tmp 6]⟩,
        ⟨some 8, none, .bin .gtr, [.tmp 7, .const (.int .i64 0)]⟩]) (
      .cond (.tmp 8) (
       .reg [1, 0] false [⟨some 9, none, .mv, [.tmp 0]⟩,
         ⟨some 10, none, .idxAddr 1, [.tmp 9, .const (.int .i64 0)]⟩,
         ⟨some 11, none, .load 1 false, [.tmp 10]⟩,
         ⟨some 12, none, .len false, [.tmp 11]⟩,
         ⟨some 5, none, .mv, [.tmp 12]⟩]) (
       .skip))) (
     .seq (
      .reg [5, 1] false [⟨some 13, none, .mv, [.tmp 1]⟩,
        ⟨some 14, none, .bin .geq, [.tmp 13, .const (.int .i64 0)]⟩,
        ⟨some 15, none, .mv, [.tmp 14]⟩,
        ⟨some 16, some (15, true), .mv, [.tmp 1]⟩,
        ⟨some 17, some (15, true), .mv, [.tmp 5]⟩,
        ⟨some 18, some (15, true), .bin .lss, [.tmp 16, .tmp 17]⟩,
        ⟨some 19, none, .pick, [.tmp 15, .tmp 18, .const (.bool false)]⟩,
        ⟨some 4, none, .mv, [.tmp 19]⟩]) (
      .ret))))
def a_sort_Column : AF := { results := [.tmp 4], body := b_sort_Column }

/- slices.IndexFunc[[]int,int], 2 params, 0 free: [] -/
/- a loop's body; at its head: [8, 0, 1, 7] -/
def b_slices_IndexFunc___int_int__0 : AC :=
  .seq (
   .reg [0, 1, 7, 8] false [⟨some 9, none, .bin .lss, [.tmp 8, .tmp 7]⟩]) (
   .seq (
    .cond (.tmp 9) (
     .skip) (
     .exit 0)) (
    .seq (
     .block 1 [0, 1, 7, 8] (
      .seq (
       .reg [0, 1, 7, 8] false [⟨some 10, none, .mv, [.tmp 8]⟩,
         ⟨some 5, none, .mv, [.tmp 10]⟩]) (
       .seq (
        .reg [5, 0, 1, 7, 8] false [⟨some 11, none, .mv, [.tmp 1]⟩,
          ⟨some 12, none, .mv, [.tmp 0]⟩,
          ⟨some 13, none, .mv, [.tmp 5]⟩,
          ⟨some 14, none, .idxAddr 1, [.tmp 12, .tmp 13]⟩,
          ⟨some 15, none, .load 1 false, [.tmp 14]⟩,
          ⟨some 16, none, .callv true, [.tmp 11, .tmp 15]⟩]) (
        .cond (.tmp 16) (
         .seq (
          .reg [5] false [⟨some 17, none, .mv, [.tmp 5]⟩,
            ⟨some 4, none, .mv, [.tmp 17]⟩]) (
          .ret)) (
         .skip))))) (
     .reg [0, 1, 7, 8] false [⟨some 18, none, .bin .add, [.tmp 8, .const (.int .i64 1)]⟩,
       ⟨some 8, none, .mv, [.tmp 18]⟩])))

def b_slices_IndexFunc___int_int_ : AC :=
  .seq (
   .reg [0, 1] false [⟨some 4, none, .mv, [.const (.int .i64 0)]⟩]) (
   .seq (
    .seq (
     .reg [0, 1] false [⟨some 6, none, .mv, [.tmp 0]⟩,
       ⟨some 7, none, .len false, [.tmp 6]⟩,
       ⟨some 8, none, .mv, [.const (.int .i64 0)]⟩]) (
     .block 0 [] (
      .loop [8, 0, 1, 7] b_slices_IndexFunc___int_int__0))) (
    .seq (
     .reg [] false [⟨some 4, none, .mv, [.const (.int .i64 (-1))]⟩]) (
     .ret)))
def a_slices_IndexFunc___int_int_ : AF := { results := [.tmp 4], body := b_slices_IndexFunc___int_int_ }

/- sccsettle/value.Compare, 2 params, 0 free: [] -/
def b_value_Compare : AC :=
  .seq (
   .reg [1, 0] false [⟨some 2, none, .box, [.tmp 0]⟩,
     ⟨some 3, none, .box, [.tmp 1]⟩,
     ⟨some 4, none, .mv, [.const (.int .i64 0)]⟩]) (
   .seq (
    .reg [3, 2] true [⟨some 5, none, .fieldAddr 0, [.tmp 2]⟩,
      ⟨some 6, none, .load 1 false, [.tmp 5]⟩,
      ⟨some 7, none, .fieldAddr 0, [.tmp 3]⟩,
      ⟨some 8, none, .load 1 false, [.tmp 7]⟩,
      ⟨some 9, none, .call f_cmp_Compare_int_ true, [.tmp 6, .tmp 8]⟩,
      ⟨some 10, none, .fieldAddr 1, [.tmp 2]⟩,
      ⟨some 11, none, .load 1 false, [.tmp 10]⟩,
      ⟨some 12, none, .fieldAddr 1, [.tmp 3]⟩,
      ⟨some 13, none, .load 1 false, [.tmp 12]⟩,
      ⟨some 14, none, .call f_cmp_Compare_int_ true, [.tmp 11, .tmp 13]⟩,
      ⟨some 15, none, .fieldAddr 2, [.tmp 2]⟩,
      ⟨some 16, none, .load 1 false, [.tmp 15]⟩,
      ⟨some 17, none, .fieldAddr 2, [.tmp 3]⟩,
      ⟨some 18, none, .load 1 false, [.tmp 17]⟩,
      ⟨some 19, none, .call f_cmp_Compare_string_ true, [.tmp 16, .tmp 18]⟩,
      ⟨some 20, none, .bslice 1, [.tmp 9, .tmp 14, .tmp 19]⟩,
      ⟨some 21, none, .call f_cmp_Or_int_ true, [.tmp 20]⟩,
      ⟨some 4, none, .mv, [.tmp 21]⟩]) (
    .ret))
def a_value_Compare : AF := { results := [.tmp 4], body := b_value_Compare }

/- sccsettle/sccref1.Compare, 2 params, 0 free: [] -/
def b_sccref1_Compare : AC :=
  .seq (
   .reg [1, 0] false [⟨some 2, none, .box, [.tmp 0]⟩,
     ⟨some 3, none, .box, [.tmp 1]⟩,
     ⟨some 4, none, .mv, [.const (.int .i64 0)]⟩]) (
   .seq (
    .reg [2, 3] false [⟨some 7, none, .load 3 true, [.tmp 2]⟩,
      ⟨some 8, none, .load 3 true, [.tmp 3]⟩,
      ⟨some 9, none, .call f_sccref1_less true, [.tmp 7, .tmp 8]⟩,
      ⟨some 5, none, .mv, [.tmp 9]⟩]) (
    .seq (
     .reg [5, 2, 3] false [⟨some 10, none, .load 3 true, [.tmp 3]⟩,
       ⟨some 11, none, .load 3 true, [.tmp 2]⟩,
       ⟨some 12, none, .call f_sccref1_less true, [.tmp 10, .tmp 11]⟩,
       ⟨some 6, none, .mv, [.tmp 12]⟩]) (
     .seq (
      .seq (
       .reg [6, 5] false [⟨some 13, none, .mv, [.tmp 5]⟩]) (
       .cond (.tmp 13) (
        .seq (
         .reg [] false [⟨some 4, none, .mv, [.const (.int .i64 (-1))]⟩]) (
         .ret)) (
        .skip))) (
      .seq (
       .seq (
        .reg [6] false [⟨some 14, none, .mv, [.tmp 6]⟩]) (
        .cond (.tmp 14) (
         .seq (
          .reg [] false [⟨some 4, none, .mv, [.const (.int .i64 1)]⟩]) (
          .ret)) (
         .skip))) (
       .seq (
        .reg [] false [⟨some 4, none, .mv, [.const (.int .i64 0)]⟩]) (
        .ret))))))
def a_sccref1_Compare : AF := { results := [.tmp 4], body := b_sccref1_Compare }

/- slices.stableCmpFunc[int], 3 params, 0 free: [] -/
/- a loop's body; at its head: [6, 8, 2, 7, 0, 1] -/
def b_slices_stableCmpFunc_int__0 : AC :=
  .seq (
   .seq (
    .reg [6, 2, 0, 1, 8, 7] false [⟨some 11, none, .mv, [.tmp 8]⟩,
      ⟨some 12, none, .mv, [.tmp 1]⟩,
      ⟨some 13, none, .bin .leq, [.tmp 11, .tmp 12]⟩]) (
    .cond (.tmp 13) (
     .skip) (
     .exit 0))) (
   .block 1 [6, 8, 2, 7, 0, 1] (
    .seq (
     .reg [6, 2, 0, 1, 8, 7] false [⟨some 14, none, .mv, [.tmp 0]⟩,
       ⟨some 15, none, .mv, [.tmp 7]⟩,
       ⟨some 16, none, .mv, [.tmp 8]⟩,
       ⟨some 17, none, .mv, [.tmp 2]⟩,
       ⟨some 18, none, .call f_slices_insertionSortCmpFunc_int_ false, [.tmp 14, .tmp 15, .tmp 16, .tmp 17]⟩]) (
     .seq (
      .reg [6, 2, 0, 1, 8] false [⟨some 19, none, .mv, [.tmp 8]⟩,
        ⟨some 7, none, .mv, [.tmp 19]⟩]) (
      .reg [6, 2, 7, 0, 1, 8] false [⟨some 20, none, .mv, [.tmp 8]⟩,
        ⟨some 21, none, .mv, [.tmp 6]⟩,
        ⟨some 22, none, .bin .add, [.tmp 20, .tmp 21]⟩,
        ⟨some 8, none, .mv, [.tmp 22]⟩]))))

/- a loop's body; at its head: [6, 8, 2, 7, 0, 1] -/
def b_slices_stableCmpFunc_int__1 : AC :=
  .seq (
   .seq (
    .reg [6, 2, 0, 1, 8, 7] false [⟨some 33, none, .mv, [.tmp 8]⟩,
      ⟨some 34, none, .mv, [.tmp 1]⟩,
      ⟨some 35, none, .bin .leq, [.tmp 33, .tmp 34]⟩]) (
    .cond (.tmp 35) (
     .skip) (
     .exit 4))) (
   .block 5 [6, 8, 2, 7, 0, 1] (
    .seq (
     .reg [6, 2, 0, 1, 8, 7] false [⟨some 36, none, .mv, [.tmp 0]⟩,
       ⟨some 37, none, .mv, [.tmp 7]⟩,
       ⟨some 38, none, .mv, [.tmp 7]⟩,
       ⟨some 39, none, .mv, [.tmp 6]⟩,
       ⟨some 40, none, .bin .add, [.tmp 38, .tmp 39]⟩,
       ⟨some 41, none, .mv, [.tmp 8]⟩,
       ⟨some 42, none, .mv, [.tmp 2]⟩,
       ⟨some 43, none, .call f_slices_symMergeCmpFunc_int_ false, [.tmp 36, .tmp 37, .tmp 40, .tmp 41, .tmp 42]⟩]) (
     .seq (
      .reg [6, 2, 0, 1, 8] false [⟨some 44, none, .mv, [.tmp 8]⟩,
        ⟨some 7, none, .mv, [.tmp 44]⟩]) (
      .reg [6, 2, 7, 0, 1, 8] false [⟨some 45, none, .mv, [.tmp 8]⟩,
        ⟨some 46, none, .mv, [.tmp 6]⟩,
        ⟨some 47, none, .bin .mul, [.const (.int .i64 2), .tmp 46]⟩,
        ⟨some 48, none, .bin .add, [.tmp 45, .tmp 47]⟩,
        ⟨some 8, none, .mv, [.tmp 48]⟩]))))

/- a loop's body; at its head: [6, 2, 0, 1] -/
def b_slices_stableCmpFunc_int__2 : AC :=
  .seq (
   .seq (
    .reg [6, 2, 0, 1] false [⟨some 28, none, .mv, [.tmp 6]⟩,
      ⟨some 29, none, .mv, [.tmp 1]⟩,
      ⟨some 30, none, .bin .lss, [.tmp 28, .tmp 29]⟩]) (
    .cond (.tmp 30) (
     .skip) (
     .exit 2))) (
   .block 3 [6, 2, 0, 1] (
    .seq (
     .reg [6, 2, 0, 1] false [⟨some 31, none, .mv, [.tmp 6]⟩,
       ⟨some 32, none, .bin .mul, [.const (.int .i64 2), .tmp 31]⟩,
       ⟨some 7, none, .mv, [.const (.int .i64 0)]⟩,
       ⟨some 8, none, .mv, [.tmp 32]⟩]) (
     .seq (
      .block 4 [2, 0, 1, 6, 7] (
       .loop [6, 8, 2, 7, 0, 1] b_slices_stableCmpFunc_int__1)) (
      .seq (
       .seq (
        .reg [2, 0, 1, 6, 7] false [⟨some 49, none, .mv, [.tmp 7]⟩,
          ⟨some 50, none, .mv, [.tmp 6]⟩,
          ⟨some 51, none, .bin .add, [.tmp 49, .tmp 50]⟩,
          ⟨some 9, none, .mv, [.tmp 51]⟩]) (
        .seq (
         .reg [2, 0, 1, 6, 9, 7] false [⟨some 52, none, .mv, [.tmp 9]⟩,
           ⟨some 53, none, .mv, [.tmp 1]⟩,
           ⟨some 54, none, .bin .lss, [.tmp 52, .tmp 53]⟩]) (
         .cond (.tmp 54) (
          .reg [2, 0, 1, 6, 9, 7] false [⟨some 55, none, .mv, [.tmp 0]⟩,
            ⟨some 56, none, .mv, [.tmp 7]⟩,
            ⟨some 57, none, .mv, [.tmp 9]⟩,
            ⟨some 58, none, .mv, [.tmp 1]⟩,
            ⟨some 59, none, .mv, [.tmp 2]⟩,
            ⟨some 60, none, .call f_slices_symMergeCmpFunc_int_ false, [.tmp 55, .tmp 56, .tmp 57, .tmp 58, .tmp 59]⟩]) (
          .skip)))) (
       .reg [2, 0, 1, 6] false [⟨some 61, none, .mv, [.tmp 6]⟩,
         ⟨some 62, none, .bin .mul, [.tmp 61, .const (.int .i64 2)]⟩,
         ⟨some 6, none, .mv, [.tmp 62]⟩])))))

def b_slices_stableCmpFunc_int_ : AC :=
  .seq (
   .reg [2, 0, 1] false [⟨some 6, none, .mv, [.const (.int .i64 20)]⟩]) (
   .seq (
    .reg [6, 2, 0, 1] false [⟨some 10, none, .mv, [.tmp 6]⟩,
      ⟨some 7, none, .mv, [.const (.int .i64 0)]⟩,
      ⟨some 8, none, .mv, [.tmp 10]⟩]) (
    .seq (
     .block 0 [6, 2, 0, 1, 7] (
      .loop [6, 8, 2, 7, 0, 1] b_slices_stableCmpFunc_int__0)) (
     .seq (
      .reg [6, 2, 0, 1, 7] false [⟨some 23, none, .mv, [.tmp 0]⟩,
        ⟨some 24, none, .mv, [.tmp 7]⟩,
        ⟨some 25, none, .mv, [.tmp 1]⟩,
        ⟨some 26, none, .mv, [.tmp 2]⟩,
        ⟨some 27, none, .call f_slices_insertionSortCmpFunc_int_ false, [.tmp 23, .tmp 24, .tmp 25, .tmp 26]⟩]) (
      .block 2 [] (
       .loop [6, 2, 0, 1] b_slices_stableCmpFunc_int__2)))))
def a_slices_stableCmpFunc_int_ : AF := { results := [], body := b_slices_stableCmpFunc_int_ }

/- internal/stringslite.HasPrefix, 2 params, 0 free: [] -/
def b_stringslite_HasPrefix : AC :=
  .seq (
   .reg [1, 0] false [⟨some 4, none, .mv, [.const (.bool false)]⟩]) (
   .seq (
    .reg [1, 0] false [⟨some 5, none, .mv, [.tmp 0]⟩,
      ⟨some 6, none, .len true, [.tmp 5]⟩,
      ⟨some 7, none, .mv, [.tmp 1]⟩,
      ⟨some 8, none, .len true, [.tmp 7]⟩,
      ⟨some 9, none, .bin .geq, [.tmp 6, .tmp 8]⟩,
      ⟨some 10, none, .mv, [.tmp 9]⟩,
      ⟨some 11, some (10, true), .mv, [.tmp 0]⟩,
      ⟨some 12, some (10, true), .mv, [.tmp 1]⟩,
      ⟨some 13, some (10, true), .len true, [.tmp 12]⟩,
      ⟨some 14, some (10, true), .slc none false true, [.tmp 11, .tmp 13]⟩,
      ⟨some 15, some (10, true), .mv, [.tmp 1]⟩,
      ⟨some 16, some (10, true), .bin .eql, [.tmp 14, .tmp 15]⟩,
      ⟨some 17, none, .pick, [.tmp 10, .tmp 16, .const (.bool false)]⟩,
      ⟨some 4, none, .mv, [.tmp 17]⟩]) (
    .ret))
def a_stringslite_HasPrefix : AF := { results := [.tmp 4], body := b_stringslite_HasPrefix }

/- cmp.Or[int], 1 params, 0 free: [] -/
/- a loop's body; at its head: [8, 3, 6, 7] -/
def b_cmp_Or_int__0 : AC :=
  .seq (
   .reg [3, 6, 7, 8] false [⟨some 9, none, .bin .lss, [.tmp 8, .tmp 7]⟩]) (
   .seq (
    .cond (.tmp 9) (
     .skip) (
     .exit 0)) (
    .seq (
     .block 1 [3, 6, 7, 8] (
      .seq (
       .reg [3, 6, 7, 8] false [⟨some 10, none, .idxAddr 1, [.tmp 6, .tmp 8]⟩,
         ⟨some 11, none, .load 1 false, [.tmp 10]⟩,
         ⟨some 5, none, .mv, [.tmp 11]⟩]) (
       .seq (
        .reg [5, 3, 6, 7, 8] false [⟨some 12, none, .mv, [.tmp 5]⟩,
          ⟨some 13, none, .mv, [.tmp 3]⟩,
          ⟨some 14, none, .bin .neq, [.tmp 12, .tmp 13]⟩]) (
        .cond (.tmp 14) (
         .seq (
          .reg [5] false [⟨some 15, none, .mv, [.tmp 5]⟩,
            ⟨some 2, none, .mv, [.tmp 15]⟩]) (
          .ret)) (
         .skip))))) (
     .reg [3, 6, 7, 8] false [⟨some 16, none, .bin .add, [.tmp 8, .const (.int .i64 1)]⟩,
       ⟨some 8, none, .mv, [.tmp 16]⟩])))

def b_cmp_Or_int_ : AC :=
  .seq (
   .reg [0] false [⟨some 2, none, .mv, [.const (.int .i64 0)]⟩]) (
   .seq (
    .reg [0] false [⟨some 3, none, .mv, [.const (.int .i64 0)]⟩]) (
    .seq (
     .seq (
      .reg [3, 0] false [⟨some 6, none, .mv, [.tmp 0]⟩,
        ⟨some 7, none, .len false, [.tmp 6]⟩,
        ⟨some 8, none, .mv, [.const (.int .i64 0)]⟩]) (
      .block 0 [3] (
       .loop [8, 3, 6, 7] b_cmp_Or_int__0))) (
     .seq (
      .reg [3] false [⟨some 17, none, .mv, [.tmp 3]⟩,
        ⟨some 2, none, .mv, [.tmp 17]⟩]) (
      .ret))))
def a_cmp_Or_int_ : AF := { results := [.tmp 2], body := b_cmp_Or_int_ }

/- cmp.Compare[int], 2 params, 0 free: [] -/
def b_cmp_Compare_int_ : AC :=
  .seq (
   .reg [1, 0] false [⟨some 4, none, .mv, [.const (.int .i64 0)]⟩]) (
   .seq (
    .reg [1, 0] false [⟨some 7, none, .mv, [.tmp 0]⟩,
      ⟨some 8, none, .call f_cmp_isNaN_int_ true, [.tmp 7]⟩,
      ⟨some 5, none, .mv, [.tmp 8]⟩]) (
    .seq (
     .reg [1, 0, 5] false [⟨some 9, none, .mv, [.tmp 1]⟩,
       ⟨some 10, none, .call f_cmp_isNaN_int_ true, [.tmp 9]⟩,
       ⟨some 6, none, .mv, [.tmp 10]⟩]) (
     .seq (
      .seq (
       .reg [6, 1, 0, 5] false [⟨some 11, none, .mv, [.tmp 5]⟩]) (
       .cond (.tmp 11) (
        .seq (
         .seq (
          .reg [6] false [⟨some 12, none, .mv, [.tmp 6]⟩]) (
          .cond (.tmp 12) (
           .seq (
            .reg [] false [⟨some 4, none, .mv, [.const (.int .i64 0)]⟩]) (
            .ret)) (
           .skip))) (
         .seq (
          .reg [] false [⟨some 4, none, .mv, [.const (.int .i64 (-1))]⟩]) (
          .ret))) (
        .skip))) (
      .seq (
       .seq (
        .reg [1, 0, 6] false [⟨some 13, none, .mv, [.tmp 6]⟩]) (
        .cond (.tmp 13) (
         .seq (
          .reg [] false [⟨some 4, none, .mv, [.const (.int .i64 1)]⟩]) (
          .ret)) (
         .skip))) (
       .seq (
        .seq (
         .reg [1, 0] false [⟨some 14, none, .mv, [.tmp 0]⟩,
           ⟨some 15, none, .mv, [.tmp 1]⟩,
           ⟨some 16, none, .bin .lss, [.tmp 14, .tmp 15]⟩]) (
         .cond (.tmp 16) (
          .seq (
           .reg [] false [⟨some 4, none, .mv, [.const (.int .i64 (-1))]⟩]) (
           .ret)) (
          .skip))) (
        .seq (
         .seq (
          .reg [1, 0] false [⟨some 17, none, .mv, [.tmp 0]⟩,
            ⟨some 18, none, .mv, [.tmp 1]⟩,
            ⟨some 19, none, .bin .gtr, [.tmp 17, .tmp 18]⟩]) (
          .cond (.tmp 19) (
           .seq (
            .reg [] false [⟨some 4, none, .mv, [.const (.int .i64 1)]⟩]) (
            .ret)) (
           .skip))) (
         .seq (
          .reg [] false [⟨some 4, none, .mv, [.const (.int .i64 0)]⟩]) (
          .ret))))))))
def a_cmp_Compare_int_ : AF := { results := [.tmp 4], body := b_cmp_Compare_int_ }

/- cmp.Compare[string], 2 params, 0 free: [] -/
def b_cmp_Compare_string_ : AC :=
  .seq (
   .reg [1, 0] false [⟨some 4, none, .mv, [.const (.int .i64 0)]⟩]) (
   .seq (
    .reg [1, 0] false [⟨some 7, none, .mv, [.tmp 0]⟩,
      ⟨some 8, none, .call f_cmp_isNaN_string_ true, [.tmp 7]⟩,
      ⟨some 5, none, .mv, [.tmp 8]⟩]) (
    .seq (
     .reg [1, 0, 5] false [⟨some 9, none, .mv, [.tmp 1]⟩,
       ⟨some 10, none, .call f_cmp_isNaN_string_ true, [.tmp 9]⟩,
       ⟨some 6, none, .mv, [.tmp 10]⟩]) (
     .seq (
      .seq (
       .reg [6, 1, 0, 5] false [⟨some 11, none, .mv, [.tmp 5]⟩]) (
       .cond (.tmp 11) (
        .seq (
         .seq (
          .reg [6] false [⟨some 12, none, .mv, [.tmp 6]⟩]) (
          .cond (.tmp 12) (
           .seq (
            .reg [] false [⟨some 4, none, .mv, [.const (.int .i64 0)]⟩]) (
            .ret)) (
           .skip))) (
         .seq (
          .reg [] false [⟨some 4, none, .mv, [.const (.int .i64 (-1))]⟩]) (
          .ret))) (
        .skip))) (
      .seq (
       .seq (
        .reg [1, 0, 6] false [⟨some 13, none, .mv, [.tmp 6]⟩]) (
        .cond (.tmp 13) (
         .seq (
          .reg [] false [⟨some 4, none, .mv, [.const (.int .i64 1)]⟩]) (
          .ret)) (
         .skip))) (
       .seq (
        .seq (
         .reg [1, 0] false [⟨some 14, none, .mv, [.tmp 0]⟩,
           ⟨some 15, none, .mv, [.tmp 1]⟩,
           ⟨some 16, none, .bin .lss, [.tmp 14, .tmp 15]⟩]) (
         .cond (.tmp 16) (
          .seq (
           .reg [] false [⟨some 4, none, .mv, [.const (.int .i64 (-1))]⟩]) (
           .ret)) (
          .skip))) (
        .seq (
         .seq (
          .reg [1, 0] false [⟨some 17, none, .mv, [.tmp 0]⟩,
            ⟨some 18, none, .mv, [.tmp 1]⟩,
            ⟨some 19, none, .bin .gtr, [.tmp 17, .tmp 18]⟩]) (
          .cond (.tmp 19) (
           .seq (
            .reg [] false [⟨some 4, none, .mv, [.const (.int .i64 1)]⟩]) (
            .ret)) (
           .skip))) (
         .seq (
          .reg [] false [⟨some 4, none, .mv, [.const (.int .i64 0)]⟩]) (
          .ret))))))))
def a_cmp_Compare_string_ : AF := { results := [.tmp 4], body := b_cmp_Compare_string_ }

/- sccsettle/sccref1.less, 2 params, 0 free: [] -/
def b_sccref1_less : AC :=
  .seq (
   .reg [1, 0] false [⟨some 2, none, .box, [.tmp 0]⟩,
     ⟨some 3, none, .box, [.tmp 1]⟩,
     ⟨some 4, none, .mv, [.const (.bool false)]⟩]) (
   .seq (
    .seq (
     .reg [3, 2] false [⟨some 5, none, .fieldAddr 0, [.tmp 2]⟩,
       ⟨some 6, none, .load 1 false, [.tmp 5]⟩,
       ⟨some 7, none, .fieldAddr 0, [.tmp 3]⟩,
       ⟨some 8, none, .load 1 false, [.tmp 7]⟩,
       ⟨some 9, none, .bin .neq, [.tmp 6, .tmp 8]⟩]) (
     .cond (.tmp 9) (
      .seq (
       .reg [3, 2] false [⟨some 10, none, .fieldAddr 0, [.tmp 2]⟩,
         ⟨some 11, none, .load 1 false, [.tmp 10]⟩,
         ⟨some 12, none, .fieldAddr 0, [.tmp 3]⟩,
         ⟨some 13, none, .load 1 false, [.tmp 12]⟩,
         ⟨some 14, none, .bin .lss, [.tmp 11, .tmp 13]⟩,
         ⟨some 4, none, .mv, [.tmp 14]⟩]) (
       .ret)) (
      .skip))) (
    .seq (
     .seq (
      .reg [3, 2] false [⟨some 15, none, .fieldAddr 0, [.tmp 2]⟩,
        ⟨some 16, none, .load 1 false, [.tmp 15]⟩,
        ⟨some 17, none, .bin .eql, [.tmp 16, .const (.int .i64 2)]⟩]) (
      .cond (.tmp 17) (
       .seq (
        .reg [3, 2] false [⟨some 18, none, .fieldAddr 2, [.tmp 2]⟩,
          ⟨some 19, none, .load 1 false, [.tmp 18]⟩,
          ⟨some 20, none, .fieldAddr 2, [.tmp 3]⟩,
          ⟨some 21, none, .load 1 false, [.tmp 20]⟩,
          ⟨some 22, none, .bin .lss, [.tmp 19, .tmp 21]⟩,
          ⟨some 4, none, .mv, [.tmp 22]⟩]) (
        .ret)) (
       .skip))) (
     .seq (
      .reg [3, 2] false [⟨some 23, none, .fieldAddr 1, [.tmp 2]⟩,
        ⟨some 24, none, .load 1 false, [.tmp 23]⟩,
        ⟨some 25, none, .fieldAddr 1, [.tmp 3]⟩,
        ⟨some 26, none, .load 1 false, [.tmp 25]⟩,
        ⟨some 27, none, .bin .lss, [.tmp 24, .tmp 26]⟩,
        ⟨some 4, none, .mv, [.tmp 27]⟩]) (
      .ret))))
def a_sccref1_less : AF := { results := [.tmp 4], body := b_sccref1_less }

/- slices.insertionSortCmpFunc[int], 4 params, 0 free: [] -/
/- a loop's body; at its head: [9, 0, 3, 1, 2, 8] -/
def b_slices_insertionSortCmpFunc_int__0 : AC :=
  .seq (
   .seq (
    .reg [0, 3, 1, 2, 8, 9] true [⟨some 18, none, .mv, [.tmp 9]⟩,
      ⟨some 19, none, .mv, [.tmp 1]⟩,
      ⟨some 20, none, .bin .gtr, [.tmp 18, .tmp 19]⟩,
      ⟨some 21, none, .mv, [.tmp 20]⟩,
      ⟨some 22, some (21, true), .mv, [.tmp 3]⟩,
      ⟨some 23, some (21, true), .mv, [.tmp 0]⟩,
      ⟨some 24, some (21, true), .mv, [.tmp 9]⟩,
      ⟨some 25, some (21, true), .idxAddr 1, [.tmp 23, .tmp 24]⟩,
      ⟨some 26, some (21, true), .load 1 false, [.tmp 25]⟩,
      ⟨some 27, some (21, true), .mv, [.tmp 0]⟩,
      ⟨some 28, some (21, true), .mv, [.tmp 9]⟩,
      ⟨some 29, some (21, true), .bin .sub, [.tmp 28, .const (.int .i64 1)]⟩,
      ⟨some 30, some (21, true), .idxAddr 1, [.tmp 27, .tmp 29]⟩,
      ⟨some 31, some (21, true), .load 1 false, [.tmp 30]⟩,
      ⟨some 32, some (21, true), .callv true, [.tmp 22, .tmp 26, .tmp 31]⟩,
      ⟨some 33, some (21, true), .bin .lss, [.tmp 32, .const (.int .i64 0)]⟩,
      ⟨some 34, none, .pick, [.tmp 21, .tmp 33, .const (.bool false)]⟩]) (
    .cond (.tmp 34) (
     .skip) (
     .exit 2))) (
   .seq (
    .block 3 [0, 3, 1, 2, 8, 9] (
     .reg [0, 3, 1, 2, 8, 9] true [⟨some 37, none, .mv, [.tmp 0]⟩,
       ⟨some 38, none, .mv, [.tmp 9]⟩,
       ⟨some 39, none, .mv, [.tmp 0]⟩,
       ⟨some 40, none, .mv, [.tmp 9]⟩,
       ⟨some 41, none, .bin .sub, [.tmp 40, .const (.int .i64 1)]⟩,
       ⟨some 42, none, .mv, [.tmp 0]⟩,
       ⟨some 43, none, .mv, [.tmp 9]⟩,
       ⟨some 44, none, .bin .sub, [.tmp 43, .const (.int .i64 1)]⟩,
       ⟨some 45, none, .idxAddr 1, [.tmp 42, .tmp 44]⟩,
       ⟨some 46, none, .load 1 false, [.tmp 45]⟩,
       ⟨some 47, none, .mv, [.tmp 0]⟩,
       ⟨some 48, none, .mv, [.tmp 9]⟩,
       ⟨some 49, none, .idxAddr 1, [.tmp 47, .tmp 48]⟩,
       ⟨some 50, none, .load 1 false, [.tmp 49]⟩,
       ⟨some 51, none, .idxAddr 1, [.tmp 37, .tmp 38]⟩,
       ⟨none, none, .store 1, [.tmp 51, .tmp 46]⟩,
       ⟨some 52, none, .idxAddr 1, [.tmp 39, .tmp 41]⟩,
       ⟨none, none, .store 1, [.tmp 52, .tmp 50]⟩])) (
    .reg [0, 3, 1, 2, 8, 9] false [⟨some 35, none, .mv, [.tmp 9]⟩,
      ⟨some 36, none, .bin .sub, [.tmp 35, .const (.int .i64 1)]⟩,
      ⟨some 9, none, .mv, [.tmp 36]⟩]))

/- a loop's body; at its head: [0, 8, 3, 1, 2] -/
def b_slices_insertionSortCmpFunc_int__1 : AC :=
  .seq (
   .seq (
    .reg [0, 3, 1, 2, 8] false [⟨some 12, none, .mv, [.tmp 8]⟩,
      ⟨some 13, none, .mv, [.tmp 2]⟩,
      ⟨some 14, none, .bin .lss, [.tmp 12, .tmp 13]⟩]) (
    .cond (.tmp 14) (
     .skip) (
     .exit 0))) (
   .seq (
    .block 1 [0, 3, 1, 2, 8] (
     .seq (
      .reg [0, 3, 1, 2, 8] false [⟨some 17, none, .mv, [.tmp 8]⟩,
        ⟨some 9, none, .mv, [.tmp 17]⟩]) (
      .block 2 [0, 3, 1, 2, 8] (
       .loop [9, 0, 3, 1, 2, 8] b_slices_insertionSortCmpFunc_int__0)))) (
    .reg [0, 3, 1, 2, 8] false [⟨some 15, none, .mv, [.tmp 8]⟩,
      ⟨some 16, none, .bin .add, [.tmp 15, .const (.int .i64 1)]⟩,
      ⟨some 8, none, .mv, [.tmp 16]⟩]))

def b_slices_insertionSortCmpFunc_int_ : AC :=
  .seq (
   .reg [0, 3, 1, 2] false [⟨some 10, none, .mv, [.tmp 1]⟩,
     ⟨some 11, none, .bin .add, [.tmp 10, .const (.int .i64 1)]⟩,
     ⟨some 8, none, .mv, [.tmp 11]⟩]) (
   .block 0 [] (
    .loop [0, 8, 3, 1, 2] b_slices_insertionSortCmpFunc_int__1))
def a_slices_insertionSortCmpFunc_int_ : AF := { results := [], body := b_slices_insertionSortCmpFunc_int_ }

/- slices.symMergeCmpFunc[int], 5 params, 0 free: [] -/
/- a loop's body; at its head: [1, 0, 4, 11, 10] -/
def b_slices_symMergeCmpFunc_int__0 : AC :=
  .seq (
   .seq (
    .reg [1, 0, 4, 11, 10] false [⟨some 31, none, .mv, [.tmp 10]⟩,
      ⟨some 32, none, .mv, [.tmp 11]⟩,
      ⟨some 33, none, .bin .lss, [.tmp 31, .tmp 32]⟩]) (
    .cond (.tmp 33) (
     .skip) (
     .exit 0))) (
   .block 1 [1, 0, 4, 11, 10] (
    .seq (
     .reg [1, 0, 4, 11, 10] false [⟨some 34, none, .mv, [.tmp 10]⟩,
       ⟨some 35, none, .mv, [.tmp 11]⟩,
       ⟨some 36, none, .bin .add, [.tmp 34, .tmp 35]⟩,
       ⟨some 37, none, .convInt .u64, [.tmp 36]⟩,
       ⟨some 38, none, .bin .shr, [.tmp 37, .const (.int .u64 1)]⟩,
       ⟨some 39, none, .convInt .i64, [.tmp 38]⟩,
       ⟨some 12, none, .mv, [.tmp 39]⟩]) (
     .seq (
      .reg [1, 0, 4, 11, 12, 10] true [⟨some 40, none, .mv, [.tmp 4]⟩,
        ⟨some 41, none, .mv, [.tmp 0]⟩,
        ⟨some 42, none, .mv, [.tmp 12]⟩,
        ⟨some 43, none, .idxAddr 1, [.tmp 41, .tmp 42]⟩,
        ⟨some 44, none, .load 1 false, [.tmp 43]⟩,
        ⟨some 45, none, .mv, [.tmp 0]⟩,
        ⟨some 46, none, .mv, [.tmp 1]⟩,
        ⟨some 47, none, .idxAddr 1, [.tmp 45, .tmp 46]⟩,
        ⟨some 48, none, .load 1 false, [.tmp 47]⟩,
        ⟨some 49, none, .callv true, [.tmp 40, .tmp 44, .tmp 48]⟩,
        ⟨some 50, none, .bin .lss, [.tmp 49, .const (.int .i64 0)]⟩]) (
      .cond (.tmp 50) (
       .reg [1, 0, 4, 11, 12] false [⟨some 51, none, .mv, [.tmp 12]⟩,
         ⟨some 52, none, .bin .add, [.tmp 51, .const (.int .i64 1)]⟩,
         ⟨some 10, none, .mv, [.tmp 52]⟩]) (
       .reg [1, 0, 4, 10, 12] false [⟨some 53, none, .mv, [.tmp 12]⟩,
         ⟨some 11, none, .mv, [.tmp 53]⟩])))))

/- a loop's body; at its head: [13, 0, 10] -/
def b_slices_symMergeCmpFunc_int__1 : AC :=
  .seq (
   .seq (
    .reg [0, 10, 13] false [⟨some 55, none, .mv, [.tmp 13]⟩,
      ⟨some 56, none, .mv, [.tmp 10]⟩,
      ⟨some 57, none, .bin .sub, [.tmp 56, .const (.int .i64 1)]⟩,
      ⟨some 58, none, .bin .lss, [.tmp 55, .tmp 57]⟩]) (
    .cond (.tmp 58) (
     .skip) (
     .exit 2))) (
   .seq (
    .block 3 [0, 10, 13] (
     .reg [0, 10, 13] true [⟨some 61, none, .mv, [.tmp 0]⟩,
       ⟨some 62, none, .mv, [.tmp 13]⟩,
       ⟨some 63, none, .mv, [.tmp 0]⟩,
       ⟨some 64, none, .mv, [.tmp 13]⟩,
       ⟨some 65, none, .bin .add, [.tmp 64, .const (.int .i64 1)]⟩,
       ⟨some 66, none, .mv, [.tmp 0]⟩,
       ⟨some 67, none, .mv, [.tmp 13]⟩,
       ⟨some 68, none, .bin .add, [.tmp 67, .const (.int .i64 1)]⟩,
       ⟨some 69, none, .idxAddr 1, [.tmp 66, .tmp 68]⟩,
       ⟨some 70, none, .load 1 false, [.tmp 69]⟩,
       ⟨some 71, none, .mv, [.tmp 0]⟩,
       ⟨some 72, none, .mv, [.tmp 13]⟩,
       ⟨some 73, none, .idxAddr 1, [.tmp 71, .tmp 72]⟩,
       ⟨some 74, none, .load 1 false, [.tmp 73]⟩,
       ⟨some 75, none, .idxAddr 1, [.tmp 61, .tmp 62]⟩,
       ⟨none, none, .store 1, [.tmp 75, .tmp 70]⟩,
       ⟨some 76, none, .idxAddr 1, [.tmp 63, .tmp 65]⟩,
       ⟨none, none, .store 1, [.tmp 76, .tmp 74]⟩])) (
    .reg [0, 10, 13] false [⟨some 59, none, .mv, [.tmp 13]⟩,
      ⟨some 60, none, .bin .add, [.tmp 59, .const (.int .i64 1)]⟩,
      ⟨some 13, none, .mv, [.tmp 60]⟩]))

/- a loop's body; at its head: [0, 2, 4, 15, 14] -/
def b_slices_symMergeCmpFunc_int__2 : AC :=
  .seq (
   .seq (
    .reg [0, 2, 4, 15, 14] false [⟨some 83, none, .mv, [.tmp 14]⟩,
      ⟨some 84, none, .mv, [.tmp 15]⟩,
      ⟨some 85, none, .bin .lss, [.tmp 83, .tmp 84]⟩]) (
    .cond (.tmp 85) (
     .skip) (
     .exit 4))) (
   .block 5 [0, 2, 4, 15, 14] (
    .seq (
     .reg [0, 2, 4, 15, 14] false [⟨some 86, none, .mv, [.tmp 14]⟩,
       ⟨some 87, none, .mv, [.tmp 15]⟩,
       ⟨some 88, none, .bin .add, [.tmp 86, .tmp 87]⟩,
       ⟨some 89, none, .convInt .u64, [.tmp 88]⟩,
       ⟨some 90, none, .bin .shr, [.tmp 89, .const (.int .u64 1)]⟩,
       ⟨some 91, none, .convInt .i64, [.tmp 90]⟩,
       ⟨some 16, none, .mv, [.tmp 91]⟩]) (
     .seq (
      .reg [0, 2, 4, 15, 16, 14] true [⟨some 92, none, .mv, [.tmp 4]⟩,
        ⟨some 93, none, .mv, [.tmp 0]⟩,
        ⟨some 94, none, .mv, [.tmp 2]⟩,
        ⟨some 95, none, .idxAddr 1, [.tmp 93, .tmp 94]⟩,
        ⟨some 96, none, .load 1 false, [.tmp 95]⟩,
        ⟨some 97, none, .mv, [.tmp 0]⟩,
        ⟨some 98, none, .mv, [.tmp 16]⟩,
        ⟨some 99, none, .idxAddr 1, [.tmp 97, .tmp 98]⟩,
        ⟨some 100, none, .load 1 false, [.tmp 99]⟩,
        ⟨some 101, none, .callv true, [.tmp 92, .tmp 96, .tmp 100]⟩,
        ⟨some 102, none, .bin .lss, [.tmp 101, .const (.int .i64 0)]⟩,
        ⟨some 103, none, .un .not, [.tmp 102]⟩]) (
      .cond (.tmp 103) (
       .reg [0, 2, 4, 15, 16] false [⟨some 104, none, .mv, [.tmp 16]⟩,
         ⟨some 105, none, .bin .add, [.tmp 104, .const (.int .i64 1)]⟩,
         ⟨some 14, none, .mv, [.tmp 105]⟩]) (
       .reg [0, 2, 4, 14, 16] false [⟨some 106, none, .mv, [.tmp 16]⟩,
         ⟨some 15, none, .mv, [.tmp 106]⟩])))))

/- a loop's body; at its head: [17, 0, 14] -/
def b_slices_symMergeCmpFunc_int__3 : AC :=
  .seq (
   .seq (
    .reg [0, 14, 17] false [⟨some 108, none, .mv, [.tmp 17]⟩,
      ⟨some 109, none, .mv, [.tmp 14]⟩,
      ⟨some 110, none, .bin .gtr, [.tmp 108, .tmp 109]⟩]) (
    .cond (.tmp 110) (
     .skip) (
     .exit 6))) (
   .seq (
    .block 7 [0, 14, 17] (
     .reg [0, 14, 17] true [⟨some 113, none, .mv, [.tmp 0]⟩,
       ⟨some 114, none, .mv, [.tmp 17]⟩,
       ⟨some 115, none, .mv, [.tmp 0]⟩,
       ⟨some 116, none, .mv, [.tmp 17]⟩,
       ⟨some 117, none, .bin .sub, [.tmp 116, .const (.int .i64 1)]⟩,
       ⟨some 118, none, .mv, [.tmp 0]⟩,
       ⟨some 119, none, .mv, [.tmp 17]⟩,
       ⟨some 120, none, .bin .sub, [.tmp 119, .const (.int .i64 1)]⟩,
       ⟨some 121, none, .idxAddr 1, [.tmp 118, .tmp 120]⟩,
       ⟨some 122, none, .load 1 false, [.tmp 121]⟩,
       ⟨some 123, none, .mv, [.tmp 0]⟩,
       ⟨some 124, none, .mv, [.tmp 17]⟩,
       ⟨some 125, none, .idxAddr 1, [.tmp 123, .tmp 124]⟩,
       ⟨some 126, none, .load 1 false, [.tmp 125]⟩,
       ⟨some 127, none, .idxAddr 1, [.tmp 113, .tmp 114]⟩,
       ⟨none, none, .store 1, [.tmp 127, .tmp 122]⟩,
       ⟨some 128, none, .idxAddr 1, [.tmp 115, .tmp 117]⟩,
       ⟨none, none, .store 1, [.tmp 128, .tmp 126]⟩])) (
    .reg [0, 14, 17] false [⟨some 111, none, .mv, [.tmp 17]⟩,
      ⟨some 112, none, .bin .sub, [.tmp 111, .const (.int .i64 1)]⟩,
      ⟨some 17, none, .mv, [.tmp 112]⟩]))

/- a loop's body; at its head: [0, 22, 4, 21, 20, 3, 18, 1, 2, 19] -/
def b_slices_symMergeCmpFunc_int__4 : AC :=
  .seq (
   .seq (
    .reg [0, 22, 4, 21, 3, 18, 1, 2, 19, 20] false [⟨some 149, none, .mv, [.tmp 20]⟩,
      ⟨some 150, none, .mv, [.tmp 21]⟩,
      ⟨some 151, none, .bin .lss, [.tmp 149, .tmp 150]⟩]) (
    .cond (.tmp 151) (
     .skip) (
     .exit 8))) (
   .block 9 [0, 22, 4, 21, 20, 3, 18, 1, 2, 19] (
    .seq (
     .reg [0, 22, 4, 21, 3, 18, 1, 2, 19, 20] false [⟨some 152, none, .mv, [.tmp 20]⟩,
       ⟨some 153, none, .mv, [.tmp 21]⟩,
       ⟨some 154, none, .bin .add, [.tmp 152, .tmp 153]⟩,
       ⟨some 155, none, .convInt .u64, [.tmp 154]⟩,
       ⟨some 156, none, .bin .shr, [.tmp 155, .const (.int .u64 1)]⟩,
       ⟨some 157, none, .convInt .i64, [.tmp 156]⟩,
       ⟨some 23, none, .mv, [.tmp 157]⟩]) (
     .seq (
      .reg [0, 22, 4, 21, 3, 18, 1, 2, 19, 23, 20] true [⟨some 158, none, .mv, [.tmp 4]⟩,
        ⟨some 159, none, .mv, [.tmp 0]⟩,
        ⟨some 160, none, .mv, [.tmp 22]⟩,
        ⟨some 161, none, .mv, [.tmp 23]⟩,
        ⟨some 162, none, .bin .sub, [.tmp 160, .tmp 161]⟩,
        ⟨some 163, none, .idxAddr 1, [.tmp 159, .tmp 162]⟩,
        ⟨some 164, none, .load 1 false, [.tmp 163]⟩,
        ⟨some 165, none, .mv, [.tmp 0]⟩,
        ⟨some 166, none, .mv, [.tmp 23]⟩,
        ⟨some 167, none, .idxAddr 1, [.tmp 165, .tmp 166]⟩,
        ⟨some 168, none, .load 1 false, [.tmp 167]⟩,
        ⟨some 169, none, .callv true, [.tmp 158, .tmp 164, .tmp 168]⟩,
        ⟨some 170, none, .bin .lss, [.tmp 169, .const (.int .i64 0)]⟩,
        ⟨some 171, none, .un .not, [.tmp 170]⟩]) (
      .cond (.tmp 171) (
       .reg [0, 22, 4, 21, 3, 18, 1, 2, 19, 23] false [⟨some 172, none, .mv, [.tmp 23]⟩,
         ⟨some 173, none, .bin .add, [.tmp 172, .const (.int .i64 1)]⟩,
         ⟨some 20, none, .mv, [.tmp 173]⟩]) (
       .reg [0, 22, 4, 20, 3, 18, 1, 2, 19, 23] false [⟨some 174, none, .mv, [.tmp 23]⟩,
         ⟨some 21, none, .mv, [.tmp 174]⟩])))))

def b_slices_symMergeCmpFunc_int_ : AC :=
  .seq (
   .seq (
    .reg [1, 0, 4, 3, 2] false [⟨some 25, none, .mv, [.tmp 2]⟩,
      ⟨some 26, none, .mv, [.tmp 1]⟩,
      ⟨some 27, none, .bin .sub, [.tmp 25, .tmp 26]⟩,
      ⟨some 28, none, .bin .eql, [.tmp 27, .const (.int .i64 1)]⟩]) (
    .cond (.tmp 28) (
     .seq (
      .reg [1, 0, 4, 3, 2] false [⟨some 29, none, .mv, [.tmp 2]⟩,
        ⟨some 10, none, .mv, [.tmp 29]⟩]) (
      .seq (
       .reg [1, 0, 4, 10, 3] false [⟨some 30, none, .mv, [.tmp 3]⟩,
         ⟨some 11, none, .mv, [.tmp 30]⟩]) (
       .seq (
        .block 0 [0, 10, 1] (
         .loop [1, 0, 4, 11, 10] b_slices_symMergeCmpFunc_int__0)) (
        .seq (
         .seq (
          .reg [0, 10, 1] false [⟨some 54, none, .mv, [.tmp 1]⟩,
            ⟨some 13, none, .mv, [.tmp 54]⟩]) (
          .block 2 [] (
           .loop [13, 0, 10] b_slices_symMergeCmpFunc_int__1))) (
         .ret))))) (
     .skip))) (
   .seq (
    .seq (
     .reg [0, 2, 4, 1, 3] false [⟨some 77, none, .mv, [.tmp 3]⟩,
       ⟨some 78, none, .mv, [.tmp 2]⟩,
       ⟨some 79, none, .bin .sub, [.tmp 77, .tmp 78]⟩,
       ⟨some 80, none, .bin .eql, [.tmp 79, .const (.int .i64 1)]⟩]) (
     .cond (.tmp 80) (
      .seq (
       .reg [0, 2, 4, 1] false [⟨some 81, none, .mv, [.tmp 1]⟩,
         ⟨some 14, none, .mv, [.tmp 81]⟩]) (
       .seq (
        .reg [0, 2, 4, 14] false [⟨some 82, none, .mv, [.tmp 2]⟩,
          ⟨some 15, none, .mv, [.tmp 82]⟩]) (
        .seq (
         .block 4 [0, 14, 2] (
          .loop [0, 2, 4, 15, 14] b_slices_symMergeCmpFunc_int__2)) (
         .seq (
          .seq (
           .reg [0, 14, 2] false [⟨some 107, none, .mv, [.tmp 2]⟩,
             ⟨some 17, none, .mv, [.tmp 107]⟩]) (
           .block 6 [] (
            .loop [17, 0, 14] b_slices_symMergeCmpFunc_int__3))) (
          .ret))))) (
      .skip))) (
    .seq (
     .reg [0, 4, 3, 1, 2] false [⟨some 129, none, .mv, [.tmp 1]⟩,
       ⟨some 130, none, .mv, [.tmp 3]⟩,
       ⟨some 131, none, .bin .add, [.tmp 129, .tmp 130]⟩,
       ⟨some 132, none, .convInt .u64, [.tmp 131]⟩,
       ⟨some 133, none, .bin .shr, [.tmp 132, .const (.int .u64 1)]⟩,
       ⟨some 134, none, .convInt .i64, [.tmp 133]⟩,
       ⟨some 18, none, .mv, [.tmp 134]⟩]) (
     .seq (
      .reg [0, 4, 3, 18, 1, 2] false [⟨some 135, none, .mv, [.tmp 18]⟩,
        ⟨some 136, none, .mv, [.tmp 2]⟩,
        ⟨some 137, none, .bin .add, [.tmp 135, .tmp 136]⟩,
        ⟨some 19, none, .mv, [.tmp 137]⟩]) (
      .seq (
       .reg [0, 4, 3, 18, 1, 2, 19] false [⟨some 20, none, .mv, [.const (.int .i64 0)]⟩,
         ⟨some 21, none, .mv, [.const (.int .i64 0)]⟩]) (
       .seq (
        .seq (
         .reg [0, 4, 3, 18, 1, 2, 19] false [⟨some 138, none, .mv, [.tmp 2]⟩,
           ⟨some 139, none, .mv, [.tmp 18]⟩,
           ⟨some 140, none, .bin .gtr, [.tmp 138, .tmp 139]⟩]) (
         .cond (.tmp 140) (
          .seq (
           .reg [0, 4, 3, 18, 1, 2, 19] false [⟨some 141, none, .mv, [.tmp 19]⟩,
             ⟨some 142, none, .mv, [.tmp 3]⟩,
             ⟨some 143, none, .bin .sub, [.tmp 141, .tmp 142]⟩,
             ⟨some 20, none, .mv, [.tmp 143]⟩]) (
           .reg [0, 4, 20, 3, 18, 1, 2, 19] false [⟨some 144, none, .mv, [.tmp 18]⟩,
             ⟨some 21, none, .mv, [.tmp 144]⟩])) (
          .seq (
           .reg [0, 4, 3, 18, 1, 2, 19] false [⟨some 145, none, .mv, [.tmp 1]⟩,
             ⟨some 20, none, .mv, [.tmp 145]⟩]) (
           .reg [0, 4, 20, 3, 18, 1, 2, 19] false [⟨some 146, none, .mv, [.tmp 2]⟩,
             ⟨some 21, none, .mv, [.tmp 146]⟩])))) (
        .seq (
         .reg [0, 4, 21, 20, 3, 18, 1, 2, 19] false [⟨some 147, none, .mv, [.tmp 19]⟩,
           ⟨some 148, none, .bin .sub, [.tmp 147, .const (.int .i64 1)]⟩,
           ⟨some 22, none, .mv, [.tmp 148]⟩]) (
         .seq (
          .block 8 [4, 3, 18, 0, 20, 1, 2, 19] (
           .loop [0, 22, 4, 21, 20, 3, 18, 1, 2, 19] b_slices_symMergeCmpFunc_int__4)) (
          .seq (
           .reg [4, 3, 18, 0, 20, 1, 2, 19] false [⟨some 175, none, .mv, [.tmp 19]⟩,
             ⟨some 176, none, .mv, [.tmp 20]⟩,
             ⟨some 177, none, .bin .sub, [.tmp 175, .tmp 176]⟩,
             ⟨some 24, none, .mv, [.tmp 177]⟩]) (
           .seq (
            .seq (
             .reg [4, 3, 24, 18, 0, 20, 1, 2] false [⟨some 178, none, .mv, [.tmp 20]⟩,
               ⟨some 179, none, .mv, [.tmp 2]⟩,
               ⟨some 180, none, .bin .lss, [.tmp 178, .tmp 179]⟩,
               ⟨some 181, none, .mv, [.tmp 180]⟩,
               ⟨some 182, some (181, true), .mv, [.tmp 2]⟩,
               ⟨some 183, some (181, true), .mv, [.tmp 24]⟩,
               ⟨some 184, some (181, true), .bin .lss, [.tmp 182, .tmp 183]⟩,
               ⟨some 185, none, .pick, [.tmp 181, .tmp 184, .const (.bool false)]⟩]) (
             .cond (.tmp 185) (
              .reg [4, 3, 24, 18, 0, 20, 1, 2] false [⟨some 186, none, .mv, [.tmp 0]⟩,
                ⟨some 187, none, .mv, [.tmp 20]⟩,
                ⟨some 188, none, .mv, [.tmp 2]⟩,
                ⟨some 189, none, .mv, [.tmp 24]⟩,
                ⟨some 190, none, .mv, [.tmp 4]⟩,
                ⟨some 191, none, .call f_slices_rotateCmpFunc_int_ false, [.tmp 186, .tmp 187, .tmp 188, .tmp 189, .tmp 190]⟩]) (
              .skip))) (
            .seq (
             .seq (
              .reg [4, 3, 24, 18, 0, 20, 1] false [⟨some 192, none, .mv, [.tmp 1]⟩,
                ⟨some 193, none, .mv, [.tmp 20]⟩,
                ⟨some 194, none, .bin .lss, [.tmp 192, .tmp 193]⟩,
                ⟨some 195, none, .mv, [.tmp 194]⟩,
                ⟨some 196, some (195, true), .mv, [.tmp 20]⟩,
                ⟨some 197, some (195, true), .mv, [.tmp 18]⟩,
                ⟨some 198, some (195, true), .bin .lss, [.tmp 196, .tmp 197]⟩,
                ⟨some 199, none, .pick, [.tmp 195, .tmp 198, .const (.bool false)]⟩]) (
              .cond (.tmp 199) (
               .reg [4, 3, 24, 18, 0, 20, 1] false [⟨some 200, none, .mv, [.tmp 0]⟩,
                 ⟨some 201, none, .mv, [.tmp 1]⟩,
                 ⟨some 202, none, .mv, [.tmp 20]⟩,
                 ⟨some 203, none, .mv, [.tmp 18]⟩,
                 ⟨some 204, none, .mv, [.tmp 4]⟩,
                 ⟨some 205, none, .call f_slices_symMergeCmpFunc_int_ false, [.tmp 200, .tmp 201, .tmp 202, .tmp 203, .tmp 204]⟩]) (
               .skip))) (
             .seq (
              .reg [4, 3, 24, 18, 0] false [⟨some 206, none, .mv, [.tmp 18]⟩,
                ⟨some 207, none, .mv, [.tmp 24]⟩,
                ⟨some 208, none, .bin .lss, [.tmp 206, .tmp 207]⟩,
                ⟨some 209, none, .mv, [.tmp 208]⟩,
                ⟨some 210, some (209, true), .mv, [.tmp 24]⟩,
                ⟨some 211, some (209, true), .mv, [.tmp 3]⟩,
                ⟨some 212, some (209, true), .bin .lss, [.tmp 210, .tmp 211]⟩,
                ⟨some 213, none, .pick, [.tmp 209, .tmp 212, .const (.bool false)]⟩]) (
              .cond (.tmp 213) (
               .reg [4, 3, 24, 18, 0] false [⟨some 214, none, .mv, [.tmp 0]⟩,
                 ⟨some 215, none, .mv, [.tmp 18]⟩,
                 ⟨some 216, none, .mv, [.tmp 24]⟩,
                 ⟨some 217, none, .mv, [.tmp 3]⟩,
                 ⟨some 218, none, .mv, [.tmp 4]⟩,
                 ⟨some 219, none, .call f_slices_symMergeCmpFunc_int_ false, [.tmp 214, .tmp 215, .tmp 216, .tmp 217, .tmp 218]⟩]) (
               .skip)))))))))))))
def a_slices_symMergeCmpFunc_int_ : AF := { results := [], body := b_slices_symMergeCmpFunc_int_ }

/- cmp.isNaN[int], 1 params, 0 free: [] -/
def b_cmp_isNaN_int_ : AC :=
  .seq (
   .reg [0] false [⟨some 2, none, .mv, [.const (.bool false)]⟩]) (
   .seq (
    .reg [0] false [⟨some 3, none, .mv, [.tmp 0]⟩,
      ⟨some 4, none, .mv, [.tmp 0]⟩,
      ⟨some 5, none, .bin .neq, [.tmp 3, .tmp 4]⟩,
      ⟨some 2, none, .mv, [.tmp 5]⟩]) (
    .ret))
def a_cmp_isNaN_int_ : AF := { results := [.tmp 2], body := b_cmp_isNaN_int_ }

/- cmp.isNaN[string], 1 params, 0 free: [] -/
def b_cmp_isNaN_string_ : AC :=
  .seq (
   .reg [0] false [⟨some 2, none, .mv, [.const (.bool false)]⟩]) (
   .seq (
    .reg [0] false [⟨some 3, none, .mv, [.tmp 0]⟩,
      ⟨some 4, none, .mv, [.tmp 0]⟩,
      ⟨some 5, none, .bin .neq, [.tmp 3, .tmp 4]⟩,
      ⟨some 2, none, .mv, [.tmp 5]⟩]) (
    .ret))
def a_cmp_isNaN_string_ : AF := { results := [.tmp 2], body := b_cmp_isNaN_string_ }

/- slices.rotateCmpFunc[int], 5 params, 0 free: [] -/
/- a loop's body; at its head: [11, 10, 4, 2, 0] -/
def b_slices_rotateCmpFunc_int__0 : AC :=
  .seq (
   .seq (
    .reg [11, 4, 2, 0, 10] false [⟨some 18, none, .mv, [.tmp 10]⟩,
      ⟨some 19, none, .mv, [.tmp 11]⟩,
      ⟨some 20, none, .bin .neq, [.tmp 18, .tmp 19]⟩]) (
    .cond (.tmp 20) (
     .skip) (
     .exit 0))) (
   .block 1 [11, 10, 4, 2, 0] (
    .seq (
     .reg [11, 4, 2, 0, 10] false [⟨some 21, none, .mv, [.tmp 10]⟩,
       ⟨some 22, none, .mv, [.tmp 11]⟩,
       ⟨some 23, none, .bin .gtr, [.tmp 21, .tmp 22]⟩]) (
     .cond (.tmp 23) (
      .seq (
       .reg [11, 4, 2, 0, 10] false [⟨some 24, none, .mv, [.tmp 0]⟩,
         ⟨some 25, none, .mv, [.tmp 2]⟩,
         ⟨some 26, none, .mv, [.tmp 10]⟩,
         ⟨some 27, none, .bin .sub, [.tmp 25, .tmp 26]⟩,
         ⟨some 28, none, .mv, [.tmp 2]⟩,
         ⟨some 29, none, .mv, [.tmp 11]⟩,
         ⟨some 30, none, .mv, [.tmp 4]⟩,
         ⟨some 31, none, .call f_slices_swapRangeCmpFunc_int_ false, [.tmp 24, .tmp 27, .tmp 28, .tmp 29, .tmp 30]⟩]) (
       .reg [11, 4, 2, 0, 10] false [⟨some 32, none, .mv, [.tmp 10]⟩,
         ⟨some 33, none, .mv, [.tmp 11]⟩,
         ⟨some 34, none, .bin .sub, [.tmp 32, .tmp 33]⟩,
         ⟨some 10, none, .mv, [.tmp 34]⟩])) (
      .seq (
       .reg [10, 4, 2, 0, 11] false [⟨some 35, none, .mv, [.tmp 0]⟩,
         ⟨some 36, none, .mv, [.tmp 2]⟩,
         ⟨some 37, none, .mv, [.tmp 10]⟩,
         ⟨some 38, none, .bin .sub, [.tmp 36, .tmp 37]⟩,
         ⟨some 39, none, .mv, [.tmp 2]⟩,
         ⟨some 40, none, .mv, [.tmp 11]⟩,
         ⟨some 41, none, .bin .add, [.tmp 39, .tmp 40]⟩,
         ⟨some 42, none, .mv, [.tmp 10]⟩,
         ⟨some 43, none, .bin .sub, [.tmp 41, .tmp 42]⟩,
         ⟨some 44, none, .mv, [.tmp 10]⟩,
         ⟨some 45, none, .mv, [.tmp 4]⟩,
         ⟨some 46, none, .call f_slices_swapRangeCmpFunc_int_ false, [.tmp 35, .tmp 38, .tmp 43, .tmp 44, .tmp 45]⟩]) (
       .reg [10, 4, 2, 0, 11] false [⟨some 47, none, .mv, [.tmp 11]⟩,
         ⟨some 48, none, .mv, [.tmp 10]⟩,
         ⟨some 49, none, .bin .sub, [.tmp 47, .tmp 48]⟩,
         ⟨some 11, none, .mv, [.tmp 49]⟩])))))

def b_slices_rotateCmpFunc_int_ : AC :=
  .seq (
   .reg [4, 2, 0, 3, 1] false [⟨some 12, none, .mv, [.tmp 2]⟩,
     ⟨some 13, none, .mv, [.tmp 1]⟩,
     ⟨some 14, none, .bin .sub, [.tmp 12, .tmp 13]⟩,
     ⟨some 10, none, .mv, [.tmp 14]⟩]) (
   .seq (
    .reg [10, 4, 2, 0, 3] false [⟨some 15, none, .mv, [.tmp 3]⟩,
      ⟨some 16, none, .mv, [.tmp 2]⟩,
      ⟨some 17, none, .bin .sub, [.tmp 15, .tmp 16]⟩,
      ⟨some 11, none, .mv, [.tmp 17]⟩]) (
    .seq (
     .block 0 [4, 10, 2, 0] (
      .loop [11, 10, 4, 2, 0] b_slices_rotateCmpFunc_int__0)) (
     .reg [4, 10, 2, 0] false [⟨some 50, none, .mv, [.tmp 0]⟩,
       ⟨some 51, none, .mv, [.tmp 2]⟩,
       ⟨some 52, none, .mv, [.tmp 10]⟩,
       ⟨some 53, none, .bin .sub, [.tmp 51, .tmp 52]⟩,
       ⟨some 54, none, .mv, [.tmp 2]⟩,
       ⟨some 55, none, .mv, [.tmp 10]⟩,
       ⟨some 56, none, .mv, [.tmp 4]⟩,
       ⟨some 57, none, .call f_slices_swapRangeCmpFunc_int_ false, [.tmp 50, .tmp 53, .tmp 54, .tmp 55, .tmp 56]⟩])))
def a_slices_rotateCmpFunc_int_ : AF := { results := [], body := b_slices_rotateCmpFunc_int_ }

/- slices.swapRangeCmpFunc[int], 5 params, 0 free: [] -/
/- a loop's body; at its head: [10, 1, 0, 2, 3] -/
def b_slices_swapRangeCmpFunc_int__0 : AC :=
  .seq (
   .seq (
    .reg [1, 0, 2, 3, 10] false [⟨some 11, none, .mv, [.tmp 10]⟩,
      ⟨some 12, none, .mv, [.tmp 3]⟩,
      ⟨some 13, none, .bin .lss, [.tmp 11, .tmp 12]⟩]) (
    .cond (.tmp 13) (
     .skip) (
     .exit 0))) (
   .seq (
    .block 1 [1, 0, 2, 3, 10] (
     .reg [1, 0, 2, 3, 10] true [⟨some 16, none, .mv, [.tmp 0]⟩,
       ⟨some 17, none, .mv, [.tmp 1]⟩,
       ⟨some 18, none, .mv, [.tmp 10]⟩,
       ⟨some 19, none, .bin .add, [.tmp 17, .tmp 18]⟩,
       ⟨some 20, none, .mv, [.tmp 0]⟩,
       ⟨some 21, none, .mv, [.tmp 2]⟩,
       ⟨some 22, none, .mv, [.tmp 10]⟩,
       ⟨some 23, none, .bin .add, [.tmp 21, .tmp 22]⟩,
       ⟨some 24, none, .mv, [.tmp 0]⟩,
       ⟨some 25, none, .mv, [.tmp 2]⟩,
       ⟨some 26, none, .mv, [.tmp 10]⟩,
       ⟨some 27, none, .bin .add, [.tmp 25, .tmp 26]⟩,
       ⟨some 28, none, .idxAddr 1, [.tmp 24, .tmp 27]⟩,
       ⟨some 29, none, .load 1 false, [.tmp 28]⟩,
       ⟨some 30, none, .mv, [.tmp 0]⟩,
       ⟨some 31, none, .mv, [.tmp 1]⟩,
       ⟨some 32, none, .mv, [.tmp 10]⟩,
       ⟨some 33, none, .bin .add, [.tmp 31, .tmp 32]⟩,
       ⟨some 34, none, .idxAddr 1, [.tmp 30, .tmp 33]⟩,
       ⟨some 35, none, .load 1 false, [.tmp 34]⟩,
       ⟨some 36, none, .idxAddr 1, [.tmp 16, .tmp 19]⟩,
       ⟨none, none, .store 1, [.tmp 36, .tmp 29]⟩,
       ⟨some 37, none, .idxAddr 1, [.tmp 20, .tmp 23]⟩,
       ⟨none, none, .store 1, [.tmp 37, .tmp 35]⟩])) (
    .reg [1, 0, 2, 3, 10] false [⟨some 14, none, .mv, [.tmp 10]⟩,
      ⟨some 15, none, .bin .add, [.tmp 14, .const (.int .i64 1)]⟩,
      ⟨some 10, none, .mv, [.tmp 15]⟩]))

def b_slices_swapRangeCmpFunc_int_ : AC :=
  .seq (
   .reg [1, 0, 2, 3] false [⟨some 10, none, .mv, [.const (.int .i64 0)]⟩]) (
   .block 0 [] (
    .loop [10, 1, 0, 2, 3] b_slices_swapRangeCmpFunc_int__0))
def a_slices_swapRangeCmpFunc_int_ : AF := { results := [], body := b_slices_swapRangeCmpFunc_int_ }

end Go.AM
