/-
  WRITTEN BY A PROGRAM OF OURS (tools/seat.py): the code of the functions of this seat, each checked by the kernel against the model.
-/
import Derived.Test.YtkigkbnlhkckgaaBaseS
import Derived.Test.YtkigkbnlhkckgaaProg
import Derived.KernelRfl
namespace Go.Proofs.Try
open Go Go.Ab
def c_law30_LedgerAll : ACode :=
  .seq (.region [
     ⟨some 2, .mv (.c (.bool false)), none, []⟩] none) <|
  .seq (.seq (.region [
      ⟨some 21, .call 9 [], none, []⟩,
      ⟨some 22, .un .not (.t 21), none, []⟩] none) <|
   .cond (.t 22) (.seq (.region [
       ⟨some 2, .mv (.c (.bool false)), none, []⟩] none) <|
    .ret) <|
   .skip) <|
  .seq (.seq (.region [
      ⟨some 23, .mv (.t 0), none, []⟩,
      ⟨some 24, .call 10 [.t 23], none, []⟩,
      ⟨some 25, .un .not (.t 24), none, []⟩] none) <|
   .cond (.t 25) (.seq (.region [
       ⟨some 2, .mv (.c (.bool true)), none, []⟩] none) <|
    .ret) <|
   .skip) <|
  .seq (.region [
     ⟨some 26, .mv (.t 0), none, []⟩,
     ⟨some 27, .call 11 [.t 26], none, []⟩,
     ⟨some 3, .mv (.t 27), none, []⟩] none) <|
  .seq (.region [
     ⟨some 4, .alloc 14 29 (.agg [.int .i64 0, .int .i64 0, .int .i64 0, .int .i64 0, .int .i64 0, .int .i64 0, .int .i64 0, .int .i64 0, .int .i64 0, .int .i64 0, .int .i64 0, .int .i64 0, .int .i64 0, .int .i64 0]), none, []⟩] none) <|
  .seq (.seq (.region [
      ⟨some 28, .mv (.c (.int .i64 0)), none, []⟩] none) <|
   .block 0 <|
   .loop <|
   .seq (.region [
      ⟨some 29, .bin .lss (.t 28) (.c (.int .i64 7)), none, []⟩] none) <|
   .seq (.cond (.t 29) (.skip) <|
    .exit 0) <|
   .seq (.block 1 <|
    .seq (.region [
       ⟨some 30, .mv (.t 28), none, []⟩,
       ⟨some 5, .mv (.t 30), none, []⟩] none) <|
    .seq (.region [
       ⟨some 31, .mv (.t 3), none, []⟩,
       ⟨some 32, .call 12 [.t 31, .c (.int .i64 6)], none, []⟩,
       ⟨some 6, .mv (.t 32), none, []⟩] none) <|
    .region [
      ⟨some 33, .mv (.t 5), none, []⟩,
      ⟨some 34, .mv (.t 6), none, []⟩,
      ⟨some 35, .mv (.t 6), none, []⟩,
      ⟨some 36, .mv (.t 3), none, []⟩,
      ⟨some 37, .call 12 [.t 36, .c (.int .i64 3)], none, []⟩,
      ⟨some 38, .bin .add (.t 35) (.t 37), none, []⟩,
      ⟨some 39, .build [.int .i64 0, .int .i64 0] [(0, 1, .t 34), (1, 1, .t 38)], none, []⟩,
      ⟨some 40, .pu (.aixs 2 7) [.t 4, .t 33], none, []⟩,
      ⟨none, .store 2 (.t 40) (.t 39), none, []⟩] none) <|
   .region [
     ⟨some 41, .bin .add (.t 28) (.c (.int .i64 1)), none, []⟩,
     ⟨some 28, .mv (.t 41), none, []⟩] none) <|
  .seq (.hregion [
     ⟨2, ⟨some 44, .slca 2 7 (.t 4) (some (.c (.int .i64 5))) none, none, []⟩⟩,
     ⟨1, ⟨some 43, .slca 2 7 (.t 4) (some (.c (.int .i64 3))) (some (.c (.int .i64 5))), none, []⟩⟩,
     ⟨0, ⟨some 42, .slca 2 7 (.t 4) none (some (.c (.int .i64 3))), none, []⟩⟩,
     ⟨3, ⟨some 45, .build [.int .i64 0, .nil, .nil, .nil] [(1, 1, .t 42), (2, 1, .t 43), (3, 1, .t 44)], none, [0, 1, 2]⟩⟩,
     ⟨4, ⟨some 7, .alloc 4 33 (.agg [.int .i64 0, .nil, .nil, .nil]), none, []⟩⟩,
     ⟨5, ⟨none, .store 4 (.t 7) (.t 45), none, [4, 3, 0, 1, 2]⟩⟩]) <|
  .seq (.region [
     ⟨some 47, .load true 4 (.t 7), none, []⟩,
     ⟨some 48, .call 13 [.t 47], none, []⟩,
     ⟨some 46, .mv (.t 48), none, []⟩,
     ⟨some 49, .ext (.t 46) 0, none, []⟩,
     ⟨some 50, .ext (.t 46) 1, none, []⟩,
     ⟨some 8, .alloc 4 33 (.agg [.int .i64 0, .nil, .nil, .nil]), none, []⟩,
     ⟨none, .store 4 (.t 8) (.t 49), none, []⟩,
     ⟨some 9, .mv (.t 50), none, []⟩] none) <|
  .seq (.region [
     ⟨some 10, .alloc 14 29 (.agg [.int .i64 0, .int .i64 0, .int .i64 0, .int .i64 0, .int .i64 0, .int .i64 0, .int .i64 0, .int .i64 0, .int .i64 0, .int .i64 0, .int .i64 0, .int .i64 0, .int .i64 0, .int .i64 0]), none, []⟩] none) <|
  .seq (.region [
     ⟨some 11, .mv (.c (.bool false)), none, []⟩] none) <|
  .seq (.seq (.region [
      ⟨some 51, .pu (.aixs 2 7) [.t 4, .c (.int .i64 0)], none, []⟩,
      ⟨some 52, .fa 0 (.t 51), none, []⟩,
      ⟨some 53, .load false 1 (.t 52), none, []⟩,
      ⟨some 12, .mv (.t 53), none, []⟩] none) <|
   .block 2 <|
   .loop <|
   .seq (.seq (.region [
       ⟨some 54, .mv (.t 12), none, []⟩,
       ⟨some 55, .pu (.aixs 2 7) [.t 4, .c (.int .i64 0)], none, []⟩,
       ⟨some 56, .fa 1 (.t 55), none, []⟩,
       ⟨some 57, .load false 1 (.t 56), none, []⟩,
       ⟨some 58, .bin .leq (.t 54) (.t 57), none, []⟩] none) <|
    .cond (.t 58) (.skip) <|
    .exit 2) <|
   .seq (.block 3 <|
    .seq (.region [
       ⟨some 61, .pu (.aixs 2 7) [.t 4, .c (.int .i64 3)], none, []⟩,
       ⟨some 62, .fa 0 (.t 61), none, []⟩,
       ⟨some 63, .load false 1 (.t 62), none, []⟩,
       ⟨some 13, .mv (.t 63), none, []⟩] none) <|
    .block 4 <|
    .loop <|
    .seq (.seq (.region [
        ⟨some 64, .mv (.t 13), none, []⟩,
        ⟨some 65, .pu (.aixs 2 7) [.t 4, .c (.int .i64 3)], none, []⟩,
        ⟨some 66, .fa 1 (.t 65), none, []⟩,
        ⟨some 67, .load false 1 (.t 66), none, []⟩,
        ⟨some 68, .bin .leq (.t 64) (.t 67), none, []⟩] none) <|
     .cond (.t 68) (.skip) <|
     .exit 4) <|
    .seq (.block 5 <|
     .seq (.region [
        ⟨some 71, .pu (.aixs 2 7) [.t 4, .c (.int .i64 5)], none, []⟩,
        ⟨some 72, .fa 0 (.t 71), none, []⟩,
        ⟨some 73, .load false 1 (.t 72), none, []⟩,
        ⟨some 14, .mv (.t 73), none, []⟩] none) <|
     .block 6 <|
     .loop <|
     .seq (.seq (.region [
         ⟨some 74, .mv (.t 14), none, []⟩,
         ⟨some 75, .pu (.aixs 2 7) [.t 4, .c (.int .i64 5)], none, []⟩,
         ⟨some 76, .fa 1 (.t 75), none, []⟩,
         ⟨some 77, .load false 1 (.t 76), none, []⟩,
         ⟨some 78, .bin .leq (.t 74) (.t 77), none, []⟩] none) <|
      .cond (.t 78) (.skip) <|
      .exit 6) <|
     .seq (.block 7 <|
      .seq (.region [
         ⟨some 81, .pu (.aixs 2 7) [.t 4, .c (.int .i64 4)], none, []⟩,
         ⟨some 82, .fa 0 (.t 81), none, []⟩,
         ⟨some 83, .load false 1 (.t 82), none, []⟩,
         ⟨some 15, .mv (.t 83), none, []⟩] none) <|
      .block 8 <|
      .loop <|
      .seq (.seq (.region [
          ⟨some 84, .mv (.t 15), none, []⟩,
          ⟨some 85, .pu (.aixs 2 7) [.t 4, .c (.int .i64 4)], none, []⟩,
          ⟨some 86, .fa 1 (.t 85), none, []⟩,
          ⟨some 87, .load false 1 (.t 86), none, []⟩,
          ⟨some 88, .bin .leq (.t 84) (.t 87), none, []⟩] none) <|
       .cond (.t 88) (.skip) <|
       .exit 8) <|
      .seq (.block 9 <|
       .seq (.region [
          ⟨some 91, .pu (.aixs 2 7) [.t 4, .c (.int .i64 6)], none, []⟩,
          ⟨some 92, .fa 0 (.t 91), none, []⟩,
          ⟨some 93, .load false 1 (.t 92), none, []⟩,
          ⟨some 16, .mv (.t 93), none, []⟩] none) <|
       .block 10 <|
       .loop <|
       .seq (.seq (.region [
           ⟨some 94, .mv (.t 16), none, []⟩,
           ⟨some 95, .pu (.aixs 2 7) [.t 4, .c (.int .i64 6)], none, []⟩,
           ⟨some 96, .fa 1 (.t 95), none, []⟩,
           ⟨some 97, .load false 1 (.t 96), none, []⟩,
           ⟨some 98, .bin .leq (.t 94) (.t 97), none, []⟩] none) <|
        .cond (.t 98) (.skip) <|
        .exit 10) <|
       .seq (.block 11 <|
        .seq (.region [
           ⟨some 101, .mv (.t 12), none, []⟩,
           ⟨some 102, .mv (.t 13), none, []⟩,
           ⟨some 103, .bin .add (.t 101) (.t 102), none, []⟩,
           ⟨some 104, .mv (.t 14), none, []⟩,
           ⟨some 105, .bin .sub (.t 103) (.t 104), none, []⟩,
           ⟨some 17, .mv (.t 105), none, []⟩] none) <|
        .seq (.region [
           ⟨some 106, .mv (.t 12), none, []⟩,
           ⟨some 107, .mv (.t 17), none, []⟩,
           ⟨some 108, .mv (.t 17), none, []⟩,
           ⟨some 109, .mv (.t 15), none, []⟩,
           ⟨some 110, .bin .add (.t 108) (.t 109), none, []⟩,
           ⟨some 111, .mv (.t 16), none, []⟩,
           ⟨some 112, .bin .sub (.t 110) (.t 111), none, []⟩,
           ⟨some 113, .mv (.t 13), none, []⟩,
           ⟨some 114, .mv (.t 15), none, []⟩,
           ⟨some 115, .mv (.t 14), none, []⟩,
           ⟨some 116, .mv (.t 16), none, []⟩,
           ⟨some 117, .build [.int .i64 0, .int .i64 0, .int .i64 0, .int .i64 0, .int .i64 0, .int .i64 0, .int .i64 0] [(0, 1, .t 106), (1, 1, .t 107), (2, 1, .t 112), (3, 1, .t 113), (4, 1, .t 114), (5, 1, .t 115), (6, 1, .t 116)], none, []⟩,
           ⟨some 18, .alloc 7 37 (.agg [.int .i64 0, .int .i64 0, .int .i64 0, .int .i64 0, .int .i64 0, .int .i64 0, .int .i64 0]), none, []⟩,
           ⟨none, .store 7 (.t 18) (.t 117), none, []⟩] none) <|
        .seq (.seq (.region [
            ⟨some 118, .pu (.aixs 1 7) [.t 18, .c (.int .i64 1)], none, []⟩,
            ⟨some 119, .load false 1 (.t 118), none, []⟩,
            ⟨some 120, .pu (.aixs 2 7) [.t 4, .c (.int .i64 1)], none, []⟩,
            ⟨some 121, .fa 0 (.t 120), none, []⟩,
            ⟨some 122, .load false 1 (.t 121), none, []⟩,
            ⟨some 123, .bin .lss (.t 119) (.t 122), none, []⟩,
            ⟨some 124, .mv (.t 123), none, []⟩,
            ⟨some 125, .pu (.aixs 1 7) [.t 18, .c (.int .i64 1)], some (124, false), []⟩,
            ⟨some 126, .load false 1 (.t 125), some (124, false), []⟩,
            ⟨some 127, .pu (.aixs 2 7) [.t 4, .c (.int .i64 1)], some (124, false), []⟩,
            ⟨some 128, .fa 1 (.t 127), some (124, false), []⟩,
            ⟨some 129, .load false 1 (.t 128), some (124, false), []⟩,
            ⟨some 130, .bin .gtr (.t 126) (.t 129), some (124, false), []⟩,
            ⟨some 131, .pick (.t 124) (.c (.bool true)) (.t 130), none, []⟩,
            ⟨some 132, .mv (.t 131), none, []⟩,
            ⟨some 133, .pu (.aixs 1 7) [.t 18, .c (.int .i64 2)], some (132, false), []⟩,
            ⟨some 134, .load false 1 (.t 133), some (132, false), []⟩,
            ⟨some 135, .pu (.aixs 2 7) [.t 4, .c (.int .i64 2)], some (132, false), []⟩,
            ⟨some 136, .fa 0 (.t 135), some (132, false), []⟩,
            ⟨some 137, .load false 1 (.t 136), some (132, false), []⟩,
            ⟨some 138, .bin .lss (.t 134) (.t 137), some (132, false), []⟩,
            ⟨some 139, .pick (.t 132) (.c (.bool true)) (.t 138), none, []⟩,
            ⟨some 140, .mv (.t 139), none, []⟩,
            ⟨some 141, .pu (.aixs 1 7) [.t 18, .c (.int .i64 2)], some (140, false), []⟩,
            ⟨some 142, .load false 1 (.t 141), some (140, false), []⟩,
            ⟨some 143, .pu (.aixs 2 7) [.t 4, .c (.int .i64 2)], some (140, false), []⟩,
            ⟨some 144, .fa 1 (.t 143), some (140, false), []⟩,
            ⟨some 145, .load false 1 (.t 144), some (140, false), []⟩,
            ⟨some 146, .bin .gtr (.t 142) (.t 145), some (140, false), []⟩,
            ⟨some 147, .pick (.t 140) (.c (.bool true)) (.t 146), none, []⟩] none) <|
         .cond (.t 147) (.exit 11) <|
         .skip) <|
        .seq (.seq (.region [
            ⟨some 148, .load true 7 (.t 18), none, []⟩,
            ⟨some 149, .mv (.c (.int .i64 0)), none, []⟩] none) <|
         .block 12 <|
         .loop <|
         .seq (.region [
            ⟨some 150, .bin .lss (.t 149) (.c (.int .i64 7)), none, []⟩] none) <|
         .seq (.cond (.t 150) (.skip) <|
          .exit 12) <|
         .seq (.block 13 <|
          .seq (.region [
             ⟨some 151, .mv (.t 149), none, []⟩,
             ⟨some 152, .pu (.aidx false 1 7) [.t 148, .t 149], none, []⟩,
             ⟨some 19, .mv (.t 151), none, []⟩,
             ⟨some 20, .mv (.t 152), none, []⟩] none) <|
          .seq (.seq (.region [
              ⟨some 153, .mv (.t 11), none, []⟩,
              ⟨some 154, .un .not (.t 153), none, []⟩] none) <|
           .cond (.t 154) (.region [
              ⟨some 155, .mv (.t 19), none, []⟩,
              ⟨some 156, .mv (.t 20), none, []⟩,
              ⟨some 157, .mv (.t 20), none, []⟩,
              ⟨some 158, .build [.int .i64 0, .int .i64 0] [(0, 1, .t 156), (1, 1, .t 157)], none, []⟩,
              ⟨some 159, .pu (.aixs 2 7) [.t 10, .t 155], none, []⟩,
              ⟨none, .store 2 (.t 159) (.t 158), none, []⟩] none) <|
           .skip) <|
          .hregion [
            ⟨11, ⟨some 171, .mv (.t 20), none, []⟩⟩,
            ⟨7, ⟨some 167, .mv (.t 19), none, []⟩⟩,
            ⟨8, ⟨some 168, .pu (.aixs 2 7) [.t 10, .t 167], none, [7]⟩⟩,
            ⟨9, ⟨some 169, .fa 1 (.t 168), none, [8, 7]⟩⟩,
            ⟨10, ⟨some 170, .load false 1 (.t 169), none, [9, 8, 7]⟩⟩,
            ⟨12, ⟨some 172, .mnx true (.t 170) [.t 171], none, [10, 11, 9, 8, 7]⟩⟩,
            ⟨5, ⟨some 165, .mv (.t 20), none, []⟩⟩,
            ⟨1, ⟨some 161, .mv (.t 19), none, []⟩⟩,
            ⟨2, ⟨some 162, .pu (.aixs 2 7) [.t 10, .t 161], none, [1]⟩⟩,
            ⟨3, ⟨some 163, .fa 0 (.t 162), none, [2, 1]⟩⟩,
            ⟨4, ⟨some 164, .load false 1 (.t 163), none, [3, 2, 1]⟩⟩,
            ⟨6, ⟨some 166, .mnx false (.t 164) [.t 165], none, [4, 5, 3, 2, 1]⟩⟩,
            ⟨13, ⟨some 173, .build [.int .i64 0, .int .i64 0] [(0, 1, .t 166), (1, 1, .t 172)], none, [6, 12, 4, 5, 3, 2, 1, 10, 11, 9, 8, 7]⟩⟩,
            ⟨0, ⟨some 160, .mv (.t 19), none, []⟩⟩,
            ⟨14, ⟨some 174, .pu (.aixs 2 7) [.t 10, .t 160], none, [0, 1, 2, 3, 4, 5, 6, 7, 8, 9, 10, 11, 12, 13]⟩⟩,
            ⟨15, ⟨none, .store 2 (.t 174) (.t 173), none, [14, 13, 0, 1, 2, 3, 4, 5, 6, 7, 8, 9, 10, 11, 12]⟩⟩]) <|
         .region [
           ⟨some 175, .bin .add (.t 149) (.c (.int .i64 1)), none, []⟩,
           ⟨some 149, .mv (.t 175), none, []⟩] none) <|
        .region [
          ⟨some 11, .mv (.c (.bool true)), none, []⟩] none) <|
       .region [
         ⟨some 99, .mv (.t 16), none, []⟩,
         ⟨some 100, .bin .add (.t 99) (.c (.int .i64 1)), none, []⟩,
         ⟨some 16, .mv (.t 100), none, []⟩] none) <|
      .region [
        ⟨some 89, .mv (.t 15), none, []⟩,
        ⟨some 90, .bin .add (.t 89) (.c (.int .i64 1)), none, []⟩,
        ⟨some 15, .mv (.t 90), none, []⟩] none) <|
     .region [
       ⟨some 79, .mv (.t 14), none, []⟩,
       ⟨some 80, .bin .add (.t 79) (.c (.int .i64 1)), none, []⟩,
       ⟨some 14, .mv (.t 80), none, []⟩] none) <|
    .region [
      ⟨some 69, .mv (.t 13), none, []⟩,
      ⟨some 70, .bin .add (.t 69) (.c (.int .i64 1)), none, []⟩,
      ⟨some 13, .mv (.t 70), none, []⟩] none) <|
   .region [
     ⟨some 59, .mv (.t 12), none, []⟩,
     ⟨some 60, .bin .add (.t 59) (.c (.int .i64 1)), none, []⟩,
     ⟨some 12, .mv (.t 60), none, []⟩] none) <|
  .seq (.seq (.region [
      ⟨some 176, .mv (.t 11), none, []⟩,
      ⟨some 177, .un .not (.t 176), none, []⟩] none) <|
   .cond (.t 177) (.seq (.region [
       ⟨some 178, .mv (.t 9), none, []⟩,
       ⟨some 179, .bin .eql (.t 178) (.c (.int .i64 48)), none, []⟩,
       ⟨some 2, .mv (.t 179), none, []⟩] none) <|
    .ret) <|
   .skip) <|
  .seq (.hregion [
     ⟨0, ⟨some 180, .mv (.t 9), none, []⟩⟩,
     ⟨1, ⟨some 181, .bin .eql (.t 180) (.c (.int .i64 0)), none, [0]⟩⟩,
     ⟨2, ⟨some 182, .mv (.t 181), none, [1, 0]⟩⟩,
     ⟨5, ⟨some 185, .slca 2 7 (.t 10) none (some (.c (.int .i64 3))), some (182, true), [2, 1, 0]⟩⟩,
     ⟨3, ⟨some 183, .fa 1 (.t 8), some (182, true), [2, 1, 0]⟩⟩,
     ⟨4, ⟨some 184, .load false 1 (.t 183), some (182, true), [3, 2, 1, 0]⟩⟩,
     ⟨6, ⟨some 186, .call 14 [.t 184, .t 185], some (182, true), [4, 5, 2, 3, 1, 0]⟩⟩,
     ⟨7, ⟨some 187, .pick (.t 182) (.t 186) (.c (.bool false)), none, [2, 6, 1, 0, 4, 5, 3]⟩⟩,
     ⟨8, ⟨some 188, .mv (.t 187), none, [7, 6, 2, 1, 0, 4, 5, 3]⟩⟩,
     ⟨11, ⟨some 191, .slca 2 7 (.t 10) (some (.c (.int .i64 3))) (some (.c (.int .i64 5))), some (188, true), [8, 7, 6, 2, 1, 0, 4, 5, 3]⟩⟩,
     ⟨9, ⟨some 189, .fa 2 (.t 8), some (188, true), [8, 7, 6, 2, 1, 0, 4, 5, 3]⟩⟩,
     ⟨10, ⟨some 190, .load false 1 (.t 189), some (188, true), [9, 8, 7, 6, 2, 1, 0, 4, 5, 3]⟩⟩,
     ⟨12, ⟨some 192, .call 14 [.t 190, .t 191], some (188, true), [10, 11, 8, 9, 7, 6, 2, 1, 0, 4, 5, 3]⟩⟩,
     ⟨13, ⟨some 193, .pick (.t 188) (.t 192) (.c (.bool false)), none, [8, 12, 7, 6, 2, 1, 0, 4, 5, 3, 10, 11, 9]⟩⟩,
     ⟨14, ⟨some 194, .mv (.t 193), none, [13, 12, 8, 7, 6, 2, 1, 0, 4, 5, 3, 10, 11, 9]⟩⟩,
     ⟨17, ⟨some 197, .slca 2 7 (.t 10) (some (.c (.int .i64 5))) none, some (194, true), [14, 13, 12, 8, 7, 6, 2, 1, 0, 4, 5, 3, 10, 11, 9]⟩⟩,
     ⟨15, ⟨some 195, .fa 3 (.t 8), some (194, true), [14, 13, 12, 8, 7, 6, 2, 1, 0, 4, 5, 3, 10, 11, 9]⟩⟩,
     ⟨16, ⟨some 196, .load false 1 (.t 195), some (194, true), [15, 14, 13, 12, 8, 7, 6, 2, 1, 0, 4, 5, 3, 10, 11, 9]⟩⟩,
     ⟨18, ⟨some 198, .call 14 [.t 196, .t 197], some (194, true), [16, 17, 14, 15, 13, 12, 8, 7, 6, 2, 1, 0, 4, 5, 3, 10, 11, 9]⟩⟩,
     ⟨19, ⟨some 199, .pick (.t 194) (.t 198) (.c (.bool false)), none, [14, 18, 13, 12, 8, 7, 6, 2, 1, 0, 4, 5, 3, 10, 11, 9, 16, 17, 15]⟩⟩,
     ⟨20, ⟨some 2, .mv (.t 199), none, [19, 18, 0, 1, 2, 3, 4, 5, 6, 7, 8, 9, 10, 11, 12, 13, 14, 15, 16, 17]⟩⟩]) <|
  .ret
abbrev n_law30_LedgerAll : Nat := 3
theorem b_law30_LedgerAll : bodyOf prog 3 [1000000] = some (c_law30_LedgerAll, [.t 2], 200) := by kernel_rfl

def c_law30_LedgerExact : ACode :=
  .seq (.region [
     ⟨some 4, .mv (.c (.bool false)), none, []⟩] none) <|
  .seq (.seq (.region [
      ⟨some 14, .call 9 [], none, []⟩,
      ⟨some 15, .un .not (.t 14), none, []⟩] none) <|
   .cond (.t 15) (.seq (.region [
       ⟨some 4, .mv (.c (.bool false)), none, []⟩] none) <|
    .ret) <|
   .skip) <|
  .seq (.seq (.region [
      ⟨some 16, .mv (.t 0), none, []⟩,
      ⟨some 17, .call 10 [.t 16], none, []⟩,
      ⟨some 18, .un .not (.t 17), none, []⟩] none) <|
   .cond (.t 18) (.seq (.region [
       ⟨some 4, .mv (.c (.bool true)), none, []⟩] none) <|
    .ret) <|
   .skip) <|
  .seq (.region [
     ⟨some 20, .mv (.t 0), none, []⟩,
     ⟨some 21, .call 11 [.t 20], none, []⟩,
     ⟨some 22, .call 15 [.t 21], none, []⟩,
     ⟨some 19, .mv (.t 22), none, []⟩,
     ⟨some 23, .ext (.t 19) 0, none, []⟩,
     ⟨some 24, .ext (.t 19) 1, none, []⟩,
     ⟨some 25, .ext (.t 19) 2, none, []⟩,
     ⟨some 5, .mv (.t 23), none, []⟩,
     ⟨some 6, .mv (.t 24), none, []⟩,
     ⟨some 7, .mv (.t 25), none, []⟩] none) <|
  .seq (.region [
     ⟨some 26, .mv (.t 6), none, []⟩,
     ⟨some 27, .call 16 [.t 26], none, []⟩,
     ⟨some 28, .mv (.t 7), none, []⟩,
     ⟨some 29, .call 16 [.t 28], none, []⟩,
     ⟨some 30, .build [.int .i64 0, .nil, .nil, .nil] [(2, 1, .t 27), (3, 1, .t 29)], none, []⟩,
     ⟨some 8, .alloc 4 33 (.agg [.int .i64 0, .nil, .nil, .nil]), none, []⟩,
     ⟨none, .store 4 (.t 8) (.t 30), none, []⟩] none) <|
  .seq (.seq (.region [
      ⟨some 31, .mv (.t 5), none, []⟩,
      ⟨some 32, .len (.t 31), none, []⟩,
      ⟨some 33, .mv (.c (.int .i64 0)), none, []⟩] none) <|
   .block 0 <|
   .loop <|
   .seq (.region [
      ⟨some 34, .bin .lss (.t 33) (.t 32), none, []⟩] none) <|
   .seq (.cond (.t 34) (.skip) <|
    .exit 0) <|
   .seq (.block 1 <|
    .seq (.region [
       ⟨some 35, .mv (.t 33), none, []⟩,
       ⟨some 36, .ixs 1 (.t 31) (.t 33), none, []⟩,
       ⟨some 37, .load false 1 (.t 36), none, []⟩,
       ⟨some 9, .mv (.t 35), none, []⟩,
       ⟨some 10, .mv (.t 37), none, []⟩] none) <|
    .seq (.region [
       ⟨some 38, .build [.int .i64 0, .int .i64 0] [(1, 1, .c (.int .i64 274877906944))], none, []⟩,
       ⟨some 11, .alloc 2 28 (.agg [.int .i64 0, .int .i64 0]), none, []⟩,
       ⟨none, .store 2 (.t 11) (.t 38), none, []⟩] none) <|
    .seq (.seq (.region [
        ⟨some 39, .mv (.t 9), none, []⟩,
        ⟨some 40, .mv (.t 1), none, []⟩,
        ⟨some 41, .conv .i64 (.t 40), none, []⟩,
        ⟨some 42, .mv (.t 5), none, []⟩,
        ⟨some 43, .len (.t 42), none, []⟩,
        ⟨some 44, .bin .rem (.t 41) (.t 43), none, []⟩,
        ⟨some 45, .bin .eql (.t 39) (.t 44), none, []⟩] none) <|
     .cond (.t 45) (.region [
        ⟨some 46, .mv (.t 10), none, []⟩,
        ⟨some 47, .mv (.t 10), none, []⟩,
        ⟨some 48, .build [.int .i64 0, .int .i64 0] [(0, 1, .t 46), (1, 1, .t 47)], none, []⟩,
        ⟨none, .store 2 (.t 11) (.t 48), none, []⟩] none) <|
     .skip) <|
    .region [
      ⟨some 49, .fa 1 (.t 8), none, []⟩,
      ⟨some 50, .load false 1 (.t 49), none, []⟩,
      ⟨some 51, .load true 2 (.t 11), none, []⟩,
      ⟨some 52, .lit false 2 28 [.t 51], none, []⟩,
      ⟨some 53, .app 2 16 28 (.t 50) (.t 52), none, []⟩,
      ⟨some 54, .fa 1 (.t 8), none, []⟩,
      ⟨none, .store 1 (.t 54) (.t 53), none, []⟩] none) <|
   .region [
     ⟨some 55, .bin .add (.t 33) (.c (.int .i64 1)), none, []⟩,
     ⟨some 33, .mv (.t 55), none, []⟩] none) <|
  .seq (.region [
     ⟨some 57, .load true 4 (.t 8), none, []⟩,
     ⟨some 58, .call 13 [.t 57], none, []⟩,
     ⟨some 56, .mv (.t 58), none, []⟩,
     ⟨some 59, .ext (.t 56) 0, none, []⟩,
     ⟨some 60, .ext (.t 56) 1, none, []⟩,
     ⟨some 12, .alloc 4 33 (.agg [.int .i64 0, .nil, .nil, .nil]), none, []⟩,
     ⟨none, .store 4 (.t 12) (.t 59), none, []⟩,
     ⟨some 13, .mv (.t 60), none, []⟩] none) <|
  .seq (.hregion [
     ⟨0, ⟨some 61, .mv (.t 13), none, []⟩⟩,
     ⟨1, ⟨some 62, .bin .eql (.t 61) (.c (.int .i64 0)), none, [0]⟩⟩,
     ⟨2, ⟨some 63, .mv (.t 62), none, [1, 0]⟩⟩,
     ⟨5, ⟨some 66, .mv (.t 5), some (63, true), [2, 1, 0]⟩⟩,
     ⟨3, ⟨some 64, .fa 1 (.t 12), some (63, true), [2, 1, 0]⟩⟩,
     ⟨4, ⟨some 65, .load false 1 (.t 64), some (63, true), [3, 2, 1, 0]⟩⟩,
     ⟨6, ⟨some 67, .call 16 [.t 66], some (63, true), [5, 2, 1, 0]⟩⟩,
     ⟨7, ⟨some 68, .call 14 [.t 65, .t 67], some (63, true), [4, 6, 2, 3, 1, 0, 5]⟩⟩,
     ⟨8, ⟨some 69, .pick (.t 63) (.t 68) (.c (.bool false)), none, [2, 7, 1, 0, 4, 6, 3, 5]⟩⟩,
     ⟨9, ⟨some 4, .mv (.t 69), none, [8, 7, 0, 1, 2, 3, 4, 5, 6]⟩⟩]) <|
  .ret
abbrev n_law30_LedgerExact : Nat := 4
theorem b_law30_LedgerExact : bodyOf prog 4 [1000000] = some (c_law30_LedgerExact, [.t 4], 70) := by kernel_rfl

def c_law30_LedgerTrue : ACode :=
  .seq (.region [
     ⟨some 6, .mv (.c (.bool false)), none, []⟩] none) <|
  .seq (.seq (.region [
      ⟨some 20, .call 9 [], none, []⟩,
      ⟨some 21, .un .not (.t 20), none, []⟩] none) <|
   .cond (.t 21) (.seq (.region [
       ⟨some 6, .mv (.c (.bool false)), none, []⟩] none) <|
    .ret) <|
   .skip) <|
  .seq (.seq (.region [
      ⟨some 22, .mv (.t 0), none, []⟩,
      ⟨some 23, .call 10 [.t 22], none, []⟩,
      ⟨some 24, .un .not (.t 23), none, []⟩] none) <|
   .cond (.t 24) (.seq (.region [
       ⟨some 6, .mv (.c (.bool true)), none, []⟩] none) <|
    .ret) <|
   .skip) <|
  .seq (.region [
     ⟨some 25, .mv (.t 0), none, []⟩,
     ⟨some 26, .call 11 [.t 25], none, []⟩,
     ⟨some 7, .mv (.t 26), none, []⟩] none) <|
  .seq (.region [
     ⟨some 28, .mv (.t 7), none, []⟩,
     ⟨some 29, .call 17 [.t 28], none, []⟩,
     ⟨some 27, .mv (.t 29), none, []⟩,
     ⟨some 30, .ext (.t 27) 0, none, []⟩,
     ⟨some 31, .ext (.t 27) 1, none, []⟩,
     ⟨some 32, .ext (.t 27) 2, none, []⟩,
     ⟨some 33, .ext (.t 27) 3, none, []⟩,
     ⟨some 8, .alloc 4 33 (.agg [.int .i64 0, .nil, .nil, .nil]), none, []⟩,
     ⟨none, .store 4 (.t 8) (.t 30), none, []⟩,
     ⟨some 9, .mv (.t 31), none, []⟩,
     ⟨some 10, .mv (.t 32), none, []⟩,
     ⟨some 11, .mv (.t 33), none, []⟩] none) <|
  .seq (.region [
     ⟨some 35, .load true 4 (.t 8), none, []⟩,
     ⟨some 36, .call 13 [.t 35], none, []⟩,
     ⟨some 34, .mv (.t 36), none, []⟩,
     ⟨some 37, .ext (.t 34) 0, none, []⟩,
     ⟨some 38, .ext (.t 34) 1, none, []⟩,
     ⟨some 12, .alloc 4 33 (.agg [.int .i64 0, .nil, .nil, .nil]), none, []⟩,
     ⟨none, .store 4 (.t 12) (.t 37), none, []⟩,
     ⟨some 13, .mv (.t 38), none, []⟩] none) <|
  .seq (.seq (.region [
      ⟨some 39, .mv (.t 13), none, []⟩,
      ⟨some 40, .bin .neq (.t 39) (.c (.int .i64 0)), none, []⟩,
      ⟨some 41, .mv (.t 40), none, []⟩,
      ⟨some 42, .load true 4 (.t 8), some (41, false), []⟩,
      ⟨some 43, .mv (.t 9), some (41, false), []⟩,
      ⟨some 44, .mv (.t 10), some (41, false), []⟩,
      ⟨some 45, .mv (.t 11), some (41, false), []⟩,
      ⟨some 46, .call 18 [.t 42, .t 43, .t 44, .t 45], some (41, false), []⟩,
      ⟨some 47, .un .not (.t 46), some (41, false), []⟩,
      ⟨some 48, .pick (.t 41) (.c (.bool true)) (.t 47), none, []⟩,
      ⟨some 49, .mv (.t 48), none, []⟩,
      ⟨some 50, .load true 4 (.t 12), some (49, false), []⟩,
      ⟨some 51, .mv (.t 9), some (49, false), []⟩,
      ⟨some 52, .mv (.t 10), some (49, false), []⟩,
      ⟨some 53, .mv (.t 11), some (49, false), []⟩,
      ⟨some 54, .call 18 [.t 50, .t 51, .t 52, .t 53], some (49, false), []⟩,
      ⟨some 55, .un .not (.t 54), some (49, false), []⟩,
      ⟨some 56, .pick (.t 49) (.c (.bool true)) (.t 55), none, []⟩] none) <|
   .cond (.t 56) (.seq (.region [
       ⟨some 6, .mv (.c (.bool false)), none, []⟩] none) <|
    .ret) <|
   .skip) <|
  .seq (.region [
     ⟨some 57, .mv (.t 9), none, []⟩,
     ⟨some 58, .mv (.t 10), none, []⟩,
     ⟨some 59, .mv (.t 11), none, []⟩,
     ⟨some 60, .lit false 1 22 [.t 57, .t 58, .t 59], none, []⟩,
     ⟨some 61, .mv (.t 1), none, []⟩,
     ⟨some 62, .conv .i64 (.t 61), none, []⟩,
     ⟨some 63, .bin .rem (.t 62) (.c (.int .i64 3)), none, []⟩,
     ⟨some 64, .ixs 1 (.t 60) (.t 63), none, []⟩,
     ⟨some 65, .load false 1 (.t 64), none, []⟩,
     ⟨some 14, .mv (.t 65), none, []⟩] none) <|
  .seq (.region [
     ⟨some 66, .mv (.t 2), none, []⟩,
     ⟨some 67, .conv .i64 (.t 66), none, []⟩,
     ⟨some 68, .mv (.t 14), none, []⟩,
     ⟨some 69, .len (.t 68), none, []⟩,
     ⟨some 70, .bin .rem (.t 67) (.t 69), none, []⟩,
     ⟨some 15, .mv (.t 70), none, []⟩] none) <|
  .seq (.hregion [
     ⟨14, ⟨some 86, .mv (.t 15), none, []⟩⟩,
     ⟨13, ⟨some 85, .mv (.t 14), none, []⟩⟩,
     ⟨15, ⟨some 87, .ixs 1 (.t 85) (.t 86), none, [13, 14]⟩⟩,
     ⟨16, ⟨some 88, .load false 1 (.t 87), none, [15, 13, 14]⟩⟩,
     ⟨10, ⟨some 82, .mv (.t 15), none, []⟩⟩,
     ⟨9, ⟨some 81, .mv (.t 14), none, []⟩⟩,
     ⟨11, ⟨some 83, .ixs 1 (.t 81) (.t 82), none, [9, 10]⟩⟩,
     ⟨12, ⟨some 84, .load false 1 (.t 83), none, [11, 9, 10]⟩⟩,
     ⟨17, ⟨some 89, .build [.int .i64 0, .int .i64 0] [(0, 1, .t 84), (1, 1, .t 88)], none, [12, 16, 11, 9, 10, 15, 13, 14]⟩⟩,
     ⟨7, ⟨some 79, .mv (.t 15), none, []⟩⟩,
     ⟨5, ⟨some 77, .fa 0 (.t 8), none, []⟩⟩,
     ⟨6, ⟨some 78, .load false 1 (.t 77), none, [5]⟩⟩,
     ⟨8, ⟨some 80, .bin .add (.t 78) (.t 79), none, [6, 7, 5]⟩⟩,
     ⟨1, ⟨some 73, .mv (.t 1), none, []⟩⟩,
     ⟨2, ⟨some 74, .conv .i64 (.t 73), none, [1]⟩⟩,
     ⟨3, ⟨some 75, .bin .rem (.t 74) (.c (.int .i64 3)), none, [2, 1]⟩⟩,
     ⟨4, ⟨some 76, .bin .add (.c (.int .i64 1)) (.t 75), none, [3, 2, 1]⟩⟩,
     ⟨0, ⟨some 72, .load true 4 (.t 12), none, []⟩⟩,
     ⟨18, ⟨some 90, .call 19 [.t 72, .t 76, .t 80, .t 89], none, [0, 4, 8, 17, 3, 2, 1, 6, 7, 5, 12, 16, 11, 9, 10, 15, 13, 14]⟩⟩,
     ⟨19, ⟨some 71, .mv (.t 90), none, [18, 0, 4, 8, 17, 3, 2, 1, 6, 7, 5, 12, 16, 11, 9, 10, 15, 13, 14]⟩⟩,
     ⟨21, ⟨some 92, .ext (.t 71) 1, none, [19, 18, 0, 4, 8, 17, 3, 2, 1, 6, 7, 5, 12, 16, 11, 9, 10, 15, 13, 14]⟩⟩,
     ⟨20, ⟨some 91, .ext (.t 71) 0, none, [19, 18, 0, 4, 8, 17, 3, 2, 1, 6, 7, 5, 12, 16, 11, 9, 10, 15, 13, 14]⟩⟩,
     ⟨22, ⟨some 16, .alloc 4 33 (.agg [.int .i64 0, .nil, .nil, .nil]), none, []⟩⟩,
     ⟨23, ⟨none, .store 4 (.t 16) (.t 91), none, [22, 20, 18, 0, 1, 2, 3, 4, 5, 6, 7, 8, 9, 10, 11, 12, 13, 14, 15, 16, 17, 19]⟩⟩,
     ⟨24, ⟨some 17, .mv (.t 92), none, [21, 23, 0, 1, 2, 3, 4, 5, 6, 7, 8, 9, 10, 11, 12, 13, 14, 15, 16, 17, 18, 19, 20, 22]⟩⟩]) <|
  .seq (.region [
     ⟨some 94, .load true 4 (.t 16), none, []⟩,
     ⟨some 95, .call 13 [.t 94], none, []⟩,
     ⟨some 93, .mv (.t 95), none, []⟩,
     ⟨some 96, .ext (.t 93) 0, none, []⟩,
     ⟨some 97, .ext (.t 93) 1, none, []⟩,
     ⟨some 18, .alloc 4 33 (.agg [.int .i64 0, .nil, .nil, .nil]), none, []⟩,
     ⟨none, .store 4 (.t 18) (.t 96), none, []⟩,
     ⟨some 19, .mv (.t 97), none, []⟩] none) <|
  .seq (.region [
     ⟨some 98, .mv (.t 17), none, []⟩,
     ⟨some 99, .bin .eql (.t 98) (.c (.int .i64 0)), none, []⟩,
     ⟨some 100, .mv (.t 99), none, []⟩,
     ⟨some 101, .mv (.t 19), some (100, true), []⟩,
     ⟨some 102, .bin .eql (.t 101) (.c (.int .i64 0)), some (100, true), []⟩,
     ⟨some 103, .pick (.t 100) (.t 102) (.c (.bool false)), none, []⟩,
     ⟨some 104, .mv (.t 103), none, []⟩,
     ⟨some 105, .load true 4 (.t 18), some (104, true), []⟩,
     ⟨some 106, .mv (.t 9), some (104, true), []⟩,
     ⟨some 107, .mv (.t 10), some (104, true), []⟩,
     ⟨some 108, .mv (.t 11), some (104, true), []⟩,
     ⟨some 109, .call 18 [.t 105, .t 106, .t 107, .t 108], some (104, true), []⟩,
     ⟨some 110, .pick (.t 104) (.t 109) (.c (.bool false)), none, []⟩,
     ⟨some 6, .mv (.t 110), none, []⟩] none) <|
  .ret
abbrev n_law30_LedgerTrue : Nat := 5
theorem b_law30_LedgerTrue : bodyOf prog 5 [1000000] = some (c_law30_LedgerTrue, [.t 6], 111) := by kernel_rfl

def c_law30_LedgerSharp : ACode :=
  .seq (.region [
     ⟨some 8, .mv (.c (.bool false)), none, []⟩] none) <|
  .seq (.seq (.region [
      ⟨some 28, .call 9 [], none, []⟩,
      ⟨some 29, .un .not (.t 28), none, []⟩] none) <|
   .cond (.t 29) (.seq (.region [
       ⟨some 8, .mv (.c (.bool false)), none, []⟩] none) <|
    .ret) <|
   .skip) <|
  .seq (.seq (.region [
      ⟨some 30, .mv (.t 0), none, []⟩,
      ⟨some 31, .call 10 [.t 30], none, []⟩,
      ⟨some 32, .un .not (.t 31), none, []⟩] none) <|
   .cond (.t 32) (.seq (.region [
       ⟨some 8, .mv (.c (.bool true)), none, []⟩] none) <|
    .ret) <|
   .skip) <|
  .seq (.region [
     ⟨some 33, .mv (.t 0), none, []⟩,
     ⟨some 34, .call 11 [.t 33], none, []⟩,
     ⟨some 35, .call 20 [.t 34], none, []⟩,
     ⟨some 9, .alloc 4 33 (.agg [.int .i64 0, .nil, .nil, .nil]), none, []⟩,
     ⟨none, .store 4 (.t 9) (.t 35), none, []⟩] none) <|
  .seq (.region [
     ⟨some 37, .load true 4 (.t 9), none, []⟩,
     ⟨some 38, .call 13 [.t 37], none, []⟩,
     ⟨some 36, .mv (.t 38), none, []⟩,
     ⟨some 39, .ext (.t 36) 0, none, []⟩,
     ⟨some 40, .ext (.t 36) 1, none, []⟩,
     ⟨some 10, .alloc 4 33 (.agg [.int .i64 0, .nil, .nil, .nil]), none, []⟩,
     ⟨none, .store 4 (.t 10) (.t 39), none, []⟩,
     ⟨some 11, .mv (.t 40), none, []⟩] none) <|
  .seq (.seq (.region [
      ⟨some 41, .mv (.t 11), none, []⟩,
      ⟨some 42, .bin .neq (.t 41) (.c (.int .i64 0)), none, []⟩] none) <|
   .cond (.t 42) (.seq (.region [
       ⟨some 43, .mv (.t 11), none, []⟩,
       ⟨some 44, .bin .eql (.t 43) (.c (.int .i64 48)), none, []⟩,
       ⟨some 8, .mv (.t 44), none, []⟩] none) <|
    .ret) <|
   .skip) <|
  .seq (.region [
     ⟨some 45, .mv (.t 1), none, []⟩,
     ⟨some 46, .conv .i64 (.t 45), none, []⟩,
     ⟨some 47, .bin .rem (.t 46) (.c (.int .i64 3)), none, []⟩,
     ⟨some 12, .mv (.t 47), none, []⟩] none) <|
  .seq (.seq (.region [
      ⟨some 48, .fa 1 (.t 10), none, []⟩,
      ⟨some 49, .load false 1 (.t 48), none, []⟩,
      ⟨some 50, .len (.t 49), none, []⟩,
      ⟨some 51, .fa 1 (.t 9), none, []⟩,
      ⟨some 52, .load false 1 (.t 51), none, []⟩,
      ⟨some 53, .len (.t 52), none, []⟩,
      ⟨some 54, .bin .neq (.t 50) (.t 53), none, []⟩,
      ⟨some 55, .mv (.t 54), none, []⟩,
      ⟨some 56, .fa 2 (.t 10), some (55, false), []⟩,
      ⟨some 57, .load false 1 (.t 56), some (55, false), []⟩,
      ⟨some 58, .len (.t 57), some (55, false), []⟩,
      ⟨some 59, .fa 2 (.t 9), some (55, false), []⟩,
      ⟨some 60, .load false 1 (.t 59), some (55, false), []⟩,
      ⟨some 61, .len (.t 60), some (55, false), []⟩,
      ⟨some 62, .bin .neq (.t 58) (.t 61), some (55, false), []⟩,
      ⟨some 63, .pick (.t 55) (.c (.bool true)) (.t 62), none, []⟩,
      ⟨some 64, .mv (.t 63), none, []⟩,
      ⟨some 65, .fa 3 (.t 10), some (64, false), []⟩,
      ⟨some 66, .load false 1 (.t 65), some (64, false), []⟩,
      ⟨some 67, .len (.t 66), some (64, false), []⟩,
      ⟨some 68, .fa 3 (.t 9), some (64, false), []⟩,
      ⟨some 69, .load false 1 (.t 68), some (64, false), []⟩,
      ⟨some 70, .len (.t 69), some (64, false), []⟩,
      ⟨some 71, .bin .neq (.t 67) (.t 70), some (64, false), []⟩,
      ⟨some 72, .pick (.t 64) (.c (.bool true)) (.t 71), none, []⟩] none) <|
   .cond (.t 72) (.seq (.region [
       ⟨some 8, .mv (.c (.bool false)), none, []⟩] none) <|
    .ret) <|
   .skip) <|
  .seq (.region [
     ⟨some 73, .fa 1 (.t 10), none, []⟩,
     ⟨some 74, .load false 1 (.t 73), none, []⟩,
     ⟨some 75, .fa 2 (.t 10), none, []⟩,
     ⟨some 76, .load false 1 (.t 75), none, []⟩,
     ⟨some 77, .fa 3 (.t 10), none, []⟩,
     ⟨some 78, .load false 1 (.t 77), none, []⟩,
     ⟨some 79, .lit false 1 31 [.t 74, .t 76, .t 78], none, []⟩,
     ⟨some 80, .mv (.t 12), none, []⟩,
     ⟨some 81, .ixs 1 (.t 79) (.t 80), none, []⟩,
     ⟨some 82, .load false 1 (.t 81), none, []⟩,
     ⟨some 13, .mv (.t 82), none, []⟩] none) <|
  .seq (.region [
     ⟨some 83, .fa 1 (.t 9), none, []⟩,
     ⟨some 84, .load false 1 (.t 83), none, []⟩,
     ⟨some 85, .fa 2 (.t 9), none, []⟩,
     ⟨some 86, .load false 1 (.t 85), none, []⟩,
     ⟨some 87, .fa 3 (.t 9), none, []⟩,
     ⟨some 88, .load false 1 (.t 87), none, []⟩,
     ⟨some 89, .lit false 1 31 [.t 84, .t 86, .t 88], none, []⟩,
     ⟨some 90, .mv (.t 12), none, []⟩,
     ⟨some 91, .ixs 1 (.t 89) (.t 90), none, []⟩,
     ⟨some 92, .load false 1 (.t 91), none, []⟩,
     ⟨some 14, .mv (.t 92), none, []⟩] none) <|
  .seq (.region [
     ⟨some 93, .mv (.t 2), none, []⟩,
     ⟨some 94, .conv .i64 (.t 93), none, []⟩,
     ⟨some 95, .mv (.t 13), none, []⟩,
     ⟨some 96, .len (.t 95), none, []⟩,
     ⟨some 97, .bin .rem (.t 94) (.t 96), none, []⟩,
     ⟨some 15, .mv (.t 97), none, []⟩] none) <|
  .seq (.hregion [
     ⟨6, ⟨some 104, .mv (.t 15), none, []⟩⟩,
     ⟨5, ⟨some 103, .mv (.t 13), none, []⟩⟩,
     ⟨7, ⟨some 105, .ixs 2 (.t 103) (.t 104), none, [5, 6]⟩⟩,
     ⟨8, ⟨some 106, .fa 1 (.t 105), none, [7, 5, 6]⟩⟩,
     ⟨9, ⟨some 107, .load false 1 (.t 106), none, [8, 7, 5, 6]⟩⟩,
     ⟨10, ⟨some 108, .bin .add (.t 107) (.c (.int .i64 1)), none, [9, 8, 7, 5, 6]⟩⟩,
     ⟨1, ⟨some 99, .mv (.t 15), none, []⟩⟩,
     ⟨0, ⟨some 98, .mv (.t 13), none, []⟩⟩,
     ⟨2, ⟨some 100, .ixs 2 (.t 98) (.t 99), none, [0, 1]⟩⟩,
     ⟨3, ⟨some 101, .fa 1 (.t 100), none, [2, 0, 1]⟩⟩,
     ⟨4, ⟨some 102, .load false 1 (.t 101), none, [3, 2, 0, 1]⟩⟩,
     ⟨11, ⟨some 16, .mv (.t 102), none, [4, 0, 1, 2, 3]⟩⟩,
     ⟨12, ⟨some 17, .mv (.t 108), none, [10, 11, 0, 1, 2, 3, 4, 5, 6, 7, 8, 9]⟩⟩]) <|
  .seq (.seq (.region [
      ⟨some 109, .mv (.t 3), none, []⟩] none) <|
   .cond (.t 109) (.hregion [
      ⟨6, ⟨some 116, .mv (.t 15), none, []⟩⟩,
      ⟨5, ⟨some 115, .mv (.t 13), none, []⟩⟩,
      ⟨7, ⟨some 117, .ixs 2 (.t 115) (.t 116), none, [5, 6]⟩⟩,
      ⟨8, ⟨some 118, .fa 0 (.t 117), none, [7, 5, 6]⟩⟩,
      ⟨9, ⟨some 119, .load false 1 (.t 118), none, [8, 7, 5, 6]⟩⟩,
      ⟨10, ⟨some 120, .bin .sub (.t 119) (.c (.int .i64 1)), none, [9, 8, 7, 5, 6]⟩⟩,
      ⟨1, ⟨some 111, .mv (.t 15), none, []⟩⟩,
      ⟨0, ⟨some 110, .mv (.t 13), none, []⟩⟩,
      ⟨2, ⟨some 112, .ixs 2 (.t 110) (.t 111), none, [0, 1]⟩⟩,
      ⟨3, ⟨some 113, .fa 0 (.t 112), none, [2, 0, 1]⟩⟩,
      ⟨4, ⟨some 114, .load false 1 (.t 113), none, [3, 2, 0, 1]⟩⟩,
      ⟨11, ⟨some 16, .mv (.t 114), none, [4, 0, 1, 2, 3]⟩⟩,
      ⟨12, ⟨some 17, .mv (.t 120), none, [10, 11, 0, 1, 2, 3, 4, 5, 6, 7, 8, 9]⟩⟩]) <|
   .skip) <|
  .seq (.region [
     ⟨some 122, .load true 4 (.t 9), none, []⟩,
     ⟨some 123, .mv (.t 12), none, []⟩,
     ⟨some 124, .bin .add (.t 123) (.c (.int .i64 1)), none, []⟩,
     ⟨some 125, .fa 0 (.t 9), none, []⟩,
     ⟨some 126, .load false 1 (.t 125), none, []⟩,
     ⟨some 127, .mv (.t 15), none, []⟩,
     ⟨some 128, .bin .add (.t 126) (.t 127), none, []⟩,
     ⟨some 129, .mv (.t 16), none, []⟩,
     ⟨some 130, .mv (.t 16), none, []⟩,
     ⟨some 131, .build [.int .i64 0, .int .i64 0] [(0, 1, .t 129), (1, 1, .t 130)], none, []⟩,
     ⟨some 132, .call 19 [.t 122, .t 124, .t 128, .t 131], none, []⟩,
     ⟨some 121, .mv (.t 132), none, []⟩,
     ⟨some 133, .ext (.t 121) 0, none, []⟩,
     ⟨some 134, .ext (.t 121) 1, none, []⟩,
     ⟨some 18, .alloc 4 33 (.agg [.int .i64 0, .nil, .nil, .nil]), none, []⟩,
     ⟨none, .store 4 (.t 18) (.t 133), none, []⟩,
     ⟨some 19, .mv (.t 134), none, []⟩] none) <|
  .seq (.region [
     ⟨some 136, .load true 4 (.t 18), none, []⟩,
     ⟨some 137, .call 21 [.t 136], none, []⟩,
     ⟨some 135, .mv (.t 137), none, []⟩,
     ⟨some 138, .ext (.t 135) 0, none, []⟩,
     ⟨some 139, .ext (.t 135) 1, none, []⟩,
     ⟨some 140, .ext (.t 135) 2, none, []⟩,
     ⟨some 141, .ext (.t 135) 3, none, []⟩,
     ⟨some 20, .mv (.t 138), none, []⟩,
     ⟨some 21, .mv (.t 139), none, []⟩,
     ⟨some 22, .mv (.t 140), none, []⟩,
     ⟨some 23, .mv (.t 141), none, []⟩] none) <|
  .seq (.seq (.region [
      ⟨some 142, .mv (.t 19), none, []⟩,
      ⟨some 143, .bin .neq (.t 142) (.c (.int .i64 0)), none, []⟩,
      ⟨some 144, .mv (.t 143), none, []⟩,
      ⟨some 145, .mv (.t 23), some (144, false), []⟩,
      ⟨some 146, .bin .neq (.t 145) (.c (.int .i64 0)), some (144, false), []⟩,
      ⟨some 147, .pick (.t 144) (.c (.bool true)) (.t 146), none, []⟩,
      ⟨some 148, .mv (.t 147), none, []⟩,
      ⟨some 149, .load true 4 (.t 9), some (148, false), []⟩,
      ⟨some 150, .mv (.t 20), some (148, false), []⟩,
      ⟨some 151, .mv (.t 21), some (148, false), []⟩,
      ⟨some 152, .mv (.t 22), some (148, false), []⟩,
      ⟨some 153, .call 18 [.t 149, .t 150, .t 151, .t 152], some (148, false), []⟩,
      ⟨some 154, .un .not (.t 153), some (148, false), []⟩,
      ⟨some 155, .pick (.t 148) (.c (.bool true)) (.t 154), none, []⟩,
      ⟨some 156, .mv (.t 155), none, []⟩,
      ⟨some 157, .mv (.t 20), some (156, false), []⟩,
      ⟨some 158, .mv (.t 21), some (156, false), []⟩,
      ⟨some 159, .mv (.t 22), some (156, false), []⟩,
      ⟨some 160, .lit false 1 22 [.t 157, .t 158, .t 159], some (156, false), []⟩,
      ⟨some 161, .mv (.t 12), some (156, false), []⟩,
      ⟨some 162, .ixs 1 (.t 160) (.t 161), some (156, false), []⟩,
      ⟨some 163, .load false 1 (.t 162), some (156, false), []⟩,
      ⟨some 164, .mv (.t 15), some (156, false), []⟩,
      ⟨some 165, .ixs 1 (.t 163) (.t 164), some (156, false), []⟩,
      ⟨some 166, .load false 1 (.t 165), some (156, false), []⟩,
      ⟨some 167, .mv (.t 16), some (156, false), []⟩,
      ⟨some 168, .bin .neq (.t 166) (.t 167), some (156, false), []⟩,
      ⟨some 169, .pick (.t 156) (.c (.bool true)) (.t 168), none, []⟩] none) <|
   .cond (.t 169) (.seq (.region [
       ⟨some 8, .mv (.c (.bool false)), none, []⟩] none) <|
    .ret) <|
   .skip) <|
  .seq (.seq (.region [
      ⟨some 170, .mv (.t 17), none, []⟩,
      ⟨some 171, .mv (.t 14), none, []⟩,
      ⟨some 172, .mv (.t 15), none, []⟩,
      ⟨some 173, .ixs 2 (.t 171) (.t 172), none, []⟩,
      ⟨some 174, .fa 0 (.t 173), none, []⟩,
      ⟨some 175, .load false 1 (.t 174), none, []⟩,
      ⟨some 176, .bin .lss (.t 170) (.t 175), none, []⟩,
      ⟨some 177, .mv (.t 176), none, []⟩,
      ⟨some 178, .mv (.t 17), some (177, false), []⟩,
      ⟨some 179, .mv (.t 14), some (177, false), []⟩,
      ⟨some 180, .mv (.t 15), some (177, false), []⟩,
      ⟨some 181, .ixs 2 (.t 179) (.t 180), some (177, false), []⟩,
      ⟨some 182, .fa 1 (.t 181), some (177, false), []⟩,
      ⟨some 183, .load false 1 (.t 182), some (177, false), []⟩,
      ⟨some 184, .bin .gtr (.t 178) (.t 183), some (177, false), []⟩,
      ⟨some 185, .pick (.t 177) (.c (.bool true)) (.t 184), none, []⟩] none) <|
   .cond (.t 185) (.seq (.region [
       ⟨some 8, .mv (.c (.bool true)), none, []⟩] none) <|
    .ret) <|
   .skip) <|
  .seq (.region [
     ⟨some 187, .load true 4 (.t 9), none, []⟩,
     ⟨some 188, .mv (.t 12), none, []⟩,
     ⟨some 189, .bin .add (.t 188) (.c (.int .i64 1)), none, []⟩,
     ⟨some 190, .fa 0 (.t 9), none, []⟩,
     ⟨some 191, .load false 1 (.t 190), none, []⟩,
     ⟨some 192, .mv (.t 15), none, []⟩,
     ⟨some 193, .bin .add (.t 191) (.t 192), none, []⟩,
     ⟨some 194, .mv (.t 17), none, []⟩,
     ⟨some 195, .mv (.t 17), none, []⟩,
     ⟨some 196, .build [.int .i64 0, .int .i64 0] [(0, 1, .t 194), (1, 1, .t 195)], none, []⟩,
     ⟨some 197, .call 19 [.t 187, .t 189, .t 193, .t 196], none, []⟩,
     ⟨some 186, .mv (.t 197), none, []⟩,
     ⟨some 198, .ext (.t 186) 0, none, []⟩,
     ⟨some 199, .ext (.t 186) 1, none, []⟩,
     ⟨some 24, .alloc 4 33 (.agg [.int .i64 0, .nil, .nil, .nil]), none, []⟩,
     ⟨none, .store 4 (.t 24) (.t 198), none, []⟩,
     ⟨some 25, .mv (.t 199), none, []⟩] none) <|
  .seq (.region [
     ⟨some 201, .load true 4 (.t 24), none, []⟩,
     ⟨some 202, .call 13 [.t 201], none, []⟩,
     ⟨some 200, .mv (.t 202), none, []⟩,
     ⟨some 203, .ext (.t 200) 0, none, []⟩,
     ⟨some 204, .ext (.t 200) 1, none, []⟩,
     ⟨some 26, .alloc 4 33 (.agg [.int .i64 0, .nil, .nil, .nil]), none, []⟩,
     ⟨none, .store 4 (.t 26) (.t 203), none, []⟩,
     ⟨some 27, .mv (.t 204), none, []⟩] none) <|
  .seq (.region [
     ⟨some 205, .mv (.t 25), none, []⟩,
     ⟨some 206, .bin .eql (.t 205) (.c (.int .i64 0)), none, []⟩,
     ⟨some 207, .mv (.t 206), none, []⟩,
     ⟨some 208, .mv (.t 27), some (207, true), []⟩,
     ⟨some 209, .bin .eql (.t 208) (.c (.int .i64 48)), some (207, true), []⟩,
     ⟨some 210, .pick (.t 207) (.t 209) (.c (.bool false)), none, []⟩,
     ⟨some 8, .mv (.t 210), none, []⟩] none) <|
  .ret
abbrev n_law30_LedgerSharp : Nat := 6
theorem b_law30_LedgerSharp : bodyOf prog 6 [1000000] = some (c_law30_LedgerSharp, [.t 8], 211) := by kernel_rfl

def c_law30_LedgerTwice : ACode :=
  .seq (.region [
     ⟨some 2, .mv (.c (.bool false)), none, []⟩] none) <|
  .seq (.seq (.region [
      ⟨some 21, .call 9 [], none, []⟩,
      ⟨some 22, .un .not (.t 21), none, []⟩] none) <|
   .cond (.t 22) (.seq (.region [
       ⟨some 2, .mv (.c (.bool false)), none, []⟩] none) <|
    .ret) <|
   .skip) <|
  .seq (.seq (.region [
      ⟨some 23, .mv (.t 0), none, []⟩,
      ⟨some 24, .call 10 [.t 23], none, []⟩,
      ⟨some 25, .un .not (.t 24), none, []⟩] none) <|
   .cond (.t 25) (.seq (.region [
       ⟨some 2, .mv (.c (.bool true)), none, []⟩] none) <|
    .ret) <|
   .skip) <|
  .seq (.region [
     ⟨some 26, .mv (.t 0), none, []⟩,
     ⟨some 27, .call 11 [.t 26], none, []⟩,
     ⟨some 3, .mv (.t 27), none, []⟩] none) <|
  .seq (.region [
     ⟨some 28, .mv (.t 3), none, []⟩,
     ⟨some 29, .call 20 [.t 28], none, []⟩,
     ⟨some 4, .alloc 4 33 (.agg [.int .i64 0, .nil, .nil, .nil]), none, []⟩,
     ⟨none, .store 4 (.t 4) (.t 29), none, []⟩] none) <|
  .seq (.region [
     ⟨some 31, .load true 4 (.t 4), none, []⟩,
     ⟨some 32, .call 13 [.t 31], none, []⟩,
     ⟨some 30, .mv (.t 32), none, []⟩,
     ⟨some 33, .ext (.t 30) 0, none, []⟩,
     ⟨some 34, .ext (.t 30) 1, none, []⟩,
     ⟨some 5, .alloc 4 33 (.agg [.int .i64 0, .nil, .nil, .nil]), none, []⟩,
     ⟨none, .store 4 (.t 5) (.t 33), none, []⟩,
     ⟨some 6, .mv (.t 34), none, []⟩] none) <|
  .seq (.seq (.region [
      ⟨some 35, .mv (.t 6), none, []⟩,
      ⟨some 36, .bin .neq (.t 35) (.c (.int .i64 0)), none, []⟩] none) <|
   .cond (.t 36) (.seq (.region [
       ⟨some 2, .mv (.c (.bool true)), none, []⟩] none) <|
    .ret) <|
   .skip) <|
  .seq (.region [
     ⟨some 38, .load true 4 (.t 5), none, []⟩,
     ⟨some 39, .call 13 [.t 38], none, []⟩,
     ⟨some 37, .mv (.t 39), none, []⟩,
     ⟨some 40, .ext (.t 37) 0, none, []⟩,
     ⟨some 41, .ext (.t 37) 1, none, []⟩,
     ⟨some 7, .alloc 4 33 (.agg [.int .i64 0, .nil, .nil, .nil]), none, []⟩,
     ⟨none, .store 4 (.t 7) (.t 40), none, []⟩,
     ⟨some 8, .mv (.t 41), none, []⟩] none) <|
  .seq (.region [
     ⟨some 43, .load true 4 (.t 5), none, []⟩,
     ⟨some 44, .call 22 [.t 43], none, []⟩,
     ⟨some 42, .mv (.t 44), none, []⟩,
     ⟨some 45, .ext (.t 42) 0, none, []⟩,
     ⟨some 46, .ext (.t 42) 1, none, []⟩,
     ⟨some 9, .mv (.t 45), none, []⟩,
     ⟨some 10, .mv (.t 46), none, []⟩] none) <|
  .seq (.region [
     ⟨some 48, .load true 4 (.t 4), none, []⟩,
     ⟨some 49, .call 22 [.t 48], none, []⟩,
     ⟨some 47, .mv (.t 49), none, []⟩,
     ⟨some 50, .ext (.t 47) 0, none, []⟩,
     ⟨some 51, .ext (.t 47) 1, none, []⟩,
     ⟨some 11, .mv (.t 50), none, []⟩,
     ⟨some 12, .mv (.t 51), none, []⟩] none) <|
  .seq (.seq (.region [
      ⟨some 52, .mv (.t 8), none, []⟩,
      ⟨some 53, .bin .neq (.t 52) (.c (.int .i64 0)), none, []⟩,
      ⟨some 54, .mv (.t 53), none, []⟩,
      ⟨some 55, .mv (.t 10), some (54, false), []⟩,
      ⟨some 56, .bin .neq (.t 55) (.c (.int .i64 0)), some (54, false), []⟩,
      ⟨some 57, .pick (.t 54) (.c (.bool true)) (.t 56), none, []⟩,
      ⟨some 58, .mv (.t 57), none, []⟩,
      ⟨some 59, .mv (.t 12), some (58, false), []⟩,
      ⟨some 60, .bin .neq (.t 59) (.c (.int .i64 0)), some (58, false), []⟩,
      ⟨some 61, .pick (.t 58) (.c (.bool true)) (.t 60), none, []⟩,
      ⟨some 62, .mv (.t 61), none, []⟩,
      ⟨some 63, .mv (.t 9), some (62, false), []⟩,
      ⟨some 64, .mv (.t 11), some (62, false), []⟩,
      ⟨some 65, .bin .gtr (.t 63) (.t 64), some (62, false), []⟩,
      ⟨some 66, .pick (.t 62) (.c (.bool true)) (.t 65), none, []⟩,
      ⟨some 67, .mv (.t 66), none, []⟩,
      ⟨some 68, .load true 4 (.t 5), some (67, false), []⟩,
      ⟨some 69, .load true 4 (.t 7), some (67, false), []⟩,
      ⟨some 70, .call 23 [.t 68, .t 69], some (67, false), []⟩,
      ⟨some 71, .un .not (.t 70), some (67, false), []⟩,
      ⟨some 72, .pick (.t 67) (.c (.bool true)) (.t 71), none, []⟩] none) <|
   .cond (.t 72) (.seq (.region [
       ⟨some 2, .mv (.c (.bool false)), none, []⟩] none) <|
    .ret) <|
   .skip) <|
  .seq (.region [
     ⟨some 74, .mv (.t 3), none, []⟩,
     ⟨some 75, .call 15 [.t 74], none, []⟩,
     ⟨some 73, .mv (.t 75), none, []⟩,
     ⟨some 76, .ext (.t 73) 0, none, []⟩,
     ⟨some 77, .ext (.t 73) 1, none, []⟩,
     ⟨some 78, .ext (.t 73) 2, none, []⟩,
     ⟨some 13, .mv (.t 76), none, []⟩,
     ⟨some 14, .mv (.t 77), none, []⟩,
     ⟨some 15, .mv (.t 78), none, []⟩] none) <|
  .seq (.region [
     ⟨some 79, .mv (.t 13), none, []⟩,
     ⟨some 80, .call 16 [.t 79], none, []⟩,
     ⟨some 81, .mv (.t 14), none, []⟩,
     ⟨some 82, .call 16 [.t 81], none, []⟩,
     ⟨some 83, .mv (.t 15), none, []⟩,
     ⟨some 84, .call 16 [.t 83], none, []⟩,
     ⟨some 85, .build [.int .i64 0, .nil, .nil, .nil] [(1, 1, .t 80), (2, 1, .t 82), (3, 1, .t 84)], none, []⟩,
     ⟨some 16, .alloc 4 33 (.agg [.int .i64 0, .nil, .nil, .nil]), none, []⟩,
     ⟨none, .store 4 (.t 16) (.t 85), none, []⟩] none) <|
  .seq (.region [
     ⟨some 87, .load true 4 (.t 16), none, []⟩,
     ⟨some 88, .call 24 [.t 87], none, []⟩,
     ⟨some 86, .mv (.t 88), none, []⟩,
     ⟨some 89, .ext (.t 86) 0, none, []⟩,
     ⟨some 90, .ext (.t 86) 1, none, []⟩,
     ⟨some 17, .mv (.t 89), none, []⟩,
     ⟨some 18, .mv (.t 90), none, []⟩] none) <|
  .seq (.seq (.region [
      ⟨some 91, .mv (.t 18), none, []⟩,
      ⟨some 92, .bin .neq (.t 91) (.c (.int .i64 0)), none, []⟩,
      ⟨some 93, .mv (.t 92), none, []⟩,
      ⟨some 94, .mv (.t 17), some (93, false), []⟩,
      ⟨some 95, .len (.t 94), some (93, false), []⟩,
      ⟨some 96, .mv (.t 14), some (93, false), []⟩,
      ⟨some 97, .len (.t 96), some (93, false), []⟩,
      ⟨some 98, .bin .neq (.t 95) (.t 97), some (93, false), []⟩,
      ⟨some 99, .pick (.t 93) (.c (.bool true)) (.t 98), none, []⟩] none) <|
   .cond (.t 99) (.seq (.region [
       ⟨some 2, .mv (.c (.bool false)), none, []⟩] none) <|
    .ret) <|
   .skip) <|
  .seq (.seq (.region [
      ⟨some 100, .mv (.t 17), none, []⟩,
      ⟨some 101, .len (.t 100), none, []⟩,
      ⟨some 102, .mv (.c (.int .i64 0)), none, []⟩] none) <|
   .block 0 <|
   .loop <|
   .seq (.region [
      ⟨some 103, .bin .lss (.t 102) (.t 101), none, []⟩] none) <|
   .seq (.cond (.t 103) (.skip) <|
    .exit 0) <|
   .seq (.block 1 <|
    .seq (.region [
       ⟨some 104, .ixs 2 (.t 100) (.t 102), none, []⟩,
       ⟨some 105, .load true 2 (.t 104), none, []⟩,
       ⟨some 20, .alloc 2 28 (.agg [.int .i64 0, .int .i64 0]), none, []⟩,
       ⟨none, .store 2 (.t 20) (.t 105), none, []⟩] none) <|
    .seq (.region [
       ⟨some 106, .load true 2 (.t 20), none, []⟩,
       ⟨some 107, .build [.int .i64 0, .int .i64 0] [], none, []⟩,
       ⟨some 108, .eqs true [0, 0] (.t 106) (.t 107), none, []⟩] none) <|
    .cond (.t 108) (.seq (.region [
        ⟨some 2, .mv (.c (.bool false)), none, []⟩] none) <|
     .ret) <|
    .skip) <|
   .region [
     ⟨some 109, .bin .add (.t 102) (.c (.int .i64 1)), none, []⟩,
     ⟨some 102, .mv (.t 109), none, []⟩] none) <|
  .seq (.region [
     ⟨some 2, .mv (.c (.bool true)), none, []⟩] none) <|
  .ret
abbrev n_law30_LedgerTwice : Nat := 7
theorem b_law30_LedgerTwice : bodyOf prog 7 [1000000] = some (c_law30_LedgerTwice, [.t 2], 110) := by kernel_rfl

def c_law30_LedgerTells : ACode :=
  .seq (.region [
     ⟨some 9, .box 4 33 (.t 1), none, []⟩,
     ⟨some 12, .box 2 28 (.t 4), none, []⟩,
     ⟨some 16, .mv (.c (.bool false)), none, []⟩] none) <|
  .seq (.seq (.region [
      ⟨some 45, .call 9 [], none, []⟩,
      ⟨some 46, .un .not (.t 45), none, []⟩] none) <|
   .cond (.t 46) (.seq (.region [
       ⟨some 16, .mv (.c (.bool false)), none, []⟩] none) <|
    .ret) <|
   .skip) <|
  .seq (.seq (.region [
      ⟨some 47, .mv (.t 0), none, []⟩,
      ⟨some 48, .call 10 [.t 47], none, []⟩,
      ⟨some 49, .un .not (.t 48), none, []⟩,
      ⟨some 50, .mv (.t 49), none, []⟩,
      ⟨some 51, .fa 1 (.t 9), some (50, false), []⟩,
      ⟨some 52, .load false 1 (.t 51), some (50, false), []⟩,
      ⟨some 53, .len (.t 52), some (50, false), []⟩,
      ⟨some 54, .fa 2 (.t 9), some (50, false), []⟩,
      ⟨some 55, .load false 1 (.t 54), some (50, false), []⟩,
      ⟨some 56, .len (.t 55), some (50, false), []⟩,
      ⟨some 57, .bin .add (.t 53) (.t 56), some (50, false), []⟩,
      ⟨some 58, .fa 3 (.t 9), some (50, false), []⟩,
      ⟨some 59, .load false 1 (.t 58), some (50, false), []⟩,
      ⟨some 60, .len (.t 59), some (50, false), []⟩,
      ⟨some 61, .bin .add (.t 57) (.t 60), some (50, false), []⟩,
      ⟨some 62, .bin .gtr (.t 61) (.c (.int .i64 1300)), some (50, false), []⟩,
      ⟨some 63, .pick (.t 50) (.c (.bool true)) (.t 62), none, []⟩,
      ⟨some 64, .mv (.t 63), none, []⟩,
      ⟨some 65, .mv (.t 5), some (64, false), []⟩,
      ⟨some 66, .len (.t 65), some (64, false), []⟩,
      ⟨some 67, .mv (.t 6), some (64, false), []⟩,
      ⟨some 68, .len (.t 67), some (64, false), []⟩,
      ⟨some 69, .bin .add (.t 66) (.t 68), some (64, false), []⟩,
      ⟨some 70, .mv (.t 7), some (64, false), []⟩,
      ⟨some 71, .len (.t 70), some (64, false), []⟩,
      ⟨some 72, .bin .add (.t 69) (.t 71), some (64, false), []⟩,
      ⟨some 73, .bin .gtr (.t 72) (.c (.int .i64 1300)), some (64, false), []⟩,
      ⟨some 74, .pick (.t 64) (.c (.bool true)) (.t 73), none, []⟩] none) <|
   .cond (.t 74) (.seq (.region [
       ⟨some 16, .mv (.c (.bool true)), none, []⟩] none) <|
    .ret) <|
   .skip) <|
  .seq (.region [
     ⟨some 75, .mv (.t 0), none, []⟩,
     ⟨some 76, .call 11 [.t 75], none, []⟩,
     ⟨some 17, .mv (.t 76), none, []⟩] none) <|
  .seq (.region [
     ⟨some 77, .mv (.t 17), none, []⟩,
     ⟨some 78, .call 20 [.t 77], none, []⟩,
     ⟨some 18, .alloc 4 33 (.agg [.int .i64 0, .nil, .nil, .nil]), none, []⟩,
     ⟨none, .store 4 (.t 18) (.t 78), none, []⟩] none) <|
  .seq (.seq (.region [
      ⟨some 79, .load true 4 (.t 9), none, []⟩,
      ⟨some 80, .load true 4 (.t 18), none, []⟩,
      ⟨some 81, .lit false 4 33 [.t 79, .t 80], none, []⟩,
      ⟨some 82, .len (.t 81), none, []⟩,
      ⟨some 83, .mv (.c (.int .i64 0)), none, []⟩] none) <|
   .block 0 <|
   .loop <|
   .seq (.region [
      ⟨some 84, .bin .lss (.t 83) (.t 82), none, []⟩] none) <|
   .seq (.cond (.t 84) (.skip) <|
    .exit 0) <|
   .seq (.block 1 <|
    .seq (.region [
       ⟨some 85, .ixs 4 (.t 81) (.t 83), none, []⟩,
       ⟨some 86, .load true 4 (.t 85), none, []⟩,
       ⟨some 20, .alloc 4 33 (.agg [.int .i64 0, .nil, .nil, .nil]), none, []⟩,
       ⟨none, .store 4 (.t 20) (.t 86), none, []⟩] none) <|
    .seq (.region [
       ⟨some 88, .load true 4 (.t 20), none, []⟩,
       ⟨some 89, .call 13 [.t 88], none, []⟩,
       ⟨some 87, .mv (.t 89), none, []⟩,
       ⟨some 90, .ext (.t 87) 0, none, []⟩,
       ⟨some 91, .ext (.t 87) 1, none, []⟩,
       ⟨some 21, .alloc 4 33 (.agg [.int .i64 0, .nil, .nil, .nil]), none, []⟩,
       ⟨none, .store 4 (.t 21) (.t 90), none, []⟩,
       ⟨some 22, .mv (.t 91), none, []⟩] none) <|
    .seq (.region [
       ⟨some 93, .load true 4 (.t 20), none, []⟩,
       ⟨some 94, .call 25 [.t 93], none, []⟩,
       ⟨some 92, .mv (.t 94), none, []⟩,
       ⟨some 95, .ext (.t 92) 0, none, []⟩,
       ⟨some 96, .ext (.t 92) 1, none, []⟩,
       ⟨some 23, .alloc 4 33 (.agg [.int .i64 0, .nil, .nil, .nil]), none, []⟩,
       ⟨none, .store 4 (.t 23) (.t 95), none, []⟩,
       ⟨some 24, .mv (.t 96), none, []⟩] none) <|
    .seq (.seq (.hregion [
        ⟨2, ⟨some 99, .load true 4 (.t 20), none, []⟩⟩,
        ⟨0, ⟨some 97, .load true 4 (.t 20), none, []⟩⟩,
        ⟨1, ⟨some 98, .call 26 [.t 97], none, [0]⟩⟩,
        ⟨3, ⟨some 100, .call 27 [.t 99], none, [2, 1, 0]⟩⟩,
        ⟨4, ⟨some 101, .bin .neq (.t 98) (.t 100), none, [1, 3, 0, 2]⟩⟩,
        ⟨5, ⟨some 102, .mv (.t 101), none, [4, 3, 1, 0, 2]⟩⟩,
        ⟨7, ⟨some 104, .mv (.t 24), some (102, false), [5, 4, 3, 1, 0, 2]⟩⟩,
        ⟨6, ⟨some 103, .mv (.t 22), some (102, false), [5, 4, 3, 1, 0, 2]⟩⟩,
        ⟨8, ⟨some 105, .bin .neq (.t 103) (.t 104), some (102, false), [6, 7, 5, 4, 3, 1, 0, 2]⟩⟩,
        ⟨9, ⟨some 106, .pick (.t 102) (.c (.bool true)) (.t 105), none, [5, 8, 4, 3, 1, 0, 2, 6, 7]⟩⟩,
        ⟨10, ⟨some 107, .mv (.t 106), none, [9, 5, 8, 4, 3, 1, 0, 2, 6, 7]⟩⟩,
        ⟨12, ⟨some 109, .load true 4 (.t 23), some (107, false), [10, 9, 5, 8, 4, 3, 1, 0, 2, 6, 7]⟩⟩,
        ⟨11, ⟨some 108, .load true 4 (.t 21), some (107, false), [10, 9, 5, 8, 4, 3, 1, 0, 2, 6, 7]⟩⟩,
        ⟨13, ⟨some 110, .call 28 [.t 108, .t 109], some (107, false), [11, 12, 10, 9, 5, 8, 4, 3, 1, 0, 2, 6, 7]⟩⟩,
        ⟨14, ⟨some 111, .un .not (.t 110), some (107, false), [13, 10, 11, 12, 9, 5, 8, 4, 3, 1, 0, 2, 6, 7]⟩⟩,
        ⟨15, ⟨some 112, .pick (.t 107) (.c (.bool true)) (.t 111), none, [10, 14, 9, 5, 8, 4, 3, 1, 0, 2, 6, 7, 13, 11, 12]⟩⟩,
        ⟨16, ⟨some 113, .mv (.t 112), none, [15, 13, 10, 14, 9, 5, 8, 4, 3, 1, 0, 2, 6, 7, 11, 12]⟩⟩,
        ⟨21, ⟨some 118, .load true 4 (.t 18), some (113, false), [16, 15, 13, 10, 14, 9, 5, 8, 4, 3, 1, 0, 2, 6, 7, 11, 12]⟩⟩,
        ⟨20, ⟨some 117, .load true 4 (.t 20), some (113, false), [16, 15, 13, 10, 14, 9, 5, 8, 4, 3, 1, 0, 2, 6, 7, 11, 12]⟩⟩,
        ⟨18, ⟨some 115, .load true 4 (.t 18), some (113, false), [16, 15, 13, 10, 14, 9, 5, 8, 4, 3, 1, 0, 2, 6, 7, 11, 12]⟩⟩,
        ⟨17, ⟨some 114, .load true 4 (.t 20), some (113, false), [16, 15, 13, 10, 14, 9, 5, 8, 4, 3, 1, 0, 2, 6, 7, 11, 12]⟩⟩,
        ⟨19, ⟨some 116, .call 23 [.t 114, .t 115], some (113, false), [17, 18, 16, 15, 13, 10, 14, 9, 5, 8, 4, 3, 1, 0, 2, 6, 7, 11, 12]⟩⟩,
        ⟨22, ⟨some 119, .call 28 [.t 117, .t 118], some (113, false), [20, 21, 19, 16, 15, 13, 10, 14, 9, 5, 8, 4, 3, 1, 0, 2, 6, 7, 11, 12, 17, 18]⟩⟩,
        ⟨23, ⟨some 120, .eqb true (.t 116) (.t 119), some (113, false), [19, 22, 16, 17, 18, 15, 13, 10, 14, 9, 5, 8, 4, 3, 1, 0, 2, 6, 7, 11, 12, 20, 21]⟩⟩,
        ⟨24, ⟨some 121, .pick (.t 113) (.c (.bool true)) (.t 120), none, [16, 23, 15, 13, 10, 14, 9, 5, 8, 4, 3, 1, 0, 2, 6, 7, 11, 12, 19, 22, 17, 18, 20, 21]⟩⟩,
        ⟨25, ⟨some 122, .mv (.t 121), none, [24, 22, 16, 23, 15, 13, 10, 14, 9, 5, 8, 4, 3, 1, 0, 2, 6, 7, 11, 12, 19, 17, 18, 20, 21]⟩⟩,
        ⟨34, ⟨some 131, .mv (.t 7), some (122, false), [25, 24, 22, 16, 23, 15, 13, 10, 14, 9, 5, 8, 4, 3, 1, 0, 2, 6, 7, 11, 12, 19, 17, 18, 20, 21]⟩⟩,
        ⟨33, ⟨some 130, .mv (.t 6), some (122, false), [25, 24, 22, 16, 23, 15, 13, 10, 14, 9, 5, 8, 4, 3, 1, 0, 2, 6, 7, 11, 12, 19, 17, 18, 20, 21]⟩⟩,
        ⟨32, ⟨some 129, .mv (.t 5), some (122, false), [25, 24, 22, 16, 23, 15, 13, 10, 14, 9, 5, 8, 4, 3, 1, 0, 2, 6, 7, 11, 12, 19, 17, 18, 20, 21]⟩⟩,
        ⟨31, ⟨some 128, .load true 4 (.t 20), some (122, false), [25, 24, 22, 16, 23, 15, 13, 10, 14, 9, 5, 8, 4, 3, 1, 0, 2, 6, 7, 11, 12, 19, 17, 18, 20, 21]⟩⟩,
        ⟨29, ⟨some 126, .mv (.t 7), some (122, false), [25, 24, 22, 16, 23, 15, 13, 10, 14, 9, 5, 8, 4, 3, 1, 0, 2, 6, 7, 11, 12, 19, 17, 18, 20, 21]⟩⟩,
        ⟨28, ⟨some 125, .mv (.t 6), some (122, false), [25, 24, 22, 16, 23, 15, 13, 10, 14, 9, 5, 8, 4, 3, 1, 0, 2, 6, 7, 11, 12, 19, 17, 18, 20, 21]⟩⟩,
        ⟨27, ⟨some 124, .mv (.t 5), some (122, false), [25, 24, 22, 16, 23, 15, 13, 10, 14, 9, 5, 8, 4, 3, 1, 0, 2, 6, 7, 11, 12, 19, 17, 18, 20, 21]⟩⟩,
        ⟨26, ⟨some 123, .load true 4 (.t 20), some (122, false), [25, 24, 22, 16, 23, 15, 13, 10, 14, 9, 5, 8, 4, 3, 1, 0, 2, 6, 7, 11, 12, 19, 17, 18, 20, 21]⟩⟩,
        ⟨30, ⟨some 127, .call 18 [.t 123, .t 124, .t 125, .t 126], some (122, false), [26, 27, 28, 29, 25, 24, 22, 16, 23, 15, 13, 10, 14, 9, 5, 8, 4, 3, 1, 0, 2, 6, 7, 11, 12, 19, 17, 18, 20, 21]⟩⟩,
        ⟨35, ⟨some 132, .call 29 [.t 128, .t 129, .t 130, .t 131], some (122, false), [31, 32, 33, 34, 30, 25, 24, 22, 16, 23, 15, 13, 10, 14, 9, 5, 8, 4, 3, 1, 0, 2, 6, 7, 11, 12, 19, 17, 18, 20, 21, 26, 27, 28, 29]⟩⟩,
        ⟨36, ⟨some 133, .eqb true (.t 127) (.t 132), some (122, false), [30, 35, 25, 26, 27, 28, 29, 24, 22, 16, 23, 15, 13, 10, 14, 9, 5, 8, 4, 3, 1, 0, 2, 6, 7, 11, 12, 19, 17, 18, 20, 21, 31, 32, 33, 34]⟩⟩,
        ⟨37, ⟨some 134, .pick (.t 122) (.c (.bool true)) (.t 133), none, [25, 36, 24, 22, 16, 23, 15, 13, 10, 14, 9, 5, 8, 4, 3, 1, 0, 2, 6, 7, 11, 12, 19, 17, 18, 20, 21, 30, 35, 26, 27, 28, 29, 31, 32, 33, 34]⟩⟩]) <|
     .cond (.t 134) (.seq (.region [
         ⟨some 16, .mv (.c (.bool false)), none, []⟩] none) <|
      .ret) <|
     .skip) <|
    .seq (.seq (.hregion [
        ⟨14, ⟨some 149, .mv (.c (.int .i64 0)), none, []⟩⟩,
        ⟨8, ⟨some 143, .mv (.t 3), none, []⟩⟩,
        ⟨6, ⟨some 141, .fa 0 (.t 20), none, []⟩⟩,
        ⟨7, ⟨some 142, .load false 1 (.t 141), none, [6]⟩⟩,
        ⟨3, ⟨some 138, .mv (.t 2), none, []⟩⟩,
        ⟨1, ⟨some 136, .mv (.t 3), none, []⟩⟩,
        ⟨0, ⟨some 135, .mv (.t 2), none, []⟩⟩,
        ⟨2, ⟨some 137, .build [.int .i64 0, .int .i64 0] [(0, 1, .t 135), (1, 1, .t 136)], none, [0, 1]⟩⟩,
        ⟨4, ⟨some 139, .call 30 [.t 138, .c (.int .i64 3)], none, [3]⟩⟩,
        ⟨5, ⟨some 140, .bin .add (.c (.int .i64 1)) (.t 139), none, [4, 3]⟩⟩,
        ⟨9, ⟨some 144, .call 30 [.t 143, .c (.int .i64 8)], none, [8, 4, 3]⟩⟩,
        ⟨10, ⟨some 145, .bin .add (.t 142) (.t 144), none, [7, 9, 6, 8, 4, 3]⟩⟩,
        ⟨11, ⟨some 146, .build [.int .i64 0, .int .i64 0] [(0, 1, .t 140), (1, 1, .t 145)], none, [5, 10, 4, 3, 7, 9, 6, 8]⟩⟩,
        ⟨12, ⟨some 147, .lit false 2 61 [.t 137, .t 146], none, [2, 11, 0, 1, 5, 10, 4, 3, 7, 9, 6, 8]⟩⟩,
        ⟨13, ⟨some 148, .len (.t 147), none, [12, 2, 11, 0, 1, 5, 10, 4, 3, 7, 9, 6, 8]⟩⟩]) <|
     .block 2 <|
     .loop <|
     .seq (.region [
        ⟨some 150, .bin .lss (.t 149) (.t 148), none, []⟩] none) <|
     .seq (.cond (.t 150) (.skip) <|
      .exit 2) <|
     .seq (.block 3 <|
      .seq (.region [
         ⟨some 151, .ixs 2 (.t 147) (.t 149), none, []⟩,
         ⟨some 152, .load true 2 (.t 151), none, []⟩,
         ⟨some 26, .alloc 2 61 (.agg [.int .i64 0, .int .i64 0]), none, []⟩,
         ⟨none, .store 2 (.t 26) (.t 152), none, []⟩] none) <|
      .seq (.hregion [
         ⟨11, ⟨some 164, .mv (.c (.int .i64 0)), none, []⟩⟩,
         ⟨4, ⟨some 157, .fa 1 (.t 12), none, []⟩⟩,
         ⟨5, ⟨some 158, .load false 1 (.t 157), none, [4]⟩⟩,
         ⟨1, ⟨some 154, .fa 0 (.t 12), none, []⟩⟩,
         ⟨2, ⟨some 155, .load false 1 (.t 154), none, [1]⟩⟩,
         ⟨0, ⟨some 153, .load true 2 (.t 12), none, []⟩⟩,
         ⟨3, ⟨some 156, .call 30 [.t 155, .c (.int .i64 30)], none, [2, 1]⟩⟩,
         ⟨6, ⟨some 159, .call 30 [.t 158, .c (.int .i64 30)], none, [5, 3, 4, 2, 1]⟩⟩,
         ⟨7, ⟨some 160, .bin .add (.c (.int .i64 20)) (.t 159), none, [6, 5, 3, 4, 2, 1]⟩⟩,
         ⟨8, ⟨some 161, .build [.int .i64 0, .int .i64 0] [(0, 1, .t 156), (1, 1, .t 160)], none, [3, 7, 2, 1, 6, 5, 4]⟩⟩,
         ⟨9, ⟨some 162, .lit false 2 28 [.t 153, .t 161], none, [0, 8, 3, 7, 2, 1, 6, 5, 4]⟩⟩,
         ⟨10, ⟨some 163, .len (.t 162), none, [9, 0, 8, 3, 7, 2, 1, 6, 5, 4]⟩⟩]) <|
      .block 4 <|
      .loop <|
      .seq (.region [
         ⟨some 165, .bin .lss (.t 164) (.t 163), none, []⟩] none) <|
      .seq (.cond (.t 165) (.skip) <|
       .exit 4) <|
      .seq (.block 5 <|
       .seq (.region [
          ⟨some 166, .ixs 2 (.t 162) (.t 164), none, []⟩,
          ⟨some 167, .load true 2 (.t 166), none, []⟩,
          ⟨some 28, .alloc 2 28 (.agg [.int .i64 0, .int .i64 0]), none, []⟩,
          ⟨none, .store 2 (.t 28) (.t 167), none, []⟩] none) <|
       .seq (.region [
          ⟨some 169, .load true 4 (.t 20), none, []⟩,
          ⟨some 170, .pu (.aixs 1 2) [.t 26, .c (.int .i64 0)], none, []⟩,
          ⟨some 171, .load false 1 (.t 170), none, []⟩,
          ⟨some 172, .pu (.aixs 1 2) [.t 26, .c (.int .i64 1)], none, []⟩,
          ⟨some 173, .load false 1 (.t 172), none, []⟩,
          ⟨some 174, .load true 2 (.t 28), none, []⟩,
          ⟨some 175, .call 19 [.t 169, .t 171, .t 173, .t 174], none, []⟩,
          ⟨some 168, .mv (.t 175), none, []⟩,
          ⟨some 176, .ext (.t 168) 0, none, []⟩,
          ⟨some 177, .ext (.t 168) 1, none, []⟩,
          ⟨some 29, .alloc 4 33 (.agg [.int .i64 0, .nil, .nil, .nil]), none, []⟩,
          ⟨none, .store 4 (.t 29) (.t 176), none, []⟩,
          ⟨some 30, .mv (.t 177), none, []⟩] none) <|
       .seq (.region [
          ⟨some 179, .load true 4 (.t 20), none, []⟩,
          ⟨some 180, .pu (.aixs 1 2) [.t 26, .c (.int .i64 0)], none, []⟩,
          ⟨some 181, .load false 1 (.t 180), none, []⟩,
          ⟨some 182, .pu (.aixs 1 2) [.t 26, .c (.int .i64 1)], none, []⟩,
          ⟨some 183, .load false 1 (.t 182), none, []⟩,
          ⟨some 184, .load true 2 (.t 28), none, []⟩,
          ⟨some 185, .call 31 [.t 179, .t 181, .t 183, .t 184], none, []⟩,
          ⟨some 178, .mv (.t 185), none, []⟩,
          ⟨some 186, .ext (.t 178) 0, none, []⟩,
          ⟨some 187, .ext (.t 178) 1, none, []⟩,
          ⟨some 31, .alloc 4 33 (.agg [.int .i64 0, .nil, .nil, .nil]), none, []⟩,
          ⟨none, .store 4 (.t 31) (.t 186), none, []⟩,
          ⟨some 32, .mv (.t 187), none, []⟩] none) <|
       .seq (.region [
          ⟨some 188, .mv (.t 30), none, []⟩,
          ⟨some 189, .mv (.t 32), none, []⟩,
          ⟨some 190, .bin .neq (.t 188) (.t 189), none, []⟩,
          ⟨some 191, .mv (.t 190), none, []⟩,
          ⟨some 192, .load true 4 (.t 29), some (191, false), []⟩,
          ⟨some 193, .load true 4 (.t 31), some (191, false), []⟩,
          ⟨some 194, .call 28 [.t 192, .t 193], some (191, false), []⟩,
          ⟨some 195, .un .not (.t 194), some (191, false), []⟩,
          ⟨some 196, .pick (.t 191) (.c (.bool true)) (.t 195), none, []⟩] none) <|
       .cond (.t 196) (.seq (.region [
           ⟨some 16, .mv (.c (.bool false)), none, []⟩] none) <|
        .ret) <|
       .skip) <|
      .region [
        ⟨some 197, .bin .add (.t 164) (.c (.int .i64 1)), none, []⟩,
        ⟨some 164, .mv (.t 197), none, []⟩] none) <|
     .region [
       ⟨some 198, .bin .add (.t 149) (.c (.int .i64 1)), none, []⟩,
       ⟨some 149, .mv (.t 198), none, []⟩] none) <|
    .seq (.region [
       ⟨some 200, .load true 4 (.t 20), none, []⟩,
       ⟨some 201, .call 21 [.t 200], none, []⟩,
       ⟨some 199, .mv (.t 201), none, []⟩,
       ⟨some 202, .ext (.t 199) 0, none, []⟩,
       ⟨some 203, .ext (.t 199) 1, none, []⟩,
       ⟨some 204, .ext (.t 199) 2, none, []⟩,
       ⟨some 205, .ext (.t 199) 3, none, []⟩,
       ⟨some 33, .mv (.t 202), none, []⟩,
       ⟨some 34, .mv (.t 203), none, []⟩,
       ⟨some 35, .mv (.t 204), none, []⟩,
       ⟨some 22, .mv (.t 205), none, []⟩] none) <|
    .seq (.region [
       ⟨some 207, .load true 4 (.t 20), none, []⟩,
       ⟨some 208, .call 32 [.t 207], none, []⟩,
       ⟨some 206, .mv (.t 208), none, []⟩,
       ⟨some 209, .ext (.t 206) 0, none, []⟩,
       ⟨some 210, .ext (.t 206) 1, none, []⟩,
       ⟨some 211, .ext (.t 206) 2, none, []⟩,
       ⟨some 212, .ext (.t 206) 3, none, []⟩,
       ⟨some 36, .mv (.t 209), none, []⟩,
       ⟨some 37, .mv (.t 210), none, []⟩,
       ⟨some 38, .mv (.t 211), none, []⟩,
       ⟨some 24, .mv (.t 212), none, []⟩] none) <|
    .seq (.seq (.region [
        ⟨some 213, .mv (.t 22), none, []⟩,
        ⟨some 214, .mv (.t 24), none, []⟩,
        ⟨some 215, .bin .neq (.t 213) (.t 214), none, []⟩,
        ⟨some 216, .mv (.t 215), none, []⟩,
        ⟨some 217, .mv (.t 33), some (216, false), []⟩,
        ⟨some 218, .mv (.t 36), some (216, false), []⟩,
        ⟨some 219, .call 33 [.t 217, .t 218], some (216, false), []⟩,
        ⟨some 220, .un .not (.t 219), some (216, false), []⟩,
        ⟨some 221, .pick (.t 216) (.c (.bool true)) (.t 220), none, []⟩,
        ⟨some 222, .mv (.t 221), none, []⟩,
        ⟨some 223, .mv (.t 34), some (222, false), []⟩,
        ⟨some 224, .mv (.t 37), some (222, false), []⟩,
        ⟨some 225, .call 33 [.t 223, .t 224], some (222, false), []⟩,
        ⟨some 226, .un .not (.t 225), some (222, false), []⟩,
        ⟨some 227, .pick (.t 222) (.c (.bool true)) (.t 226), none, []⟩,
        ⟨some 228, .mv (.t 227), none, []⟩,
        ⟨some 229, .mv (.t 35), some (228, false), []⟩,
        ⟨some 230, .mv (.t 38), some (228, false), []⟩,
        ⟨some 231, .call 33 [.t 229, .t 230], some (228, false), []⟩,
        ⟨some 232, .un .not (.t 231), some (228, false), []⟩,
        ⟨some 233, .pick (.t 228) (.c (.bool true)) (.t 232), none, []⟩] none) <|
     .cond (.t 233) (.seq (.region [
         ⟨some 16, .mv (.c (.bool false)), none, []⟩] none) <|
      .ret) <|
     .skip) <|
    .seq (.region [
       ⟨some 235, .load true 4 (.t 20), none, []⟩,
       ⟨some 236, .call 24 [.t 235], none, []⟩,
       ⟨some 234, .mv (.t 236), none, []⟩,
       ⟨some 237, .ext (.t 234) 0, none, []⟩,
       ⟨some 238, .ext (.t 234) 1, none, []⟩,
       ⟨some 39, .mv (.t 237), none, []⟩,
       ⟨some 22, .mv (.t 238), none, []⟩] none) <|
    .seq (.region [
       ⟨some 240, .load true 4 (.t 20), none, []⟩,
       ⟨some 241, .call 34 [.t 240], none, []⟩,
       ⟨some 239, .mv (.t 241), none, []⟩,
       ⟨some 242, .ext (.t 239) 0, none, []⟩,
       ⟨some 243, .ext (.t 239) 1, none, []⟩,
       ⟨some 40, .mv (.t 242), none, []⟩,
       ⟨some 24, .mv (.t 243), none, []⟩] none) <|
    .seq (.region [
       ⟨some 245, .load true 4 (.t 20), none, []⟩,
       ⟨some 246, .call 22 [.t 245], none, []⟩,
       ⟨some 244, .mv (.t 246), none, []⟩,
       ⟨some 247, .ext (.t 244) 0, none, []⟩,
       ⟨some 248, .ext (.t 244) 1, none, []⟩,
       ⟨some 41, .mv (.t 247), none, []⟩,
       ⟨some 42, .mv (.t 248), none, []⟩] none) <|
    .seq (.region [
       ⟨some 250, .load true 4 (.t 20), none, []⟩,
       ⟨some 251, .call 35 [.t 250], none, []⟩,
       ⟨some 249, .mv (.t 251), none, []⟩,
       ⟨some 252, .ext (.t 249) 0, none, []⟩,
       ⟨some 253, .ext (.t 249) 1, none, []⟩,
       ⟨some 43, .mv (.t 252), none, []⟩,
       ⟨some 44, .mv (.t 253), none, []⟩] none) <|
    .seq (.region [
       ⟨some 254, .mv (.t 22), none, []⟩,
       ⟨some 255, .mv (.t 24), none, []⟩,
       ⟨some 256, .bin .neq (.t 254) (.t 255), none, []⟩,
       ⟨some 257, .mv (.t 256), none, []⟩,
       ⟨some 258, .mv (.t 42), some (257, false), []⟩,
       ⟨some 259, .mv (.t 44), some (257, false), []⟩,
       ⟨some 260, .bin .neq (.t 258) (.t 259), some (257, false), []⟩,
       ⟨some 261, .pick (.t 257) (.c (.bool true)) (.t 260), none, []⟩,
       ⟨some 262, .mv (.t 261), none, []⟩,
       ⟨some 263, .mv (.t 41), some (262, false), []⟩,
       ⟨some 264, .mv (.t 43), some (262, false), []⟩,
       ⟨some 265, .bin .neq (.t 263) (.t 264), some (262, false), []⟩,
       ⟨some 266, .pick (.t 262) (.c (.bool true)) (.t 265), none, []⟩,
       ⟨some 267, .mv (.t 266), none, []⟩,
       ⟨some 268, .mv (.t 39), some (267, false), []⟩,
       ⟨some 269, .mv (.t 40), some (267, false), []⟩,
       ⟨some 270, .call 14 [.t 268, .t 269], some (267, false), []⟩,
       ⟨some 271, .un .not (.t 270), some (267, false), []⟩,
       ⟨some 272, .pick (.t 267) (.c (.bool true)) (.t 271), none, []⟩] none) <|
    .cond (.t 272) (.seq (.region [
        ⟨some 16, .mv (.c (.bool false)), none, []⟩] none) <|
     .ret) <|
    .skip) <|
   .region [
     ⟨some 273, .bin .add (.t 83) (.c (.int .i64 1)), none, []⟩,
     ⟨some 83, .mv (.t 273), none, []⟩] none) <|
  .seq (.region [
     ⟨some 16, .mv (.c (.bool true)), none, []⟩] none) <|
  .ret
abbrev n_law30_LedgerTells : Nat := 8
theorem b_law30_LedgerTells : bodyOf prog 8 [1000000] = some (c_law30_LedgerTells, [.t 16], 274) := by kernel_rfl

def c_law30_sane : ACode :=
  .seq (.region [
     ⟨some 0, .mv (.c (.bool false)), none, []⟩] none) <|
  .seq (.region [
     ⟨some 8, .build [.int .i64 0, .int .i64 0] [(0, 1, .c (.int .i64 100)), (1, 1, .c (.int .i64 100))], none, []⟩,
     ⟨some 9, .build [.int .i64 0, .int .i64 0] [(0, 1, .c (.int .i64 90)), (1, 1, .c (.int .i64 120))], none, []⟩,
     ⟨some 10, .lit false 2 28 [.t 8, .t 9], none, []⟩,
     ⟨some 11, .build [.int .i64 0, .int .i64 0] [(0, 1, .c (.int .i64 10)), (1, 1, .c (.int .i64 30))], none, []⟩,
     ⟨some 12, .lit false 2 28 [.t 11], none, []⟩,
     ⟨some 13, .build [.int .i64 0, .int .i64 0] [(1, 1, .c (.int .i64 5))], none, []⟩,
     ⟨some 14, .lit false 2 28 [.t 13], none, []⟩,
     ⟨some 15, .build [.int .i64 0, .nil, .nil, .nil] [(1, 1, .t 10), (2, 1, .t 12), (3, 1, .t 14)], none, []⟩,
     ⟨some 1, .alloc 4 33 (.agg [.int .i64 0, .nil, .nil, .nil]), none, []⟩,
     ⟨none, .store 4 (.t 1) (.t 15), none, []⟩] none) <|
  .seq (.region [
     ⟨some 17, .load true 4 (.t 1), none, []⟩,
     ⟨some 18, .call 13 [.t 17], none, []⟩,
     ⟨some 16, .mv (.t 18), none, []⟩,
     ⟨some 19, .ext (.t 16) 0, none, []⟩,
     ⟨some 20, .ext (.t 16) 1, none, []⟩,
     ⟨some 2, .alloc 4 33 (.agg [.int .i64 0, .nil, .nil, .nil]), none, []⟩,
     ⟨none, .store 4 (.t 2) (.t 19), none, []⟩,
     ⟨some 3, .mv (.t 20), none, []⟩] none) <|
  .seq (.region [
     ⟨some 22, .load true 4 (.t 1), none, []⟩,
     ⟨some 23, .call 21 [.t 22], none, []⟩,
     ⟨some 21, .mv (.t 23), none, []⟩,
     ⟨some 24, .ext (.t 21) 0, none, []⟩,
     ⟨some 25, .ext (.t 21) 1, none, []⟩,
     ⟨some 26, .ext (.t 21) 2, none, []⟩,
     ⟨some 27, .ext (.t 21) 3, none, []⟩,
     ⟨some 4, .mv (.t 24), none, []⟩,
     ⟨some 5, .mv (.t 25), none, []⟩,
     ⟨some 6, .mv (.t 26), none, []⟩,
     ⟨some 7, .mv (.t 27), none, []⟩] none) <|
  .seq (.region [
     ⟨some 28, .mv (.t 3), none, []⟩,
     ⟨some 29, .bin .eql (.t 28) (.c (.int .i64 0)), none, []⟩,
     ⟨some 30, .mv (.t 29), none, []⟩,
     ⟨some 31, .mv (.t 7), some (30, true), []⟩,
     ⟨some 32, .bin .eql (.t 31) (.c (.int .i64 0)), some (30, true), []⟩,
     ⟨some 33, .pick (.t 30) (.t 32) (.c (.bool false)), none, []⟩,
     ⟨some 34, .mv (.t 33), none, []⟩,
     ⟨some 35, .fa 1 (.t 2), some (34, true), []⟩,
     ⟨some 36, .load false 1 (.t 35), some (34, true), []⟩,
     ⟨some 37, .len (.t 36), some (34, true), []⟩,
     ⟨some 38, .bin .eql (.t 37) (.c (.int .i64 2)), some (34, true), []⟩,
     ⟨some 39, .pick (.t 34) (.t 38) (.c (.bool false)), none, []⟩,
     ⟨some 40, .mv (.t 39), none, []⟩,
     ⟨some 41, .fa 1 (.t 2), some (40, true), []⟩,
     ⟨some 42, .load false 1 (.t 41), some (40, true), []⟩,
     ⟨some 43, .ixs 2 (.t 42) (.c (.int .i64 1)), some (40, true), []⟩,
     ⟨some 44, .load true 2 (.t 43), some (40, true), []⟩,
     ⟨some 45, .build [.int .i64 0, .int .i64 0] [(0, 1, .c (.int .i64 105)), (1, 1, .c (.int .i64 120))], some (40, true), []⟩,
     ⟨some 46, .eqs false [0, 0] (.t 44) (.t 45), some (40, true), []⟩,
     ⟨some 47, .pick (.t 40) (.t 46) (.c (.bool false)), none, []⟩,
     ⟨some 48, .mv (.t 47), none, []⟩,
     ⟨some 49, .fa 2 (.t 2), some (48, true), []⟩,
     ⟨some 50, .load false 1 (.t 49), some (48, true), []⟩,
     ⟨some 51, .len (.t 50), some (48, true), []⟩,
     ⟨some 52, .bin .eql (.t 51) (.c (.int .i64 1)), some (48, true), []⟩,
     ⟨some 53, .pick (.t 48) (.t 52) (.c (.bool false)), none, []⟩,
     ⟨some 54, .mv (.t 53), none, []⟩,
     ⟨some 55, .fa 2 (.t 2), some (54, true), []⟩,
     ⟨some 56, .load false 1 (.t 55), some (54, true), []⟩,
     ⟨some 57, .ixs 2 (.t 56) (.c (.int .i64 0)), some (54, true), []⟩,
     ⟨some 58, .load true 2 (.t 57), some (54, true), []⟩,
     ⟨some 59, .build [.int .i64 0, .int .i64 0] [(0, 1, .c (.int .i64 10)), (1, 1, .c (.int .i64 25))], some (54, true), []⟩,
     ⟨some 60, .eqs false [0, 0] (.t 58) (.t 59), some (54, true), []⟩,
     ⟨some 61, .pick (.t 54) (.t 60) (.c (.bool false)), none, []⟩,
     ⟨some 62, .mv (.t 61), none, []⟩,
     ⟨some 63, .load true 4 (.t 1), some (62, true), []⟩,
     ⟨some 64, .mv (.t 4), some (62, true), []⟩,
     ⟨some 65, .mv (.t 5), some (62, true), []⟩,
     ⟨some 66, .mv (.t 6), some (62, true), []⟩,
     ⟨some 67, .call 18 [.t 63, .t 64, .t 65, .t 66], some (62, true), []⟩,
     ⟨some 68, .pick (.t 62) (.t 67) (.c (.bool false)), none, []⟩,
     ⟨some 69, .mv (.t 68), none, []⟩,
     ⟨some 70, .mv (.t 4), some (69, true), []⟩,
     ⟨some 71, .ixs 1 (.t 70) (.c (.int .i64 1)), some (69, true), []⟩,
     ⟨some 72, .load false 1 (.t 71), some (69, true), []⟩,
     ⟨some 73, .bin .eql (.t 72) (.c (.int .i64 105)), some (69, true), []⟩,
     ⟨some 74, .pick (.t 69) (.t 73) (.c (.bool false)), none, []⟩,
     ⟨some 75, .mv (.t 74), none, []⟩,
     ⟨some 76, .load true 4 (.t 1), some (75, true), []⟩,
     ⟨some 77, .call 26 [.t 76], some (75, true), []⟩,
     ⟨some 78, .bin .eql (.t 77) (.c (.int .i64 0)), some (75, true), []⟩,
     ⟨some 79, .pick (.t 75) (.t 78) (.c (.bool false)), none, []⟩,
     ⟨some 0, .mv (.t 79), none, []⟩] none) <|
  .ret
abbrev n_law30_sane : Nat := 9
theorem b_law30_sane : bodyOf prog 9 [1000000] = some (c_law30_sane, [.t 0], 80) := by kernel_rfl

def c_mk_Few : ACode :=
  .seq (.region [
     ⟨some 2, .mv (.c (.bool false)), none, []⟩] none) <|
  .seq (.region [
     ⟨some 3, .mv (.t 0), none, []⟩,
     ⟨some 4, .len (.t 3), none, []⟩,
     ⟨some 5, .bin .leq (.t 4) (.c (.int .i64 500)), none, []⟩,
     ⟨some 2, .mv (.t 5), none, []⟩] none) <|
  .ret
abbrev n_mk_Few : Nat := 10
theorem b_mk_Few : bodyOf prog 10 [1000000] = some (c_mk_Few, [.t 2], 6) := by kernel_rfl

def c_mk_New : ACode :=
  .seq (.region [
     ⟨some 2, .mv (.c (.nilptr)), none, []⟩] none) <|
  .seq (.region [
     ⟨some 3, .mv (.t 0), none, []⟩,
     ⟨some 4, .build [.nil, .int .i64 0] [(0, 1, .t 3)], none, []⟩,
     ⟨some 5, .box 2 67 (.t 4), none, []⟩,
     ⟨some 2, .mv (.t 5), none, []⟩] none) <|
  .ret
abbrev n_mk_New : Nat := 11
theorem b_mk_New : bodyOf prog 11 [] = some (c_mk_New, [.t 2], 6) := by kernel_rfl

def c_mk_Deck_Next : ACode :=
  .seq (.region [
     ⟨some 4, .mv (.c (.int .i64 0)), none, []⟩] none) <|
  .seq (.seq (.region [
      ⟨some 6, .mv (.t 1), none, []⟩,
      ⟨some 7, .bin .lss (.t 6) (.c (.int .i64 1)), none, [0]⟩,
      ⟨some 8, .mv (.t 7), none, [1, 0]⟩,
      ⟨some 9, .mv (.t 0), some (8, false), [2, 1, 0]⟩,
      ⟨some 10, .nilchk (.t 9), some (8, false), [3, 2, 1, 0]⟩,
      ⟨some 11, .fa 1 (.t 10), some (8, false), [4, 2, 3, 1, 0]⟩,
      ⟨some 12, .load false 1 (.t 11), some (8, false), [5, 2, 4, 3, 1, 0]⟩,
      ⟨some 13, .mv (.t 0), some (8, false), [2, 1, 0]⟩,
      ⟨some 14, .nilchk (.t 13), some (8, false), [7, 2, 1, 0]⟩,
      ⟨some 15, .fa 0 (.t 14), some (8, false), [8, 2, 7, 1, 0]⟩,
      ⟨some 16, .load false 1 (.t 15), some (8, false), [9, 2, 8, 7, 1, 0]⟩,
      ⟨some 17, .len (.t 16), some (8, false), [10, 2, 9, 8, 7, 1, 0]⟩,
      ⟨some 18, .bin .geq (.t 12) (.t 17), some (8, false), [6, 11, 2, 5, 4, 3, 1, 0, 10, 9, 8, 7]⟩,
      ⟨some 19, .pick (.t 8) (.c (.bool true)) (.t 18), none, [2, 12, 1, 0, 6, 11, 5, 4, 3, 10, 9, 8, 7]⟩] (some 0)) <|
   .cond (.t 19) (.seq (.region [
       ⟨some 4, .mv (.c (.int .i64 0)), none, []⟩] none) <|
    .ret) <|
   .skip) <|
  .seq (.region [
     ⟨some 20, .mv (.t 0), none, []⟩,
     ⟨some 21, .nilchk (.t 20), none, [0]⟩,
     ⟨some 22, .fa 0 (.t 21), none, [1, 0]⟩,
     ⟨some 23, .load false 1 (.t 22), none, [2, 1, 0]⟩,
     ⟨some 24, .mv (.t 0), none, []⟩,
     ⟨some 25, .nilchk (.t 24), none, [4]⟩,
     ⟨some 26, .fa 1 (.t 25), none, [5, 4]⟩,
     ⟨some 27, .load false 1 (.t 26), none, [6, 5, 4]⟩,
     ⟨some 28, .ixs 1 (.t 23) (.t 27), none, [3, 7, 2, 1, 0, 6, 5, 4]⟩,
     ⟨some 29, .load false 1 (.t 28), none, [8, 3, 7, 2, 1, 0, 6, 5, 4]⟩,
     ⟨some 5, .mv (.t 29), none, [9, 0, 1, 2, 3, 4, 5, 6, 7, 8]⟩] (some 0)) <|
  .seq (.region [
     ⟨some 30, .mv (.t 0), none, []⟩,
     ⟨some 31, .nilchk (.t 30), none, []⟩,
     ⟨some 32, .fa 1 (.t 31), none, []⟩,
     ⟨some 33, .load false 1 (.t 32), none, []⟩,
     ⟨some 34, .bin .add (.t 33) (.c (.int .i64 1)), none, []⟩,
     ⟨some 35, .nilchk (.t 30), none, []⟩,
     ⟨some 36, .fa 1 (.t 35), none, []⟩,
     ⟨none, .store 1 (.t 36) (.t 34), none, []⟩] none) <|
  .seq (.region [
     ⟨some 37, .mv (.t 5), none, []⟩,
     ⟨some 38, .mv (.t 1), none, []⟩,
     ⟨some 39, .call 30 [.t 37, .t 38], none, []⟩,
     ⟨some 4, .mv (.t 39), none, []⟩] none) <|
  .ret
abbrev n_mk_Deck_Next : Nat := 12
theorem b_mk_Deck_Next : bodyOf prog 12 [] = some (c_mk_Deck_Next, [.t 4], 40) := by kernel_rfl

def c_ledger_Tighten : ACode :=
  .seq (.region [
     ⟨some 1, .box 4 33 (.t 0), none, []⟩,
     ⟨some 2, .alloc 4 33 (.agg [.int .i64 0, .nil, .nil, .nil]), none, []⟩,
     ⟨some 3, .alloc 1 34 (.int .i64 0), none, []⟩] none) <|
  .seq (.seq (.region [
      ⟨some 14, .load true 4 (.t 1), none, []⟩,
      ⟨some 15, .call 26 [.t 14], none, []⟩,
      ⟨some 4, .mv (.t 15), none, []⟩] none) <|
   .seq (.region [
      ⟨some 16, .mv (.t 4), none, []⟩,
      ⟨some 17, .bin .neq (.t 16) (.c (.int .i64 0)), none, []⟩] none) <|
   .cond (.t 17) (.seq (.region [
       ⟨some 18, .build [.int .i64 0, .nil, .nil, .nil] [], none, []⟩,
       ⟨some 19, .mv (.t 4), none, []⟩,
       ⟨none, .store 4 (.t 2) (.t 18), none, []⟩,
       ⟨none, .store 1 (.t 3) (.t 19), none, []⟩] none) <|
    .ret) <|
   .skip) <|
  .seq (.region [
     ⟨some 20, .load true 4 (.t 1), none, []⟩,
     ⟨some 21, .call 36 [.t 20], none, []⟩,
     ⟨some 5, .alloc 4 33 (.agg [.int .i64 0, .nil, .nil, .nil]), none, []⟩,
     ⟨none, .store 4 (.t 5) (.t 21), none, []⟩] none) <|
  .seq (.seq (.region [
      ⟨some 22, .lit false 1 4 [.c (.bool false), .c (.bool true)], none, []⟩,
      ⟨some 23, .len (.t 22), none, []⟩,
      ⟨some 24, .mv (.c (.int .i64 0)), none, []⟩] none) <|
   .block 0 <|
   .loop <|
   .seq (.region [
      ⟨some 25, .bin .lss (.t 24) (.t 23), none, []⟩] none) <|
   .seq (.cond (.t 25) (.skip) <|
    .exit 0) <|
   .seq (.block 1 <|
    .seq (.region [
       ⟨some 26, .ixs 1 (.t 22) (.t 24), none, []⟩,
       ⟨some 27, .load false 1 (.t 26), none, []⟩,
       ⟨some 7, .alloc 1 4 (.bool false), none, []⟩,
       ⟨none, .store 1 (.t 7) (.t 27), none, []⟩] none) <|
    .seq (.region [
       ⟨some 28, .fa 2 (.t 1), none, []⟩,
       ⟨some 29, .load false 1 (.t 28), none, []⟩,
       ⟨some 30, .len (.t 29), none, []⟩,
       ⟨some 31, .load false 1 (.t 7), none, []⟩,
       ⟨some 32, .call 37 [.t 30, .t 31], none, []⟩] none) <|
    .block 2 <|
    .rangeF (ItC prog) (.t 32) 33 8 <|
    .block 3 <|
    .seq (.region [
       ⟨some 34, .mv (.t 8), none, []⟩,
       ⟨some 35, .load false 1 (.t 7), none, []⟩,
       ⟨some 36, .call 38 [.t 5, .t 34, .t 35], none, []⟩,
       ⟨some 37, .un .not (.t 36), none, []⟩] none) <|
    .cond (.t 37) (.seq (.region [
        ⟨some 38, .build [.int .i64 0, .nil, .nil, .nil] [], none, []⟩,
        ⟨none, .store 4 (.t 2) (.t 38), none, []⟩,
        ⟨none, .store 1 (.t 3) (.c (.int .i64 48)), none, []⟩] none) <|
     .ret) <|
    .skip) <|
   .region [
     ⟨some 39, .bin .add (.t 24) (.c (.int .i64 1)), none, []⟩,
     ⟨some 24, .mv (.t 39), none, []⟩] none) <|
  .seq (.seq (.region [
      ⟨some 40, .fa 2 (.t 1), none, []⟩,
      ⟨some 41, .load false 1 (.t 40), none, []⟩,
      ⟨some 42, .len (.t 41), none, []⟩,
      ⟨some 43, .call 37 [.t 42, .c (.bool false)], none, []⟩] none) <|
   .block 4 <|
   .rangeF (ItC prog) (.t 43) 44 9 <|
   .block 5 <|
   .seq (.hregion [
      ⟨18, ⟨some 63, .mv (.t 9), none, []⟩⟩,
      ⟨16, ⟨some 61, .fa 3 (.t 1), none, []⟩⟩,
      ⟨17, ⟨some 62, .load false 1 (.t 61), none, [16]⟩⟩,
      ⟨19, ⟨some 64, .ixs 2 (.t 62) (.t 63), none, [17, 18, 16]⟩⟩,
      ⟨20, ⟨some 65, .load true 2 (.t 64), none, [19, 17, 18, 16]⟩⟩,
      ⟨13, ⟨some 58, .mv (.t 9), none, []⟩⟩,
      ⟨11, ⟨some 56, .fa 2 (.t 1), none, []⟩⟩,
      ⟨12, ⟨some 57, .load false 1 (.t 56), none, [11]⟩⟩,
      ⟨14, ⟨some 59, .ixs 2 (.t 57) (.t 58), none, [12, 13, 11]⟩⟩,
      ⟨15, ⟨some 60, .load true 2 (.t 59), none, [14, 12, 13, 11]⟩⟩,
      ⟨7, ⟨some 52, .mv (.t 9), none, []⟩⟩,
      ⟨8, ⟨some 53, .bin .add (.t 52) (.c (.int .i64 1)), none, [7]⟩⟩,
      ⟨5, ⟨some 50, .fa 1 (.t 5), none, []⟩⟩,
      ⟨6, ⟨some 51, .load false 1 (.t 50), none, [5]⟩⟩,
      ⟨9, ⟨some 54, .ixs 2 (.t 51) (.t 53), none, [6, 8, 5, 7]⟩⟩,
      ⟨10, ⟨some 55, .load true 2 (.t 54), none, [9, 6, 8, 5, 7]⟩⟩,
      ⟨2, ⟨some 47, .mv (.t 9), none, []⟩⟩,
      ⟨0, ⟨some 45, .fa 1 (.t 5), none, []⟩⟩,
      ⟨1, ⟨some 46, .load false 1 (.t 45), none, [0]⟩⟩,
      ⟨3, ⟨some 48, .ixs 2 (.t 46) (.t 47), none, [1, 2, 0]⟩⟩,
      ⟨4, ⟨some 49, .load true 2 (.t 48), none, [3, 1, 2, 0]⟩⟩,
      ⟨24, ⟨some 13, .alloc 2 28 (.agg [.int .i64 0, .int .i64 0]), none, []⟩⟩,
      ⟨23, ⟨some 12, .alloc 2 28 (.agg [.int .i64 0, .int .i64 0]), none, []⟩⟩,
      ⟨22, ⟨some 11, .alloc 2 28 (.agg [.int .i64 0, .int .i64 0]), none, []⟩⟩,
      ⟨21, ⟨some 10, .alloc 2 28 (.agg [.int .i64 0, .int .i64 0]), none, []⟩⟩,
      ⟨25, ⟨none, .store 2 (.t 10) (.t 49), none, [21, 4, 0, 1, 2, 3, 22, 23, 24]⟩⟩,
      ⟨26, ⟨none, .store 2 (.t 11) (.t 55), none, [22, 10, 25, 0, 1, 2, 3, 4, 5, 6, 7, 8, 9, 21, 23, 24]⟩⟩,
      ⟨27, ⟨none, .store 2 (.t 12) (.t 60), none, [23, 15, 26, 0, 1, 2, 3, 4, 5, 6, 7, 8, 9, 10, 11, 12, 13, 14, 21, 22, 24, 25]⟩⟩,
      ⟨28, ⟨none, .store 2 (.t 13) (.t 65), none, [24, 20, 27, 0, 1, 2, 3, 4, 5, 6, 7, 8, 9, 10, 11, 12, 13, 14, 15, 16, 17, 18, 19, 21, 22, 23, 25, 26]⟩⟩]) <|
   .seq (.hregion [
      ⟨17, ⟨some 83, .fa 1 (.t 13), none, []⟩⟩,
      ⟨18, ⟨some 84, .load false 1 (.t 83), none, [17]⟩⟩,
      ⟨14, ⟨some 80, .fa 0 (.t 10), none, []⟩⟩,
      ⟨15, ⟨some 81, .load false 1 (.t 80), none, [14]⟩⟩,
      ⟨12, ⟨some 78, .fa 1 (.t 11), none, []⟩⟩,
      ⟨13, ⟨some 79, .load false 1 (.t 78), none, [12]⟩⟩,
      ⟨16, ⟨some 82, .bin .sub (.t 79) (.t 81), none, [13, 15, 12, 14]⟩⟩,
      ⟨19, ⟨some 85, .bin .add (.t 82) (.t 84), none, [16, 18, 13, 15, 12, 14, 17]⟩⟩,
      ⟨9, ⟨some 75, .fa 0 (.t 13), none, []⟩⟩,
      ⟨10, ⟨some 76, .load false 1 (.t 75), none, [9]⟩⟩,
      ⟨6, ⟨some 72, .fa 1 (.t 10), none, []⟩⟩,
      ⟨7, ⟨some 73, .load false 1 (.t 72), none, [6]⟩⟩,
      ⟨4, ⟨some 70, .fa 0 (.t 11), none, []⟩⟩,
      ⟨5, ⟨some 71, .load false 1 (.t 70), none, [4]⟩⟩,
      ⟨8, ⟨some 74, .bin .sub (.t 71) (.t 73), none, [5, 7, 4, 6]⟩⟩,
      ⟨11, ⟨some 77, .bin .add (.t 74) (.t 76), none, [8, 10, 5, 7, 4, 6, 9]⟩⟩,
      ⟨2, ⟨some 68, .mv (.t 9), none, []⟩⟩,
      ⟨0, ⟨some 66, .fa 2 (.t 5), none, []⟩⟩,
      ⟨1, ⟨some 67, .load false 1 (.t 66), none, [0]⟩⟩,
      ⟨3, ⟨some 69, .ixs 2 (.t 67) (.t 68), none, [1, 2, 0]⟩⟩,
      ⟨20, ⟨some 86, .call 39 [.t 69, .t 77, .t 85], none, [3, 11, 19, 1, 2, 0, 8, 10, 5, 7, 4, 6, 9, 16, 18, 13, 15, 12, 14, 17]⟩⟩,
      ⟨21, ⟨some 87, .un .not (.t 86), none, [20, 3, 11, 19, 1, 2, 0, 8, 10, 5, 7, 4, 6, 9, 16, 18, 13, 15, 12, 14, 17]⟩⟩,
      ⟨22, ⟨some 88, .mv (.t 87), none, [21, 20, 3, 11, 19, 1, 2, 0, 8, 10, 5, 7, 4, 6, 9, 16, 18, 13, 15, 12, 14, 17]⟩⟩,
      ⟨40, ⟨some 106, .fa 0 (.t 11), some (88, false), [22, 21, 20, 3, 11, 19, 1, 2, 0, 8, 10, 5, 7, 4, 6, 9, 16, 18, 13, 15, 12, 14, 17]⟩⟩,
      ⟨41, ⟨some 107, .load false 1 (.t 106), some (88, false), [40, 22, 21, 20, 3, 11, 19, 1, 2, 0, 8, 10, 5, 7, 4, 6, 9, 16, 18, 13, 15, 12, 14, 17]⟩⟩,
      ⟨37, ⟨some 103, .fa 1 (.t 12), some (88, false), [22, 21, 20, 3, 11, 19, 1, 2, 0, 8, 10, 5, 7, 4, 6, 9, 16, 18, 13, 15, 12, 14, 17]⟩⟩,
      ⟨38, ⟨some 104, .load false 1 (.t 103), some (88, false), [37, 22, 21, 20, 3, 11, 19, 1, 2, 0, 8, 10, 5, 7, 4, 6, 9, 16, 18, 13, 15, 12, 14, 17]⟩⟩,
      ⟨35, ⟨some 101, .fa 1 (.t 10), some (88, false), [22, 21, 20, 3, 11, 19, 1, 2, 0, 8, 10, 5, 7, 4, 6, 9, 16, 18, 13, 15, 12, 14, 17]⟩⟩,
      ⟨36, ⟨some 102, .load false 1 (.t 101), some (88, false), [35, 22, 21, 20, 3, 11, 19, 1, 2, 0, 8, 10, 5, 7, 4, 6, 9, 16, 18, 13, 15, 12, 14, 17]⟩⟩,
      ⟨39, ⟨some 105, .bin .add (.t 102) (.t 104), some (88, false), [36, 38, 22, 35, 21, 20, 3, 11, 19, 1, 2, 0, 8, 10, 5, 7, 4, 6, 9, 16, 18, 13, 15, 12, 14, 17, 37]⟩⟩,
      ⟨42, ⟨some 108, .bin .sub (.t 105) (.t 107), some (88, false), [39, 41, 22, 36, 38, 35, 21, 20, 3, 11, 19, 1, 2, 0, 8, 10, 5, 7, 4, 6, 9, 16, 18, 13, 15, 12, 14, 17, 37, 40]⟩⟩,
      ⟨32, ⟨some 98, .fa 1 (.t 11), some (88, false), [22, 21, 20, 3, 11, 19, 1, 2, 0, 8, 10, 5, 7, 4, 6, 9, 16, 18, 13, 15, 12, 14, 17]⟩⟩,
      ⟨33, ⟨some 99, .load false 1 (.t 98), some (88, false), [32, 22, 21, 20, 3, 11, 19, 1, 2, 0, 8, 10, 5, 7, 4, 6, 9, 16, 18, 13, 15, 12, 14, 17]⟩⟩,
      ⟨29, ⟨some 95, .fa 0 (.t 12), some (88, false), [22, 21, 20, 3, 11, 19, 1, 2, 0, 8, 10, 5, 7, 4, 6, 9, 16, 18, 13, 15, 12, 14, 17]⟩⟩,
      ⟨30, ⟨some 96, .load false 1 (.t 95), some (88, false), [29, 22, 21, 20, 3, 11, 19, 1, 2, 0, 8, 10, 5, 7, 4, 6, 9, 16, 18, 13, 15, 12, 14, 17]⟩⟩,
      ⟨27, ⟨some 93, .fa 0 (.t 10), some (88, false), [22, 21, 20, 3, 11, 19, 1, 2, 0, 8, 10, 5, 7, 4, 6, 9, 16, 18, 13, 15, 12, 14, 17]⟩⟩,
      ⟨28, ⟨some 94, .load false 1 (.t 93), some (88, false), [27, 22, 21, 20, 3, 11, 19, 1, 2, 0, 8, 10, 5, 7, 4, 6, 9, 16, 18, 13, 15, 12, 14, 17]⟩⟩,
      ⟨31, ⟨some 97, .bin .add (.t 94) (.t 96), some (88, false), [28, 30, 22, 27, 21, 20, 3, 11, 19, 1, 2, 0, 8, 10, 5, 7, 4, 6, 9, 16, 18, 13, 15, 12, 14, 17, 29]⟩⟩,
      ⟨34, ⟨some 100, .bin .sub (.t 97) (.t 99), some (88, false), [31, 33, 22, 28, 30, 27, 21, 20, 3, 11, 19, 1, 2, 0, 8, 10, 5, 7, 4, 6, 9, 16, 18, 13, 15, 12, 14, 17, 29, 32]⟩⟩,
      ⟨25, ⟨some 91, .mv (.t 9), some (88, false), [22, 21, 20, 3, 11, 19, 1, 2, 0, 8, 10, 5, 7, 4, 6, 9, 16, 18, 13, 15, 12, 14, 17]⟩⟩,
      ⟨23, ⟨some 89, .fa 3 (.t 5), some (88, false), [22, 21, 20, 3, 11, 19, 1, 2, 0, 8, 10, 5, 7, 4, 6, 9, 16, 18, 13, 15, 12, 14, 17]⟩⟩,
      ⟨24, ⟨some 90, .load false 1 (.t 89), some (88, false), [23, 22, 21, 20, 3, 11, 19, 1, 2, 0, 8, 10, 5, 7, 4, 6, 9, 16, 18, 13, 15, 12, 14, 17]⟩⟩,
      ⟨26, ⟨some 92, .ixs 2 (.t 90) (.t 91), some (88, false), [24, 25, 22, 23, 21, 20, 3, 11, 19, 1, 2, 0, 8, 10, 5, 7, 4, 6, 9, 16, 18, 13, 15, 12, 14, 17]⟩⟩,
      ⟨43, ⟨some 109, .call 39 [.t 92, .t 100, .t 108], some (88, false), [26, 34, 42, 22, 24, 25, 23, 21, 20, 3, 11, 19, 1, 2, 0, 8, 10, 5, 7, 4, 6, 9, 16, 18, 13, 15, 12, 14, 17, 31, 33, 28, 30, 27, 29, 32, 39, 41, 36, 38, 35, 37, 40]⟩⟩,
      ⟨44, ⟨some 110, .un .not (.t 109), some (88, false), [43, 22, 26, 34, 42, 24, 25, 23, 21, 20, 3, 11, 19, 1, 2, 0, 8, 10, 5, 7, 4, 6, 9, 16, 18, 13, 15, 12, 14, 17, 31, 33, 28, 30, 27, 29, 32, 39, 41, 36, 38, 35, 37, 40]⟩⟩,
      ⟨45, ⟨some 111, .pick (.t 88) (.c (.bool true)) (.t 110), none, [22, 44, 21, 20, 3, 11, 19, 1, 2, 0, 8, 10, 5, 7, 4, 6, 9, 16, 18, 13, 15, 12, 14, 17, 43, 26, 34, 42, 24, 25, 23, 31, 33, 28, 30, 27, 29, 32, 39, 41, 36, 38, 35, 37, 40]⟩⟩]) <|
   .cond (.t 111) (.seq (.region [
       ⟨some 112, .build [.int .i64 0, .nil, .nil, .nil] [], none, []⟩,
       ⟨none, .store 4 (.t 2) (.t 112), none, []⟩,
       ⟨none, .store 1 (.t 3) (.c (.int .i64 48)), none, []⟩] none) <|
    .ret) <|
   .skip) <|
  .seq (.region [
     ⟨some 113, .load true 4 (.t 5), none, []⟩,
     ⟨none, .store 4 (.t 2) (.t 113), none, []⟩,
     ⟨none, .store 1 (.t 3) (.c (.int .i64 0)), none, []⟩] none) <|
  .ret
abbrev n_ledger_Tighten : Nat := 13
theorem b_ledger_Tighten : bodyOf prog 13 [1000000] = some (c_ledger_Tighten, [.c 2 true 4, .c 3 false 1], 114) := by kernel_rfl

def c_ref30_SameBounds : ACode :=
  .seq (.region [
     ⟨some 4, .mv (.c (.bool false)), none, []⟩] none) <|
  .seq (.seq (.region [
      ⟨some 6, .mv (.t 0), none, []⟩,
      ⟨some 7, .len (.t 6), none, []⟩,
      ⟨some 8, .mv (.t 1), none, []⟩,
      ⟨some 9, .len (.t 8), none, []⟩,
      ⟨some 10, .bin .neq (.t 7) (.t 9), none, []⟩] none) <|
   .cond (.t 10) (.seq (.region [
       ⟨some 4, .mv (.c (.bool false)), none, []⟩] none) <|
    .ret) <|
   .skip) <|
  .seq (.seq (.region [
      ⟨some 11, .mv (.t 0), none, []⟩,
      ⟨some 12, .len (.t 11), none, []⟩,
      ⟨some 13, .mv (.c (.int .i64 0)), none, []⟩] none) <|
   .block 0 <|
   .loop <|
   .seq (.region [
      ⟨some 14, .bin .lss (.t 13) (.t 12), none, []⟩] none) <|
   .seq (.cond (.t 14) (.skip) <|
    .exit 0) <|
   .seq (.block 1 <|
    .seq (.region [
       ⟨some 15, .mv (.t 13), none, []⟩,
       ⟨some 5, .mv (.t 15), none, []⟩] none) <|
    .seq (.hregion [
       ⟨5, ⟨some 21, .mv (.t 5), none, []⟩⟩,
       ⟨4, ⟨some 20, .mv (.t 1), none, []⟩⟩,
       ⟨6, ⟨some 22, .ixs 2 (.t 20) (.t 21), none, [4, 5]⟩⟩,
       ⟨7, ⟨some 23, .load true 2 (.t 22), none, [6, 4, 5]⟩⟩,
       ⟨1, ⟨some 17, .mv (.t 5), none, []⟩⟩,
       ⟨0, ⟨some 16, .mv (.t 0), none, []⟩⟩,
       ⟨2, ⟨some 18, .ixs 2 (.t 16) (.t 17), none, [0, 1]⟩⟩,
       ⟨3, ⟨some 19, .load true 2 (.t 18), none, [2, 0, 1]⟩⟩,
       ⟨8, ⟨some 24, .eqs true [0, 0] (.t 19) (.t 23), none, [3, 7, 2, 0, 1, 6, 4, 5]⟩⟩]) <|
    .cond (.t 24) (.seq (.region [
        ⟨some 4, .mv (.c (.bool false)), none, []⟩] none) <|
     .ret) <|
    .skip) <|
   .region [
     ⟨some 25, .bin .add (.t 13) (.c (.int .i64 1)), none, []⟩,
     ⟨some 13, .mv (.t 25), none, []⟩] none) <|
  .seq (.region [
     ⟨some 4, .mv (.c (.bool true)), none, []⟩] none) <|
  .ret
abbrev n_ref30_SameBounds : Nat := 14
theorem b_ref30_SameBounds : bodyOf prog 14 [1000000] = some (c_ref30_SameBounds, [.t 4], 26) := by kernel_rfl

def c_flow_History : ACode :=
  .seq (.region [
     ⟨some 2, .mv (.c (.nil)), none, []⟩,
     ⟨some 3, .mv (.c (.nil)), none, []⟩,
     ⟨some 4, .mv (.c (.nil)), none, []⟩] none) <|
  .seq (.region [
     ⟨some 12, .mv (.t 0), none, []⟩,
     ⟨some 13, .call 12 [.t 12, .c (.int .i64 40)], none, []⟩,
     ⟨some 14, .lit true 1 3 [.t 13], none, []⟩,
     ⟨some 5, .mv (.t 14), none, []⟩] none) <|
  .seq (.region [
     ⟨some 6, .mv (.c (.nil)), none, []⟩,
     ⟨some 7, .mv (.c (.nil)), none, []⟩] none) <|
  .seq (.seq (.region [
      ⟨some 15, .mv (.t 0), none, []⟩,
      ⟨some 16, .call 12 [.t 15, .c (.int .i64 5)], none, []⟩,
      ⟨some 8, .mv (.t 16), none, []⟩] none) <|
   .block 0 <|
   .loop <|
   .seq (.seq (.region [
       ⟨some 17, .mv (.t 8), none, []⟩,
       ⟨some 18, .bin .geq (.t 17) (.c (.int .i64 0)), none, []⟩] none) <|
    .cond (.t 18) (.skip) <|
    .exit 0) <|
   .seq (.block 1 <|
    .seq (.region [
       ⟨some 21, .mv (.t 0), none, []⟩,
       ⟨some 22, .call 12 [.t 21, .c (.int .i64 10)], none, []⟩,
       ⟨some 9, .mv (.t 22), none, []⟩] none) <|
    .seq (.region [
       ⟨some 23, .mv (.t 5), none, []⟩,
       ⟨some 24, .mv (.t 5), none, []⟩,
       ⟨some 25, .len (.t 24), none, []⟩,
       ⟨some 26, .bin .sub (.t 25) (.c (.int .i64 1)), none, []⟩,
       ⟨some 27, .ixs 1 (.t 23) (.t 26), none, []⟩,
       ⟨some 28, .load false 1 (.t 27), none, []⟩,
       ⟨some 10, .mv (.t 28), none, []⟩] none) <|
    .seq (.region [
       ⟨some 29, .mv (.t 0), none, []⟩,
       ⟨some 30, .mv (.t 10), none, []⟩,
       ⟨some 31, .mv (.t 9), none, []⟩,
       ⟨some 32, .bin .add (.t 30) (.t 31), none, []⟩,
       ⟨some 33, .mnx false (.t 32) [.c (.int .i64 12)], none, []⟩,
       ⟨some 34, .bin .add (.t 33) (.c (.int .i64 1)), none, []⟩,
       ⟨some 35, .call 12 [.t 29, .t 34], none, []⟩,
       ⟨some 11, .mv (.t 35), none, []⟩] none) <|
    .region [
      ⟨some 36, .mv (.t 6), none, []⟩,
      ⟨some 37, .mv (.t 9), none, []⟩,
      ⟨some 38, .lit false 1 3 [.t 37], none, []⟩,
      ⟨some 39, .app 1 8 3 (.t 36) (.t 38), none, []⟩,
      ⟨some 40, .mv (.t 7), none, []⟩,
      ⟨some 41, .mv (.t 11), none, []⟩,
      ⟨some 42, .lit false 1 3 [.t 41], none, []⟩,
      ⟨some 43, .app 1 8 3 (.t 40) (.t 42), none, []⟩,
      ⟨some 44, .mv (.t 5), none, []⟩,
      ⟨some 45, .mv (.t 10), none, []⟩,
      ⟨some 46, .mv (.t 9), none, []⟩,
      ⟨some 47, .bin .add (.t 45) (.t 46), none, []⟩,
      ⟨some 48, .mv (.t 11), none, []⟩,
      ⟨some 49, .bin .sub (.t 47) (.t 48), none, []⟩,
      ⟨some 50, .lit false 1 3 [.t 49], none, []⟩,
      ⟨some 51, .app 1 8 3 (.t 44) (.t 50), none, []⟩,
      ⟨some 6, .mv (.t 39), none, []⟩,
      ⟨some 7, .mv (.t 43), none, []⟩,
      ⟨some 5, .mv (.t 51), none, []⟩] none) <|
   .region [
     ⟨some 19, .mv (.t 8), none, []⟩,
     ⟨some 20, .bin .sub (.t 19) (.c (.int .i64 1)), none, []⟩,
     ⟨some 8, .mv (.t 20), none, []⟩] none) <|
  .seq (.region [
     ⟨some 52, .mv (.t 5), none, []⟩,
     ⟨some 53, .mv (.t 6), none, []⟩,
     ⟨some 54, .mv (.t 7), none, []⟩,
     ⟨some 2, .mv (.t 52), none, []⟩,
     ⟨some 3, .mv (.t 53), none, []⟩,
     ⟨some 4, .mv (.t 54), none, []⟩] none) <|
  .ret
abbrev n_flow_History : Nat := 15
theorem b_flow_History : bodyOf prog 15 [14, 1000000] = some (c_flow_History, [.t 2, .t 3, .t 4], 55) := by kernel_rfl

def c_law30_exact : ACode :=
  .seq (.region [
     ⟨some 2, .mv (.c (.nil)), none, []⟩] none) <|
  .seq (.region [
     ⟨some 3, .mv (.c (.nil)), none, []⟩] none) <|
  .seq (.seq (.region [
      ⟨some 6, .mv (.t 0), none, []⟩,
      ⟨some 7, .len (.t 6), none, []⟩,
      ⟨some 8, .mv (.c (.int .i64 0)), none, []⟩] none) <|
   .block 0 <|
   .loop <|
   .seq (.region [
      ⟨some 9, .bin .lss (.t 8) (.t 7), none, []⟩] none) <|
   .seq (.cond (.t 9) (.skip) <|
    .exit 0) <|
   .seq (.block 1 <|
    .seq (.region [
       ⟨some 10, .ixs 1 (.t 6) (.t 8), none, []⟩,
       ⟨some 11, .load false 1 (.t 10), none, []⟩,
       ⟨some 5, .mv (.t 11), none, []⟩] none) <|
    .region [
      ⟨some 12, .mv (.t 3), none, []⟩,
      ⟨some 13, .mv (.t 5), none, []⟩,
      ⟨some 14, .mv (.t 5), none, []⟩,
      ⟨some 15, .build [.int .i64 0, .int .i64 0] [(0, 1, .t 13), (1, 1, .t 14)], none, []⟩,
      ⟨some 16, .lit false 2 28 [.t 15], none, []⟩,
      ⟨some 17, .app 2 16 28 (.t 12) (.t 16), none, []⟩,
      ⟨some 3, .mv (.t 17), none, []⟩] none) <|
   .region [
     ⟨some 18, .bin .add (.t 8) (.c (.int .i64 1)), none, []⟩,
     ⟨some 8, .mv (.t 18), none, []⟩] none) <|
  .seq (.region [
     ⟨some 19, .mv (.t 3), none, []⟩,
     ⟨some 2, .mv (.t 19), none, []⟩] none) <|
  .ret
abbrev n_law30_exact : Nat := 16
theorem b_law30_exact : bodyOf prog 16 [1000000] = some (c_law30_exact, [.t 2], 20) := by kernel_rfl

def c_flow_Account : ACode :=
  .seq (.region [
     ⟨some 2, .alloc 4 33 (.agg [.int .i64 0, .nil, .nil, .nil]), none, []⟩,
     ⟨some 3, .mv (.c (.nil)), none, []⟩,
     ⟨some 4, .mv (.c (.nil)), none, []⟩,
     ⟨some 5, .mv (.c (.nil)), none, []⟩] none) <|
  .seq (.region [
     ⟨some 10, .mv (.t 0), none, []⟩,
     ⟨some 11, .call 15 [.t 10], none, []⟩,
     ⟨some 9, .mv (.t 11), none, []⟩,
     ⟨some 12, .ext (.t 9) 0, none, []⟩,
     ⟨some 13, .ext (.t 9) 1, none, []⟩,
     ⟨some 14, .ext (.t 9) 2, none, []⟩,
     ⟨some 6, .mv (.t 12), none, []⟩,
     ⟨some 7, .mv (.t 13), none, []⟩,
     ⟨some 8, .mv (.t 14), none, []⟩] none) <|
  .seq (.region [
     ⟨some 15, .mv (.t 0), none, []⟩,
     ⟨some 16, .call 12 [.t 15, .c (.int .i64 20)], none, []⟩,
     ⟨some 17, .mv (.t 0), none, []⟩,
     ⟨some 18, .mv (.t 6), none, []⟩,
     ⟨some 19, .call 40 [.t 17, .t 18], none, []⟩,
     ⟨some 20, .mv (.t 0), none, []⟩,
     ⟨some 21, .mv (.t 7), none, []⟩,
     ⟨some 22, .call 40 [.t 20, .t 21], none, []⟩,
     ⟨some 23, .mv (.t 0), none, []⟩,
     ⟨some 24, .mv (.t 8), none, []⟩,
     ⟨some 25, .call 40 [.t 23, .t 24], none, []⟩,
     ⟨some 26, .build [.int .i64 0, .nil, .nil, .nil] [(0, 1, .t 16), (1, 1, .t 19), (2, 1, .t 22), (3, 1, .t 25)], none, []⟩,
     ⟨some 27, .mv (.t 6), none, []⟩,
     ⟨some 28, .mv (.t 7), none, []⟩,
     ⟨some 29, .mv (.t 8), none, []⟩,
     ⟨none, .store 4 (.t 2) (.t 26), none, []⟩,
     ⟨some 3, .mv (.t 27), none, []⟩,
     ⟨some 4, .mv (.t 28), none, []⟩,
     ⟨some 5, .mv (.t 29), none, []⟩] none) <|
  .ret
abbrev n_flow_Account : Nat := 17
theorem b_flow_Account : bodyOf prog 17 [1000000] = some (c_flow_Account, [.c 2 true 4, .t 3, .t 4, .t 5], 30) := by kernel_rfl

def c_ledger_Holds : ACode :=
  .seq (.region [
     ⟨some 4, .box 4 33 (.t 0), none, []⟩,
     ⟨some 8, .mv (.c (.bool false)), none, []⟩] none) <|
  .seq (.seq (.region [
      ⟨some 11, .load true 4 (.t 4), none, []⟩,
      ⟨some 12, .call 26 [.t 11], none, []⟩,
      ⟨some 13, .bin .neq (.t 12) (.c (.int .i64 0)), none, []⟩,
      ⟨some 14, .mv (.t 13), none, []⟩,
      ⟨some 15, .fa 1 (.t 4), some (14, false), []⟩,
      ⟨some 16, .load false 1 (.t 15), some (14, false), []⟩,
      ⟨some 17, .mv (.t 1), some (14, false), []⟩,
      ⟨some 18, .call 41 [.t 16, .t 17], some (14, false), []⟩,
      ⟨some 19, .un .not (.t 18), some (14, false), []⟩,
      ⟨some 20, .pick (.t 14) (.c (.bool true)) (.t 19), none, []⟩,
      ⟨some 21, .mv (.t 20), none, []⟩,
      ⟨some 22, .fa 2 (.t 4), some (21, false), []⟩,
      ⟨some 23, .load false 1 (.t 22), some (21, false), []⟩,
      ⟨some 24, .mv (.t 2), some (21, false), []⟩,
      ⟨some 25, .call 41 [.t 23, .t 24], some (21, false), []⟩,
      ⟨some 26, .un .not (.t 25), some (21, false), []⟩,
      ⟨some 27, .pick (.t 21) (.c (.bool true)) (.t 26), none, []⟩,
      ⟨some 28, .mv (.t 27), none, []⟩,
      ⟨some 29, .fa 3 (.t 4), some (28, false), []⟩,
      ⟨some 30, .load false 1 (.t 29), some (28, false), []⟩,
      ⟨some 31, .mv (.t 3), some (28, false), []⟩,
      ⟨some 32, .call 41 [.t 30, .t 31], some (28, false), []⟩,
      ⟨some 33, .un .not (.t 32), some (28, false), []⟩,
      ⟨some 34, .pick (.t 28) (.c (.bool true)) (.t 33), none, []⟩] none) <|
   .cond (.t 34) (.seq (.region [
       ⟨some 8, .mv (.c (.bool false)), none, []⟩] none) <|
    .ret) <|
   .skip) <|
  .seq (.seq (.region [
      ⟨some 35, .mv (.t 2), none, []⟩,
      ⟨some 36, .len (.t 35), none, []⟩,
      ⟨some 37, .mv (.c (.int .i64 0)), none, []⟩] none) <|
   .block 0 <|
   .loop <|
   .seq (.region [
      ⟨some 38, .bin .lss (.t 37) (.t 36), none, []⟩] none) <|
   .seq (.cond (.t 38) (.skip) <|
    .exit 0) <|
   .seq (.block 1 <|
    .seq (.region [
       ⟨some 39, .mv (.t 37), none, []⟩,
       ⟨some 40, .ixs 1 (.t 35) (.t 37), none, []⟩,
       ⟨some 41, .load false 1 (.t 40), none, []⟩,
       ⟨some 9, .mv (.t 39), none, []⟩,
       ⟨some 10, .mv (.t 41), none, []⟩] none) <|
    .seq (.hregion [
       ⟨12, ⟨some 54, .mv (.t 9), none, []⟩⟩,
       ⟨11, ⟨some 53, .mv (.t 3), none, []⟩⟩,
       ⟨13, ⟨some 55, .ixs 1 (.t 53) (.t 54), none, [11, 12]⟩⟩,
       ⟨14, ⟨some 56, .load false 1 (.t 55), none, [13, 11, 12]⟩⟩,
       ⟨9, ⟨some 51, .mv (.t 10), none, []⟩⟩,
       ⟨6, ⟨some 48, .mv (.t 9), none, []⟩⟩,
       ⟨5, ⟨some 47, .mv (.t 1), none, []⟩⟩,
       ⟨7, ⟨some 49, .ixs 1 (.t 47) (.t 48), none, [5, 6]⟩⟩,
       ⟨8, ⟨some 50, .load false 1 (.t 49), none, [7, 5, 6]⟩⟩,
       ⟨10, ⟨some 52, .bin .add (.t 50) (.t 51), none, [8, 9, 7, 5, 6]⟩⟩,
       ⟨15, ⟨some 57, .bin .sub (.t 52) (.t 56), none, [10, 14, 8, 9, 7, 5, 6, 13, 11, 12]⟩⟩,
       ⟨1, ⟨some 43, .mv (.t 9), none, []⟩⟩,
       ⟨2, ⟨some 44, .bin .add (.t 43) (.c (.int .i64 1)), none, [1]⟩⟩,
       ⟨0, ⟨some 42, .mv (.t 1), none, []⟩⟩,
       ⟨3, ⟨some 45, .ixs 1 (.t 42) (.t 44), none, [0, 2, 1]⟩⟩,
       ⟨4, ⟨some 46, .load false 1 (.t 45), none, [3, 0, 2, 1]⟩⟩,
       ⟨16, ⟨some 58, .bin .neq (.t 46) (.t 57), none, [4, 15, 3, 0, 2, 1, 10, 14, 8, 9, 7, 5, 6, 13, 11, 12]⟩⟩]) <|
    .cond (.t 58) (.seq (.region [
        ⟨some 8, .mv (.c (.bool false)), none, []⟩] none) <|
     .ret) <|
    .skip) <|
   .region [
     ⟨some 59, .bin .add (.t 37) (.c (.int .i64 1)), none, []⟩,
     ⟨some 37, .mv (.t 59), none, []⟩] none) <|
  .seq (.region [
     ⟨some 8, .mv (.c (.bool true)), none, []⟩] none) <|
  .ret
abbrev n_ledger_Holds : Nat := 18
theorem b_ledger_Holds : bodyOf prog 18 [1000000] = some (c_ledger_Holds, [.t 8], 60) := by kernel_rfl

def c_ledger_Fix : ACode :=
  .seq (.region [
     ⟨some 4, .box 4 33 (.t 0), none, []⟩,
     ⟨some 7, .box 2 28 (.t 3), none, []⟩,
     ⟨some 8, .alloc 4 33 (.agg [.int .i64 0, .nil, .nil, .nil]), none, []⟩,
     ⟨some 9, .mv (.c (.int .i64 0)), none, []⟩] none) <|
  .seq (.seq (.region [
      ⟨some 13, .load true 4 (.t 4), none, []⟩,
      ⟨some 14, .call 26 [.t 13], none, []⟩,
      ⟨some 10, .mv (.t 14), none, []⟩] none) <|
   .seq (.region [
      ⟨some 15, .mv (.t 10), none, []⟩,
      ⟨some 16, .bin .neq (.t 15) (.c (.int .i64 0)), none, []⟩] none) <|
   .cond (.t 16) (.seq (.region [
       ⟨some 17, .build [.int .i64 0, .nil, .nil, .nil] [], none, []⟩,
       ⟨some 18, .mv (.t 10), none, []⟩,
       ⟨none, .store 4 (.t 8) (.t 17), none, []⟩,
       ⟨some 9, .mv (.t 18), none, []⟩] none) <|
    .ret) <|
   .skip) <|
  .seq (.seq (.region [
      ⟨some 19, .mv (.t 1), none, []⟩,
      ⟨some 20, .bin .lss (.t 19) (.c (.int .i64 1)), none, []⟩,
      ⟨some 21, .mv (.t 20), none, []⟩,
      ⟨some 22, .mv (.t 1), some (21, false), []⟩,
      ⟨some 23, .bin .gtr (.t 22) (.c (.int .i64 3)), some (21, false), []⟩,
      ⟨some 24, .pick (.t 21) (.c (.bool true)) (.t 23), none, []⟩] none) <|
   .cond (.t 24) (.seq (.region [
       ⟨some 25, .build [.int .i64 0, .nil, .nil, .nil] [], none, []⟩,
       ⟨none, .store 4 (.t 8) (.t 25), none, []⟩,
       ⟨some 9, .mv (.c (.int .i64 5)), none, []⟩] none) <|
    .ret) <|
   .skip) <|
  .seq (.region [
     ⟨some 26, .load true 4 (.t 4), none, []⟩,
     ⟨some 27, .call 36 [.t 26], none, []⟩,
     ⟨some 11, .alloc 4 33 (.agg [.int .i64 0, .nil, .nil, .nil]), none, []⟩,
     ⟨none, .store 4 (.t 11) (.t 27), none, []⟩] none) <|
  .seq (.region [
     ⟨some 28, .call 42 [.t 11], none, []⟩,
     ⟨some 29, .mv (.t 1), none, []⟩,
     ⟨some 30, .bin .sub (.t 29) (.c (.int .i64 1)), none, []⟩,
     ⟨some 31, .pu (.aidx false 1 3) [.t 28, .t 30], none, []⟩,
     ⟨some 12, .mv (.t 31), none, []⟩] none) <|
  .seq (.seq (.region [
      ⟨some 32, .mv (.t 2), none, []⟩,
      ⟨some 33, .fa 0 (.t 4), none, []⟩,
      ⟨some 34, .load false 1 (.t 33), none, []⟩,
      ⟨some 35, .bin .lss (.t 32) (.t 34), none, []⟩,
      ⟨some 36, .mv (.t 35), none, []⟩,
      ⟨some 37, .mv (.t 2), some (36, false), []⟩,
      ⟨some 38, .fa 0 (.t 4), some (36, false), []⟩,
      ⟨some 39, .load false 1 (.t 38), some (36, false), []⟩,
      ⟨some 40, .mv (.t 12), some (36, false), []⟩,
      ⟨some 41, .len (.t 40), some (36, false), []⟩,
      ⟨some 42, .bin .add (.t 39) (.t 41), some (36, false), []⟩,
      ⟨some 43, .bin .geq (.t 37) (.t 42), some (36, false), []⟩,
      ⟨some 44, .pick (.t 36) (.c (.bool true)) (.t 43), none, []⟩] none) <|
   .cond (.t 44) (.seq (.region [
       ⟨some 45, .build [.int .i64 0, .nil, .nil, .nil] [], none, []⟩,
       ⟨none, .store 4 (.t 8) (.t 45), none, []⟩,
       ⟨some 9, .mv (.c (.int .i64 6)), none, []⟩] none) <|
    .ret) <|
   .skip) <|
  .seq (.seq (.hregion [
      ⟨8, ⟨some 54, .fa 1 (.t 7), none, []⟩⟩,
      ⟨9, ⟨some 55, .load false 1 (.t 54), none, [8]⟩⟩,
      ⟨6, ⟨some 52, .fa 0 (.t 7), none, []⟩⟩,
      ⟨7, ⟨some 53, .load false 1 (.t 52), none, [6]⟩⟩,
      ⟨2, ⟨some 48, .fa 0 (.t 4), none, []⟩⟩,
      ⟨3, ⟨some 49, .load false 1 (.t 48), none, [2]⟩⟩,
      ⟨1, ⟨some 47, .mv (.t 2), none, []⟩⟩,
      ⟨4, ⟨some 50, .bin .sub (.t 47) (.t 49), none, [1, 3, 2]⟩⟩,
      ⟨0, ⟨some 46, .mv (.t 12), none, []⟩⟩,
      ⟨5, ⟨some 51, .ixs 2 (.t 46) (.t 50), none, [0, 4, 1, 3, 2]⟩⟩,
      ⟨10, ⟨some 56, .call 39 [.t 51, .t 53, .t 55], none, [5, 7, 9, 0, 4, 1, 3, 2, 6, 8]⟩⟩,
      ⟨11, ⟨some 57, .un .not (.t 56), none, [10, 5, 7, 9, 0, 4, 1, 3, 2, 6, 8]⟩⟩]) <|
   .cond (.t 57) (.seq (.region [
       ⟨some 58, .build [.int .i64 0, .nil, .nil, .nil] [], none, []⟩,
       ⟨none, .store 4 (.t 8) (.t 58), none, []⟩,
       ⟨some 9, .mv (.c (.int .i64 48)), none, []⟩] none) <|
    .ret) <|
   .skip) <|
  .seq (.region [
     ⟨some 59, .load true 4 (.t 11), none, []⟩,
     ⟨none, .store 4 (.t 8) (.t 59), none, []⟩,
     ⟨some 9, .mv (.c (.int .i64 0)), none, []⟩] none) <|
  .ret
abbrev n_ledger_Fix : Nat := 19
theorem b_ledger_Fix : bodyOf prog 19 [1000000] = some (c_ledger_Fix, [.c 8 true 4, .t 9], 60) := by kernel_rfl

def c_flow_Loose : ACode :=
  .seq (.region [
     ⟨some 2, .alloc 4 33 (.agg [.int .i64 0, .nil, .nil, .nil]), none, []⟩] none) <|
  .seq (.region [
     ⟨some 11, .mv (.t 0), none, []⟩,
     ⟨some 12, .call 17 [.t 11], none, []⟩,
     ⟨some 10, .mv (.t 12), none, []⟩,
     ⟨some 13, .ext (.t 10) 0, none, []⟩,
     ⟨some 14, .ext (.t 10) 1, none, []⟩,
     ⟨some 15, .ext (.t 10) 2, none, []⟩,
     ⟨some 16, .ext (.t 10) 3, none, []⟩,
     ⟨some 3, .alloc 4 33 (.agg [.int .i64 0, .nil, .nil, .nil]), none, []⟩,
     ⟨none, .store 4 (.t 3) (.t 13), none, []⟩,
     ⟨some 4, .mv (.t 14), none, []⟩,
     ⟨some 5, .mv (.t 15), none, []⟩,
     ⟨some 6, .mv (.t 16), none, []⟩] none) <|
  .seq (.seq (.region [
      ⟨some 17, .mv (.t 0), none, []⟩,
      ⟨some 18, .call 12 [.t 17, .c (.int .i64 3)], none, []⟩,
      ⟨some 7, .mv (.t 18), none, []⟩] none) <|
   .block 0 <|
   .loop <|
   .seq (.seq (.region [
       ⟨some 19, .mv (.t 7), none, []⟩,
       ⟨some 20, .bin .gtr (.t 19) (.c (.int .i64 0)), none, []⟩] none) <|
    .cond (.t 20) (.skip) <|
    .exit 0) <|
   .seq (.block 1 <|
    .seq (.region [
       ⟨some 23, .fa 1 (.t 3), none, []⟩,
       ⟨some 24, .load false 1 (.t 23), none, [0]⟩,
       ⟨some 25, .fa 2 (.t 3), none, []⟩,
       ⟨some 26, .load false 1 (.t 25), none, [2]⟩,
       ⟨some 27, .fa 3 (.t 3), none, []⟩,
       ⟨some 28, .load false 1 (.t 27), none, [4]⟩,
       ⟨some 29, .lit true 1 31 [.t 24, .t 26, .t 28], none, [1, 3, 5, 0, 2, 4]⟩,
       ⟨some 30, .mv (.t 0), none, []⟩,
       ⟨some 31, .call 12 [.t 30, .c (.int .i64 3)], none, [7]⟩,
       ⟨some 32, .ixs 1 (.t 29) (.t 31), none, [6, 8, 1, 3, 5, 0, 2, 4, 7]⟩,
       ⟨some 33, .load false 1 (.t 32), none, [9, 6, 8, 1, 3, 5, 0, 2, 4, 7]⟩,
       ⟨some 8, .mv (.t 33), none, [10, 8, 0, 1, 2, 3, 4, 5, 6, 7, 9]⟩] (some 12)) <|
    .seq (.region [
       ⟨some 34, .mv (.t 0), none, []⟩,
       ⟨some 35, .call 12 [.t 34, .c (.int .i64 50)], none, []⟩,
       ⟨some 9, .mv (.t 35), none, []⟩] none) <|
    .region [
      ⟨some 36, .mv (.t 8), none, []⟩,
      ⟨some 37, .mv (.t 0), none, []⟩,
      ⟨some 38, .mv (.t 8), none, []⟩,
      ⟨some 39, .len (.t 38), none, []⟩,
      ⟨some 40, .call 12 [.t 37, .t 39], none, []⟩,
      ⟨some 41, .mv (.t 9), none, []⟩,
      ⟨some 42, .mv (.t 9), none, []⟩,
      ⟨some 43, .mv (.t 0), none, []⟩,
      ⟨some 44, .call 12 [.t 43, .c (.int .i64 20)], none, []⟩,
      ⟨some 45, .bin .add (.t 42) (.t 44), none, []⟩,
      ⟨some 46, .build [.int .i64 0, .int .i64 0] [(0, 1, .t 41), (1, 1, .t 45)], none, []⟩,
      ⟨some 47, .ixs 2 (.t 36) (.t 40), none, []⟩,
      ⟨none, .store 2 (.t 47) (.t 46), none, []⟩] none) <|
   .region [
     ⟨some 21, .mv (.t 7), none, []⟩,
     ⟨some 22, .bin .sub (.t 21) (.c (.int .i64 1)), none, []⟩,
     ⟨some 7, .mv (.t 22), none, []⟩] none) <|
  .seq (.region [
     ⟨some 48, .load true 4 (.t 3), none, []⟩,
     ⟨none, .store 4 (.t 2) (.t 48), none, []⟩] none) <|
  .ret
abbrev n_flow_Loose : Nat := 20
theorem b_flow_Loose : bodyOf prog 20 [29, 1000000] = some (c_flow_Loose, [.c 2 true 4], 49) := by kernel_rfl

def c_ledger_First : ACode :=
  .seq (.region [
     ⟨some 1, .box 4 33 (.t 0), none, []⟩,
     ⟨some 2, .mv (.c (.nil)), none, []⟩,
     ⟨some 3, .mv (.c (.nil)), none, []⟩,
     ⟨some 4, .mv (.c (.nil)), none, []⟩,
     ⟨some 5, .mv (.c (.int .i64 0)), none, []⟩] none) <|
  .seq (.region [
     ⟨some 18, .load true 4 (.t 1), none, []⟩,
     ⟨some 19, .call 13 [.t 18], none, []⟩,
     ⟨some 17, .mv (.t 19), none, []⟩,
     ⟨some 20, .ext (.t 17) 0, none, []⟩,
     ⟨some 21, .ext (.t 17) 1, none, []⟩,
     ⟨some 6, .alloc 4 33 (.agg [.int .i64 0, .nil, .nil, .nil]), none, []⟩,
     ⟨none, .store 4 (.t 6) (.t 20), none, []⟩,
     ⟨some 7, .mv (.t 21), none, []⟩] none) <|
  .seq (.seq (.region [
      ⟨some 22, .mv (.t 7), none, []⟩,
      ⟨some 23, .bin .neq (.t 22) (.c (.int .i64 0)), none, []⟩] none) <|
   .cond (.t 23) (.seq (.region [
       ⟨some 24, .mv (.t 7), none, []⟩,
       ⟨some 2, .mv (.c (.nil)), none, []⟩,
       ⟨some 3, .mv (.c (.nil)), none, []⟩,
       ⟨some 4, .mv (.c (.nil)), none, []⟩,
       ⟨some 5, .mv (.t 24), none, []⟩] none) <|
    .ret) <|
   .skip) <|
  .seq (.region [
     ⟨some 25, .fa 1 (.t 6), none, []⟩,
     ⟨some 26, .load false 1 (.t 25), none, []⟩,
     ⟨some 27, .ixs 2 (.t 26) (.c (.int .i64 0)), none, []⟩,
     ⟨some 28, .fa 0 (.t 27), none, []⟩,
     ⟨some 29, .load false 1 (.t 28), none, []⟩,
     ⟨some 30, .lit true 1 3 [.t 29], none, []⟩,
     ⟨some 8, .mv (.t 30), none, []⟩] none) <|
  .seq (.region [
     ⟨some 9, .mv (.c (.nil)), none, []⟩,
     ⟨some 10, .mv (.c (.nil)), none, []⟩] none) <|
  .seq (.seq (.region [
      ⟨some 31, .fa 2 (.t 1), none, []⟩,
      ⟨some 32, .load false 1 (.t 31), none, []⟩,
      ⟨some 33, .len (.t 32), none, []⟩,
      ⟨some 34, .mv (.c (.int .i64 0)), none, []⟩] none) <|
   .block 0 <|
   .loop <|
   .seq (.region [
      ⟨some 35, .bin .lss (.t 34) (.t 33), none, []⟩] none) <|
   .seq (.cond (.t 35) (.skip) <|
    .exit 0) <|
   .seq (.block 1 <|
    .seq (.region [
       ⟨some 36, .mv (.t 34), none, []⟩,
       ⟨some 37, .ixs 2 (.t 32) (.t 34), none, []⟩,
       ⟨some 38, .load true 2 (.t 37), none, []⟩,
       ⟨some 12, .alloc 2 28 (.agg [.int .i64 0, .int .i64 0]), none, []⟩,
       ⟨some 11, .mv (.t 36), none, []⟩,
       ⟨none, .store 2 (.t 12) (.t 38), none, []⟩] none) <|
    .seq (.region [
       ⟨some 39, .fa 3 (.t 1), none, []⟩,
       ⟨some 40, .load false 1 (.t 39), none, []⟩,
       ⟨some 41, .mv (.t 11), none, []⟩,
       ⟨some 42, .ixs 2 (.t 40) (.t 41), none, []⟩,
       ⟨some 43, .load true 2 (.t 42), none, []⟩,
       ⟨some 13, .alloc 2 28 (.agg [.int .i64 0, .int .i64 0]), none, []⟩,
       ⟨none, .store 2 (.t 13) (.t 43), none, []⟩] none) <|
    .seq (.hregion [
       ⟨14, ⟨some 58, .fa 1 (.t 13), none, []⟩⟩,
       ⟨15, ⟨some 59, .load false 1 (.t 58), none, [14]⟩⟩,
       ⟨11, ⟨some 55, .fa 0 (.t 12), none, []⟩⟩,
       ⟨12, ⟨some 56, .load false 1 (.t 55), none, [11]⟩⟩,
       ⟨8, ⟨some 52, .mv (.t 11), none, []⟩⟩,
       ⟨7, ⟨some 51, .mv (.t 8), none, []⟩⟩,
       ⟨9, ⟨some 53, .ixs 1 (.t 51) (.t 52), none, [7, 8]⟩⟩,
       ⟨10, ⟨some 54, .load false 1 (.t 53), none, [9, 7, 8]⟩⟩,
       ⟨13, ⟨some 57, .bin .add (.t 54) (.t 56), none, [10, 12, 9, 7, 8, 11]⟩⟩,
       ⟨16, ⟨some 60, .bin .sub (.t 57) (.t 59), none, [13, 15, 10, 12, 9, 7, 8, 11, 14]⟩⟩,
       ⟨2, ⟨some 46, .mv (.t 11), none, []⟩⟩,
       ⟨3, ⟨some 47, .bin .add (.t 46) (.c (.int .i64 1)), none, [2]⟩⟩,
       ⟨0, ⟨some 44, .fa 1 (.t 6), none, []⟩⟩,
       ⟨1, ⟨some 45, .load false 1 (.t 44), none, [0]⟩⟩,
       ⟨4, ⟨some 48, .ixs 2 (.t 45) (.t 47), none, [1, 3, 0, 2]⟩⟩,
       ⟨5, ⟨some 49, .fa 0 (.t 48), none, [4, 1, 3, 0, 2]⟩⟩,
       ⟨6, ⟨some 50, .load false 1 (.t 49), none, [5, 4, 1, 3, 0, 2]⟩⟩,
       ⟨17, ⟨some 61, .mnx true (.t 50) [.t 60], none, [6, 16, 5, 4, 1, 3, 0, 2, 13, 15, 10, 12, 9, 7, 8, 11, 14]⟩⟩,
       ⟨18, ⟨some 14, .mv (.t 61), none, [17, 0, 1, 2, 3, 4, 5, 6, 7, 8, 9, 10, 11, 12, 13, 14, 15, 16]⟩⟩]) <|
    .seq (.region [
       ⟨some 62, .mv (.t 14), none, []⟩,
       ⟨some 63, .mv (.t 8), none, []⟩,
       ⟨some 64, .mv (.t 11), none, []⟩,
       ⟨some 65, .ixs 1 (.t 63) (.t 64), none, []⟩,
       ⟨some 66, .load false 1 (.t 65), none, []⟩,
       ⟨some 67, .bin .sub (.t 62) (.t 66), none, []⟩,
       ⟨some 15, .mv (.t 67), none, []⟩] none) <|
    .seq (.region [
       ⟨some 68, .fa 0 (.t 12), none, []⟩,
       ⟨some 69, .load false 1 (.t 68), none, []⟩,
       ⟨some 70, .fa 0 (.t 13), none, []⟩,
       ⟨some 71, .load false 1 (.t 70), none, []⟩,
       ⟨some 72, .mv (.t 15), none, []⟩,
       ⟨some 73, .bin .add (.t 71) (.t 72), none, []⟩,
       ⟨some 74, .mnx true (.t 69) [.t 73], none, []⟩,
       ⟨some 16, .mv (.t 74), none, []⟩] none) <|
    .region [
      ⟨some 75, .mv (.t 8), none, []⟩,
      ⟨some 76, .mv (.t 14), none, []⟩,
      ⟨some 77, .lit false 1 3 [.t 76], none, []⟩,
      ⟨some 78, .app 1 8 3 (.t 75) (.t 77), none, []⟩,
      ⟨some 79, .mv (.t 9), none, []⟩,
      ⟨some 80, .mv (.t 16), none, []⟩,
      ⟨some 81, .lit false 1 3 [.t 80], none, []⟩,
      ⟨some 82, .app 1 8 3 (.t 79) (.t 81), none, []⟩,
      ⟨some 83, .mv (.t 10), none, []⟩,
      ⟨some 84, .mv (.t 16), none, []⟩,
      ⟨some 85, .mv (.t 15), none, []⟩,
      ⟨some 86, .bin .sub (.t 84) (.t 85), none, []⟩,
      ⟨some 87, .lit false 1 3 [.t 86], none, []⟩,
      ⟨some 88, .app 1 8 3 (.t 83) (.t 87), none, []⟩,
      ⟨some 8, .mv (.t 78), none, []⟩,
      ⟨some 9, .mv (.t 82), none, []⟩,
      ⟨some 10, .mv (.t 88), none, []⟩] none) <|
   .region [
     ⟨some 89, .bin .add (.t 34) (.c (.int .i64 1)), none, []⟩,
     ⟨some 34, .mv (.t 89), none, []⟩] none) <|
  .seq (.region [
     ⟨some 90, .mv (.t 8), none, []⟩,
     ⟨some 91, .mv (.t 9), none, []⟩,
     ⟨some 92, .mv (.t 10), none, []⟩,
     ⟨some 2, .mv (.t 90), none, []⟩,
     ⟨some 3, .mv (.t 91), none, []⟩,
     ⟨some 4, .mv (.t 92), none, []⟩,
     ⟨some 5, .mv (.c (.int .i64 0)), none, []⟩] none) <|
  .ret
abbrev n_ledger_First : Nat := 21
theorem b_ledger_First : bodyOf prog 21 [30, 1000000] = some (c_ledger_First, [.t 2, .t 3, .t 4, .t 5], 93) := by kernel_rfl

def c_ledger_Width : ACode :=
  .seq (.region [
     ⟨some 1, .box 4 33 (.t 0), none, []⟩,
     ⟨some 2, .mv (.c (.int .i64 0)), none, []⟩,
     ⟨some 3, .mv (.c (.int .i64 0)), none, []⟩] none) <|
  .seq (.seq (.region [
      ⟨some 10, .load true 4 (.t 1), none, []⟩,
      ⟨some 11, .call 26 [.t 10], none, []⟩,
      ⟨some 4, .mv (.t 11), none, []⟩] none) <|
   .seq (.region [
      ⟨some 12, .mv (.t 4), none, []⟩,
      ⟨some 13, .bin .neq (.t 12) (.c (.int .i64 0)), none, []⟩] none) <|
   .cond (.t 13) (.seq (.region [
       ⟨some 14, .mv (.t 4), none, []⟩,
       ⟨some 2, .mv (.c (.int .i64 0)), none, []⟩,
       ⟨some 3, .mv (.t 14), none, []⟩] none) <|
    .ret) <|
   .skip) <|
  .seq (.region [
     ⟨some 5, .mv (.c (.int .i64 0)), none, []⟩] none) <|
  .seq (.seq (.region [
      ⟨some 15, .call 42 [.t 1], none, []⟩,
      ⟨some 16, .mv (.c (.int .i64 0)), none, []⟩] none) <|
   .block 0 <|
   .loop <|
   .seq (.region [
      ⟨some 17, .bin .lss (.t 16) (.c (.int .i64 3)), none, []⟩] none) <|
   .seq (.cond (.t 17) (.skip) <|
    .exit 0) <|
   .seq (.block 1 <|
    .seq (.region [
       ⟨some 18, .pu (.aidx false 1 3) [.t 15, .t 16], none, []⟩,
       ⟨some 7, .mv (.t 18), none, []⟩] none) <|
    .seq (.region [
       ⟨some 19, .mv (.t 7), none, []⟩,
       ⟨some 20, .len (.t 19), none, []⟩,
       ⟨some 21, .mv (.c (.int .i64 0)), none, []⟩] none) <|
    .block 2 <|
    .loop <|
    .seq (.region [
       ⟨some 22, .bin .lss (.t 21) (.t 20), none, []⟩] none) <|
    .seq (.cond (.t 22) (.skip) <|
     .exit 2) <|
    .seq (.block 3 <|
     .seq (.region [
        ⟨some 23, .ixs 2 (.t 19) (.t 21), none, []⟩,
        ⟨some 24, .load true 2 (.t 23), none, []⟩,
        ⟨some 9, .alloc 2 28 (.agg [.int .i64 0, .int .i64 0]), none, []⟩,
        ⟨none, .store 2 (.t 9) (.t 24), none, []⟩] none) <|
     .region [
       ⟨some 25, .mv (.t 5), none, []⟩,
       ⟨some 26, .fa 1 (.t 9), none, []⟩,
       ⟨some 27, .load false 1 (.t 26), none, []⟩,
       ⟨some 28, .fa 0 (.t 9), none, []⟩,
       ⟨some 29, .load false 1 (.t 28), none, []⟩,
       ⟨some 30, .bin .sub (.t 27) (.t 29), none, []⟩,
       ⟨some 31, .bin .add (.t 25) (.t 30), none, []⟩,
       ⟨some 5, .mv (.t 31), none, []⟩] none) <|
    .region [
      ⟨some 32, .bin .add (.t 21) (.c (.int .i64 1)), none, []⟩,
      ⟨some 21, .mv (.t 32), none, []⟩] none) <|
   .region [
     ⟨some 33, .bin .add (.t 16) (.c (.int .i64 1)), none, []⟩,
     ⟨some 16, .mv (.t 33), none, []⟩] none) <|
  .seq (.region [
     ⟨some 34, .mv (.t 5), none, []⟩,
     ⟨some 2, .mv (.t 34), none, []⟩,
     ⟨some 3, .mv (.c (.int .i64 0)), none, []⟩] none) <|
  .ret
abbrev n_ledger_Width : Nat := 22
theorem b_ledger_Width : bodyOf prog 22 [1000000] = some (c_ledger_Width, [.t 2, .t 3], 35) := by kernel_rfl

def c_ledger_Same : ACode :=
  .seq (.region [
     ⟨some 2, .box 4 33 (.t 0), none, []⟩,
     ⟨some 3, .box 4 33 (.t 1), none, []⟩,
     ⟨some 4, .mv (.c (.bool false)), none, []⟩] none) <|
  .seq (.region [
     ⟨some 5, .fa 0 (.t 2), none, []⟩,
     ⟨some 6, .load false 1 (.t 5), none, []⟩,
     ⟨some 7, .fa 0 (.t 3), none, []⟩,
     ⟨some 8, .load false 1 (.t 7), none, []⟩,
     ⟨some 9, .bin .eql (.t 6) (.t 8), none, []⟩,
     ⟨some 10, .mv (.t 9), none, []⟩,
     ⟨some 11, .fa 1 (.t 2), some (10, true), []⟩,
     ⟨some 12, .load false 1 (.t 11), some (10, true), []⟩,
     ⟨some 13, .fa 1 (.t 3), some (10, true), []⟩,
     ⟨some 14, .load false 1 (.t 13), some (10, true), []⟩,
     ⟨some 15, .call 43 [.t 12, .t 14], some (10, true), []⟩,
     ⟨some 16, .pick (.t 10) (.t 15) (.c (.bool false)), none, []⟩,
     ⟨some 17, .mv (.t 16), none, []⟩,
     ⟨some 18, .fa 2 (.t 2), some (17, true), []⟩,
     ⟨some 19, .load false 1 (.t 18), some (17, true), []⟩,
     ⟨some 20, .fa 2 (.t 3), some (17, true), []⟩,
     ⟨some 21, .load false 1 (.t 20), some (17, true), []⟩,
     ⟨some 22, .call 43 [.t 19, .t 21], some (17, true), []⟩,
     ⟨some 23, .pick (.t 17) (.t 22) (.c (.bool false)), none, []⟩,
     ⟨some 24, .mv (.t 23), none, []⟩,
     ⟨some 25, .fa 3 (.t 2), some (24, true), []⟩,
     ⟨some 26, .load false 1 (.t 25), some (24, true), []⟩,
     ⟨some 27, .fa 3 (.t 3), some (24, true), []⟩,
     ⟨some 28, .load false 1 (.t 27), some (24, true), []⟩,
     ⟨some 29, .call 43 [.t 26, .t 28], some (24, true), []⟩,
     ⟨some 30, .pick (.t 24) (.t 29) (.c (.bool false)), none, []⟩,
     ⟨some 4, .mv (.t 30), none, []⟩] none) <|
  .ret
abbrev n_ledger_Same : Nat := 23
theorem b_ledger_Same : bodyOf prog 23 [1000000] = some (c_ledger_Same, [.t 4], 31) := by kernel_rfl

def c_ledger_Residuals : ACode :=
  .seq (.region [
     ⟨some 1, .box 4 33 (.t 0), none, []⟩,
     ⟨some 2, .mv (.c (.nil)), none, []⟩,
     ⟨some 3, .mv (.c (.int .i64 0)), none, []⟩] none) <|
  .seq (.seq (.region [
      ⟨some 11, .load true 4 (.t 1), none, []⟩,
      ⟨some 12, .call 26 [.t 11], none, []⟩,
      ⟨some 4, .mv (.t 12), none, []⟩] none) <|
   .seq (.region [
      ⟨some 13, .mv (.t 4), none, []⟩,
      ⟨some 14, .bin .neq (.t 13) (.c (.int .i64 0)), none, []⟩] none) <|
   .cond (.t 14) (.seq (.region [
       ⟨some 15, .mv (.t 4), none, []⟩,
       ⟨some 2, .mv (.c (.nil)), none, []⟩,
       ⟨some 3, .mv (.t 15), none, []⟩] none) <|
    .ret) <|
   .skip) <|
  .seq (.region [
     ⟨some 5, .mv (.c (.nil)), none, []⟩] none) <|
  .seq (.seq (.region [
      ⟨some 16, .fa 2 (.t 1), none, []⟩,
      ⟨some 17, .load false 1 (.t 16), none, []⟩,
      ⟨some 18, .len (.t 17), none, []⟩,
      ⟨some 19, .mv (.c (.int .i64 0)), none, []⟩] none) <|
   .block 0 <|
   .loop <|
   .seq (.region [
      ⟨some 20, .bin .lss (.t 19) (.t 18), none, []⟩] none) <|
   .seq (.cond (.t 20) (.skip) <|
    .exit 0) <|
   .seq (.block 1 <|
    .seq (.region [
       ⟨some 21, .mv (.t 19), none, []⟩,
       ⟨some 22, .ixs 2 (.t 17) (.t 19), none, []⟩,
       ⟨some 23, .load true 2 (.t 22), none, []⟩,
       ⟨some 7, .alloc 2 28 (.agg [.int .i64 0, .int .i64 0]), none, []⟩,
       ⟨some 6, .mv (.t 21), none, []⟩,
       ⟨none, .store 2 (.t 7) (.t 23), none, []⟩] none) <|
    .seq (.hregion [
       ⟨13, ⟨some 37, .mv (.t 6), none, []⟩⟩,
       ⟨11, ⟨some 35, .fa 3 (.t 1), none, []⟩⟩,
       ⟨12, ⟨some 36, .load false 1 (.t 35), none, [11]⟩⟩,
       ⟨14, ⟨some 38, .ixs 2 (.t 36) (.t 37), none, [12, 13, 11]⟩⟩,
       ⟨15, ⟨some 39, .load true 2 (.t 38), none, [14, 12, 13, 11]⟩⟩,
       ⟨7, ⟨some 31, .mv (.t 6), none, []⟩⟩,
       ⟨8, ⟨some 32, .bin .add (.t 31) (.c (.int .i64 1)), none, [7]⟩⟩,
       ⟨5, ⟨some 29, .fa 1 (.t 1), none, []⟩⟩,
       ⟨6, ⟨some 30, .load false 1 (.t 29), none, [5]⟩⟩,
       ⟨9, ⟨some 33, .ixs 2 (.t 30) (.t 32), none, [6, 8, 5, 7]⟩⟩,
       ⟨10, ⟨some 34, .load true 2 (.t 33), none, [9, 6, 8, 5, 7]⟩⟩,
       ⟨2, ⟨some 26, .mv (.t 6), none, []⟩⟩,
       ⟨0, ⟨some 24, .fa 1 (.t 1), none, []⟩⟩,
       ⟨1, ⟨some 25, .load false 1 (.t 24), none, [0]⟩⟩,
       ⟨3, ⟨some 27, .ixs 2 (.t 25) (.t 26), none, [1, 2, 0]⟩⟩,
       ⟨4, ⟨some 28, .load true 2 (.t 27), none, [3, 1, 2, 0]⟩⟩,
       ⟨18, ⟨some 10, .alloc 2 28 (.agg [.int .i64 0, .int .i64 0]), none, []⟩⟩,
       ⟨17, ⟨some 9, .alloc 2 28 (.agg [.int .i64 0, .int .i64 0]), none, []⟩⟩,
       ⟨16, ⟨some 8, .alloc 2 28 (.agg [.int .i64 0, .int .i64 0]), none, []⟩⟩,
       ⟨19, ⟨none, .store 2 (.t 8) (.t 28), none, [16, 4, 0, 1, 2, 3, 17, 18]⟩⟩,
       ⟨20, ⟨none, .store 2 (.t 9) (.t 34), none, [17, 10, 19, 0, 1, 2, 3, 4, 5, 6, 7, 8, 9, 16, 18]⟩⟩,
       ⟨21, ⟨none, .store 2 (.t 10) (.t 39), none, [18, 15, 20, 0, 1, 2, 3, 4, 5, 6, 7, 8, 9, 10, 11, 12, 13, 14, 16, 17, 19]⟩⟩]) <|
    .region [
      ⟨some 40, .mv (.t 5), none, []⟩,
      ⟨some 41, .fa 0 (.t 9), none, []⟩,
      ⟨some 42, .load false 1 (.t 41), none, []⟩,
      ⟨some 43, .fa 1 (.t 8), none, []⟩,
      ⟨some 44, .load false 1 (.t 43), none, []⟩,
      ⟨some 45, .bin .sub (.t 42) (.t 44), none, []⟩,
      ⟨some 46, .fa 1 (.t 7), none, []⟩,
      ⟨some 47, .load false 1 (.t 46), none, []⟩,
      ⟨some 48, .bin .sub (.t 45) (.t 47), none, []⟩,
      ⟨some 49, .fa 0 (.t 10), none, []⟩,
      ⟨some 50, .load false 1 (.t 49), none, []⟩,
      ⟨some 51, .bin .add (.t 48) (.t 50), none, []⟩,
      ⟨some 52, .fa 1 (.t 9), none, []⟩,
      ⟨some 53, .load false 1 (.t 52), none, []⟩,
      ⟨some 54, .fa 0 (.t 8), none, []⟩,
      ⟨some 55, .load false 1 (.t 54), none, []⟩,
      ⟨some 56, .bin .sub (.t 53) (.t 55), none, []⟩,
      ⟨some 57, .fa 0 (.t 7), none, []⟩,
      ⟨some 58, .load false 1 (.t 57), none, []⟩,
      ⟨some 59, .bin .sub (.t 56) (.t 58), none, []⟩,
      ⟨some 60, .fa 1 (.t 10), none, []⟩,
      ⟨some 61, .load false 1 (.t 60), none, []⟩,
      ⟨some 62, .bin .add (.t 59) (.t 61), none, []⟩,
      ⟨some 63, .build [.int .i64 0, .int .i64 0] [(0, 1, .t 51), (1, 1, .t 62)], none, []⟩,
      ⟨some 64, .lit false 2 28 [.t 63], none, []⟩,
      ⟨some 65, .app 2 16 28 (.t 40) (.t 64), none, []⟩,
      ⟨some 5, .mv (.t 65), none, []⟩] none) <|
   .region [
     ⟨some 66, .bin .add (.t 19) (.c (.int .i64 1)), none, []⟩,
     ⟨some 19, .mv (.t 66), none, []⟩] none) <|
  .seq (.region [
     ⟨some 67, .mv (.t 5), none, []⟩,
     ⟨some 2, .mv (.t 67), none, []⟩,
     ⟨some 3, .mv (.c (.int .i64 0)), none, []⟩] none) <|
  .ret
abbrev n_ledger_Residuals : Nat := 24
theorem b_ledger_Residuals : bodyOf prog 24 [1000000] = some (c_ledger_Residuals, [.t 2, .t 3], 68) := by kernel_rfl

def c_ref30_Tighten : ACode :=
  .seq (.region [
     ⟨some 1, .box 4 33 (.t 0), none, []⟩,
     ⟨some 2, .alloc 4 33 (.agg [.int .i64 0, .nil, .nil, .nil]), none, []⟩,
     ⟨some 3, .mv (.c (.int .i64 0)), none, []⟩] none) <|
  .seq (.seq (.region [
      ⟨some 10, .load true 4 (.t 1), none, []⟩,
      ⟨some 11, .call 27 [.t 10], none, []⟩,
      ⟨some 4, .mv (.t 11), none, []⟩] none) <|
   .seq (.region [
      ⟨some 12, .mv (.t 4), none, []⟩,
      ⟨some 13, .bin .neq (.t 12) (.c (.int .i64 0)), none, []⟩] none) <|
   .cond (.t 13) (.seq (.region [
       ⟨some 14, .build [.int .i64 0, .nil, .nil, .nil] [], none, []⟩,
       ⟨some 15, .mv (.t 4), none, []⟩,
       ⟨none, .store 4 (.t 2) (.t 14), none, []⟩,
       ⟨some 3, .mv (.t 15), none, []⟩] none) <|
    .ret) <|
   .skip) <|
  .seq (.region [
     ⟨some 16, .load true 4 (.t 1), none, []⟩,
     ⟨some 17, .call 44 [.t 16], none, []⟩,
     ⟨some 5, .alloc 4 33 (.agg [.int .i64 0, .nil, .nil, .nil]), none, []⟩,
     ⟨none, .store 4 (.t 5) (.t 17), none, []⟩] none) <|
  .seq (.region [
     ⟨some 18, .fa 1 (.t 5), none, []⟩,
     ⟨some 19, .load false 1 (.t 18), none, []⟩,
     ⟨some 6, .mv (.t 19), none, []⟩] none) <|
  .seq (.seq (.region [
      ⟨some 20, .fa 2 (.t 1), none, []⟩,
      ⟨some 21, .load false 1 (.t 20), none, []⟩,
      ⟨some 22, .len (.t 21), none, []⟩,
      ⟨some 23, .mv (.c (.int .i64 0)), none, []⟩] none) <|
   .block 0 <|
   .loop <|
   .seq (.region [
      ⟨some 24, .bin .lss (.t 23) (.t 22), none, []⟩] none) <|
   .seq (.cond (.t 24) (.skip) <|
    .exit 0) <|
   .seq (.block 1 <|
    .seq (.region [
       ⟨some 25, .mv (.t 23), none, []⟩,
       ⟨some 7, .mv (.t 25), none, []⟩] none) <|
    .seq (.hregion [
       ⟨41, ⟨some 67, .mv (.t 7), none, []⟩⟩,
       ⟨39, ⟨some 65, .fa 3 (.t 1), none, []⟩⟩,
       ⟨40, ⟨some 66, .load false 1 (.t 65), none, [39]⟩⟩,
       ⟨42, ⟨some 68, .ixs 2 (.t 66) (.t 67), none, [40, 41, 39]⟩⟩,
       ⟨43, ⟨some 69, .fa 0 (.t 68), none, [42, 40, 41, 39]⟩⟩,
       ⟨44, ⟨some 70, .load false 1 (.t 69), none, [43, 42, 40, 41, 39]⟩⟩,
       ⟨34, ⟨some 60, .mv (.t 7), none, []⟩⟩,
       ⟨32, ⟨some 58, .fa 2 (.t 1), none, []⟩⟩,
       ⟨33, ⟨some 59, .load false 1 (.t 58), none, [32]⟩⟩,
       ⟨35, ⟨some 61, .ixs 2 (.t 59) (.t 60), none, [33, 34, 32]⟩⟩,
       ⟨36, ⟨some 62, .fa 1 (.t 61), none, [35, 33, 34, 32]⟩⟩,
       ⟨37, ⟨some 63, .load false 1 (.t 62), none, [36, 35, 33, 34, 32]⟩⟩,
       ⟨28, ⟨some 54, .mv (.t 7), none, []⟩⟩,
       ⟨27, ⟨some 53, .mv (.t 6), none, []⟩⟩,
       ⟨29, ⟨some 55, .ixs 2 (.t 53) (.t 54), none, [27, 28]⟩⟩,
       ⟨30, ⟨some 56, .fa 1 (.t 55), none, [29, 27, 28]⟩⟩,
       ⟨31, ⟨some 57, .load false 1 (.t 56), none, [30, 29, 27, 28]⟩⟩,
       ⟨38, ⟨some 64, .bin .add (.t 57) (.t 63), none, [31, 37, 30, 29, 27, 28, 36, 35, 33, 34, 32]⟩⟩,
       ⟨45, ⟨some 71, .bin .sub (.t 64) (.t 70), none, [38, 44, 31, 37, 30, 29, 27, 28, 36, 35, 33, 34, 32, 43, 42, 40, 41, 39]⟩⟩,
       ⟨22, ⟨some 48, .mv (.t 7), none, []⟩⟩,
       ⟨20, ⟨some 46, .fa 3 (.t 1), none, []⟩⟩,
       ⟨21, ⟨some 47, .load false 1 (.t 46), none, [20]⟩⟩,
       ⟨23, ⟨some 49, .ixs 2 (.t 47) (.t 48), none, [21, 22, 20]⟩⟩,
       ⟨24, ⟨some 50, .fa 1 (.t 49), none, [23, 21, 22, 20]⟩⟩,
       ⟨25, ⟨some 51, .load false 1 (.t 50), none, [24, 23, 21, 22, 20]⟩⟩,
       ⟨15, ⟨some 41, .mv (.t 7), none, []⟩⟩,
       ⟨13, ⟨some 39, .fa 2 (.t 1), none, []⟩⟩,
       ⟨14, ⟨some 40, .load false 1 (.t 39), none, [13]⟩⟩,
       ⟨16, ⟨some 42, .ixs 2 (.t 40) (.t 41), none, [14, 15, 13]⟩⟩,
       ⟨17, ⟨some 43, .fa 0 (.t 42), none, [16, 14, 15, 13]⟩⟩,
       ⟨18, ⟨some 44, .load false 1 (.t 43), none, [17, 16, 14, 15, 13]⟩⟩,
       ⟨9, ⟨some 35, .mv (.t 7), none, []⟩⟩,
       ⟨8, ⟨some 34, .mv (.t 6), none, []⟩⟩,
       ⟨10, ⟨some 36, .ixs 2 (.t 34) (.t 35), none, [8, 9]⟩⟩,
       ⟨11, ⟨some 37, .fa 0 (.t 36), none, [10, 8, 9]⟩⟩,
       ⟨12, ⟨some 38, .load false 1 (.t 37), none, [11, 10, 8, 9]⟩⟩,
       ⟨19, ⟨some 45, .bin .add (.t 38) (.t 44), none, [12, 18, 11, 10, 8, 9, 17, 16, 14, 15, 13]⟩⟩,
       ⟨26, ⟨some 52, .bin .sub (.t 45) (.t 51), none, [19, 25, 12, 18, 11, 10, 8, 9, 17, 16, 14, 15, 13, 24, 23, 21, 22, 20]⟩⟩,
       ⟨46, ⟨some 72, .build [.int .i64 0, .int .i64 0] [(0, 1, .t 52), (1, 1, .t 71)], none, [26, 45, 19, 25, 12, 18, 11, 10, 8, 9, 17, 16, 14, 15, 13, 24, 23, 21, 22, 20, 38, 44, 31, 37, 30, 29, 27, 28, 36, 35, 33, 34, 32, 43, 42, 40, 41, 39]⟩⟩,
       ⟨4, ⟨some 30, .mv (.t 7), none, []⟩⟩,
       ⟨5, ⟨some 31, .bin .add (.t 30) (.c (.int .i64 1)), none, [4]⟩⟩,
       ⟨3, ⟨some 29, .mv (.t 6), none, []⟩⟩,
       ⟨6, ⟨some 32, .ixs 2 (.t 29) (.t 31), none, [3, 5, 4]⟩⟩,
       ⟨7, ⟨some 33, .load true 2 (.t 32), none, [6, 3, 5, 4]⟩⟩,
       ⟨1, ⟨some 27, .mv (.t 7), none, []⟩⟩,
       ⟨2, ⟨some 28, .bin .add (.t 27) (.c (.int .i64 1)), none, [1]⟩⟩,
       ⟨0, ⟨some 26, .mv (.t 6), none, []⟩⟩,
       ⟨47, ⟨some 73, .call 45 [.t 33, .t 72], none, [7, 46, 6, 3, 5, 4, 26, 45, 19, 25, 12, 18, 11, 10, 8, 9, 17, 16, 14, 15, 13, 24, 23, 21, 22, 20, 38, 44, 31, 37, 30, 29, 27, 28, 36, 35, 33, 34, 32, 43, 42, 40, 41, 39]⟩⟩,
       ⟨48, ⟨some 74, .ixs 2 (.t 26) (.t 28), none, [0, 2, 1, 3, 4, 5, 6, 7, 8, 9, 10, 11, 12, 13, 14, 15, 16, 17, 18, 19, 20, 21, 22, 23, 24, 25, 26, 27, 28, 29, 30, 31, 32, 33, 34, 35, 36, 37, 38, 39, 40, 41, 42, 43, 44, 45, 46, 47]⟩⟩,
       ⟨49, ⟨none, .store 2 (.t 74) (.t 73), none, [48, 47, 0, 1, 2, 3, 4, 5, 6, 7, 8, 9, 10, 11, 12, 13, 14, 15, 16, 17, 18, 19, 20, 21, 22, 23, 24, 25, 26, 27, 28, 29, 30, 31, 32, 33, 34, 35, 36, 37, 38, 39, 40, 41, 42, 43, 44, 45, 46]⟩⟩]) <|
    .seq (.hregion [
       ⟨7, ⟨some 82, .mv (.t 7), none, []⟩⟩,
       ⟨8, ⟨some 83, .bin .add (.t 82) (.c (.int .i64 1)), none, [7]⟩⟩,
       ⟨6, ⟨some 81, .mv (.t 6), none, []⟩⟩,
       ⟨9, ⟨some 84, .ixs 2 (.t 81) (.t 83), none, [6, 8, 7]⟩⟩,
       ⟨10, ⟨some 85, .fa 1 (.t 84), none, [9, 6, 8, 7]⟩⟩,
       ⟨11, ⟨some 86, .load false 1 (.t 85), none, [10, 9, 6, 8, 7]⟩⟩,
       ⟨1, ⟨some 76, .mv (.t 7), none, []⟩⟩,
       ⟨2, ⟨some 77, .bin .add (.t 76) (.c (.int .i64 1)), none, [1]⟩⟩,
       ⟨0, ⟨some 75, .mv (.t 6), none, []⟩⟩,
       ⟨3, ⟨some 78, .ixs 2 (.t 75) (.t 77), none, [0, 2, 1]⟩⟩,
       ⟨4, ⟨some 79, .fa 0 (.t 78), none, [3, 0, 2, 1]⟩⟩,
       ⟨5, ⟨some 80, .load false 1 (.t 79), none, [4, 3, 0, 2, 1]⟩⟩,
       ⟨12, ⟨some 87, .bin .gtr (.t 80) (.t 86), none, [5, 11, 4, 3, 0, 2, 1, 10, 9, 6, 8, 7]⟩⟩]) <|
    .cond (.t 87) (.seq (.region [
        ⟨some 88, .build [.int .i64 0, .nil, .nil, .nil] [], none, []⟩,
        ⟨none, .store 4 (.t 2) (.t 88), none, []⟩,
        ⟨some 3, .mv (.c (.int .i64 48)), none, []⟩] none) <|
     .ret) <|
    .skip) <|
   .region [
     ⟨some 89, .bin .add (.t 23) (.c (.int .i64 1)), none, []⟩,
     ⟨some 23, .mv (.t 89), none, []⟩] none) <|
  .seq (.seq (.region [
      ⟨some 90, .fa 2 (.t 1), none, []⟩,
      ⟨some 91, .load false 1 (.t 90), none, []⟩,
      ⟨some 92, .len (.t 91), none, []⟩,
      ⟨some 93, .bin .sub (.t 92) (.c (.int .i64 1)), none, []⟩,
      ⟨some 8, .mv (.t 93), none, []⟩] none) <|
   .block 2 <|
   .loop <|
   .seq (.seq (.region [
       ⟨some 94, .mv (.t 8), none, []⟩,
       ⟨some 95, .bin .geq (.t 94) (.c (.int .i64 0)), none, []⟩] none) <|
    .cond (.t 95) (.skip) <|
    .exit 2) <|
   .seq (.block 3 <|
    .hregion [
      ⟨41, ⟨some 139, .mv (.t 8), none, []⟩⟩,
      ⟨39, ⟨some 137, .fa 3 (.t 1), none, []⟩⟩,
      ⟨40, ⟨some 138, .load false 1 (.t 137), none, [39]⟩⟩,
      ⟨42, ⟨some 140, .ixs 2 (.t 138) (.t 139), none, [40, 41, 39]⟩⟩,
      ⟨43, ⟨some 141, .fa 1 (.t 140), none, [42, 40, 41, 39]⟩⟩,
      ⟨44, ⟨some 142, .load false 1 (.t 141), none, [43, 42, 40, 41, 39]⟩⟩,
      ⟨34, ⟨some 132, .mv (.t 8), none, []⟩⟩,
      ⟨32, ⟨some 130, .fa 2 (.t 1), none, []⟩⟩,
      ⟨33, ⟨some 131, .load false 1 (.t 130), none, [32]⟩⟩,
      ⟨35, ⟨some 133, .ixs 2 (.t 131) (.t 132), none, [33, 34, 32]⟩⟩,
      ⟨36, ⟨some 134, .fa 0 (.t 133), none, [35, 33, 34, 32]⟩⟩,
      ⟨37, ⟨some 135, .load false 1 (.t 134), none, [36, 35, 33, 34, 32]⟩⟩,
      ⟨27, ⟨some 125, .mv (.t 8), none, []⟩⟩,
      ⟨28, ⟨some 126, .bin .add (.t 125) (.c (.int .i64 1)), none, [27]⟩⟩,
      ⟨26, ⟨some 124, .mv (.t 6), none, []⟩⟩,
      ⟨29, ⟨some 127, .ixs 2 (.t 124) (.t 126), none, [26, 28, 27]⟩⟩,
      ⟨30, ⟨some 128, .fa 1 (.t 127), none, [29, 26, 28, 27]⟩⟩,
      ⟨31, ⟨some 129, .load false 1 (.t 128), none, [30, 29, 26, 28, 27]⟩⟩,
      ⟨38, ⟨some 136, .bin .sub (.t 129) (.t 135), none, [31, 37, 30, 29, 26, 28, 27, 36, 35, 33, 34, 32]⟩⟩,
      ⟨45, ⟨some 143, .bin .add (.t 136) (.t 142), none, [38, 44, 31, 37, 30, 29, 26, 28, 27, 36, 35, 33, 34, 32, 43, 42, 40, 41, 39]⟩⟩,
      ⟨21, ⟨some 119, .mv (.t 8), none, []⟩⟩,
      ⟨19, ⟨some 117, .fa 3 (.t 1), none, []⟩⟩,
      ⟨20, ⟨some 118, .load false 1 (.t 117), none, [19]⟩⟩,
      ⟨22, ⟨some 120, .ixs 2 (.t 118) (.t 119), none, [20, 21, 19]⟩⟩,
      ⟨23, ⟨some 121, .fa 0 (.t 120), none, [22, 20, 21, 19]⟩⟩,
      ⟨24, ⟨some 122, .load false 1 (.t 121), none, [23, 22, 20, 21, 19]⟩⟩,
      ⟨14, ⟨some 112, .mv (.t 8), none, []⟩⟩,
      ⟨12, ⟨some 110, .fa 2 (.t 1), none, []⟩⟩,
      ⟨13, ⟨some 111, .load false 1 (.t 110), none, [12]⟩⟩,
      ⟨15, ⟨some 113, .ixs 2 (.t 111) (.t 112), none, [13, 14, 12]⟩⟩,
      ⟨16, ⟨some 114, .fa 1 (.t 113), none, [15, 13, 14, 12]⟩⟩,
      ⟨17, ⟨some 115, .load false 1 (.t 114), none, [16, 15, 13, 14, 12]⟩⟩,
      ⟨7, ⟨some 105, .mv (.t 8), none, []⟩⟩,
      ⟨8, ⟨some 106, .bin .add (.t 105) (.c (.int .i64 1)), none, [7]⟩⟩,
      ⟨6, ⟨some 104, .mv (.t 6), none, []⟩⟩,
      ⟨9, ⟨some 107, .ixs 2 (.t 104) (.t 106), none, [6, 8, 7]⟩⟩,
      ⟨10, ⟨some 108, .fa 0 (.t 107), none, [9, 6, 8, 7]⟩⟩,
      ⟨11, ⟨some 109, .load false 1 (.t 108), none, [10, 9, 6, 8, 7]⟩⟩,
      ⟨18, ⟨some 116, .bin .sub (.t 109) (.t 115), none, [11, 17, 10, 9, 6, 8, 7, 16, 15, 13, 14, 12]⟩⟩,
      ⟨25, ⟨some 123, .bin .add (.t 116) (.t 122), none, [18, 24, 11, 17, 10, 9, 6, 8, 7, 16, 15, 13, 14, 12, 23, 22, 20, 21, 19]⟩⟩,
      ⟨46, ⟨some 144, .build [.int .i64 0, .int .i64 0] [(0, 1, .t 123), (1, 1, .t 143)], none, [25, 45, 18, 24, 11, 17, 10, 9, 6, 8, 7, 16, 15, 13, 14, 12, 23, 22, 20, 21, 19, 38, 44, 31, 37, 30, 29, 26, 28, 27, 36, 35, 33, 34, 32, 43, 42, 40, 41, 39]⟩⟩,
      ⟨3, ⟨some 101, .mv (.t 8), none, []⟩⟩,
      ⟨2, ⟨some 100, .mv (.t 6), none, []⟩⟩,
      ⟨4, ⟨some 102, .ixs 2 (.t 100) (.t 101), none, [2, 3]⟩⟩,
      ⟨5, ⟨some 103, .load true 2 (.t 102), none, [4, 2, 3]⟩⟩,
      ⟨1, ⟨some 99, .mv (.t 8), none, []⟩⟩,
      ⟨0, ⟨some 98, .mv (.t 6), none, []⟩⟩,
      ⟨47, ⟨some 145, .call 45 [.t 103, .t 144], none, [5, 46, 4, 2, 3, 25, 45, 18, 24, 11, 17, 10, 9, 6, 8, 7, 16, 15, 13, 14, 12, 23, 22, 20, 21, 19, 38, 44, 31, 37, 30, 29, 26, 28, 27, 36, 35, 33, 34, 32, 43, 42, 40, 41, 39]⟩⟩,
      ⟨48, ⟨some 146, .ixs 2 (.t 98) (.t 99), none, [0, 1, 2, 3, 4, 5, 6, 7, 8, 9, 10, 11, 12, 13, 14, 15, 16, 17, 18, 19, 20, 21, 22, 23, 24, 25, 26, 27, 28, 29, 30, 31, 32, 33, 34, 35, 36, 37, 38, 39, 40, 41, 42, 43, 44, 45, 46, 47]⟩⟩,
      ⟨49, ⟨none, .store 2 (.t 146) (.t 145), none, [48, 47, 0, 1, 2, 3, 4, 5, 6, 7, 8, 9, 10, 11, 12, 13, 14, 15, 16, 17, 18, 19, 20, 21, 22, 23, 24, 25, 26, 27, 28, 29, 30, 31, 32, 33, 34, 35, 36, 37, 38, 39, 40, 41, 42, 43, 44, 45, 46]⟩⟩]) <|
   .region [
     ⟨some 96, .mv (.t 8), none, []⟩,
     ⟨some 97, .bin .sub (.t 96) (.c (.int .i64 1)), none, []⟩,
     ⟨some 8, .mv (.t 97), none, []⟩] none) <|
  .seq (.seq (.region [
      ⟨some 147, .fa 2 (.t 1), none, []⟩,
      ⟨some 148, .load false 1 (.t 147), none, []⟩,
      ⟨some 149, .len (.t 148), none, []⟩,
      ⟨some 150, .mv (.c (.int .i64 0)), none, []⟩] none) <|
   .block 4 <|
   .loop <|
   .seq (.region [
      ⟨some 151, .bin .lss (.t 150) (.t 149), none, []⟩] none) <|
   .seq (.cond (.t 151) (.skip) <|
    .exit 4) <|
   .seq (.block 5 <|
    .seq (.region [
       ⟨some 152, .mv (.t 150), none, []⟩,
       ⟨some 9, .mv (.t 152), none, []⟩] none) <|
    .seq (.hregion [
       ⟨41, ⟨some 194, .mv (.t 9), none, []⟩⟩,
       ⟨39, ⟨some 192, .fa 3 (.t 1), none, []⟩⟩,
       ⟨40, ⟨some 193, .load false 1 (.t 192), none, [39]⟩⟩,
       ⟨42, ⟨some 195, .ixs 2 (.t 193) (.t 194), none, [40, 41, 39]⟩⟩,
       ⟨43, ⟨some 196, .fa 1 (.t 195), none, [42, 40, 41, 39]⟩⟩,
       ⟨44, ⟨some 197, .load false 1 (.t 196), none, [43, 42, 40, 41, 39]⟩⟩,
       ⟨34, ⟨some 187, .mv (.t 9), none, []⟩⟩,
       ⟨33, ⟨some 186, .mv (.t 6), none, []⟩⟩,
       ⟨35, ⟨some 188, .ixs 2 (.t 186) (.t 187), none, [33, 34]⟩⟩,
       ⟨36, ⟨some 189, .fa 0 (.t 188), none, [35, 33, 34]⟩⟩,
       ⟨37, ⟨some 190, .load false 1 (.t 189), none, [36, 35, 33, 34]⟩⟩,
       ⟨28, ⟨some 181, .mv (.t 9), none, []⟩⟩,
       ⟨29, ⟨some 182, .bin .add (.t 181) (.c (.int .i64 1)), none, [28]⟩⟩,
       ⟨27, ⟨some 180, .mv (.t 6), none, []⟩⟩,
       ⟨30, ⟨some 183, .ixs 2 (.t 180) (.t 182), none, [27, 29, 28]⟩⟩,
       ⟨31, ⟨some 184, .fa 1 (.t 183), none, [30, 27, 29, 28]⟩⟩,
       ⟨32, ⟨some 185, .load false 1 (.t 184), none, [31, 30, 27, 29, 28]⟩⟩,
       ⟨38, ⟨some 191, .bin .sub (.t 185) (.t 190), none, [32, 37, 31, 30, 27, 29, 28, 36, 35, 33, 34]⟩⟩,
       ⟨45, ⟨some 198, .bin .add (.t 191) (.t 197), none, [38, 44, 32, 37, 31, 30, 27, 29, 28, 36, 35, 33, 34, 43, 42, 40, 41, 39]⟩⟩,
       ⟨22, ⟨some 175, .mv (.t 9), none, []⟩⟩,
       ⟨20, ⟨some 173, .fa 3 (.t 1), none, []⟩⟩,
       ⟨21, ⟨some 174, .load false 1 (.t 173), none, [20]⟩⟩,
       ⟨23, ⟨some 176, .ixs 2 (.t 174) (.t 175), none, [21, 22, 20]⟩⟩,
       ⟨24, ⟨some 177, .fa 0 (.t 176), none, [23, 21, 22, 20]⟩⟩,
       ⟨25, ⟨some 178, .load false 1 (.t 177), none, [24, 23, 21, 22, 20]⟩⟩,
       ⟨15, ⟨some 168, .mv (.t 9), none, []⟩⟩,
       ⟨14, ⟨some 167, .mv (.t 6), none, []⟩⟩,
       ⟨16, ⟨some 169, .ixs 2 (.t 167) (.t 168), none, [14, 15]⟩⟩,
       ⟨17, ⟨some 170, .fa 1 (.t 169), none, [16, 14, 15]⟩⟩,
       ⟨18, ⟨some 171, .load false 1 (.t 170), none, [17, 16, 14, 15]⟩⟩,
       ⟨9, ⟨some 162, .mv (.t 9), none, []⟩⟩,
       ⟨10, ⟨some 163, .bin .add (.t 162) (.c (.int .i64 1)), none, [9]⟩⟩,
       ⟨8, ⟨some 161, .mv (.t 6), none, []⟩⟩,
       ⟨11, ⟨some 164, .ixs 2 (.t 161) (.t 163), none, [8, 10, 9]⟩⟩,
       ⟨12, ⟨some 165, .fa 0 (.t 164), none, [11, 8, 10, 9]⟩⟩,
       ⟨13, ⟨some 166, .load false 1 (.t 165), none, [12, 11, 8, 10, 9]⟩⟩,
       ⟨19, ⟨some 172, .bin .sub (.t 166) (.t 171), none, [13, 18, 12, 11, 8, 10, 9, 17, 16, 14, 15]⟩⟩,
       ⟨26, ⟨some 179, .bin .add (.t 172) (.t 178), none, [19, 25, 13, 18, 12, 11, 8, 10, 9, 17, 16, 14, 15, 24, 23, 21, 22, 20]⟩⟩,
       ⟨46, ⟨some 199, .build [.int .i64 0, .int .i64 0] [(0, 1, .t 179), (1, 1, .t 198)], none, [26, 45, 19, 25, 13, 18, 12, 11, 8, 10, 9, 17, 16, 14, 15, 24, 23, 21, 22, 20, 38, 44, 32, 37, 31, 30, 27, 29, 28, 36, 35, 33, 34, 43, 42, 40, 41, 39]⟩⟩,
       ⟨5, ⟨some 158, .mv (.t 9), none, []⟩⟩,
       ⟨3, ⟨some 156, .fa 2 (.t 1), none, []⟩⟩,
       ⟨4, ⟨some 157, .load false 1 (.t 156), none, [3]⟩⟩,
       ⟨6, ⟨some 159, .ixs 2 (.t 157) (.t 158), none, [4, 5, 3]⟩⟩,
       ⟨7, ⟨some 160, .load true 2 (.t 159), none, [6, 4, 5, 3]⟩⟩,
       ⟨2, ⟨some 155, .mv (.t 9), none, []⟩⟩,
       ⟨0, ⟨some 153, .fa 2 (.t 5), none, []⟩⟩,
       ⟨1, ⟨some 154, .load false 1 (.t 153), none, [0]⟩⟩,
       ⟨47, ⟨some 200, .call 45 [.t 160, .t 199], none, [7, 46, 6, 4, 5, 3, 26, 45, 19, 25, 13, 18, 12, 11, 8, 10, 9, 17, 16, 14, 15, 24, 23, 21, 22, 20, 38, 44, 32, 37, 31, 30, 27, 29, 28, 36, 35, 33, 34, 43, 42, 40, 41, 39]⟩⟩,
       ⟨48, ⟨some 201, .ixs 2 (.t 154) (.t 155), none, [1, 2, 0, 3, 4, 5, 6, 7, 8, 9, 10, 11, 12, 13, 14, 15, 16, 17, 18, 19, 20, 21, 22, 23, 24, 25, 26, 27, 28, 29, 30, 31, 32, 33, 34, 35, 36, 37, 38, 39, 40, 41, 42, 43, 44, 45, 46, 47]⟩⟩,
       ⟨49, ⟨none, .store 2 (.t 201) (.t 200), none, [48, 47, 0, 1, 2, 3, 4, 5, 6, 7, 8, 9, 10, 11, 12, 13, 14, 15, 16, 17, 18, 19, 20, 21, 22, 23, 24, 25, 26, 27, 28, 29, 30, 31, 32, 33, 34, 35, 36, 37, 38, 39, 40, 41, 42, 43, 44, 45, 46]⟩⟩]) <|
    .hregion [
      ⟨41, ⟨some 243, .mv (.t 9), none, []⟩⟩,
      ⟨39, ⟨some 241, .fa 2 (.t 1), none, []⟩⟩,
      ⟨40, ⟨some 242, .load false 1 (.t 241), none, [39]⟩⟩,
      ⟨42, ⟨some 244, .ixs 2 (.t 242) (.t 243), none, [40, 41, 39]⟩⟩,
      ⟨43, ⟨some 245, .fa 1 (.t 244), none, [42, 40, 41, 39]⟩⟩,
      ⟨44, ⟨some 246, .load false 1 (.t 245), none, [43, 42, 40, 41, 39]⟩⟩,
      ⟨33, ⟨some 235, .mv (.t 9), none, []⟩⟩,
      ⟨34, ⟨some 236, .bin .add (.t 235) (.c (.int .i64 1)), none, [33]⟩⟩,
      ⟨32, ⟨some 234, .mv (.t 6), none, []⟩⟩,
      ⟨35, ⟨some 237, .ixs 2 (.t 234) (.t 236), none, [32, 34, 33]⟩⟩,
      ⟨36, ⟨some 238, .fa 0 (.t 237), none, [35, 32, 34, 33]⟩⟩,
      ⟨37, ⟨some 239, .load false 1 (.t 238), none, [36, 35, 32, 34, 33]⟩⟩,
      ⟨28, ⟨some 230, .mv (.t 9), none, []⟩⟩,
      ⟨27, ⟨some 229, .mv (.t 6), none, []⟩⟩,
      ⟨29, ⟨some 231, .ixs 2 (.t 229) (.t 230), none, [27, 28]⟩⟩,
      ⟨30, ⟨some 232, .fa 1 (.t 231), none, [29, 27, 28]⟩⟩,
      ⟨31, ⟨some 233, .load false 1 (.t 232), none, [30, 29, 27, 28]⟩⟩,
      ⟨38, ⟨some 240, .bin .sub (.t 233) (.t 239), none, [31, 37, 30, 29, 27, 28, 36, 35, 32, 34, 33]⟩⟩,
      ⟨45, ⟨some 247, .bin .add (.t 240) (.t 246), none, [38, 44, 31, 37, 30, 29, 27, 28, 36, 35, 32, 34, 33, 43, 42, 40, 41, 39]⟩⟩,
      ⟨22, ⟨some 224, .mv (.t 9), none, []⟩⟩,
      ⟨20, ⟨some 222, .fa 2 (.t 1), none, []⟩⟩,
      ⟨21, ⟨some 223, .load false 1 (.t 222), none, [20]⟩⟩,
      ⟨23, ⟨some 225, .ixs 2 (.t 223) (.t 224), none, [21, 22, 20]⟩⟩,
      ⟨24, ⟨some 226, .fa 0 (.t 225), none, [23, 21, 22, 20]⟩⟩,
      ⟨25, ⟨some 227, .load false 1 (.t 226), none, [24, 23, 21, 22, 20]⟩⟩,
      ⟨14, ⟨some 216, .mv (.t 9), none, []⟩⟩,
      ⟨15, ⟨some 217, .bin .add (.t 216) (.c (.int .i64 1)), none, [14]⟩⟩,
      ⟨13, ⟨some 215, .mv (.t 6), none, []⟩⟩,
      ⟨16, ⟨some 218, .ixs 2 (.t 215) (.t 217), none, [13, 15, 14]⟩⟩,
      ⟨17, ⟨some 219, .fa 1 (.t 218), none, [16, 13, 15, 14]⟩⟩,
      ⟨18, ⟨some 220, .load false 1 (.t 219), none, [17, 16, 13, 15, 14]⟩⟩,
      ⟨9, ⟨some 211, .mv (.t 9), none, []⟩⟩,
      ⟨8, ⟨some 210, .mv (.t 6), none, []⟩⟩,
      ⟨10, ⟨some 212, .ixs 2 (.t 210) (.t 211), none, [8, 9]⟩⟩,
      ⟨11, ⟨some 213, .fa 0 (.t 212), none, [10, 8, 9]⟩⟩,
      ⟨12, ⟨some 214, .load false 1 (.t 213), none, [11, 10, 8, 9]⟩⟩,
      ⟨19, ⟨some 221, .bin .sub (.t 214) (.t 220), none, [12, 18, 11, 10, 8, 9, 17, 16, 13, 15, 14]⟩⟩,
      ⟨26, ⟨some 228, .bin .add (.t 221) (.t 227), none, [19, 25, 12, 18, 11, 10, 8, 9, 17, 16, 13, 15, 14, 24, 23, 21, 22, 20]⟩⟩,
      ⟨46, ⟨some 248, .build [.int .i64 0, .int .i64 0] [(0, 1, .t 228), (1, 1, .t 247)], none, [26, 45, 19, 25, 12, 18, 11, 10, 8, 9, 17, 16, 13, 15, 14, 24, 23, 21, 22, 20, 38, 44, 31, 37, 30, 29, 27, 28, 36, 35, 32, 34, 33, 43, 42, 40, 41, 39]⟩⟩,
      ⟨5, ⟨some 207, .mv (.t 9), none, []⟩⟩,
      ⟨3, ⟨some 205, .fa 3 (.t 1), none, []⟩⟩,
      ⟨4, ⟨some 206, .load false 1 (.t 205), none, [3]⟩⟩,
      ⟨6, ⟨some 208, .ixs 2 (.t 206) (.t 207), none, [4, 5, 3]⟩⟩,
      ⟨7, ⟨some 209, .load true 2 (.t 208), none, [6, 4, 5, 3]⟩⟩,
      ⟨2, ⟨some 204, .mv (.t 9), none, []⟩⟩,
      ⟨0, ⟨some 202, .fa 3 (.t 5), none, []⟩⟩,
      ⟨1, ⟨some 203, .load false 1 (.t 202), none, [0]⟩⟩,
      ⟨47, ⟨some 249, .call 45 [.t 209, .t 248], none, [7, 46, 6, 4, 5, 3, 26, 45, 19, 25, 12, 18, 11, 10, 8, 9, 17, 16, 13, 15, 14, 24, 23, 21, 22, 20, 38, 44, 31, 37, 30, 29, 27, 28, 36, 35, 32, 34, 33, 43, 42, 40, 41, 39]⟩⟩,
      ⟨48, ⟨some 250, .ixs 2 (.t 203) (.t 204), none, [1, 2, 0, 3, 4, 5, 6, 7, 8, 9, 10, 11, 12, 13, 14, 15, 16, 17, 18, 19, 20, 21, 22, 23, 24, 25, 26, 27, 28, 29, 30, 31, 32, 33, 34, 35, 36, 37, 38, 39, 40, 41, 42, 43, 44, 45, 46, 47]⟩⟩,
      ⟨49, ⟨none, .store 2 (.t 250) (.t 249), none, [48, 47, 0, 1, 2, 3, 4, 5, 6, 7, 8, 9, 10, 11, 12, 13, 14, 15, 16, 17, 18, 19, 20, 21, 22, 23, 24, 25, 26, 27, 28, 29, 30, 31, 32, 33, 34, 35, 36, 37, 38, 39, 40, 41, 42, 43, 44, 45, 46]⟩⟩]) <|
   .region [
     ⟨some 251, .bin .add (.t 150) (.c (.int .i64 1)), none, []⟩,
     ⟨some 150, .mv (.t 251), none, []⟩] none) <|
  .seq (.region [
     ⟨some 252, .load true 4 (.t 5), none, []⟩,
     ⟨none, .store 4 (.t 2) (.t 252), none, []⟩,
     ⟨some 3, .mv (.c (.int .i64 0)), none, []⟩] none) <|
  .ret
abbrev n_ref30_Tighten : Nat := 25
theorem b_ref30_Tighten : bodyOf prog 25 [1000000] = some (c_ref30_Tighten, [.c 2 true 4, .t 3], 253) := by kernel_rfl

def c_ledger_Check : ACode :=
  .seq (.region [
     ⟨some 1, .box 4 33 (.t 0), none, []⟩,
     ⟨some 2, .mv (.c (.int .i64 0)), none, []⟩] none) <|
  .seq (.region [
     ⟨some 8, .fa 2 (.t 1), none, []⟩,
     ⟨some 9, .load false 1 (.t 8), none, []⟩,
     ⟨some 10, .len (.t 9), none, []⟩,
     ⟨some 3, .mv (.t 10), none, []⟩] none) <|
  .seq (.block 0 <|
   .seq (.region [
      ⟨some 12, .mv (.t 3), none, []⟩,
      ⟨some 13, .bin .eql (.t 12) (.c (.int .i64 0)), none, []⟩,
      ⟨some 14, .mv (.t 13), none, []⟩,
      ⟨some 15, .fa 3 (.t 1), some (14, false), []⟩,
      ⟨some 16, .load false 1 (.t 15), some (14, false), []⟩,
      ⟨some 17, .len (.t 16), some (14, false), []⟩,
      ⟨some 18, .mv (.t 3), some (14, false), []⟩,
      ⟨some 19, .bin .neq (.t 17) (.t 18), some (14, false), []⟩,
      ⟨some 20, .pick (.t 14) (.c (.bool true)) (.t 19), none, []⟩,
      ⟨some 21, .mv (.t 20), none, []⟩,
      ⟨some 22, .fa 1 (.t 1), some (21, false), []⟩,
      ⟨some 23, .load false 1 (.t 22), some (21, false), []⟩,
      ⟨some 24, .len (.t 23), some (21, false), []⟩,
      ⟨some 25, .mv (.t 3), some (21, false), []⟩,
      ⟨some 26, .bin .add (.t 25) (.c (.int .i64 1)), some (21, false), []⟩,
      ⟨some 27, .bin .neq (.t 24) (.t 26), some (21, false), []⟩,
      ⟨some 28, .pick (.t 21) (.c (.bool true)) (.t 27), none, []⟩,
      ⟨some 11, .mv (.t 28), none, []⟩] none) <|
   .cond (.t 11) (.seq (.region [
       ⟨some 2, .mv (.c (.int .i64 3)), none, []⟩] none) <|
    .ret) <|
   .seq (.region [
      ⟨some 30, .mv (.t 3), none, []⟩,
      ⟨some 31, .bin .gtr (.t 30) (.c (.int .i64 400)), none, []⟩,
      ⟨some 29, .mv (.t 31), none, []⟩] none) <|
   .cond (.t 29) (.seq (.region [
       ⟨some 2, .mv (.c (.int .i64 10)), none, []⟩] none) <|
    .ret) <|
   .seq (.region [
      ⟨some 33, .fa 0 (.t 1), none, []⟩,
      ⟨some 34, .load false 1 (.t 33), none, []⟩,
      ⟨some 35, .bin .lss (.t 34) (.c (.int .i64 0)), none, []⟩,
      ⟨some 36, .mv (.t 35), none, []⟩,
      ⟨some 37, .fa 0 (.t 1), some (36, false), []⟩,
      ⟨some 38, .load false 1 (.t 37), some (36, false), []⟩,
      ⟨some 39, .mv (.t 3), some (36, false), []⟩,
      ⟨some 40, .bin .sub (.c (.int .i64 16777216)) (.t 39), some (36, false), []⟩,
      ⟨some 41, .bin .gtr (.t 38) (.t 40), some (36, false), []⟩,
      ⟨some 42, .pick (.t 36) (.c (.bool true)) (.t 41), none, []⟩,
      ⟨some 32, .mv (.t 42), none, []⟩] none) <|
   .cond (.t 32) (.seq (.region [
       ⟨some 2, .mv (.c (.int .i64 6)), none, []⟩] none) <|
    .ret) <|
   .skip) <|
  .seq (.seq (.region [
      ⟨some 43, .call 42 [.t 1], none, []⟩,
      ⟨some 44, .mv (.c (.int .i64 0)), none, []⟩] none) <|
   .block 1 <|
   .loop <|
   .seq (.region [
      ⟨some 45, .bin .lss (.t 44) (.c (.int .i64 3)), none, []⟩] none) <|
   .seq (.cond (.t 45) (.skip) <|
    .exit 1) <|
   .seq (.block 2 <|
    .seq (.region [
       ⟨some 46, .pu (.aidx false 1 3) [.t 43, .t 44], none, []⟩,
       ⟨some 5, .mv (.t 46), none, []⟩] none) <|
    .seq (.region [
       ⟨some 47, .mv (.t 5), none, []⟩,
       ⟨some 48, .len (.t 47), none, []⟩,
       ⟨some 49, .mv (.c (.int .i64 0)), none, []⟩] none) <|
    .block 3 <|
    .loop <|
    .seq (.region [
       ⟨some 50, .bin .lss (.t 49) (.t 48), none, []⟩] none) <|
    .seq (.cond (.t 50) (.skip) <|
     .exit 3) <|
    .seq (.block 4 <|
     .seq (.region [
        ⟨some 51, .ixs 2 (.t 47) (.t 49), none, []⟩,
        ⟨some 52, .load true 2 (.t 51), none, []⟩,
        ⟨some 7, .alloc 2 28 (.agg [.int .i64 0, .int .i64 0]), none, []⟩,
        ⟨none, .store 2 (.t 7) (.t 52), none, []⟩] none) <|
     .seq (.seq (.region [
         ⟨some 53, .fa 0 (.t 7), none, []⟩,
         ⟨some 54, .load false 1 (.t 53), none, []⟩,
         ⟨some 55, .bin .lss (.t 54) (.c (.int .i64 0)), none, []⟩,
         ⟨some 56, .mv (.t 55), none, []⟩,
         ⟨some 57, .fa 1 (.t 7), some (56, false), []⟩,
         ⟨some 58, .load false 1 (.t 57), some (56, false), []⟩,
         ⟨some 59, .bin .gtr (.t 58) (.c (.int .i64 274877906944)), some (56, false), []⟩,
         ⟨some 60, .pick (.t 56) (.c (.bool true)) (.t 59), none, []⟩] none) <|
      .cond (.t 60) (.seq (.region [
          ⟨some 2, .mv (.c (.int .i64 1)), none, []⟩] none) <|
       .ret) <|
      .skip) <|
     .seq (.region [
        ⟨some 61, .fa 0 (.t 7), none, []⟩,
        ⟨some 62, .load false 1 (.t 61), none, []⟩,
        ⟨some 63, .fa 1 (.t 7), none, []⟩,
        ⟨some 64, .load false 1 (.t 63), none, []⟩,
        ⟨some 65, .bin .gtr (.t 62) (.t 64), none, []⟩] none) <|
     .cond (.t 65) (.seq (.region [
         ⟨some 2, .mv (.c (.int .i64 48)), none, []⟩] none) <|
      .ret) <|
     .skip) <|
    .region [
      ⟨some 66, .bin .add (.t 49) (.c (.int .i64 1)), none, []⟩,
      ⟨some 49, .mv (.t 66), none, []⟩] none) <|
   .region [
     ⟨some 67, .bin .add (.t 44) (.c (.int .i64 1)), none, []⟩,
     ⟨some 44, .mv (.t 67), none, []⟩] none) <|
  .seq (.region [
     ⟨some 2, .mv (.c (.int .i64 0)), none, []⟩] none) <|
  .ret
abbrev n_ledger_Check : Nat := 26
theorem b_ledger_Check : bodyOf prog 26 [1000000] = some (c_ledger_Check, [.t 2], 68) := by kernel_rfl

def c_ref30_Check : ACode :=
  .seq (.region [
     ⟨some 1, .box 4 33 (.t 0), none, []⟩,
     ⟨some 2, .mv (.c (.int .i64 0)), none, []⟩] none) <|
  .seq (.seq (.region [
      ⟨some 8, .load true 4 (.t 1), none, []⟩,
      ⟨some 9, .call 46 [.t 8], none, []⟩,
      ⟨some 3, .mv (.t 9), none, []⟩] none) <|
   .seq (.region [
      ⟨some 10, .mv (.t 3), none, []⟩,
      ⟨some 11, .bin .neq (.t 10) (.c (.int .i64 0)), none, []⟩] none) <|
   .cond (.t 11) (.seq (.region [
       ⟨some 12, .mv (.t 3), none, []⟩,
       ⟨some 2, .mv (.t 12), none, []⟩] none) <|
    .ret) <|
   .skip) <|
  .seq (.seq (.region [
      ⟨some 13, .fa 1 (.t 1), none, []⟩,
      ⟨some 14, .load false 1 (.t 13), none, []⟩,
      ⟨some 15, .fa 2 (.t 1), none, []⟩,
      ⟨some 16, .load false 1 (.t 15), none, []⟩,
      ⟨some 17, .fa 3 (.t 1), none, []⟩,
      ⟨some 18, .load false 1 (.t 17), none, []⟩,
      ⟨some 19, .lit false 1 31 [.t 14, .t 16, .t 18], none, []⟩,
      ⟨some 20, .len (.t 19), none, []⟩,
      ⟨some 21, .mv (.c (.int .i64 0)), none, []⟩] none) <|
   .block 0 <|
   .loop <|
   .seq (.region [
      ⟨some 22, .bin .lss (.t 21) (.t 20), none, []⟩] none) <|
   .seq (.cond (.t 22) (.skip) <|
    .exit 0) <|
   .seq (.block 1 <|
    .seq (.region [
       ⟨some 23, .ixs 1 (.t 19) (.t 21), none, []⟩,
       ⟨some 24, .load false 1 (.t 23), none, []⟩,
       ⟨some 5, .mv (.t 24), none, []⟩] none) <|
    .seq (.region [
       ⟨some 25, .mv (.t 5), none, []⟩,
       ⟨some 26, .len (.t 25), none, []⟩,
       ⟨some 27, .mv (.c (.int .i64 0)), none, []⟩] none) <|
    .block 2 <|
    .loop <|
    .seq (.region [
       ⟨some 28, .bin .lss (.t 27) (.t 26), none, []⟩] none) <|
    .seq (.cond (.t 28) (.skip) <|
     .exit 2) <|
    .seq (.block 3 <|
     .seq (.region [
        ⟨some 29, .ixs 2 (.t 25) (.t 27), none, []⟩,
        ⟨some 30, .load true 2 (.t 29), none, []⟩,
        ⟨some 7, .alloc 2 28 (.agg [.int .i64 0, .int .i64 0]), none, []⟩,
        ⟨none, .store 2 (.t 7) (.t 30), none, []⟩] none) <|
     .seq (.seq (.region [
         ⟨some 31, .fa 0 (.t 7), none, []⟩,
         ⟨some 32, .load false 1 (.t 31), none, []⟩,
         ⟨some 33, .bin .lss (.t 32) (.c (.int .i64 0)), none, []⟩,
         ⟨some 34, .mv (.t 33), none, []⟩,
         ⟨some 35, .fa 1 (.t 7), some (34, false), []⟩,
         ⟨some 36, .load false 1 (.t 35), some (34, false), []⟩,
         ⟨some 37, .bin .gtr (.t 36) (.c (.int .i64 274877906944)), some (34, false), []⟩,
         ⟨some 38, .pick (.t 34) (.c (.bool true)) (.t 37), none, []⟩] none) <|
      .cond (.t 38) (.seq (.region [
          ⟨some 2, .mv (.c (.int .i64 1)), none, []⟩] none) <|
       .ret) <|
      .skip) <|
     .seq (.region [
        ⟨some 39, .fa 0 (.t 7), none, []⟩,
        ⟨some 40, .load false 1 (.t 39), none, []⟩,
        ⟨some 41, .fa 1 (.t 7), none, []⟩,
        ⟨some 42, .load false 1 (.t 41), none, []⟩,
        ⟨some 43, .bin .gtr (.t 40) (.t 42), none, []⟩] none) <|
     .cond (.t 43) (.seq (.region [
         ⟨some 2, .mv (.c (.int .i64 48)), none, []⟩] none) <|
      .ret) <|
     .skip) <|
    .region [
      ⟨some 44, .bin .add (.t 27) (.c (.int .i64 1)), none, []⟩,
      ⟨some 27, .mv (.t 44), none, []⟩] none) <|
   .region [
     ⟨some 45, .bin .add (.t 21) (.c (.int .i64 1)), none, []⟩,
     ⟨some 21, .mv (.t 45), none, []⟩] none) <|
  .seq (.region [
     ⟨some 2, .mv (.c (.int .i64 0)), none, []⟩] none) <|
  .ret
abbrev n_ref30_Check : Nat := 27
theorem b_ref30_Check : bodyOf prog 27 [1000000] = some (c_ref30_Check, [.t 2], 46) := by kernel_rfl

def c_ref30_Same : ACode :=
  .seq (.region [
     ⟨some 2, .box 4 33 (.t 0), none, []⟩,
     ⟨some 3, .box 4 33 (.t 1), none, []⟩,
     ⟨some 4, .mv (.c (.bool false)), none, []⟩] none) <|
  .seq (.region [
     ⟨some 5, .fa 0 (.t 2), none, []⟩,
     ⟨some 6, .load false 1 (.t 5), none, []⟩,
     ⟨some 7, .fa 0 (.t 3), none, []⟩,
     ⟨some 8, .load false 1 (.t 7), none, []⟩,
     ⟨some 9, .bin .eql (.t 6) (.t 8), none, []⟩,
     ⟨some 10, .mv (.t 9), none, []⟩,
     ⟨some 11, .fa 1 (.t 2), some (10, true), []⟩,
     ⟨some 12, .load false 1 (.t 11), some (10, true), []⟩,
     ⟨some 13, .fa 1 (.t 3), some (10, true), []⟩,
     ⟨some 14, .load false 1 (.t 13), some (10, true), []⟩,
     ⟨some 15, .call 14 [.t 12, .t 14], some (10, true), []⟩,
     ⟨some 16, .pick (.t 10) (.t 15) (.c (.bool false)), none, []⟩,
     ⟨some 17, .mv (.t 16), none, []⟩,
     ⟨some 18, .fa 2 (.t 2), some (17, true), []⟩,
     ⟨some 19, .load false 1 (.t 18), some (17, true), []⟩,
     ⟨some 20, .fa 2 (.t 3), some (17, true), []⟩,
     ⟨some 21, .load false 1 (.t 20), some (17, true), []⟩,
     ⟨some 22, .call 14 [.t 19, .t 21], some (17, true), []⟩,
     ⟨some 23, .pick (.t 17) (.t 22) (.c (.bool false)), none, []⟩,
     ⟨some 24, .mv (.t 23), none, []⟩,
     ⟨some 25, .fa 3 (.t 2), some (24, true), []⟩,
     ⟨some 26, .load false 1 (.t 25), some (24, true), []⟩,
     ⟨some 27, .fa 3 (.t 3), some (24, true), []⟩,
     ⟨some 28, .load false 1 (.t 27), some (24, true), []⟩,
     ⟨some 29, .call 14 [.t 26, .t 28], some (24, true), []⟩,
     ⟨some 30, .pick (.t 24) (.t 29) (.c (.bool false)), none, []⟩,
     ⟨some 4, .mv (.t 30), none, []⟩] none) <|
  .ret
abbrev n_ref30_Same : Nat := 28
theorem b_ref30_Same : bodyOf prog 28 [1000000] = some (c_ref30_Same, [.t 4], 31) := by kernel_rfl

def c_ref30_Holds : ACode :=
  .seq (.region [
     ⟨some 4, .box 4 33 (.t 0), none, []⟩,
     ⟨some 8, .mv (.c (.bool false)), none, []⟩] none) <|
  .seq (.seq (.region [
      ⟨some 12, .load true 4 (.t 4), none, []⟩,
      ⟨some 13, .call 27 [.t 12], none, []⟩,
      ⟨some 14, .bin .neq (.t 13) (.c (.int .i64 0)), none, []⟩,
      ⟨some 15, .mv (.t 14), none, []⟩,
      ⟨some 16, .mv (.t 1), some (15, false), []⟩,
      ⟨some 17, .len (.t 16), some (15, false), []⟩,
      ⟨some 18, .fa 1 (.t 4), some (15, false), []⟩,
      ⟨some 19, .load false 1 (.t 18), some (15, false), []⟩,
      ⟨some 20, .len (.t 19), some (15, false), []⟩,
      ⟨some 21, .bin .neq (.t 17) (.t 20), some (15, false), []⟩,
      ⟨some 22, .pick (.t 15) (.c (.bool true)) (.t 21), none, []⟩,
      ⟨some 23, .mv (.t 22), none, []⟩,
      ⟨some 24, .mv (.t 2), some (23, false), []⟩,
      ⟨some 25, .len (.t 24), some (23, false), []⟩,
      ⟨some 26, .fa 2 (.t 4), some (23, false), []⟩,
      ⟨some 27, .load false 1 (.t 26), some (23, false), []⟩,
      ⟨some 28, .len (.t 27), some (23, false), []⟩,
      ⟨some 29, .bin .neq (.t 25) (.t 28), some (23, false), []⟩,
      ⟨some 30, .pick (.t 23) (.c (.bool true)) (.t 29), none, []⟩,
      ⟨some 31, .mv (.t 30), none, []⟩,
      ⟨some 32, .mv (.t 3), some (31, false), []⟩,
      ⟨some 33, .len (.t 32), some (31, false), []⟩,
      ⟨some 34, .fa 3 (.t 4), some (31, false), []⟩,
      ⟨some 35, .load false 1 (.t 34), some (31, false), []⟩,
      ⟨some 36, .len (.t 35), some (31, false), []⟩,
      ⟨some 37, .bin .neq (.t 33) (.t 36), some (31, false), []⟩,
      ⟨some 38, .pick (.t 31) (.c (.bool true)) (.t 37), none, []⟩] none) <|
   .cond (.t 38) (.seq (.region [
       ⟨some 8, .mv (.c (.bool false)), none, []⟩] none) <|
    .ret) <|
   .skip) <|
  .seq (.seq (.region [
      ⟨some 39, .mv (.t 1), none, []⟩,
      ⟨some 40, .len (.t 39), none, []⟩,
      ⟨some 41, .mv (.c (.int .i64 0)), none, []⟩] none) <|
   .block 0 <|
   .loop <|
   .seq (.region [
      ⟨some 42, .bin .lss (.t 41) (.t 40), none, []⟩] none) <|
   .seq (.cond (.t 42) (.skip) <|
    .exit 0) <|
   .seq (.block 1 <|
    .seq (.region [
       ⟨some 43, .mv (.t 41), none, []⟩,
       ⟨some 44, .ixs 1 (.t 39) (.t 41), none, []⟩,
       ⟨some 45, .load false 1 (.t 44), none, []⟩,
       ⟨some 9, .mv (.t 43), none, []⟩,
       ⟨some 10, .mv (.t 45), none, []⟩] none) <|
    .seq (.region [
       ⟨some 46, .mv (.t 10), none, []⟩,
       ⟨some 47, .fa 1 (.t 4), none, []⟩,
       ⟨some 48, .load false 1 (.t 47), none, []⟩,
       ⟨some 49, .mv (.t 9), none, []⟩,
       ⟨some 50, .ixs 2 (.t 48) (.t 49), none, []⟩,
       ⟨some 51, .load true 2 (.t 50), none, []⟩,
       ⟨some 52, .call 47 [.t 46, .t 51], none, []⟩,
       ⟨some 53, .un .not (.t 52), none, []⟩] none) <|
    .cond (.t 53) (.seq (.region [
        ⟨some 8, .mv (.c (.bool false)), none, []⟩] none) <|
     .ret) <|
    .skip) <|
   .region [
     ⟨some 54, .bin .add (.t 41) (.c (.int .i64 1)), none, []⟩,
     ⟨some 41, .mv (.t 54), none, []⟩] none) <|
  .seq (.seq (.region [
      ⟨some 55, .mv (.t 2), none, []⟩,
      ⟨some 56, .len (.t 55), none, []⟩,
      ⟨some 57, .mv (.c (.int .i64 0)), none, []⟩] none) <|
   .block 2 <|
   .loop <|
   .seq (.region [
      ⟨some 58, .bin .lss (.t 57) (.t 56), none, []⟩] none) <|
   .seq (.cond (.t 58) (.skip) <|
    .exit 2) <|
   .seq (.block 3 <|
    .seq (.region [
       ⟨some 59, .mv (.t 57), none, []⟩,
       ⟨some 11, .mv (.t 59), none, []⟩] none) <|
    .seq (.hregion [
       ⟨6, ⟨some 66, .mv (.t 11), none, []⟩⟩,
       ⟨4, ⟨some 64, .fa 2 (.t 4), none, []⟩⟩,
       ⟨5, ⟨some 65, .load false 1 (.t 64), none, [4]⟩⟩,
       ⟨7, ⟨some 67, .ixs 2 (.t 65) (.t 66), none, [5, 6, 4]⟩⟩,
       ⟨8, ⟨some 68, .load true 2 (.t 67), none, [7, 5, 6, 4]⟩⟩,
       ⟨1, ⟨some 61, .mv (.t 11), none, []⟩⟩,
       ⟨0, ⟨some 60, .mv (.t 2), none, []⟩⟩,
       ⟨2, ⟨some 62, .ixs 1 (.t 60) (.t 61), none, [0, 1]⟩⟩,
       ⟨3, ⟨some 63, .load false 1 (.t 62), none, [2, 0, 1]⟩⟩,
       ⟨9, ⟨some 69, .call 47 [.t 63, .t 68], none, [3, 8, 2, 0, 1, 7, 5, 6, 4]⟩⟩,
       ⟨10, ⟨some 70, .un .not (.t 69), none, [9, 3, 8, 2, 0, 1, 7, 5, 6, 4]⟩⟩,
       ⟨11, ⟨some 71, .mv (.t 70), none, [10, 9, 3, 8, 2, 0, 1, 7, 5, 6, 4]⟩⟩,
       ⟨18, ⟨some 78, .mv (.t 11), some (71, false), [11, 10, 9, 3, 8, 2, 0, 1, 7, 5, 6, 4]⟩⟩,
       ⟨16, ⟨some 76, .fa 3 (.t 4), some (71, false), [11, 10, 9, 3, 8, 2, 0, 1, 7, 5, 6, 4]⟩⟩,
       ⟨17, ⟨some 77, .load false 1 (.t 76), some (71, false), [16, 11, 10, 9, 3, 8, 2, 0, 1, 7, 5, 6, 4]⟩⟩,
       ⟨19, ⟨some 79, .ixs 2 (.t 77) (.t 78), some (71, false), [17, 18, 11, 16, 10, 9, 3, 8, 2, 0, 1, 7, 5, 6, 4]⟩⟩,
       ⟨20, ⟨some 80, .load true 2 (.t 79), some (71, false), [19, 11, 17, 18, 16, 10, 9, 3, 8, 2, 0, 1, 7, 5, 6, 4]⟩⟩,
       ⟨13, ⟨some 73, .mv (.t 11), some (71, false), [11, 10, 9, 3, 8, 2, 0, 1, 7, 5, 6, 4]⟩⟩,
       ⟨12, ⟨some 72, .mv (.t 3), some (71, false), [11, 10, 9, 3, 8, 2, 0, 1, 7, 5, 6, 4]⟩⟩,
       ⟨14, ⟨some 74, .ixs 1 (.t 72) (.t 73), some (71, false), [12, 13, 11, 10, 9, 3, 8, 2, 0, 1, 7, 5, 6, 4]⟩⟩,
       ⟨15, ⟨some 75, .load false 1 (.t 74), some (71, false), [14, 11, 12, 13, 10, 9, 3, 8, 2, 0, 1, 7, 5, 6, 4]⟩⟩,
       ⟨21, ⟨some 81, .call 47 [.t 75, .t 80], some (71, false), [15, 20, 11, 14, 12, 13, 10, 9, 3, 8, 2, 0, 1, 7, 5, 6, 4, 19, 17, 18, 16]⟩⟩,
       ⟨22, ⟨some 82, .un .not (.t 81), some (71, false), [21, 11, 15, 20, 14, 12, 13, 10, 9, 3, 8, 2, 0, 1, 7, 5, 6, 4, 19, 17, 18, 16]⟩⟩,
       ⟨23, ⟨some 83, .pick (.t 71) (.c (.bool true)) (.t 82), none, [11, 22, 10, 9, 3, 8, 2, 0, 1, 7, 5, 6, 4, 21, 15, 20, 14, 12, 13, 19, 17, 18, 16]⟩⟩,
       ⟨24, ⟨some 84, .mv (.t 83), none, [23, 21, 11, 22, 10, 9, 3, 8, 2, 0, 1, 7, 5, 6, 4, 15, 20, 14, 12, 13, 19, 17, 18, 16]⟩⟩,
       ⟨40, ⟨some 100, .mv (.t 11), some (84, false), [24, 23, 21, 11, 22, 10, 9, 3, 8, 2, 0, 1, 7, 5, 6, 4, 15, 20, 14, 12, 13, 19, 17, 18, 16]⟩⟩,
       ⟨41, ⟨some 101, .bin .add (.t 100) (.c (.int .i64 1)), some (84, false), [40, 24, 23, 21, 11, 22, 10, 9, 3, 8, 2, 0, 1, 7, 5, 6, 4, 15, 20, 14, 12, 13, 19, 17, 18, 16]⟩⟩,
       ⟨39, ⟨some 99, .mv (.t 1), some (84, false), [24, 23, 21, 11, 22, 10, 9, 3, 8, 2, 0, 1, 7, 5, 6, 4, 15, 20, 14, 12, 13, 19, 17, 18, 16]⟩⟩,
       ⟨42, ⟨some 102, .ixs 1 (.t 99) (.t 101), some (84, false), [39, 41, 24, 23, 21, 11, 22, 10, 9, 3, 8, 2, 0, 1, 7, 5, 6, 4, 15, 20, 14, 12, 13, 19, 17, 18, 16, 40]⟩⟩,
       ⟨43, ⟨some 103, .load false 1 (.t 102), some (84, false), [42, 24, 39, 41, 23, 21, 11, 22, 10, 9, 3, 8, 2, 0, 1, 7, 5, 6, 4, 15, 20, 14, 12, 13, 19, 17, 18, 16, 40]⟩⟩,
       ⟨35, ⟨some 95, .mv (.t 11), some (84, false), [24, 23, 21, 11, 22, 10, 9, 3, 8, 2, 0, 1, 7, 5, 6, 4, 15, 20, 14, 12, 13, 19, 17, 18, 16]⟩⟩,
       ⟨34, ⟨some 94, .mv (.t 3), some (84, false), [24, 23, 21, 11, 22, 10, 9, 3, 8, 2, 0, 1, 7, 5, 6, 4, 15, 20, 14, 12, 13, 19, 17, 18, 16]⟩⟩,
       ⟨36, ⟨some 96, .ixs 1 (.t 94) (.t 95), some (84, false), [34, 35, 24, 23, 21, 11, 22, 10, 9, 3, 8, 2, 0, 1, 7, 5, 6, 4, 15, 20, 14, 12, 13, 19, 17, 18, 16]⟩⟩,
       ⟨37, ⟨some 97, .load false 1 (.t 96), some (84, false), [36, 24, 34, 35, 23, 21, 11, 22, 10, 9, 3, 8, 2, 0, 1, 7, 5, 6, 4, 15, 20, 14, 12, 13, 19, 17, 18, 16]⟩⟩,
       ⟨30, ⟨some 90, .mv (.t 11), some (84, false), [24, 23, 21, 11, 22, 10, 9, 3, 8, 2, 0, 1, 7, 5, 6, 4, 15, 20, 14, 12, 13, 19, 17, 18, 16]⟩⟩,
       ⟨29, ⟨some 89, .mv (.t 2), some (84, false), [24, 23, 21, 11, 22, 10, 9, 3, 8, 2, 0, 1, 7, 5, 6, 4, 15, 20, 14, 12, 13, 19, 17, 18, 16]⟩⟩,
       ⟨31, ⟨some 91, .ixs 1 (.t 89) (.t 90), some (84, false), [29, 30, 24, 23, 21, 11, 22, 10, 9, 3, 8, 2, 0, 1, 7, 5, 6, 4, 15, 20, 14, 12, 13, 19, 17, 18, 16]⟩⟩,
       ⟨32, ⟨some 92, .load false 1 (.t 91), some (84, false), [31, 24, 29, 30, 23, 21, 11, 22, 10, 9, 3, 8, 2, 0, 1, 7, 5, 6, 4, 15, 20, 14, 12, 13, 19, 17, 18, 16]⟩⟩,
       ⟨26, ⟨some 86, .mv (.t 11), some (84, false), [24, 23, 21, 11, 22, 10, 9, 3, 8, 2, 0, 1, 7, 5, 6, 4, 15, 20, 14, 12, 13, 19, 17, 18, 16]⟩⟩,
       ⟨25, ⟨some 85, .mv (.t 1), some (84, false), [24, 23, 21, 11, 22, 10, 9, 3, 8, 2, 0, 1, 7, 5, 6, 4, 15, 20, 14, 12, 13, 19, 17, 18, 16]⟩⟩,
       ⟨27, ⟨some 87, .ixs 1 (.t 85) (.t 86), some (84, false), [25, 26, 24, 23, 21, 11, 22, 10, 9, 3, 8, 2, 0, 1, 7, 5, 6, 4, 15, 20, 14, 12, 13, 19, 17, 18, 16]⟩⟩,
       ⟨28, ⟨some 88, .load false 1 (.t 87), some (84, false), [27, 24, 25, 26, 23, 21, 11, 22, 10, 9, 3, 8, 2, 0, 1, 7, 5, 6, 4, 15, 20, 14, 12, 13, 19, 17, 18, 16]⟩⟩,
       ⟨33, ⟨some 93, .bin .add (.t 88) (.t 92), some (84, false), [28, 32, 24, 27, 25, 26, 23, 21, 11, 22, 10, 9, 3, 8, 2, 0, 1, 7, 5, 6, 4, 15, 20, 14, 12, 13, 19, 17, 18, 16, 31, 29, 30]⟩⟩,
       ⟨38, ⟨some 98, .bin .sub (.t 93) (.t 97), some (84, false), [33, 37, 24, 28, 32, 27, 25, 26, 23, 21, 11, 22, 10, 9, 3, 8, 2, 0, 1, 7, 5, 6, 4, 15, 20, 14, 12, 13, 19, 17, 18, 16, 31, 29, 30, 36, 34, 35]⟩⟩,
       ⟨44, ⟨some 104, .bin .neq (.t 98) (.t 103), some (84, false), [38, 43, 24, 33, 37, 28, 32, 27, 25, 26, 23, 21, 11, 22, 10, 9, 3, 8, 2, 0, 1, 7, 5, 6, 4, 15, 20, 14, 12, 13, 19, 17, 18, 16, 31, 29, 30, 36, 34, 35, 42, 39, 41, 40]⟩⟩,
       ⟨45, ⟨some 105, .pick (.t 84) (.c (.bool true)) (.t 104), none, [24, 44, 23, 21, 11, 22, 10, 9, 3, 8, 2, 0, 1, 7, 5, 6, 4, 15, 20, 14, 12, 13, 19, 17, 18, 16, 38, 43, 33, 37, 28, 32, 27, 25, 26, 31, 29, 30, 36, 34, 35, 42, 39, 41, 40]⟩⟩]) <|
    .cond (.t 105) (.seq (.region [
        ⟨some 8, .mv (.c (.bool false)), none, []⟩] none) <|
     .ret) <|
    .skip) <|
   .region [
     ⟨some 106, .bin .add (.t 57) (.c (.int .i64 1)), none, []⟩,
     ⟨some 57, .mv (.t 106), none, []⟩] none) <|
  .seq (.region [
     ⟨some 8, .mv (.c (.bool true)), none, []⟩] none) <|
  .ret
abbrev n_ref30_Holds : Nat := 29
theorem b_ref30_Holds : bodyOf prog 29 [1000000] = some (c_ref30_Holds, [.t 8], 107) := by kernel_rfl

def c_mk_Mod : ACode :=
  .seq (.region [
     ⟨some 4, .mv (.c (.int .i64 0)), none, []⟩] none) <|
  .seq (.region [
     ⟨some 5, .mv (.t 0), none, []⟩,
     ⟨some 6, .mv (.t 1), none, []⟩,
     ⟨some 7, .bin .rem (.t 5) (.t 6), none, []⟩,
     ⟨some 8, .mv (.t 1), none, []⟩,
     ⟨some 9, .bin .add (.t 7) (.t 8), none, []⟩,
     ⟨some 10, .mv (.t 1), none, []⟩,
     ⟨some 11, .bin .rem (.t 9) (.t 10), none, []⟩,
     ⟨some 4, .mv (.t 11), none, []⟩] none) <|
  .ret
abbrev n_mk_Mod : Nat := 30
theorem b_mk_Mod : bodyOf prog 30 [] = some (c_mk_Mod, [.t 4], 12) := by kernel_rfl

def c_ref30_Fix : ACode :=
  .seq (.region [
     ⟨some 4, .box 4 33 (.t 0), none, []⟩,
     ⟨some 7, .box 2 28 (.t 3), none, []⟩,
     ⟨some 8, .alloc 4 33 (.agg [.int .i64 0, .nil, .nil, .nil]), none, []⟩,
     ⟨some 9, .mv (.c (.int .i64 0)), none, []⟩] none) <|
  .seq (.seq (.region [
      ⟨some 14, .load true 4 (.t 4), none, []⟩,
      ⟨some 15, .call 27 [.t 14], none, []⟩,
      ⟨some 10, .mv (.t 15), none, []⟩] none) <|
   .seq (.region [
      ⟨some 16, .mv (.t 10), none, []⟩,
      ⟨some 17, .bin .neq (.t 16) (.c (.int .i64 0)), none, []⟩] none) <|
   .cond (.t 17) (.seq (.region [
       ⟨some 18, .build [.int .i64 0, .nil, .nil, .nil] [], none, []⟩,
       ⟨some 19, .mv (.t 10), none, []⟩,
       ⟨none, .store 4 (.t 8) (.t 18), none, []⟩,
       ⟨some 9, .mv (.t 19), none, []⟩] none) <|
    .ret) <|
   .skip) <|
  .seq (.region [
     ⟨some 20, .load true 4 (.t 4), none, []⟩,
     ⟨some 21, .call 44 [.t 20], none, []⟩,
     ⟨some 11, .alloc 4 33 (.agg [.int .i64 0, .nil, .nil, .nil]), none, []⟩,
     ⟨none, .store 4 (.t 11) (.t 21), none, []⟩] none) <|
  .seq (.region [
     ⟨some 12, .mv (.c (.nil)), none, []⟩] none) <|
  .seq (.seq (.region [
      ⟨some 22, .mv (.t 1), none, []⟩] none) <|
   .block 0 <|
   .seq (.region [
      ⟨some 25, .bin .eql (.t 22) (.c (.int .i64 1)), none, []⟩,
      ⟨some 24, .mv (.t 25), none, []⟩] none) <|
   .cond (.t 24) (.region [
      ⟨some 26, .fa 1 (.t 11), none, []⟩,
      ⟨some 27, .load false 1 (.t 26), none, []⟩,
      ⟨some 12, .mv (.t 27), none, []⟩] none) <|
   .seq (.region [
      ⟨some 29, .bin .eql (.t 22) (.c (.int .i64 2)), none, []⟩,
      ⟨some 28, .mv (.t 29), none, []⟩] none) <|
   .cond (.t 28) (.region [
      ⟨some 30, .fa 2 (.t 11), none, []⟩,
      ⟨some 31, .load false 1 (.t 30), none, []⟩,
      ⟨some 12, .mv (.t 31), none, []⟩] none) <|
   .seq (.region [
      ⟨some 33, .bin .eql (.t 22) (.c (.int .i64 3)), none, []⟩,
      ⟨some 32, .mv (.t 33), none, []⟩] none) <|
   .cond (.t 32) (.region [
      ⟨some 34, .fa 3 (.t 11), none, []⟩,
      ⟨some 35, .load false 1 (.t 34), none, []⟩,
      ⟨some 12, .mv (.t 35), none, []⟩] none) <|
   .seq (.region [
      ⟨some 23, .build [.int .i64 0, .nil, .nil, .nil] [], none, []⟩,
      ⟨none, .store 4 (.t 8) (.t 23), none, []⟩,
      ⟨some 9, .mv (.c (.int .i64 5)), none, []⟩] none) <|
   .ret) <|
  .seq (.seq (.region [
      ⟨some 36, .mv (.t 2), none, []⟩,
      ⟨some 37, .fa 0 (.t 4), none, []⟩,
      ⟨some 38, .load false 1 (.t 37), none, []⟩,
      ⟨some 39, .bin .lss (.t 36) (.t 38), none, []⟩,
      ⟨some 40, .mv (.t 39), none, []⟩,
      ⟨some 41, .mv (.t 2), some (40, false), []⟩,
      ⟨some 42, .fa 0 (.t 4), some (40, false), []⟩,
      ⟨some 43, .load false 1 (.t 42), some (40, false), []⟩,
      ⟨some 44, .mv (.t 12), some (40, false), []⟩,
      ⟨some 45, .len (.t 44), some (40, false), []⟩,
      ⟨some 46, .bin .add (.t 43) (.t 45), some (40, false), []⟩,
      ⟨some 47, .bin .geq (.t 41) (.t 46), some (40, false), []⟩,
      ⟨some 48, .pick (.t 40) (.c (.bool true)) (.t 47), none, []⟩] none) <|
   .cond (.t 48) (.seq (.region [
       ⟨some 49, .build [.int .i64 0, .nil, .nil, .nil] [], none, []⟩,
       ⟨none, .store 4 (.t 8) (.t 49), none, []⟩,
       ⟨some 9, .mv (.c (.int .i64 6)), none, []⟩] none) <|
    .ret) <|
   .skip) <|
  .seq (.hregion [
     ⟨7, ⟨some 57, .load true 2 (.t 7), none, []⟩⟩,
     ⟨2, ⟨some 52, .fa 0 (.t 4), none, []⟩⟩,
     ⟨3, ⟨some 53, .load false 1 (.t 52), none, [2]⟩⟩,
     ⟨1, ⟨some 51, .mv (.t 2), none, []⟩⟩,
     ⟨4, ⟨some 54, .bin .sub (.t 51) (.t 53), none, [1, 3, 2]⟩⟩,
     ⟨0, ⟨some 50, .mv (.t 12), none, []⟩⟩,
     ⟨5, ⟨some 55, .ixs 2 (.t 50) (.t 54), none, [0, 4, 1, 3, 2]⟩⟩,
     ⟨6, ⟨some 56, .load true 2 (.t 55), none, [5, 0, 4, 1, 3, 2]⟩⟩,
     ⟨8, ⟨some 58, .call 45 [.t 56, .t 57], none, [6, 7, 5, 0, 4, 1, 3, 2]⟩⟩,
     ⟨9, ⟨some 13, .alloc 2 28 (.agg [.int .i64 0, .int .i64 0]), none, []⟩⟩,
     ⟨10, ⟨none, .store 2 (.t 13) (.t 58), none, [9, 8, 0, 1, 2, 3, 4, 5, 6, 7]⟩⟩]) <|
  .seq (.seq (.region [
      ⟨some 59, .fa 0 (.t 7), none, []⟩,
      ⟨some 60, .load false 1 (.t 59), none, []⟩,
      ⟨some 61, .fa 1 (.t 7), none, []⟩,
      ⟨some 62, .load false 1 (.t 61), none, []⟩,
      ⟨some 63, .bin .gtr (.t 60) (.t 62), none, []⟩,
      ⟨some 64, .mv (.t 63), none, []⟩,
      ⟨some 65, .fa 0 (.t 13), some (64, false), []⟩,
      ⟨some 66, .load false 1 (.t 65), some (64, false), []⟩,
      ⟨some 67, .fa 1 (.t 13), some (64, false), []⟩,
      ⟨some 68, .load false 1 (.t 67), some (64, false), []⟩,
      ⟨some 69, .bin .gtr (.t 66) (.t 68), some (64, false), []⟩,
      ⟨some 70, .pick (.t 64) (.c (.bool true)) (.t 69), none, []⟩] none) <|
   .cond (.t 70) (.seq (.region [
       ⟨some 71, .build [.int .i64 0, .nil, .nil, .nil] [], none, []⟩,
       ⟨none, .store 4 (.t 8) (.t 71), none, []⟩,
       ⟨some 9, .mv (.c (.int .i64 48)), none, []⟩] none) <|
    .ret) <|
   .skip) <|
  .seq (.region [
     ⟨some 72, .mv (.t 12), none, []⟩,
     ⟨some 73, .mv (.t 2), none, []⟩,
     ⟨some 74, .fa 0 (.t 4), none, []⟩,
     ⟨some 75, .load false 1 (.t 74), none, []⟩,
     ⟨some 76, .bin .sub (.t 73) (.t 75), none, []⟩,
     ⟨some 77, .load true 2 (.t 13), none, []⟩,
     ⟨some 78, .ixs 2 (.t 72) (.t 76), none, []⟩,
     ⟨none, .store 2 (.t 78) (.t 77), none, []⟩] none) <|
  .seq (.region [
     ⟨some 79, .load true 4 (.t 11), none, []⟩,
     ⟨none, .store 4 (.t 8) (.t 79), none, []⟩,
     ⟨some 9, .mv (.c (.int .i64 0)), none, []⟩] none) <|
  .ret
abbrev n_ref30_Fix : Nat := 31
theorem b_ref30_Fix : bodyOf prog 31 [1000000] = some (c_ref30_Fix, [.c 8 true 4, .t 9], 80) := by kernel_rfl

def c_ref30_First : ACode :=
  .seq (.region [
     ⟨some 1, .box 4 33 (.t 0), none, []⟩,
     ⟨some 2, .mv (.c (.nil)), none, []⟩,
     ⟨some 3, .mv (.c (.nil)), none, []⟩,
     ⟨some 4, .mv (.c (.nil)), none, []⟩,
     ⟨some 5, .mv (.c (.int .i64 0)), none, []⟩] none) <|
  .seq (.region [
     ⟨some 15, .load true 4 (.t 1), none, []⟩,
     ⟨some 16, .call 25 [.t 15], none, []⟩,
     ⟨some 14, .mv (.t 16), none, []⟩,
     ⟨some 17, .ext (.t 14) 0, none, []⟩,
     ⟨some 18, .ext (.t 14) 1, none, []⟩,
     ⟨some 6, .alloc 4 33 (.agg [.int .i64 0, .nil, .nil, .nil]), none, []⟩,
     ⟨none, .store 4 (.t 6) (.t 17), none, []⟩,
     ⟨some 7, .mv (.t 18), none, []⟩] none) <|
  .seq (.seq (.region [
      ⟨some 19, .mv (.t 7), none, []⟩,
      ⟨some 20, .bin .neq (.t 19) (.c (.int .i64 0)), none, []⟩] none) <|
   .cond (.t 20) (.seq (.region [
       ⟨some 21, .mv (.t 7), none, []⟩,
       ⟨some 2, .mv (.c (.nil)), none, []⟩,
       ⟨some 3, .mv (.c (.nil)), none, []⟩,
       ⟨some 4, .mv (.c (.nil)), none, []⟩,
       ⟨some 5, .mv (.t 21), none, []⟩] none) <|
    .ret) <|
   .skip) <|
  .seq (.region [
     ⟨some 22, .fa 1 (.t 6), none, []⟩,
     ⟨some 23, .load false 1 (.t 22), none, []⟩,
     ⟨some 24, .ixs 2 (.t 23) (.c (.int .i64 0)), none, []⟩,
     ⟨some 25, .fa 0 (.t 24), none, []⟩,
     ⟨some 26, .load false 1 (.t 25), none, []⟩,
     ⟨some 27, .lit true 1 3 [.t 26], none, []⟩,
     ⟨some 8, .mv (.t 27), none, []⟩] none) <|
  .seq (.region [
     ⟨some 9, .mv (.c (.nil)), none, []⟩,
     ⟨some 10, .mv (.c (.nil)), none, []⟩] none) <|
  .seq (.seq (.region [
      ⟨some 28, .fa 2 (.t 6), none, []⟩,
      ⟨some 29, .load false 1 (.t 28), none, []⟩,
      ⟨some 30, .len (.t 29), none, []⟩,
      ⟨some 31, .mv (.c (.int .i64 0)), none, []⟩] none) <|
   .block 0 <|
   .loop <|
   .seq (.region [
      ⟨some 32, .bin .lss (.t 31) (.t 30), none, []⟩] none) <|
   .seq (.cond (.t 32) (.skip) <|
    .exit 0) <|
   .seq (.block 1 <|
    .seq (.region [
       ⟨some 33, .mv (.t 31), none, []⟩,
       ⟨some 11, .mv (.t 33), none, []⟩] none) <|
    .seq (.hregion [
       ⟨20, ⟨some 54, .mv (.t 11), none, []⟩⟩,
       ⟨18, ⟨some 52, .fa 3 (.t 1), none, []⟩⟩,
       ⟨19, ⟨some 53, .load false 1 (.t 52), none, [18]⟩⟩,
       ⟨21, ⟨some 55, .ixs 2 (.t 53) (.t 54), none, [19, 20, 18]⟩⟩,
       ⟨22, ⟨some 56, .fa 1 (.t 55), none, [21, 19, 20, 18]⟩⟩,
       ⟨23, ⟨some 57, .load false 1 (.t 56), none, [22, 21, 19, 20, 18]⟩⟩,
       ⟨13, ⟨some 47, .mv (.t 11), none, []⟩⟩,
       ⟨11, ⟨some 45, .fa 2 (.t 1), none, []⟩⟩,
       ⟨12, ⟨some 46, .load false 1 (.t 45), none, [11]⟩⟩,
       ⟨14, ⟨some 48, .ixs 2 (.t 46) (.t 47), none, [12, 13, 11]⟩⟩,
       ⟨15, ⟨some 49, .fa 0 (.t 48), none, [14, 12, 13, 11]⟩⟩,
       ⟨16, ⟨some 50, .load false 1 (.t 49), none, [15, 14, 12, 13, 11]⟩⟩,
       ⟨8, ⟨some 42, .mv (.t 11), none, []⟩⟩,
       ⟨7, ⟨some 41, .mv (.t 8), none, []⟩⟩,
       ⟨9, ⟨some 43, .ixs 1 (.t 41) (.t 42), none, [7, 8]⟩⟩,
       ⟨10, ⟨some 44, .load false 1 (.t 43), none, [9, 7, 8]⟩⟩,
       ⟨17, ⟨some 51, .bin .add (.t 44) (.t 50), none, [10, 16, 9, 7, 8, 15, 14, 12, 13, 11]⟩⟩,
       ⟨24, ⟨some 58, .bin .sub (.t 51) (.t 57), none, [17, 23, 10, 16, 9, 7, 8, 15, 14, 12, 13, 11, 22, 21, 19, 20, 18]⟩⟩,
       ⟨2, ⟨some 36, .mv (.t 11), none, []⟩⟩,
       ⟨3, ⟨some 37, .bin .add (.t 36) (.c (.int .i64 1)), none, [2]⟩⟩,
       ⟨0, ⟨some 34, .fa 1 (.t 6), none, []⟩⟩,
       ⟨1, ⟨some 35, .load false 1 (.t 34), none, [0]⟩⟩,
       ⟨4, ⟨some 38, .ixs 2 (.t 35) (.t 37), none, [1, 3, 0, 2]⟩⟩,
       ⟨5, ⟨some 39, .fa 0 (.t 38), none, [4, 1, 3, 0, 2]⟩⟩,
       ⟨6, ⟨some 40, .load false 1 (.t 39), none, [5, 4, 1, 3, 0, 2]⟩⟩,
       ⟨25, ⟨some 59, .mnx true (.t 40) [.t 58], none, [6, 24, 5, 4, 1, 3, 0, 2, 17, 23, 10, 16, 9, 7, 8, 15, 14, 12, 13, 11, 22, 21, 19, 20, 18]⟩⟩,
       ⟨26, ⟨some 12, .mv (.t 59), none, [25, 0, 1, 2, 3, 4, 5, 6, 7, 8, 9, 10, 11, 12, 13, 14, 15, 16, 17, 18, 19, 20, 21, 22, 23, 24]⟩⟩]) <|
    .seq (.hregion [
       ⟨14, ⟨some 74, .mv (.t 11), none, []⟩⟩,
       ⟨12, ⟨some 72, .fa 3 (.t 1), none, []⟩⟩,
       ⟨13, ⟨some 73, .load false 1 (.t 72), none, [12]⟩⟩,
       ⟨15, ⟨some 75, .ixs 2 (.t 73) (.t 74), none, [13, 14, 12]⟩⟩,
       ⟨16, ⟨some 76, .fa 0 (.t 75), none, [15, 13, 14, 12]⟩⟩,
       ⟨17, ⟨some 77, .load false 1 (.t 76), none, [16, 15, 13, 14, 12]⟩⟩,
       ⟨8, ⟨some 68, .mv (.t 11), none, []⟩⟩,
       ⟨7, ⟨some 67, .mv (.t 8), none, []⟩⟩,
       ⟨9, ⟨some 69, .ixs 1 (.t 67) (.t 68), none, [7, 8]⟩⟩,
       ⟨10, ⟨some 70, .load false 1 (.t 69), none, [9, 7, 8]⟩⟩,
       ⟨6, ⟨some 66, .mv (.t 12), none, []⟩⟩,
       ⟨11, ⟨some 71, .bin .sub (.t 66) (.t 70), none, [6, 10, 9, 7, 8]⟩⟩,
       ⟨18, ⟨some 78, .bin .add (.t 71) (.t 77), none, [11, 17, 6, 10, 9, 7, 8, 16, 15, 13, 14, 12]⟩⟩,
       ⟨2, ⟨some 62, .mv (.t 11), none, []⟩⟩,
       ⟨0, ⟨some 60, .fa 2 (.t 1), none, []⟩⟩,
       ⟨1, ⟨some 61, .load false 1 (.t 60), none, [0]⟩⟩,
       ⟨3, ⟨some 63, .ixs 2 (.t 61) (.t 62), none, [1, 2, 0]⟩⟩,
       ⟨4, ⟨some 64, .fa 0 (.t 63), none, [3, 1, 2, 0]⟩⟩,
       ⟨5, ⟨some 65, .load false 1 (.t 64), none, [4, 3, 1, 2, 0]⟩⟩,
       ⟨19, ⟨some 79, .mnx true (.t 65) [.t 78], none, [5, 18, 4, 3, 1, 2, 0, 11, 17, 6, 10, 9, 7, 8, 16, 15, 13, 14, 12]⟩⟩,
       ⟨20, ⟨some 13, .mv (.t 79), none, [19, 0, 1, 2, 3, 4, 5, 6, 7, 8, 9, 10, 11, 12, 13, 14, 15, 16, 17, 18]⟩⟩]) <|
    .seq (.region [
       ⟨some 80, .mv (.t 8), none, []⟩,
       ⟨some 81, .mv (.t 12), none, []⟩,
       ⟨some 82, .lit false 1 3 [.t 81], none, []⟩,
       ⟨some 83, .app 1 8 3 (.t 80) (.t 82), none, []⟩,
       ⟨some 8, .mv (.t 83), none, []⟩] none) <|
    .hregion [
      ⟨11, ⟨some 95, .mv (.t 12), none, []⟩⟩,
      ⟨9, ⟨some 93, .mv (.t 13), none, []⟩⟩,
      ⟨6, ⟨some 90, .mv (.t 11), none, []⟩⟩,
      ⟨5, ⟨some 89, .mv (.t 8), none, []⟩⟩,
      ⟨7, ⟨some 91, .ixs 1 (.t 89) (.t 90), none, [5, 6]⟩⟩,
      ⟨8, ⟨some 92, .load false 1 (.t 91), none, [7, 5, 6]⟩⟩,
      ⟨10, ⟨some 94, .bin .add (.t 92) (.t 93), none, [8, 9, 7, 5, 6]⟩⟩,
      ⟨12, ⟨some 96, .bin .sub (.t 94) (.t 95), none, [10, 11, 8, 9, 7, 5, 6]⟩⟩,
      ⟨13, ⟨some 97, .lit false 1 3 [.t 96], none, [12, 10, 11, 8, 9, 7, 5, 6]⟩⟩,
      ⟨4, ⟨some 88, .mv (.t 10), none, []⟩⟩,
      ⟨1, ⟨some 85, .mv (.t 13), none, []⟩⟩,
      ⟨2, ⟨some 86, .lit false 1 3 [.t 85], none, [1]⟩⟩,
      ⟨0, ⟨some 84, .mv (.t 9), none, []⟩⟩,
      ⟨3, ⟨some 87, .app 1 8 3 (.t 84) (.t 86), none, [0, 2, 1]⟩⟩,
      ⟨14, ⟨some 98, .app 1 8 3 (.t 88) (.t 97), none, [4, 13, 3, 12, 10, 11, 8, 9, 7, 5, 6, 0, 2, 1]⟩⟩,
      ⟨15, ⟨some 9, .mv (.t 87), none, [3, 14, 0, 1, 2, 4, 13, 12, 10, 11, 8, 9, 7, 5, 6]⟩⟩,
      ⟨16, ⟨some 10, .mv (.t 98), none, [14, 15, 0, 1, 2, 3, 4, 5, 6, 7, 8, 9, 10, 11, 12, 13]⟩⟩]) <|
   .region [
     ⟨some 99, .bin .add (.t 31) (.c (.int .i64 1)), none, []⟩,
     ⟨some 31, .mv (.t 99), none, []⟩] none) <|
  .seq (.region [
     ⟨some 100, .mv (.t 8), none, []⟩,
     ⟨some 101, .mv (.t 9), none, []⟩,
     ⟨some 102, .mv (.t 10), none, []⟩,
     ⟨some 2, .mv (.t 100), none, []⟩,
     ⟨some 3, .mv (.t 101), none, []⟩,
     ⟨some 4, .mv (.t 102), none, []⟩,
     ⟨some 5, .mv (.c (.int .i64 0)), none, []⟩] none) <|
  .ret
abbrev n_ref30_First : Nat := 32
theorem b_ref30_First : bodyOf prog 32 [27, 1000000] = some (c_ref30_First, [.t 2, .t 3, .t 4, .t 5], 103) := by kernel_rfl

def c_law30_ints : ACode :=
  .seq (.region [
     ⟨some 4, .mv (.c (.bool false)), none, []⟩] none) <|
  .seq (.seq (.region [
      ⟨some 6, .mv (.t 0), none, []⟩,
      ⟨some 7, .len (.t 6), none, []⟩,
      ⟨some 8, .mv (.t 1), none, []⟩,
      ⟨some 9, .len (.t 8), none, []⟩,
      ⟨some 10, .bin .neq (.t 7) (.t 9), none, []⟩] none) <|
   .cond (.t 10) (.seq (.region [
       ⟨some 4, .mv (.c (.bool false)), none, []⟩] none) <|
    .ret) <|
   .skip) <|
  .seq (.seq (.region [
      ⟨some 11, .mv (.t 0), none, []⟩,
      ⟨some 12, .len (.t 11), none, []⟩,
      ⟨some 13, .mv (.c (.int .i64 0)), none, []⟩] none) <|
   .block 0 <|
   .loop <|
   .seq (.region [
      ⟨some 14, .bin .lss (.t 13) (.t 12), none, []⟩] none) <|
   .seq (.cond (.t 14) (.skip) <|
    .exit 0) <|
   .seq (.block 1 <|
    .seq (.region [
       ⟨some 15, .mv (.t 13), none, []⟩,
       ⟨some 5, .mv (.t 15), none, []⟩] none) <|
    .seq (.hregion [
       ⟨5, ⟨some 21, .mv (.t 5), none, []⟩⟩,
       ⟨4, ⟨some 20, .mv (.t 1), none, []⟩⟩,
       ⟨6, ⟨some 22, .ixs 1 (.t 20) (.t 21), none, [4, 5]⟩⟩,
       ⟨7, ⟨some 23, .load false 1 (.t 22), none, [6, 4, 5]⟩⟩,
       ⟨1, ⟨some 17, .mv (.t 5), none, []⟩⟩,
       ⟨0, ⟨some 16, .mv (.t 0), none, []⟩⟩,
       ⟨2, ⟨some 18, .ixs 1 (.t 16) (.t 17), none, [0, 1]⟩⟩,
       ⟨3, ⟨some 19, .load false 1 (.t 18), none, [2, 0, 1]⟩⟩,
       ⟨8, ⟨some 24, .bin .neq (.t 19) (.t 23), none, [3, 7, 2, 0, 1, 6, 4, 5]⟩⟩]) <|
    .cond (.t 24) (.seq (.region [
        ⟨some 4, .mv (.c (.bool false)), none, []⟩] none) <|
     .ret) <|
    .skip) <|
   .region [
     ⟨some 25, .bin .add (.t 13) (.c (.int .i64 1)), none, []⟩,
     ⟨some 13, .mv (.t 25), none, []⟩] none) <|
  .seq (.region [
     ⟨some 4, .mv (.c (.bool true)), none, []⟩] none) <|
  .ret
abbrev n_law30_ints : Nat := 33
theorem b_law30_ints : bodyOf prog 33 [1000000] = some (c_law30_ints, [.t 4], 26) := by kernel_rfl

def c_ref30_Residuals : ACode :=
  .seq (.region [
     ⟨some 1, .box 4 33 (.t 0), none, []⟩,
     ⟨some 2, .mv (.c (.nil)), none, []⟩,
     ⟨some 3, .mv (.c (.int .i64 0)), none, []⟩] none) <|
  .seq (.seq (.region [
      ⟨some 9, .load true 4 (.t 1), none, []⟩,
      ⟨some 10, .call 27 [.t 9], none, []⟩,
      ⟨some 4, .mv (.t 10), none, []⟩] none) <|
   .seq (.region [
      ⟨some 11, .mv (.t 4), none, []⟩,
      ⟨some 12, .bin .neq (.t 11) (.c (.int .i64 0)), none, []⟩] none) <|
   .cond (.t 12) (.seq (.region [
       ⟨some 13, .mv (.t 4), none, []⟩,
       ⟨some 2, .mv (.c (.nil)), none, []⟩,
       ⟨some 3, .mv (.t 13), none, []⟩] none) <|
    .ret) <|
   .skip) <|
  .seq (.region [
     ⟨some 5, .mv (.c (.nil)), none, []⟩] none) <|
  .seq (.seq (.region [
      ⟨some 14, .fa 2 (.t 1), none, []⟩,
      ⟨some 15, .load false 1 (.t 14), none, []⟩,
      ⟨some 16, .len (.t 15), none, []⟩,
      ⟨some 17, .mv (.c (.int .i64 0)), none, []⟩] none) <|
   .block 0 <|
   .loop <|
   .seq (.region [
      ⟨some 18, .bin .lss (.t 17) (.t 16), none, []⟩] none) <|
   .seq (.cond (.t 18) (.skip) <|
    .exit 0) <|
   .seq (.block 1 <|
    .seq (.region [
       ⟨some 19, .mv (.t 17), none, []⟩,
       ⟨some 6, .mv (.t 19), none, []⟩] none) <|
    .seq (.hregion [
       ⟨7, ⟨some 27, .mv (.t 6), none, []⟩⟩,
       ⟨8, ⟨some 28, .bin .add (.t 27) (.c (.int .i64 1)), none, [7]⟩⟩,
       ⟨5, ⟨some 25, .fa 1 (.t 1), none, []⟩⟩,
       ⟨6, ⟨some 26, .load false 1 (.t 25), none, [5]⟩⟩,
       ⟨9, ⟨some 29, .ixs 2 (.t 26) (.t 28), none, [6, 8, 5, 7]⟩⟩,
       ⟨10, ⟨some 30, .load true 2 (.t 29), none, [9, 6, 8, 5, 7]⟩⟩,
       ⟨2, ⟨some 22, .mv (.t 6), none, []⟩⟩,
       ⟨0, ⟨some 20, .fa 1 (.t 1), none, []⟩⟩,
       ⟨1, ⟨some 21, .load false 1 (.t 20), none, [0]⟩⟩,
       ⟨3, ⟨some 23, .ixs 2 (.t 21) (.t 22), none, [1, 2, 0]⟩⟩,
       ⟨4, ⟨some 24, .load true 2 (.t 23), none, [3, 1, 2, 0]⟩⟩,
       ⟨12, ⟨some 8, .alloc 2 28 (.agg [.int .i64 0, .int .i64 0]), none, []⟩⟩,
       ⟨11, ⟨some 7, .alloc 2 28 (.agg [.int .i64 0, .int .i64 0]), none, []⟩⟩,
       ⟨13, ⟨none, .store 2 (.t 7) (.t 24), none, [11, 4, 0, 1, 2, 3, 12]⟩⟩,
       ⟨14, ⟨none, .store 2 (.t 8) (.t 30), none, [12, 10, 13, 0, 1, 2, 3, 4, 5, 6, 7, 8, 9, 11]⟩⟩]) <|
    .hregion [
      ⟨34, ⟨some 65, .mv (.t 6), none, []⟩⟩,
      ⟨32, ⟨some 63, .fa 3 (.t 1), none, []⟩⟩,
      ⟨33, ⟨some 64, .load false 1 (.t 63), none, [32]⟩⟩,
      ⟨35, ⟨some 66, .ixs 2 (.t 64) (.t 65), none, [33, 34, 32]⟩⟩,
      ⟨36, ⟨some 67, .fa 1 (.t 66), none, [35, 33, 34, 32]⟩⟩,
      ⟨37, ⟨some 68, .load false 1 (.t 67), none, [36, 35, 33, 34, 32]⟩⟩,
      ⟨27, ⟨some 58, .mv (.t 6), none, []⟩⟩,
      ⟨25, ⟨some 56, .fa 2 (.t 1), none, []⟩⟩,
      ⟨26, ⟨some 57, .load false 1 (.t 56), none, [25]⟩⟩,
      ⟨28, ⟨some 59, .ixs 2 (.t 57) (.t 58), none, [26, 27, 25]⟩⟩,
      ⟨29, ⟨some 60, .fa 0 (.t 59), none, [28, 26, 27, 25]⟩⟩,
      ⟨30, ⟨some 61, .load false 1 (.t 60), none, [29, 28, 26, 27, 25]⟩⟩,
      ⟨22, ⟨some 53, .fa 0 (.t 7), none, []⟩⟩,
      ⟨23, ⟨some 54, .load false 1 (.t 53), none, [22]⟩⟩,
      ⟨20, ⟨some 51, .fa 1 (.t 8), none, []⟩⟩,
      ⟨21, ⟨some 52, .load false 1 (.t 51), none, [20]⟩⟩,
      ⟨24, ⟨some 55, .bin .sub (.t 52) (.t 54), none, [21, 23, 20, 22]⟩⟩,
      ⟨31, ⟨some 62, .bin .sub (.t 55) (.t 61), none, [24, 30, 21, 23, 20, 22, 29, 28, 26, 27, 25]⟩⟩,
      ⟨38, ⟨some 69, .bin .add (.t 62) (.t 68), none, [31, 37, 24, 30, 21, 23, 20, 22, 29, 28, 26, 27, 25, 36, 35, 33, 34, 32]⟩⟩,
      ⟨15, ⟨some 46, .mv (.t 6), none, []⟩⟩,
      ⟨13, ⟨some 44, .fa 3 (.t 1), none, []⟩⟩,
      ⟨14, ⟨some 45, .load false 1 (.t 44), none, [13]⟩⟩,
      ⟨16, ⟨some 47, .ixs 2 (.t 45) (.t 46), none, [14, 15, 13]⟩⟩,
      ⟨17, ⟨some 48, .fa 0 (.t 47), none, [16, 14, 15, 13]⟩⟩,
      ⟨18, ⟨some 49, .load false 1 (.t 48), none, [17, 16, 14, 15, 13]⟩⟩,
      ⟨8, ⟨some 39, .mv (.t 6), none, []⟩⟩,
      ⟨6, ⟨some 37, .fa 2 (.t 1), none, []⟩⟩,
      ⟨7, ⟨some 38, .load false 1 (.t 37), none, [6]⟩⟩,
      ⟨9, ⟨some 40, .ixs 2 (.t 38) (.t 39), none, [7, 8, 6]⟩⟩,
      ⟨10, ⟨some 41, .fa 1 (.t 40), none, [9, 7, 8, 6]⟩⟩,
      ⟨11, ⟨some 42, .load false 1 (.t 41), none, [10, 9, 7, 8, 6]⟩⟩,
      ⟨3, ⟨some 34, .fa 1 (.t 7), none, []⟩⟩,
      ⟨4, ⟨some 35, .load false 1 (.t 34), none, [3]⟩⟩,
      ⟨1, ⟨some 32, .fa 0 (.t 8), none, []⟩⟩,
      ⟨2, ⟨some 33, .load false 1 (.t 32), none, [1]⟩⟩,
      ⟨5, ⟨some 36, .bin .sub (.t 33) (.t 35), none, [2, 4, 1, 3]⟩⟩,
      ⟨12, ⟨some 43, .bin .sub (.t 36) (.t 42), none, [5, 11, 2, 4, 1, 3, 10, 9, 7, 8, 6]⟩⟩,
      ⟨19, ⟨some 50, .bin .add (.t 43) (.t 49), none, [12, 18, 5, 11, 2, 4, 1, 3, 10, 9, 7, 8, 6, 17, 16, 14, 15, 13]⟩⟩,
      ⟨39, ⟨some 70, .build [.int .i64 0, .int .i64 0] [(0, 1, .t 50), (1, 1, .t 69)], none, [19, 38, 12, 18, 5, 11, 2, 4, 1, 3, 10, 9, 7, 8, 6, 17, 16, 14, 15, 13, 31, 37, 24, 30, 21, 23, 20, 22, 29, 28, 26, 27, 25, 36, 35, 33, 34, 32]⟩⟩,
      ⟨40, ⟨some 71, .lit false 2 28 [.t 70], none, [39, 19, 38, 12, 18, 5, 11, 2, 4, 1, 3, 10, 9, 7, 8, 6, 17, 16, 14, 15, 13, 31, 37, 24, 30, 21, 23, 20, 22, 29, 28, 26, 27, 25, 36, 35, 33, 34, 32]⟩⟩,
      ⟨0, ⟨some 31, .mv (.t 5), none, []⟩⟩,
      ⟨41, ⟨some 72, .app 2 16 28 (.t 31) (.t 71), none, [0, 40, 39, 19, 38, 12, 18, 5, 11, 2, 4, 1, 3, 10, 9, 7, 8, 6, 17, 16, 14, 15, 13, 31, 37, 24, 30, 21, 23, 20, 22, 29, 28, 26, 27, 25, 36, 35, 33, 34, 32]⟩⟩,
      ⟨42, ⟨some 5, .mv (.t 72), none, [41, 0, 1, 2, 3, 4, 5, 6, 7, 8, 9, 10, 11, 12, 13, 14, 15, 16, 17, 18, 19, 20, 21, 22, 23, 24, 25, 26, 27, 28, 29, 30, 31, 32, 33, 34, 35, 36, 37, 38, 39, 40]⟩⟩]) <|
   .region [
     ⟨some 73, .bin .add (.t 17) (.c (.int .i64 1)), none, []⟩,
     ⟨some 17, .mv (.t 73), none, []⟩] none) <|
  .seq (.region [
     ⟨some 74, .mv (.t 5), none, []⟩,
     ⟨some 2, .mv (.t 74), none, []⟩,
     ⟨some 3, .mv (.c (.int .i64 0)), none, []⟩] none) <|
  .ret
abbrev n_ref30_Residuals : Nat := 34
theorem b_ref30_Residuals : bodyOf prog 34 [1000000] = some (c_ref30_Residuals, [.t 2, .t 3], 75) := by kernel_rfl

def c_ref30_Width : ACode :=
  .seq (.region [
     ⟨some 1, .box 4 33 (.t 0), none, []⟩,
     ⟨some 2, .mv (.c (.int .i64 0)), none, []⟩,
     ⟨some 3, .mv (.c (.int .i64 0)), none, []⟩] none) <|
  .seq (.seq (.region [
      ⟨some 10, .load true 4 (.t 1), none, []⟩,
      ⟨some 11, .call 27 [.t 10], none, []⟩,
      ⟨some 4, .mv (.t 11), none, []⟩] none) <|
   .seq (.region [
      ⟨some 12, .mv (.t 4), none, []⟩,
      ⟨some 13, .bin .neq (.t 12) (.c (.int .i64 0)), none, []⟩] none) <|
   .cond (.t 13) (.seq (.region [
       ⟨some 14, .mv (.t 4), none, []⟩,
       ⟨some 2, .mv (.c (.int .i64 0)), none, []⟩,
       ⟨some 3, .mv (.t 14), none, []⟩] none) <|
    .ret) <|
   .skip) <|
  .seq (.region [
     ⟨some 5, .mv (.c (.int .i64 0)), none, []⟩] none) <|
  .seq (.seq (.region [
      ⟨some 15, .fa 1 (.t 1), none, []⟩,
      ⟨some 16, .load false 1 (.t 15), none, []⟩,
      ⟨some 17, .fa 2 (.t 1), none, []⟩,
      ⟨some 18, .load false 1 (.t 17), none, []⟩,
      ⟨some 19, .fa 3 (.t 1), none, []⟩,
      ⟨some 20, .load false 1 (.t 19), none, []⟩,
      ⟨some 21, .lit false 1 31 [.t 16, .t 18, .t 20], none, []⟩,
      ⟨some 22, .len (.t 21), none, []⟩,
      ⟨some 23, .mv (.c (.int .i64 0)), none, []⟩] none) <|
   .block 0 <|
   .loop <|
   .seq (.region [
      ⟨some 24, .bin .lss (.t 23) (.t 22), none, []⟩] none) <|
   .seq (.cond (.t 24) (.skip) <|
    .exit 0) <|
   .seq (.block 1 <|
    .seq (.region [
       ⟨some 25, .ixs 1 (.t 21) (.t 23), none, []⟩,
       ⟨some 26, .load false 1 (.t 25), none, []⟩,
       ⟨some 7, .mv (.t 26), none, []⟩] none) <|
    .seq (.region [
       ⟨some 27, .mv (.t 7), none, []⟩,
       ⟨some 28, .len (.t 27), none, []⟩,
       ⟨some 29, .mv (.c (.int .i64 0)), none, []⟩] none) <|
    .block 2 <|
    .loop <|
    .seq (.region [
       ⟨some 30, .bin .lss (.t 29) (.t 28), none, []⟩] none) <|
    .seq (.cond (.t 30) (.skip) <|
     .exit 2) <|
    .seq (.block 3 <|
     .seq (.region [
        ⟨some 31, .ixs 2 (.t 27) (.t 29), none, []⟩,
        ⟨some 32, .load true 2 (.t 31), none, []⟩,
        ⟨some 9, .alloc 2 28 (.agg [.int .i64 0, .int .i64 0]), none, []⟩,
        ⟨none, .store 2 (.t 9) (.t 32), none, []⟩] none) <|
     .region [
       ⟨some 33, .mv (.t 5), none, []⟩,
       ⟨some 34, .fa 1 (.t 9), none, []⟩,
       ⟨some 35, .load false 1 (.t 34), none, []⟩,
       ⟨some 36, .fa 0 (.t 9), none, []⟩,
       ⟨some 37, .load false 1 (.t 36), none, []⟩,
       ⟨some 38, .bin .sub (.t 35) (.t 37), none, []⟩,
       ⟨some 39, .bin .add (.t 33) (.t 38), none, []⟩,
       ⟨some 5, .mv (.t 39), none, []⟩] none) <|
    .region [
      ⟨some 40, .bin .add (.t 29) (.c (.int .i64 1)), none, []⟩,
      ⟨some 29, .mv (.t 40), none, []⟩] none) <|
   .region [
     ⟨some 41, .bin .add (.t 23) (.c (.int .i64 1)), none, []⟩,
     ⟨some 23, .mv (.t 41), none, []⟩] none) <|
  .seq (.region [
     ⟨some 42, .mv (.t 5), none, []⟩,
     ⟨some 2, .mv (.t 42), none, []⟩,
     ⟨some 3, .mv (.c (.int .i64 0)), none, []⟩] none) <|
  .ret
abbrev n_ref30_Width : Nat := 35
theorem b_ref30_Width : bodyOf prog 35 [1000000] = some (c_ref30_Width, [.t 2, .t 3], 43) := by kernel_rfl

def c_ledger_twin : ACode :=
  .seq (.region [
     ⟨some 1, .box 4 33 (.t 0), none, []⟩,
     ⟨some 2, .alloc 4 33 (.agg [.int .i64 0, .nil, .nil, .nil]), none, []⟩] none) <|
  .seq (.hregion [
     ⟨8, ⟨some 11, .fa 3 (.t 1), none, []⟩⟩,
     ⟨9, ⟨some 12, .load false 1 (.t 11), none, [8]⟩⟩,
     ⟨5, ⟨some 8, .fa 2 (.t 1), none, []⟩⟩,
     ⟨6, ⟨some 9, .load false 1 (.t 8), none, [5]⟩⟩,
     ⟨2, ⟨some 5, .fa 1 (.t 1), none, []⟩⟩,
     ⟨3, ⟨some 6, .load false 1 (.t 5), none, [2]⟩⟩,
     ⟨0, ⟨some 3, .fa 0 (.t 1), none, []⟩⟩,
     ⟨1, ⟨some 4, .load false 1 (.t 3), none, [0]⟩⟩,
     ⟨4, ⟨some 7, .call 48 [.t 6], none, [3, 2]⟩⟩,
     ⟨7, ⟨some 10, .call 48 [.t 9], none, [6, 4, 5, 3, 2]⟩⟩,
     ⟨10, ⟨some 13, .call 48 [.t 12], none, [9, 7, 8, 6, 4, 5, 3, 2]⟩⟩,
     ⟨11, ⟨some 14, .build [.int .i64 0, .nil, .nil, .nil] [(0, 1, .t 4), (1, 1, .t 7), (2, 1, .t 10), (3, 1, .t 13)], none, [1, 4, 7, 10, 0, 3, 2, 6, 5, 9, 8]⟩⟩,
     ⟨12, ⟨none, .store 4 (.t 2) (.t 14), none, [11, 10, 0, 1, 2, 3, 4, 5, 6, 7, 8, 9]⟩⟩]) <|
  .ret
abbrev n_ledger_twin : Nat := 36
theorem b_ledger_twin : bodyOf prog 36 [1000000] = some (c_ledger_twin, [.c 2 true 4], 15) := by kernel_rfl

def c_ledger_steps : ACode :=
  .seq (.region [
     ⟨some 2, .box 1 3 (.t 0), none, []⟩,
     ⟨some 3, .box 1 4 (.t 1), none, []⟩,
     ⟨some 4, .mv (.c (.nilfunc)), none, []⟩] none) <|
  .seq (.region [
     ⟨some 5, .mkf 49 [.t 2, .t 3], none, []⟩,
     ⟨some 4, .mv (.t 5), none, []⟩] none) <|
  .ret
abbrev n_ledger_steps : Nat := 37
theorem b_ledger_steps : bodyOf prog 37 [1000000] = some (c_ledger_steps, [.t 4], 6) := by kernel_rfl

def c_ledger_step : ACode :=
  .seq (.region [
     ⟨some 6, .mv (.c (.bool false)), none, []⟩] none) <|
  .seq (.hregion [
     ⟨24, ⟨some 35, .mv (.t 1), none, []⟩⟩,
     ⟨20, ⟨some 31, .mv (.t 0), none, []⟩⟩,
     ⟨21, ⟨some 32, .nilchk (.t 31), none, [20]⟩⟩,
     ⟨22, ⟨some 33, .fa 3 (.t 32), none, [21, 20]⟩⟩,
     ⟨23, ⟨some 34, .load false 1 (.t 33), none, [22, 21, 20]⟩⟩,
     ⟨25, ⟨some 36, .ixs 2 (.t 34) (.t 35), none, [23, 24, 22, 21, 20]⟩⟩,
     ⟨26, ⟨some 37, .load true 2 (.t 36), none, [25, 23, 24, 22, 21, 20]⟩⟩,
     ⟨17, ⟨some 28, .mv (.t 1), none, []⟩⟩,
     ⟨13, ⟨some 24, .mv (.t 0), none, []⟩⟩,
     ⟨14, ⟨some 25, .nilchk (.t 24), none, [13]⟩⟩,
     ⟨15, ⟨some 26, .fa 2 (.t 25), none, [14, 13]⟩⟩,
     ⟨16, ⟨some 27, .load false 1 (.t 26), none, [15, 14, 13]⟩⟩,
     ⟨18, ⟨some 29, .ixs 2 (.t 27) (.t 28), none, [16, 17, 15, 14, 13]⟩⟩,
     ⟨19, ⟨some 30, .load true 2 (.t 29), none, [18, 16, 17, 15, 14, 13]⟩⟩,
     ⟨10, ⟨some 21, .mv (.t 1), none, []⟩⟩,
     ⟨11, ⟨some 22, .bin .add (.t 21) (.c (.int .i64 1)), none, [10]⟩⟩,
     ⟨6, ⟨some 17, .mv (.t 0), none, []⟩⟩,
     ⟨7, ⟨some 18, .nilchk (.t 17), none, [6]⟩⟩,
     ⟨8, ⟨some 19, .fa 1 (.t 18), none, [7, 6]⟩⟩,
     ⟨9, ⟨some 20, .load false 1 (.t 19), none, [8, 7, 6]⟩⟩,
     ⟨12, ⟨some 23, .ixs 2 (.t 20) (.t 22), none, [9, 11, 8, 7, 6, 10]⟩⟩,
     ⟨4, ⟨some 15, .mv (.t 1), none, []⟩⟩,
     ⟨0, ⟨some 11, .mv (.t 0), none, []⟩⟩,
     ⟨1, ⟨some 12, .nilchk (.t 11), none, [0]⟩⟩,
     ⟨2, ⟨some 13, .fa 1 (.t 12), none, [1, 0]⟩⟩,
     ⟨3, ⟨some 14, .load false 1 (.t 13), none, [2, 1, 0]⟩⟩,
     ⟨5, ⟨some 16, .ixs 2 (.t 14) (.t 15), none, [3, 4, 2, 1, 0]⟩⟩,
     ⟨28, ⟨some 10, .alloc 2 28 (.agg [.int .i64 0, .int .i64 0]), none, []⟩⟩,
     ⟨27, ⟨some 9, .alloc 2 28 (.agg [.int .i64 0, .int .i64 0]), none, []⟩⟩,
     ⟨29, ⟨some 7, .mv (.t 16), none, [5, 0, 1, 2, 3, 4, 27, 28]⟩⟩,
     ⟨30, ⟨some 8, .mv (.t 23), none, [12, 29, 0, 1, 2, 3, 4, 5, 6, 7, 8, 9, 10, 11, 27, 28]⟩⟩,
     ⟨31, ⟨none, .store 2 (.t 9) (.t 30), none, [27, 19, 30, 0, 1, 2, 3, 4, 5, 6, 7, 8, 9, 10, 11, 12, 13, 14, 15, 16, 17, 18, 28, 29]⟩⟩,
     ⟨32, ⟨none, .store 2 (.t 10) (.t 37), none, [28, 26, 31, 0, 1, 2, 3, 4, 5, 6, 7, 8, 9, 10, 11, 12, 13, 14, 15, 16, 17, 18, 19, 20, 21, 22, 23, 24, 25, 27, 29, 30]⟩⟩]) <|
  .seq (.seq (.region [
      ⟨some 38, .mv (.t 2), none, []⟩] none) <|
   .cond (.t 38) (.seq (.hregion [
       ⟨18, ⟨some 57, .fa 1 (.t 10), none, []⟩⟩,
       ⟨19, ⟨some 58, .load false 1 (.t 57), none, [18]⟩⟩,
       ⟨15, ⟨some 54, .fa 0 (.t 9), none, []⟩⟩,
       ⟨16, ⟨some 55, .load false 1 (.t 54), none, [15]⟩⟩,
       ⟨11, ⟨some 50, .mv (.t 8), none, []⟩⟩,
       ⟨12, ⟨some 51, .nilchk (.t 50), none, [11]⟩⟩,
       ⟨13, ⟨some 52, .fa 1 (.t 51), none, [12, 11]⟩⟩,
       ⟨14, ⟨some 53, .load false 1 (.t 52), none, [13, 12, 11]⟩⟩,
       ⟨17, ⟨some 56, .bin .sub (.t 53) (.t 55), none, [14, 16, 13, 12, 11, 15]⟩⟩,
       ⟨20, ⟨some 59, .bin .add (.t 56) (.t 58), none, [17, 19, 14, 16, 13, 12, 11, 15, 18]⟩⟩,
       ⟨8, ⟨some 47, .fa 0 (.t 10), none, []⟩⟩,
       ⟨9, ⟨some 48, .load false 1 (.t 47), none, [8]⟩⟩,
       ⟨5, ⟨some 44, .fa 1 (.t 9), none, []⟩⟩,
       ⟨6, ⟨some 45, .load false 1 (.t 44), none, [5]⟩⟩,
       ⟨1, ⟨some 40, .mv (.t 8), none, []⟩⟩,
       ⟨2, ⟨some 41, .nilchk (.t 40), none, [1]⟩⟩,
       ⟨3, ⟨some 42, .fa 0 (.t 41), none, [2, 1]⟩⟩,
       ⟨4, ⟨some 43, .load false 1 (.t 42), none, [3, 2, 1]⟩⟩,
       ⟨7, ⟨some 46, .bin .sub (.t 43) (.t 45), none, [4, 6, 3, 2, 1, 5]⟩⟩,
       ⟨10, ⟨some 49, .bin .add (.t 46) (.t 48), none, [7, 9, 4, 6, 3, 2, 1, 5, 8]⟩⟩,
       ⟨0, ⟨some 39, .mv (.t 7), none, []⟩⟩,
       ⟨21, ⟨some 60, .call 39 [.t 39, .t 49, .t 59], none, [0, 10, 20, 7, 9, 4, 6, 3, 2, 1, 5, 8, 17, 19, 14, 16, 13, 12, 11, 15, 18]⟩⟩,
       ⟨22, ⟨some 6, .mv (.t 60), none, [21, 0, 1, 2, 3, 4, 5, 6, 7, 8, 9, 10, 11, 12, 13, 14, 15, 16, 17, 18, 19, 20]⟩⟩]) <|
    .ret) <|
   .skip) <|
  .seq (.hregion [
     ⟨18, ⟨some 79, .fa 0 (.t 10), none, []⟩⟩,
     ⟨19, ⟨some 80, .load false 1 (.t 79), none, [18]⟩⟩,
     ⟨15, ⟨some 76, .fa 1 (.t 9), none, []⟩⟩,
     ⟨16, ⟨some 77, .load false 1 (.t 76), none, [15]⟩⟩,
     ⟨11, ⟨some 72, .mv (.t 7), none, []⟩⟩,
     ⟨12, ⟨some 73, .nilchk (.t 72), none, [11]⟩⟩,
     ⟨13, ⟨some 74, .fa 1 (.t 73), none, [12, 11]⟩⟩,
     ⟨14, ⟨some 75, .load false 1 (.t 74), none, [13, 12, 11]⟩⟩,
     ⟨17, ⟨some 78, .bin .add (.t 75) (.t 77), none, [14, 16, 13, 12, 11, 15]⟩⟩,
     ⟨20, ⟨some 81, .bin .sub (.t 78) (.t 80), none, [17, 19, 14, 16, 13, 12, 11, 15, 18]⟩⟩,
     ⟨8, ⟨some 69, .fa 1 (.t 10), none, []⟩⟩,
     ⟨9, ⟨some 70, .load false 1 (.t 69), none, [8]⟩⟩,
     ⟨5, ⟨some 66, .fa 0 (.t 9), none, []⟩⟩,
     ⟨6, ⟨some 67, .load false 1 (.t 66), none, [5]⟩⟩,
     ⟨1, ⟨some 62, .mv (.t 7), none, []⟩⟩,
     ⟨2, ⟨some 63, .nilchk (.t 62), none, [1]⟩⟩,
     ⟨3, ⟨some 64, .fa 0 (.t 63), none, [2, 1]⟩⟩,
     ⟨4, ⟨some 65, .load false 1 (.t 64), none, [3, 2, 1]⟩⟩,
     ⟨7, ⟨some 68, .bin .add (.t 65) (.t 67), none, [4, 6, 3, 2, 1, 5]⟩⟩,
     ⟨10, ⟨some 71, .bin .sub (.t 68) (.t 70), none, [7, 9, 4, 6, 3, 2, 1, 5, 8]⟩⟩,
     ⟨0, ⟨some 61, .mv (.t 8), none, []⟩⟩,
     ⟨21, ⟨some 82, .call 39 [.t 61, .t 71, .t 81], none, [0, 10, 20, 7, 9, 4, 6, 3, 2, 1, 5, 8, 17, 19, 14, 16, 13, 12, 11, 15, 18]⟩⟩,
     ⟨22, ⟨some 6, .mv (.t 82), none, [21, 0, 1, 2, 3, 4, 5, 6, 7, 8, 9, 10, 11, 12, 13, 14, 15, 16, 17, 18, 19, 20]⟩⟩]) <|
  .ret
abbrev n_ledger_step : Nat := 38
theorem b_ledger_step : bodyOf prog 38 [1000000] = some (c_ledger_step, [.t 6], 83) := by kernel_rfl

def c_ledger_narrow : ACode :=
  .seq (.region [
     ⟨some 6, .mv (.c (.bool false)), none, []⟩] none) <|
  .seq (.region [
     ⟨some 10, .mv (.t 0), none, []⟩,
     ⟨some 11, .nilchk (.t 10), none, []⟩,
     ⟨some 12, .load true 2 (.t 11), none, []⟩,
     ⟨some 13, .mv (.t 1), none, []⟩,
     ⟨some 14, .mv (.t 2), none, []⟩,
     ⟨some 15, .build [.int .i64 0, .int .i64 0] [(0, 1, .t 13), (1, 1, .t 14)], none, []⟩,
     ⟨some 16, .call 50 [.t 12, .t 15], none, []⟩,
     ⟨some 9, .mv (.t 16), none, []⟩,
     ⟨some 17, .ext (.t 9) 0, none, []⟩,
     ⟨some 18, .ext (.t 9) 1, none, []⟩,
     ⟨some 7, .alloc 2 28 (.agg [.int .i64 0, .int .i64 0]), none, []⟩,
     ⟨none, .store 2 (.t 7) (.t 17), none, []⟩,
     ⟨some 8, .mv (.t 18), none, []⟩] none) <|
  .seq (.seq (.region [
      ⟨some 19, .mv (.t 8), none, []⟩] none) <|
   .cond (.t 19) (.region [
      ⟨some 20, .mv (.t 0), none, []⟩,
      ⟨some 21, .load true 2 (.t 7), none, []⟩,
      ⟨some 22, .nilchk (.t 20), none, []⟩,
      ⟨none, .store 2 (.t 22) (.t 21), none, []⟩] none) <|
   .skip) <|
  .seq (.region [
     ⟨some 23, .mv (.t 8), none, []⟩,
     ⟨some 6, .mv (.t 23), none, []⟩] none) <|
  .ret
abbrev n_ledger_narrow : Nat := 39
theorem b_ledger_narrow : bodyOf prog 39 [1000000] = some (c_ledger_narrow, [.t 6], 24) := by kernel_rfl

def c_flow_list : ACode :=
  .seq (.region [
     ⟨some 4, .mv (.c (.nil)), none, []⟩] none) <|
  .seq (.region [
     ⟨some 5, .mv (.c (.nil)), none, []⟩] none) <|
  .seq (.seq (.region [
      ⟨some 8, .mv (.t 1), none, []⟩,
      ⟨some 9, .len (.t 8), none, []⟩,
      ⟨some 10, .mv (.c (.int .i64 0)), none, []⟩] none) <|
   .block 0 <|
   .loop <|
   .seq (.region [
      ⟨some 11, .bin .lss (.t 10) (.t 9), none, []⟩] none) <|
   .seq (.cond (.t 11) (.skip) <|
    .exit 0) <|
   .seq (.block 1 <|
    .seq (.region [
       ⟨some 12, .ixs 1 (.t 8) (.t 10), none, []⟩,
       ⟨some 13, .load false 1 (.t 12), none, []⟩,
       ⟨some 7, .mv (.t 13), none, []⟩] none) <|
    .region [
      ⟨some 14, .mv (.t 5), none, []⟩,
      ⟨some 15, .mv (.t 0), none, []⟩,
      ⟨some 16, .mv (.t 7), none, []⟩,
      ⟨some 17, .call 51 [.t 15, .t 16], none, []⟩,
      ⟨some 18, .lit false 2 28 [.t 17], none, []⟩,
      ⟨some 19, .app 2 16 28 (.t 14) (.t 18), none, []⟩,
      ⟨some 5, .mv (.t 19), none, []⟩] none) <|
   .region [
     ⟨some 20, .bin .add (.t 10) (.c (.int .i64 1)), none, []⟩,
     ⟨some 10, .mv (.t 20), none, []⟩] none) <|
  .seq (.region [
     ⟨some 21, .mv (.t 5), none, []⟩,
     ⟨some 4, .mv (.t 21), none, []⟩] none) <|
  .ret
abbrev n_flow_list : Nat := 40
theorem b_flow_list : bodyOf prog 40 [1000000] = some (c_flow_list, [.t 4], 22) := by kernel_rfl

def c_ledger_in : ACode :=
  .seq (.region [
     ⟨some 4, .mv (.c (.bool false)), none, []⟩] none) <|
  .seq (.seq (.region [
      ⟨some 7, .mv (.t 0), none, []⟩,
      ⟨some 8, .len (.t 7), none, []⟩,
      ⟨some 9, .mv (.t 1), none, []⟩,
      ⟨some 10, .len (.t 9), none, []⟩,
      ⟨some 11, .bin .neq (.t 8) (.t 10), none, []⟩] none) <|
   .cond (.t 11) (.seq (.region [
       ⟨some 4, .mv (.c (.bool false)), none, []⟩] none) <|
    .ret) <|
   .skip) <|
  .seq (.seq (.region [
      ⟨some 12, .mv (.t 0), none, []⟩,
      ⟨some 13, .len (.t 12), none, []⟩,
      ⟨some 14, .mv (.c (.int .i64 0)), none, []⟩] none) <|
   .block 0 <|
   .loop <|
   .seq (.region [
      ⟨some 15, .bin .lss (.t 14) (.t 13), none, []⟩] none) <|
   .seq (.cond (.t 15) (.skip) <|
    .exit 0) <|
   .seq (.block 1 <|
    .seq (.region [
       ⟨some 16, .mv (.t 14), none, []⟩,
       ⟨some 17, .ixs 2 (.t 12) (.t 14), none, []⟩,
       ⟨some 18, .load true 2 (.t 17), none, []⟩,
       ⟨some 6, .alloc 2 28 (.agg [.int .i64 0, .int .i64 0]), none, []⟩,
       ⟨some 5, .mv (.t 16), none, []⟩,
       ⟨none, .store 2 (.t 6) (.t 18), none, []⟩] none) <|
    .seq (.hregion [
       ⟨4, ⟨some 23, .fa 0 (.t 6), none, []⟩⟩,
       ⟨5, ⟨some 24, .load false 1 (.t 23), none, [4]⟩⟩,
       ⟨1, ⟨some 20, .mv (.t 5), none, []⟩⟩,
       ⟨0, ⟨some 19, .mv (.t 1), none, []⟩⟩,
       ⟨2, ⟨some 21, .ixs 1 (.t 19) (.t 20), none, [0, 1]⟩⟩,
       ⟨3, ⟨some 22, .load false 1 (.t 21), none, [2, 0, 1]⟩⟩,
       ⟨6, ⟨some 25, .bin .lss (.t 22) (.t 24), none, [3, 5, 2, 0, 1, 4]⟩⟩,
       ⟨7, ⟨some 26, .mv (.t 25), none, [6, 3, 5, 2, 0, 1, 4]⟩⟩,
       ⟨12, ⟨some 31, .fa 1 (.t 6), some (26, false), [7, 6, 3, 5, 2, 0, 1, 4]⟩⟩,
       ⟨13, ⟨some 32, .load false 1 (.t 31), some (26, false), [12, 7, 6, 3, 5, 2, 0, 1, 4]⟩⟩,
       ⟨9, ⟨some 28, .mv (.t 5), some (26, false), [7, 6, 3, 5, 2, 0, 1, 4]⟩⟩,
       ⟨8, ⟨some 27, .mv (.t 1), some (26, false), [7, 6, 3, 5, 2, 0, 1, 4]⟩⟩,
       ⟨10, ⟨some 29, .ixs 1 (.t 27) (.t 28), some (26, false), [8, 9, 7, 6, 3, 5, 2, 0, 1, 4]⟩⟩,
       ⟨11, ⟨some 30, .load false 1 (.t 29), some (26, false), [10, 7, 8, 9, 6, 3, 5, 2, 0, 1, 4]⟩⟩,
       ⟨14, ⟨some 33, .bin .gtr (.t 30) (.t 32), some (26, false), [11, 13, 7, 10, 8, 9, 6, 3, 5, 2, 0, 1, 4, 12]⟩⟩,
       ⟨15, ⟨some 34, .pick (.t 26) (.c (.bool true)) (.t 33), none, [7, 14, 6, 3, 5, 2, 0, 1, 4, 11, 13, 10, 8, 9, 12]⟩⟩]) <|
    .cond (.t 34) (.seq (.region [
        ⟨some 4, .mv (.c (.bool false)), none, []⟩] none) <|
     .ret) <|
    .skip) <|
   .region [
     ⟨some 35, .bin .add (.t 14) (.c (.int .i64 1)), none, []⟩,
     ⟨some 14, .mv (.t 35), none, []⟩] none) <|
  .seq (.region [
     ⟨some 4, .mv (.c (.bool true)), none, []⟩] none) <|
  .ret
abbrev n_ledger_in : Nat := 41
theorem b_ledger_in : bodyOf prog 41 [1000000] = some (c_ledger_in, [.t 4], 36) := by kernel_rfl

def c_ledger_lists : ACode :=
  .seq (.region [
     ⟨some 2, .alloc 3 79 (.agg [.nil, .nil, .nil]), none, []⟩] none) <|
  .seq (.hregion [
     ⟨8, ⟨some 11, .mv (.t 0), none, []⟩⟩,
     ⟨9, ⟨some 12, .nilchk (.t 11), none, [8]⟩⟩,
     ⟨10, ⟨some 13, .fa 3 (.t 12), none, [9, 8]⟩⟩,
     ⟨11, ⟨some 14, .load false 1 (.t 13), none, [10, 9, 8]⟩⟩,
     ⟨4, ⟨some 7, .mv (.t 0), none, []⟩⟩,
     ⟨5, ⟨some 8, .nilchk (.t 7), none, [4]⟩⟩,
     ⟨6, ⟨some 9, .fa 2 (.t 8), none, [5, 4]⟩⟩,
     ⟨7, ⟨some 10, .load false 1 (.t 9), none, [6, 5, 4]⟩⟩,
     ⟨0, ⟨some 3, .mv (.t 0), none, []⟩⟩,
     ⟨1, ⟨some 4, .nilchk (.t 3), none, [0]⟩⟩,
     ⟨2, ⟨some 5, .fa 1 (.t 4), none, [1, 0]⟩⟩,
     ⟨3, ⟨some 6, .load false 1 (.t 5), none, [2, 1, 0]⟩⟩,
     ⟨12, ⟨some 15, .build [.nil, .nil, .nil] [(0, 1, .t 6), (1, 1, .t 10), (2, 1, .t 14)], none, [3, 7, 11, 2, 1, 0, 6, 5, 4, 10, 9, 8]⟩⟩,
     ⟨13, ⟨none, .store 3 (.t 2) (.t 15), none, [12, 0, 1, 2, 3, 4, 5, 6, 7, 8, 9, 10, 11]⟩⟩]) <|
  .ret
abbrev n_ledger_lists : Nat := 42
theorem b_ledger_lists : bodyOf prog 42 [1000000] = some (c_ledger_lists, [.c 2 true 3], 16) := by kernel_rfl

def c_slices_Equal__Bounds : ACode :=
  .seq (.region [
     ⟨some 4, .mv (.c (.bool false)), none, []⟩] none) <|
  .seq (.seq (.region [
      ⟨some 6, .mv (.t 0), none, []⟩,
      ⟨some 7, .len (.t 6), none, []⟩,
      ⟨some 8, .mv (.t 1), none, []⟩,
      ⟨some 9, .len (.t 8), none, []⟩,
      ⟨some 10, .bin .neq (.t 7) (.t 9), none, []⟩] none) <|
   .cond (.t 10) (.seq (.region [
       ⟨some 4, .mv (.c (.bool false)), none, []⟩] none) <|
    .ret) <|
   .skip) <|
  .seq (.seq (.region [
      ⟨some 11, .mv (.t 0), none, []⟩,
      ⟨some 12, .len (.t 11), none, []⟩,
      ⟨some 13, .mv (.c (.int .i64 0)), none, []⟩] none) <|
   .block 0 <|
   .loop <|
   .seq (.region [
      ⟨some 14, .bin .lss (.t 13) (.t 12), none, []⟩] none) <|
   .seq (.cond (.t 14) (.skip) <|
    .exit 0) <|
   .seq (.block 1 <|
    .seq (.region [
       ⟨some 15, .mv (.t 13), none, []⟩,
       ⟨some 5, .mv (.t 15), none, []⟩] none) <|
    .seq (.hregion [
       ⟨5, ⟨some 21, .mv (.t 5), none, []⟩⟩,
       ⟨4, ⟨some 20, .mv (.t 1), none, []⟩⟩,
       ⟨6, ⟨some 22, .ixs 2 (.t 20) (.t 21), none, [4, 5]⟩⟩,
       ⟨7, ⟨some 23, .load true 2 (.t 22), none, [6, 4, 5]⟩⟩,
       ⟨1, ⟨some 17, .mv (.t 5), none, []⟩⟩,
       ⟨0, ⟨some 16, .mv (.t 0), none, []⟩⟩,
       ⟨2, ⟨some 18, .ixs 2 (.t 16) (.t 17), none, [0, 1]⟩⟩,
       ⟨3, ⟨some 19, .load true 2 (.t 18), none, [2, 0, 1]⟩⟩,
       ⟨8, ⟨some 24, .eqs true [0, 0] (.t 19) (.t 23), none, [3, 7, 2, 0, 1, 6, 4, 5]⟩⟩]) <|
    .cond (.t 24) (.seq (.region [
        ⟨some 4, .mv (.c (.bool false)), none, []⟩] none) <|
     .ret) <|
    .skip) <|
   .region [
     ⟨some 25, .bin .add (.t 13) (.c (.int .i64 1)), none, []⟩,
     ⟨some 13, .mv (.t 25), none, []⟩] none) <|
  .seq (.region [
     ⟨some 4, .mv (.c (.bool true)), none, []⟩] none) <|
  .ret
abbrev n_slices_Equal__Bounds : Nat := 43
theorem b_slices_Equal__Bounds : bodyOf prog 43 [1000000] = some (c_slices_Equal__Bounds, [.t 4], 26) := by kernel_rfl

def c_ref30_Copy : ACode :=
  .seq (.region [
     ⟨some 1, .box 4 33 (.t 0), none, []⟩,
     ⟨some 2, .alloc 4 33 (.agg [.int .i64 0, .nil, .nil, .nil]), none, []⟩] none) <|
  .seq (.region [
     ⟨some 3, .fa 1 (.t 1), none, []⟩,
     ⟨some 4, .load false 1 (.t 3), none, []⟩,
     ⟨some 5, .app 2 16 28 (.c (.nil)) (.t 4), none, []⟩,
     ⟨some 6, .fa 1 (.t 1), none, []⟩,
     ⟨none, .store 1 (.t 6) (.t 5), none, []⟩] none) <|
  .seq (.region [
     ⟨some 7, .fa 2 (.t 1), none, []⟩,
     ⟨some 8, .load false 1 (.t 7), none, []⟩,
     ⟨some 9, .app 2 16 28 (.c (.nil)) (.t 8), none, []⟩,
     ⟨some 10, .fa 2 (.t 1), none, []⟩,
     ⟨none, .store 1 (.t 10) (.t 9), none, []⟩] none) <|
  .seq (.region [
     ⟨some 11, .fa 3 (.t 1), none, []⟩,
     ⟨some 12, .load false 1 (.t 11), none, []⟩,
     ⟨some 13, .app 2 16 28 (.c (.nil)) (.t 12), none, []⟩,
     ⟨some 14, .fa 3 (.t 1), none, []⟩,
     ⟨none, .store 1 (.t 14) (.t 13), none, []⟩] none) <|
  .seq (.region [
     ⟨some 15, .load true 4 (.t 1), none, []⟩,
     ⟨none, .store 4 (.t 2) (.t 15), none, []⟩] none) <|
  .ret
abbrev n_ref30_Copy : Nat := 44
theorem b_ref30_Copy : bodyOf prog 44 [1000000] = some (c_ref30_Copy, [.c 2 true 4], 16) := by kernel_rfl

def c_ref30_meet : ACode :=
  .seq (.region [
     ⟨some 2, .box 2 28 (.t 0), none, []⟩,
     ⟨some 3, .box 2 28 (.t 1), none, []⟩,
     ⟨some 4, .alloc 2 28 (.agg [.int .i64 0, .int .i64 0]), none, []⟩] none) <|
  .seq (.region [
     ⟨some 5, .fa 0 (.t 2), none, []⟩,
     ⟨some 6, .load false 1 (.t 5), none, []⟩,
     ⟨some 7, .fa 0 (.t 3), none, []⟩,
     ⟨some 8, .load false 1 (.t 7), none, []⟩,
     ⟨some 9, .mnx true (.t 6) [.t 8], none, []⟩,
     ⟨some 10, .fa 1 (.t 2), none, []⟩,
     ⟨some 11, .load false 1 (.t 10), none, []⟩,
     ⟨some 12, .fa 1 (.t 3), none, []⟩,
     ⟨some 13, .load false 1 (.t 12), none, []⟩,
     ⟨some 14, .mnx false (.t 11) [.t 13], none, []⟩,
     ⟨some 15, .build [.int .i64 0, .int .i64 0] [(0, 1, .t 9), (1, 1, .t 14)], none, []⟩,
     ⟨none, .store 2 (.t 4) (.t 15), none, []⟩] none) <|
  .ret
abbrev n_ref30_meet : Nat := 45
theorem b_ref30_meet : bodyOf prog 45 [1000000] = some (c_ref30_meet, [.c 4 true 2], 16) := by kernel_rfl

def c_ref30_account : ACode :=
  .seq (.region [
     ⟨some 1, .box 4 33 (.t 0), none, []⟩,
     ⟨some 2, .mv (.c (.int .i64 0)), none, []⟩] none) <|
  .seq (.region [
     ⟨some 4, .fa 2 (.t 1), none, []⟩,
     ⟨some 5, .load false 1 (.t 4), none, []⟩,
     ⟨some 6, .len (.t 5), none, []⟩,
     ⟨some 3, .mv (.t 6), none, []⟩] none) <|
  .seq (.seq (.region [
      ⟨some 7, .mv (.t 3), none, []⟩,
      ⟨some 8, .bin .lss (.t 7) (.c (.int .i64 1)), none, []⟩,
      ⟨some 9, .mv (.t 8), none, []⟩,
      ⟨some 10, .fa 3 (.t 1), some (9, false), []⟩,
      ⟨some 11, .load false 1 (.t 10), some (9, false), []⟩,
      ⟨some 12, .len (.t 11), some (9, false), []⟩,
      ⟨some 13, .mv (.t 3), some (9, false), []⟩,
      ⟨some 14, .bin .neq (.t 12) (.t 13), some (9, false), []⟩,
      ⟨some 15, .pick (.t 9) (.c (.bool true)) (.t 14), none, []⟩,
      ⟨some 16, .mv (.t 15), none, []⟩,
      ⟨some 17, .fa 1 (.t 1), some (16, false), []⟩,
      ⟨some 18, .load false 1 (.t 17), some (16, false), []⟩,
      ⟨some 19, .len (.t 18), some (16, false), []⟩,
      ⟨some 20, .mv (.t 3), some (16, false), []⟩,
      ⟨some 21, .bin .add (.t 20) (.c (.int .i64 1)), some (16, false), []⟩,
      ⟨some 22, .bin .neq (.t 19) (.t 21), some (16, false), []⟩,
      ⟨some 23, .pick (.t 16) (.c (.bool true)) (.t 22), none, []⟩] none) <|
   .cond (.t 23) (.seq (.region [
       ⟨some 2, .mv (.c (.int .i64 3)), none, []⟩] none) <|
    .ret) <|
   .skip) <|
  .seq (.seq (.region [
      ⟨some 24, .mv (.t 3), none, []⟩,
      ⟨some 25, .bin .gtr (.t 24) (.c (.int .i64 400)), none, []⟩] none) <|
   .cond (.t 25) (.seq (.region [
       ⟨some 2, .mv (.c (.int .i64 10)), none, []⟩] none) <|
    .ret) <|
   .skip) <|
  .seq (.seq (.region [
      ⟨some 26, .fa 0 (.t 1), none, []⟩,
      ⟨some 27, .load false 1 (.t 26), none, []⟩,
      ⟨some 28, .bin .lss (.t 27) (.c (.int .i64 0)), none, []⟩,
      ⟨some 29, .mv (.t 28), none, []⟩,
      ⟨some 30, .fa 0 (.t 1), some (29, false), []⟩,
      ⟨some 31, .load false 1 (.t 30), some (29, false), []⟩,
      ⟨some 32, .mv (.t 3), some (29, false), []⟩,
      ⟨some 33, .bin .sub (.c (.int .i64 16777216)) (.t 32), some (29, false), []⟩,
      ⟨some 34, .bin .gtr (.t 31) (.t 33), some (29, false), []⟩,
      ⟨some 35, .pick (.t 29) (.c (.bool true)) (.t 34), none, []⟩] none) <|
   .cond (.t 35) (.seq (.region [
       ⟨some 2, .mv (.c (.int .i64 6)), none, []⟩] none) <|
    .ret) <|
   .skip) <|
  .seq (.region [
     ⟨some 2, .mv (.c (.int .i64 0)), none, []⟩] none) <|
  .ret
abbrev n_ref30_account : Nat := 46
theorem b_ref30_account : bodyOf prog 46 [1000000] = some (c_ref30_account, [.t 2], 36) := by kernel_rfl

def c_ref30_within : ACode :=
  .seq (.region [
     ⟨some 3, .box 2 28 (.t 1), none, []⟩,
     ⟨some 4, .mv (.c (.bool false)), none, []⟩] none) <|
  .seq (.region [
     ⟨some 5, .mv (.t 0), none, []⟩,
     ⟨some 6, .fa 0 (.t 3), none, []⟩,
     ⟨some 7, .load false 1 (.t 6), none, []⟩,
     ⟨some 8, .bin .geq (.t 5) (.t 7), none, []⟩,
     ⟨some 9, .mv (.t 8), none, []⟩,
     ⟨some 10, .mv (.t 0), some (9, true), []⟩,
     ⟨some 11, .fa 1 (.t 3), some (9, true), []⟩,
     ⟨some 12, .load false 1 (.t 11), some (9, true), []⟩,
     ⟨some 13, .bin .leq (.t 10) (.t 12), some (9, true), []⟩,
     ⟨some 14, .pick (.t 9) (.t 13) (.c (.bool false)), none, []⟩,
     ⟨some 4, .mv (.t 14), none, []⟩] none) <|
  .ret
abbrev n_ref30_within : Nat := 47
theorem b_ref30_within : bodyOf prog 47 [1000000] = some (c_ref30_within, [.t 4], 15) := by kernel_rfl

def c_slices_Clone__Bounds : ACode :=
  .seq (.region [
     ⟨some 2, .newsl 2 28, none, []⟩] none) <|
  .seq (.seq (.region [
      ⟨some 3, .mv (.t 0), none, []⟩,
      ⟨some 4, .isnil false (.t 3), none, []⟩] none) <|
   .cond (.t 4) (.seq (.region [
       ⟨some 2, .newsl 2 28, none, []⟩] none) <|
    .ret) <|
   .skip) <|
  .seq (.region [
     ⟨some 5, .lit true 2 28 [], none, []⟩,
     ⟨some 6, .mv (.t 0), none, []⟩,
     ⟨some 7, .app 2 16 28 (.t 5) (.t 6), none, []⟩,
     ⟨some 2, .mv (.t 7), none, []⟩] none) <|
  .ret
abbrev n_slices_Clone__Bounds : Nat := 48
theorem b_slices_Clone__Bounds : bodyOf prog 48 [2, 5] = some (c_slices_Clone__Bounds, [.t 2], 8) := by kernel_rfl

def c_ledger_steps_1 : ACode :=
  .seq (.region [
     ⟨some 6, .load false 1 (.t 1), none, []⟩,
     ⟨some 7, .mv (.c (.int .i64 0)), none, []⟩] none) <|
  .block 0 <|
  .loop <|
  .seq (.region [
     ⟨some 8, .bin .lss (.t 7) (.t 6), none, []⟩] none) <|
  .seq (.cond (.t 8) (.skip) <|
   .exit 0) <|
  .seq (.block 1 <|
   .seq (.region [
      ⟨some 9, .mv (.t 7), none, []⟩,
      ⟨some 4, .mv (.t 9), none, []⟩] none) <|
   .seq (.region [
      ⟨some 10, .mv (.t 4), none, []⟩,
      ⟨some 5, .mv (.t 10), none, []⟩] none) <|
   .seq (.seq (.region [
       ⟨some 11, .load false 1 (.t 2), none, []⟩] none) <|
    .cond (.t 11) (.region [
       ⟨some 12, .load false 1 (.t 1), none, []⟩,
       ⟨some 13, .bin .sub (.t 12) (.c (.int .i64 1)), none, []⟩,
       ⟨some 14, .mv (.t 4), none, []⟩,
       ⟨some 15, .bin .sub (.t 13) (.t 14), none, []⟩,
       ⟨some 5, .mv (.t 15), none, []⟩] none) <|
    .skip) <|
   .seq (.region [
      ⟨some 16, .mv (.t 0), none, []⟩,
      ⟨some 17, .mv (.t 5), none, []⟩,
      ⟨some 18, .callv (.t 16) [.t 17], none, []⟩,
      ⟨some 19, .un .not (.t 18), none, []⟩] none) <|
   .cond (.t 19) (.ret) <|
   .skip) <|
  .region [
    ⟨some 20, .bin .add (.t 7) (.c (.int .i64 1)), none, []⟩,
    ⟨some 7, .mv (.t 20), none, []⟩] none
abbrev n_ledger_steps_1 : Nat := 49
theorem b_ledger_steps_1 : bodyOf prog 49 [1000000] = some (c_ledger_steps_1, [], 21) := by kernel_rfl

def c_quantity_Meet : ACode :=
  .seq (.region [
     ⟨some 2, .box 2 28 (.t 0), none, []⟩,
     ⟨some 3, .box 2 28 (.t 1), none, []⟩,
     ⟨some 4, .alloc 2 28 (.agg [.int .i64 0, .int .i64 0]), none, []⟩,
     ⟨some 5, .mv (.c (.bool false)), none, []⟩] none) <|
  .seq (.region [
     ⟨some 7, .fa 0 (.t 2), none, []⟩,
     ⟨some 8, .load false 1 (.t 7), none, []⟩,
     ⟨some 9, .fa 0 (.t 3), none, []⟩,
     ⟨some 10, .load false 1 (.t 9), none, []⟩,
     ⟨some 11, .mnx true (.t 8) [.t 10], none, []⟩,
     ⟨some 12, .fa 1 (.t 2), none, []⟩,
     ⟨some 13, .load false 1 (.t 12), none, []⟩,
     ⟨some 14, .fa 1 (.t 3), none, []⟩,
     ⟨some 15, .load false 1 (.t 14), none, []⟩,
     ⟨some 16, .mnx false (.t 13) [.t 15], none, []⟩,
     ⟨some 17, .build [.int .i64 0, .int .i64 0] [(0, 1, .t 11), (1, 1, .t 16)], none, []⟩,
     ⟨some 6, .alloc 2 28 (.agg [.int .i64 0, .int .i64 0]), none, []⟩,
     ⟨none, .store 2 (.t 6) (.t 17), none, []⟩] none) <|
  .seq (.seq (.region [
      ⟨some 18, .fa 0 (.t 2), none, []⟩,
      ⟨some 19, .load false 1 (.t 18), none, []⟩,
      ⟨some 20, .fa 1 (.t 2), none, []⟩,
      ⟨some 21, .load false 1 (.t 20), none, []⟩,
      ⟨some 22, .bin .gtr (.t 19) (.t 21), none, []⟩,
      ⟨some 23, .mv (.t 22), none, []⟩,
      ⟨some 24, .fa 0 (.t 3), some (23, false), []⟩,
      ⟨some 25, .load false 1 (.t 24), some (23, false), []⟩,
      ⟨some 26, .fa 1 (.t 3), some (23, false), []⟩,
      ⟨some 27, .load false 1 (.t 26), some (23, false), []⟩,
      ⟨some 28, .bin .gtr (.t 25) (.t 27), some (23, false), []⟩,
      ⟨some 29, .pick (.t 23) (.c (.bool true)) (.t 28), none, []⟩,
      ⟨some 30, .mv (.t 29), none, []⟩,
      ⟨some 31, .fa 0 (.t 6), some (30, false), []⟩,
      ⟨some 32, .load false 1 (.t 31), some (30, false), []⟩,
      ⟨some 33, .fa 1 (.t 6), some (30, false), []⟩,
      ⟨some 34, .load false 1 (.t 33), some (30, false), []⟩,
      ⟨some 35, .bin .gtr (.t 32) (.t 34), some (30, false), []⟩,
      ⟨some 36, .pick (.t 30) (.c (.bool true)) (.t 35), none, []⟩] none) <|
   .cond (.t 36) (.seq (.region [
       ⟨some 37, .build [.int .i64 0, .int .i64 0] [], none, []⟩,
       ⟨none, .store 2 (.t 4) (.t 37), none, []⟩,
       ⟨some 5, .mv (.c (.bool false)), none, []⟩] none) <|
    .ret) <|
   .skip) <|
  .seq (.region [
     ⟨some 38, .load true 2 (.t 6), none, []⟩,
     ⟨none, .store 2 (.t 4) (.t 38), none, []⟩,
     ⟨some 5, .mv (.c (.bool true)), none, []⟩] none) <|
  .ret
abbrev n_quantity_Meet : Nat := 50
theorem b_quantity_Meet : bodyOf prog 50 [] = some (c_quantity_Meet, [.c 4 true 2, .t 5], 39) := by kernel_rfl

def c_flow_Bounds : ACode :=
  .seq (.region [
     ⟨some 4, .alloc 2 28 (.agg [.int .i64 0, .int .i64 0]), none, []⟩] none) <|
  .seq (.seq (.region [
      ⟨some 5, .mv (.t 0), none, []⟩,
      ⟨some 6, .call 12 [.t 5, .c (.int .i64 4)], none, []⟩] none) <|
   .block 0 <|
   .seq (.region [
      ⟨some 8, .bin .eql (.t 6) (.c (.int .i64 0)), none, []⟩,
      ⟨some 7, .mv (.t 8), none, []⟩] none) <|
   .cond (.t 7) (.seq (.region [
       ⟨some 9, .mv (.t 1), none, []⟩,
       ⟨some 10, .mv (.t 1), none, []⟩,
       ⟨some 11, .build [.int .i64 0, .int .i64 0] [(0, 1, .t 9), (1, 1, .t 10)], none, []⟩,
       ⟨none, .store 2 (.t 4) (.t 11), none, []⟩] none) <|
    .ret) <|
   .seq (.region [
      ⟨some 13, .bin .eql (.t 6) (.c (.int .i64 1)), none, []⟩,
      ⟨some 12, .mv (.t 13), none, []⟩] none) <|
   .cond (.t 12) (.seq (.region [
       ⟨some 14, .mv (.t 1), none, []⟩,
       ⟨some 15, .mv (.t 0), none, []⟩,
       ⟨some 16, .call 12 [.t 15, .c (.int .i64 30)], none, []⟩,
       ⟨some 17, .bin .add (.t 14) (.t 16), none, []⟩,
       ⟨some 18, .build [.int .i64 0, .int .i64 0] [(0, 1, .c (.int .i64 0)), (1, 1, .t 17)], none, []⟩,
       ⟨none, .store 2 (.t 4) (.t 18), none, []⟩] none) <|
    .ret) <|
   .skip) <|
  .seq (.region [
     ⟨some 19, .mv (.t 1), none, []⟩,
     ⟨some 20, .mv (.t 0), none, []⟩,
     ⟨some 21, .mv (.t 1), none, []⟩,
     ⟨some 22, .mnx false (.t 21) [.c (.int .i64 6)], none, []⟩,
     ⟨some 23, .bin .add (.t 22) (.c (.int .i64 1)), none, []⟩,
     ⟨some 24, .call 12 [.t 20, .t 23], none, []⟩,
     ⟨some 25, .bin .sub (.t 19) (.t 24), none, []⟩,
     ⟨some 26, .mv (.t 1), none, []⟩,
     ⟨some 27, .mv (.t 0), none, []⟩,
     ⟨some 28, .call 12 [.t 27, .c (.int .i64 6)], none, []⟩,
     ⟨some 29, .bin .add (.t 26) (.t 28), none, []⟩,
     ⟨some 30, .build [.int .i64 0, .int .i64 0] [(0, 1, .t 25), (1, 1, .t 29)], none, []⟩,
     ⟨none, .store 2 (.t 4) (.t 30), none, []⟩] none) <|
  .ret
abbrev n_flow_Bounds : Nat := 51
theorem b_flow_Bounds : bodyOf prog 51 [1000000] = some (c_flow_Bounds, [.c 4 true 2], 31) := by kernel_rfl

end Go.Proofs.Try
