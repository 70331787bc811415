/-
  WRITTEN BY A PROGRAM OF OURS (tools/seat.py): the code of the functions of this seat, each checked by the kernel against the model.
-/
import Derived.Test.YtdjmeioampkncaaBaseQ
import Derived.Test.YtdjmeioampkncaaProg
import Derived.KernelRfl
namespace Go.Proofs.Try
open Go.Ab
def c_law35_RiseShifts : ACode :=
  .seq (.region [
     ⟨some 10, .mv (.c (.bool false)), none, []⟩] none) <|
  .seq (.seq (.region [
      ⟨some 20, .call 7 [], none, []⟩,
      ⟨some 21, .un .not (.t 20), none, []⟩] none) <|
   .cond (.t 21) (.seq (.region [
       ⟨some 10, .mv (.c (.bool false)), none, []⟩] none) <|
    .ret) <|
   .skip) <|
  .seq (.seq (.region [
      ⟨some 22, .mv (.t 0), none, []⟩,
      ⟨some 23, .len (.t 22), none, []⟩,
      ⟨some 24, .bin .gtr (.t 23) (.c (.int .i64 100)), none, []⟩,
      ⟨some 25, .mv (.t 24), none, []⟩,
      ⟨some 26, .mv (.t 1), some (25, false), []⟩,
      ⟨some 27, .len (.t 26), some (25, false), []⟩,
      ⟨some 28, .bin .gtr (.t 27) (.c (.int .i64 100)), some (25, false), []⟩,
      ⟨some 29, .pick (.t 25) (.c (.bool true)) (.t 28), none, []⟩,
      ⟨some 30, .mv (.t 29), none, []⟩,
      ⟨some 31, .mv (.t 2), some (30, false), []⟩,
      ⟨some 32, .len (.t 31), some (30, false), []⟩,
      ⟨some 33, .bin .gtr (.t 32) (.c (.int .i64 100)), some (30, false), []⟩,
      ⟨some 34, .pick (.t 30) (.c (.bool true)) (.t 33), none, []⟩] none) <|
   .cond (.t 34) (.seq (.region [
       ⟨some 10, .mv (.c (.bool true)), none, []⟩] none) <|
    .ret) <|
   .skip) <|
  .seq (.region [
     ⟨some 35, .mv (.t 3), none, []⟩,
     ⟨some 36, .bin .rem (.t 35) (.c (.int .u8 8)), none, []⟩,
     ⟨some 37, .conv .i64 (.t 36), none, []⟩,
     ⟨some 38, .bin .add (.c (.int .i64 1)) (.t 37), none, []⟩,
     ⟨some 11, .mv (.t 38), none, []⟩] none) <|
  .seq (.region [
     ⟨some 12, .newsl 1 3, none, []⟩,
     ⟨some 13, .newsl 1 3, none, []⟩,
     ⟨some 14, .newsl 1 3, none, []⟩,
     ⟨some 15, .newsl 1 3, none, []⟩] none) <|
  .seq (.seq (.region [
      ⟨some 39, .mv (.t 0), none, []⟩,
      ⟨some 40, .len (.t 39), none, []⟩,
      ⟨some 41, .mv (.c (.int .i64 0)), none, []⟩] none) <|
   .block 0 <|
   .loop <|
   .seq (.region [
      ⟨some 42, .bin .lss (.t 41) (.t 40), none, []⟩] none) <|
   .seq (.cond (.t 42) (.skip) <|
    .exit 0) <|
   .seq (.block 1 <|
    .seq (.region [
       ⟨some 43, .ixs 1 (.t 39) (.t 41), none, []⟩,
       ⟨some 44, .load false 1 (.t 43), none, []⟩,
       ⟨some 17, .mv (.t 44), none, []⟩] none) <|
    .region [
      ⟨some 45, .mv (.t 12), none, []⟩,
      ⟨some 46, .mv (.t 17), none, []⟩,
      ⟨some 47, .call 8 [.t 46, .c (.int .i64 50)], none, []⟩,
      ⟨some 48, .lit false 1 3 [.t 47], none, []⟩,
      ⟨some 49, .app 1 8 3 (.t 45) (.t 48), none, []⟩,
      ⟨some 50, .mv (.t 14), none, []⟩,
      ⟨some 51, .mv (.t 17), none, []⟩,
      ⟨some 52, .call 8 [.t 51, .c (.int .i64 50)], none, []⟩,
      ⟨some 53, .mv (.t 4), none, []⟩,
      ⟨some 54, .conv .i64 (.t 53), none, []⟩,
      ⟨some 55, .bin .add (.t 52) (.t 54), none, []⟩,
      ⟨some 56, .lit false 1 3 [.t 55], none, []⟩,
      ⟨some 57, .app 1 8 3 (.t 50) (.t 56), none, []⟩,
      ⟨some 12, .mv (.t 49), none, []⟩,
      ⟨some 14, .mv (.t 57), none, []⟩] none) <|
   .region [
     ⟨some 58, .bin .add (.t 41) (.c (.int .i64 1)), none, []⟩,
     ⟨some 41, .mv (.t 58), none, []⟩] none) <|
  .seq (.seq (.region [
      ⟨some 59, .mv (.t 1), none, []⟩,
      ⟨some 60, .len (.t 59), none, []⟩,
      ⟨some 61, .mv (.c (.int .i64 0)), none, []⟩] none) <|
   .block 2 <|
   .loop <|
   .seq (.region [
      ⟨some 62, .bin .lss (.t 61) (.t 60), none, []⟩] none) <|
   .seq (.cond (.t 62) (.skip) <|
    .exit 2) <|
   .seq (.block 3 <|
    .seq (.region [
       ⟨some 63, .ixs 1 (.t 59) (.t 61), none, []⟩,
       ⟨some 64, .load false 1 (.t 63), none, []⟩,
       ⟨some 19, .mv (.t 64), none, []⟩] none) <|
    .region [
      ⟨some 65, .mv (.t 13), none, []⟩,
      ⟨some 66, .mv (.t 19), none, []⟩,
      ⟨some 67, .call 8 [.t 66, .c (.int .i64 50)], none, []⟩,
      ⟨some 68, .lit false 1 3 [.t 67], none, []⟩,
      ⟨some 69, .app 1 8 3 (.t 65) (.t 68), none, []⟩,
      ⟨some 70, .mv (.t 15), none, []⟩,
      ⟨some 71, .mv (.t 19), none, []⟩,
      ⟨some 72, .call 8 [.t 71, .c (.int .i64 50)], none, []⟩,
      ⟨some 73, .mv (.t 4), none, []⟩,
      ⟨some 74, .conv .i64 (.t 73), none, []⟩,
      ⟨some 75, .bin .add (.t 72) (.t 74), none, []⟩,
      ⟨some 76, .lit false 1 3 [.t 75], none, []⟩,
      ⟨some 77, .app 1 8 3 (.t 70) (.t 76), none, []⟩,
      ⟨some 13, .mv (.t 69), none, []⟩,
      ⟨some 15, .mv (.t 77), none, []⟩] none) <|
   .region [
     ⟨some 78, .bin .add (.t 61) (.c (.int .i64 1)), none, []⟩,
     ⟨some 61, .mv (.t 78), none, []⟩] none) <|
  .seq (.seq (.region [
      ⟨some 79, .mv (.t 12), none, []⟩,
      ⟨some 80, .mv (.t 13), none, []⟩,
      ⟨some 81, .mv (.t 11), none, []⟩,
      ⟨some 82, .call 9 [.t 79, .t 80, .t 81], none, []⟩,
      ⟨some 83, .mv (.t 14), none, []⟩,
      ⟨some 84, .mv (.t 15), none, []⟩,
      ⟨some 85, .mv (.t 11), none, []⟩,
      ⟨some 86, .call 9 [.t 83, .t 84, .t 85], none, []⟩,
      ⟨some 87, .bin .neq (.t 82) (.t 86), none, []⟩] none) <|
   .cond (.t 87) (.seq (.region [
       ⟨some 10, .mv (.c (.bool false)), none, []⟩] none) <|
    .ret) <|
   .skip) <|
  .seq (.seq (.region [
      ⟨some 88, .mv (.t 12), none, []⟩,
      ⟨some 89, .len (.t 88), none, []⟩,
      ⟨some 90, .mv (.t 11), none, []⟩,
      ⟨some 91, .bin .lss (.t 89) (.t 90), none, []⟩] none) <|
   .cond (.t 91) (.seq (.region [
       ⟨some 10, .mv (.c (.bool true)), none, []⟩] none) <|
    .ret) <|
   .skip) <|
  .seq (.region [
     ⟨some 92, .mv (.t 2), none, []⟩,
     ⟨some 93, .call 10 [.t 92], none, []⟩,
     ⟨some 94, .mv (.t 12), none, []⟩,
     ⟨some 95, .app 1 8 3 (.t 93) (.t 94), none, []⟩,
     ⟨some 96, .mv (.t 13), none, []⟩,
     ⟨some 97, .mv (.t 11), none, []⟩,
     ⟨some 98, .call 9 [.t 95, .t 96, .t 97], none, []⟩,
     ⟨some 99, .mv (.t 12), none, []⟩,
     ⟨some 100, .mv (.t 13), none, []⟩,
     ⟨some 101, .mv (.t 11), none, []⟩,
     ⟨some 102, .call 9 [.t 99, .t 100, .t 101], none, []⟩,
     ⟨some 103, .bin .eql (.t 98) (.t 102), none, []⟩,
     ⟨some 10, .mv (.t 103), none, []⟩] none) <|
  .ret
abbrev n_law35_RiseShifts : Nat := 3
theorem b_law35_RiseShifts : bodyOf prog 3 [12, 13, 14, 15] = some (c_law35_RiseShifts, [.t 10], 104) := by kernel_rfl

def c_law35_RiseTells : ACode :=
  .seq (.region [
     ⟨some 14, .mv (.c (.bool false)), none, []⟩] none) <|
  .seq (.seq (.region [
      ⟨some 32, .call 7 [], none, []⟩,
      ⟨some 33, .un .not (.t 32), none, []⟩] none) <|
   .cond (.t 33) (.seq (.region [
       ⟨some 14, .mv (.c (.bool false)), none, []⟩] none) <|
    .ret) <|
   .skip) <|
  .seq (.seq (.region [
      ⟨some 34, .mv (.t 0), none, []⟩,
      ⟨some 35, .len (.t 34), none, []⟩,
      ⟨some 36, .bin .gtr (.t 35) (.c (.int .i64 400)), none, []⟩,
      ⟨some 37, .mv (.t 36), none, []⟩,
      ⟨some 38, .mv (.t 1), some (37, false), []⟩,
      ⟨some 39, .len (.t 38), some (37, false), []⟩,
      ⟨some 40, .bin .gtr (.t 39) (.c (.int .i64 400)), some (37, false), []⟩,
      ⟨some 41, .pick (.t 37) (.c (.bool true)) (.t 40), none, []⟩] none) <|
   .cond (.t 41) (.seq (.region [
       ⟨some 14, .mv (.c (.bool true)), none, []⟩] none) <|
    .ret) <|
   .skip) <|
  .seq (.region [
     ⟨some 42, .mv (.t 0), none, []⟩,
     ⟨some 43, .call 10 [.t 42], none, []⟩,
     ⟨some 44, .mv (.t 1), none, []⟩,
     ⟨some 45, .call 10 [.t 44], none, []⟩,
     ⟨some 15, .mv (.t 43), none, []⟩,
     ⟨some 16, .mv (.t 45), none, []⟩] none) <|
  .seq (.seq (.region [
      ⟨some 46, .mv (.t 2), none, []⟩,
      ⟨some 47, .mv (.t 2), none, []⟩,
      ⟨some 48, .call 8 [.t 47, .c (.int .i64 6)], none, []⟩,
      ⟨some 49, .lit false 1 3 [.t 46, .t 48], none, []⟩,
      ⟨some 50, .len (.t 49), none, []⟩,
      ⟨some 51, .mv (.c (.int .i64 0)), none, []⟩] none) <|
   .block 0 <|
   .loop <|
   .seq (.region [
      ⟨some 52, .bin .lss (.t 51) (.t 50), none, []⟩] none) <|
   .seq (.cond (.t 52) (.skip) <|
    .exit 0) <|
   .seq (.block 1 <|
    .seq (.region [
       ⟨some 53, .ixs 1 (.t 49) (.t 51), none, []⟩,
       ⟨some 54, .load false 1 (.t 53), none, []⟩,
       ⟨some 18, .mv (.t 54), none, []⟩] none) <|
    .seq (.seq (.region [
        ⟨some 55, .mv (.t 4), none, []⟩,
        ⟨some 56, .call 8 [.t 55, .c (.int .i64 1073741825)], none, []⟩,
        ⟨some 57, .mv (.t 4), none, []⟩,
        ⟨some 58, .call 8 [.t 57, .c (.int .i64 20)], none, []⟩,
        ⟨some 59, .lit false 1 3 [.t 56, .t 58], none, []⟩,
        ⟨some 60, .len (.t 59), none, []⟩,
        ⟨some 61, .mv (.c (.int .i64 0)), none, []⟩] none) <|
     .block 2 <|
     .loop <|
     .seq (.region [
        ⟨some 62, .bin .lss (.t 61) (.t 60), none, []⟩] none) <|
     .seq (.cond (.t 62) (.skip) <|
      .exit 2) <|
     .seq (.block 3 <|
      .seq (.region [
         ⟨some 63, .ixs 1 (.t 59) (.t 61), none, []⟩,
         ⟨some 64, .load false 1 (.t 63), none, []⟩,
         ⟨some 20, .mv (.t 64), none, []⟩] none) <|
      .seq (.region [
         ⟨some 66, .mv (.t 15), none, []⟩,
         ⟨some 67, .mv (.t 16), none, []⟩,
         ⟨some 68, .mv (.t 18), none, []⟩,
         ⟨some 69, .mv (.t 20), none, []⟩,
         ⟨some 70, .call 11 [.t 66, .t 67, .t 68, .t 69], none, []⟩,
         ⟨some 65, .mv (.t 70), none, []⟩,
         ⟨some 71, .ext (.t 65) 0, none, []⟩,
         ⟨some 72, .ext (.t 65) 1, none, []⟩,
         ⟨some 21, .mv (.t 71), none, []⟩,
         ⟨some 22, .mv (.t 72), none, []⟩] none) <|
      .seq (.region [
         ⟨some 74, .mv (.t 15), none, []⟩,
         ⟨some 75, .mv (.t 16), none, []⟩,
         ⟨some 76, .mv (.t 18), none, []⟩,
         ⟨some 77, .mv (.t 20), none, []⟩,
         ⟨some 78, .call 12 [.t 74, .t 75, .t 76, .t 77], none, []⟩,
         ⟨some 73, .mv (.t 78), none, []⟩,
         ⟨some 79, .ext (.t 73) 0, none, []⟩,
         ⟨some 80, .ext (.t 73) 1, none, []⟩,
         ⟨some 23, .mv (.t 79), none, []⟩,
         ⟨some 24, .mv (.t 80), none, []⟩] none) <|
      .seq (.region [
         ⟨some 81, .mv (.t 21), none, []⟩,
         ⟨some 82, .mv (.t 23), none, []⟩,
         ⟨some 83, .bin .neq (.t 81) (.t 82), none, []⟩,
         ⟨some 84, .mv (.t 83), none, []⟩,
         ⟨some 85, .mv (.t 22), some (84, false), []⟩,
         ⟨some 86, .mv (.t 24), some (84, false), []⟩,
         ⟨some 87, .eqb true (.t 85) (.t 86), some (84, false), []⟩,
         ⟨some 88, .pick (.t 84) (.c (.bool true)) (.t 87), none, []⟩,
         ⟨some 89, .mv (.t 88), none, []⟩,
         ⟨some 90, .mv (.t 15), some (89, false), []⟩,
         ⟨some 91, .mv (.t 18), some (89, false), []⟩,
         ⟨some 92, .mv (.t 20), some (89, false), []⟩,
         ⟨some 93, .call 13 [.t 90, .t 91, .t 92], some (89, false), []⟩,
         ⟨some 94, .mv (.t 15), some (89, false), []⟩,
         ⟨some 95, .mv (.t 18), some (89, false), []⟩,
         ⟨some 96, .mv (.t 20), some (89, false), []⟩,
         ⟨some 97, .call 14 [.t 94, .t 95, .t 96], some (89, false), []⟩,
         ⟨some 98, .bin .neq (.t 93) (.t 97), some (89, false), []⟩,
         ⟨some 99, .pick (.t 89) (.c (.bool true)) (.t 98), none, []⟩] none) <|
      .cond (.t 99) (.seq (.region [
          ⟨some 14, .mv (.c (.bool false)), none, []⟩] none) <|
       .ret) <|
      .skip) <|
     .region [
       ⟨some 100, .bin .add (.t 61) (.c (.int .i64 1)), none, []⟩,
       ⟨some 61, .mv (.t 100), none, []⟩] none) <|
    .seq (.region [
       ⟨some 101, .mv (.t 3), none, []⟩,
       ⟨some 102, .call 8 [.t 101, .c (.int .i64 1073741825)], none, []⟩,
       ⟨some 25, .mv (.t 102), none, []⟩] none) <|
    .seq (.seq (.region [
        ⟨some 103, .mv (.t 15), none, []⟩,
        ⟨some 104, .mv (.t 18), none, []⟩,
        ⟨some 105, .mv (.t 25), none, []⟩,
        ⟨some 106, .call 15 [.t 103, .t 104, .t 105], none, []⟩,
        ⟨some 107, .mv (.t 15), none, []⟩,
        ⟨some 108, .mv (.t 18), none, []⟩,
        ⟨some 109, .mv (.t 25), none, []⟩,
        ⟨some 110, .call 16 [.t 107, .t 108, .t 109], none, []⟩,
        ⟨some 111, .bin .neq (.t 106) (.t 110), none, []⟩,
        ⟨some 112, .mv (.t 111), none, []⟩,
        ⟨some 113, .mv (.t 15), some (112, false), []⟩,
        ⟨some 114, .mv (.t 16), some (112, false), []⟩,
        ⟨some 115, .mv (.t 18), some (112, false), []⟩,
        ⟨some 116, .call 9 [.t 113, .t 114, .t 115], some (112, false), []⟩,
        ⟨some 117, .mv (.t 15), some (112, false), []⟩,
        ⟨some 118, .mv (.t 16), some (112, false), []⟩,
        ⟨some 119, .mv (.t 18), some (112, false), []⟩,
        ⟨some 120, .call 17 [.t 117, .t 118, .t 119], some (112, false), []⟩,
        ⟨some 121, .bin .neq (.t 116) (.t 120), some (112, false), []⟩,
        ⟨some 122, .pick (.t 112) (.c (.bool true)) (.t 121), none, []⟩] none) <|
     .cond (.t 122) (.seq (.region [
         ⟨some 14, .mv (.c (.bool false)), none, []⟩] none) <|
      .ret) <|
     .skip) <|
    .seq (.region [
       ⟨some 123, .mv (.t 4), none, []⟩,
       ⟨some 124, .mv (.t 5), none, []⟩,
       ⟨some 125, .mv (.t 6), none, []⟩,
       ⟨some 126, .build [.int .i64 0, .int .i64 0, .int .i64 0] [(0, 1, .t 123), (1, 1, .t 124), (2, 1, .t 125)], none, []⟩,
       ⟨some 127, .mv (.t 4), none, []⟩,
       ⟨some 128, .call 8 [.t 127, .c (.int .i64 9)], none, []⟩,
       ⟨some 129, .mv (.t 5), none, []⟩,
       ⟨some 130, .call 8 [.t 129, .c (.int .i64 60)], none, []⟩,
       ⟨some 131, .mv (.t 6), none, []⟩,
       ⟨some 132, .call 8 [.t 131, .c (.int .i64 20)], none, []⟩,
       ⟨some 133, .build [.int .i64 0, .int .i64 0, .int .i64 0] [(0, 1, .t 128), (1, 1, .t 130), (2, 1, .t 132)], none, []⟩,
       ⟨some 134, .lit false 3 31 [.t 126, .t 133], none, []⟩,
       ⟨some 135, .len (.t 134), none, []⟩,
       ⟨some 136, .mv (.c (.int .i64 0)), none, []⟩] none) <|
    .block 4 <|
    .loop <|
    .seq (.region [
       ⟨some 137, .bin .lss (.t 136) (.t 135), none, []⟩] none) <|
    .seq (.cond (.t 137) (.skip) <|
     .exit 4) <|
    .seq (.block 5 <|
     .seq (.region [
        ⟨some 138, .ixs 3 (.t 134) (.t 136), none, []⟩,
        ⟨some 139, .load true 3 (.t 138), none, []⟩,
        ⟨some 27, .alloc 3 31 (.agg [.int .i64 0, .int .i64 0, .int .i64 0]), none, []⟩,
        ⟨none, .store 3 (.t 27) (.t 139), none, []⟩] none) <|
     .seq (.region [
        ⟨some 141, .mv (.t 15), none, []⟩,
        ⟨some 142, .mv (.t 18), none, []⟩,
        ⟨some 143, .pu (.aixs 1 3) [.t 27, .c (.int .i64 0)], none, []⟩,
        ⟨some 144, .load false 1 (.t 143), none, []⟩,
        ⟨some 145, .pu (.aixs 1 3) [.t 27, .c (.int .i64 1)], none, []⟩,
        ⟨some 146, .load false 1 (.t 145), none, []⟩,
        ⟨some 147, .pu (.aixs 1 3) [.t 27, .c (.int .i64 2)], none, []⟩,
        ⟨some 148, .load false 1 (.t 147), none, []⟩,
        ⟨some 149, .call 18 [.t 141, .t 142, .t 144, .t 146, .t 148], none, []⟩,
        ⟨some 140, .mv (.t 149), none, []⟩,
        ⟨some 150, .ext (.t 140) 0, none, []⟩,
        ⟨some 151, .ext (.t 140) 1, none, []⟩,
        ⟨some 28, .mv (.t 150), none, []⟩,
        ⟨some 29, .mv (.t 151), none, []⟩] none) <|
     .seq (.region [
        ⟨some 153, .mv (.t 15), none, []⟩,
        ⟨some 154, .mv (.t 18), none, []⟩,
        ⟨some 155, .pu (.aixs 1 3) [.t 27, .c (.int .i64 0)], none, []⟩,
        ⟨some 156, .load false 1 (.t 155), none, []⟩,
        ⟨some 157, .pu (.aixs 1 3) [.t 27, .c (.int .i64 1)], none, []⟩,
        ⟨some 158, .load false 1 (.t 157), none, []⟩,
        ⟨some 159, .pu (.aixs 1 3) [.t 27, .c (.int .i64 2)], none, []⟩,
        ⟨some 160, .load false 1 (.t 159), none, []⟩,
        ⟨some 161, .call 19 [.t 153, .t 154, .t 156, .t 158, .t 160], none, []⟩,
        ⟨some 152, .mv (.t 161), none, []⟩,
        ⟨some 162, .ext (.t 152) 0, none, []⟩,
        ⟨some 163, .ext (.t 152) 1, none, []⟩,
        ⟨some 30, .mv (.t 162), none, []⟩,
        ⟨some 31, .mv (.t 163), none, []⟩] none) <|
     .seq (.region [
        ⟨some 164, .mv (.t 29), none, []⟩,
        ⟨some 165, .mv (.t 31), none, []⟩,
        ⟨some 166, .bin .neq (.t 164) (.t 165), none, []⟩,
        ⟨some 167, .mv (.t 166), none, []⟩,
        ⟨some 168, .mv (.t 28), some (167, false), []⟩,
        ⟨some 169, .mv (.t 30), some (167, false), []⟩,
        ⟨some 170, .call 20 [.t 168, .t 169], some (167, false), []⟩,
        ⟨some 171, .un .not (.t 170), some (167, false), []⟩,
        ⟨some 172, .pick (.t 167) (.c (.bool true)) (.t 171), none, []⟩] none) <|
     .cond (.t 172) (.seq (.region [
         ⟨some 14, .mv (.c (.bool false)), none, []⟩] none) <|
      .ret) <|
     .skip) <|
    .region [
      ⟨some 173, .bin .add (.t 136) (.c (.int .i64 1)), none, []⟩,
      ⟨some 136, .mv (.t 173), none, []⟩] none) <|
   .region [
     ⟨some 174, .bin .add (.t 51) (.c (.int .i64 1)), none, []⟩,
     ⟨some 51, .mv (.t 174), none, []⟩] none) <|
  .seq (.region [
     ⟨some 14, .mv (.c (.bool true)), none, []⟩] none) <|
  .ret
abbrev n_law35_RiseTells : Nat := 4
theorem b_law35_RiseTells : bodyOf prog 4 [] = some (c_law35_RiseTells, [.t 14], 175) := by kernel_rfl

def c_law35_RisePaths : ACode :=
  .seq (.region [
     ⟨some 10, .mv (.c (.bool false)), none, []⟩] none) <|
  .seq (.seq (.region [
      ⟨some 23, .call 7 [], none, []⟩,
      ⟨some 24, .un .not (.t 23), none, []⟩] none) <|
   .cond (.t 24) (.seq (.region [
       ⟨some 10, .mv (.c (.bool false)), none, []⟩] none) <|
    .ret) <|
   .skip) <|
  .seq (.seq (.region [
      ⟨some 25, .mv (.t 0), none, []⟩,
      ⟨some 26, .len (.t 25), none, []⟩,
      ⟨some 27, .bin .gtr (.t 26) (.c (.int .i64 100)), none, []⟩,
      ⟨some 28, .mv (.t 27), none, []⟩,
      ⟨some 29, .mv (.t 1), some (28, false), []⟩,
      ⟨some 30, .len (.t 29), some (28, false), []⟩,
      ⟨some 31, .bin .gtr (.t 30) (.c (.int .i64 100)), some (28, false), []⟩,
      ⟨some 32, .pick (.t 28) (.c (.bool true)) (.t 31), none, []⟩] none) <|
   .cond (.t 32) (.seq (.region [
       ⟨some 10, .mv (.c (.bool true)), none, []⟩] none) <|
    .ret) <|
   .skip) <|
  .seq (.region [
     ⟨some 33, .mv (.t 0), none, []⟩,
     ⟨some 34, .call 10 [.t 33], none, []⟩,
     ⟨some 11, .mv (.t 34), none, []⟩] none) <|
  .seq (.region [
     ⟨some 35, .mv (.t 2), none, []⟩,
     ⟨some 36, .bin .rem (.t 35) (.c (.int .u8 8)), none, []⟩,
     ⟨some 37, .conv .i64 (.t 36), none, []⟩,
     ⟨some 38, .bin .add (.c (.int .i64 1)) (.t 37), none, []⟩,
     ⟨some 39, .mv (.t 3), none, []⟩,
     ⟨some 40, .bin .rem (.t 39) (.c (.int .u8 20)), none, []⟩,
     ⟨some 41, .conv .i64 (.t 40), none, []⟩,
     ⟨some 42, .mv (.t 4), none, []⟩,
     ⟨some 43, .bin .rem (.t 42) (.c (.int .u8 90)), none, []⟩,
     ⟨some 44, .conv .i64 (.t 43), none, []⟩,
     ⟨some 12, .mv (.t 38), none, []⟩,
     ⟨some 13, .mv (.t 41), none, []⟩,
     ⟨some 14, .mv (.t 44), none, []⟩] none) <|
  .seq (.region [
     ⟨some 46, .mv (.t 11), none, []⟩,
     ⟨some 47, .mv (.t 12), none, []⟩,
     ⟨some 48, .mv (.t 13), none, []⟩,
     ⟨some 49, .mv (.t 14), none, []⟩,
     ⟨some 50, .mv (.t 1), none, []⟩,
     ⟨some 51, .len (.t 50), none, []⟩,
     ⟨some 52, .call 18 [.t 46, .t 47, .t 48, .t 49, .t 51], none, []⟩,
     ⟨some 45, .mv (.t 52), none, []⟩,
     ⟨some 53, .ext (.t 45) 0, none, []⟩,
     ⟨some 54, .ext (.t 45) 1, none, []⟩,
     ⟨some 15, .mv (.t 53), none, []⟩,
     ⟨some 16, .mv (.t 54), none, []⟩] none) <|
  .seq (.seq (.region [
      ⟨some 56, .mv (.t 11), none, []⟩,
      ⟨some 57, .mv (.t 15), none, []⟩,
      ⟨some 58, .mv (.t 12), none, []⟩,
      ⟨some 59, .mv (.t 13), none, []⟩,
      ⟨some 60, .call 11 [.t 56, .t 57, .t 58, .t 59], none, []⟩,
      ⟨some 55, .mv (.t 60), none, []⟩,
      ⟨some 61, .ext (.t 55) 0, none, []⟩,
      ⟨some 62, .ext (.t 55) 1, none, []⟩,
      ⟨some 17, .mv (.t 61), none, []⟩,
      ⟨some 18, .mv (.t 62), none, []⟩] none) <|
   .seq (.region [
      ⟨some 63, .mv (.t 16), none, []⟩,
      ⟨some 64, .bin .neq (.t 63) (.c (.int .i64 0)), none, []⟩,
      ⟨some 65, .mv (.t 64), none, []⟩,
      ⟨some 66, .mv (.t 18), some (65, false), []⟩,
      ⟨some 67, .pick (.t 65) (.c (.bool true)) (.t 66), none, []⟩,
      ⟨some 68, .mv (.t 67), none, []⟩,
      ⟨some 69, .mv (.t 15), some (68, false), []⟩,
      ⟨some 70, .len (.t 69), some (68, false), []⟩,
      ⟨some 71, .mv (.t 1), some (68, false), []⟩,
      ⟨some 72, .len (.t 71), some (68, false), []⟩,
      ⟨some 73, .bin .neq (.t 70) (.t 72), some (68, false), []⟩,
      ⟨some 74, .pick (.t 68) (.c (.bool true)) (.t 73), none, []⟩] none) <|
   .cond (.t 74) (.seq (.region [
       ⟨some 10, .mv (.c (.bool false)), none, []⟩] none) <|
    .ret) <|
   .skip) <|
  .seq (.region [
     ⟨some 75, .mv (.t 11), none, []⟩,
     ⟨some 76, .appn 1 8 3 (.t 75), none, []⟩,
     ⟨some 19, .mv (.t 76), none, []⟩] none) <|
  .seq (.seq (.region [
      ⟨some 77, .mv (.t 1), none, []⟩,
      ⟨some 78, .len (.t 77), none, []⟩,
      ⟨some 79, .mv (.c (.int .i64 0)), none, []⟩] none) <|
   .block 0 <|
   .loop <|
   .seq (.region [
      ⟨some 80, .bin .lss (.t 79) (.t 78), none, []⟩] none) <|
   .seq (.cond (.t 80) (.skip) <|
    .exit 0) <|
   .seq (.block 1 <|
    .seq (.region [
       ⟨some 81, .mv (.t 79), none, []⟩,
       ⟨some 82, .ixs 1 (.t 77) (.t 79), none, []⟩,
       ⟨some 83, .load false 1 (.t 82), none, []⟩,
       ⟨some 20, .mv (.t 81), none, []⟩,
       ⟨some 21, .mv (.t 83), none, []⟩] none) <|
    .seq (.region [
       ⟨some 84, .mv (.t 21), none, []⟩,
       ⟨some 85, .mv (.t 14), none, []⟩,
       ⟨some 86, .bin .add (.t 85) (.c (.int .i64 1)), none, []⟩,
       ⟨some 87, .call 8 [.t 84, .t 86], none, []⟩,
       ⟨some 88, .mv (.t 19), none, []⟩,
       ⟨some 89, .mv (.t 12), none, []⟩,
       ⟨some 90, .mv (.t 13), none, []⟩,
       ⟨some 91, .call 13 [.t 88, .t 89, .t 90], none, []⟩,
       ⟨some 92, .mnx false (.t 87) [.t 91], none, []⟩,
       ⟨some 22, .mv (.t 92), none, []⟩] none) <|
    .seq (.seq (.region [
        ⟨some 93, .mv (.t 22), none, []⟩,
        ⟨some 94, .mv (.t 15), none, []⟩,
        ⟨some 95, .mv (.t 20), none, []⟩,
        ⟨some 96, .ixs 1 (.t 94) (.t 95), none, []⟩,
        ⟨some 97, .load false 1 (.t 96), none, []⟩,
        ⟨some 98, .bin .gtr (.t 93) (.t 97), none, []⟩] none) <|
     .cond (.t 98) (.seq (.region [
         ⟨some 10, .mv (.c (.bool false)), none, []⟩] none) <|
      .ret) <|
     .skip) <|
    .region [
      ⟨some 99, .mv (.t 19), none, []⟩,
      ⟨some 100, .mv (.t 22), none, []⟩,
      ⟨some 101, .lit false 1 3 [.t 100], none, []⟩,
      ⟨some 102, .app 1 8 3 (.t 99) (.t 101), none, []⟩,
      ⟨some 19, .mv (.t 102), none, []⟩] none) <|
   .region [
     ⟨some 103, .bin .add (.t 79) (.c (.int .i64 1)), none, []⟩,
     ⟨some 79, .mv (.t 103), none, []⟩] none) <|
  .seq (.region [
     ⟨some 10, .mv (.c (.bool true)), none, []⟩] none) <|
  .ret
abbrev n_law35_RisePaths : Nat := 5
theorem b_law35_RisePaths : bodyOf prog 5 [76] = some (c_law35_RisePaths, [.t 10], 104) := by kernel_rfl

def c_law35_RiseLimits : ACode :=
  .seq (.region [
     ⟨some 10, .mv (.c (.bool false)), none, []⟩] none) <|
  .seq (.seq (.region [
      ⟨some 26, .call 7 [], none, []⟩,
      ⟨some 27, .un .not (.t 26), none, []⟩] none) <|
   .cond (.t 27) (.seq (.region [
       ⟨some 10, .mv (.c (.bool false)), none, []⟩] none) <|
    .ret) <|
   .skip) <|
  .seq (.seq (.region [
      ⟨some 28, .mv (.t 0), none, []⟩,
      ⟨some 29, .len (.t 28), none, []⟩,
      ⟨some 30, .bin .gtr (.t 29) (.c (.int .i64 100)), none, []⟩,
      ⟨some 31, .mv (.t 30), none, []⟩,
      ⟨some 32, .mv (.t 1), some (31, false), []⟩,
      ⟨some 33, .len (.t 32), some (31, false), []⟩,
      ⟨some 34, .bin .gtr (.t 33) (.c (.int .i64 100)), some (31, false), []⟩,
      ⟨some 35, .pick (.t 31) (.c (.bool true)) (.t 34), none, []⟩] none) <|
   .cond (.t 35) (.seq (.region [
       ⟨some 10, .mv (.c (.bool true)), none, []⟩] none) <|
    .ret) <|
   .skip) <|
  .seq (.region [
     ⟨some 36, .mv (.t 0), none, []⟩,
     ⟨some 37, .call 10 [.t 36], none, []⟩,
     ⟨some 38, .mv (.t 1), none, []⟩,
     ⟨some 39, .call 10 [.t 38], none, []⟩,
     ⟨some 11, .mv (.t 37), none, []⟩,
     ⟨some 12, .mv (.t 39), none, []⟩] none) <|
  .seq (.region [
     ⟨some 40, .mv (.t 2), none, []⟩,
     ⟨some 41, .bin .rem (.t 40) (.c (.int .u8 8)), none, []⟩,
     ⟨some 42, .conv .i64 (.t 41), none, []⟩,
     ⟨some 43, .bin .add (.c (.int .i64 1)) (.t 42), none, []⟩,
     ⟨some 44, .mv (.t 3), none, []⟩,
     ⟨some 45, .conv .i64 (.t 44), none, []⟩,
     ⟨some 13, .mv (.t 43), none, []⟩,
     ⟨some 14, .mv (.t 45), none, []⟩] none) <|
  .seq (.region [
     ⟨some 47, .mv (.t 11), none, []⟩,
     ⟨some 48, .mv (.t 12), none, []⟩,
     ⟨some 49, .mv (.t 13), none, []⟩,
     ⟨some 50, .mv (.t 14), none, []⟩,
     ⟨some 51, .call 11 [.t 47, .t 48, .t 49, .t 50], none, []⟩,
     ⟨some 46, .mv (.t 51), none, []⟩,
     ⟨some 52, .ext (.t 46) 0, none, []⟩,
     ⟨some 53, .ext (.t 46) 1, none, []⟩,
     ⟨some 15, .mv (.t 52), none, []⟩,
     ⟨some 16, .mv (.t 53), none, []⟩] none) <|
  .seq (.region [
     ⟨some 55, .mv (.t 11), none, []⟩,
     ⟨some 56, .mv (.t 12), none, []⟩,
     ⟨some 57, .mv (.t 13), none, []⟩,
     ⟨some 58, .mv (.t 14), none, []⟩,
     ⟨some 59, .mv (.t 4), none, []⟩,
     ⟨some 60, .conv .i64 (.t 59), none, []⟩,
     ⟨some 61, .bin .add (.t 58) (.t 60), none, []⟩,
     ⟨some 62, .call 11 [.t 55, .t 56, .t 57, .t 61], none, []⟩,
     ⟨some 54, .mv (.t 62), none, []⟩,
     ⟨some 63, .ext (.t 54) 0, none, []⟩,
     ⟨some 64, .ext (.t 54) 1, none, []⟩,
     ⟨some 17, .mv (.t 63), none, []⟩,
     ⟨some 18, .mv (.t 64), none, []⟩] none) <|
  .seq (.region [
     ⟨some 66, .mv (.t 11), none, []⟩,
     ⟨some 67, .mv (.t 12), none, []⟩,
     ⟨some 68, .mv (.t 2), none, []⟩,
     ⟨some 69, .bin .rem (.t 68) (.c (.int .u8 8)), none, []⟩,
     ⟨some 70, .conv .i64 (.t 69), none, []⟩,
     ⟨some 71, .bin .quo (.t 70) (.c (.int .i64 2)), none, []⟩,
     ⟨some 72, .bin .add (.c (.int .i64 1)) (.t 71), none, []⟩,
     ⟨some 73, .mv (.t 14), none, []⟩,
     ⟨some 74, .call 11 [.t 66, .t 67, .t 72, .t 73], none, []⟩,
     ⟨some 65, .mv (.t 74), none, []⟩,
     ⟨some 75, .ext (.t 65) 0, none, []⟩,
     ⟨some 76, .ext (.t 65) 1, none, []⟩,
     ⟨some 19, .mv (.t 75), none, []⟩,
     ⟨some 20, .mv (.t 76), none, []⟩] none) <|
  .seq (.seq (.region [
      ⟨some 77, .mv (.t 18), none, []⟩,
      ⟨some 78, .mv (.t 77), none, []⟩,
      ⟨some 79, .mv (.t 16), some (78, true), []⟩,
      ⟨some 80, .un .not (.t 79), some (78, true), []⟩,
      ⟨some 81, .mv (.t 80), some (78, true), []⟩,
      ⟨some 82, .mv (.t 17), some (81, false), []⟩,
      ⟨some 83, .mv (.t 15), some (81, false), []⟩,
      ⟨some 84, .bin .lss (.t 82) (.t 83), some (81, false), []⟩,
      ⟨some 85, .pick (.t 81) (.c (.bool true)) (.t 84), some (78, true), []⟩,
      ⟨some 86, .pick (.t 78) (.t 85) (.c (.bool false)), none, []⟩,
      ⟨some 87, .mv (.t 86), none, []⟩,
      ⟨some 88, .mv (.t 20), some (87, false), []⟩,
      ⟨some 89, .mv (.t 88), some (87, false), []⟩,
      ⟨some 90, .mv (.t 16), some (89, true), []⟩,
      ⟨some 91, .un .not (.t 90), some (89, true), []⟩,
      ⟨some 92, .mv (.t 91), some (89, true), []⟩,
      ⟨some 93, .mv (.t 19), some (92, false), []⟩,
      ⟨some 94, .mv (.t 15), some (92, false), []⟩,
      ⟨some 95, .bin .lss (.t 93) (.t 94), some (92, false), []⟩,
      ⟨some 96, .pick (.t 92) (.c (.bool true)) (.t 95), some (89, true), []⟩,
      ⟨some 97, .pick (.t 89) (.t 96) (.c (.bool false)), some (87, false), []⟩,
      ⟨some 98, .pick (.t 87) (.c (.bool true)) (.t 97), none, []⟩] none) <|
   .cond (.t 98) (.seq (.region [
       ⟨some 10, .mv (.c (.bool false)), none, []⟩] none) <|
    .ret) <|
   .skip) <|
  .seq (.region [
     ⟨some 99, .mv (.t 11), none, []⟩,
     ⟨some 100, .mv (.t 12), none, []⟩,
     ⟨some 101, .mv (.t 13), none, []⟩,
     ⟨some 102, .call 9 [.t 99, .t 100, .t 101], none, []⟩,
     ⟨some 21, .mv (.t 102), none, []⟩] none) <|
  .seq (.region [
     ⟨some 104, .mv (.t 11), none, []⟩,
     ⟨some 105, .mv (.t 12), none, []⟩,
     ⟨some 106, .mv (.t 13), none, []⟩,
     ⟨some 107, .mv (.t 21), none, []⟩,
     ⟨some 108, .call 11 [.t 104, .t 105, .t 106, .t 107], none, []⟩,
     ⟨some 103, .mv (.t 108), none, []⟩,
     ⟨some 109, .ext (.t 103) 0, none, []⟩,
     ⟨some 110, .ext (.t 103) 1, none, []⟩,
     ⟨some 22, .mv (.t 109), none, []⟩,
     ⟨some 23, .mv (.t 110), none, []⟩] none) <|
  .seq (.region [
     ⟨some 112, .mv (.t 11), none, []⟩,
     ⟨some 113, .mv (.t 12), none, []⟩,
     ⟨some 114, .mv (.t 13), none, []⟩,
     ⟨some 115, .mv (.t 21), none, []⟩,
     ⟨some 116, .bin .sub (.t 115) (.c (.int .i64 1)), none, []⟩,
     ⟨some 117, .call 11 [.t 112, .t 113, .t 114, .t 116], none, []⟩,
     ⟨some 111, .mv (.t 117), none, []⟩,
     ⟨some 118, .ext (.t 111) 0, none, []⟩,
     ⟨some 119, .ext (.t 111) 1, none, []⟩,
     ⟨some 24, .mv (.t 118), none, []⟩,
     ⟨some 25, .mv (.t 119), none, []⟩] none) <|
  .seq (.region [
     ⟨some 120, .mv (.t 23), none, []⟩,
     ⟨some 121, .un .not (.t 120), none, []⟩,
     ⟨some 122, .mv (.t 121), none, []⟩,
     ⟨some 123, .mv (.t 21), some (122, true), []⟩,
     ⟨some 124, .bin .eql (.t 123) (.c (.int .i64 0)), some (122, true), []⟩,
     ⟨some 125, .mv (.t 124), some (122, true), []⟩,
     ⟨some 126, .mv (.t 25), some (125, false), []⟩,
     ⟨some 127, .pick (.t 125) (.c (.bool true)) (.t 126), some (122, true), []⟩,
     ⟨some 128, .pick (.t 122) (.t 127) (.c (.bool false)), none, []⟩,
     ⟨some 10, .mv (.t 128), none, []⟩] none) <|
  .ret
abbrev n_law35_RiseLimits : Nat := 6
theorem b_law35_RiseLimits : bodyOf prog 6 [] = some (c_law35_RiseLimits, [.t 10], 129) := by kernel_rfl

def c_law35_sane : ACode :=
  .seq (.region [
     ⟨some 0, .mv (.c (.bool false)), none, []⟩] none) <|
  .seq (.region [
     ⟨some 4, .lit false 1 3 [.c (.int .i64 10)], none, []⟩,
     ⟨some 5, .call 18 [.t 4, .c (.int .i64 1), .c (.int .i64 5), .c (.int .i64 22), .c (.int .i64 3)], none, []⟩,
     ⟨some 3, .mv (.t 5), none, []⟩,
     ⟨some 6, .ext (.t 3) 0, none, []⟩,
     ⟨some 7, .ext (.t 3) 1, none, []⟩,
     ⟨some 1, .mv (.t 6), none, []⟩,
     ⟨some 2, .mv (.t 7), none, []⟩] none) <|
  .seq (.region [
     ⟨some 8, .mv (.t 2), none, []⟩,
     ⟨some 9, .bin .eql (.t 8) (.c (.int .i64 0)), none, []⟩,
     ⟨some 10, .mv (.t 9), none, []⟩,
     ⟨some 11, .mv (.t 1), some (10, true), []⟩,
     ⟨some 12, .len (.t 11), some (10, true), []⟩,
     ⟨some 13, .bin .eql (.t 12) (.c (.int .i64 3)), some (10, true), []⟩,
     ⟨some 14, .pick (.t 10) (.t 13) (.c (.bool false)), none, []⟩,
     ⟨some 15, .mv (.t 14), none, []⟩,
     ⟨some 16, .mv (.t 1), some (15, true), []⟩,
     ⟨some 17, .ixs 1 (.t 16) (.c (.int .i64 0)), some (15, true), []⟩,
     ⟨some 18, .load false 1 (.t 17), some (15, true), []⟩,
     ⟨some 19, .bin .eql (.t 18) (.c (.int .i64 15)), some (15, true), []⟩,
     ⟨some 20, .pick (.t 15) (.t 19) (.c (.bool false)), none, []⟩,
     ⟨some 21, .mv (.t 20), none, []⟩,
     ⟨some 22, .mv (.t 1), some (21, true), []⟩,
     ⟨some 23, .ixs 1 (.t 22) (.c (.int .i64 1)), some (21, true), []⟩,
     ⟨some 24, .load false 1 (.t 23), some (21, true), []⟩,
     ⟨some 25, .bin .eql (.t 24) (.c (.int .i64 20)), some (21, true), []⟩,
     ⟨some 26, .pick (.t 21) (.t 25) (.c (.bool false)), none, []⟩,
     ⟨some 27, .mv (.t 26), none, []⟩,
     ⟨some 28, .mv (.t 1), some (27, true), []⟩,
     ⟨some 29, .ixs 1 (.t 28) (.c (.int .i64 2)), some (27, true), []⟩,
     ⟨some 30, .load false 1 (.t 29), some (27, true), []⟩,
     ⟨some 31, .bin .eql (.t 30) (.c (.int .i64 22)), some (27, true), []⟩,
     ⟨some 32, .pick (.t 27) (.t 31) (.c (.bool false)), none, []⟩,
     ⟨some 33, .mv (.t 32), none, []⟩,
     ⟨some 34, .lit false 1 3 [.c (.int .i64 10), .c (.int .i64 4), .c (.int .i64 6)], some (33, true), []⟩,
     ⟨some 35, .call 15 [.t 34, .c (.int .i64 2), .c (.int .i64 9)], some (33, true), []⟩,
     ⟨some 36, .bin .eql (.t 35) (.c (.int .i64 5)), some (33, true), []⟩,
     ⟨some 37, .pick (.t 33) (.t 36) (.c (.bool false)), none, []⟩,
     ⟨some 38, .mv (.t 37), none, []⟩,
     ⟨some 39, .call 15 [.c (.nil), .c (.int .i64 2), .c (.int .i64 9)], some (38, true), []⟩,
     ⟨some 40, .bin .eql (.t 39) (.c (.int .i64 0)), some (38, true), []⟩,
     ⟨some 41, .pick (.t 38) (.t 40) (.c (.bool false)), none, []⟩,
     ⟨some 42, .mv (.t 41), none, []⟩,
     ⟨some 43, .lit false 1 3 [.c (.int .i64 3)], some (42, true), []⟩,
     ⟨some 44, .lit false 1 3 [.c (.int .i64 5), .c (.int .i64 9)], some (42, true), []⟩,
     ⟨some 45, .call 9 [.t 43, .t 44, .c (.int .i64 1)], some (42, true), []⟩,
     ⟨some 46, .bin .eql (.t 45) (.c (.int .i64 4)), some (42, true), []⟩,
     ⟨some 47, .pick (.t 42) (.t 46) (.c (.bool false)), none, []⟩,
     ⟨some 0, .mv (.t 47), none, []⟩] none) <|
  .ret
abbrev n_law35_sane : Nat := 7
theorem b_law35_sane : bodyOf prog 7 [] = some (c_law35_sane, [.t 0], 48) := by kernel_rfl

def c_mk_Mod : ACode :=
  .seq (.region [
     ⟨some 4, .mv (.c (.int .i64 0)), none, []⟩] none) <|
  .seq (.region [
     ⟨some 5, .mv (.t 0), none, []⟩,
     ⟨some 6, .mv (.t 1), none, []⟩,
     ⟨some 7, .bin .rem (.t 5) (.t 6), none, []⟩,
     ⟨some 8, .mv (.t 1), none, []⟩,
     ⟨some 9, .bin .add (.t 7) (.t 8), none, []⟩,
     ⟨some 10, .mv (.t 1), none, []⟩,
     ⟨some 11, .bin .rem (.t 9) (.t 10), none, []⟩,
     ⟨some 4, .mv (.t 11), none, []⟩] none) <|
  .ret
abbrev n_mk_Mod : Nat := 8
theorem b_mk_Mod : bodyOf prog 8 [] = some (c_mk_Mod, [.t 4], 12) := by kernel_rfl

def c_rise_Worst : ACode :=
  .seq (.region [
     ⟨some 6, .mv (.c (.int .i64 0)), none, []⟩] none) <|
  .seq (.region [
     ⟨some 11, .mv (.t 0), none, []⟩,
     ⟨some 12, .mv (.t 1), none, []⟩,
     ⟨some 13, .lit false 1 22 [.t 11, .t 12], none, []⟩,
     ⟨some 14, .call 21 [.t 13], none, []⟩,
     ⟨some 7, .mv (.t 14), none, []⟩,
     ⟨some 8, .mv (.c (.int .i64 0)), none, []⟩] none) <|
  .seq (.seq (.region [
      ⟨some 15, .mv (.t 1), none, []⟩,
      ⟨some 16, .len (.t 15), none, []⟩,
      ⟨some 17, .mv (.c (.int .i64 0)), none, []⟩] none) <|
   .block 0 <|
   .loop <|
   .seq (.region [
      ⟨some 18, .bin .lss (.t 17) (.t 16), none, []⟩] none) <|
   .seq (.cond (.t 18) (.skip) <|
    .exit 0) <|
   .seq (.block 1 <|
    .seq (.region [
       ⟨some 19, .mv (.t 17), none, []⟩,
       ⟨some 20, .ixs 1 (.t 15) (.t 17), none, []⟩,
       ⟨some 21, .load false 1 (.t 20), none, []⟩,
       ⟨some 9, .mv (.t 19), none, []⟩,
       ⟨some 10, .mv (.t 21), none, []⟩] none) <|
    .region [
      ⟨some 22, .mv (.t 8), none, []⟩,
      ⟨some 23, .mv (.t 7), none, []⟩,
      ⟨some 24, .mv (.t 0), none, []⟩,
      ⟨some 25, .len (.t 24), none, []⟩,
      ⟨some 26, .mv (.t 9), none, []⟩,
      ⟨some 27, .bin .add (.t 25) (.t 26), none, []⟩,
      ⟨some 28, .slc 1 (.t 23) none (some (.t 27)), none, []⟩,
      ⟨some 29, .mv (.t 2), none, []⟩,
      ⟨some 30, .mv (.t 10), none, []⟩,
      ⟨some 31, .call 15 [.t 28, .t 29, .t 30], none, []⟩,
      ⟨some 32, .mnx true (.t 22) [.t 31], none, []⟩,
      ⟨some 8, .mv (.t 32), none, []⟩] none) <|
   .region [
     ⟨some 33, .bin .add (.t 17) (.c (.int .i64 1)), none, []⟩,
     ⟨some 17, .mv (.t 33), none, []⟩] none) <|
  .seq (.region [
     ⟨some 34, .mv (.t 8), none, []⟩,
     ⟨some 6, .mv (.t 34), none, []⟩] none) <|
  .ret
abbrev n_rise_Worst : Nat := 9
theorem b_rise_Worst : bodyOf prog 9 [] = some (c_rise_Worst, [.t 6], 35) := by kernel_rfl

def c_law35_flows : ACode :=
  .seq (.region [
     ⟨some 2, .mv (.c (.nil)), none, []⟩] none) <|
  .seq (.region [
     ⟨some 3, .newsl 1 3, none, []⟩] none) <|
  .seq (.seq (.region [
      ⟨some 6, .mv (.t 0), none, []⟩,
      ⟨some 7, .len (.t 6), none, []⟩,
      ⟨some 8, .mv (.c (.int .i64 0)), none, []⟩] none) <|
   .block 0 <|
   .loop <|
   .seq (.region [
      ⟨some 9, .bin .lss (.t 8) (.t 7), none, []⟩] none) <|
   .seq (.cond (.t 9) (.skip) <|
    .exit 0) <|
   .seq (.block 1 <|
    .seq (.region [
       ⟨some 10, .mv (.t 8), none, []⟩,
       ⟨some 11, .ixs 1 (.t 6) (.t 8), none, []⟩,
       ⟨some 12, .load false 1 (.t 11), none, []⟩,
       ⟨some 4, .mv (.t 10), none, []⟩,
       ⟨some 5, .mv (.t 12), none, []⟩] none) <|
    .seq (.region [
       ⟨some 13, .mv (.t 4), none, []⟩,
       ⟨some 14, .bin .rem (.t 13) (.c (.int .i64 7)), none, []⟩,
       ⟨some 15, .bin .eql (.t 14) (.c (.int .i64 6)), none, []⟩] none) <|
    .cond (.t 15) (.region [
       ⟨some 16, .mv (.t 3), none, []⟩,
       ⟨some 17, .mv (.t 5), none, []⟩,
       ⟨some 18, .call 8 [.t 17, .c (.int .i64 1073741825)], none, []⟩,
       ⟨some 19, .lit false 1 3 [.t 18], none, []⟩,
       ⟨some 20, .app 1 8 3 (.t 16) (.t 19), none, []⟩,
       ⟨some 3, .mv (.t 20), none, []⟩] none) <|
    .region [
      ⟨some 21, .mv (.t 3), none, []⟩,
      ⟨some 22, .mv (.t 5), none, []⟩,
      ⟨some 23, .call 8 [.t 22, .c (.int .i64 40)], none, []⟩,
      ⟨some 24, .lit false 1 3 [.t 23], none, []⟩,
      ⟨some 25, .app 1 8 3 (.t 21) (.t 24), none, []⟩,
      ⟨some 3, .mv (.t 25), none, []⟩] none) <|
   .region [
     ⟨some 26, .bin .add (.t 8) (.c (.int .i64 1)), none, []⟩,
     ⟨some 8, .mv (.t 26), none, []⟩] none) <|
  .seq (.region [
     ⟨some 27, .mv (.t 3), none, []⟩,
     ⟨some 2, .mv (.t 27), none, []⟩] none) <|
  .ret
abbrev n_law35_flows : Nat := 10
theorem b_law35_flows : bodyOf prog 10 [3] = some (c_law35_flows, [.t 2], 28) := by kernel_rfl

def c_rise_First : ACode :=
  .seq (.region [
     ⟨some 8, .mv (.c (.int .i64 0)), none, []⟩,
     ⟨some 9, .mv (.c (.bool false)), none, []⟩] none) <|
  .seq (.region [
     ⟨some 13, .mv (.t 0), none, []⟩,
     ⟨some 14, .mv (.t 1), none, []⟩,
     ⟨some 15, .lit false 1 22 [.t 13, .t 14], none, []⟩,
     ⟨some 16, .call 21 [.t 15], none, []⟩,
     ⟨some 10, .mv (.t 16), none, []⟩] none) <|
  .seq (.seq (.region [
      ⟨some 17, .mv (.t 1), none, []⟩,
      ⟨some 18, .len (.t 17), none, []⟩,
      ⟨some 19, .mv (.c (.int .i64 0)), none, []⟩] none) <|
   .block 0 <|
   .loop <|
   .seq (.region [
      ⟨some 20, .bin .lss (.t 19) (.t 18), none, []⟩] none) <|
   .seq (.cond (.t 20) (.skip) <|
    .exit 0) <|
   .seq (.block 1 <|
    .seq (.region [
       ⟨some 21, .mv (.t 19), none, []⟩,
       ⟨some 22, .ixs 1 (.t 17) (.t 19), none, []⟩,
       ⟨some 23, .load false 1 (.t 22), none, []⟩,
       ⟨some 11, .mv (.t 21), none, []⟩,
       ⟨some 12, .mv (.t 23), none, []⟩] none) <|
    .seq (.region [
       ⟨some 24, .mv (.t 10), none, []⟩,
       ⟨some 25, .mv (.t 0), none, []⟩,
       ⟨some 26, .len (.t 25), none, []⟩,
       ⟨some 27, .mv (.t 11), none, []⟩,
       ⟨some 28, .bin .add (.t 26) (.t 27), none, []⟩,
       ⟨some 29, .slc 1 (.t 24) none (some (.t 28)), none, []⟩,
       ⟨some 30, .mv (.t 2), none, []⟩,
       ⟨some 31, .mv (.t 12), none, []⟩,
       ⟨some 32, .call 15 [.t 29, .t 30, .t 31], none, []⟩,
       ⟨some 33, .mv (.t 3), none, []⟩,
       ⟨some 34, .bin .gtr (.t 32) (.t 33), none, []⟩] none) <|
    .cond (.t 34) (.seq (.region [
        ⟨some 35, .mv (.t 11), none, []⟩,
        ⟨some 8, .mv (.t 35), none, []⟩,
        ⟨some 9, .mv (.c (.bool true)), none, []⟩] none) <|
     .ret) <|
    .skip) <|
   .region [
     ⟨some 36, .bin .add (.t 19) (.c (.int .i64 1)), none, []⟩,
     ⟨some 19, .mv (.t 36), none, []⟩] none) <|
  .seq (.region [
     ⟨some 8, .mv (.c (.int .i64 0)), none, []⟩,
     ⟨some 9, .mv (.c (.bool false)), none, []⟩] none) <|
  .ret
abbrev n_rise_First : Nat := 11
theorem b_rise_First : bodyOf prog 11 [] = some (c_rise_First, [.t 8, .t 9], 37) := by kernel_rfl

def c_ref35_First : ACode :=
  .seq (.region [
     ⟨some 8, .mv (.c (.int .i64 0)), none, []⟩,
     ⟨some 9, .mv (.c (.bool false)), none, []⟩] none) <|
  .seq (.region [
     ⟨some 13, .mv (.t 0), none, []⟩,
     ⟨some 14, .appn 1 8 3 (.t 13), none, []⟩,
     ⟨some 10, .mv (.t 14), none, []⟩] none) <|
  .seq (.seq (.region [
      ⟨some 15, .mv (.t 1), none, []⟩,
      ⟨some 16, .len (.t 15), none, []⟩,
      ⟨some 17, .mv (.c (.int .i64 0)), none, []⟩] none) <|
   .block 0 <|
   .loop <|
   .seq (.region [
      ⟨some 18, .bin .lss (.t 17) (.t 16), none, []⟩] none) <|
   .seq (.cond (.t 18) (.skip) <|
    .exit 0) <|
   .seq (.block 1 <|
    .seq (.region [
       ⟨some 19, .mv (.t 17), none, []⟩,
       ⟨some 20, .ixs 1 (.t 15) (.t 17), none, []⟩,
       ⟨some 21, .load false 1 (.t 20), none, []⟩,
       ⟨some 11, .mv (.t 19), none, []⟩,
       ⟨some 12, .mv (.t 21), none, []⟩] none) <|
    .seq (.seq (.region [
        ⟨some 22, .mv (.t 10), none, []⟩,
        ⟨some 23, .mv (.t 2), none, []⟩,
        ⟨some 24, .mv (.t 12), none, []⟩,
        ⟨some 25, .call 16 [.t 22, .t 23, .t 24], none, []⟩,
        ⟨some 26, .mv (.t 3), none, []⟩,
        ⟨some 27, .bin .gtr (.t 25) (.t 26), none, []⟩] none) <|
     .cond (.t 27) (.seq (.region [
         ⟨some 28, .mv (.t 11), none, []⟩,
         ⟨some 8, .mv (.t 28), none, []⟩,
         ⟨some 9, .mv (.c (.bool true)), none, []⟩] none) <|
      .ret) <|
     .skip) <|
    .region [
      ⟨some 29, .mv (.t 10), none, []⟩,
      ⟨some 30, .mv (.t 12), none, []⟩,
      ⟨some 31, .lit false 1 3 [.t 30], none, []⟩,
      ⟨some 32, .app 1 8 3 (.t 29) (.t 31), none, []⟩,
      ⟨some 10, .mv (.t 32), none, []⟩] none) <|
   .region [
     ⟨some 33, .bin .add (.t 17) (.c (.int .i64 1)), none, []⟩,
     ⟨some 17, .mv (.t 33), none, []⟩] none) <|
  .seq (.region [
     ⟨some 8, .mv (.c (.int .i64 0)), none, []⟩,
     ⟨some 9, .mv (.c (.bool false)), none, []⟩] none) <|
  .ret
abbrev n_ref35_First : Nat := 12
theorem b_ref35_First : bodyOf prog 12 [14] = some (c_ref35_First, [.t 8, .t 9], 34) := by kernel_rfl

def c_rise_Room : ACode :=
  .seq (.region [
     ⟨some 6, .mv (.c (.int .i64 0)), none, []⟩] none) <|
  .seq (.region [
     ⟨some 10, .mv (.t 0), none, []⟩,
     ⟨some 11, .mv (.t 1), none, []⟩,
     ⟨some 12, .call 22 [.t 10, .t 11], none, []⟩,
     ⟨some 9, .mv (.t 12), none, []⟩,
     ⟨some 13, .ext (.t 9) 0, none, []⟩,
     ⟨some 14, .ext (.t 9) 1, none, []⟩,
     ⟨some 7, .mv (.t 13), none, []⟩,
     ⟨some 8, .mv (.t 14), none, []⟩] none) <|
  .seq (.seq (.region [
      ⟨some 15, .mv (.t 8), none, []⟩,
      ⟨some 16, .un .not (.t 15), none, []⟩] none) <|
   .cond (.t 16) (.seq (.region [
       ⟨some 6, .mv (.c (.int .i64 1073741824)), none, []⟩] none) <|
    .ret) <|
   .skip) <|
  .seq (.region [
     ⟨some 17, .mv (.t 7), none, []⟩,
     ⟨some 18, .mv (.t 2), none, []⟩,
     ⟨some 19, .bin .add (.t 17) (.t 18), none, []⟩,
     ⟨some 20, .mnx false (.c (.int .i64 1073741824)) [.t 19], none, []⟩,
     ⟨some 6, .mv (.t 20), none, []⟩] none) <|
  .ret
abbrev n_rise_Room : Nat := 13
theorem b_rise_Room : bodyOf prog 13 [] = some (c_rise_Room, [.t 6], 21) := by kernel_rfl

def c_ref35_Room : ACode :=
  .seq (.region [
     ⟨some 6, .mv (.c (.int .i64 0)), none, []⟩] none) <|
  .seq (.region [
     ⟨some 10, .mv (.t 0), none, []⟩,
     ⟨some 11, .mv (.t 1), none, []⟩,
     ⟨some 12, .call 23 [.t 10, .t 11], none, []⟩,
     ⟨some 9, .mv (.t 12), none, []⟩,
     ⟨some 13, .ext (.t 9) 0, none, []⟩,
     ⟨some 14, .ext (.t 9) 1, none, []⟩,
     ⟨some 7, .mv (.t 13), none, []⟩,
     ⟨some 8, .mv (.t 14), none, []⟩] none) <|
  .seq (.seq (.region [
      ⟨some 15, .mv (.t 8), none, []⟩,
      ⟨some 16, .un .not (.t 15), none, []⟩] none) <|
   .cond (.t 16) (.seq (.region [
       ⟨some 6, .mv (.c (.int .i64 1073741824)), none, []⟩] none) <|
    .ret) <|
   .skip) <|
  .seq (.region [
     ⟨some 17, .mv (.t 7), none, []⟩,
     ⟨some 18, .mv (.t 2), none, []⟩,
     ⟨some 19, .bin .add (.t 17) (.t 18), none, []⟩,
     ⟨some 20, .mnx false (.c (.int .i64 1073741824)) [.t 19], none, []⟩,
     ⟨some 6, .mv (.t 20), none, []⟩] none) <|
  .ret
abbrev n_ref35_Room : Nat := 14
theorem b_ref35_Room : bodyOf prog 14 [] = some (c_ref35_Room, [.t 6], 21) := by kernel_rfl

def c_rise_Rise : ACode :=
  .seq (.region [
     ⟨some 6, .mv (.c (.int .i64 0)), none, []⟩] none) <|
  .seq (.region [
     ⟨some 10, .mv (.t 0), none, []⟩,
     ⟨some 11, .mv (.t 1), none, []⟩,
     ⟨some 12, .call 22 [.t 10, .t 11], none, []⟩,
     ⟨some 9, .mv (.t 12), none, []⟩,
     ⟨some 13, .ext (.t 9) 0, none, []⟩,
     ⟨some 14, .ext (.t 9) 1, none, []⟩,
     ⟨some 7, .mv (.t 13), none, []⟩,
     ⟨some 8, .mv (.t 14), none, []⟩] none) <|
  .seq (.seq (.region [
      ⟨some 15, .mv (.t 8), none, []⟩,
      ⟨some 16, .un .not (.t 15), none, []⟩,
      ⟨some 17, .mv (.t 16), none, []⟩,
      ⟨some 18, .mv (.t 2), some (17, false), []⟩,
      ⟨some 19, .mv (.t 7), some (17, false), []⟩,
      ⟨some 20, .bin .leq (.t 18) (.t 19), some (17, false), []⟩,
      ⟨some 21, .pick (.t 17) (.c (.bool true)) (.t 20), none, []⟩] none) <|
   .cond (.t 21) (.seq (.region [
       ⟨some 6, .mv (.c (.int .i64 0)), none, []⟩] none) <|
    .ret) <|
   .skip) <|
  .seq (.region [
     ⟨some 22, .mv (.t 2), none, []⟩,
     ⟨some 23, .mv (.t 7), none, []⟩,
     ⟨some 24, .bin .sub (.t 22) (.t 23), none, []⟩,
     ⟨some 6, .mv (.t 24), none, []⟩] none) <|
  .ret
abbrev n_rise_Rise : Nat := 15
theorem b_rise_Rise : bodyOf prog 15 [] = some (c_rise_Rise, [.t 6], 25) := by kernel_rfl

def c_ref35_Rise : ACode :=
  .seq (.region [
     ⟨some 6, .mv (.c (.int .i64 0)), none, []⟩] none) <|
  .seq (.region [
     ⟨some 10, .mv (.t 0), none, []⟩,
     ⟨some 11, .mv (.t 1), none, []⟩,
     ⟨some 12, .call 23 [.t 10, .t 11], none, []⟩,
     ⟨some 9, .mv (.t 12), none, []⟩,
     ⟨some 13, .ext (.t 9) 0, none, []⟩,
     ⟨some 14, .ext (.t 9) 1, none, []⟩,
     ⟨some 7, .mv (.t 13), none, []⟩,
     ⟨some 8, .mv (.t 14), none, []⟩] none) <|
  .seq (.seq (.region [
      ⟨some 15, .mv (.t 8), none, []⟩,
      ⟨some 16, .un .not (.t 15), none, []⟩] none) <|
   .cond (.t 16) (.seq (.region [
       ⟨some 6, .mv (.c (.int .i64 0)), none, []⟩] none) <|
    .ret) <|
   .skip) <|
  .seq (.region [
     ⟨some 17, .mv (.t 2), none, []⟩,
     ⟨some 18, .mv (.t 7), none, []⟩,
     ⟨some 19, .bin .sub (.t 17) (.t 18), none, []⟩,
     ⟨some 20, .mnx true (.c (.int .i64 0)) [.t 19], none, []⟩,
     ⟨some 6, .mv (.t 20), none, []⟩] none) <|
  .ret
abbrev n_ref35_Rise : Nat := 16
theorem b_ref35_Rise : bodyOf prog 16 [] = some (c_ref35_Rise, [.t 6], 21) := by kernel_rfl

def c_ref35_Worst : ACode :=
  .seq (.region [
     ⟨some 6, .mv (.c (.int .i64 0)), none, []⟩] none) <|
  .seq (.region [
     ⟨some 11, .mv (.t 0), none, []⟩,
     ⟨some 12, .appn 1 8 3 (.t 11), none, []⟩,
     ⟨some 7, .mv (.t 12), none, []⟩] none) <|
  .seq (.region [
     ⟨some 8, .mv (.c (.int .i64 0)), none, []⟩] none) <|
  .seq (.seq (.region [
      ⟨some 13, .mv (.t 1), none, []⟩,
      ⟨some 14, .len (.t 13), none, []⟩,
      ⟨some 15, .mv (.c (.int .i64 0)), none, []⟩] none) <|
   .block 0 <|
   .loop <|
   .seq (.region [
      ⟨some 16, .bin .lss (.t 15) (.t 14), none, []⟩] none) <|
   .seq (.cond (.t 16) (.skip) <|
    .exit 0) <|
   .seq (.block 1 <|
    .seq (.region [
       ⟨some 17, .ixs 1 (.t 13) (.t 15), none, []⟩,
       ⟨some 18, .load false 1 (.t 17), none, []⟩,
       ⟨some 10, .mv (.t 18), none, []⟩] none) <|
    .seq (.region [
       ⟨some 19, .mv (.t 8), none, []⟩,
       ⟨some 20, .mv (.t 7), none, []⟩,
       ⟨some 21, .mv (.t 2), none, []⟩,
       ⟨some 22, .mv (.t 10), none, []⟩,
       ⟨some 23, .call 16 [.t 20, .t 21, .t 22], none, []⟩,
       ⟨some 24, .mnx true (.t 19) [.t 23], none, []⟩,
       ⟨some 8, .mv (.t 24), none, []⟩] none) <|
    .region [
      ⟨some 25, .mv (.t 7), none, []⟩,
      ⟨some 26, .mv (.t 10), none, []⟩,
      ⟨some 27, .lit false 1 3 [.t 26], none, []⟩,
      ⟨some 28, .app 1 8 3 (.t 25) (.t 27), none, []⟩,
      ⟨some 7, .mv (.t 28), none, []⟩] none) <|
   .region [
     ⟨some 29, .bin .add (.t 15) (.c (.int .i64 1)), none, []⟩,
     ⟨some 15, .mv (.t 29), none, []⟩] none) <|
  .seq (.region [
     ⟨some 30, .mv (.t 8), none, []⟩,
     ⟨some 6, .mv (.t 30), none, []⟩] none) <|
  .ret
abbrev n_ref35_Worst : Nat := 17
theorem b_ref35_Worst : bodyOf prog 17 [12] = some (c_ref35_Worst, [.t 6], 31) := by kernel_rfl

def c_rise_Path : ACode :=
  .seq (.region [
     ⟨some 10, .mv (.c (.nil)), none, []⟩,
     ⟨some 11, .mv (.c (.int .i64 0)), none, []⟩] none) <|
  .seq (.seq (.region [
      ⟨some 13, .mv (.t 3), none, []⟩,
      ⟨some 14, .bin .lss (.t 13) (.c (.int .i64 0)), none, []⟩,
      ⟨some 15, .mv (.t 14), none, []⟩,
      ⟨some 16, .mv (.t 3), some (15, false), []⟩,
      ⟨some 17, .bin .gtr (.t 16) (.c (.int .i64 1073741824)), some (15, false), []⟩,
      ⟨some 18, .pick (.t 15) (.c (.bool true)) (.t 17), none, []⟩,
      ⟨some 19, .mv (.t 18), none, []⟩,
      ⟨some 20, .mv (.t 2), some (19, false), []⟩,
      ⟨some 21, .bin .lss (.t 20) (.c (.int .i64 0)), some (19, false), []⟩,
      ⟨some 22, .pick (.t 19) (.c (.bool true)) (.t 21), none, []⟩,
      ⟨some 23, .mv (.t 22), none, []⟩,
      ⟨some 24, .mv (.t 2), some (23, false), []⟩,
      ⟨some 25, .bin .gtr (.t 24) (.c (.int .i64 1073741824)), some (23, false), []⟩,
      ⟨some 26, .pick (.t 23) (.c (.bool true)) (.t 25), none, []⟩] none) <|
   .cond (.t 26) (.seq (.region [
       ⟨some 10, .mv (.c (.nil)), none, []⟩,
       ⟨some 11, .mv (.c (.int .i64 1)), none, []⟩] none) <|
    .ret) <|
   .skip) <|
  .seq (.seq (.region [
      ⟨some 27, .mv (.t 4), none, []⟩,
      ⟨some 28, .bin .lss (.t 27) (.c (.int .i64 0)), none, []⟩,
      ⟨some 29, .mv (.t 28), none, []⟩,
      ⟨some 30, .mv (.t 4), some (29, false), []⟩,
      ⟨some 31, .bin .gtr (.t 30) (.c (.int .i64 400)), some (29, false), []⟩,
      ⟨some 32, .pick (.t 29) (.c (.bool true)) (.t 31), none, []⟩] none) <|
   .cond (.t 32) (.seq (.region [
       ⟨some 10, .mv (.c (.nil)), none, []⟩,
       ⟨some 11, .mv (.c (.int .i64 10)), none, []⟩] none) <|
    .ret) <|
   .skip) <|
  .seq (.region [
     ⟨some 33, .mv (.t 0), none, []⟩,
     ⟨some 34, .call 24 [.t 33], none, []⟩,
     ⟨some 12, .mv (.t 34), none, []⟩] none) <|
  .seq (.seq (.region [
      ⟨some 35, .mv (.t 4), none, []⟩,
      ⟨some 36, .mv (.c (.int .i64 0)), none, []⟩] none) <|
   .block 0 <|
   .loop <|
   .seq (.region [
      ⟨some 37, .bin .lss (.t 36) (.t 35), none, []⟩] none) <|
   .seq (.cond (.t 37) (.skip) <|
    .exit 0) <|
   .seq (.block 1 <|
    .region [
      ⟨some 38, .mv (.t 12), none, []⟩,
      ⟨some 39, .mv (.t 3), none, []⟩,
      ⟨some 40, .mv (.t 12), none, []⟩,
      ⟨some 41, .mv (.t 1), none, []⟩,
      ⟨some 42, .mv (.t 2), none, []⟩,
      ⟨some 43, .call 13 [.t 40, .t 41, .t 42], none, []⟩,
      ⟨some 44, .mnx false (.t 39) [.t 43], none, []⟩,
      ⟨some 45, .lit false 1 3 [.t 44], none, []⟩,
      ⟨some 46, .app 1 8 3 (.t 38) (.t 45), none, []⟩,
      ⟨some 12, .mv (.t 46), none, []⟩] none) <|
   .region [
     ⟨some 47, .bin .add (.t 36) (.c (.int .i64 1)), none, []⟩,
     ⟨some 36, .mv (.t 47), none, []⟩] none) <|
  .seq (.region [
     ⟨some 48, .mv (.t 12), none, []⟩,
     ⟨some 49, .mv (.t 0), none, []⟩,
     ⟨some 50, .len (.t 49), none, []⟩,
     ⟨some 51, .slc 1 (.t 48) (some (.t 50)) none, none, []⟩,
     ⟨some 52, .call 24 [.t 51], none, []⟩,
     ⟨some 10, .mv (.t 52), none, []⟩,
     ⟨some 11, .mv (.c (.int .i64 0)), none, []⟩] none) <|
  .ret
abbrev n_rise_Path : Nat := 18
theorem b_rise_Path : bodyOf prog 18 [] = some (c_rise_Path, [.t 10, .t 11], 53) := by kernel_rfl

def c_ref35_Path : ACode :=
  .seq (.region [
     ⟨some 10, .mv (.c (.nil)), none, []⟩,
     ⟨some 11, .mv (.c (.int .i64 0)), none, []⟩] none) <|
  .seq (.seq (.region [
      ⟨some 15, .mv (.t 3), none, []⟩,
      ⟨some 16, .bin .lss (.t 15) (.c (.int .i64 0)), none, []⟩,
      ⟨some 17, .mv (.t 16), none, []⟩,
      ⟨some 18, .mv (.t 3), some (17, false), []⟩,
      ⟨some 19, .bin .gtr (.t 18) (.c (.int .i64 1073741824)), some (17, false), []⟩,
      ⟨some 20, .pick (.t 17) (.c (.bool true)) (.t 19), none, []⟩,
      ⟨some 21, .mv (.t 20), none, []⟩,
      ⟨some 22, .mv (.t 2), some (21, false), []⟩,
      ⟨some 23, .bin .lss (.t 22) (.c (.int .i64 0)), some (21, false), []⟩,
      ⟨some 24, .pick (.t 21) (.c (.bool true)) (.t 23), none, []⟩,
      ⟨some 25, .mv (.t 24), none, []⟩,
      ⟨some 26, .mv (.t 2), some (25, false), []⟩,
      ⟨some 27, .bin .gtr (.t 26) (.c (.int .i64 1073741824)), some (25, false), []⟩,
      ⟨some 28, .pick (.t 25) (.c (.bool true)) (.t 27), none, []⟩] none) <|
   .cond (.t 28) (.seq (.region [
       ⟨some 10, .mv (.c (.nil)), none, []⟩,
       ⟨some 11, .mv (.c (.int .i64 1)), none, []⟩] none) <|
    .ret) <|
   .skip) <|
  .seq (.seq (.region [
      ⟨some 29, .mv (.t 4), none, []⟩,
      ⟨some 30, .bin .lss (.t 29) (.c (.int .i64 0)), none, []⟩,
      ⟨some 31, .mv (.t 30), none, []⟩,
      ⟨some 32, .mv (.t 4), some (31, false), []⟩,
      ⟨some 33, .bin .gtr (.t 32) (.c (.int .i64 400)), some (31, false), []⟩,
      ⟨some 34, .pick (.t 31) (.c (.bool true)) (.t 33), none, []⟩] none) <|
   .cond (.t 34) (.seq (.region [
       ⟨some 10, .mv (.c (.nil)), none, []⟩,
       ⟨some 11, .mv (.c (.int .i64 10)), none, []⟩] none) <|
    .ret) <|
   .skip) <|
  .seq (.region [
     ⟨some 35, .mv (.t 0), none, []⟩,
     ⟨some 36, .appn 1 8 3 (.t 35), none, []⟩,
     ⟨some 12, .mv (.t 36), none, []⟩] none) <|
  .seq (.region [
     ⟨some 13, .newsl 1 3, none, []⟩] none) <|
  .seq (.block 0 <|
   .loop <|
   .seq (.seq (.region [
       ⟨some 37, .mv (.t 4), none, []⟩,
       ⟨some 38, .bin .gtr (.t 37) (.c (.int .i64 0)), none, []⟩] none) <|
    .cond (.t 38) (.skip) <|
    .exit 0) <|
   .seq (.block 1 <|
    .seq (.region [
       ⟨some 41, .mv (.t 3), none, []⟩,
       ⟨some 42, .mv (.t 12), none, []⟩,
       ⟨some 43, .mv (.t 1), none, []⟩,
       ⟨some 44, .mv (.t 2), none, []⟩,
       ⟨some 45, .call 14 [.t 42, .t 43, .t 44], none, []⟩,
       ⟨some 46, .mnx false (.t 41) [.t 45], none, []⟩,
       ⟨some 14, .mv (.t 46), none, []⟩] none) <|
    .region [
      ⟨some 47, .mv (.t 12), none, []⟩,
      ⟨some 48, .mv (.t 14), none, []⟩,
      ⟨some 49, .lit false 1 3 [.t 48], none, []⟩,
      ⟨some 50, .app 1 8 3 (.t 47) (.t 49), none, []⟩,
      ⟨some 51, .mv (.t 13), none, []⟩,
      ⟨some 52, .mv (.t 14), none, []⟩,
      ⟨some 53, .lit false 1 3 [.t 52], none, []⟩,
      ⟨some 54, .app 1 8 3 (.t 51) (.t 53), none, []⟩,
      ⟨some 12, .mv (.t 50), none, []⟩,
      ⟨some 13, .mv (.t 54), none, []⟩] none) <|
   .region [
     ⟨some 39, .mv (.t 4), none, []⟩,
     ⟨some 40, .bin .sub (.t 39) (.c (.int .i64 1)), none, []⟩,
     ⟨some 4, .mv (.t 40), none, []⟩] none) <|
  .seq (.region [
     ⟨some 55, .mv (.t 13), none, []⟩,
     ⟨some 10, .mv (.t 55), none, []⟩,
     ⟨some 11, .mv (.c (.int .i64 0)), none, []⟩] none) <|
  .ret
abbrev n_ref35_Path : Nat := 19
theorem b_ref35_Path : bodyOf prog 19 [36, 13] = some (c_ref35_Path, [.t 10, .t 11], 56) := by kernel_rfl

def c_law35_ints : ACode :=
  .seq (.region [
     ⟨some 4, .mv (.c (.bool false)), none, []⟩] none) <|
  .seq (.seq (.region [
      ⟨some 6, .mv (.t 0), none, []⟩,
      ⟨some 7, .len (.t 6), none, []⟩,
      ⟨some 8, .mv (.t 1), none, []⟩,
      ⟨some 9, .len (.t 8), none, []⟩,
      ⟨some 10, .bin .neq (.t 7) (.t 9), none, []⟩] none) <|
   .cond (.t 10) (.seq (.region [
       ⟨some 4, .mv (.c (.bool false)), none, []⟩] none) <|
    .ret) <|
   .skip) <|
  .seq (.seq (.region [
      ⟨some 11, .mv (.t 0), none, []⟩,
      ⟨some 12, .len (.t 11), none, []⟩,
      ⟨some 13, .mv (.c (.int .i64 0)), none, []⟩] none) <|
   .block 0 <|
   .loop <|
   .seq (.region [
      ⟨some 14, .bin .lss (.t 13) (.t 12), none, []⟩] none) <|
   .seq (.cond (.t 14) (.skip) <|
    .exit 0) <|
   .seq (.block 1 <|
    .seq (.region [
       ⟨some 15, .mv (.t 13), none, []⟩,
       ⟨some 5, .mv (.t 15), none, []⟩] none) <|
    .seq (.region [
       ⟨some 16, .mv (.t 0), none, []⟩,
       ⟨some 17, .mv (.t 5), none, []⟩,
       ⟨some 18, .ixs 1 (.t 16) (.t 17), none, [0, 1]⟩,
       ⟨some 19, .load false 1 (.t 18), none, [2, 0, 1]⟩,
       ⟨some 20, .mv (.t 1), none, []⟩,
       ⟨some 21, .mv (.t 5), none, []⟩,
       ⟨some 22, .ixs 1 (.t 20) (.t 21), none, [4, 5]⟩,
       ⟨some 23, .load false 1 (.t 22), none, [6, 4, 5]⟩,
       ⟨some 24, .bin .neq (.t 19) (.t 23), none, [3, 7, 2, 0, 1, 6, 4, 5]⟩] (some 0)) <|
    .cond (.t 24) (.seq (.region [
        ⟨some 4, .mv (.c (.bool false)), none, []⟩] none) <|
     .ret) <|
    .skip) <|
   .region [
     ⟨some 25, .bin .add (.t 13) (.c (.int .i64 1)), none, []⟩,
     ⟨some 13, .mv (.t 25), none, []⟩] none) <|
  .seq (.region [
     ⟨some 4, .mv (.c (.bool true)), none, []⟩] none) <|
  .ret
abbrev n_law35_ints : Nat := 20
theorem b_law35_ints : bodyOf prog 20 [] = some (c_law35_ints, [.t 4], 26) := by kernel_rfl

def c_slices_Concat__int : ACode :=
  .seq (.region [
     ⟨some 2, .mv (.c (.nil)), none, []⟩] none) <|
  .seq (.region [
     ⟨some 3, .mv (.c (.int .i64 0)), none, []⟩] none) <|
  .seq (.seq (.region [
      ⟨some 9, .mv (.t 0), none, []⟩,
      ⟨some 10, .len (.t 9), none, []⟩,
      ⟨some 11, .mv (.c (.int .i64 0)), none, []⟩] none) <|
   .block 0 <|
   .loop <|
   .seq (.region [
      ⟨some 12, .bin .lss (.t 11) (.t 10), none, []⟩] none) <|
   .seq (.cond (.t 12) (.skip) <|
    .exit 0) <|
   .seq (.block 1 <|
    .seq (.region [
       ⟨some 13, .ixs 1 (.t 9) (.t 11), none, []⟩,
       ⟨some 14, .load false 1 (.t 13), none, []⟩,
       ⟨some 5, .mv (.t 14), none, []⟩] none) <|
    .seq (.region [
       ⟨some 15, .mv (.t 3), none, []⟩,
       ⟨some 16, .mv (.t 5), none, []⟩,
       ⟨some 17, .len (.t 16), none, []⟩,
       ⟨some 18, .bin .add (.t 15) (.t 17), none, []⟩,
       ⟨some 3, .mv (.t 18), none, []⟩] none) <|
    .seq (.region [
       ⟨some 19, .mv (.t 3), none, []⟩,
       ⟨some 20, .bin .lss (.t 19) (.c (.int .i64 0)), none, []⟩] none) <|
    .cond (.t 20) (.region [
       ⟨some 21, .pu .mki [.c (.str ⟨#[108, 101, 110, 32, 111, 117, 116, 32, 111, 102, 32, 114, 97, 110, 103, 101]⟩)], none, []⟩,
       ⟨none, .pu .never [], none, []⟩] none) <|
    .skip) <|
   .region [
     ⟨some 22, .bin .add (.t 11) (.c (.int .i64 1)), none, []⟩,
     ⟨some 11, .mv (.t 22), none, []⟩] none) <|
  .seq (.region [
     ⟨some 23, .mv (.t 3), none, []⟩,
     ⟨some 24, .call 25 [.c (.nil), .t 23], none, []⟩,
     ⟨some 6, .mv (.t 24), none, []⟩] none) <|
  .seq (.seq (.region [
      ⟨some 25, .mv (.t 0), none, []⟩,
      ⟨some 26, .len (.t 25), none, []⟩,
      ⟨some 27, .mv (.c (.int .i64 0)), none, []⟩] none) <|
   .block 2 <|
   .loop <|
   .seq (.region [
      ⟨some 28, .bin .lss (.t 27) (.t 26), none, []⟩] none) <|
   .seq (.cond (.t 28) (.skip) <|
    .exit 2) <|
   .seq (.block 3 <|
    .seq (.region [
       ⟨some 29, .ixs 1 (.t 25) (.t 27), none, []⟩,
       ⟨some 30, .load false 1 (.t 29), none, []⟩,
       ⟨some 8, .mv (.t 30), none, []⟩] none) <|
    .region [
      ⟨some 31, .mv (.t 6), none, []⟩,
      ⟨some 32, .mv (.t 8), none, []⟩,
      ⟨some 33, .app 1 8 3 (.t 31) (.t 32), none, []⟩,
      ⟨some 6, .mv (.t 33), none, []⟩] none) <|
   .region [
     ⟨some 34, .bin .add (.t 27) (.c (.int .i64 1)), none, []⟩,
     ⟨some 27, .mv (.t 34), none, []⟩] none) <|
  .seq (.region [
     ⟨some 35, .mv (.t 6), none, []⟩,
     ⟨some 2, .mv (.t 35), none, []⟩] none) <|
  .ret
abbrev n_slices_Concat__int : Nat := 21
theorem b_slices_Concat__int : bodyOf prog 21 [] = some (c_slices_Concat__int, [.t 2], 36) := by kernel_rfl

def c_rise_least : ACode :=
  .seq (.region [
     ⟨some 4, .mv (.c (.int .i64 0)), none, []⟩,
     ⟨some 5, .mv (.c (.bool false)), none, []⟩] none) <|
  .seq (.seq (.region [
      ⟨some 6, .mv (.t 1), none, []⟩,
      ⟨some 7, .bin .lss (.t 6) (.c (.int .i64 1)), none, []⟩,
      ⟨some 8, .mv (.t 7), none, []⟩,
      ⟨some 9, .mv (.t 0), some (8, false), []⟩,
      ⟨some 10, .len (.t 9), some (8, false), []⟩,
      ⟨some 11, .bin .eql (.t 10) (.c (.int .i64 0)), some (8, false), []⟩,
      ⟨some 12, .pick (.t 8) (.c (.bool true)) (.t 11), none, []⟩] none) <|
   .cond (.t 12) (.seq (.region [
       ⟨some 4, .mv (.c (.int .i64 0)), none, []⟩,
       ⟨some 5, .mv (.c (.bool false)), none, []⟩] none) <|
    .ret) <|
   .skip) <|
  .seq (.region [
     ⟨some 13, .mv (.t 0), none, []⟩,
     ⟨some 14, .mv (.t 0), none, []⟩,
     ⟨some 15, .len (.t 14), none, []⟩,
     ⟨some 16, .mv (.t 1), none, []⟩,
     ⟨some 17, .bin .sub (.t 15) (.t 16), none, []⟩,
     ⟨some 18, .mnx true (.c (.int .i64 0)) [.t 17], none, []⟩,
     ⟨some 19, .slc 1 (.t 13) (some (.t 18)) none, none, []⟩,
     ⟨some 20, .call 26 [.t 19], none, []⟩,
     ⟨some 4, .mv (.t 20), none, []⟩,
     ⟨some 5, .mv (.c (.bool true)), none, []⟩] none) <|
  .ret
abbrev n_rise_least : Nat := 22
theorem b_rise_least : bodyOf prog 22 [] = some (c_rise_least, [.t 4, .t 5], 21) := by kernel_rfl

def c_ref35_least : ACode :=
  .seq (.region [
     ⟨some 4, .mv (.c (.int .i64 0)), none, []⟩,
     ⟨some 5, .mv (.c (.bool false)), none, []⟩] none) <|
  .seq (.seq (.region [
      ⟨some 8, .mv (.t 1), none, []⟩,
      ⟨some 9, .bin .lss (.t 8) (.c (.int .i64 1)), none, []⟩,
      ⟨some 10, .mv (.t 9), none, []⟩,
      ⟨some 11, .mv (.t 0), some (10, false), []⟩,
      ⟨some 12, .len (.t 11), some (10, false), []⟩,
      ⟨some 13, .bin .eql (.t 12) (.c (.int .i64 0)), some (10, false), []⟩,
      ⟨some 14, .pick (.t 10) (.c (.bool true)) (.t 13), none, []⟩] none) <|
   .cond (.t 14) (.seq (.region [
       ⟨some 4, .mv (.c (.int .i64 0)), none, []⟩,
       ⟨some 5, .mv (.c (.bool false)), none, []⟩] none) <|
    .ret) <|
   .skip) <|
  .seq (.region [
     ⟨some 15, .mv (.t 0), none, []⟩,
     ⟨some 16, .mv (.t 0), none, []⟩,
     ⟨some 17, .len (.t 16), none, []⟩,
     ⟨some 18, .bin .sub (.t 17) (.c (.int .i64 1)), none, []⟩,
     ⟨some 19, .ixs 1 (.t 15) (.t 18), none, []⟩,
     ⟨some 20, .load false 1 (.t 19), none, []⟩,
     ⟨some 6, .mv (.t 20), none, []⟩] none) <|
  .seq (.seq (.region [
      ⟨some 7, .mv (.c (.int .i64 1)), none, []⟩] none) <|
   .block 0 <|
   .loop <|
   .seq (.seq (.region [
       ⟨some 21, .mv (.t 7), none, []⟩,
       ⟨some 22, .mv (.t 1), none, []⟩,
       ⟨some 23, .bin .leq (.t 21) (.t 22), none, []⟩,
       ⟨some 24, .mv (.t 23), none, []⟩,
       ⟨some 25, .mv (.t 7), some (24, true), []⟩,
       ⟨some 26, .mv (.t 0), some (24, true), []⟩,
       ⟨some 27, .len (.t 26), some (24, true), []⟩,
       ⟨some 28, .bin .leq (.t 25) (.t 27), some (24, true), []⟩,
       ⟨some 29, .pick (.t 24) (.t 28) (.c (.bool false)), none, []⟩] none) <|
    .cond (.t 29) (.skip) <|
    .exit 0) <|
   .seq (.block 1 <|
    .region [
      ⟨some 32, .mv (.t 6), none, []⟩,
      ⟨some 33, .mv (.t 0), none, []⟩,
      ⟨some 34, .mv (.t 0), none, []⟩,
      ⟨some 35, .len (.t 34), none, []⟩,
      ⟨some 36, .mv (.t 7), none, []⟩,
      ⟨some 37, .bin .sub (.t 35) (.t 36), none, []⟩,
      ⟨some 38, .ixs 1 (.t 33) (.t 37), none, []⟩,
      ⟨some 39, .load false 1 (.t 38), none, []⟩,
      ⟨some 40, .mnx false (.t 32) [.t 39], none, []⟩,
      ⟨some 6, .mv (.t 40), none, []⟩] none) <|
   .region [
     ⟨some 30, .mv (.t 7), none, []⟩,
     ⟨some 31, .bin .add (.t 30) (.c (.int .i64 1)), none, []⟩,
     ⟨some 7, .mv (.t 31), none, []⟩] none) <|
  .seq (.region [
     ⟨some 41, .mv (.t 6), none, []⟩,
     ⟨some 4, .mv (.t 41), none, []⟩,
     ⟨some 5, .mv (.c (.bool true)), none, []⟩] none) <|
  .ret
abbrev n_ref35_least : Nat := 23
theorem b_ref35_least : bodyOf prog 23 [] = some (c_ref35_least, [.t 4, .t 5], 42) := by kernel_rfl

def c_slices_Clone__int : ACode :=
  .seq (.region [
     ⟨some 2, .newsl 1 3, none, []⟩] none) <|
  .seq (.seq (.region [
      ⟨some 3, .mv (.t 0), none, []⟩,
      ⟨some 4, .isnil false (.t 3), none, []⟩] none) <|
   .cond (.t 4) (.seq (.region [
       ⟨some 2, .newsl 1 3, none, []⟩] none) <|
    .ret) <|
   .skip) <|
  .seq (.region [
     ⟨some 5, .lit true 1 3 [], none, []⟩,
     ⟨some 6, .mv (.t 0), none, []⟩,
     ⟨some 7, .app 1 8 3 (.t 5) (.t 6), none, []⟩,
     ⟨some 2, .mv (.t 7), none, []⟩] none) <|
  .ret
abbrev n_slices_Clone__int : Nat := 24
theorem b_slices_Clone__int : bodyOf prog 24 [2, 5] = some (c_slices_Clone__int, [.t 2], 8) := by kernel_rfl

def c_slices_Grow__int : ACode :=
  .seq (.region [
     ⟨some 4, .mv (.c (.nil)), none, []⟩] none) <|
  .seq (.seq (.region [
      ⟨some 5, .mv (.t 1), none, []⟩,
      ⟨some 6, .bin .lss (.t 5) (.c (.int .i64 0)), none, []⟩] none) <|
   .cond (.t 6) (.region [
      ⟨some 7, .pu .mki [.c (.str ⟨#[99, 97, 110, 110, 111, 116, 32, 98, 101, 32, 110, 101, 103, 97, 116, 105, 118, 101]⟩)], none, []⟩,
      ⟨none, .pu .never [], none, []⟩] none) <|
   .skip) <|
  .seq (.seq (.region [
      ⟨some 8, .mv (.t 1), none, []⟩,
      ⟨some 9, .mv (.t 0), none, []⟩,
      ⟨some 10, .pu .cap0 [.t 9], none, []⟩,
      ⟨some 11, .mv (.t 0), none, []⟩,
      ⟨some 12, .len (.t 11), none, []⟩,
      ⟨some 13, .bin .sub (.t 10) (.t 12), none, []⟩,
      ⟨some 14, .bin .sub (.t 8) (.t 13), none, []⟩,
      ⟨some 1, .mv (.t 14), none, []⟩] none) <|
   .seq (.region [
      ⟨some 15, .mv (.t 1), none, []⟩,
      ⟨some 16, .bin .gtr (.t 15) (.c (.int .i64 0)), none, []⟩] none) <|
   .cond (.t 16) (.region [
      ⟨some 17, .mv (.t 0), none, []⟩,
      ⟨some 18, .mv (.t 0), none, []⟩,
      ⟨some 19, .pu .cap0 [.t 18], none, []⟩,
      ⟨some 20, .slc 1 (.t 17) none (some (.t 19)), none, []⟩,
      ⟨some 21, .mv (.t 1), none, []⟩,
      ⟨some 22, .appz 1 8 3 (.int .i64 0) (.t 20) (.t 21), none, []⟩,
      ⟨some 23, .mv (.t 0), none, []⟩,
      ⟨some 24, .len (.t 23), none, []⟩,
      ⟨some 25, .trn 1 (.t 22) (.t 24), none, []⟩,
      ⟨some 0, .mv (.t 25), none, []⟩] none) <|
   .skip) <|
  .seq (.region [
     ⟨some 26, .mv (.t 0), none, []⟩,
     ⟨some 4, .mv (.t 26), none, []⟩] none) <|
  .ret
abbrev n_slices_Grow__int : Nat := 25
theorem b_slices_Grow__int : bodyOf prog 25 [25] = some (c_slices_Grow__int, [.t 4], 27) := by kernel_rfl

def c_slices_Min__int : ACode :=
  .seq (.region [
     ⟨some 2, .mv (.c (.int .i64 0)), none, []⟩] none) <|
  .seq (.seq (.region [
      ⟨some 5, .mv (.t 0), none, []⟩,
      ⟨some 6, .len (.t 5), none, []⟩,
      ⟨some 7, .bin .lss (.t 6) (.c (.int .i64 1)), none, []⟩] none) <|
   .cond (.t 7) (.region [
      ⟨some 8, .pu .mki [.c (.str ⟨#[115, 108, 105, 99, 101, 115, 46, 77, 105, 110, 58, 32, 101, 109, 112, 116, 121, 32, 108, 105, 115, 116]⟩)], none, []⟩,
      ⟨none, .pu .never [], none, []⟩] none) <|
   .skip) <|
  .seq (.region [
     ⟨some 9, .mv (.t 0), none, []⟩,
     ⟨some 10, .ixs 1 (.t 9) (.c (.int .i64 0)), none, []⟩,
     ⟨some 11, .load false 1 (.t 10), none, []⟩,
     ⟨some 3, .mv (.t 11), none, []⟩] none) <|
  .seq (.seq (.region [
      ⟨some 4, .mv (.c (.int .i64 1)), none, []⟩] none) <|
   .block 0 <|
   .loop <|
   .seq (.seq (.region [
       ⟨some 12, .mv (.t 4), none, []⟩,
       ⟨some 13, .mv (.t 0), none, []⟩,
       ⟨some 14, .len (.t 13), none, []⟩,
       ⟨some 15, .bin .lss (.t 12) (.t 14), none, []⟩] none) <|
    .cond (.t 15) (.skip) <|
    .exit 0) <|
   .seq (.block 1 <|
    .region [
      ⟨some 18, .mv (.t 3), none, []⟩,
      ⟨some 19, .mv (.t 0), none, []⟩,
      ⟨some 20, .mv (.t 4), none, []⟩,
      ⟨some 21, .ixs 1 (.t 19) (.t 20), none, []⟩,
      ⟨some 22, .load false 1 (.t 21), none, []⟩,
      ⟨some 23, .mnx false (.t 18) [.t 22], none, []⟩,
      ⟨some 3, .mv (.t 23), none, []⟩] none) <|
   .region [
     ⟨some 16, .mv (.t 4), none, []⟩,
     ⟨some 17, .bin .add (.t 16) (.c (.int .i64 1)), none, []⟩,
     ⟨some 4, .mv (.t 17), none, []⟩] none) <|
  .seq (.region [
     ⟨some 24, .mv (.t 3), none, []⟩,
     ⟨some 2, .mv (.t 24), none, []⟩] none) <|
  .ret
abbrev n_slices_Min__int : Nat := 26
theorem b_slices_Min__int : bodyOf prog 26 [] = some (c_slices_Min__int, [.t 2], 25) := by kernel_rfl

end Go.Proofs.Try
