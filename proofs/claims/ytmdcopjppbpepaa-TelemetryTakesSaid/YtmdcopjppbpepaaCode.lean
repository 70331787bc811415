/-
  WRITTEN BY A PROGRAM OF OURS (tools/seat.py): the code of the functions of this seat, each checked by the kernel against the model.
-/
import Derived.Test.YtmdcopjppbpepaaBaseS
import Derived.Test.YtmdcopjppbpepaaProg
import Derived.KernelRfl
namespace Go.Proofs.Try
open Go.Ab
def c_law28_TelemetryOrder : ACode :=
  .seq (.region [
     ⟨some 4, .mv (.c (.bool false)), none, []⟩] none) <|
  .seq (.seq (.region [
      ⟨some 21, .call 7 [], none, []⟩,
      ⟨some 22, .un .not (.t 21), none, []⟩] none) <|
   .cond (.t 22) (.seq (.region [
       ⟨some 4, .mv (.c (.bool false)), none, []⟩] none) <|
    .ret) <|
   .skip) <|
  .seq (.seq (.region [
      ⟨some 23, .mv (.t 0), none, []⟩,
      ⟨some 24, .call 8 [.t 23], none, []⟩,
      ⟨some 25, .un .not (.t 24), none, []⟩] none) <|
   .cond (.t 25) (.seq (.region [
       ⟨some 4, .mv (.c (.bool true)), none, []⟩] none) <|
    .ret) <|
   .skip) <|
  .seq (.region [
     ⟨some 26, .mv (.t 0), none, []⟩,
     ⟨some 27, .call 9 [.t 26], none, []⟩,
     ⟨some 5, .mv (.t 27), none, []⟩] none) <|
  .seq (.region [
     ⟨some 28, .mv (.t 1), none, []⟩,
     ⟨some 29, .bin .rem (.t 28) (.c (.int .u8 12)), none, []⟩,
     ⟨some 30, .conv .i64 (.t 29), none, []⟩,
     ⟨some 31, .bin .add (.c (.int .i64 1)) (.t 30), none, []⟩,
     ⟨some 6, .mv (.t 31), none, []⟩] none) <|
  .seq (.region [
     ⟨some 32, .build [.int .i64 0, .int .i64 0, .nil] [(1, 1, .c (.int .i64 1))], none, []⟩,
     ⟨some 7, .alloc 3 28 (.agg [.int .i64 0, .int .i64 0, .nil]), none, []⟩,
     ⟨none, .store 3 (.t 7) (.t 32), none, []⟩] none) <|
  .seq (.seq (.region [
      ⟨some 8, .mv (.c (.int .i64 1)), none, []⟩] none) <|
   .block 0 <|
   .loop <|
   .seq (.seq (.region [
       ⟨some 33, .mv (.t 8), none, []⟩,
       ⟨some 34, .mv (.t 6), none, []⟩,
       ⟨some 35, .bin .leq (.t 33) (.t 34), none, []⟩] none) <|
    .cond (.t 35) (.skip) <|
    .exit 0) <|
   .seq (.block 1 <|
    .seq (.region [
       ⟨some 39, .load true 3 (.t 7), none, []⟩,
       ⟨some 40, .mv (.t 8), none, []⟩,
       ⟨some 41, .mv (.t 8), none, []⟩,
       ⟨some 42, .build [.int .i64 0, .int .i64 0, .int .i64 0, .int .i64 0] [(2, 1, .t 41)], none, []⟩,
       ⟨some 43, .lit false 4 34 [.t 42], none, []⟩,
       ⟨some 44, .build [.int .i64 0, .int .i64 0, .nil] [(1, 1, .t 40), (2, 1, .t 43)], none, []⟩,
       ⟨some 45, .call 10 [.t 39, .t 44], none, []⟩,
       ⟨some 38, .mv (.t 45), none, []⟩,
       ⟨some 46, .ext (.t 38) 0, none, []⟩,
       ⟨some 47, .ext (.t 38) 1, none, []⟩,
       ⟨some 48, .ext (.t 38) 2, none, []⟩,
       ⟨some 9, .alloc 3 28 (.agg [.int .i64 0, .int .i64 0, .nil]), none, []⟩,
       ⟨none, .store 3 (.t 9) (.t 46), none, []⟩,
       ⟨some 10, .mv (.t 47), none, []⟩,
       ⟨some 11, .mv (.t 48), none, []⟩] none) <|
    .seq (.seq (.region [
        ⟨some 49, .mv (.t 11), none, []⟩,
        ⟨some 50, .bin .neq (.t 49) (.c (.int .i64 0)), none, []⟩,
        ⟨some 51, .mv (.t 50), none, []⟩,
        ⟨some 52, .mv (.t 10), some (51, false), []⟩,
        ⟨some 53, .len (.t 52), some (51, false), []⟩,
        ⟨some 54, .bin .neq (.t 53) (.c (.int .i64 1)), some (51, false), []⟩,
        ⟨some 55, .pick (.t 51) (.c (.bool true)) (.t 54), none, []⟩] none) <|
     .cond (.t 55) (.seq (.region [
         ⟨some 4, .mv (.c (.bool false)), none, []⟩] none) <|
      .ret) <|
     .skip) <|
    .region [
      ⟨some 56, .load true 3 (.t 9), none, []⟩,
      ⟨none, .store 3 (.t 7) (.t 56), none, []⟩] none) <|
   .region [
     ⟨some 36, .mv (.t 8), none, []⟩,
     ⟨some 37, .bin .add (.t 36) (.c (.int .i64 1)), none, []⟩,
     ⟨some 8, .mv (.t 37), none, []⟩] none) <|
  .seq (.region [
     ⟨some 57, .build [.int .i64 0, .int .i64 0, .nil] [(1, 1, .c (.int .i64 1))], none, []⟩,
     ⟨some 12, .alloc 3 28 (.agg [.int .i64 0, .int .i64 0, .nil]), none, []⟩,
     ⟨none, .store 3 (.t 12) (.t 57), none, []⟩] none) <|
  .seq (.region [
     ⟨some 58, .mv (.t 6), none, []⟩,
     ⟨some 59, .bin .add (.t 58) (.c (.int .i64 1)), none, []⟩,
     ⟨some 60, .mks true 1 8 3 (.int .i64 0) (.t 59), none, []⟩,
     ⟨some 13, .mv (.t 60), none, []⟩] none) <|
  .seq (.seq (.region [
      ⟨some 14, .mv (.c (.int .i64 0)), none, []⟩] none) <|
   .block 2 <|
   .loop <|
   .seq (.seq (.region [
       ⟨some 61, .mv (.t 14), none, []⟩,
       ⟨some 62, .mv (.t 6), none, []⟩,
       ⟨some 63, .bin .mul (.c (.int .i64 3)) (.t 62), none, []⟩,
       ⟨some 64, .bin .lss (.t 61) (.t 63), none, []⟩] none) <|
    .cond (.t 64) (.skip) <|
    .exit 2) <|
   .seq (.block 3 <|
    .seq (.region [
       ⟨some 67, .mv (.t 5), none, []⟩,
       ⟨some 68, .mv (.t 6), none, []⟩,
       ⟨some 69, .call 11 [.t 67, .t 68], none, []⟩,
       ⟨some 70, .bin .add (.c (.int .i64 1)) (.t 69), none, []⟩,
       ⟨some 15, .mv (.t 70), none, []⟩] none) <|
    .seq (.seq (.region [
        ⟨some 71, .mv (.t 14), none, []⟩,
        ⟨some 72, .mv (.t 6), none, []⟩,
        ⟨some 73, .bin .mul (.c (.int .i64 2)) (.t 72), none, []⟩,
        ⟨some 74, .bin .geq (.t 71) (.t 73), none, []⟩] none) <|
     .cond (.t 74) (.region [
        ⟨some 75, .mv (.t 14), none, []⟩,
        ⟨some 76, .bin .add (.c (.int .i64 1)) (.t 75), none, []⟩,
        ⟨some 77, .mv (.t 6), none, []⟩,
        ⟨some 78, .bin .mul (.c (.int .i64 2)) (.t 77), none, []⟩,
        ⟨some 79, .bin .sub (.t 76) (.t 78), none, []⟩,
        ⟨some 15, .mv (.t 79), none, []⟩] none) <|
     .skip) <|
    .seq (.region [
       ⟨some 81, .load true 3 (.t 12), none, []⟩,
       ⟨some 82, .mv (.t 15), none, []⟩,
       ⟨some 83, .mv (.t 15), none, []⟩,
       ⟨some 84, .build [.int .i64 0, .int .i64 0, .int .i64 0, .int .i64 0] [(2, 1, .t 83)], none, []⟩,
       ⟨some 85, .lit false 4 34 [.t 84], none, []⟩,
       ⟨some 86, .build [.int .i64 0, .int .i64 0, .nil] [(1, 1, .t 82), (2, 1, .t 85)], none, []⟩,
       ⟨some 87, .call 10 [.t 81, .t 86], none, []⟩,
       ⟨some 80, .mv (.t 87), none, []⟩,
       ⟨some 88, .ext (.t 80) 0, none, []⟩,
       ⟨some 89, .ext (.t 80) 1, none, []⟩,
       ⟨some 90, .ext (.t 80) 2, none, []⟩,
       ⟨some 16, .alloc 3 28 (.agg [.int .i64 0, .int .i64 0, .nil]), none, []⟩,
       ⟨none, .store 3 (.t 16) (.t 88), none, []⟩,
       ⟨some 17, .mv (.t 89), none, []⟩,
       ⟨some 18, .mv (.t 90), none, []⟩] none) <|
    .seq (.seq (.region [
        ⟨some 91, .mv (.t 18), none, []⟩,
        ⟨some 92, .bin .neq (.t 91) (.c (.int .i64 0)), none, []⟩] none) <|
     .cond (.t 92) (.seq (.seq (.region [
          ⟨some 93, .mv (.t 18), none, []⟩,
          ⟨some 94, .bin .neq (.t 93) (.c (.int .i64 46)), none, []⟩,
          ⟨some 95, .mv (.t 94), none, []⟩,
          ⟨some 96, .mv (.t 13), some (95, false), []⟩,
          ⟨some 97, .mv (.t 15), some (95, false), []⟩,
          ⟨some 98, .ixs 1 (.t 96) (.t 97), some (95, false), []⟩,
          ⟨some 99, .load false 1 (.t 98), some (95, false), []⟩,
          ⟨some 100, .bin .neq (.t 99) (.c (.int .i64 1)), some (95, false), []⟩,
          ⟨some 101, .pick (.t 95) (.c (.bool true)) (.t 100), none, []⟩] none) <|
       .cond (.t 101) (.seq (.region [
           ⟨some 4, .mv (.c (.bool false)), none, []⟩] none) <|
        .ret) <|
       .skip) <|
      .exit 3) <|
     .skip) <|
    .seq (.seq (.region [
        ⟨some 102, .mv (.t 17), none, []⟩,
        ⟨some 103, .len (.t 102), none, []⟩,
        ⟨some 104, .bin .neq (.t 103) (.c (.int .i64 1)), none, []⟩,
        ⟨some 105, .mv (.t 104), none, []⟩,
        ⟨some 106, .mv (.t 17), some (105, false), []⟩,
        ⟨some 107, .ixs 4 (.t 106) (.c (.int .i64 0)), some (105, false), []⟩,
        ⟨some 108, .fa 2 (.t 107), some (105, false), []⟩,
        ⟨some 109, .load false 1 (.t 108), some (105, false), []⟩,
        ⟨some 110, .mv (.t 15), some (105, false), []⟩,
        ⟨some 111, .bin .neq (.t 109) (.t 110), some (105, false), []⟩,
        ⟨some 112, .pick (.t 105) (.c (.bool true)) (.t 111), none, []⟩] none) <|
     .cond (.t 112) (.seq (.region [
         ⟨some 4, .mv (.c (.bool false)), none, []⟩] none) <|
      .ret) <|
     .skip) <|
    .seq (.region [
       ⟨some 113, .load true 3 (.t 16), none, []⟩,
       ⟨none, .store 3 (.t 12) (.t 113), none, []⟩] none) <|
    .region [
      ⟨some 114, .mv (.t 13), none, []⟩,
      ⟨some 115, .mv (.t 15), none, []⟩,
      ⟨some 116, .ixs 1 (.t 114) (.t 115), none, []⟩,
      ⟨some 117, .load false 1 (.t 116), none, []⟩,
      ⟨some 118, .bin .add (.t 117) (.c (.int .i64 1)), none, []⟩,
      ⟨some 119, .ixs 1 (.t 114) (.t 115), none, []⟩,
      ⟨none, .store 1 (.t 119) (.t 118), none, []⟩] none) <|
   .region [
     ⟨some 65, .mv (.t 14), none, []⟩,
     ⟨some 66, .bin .add (.t 65) (.c (.int .i64 1)), none, []⟩,
     ⟨some 14, .mv (.t 66), none, []⟩] none) <|
  .seq (.seq (.region [
      ⟨some 120, .mv (.t 13), none, []⟩,
      ⟨some 121, .slc 1 (.t 120) (some (.c (.int .i64 1))) none, none, []⟩,
      ⟨some 122, .len (.t 121), none, []⟩,
      ⟨some 123, .mv (.c (.int .i64 0)), none, []⟩] none) <|
   .block 4 <|
   .loop <|
   .seq (.region [
      ⟨some 124, .bin .lss (.t 123) (.t 122), none, []⟩] none) <|
   .seq (.cond (.t 124) (.skip) <|
    .exit 4) <|
   .seq (.block 5 <|
    .seq (.region [
       ⟨some 125, .ixs 1 (.t 121) (.t 123), none, []⟩,
       ⟨some 126, .load false 1 (.t 125), none, []⟩,
       ⟨some 20, .mv (.t 126), none, []⟩] none) <|
    .seq (.region [
       ⟨some 127, .mv (.t 20), none, []⟩,
       ⟨some 128, .bin .neq (.t 127) (.c (.int .i64 1)), none, []⟩] none) <|
    .cond (.t 128) (.seq (.region [
        ⟨some 4, .mv (.c (.bool false)), none, []⟩] none) <|
     .ret) <|
    .skip) <|
   .region [
     ⟨some 129, .bin .add (.t 123) (.c (.int .i64 1)), none, []⟩,
     ⟨some 123, .mv (.t 129), none, []⟩] none) <|
  .seq (.region [
     ⟨some 130, .load true 3 (.t 7), none, []⟩,
     ⟨some 131, .load true 3 (.t 12), none, []⟩,
     ⟨some 132, .call 12 [.t 130, .t 131], none, []⟩,
     ⟨some 133, .mv (.t 132), none, []⟩,
     ⟨some 134, .fa 2 (.t 12), some (133, true), []⟩,
     ⟨some 135, .load false 1 (.t 134), some (133, true), []⟩,
     ⟨some 136, .len (.t 135), some (133, true), []⟩,
     ⟨some 137, .bin .eql (.t 136) (.c (.int .i64 0)), some (133, true), []⟩,
     ⟨some 138, .pick (.t 133) (.t 137) (.c (.bool false)), none, []⟩,
     ⟨some 4, .mv (.t 138), none, []⟩] none) <|
  .ret
abbrev n_law28_TelemetryOrder : Nat := 3
theorem b_law28_TelemetryOrder : bodyOf prog 3 [60, 1000000] = some (c_law28_TelemetryOrder, [.t 4], 139) := by kernel_rfl

def c_law28_TelemetryTakes : ACode :=
  .seq (.region [
     ⟨some 6, .box 3 28 (.t 1), none, []⟩,
     ⟨some 7, .box 3 36 (.t 2), none, []⟩,
     ⟨some 10, .mv (.c (.bool false)), none, []⟩] none) <|
  .seq (.seq (.region [
      ⟨some 40, .call 7 [], none, []⟩,
      ⟨some 41, .un .not (.t 40), none, []⟩] none) <|
   .cond (.t 41) (.seq (.region [
       ⟨some 10, .mv (.c (.bool false)), none, []⟩] none) <|
    .ret) <|
   .skip) <|
  .seq (.seq (.region [
      ⟨some 42, .mv (.t 0), none, []⟩,
      ⟨some 43, .call 8 [.t 42], none, []⟩,
      ⟨some 44, .un .not (.t 43), none, []⟩,
      ⟨some 45, .mv (.t 44), none, []⟩,
      ⟨some 46, .fa 2 (.t 6), some (45, false), []⟩,
      ⟨some 47, .load false 1 (.t 46), some (45, false), []⟩,
      ⟨some 48, .len (.t 47), some (45, false), []⟩,
      ⟨some 49, .bin .gtr (.t 48) (.c (.int .i64 600)), some (45, false), []⟩,
      ⟨some 50, .pick (.t 45) (.c (.bool true)) (.t 49), none, []⟩,
      ⟨some 51, .mv (.t 50), none, []⟩,
      ⟨some 52, .fa 2 (.t 7), some (51, false), []⟩,
      ⟨some 53, .load false 1 (.t 52), some (51, false), []⟩,
      ⟨some 54, .len (.t 53), some (51, false), []⟩,
      ⟨some 55, .bin .gtr (.t 54) (.c (.int .i64 100)), some (51, false), []⟩,
      ⟨some 56, .pick (.t 51) (.c (.bool true)) (.t 55), none, []⟩] none) <|
   .cond (.t 56) (.seq (.region [
       ⟨some 10, .mv (.c (.bool true)), none, []⟩] none) <|
    .ret) <|
   .skip) <|
  .seq (.region [
     ⟨some 57, .mv (.t 0), none, []⟩,
     ⟨some 58, .call 9 [.t 57], none, []⟩,
     ⟨some 11, .mv (.t 58), none, []⟩] none) <|
  .seq (.region [
     ⟨some 59, .mv (.t 11), none, []⟩,
     ⟨some 60, .call 11 [.t 59, .c (.int .i64 3)], none, []⟩,
     ⟨some 61, .build [.int .i64 0, .int .i64 0, .nil] [(0, 1, .t 60), (1, 1, .c (.int .i64 1))], none, []⟩,
     ⟨some 12, .alloc 3 28 (.agg [.int .i64 0, .int .i64 0, .nil]), none, []⟩,
     ⟨none, .store 3 (.t 12) (.t 61), none, []⟩] none) <|
  .seq (.seq (.region [
      ⟨some 62, .mv (.t 11), none, []⟩,
      ⟨some 63, .call 11 [.t 62, .c (.int .i64 9)], none, []⟩,
      ⟨some 13, .mv (.t 63), none, []⟩] none) <|
   .block 0 <|
   .loop <|
   .seq (.seq (.region [
       ⟨some 64, .mv (.t 13), none, []⟩,
       ⟨some 65, .bin .gtr (.t 64) (.c (.int .i64 0)), none, []⟩] none) <|
    .cond (.t 65) (.skip) <|
    .exit 0) <|
   .seq (.block 1 <|
    .seq (.region [
       ⟨some 68, .mv (.t 11), none, []⟩,
       ⟨some 69, .call 13 [.t 68], none, []⟩,
       ⟨some 14, .alloc 3 36 (.agg [.int .i64 0, .int .i64 0, .nil]), none, []⟩,
       ⟨none, .store 3 (.t 14) (.t 69), none, []⟩] none) <|
    .seq (.region [
       ⟨some 70, .fa 0 (.t 12), none, []⟩,
       ⟨some 71, .load false 1 (.t 70), none, []⟩,
       ⟨some 72, .fa 0 (.t 14), none, []⟩,
       ⟨none, .store 1 (.t 72) (.t 71), none, []⟩] none) <|
    .seq (.region [
       ⟨some 74, .load true 3 (.t 12), none, []⟩,
       ⟨some 75, .load true 3 (.t 14), none, []⟩,
       ⟨some 76, .call 14 [.t 74, .t 75], none, []⟩,
       ⟨some 73, .mv (.t 76), none, []⟩,
       ⟨some 77, .ext (.t 73) 0, none, []⟩,
       ⟨some 78, .ext (.t 73) 1, none, []⟩,
       ⟨some 79, .ext (.t 73) 2, none, []⟩,
       ⟨some 15, .alloc 3 28 (.agg [.int .i64 0, .int .i64 0, .nil]), none, []⟩,
       ⟨none, .store 3 (.t 15) (.t 77), none, []⟩,
       ⟨some 16, .mv (.t 78), none, []⟩,
       ⟨some 17, .mv (.t 79), none, []⟩] none) <|
    .seq (.region [
       ⟨some 80, .mv (.t 17), none, []⟩,
       ⟨some 81, .bin .eql (.t 80) (.c (.int .i64 0)), none, []⟩] none) <|
    .cond (.t 81) (.region [
       ⟨some 82, .load true 3 (.t 15), none, []⟩,
       ⟨none, .store 3 (.t 12) (.t 82), none, []⟩] none) <|
    .skip) <|
   .region [
     ⟨some 66, .mv (.t 13), none, []⟩,
     ⟨some 67, .bin .sub (.t 66) (.c (.int .i64 1)), none, []⟩,
     ⟨some 13, .mv (.t 67), none, []⟩] none) <|
  .seq (.region [
     ⟨some 83, .mv (.t 11), none, []⟩,
     ⟨some 84, .call 13 [.t 83], none, []⟩,
     ⟨some 18, .alloc 3 36 (.agg [.int .i64 0, .int .i64 0, .nil]), none, []⟩,
     ⟨none, .store 3 (.t 18) (.t 84), none, []⟩] none) <|
  .seq (.region [
     ⟨some 85, .load true 3 (.t 18), none, []⟩,
     ⟨some 19, .alloc 3 36 (.agg [.int .i64 0, .int .i64 0, .nil]), none, []⟩,
     ⟨none, .store 3 (.t 19) (.t 85), none, []⟩] none) <|
  .seq (.hregion [
     ⟨9, ⟨some 95, .mv (.t 3), none, []⟩⟩,
     ⟨5, ⟨some 91, .fa 2 (.t 12), none, []⟩⟩,
     ⟨6, ⟨some 92, .load false 1 (.t 91), none, [5]⟩⟩,
     ⟨7, ⟨some 93, .len (.t 92), none, [6, 5]⟩⟩,
     ⟨2, ⟨some 88, .fa 1 (.t 12), none, []⟩⟩,
     ⟨3, ⟨some 89, .load false 1 (.t 88), none, [2]⟩⟩,
     ⟨4, ⟨some 90, .bin .add (.t 89) (.c (.int .i64 256)), none, [3, 2]⟩⟩,
     ⟨8, ⟨some 94, .bin .sub (.t 90) (.t 93), none, [4, 7, 3, 2, 6, 5]⟩⟩,
     ⟨0, ⟨some 86, .fa 0 (.t 12), none, []⟩⟩,
     ⟨1, ⟨some 87, .load false 1 (.t 86), none, [0]⟩⟩,
     ⟨13, ⟨some 99, .fa 0 (.t 19), none, [0, 1]⟩⟩,
     ⟨10, ⟨some 96, .call 15 [.t 95, .c (.int .i64 3)], none, [9]⟩⟩,
     ⟨11, ⟨some 97, .bin .add (.t 94) (.t 96), none, [8, 10, 4, 7, 3, 2, 6, 5, 9]⟩⟩,
     ⟨12, ⟨some 98, .bin .sub (.t 97) (.c (.int .i64 1)), none, [11, 8, 10, 4, 7, 3, 2, 6, 5, 9]⟩⟩,
     ⟨14, ⟨none, .store 1 (.t 99) (.t 87), none, [13, 1, 10, 0, 9]⟩⟩,
     ⟨15, ⟨some 100, .fa 1 (.t 19), none, [0, 1, 2, 3, 4, 5, 6, 7, 8, 9, 10, 11, 12, 13, 14]⟩⟩,
     ⟨16, ⟨none, .store 1 (.t 100) (.t 98), none, [15, 12, 14, 0, 1, 2, 3, 4, 5, 6, 7, 8, 9, 10, 11, 13]⟩⟩]) <|
  .seq (.seq (.region [
      ⟨some 101, .load true 3 (.t 6), none, []⟩,
      ⟨some 102, .load true 3 (.t 12), none, []⟩,
      ⟨some 103, .lit false 3 28 [.t 101, .t 102], none, []⟩,
      ⟨some 104, .len (.t 103), none, []⟩,
      ⟨some 105, .mv (.c (.int .i64 0)), none, []⟩] none) <|
   .block 2 <|
   .loop <|
   .seq (.region [
      ⟨some 106, .bin .lss (.t 105) (.t 104), none, []⟩] none) <|
   .seq (.cond (.t 106) (.skip) <|
    .exit 2) <|
   .seq (.block 3 <|
    .seq (.region [
       ⟨some 107, .ixs 3 (.t 103) (.t 105), none, []⟩,
       ⟨some 108, .load true 3 (.t 107), none, []⟩,
       ⟨some 21, .alloc 3 28 (.agg [.int .i64 0, .int .i64 0, .nil]), none, []⟩,
       ⟨none, .store 3 (.t 21) (.t 108), none, []⟩] none) <|
    .seq (.seq (.region [
        ⟨some 109, .load true 3 (.t 7), none, []⟩,
        ⟨some 110, .load true 3 (.t 18), none, []⟩,
        ⟨some 111, .load true 3 (.t 19), none, []⟩,
        ⟨some 112, .lit false 3 36 [.t 109, .t 110, .t 111], none, []⟩,
        ⟨some 113, .len (.t 112), none, []⟩,
        ⟨some 114, .mv (.c (.int .i64 0)), none, []⟩] none) <|
     .block 4 <|
     .loop <|
     .seq (.region [
        ⟨some 115, .bin .lss (.t 114) (.t 113), none, []⟩] none) <|
     .seq (.cond (.t 115) (.skip) <|
      .exit 4) <|
     .seq (.block 5 <|
      .seq (.region [
         ⟨some 116, .ixs 3 (.t 112) (.t 114), none, []⟩,
         ⟨some 117, .load true 3 (.t 116), none, []⟩,
         ⟨some 23, .alloc 3 36 (.agg [.int .i64 0, .int .i64 0, .nil]), none, []⟩,
         ⟨none, .store 3 (.t 23) (.t 117), none, []⟩] none) <|
      .seq (.region [
         ⟨some 119, .load true 3 (.t 21), none, []⟩,
         ⟨some 120, .load true 3 (.t 23), none, []⟩,
         ⟨some 121, .call 10 [.t 119, .t 120], none, []⟩,
         ⟨some 118, .mv (.t 121), none, []⟩,
         ⟨some 122, .ext (.t 118) 0, none, []⟩,
         ⟨some 123, .ext (.t 118) 1, none, []⟩,
         ⟨some 124, .ext (.t 118) 2, none, []⟩,
         ⟨some 24, .alloc 3 28 (.agg [.int .i64 0, .int .i64 0, .nil]), none, []⟩,
         ⟨none, .store 3 (.t 24) (.t 122), none, []⟩,
         ⟨some 25, .mv (.t 123), none, []⟩,
         ⟨some 26, .mv (.t 124), none, []⟩] none) <|
      .seq (.region [
         ⟨some 126, .load true 3 (.t 21), none, []⟩,
         ⟨some 127, .load true 3 (.t 23), none, []⟩,
         ⟨some 128, .call 14 [.t 126, .t 127], none, []⟩,
         ⟨some 125, .mv (.t 128), none, []⟩,
         ⟨some 129, .ext (.t 125) 0, none, []⟩,
         ⟨some 130, .ext (.t 125) 1, none, []⟩,
         ⟨some 131, .ext (.t 125) 2, none, []⟩,
         ⟨some 27, .alloc 3 28 (.agg [.int .i64 0, .int .i64 0, .nil]), none, []⟩,
         ⟨none, .store 3 (.t 27) (.t 129), none, []⟩,
         ⟨some 28, .mv (.t 130), none, []⟩,
         ⟨some 29, .mv (.t 131), none, []⟩] none) <|
      .seq (.region [
         ⟨some 132, .mv (.t 26), none, []⟩,
         ⟨some 133, .mv (.t 29), none, []⟩,
         ⟨some 134, .bin .neq (.t 132) (.t 133), none, []⟩,
         ⟨some 135, .mv (.t 134), none, []⟩,
         ⟨some 136, .mv (.t 25), some (135, false), []⟩,
         ⟨some 137, .mv (.t 28), some (135, false), []⟩,
         ⟨some 138, .call 16 [.t 136, .t 137], some (135, false), []⟩,
         ⟨some 139, .un .not (.t 138), some (135, false), []⟩,
         ⟨some 140, .pick (.t 135) (.c (.bool true)) (.t 139), none, []⟩,
         ⟨some 141, .mv (.t 140), none, []⟩,
         ⟨some 142, .load true 3 (.t 24), some (141, false), []⟩,
         ⟨some 143, .load true 3 (.t 27), some (141, false), []⟩,
         ⟨some 144, .call 12 [.t 142, .t 143], some (141, false), []⟩,
         ⟨some 145, .un .not (.t 144), some (141, false), []⟩,
         ⟨some 146, .pick (.t 141) (.c (.bool true)) (.t 145), none, []⟩] none) <|
      .cond (.t 146) (.seq (.region [
          ⟨some 10, .mv (.c (.bool false)), none, []⟩] none) <|
       .ret) <|
      .skip) <|
     .region [
       ⟨some 147, .bin .add (.t 114) (.c (.int .i64 1)), none, []⟩,
       ⟨some 114, .mv (.t 147), none, []⟩] none) <|
    .seq (.seq (.region [
        ⟨some 148, .mv (.t 3), none, []⟩,
        ⟨some 149, .mv (.t 3), none, []⟩,
        ⟨some 150, .call 15 [.t 149, .c (.int .i64 5)], none, []⟩,
        ⟨some 151, .lit false 1 3 [.t 148, .t 150], none, []⟩,
        ⟨some 152, .len (.t 151), none, []⟩,
        ⟨some 153, .mv (.c (.int .i64 0)), none, []⟩] none) <|
     .block 6 <|
     .loop <|
     .seq (.region [
        ⟨some 154, .bin .lss (.t 153) (.t 152), none, []⟩] none) <|
     .seq (.cond (.t 154) (.skip) <|
      .exit 6) <|
     .seq (.block 7 <|
      .seq (.region [
         ⟨some 155, .ixs 1 (.t 151) (.t 153), none, []⟩,
         ⟨some 156, .load false 1 (.t 155), none, []⟩,
         ⟨some 31, .mv (.t 156), none, []⟩] none) <|
      .seq (.region [
         ⟨some 158, .load true 3 (.t 21), none, []⟩,
         ⟨some 159, .mv (.t 31), none, []⟩,
         ⟨some 160, .call 17 [.t 158, .t 159], none, []⟩,
         ⟨some 157, .mv (.t 160), none, []⟩,
         ⟨some 161, .ext (.t 157) 0, none, []⟩,
         ⟨some 162, .ext (.t 157) 1, none, []⟩,
         ⟨some 32, .mv (.t 161), none, []⟩,
         ⟨some 33, .mv (.t 162), none, []⟩] none) <|
      .seq (.region [
         ⟨some 164, .load true 3 (.t 21), none, []⟩,
         ⟨some 165, .mv (.t 31), none, []⟩,
         ⟨some 166, .call 18 [.t 164, .t 165], none, []⟩,
         ⟨some 163, .mv (.t 166), none, []⟩,
         ⟨some 167, .ext (.t 163) 0, none, []⟩,
         ⟨some 168, .ext (.t 163) 1, none, []⟩,
         ⟨some 34, .mv (.t 167), none, []⟩,
         ⟨some 35, .mv (.t 168), none, []⟩] none) <|
      .seq (.region [
         ⟨some 169, .mv (.t 33), none, []⟩,
         ⟨some 170, .mv (.t 35), none, []⟩,
         ⟨some 171, .bin .neq (.t 169) (.t 170), none, []⟩,
         ⟨some 172, .mv (.t 171), none, []⟩,
         ⟨some 173, .mv (.t 32), some (172, false), []⟩,
         ⟨some 174, .build [.int .i64 0, .int .i64 0, .nil] [(2, 1, .t 173)], some (172, false), []⟩,
         ⟨some 175, .mv (.t 34), some (172, false), []⟩,
         ⟨some 176, .build [.int .i64 0, .int .i64 0, .nil] [(2, 1, .t 175)], some (172, false), []⟩,
         ⟨some 177, .call 12 [.t 174, .t 176], some (172, false), []⟩,
         ⟨some 178, .un .not (.t 177), some (172, false), []⟩,
         ⟨some 179, .pick (.t 172) (.c (.bool true)) (.t 178), none, []⟩] none) <|
      .cond (.t 179) (.seq (.region [
          ⟨some 10, .mv (.c (.bool false)), none, []⟩] none) <|
       .ret) <|
      .skip) <|
     .region [
       ⟨some 180, .bin .add (.t 153) (.c (.int .i64 1)), none, []⟩,
       ⟨some 153, .mv (.t 180), none, []⟩] none) <|
    .seq (.region [
       ⟨some 182, .load true 3 (.t 21), none, []⟩,
       ⟨some 183, .mv (.t 4), none, []⟩,
       ⟨some 184, .call 19 [.t 182, .t 183], none, []⟩,
       ⟨some 181, .mv (.t 184), none, []⟩,
       ⟨some 185, .ext (.t 181) 0, none, []⟩,
       ⟨some 186, .ext (.t 181) 1, none, []⟩,
       ⟨some 36, .alloc 3 28 (.agg [.int .i64 0, .int .i64 0, .nil]), none, []⟩,
       ⟨none, .store 3 (.t 36) (.t 185), none, []⟩,
       ⟨some 37, .mv (.t 186), none, []⟩] none) <|
    .seq (.region [
       ⟨some 188, .load true 3 (.t 21), none, []⟩,
       ⟨some 189, .mv (.t 4), none, []⟩,
       ⟨some 190, .call 20 [.t 188, .t 189], none, []⟩,
       ⟨some 187, .mv (.t 190), none, []⟩,
       ⟨some 191, .ext (.t 187) 0, none, []⟩,
       ⟨some 192, .ext (.t 187) 1, none, []⟩,
       ⟨some 38, .alloc 3 28 (.agg [.int .i64 0, .int .i64 0, .nil]), none, []⟩,
       ⟨none, .store 3 (.t 38) (.t 191), none, []⟩,
       ⟨some 39, .mv (.t 192), none, []⟩] none) <|
    .seq (.hregion [
       ⟨1, ⟨some 194, .mv (.t 39), none, []⟩⟩,
       ⟨0, ⟨some 193, .mv (.t 37), none, []⟩⟩,
       ⟨2, ⟨some 195, .bin .neq (.t 193) (.t 194), none, [0, 1]⟩⟩,
       ⟨3, ⟨some 196, .mv (.t 195), none, [2, 0, 1]⟩⟩,
       ⟨5, ⟨some 198, .load true 3 (.t 38), some (196, false), [3, 2, 0, 1]⟩⟩,
       ⟨4, ⟨some 197, .load true 3 (.t 36), some (196, false), [3, 2, 0, 1]⟩⟩,
       ⟨6, ⟨some 199, .call 12 [.t 197, .t 198], some (196, false), [4, 5, 3, 2, 0, 1]⟩⟩,
       ⟨7, ⟨some 200, .un .not (.t 199), some (196, false), [6, 3, 4, 5, 2, 0, 1]⟩⟩,
       ⟨8, ⟨some 201, .pick (.t 196) (.c (.bool true)) (.t 200), none, [3, 7, 2, 0, 1, 6, 4, 5]⟩⟩,
       ⟨9, ⟨some 202, .mv (.t 201), none, [8, 6, 3, 7, 2, 0, 1, 4, 5]⟩⟩,
       ⟨12, ⟨some 205, .load true 3 (.t 21), some (202, false), [9, 8, 6, 3, 7, 2, 0, 1, 4, 5]⟩⟩,
       ⟨10, ⟨some 203, .load true 3 (.t 21), some (202, false), [9, 8, 6, 3, 7, 2, 0, 1, 4, 5]⟩⟩,
       ⟨11, ⟨some 204, .call 21 [.t 203], some (202, false), [10, 9, 8, 6, 3, 7, 2, 0, 1, 4, 5]⟩⟩,
       ⟨13, ⟨some 206, .call 22 [.t 205], some (202, false), [12, 11, 9, 8, 6, 3, 7, 2, 0, 1, 4, 5, 10]⟩⟩,
       ⟨14, ⟨some 207, .bin .neq (.t 204) (.t 206), some (202, false), [11, 13, 9, 10, 8, 6, 3, 7, 2, 0, 1, 4, 5, 12]⟩⟩,
       ⟨15, ⟨some 208, .pick (.t 202) (.c (.bool true)) (.t 207), none, [9, 14, 8, 6, 3, 7, 2, 0, 1, 4, 5, 11, 13, 10, 12]⟩⟩]) <|
    .cond (.t 208) (.seq (.region [
        ⟨some 10, .mv (.c (.bool false)), none, []⟩] none) <|
     .ret) <|
    .skip) <|
   .region [
     ⟨some 209, .bin .add (.t 105) (.c (.int .i64 1)), none, []⟩,
     ⟨some 105, .mv (.t 209), none, []⟩] none) <|
  .seq (.region [
     ⟨some 10, .mv (.c (.bool true)), none, []⟩] none) <|
  .ret
abbrev n_law28_TelemetryTakes : Nat := 4
theorem b_law28_TelemetryTakes : bodyOf prog 4 [1000000] = some (c_law28_TelemetryTakes, [.t 10], 210) := by kernel_rfl

def c_law28_TelemetryBytes : ACode :=
  .seq (.region [
     ⟨some 6, .box 3 36 (.t 1), none, []⟩,
     ⟨some 10, .mv (.c (.bool false)), none, []⟩] none) <|
  .seq (.seq (.region [
      ⟨some 29, .call 7 [], none, []⟩,
      ⟨some 30, .un .not (.t 29), none, []⟩] none) <|
   .cond (.t 30) (.seq (.region [
       ⟨some 10, .mv (.c (.bool false)), none, []⟩] none) <|
    .ret) <|
   .skip) <|
  .seq (.seq (.region [
      ⟨some 31, .mv (.t 0), none, []⟩,
      ⟨some 32, .call 8 [.t 31], none, []⟩,
      ⟨some 33, .un .not (.t 32), none, []⟩,
      ⟨some 34, .mv (.t 33), none, []⟩,
      ⟨some 35, .mv (.t 2), some (34, false), []⟩,
      ⟨some 36, .lens (.t 35), some (34, false), []⟩,
      ⟨some 37, .bin .gtr (.t 36) (.c (.int .i64 1000)), some (34, false), []⟩,
      ⟨some 38, .pick (.t 34) (.c (.bool true)) (.t 37), none, []⟩,
      ⟨some 39, .mv (.t 38), none, []⟩,
      ⟨some 40, .fa 2 (.t 6), some (39, false), []⟩,
      ⟨some 41, .load false 1 (.t 40), some (39, false), []⟩,
      ⟨some 42, .len (.t 41), some (39, false), []⟩,
      ⟨some 43, .bin .gtr (.t 42) (.c (.int .i64 100)), some (39, false), []⟩,
      ⟨some 44, .pick (.t 39) (.c (.bool true)) (.t 43), none, []⟩] none) <|
   .cond (.t 44) (.seq (.region [
       ⟨some 10, .mv (.c (.bool true)), none, []⟩] none) <|
    .ret) <|
   .skip) <|
  .seq (.region [
     ⟨some 45, .mv (.t 0), none, []⟩,
     ⟨some 46, .call 9 [.t 45], none, []⟩,
     ⟨some 47, .call 13 [.t 46], none, []⟩,
     ⟨some 11, .alloc 3 36 (.agg [.int .i64 0, .int .i64 0, .nil]), none, []⟩,
     ⟨none, .store 3 (.t 11) (.t 47), none, []⟩] none) <|
  .seq (.region [
     ⟨some 49, .load true 3 (.t 11), none, []⟩,
     ⟨some 50, .call 23 [.t 49], none, []⟩,
     ⟨some 48, .mv (.t 50), none, []⟩,
     ⟨some 51, .ext (.t 48) 0, none, []⟩,
     ⟨some 52, .ext (.t 48) 1, none, []⟩,
     ⟨some 12, .mv (.t 51), none, []⟩,
     ⟨some 13, .mv (.t 52), none, []⟩] none) <|
  .seq (.region [
     ⟨some 53, .mv (.t 12), none, []⟩,
     ⟨some 54, .s2b true 5 (.t 53), none, []⟩,
     ⟨some 14, .mv (.t 54), none, []⟩] none) <|
  .seq (.region [
     ⟨some 55, .mv (.t 14), none, []⟩,
     ⟨some 56, .mv (.t 3), none, []⟩,
     ⟨some 57, .conv .i64 (.t 56), none, []⟩,
     ⟨some 58, .mv (.t 14), none, []⟩,
     ⟨some 59, .len (.t 58), none, []⟩,
     ⟨some 60, .bin .rem (.t 57) (.t 59), none, []⟩,
     ⟨some 61, .mv (.t 4), none, []⟩,
     ⟨some 62, .ixs 1 (.t 55) (.t 60), none, []⟩,
     ⟨none, .store 1 (.t 62) (.t 61), none, []⟩] none) <|
  .seq (.region [
     ⟨some 63, .mv (.t 12), none, []⟩,
     ⟨some 64, .mv (.t 12), none, []⟩,
     ⟨some 65, .lens (.t 64), none, []⟩,
     ⟨some 66, .bin .sub (.t 65) (.c (.int .i64 4)), none, []⟩,
     ⟨some 67, .slcs (.t 63) none (some (.t 66)), none, []⟩,
     ⟨some 68, .s2b true 5 (.t 67), none, []⟩,
     ⟨some 15, .mv (.t 68), none, []⟩] none) <|
  .seq (.region [
     ⟨some 69, .mv (.t 15), none, []⟩,
     ⟨some 70, .mv (.t 3), none, []⟩,
     ⟨some 71, .conv .i64 (.t 70), none, []⟩,
     ⟨some 72, .mv (.t 15), none, []⟩,
     ⟨some 73, .len (.t 72), none, []⟩,
     ⟨some 74, .bin .rem (.t 71) (.t 73), none, []⟩,
     ⟨some 75, .mv (.t 4), none, []⟩,
     ⟨some 76, .ixs 1 (.t 69) (.t 74), none, []⟩,
     ⟨none, .store 1 (.t 76) (.t 75), none, []⟩] none) <|
  .seq (.hregion [
     ⟨2, ⟨some 79, .mv (.t 15), none, []⟩⟩,
     ⟨3, ⟨some 80, .b2s (.t 79), none, [2]⟩⟩,
     ⟨0, ⟨some 77, .mv (.t 15), none, []⟩⟩,
     ⟨1, ⟨some 78, .b2s (.t 77), none, [0]⟩⟩,
     ⟨4, ⟨some 81, .call 25 [.t 80], none, [3, 2]⟩⟩,
     ⟨5, ⟨some 82, .call 24 [.t 78, .t 81, .c (.int .i64 4)], none, [1, 4, 0, 3, 2]⟩⟩,
     ⟨6, ⟨some 16, .mv (.t 82), none, [5, 0, 1, 2, 3, 4]⟩⟩]) <|
  .seq (.seq (.hregion [
      ⟨17, ⟨some 100, .mv (.c (.int .i64 0)), none, []⟩⟩,
      ⟨13, ⟨some 96, .mv (.t 2), none, []⟩⟩,
      ⟨12, ⟨some 95, .mv (.t 12), none, []⟩⟩,
      ⟨14, ⟨some 97, .bin .add (.t 95) (.t 96), none, [12, 13]⟩⟩,
      ⟨11, ⟨some 94, .mv (.t 16), none, []⟩⟩,
      ⟨7, ⟨some 90, .mv (.t 12), none, []⟩⟩,
      ⟨8, ⟨some 91, .lens (.t 90), none, [7]⟩⟩,
      ⟨5, ⟨some 88, .mv (.t 3), none, []⟩⟩,
      ⟨6, ⟨some 89, .conv .i64 (.t 88), none, [5]⟩⟩,
      ⟨9, ⟨some 92, .bin .rem (.t 89) (.t 91), none, [6, 8, 5, 7]⟩⟩,
      ⟨4, ⟨some 87, .mv (.t 12), none, []⟩⟩,
      ⟨10, ⟨some 93, .slcs (.t 87) none (some (.t 92)), none, [4, 9, 6, 8, 5, 7]⟩⟩,
      ⟨2, ⟨some 85, .mv (.t 14), none, []⟩⟩,
      ⟨3, ⟨some 86, .b2s (.t 85), none, [2]⟩⟩,
      ⟨1, ⟨some 84, .mv (.t 12), none, []⟩⟩,
      ⟨0, ⟨some 83, .mv (.t 2), none, []⟩⟩,
      ⟨15, ⟨some 98, .lit false 1 9 [.t 83, .t 84, .t 86, .t 93, .t 94, .t 97], none, [0, 1, 3, 10, 11, 14, 2, 4, 9, 6, 8, 5, 7, 12, 13]⟩⟩,
      ⟨16, ⟨some 99, .len (.t 98), none, [15, 0, 1, 3, 10, 11, 14, 2, 4, 9, 6, 8, 5, 7, 12, 13]⟩⟩]) <|
   .block 0 <|
   .loop <|
   .seq (.region [
      ⟨some 101, .bin .lss (.t 100) (.t 99), none, []⟩] none) <|
   .seq (.cond (.t 101) (.skip) <|
    .exit 0) <|
   .seq (.block 1 <|
    .seq (.region [
       ⟨some 102, .ixs 1 (.t 98) (.t 100), none, []⟩,
       ⟨some 103, .load false 1 (.t 102), none, []⟩,
       ⟨some 18, .mv (.t 103), none, []⟩] none) <|
    .seq (.region [
       ⟨some 105, .mv (.t 18), none, []⟩,
       ⟨some 106, .call 26 [.t 105], none, []⟩,
       ⟨some 104, .mv (.t 106), none, []⟩,
       ⟨some 107, .ext (.t 104) 0, none, []⟩,
       ⟨some 108, .ext (.t 104) 1, none, []⟩,
       ⟨some 19, .alloc 3 36 (.agg [.int .i64 0, .int .i64 0, .nil]), none, []⟩,
       ⟨none, .store 3 (.t 19) (.t 107), none, []⟩,
       ⟨some 20, .mv (.t 108), none, []⟩] none) <|
    .seq (.region [
       ⟨some 110, .mv (.t 18), none, []⟩,
       ⟨some 111, .call 27 [.t 110], none, []⟩,
       ⟨some 109, .mv (.t 111), none, []⟩,
       ⟨some 112, .ext (.t 109) 0, none, []⟩,
       ⟨some 113, .ext (.t 109) 1, none, []⟩,
       ⟨some 21, .alloc 3 36 (.agg [.int .i64 0, .int .i64 0, .nil]), none, []⟩,
       ⟨none, .store 3 (.t 21) (.t 112), none, []⟩,
       ⟨some 22, .mv (.t 113), none, []⟩] none) <|
    .seq (.region [
       ⟨some 114, .mv (.t 20), none, []⟩,
       ⟨some 115, .mv (.t 22), none, []⟩,
       ⟨some 116, .bin .neq (.t 114) (.t 115), none, []⟩,
       ⟨some 117, .mv (.t 116), none, []⟩,
       ⟨some 118, .load true 3 (.t 19), some (117, false), []⟩,
       ⟨some 119, .load true 3 (.t 21), some (117, false), []⟩,
       ⟨some 120, .call 28 [.t 118, .t 119], some (117, false), []⟩,
       ⟨some 121, .un .not (.t 120), some (117, false), []⟩,
       ⟨some 122, .pick (.t 117) (.c (.bool true)) (.t 121), none, []⟩,
       ⟨some 123, .mv (.t 122), none, []⟩,
       ⟨some 124, .mv (.t 18), some (123, false), []⟩,
       ⟨some 125, .call 29 [.t 124], some (123, false), []⟩,
       ⟨some 126, .mv (.t 18), some (123, false), []⟩,
       ⟨some 127, .call 25 [.t 126], some (123, false), []⟩,
       ⟨some 128, .bin .neq (.t 125) (.t 127), some (123, false), []⟩,
       ⟨some 129, .pick (.t 123) (.c (.bool true)) (.t 128), none, []⟩] none) <|
    .cond (.t 129) (.seq (.region [
        ⟨some 10, .mv (.c (.bool false)), none, []⟩] none) <|
     .ret) <|
    .skip) <|
   .region [
     ⟨some 130, .bin .add (.t 100) (.c (.int .i64 1)), none, []⟩,
     ⟨some 100, .mv (.t 130), none, []⟩] none) <|
  .seq (.region [
     ⟨some 132, .load true 3 (.t 6), none, []⟩,
     ⟨some 133, .call 30 [.t 132], none, []⟩,
     ⟨some 131, .mv (.t 133), none, []⟩,
     ⟨some 134, .ext (.t 131) 0, none, []⟩,
     ⟨some 135, .ext (.t 131) 1, none, []⟩,
     ⟨some 23, .mv (.t 134), none, []⟩,
     ⟨some 24, .mv (.t 135), none, []⟩] none) <|
  .seq (.region [
     ⟨some 137, .load true 3 (.t 6), none, []⟩,
     ⟨some 138, .call 23 [.t 137], none, []⟩,
     ⟨some 136, .mv (.t 138), none, []⟩,
     ⟨some 139, .ext (.t 136) 0, none, []⟩,
     ⟨some 140, .ext (.t 136) 1, none, []⟩,
     ⟨some 25, .mv (.t 139), none, []⟩,
     ⟨some 26, .mv (.t 140), none, []⟩] none) <|
  .seq (.region [
     ⟨some 142, .load true 3 (.t 11), none, []⟩,
     ⟨some 143, .call 30 [.t 142], none, []⟩,
     ⟨some 141, .mv (.t 143), none, []⟩,
     ⟨some 144, .ext (.t 141) 0, none, []⟩,
     ⟨some 145, .ext (.t 141) 1, none, []⟩,
     ⟨some 27, .mv (.t 144), none, []⟩,
     ⟨some 28, .mv (.t 145), none, []⟩] none) <|
  .seq (.region [
     ⟨some 146, .mv (.t 24), none, []⟩,
     ⟨some 147, .mv (.t 26), none, []⟩,
     ⟨some 148, .bin .eql (.t 146) (.t 147), none, []⟩,
     ⟨some 149, .mv (.t 148), none, []⟩,
     ⟨some 150, .mv (.t 23), some (149, true), []⟩,
     ⟨some 151, .mv (.t 25), some (149, true), []⟩,
     ⟨some 152, .bin .eql (.t 150) (.t 151), some (149, true), []⟩,
     ⟨some 153, .pick (.t 149) (.t 152) (.c (.bool false)), none, []⟩,
     ⟨some 154, .mv (.t 153), none, []⟩,
     ⟨some 155, .mv (.t 28), some (154, true), []⟩,
     ⟨some 156, .bin .eql (.t 155) (.c (.int .i64 0)), some (154, true), []⟩,
     ⟨some 157, .pick (.t 154) (.t 156) (.c (.bool false)), none, []⟩,
     ⟨some 158, .mv (.t 157), none, []⟩,
     ⟨some 159, .mv (.t 27), some (158, true), []⟩,
     ⟨some 160, .mv (.t 12), some (158, true), []⟩,
     ⟨some 161, .bin .eql (.t 159) (.t 160), some (158, true), []⟩,
     ⟨some 162, .pick (.t 158) (.t 161) (.c (.bool false)), none, []⟩,
     ⟨some 10, .mv (.t 162), none, []⟩] none) <|
  .ret
abbrev n_law28_TelemetryBytes : Nat := 5
theorem b_law28_TelemetryBytes : bodyOf prog 5 [54, 68, 1000000] = some (c_law28_TelemetryBytes, [.t 10], 163) := by kernel_rfl

def c_law28_TelemetryBack : ACode :=
  .seq (.region [
     ⟨some 6, .mv (.c (.bool false)), none, []⟩] none) <|
  .seq (.seq (.region [
      ⟨some 16, .call 7 [], none, []⟩,
      ⟨some 17, .un .not (.t 16), none, []⟩] none) <|
   .cond (.t 17) (.seq (.region [
       ⟨some 6, .mv (.c (.bool false)), none, []⟩] none) <|
    .ret) <|
   .skip) <|
  .seq (.seq (.region [
      ⟨some 18, .mv (.t 0), none, []⟩,
      ⟨some 19, .call 8 [.t 18], none, []⟩,
      ⟨some 20, .un .not (.t 19), none, []⟩] none) <|
   .cond (.t 20) (.seq (.region [
       ⟨some 6, .mv (.c (.bool true)), none, []⟩] none) <|
    .ret) <|
   .skip) <|
  .seq (.region [
     ⟨some 21, .mv (.t 0), none, []⟩,
     ⟨some 22, .call 9 [.t 21], none, []⟩,
     ⟨some 23, .call 13 [.t 22], none, []⟩,
     ⟨some 7, .alloc 3 36 (.agg [.int .i64 0, .int .i64 0, .nil]), none, []⟩,
     ⟨none, .store 3 (.t 7) (.t 23), none, []⟩] none) <|
  .seq (.region [
     ⟨some 25, .load true 3 (.t 7), none, []⟩,
     ⟨some 26, .call 30 [.t 25], none, []⟩,
     ⟨some 24, .mv (.t 26), none, []⟩,
     ⟨some 27, .ext (.t 24) 0, none, []⟩,
     ⟨some 28, .ext (.t 24) 1, none, []⟩,
     ⟨some 8, .mv (.t 27), none, []⟩,
     ⟨some 9, .mv (.t 28), none, []⟩] none) <|
  .seq (.region [
     ⟨some 30, .mv (.t 8), none, []⟩,
     ⟨some 31, .call 26 [.t 30], none, []⟩,
     ⟨some 29, .mv (.t 31), none, []⟩,
     ⟨some 32, .ext (.t 29) 0, none, []⟩,
     ⟨some 33, .ext (.t 29) 1, none, []⟩,
     ⟨some 10, .alloc 3 36 (.agg [.int .i64 0, .int .i64 0, .nil]), none, []⟩,
     ⟨none, .store 3 (.t 10) (.t 32), none, []⟩,
     ⟨some 11, .mv (.t 33), none, []⟩] none) <|
  .seq (.seq (.region [
      ⟨some 34, .mv (.t 9), none, []⟩,
      ⟨some 35, .bin .neq (.t 34) (.c (.int .i64 0)), none, []⟩,
      ⟨some 36, .mv (.t 35), none, []⟩,
      ⟨some 37, .mv (.t 11), some (36, false), []⟩,
      ⟨some 38, .bin .neq (.t 37) (.c (.int .i64 0)), some (36, false), []⟩,
      ⟨some 39, .pick (.t 36) (.c (.bool true)) (.t 38), none, []⟩,
      ⟨some 40, .mv (.t 39), none, []⟩,
      ⟨some 41, .load true 3 (.t 10), some (40, false), []⟩,
      ⟨some 42, .load true 3 (.t 7), some (40, false), []⟩,
      ⟨some 43, .call 28 [.t 41, .t 42], some (40, false), []⟩,
      ⟨some 44, .un .not (.t 43), some (40, false), []⟩,
      ⟨some 45, .pick (.t 40) (.c (.bool true)) (.t 44), none, []⟩,
      ⟨some 46, .mv (.t 45), none, []⟩,
      ⟨some 47, .mv (.t 8), some (46, false), []⟩,
      ⟨some 48, .lens (.t 47), some (46, false), []⟩,
      ⟨some 49, .bin .eql (.t 48) (.c (.int .i64 0)), some (46, false), []⟩,
      ⟨some 50, .pick (.t 46) (.c (.bool true)) (.t 49), none, []⟩] none) <|
   .cond (.t 50) (.seq (.region [
       ⟨some 6, .mv (.c (.bool false)), none, []⟩] none) <|
    .ret) <|
   .skip) <|
  .seq (.region [
     ⟨some 51, .mv (.t 8), none, []⟩,
     ⟨some 52, .s2b true 5 (.t 51), none, []⟩,
     ⟨some 12, .mv (.t 52), none, []⟩] none) <|
  .seq (.region [
     ⟨some 53, .mv (.t 1), none, []⟩,
     ⟨some 54, .conv .i64 (.t 53), none, []⟩,
     ⟨some 55, .mv (.t 12), none, []⟩,
     ⟨some 56, .len (.t 55), none, []⟩,
     ⟨some 57, .bin .rem (.t 54) (.t 56), none, []⟩,
     ⟨some 13, .mv (.t 57), none, []⟩] none) <|
  .seq (.seq (.region [
      ⟨some 58, .mv (.t 12), none, []⟩,
      ⟨some 59, .mv (.t 13), none, []⟩,
      ⟨some 60, .ixs 1 (.t 58) (.t 59), none, []⟩,
      ⟨some 61, .load false 1 (.t 60), none, []⟩,
      ⟨some 62, .mv (.t 2), none, []⟩,
      ⟨some 63, .bin .eql (.t 61) (.t 62), none, []⟩] none) <|
   .cond (.t 63) (.seq (.region [
       ⟨some 6, .mv (.c (.bool true)), none, []⟩] none) <|
    .ret) <|
   .skip) <|
  .seq (.region [
     ⟨some 64, .mv (.t 12), none, []⟩,
     ⟨some 65, .mv (.t 13), none, []⟩,
     ⟨some 66, .mv (.t 2), none, []⟩,
     ⟨some 67, .ixs 1 (.t 64) (.t 65), none, []⟩,
     ⟨none, .store 1 (.t 67) (.t 66), none, []⟩] none) <|
  .seq (.region [
     ⟨some 69, .mv (.t 12), none, []⟩,
     ⟨some 70, .b2s (.t 69), none, []⟩,
     ⟨some 71, .call 26 [.t 70], none, []⟩,
     ⟨some 68, .mv (.t 71), none, []⟩,
     ⟨some 72, .ext (.t 68) 0, none, []⟩,
     ⟨some 73, .ext (.t 68) 1, none, []⟩,
     ⟨some 14, .alloc 3 36 (.agg [.int .i64 0, .int .i64 0, .nil]), none, []⟩,
     ⟨none, .store 3 (.t 14) (.t 72), none, []⟩,
     ⟨some 15, .mv (.t 73), none, []⟩] none) <|
  .seq (.region [
     ⟨some 74, .mv (.t 15), none, []⟩,
     ⟨some 75, .bin .neq (.t 74) (.c (.int .i64 0)), none, []⟩,
     ⟨some 6, .mv (.t 75), none, []⟩] none) <|
  .ret
abbrev n_law28_TelemetryBack : Nat := 6
theorem b_law28_TelemetryBack : bodyOf prog 6 [52, 1000000] = some (c_law28_TelemetryBack, [.t 6], 76) := by kernel_rfl

def c_law28_sane : ACode :=
  .seq (.region [
     ⟨some 0, .mv (.c (.bool false)), none, []⟩] none) <|
  .seq (.region [
     ⟨some 8, .build [.int .i64 0, .int .i64 0, .nil] [(0, 1, .c (.int .i64 1)), (1, 1, .c (.int .i64 1))], none, []⟩,
     ⟨some 1, .alloc 3 28 (.agg [.int .i64 0, .int .i64 0, .nil]), none, []⟩,
     ⟨none, .store 3 (.t 1) (.t 8), none, []⟩] none) <|
  .seq (.region [
     ⟨some 10, .load true 3 (.t 1), none, []⟩,
     ⟨some 11, .build [.int .i64 0, .int .i64 0, .int .i64 0, .int .i64 0] [(0, 1, .c (.int .i64 2)), (1, 1, .c (.int .i64 3)), (2, 1, .c (.int .i64 4))], none, []⟩,
     ⟨some 12, .lit false 4 34 [.t 11], none, []⟩,
     ⟨some 13, .build [.int .i64 0, .int .i64 0, .nil] [(0, 1, .c (.int .i64 1)), (1, 1, .c (.int .i64 1)), (2, 1, .t 12)], none, []⟩,
     ⟨some 14, .call 10 [.t 10, .t 13], none, []⟩,
     ⟨some 9, .mv (.t 14), none, []⟩,
     ⟨some 15, .ext (.t 9) 0, none, []⟩,
     ⟨some 16, .ext (.t 9) 1, none, []⟩,
     ⟨some 17, .ext (.t 9) 2, none, []⟩,
     ⟨none, .store 3 (.t 1) (.t 15), none, []⟩,
     ⟨some 2, .mv (.t 16), none, []⟩,
     ⟨some 3, .mv (.t 17), none, []⟩] none) <|
  .seq (.region [
     ⟨some 19, .load true 3 (.t 1), none, []⟩,
     ⟨some 20, .build [.int .i64 0, .int .i64 0, .nil] [(0, 1, .c (.int .i64 1)), (1, 1, .c (.int .i64 4))], none, []⟩,
     ⟨some 21, .call 10 [.t 19, .t 20], none, []⟩,
     ⟨some 18, .mv (.t 21), none, []⟩,
     ⟨some 22, .ext (.t 18) 0, none, []⟩,
     ⟨some 23, .ext (.t 18) 1, none, []⟩,
     ⟨some 24, .ext (.t 18) 2, none, []⟩,
     ⟨none, .store 3 (.t 1) (.t 22), none, []⟩,
     ⟨some 4, .mv (.t 23), none, []⟩,
     ⟨some 5, .mv (.t 24), none, []⟩] none) <|
  .seq (.region [
     ⟨some 26, .load true 3 (.t 1), none, []⟩,
     ⟨some 27, .call 17 [.t 26, .c (.int .i64 9)], none, []⟩,
     ⟨some 25, .mv (.t 27), none, []⟩,
     ⟨some 28, .ext (.t 25) 0, none, []⟩,
     ⟨some 29, .ext (.t 25) 1, none, []⟩,
     ⟨some 6, .mv (.t 28), none, []⟩,
     ⟨some 7, .mv (.t 29), none, []⟩] none) <|
  .seq (.region [
     ⟨some 30, .mv (.t 3), none, []⟩,
     ⟨some 31, .bin .eql (.t 30) (.c (.int .i64 0)), none, []⟩,
     ⟨some 32, .mv (.t 31), none, []⟩,
     ⟨some 33, .mv (.t 5), some (32, true), []⟩,
     ⟨some 34, .bin .eql (.t 33) (.c (.int .i64 0)), some (32, true), []⟩,
     ⟨some 35, .pick (.t 32) (.t 34) (.c (.bool false)), none, []⟩,
     ⟨some 36, .mv (.t 35), none, []⟩,
     ⟨some 37, .mv (.t 7), some (36, true), []⟩,
     ⟨some 38, .bin .eql (.t 37) (.c (.int .i64 0)), some (36, true), []⟩,
     ⟨some 39, .pick (.t 36) (.t 38) (.c (.bool false)), none, []⟩,
     ⟨some 40, .mv (.t 39), none, []⟩,
     ⟨some 41, .mv (.t 2), some (40, true), []⟩,
     ⟨some 42, .len (.t 41), some (40, true), []⟩,
     ⟨some 43, .bin .eql (.t 42) (.c (.int .i64 1)), some (40, true), []⟩,
     ⟨some 44, .pick (.t 40) (.t 43) (.c (.bool false)), none, []⟩,
     ⟨some 45, .mv (.t 44), none, []⟩,
     ⟨some 46, .mv (.t 2), some (45, true), []⟩,
     ⟨some 47, .ixs 4 (.t 46) (.c (.int .i64 0)), some (45, true), []⟩,
     ⟨some 48, .fa 2 (.t 47), some (45, true), []⟩,
     ⟨some 49, .load false 1 (.t 48), some (45, true), []⟩,
     ⟨some 50, .bin .eql (.t 49) (.c (.int .i64 4)), some (45, true), []⟩,
     ⟨some 51, .pick (.t 45) (.t 50) (.c (.bool false)), none, []⟩,
     ⟨some 52, .mv (.t 51), none, []⟩,
     ⟨some 53, .mv (.t 6), some (52, true), []⟩,
     ⟨some 54, .len (.t 53), some (52, true), []⟩,
     ⟨some 55, .bin .eql (.t 54) (.c (.int .i64 2)), some (52, true), []⟩,
     ⟨some 56, .pick (.t 52) (.t 55) (.c (.bool false)), none, []⟩,
     ⟨some 57, .mv (.t 56), none, []⟩,
     ⟨some 58, .mv (.t 6), some (57, true), []⟩,
     ⟨some 59, .ixs 1 (.t 58) (.c (.int .i64 0)), some (57, true), []⟩,
     ⟨some 60, .load false 1 (.t 59), some (57, true), []⟩,
     ⟨some 61, .bin .eql (.t 60) (.c (.int .i64 2)), some (57, true), []⟩,
     ⟨some 62, .pick (.t 57) (.t 61) (.c (.bool false)), none, []⟩,
     ⟨some 63, .mv (.t 62), none, []⟩,
     ⟨some 64, .mv (.t 6), some (63, true), []⟩,
     ⟨some 65, .ixs 1 (.t 64) (.c (.int .i64 1)), some (63, true), []⟩,
     ⟨some 66, .load false 1 (.t 65), some (63, true), []⟩,
     ⟨some 67, .bin .eql (.t 66) (.c (.int .i64 3)), some (63, true), []⟩,
     ⟨some 68, .pick (.t 63) (.t 67) (.c (.bool false)), none, []⟩,
     ⟨some 69, .mv (.t 68), none, []⟩,
     ⟨some 70, .fa 1 (.t 1), some (69, true), []⟩,
     ⟨some 71, .load false 1 (.t 70), some (69, true), []⟩,
     ⟨some 72, .bin .eql (.t 71) (.c (.int .i64 5)), some (69, true), []⟩,
     ⟨some 73, .pick (.t 69) (.t 72) (.c (.bool false)), none, []⟩,
     ⟨some 74, .mv (.t 73), none, []⟩,
     ⟨some 75, .call 29 [.c (.str ⟨#[87, 105, 107, 105, 112, 101, 100, 105, 97]⟩)], some (74, true), []⟩,
     ⟨some 76, .bin .eql (.t 75) (.c (.int .i64 300286872)), some (74, true), []⟩,
     ⟨some 77, .pick (.t 74) (.t 76) (.c (.bool false)), none, []⟩,
     ⟨some 78, .mv (.t 77), none, []⟩,
     ⟨some 79, .load true 3 (.t 1), some (78, true), []⟩,
     ⟨some 80, .call 21 [.t 79], some (78, true), []⟩,
     ⟨some 81, .bin .eql (.t 80) (.c (.int .i64 0)), some (78, true), []⟩,
     ⟨some 82, .pick (.t 78) (.t 81) (.c (.bool false)), none, []⟩,
     ⟨some 0, .mv (.t 82), none, []⟩] none) <|
  .ret
abbrev n_law28_sane : Nat := 7
theorem b_law28_sane : bodyOf prog 7 [1000000] = some (c_law28_sane, [.t 0], 83) := by kernel_rfl

def c_mk_Few : ACode :=
  .seq (.region [
     ⟨some 2, .mv (.c (.bool false)), none, []⟩] none) <|
  .seq (.region [
     ⟨some 3, .mv (.t 0), none, []⟩,
     ⟨some 4, .len (.t 3), none, []⟩,
     ⟨some 5, .bin .leq (.t 4) (.c (.int .i64 500)), none, []⟩,
     ⟨some 2, .mv (.t 5), none, []⟩] none) <|
  .ret
abbrev n_mk_Few : Nat := 8
theorem b_mk_Few : bodyOf prog 8 [1000000] = some (c_mk_Few, [.t 2], 6) := by kernel_rfl

def c_mk_New : ACode :=
  .seq (.region [
     ⟨some 2, .mv (.c (.nilptr)), none, []⟩] none) <|
  .seq (.region [
     ⟨some 3, .mv (.t 0), none, []⟩,
     ⟨some 4, .build [.nil, .int .i64 0] [(0, 1, .t 3)], none, []⟩,
     ⟨some 5, .box 2 64 (.t 4), none, []⟩,
     ⟨some 2, .mv (.t 5), none, []⟩] none) <|
  .ret
abbrev n_mk_New : Nat := 9
theorem b_mk_New : bodyOf prog 9 [] = some (c_mk_New, [.t 2], 6) := by kernel_rfl

def c_telemetry_Take : ACode :=
  .seq (.region [
     ⟨some 2, .box 3 28 (.t 0), none, []⟩,
     ⟨some 3, .box 3 36 (.t 1), none, []⟩,
     ⟨some 4, .alloc 3 28 (.agg [.int .i64 0, .int .i64 0, .nil]), none, []⟩,
     ⟨some 5, .mv (.c (.nil)), none, []⟩,
     ⟨some 6, .mv (.c (.int .i64 0)), none, []⟩] none) <|
  .seq (.seq (.region [
      ⟨some 12, .load true 3 (.t 2), none, []⟩,
      ⟨some 13, .call 21 [.t 12], none, []⟩,
      ⟨some 7, .mv (.t 13), none, []⟩] none) <|
   .seq (.region [
      ⟨some 14, .mv (.t 7), none, []⟩,
      ⟨some 15, .bin .neq (.t 14) (.c (.int .i64 0)), none, []⟩] none) <|
   .cond (.t 15) (.seq (.region [
       ⟨some 16, .build [.int .i64 0, .int .i64 0, .nil] [], none, []⟩,
       ⟨some 17, .mv (.t 7), none, []⟩,
       ⟨none, .store 3 (.t 4) (.t 16), none, []⟩,
       ⟨some 5, .mv (.c (.nil)), none, []⟩,
       ⟨some 6, .mv (.t 17), none, []⟩] none) <|
    .ret) <|
   .skip) <|
  .seq (.seq (.region [
      ⟨some 18, .load true 3 (.t 3), none, []⟩,
      ⟨some 19, .call 31 [.t 18], none, []⟩,
      ⟨some 20, .un .not (.t 19), none, []⟩] none) <|
   .cond (.t 20) (.seq (.region [
       ⟨some 21, .build [.int .i64 0, .int .i64 0, .nil] [], none, []⟩,
       ⟨none, .store 3 (.t 4) (.t 21), none, []⟩,
       ⟨some 5, .mv (.c (.nil)), none, []⟩,
       ⟨some 6, .mv (.c (.int .i64 3)), none, []⟩] none) <|
    .ret) <|
   .skip) <|
  .seq (.seq (.region [
      ⟨some 22, .fa 0 (.t 3), none, []⟩,
      ⟨some 23, .load false 1 (.t 22), none, []⟩,
      ⟨some 24, .fa 0 (.t 2), none, []⟩,
      ⟨some 25, .load false 1 (.t 24), none, []⟩,
      ⟨some 26, .bin .neq (.t 23) (.t 25), none, []⟩] none) <|
   .cond (.t 26) (.seq (.region [
       ⟨some 27, .build [.int .i64 0, .int .i64 0, .nil] [], none, []⟩,
       ⟨none, .store 3 (.t 4) (.t 27), none, []⟩,
       ⟨some 5, .mv (.c (.nil)), none, []⟩,
       ⟨some 6, .mv (.c (.int .i64 40)), none, []⟩] none) <|
    .ret) <|
   .skip) <|
  .seq (.region [
     ⟨some 29, .fa 2 (.t 2), none, []⟩,
     ⟨some 30, .load false 1 (.t 29), none, []⟩,
     ⟨some 31, .fa 1 (.t 3), none, []⟩,
     ⟨some 32, .load false 1 (.t 31), none, []⟩,
     ⟨some 33, .call 32 [.t 30, .t 32], none, []⟩,
     ⟨some 28, .mv (.t 33), none, []⟩,
     ⟨some 34, .ext (.t 28) 0, none, []⟩,
     ⟨some 35, .ext (.t 28) 1, none, []⟩,
     ⟨some 8, .mv (.t 34), none, []⟩,
     ⟨some 9, .mv (.t 35), none, []⟩] none) <|
  .seq (.hregion [
     ⟨4, ⟨some 40, .fa 2 (.t 2), none, []⟩⟩,
     ⟨5, ⟨some 41, .load false 1 (.t 40), none, [4]⟩⟩,
     ⟨2, ⟨some 38, .fa 1 (.t 2), none, []⟩⟩,
     ⟨3, ⟨some 39, .load false 1 (.t 38), none, [2]⟩⟩,
     ⟨0, ⟨some 36, .fa 0 (.t 2), none, []⟩⟩,
     ⟨1, ⟨some 37, .load false 1 (.t 36), none, [0]⟩⟩,
     ⟨6, ⟨some 42, .call 33 [.t 41], none, [5, 4]⟩⟩,
     ⟨7, ⟨some 43, .build [.int .i64 0, .int .i64 0, .nil] [(0, 1, .t 37), (1, 1, .t 39), (2, 1, .t 42)], none, [1, 3, 6, 0, 2, 5, 4]⟩⟩,
     ⟨8, ⟨some 10, .alloc 3 28 (.agg [.int .i64 0, .int .i64 0, .nil]), none, []⟩⟩,
     ⟨9, ⟨none, .store 3 (.t 10) (.t 43), none, [8, 7, 6, 0, 1, 2, 3, 4, 5]⟩⟩]) <|
  .seq (.block 0 <|
   .seq (.region [
      ⟨some 63, .fa 1 (.t 3), none, []⟩,
      ⟨some 64, .load false 1 (.t 63), none, []⟩,
      ⟨some 65, .fa 1 (.t 2), none, []⟩,
      ⟨some 66, .load false 1 (.t 65), none, []⟩,
      ⟨some 67, .bin .lss (.t 64) (.t 66), none, []⟩,
      ⟨some 68, .mv (.t 67), none, []⟩,
      ⟨some 69, .mv (.t 9), some (68, true), []⟩,
      ⟨some 70, .un .not (.t 69), some (68, true), []⟩,
      ⟨some 71, .pick (.t 68) (.t 70) (.c (.bool false)), none, []⟩,
      ⟨some 62, .mv (.t 71), none, []⟩] none) <|
   .cond (.t 62) (.seq (.region [
       ⟨some 72, .build [.int .i64 0, .int .i64 0, .nil] [], none, []⟩,
       ⟨none, .store 3 (.t 4) (.t 72), none, []⟩,
       ⟨some 5, .mv (.c (.nil)), none, []⟩,
       ⟨some 6, .mv (.c (.int .i64 46)), none, []⟩] none) <|
    .ret) <|
   .seq (.region [
      ⟨some 74, .mv (.t 9), none, []⟩,
      ⟨some 73, .mv (.t 74), none, []⟩] none) <|
   .cond (.t 73) (.region [
      ⟨some 75, .fa 2 (.t 10), none, []⟩,
      ⟨some 76, .load false 1 (.t 75), none, []⟩,
      ⟨some 77, .mv (.t 8), none, []⟩,
      ⟨some 78, .mv (.t 8), none, []⟩,
      ⟨some 79, .bin .add (.t 78) (.c (.int .i64 1)), none, []⟩,
      ⟨some 80, .call 34 [.t 76, .t 77, .t 79], none, []⟩,
      ⟨some 81, .fa 2 (.t 10), none, []⟩,
      ⟨none, .store 1 (.t 81) (.t 80), none, []⟩] none) <|
   .seq (.region [
      ⟨some 83, .fa 2 (.t 2), none, []⟩,
      ⟨some 84, .load false 1 (.t 83), none, []⟩,
      ⟨some 85, .len (.t 84), none, []⟩,
      ⟨some 86, .fa 1 (.t 3), none, []⟩,
      ⟨some 87, .load false 1 (.t 86), none, []⟩,
      ⟨some 88, .bin .add (.t 85) (.t 87), none, []⟩,
      ⟨some 89, .fa 1 (.t 2), none, []⟩,
      ⟨some 90, .load false 1 (.t 89), none, []⟩,
      ⟨some 91, .bin .sub (.t 88) (.t 90), none, []⟩,
      ⟨some 92, .bin .gtr (.t 91) (.c (.int .i64 256)), none, []⟩,
      ⟨some 82, .mv (.t 92), none, []⟩] none) <|
   .cond (.t 82) (.seq (.region [
       ⟨some 93, .build [.int .i64 0, .int .i64 0, .nil] [], none, []⟩,
       ⟨none, .store 3 (.t 4) (.t 93), none, []⟩,
       ⟨some 5, .mv (.c (.nil)), none, []⟩,
       ⟨some 6, .mv (.c (.int .i64 45)), none, []⟩] none) <|
    .ret) <|
   .seq (.seq (.region [
       ⟨some 44, .fa 1 (.t 2), none, []⟩,
       ⟨some 45, .load false 1 (.t 44), none, []⟩,
       ⟨some 11, .mv (.t 45), none, []⟩] none) <|
    .block 1 <|
    .loop <|
    .seq (.seq (.region [
        ⟨some 46, .mv (.t 11), none, []⟩,
        ⟨some 47, .fa 1 (.t 3), none, []⟩,
        ⟨some 48, .load false 1 (.t 47), none, []⟩,
        ⟨some 49, .bin .lss (.t 46) (.t 48), none, []⟩] none) <|
     .cond (.t 49) (.skip) <|
     .exit 1) <|
    .seq (.block 2 <|
     .region [
       ⟨some 52, .fa 2 (.t 10), none, []⟩,
       ⟨some 53, .load false 1 (.t 52), none, []⟩,
       ⟨some 54, .mv (.t 11), none, []⟩,
       ⟨some 55, .lit false 1 3 [.t 54], none, []⟩,
       ⟨some 56, .app 1 8 3 (.t 53) (.t 55), none, []⟩,
       ⟨some 57, .fa 2 (.t 10), none, []⟩,
       ⟨none, .store 1 (.t 57) (.t 56), none, []⟩] none) <|
    .region [
      ⟨some 50, .mv (.t 11), none, []⟩,
      ⟨some 51, .bin .add (.t 50) (.c (.int .i64 1)), none, []⟩,
      ⟨some 11, .mv (.t 51), none, []⟩] none) <|
   .region [
     ⟨some 58, .fa 1 (.t 3), none, []⟩,
     ⟨some 59, .load false 1 (.t 58), none, []⟩,
     ⟨some 60, .bin .add (.t 59) (.c (.int .i64 1)), none, []⟩,
     ⟨some 61, .fa 1 (.t 10), none, []⟩,
     ⟨none, .store 1 (.t 61) (.t 60), none, []⟩] none) <|
  .seq (.hregion [
     ⟨1, ⟨some 95, .fa 2 (.t 3), none, []⟩⟩,
     ⟨2, ⟨some 96, .load false 1 (.t 95), none, [1]⟩⟩,
     ⟨0, ⟨some 94, .load true 3 (.t 10), none, []⟩⟩,
     ⟨3, ⟨some 97, .call 35 [.t 96], none, [2, 1]⟩⟩,
     ⟨4, ⟨none, .store 3 (.t 4) (.t 94), none, [0, 3, 2, 1]⟩⟩,
     ⟨5, ⟨some 5, .mv (.t 97), none, [3, 4, 0, 1, 2]⟩⟩,
     ⟨6, ⟨some 6, .mv (.c (.int .i64 0)), none, [5, 0, 1, 2, 3, 4]⟩⟩]) <|
  .ret
abbrev n_telemetry_Take : Nat := 10
theorem b_telemetry_Take : bodyOf prog 10 [1000000] = some (c_telemetry_Take, [.c 4 true 3, .t 5, .t 6], 98) := by kernel_rfl

def c_mk_Deck_Next : ACode :=
  .seq (.region [
     ⟨some 4, .mv (.c (.int .i64 0)), none, []⟩] none) <|
  .seq (.seq (.region [
      ⟨some 6, .mv (.t 1), none, []⟩,
      ⟨some 7, .bin .lss (.t 6) (.c (.int .i64 1)), none, [0]⟩,
      ⟨some 8, .mv (.t 7), none, [1, 0]⟩,
      ⟨some 9, .mv (.t 0), some (8, false), [2, 1, 0]⟩,
      ⟨some 10, .nilchk (.t 9), some (8, false), [3, 2, 1, 0]⟩,
      ⟨some 11, .fa 1 (.t 10), some (8, false), [4, 2, 3, 1, 0]⟩,
      ⟨some 12, .load false 1 (.t 11), some (8, false), [5, 2, 4, 3, 1, 0]⟩,
      ⟨some 13, .mv (.t 0), some (8, false), [2, 1, 0]⟩,
      ⟨some 14, .nilchk (.t 13), some (8, false), [7, 2, 1, 0]⟩,
      ⟨some 15, .fa 0 (.t 14), some (8, false), [8, 2, 7, 1, 0]⟩,
      ⟨some 16, .load false 1 (.t 15), some (8, false), [9, 2, 8, 7, 1, 0]⟩,
      ⟨some 17, .len (.t 16), some (8, false), [10, 2, 9, 8, 7, 1, 0]⟩,
      ⟨some 18, .bin .geq (.t 12) (.t 17), some (8, false), [6, 11, 2, 5, 4, 3, 1, 0, 10, 9, 8, 7]⟩,
      ⟨some 19, .pick (.t 8) (.c (.bool true)) (.t 18), none, [2, 12, 1, 0, 6, 11, 5, 4, 3, 10, 9, 8, 7]⟩] (some 0)) <|
   .cond (.t 19) (.seq (.region [
       ⟨some 4, .mv (.c (.int .i64 0)), none, []⟩] none) <|
    .ret) <|
   .skip) <|
  .seq (.region [
     ⟨some 20, .mv (.t 0), none, []⟩,
     ⟨some 21, .nilchk (.t 20), none, [0]⟩,
     ⟨some 22, .fa 0 (.t 21), none, [1, 0]⟩,
     ⟨some 23, .load false 1 (.t 22), none, [2, 1, 0]⟩,
     ⟨some 24, .mv (.t 0), none, []⟩,
     ⟨some 25, .nilchk (.t 24), none, [4]⟩,
     ⟨some 26, .fa 1 (.t 25), none, [5, 4]⟩,
     ⟨some 27, .load false 1 (.t 26), none, [6, 5, 4]⟩,
     ⟨some 28, .ixs 1 (.t 23) (.t 27), none, [3, 7, 2, 1, 0, 6, 5, 4]⟩,
     ⟨some 29, .load false 1 (.t 28), none, [8, 3, 7, 2, 1, 0, 6, 5, 4]⟩,
     ⟨some 5, .mv (.t 29), none, [9, 0, 1, 2, 3, 4, 5, 6, 7, 8]⟩] (some 0)) <|
  .seq (.region [
     ⟨some 30, .mv (.t 0), none, []⟩,
     ⟨some 31, .nilchk (.t 30), none, []⟩,
     ⟨some 32, .fa 1 (.t 31), none, []⟩,
     ⟨some 33, .load false 1 (.t 32), none, []⟩,
     ⟨some 34, .bin .add (.t 33) (.c (.int .i64 1)), none, []⟩,
     ⟨some 35, .nilchk (.t 30), none, []⟩,
     ⟨some 36, .fa 1 (.t 35), none, []⟩,
     ⟨none, .store 1 (.t 36) (.t 34), none, []⟩] none) <|
  .seq (.region [
     ⟨some 37, .mv (.t 5), none, []⟩,
     ⟨some 38, .mv (.t 1), none, []⟩,
     ⟨some 39, .call 15 [.t 37, .t 38], none, []⟩,
     ⟨some 4, .mv (.t 39), none, []⟩] none) <|
  .ret
abbrev n_mk_Deck_Next : Nat := 11
theorem b_mk_Deck_Next : bodyOf prog 11 [] = some (c_mk_Deck_Next, [.t 4], 40) := by kernel_rfl

def c_ref28_Same : ACode :=
  .seq (.region [
     ⟨some 2, .box 3 28 (.t 0), none, []⟩,
     ⟨some 3, .box 3 28 (.t 1), none, []⟩,
     ⟨some 4, .mv (.c (.bool false)), none, []⟩] none) <|
  .seq (.seq (.region [
      ⟨some 6, .fa 0 (.t 2), none, []⟩,
      ⟨some 7, .load false 1 (.t 6), none, []⟩,
      ⟨some 8, .fa 0 (.t 3), none, []⟩,
      ⟨some 9, .load false 1 (.t 8), none, []⟩,
      ⟨some 10, .bin .neq (.t 7) (.t 9), none, []⟩,
      ⟨some 11, .mv (.t 10), none, []⟩,
      ⟨some 12, .fa 1 (.t 2), some (11, false), []⟩,
      ⟨some 13, .load false 1 (.t 12), some (11, false), []⟩,
      ⟨some 14, .fa 1 (.t 3), some (11, false), []⟩,
      ⟨some 15, .load false 1 (.t 14), some (11, false), []⟩,
      ⟨some 16, .bin .neq (.t 13) (.t 15), some (11, false), []⟩,
      ⟨some 17, .pick (.t 11) (.c (.bool true)) (.t 16), none, []⟩,
      ⟨some 18, .mv (.t 17), none, []⟩,
      ⟨some 19, .fa 2 (.t 2), some (18, false), []⟩,
      ⟨some 20, .load false 1 (.t 19), some (18, false), []⟩,
      ⟨some 21, .len (.t 20), some (18, false), []⟩,
      ⟨some 22, .fa 2 (.t 3), some (18, false), []⟩,
      ⟨some 23, .load false 1 (.t 22), some (18, false), []⟩,
      ⟨some 24, .len (.t 23), some (18, false), []⟩,
      ⟨some 25, .bin .neq (.t 21) (.t 24), some (18, false), []⟩,
      ⟨some 26, .pick (.t 18) (.c (.bool true)) (.t 25), none, []⟩] none) <|
   .cond (.t 26) (.seq (.region [
       ⟨some 4, .mv (.c (.bool false)), none, []⟩] none) <|
    .ret) <|
   .skip) <|
  .seq (.seq (.region [
      ⟨some 27, .fa 2 (.t 2), none, []⟩,
      ⟨some 28, .load false 1 (.t 27), none, []⟩,
      ⟨some 29, .len (.t 28), none, []⟩,
      ⟨some 30, .mv (.c (.int .i64 0)), none, []⟩] none) <|
   .block 0 <|
   .loop <|
   .seq (.region [
      ⟨some 31, .bin .lss (.t 30) (.t 29), none, []⟩] none) <|
   .seq (.cond (.t 31) (.skip) <|
    .exit 0) <|
   .seq (.block 1 <|
    .seq (.region [
       ⟨some 32, .mv (.t 30), none, []⟩,
       ⟨some 5, .mv (.t 32), none, []⟩] none) <|
    .seq (.hregion [
       ⟨7, ⟨some 40, .mv (.t 5), none, []⟩⟩,
       ⟨5, ⟨some 38, .fa 2 (.t 3), none, []⟩⟩,
       ⟨6, ⟨some 39, .load false 1 (.t 38), none, [5]⟩⟩,
       ⟨8, ⟨some 41, .ixs 1 (.t 39) (.t 40), none, [6, 7, 5]⟩⟩,
       ⟨9, ⟨some 42, .load false 1 (.t 41), none, [8, 6, 7, 5]⟩⟩,
       ⟨2, ⟨some 35, .mv (.t 5), none, []⟩⟩,
       ⟨0, ⟨some 33, .fa 2 (.t 2), none, []⟩⟩,
       ⟨1, ⟨some 34, .load false 1 (.t 33), none, [0]⟩⟩,
       ⟨3, ⟨some 36, .ixs 1 (.t 34) (.t 35), none, [1, 2, 0]⟩⟩,
       ⟨4, ⟨some 37, .load false 1 (.t 36), none, [3, 1, 2, 0]⟩⟩,
       ⟨10, ⟨some 43, .bin .neq (.t 37) (.t 42), none, [4, 9, 3, 1, 2, 0, 8, 6, 7, 5]⟩⟩]) <|
    .cond (.t 43) (.seq (.region [
        ⟨some 4, .mv (.c (.bool false)), none, []⟩] none) <|
     .ret) <|
    .skip) <|
   .region [
     ⟨some 44, .bin .add (.t 30) (.c (.int .i64 1)), none, []⟩,
     ⟨some 30, .mv (.t 44), none, []⟩] none) <|
  .seq (.region [
     ⟨some 4, .mv (.c (.bool true)), none, []⟩] none) <|
  .ret
abbrev n_ref28_Same : Nat := 12
theorem b_ref28_Same : bodyOf prog 12 [1000000] = some (c_ref28_Same, [.t 4], 45) := by kernel_rfl

def c_flow_Frame : ACode :=
  .seq (.region [
     ⟨some 2, .alloc 3 36 (.agg [.int .i64 0, .int .i64 0, .nil]), none, []⟩] none) <|
  .seq (.region [
     ⟨some 5, .mv (.t 0), none, []⟩,
     ⟨some 6, .call 11 [.t 5, .c (.int .i64 3)], none, []⟩,
     ⟨some 7, .mv (.t 0), none, []⟩,
     ⟨some 8, .call 11 [.t 7, .c (.int .i64 9)], none, []⟩,
     ⟨some 9, .bin .add (.c (.int .i64 1)) (.t 8), none, []⟩,
     ⟨some 10, .build [.int .i64 0, .int .i64 0, .nil] [(0, 1, .t 6), (1, 1, .t 9)], none, []⟩,
     ⟨some 3, .alloc 3 36 (.agg [.int .i64 0, .int .i64 0, .nil]), none, []⟩,
     ⟨none, .store 3 (.t 3) (.t 10), none, []⟩] none) <|
  .seq (.seq (.region [
      ⟨some 11, .mv (.t 0), none, []⟩,
      ⟨some 12, .call 11 [.t 11, .c (.int .i64 5)], none, []⟩,
      ⟨some 4, .mv (.t 12), none, []⟩] none) <|
   .block 0 <|
   .loop <|
   .seq (.seq (.region [
       ⟨some 13, .mv (.t 4), none, []⟩,
       ⟨some 14, .bin .gtr (.t 13) (.c (.int .i64 0)), none, []⟩] none) <|
    .cond (.t 14) (.skip) <|
    .exit 0) <|
   .seq (.block 1 <|
    .region [
      ⟨some 17, .fa 2 (.t 3), none, []⟩,
      ⟨some 18, .load false 1 (.t 17), none, [0]⟩,
      ⟨some 19, .mv (.t 0), none, []⟩,
      ⟨some 20, .call 11 [.t 19, .c (.int .i64 300)], none, [2]⟩,
      ⟨some 21, .mv (.t 0), none, []⟩,
      ⟨some 22, .call 11 [.t 21, .c (.int .i64 40)], none, [4, 3, 2]⟩,
      ⟨some 23, .mv (.t 0), none, []⟩,
      ⟨some 24, .call 11 [.t 23, .c (.int .i64 1000)], none, [6, 5, 4, 3, 2]⟩,
      ⟨some 25, .mv (.t 0), none, []⟩,
      ⟨some 26, .call 11 [.t 25, .c (.int .i64 3)], none, [8, 7, 6, 5, 4, 3, 2]⟩,
      ⟨some 27, .build [.int .i64 0, .int .i64 0, .int .i64 0, .int .i64 0] [(0, 1, .t 20), (1, 1, .t 22), (2, 1, .t 24), (3, 1, .t 26)], none, [3, 5, 7, 9, 2, 4, 6, 8]⟩,
      ⟨some 28, .lit false 4 34 [.t 27], none, [10, 3, 5, 7, 9, 2, 4, 6, 8]⟩,
      ⟨some 29, .app 4 32 34 (.t 18) (.t 28), none, [1, 11, 9, 0, 10, 3, 5, 7, 2, 4, 6, 8]⟩,
      ⟨some 30, .fa 2 (.t 3), none, [0, 1, 2, 3, 4, 5, 6, 7, 8, 9, 10, 11, 12]⟩,
      ⟨none, .store 1 (.t 30) (.t 29), none, [13, 12, 0, 1, 2, 3, 4, 5, 6, 7, 8, 9, 10, 11]⟩] (some 15)) <|
   .region [
     ⟨some 15, .mv (.t 4), none, []⟩,
     ⟨some 16, .bin .sub (.t 15) (.c (.int .i64 1)), none, []⟩,
     ⟨some 4, .mv (.t 16), none, []⟩] none) <|
  .seq (.region [
     ⟨some 31, .load true 3 (.t 3), none, []⟩,
     ⟨none, .store 3 (.t 2) (.t 31), none, []⟩] none) <|
  .ret
abbrev n_flow_Frame : Nat := 13
theorem b_flow_Frame : bodyOf prog 13 [] = some (c_flow_Frame, [.c 2 true 3], 32) := by kernel_rfl

def c_ref28_Take : ACode :=
  .seq (.region [
     ⟨some 2, .box 3 28 (.t 0), none, []⟩,
     ⟨some 3, .box 3 36 (.t 1), none, []⟩,
     ⟨some 4, .alloc 3 28 (.agg [.int .i64 0, .int .i64 0, .nil]), none, []⟩,
     ⟨some 5, .mv (.c (.nil)), none, []⟩,
     ⟨some 6, .mv (.c (.int .i64 0)), none, []⟩] none) <|
  .seq (.block 0 <|
   .seq (.region [
      ⟨some 13, .load true 3 (.t 2), none, []⟩,
      ⟨some 14, .call 22 [.t 13], none, []⟩,
      ⟨some 15, .bin .neq (.t 14) (.c (.int .i64 0)), none, []⟩,
      ⟨some 12, .mv (.t 15), none, []⟩] none) <|
   .cond (.t 12) (.seq (.region [
       ⟨some 16, .build [.int .i64 0, .int .i64 0, .nil] [], none, []⟩,
       ⟨none, .store 3 (.t 4) (.t 16), none, []⟩,
       ⟨some 5, .mv (.c (.nil)), none, []⟩,
       ⟨some 6, .mv (.c (.int .i64 50)), none, []⟩] none) <|
    .ret) <|
   .seq (.region [
      ⟨some 18, .load true 3 (.t 3), none, []⟩,
      ⟨some 19, .call 36 [.t 18], none, []⟩,
      ⟨some 20, .un .not (.t 19), none, []⟩,
      ⟨some 17, .mv (.t 20), none, []⟩] none) <|
   .cond (.t 17) (.seq (.region [
       ⟨some 21, .build [.int .i64 0, .int .i64 0, .nil] [], none, []⟩,
       ⟨none, .store 3 (.t 4) (.t 21), none, []⟩,
       ⟨some 5, .mv (.c (.nil)), none, []⟩,
       ⟨some 6, .mv (.c (.int .i64 3)), none, []⟩] none) <|
    .ret) <|
   .seq (.region [
      ⟨some 23, .fa 0 (.t 3), none, []⟩,
      ⟨some 24, .load false 1 (.t 23), none, []⟩,
      ⟨some 25, .fa 0 (.t 2), none, []⟩,
      ⟨some 26, .load false 1 (.t 25), none, []⟩,
      ⟨some 27, .bin .neq (.t 24) (.t 26), none, []⟩,
      ⟨some 22, .mv (.t 27), none, []⟩] none) <|
   .cond (.t 22) (.seq (.region [
       ⟨some 28, .build [.int .i64 0, .int .i64 0, .nil] [], none, []⟩,
       ⟨none, .store 3 (.t 4) (.t 28), none, []⟩,
       ⟨some 5, .mv (.c (.nil)), none, []⟩,
       ⟨some 6, .mv (.c (.int .i64 40)), none, []⟩] none) <|
    .ret) <|
   .skip) <|
  .seq (.region [
     ⟨some 29, .fa 0 (.t 2), none, []⟩,
     ⟨some 30, .load false 1 (.t 29), none, []⟩,
     ⟨some 31, .fa 1 (.t 2), none, []⟩,
     ⟨some 32, .load false 1 (.t 31), none, []⟩,
     ⟨some 33, .build [.int .i64 0, .int .i64 0, .nil] [(0, 1, .t 30), (1, 1, .t 32)], none, []⟩,
     ⟨some 7, .alloc 3 28 (.agg [.int .i64 0, .int .i64 0, .nil]), none, []⟩,
     ⟨none, .store 3 (.t 7) (.t 33), none, []⟩] none) <|
  .seq (.region [
     ⟨some 8, .mv (.c (.bool false)), none, []⟩] none) <|
  .seq (.seq (.region [
      ⟨some 34, .fa 2 (.t 2), none, []⟩,
      ⟨some 35, .load false 1 (.t 34), none, []⟩,
      ⟨some 36, .len (.t 35), none, []⟩,
      ⟨some 37, .mv (.c (.int .i64 0)), none, []⟩] none) <|
   .block 1 <|
   .loop <|
   .seq (.region [
      ⟨some 38, .bin .lss (.t 37) (.t 36), none, []⟩] none) <|
   .seq (.cond (.t 38) (.skip) <|
    .exit 1) <|
   .seq (.block 2 <|
    .seq (.region [
       ⟨some 39, .ixs 1 (.t 35) (.t 37), none, []⟩,
       ⟨some 40, .load false 1 (.t 39), none, []⟩,
       ⟨some 10, .mv (.t 40), none, []⟩] none) <|
    .seq (.region [
       ⟨some 41, .mv (.t 10), none, []⟩,
       ⟨some 42, .fa 1 (.t 3), none, []⟩,
       ⟨some 43, .load false 1 (.t 42), none, []⟩,
       ⟨some 44, .bin .eql (.t 41) (.t 43), none, []⟩] none) <|
    .cond (.t 44) (.region [
       ⟨some 8, .mv (.c (.bool true)), none, []⟩] none) <|
    .region [
      ⟨some 45, .fa 2 (.t 7), none, []⟩,
      ⟨some 46, .load false 1 (.t 45), none, []⟩,
      ⟨some 47, .mv (.t 10), none, []⟩,
      ⟨some 48, .lit false 1 3 [.t 47], none, []⟩,
      ⟨some 49, .app 1 8 3 (.t 46) (.t 48), none, []⟩,
      ⟨some 50, .fa 2 (.t 7), none, []⟩,
      ⟨none, .store 1 (.t 50) (.t 49), none, []⟩] none) <|
   .region [
     ⟨some 51, .bin .add (.t 37) (.c (.int .i64 1)), none, []⟩,
     ⟨some 37, .mv (.t 51), none, []⟩] none) <|
  .seq (.seq (.region [
      ⟨some 52, .fa 1 (.t 3), none, []⟩,
      ⟨some 53, .load false 1 (.t 52), none, []⟩,
      ⟨some 54, .fa 1 (.t 2), none, []⟩,
      ⟨some 55, .load false 1 (.t 54), none, []⟩,
      ⟨some 56, .bin .lss (.t 53) (.t 55), none, []⟩,
      ⟨some 57, .mv (.t 56), none, []⟩,
      ⟨some 58, .mv (.t 8), some (57, true), []⟩,
      ⟨some 59, .un .not (.t 58), some (57, true), []⟩,
      ⟨some 60, .pick (.t 57) (.t 59) (.c (.bool false)), none, []⟩] none) <|
   .cond (.t 60) (.seq (.region [
       ⟨some 61, .build [.int .i64 0, .int .i64 0, .nil] [], none, []⟩,
       ⟨none, .store 3 (.t 4) (.t 61), none, []⟩,
       ⟨some 5, .mv (.c (.nil)), none, []⟩,
       ⟨some 6, .mv (.c (.int .i64 46)), none, []⟩] none) <|
    .ret) <|
   .skip) <|
  .seq (.seq (.region [
      ⟨some 62, .fa 1 (.t 3), none, []⟩,
      ⟨some 63, .load false 1 (.t 62), none, []⟩,
      ⟨some 64, .fa 1 (.t 2), none, []⟩,
      ⟨some 65, .load false 1 (.t 64), none, []⟩,
      ⟨some 66, .bin .geq (.t 63) (.t 65), none, []⟩] none) <|
   .cond (.t 66) (.seq (.seq (.region [
        ⟨some 67, .fa 1 (.t 3), none, []⟩,
        ⟨some 68, .load false 1 (.t 67), none, []⟩,
        ⟨some 69, .fa 1 (.t 2), none, []⟩,
        ⟨some 70, .load false 1 (.t 69), none, []⟩,
        ⟨some 71, .bin .sub (.t 68) (.t 70), none, []⟩,
        ⟨some 72, .fa 2 (.t 2), none, []⟩,
        ⟨some 73, .load false 1 (.t 72), none, []⟩,
        ⟨some 74, .len (.t 73), none, []⟩,
        ⟨some 75, .bin .sub (.c (.int .i64 256)) (.t 74), none, []⟩,
        ⟨some 76, .bin .gtr (.t 71) (.t 75), none, []⟩] none) <|
     .cond (.t 76) (.seq (.region [
         ⟨some 77, .build [.int .i64 0, .int .i64 0, .nil] [], none, []⟩,
         ⟨none, .store 3 (.t 4) (.t 77), none, []⟩,
         ⟨some 5, .mv (.c (.nil)), none, []⟩,
         ⟨some 6, .mv (.c (.int .i64 45)), none, []⟩] none) <|
      .ret) <|
     .skip) <|
    .seq (.seq (.region [
        ⟨some 78, .fa 1 (.t 2), none, []⟩,
        ⟨some 79, .load false 1 (.t 78), none, []⟩,
        ⟨some 11, .mv (.t 79), none, []⟩] none) <|
     .block 3 <|
     .loop <|
     .seq (.seq (.region [
         ⟨some 80, .mv (.t 11), none, []⟩,
         ⟨some 81, .fa 1 (.t 3), none, []⟩,
         ⟨some 82, .load false 1 (.t 81), none, []⟩,
         ⟨some 83, .bin .lss (.t 80) (.t 82), none, []⟩] none) <|
      .cond (.t 83) (.skip) <|
      .exit 3) <|
     .seq (.block 4 <|
      .region [
        ⟨some 86, .fa 2 (.t 7), none, []⟩,
        ⟨some 87, .load false 1 (.t 86), none, []⟩,
        ⟨some 88, .mv (.t 11), none, []⟩,
        ⟨some 89, .lit false 1 3 [.t 88], none, []⟩,
        ⟨some 90, .app 1 8 3 (.t 87) (.t 89), none, []⟩,
        ⟨some 91, .fa 2 (.t 7), none, []⟩,
        ⟨none, .store 1 (.t 91) (.t 90), none, []⟩] none) <|
     .region [
       ⟨some 84, .mv (.t 11), none, []⟩,
       ⟨some 85, .bin .add (.t 84) (.c (.int .i64 1)), none, []⟩,
       ⟨some 11, .mv (.t 85), none, []⟩] none) <|
    .region [
      ⟨some 92, .fa 1 (.t 3), none, []⟩,
      ⟨some 93, .load false 1 (.t 92), none, []⟩,
      ⟨some 94, .bin .add (.t 93) (.c (.int .i64 1)), none, []⟩,
      ⟨some 95, .fa 1 (.t 7), none, []⟩,
      ⟨none, .store 1 (.t 95) (.t 94), none, []⟩] none) <|
   .skip) <|
  .seq (.hregion [
     ⟨1, ⟨some 97, .fa 2 (.t 3), none, []⟩⟩,
     ⟨2, ⟨some 98, .load false 1 (.t 97), none, [1]⟩⟩,
     ⟨0, ⟨some 96, .load true 3 (.t 7), none, []⟩⟩,
     ⟨3, ⟨some 99, .app 4 32 34 (.c (.nil)) (.t 98), none, [2, 1]⟩⟩,
     ⟨4, ⟨none, .store 3 (.t 4) (.t 96), none, [0, 3, 2, 1]⟩⟩,
     ⟨5, ⟨some 5, .mv (.t 99), none, [3, 4, 0, 1, 2]⟩⟩,
     ⟨6, ⟨some 6, .mv (.c (.int .i64 0)), none, [5, 0, 1, 2, 3, 4]⟩⟩]) <|
  .ret
abbrev n_ref28_Take : Nat := 14
theorem b_ref28_Take : bodyOf prog 14 [1000000] = some (c_ref28_Take, [.c 4 true 3, .t 5, .t 6], 100) := by kernel_rfl

def c_mk_Mod : ACode :=
  .seq (.region [
     ⟨some 4, .mv (.c (.int .i64 0)), none, []⟩] none) <|
  .seq (.region [
     ⟨some 5, .mv (.t 0), none, []⟩,
     ⟨some 6, .mv (.t 1), none, []⟩,
     ⟨some 7, .bin .rem (.t 5) (.t 6), none, []⟩,
     ⟨some 8, .mv (.t 1), none, []⟩,
     ⟨some 9, .bin .add (.t 7) (.t 8), none, []⟩,
     ⟨some 10, .mv (.t 1), none, []⟩,
     ⟨some 11, .bin .rem (.t 9) (.t 10), none, []⟩,
     ⟨some 4, .mv (.t 11), none, []⟩] none) <|
  .ret
abbrev n_mk_Mod : Nat := 15
theorem b_mk_Mod : bodyOf prog 15 [] = some (c_mk_Mod, [.t 4], 12) := by kernel_rfl

def c_ref28_SameReadings : ACode :=
  .seq (.region [
     ⟨some 4, .mv (.c (.bool false)), none, []⟩] none) <|
  .seq (.seq (.region [
      ⟨some 6, .mv (.t 0), none, []⟩,
      ⟨some 7, .len (.t 6), none, []⟩,
      ⟨some 8, .mv (.t 1), none, []⟩,
      ⟨some 9, .len (.t 8), none, []⟩,
      ⟨some 10, .bin .neq (.t 7) (.t 9), none, []⟩] none) <|
   .cond (.t 10) (.seq (.region [
       ⟨some 4, .mv (.c (.bool false)), none, []⟩] none) <|
    .ret) <|
   .skip) <|
  .seq (.seq (.region [
      ⟨some 11, .mv (.t 0), none, []⟩,
      ⟨some 12, .len (.t 11), none, []⟩,
      ⟨some 13, .mv (.c (.int .i64 0)), none, []⟩] none) <|
   .block 0 <|
   .loop <|
   .seq (.region [
      ⟨some 14, .bin .lss (.t 13) (.t 12), none, []⟩] none) <|
   .seq (.cond (.t 14) (.skip) <|
    .exit 0) <|
   .seq (.block 1 <|
    .seq (.region [
       ⟨some 15, .mv (.t 13), none, []⟩,
       ⟨some 5, .mv (.t 15), none, []⟩] none) <|
    .seq (.region [
       ⟨some 16, .mv (.t 0), none, []⟩,
       ⟨some 17, .mv (.t 5), none, []⟩,
       ⟨some 18, .ixs 4 (.t 16) (.t 17), none, [0, 1]⟩,
       ⟨some 19, .load true 4 (.t 18), none, [2, 0, 1]⟩,
       ⟨some 20, .mv (.t 1), none, []⟩,
       ⟨some 21, .mv (.t 5), none, []⟩,
       ⟨some 22, .ixs 4 (.t 20) (.t 21), none, [4, 5]⟩,
       ⟨some 23, .load true 4 (.t 22), none, [6, 4, 5]⟩,
       ⟨some 24, .eqs true [0, 0, 0, 0] (.t 19) (.t 23), none, [3, 7, 2, 0, 1, 6, 4, 5]⟩] (some 0)) <|
    .cond (.t 24) (.seq (.region [
        ⟨some 4, .mv (.c (.bool false)), none, []⟩] none) <|
     .ret) <|
    .skip) <|
   .region [
     ⟨some 25, .bin .add (.t 13) (.c (.int .i64 1)), none, []⟩,
     ⟨some 13, .mv (.t 25), none, []⟩] none) <|
  .seq (.region [
     ⟨some 4, .mv (.c (.bool true)), none, []⟩] none) <|
  .ret
abbrev n_ref28_SameReadings : Nat := 16
theorem b_ref28_SameReadings : bodyOf prog 16 [] = some (c_ref28_SameReadings, [.t 4], 26) := by kernel_rfl

def c_telemetry_Ask : ACode :=
  .seq (.region [
     ⟨some 2, .box 3 28 (.t 0), none, []⟩,
     ⟨some 4, .mv (.c (.nil)), none, []⟩,
     ⟨some 5, .mv (.c (.int .i64 0)), none, []⟩] none) <|
  .seq (.seq (.region [
      ⟨some 7, .load true 3 (.t 2), none, []⟩,
      ⟨some 8, .call 21 [.t 7], none, []⟩,
      ⟨some 6, .mv (.t 8), none, []⟩] none) <|
   .seq (.region [
      ⟨some 9, .mv (.t 6), none, []⟩,
      ⟨some 10, .bin .neq (.t 9) (.c (.int .i64 0)), none, []⟩] none) <|
   .cond (.t 10) (.seq (.region [
       ⟨some 11, .mv (.t 6), none, []⟩,
       ⟨some 4, .mv (.c (.nil)), none, []⟩,
       ⟨some 5, .mv (.t 11), none, []⟩] none) <|
    .ret) <|
   .skip) <|
  .seq (.seq (.region [
      ⟨some 12, .mv (.t 1), none, []⟩,
      ⟨some 13, .bin .lss (.t 12) (.c (.int .i64 0)), none, []⟩] none) <|
   .cond (.t 13) (.seq (.region [
       ⟨some 4, .mv (.c (.nil)), none, []⟩,
       ⟨some 5, .mv (.c (.int .i64 1)), none, []⟩] none) <|
    .ret) <|
   .skip) <|
  .seq (.region [
     ⟨some 14, .fa 2 (.t 2), none, []⟩,
     ⟨some 15, .load false 1 (.t 14), none, []⟩,
     ⟨some 16, .mv (.t 1), none, []⟩,
     ⟨some 17, .fa 2 (.t 2), none, []⟩,
     ⟨some 18, .load false 1 (.t 17), none, []⟩,
     ⟨some 19, .len (.t 18), none, []⟩,
     ⟨some 20, .mnx false (.t 16) [.t 19], none, []⟩,
     ⟨some 21, .slc 1 (.t 15) none (some (.t 20)), none, []⟩,
     ⟨some 22, .call 33 [.t 21], none, []⟩,
     ⟨some 4, .mv (.t 22), none, []⟩,
     ⟨some 5, .mv (.c (.int .i64 0)), none, []⟩] none) <|
  .ret
abbrev n_telemetry_Ask : Nat := 17
theorem b_telemetry_Ask : bodyOf prog 17 [1000000] = some (c_telemetry_Ask, [.t 4, .t 5], 23) := by kernel_rfl

def c_ref28_Ask : ACode :=
  .seq (.region [
     ⟨some 2, .box 3 28 (.t 0), none, []⟩,
     ⟨some 4, .mv (.c (.nil)), none, []⟩,
     ⟨some 5, .mv (.c (.int .i64 0)), none, []⟩] none) <|
  .seq (.seq (.region [
      ⟨some 6, .load true 3 (.t 2), none, []⟩,
      ⟨some 7, .call 22 [.t 6], none, []⟩,
      ⟨some 8, .bin .neq (.t 7) (.c (.int .i64 0)), none, []⟩] none) <|
   .cond (.t 8) (.seq (.region [
       ⟨some 4, .mv (.c (.nil)), none, []⟩,
       ⟨some 5, .mv (.c (.int .i64 50)), none, []⟩] none) <|
    .ret) <|
   .skip) <|
  .seq (.seq (.region [
      ⟨some 9, .mv (.t 1), none, []⟩,
      ⟨some 10, .bin .lss (.t 9) (.c (.int .i64 0)), none, []⟩] none) <|
   .cond (.t 10) (.seq (.region [
       ⟨some 4, .mv (.c (.nil)), none, []⟩,
       ⟨some 5, .mv (.c (.int .i64 1)), none, []⟩] none) <|
    .ret) <|
   .skip) <|
  .seq (.region [
     ⟨some 11, .fa 2 (.t 2), none, []⟩,
     ⟨some 12, .load false 1 (.t 11), none, []⟩,
     ⟨some 13, .mv (.t 1), none, []⟩,
     ⟨some 14, .fa 2 (.t 2), none, []⟩,
     ⟨some 15, .load false 1 (.t 14), none, []⟩,
     ⟨some 16, .len (.t 15), none, []⟩,
     ⟨some 17, .mnx false (.t 13) [.t 16], none, []⟩,
     ⟨some 18, .slc 1 (.t 12) none (some (.t 17)), none, []⟩,
     ⟨some 19, .app 1 8 3 (.c (.nil)) (.t 18), none, []⟩,
     ⟨some 4, .mv (.t 19), none, []⟩,
     ⟨some 5, .mv (.c (.int .i64 0)), none, []⟩] none) <|
  .ret
abbrev n_ref28_Ask : Nat := 18
theorem b_ref28_Ask : bodyOf prog 18 [1000000] = some (c_ref28_Ask, [.t 4, .t 5], 20) := by kernel_rfl

def c_telemetry_GiveUp : ACode :=
  .seq (.region [
     ⟨some 2, .box 3 28 (.t 0), none, []⟩,
     ⟨some 4, .alloc 3 28 (.agg [.int .i64 0, .int .i64 0, .nil]), none, []⟩,
     ⟨some 5, .mv (.c (.int .i64 0)), none, []⟩] none) <|
  .seq (.seq (.region [
      ⟨some 9, .load true 3 (.t 2), none, []⟩,
      ⟨some 10, .call 21 [.t 9], none, []⟩,
      ⟨some 6, .mv (.t 10), none, []⟩] none) <|
   .seq (.region [
      ⟨some 11, .mv (.t 6), none, []⟩,
      ⟨some 12, .bin .neq (.t 11) (.c (.int .i64 0)), none, []⟩] none) <|
   .cond (.t 12) (.seq (.region [
       ⟨some 13, .build [.int .i64 0, .int .i64 0, .nil] [], none, []⟩,
       ⟨some 14, .mv (.t 6), none, []⟩,
       ⟨none, .store 3 (.t 4) (.t 13), none, []⟩,
       ⟨some 5, .mv (.t 14), none, []⟩] none) <|
    .ret) <|
   .skip) <|
  .seq (.region [
     ⟨some 16, .fa 2 (.t 2), none, []⟩,
     ⟨some 17, .load false 1 (.t 16), none, []⟩,
     ⟨some 18, .mv (.t 1), none, []⟩,
     ⟨some 19, .call 32 [.t 17, .t 18], none, []⟩,
     ⟨some 15, .mv (.t 19), none, []⟩,
     ⟨some 20, .ext (.t 15) 0, none, []⟩,
     ⟨some 21, .ext (.t 15) 1, none, []⟩,
     ⟨some 7, .mv (.t 20), none, []⟩,
     ⟨some 8, .mv (.t 21), none, []⟩] none) <|
  .seq (.hregion [
     ⟨6, ⟨some 28, .mv (.t 7), none, []⟩⟩,
     ⟨4, ⟨some 26, .fa 2 (.t 2), none, []⟩⟩,
     ⟨5, ⟨some 27, .load false 1 (.t 26), none, [4]⟩⟩,
     ⟨7, ⟨some 29, .slc 1 (.t 27) (some (.t 28)) none, none, [5, 6, 4]⟩⟩,
     ⟨2, ⟨some 24, .fa 1 (.t 2), none, []⟩⟩,
     ⟨3, ⟨some 25, .load false 1 (.t 24), none, [2]⟩⟩,
     ⟨0, ⟨some 22, .fa 0 (.t 2), none, []⟩⟩,
     ⟨1, ⟨some 23, .load false 1 (.t 22), none, [0]⟩⟩,
     ⟨8, ⟨some 30, .call 33 [.t 29], none, [7, 5, 6, 4]⟩⟩,
     ⟨9, ⟨some 31, .build [.int .i64 0, .int .i64 0, .nil] [(0, 1, .t 23), (1, 1, .t 25), (2, 1, .t 30)], none, [1, 3, 8, 0, 2, 7, 5, 6, 4]⟩⟩,
     ⟨10, ⟨none, .store 3 (.t 4) (.t 31), none, [9, 8, 0, 1, 2, 3, 4, 5, 6, 7]⟩⟩,
     ⟨11, ⟨some 5, .mv (.c (.int .i64 0)), none, [10, 0, 1, 2, 3, 4, 5, 6, 7, 8, 9]⟩⟩]) <|
  .ret
abbrev n_telemetry_GiveUp : Nat := 19
theorem b_telemetry_GiveUp : bodyOf prog 19 [1000000] = some (c_telemetry_GiveUp, [.c 4 true 3, .t 5], 32) := by kernel_rfl

def c_ref28_GiveUp : ACode :=
  .seq (.region [
     ⟨some 2, .box 3 28 (.t 0), none, []⟩,
     ⟨some 4, .alloc 3 28 (.agg [.int .i64 0, .int .i64 0, .nil]), none, []⟩,
     ⟨some 5, .mv (.c (.int .i64 0)), none, []⟩] none) <|
  .seq (.seq (.region [
      ⟨some 9, .load true 3 (.t 2), none, []⟩,
      ⟨some 10, .call 22 [.t 9], none, []⟩,
      ⟨some 11, .bin .neq (.t 10) (.c (.int .i64 0)), none, []⟩] none) <|
   .cond (.t 11) (.seq (.region [
       ⟨some 12, .build [.int .i64 0, .int .i64 0, .nil] [], none, []⟩,
       ⟨none, .store 3 (.t 4) (.t 12), none, []⟩,
       ⟨some 5, .mv (.c (.int .i64 50)), none, []⟩] none) <|
    .ret) <|
   .skip) <|
  .seq (.region [
     ⟨some 13, .fa 0 (.t 2), none, []⟩,
     ⟨some 14, .load false 1 (.t 13), none, []⟩,
     ⟨some 15, .fa 1 (.t 2), none, []⟩,
     ⟨some 16, .load false 1 (.t 15), none, []⟩,
     ⟨some 17, .build [.int .i64 0, .int .i64 0, .nil] [(0, 1, .t 14), (1, 1, .t 16)], none, []⟩,
     ⟨some 6, .alloc 3 28 (.agg [.int .i64 0, .int .i64 0, .nil]), none, []⟩,
     ⟨none, .store 3 (.t 6) (.t 17), none, []⟩] none) <|
  .seq (.seq (.region [
      ⟨some 18, .fa 2 (.t 2), none, []⟩,
      ⟨some 19, .load false 1 (.t 18), none, []⟩,
      ⟨some 20, .len (.t 19), none, []⟩,
      ⟨some 21, .mv (.c (.int .i64 0)), none, []⟩] none) <|
   .block 0 <|
   .loop <|
   .seq (.region [
      ⟨some 22, .bin .lss (.t 21) (.t 20), none, []⟩] none) <|
   .seq (.cond (.t 22) (.skip) <|
    .exit 0) <|
   .seq (.block 1 <|
    .seq (.region [
       ⟨some 23, .ixs 1 (.t 19) (.t 21), none, []⟩,
       ⟨some 24, .load false 1 (.t 23), none, []⟩,
       ⟨some 8, .mv (.t 24), none, []⟩] none) <|
    .seq (.region [
       ⟨some 25, .mv (.t 8), none, []⟩,
       ⟨some 26, .mv (.t 1), none, []⟩,
       ⟨some 27, .bin .geq (.t 25) (.t 26), none, []⟩] none) <|
    .cond (.t 27) (.region [
       ⟨some 28, .fa 2 (.t 6), none, []⟩,
       ⟨some 29, .load false 1 (.t 28), none, []⟩,
       ⟨some 30, .mv (.t 8), none, []⟩,
       ⟨some 31, .lit false 1 3 [.t 30], none, []⟩,
       ⟨some 32, .app 1 8 3 (.t 29) (.t 31), none, []⟩,
       ⟨some 33, .fa 2 (.t 6), none, []⟩,
       ⟨none, .store 1 (.t 33) (.t 32), none, []⟩] none) <|
    .skip) <|
   .region [
     ⟨some 34, .bin .add (.t 21) (.c (.int .i64 1)), none, []⟩,
     ⟨some 21, .mv (.t 34), none, []⟩] none) <|
  .seq (.region [
     ⟨some 35, .load true 3 (.t 6), none, []⟩,
     ⟨none, .store 3 (.t 4) (.t 35), none, []⟩,
     ⟨some 5, .mv (.c (.int .i64 0)), none, []⟩] none) <|
  .ret
abbrev n_ref28_GiveUp : Nat := 20
theorem b_ref28_GiveUp : bodyOf prog 20 [1000000] = some (c_ref28_GiveUp, [.c 4 true 3, .t 5], 36) := by kernel_rfl

def c_telemetry_Check : ACode :=
  .seq (.region [
     ⟨some 1, .box 3 28 (.t 0), none, []⟩,
     ⟨some 2, .mv (.c (.int .i64 0)), none, []⟩] none) <|
  .seq (.seq (.region [
      ⟨some 6, .fa 0 (.t 1), none, []⟩,
      ⟨some 7, .load false 1 (.t 6), none, []⟩,
      ⟨some 8, .call 37 [.t 7, .c (.int .i64 0), .c (.int .i64 255)], none, []⟩,
      ⟨some 9, .un .not (.t 8), none, []⟩,
      ⟨some 10, .mv (.t 9), none, []⟩,
      ⟨some 11, .fa 1 (.t 1), some (10, false), []⟩,
      ⟨some 12, .load false 1 (.t 11), some (10, false), []⟩,
      ⟨some 13, .call 37 [.t 12, .c (.int .i64 1), .c (.int .i64 1073741825)], some (10, false), []⟩,
      ⟨some 14, .un .not (.t 13), some (10, false), []⟩,
      ⟨some 15, .pick (.t 10) (.c (.bool true)) (.t 14), none, []⟩,
      ⟨some 16, .mv (.t 15), none, []⟩,
      ⟨some 17, .fa 2 (.t 1), some (16, false), []⟩,
      ⟨some 18, .load false 1 (.t 17), some (16, false), []⟩,
      ⟨some 19, .len (.t 18), some (16, false), []⟩,
      ⟨some 20, .bin .gtr (.t 19) (.c (.int .i64 256)), some (16, false), []⟩,
      ⟨some 21, .pick (.t 16) (.c (.bool true)) (.t 20), none, []⟩] none) <|
   .cond (.t 21) (.seq (.region [
       ⟨some 2, .mv (.c (.int .i64 50)), none, []⟩] none) <|
    .ret) <|
   .skip) <|
  .seq (.region [
     ⟨some 3, .mv (.c (.int .i64 0)), none, []⟩] none) <|
  .seq (.seq (.region [
      ⟨some 22, .fa 2 (.t 1), none, []⟩,
      ⟨some 23, .load false 1 (.t 22), none, []⟩,
      ⟨some 24, .len (.t 23), none, []⟩,
      ⟨some 25, .mv (.c (.int .i64 0)), none, []⟩] none) <|
   .block 0 <|
   .loop <|
   .seq (.region [
      ⟨some 26, .bin .lss (.t 25) (.t 24), none, []⟩] none) <|
   .seq (.cond (.t 26) (.skip) <|
    .exit 0) <|
   .seq (.block 1 <|
    .seq (.region [
       ⟨some 27, .ixs 1 (.t 23) (.t 25), none, []⟩,
       ⟨some 28, .load false 1 (.t 27), none, []⟩,
       ⟨some 5, .mv (.t 28), none, []⟩] none) <|
    .seq (.seq (.region [
        ⟨some 29, .mv (.t 5), none, []⟩,
        ⟨some 30, .mv (.t 3), none, []⟩,
        ⟨some 31, .bin .leq (.t 29) (.t 30), none, []⟩,
        ⟨some 32, .mv (.t 31), none, []⟩,
        ⟨some 33, .mv (.t 5), some (32, false), []⟩,
        ⟨some 34, .fa 1 (.t 1), some (32, false), []⟩,
        ⟨some 35, .load false 1 (.t 34), some (32, false), []⟩,
        ⟨some 36, .bin .geq (.t 33) (.t 35), some (32, false), []⟩,
        ⟨some 37, .pick (.t 32) (.c (.bool true)) (.t 36), none, []⟩] none) <|
     .cond (.t 37) (.seq (.region [
         ⟨some 2, .mv (.c (.int .i64 50)), none, []⟩] none) <|
      .ret) <|
     .skip) <|
    .region [
      ⟨some 38, .mv (.t 5), none, []⟩,
      ⟨some 3, .mv (.t 38), none, []⟩] none) <|
   .region [
     ⟨some 39, .bin .add (.t 25) (.c (.int .i64 1)), none, []⟩,
     ⟨some 25, .mv (.t 39), none, []⟩] none) <|
  .seq (.region [
     ⟨some 2, .mv (.c (.int .i64 0)), none, []⟩] none) <|
  .ret
abbrev n_telemetry_Check : Nat := 21
theorem b_telemetry_Check : bodyOf prog 21 [1000000] = some (c_telemetry_Check, [.t 2], 40) := by kernel_rfl

def c_ref28_Check : ACode :=
  .seq (.region [
     ⟨some 1, .box 3 28 (.t 0), none, []⟩,
     ⟨some 2, .mv (.c (.int .i64 0)), none, []⟩] none) <|
  .seq (.seq (.region [
      ⟨some 5, .fa 0 (.t 1), none, []⟩,
      ⟨some 6, .load false 1 (.t 5), none, []⟩,
      ⟨some 7, .call 38 [.t 6, .c (.int .i64 0), .c (.int .i64 255)], none, []⟩,
      ⟨some 8, .un .not (.t 7), none, []⟩,
      ⟨some 9, .mv (.t 8), none, []⟩,
      ⟨some 10, .fa 1 (.t 1), some (9, false), []⟩,
      ⟨some 11, .load false 1 (.t 10), some (9, false), []⟩,
      ⟨some 12, .call 38 [.t 11, .c (.int .i64 1), .c (.int .i64 1073741825)], some (9, false), []⟩,
      ⟨some 13, .un .not (.t 12), some (9, false), []⟩,
      ⟨some 14, .pick (.t 9) (.c (.bool true)) (.t 13), none, []⟩,
      ⟨some 15, .mv (.t 14), none, []⟩,
      ⟨some 16, .fa 2 (.t 1), some (15, false), []⟩,
      ⟨some 17, .load false 1 (.t 16), some (15, false), []⟩,
      ⟨some 18, .len (.t 17), some (15, false), []⟩,
      ⟨some 19, .bin .gtr (.t 18) (.c (.int .i64 256)), some (15, false), []⟩,
      ⟨some 20, .pick (.t 15) (.c (.bool true)) (.t 19), none, []⟩] none) <|
   .cond (.t 20) (.seq (.region [
       ⟨some 2, .mv (.c (.int .i64 50)), none, []⟩] none) <|
    .ret) <|
   .skip) <|
  .seq (.seq (.region [
      ⟨some 21, .fa 2 (.t 1), none, []⟩,
      ⟨some 22, .load false 1 (.t 21), none, []⟩,
      ⟨some 23, .len (.t 22), none, []⟩,
      ⟨some 24, .mv (.c (.int .i64 0)), none, []⟩] none) <|
   .block 0 <|
   .loop <|
   .seq (.region [
      ⟨some 25, .bin .lss (.t 24) (.t 23), none, []⟩] none) <|
   .seq (.cond (.t 25) (.skip) <|
    .exit 0) <|
   .seq (.block 1 <|
    .seq (.region [
       ⟨some 26, .mv (.t 24), none, []⟩,
       ⟨some 27, .ixs 1 (.t 22) (.t 24), none, []⟩,
       ⟨some 28, .load false 1 (.t 27), none, []⟩,
       ⟨some 3, .mv (.t 26), none, []⟩,
       ⟨some 4, .mv (.t 28), none, []⟩] none) <|
    .seq (.region [
       ⟨some 29, .mv (.t 4), none, []⟩,
       ⟨some 30, .fa 1 (.t 1), none, []⟩,
       ⟨some 31, .load false 1 (.t 30), none, []⟩,
       ⟨some 32, .bin .sub (.t 31) (.c (.int .i64 1)), none, []⟩,
       ⟨some 33, .call 38 [.t 29, .c (.int .i64 1), .t 32], none, []⟩,
       ⟨some 34, .un .not (.t 33), none, []⟩,
       ⟨some 35, .mv (.t 34), none, []⟩,
       ⟨some 36, .mv (.t 3), some (35, false), []⟩,
       ⟨some 37, .bin .gtr (.t 36) (.c (.int .i64 0)), some (35, false), []⟩,
       ⟨some 38, .mv (.t 37), some (35, false), []⟩,
       ⟨some 39, .mv (.t 4), some (38, true), []⟩,
       ⟨some 40, .fa 2 (.t 1), some (38, true), []⟩,
       ⟨some 41, .load false 1 (.t 40), some (38, true), []⟩,
       ⟨some 42, .mv (.t 3), some (38, true), []⟩,
       ⟨some 43, .bin .sub (.t 42) (.c (.int .i64 1)), some (38, true), []⟩,
       ⟨some 44, .ixs 1 (.t 41) (.t 43), some (38, true), []⟩,
       ⟨some 45, .load false 1 (.t 44), some (38, true), []⟩,
       ⟨some 46, .bin .leq (.t 39) (.t 45), some (38, true), []⟩,
       ⟨some 47, .pick (.t 38) (.t 46) (.c (.bool false)), some (35, false), []⟩,
       ⟨some 48, .pick (.t 35) (.c (.bool true)) (.t 47), none, []⟩] none) <|
    .cond (.t 48) (.seq (.region [
        ⟨some 2, .mv (.c (.int .i64 50)), none, []⟩] none) <|
     .ret) <|
    .skip) <|
   .region [
     ⟨some 49, .bin .add (.t 24) (.c (.int .i64 1)), none, []⟩,
     ⟨some 24, .mv (.t 49), none, []⟩] none) <|
  .seq (.region [
     ⟨some 2, .mv (.c (.int .i64 0)), none, []⟩] none) <|
  .ret
abbrev n_ref28_Check : Nat := 22
theorem b_ref28_Check : bodyOf prog 22 [1000000] = some (c_ref28_Check, [.t 2], 50) := by kernel_rfl

def c_ref28_Encode : ACode :=
  .seq (.region [
     ⟨some 1, .box 3 36 (.t 0), none, []⟩,
     ⟨some 2, .mv (.c (.str ⟨#[]⟩)), none, []⟩,
     ⟨some 3, .mv (.c (.int .i64 0)), none, []⟩] none) <|
  .seq (.seq (.region [
      ⟨some 7, .load true 3 (.t 1), none, []⟩,
      ⟨some 8, .call 36 [.t 7], none, []⟩,
      ⟨some 9, .un .not (.t 8), none, []⟩] none) <|
   .cond (.t 9) (.seq (.region [
       ⟨some 2, .mv (.c (.str ⟨#[]⟩)), none, []⟩,
       ⟨some 3, .mv (.c (.int .i64 3)), none, []⟩] none) <|
    .ret) <|
   .skip) <|
  .seq (.region [
     ⟨some 10, .fa 0 (.t 1), none, []⟩,
     ⟨some 11, .load false 1 (.t 10), none, [0]⟩,
     ⟨some 12, .call 24 [.c (.str ⟨#[]⟩), .t 11, .c (.int .i64 1)], none, [1, 0]⟩,
     ⟨some 13, .fa 1 (.t 1), none, []⟩,
     ⟨some 14, .load false 1 (.t 13), none, [3]⟩,
     ⟨some 15, .call 24 [.t 12, .t 14, .c (.int .i64 4)], none, [2, 4, 1, 0, 3]⟩,
     ⟨some 16, .fa 2 (.t 1), none, []⟩,
     ⟨some 17, .load false 1 (.t 16), none, [6]⟩,
     ⟨some 18, .len (.t 17), none, [7, 6]⟩,
     ⟨some 19, .call 24 [.t 15, .t 18, .c (.int .i64 1)], none, [5, 8, 2, 4, 1, 0, 3, 7, 6]⟩,
     ⟨some 4, .mv (.t 19), none, [9, 0, 1, 2, 3, 4, 5, 6, 7, 8]⟩] (some 0)) <|
  .seq (.seq (.region [
      ⟨some 20, .fa 2 (.t 1), none, []⟩,
      ⟨some 21, .load false 1 (.t 20), none, []⟩,
      ⟨some 22, .len (.t 21), none, []⟩,
      ⟨some 23, .mv (.c (.int .i64 0)), none, []⟩] none) <|
   .block 0 <|
   .loop <|
   .seq (.region [
      ⟨some 24, .bin .lss (.t 23) (.t 22), none, []⟩] none) <|
   .seq (.cond (.t 24) (.skip) <|
    .exit 0) <|
   .seq (.block 1 <|
    .seq (.region [
       ⟨some 25, .ixs 4 (.t 21) (.t 23), none, []⟩,
       ⟨some 26, .load true 4 (.t 25), none, []⟩,
       ⟨some 6, .alloc 4 34 (.agg [.int .i64 0, .int .i64 0, .int .i64 0, .int .i64 0]), none, []⟩,
       ⟨none, .store 4 (.t 6) (.t 26), none, []⟩] none) <|
    .region [
      ⟨some 27, .mv (.t 4), none, []⟩,
      ⟨some 28, .fa 0 (.t 6), none, []⟩,
      ⟨some 29, .load false 1 (.t 28), none, [1]⟩,
      ⟨some 30, .call 24 [.t 27, .t 29, .c (.int .i64 2)], none, [0, 2, 1]⟩,
      ⟨some 31, .fa 1 (.t 6), none, []⟩,
      ⟨some 32, .load false 1 (.t 31), none, [4]⟩,
      ⟨some 33, .call 24 [.t 30, .t 32, .c (.int .i64 4)], none, [3, 5, 0, 2, 1, 4]⟩,
      ⟨some 34, .fa 2 (.t 6), none, []⟩,
      ⟨some 35, .load false 1 (.t 34), none, [7]⟩,
      ⟨some 36, .call 24 [.t 33, .t 35, .c (.int .i64 5)], none, [6, 8, 3, 5, 0, 2, 1, 4, 7]⟩,
      ⟨some 37, .fa 3 (.t 6), none, []⟩,
      ⟨some 38, .load false 1 (.t 37), none, [10]⟩,
      ⟨some 39, .call 24 [.t 36, .t 38, .c (.int .i64 1)], none, [9, 11, 6, 8, 3, 5, 0, 2, 1, 4, 7, 10]⟩,
      ⟨some 4, .mv (.t 39), none, [12, 0, 1, 2, 3, 4, 5, 6, 7, 8, 9, 10, 11]⟩] (some 0)) <|
   .region [
     ⟨some 40, .bin .add (.t 23) (.c (.int .i64 1)), none, []⟩,
     ⟨some 23, .mv (.t 40), none, []⟩] none) <|
  .seq (.region [
     ⟨some 41, .mv (.t 4), none, []⟩,
     ⟨some 42, .mv (.t 4), none, []⟩,
     ⟨some 43, .call 25 [.t 42], none, []⟩,
     ⟨some 44, .call 24 [.t 41, .t 43, .c (.int .i64 4)], none, []⟩,
     ⟨some 2, .mv (.t 44), none, []⟩,
     ⟨some 3, .mv (.c (.int .i64 0)), none, []⟩] none) <|
  .ret
abbrev n_ref28_Encode : Nat := 23
theorem b_ref28_Encode : bodyOf prog 23 [] = some (c_ref28_Encode, [.t 2, .t 3], 45) := by kernel_rfl

def c_ref28_Put : ACode :=
  .seq (.region [
     ⟨some 6, .mv (.c (.str ⟨#[]⟩)), none, []⟩] none) <|
  .seq (.block 0 <|
   .loop <|
   .seq (.seq (.region [
       ⟨some 7, .mv (.t 2), none, []⟩,
       ⟨some 8, .bin .gtr (.t 7) (.c (.int .i64 0)), none, []⟩] none) <|
    .cond (.t 8) (.skip) <|
    .exit 0) <|
   .seq (.block 1 <|
    .seq (.region [
       ⟨some 11, .mv (.t 0), none, []⟩,
       ⟨some 12, .mv (.t 1), none, []⟩,
       ⟨some 13, .conv .u8 (.t 12), none, []⟩,
       ⟨some 14, .lit false 1 5 [.t 13], none, []⟩,
       ⟨some 15, .b2s (.t 14), none, []⟩,
       ⟨some 16, .bin .add (.t 11) (.t 15), none, []⟩,
       ⟨some 0, .mv (.t 16), none, []⟩] none) <|
    .region [
      ⟨some 17, .mv (.t 1), none, []⟩,
      ⟨some 18, .pu (.bit .shr) [.t 17, .c (.int .u64 8)], none, []⟩,
      ⟨some 1, .mv (.t 18), none, []⟩] none) <|
   .region [
     ⟨some 9, .mv (.t 2), none, []⟩,
     ⟨some 10, .bin .sub (.t 9) (.c (.int .i64 1)), none, []⟩,
     ⟨some 2, .mv (.t 10), none, []⟩] none) <|
  .seq (.region [
     ⟨some 19, .mv (.t 0), none, []⟩,
     ⟨some 6, .mv (.t 19), none, []⟩] none) <|
  .ret
abbrev n_ref28_Put : Nat := 24
theorem b_ref28_Put : bodyOf prog 24 [] = some (c_ref28_Put, [.t 6], 20) := by kernel_rfl

def c_ref28_Sum : ACode :=
  .seq (.region [
     ⟨some 2, .mv (.c (.int .i64 0)), none, []⟩] none) <|
  .seq (.region [
     ⟨some 3, .mv (.c (.int .i64 1)), none, []⟩,
     ⟨some 4, .mv (.c (.int .i64 0)), none, []⟩] none) <|
  .seq (.seq (.region [
      ⟨some 5, .mv (.c (.int .i64 0)), none, []⟩] none) <|
   .block 0 <|
   .loop <|
   .seq (.seq (.region [
       ⟨some 6, .mv (.t 5), none, []⟩,
       ⟨some 7, .mv (.t 0), none, []⟩,
       ⟨some 8, .lens (.t 7), none, []⟩,
       ⟨some 9, .bin .lss (.t 6) (.t 8), none, []⟩] none) <|
    .cond (.t 9) (.skip) <|
    .exit 0) <|
   .seq (.block 1 <|
    .seq (.region [
       ⟨some 12, .mv (.t 3), none, []⟩,
       ⟨some 13, .mv (.t 0), none, []⟩,
       ⟨some 14, .mv (.t 5), none, []⟩,
       ⟨some 15, .pu .sidx [.t 13, .t 14], none, []⟩,
       ⟨some 16, .conv .i64 (.t 15), none, []⟩,
       ⟨some 17, .bin .add (.t 12) (.t 16), none, []⟩,
       ⟨some 18, .bin .rem (.t 17) (.c (.int .i64 65521)), none, []⟩,
       ⟨some 3, .mv (.t 18), none, []⟩] none) <|
    .region [
      ⟨some 19, .mv (.t 4), none, []⟩,
      ⟨some 20, .mv (.t 3), none, []⟩,
      ⟨some 21, .bin .add (.t 19) (.t 20), none, []⟩,
      ⟨some 22, .bin .rem (.t 21) (.c (.int .i64 65521)), none, []⟩,
      ⟨some 4, .mv (.t 22), none, []⟩] none) <|
   .region [
     ⟨some 10, .mv (.t 5), none, []⟩,
     ⟨some 11, .bin .add (.t 10) (.c (.int .i64 1)), none, []⟩,
     ⟨some 5, .mv (.t 11), none, []⟩] none) <|
  .seq (.region [
     ⟨some 23, .mv (.t 4), none, []⟩,
     ⟨some 24, .bin .mul (.c (.int .i64 65536)) (.t 23), none, []⟩,
     ⟨some 25, .mv (.t 3), none, []⟩,
     ⟨some 26, .bin .add (.t 24) (.t 25), none, []⟩,
     ⟨some 2, .mv (.t 26), none, []⟩] none) <|
  .ret
abbrev n_ref28_Sum : Nat := 25
theorem b_ref28_Sum : bodyOf prog 25 [] = some (c_ref28_Sum, [.t 2], 27) := by kernel_rfl

def c_telemetry_Decode : ACode :=
  .seq (.region [
     ⟨some 2, .alloc 3 36 (.agg [.int .i64 0, .int .i64 0, .nil]), none, []⟩,
     ⟨some 3, .mv (.c (.int .i64 0)), none, []⟩] none) <|
  .seq (.seq (.region [
      ⟨some 7, .mv (.t 0), none, []⟩,
      ⟨some 8, .lens (.t 7), none, []⟩,
      ⟨some 9, .bin .lss (.t 8) (.c (.int .i64 10)), none, []⟩,
      ⟨some 10, .mv (.t 9), none, []⟩,
      ⟨some 11, .mv (.t 0), some (10, false), []⟩,
      ⟨some 12, .lens (.t 11), some (10, false), []⟩,
      ⟨some 13, .mv (.t 0), some (10, false), []⟩,
      ⟨some 14, .pu .sidx [.t 13, .c (.int .i64 5)], some (10, false), []⟩,
      ⟨some 15, .conv .i64 (.t 14), some (10, false), []⟩,
      ⟨some 16, .bin .mul (.c (.int .i64 12)) (.t 15), some (10, false), []⟩,
      ⟨some 17, .bin .add (.c (.int .i64 10)) (.t 16), some (10, false), []⟩,
      ⟨some 18, .bin .neq (.t 12) (.t 17), some (10, false), []⟩,
      ⟨some 19, .pick (.t 10) (.c (.bool true)) (.t 18), none, []⟩] none) <|
   .cond (.t 19) (.seq (.region [
       ⟨some 20, .build [.int .i64 0, .int .i64 0, .nil] [], none, []⟩,
       ⟨none, .store 3 (.t 2) (.t 20), none, []⟩,
       ⟨some 3, .mv (.c (.int .i64 7)), none, []⟩] none) <|
    .ret) <|
   .skip) <|
  .seq (.region [
     ⟨some 21, .mv (.t 0), none, []⟩,
     ⟨some 22, .lens (.t 21), none, []⟩,
     ⟨some 23, .bin .sub (.t 22) (.c (.int .i64 4)), none, []⟩,
     ⟨some 4, .mv (.t 23), none, []⟩] none) <|
  .seq (.seq (.region [
      ⟨some 24, .mv (.t 0), none, []⟩,
      ⟨some 25, .mv (.t 4), none, []⟩,
      ⟨some 26, .call 39 [.t 24, .t 25, .c (.int .i64 4)], none, [0, 1]⟩,
      ⟨some 27, .mv (.t 0), none, []⟩,
      ⟨some 28, .mv (.t 4), none, []⟩,
      ⟨some 29, .slcs (.t 27) none (some (.t 28)), none, [3, 4]⟩,
      ⟨some 30, .call 29 [.t 29], none, [5, 2, 3, 4, 0, 1]⟩,
      ⟨some 31, .bin .neq (.t 26) (.t 30), none, [2, 6, 0, 1, 5, 3, 4]⟩] (some 0)) <|
   .cond (.t 31) (.seq (.region [
       ⟨some 32, .build [.int .i64 0, .int .i64 0, .nil] [], none, []⟩,
       ⟨none, .store 3 (.t 2) (.t 32), none, []⟩,
       ⟨some 3, .mv (.c (.int .i64 8)), none, []⟩] none) <|
    .ret) <|
   .skip) <|
  .seq (.region [
     ⟨some 33, .mv (.t 0), none, []⟩,
     ⟨some 34, .call 39 [.t 33, .c (.int .i64 0), .c (.int .i64 1)], none, []⟩,
     ⟨some 35, .mv (.t 0), none, []⟩,
     ⟨some 36, .call 39 [.t 35, .c (.int .i64 1), .c (.int .i64 4)], none, []⟩,
     ⟨some 37, .build [.int .i64 0, .int .i64 0, .nil] [(0, 1, .t 34), (1, 1, .t 36)], none, []⟩,
     ⟨some 5, .alloc 3 36 (.agg [.int .i64 0, .int .i64 0, .nil]), none, []⟩,
     ⟨none, .store 3 (.t 5) (.t 37), none, []⟩] none) <|
  .seq (.seq (.region [
      ⟨some 6, .mv (.c (.int .i64 6)), none, []⟩] none) <|
   .block 0 <|
   .loop <|
   .seq (.seq (.region [
       ⟨some 38, .mv (.t 6), none, []⟩,
       ⟨some 39, .mv (.t 4), none, []⟩,
       ⟨some 40, .bin .lss (.t 38) (.t 39), none, []⟩] none) <|
    .cond (.t 40) (.skip) <|
    .exit 0) <|
   .seq (.block 1 <|
    .region [
      ⟨some 43, .fa 2 (.t 5), none, []⟩,
      ⟨some 44, .load false 1 (.t 43), none, [0]⟩,
      ⟨some 45, .mv (.t 0), none, []⟩,
      ⟨some 46, .mv (.t 6), none, []⟩,
      ⟨some 47, .call 39 [.t 45, .t 46, .c (.int .i64 2)], none, [2, 3]⟩,
      ⟨some 48, .mv (.t 0), none, []⟩,
      ⟨some 49, .mv (.t 6), none, []⟩,
      ⟨some 50, .bin .add (.t 49) (.c (.int .i64 2)), none, [6]⟩,
      ⟨some 51, .call 39 [.t 48, .t 50, .c (.int .i64 4)], none, [5, 7, 4, 6, 2, 3]⟩,
      ⟨some 52, .mv (.t 0), none, []⟩,
      ⟨some 53, .mv (.t 6), none, []⟩,
      ⟨some 54, .bin .add (.t 53) (.c (.int .i64 6)), none, [10]⟩,
      ⟨some 55, .call 39 [.t 52, .t 54, .c (.int .i64 5)], none, [9, 11, 8, 10, 5, 7, 4, 6, 2, 3]⟩,
      ⟨some 56, .mv (.t 0), none, []⟩,
      ⟨some 57, .mv (.t 6), none, []⟩,
      ⟨some 58, .bin .add (.t 57) (.c (.int .i64 11)), none, [14]⟩,
      ⟨some 59, .call 39 [.t 56, .t 58, .c (.int .i64 1)], none, [13, 15, 12, 14, 9, 11, 8, 10, 5, 7, 4, 6, 2, 3]⟩,
      ⟨some 60, .build [.int .i64 0, .int .i64 0, .int .i64 0, .int .i64 0] [(0, 1, .t 47), (1, 1, .t 51), (2, 1, .t 55), (3, 1, .t 59)], none, [4, 8, 12, 16, 2, 3, 5, 7, 6, 9, 11, 10, 13, 15, 14]⟩,
      ⟨some 61, .lit false 4 34 [.t 60], none, [17, 4, 8, 12, 16, 2, 3, 5, 7, 6, 9, 11, 10, 13, 15, 14]⟩,
      ⟨some 62, .app 4 32 34 (.t 44) (.t 61), none, [1, 18, 16, 0, 17, 4, 8, 12, 2, 3, 5, 7, 6, 9, 11, 10, 13, 15, 14]⟩,
      ⟨some 63, .fa 2 (.t 5), none, [0, 1, 2, 3, 4, 5, 6, 7, 8, 9, 10, 11, 12, 13, 14, 15, 16, 17, 18, 19]⟩,
      ⟨none, .store 1 (.t 63) (.t 62), none, [20, 19, 0, 1, 2, 3, 4, 5, 6, 7, 8, 9, 10, 11, 12, 13, 14, 15, 16, 17, 18]⟩] (some 22)) <|
   .region [
     ⟨some 41, .mv (.t 6), none, []⟩,
     ⟨some 42, .bin .add (.t 41) (.c (.int .i64 12)), none, []⟩,
     ⟨some 6, .mv (.t 42), none, []⟩] none) <|
  .seq (.seq (.region [
      ⟨some 64, .load true 3 (.t 5), none, []⟩,
      ⟨some 65, .call 31 [.t 64], none, []⟩,
      ⟨some 66, .un .not (.t 65), none, []⟩] none) <|
   .cond (.t 66) (.seq (.region [
       ⟨some 67, .build [.int .i64 0, .int .i64 0, .nil] [], none, []⟩,
       ⟨none, .store 3 (.t 2) (.t 67), none, []⟩,
       ⟨some 3, .mv (.c (.int .i64 3)), none, []⟩] none) <|
    .ret) <|
   .skip) <|
  .seq (.region [
     ⟨some 68, .load true 3 (.t 5), none, []⟩,
     ⟨none, .store 3 (.t 2) (.t 68), none, []⟩,
     ⟨some 3, .mv (.c (.int .i64 0)), none, []⟩] none) <|
  .ret
abbrev n_telemetry_Decode : Nat := 26
theorem b_telemetry_Decode : bodyOf prog 26 [] = some (c_telemetry_Decode, [.c 2 true 3, .t 3], 69) := by kernel_rfl

def c_ref28_Decode : ACode :=
  .seq (.region [
     ⟨some 2, .alloc 3 36 (.agg [.int .i64 0, .int .i64 0, .nil]), none, []⟩,
     ⟨some 3, .mv (.c (.int .i64 0)), none, []⟩] none) <|
  .seq (.seq (.region [
      ⟨some 7, .mv (.t 0), none, []⟩,
      ⟨some 8, .lens (.t 7), none, []⟩,
      ⟨some 9, .bin .lss (.t 8) (.c (.int .i64 10)), none, []⟩,
      ⟨some 10, .mv (.t 9), none, []⟩,
      ⟨some 11, .mv (.t 0), some (10, false), []⟩,
      ⟨some 12, .lens (.t 11), some (10, false), []⟩,
      ⟨some 13, .mv (.t 0), some (10, false), []⟩,
      ⟨some 14, .pu .sidx [.t 13, .c (.int .i64 5)], some (10, false), []⟩,
      ⟨some 15, .conv .i64 (.t 14), some (10, false), []⟩,
      ⟨some 16, .bin .mul (.c (.int .i64 12)) (.t 15), some (10, false), []⟩,
      ⟨some 17, .bin .add (.c (.int .i64 10)) (.t 16), some (10, false), []⟩,
      ⟨some 18, .bin .neq (.t 12) (.t 17), some (10, false), []⟩,
      ⟨some 19, .pick (.t 10) (.c (.bool true)) (.t 18), none, []⟩] none) <|
   .cond (.t 19) (.seq (.region [
       ⟨some 20, .build [.int .i64 0, .int .i64 0, .nil] [], none, []⟩,
       ⟨none, .store 3 (.t 2) (.t 20), none, []⟩,
       ⟨some 3, .mv (.c (.int .i64 7)), none, []⟩] none) <|
    .ret) <|
   .skip) <|
  .seq (.seq (.region [
      ⟨some 21, .mv (.t 0), none, []⟩,
      ⟨some 22, .mv (.t 0), none, []⟩,
      ⟨some 23, .lens (.t 22), none, [1]⟩,
      ⟨some 24, .bin .sub (.t 23) (.c (.int .i64 4)), none, [2, 1]⟩,
      ⟨some 25, .call 40 [.t 21, .t 24, .c (.int .i64 4)], none, [0, 3, 2, 1]⟩,
      ⟨some 26, .mv (.t 0), none, []⟩,
      ⟨some 27, .mv (.t 0), none, []⟩,
      ⟨some 28, .lens (.t 27), none, [6]⟩,
      ⟨some 29, .bin .sub (.t 28) (.c (.int .i64 4)), none, [7, 6]⟩,
      ⟨some 30, .slcs (.t 26) none (some (.t 29)), none, [5, 8, 7, 6]⟩,
      ⟨some 31, .call 25 [.t 30], none, [9, 4, 5, 8, 7, 6, 0, 3, 2, 1]⟩,
      ⟨some 32, .bin .neq (.t 25) (.t 31), none, [4, 10, 0, 3, 2, 1, 9, 5, 8, 7, 6]⟩] (some 0)) <|
   .cond (.t 32) (.seq (.region [
       ⟨some 33, .build [.int .i64 0, .int .i64 0, .nil] [], none, []⟩,
       ⟨none, .store 3 (.t 2) (.t 33), none, []⟩,
       ⟨some 3, .mv (.c (.int .i64 8)), none, []⟩] none) <|
    .ret) <|
   .skip) <|
  .seq (.region [
     ⟨some 34, .mv (.t 0), none, []⟩,
     ⟨some 35, .call 40 [.t 34, .c (.int .i64 0), .c (.int .i64 1)], none, []⟩,
     ⟨some 36, .mv (.t 0), none, []⟩,
     ⟨some 37, .call 40 [.t 36, .c (.int .i64 1), .c (.int .i64 4)], none, []⟩,
     ⟨some 38, .build [.int .i64 0, .int .i64 0, .nil] [(0, 1, .t 35), (1, 1, .t 37)], none, []⟩,
     ⟨some 4, .alloc 3 36 (.agg [.int .i64 0, .int .i64 0, .nil]), none, []⟩,
     ⟨none, .store 3 (.t 4) (.t 38), none, []⟩] none) <|
  .seq (.seq (.region [
      ⟨some 5, .mv (.c (.int .i64 0)), none, []⟩] none) <|
   .block 0 <|
   .loop <|
   .seq (.seq (.region [
       ⟨some 39, .mv (.t 5), none, []⟩,
       ⟨some 40, .mv (.t 0), none, []⟩,
       ⟨some 41, .pu .sidx [.t 40, .c (.int .i64 5)], none, []⟩,
       ⟨some 42, .conv .i64 (.t 41), none, []⟩,
       ⟨some 43, .bin .lss (.t 39) (.t 42), none, []⟩] none) <|
    .cond (.t 43) (.skip) <|
    .exit 0) <|
   .seq (.block 1 <|
    .seq (.region [
       ⟨some 46, .mv (.t 5), none, []⟩,
       ⟨some 47, .bin .mul (.c (.int .i64 12)) (.t 46), none, []⟩,
       ⟨some 48, .bin .add (.c (.int .i64 6)) (.t 47), none, []⟩,
       ⟨some 6, .mv (.t 48), none, []⟩] none) <|
    .region [
      ⟨some 49, .fa 2 (.t 4), none, []⟩,
      ⟨some 50, .load false 1 (.t 49), none, [0]⟩,
      ⟨some 51, .mv (.t 0), none, []⟩,
      ⟨some 52, .mv (.t 6), none, []⟩,
      ⟨some 53, .call 40 [.t 51, .t 52, .c (.int .i64 2)], none, [2, 3]⟩,
      ⟨some 54, .mv (.t 0), none, []⟩,
      ⟨some 55, .mv (.t 6), none, []⟩,
      ⟨some 56, .bin .add (.t 55) (.c (.int .i64 2)), none, [6]⟩,
      ⟨some 57, .call 40 [.t 54, .t 56, .c (.int .i64 4)], none, [5, 7, 4, 6, 2, 3]⟩,
      ⟨some 58, .mv (.t 0), none, []⟩,
      ⟨some 59, .mv (.t 6), none, []⟩,
      ⟨some 60, .bin .add (.t 59) (.c (.int .i64 6)), none, [10]⟩,
      ⟨some 61, .call 40 [.t 58, .t 60, .c (.int .i64 5)], none, [9, 11, 8, 10, 5, 7, 4, 6, 2, 3]⟩,
      ⟨some 62, .mv (.t 0), none, []⟩,
      ⟨some 63, .mv (.t 6), none, []⟩,
      ⟨some 64, .bin .add (.t 63) (.c (.int .i64 11)), none, [14]⟩,
      ⟨some 65, .call 40 [.t 62, .t 64, .c (.int .i64 1)], none, [13, 15, 12, 14, 9, 11, 8, 10, 5, 7, 4, 6, 2, 3]⟩,
      ⟨some 66, .build [.int .i64 0, .int .i64 0, .int .i64 0, .int .i64 0] [(0, 1, .t 53), (1, 1, .t 57), (2, 1, .t 61), (3, 1, .t 65)], none, [4, 8, 12, 16, 2, 3, 5, 7, 6, 9, 11, 10, 13, 15, 14]⟩,
      ⟨some 67, .lit false 4 34 [.t 66], none, [17, 4, 8, 12, 16, 2, 3, 5, 7, 6, 9, 11, 10, 13, 15, 14]⟩,
      ⟨some 68, .app 4 32 34 (.t 50) (.t 67), none, [1, 18, 16, 0, 17, 4, 8, 12, 2, 3, 5, 7, 6, 9, 11, 10, 13, 15, 14]⟩,
      ⟨some 69, .fa 2 (.t 4), none, [0, 1, 2, 3, 4, 5, 6, 7, 8, 9, 10, 11, 12, 13, 14, 15, 16, 17, 18, 19]⟩,
      ⟨none, .store 1 (.t 69) (.t 68), none, [20, 19, 0, 1, 2, 3, 4, 5, 6, 7, 8, 9, 10, 11, 12, 13, 14, 15, 16, 17, 18]⟩] (some 22)) <|
   .region [
     ⟨some 44, .mv (.t 5), none, []⟩,
     ⟨some 45, .bin .add (.t 44) (.c (.int .i64 1)), none, []⟩,
     ⟨some 5, .mv (.t 45), none, []⟩] none) <|
  .seq (.seq (.region [
      ⟨some 70, .load true 3 (.t 4), none, []⟩,
      ⟨some 71, .call 36 [.t 70], none, []⟩,
      ⟨some 72, .un .not (.t 71), none, []⟩] none) <|
   .cond (.t 72) (.seq (.region [
       ⟨some 73, .build [.int .i64 0, .int .i64 0, .nil] [], none, []⟩,
       ⟨none, .store 3 (.t 2) (.t 73), none, []⟩,
       ⟨some 3, .mv (.c (.int .i64 3)), none, []⟩] none) <|
    .ret) <|
   .skip) <|
  .seq (.region [
     ⟨some 74, .load true 3 (.t 4), none, []⟩,
     ⟨none, .store 3 (.t 2) (.t 74), none, []⟩,
     ⟨some 3, .mv (.c (.int .i64 0)), none, []⟩] none) <|
  .ret
abbrev n_ref28_Decode : Nat := 27
theorem b_ref28_Decode : bodyOf prog 27 [] = some (c_ref28_Decode, [.c 2 true 3, .t 3], 75) := by kernel_rfl

def c_ref28_SameFrame : ACode :=
  .seq (.region [
     ⟨some 2, .box 3 36 (.t 0), none, []⟩,
     ⟨some 3, .box 3 36 (.t 1), none, []⟩,
     ⟨some 4, .mv (.c (.bool false)), none, []⟩] none) <|
  .seq (.region [
     ⟨some 5, .fa 0 (.t 2), none, []⟩,
     ⟨some 6, .load false 1 (.t 5), none, []⟩,
     ⟨some 7, .fa 0 (.t 3), none, []⟩,
     ⟨some 8, .load false 1 (.t 7), none, []⟩,
     ⟨some 9, .bin .eql (.t 6) (.t 8), none, []⟩,
     ⟨some 10, .mv (.t 9), none, []⟩,
     ⟨some 11, .fa 1 (.t 2), some (10, true), []⟩,
     ⟨some 12, .load false 1 (.t 11), some (10, true), []⟩,
     ⟨some 13, .fa 1 (.t 3), some (10, true), []⟩,
     ⟨some 14, .load false 1 (.t 13), some (10, true), []⟩,
     ⟨some 15, .bin .eql (.t 12) (.t 14), some (10, true), []⟩,
     ⟨some 16, .pick (.t 10) (.t 15) (.c (.bool false)), none, []⟩,
     ⟨some 17, .mv (.t 16), none, []⟩,
     ⟨some 18, .fa 2 (.t 2), some (17, true), []⟩,
     ⟨some 19, .load false 1 (.t 18), some (17, true), []⟩,
     ⟨some 20, .fa 2 (.t 3), some (17, true), []⟩,
     ⟨some 21, .load false 1 (.t 20), some (17, true), []⟩,
     ⟨some 22, .call 16 [.t 19, .t 21], some (17, true), []⟩,
     ⟨some 23, .pick (.t 17) (.t 22) (.c (.bool false)), none, []⟩,
     ⟨some 4, .mv (.t 23), none, []⟩] none) <|
  .ret
abbrev n_ref28_SameFrame : Nat := 28
theorem b_ref28_SameFrame : bodyOf prog 28 [] = some (c_ref28_SameFrame, [.t 4], 24) := by kernel_rfl

def c_telemetry_Sum : ACode :=
  .seq (.region [
     ⟨some 2, .mv (.c (.int .i64 0)), none, []⟩] none) <|
  .seq (.region [
     ⟨some 3, .mv (.c (.int .i64 1)), none, []⟩,
     ⟨some 4, .mv (.c (.int .i64 0)), none, []⟩] none) <|
  .seq (.seq (.region [
      ⟨some 6, .mv (.t 0), none, []⟩,
      ⟨some 7, .lens (.t 6), none, []⟩,
      ⟨some 8, .mv (.c (.int .i64 0)), none, []⟩] none) <|
   .block 0 <|
   .loop <|
   .seq (.region [
      ⟨some 9, .bin .lss (.t 8) (.t 7), none, []⟩] none) <|
   .seq (.cond (.t 9) (.skip) <|
    .exit 0) <|
   .seq (.block 1 <|
    .seq (.region [
       ⟨some 10, .mv (.t 8), none, []⟩,
       ⟨some 5, .mv (.t 10), none, []⟩] none) <|
    .seq (.region [
       ⟨some 11, .mv (.t 3), none, []⟩,
       ⟨some 12, .mv (.t 0), none, []⟩,
       ⟨some 13, .mv (.t 5), none, []⟩,
       ⟨some 14, .pu .sidx [.t 12, .t 13], none, []⟩,
       ⟨some 15, .conv .i64 (.t 14), none, []⟩,
       ⟨some 16, .bin .add (.t 11) (.t 15), none, []⟩,
       ⟨some 17, .bin .rem (.t 16) (.c (.int .i64 65521)), none, []⟩,
       ⟨some 3, .mv (.t 17), none, []⟩] none) <|
    .region [
      ⟨some 18, .mv (.t 4), none, []⟩,
      ⟨some 19, .mv (.t 3), none, []⟩,
      ⟨some 20, .bin .add (.t 18) (.t 19), none, []⟩,
      ⟨some 21, .bin .rem (.t 20) (.c (.int .i64 65521)), none, []⟩,
      ⟨some 4, .mv (.t 21), none, []⟩] none) <|
   .region [
     ⟨some 22, .bin .add (.t 8) (.c (.int .i64 1)), none, []⟩,
     ⟨some 8, .mv (.t 22), none, []⟩] none) <|
  .seq (.region [
     ⟨some 23, .mv (.t 4), none, []⟩,
     ⟨some 24, .bin .mul (.c (.int .i64 65536)) (.t 23), none, []⟩,
     ⟨some 25, .mv (.t 3), none, []⟩,
     ⟨some 26, .bin .add (.t 24) (.t 25), none, []⟩,
     ⟨some 2, .mv (.t 26), none, []⟩] none) <|
  .ret
abbrev n_telemetry_Sum : Nat := 29
theorem b_telemetry_Sum : bodyOf prog 29 [] = some (c_telemetry_Sum, [.t 2], 27) := by kernel_rfl

def c_telemetry_Encode : ACode :=
  .seq (.region [
     ⟨some 1, .box 3 36 (.t 0), none, []⟩,
     ⟨some 2, .mv (.c (.str ⟨#[]⟩)), none, []⟩,
     ⟨some 3, .mv (.c (.int .i64 0)), none, []⟩] none) <|
  .seq (.seq (.region [
      ⟨some 7, .load true 3 (.t 1), none, []⟩,
      ⟨some 8, .call 31 [.t 7], none, []⟩,
      ⟨some 9, .un .not (.t 8), none, []⟩] none) <|
   .cond (.t 9) (.seq (.region [
       ⟨some 2, .mv (.c (.str ⟨#[]⟩)), none, []⟩,
       ⟨some 3, .mv (.c (.int .i64 3)), none, []⟩] none) <|
    .ret) <|
   .skip) <|
  .seq (.hregion [
     ⟨7, ⟨some 17, .fa 2 (.t 1), none, []⟩⟩,
     ⟨8, ⟨some 18, .load false 1 (.t 17), none, [7]⟩⟩,
     ⟨9, ⟨some 19, .len (.t 18), none, [8, 7]⟩⟩,
     ⟨4, ⟨some 14, .fa 1 (.t 1), none, []⟩⟩,
     ⟨5, ⟨some 15, .load false 1 (.t 14), none, [4]⟩⟩,
     ⟨1, ⟨some 11, .fa 0 (.t 1), none, []⟩⟩,
     ⟨2, ⟨some 12, .load false 1 (.t 11), none, [1]⟩⟩,
     ⟨0, ⟨some 10, .build [.nil] [], none, []⟩⟩,
     ⟨3, ⟨some 13, .call 41 [.t 10, .t 12, .c (.int .i64 1)], none, [0, 2, 1]⟩⟩,
     ⟨6, ⟨some 16, .call 41 [.t 13, .t 15, .c (.int .i64 4)], none, [3, 5, 0, 2, 1, 4]⟩⟩,
     ⟨10, ⟨some 20, .call 41 [.t 16, .t 19, .c (.int .i64 1)], none, [6, 9, 3, 5, 0, 2, 1, 4, 8, 7]⟩⟩,
     ⟨11, ⟨some 4, .alloc 1 75 (.agg [.nil]), none, []⟩⟩,
     ⟨12, ⟨none, .store 1 (.t 4) (.t 20), none, [11, 10, 0, 1, 2, 3, 4, 5, 6, 7, 8, 9]⟩⟩]) <|
  .seq (.seq (.region [
      ⟨some 21, .fa 2 (.t 1), none, []⟩,
      ⟨some 22, .load false 1 (.t 21), none, []⟩,
      ⟨some 23, .len (.t 22), none, []⟩,
      ⟨some 24, .mv (.c (.int .i64 0)), none, []⟩] none) <|
   .block 0 <|
   .loop <|
   .seq (.region [
      ⟨some 25, .bin .lss (.t 24) (.t 23), none, []⟩] none) <|
   .seq (.cond (.t 25) (.skip) <|
    .exit 0) <|
   .seq (.block 1 <|
    .seq (.region [
       ⟨some 26, .ixs 4 (.t 22) (.t 24), none, []⟩,
       ⟨some 27, .load true 4 (.t 26), none, []⟩,
       ⟨some 6, .alloc 4 34 (.agg [.int .i64 0, .int .i64 0, .int .i64 0, .int .i64 0]), none, []⟩,
       ⟨none, .store 4 (.t 6) (.t 27), none, []⟩] none) <|
    .region [
      ⟨some 28, .load true 1 (.t 4), none, []⟩,
      ⟨some 29, .load true 4 (.t 6), none, []⟩,
      ⟨some 30, .call 42 [.t 28, .t 29], none, []⟩,
      ⟨none, .store 1 (.t 4) (.t 30), none, []⟩] none) <|
   .region [
     ⟨some 31, .bin .add (.t 24) (.c (.int .i64 1)), none, []⟩,
     ⟨some 24, .mv (.t 31), none, []⟩] none) <|
  .seq (.hregion [
     ⟨1, ⟨some 33, .fa 0 (.t 4), none, []⟩⟩,
     ⟨2, ⟨some 34, .load false 1 (.t 33), none, [1]⟩⟩,
     ⟨3, ⟨some 35, .b2s (.t 34), none, [2, 1]⟩⟩,
     ⟨0, ⟨some 32, .load true 1 (.t 4), none, []⟩⟩,
     ⟨4, ⟨some 36, .call 29 [.t 35], none, [3, 2, 1]⟩⟩,
     ⟨5, ⟨some 37, .call 41 [.t 32, .t 36, .c (.int .i64 4)], none, [0, 4, 3, 2, 1]⟩⟩,
     ⟨6, ⟨some 38, .pu (.fld false 1 0) [.t 37], none, [5, 0, 4, 3, 2, 1]⟩⟩,
     ⟨7, ⟨some 39, .b2s (.t 38), none, [6, 5, 0, 4, 3, 2, 1]⟩⟩,
     ⟨8, ⟨some 2, .mv (.t 39), none, [7, 5, 0, 1, 2, 3, 4, 6]⟩⟩,
     ⟨9, ⟨some 3, .mv (.c (.int .i64 0)), none, [8, 0, 1, 2, 3, 4, 5, 6, 7]⟩⟩]) <|
  .ret
abbrev n_telemetry_Encode : Nat := 30
theorem b_telemetry_Encode : bodyOf prog 30 [1000000] = some (c_telemetry_Encode, [.t 2, .t 3], 40) := by kernel_rfl

def c_telemetry_proper : ACode :=
  .seq (.region [
     ⟨some 1, .box 3 36 (.t 0), none, []⟩,
     ⟨some 2, .mv (.c (.bool false)), none, []⟩] none) <|
  .seq (.seq (.region [
      ⟨some 5, .fa 0 (.t 1), none, []⟩,
      ⟨some 6, .load false 1 (.t 5), none, []⟩,
      ⟨some 7, .call 37 [.t 6, .c (.int .i64 0), .c (.int .i64 255)], none, []⟩,
      ⟨some 8, .un .not (.t 7), none, []⟩,
      ⟨some 9, .mv (.t 8), none, []⟩,
      ⟨some 10, .fa 1 (.t 1), some (9, false), []⟩,
      ⟨some 11, .load false 1 (.t 10), some (9, false), []⟩,
      ⟨some 12, .call 37 [.t 11, .c (.int .i64 1), .c (.int .i64 1073741824)], some (9, false), []⟩,
      ⟨some 13, .un .not (.t 12), some (9, false), []⟩,
      ⟨some 14, .pick (.t 9) (.c (.bool true)) (.t 13), none, []⟩,
      ⟨some 15, .mv (.t 14), none, []⟩,
      ⟨some 16, .fa 2 (.t 1), some (15, false), []⟩,
      ⟨some 17, .load false 1 (.t 16), some (15, false), []⟩,
      ⟨some 18, .len (.t 17), some (15, false), []⟩,
      ⟨some 19, .bin .gtr (.t 18) (.c (.int .i64 32)), some (15, false), []⟩,
      ⟨some 20, .pick (.t 15) (.c (.bool true)) (.t 19), none, []⟩] none) <|
   .cond (.t 20) (.seq (.region [
       ⟨some 2, .mv (.c (.bool false)), none, []⟩] none) <|
    .ret) <|
   .skip) <|
  .seq (.seq (.region [
      ⟨some 21, .fa 2 (.t 1), none, []⟩,
      ⟨some 22, .load false 1 (.t 21), none, []⟩,
      ⟨some 23, .len (.t 22), none, []⟩,
      ⟨some 24, .mv (.c (.int .i64 0)), none, []⟩] none) <|
   .block 0 <|
   .loop <|
   .seq (.region [
      ⟨some 25, .bin .lss (.t 24) (.t 23), none, []⟩] none) <|
   .seq (.cond (.t 25) (.skip) <|
    .exit 0) <|
   .seq (.block 1 <|
    .seq (.region [
       ⟨some 26, .ixs 4 (.t 22) (.t 24), none, []⟩,
       ⟨some 27, .load true 4 (.t 26), none, []⟩,
       ⟨some 4, .alloc 4 34 (.agg [.int .i64 0, .int .i64 0, .int .i64 0, .int .i64 0]), none, []⟩,
       ⟨none, .store 4 (.t 4) (.t 27), none, []⟩] none) <|
    .seq (.region [
       ⟨some 28, .fa 0 (.t 4), none, []⟩,
       ⟨some 29, .load false 1 (.t 28), none, []⟩,
       ⟨some 30, .call 37 [.t 29, .c (.int .i64 0), .c (.int .i64 65535)], none, []⟩,
       ⟨some 31, .un .not (.t 30), none, []⟩,
       ⟨some 32, .mv (.t 31), none, []⟩,
       ⟨some 33, .fa 1 (.t 4), some (32, false), []⟩,
       ⟨some 34, .load false 1 (.t 33), some (32, false), []⟩,
       ⟨some 35, .call 37 [.t 34, .c (.int .i64 0), .c (.int .i64 16777216)], some (32, false), []⟩,
       ⟨some 36, .un .not (.t 35), some (32, false), []⟩,
       ⟨some 37, .pick (.t 32) (.c (.bool true)) (.t 36), none, []⟩,
       ⟨some 38, .mv (.t 37), none, []⟩,
       ⟨some 39, .fa 2 (.t 4), some (38, false), []⟩,
       ⟨some 40, .load false 1 (.t 39), some (38, false), []⟩,
       ⟨some 41, .call 37 [.t 40, .c (.int .i64 0), .c (.int .i64 274877906944)], some (38, false), []⟩,
       ⟨some 42, .un .not (.t 41), some (38, false), []⟩,
       ⟨some 43, .pick (.t 38) (.c (.bool true)) (.t 42), none, []⟩,
       ⟨some 44, .mv (.t 43), none, []⟩,
       ⟨some 45, .fa 3 (.t 4), some (44, false), []⟩,
       ⟨some 46, .load false 1 (.t 45), some (44, false), []⟩,
       ⟨some 47, .call 37 [.t 46, .c (.int .i64 0), .c (.int .i64 2)], some (44, false), []⟩,
       ⟨some 48, .un .not (.t 47), some (44, false), []⟩,
       ⟨some 49, .pick (.t 44) (.c (.bool true)) (.t 48), none, []⟩] none) <|
    .cond (.t 49) (.seq (.region [
        ⟨some 2, .mv (.c (.bool false)), none, []⟩] none) <|
     .ret) <|
    .skip) <|
   .region [
     ⟨some 50, .bin .add (.t 24) (.c (.int .i64 1)), none, []⟩,
     ⟨some 24, .mv (.t 50), none, []⟩] none) <|
  .seq (.region [
     ⟨some 2, .mv (.c (.bool true)), none, []⟩] none) <|
  .ret
abbrev n_telemetry_proper : Nat := 31
theorem b_telemetry_proper : bodyOf prog 31 [] = some (c_telemetry_proper, [.t 2], 51) := by kernel_rfl

def c_slices_BinarySearch__int : ACode :=
  .seq (.region [
     ⟨some 4, .mv (.c (.int .i64 0)), none, []⟩,
     ⟨some 5, .mv (.c (.bool false)), none, []⟩] none) <|
  .seq (.region [
     ⟨some 10, .mv (.t 0), none, []⟩,
     ⟨some 11, .len (.t 10), none, []⟩,
     ⟨some 6, .mv (.t 11), none, []⟩] none) <|
  .seq (.region [
     ⟨some 12, .mv (.t 6), none, []⟩,
     ⟨some 7, .mv (.c (.int .i64 0)), none, []⟩,
     ⟨some 8, .mv (.t 12), none, []⟩] none) <|
  .seq (.block 0 <|
   .loop <|
   .seq (.seq (.region [
       ⟨some 13, .mv (.t 7), none, []⟩,
       ⟨some 14, .mv (.t 8), none, []⟩,
       ⟨some 15, .bin .lss (.t 13) (.t 14), none, []⟩] none) <|
    .cond (.t 15) (.skip) <|
    .exit 0) <|
   .block 1 <|
   .seq (.region [
      ⟨some 16, .mv (.t 7), none, []⟩,
      ⟨some 17, .mv (.t 8), none, []⟩,
      ⟨some 18, .bin .add (.t 16) (.t 17), none, []⟩,
      ⟨some 19, .conv .u64 (.t 18), none, []⟩,
      ⟨some 20, .pu (.bit .shr) [.t 19, .c (.int .u64 1)], none, []⟩,
      ⟨some 21, .conv .i64 (.t 20), none, []⟩,
      ⟨some 9, .mv (.t 21), none, []⟩] none) <|
   .seq (.region [
      ⟨some 22, .mv (.t 0), none, []⟩,
      ⟨some 23, .mv (.t 9), none, []⟩,
      ⟨some 24, .ixs 1 (.t 22) (.t 23), none, []⟩,
      ⟨some 25, .load false 1 (.t 24), none, []⟩,
      ⟨some 26, .mv (.t 1), none, []⟩,
      ⟨some 27, .call 43 [.t 25, .t 26], none, []⟩] none) <|
   .cond (.t 27) (.region [
      ⟨some 28, .mv (.t 9), none, []⟩,
      ⟨some 29, .bin .add (.t 28) (.c (.int .i64 1)), none, []⟩,
      ⟨some 7, .mv (.t 29), none, []⟩] none) <|
   .region [
     ⟨some 30, .mv (.t 9), none, []⟩,
     ⟨some 8, .mv (.t 30), none, []⟩] none) <|
  .seq (.region [
     ⟨some 31, .mv (.t 7), none, []⟩,
     ⟨some 32, .mv (.t 7), none, []⟩,
     ⟨some 33, .mv (.t 6), none, []⟩,
     ⟨some 34, .bin .lss (.t 32) (.t 33), none, []⟩,
     ⟨some 35, .mv (.t 34), none, []⟩,
     ⟨some 36, .mv (.t 0), some (35, true), []⟩,
     ⟨some 37, .mv (.t 7), some (35, true), []⟩,
     ⟨some 38, .ixs 1 (.t 36) (.t 37), some (35, true), []⟩,
     ⟨some 39, .load false 1 (.t 38), some (35, true), []⟩,
     ⟨some 40, .mv (.t 1), some (35, true), []⟩,
     ⟨some 41, .bin .eql (.t 39) (.t 40), some (35, true), []⟩,
     ⟨some 42, .mv (.t 41), some (35, true), []⟩,
     ⟨some 43, .mv (.t 0), some (42, false), []⟩,
     ⟨some 44, .mv (.t 7), some (42, false), []⟩,
     ⟨some 45, .ixs 1 (.t 43) (.t 44), some (42, false), []⟩,
     ⟨some 46, .load false 1 (.t 45), some (42, false), []⟩,
     ⟨some 47, .call 44 [.t 46], some (42, false), []⟩,
     ⟨some 48, .mv (.t 47), some (42, false), []⟩,
     ⟨some 49, .mv (.t 1), some (48, true), []⟩,
     ⟨some 50, .call 44 [.t 49], some (48, true), []⟩,
     ⟨some 51, .pick (.t 48) (.t 50) (.c (.bool false)), some (42, false), []⟩,
     ⟨some 52, .pick (.t 42) (.c (.bool true)) (.t 51), some (35, true), []⟩,
     ⟨some 53, .pick (.t 35) (.t 52) (.c (.bool false)), none, []⟩,
     ⟨some 4, .mv (.t 31), none, []⟩,
     ⟨some 5, .mv (.t 53), none, []⟩] none) <|
  .ret
abbrev n_slices_BinarySearch__int : Nat := 32
theorem b_slices_BinarySearch__int : bodyOf prog 32 [1000000] = some (c_slices_BinarySearch__int, [.t 4, .t 5], 54) := by kernel_rfl

def c_slices_Clone__int : ACode :=
  .seq (.region [
     ⟨some 2, .newsl 1 3, none, []⟩] none) <|
  .seq (.seq (.region [
      ⟨some 3, .mv (.t 0), none, []⟩,
      ⟨some 4, .isnil false (.t 3), none, []⟩] none) <|
   .cond (.t 4) (.seq (.region [
       ⟨some 2, .newsl 1 3, none, []⟩] none) <|
    .ret) <|
   .skip) <|
  .seq (.region [
     ⟨some 5, .lit true 1 3 [], none, []⟩,
     ⟨some 6, .mv (.t 0), none, []⟩,
     ⟨some 7, .app 1 8 3 (.t 5) (.t 6), none, []⟩,
     ⟨some 2, .mv (.t 7), none, []⟩] none) <|
  .ret
abbrev n_slices_Clone__int : Nat := 33
theorem b_slices_Clone__int : bodyOf prog 33 [2, 5] = some (c_slices_Clone__int, [.t 2], 8) := by kernel_rfl

def c_slices_Delete__int : ACode :=
  .seq (.region [
     ⟨some 6, .mv (.c (.nil)), none, []⟩] none) <|
  .seq (.region [
     ⟨some 8, .mv (.t 0), none, []⟩,
     ⟨some 9, .mv (.t 1), none, []⟩,
     ⟨some 10, .mv (.t 2), none, []⟩,
     ⟨some 11, .mv (.t 0), none, []⟩,
     ⟨some 12, .len (.t 11), none, []⟩,
     ⟨some 13, .slc3 1 (.t 8) (.t 9) (.t 10) (.t 12), none, []⟩] none) <|
  .seq (.seq (.region [
      ⟨some 14, .mv (.t 1), none, []⟩,
      ⟨some 15, .mv (.t 2), none, []⟩,
      ⟨some 16, .bin .eql (.t 14) (.t 15), none, []⟩] none) <|
   .cond (.t 16) (.seq (.region [
       ⟨some 17, .mv (.t 0), none, []⟩,
       ⟨some 6, .mv (.t 17), none, []⟩] none) <|
    .ret) <|
   .skip) <|
  .seq (.region [
     ⟨some 18, .mv (.t 0), none, []⟩,
     ⟨some 19, .len (.t 18), none, []⟩,
     ⟨some 7, .mv (.t 19), none, []⟩] none) <|
  .seq (.hregion [
     ⟨4, ⟨some 24, .mv (.t 2), none, []⟩⟩,
     ⟨3, ⟨some 23, .mv (.t 0), none, []⟩⟩,
     ⟨5, ⟨some 25, .slc 1 (.t 23) (some (.t 24)) none, none, [3, 4]⟩⟩,
     ⟨1, ⟨some 21, .mv (.t 1), none, []⟩⟩,
     ⟨0, ⟨some 20, .mv (.t 0), none, []⟩⟩,
     ⟨2, ⟨some 22, .slc 1 (.t 20) none (some (.t 21)), none, [0, 1]⟩⟩,
     ⟨6, ⟨some 26, .app 1 8 3 (.t 22) (.t 25), none, [2, 5, 0, 1, 3, 4]⟩⟩,
     ⟨7, ⟨some 0, .mv (.t 26), none, [6, 0, 1, 2, 3, 4, 5]⟩⟩]) <|
  .seq (.region [
     ⟨some 27, .mv (.t 0), none, []⟩,
     ⟨some 28, .mv (.t 0), none, []⟩,
     ⟨some 29, .len (.t 28), none, []⟩,
     ⟨some 30, .mv (.t 7), none, []⟩,
     ⟨some 31, .slc 1 (.t 27) (some (.t 29)) (some (.t 30)), none, []⟩,
     ⟨none, .clr 1 (.int .i64 0) (.t 31), none, []⟩] none) <|
  .seq (.region [
     ⟨some 32, .mv (.t 0), none, []⟩,
     ⟨some 6, .mv (.t 32), none, []⟩] none) <|
  .ret
abbrev n_slices_Delete__int : Nat := 34
theorem b_slices_Delete__int : bodyOf prog 34 [1000000] = some (c_slices_Delete__int, [.t 6], 33) := by kernel_rfl

def c_slices_Clone__Reading : ACode :=
  .seq (.region [
     ⟨some 2, .newsl 4 34, none, []⟩] none) <|
  .seq (.seq (.region [
      ⟨some 3, .mv (.t 0), none, []⟩,
      ⟨some 4, .isnil false (.t 3), none, []⟩] none) <|
   .cond (.t 4) (.seq (.region [
       ⟨some 2, .newsl 4 34, none, []⟩] none) <|
    .ret) <|
   .skip) <|
  .seq (.region [
     ⟨some 5, .lit true 4 34 [], none, []⟩,
     ⟨some 6, .mv (.t 0), none, []⟩,
     ⟨some 7, .app 4 32 34 (.t 5) (.t 6), none, []⟩,
     ⟨some 2, .mv (.t 7), none, []⟩] none) <|
  .ret
abbrev n_slices_Clone__Reading : Nat := 35
theorem b_slices_Clone__Reading : bodyOf prog 35 [2, 5, 1000000] = some (c_slices_Clone__Reading, [.t 2], 8) := by kernel_rfl

def c_ref28_Valid : ACode :=
  .seq (.region [
     ⟨some 1, .box 3 36 (.t 0), none, []⟩,
     ⟨some 2, .mv (.c (.bool false)), none, []⟩] none) <|
  .seq (.seq (.region [
      ⟨some 5, .fa 0 (.t 1), none, []⟩,
      ⟨some 6, .load false 1 (.t 5), none, []⟩,
      ⟨some 7, .call 38 [.t 6, .c (.int .i64 0), .c (.int .i64 255)], none, []⟩,
      ⟨some 8, .un .not (.t 7), none, []⟩,
      ⟨some 9, .mv (.t 8), none, []⟩,
      ⟨some 10, .fa 1 (.t 1), some (9, false), []⟩,
      ⟨some 11, .load false 1 (.t 10), some (9, false), []⟩,
      ⟨some 12, .call 38 [.t 11, .c (.int .i64 1), .c (.int .i64 1073741824)], some (9, false), []⟩,
      ⟨some 13, .un .not (.t 12), some (9, false), []⟩,
      ⟨some 14, .pick (.t 9) (.c (.bool true)) (.t 13), none, []⟩,
      ⟨some 15, .mv (.t 14), none, []⟩,
      ⟨some 16, .fa 2 (.t 1), some (15, false), []⟩,
      ⟨some 17, .load false 1 (.t 16), some (15, false), []⟩,
      ⟨some 18, .len (.t 17), some (15, false), []⟩,
      ⟨some 19, .bin .gtr (.t 18) (.c (.int .i64 32)), some (15, false), []⟩,
      ⟨some 20, .pick (.t 15) (.c (.bool true)) (.t 19), none, []⟩] none) <|
   .cond (.t 20) (.seq (.region [
       ⟨some 2, .mv (.c (.bool false)), none, []⟩] none) <|
    .ret) <|
   .skip) <|
  .seq (.seq (.region [
      ⟨some 21, .fa 2 (.t 1), none, []⟩,
      ⟨some 22, .load false 1 (.t 21), none, []⟩,
      ⟨some 23, .len (.t 22), none, []⟩,
      ⟨some 24, .mv (.c (.int .i64 0)), none, []⟩] none) <|
   .block 0 <|
   .loop <|
   .seq (.region [
      ⟨some 25, .bin .lss (.t 24) (.t 23), none, []⟩] none) <|
   .seq (.cond (.t 25) (.skip) <|
    .exit 0) <|
   .seq (.block 1 <|
    .seq (.region [
       ⟨some 26, .ixs 4 (.t 22) (.t 24), none, []⟩,
       ⟨some 27, .load true 4 (.t 26), none, []⟩,
       ⟨some 4, .alloc 4 34 (.agg [.int .i64 0, .int .i64 0, .int .i64 0, .int .i64 0]), none, []⟩,
       ⟨none, .store 4 (.t 4) (.t 27), none, []⟩] none) <|
    .seq (.region [
       ⟨some 28, .fa 0 (.t 4), none, []⟩,
       ⟨some 29, .load false 1 (.t 28), none, []⟩,
       ⟨some 30, .call 38 [.t 29, .c (.int .i64 0), .c (.int .i64 65535)], none, []⟩,
       ⟨some 31, .un .not (.t 30), none, []⟩,
       ⟨some 32, .mv (.t 31), none, []⟩,
       ⟨some 33, .fa 1 (.t 4), some (32, false), []⟩,
       ⟨some 34, .load false 1 (.t 33), some (32, false), []⟩,
       ⟨some 35, .call 38 [.t 34, .c (.int .i64 0), .c (.int .i64 16777216)], some (32, false), []⟩,
       ⟨some 36, .un .not (.t 35), some (32, false), []⟩,
       ⟨some 37, .pick (.t 32) (.c (.bool true)) (.t 36), none, []⟩,
       ⟨some 38, .mv (.t 37), none, []⟩,
       ⟨some 39, .fa 2 (.t 4), some (38, false), []⟩,
       ⟨some 40, .load false 1 (.t 39), some (38, false), []⟩,
       ⟨some 41, .call 38 [.t 40, .c (.int .i64 0), .c (.int .i64 274877906944)], some (38, false), []⟩,
       ⟨some 42, .un .not (.t 41), some (38, false), []⟩,
       ⟨some 43, .pick (.t 38) (.c (.bool true)) (.t 42), none, []⟩,
       ⟨some 44, .mv (.t 43), none, []⟩,
       ⟨some 45, .fa 3 (.t 4), some (44, false), []⟩,
       ⟨some 46, .load false 1 (.t 45), some (44, false), []⟩,
       ⟨some 47, .call 38 [.t 46, .c (.int .i64 0), .c (.int .i64 2)], some (44, false), []⟩,
       ⟨some 48, .un .not (.t 47), some (44, false), []⟩,
       ⟨some 49, .pick (.t 44) (.c (.bool true)) (.t 48), none, []⟩] none) <|
    .cond (.t 49) (.seq (.region [
        ⟨some 2, .mv (.c (.bool false)), none, []⟩] none) <|
     .ret) <|
    .skip) <|
   .region [
     ⟨some 50, .bin .add (.t 24) (.c (.int .i64 1)), none, []⟩,
     ⟨some 24, .mv (.t 50), none, []⟩] none) <|
  .seq (.region [
     ⟨some 2, .mv (.c (.bool true)), none, []⟩] none) <|
  .ret
abbrev n_ref28_Valid : Nat := 36
theorem b_ref28_Valid : bodyOf prog 36 [] = some (c_ref28_Valid, [.t 2], 51) := by kernel_rfl

def c_telemetry_within : ACode :=
  .seq (.region [
     ⟨some 6, .mv (.c (.bool false)), none, []⟩] none) <|
  .seq (.region [
     ⟨some 7, .mv (.t 0), none, []⟩,
     ⟨some 8, .mv (.t 1), none, []⟩,
     ⟨some 9, .bin .geq (.t 7) (.t 8), none, []⟩,
     ⟨some 10, .mv (.t 9), none, []⟩,
     ⟨some 11, .mv (.t 0), some (10, true), []⟩,
     ⟨some 12, .mv (.t 2), some (10, true), []⟩,
     ⟨some 13, .bin .leq (.t 11) (.t 12), some (10, true), []⟩,
     ⟨some 14, .pick (.t 10) (.t 13) (.c (.bool false)), none, []⟩,
     ⟨some 6, .mv (.t 14), none, []⟩] none) <|
  .ret
abbrev n_telemetry_within : Nat := 37
theorem b_telemetry_within : bodyOf prog 37 [] = some (c_telemetry_within, [.t 6], 15) := by kernel_rfl

def c_ref28_in : ACode :=
  .seq (.region [
     ⟨some 6, .mv (.c (.bool false)), none, []⟩] none) <|
  .seq (.region [
     ⟨some 7, .mv (.t 0), none, []⟩,
     ⟨some 8, .mv (.t 1), none, []⟩,
     ⟨some 9, .bin .geq (.t 7) (.t 8), none, []⟩,
     ⟨some 10, .mv (.t 9), none, []⟩,
     ⟨some 11, .mv (.t 0), some (10, true), []⟩,
     ⟨some 12, .mv (.t 2), some (10, true), []⟩,
     ⟨some 13, .bin .leq (.t 11) (.t 12), some (10, true), []⟩,
     ⟨some 14, .pick (.t 10) (.t 13) (.c (.bool false)), none, []⟩,
     ⟨some 6, .mv (.t 14), none, []⟩] none) <|
  .ret
abbrev n_ref28_in : Nat := 38
theorem b_ref28_in : bodyOf prog 38 [] = some (c_ref28_in, [.t 6], 15) := by kernel_rfl

def c_telemetry_value : ACode :=
  .seq (.region [
     ⟨some 6, .mv (.c (.int .i64 0)), none, []⟩] none) <|
  .seq (.region [
     ⟨some 7, .mv (.c (.int .i64 0)), none, []⟩] none) <|
  .seq (.seq (.region [
      ⟨some 9, .mv (.t 2), none, []⟩,
      ⟨some 10, .bin .sub (.t 9) (.c (.int .i64 1)), none, []⟩,
      ⟨some 8, .mv (.t 10), none, []⟩] none) <|
   .block 0 <|
   .loop <|
   .seq (.seq (.region [
       ⟨some 11, .mv (.t 8), none, []⟩,
       ⟨some 12, .bin .geq (.t 11) (.c (.int .i64 0)), none, []⟩] none) <|
    .cond (.t 12) (.skip) <|
    .exit 0) <|
   .seq (.block 1 <|
    .region [
      ⟨some 15, .mv (.t 7), none, []⟩,
      ⟨some 16, .pu (.bit .shl) [.t 15, .c (.int .u64 8)], none, []⟩,
      ⟨some 17, .mv (.t 0), none, []⟩,
      ⟨some 18, .mv (.t 1), none, []⟩,
      ⟨some 19, .mv (.t 8), none, []⟩,
      ⟨some 20, .bin .add (.t 18) (.t 19), none, []⟩,
      ⟨some 21, .pu .sidx [.t 17, .t 20], none, []⟩,
      ⟨some 22, .conv .i64 (.t 21), none, []⟩,
      ⟨some 23, .pu (.bit .or) [.t 16, .t 22], none, []⟩,
      ⟨some 7, .mv (.t 23), none, []⟩] none) <|
   .region [
     ⟨some 13, .mv (.t 8), none, []⟩,
     ⟨some 14, .bin .sub (.t 13) (.c (.int .i64 1)), none, []⟩,
     ⟨some 8, .mv (.t 14), none, []⟩] none) <|
  .seq (.region [
     ⟨some 24, .mv (.t 7), none, []⟩,
     ⟨some 6, .mv (.t 24), none, []⟩] none) <|
  .ret
abbrev n_telemetry_value : Nat := 39
theorem b_telemetry_value : bodyOf prog 39 [] = some (c_telemetry_value, [.t 6], 25) := by kernel_rfl

def c_ref28_Get : ACode :=
  .seq (.region [
     ⟨some 6, .mv (.c (.int .i64 0)), none, []⟩] none) <|
  .seq (.region [
     ⟨some 7, .mv (.c (.int .i64 0)), none, []⟩] none) <|
  .seq (.seq (.region [
      ⟨some 9, .mv (.t 2), none, []⟩,
      ⟨some 10, .bin .sub (.t 9) (.c (.int .i64 1)), none, []⟩,
      ⟨some 8, .mv (.t 10), none, []⟩] none) <|
   .block 0 <|
   .loop <|
   .seq (.seq (.region [
       ⟨some 11, .mv (.t 8), none, []⟩,
       ⟨some 12, .bin .geq (.t 11) (.c (.int .i64 0)), none, []⟩] none) <|
    .cond (.t 12) (.skip) <|
    .exit 0) <|
   .seq (.block 1 <|
    .region [
      ⟨some 15, .mv (.t 7), none, []⟩,
      ⟨some 16, .pu (.bit .shl) [.t 15, .c (.int .u64 8)], none, []⟩,
      ⟨some 17, .mv (.t 0), none, []⟩,
      ⟨some 18, .mv (.t 1), none, []⟩,
      ⟨some 19, .mv (.t 8), none, []⟩,
      ⟨some 20, .bin .add (.t 18) (.t 19), none, []⟩,
      ⟨some 21, .pu .sidx [.t 17, .t 20], none, []⟩,
      ⟨some 22, .conv .i64 (.t 21), none, []⟩,
      ⟨some 23, .pu (.bit .or) [.t 16, .t 22], none, []⟩,
      ⟨some 7, .mv (.t 23), none, []⟩] none) <|
   .region [
     ⟨some 13, .mv (.t 8), none, []⟩,
     ⟨some 14, .bin .sub (.t 13) (.c (.int .i64 1)), none, []⟩,
     ⟨some 8, .mv (.t 14), none, []⟩] none) <|
  .seq (.region [
     ⟨some 24, .mv (.t 7), none, []⟩,
     ⟨some 6, .mv (.t 24), none, []⟩] none) <|
  .ret
abbrev n_ref28_Get : Nat := 40
theorem b_ref28_Get : bodyOf prog 40 [] = some (c_ref28_Get, [.t 6], 25) := by kernel_rfl

def c_telemetry_writer_number : ACode :=
  .seq (.region [
     ⟨some 3, .box 1 75 (.t 0), none, []⟩,
     ⟨some 6, .alloc 1 75 (.agg [.nil]), none, []⟩] none) <|
  .seq (.seq (.region [
      ⟨some 7, .mv (.t 2), none, []⟩,
      ⟨some 8, .mv (.c (.int .i64 0)), none, []⟩] none) <|
   .block 0 <|
   .loop <|
   .seq (.region [
      ⟨some 9, .bin .lss (.t 8) (.t 7), none, []⟩] none) <|
   .seq (.cond (.t 9) (.skip) <|
    .exit 0) <|
   .seq (.block 1 <|
    .seq (.region [
       ⟨some 10, .fa 0 (.t 3), none, []⟩,
       ⟨some 11, .load false 1 (.t 10), none, []⟩,
       ⟨some 12, .mv (.t 1), none, []⟩,
       ⟨some 13, .conv .u8 (.t 12), none, []⟩,
       ⟨some 14, .lit false 1 5 [.t 13], none, []⟩,
       ⟨some 15, .app 1 1 5 (.t 11) (.t 14), none, []⟩,
       ⟨some 16, .fa 0 (.t 3), none, []⟩,
       ⟨none, .store 1 (.t 16) (.t 15), none, []⟩] none) <|
    .region [
      ⟨some 17, .mv (.t 1), none, []⟩,
      ⟨some 18, .pu (.bit .shr) [.t 17, .c (.int .u64 8)], none, []⟩,
      ⟨some 1, .mv (.t 18), none, []⟩] none) <|
   .region [
     ⟨some 19, .bin .add (.t 8) (.c (.int .i64 1)), none, []⟩,
     ⟨some 8, .mv (.t 19), none, []⟩] none) <|
  .seq (.region [
     ⟨some 20, .load true 1 (.t 3), none, []⟩,
     ⟨none, .store 1 (.t 6) (.t 20), none, []⟩] none) <|
  .ret
abbrev n_telemetry_writer_number : Nat := 41
theorem b_telemetry_writer_number : bodyOf prog 41 [1000000] = some (c_telemetry_writer_number, [.c 6 true 1], 21) := by kernel_rfl

def c_telemetry_writer_reading : ACode :=
  .seq (.region [
     ⟨some 2, .box 1 75 (.t 0), none, []⟩,
     ⟨some 3, .box 4 34 (.t 1), none, []⟩,
     ⟨some 4, .alloc 1 75 (.agg [.nil]), none, []⟩] none) <|
  .seq (.hregion [
     ⟨10, ⟨some 15, .fa 3 (.t 3), none, []⟩⟩,
     ⟨11, ⟨some 16, .load false 1 (.t 15), none, [10]⟩⟩,
     ⟨7, ⟨some 12, .fa 2 (.t 3), none, []⟩⟩,
     ⟨8, ⟨some 13, .load false 1 (.t 12), none, [7]⟩⟩,
     ⟨4, ⟨some 9, .fa 1 (.t 3), none, []⟩⟩,
     ⟨5, ⟨some 10, .load false 1 (.t 9), none, [4]⟩⟩,
     ⟨1, ⟨some 6, .fa 0 (.t 3), none, []⟩⟩,
     ⟨2, ⟨some 7, .load false 1 (.t 6), none, [1]⟩⟩,
     ⟨0, ⟨some 5, .load true 1 (.t 2), none, []⟩⟩,
     ⟨3, ⟨some 8, .call 41 [.t 5, .t 7, .c (.int .i64 2)], none, [0, 2, 1]⟩⟩,
     ⟨6, ⟨some 11, .call 41 [.t 8, .t 10, .c (.int .i64 4)], none, [3, 5, 0, 2, 1, 4]⟩⟩,
     ⟨9, ⟨some 14, .call 41 [.t 11, .t 13, .c (.int .i64 5)], none, [6, 8, 3, 5, 0, 2, 1, 4, 7]⟩⟩,
     ⟨12, ⟨some 17, .call 41 [.t 14, .t 16, .c (.int .i64 1)], none, [9, 11, 6, 8, 3, 5, 0, 2, 1, 4, 7, 10]⟩⟩,
     ⟨13, ⟨none, .store 1 (.t 4) (.t 17), none, [12, 0, 1, 2, 3, 4, 5, 6, 7, 8, 9, 10, 11]⟩⟩]) <|
  .ret
abbrev n_telemetry_writer_reading : Nat := 42
theorem b_telemetry_writer_reading : bodyOf prog 42 [1000000] = some (c_telemetry_writer_reading, [.c 4 true 1], 18) := by kernel_rfl

def c_cmp_Less__int : ACode :=
  .seq (.region [
     ⟨some 4, .mv (.c (.bool false)), none, []⟩] none) <|
  .seq (.region [
     ⟨some 5, .mv (.t 0), none, []⟩,
     ⟨some 6, .call 45 [.t 5], none, []⟩,
     ⟨some 7, .mv (.t 6), none, []⟩,
     ⟨some 8, .mv (.t 1), some (7, true), []⟩,
     ⟨some 9, .call 45 [.t 8], some (7, true), []⟩,
     ⟨some 10, .un .not (.t 9), some (7, true), []⟩,
     ⟨some 11, .pick (.t 7) (.t 10) (.c (.bool false)), none, []⟩,
     ⟨some 12, .mv (.t 11), none, []⟩,
     ⟨some 13, .mv (.t 0), some (12, false), []⟩,
     ⟨some 14, .mv (.t 1), some (12, false), []⟩,
     ⟨some 15, .bin .lss (.t 13) (.t 14), some (12, false), []⟩,
     ⟨some 16, .pick (.t 12) (.c (.bool true)) (.t 15), none, []⟩,
     ⟨some 4, .mv (.t 16), none, []⟩] none) <|
  .ret
abbrev n_cmp_Less__int : Nat := 43
theorem b_cmp_Less__int : bodyOf prog 43 [1000000] = some (c_cmp_Less__int, [.t 4], 17) := by kernel_rfl

def c_slices_isNaN__int : ACode :=
  .seq (.region [
     ⟨some 2, .mv (.c (.bool false)), none, []⟩] none) <|
  .seq (.region [
     ⟨some 3, .mv (.t 0), none, []⟩,
     ⟨some 4, .mv (.t 0), none, []⟩,
     ⟨some 5, .bin .neq (.t 3) (.t 4), none, []⟩,
     ⟨some 2, .mv (.t 5), none, []⟩] none) <|
  .ret
abbrev n_slices_isNaN__int : Nat := 44
theorem b_slices_isNaN__int : bodyOf prog 44 [1000000] = some (c_slices_isNaN__int, [.t 2], 6) := by kernel_rfl

def c_cmp_isNaN__int : ACode :=
  .seq (.region [
     ⟨some 2, .mv (.c (.bool false)), none, []⟩] none) <|
  .seq (.region [
     ⟨some 3, .mv (.t 0), none, []⟩,
     ⟨some 4, .mv (.t 0), none, []⟩,
     ⟨some 5, .bin .neq (.t 3) (.t 4), none, []⟩,
     ⟨some 2, .mv (.t 5), none, []⟩] none) <|
  .ret
abbrev n_cmp_isNaN__int : Nat := 45
theorem b_cmp_isNaN__int : bodyOf prog 45 [1000000] = some (c_cmp_isNaN__int, [.t 2], 6) := by kernel_rfl

end Go.Proofs.Try
