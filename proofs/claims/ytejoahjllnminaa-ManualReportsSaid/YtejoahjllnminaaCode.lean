/-
  WRITTEN BY A PROGRAM OF OURS (tools/seat.py): the code of the functions of this seat, each checked by the kernel against the model.
-/
import Derived.Test.YtejoahjllnminaaBaseS
import Derived.Test.YtejoahjllnminaaProg
import Derived.KernelRfl
namespace Go.Proofs.Try
open Go Go.Ab
abbrev n_slices_overlaps__Hand : Nat := 37
theorem x_slices_overlaps__Hand : extOf prog 37 = some (Extern.SlicesOverlaps.overlaps #[23, 23] #[4]) := by kernel_rfl
theorem xt_slices_overlaps__Hand : eltOf prog 23 = true := by kernel_rfl
def c_law38_ManualDoes : ACode :=
  .seq (.region [
     ⟨some 8, .mv (.c (.bool false)), none, []⟩] none) <|
  .seq (.seq (.region [
      ⟨some 26, .call 6 [], none, []⟩,
      ⟨some 27, .un .not (.t 26), none, []⟩] none) <|
   .cond (.t 27) (.seq (.region [
       ⟨some 8, .mv (.c (.bool false)), none, []⟩] none) <|
    .ret) <|
   .skip) <|
  .seq (.seq (.region [
      ⟨some 28, .mv (.t 0), none, []⟩,
      ⟨some 29, .call 7 [.t 28], none, []⟩,
      ⟨some 30, .un .not (.t 29), none, []⟩,
      ⟨some 31, .mv (.t 30), none, []⟩,
      ⟨some 32, .mv (.t 1), some (31, false), []⟩,
      ⟨some 33, .len (.t 32), some (31, false), []⟩,
      ⟨some 34, .bin .gtr (.t 33) (.c (.int .i64 400)), some (31, false), []⟩,
      ⟨some 35, .pick (.t 31) (.c (.bool true)) (.t 34), none, []⟩] none) <|
   .cond (.t 35) (.seq (.region [
       ⟨some 8, .mv (.c (.bool true)), none, []⟩] none) <|
    .ret) <|
   .skip) <|
  .seq (.region [
     ⟨some 36, .mv (.t 0), none, []⟩,
     ⟨some 37, .call 9 [.t 36], none, []⟩,
     ⟨some 38, .call 8 [.t 37], none, []⟩,
     ⟨some 9, .mv (.t 38), none, []⟩] none) <|
  .seq (.seq (.region [
      ⟨some 39, .mv (.t 1), none, []⟩,
      ⟨some 40, .mv (.t 9), none, []⟩,
      ⟨some 41, .lit false 1 23 [.t 39, .t 40], none, []⟩,
      ⟨some 42, .len (.t 41), none, []⟩,
      ⟨some 43, .mv (.c (.int .i64 0)), none, []⟩] none) <|
   .block 0 <|
   .loop <|
   .seq (.region [
      ⟨some 44, .bin .lss (.t 43) (.t 42), none, []⟩] none) <|
   .seq (.cond (.t 44) (.skip) <|
    .exit 0) <|
   .seq (.block 1 <|
    .seq (.region [
       ⟨some 45, .ixs 1 (.t 41) (.t 43), none, []⟩,
       ⟨some 46, .load false 1 (.t 45), none, []⟩,
       ⟨some 11, .mv (.t 46), none, []⟩] none) <|
    .seq (.seq (.region [
        ⟨some 47, .mv (.t 11), none, []⟩,
        ⟨some 48, .call 10 [.t 47], none, []⟩,
        ⟨some 49, .mv (.t 11), none, []⟩,
        ⟨some 50, .call 11 [.t 49], none, []⟩,
        ⟨some 51, .bin .neq (.t 48) (.t 50), none, []⟩] none) <|
     .cond (.t 51) (.seq (.region [
         ⟨some 8, .mv (.c (.bool false)), none, []⟩] none) <|
      .ret) <|
     .skip) <|
    .seq (.region [
       ⟨some 52, .mv (.t 2), none, []⟩,
       ⟨some 53, .mv (.t 2), none, []⟩,
       ⟨some 54, .call 12 [.t 53, .c (.int .i64 6)], none, []⟩,
       ⟨some 55, .lit false 1 3 [.t 52, .t 54], none, []⟩,
       ⟨some 56, .len (.t 55), none, []⟩,
       ⟨some 57, .mv (.c (.int .i64 0)), none, []⟩] none) <|
    .block 2 <|
    .loop <|
    .seq (.region [
       ⟨some 58, .bin .lss (.t 57) (.t 56), none, []⟩] none) <|
    .seq (.cond (.t 58) (.skip) <|
     .exit 2) <|
    .seq (.block 3 <|
     .seq (.region [
        ⟨some 59, .ixs 1 (.t 55) (.t 57), none, []⟩,
        ⟨some 60, .load false 1 (.t 59), none, []⟩,
        ⟨some 13, .mv (.t 60), none, []⟩] none) <|
     .seq (.region [
        ⟨some 61, .mv (.t 3), none, []⟩,
        ⟨some 62, .mv (.t 3), none, []⟩,
        ⟨some 63, .call 12 [.t 62, .c (.int .i64 30)], none, []⟩,
        ⟨some 64, .lit false 1 3 [.t 61, .t 63], none, []⟩,
        ⟨some 65, .len (.t 64), none, []⟩,
        ⟨some 66, .mv (.c (.int .i64 0)), none, []⟩] none) <|
     .block 4 <|
     .loop <|
     .seq (.region [
        ⟨some 67, .bin .lss (.t 66) (.t 65), none, []⟩] none) <|
     .seq (.cond (.t 67) (.skip) <|
      .exit 4) <|
     .seq (.block 5 <|
      .seq (.region [
         ⟨some 68, .ixs 1 (.t 64) (.t 66), none, []⟩,
         ⟨some 69, .load false 1 (.t 68), none, []⟩,
         ⟨some 15, .mv (.t 69), none, []⟩] none) <|
      .seq (.region [
         ⟨some 71, .mv (.t 11), none, []⟩,
         ⟨some 72, .mv (.t 13), none, []⟩,
         ⟨some 73, .mv (.t 15), none, []⟩,
         ⟨some 74, .call 13 [.t 71, .t 72, .t 73], none, []⟩,
         ⟨some 70, .mv (.t 74), none, []⟩,
         ⟨some 75, .ext (.t 70) 0, none, []⟩,
         ⟨some 76, .ext (.t 70) 1, none, []⟩,
         ⟨some 16, .mv (.t 75), none, []⟩,
         ⟨some 17, .mv (.t 76), none, []⟩] none) <|
      .seq (.region [
         ⟨some 78, .mv (.t 11), none, []⟩,
         ⟨some 79, .mv (.t 13), none, []⟩,
         ⟨some 80, .mv (.t 15), none, []⟩,
         ⟨some 81, .call 14 [.t 78, .t 79, .t 80], none, []⟩,
         ⟨some 77, .mv (.t 81), none, []⟩,
         ⟨some 82, .ext (.t 77) 0, none, []⟩,
         ⟨some 83, .ext (.t 77) 1, none, []⟩,
         ⟨some 18, .mv (.t 82), none, []⟩,
         ⟨some 19, .mv (.t 83), none, []⟩] none) <|
      .seq (.region [
         ⟨some 85, .mv (.t 11), none, []⟩,
         ⟨some 86, .mv (.t 13), none, []⟩,
         ⟨some 87, .mv (.t 15), none, []⟩,
         ⟨some 88, .call 15 [.t 85, .t 86, .t 87], none, []⟩,
         ⟨some 84, .mv (.t 88), none, []⟩,
         ⟨some 89, .ext (.t 84) 0, none, []⟩,
         ⟨some 90, .ext (.t 84) 1, none, []⟩,
         ⟨some 91, .ext (.t 84) 2, none, []⟩,
         ⟨some 20, .mv (.t 89), none, []⟩,
         ⟨some 21, .mv (.t 90), none, []⟩,
         ⟨some 22, .mv (.t 91), none, []⟩] none) <|
      .seq (.region [
         ⟨some 93, .mv (.t 11), none, []⟩,
         ⟨some 94, .mv (.t 13), none, []⟩,
         ⟨some 95, .mv (.t 15), none, []⟩,
         ⟨some 96, .call 16 [.t 93, .t 94, .t 95], none, []⟩,
         ⟨some 92, .mv (.t 96), none, []⟩,
         ⟨some 97, .ext (.t 92) 0, none, []⟩,
         ⟨some 98, .ext (.t 92) 1, none, []⟩,
         ⟨some 99, .ext (.t 92) 2, none, []⟩,
         ⟨some 23, .mv (.t 97), none, []⟩,
         ⟨some 24, .mv (.t 98), none, []⟩,
         ⟨some 25, .mv (.t 99), none, []⟩] none) <|
      .seq (.region [
         ⟨some 100, .mv (.t 17), none, []⟩,
         ⟨some 101, .mv (.t 19), none, []⟩,
         ⟨some 102, .bin .neq (.t 100) (.t 101), none, []⟩,
         ⟨some 103, .mv (.t 102), none, []⟩,
         ⟨some 104, .mv (.t 22), some (103, false), []⟩,
         ⟨some 105, .mv (.t 25), some (103, false), []⟩,
         ⟨some 106, .bin .neq (.t 104) (.t 105), some (103, false), []⟩,
         ⟨some 107, .pick (.t 103) (.c (.bool true)) (.t 106), none, []⟩,
         ⟨some 108, .mv (.t 107), none, []⟩,
         ⟨some 109, .mv (.t 21), some (108, false), []⟩,
         ⟨some 110, .mv (.t 24), some (108, false), []⟩,
         ⟨some 111, .bin .neq (.t 109) (.t 110), some (108, false), []⟩,
         ⟨some 112, .pick (.t 108) (.c (.bool true)) (.t 111), none, []⟩,
         ⟨some 113, .mv (.t 112), none, []⟩,
         ⟨some 114, .mv (.t 16), some (113, false), []⟩,
         ⟨some 115, .mv (.t 18), some (113, false), []⟩,
         ⟨some 116, .call 17 [.t 114, .t 115], some (113, false), []⟩,
         ⟨some 117, .un .not (.t 116), some (113, false), []⟩,
         ⟨some 118, .pick (.t 113) (.c (.bool true)) (.t 117), none, []⟩,
         ⟨some 119, .mv (.t 118), none, []⟩,
         ⟨some 120, .mv (.t 20), some (119, false), []⟩,
         ⟨some 121, .mv (.t 23), some (119, false), []⟩,
         ⟨some 122, .call 17 [.t 120, .t 121], some (119, false), []⟩,
         ⟨some 123, .un .not (.t 122), some (119, false), []⟩,
         ⟨some 124, .pick (.t 119) (.c (.bool true)) (.t 123), none, []⟩,
         ⟨some 125, .mv (.t 124), none, []⟩,
         ⟨some 126, .mv (.t 11), some (125, false), []⟩,
         ⟨some 127, .mv (.t 13), some (125, false), []⟩,
         ⟨some 128, .call 18 [.t 126, .t 127], some (125, false), []⟩,
         ⟨some 129, .mv (.t 11), some (125, false), []⟩,
         ⟨some 130, .mv (.t 13), some (125, false), []⟩,
         ⟨some 131, .call 19 [.t 129, .t 130], some (125, false), []⟩,
         ⟨some 132, .eqb true (.t 128) (.t 131), some (125, false), []⟩,
         ⟨some 133, .pick (.t 125) (.c (.bool true)) (.t 132), none, []⟩] none) <|
      .cond (.t 133) (.seq (.region [
          ⟨some 8, .mv (.c (.bool false)), none, []⟩] none) <|
       .ret) <|
      .skip) <|
     .region [
       ⟨some 134, .bin .add (.t 66) (.c (.int .i64 1)), none, []⟩,
       ⟨some 66, .mv (.t 134), none, []⟩] none) <|
    .region [
      ⟨some 135, .bin .add (.t 57) (.c (.int .i64 1)), none, []⟩,
      ⟨some 57, .mv (.t 135), none, []⟩] none) <|
   .region [
     ⟨some 136, .bin .add (.t 43) (.c (.int .i64 1)), none, []⟩,
     ⟨some 43, .mv (.t 136), none, []⟩] none) <|
  .seq (.region [
     ⟨some 8, .mv (.c (.bool true)), none, []⟩] none) <|
  .ret
abbrev n_law38_ManualDoes : Nat := 3
theorem b_law38_ManualDoes : bodyOf prog 3 [1000000] = some (c_law38_ManualDoes, [.t 8], 137) := by kernel_rfl

def c_law38_ManualBack : ACode :=
  .seq (.region [
     ⟨some 10, .mv (.c (.bool false)), none, []⟩] none) <|
  .seq (.seq (.region [
      ⟨some 26, .call 6 [], none, []⟩,
      ⟨some 27, .un .not (.t 26), none, []⟩] none) <|
   .cond (.t 27) (.seq (.region [
       ⟨some 10, .mv (.c (.bool false)), none, []⟩] none) <|
    .ret) <|
   .skip) <|
  .seq (.seq (.region [
      ⟨some 28, .mv (.t 0), none, []⟩,
      ⟨some 29, .call 7 [.t 28], none, []⟩,
      ⟨some 30, .un .not (.t 29), none, []⟩,
      ⟨some 31, .mv (.t 30), none, []⟩,
      ⟨some 32, .mv (.t 4), some (31, false), []⟩,
      ⟨some 33, .len (.t 32), some (31, false), []⟩,
      ⟨some 34, .bin .gtr (.t 33) (.c (.int .i64 100)), some (31, false), []⟩,
      ⟨some 35, .pick (.t 31) (.c (.bool true)) (.t 34), none, []⟩] none) <|
   .cond (.t 35) (.seq (.region [
       ⟨some 10, .mv (.c (.bool true)), none, []⟩] none) <|
    .ret) <|
   .skip) <|
  .seq (.region [
     ⟨some 36, .mv (.t 0), none, []⟩,
     ⟨some 37, .call 9 [.t 36], none, []⟩,
     ⟨some 11, .mv (.t 37), none, []⟩] none) <|
  .seq (.region [
     ⟨some 38, .mv (.t 11), none, []⟩,
     ⟨some 39, .call 8 [.t 38], none, []⟩,
     ⟨some 12, .mv (.t 39), none, []⟩] none) <|
  .seq (.region [
     ⟨some 40, .mv (.t 1), none, []⟩,
     ⟨some 41, .conv .i64 (.t 40), none, []⟩,
     ⟨some 42, .bin .rem (.t 41) (.c (.int .i64 6)), none, []⟩,
     ⟨some 13, .mv (.t 42), none, []⟩] none) <|
  .seq (.region [
     ⟨some 44, .mv (.t 12), none, []⟩,
     ⟨some 45, .mv (.t 13), none, []⟩,
     ⟨some 46, .mv (.t 2), none, []⟩,
     ⟨some 47, .conv .i64 (.t 46), none, []⟩,
     ⟨some 48, .call 13 [.t 44, .t 45, .t 47], none, []⟩,
     ⟨some 43, .mv (.t 48), none, []⟩,
     ⟨some 49, .ext (.t 43) 0, none, []⟩,
     ⟨some 50, .ext (.t 43) 1, none, []⟩,
     ⟨some 14, .mv (.t 49), none, []⟩,
     ⟨some 15, .mv (.t 50), none, []⟩] none) <|
  .seq (.seq (.region [
      ⟨some 51, .mv (.t 12), none, []⟩,
      ⟨some 52, .mv (.t 13), none, []⟩,
      ⟨some 53, .call 18 [.t 51, .t 52], none, []⟩] none) <|
   .cond (.t 53) (.seq (.region [
       ⟨some 54, .mv (.t 15), none, []⟩,
       ⟨some 55, .bin .eql (.t 54) (.c (.int .i64 46)), none, []⟩,
       ⟨some 10, .mv (.t 55), none, []⟩] none) <|
    .ret) <|
   .skip) <|
  .seq (.region [
     ⟨some 57, .mv (.t 14), none, []⟩,
     ⟨some 58, .mv (.t 13), none, []⟩,
     ⟨some 59, .mv (.t 2), none, []⟩,
     ⟨some 60, .conv .i64 (.t 59), none, []⟩,
     ⟨some 61, .mv (.t 3), none, []⟩,
     ⟨some 62, .conv .i64 (.t 61), none, []⟩,
     ⟨some 63, .bin .add (.t 60) (.t 62), none, []⟩,
     ⟨some 64, .call 15 [.t 57, .t 58, .t 63], none, []⟩,
     ⟨some 56, .mv (.t 64), none, []⟩,
     ⟨some 65, .ext (.t 56) 0, none, []⟩,
     ⟨some 66, .ext (.t 56) 1, none, []⟩,
     ⟨some 67, .ext (.t 56) 2, none, []⟩,
     ⟨some 16, .mv (.t 65), none, []⟩,
     ⟨some 17, .mv (.t 66), none, []⟩,
     ⟨some 18, .mv (.t 67), none, []⟩] none) <|
  .seq (.seq (.region [
      ⟨some 68, .mv (.t 15), none, []⟩,
      ⟨some 69, .bin .neq (.t 68) (.c (.int .i64 0)), none, []⟩,
      ⟨some 70, .mv (.t 69), none, []⟩,
      ⟨some 71, .mv (.t 18), some (70, false), []⟩,
      ⟨some 72, .bin .neq (.t 71) (.c (.int .i64 0)), some (70, false), []⟩,
      ⟨some 73, .pick (.t 70) (.c (.bool true)) (.t 72), none, []⟩,
      ⟨some 74, .mv (.t 73), none, []⟩,
      ⟨some 75, .mv (.t 17), some (74, false), []⟩,
      ⟨some 76, .mv (.t 2), some (74, false), []⟩,
      ⟨some 77, .conv .i64 (.t 76), some (74, false), []⟩,
      ⟨some 78, .bin .neq (.t 75) (.t 77), some (74, false), []⟩,
      ⟨some 79, .pick (.t 74) (.c (.bool true)) (.t 78), none, []⟩,
      ⟨some 80, .mv (.t 79), none, []⟩,
      ⟨some 81, .mv (.t 16), some (80, false), []⟩,
      ⟨some 82, .mv (.t 12), some (80, false), []⟩,
      ⟨some 83, .call 17 [.t 81, .t 82], some (80, false), []⟩,
      ⟨some 84, .un .not (.t 83), some (80, false), []⟩,
      ⟨some 85, .pick (.t 80) (.c (.bool true)) (.t 84), none, []⟩,
      ⟨some 86, .mv (.t 85), none, []⟩,
      ⟨some 87, .mv (.t 14), some (86, false), []⟩,
      ⟨some 88, .mv (.t 13), some (86, false), []⟩,
      ⟨some 89, .call 18 [.t 87, .t 88], some (86, false), []⟩,
      ⟨some 90, .un .not (.t 89), some (86, false), []⟩,
      ⟨some 91, .pick (.t 86) (.c (.bool true)) (.t 90), none, []⟩,
      ⟨some 92, .mv (.t 91), none, []⟩,
      ⟨some 93, .mv (.t 16), some (92, false), []⟩,
      ⟨some 94, .mv (.t 13), some (92, false), []⟩,
      ⟨some 95, .call 18 [.t 93, .t 94], some (92, false), []⟩,
      ⟨some 96, .pick (.t 92) (.c (.bool true)) (.t 95), none, []⟩] none) <|
   .cond (.t 96) (.seq (.region [
       ⟨some 10, .mv (.c (.bool false)), none, []⟩] none) <|
    .ret) <|
   .skip) <|
  .seq (.region [
     ⟨some 19, .mv (.c (.nil)), none, []⟩] none) <|
  .seq (.seq (.region [
      ⟨some 97, .mv (.t 4), none, []⟩,
      ⟨some 98, .len (.t 97), none, []⟩,
      ⟨some 99, .mv (.c (.int .i64 0)), none, []⟩] none) <|
   .block 0 <|
   .loop <|
   .seq (.region [
      ⟨some 100, .bin .lss (.t 99) (.t 98), none, []⟩] none) <|
   .seq (.cond (.t 100) (.skip) <|
    .exit 0) <|
   .seq (.block 1 <|
    .seq (.region [
       ⟨some 101, .ixs 1 (.t 97) (.t 99), none, []⟩,
       ⟨some 102, .load false 1 (.t 101), none, []⟩,
       ⟨some 21, .mv (.t 102), none, []⟩] none) <|
    .region [
      ⟨some 103, .mv (.t 19), none, []⟩,
      ⟨some 104, .mv (.t 21), none, []⟩,
      ⟨some 105, .call 12 [.t 104, .c (.int .i64 100)], none, []⟩,
      ⟨some 106, .lit false 1 3 [.t 105], none, []⟩,
      ⟨some 107, .app 1 8 3 (.t 103) (.t 106), none, []⟩,
      ⟨some 19, .mv (.t 107), none, []⟩] none) <|
   .region [
     ⟨some 108, .bin .add (.t 99) (.c (.int .i64 1)), none, []⟩,
     ⟨some 99, .mv (.t 108), none, []⟩] none) <|
  .seq (.region [
     ⟨some 110, .mv (.t 19), none, []⟩,
     ⟨some 111, .mv (.t 11), none, []⟩,
     ⟨some 112, .call 21 [.t 111, .c (.int .i64 20)], none, []⟩,
     ⟨some 113, .call 20 [.c (.int .i64 1), .c (.int .i64 0), .c (.int .i64 3), .c (.int .i64 5), .t 110, .t 112], none, []⟩,
     ⟨some 109, .mv (.t 113), none, []⟩,
     ⟨some 114, .ext (.t 109) 0, none, []⟩,
     ⟨some 115, .ext (.t 109) 1, none, []⟩,
     ⟨some 22, .mv (.t 114), none, []⟩,
     ⟨some 23, .mv (.t 115), none, []⟩] none) <|
  .seq (.seq (.region [
      ⟨some 116, .mv (.t 23), none, []⟩,
      ⟨some 117, .bin .neq (.t 116) (.c (.int .i64 0)), none, []⟩,
      ⟨some 118, .mv (.t 117), none, []⟩,
      ⟨some 119, .mv (.t 22), some (118, false), []⟩,
      ⟨some 120, .len (.t 119), some (118, false), []⟩,
      ⟨some 121, .mv (.t 19), some (118, false), []⟩,
      ⟨some 122, .len (.t 121), some (118, false), []⟩,
      ⟨some 123, .bin .neq (.t 120) (.t 122), some (118, false), []⟩,
      ⟨some 124, .pick (.t 118) (.c (.bool true)) (.t 123), none, []⟩] none) <|
   .cond (.t 124) (.seq (.region [
       ⟨some 10, .mv (.c (.bool false)), none, []⟩] none) <|
    .ret) <|
   .skip) <|
  .seq (.seq (.region [
      ⟨some 125, .mv (.t 19), none, []⟩,
      ⟨some 126, .len (.t 125), none, []⟩,
      ⟨some 127, .mv (.c (.int .i64 0)), none, []⟩] none) <|
   .block 2 <|
   .loop <|
   .seq (.region [
      ⟨some 128, .bin .lss (.t 127) (.t 126), none, []⟩] none) <|
   .seq (.cond (.t 128) (.skip) <|
    .exit 2) <|
   .seq (.block 3 <|
    .seq (.region [
       ⟨some 129, .mv (.t 127), none, []⟩,
       ⟨some 130, .ixs 1 (.t 125) (.t 127), none, []⟩,
       ⟨some 131, .load false 1 (.t 130), none, []⟩,
       ⟨some 24, .mv (.t 129), none, []⟩,
       ⟨some 25, .mv (.t 131), none, []⟩] none) <|
    .seq (.region [
       ⟨some 132, .mv (.t 25), none, []⟩,
       ⟨some 133, .mv (.t 22), none, []⟩,
       ⟨some 134, .mv (.t 24), none, []⟩,
       ⟨some 135, .ixs 6 (.t 133) (.t 134), none, []⟩,
       ⟨some 136, .fa 4 (.t 135), none, []⟩,
       ⟨some 137, .fa 0 (.t 136), none, []⟩,
       ⟨some 138, .load false 1 (.t 137), none, []⟩,
       ⟨some 139, .bin .lss (.t 132) (.t 138), none, []⟩,
       ⟨some 140, .mv (.t 139), none, []⟩,
       ⟨some 141, .mv (.t 25), some (140, false), []⟩,
       ⟨some 142, .mv (.t 22), some (140, false), []⟩,
       ⟨some 143, .mv (.t 24), some (140, false), []⟩,
       ⟨some 144, .ixs 6 (.t 142) (.t 143), some (140, false), []⟩,
       ⟨some 145, .fa 4 (.t 144), some (140, false), []⟩,
       ⟨some 146, .fa 1 (.t 145), some (140, false), []⟩,
       ⟨some 147, .load false 1 (.t 146), some (140, false), []⟩,
       ⟨some 148, .bin .gtr (.t 141) (.t 147), some (140, false), []⟩,
       ⟨some 149, .pick (.t 140) (.c (.bool true)) (.t 148), none, []⟩,
       ⟨some 150, .mv (.t 149), none, []⟩,
       ⟨some 151, .mv (.t 22), some (150, false), []⟩,
       ⟨some 152, .mv (.t 24), some (150, false), []⟩,
       ⟨some 153, .ixs 6 (.t 151) (.t 152), some (150, false), []⟩,
       ⟨some 154, .fa 0 (.t 153), some (150, false), []⟩,
       ⟨some 155, .load false 1 (.t 154), some (150, false), []⟩,
       ⟨some 156, .mv (.t 24), some (150, false), []⟩,
       ⟨some 157, .bin .add (.c (.int .i64 1)) (.t 156), some (150, false), []⟩,
       ⟨some 158, .bin .neq (.t 155) (.t 157), some (150, false), []⟩,
       ⟨some 159, .pick (.t 150) (.c (.bool true)) (.t 158), none, []⟩,
       ⟨some 160, .mv (.t 159), none, []⟩,
       ⟨some 161, .mv (.t 22), some (160, false), []⟩,
       ⟨some 162, .mv (.t 24), some (160, false), []⟩,
       ⟨some 163, .ixs 6 (.t 161) (.t 162), some (160, false), []⟩,
       ⟨some 164, .fa 3 (.t 163), some (160, false), []⟩,
       ⟨some 165, .load false 1 (.t 164), some (160, false), []⟩,
       ⟨some 166, .mv (.t 24), some (160, false), []⟩,
       ⟨some 167, .bin .add (.c (.int .i64 5)) (.t 166), some (160, false), []⟩,
       ⟨some 168, .bin .neq (.t 165) (.t 167), some (160, false), []⟩,
       ⟨some 169, .pick (.t 160) (.c (.bool true)) (.t 168), none, []⟩] none) <|
    .cond (.t 169) (.seq (.region [
        ⟨some 10, .mv (.c (.bool false)), none, []⟩] none) <|
     .ret) <|
    .skip) <|
   .region [
     ⟨some 170, .bin .add (.t 127) (.c (.int .i64 1)), none, []⟩,
     ⟨some 127, .mv (.t 170), none, []⟩] none) <|
  .seq (.region [
     ⟨some 10, .mv (.c (.bool true)), none, []⟩] none) <|
  .ret
abbrev n_law38_ManualBack : Nat := 4
theorem b_law38_ManualBack : bodyOf prog 4 [1000000] = some (c_law38_ManualBack, [.t 10], 171) := by kernel_rfl

def c_law38_ManualReports : ACode :=
  .seq (.region [
     ⟨some 16, .mv (.c (.bool false)), none, []⟩] none) <|
  .seq (.seq (.region [
      ⟨some 35, .call 6 [], none, []⟩,
      ⟨some 36, .un .not (.t 35), none, []⟩] none) <|
   .cond (.t 36) (.seq (.region [
       ⟨some 16, .mv (.c (.bool false)), none, []⟩] none) <|
    .ret) <|
   .skip) <|
  .seq (.seq (.region [
      ⟨some 37, .mv (.t 4), none, []⟩,
      ⟨some 38, .len (.t 37), none, []⟩,
      ⟨some 39, .bin .gtr (.t 38) (.c (.int .i64 600)), none, []⟩] none) <|
   .cond (.t 39) (.seq (.region [
       ⟨some 16, .mv (.c (.bool true)), none, []⟩] none) <|
    .ret) <|
   .skip) <|
  .seq (.region [
     ⟨some 17, .mv (.c (.nil)), none, []⟩] none) <|
  .seq (.seq (.region [
      ⟨some 40, .mv (.t 4), none, []⟩,
      ⟨some 41, .len (.t 40), none, []⟩,
      ⟨some 42, .mv (.c (.int .i64 0)), none, []⟩] none) <|
   .block 0 <|
   .loop <|
   .seq (.region [
      ⟨some 43, .bin .lss (.t 42) (.t 41), none, []⟩] none) <|
   .seq (.cond (.t 43) (.skip) <|
    .exit 0) <|
   .seq (.block 1 <|
    .seq (.region [
       ⟨some 44, .ixs 1 (.t 40) (.t 42), none, []⟩,
       ⟨some 45, .load false 1 (.t 44), none, []⟩,
       ⟨some 19, .mv (.t 45), none, []⟩] none) <|
    .region [
      ⟨some 46, .mv (.t 17), none, []⟩,
      ⟨some 47, .mv (.t 19), none, []⟩,
      ⟨some 48, .call 12 [.t 47, .c (.int .i64 1000)], none, []⟩,
      ⟨some 49, .lit false 1 3 [.t 48], none, []⟩,
      ⟨some 50, .app 1 8 3 (.t 46) (.t 49), none, []⟩,
      ⟨some 17, .mv (.t 50), none, []⟩] none) <|
   .region [
     ⟨some 51, .bin .add (.t 42) (.c (.int .i64 1)), none, []⟩,
     ⟨some 42, .mv (.t 51), none, []⟩] none) <|
  .seq (.seq (.region [
      ⟨some 52, .mv (.t 4), none, []⟩,
      ⟨some 53, .mv (.t 17), none, []⟩,
      ⟨some 54, .lit true 1 22 [.t 52, .t 53], none, []⟩,
      ⟨some 55, .len (.t 54), none, []⟩,
      ⟨some 56, .mv (.c (.int .i64 0)), none, []⟩] none) <|
   .block 2 <|
   .loop <|
   .seq (.region [
      ⟨some 57, .bin .lss (.t 56) (.t 55), none, []⟩] none) <|
   .seq (.cond (.t 57) (.skip) <|
    .exit 2) <|
   .seq (.block 3 <|
    .seq (.region [
       ⟨some 58, .ixs 1 (.t 54) (.t 56), none, []⟩,
       ⟨some 59, .load false 1 (.t 58), none, []⟩,
       ⟨some 21, .mv (.t 59), none, []⟩] none) <|
    .seq (.region [
       ⟨some 60, .mv (.t 0), none, []⟩,
       ⟨some 61, .mv (.t 1), none, []⟩,
       ⟨some 62, .mv (.t 2), none, []⟩,
       ⟨some 63, .mv (.t 3), none, []⟩,
       ⟨some 64, .mv (.t 5), none, []⟩,
       ⟨some 65, .build [.int .i64 0, .int .i64 0, .int .i64 0, .int .i64 0, .int .i64 0] [(0, 1, .t 60), (1, 1, .t 61), (2, 1, .t 62), (3, 1, .t 63), (4, 1, .t 64)], none, []⟩,
       ⟨some 66, .mv (.t 0), none, []⟩,
       ⟨some 67, .call 12 [.t 66, .c (.int .i64 100)], none, []⟩,
       ⟨some 68, .mv (.t 1), none, []⟩,
       ⟨some 69, .call 12 [.t 68, .c (.int .i64 9)], none, []⟩,
       ⟨some 70, .mv (.t 2), none, []⟩,
       ⟨some 71, .mv (.t 3), none, []⟩,
       ⟨some 72, .call 12 [.t 71, .c (.int .i64 100)], none, []⟩,
       ⟨some 73, .mv (.t 5), none, []⟩,
       ⟨some 74, .call 12 [.t 73, .c (.int .i64 50)], none, []⟩,
       ⟨some 75, .build [.int .i64 0, .int .i64 0, .int .i64 0, .int .i64 0, .int .i64 0] [(0, 1, .t 67), (1, 1, .t 69), (2, 1, .t 70), (3, 1, .t 72), (4, 1, .t 74)], none, []⟩,
       ⟨some 76, .mv (.t 21), none, []⟩,
       ⟨some 77, .len (.t 76), none, []⟩,
       ⟨some 78, .bin .sub (.c (.int .i64 1073741825)) (.t 77), none, []⟩,
       ⟨some 79, .mv (.t 21), none, []⟩,
       ⟨some 80, .len (.t 79), none, []⟩,
       ⟨some 81, .bin .sub (.c (.int .i64 16777217)) (.t 80), none, []⟩,
       ⟨some 82, .build [.int .i64 0, .int .i64 0, .int .i64 0, .int .i64 0, .int .i64 0] [(0, 1, .t 78), (1, 1, .c (.int .i64 0)), (2, 1, .c (.int .i64 1)), (3, 1, .t 81), (4, 1, .c (.int .i64 274877906944))], none, []⟩,
       ⟨some 83, .lit false 5 50 [.t 65, .t 75, .t 82], none, []⟩,
       ⟨some 84, .len (.t 83), none, []⟩,
       ⟨some 85, .mv (.c (.int .i64 0)), none, []⟩] none) <|
    .block 4 <|
    .loop <|
    .seq (.region [
       ⟨some 86, .bin .lss (.t 85) (.t 84), none, []⟩] none) <|
    .seq (.cond (.t 86) (.skip) <|
     .exit 4) <|
    .seq (.block 5 <|
     .seq (.region [
        ⟨some 87, .ixs 5 (.t 83) (.t 85), none, []⟩,
        ⟨some 88, .load true 5 (.t 87), none, []⟩,
        ⟨some 23, .alloc 5 50 (.agg [.int .i64 0, .int .i64 0, .int .i64 0, .int .i64 0, .int .i64 0]), none, []⟩,
        ⟨none, .store 5 (.t 23) (.t 88), none, []⟩] none) <|
     .seq (.region [
        ⟨some 90, .pu (.aixs 1 5) [.t 23, .c (.int .i64 0)], none, []⟩,
        ⟨some 91, .load false 1 (.t 90), none, []⟩,
        ⟨some 92, .pu (.aixs 1 5) [.t 23, .c (.int .i64 1)], none, []⟩,
        ⟨some 93, .load false 1 (.t 92), none, []⟩,
        ⟨some 94, .pu (.aixs 1 5) [.t 23, .c (.int .i64 2)], none, []⟩,
        ⟨some 95, .load false 1 (.t 94), none, []⟩,
        ⟨some 96, .pu (.aixs 1 5) [.t 23, .c (.int .i64 3)], none, []⟩,
        ⟨some 97, .load false 1 (.t 96), none, []⟩,
        ⟨some 98, .mv (.t 21), none, []⟩,
        ⟨some 99, .pu (.aixs 1 5) [.t 23, .c (.int .i64 4)], none, []⟩,
        ⟨some 100, .load false 1 (.t 99), none, []⟩,
        ⟨some 101, .call 20 [.t 91, .t 93, .t 95, .t 97, .t 98, .t 100], none, []⟩,
        ⟨some 89, .mv (.t 101), none, []⟩,
        ⟨some 102, .ext (.t 89) 0, none, []⟩,
        ⟨some 103, .ext (.t 89) 1, none, []⟩,
        ⟨some 24, .mv (.t 102), none, []⟩,
        ⟨some 25, .mv (.t 103), none, []⟩] none) <|
     .seq (.region [
        ⟨some 105, .pu (.aixs 1 5) [.t 23, .c (.int .i64 0)], none, []⟩,
        ⟨some 106, .load false 1 (.t 105), none, []⟩,
        ⟨some 107, .pu (.aixs 1 5) [.t 23, .c (.int .i64 1)], none, []⟩,
        ⟨some 108, .load false 1 (.t 107), none, []⟩,
        ⟨some 109, .pu (.aixs 1 5) [.t 23, .c (.int .i64 2)], none, []⟩,
        ⟨some 110, .load false 1 (.t 109), none, []⟩,
        ⟨some 111, .pu (.aixs 1 5) [.t 23, .c (.int .i64 3)], none, []⟩,
        ⟨some 112, .load false 1 (.t 111), none, []⟩,
        ⟨some 113, .mv (.t 21), none, []⟩,
        ⟨some 114, .pu (.aixs 1 5) [.t 23, .c (.int .i64 4)], none, []⟩,
        ⟨some 115, .load false 1 (.t 114), none, []⟩,
        ⟨some 116, .call 22 [.t 106, .t 108, .t 110, .t 112, .t 113, .t 115], none, []⟩,
        ⟨some 104, .mv (.t 116), none, []⟩,
        ⟨some 117, .ext (.t 104) 0, none, []⟩,
        ⟨some 118, .ext (.t 104) 1, none, []⟩,
        ⟨some 26, .mv (.t 117), none, []⟩,
        ⟨some 27, .mv (.t 118), none, []⟩] none) <|
     .seq (.region [
        ⟨some 119, .mv (.t 25), none, []⟩,
        ⟨some 120, .mv (.t 27), none, []⟩,
        ⟨some 121, .bin .neq (.t 119) (.t 120), none, []⟩,
        ⟨some 122, .mv (.t 121), none, []⟩,
        ⟨some 123, .mv (.t 24), some (122, false), []⟩,
        ⟨some 124, .mv (.t 26), some (122, false), []⟩,
        ⟨some 125, .call 23 [.t 123, .t 124], some (122, false), []⟩,
        ⟨some 126, .un .not (.t 125), some (122, false), []⟩,
        ⟨some 127, .pick (.t 122) (.c (.bool true)) (.t 126), none, []⟩] none) <|
     .cond (.t 127) (.seq (.region [
         ⟨some 16, .mv (.c (.bool false)), none, []⟩] none) <|
      .ret) <|
     .skip) <|
    .region [
      ⟨some 128, .bin .add (.t 85) (.c (.int .i64 1)), none, []⟩,
      ⟨some 85, .mv (.t 128), none, []⟩] none) <|
   .region [
     ⟨some 129, .bin .add (.t 56) (.c (.int .i64 1)), none, []⟩,
     ⟨some 56, .mv (.t 129), none, []⟩] none) <|
  .seq (.seq (.region [
      ⟨some 130, .mv (.t 6), none, []⟩,
      ⟨some 131, .mv (.t 7), none, []⟩,
      ⟨some 132, .build [.int .i64 0, .int .i64 0] [(0, 1, .t 130), (1, 1, .t 131)], none, []⟩,
      ⟨some 133, .mv (.t 6), none, []⟩,
      ⟨some 134, .call 12 [.t 133, .c (.int .i64 30)], none, []⟩,
      ⟨some 135, .mv (.t 7), none, []⟩,
      ⟨some 136, .call 12 [.t 135, .c (.int .i64 100)], none, []⟩,
      ⟨some 137, .build [.int .i64 0, .int .i64 0] [(0, 1, .t 134), (1, 1, .t 136)], none, []⟩,
      ⟨some 138, .build [.int .i64 0, .int .i64 0] [(0, 1, .c (.int .i64 400)), (1, 1, .c (.int .i64 274877906944))], none, []⟩,
      ⟨some 139, .lit false 2 53 [.t 132, .t 137, .t 138], none, []⟩,
      ⟨some 140, .len (.t 139), none, []⟩,
      ⟨some 141, .mv (.c (.int .i64 0)), none, []⟩] none) <|
   .block 6 <|
   .loop <|
   .seq (.region [
      ⟨some 142, .bin .lss (.t 141) (.t 140), none, []⟩] none) <|
   .seq (.cond (.t 142) (.skip) <|
    .exit 6) <|
   .seq (.block 7 <|
    .seq (.region [
       ⟨some 143, .ixs 2 (.t 139) (.t 141), none, []⟩,
       ⟨some 144, .load true 2 (.t 143), none, []⟩,
       ⟨some 29, .alloc 2 53 (.agg [.int .i64 0, .int .i64 0]), none, []⟩,
       ⟨none, .store 2 (.t 29) (.t 144), none, []⟩] none) <|
    .seq (.region [
       ⟨some 146, .pu (.aixs 1 2) [.t 29, .c (.int .i64 0)], none, []⟩,
       ⟨some 147, .load false 1 (.t 146), none, []⟩,
       ⟨some 148, .pu (.aixs 1 2) [.t 29, .c (.int .i64 1)], none, []⟩,
       ⟨some 149, .load false 1 (.t 148), none, []⟩,
       ⟨some 150, .call 24 [.t 147, .t 149], none, []⟩,
       ⟨some 145, .mv (.t 150), none, []⟩,
       ⟨some 151, .ext (.t 145) 0, none, []⟩,
       ⟨some 152, .ext (.t 145) 1, none, []⟩,
       ⟨some 30, .mv (.t 151), none, []⟩,
       ⟨some 31, .mv (.t 152), none, []⟩] none) <|
    .seq (.region [
       ⟨some 154, .pu (.aixs 1 2) [.t 29, .c (.int .i64 0)], none, []⟩,
       ⟨some 155, .load false 1 (.t 154), none, []⟩,
       ⟨some 156, .pu (.aixs 1 2) [.t 29, .c (.int .i64 1)], none, []⟩,
       ⟨some 157, .load false 1 (.t 156), none, []⟩,
       ⟨some 158, .call 25 [.t 155, .t 157], none, []⟩,
       ⟨some 153, .mv (.t 158), none, []⟩,
       ⟨some 159, .ext (.t 153) 0, none, []⟩,
       ⟨some 160, .ext (.t 153) 1, none, []⟩,
       ⟨some 32, .mv (.t 159), none, []⟩,
       ⟨some 33, .mv (.t 160), none, []⟩] none) <|
    .seq (.seq (.region [
        ⟨some 161, .mv (.t 31), none, []⟩,
        ⟨some 162, .mv (.t 33), none, []⟩,
        ⟨some 163, .bin .neq (.t 161) (.t 162), none, []⟩,
        ⟨some 164, .mv (.t 163), none, []⟩,
        ⟨some 165, .mv (.t 30), some (164, false), []⟩,
        ⟨some 166, .len (.t 165), some (164, false), []⟩,
        ⟨some 167, .mv (.t 32), some (164, false), []⟩,
        ⟨some 168, .len (.t 167), some (164, false), []⟩,
        ⟨some 169, .bin .neq (.t 166) (.t 168), some (164, false), []⟩,
        ⟨some 170, .pick (.t 164) (.c (.bool true)) (.t 169), none, []⟩] none) <|
     .cond (.t 170) (.seq (.region [
         ⟨some 16, .mv (.c (.bool false)), none, []⟩] none) <|
      .ret) <|
     .skip) <|
    .seq (.region [
       ⟨some 171, .mv (.t 30), none, []⟩,
       ⟨some 172, .len (.t 171), none, []⟩,
       ⟨some 173, .mv (.c (.int .i64 0)), none, []⟩] none) <|
    .block 8 <|
    .loop <|
    .seq (.region [
       ⟨some 174, .bin .lss (.t 173) (.t 172), none, []⟩] none) <|
    .seq (.cond (.t 174) (.skip) <|
     .exit 8) <|
    .seq (.block 9 <|
     .seq (.region [
        ⟨some 175, .mv (.t 173), none, []⟩,
        ⟨some 34, .mv (.t 175), none, []⟩] none) <|
     .seq (.hregion [
        ⟨5, ⟨some 181, .mv (.t 34), none, []⟩⟩,
        ⟨4, ⟨some 180, .mv (.t 32), none, []⟩⟩,
        ⟨6, ⟨some 182, .ixs 2 (.t 180) (.t 181), none, [4, 5]⟩⟩,
        ⟨7, ⟨some 183, .load true 2 (.t 182), none, [6, 4, 5]⟩⟩,
        ⟨1, ⟨some 177, .mv (.t 34), none, []⟩⟩,
        ⟨0, ⟨some 176, .mv (.t 30), none, []⟩⟩,
        ⟨2, ⟨some 178, .ixs 2 (.t 176) (.t 177), none, [0, 1]⟩⟩,
        ⟨3, ⟨some 179, .load true 2 (.t 178), none, [2, 0, 1]⟩⟩,
        ⟨8, ⟨some 184, .eqs true [0, 0] (.t 179) (.t 183), none, [3, 7, 2, 0, 1, 6, 4, 5]⟩⟩]) <|
     .cond (.t 184) (.seq (.region [
         ⟨some 16, .mv (.c (.bool false)), none, []⟩] none) <|
      .ret) <|
     .skip) <|
    .region [
      ⟨some 185, .bin .add (.t 173) (.c (.int .i64 1)), none, []⟩,
      ⟨some 173, .mv (.t 185), none, []⟩] none) <|
   .region [
     ⟨some 186, .bin .add (.t 141) (.c (.int .i64 1)), none, []⟩,
     ⟨some 141, .mv (.t 186), none, []⟩] none) <|
  .seq (.region [
     ⟨some 16, .mv (.c (.bool true)), none, []⟩] none) <|
  .ret
abbrev n_law38_ManualReports : Nat := 5
theorem b_law38_ManualReports : bodyOf prog 5 [54, 1000000] = some (c_law38_ManualReports, [.t 16], 187) := by kernel_rfl

def c_law38_sane : ACode :=
  .seq (.region [
     ⟨some 0, .mv (.c (.bool false)), none, []⟩] none) <|
  .seq (.region [
     ⟨some 8, .lit false 1 3 [.c (.int .i64 5), .c (.int .i64 9)], none, []⟩,
     ⟨some 9, .call 20 [.c (.int .i64 3), .c (.int .i64 1), .c (.int .i64 2), .c (.int .i64 7), .t 8, .c (.int .i64 6)], none, []⟩,
     ⟨some 7, .mv (.t 9), none, []⟩,
     ⟨some 10, .ext (.t 7) 0, none, []⟩,
     ⟨some 11, .ext (.t 7) 1, none, []⟩,
     ⟨some 1, .mv (.t 10), none, []⟩,
     ⟨some 2, .mv (.t 11), none, []⟩] none) <|
  .seq (.region [
     ⟨some 13, .call 13 [.c (.nil), .c (.int .i64 2), .c (.int .i64 10)], none, []⟩,
     ⟨some 12, .mv (.t 13), none, []⟩,
     ⟨some 14, .ext (.t 12) 0, none, []⟩,
     ⟨some 15, .ext (.t 12) 1, none, []⟩,
     ⟨some 3, .mv (.t 14), none, []⟩,
     ⟨some 4, .mv (.t 15), none, []⟩] none) <|
  .seq (.region [
     ⟨some 17, .mv (.t 3), none, []⟩,
     ⟨some 18, .call 15 [.t 17, .c (.int .i64 2), .c (.int .i64 12)], none, []⟩,
     ⟨some 16, .mv (.t 18), none, []⟩,
     ⟨some 19, .ext (.t 16) 0, none, []⟩,
     ⟨some 20, .ext (.t 16) 1, none, []⟩,
     ⟨some 21, .ext (.t 16) 2, none, []⟩,
     ⟨some 3, .mv (.t 19), none, []⟩,
     ⟨some 5, .mv (.t 20), none, []⟩,
     ⟨some 6, .mv (.t 21), none, []⟩] none) <|
  .seq (.region [
     ⟨some 22, .mv (.t 2), none, []⟩,
     ⟨some 23, .bin .eql (.t 22) (.c (.int .i64 0)), none, []⟩,
     ⟨some 24, .mv (.t 23), none, []⟩,
     ⟨some 25, .mv (.t 4), some (24, true), []⟩,
     ⟨some 26, .bin .eql (.t 25) (.c (.int .i64 0)), some (24, true), []⟩,
     ⟨some 27, .pick (.t 24) (.t 26) (.c (.bool false)), none, []⟩,
     ⟨some 28, .mv (.t 27), none, []⟩,
     ⟨some 29, .mv (.t 6), some (28, true), []⟩,
     ⟨some 30, .bin .eql (.t 29) (.c (.int .i64 0)), some (28, true), []⟩,
     ⟨some 31, .pick (.t 28) (.t 30) (.c (.bool false)), none, []⟩,
     ⟨some 32, .mv (.t 31), none, []⟩,
     ⟨some 33, .mv (.t 3), some (32, true), []⟩,
     ⟨some 34, .len (.t 33), some (32, true), []⟩,
     ⟨some 35, .bin .eql (.t 34) (.c (.int .i64 0)), some (32, true), []⟩,
     ⟨some 36, .pick (.t 32) (.t 35) (.c (.bool false)), none, []⟩,
     ⟨some 37, .mv (.t 36), none, []⟩,
     ⟨some 38, .mv (.t 5), some (37, true), []⟩,
     ⟨some 39, .bin .eql (.t 38) (.c (.int .i64 10)), some (37, true), []⟩,
     ⟨some 40, .pick (.t 37) (.t 39) (.c (.bool false)), none, []⟩,
     ⟨some 41, .mv (.t 40), none, []⟩,
     ⟨some 42, .mv (.t 1), some (41, true), []⟩,
     ⟨some 43, .len (.t 42), some (41, true), []⟩,
     ⟨some 44, .bin .eql (.t 43) (.c (.int .i64 2)), some (41, true), []⟩,
     ⟨some 45, .pick (.t 41) (.t 44) (.c (.bool false)), none, []⟩,
     ⟨some 46, .mv (.t 45), none, []⟩,
     ⟨some 47, .mv (.t 1), some (46, true), []⟩,
     ⟨some 48, .ixs 6 (.t 47) (.c (.int .i64 0)), some (46, true), []⟩,
     ⟨some 49, .fa 4 (.t 48), some (46, true), []⟩,
     ⟨some 50, .load true 2 (.t 49), some (46, true), []⟩,
     ⟨some 51, .build [.int .i64 0, .int .i64 0] [(1, 1, .c (.int .i64 11))], some (46, true), []⟩,
     ⟨some 52, .eqs false [0, 0] (.t 50) (.t 51), some (46, true), []⟩,
     ⟨some 53, .pick (.t 46) (.t 52) (.c (.bool false)), none, []⟩,
     ⟨some 54, .mv (.t 53), none, []⟩,
     ⟨some 55, .mv (.t 1), some (54, true), []⟩,
     ⟨some 56, .ixs 6 (.t 55) (.c (.int .i64 1)), some (54, true), []⟩,
     ⟨some 57, .load true 6 (.t 56), some (54, true), []⟩,
     ⟨some 58, .build [.int .i64 0, .int .i64 0] [(0, 1, .c (.int .i64 3)), (1, 1, .c (.int .i64 15))], some (54, true), []⟩,
     ⟨some 59, .build [.int .i64 0, .int .i64 0, .int .i64 0, .int .i64 0, .int .i64 0, .int .i64 0] [(0, 1, .c (.int .i64 4)), (1, 1, .c (.int .i64 1)), (2, 1, .c (.int .i64 2)), (3, 1, .c (.int .i64 8)), (4, 2, .t 58)], some (54, true), []⟩,
     ⟨some 60, .eqs false [0, 0, 0, 0, 0, 0] (.t 57) (.t 59), some (54, true), []⟩,
     ⟨some 61, .pick (.t 54) (.t 60) (.c (.bool false)), none, []⟩,
     ⟨some 62, .mv (.t 61), none, []⟩,
     ⟨some 63, .mv (.t 3), some (62, true), []⟩,
     ⟨some 64, .call 18 [.t 63, .c (.int .i64 2)], some (62, true), []⟩,
     ⟨some 65, .un .not (.t 64), some (62, true), []⟩,
     ⟨some 66, .pick (.t 62) (.t 65) (.c (.bool false)), none, []⟩,
     ⟨some 0, .mv (.t 66), none, []⟩] none) <|
  .ret
abbrev n_law38_sane : Nat := 6
theorem b_law38_sane : bodyOf prog 6 [1000000] = some (c_law38_sane, [.t 0], 67) := by kernel_rfl

def c_mk_Few : ACode :=
  .seq (.region [
     ⟨some 2, .mv (.c (.bool false)), none, []⟩] none) <|
  .seq (.region [
     ⟨some 3, .mv (.t 0), none, []⟩,
     ⟨some 4, .len (.t 3), none, []⟩,
     ⟨some 5, .bin .leq (.t 4) (.c (.int .i64 500)), none, []⟩,
     ⟨some 2, .mv (.t 5), none, []⟩] none) <|
  .ret
abbrev n_mk_Few : Nat := 7
theorem b_mk_Few : bodyOf prog 7 [1000000] = some (c_mk_Few, [.t 2], 6) := by kernel_rfl

def c_law38_hands : ACode :=
  .seq (.region [
     ⟨some 2, .mv (.c (.nil)), none, []⟩] none) <|
  .seq (.region [
     ⟨some 3, .mv (.c (.nil)), none, []⟩] none) <|
  .seq (.seq (.region [
      ⟨some 4, .mv (.c (.int .i64 0)), none, []⟩] none) <|
   .block 0 <|
   .loop <|
   .seq (.seq (.region [
       ⟨some 5, .mv (.t 4), none, []⟩,
       ⟨some 6, .bin .lss (.t 5) (.c (.int .i64 6)), none, []⟩] none) <|
    .cond (.t 6) (.skip) <|
    .exit 0) <|
   .seq (.block 1 <|
    .seq (.region [
       ⟨some 9, .mv (.t 0), none, []⟩,
       ⟨some 10, .call 21 [.t 9, .c (.int .i64 3)], none, []⟩,
       ⟨some 11, .bin .eql (.t 10) (.c (.int .i64 0)), none, []⟩] none) <|
    .cond (.t 11) (.region [
       ⟨some 12, .mv (.t 3), none, []⟩,
       ⟨some 13, .mv (.t 4), none, []⟩,
       ⟨some 14, .mv (.t 0), none, []⟩,
       ⟨some 15, .call 21 [.t 14, .c (.int .i64 20)], none, []⟩,
       ⟨some 16, .build [.int .i64 0, .int .i64 0] [(0, 1, .t 13), (1, 1, .t 15)], none, []⟩,
       ⟨some 17, .lit false 2 60 [.t 16], none, []⟩,
       ⟨some 18, .app 2 16 60 (.t 12) (.t 17), none, []⟩,
       ⟨some 3, .mv (.t 18), none, []⟩] none) <|
    .skip) <|
   .region [
     ⟨some 7, .mv (.t 4), none, []⟩,
     ⟨some 8, .bin .add (.t 7) (.c (.int .i64 1)), none, []⟩,
     ⟨some 4, .mv (.t 8), none, []⟩] none) <|
  .seq (.region [
     ⟨some 19, .mv (.t 3), none, []⟩,
     ⟨some 2, .mv (.t 19), none, []⟩] none) <|
  .ret
abbrev n_law38_hands : Nat := 8
theorem b_law38_hands : bodyOf prog 8 [1000000] = some (c_law38_hands, [.t 2], 20) := by kernel_rfl

def c_mk_New : ACode :=
  .seq (.region [
     ⟨some 2, .mv (.c (.nilptr)), none, []⟩] none) <|
  .seq (.region [
     ⟨some 3, .mv (.t 0), none, []⟩,
     ⟨some 4, .build [.nil, .int .i64 0] [(0, 1, .t 3)], none, []⟩,
     ⟨some 5, .box 2 62 (.t 4), none, []⟩,
     ⟨some 2, .mv (.t 5), none, []⟩] none) <|
  .ret
abbrev n_mk_New : Nat := 9
theorem b_mk_New : bodyOf prog 9 [] = some (c_mk_New, [.t 2], 6) := by kernel_rfl

def c_manual_Check : ACode :=
  .seq (.region [
     ⟨some 2, .mv (.c (.int .i64 0)), none, []⟩] none) <|
  .seq (.region [
     ⟨some 3, .mv (.c (.int .i64 (-1))), none, []⟩] none) <|
  .seq (.seq (.region [
      ⟨some 6, .mv (.t 0), none, []⟩,
      ⟨some 7, .len (.t 6), none, []⟩,
      ⟨some 8, .mv (.c (.int .i64 0)), none, []⟩] none) <|
   .block 0 <|
   .loop <|
   .seq (.region [
      ⟨some 9, .bin .lss (.t 8) (.t 7), none, []⟩] none) <|
   .seq (.cond (.t 9) (.skip) <|
    .exit 0) <|
   .seq (.block 1 <|
    .seq (.region [
       ⟨some 10, .ixs 2 (.t 6) (.t 8), none, []⟩,
       ⟨some 11, .load true 2 (.t 10), none, []⟩,
       ⟨some 5, .alloc 2 60 (.agg [.int .i64 0, .int .i64 0]), none, []⟩,
       ⟨none, .store 2 (.t 5) (.t 11), none, []⟩] none) <|
    .seq (.seq (.region [
        ⟨some 12, .fa 0 (.t 5), none, []⟩,
        ⟨some 13, .load false 1 (.t 12), none, []⟩,
        ⟨some 14, .mv (.t 3), none, []⟩,
        ⟨some 15, .bin .leq (.t 13) (.t 14), none, []⟩,
        ⟨some 16, .mv (.t 15), none, []⟩,
        ⟨some 17, .fa 0 (.t 5), some (16, false), []⟩,
        ⟨some 18, .load false 1 (.t 17), some (16, false), []⟩,
        ⟨some 19, .bin .geq (.t 18) (.c (.int .i64 6)), some (16, false), []⟩,
        ⟨some 20, .pick (.t 16) (.c (.bool true)) (.t 19), none, []⟩,
        ⟨some 21, .mv (.t 20), none, []⟩,
        ⟨some 22, .fa 1 (.t 5), some (21, false), []⟩,
        ⟨some 23, .load false 1 (.t 22), some (21, false), []⟩,
        ⟨some 24, .bin .lss (.t 23) (.c (.int .i64 0)), some (21, false), []⟩,
        ⟨some 25, .pick (.t 21) (.c (.bool true)) (.t 24), none, []⟩,
        ⟨some 26, .mv (.t 25), none, []⟩,
        ⟨some 27, .fa 1 (.t 5), some (26, false), []⟩,
        ⟨some 28, .load false 1 (.t 27), some (26, false), []⟩,
        ⟨some 29, .bin .gtr (.t 28) (.c (.int .i64 16777216)), some (26, false), []⟩,
        ⟨some 30, .pick (.t 26) (.c (.bool true)) (.t 29), none, []⟩] none) <|
     .cond (.t 30) (.seq (.region [
         ⟨some 2, .mv (.c (.int .i64 53)), none, []⟩] none) <|
      .ret) <|
     .skip) <|
    .region [
      ⟨some 31, .fa 0 (.t 5), none, []⟩,
      ⟨some 32, .load false 1 (.t 31), none, []⟩,
      ⟨some 3, .mv (.t 32), none, []⟩] none) <|
   .region [
     ⟨some 33, .bin .add (.t 8) (.c (.int .i64 1)), none, []⟩,
     ⟨some 8, .mv (.t 33), none, []⟩] none) <|
  .seq (.region [
     ⟨some 2, .mv (.c (.int .i64 0)), none, []⟩] none) <|
  .ret
abbrev n_manual_Check : Nat := 10
theorem b_manual_Check : bodyOf prog 10 [1000000] = some (c_manual_Check, [.t 2], 34) := by kernel_rfl

def c_ref38_Check : ACode :=
  .seq (.region [
     ⟨some 2, .mv (.c (.int .i64 0)), none, []⟩] none) <|
  .seq (.seq (.region [
      ⟨some 5, .mv (.t 0), none, []⟩,
      ⟨some 6, .len (.t 5), none, []⟩,
      ⟨some 7, .mv (.c (.int .i64 0)), none, []⟩] none) <|
   .block 0 <|
   .loop <|
   .seq (.region [
      ⟨some 8, .bin .lss (.t 7) (.t 6), none, []⟩] none) <|
   .seq (.cond (.t 8) (.skip) <|
    .exit 0) <|
   .seq (.block 1 <|
    .seq (.region [
       ⟨some 9, .mv (.t 7), none, []⟩,
       ⟨some 10, .ixs 2 (.t 5) (.t 7), none, []⟩,
       ⟨some 11, .load true 2 (.t 10), none, []⟩,
       ⟨some 4, .alloc 2 60 (.agg [.int .i64 0, .int .i64 0]), none, []⟩,
       ⟨some 3, .mv (.t 9), none, []⟩,
       ⟨none, .store 2 (.t 4) (.t 11), none, []⟩] none) <|
    .seq (.hregion [
       ⟨0, ⟨some 12, .fa 0 (.t 4), none, []⟩⟩,
       ⟨1, ⟨some 13, .load false 1 (.t 12), none, [0]⟩⟩,
       ⟨2, ⟨some 14, .bin .lss (.t 13) (.c (.int .i64 0)), none, [1, 0]⟩⟩,
       ⟨3, ⟨some 15, .mv (.t 14), none, [2, 1, 0]⟩⟩,
       ⟨4, ⟨some 16, .fa 0 (.t 4), some (15, false), [3, 2, 1, 0]⟩⟩,
       ⟨5, ⟨some 17, .load false 1 (.t 16), some (15, false), [4, 3, 2, 1, 0]⟩⟩,
       ⟨6, ⟨some 18, .bin .geq (.t 17) (.c (.int .i64 6)), some (15, false), [5, 3, 4, 2, 1, 0]⟩⟩,
       ⟨7, ⟨some 19, .pick (.t 15) (.c (.bool true)) (.t 18), none, [3, 6, 2, 1, 0, 5, 4]⟩⟩,
       ⟨8, ⟨some 20, .mv (.t 19), none, [7, 3, 6, 2, 1, 0, 5, 4]⟩⟩,
       ⟨9, ⟨some 21, .mv (.t 3), some (20, false), [8, 7, 3, 6, 2, 1, 0, 5, 4]⟩⟩,
       ⟨10, ⟨some 22, .bin .gtr (.t 21) (.c (.int .i64 0)), some (20, false), [9, 8, 7, 3, 6, 2, 1, 0, 5, 4]⟩⟩,
       ⟨11, ⟨some 23, .mv (.t 22), some (20, false), [10, 8, 9, 7, 3, 6, 2, 1, 0, 5, 4]⟩⟩,
       ⟨15, ⟨some 27, .mv (.t 3), some (23, true), [11, 10, 8, 9, 7, 3, 6, 2, 1, 0, 5, 4]⟩⟩,
       ⟨16, ⟨some 28, .bin .sub (.t 27) (.c (.int .i64 1)), some (23, true), [15, 11, 10, 8, 9, 7, 3, 6, 2, 1, 0, 5, 4]⟩⟩,
       ⟨14, ⟨some 26, .mv (.t 0), some (23, true), [11, 10, 8, 9, 7, 3, 6, 2, 1, 0, 5, 4]⟩⟩,
       ⟨17, ⟨some 29, .ixs 2 (.t 26) (.t 28), some (23, true), [14, 16, 11, 10, 8, 9, 7, 3, 6, 2, 1, 0, 5, 4, 15]⟩⟩,
       ⟨18, ⟨some 30, .fa 0 (.t 29), some (23, true), [17, 11, 14, 16, 10, 8, 9, 7, 3, 6, 2, 1, 0, 5, 4, 15]⟩⟩,
       ⟨19, ⟨some 31, .load false 1 (.t 30), some (23, true), [18, 11, 17, 14, 16, 10, 8, 9, 7, 3, 6, 2, 1, 0, 5, 4, 15]⟩⟩,
       ⟨12, ⟨some 24, .fa 0 (.t 4), some (23, true), [11, 10, 8, 9, 7, 3, 6, 2, 1, 0, 5, 4]⟩⟩,
       ⟨13, ⟨some 25, .load false 1 (.t 24), some (23, true), [12, 11, 10, 8, 9, 7, 3, 6, 2, 1, 0, 5, 4]⟩⟩,
       ⟨20, ⟨some 32, .bin .leq (.t 25) (.t 31), some (23, true), [13, 19, 11, 12, 10, 8, 9, 7, 3, 6, 2, 1, 0, 5, 4, 18, 17, 14, 16, 15]⟩⟩,
       ⟨21, ⟨some 33, .pick (.t 23) (.t 32) (.c (.bool false)), some (20, false), [11, 20, 8, 10, 9, 7, 3, 6, 2, 1, 0, 5, 4, 13, 19, 12, 18, 17, 14, 16, 15]⟩⟩,
       ⟨22, ⟨some 34, .pick (.t 20) (.c (.bool true)) (.t 33), none, [8, 21, 7, 3, 6, 2, 1, 0, 5, 4, 11, 20, 10, 9, 13, 19, 12, 18, 17, 14, 16, 15]⟩⟩,
       ⟨23, ⟨some 35, .mv (.t 34), none, [22, 11, 8, 21, 7, 3, 6, 2, 1, 0, 5, 4, 20, 10, 9, 13, 19, 12, 18, 17, 14, 16, 15]⟩⟩,
       ⟨24, ⟨some 36, .fa 1 (.t 4), some (35, false), [23, 22, 11, 8, 21, 7, 3, 6, 2, 1, 0, 5, 4, 20, 10, 9, 13, 19, 12, 18, 17, 14, 16, 15]⟩⟩,
       ⟨25, ⟨some 37, .load false 1 (.t 36), some (35, false), [24, 23, 22, 11, 8, 21, 7, 3, 6, 2, 1, 0, 5, 4, 20, 10, 9, 13, 19, 12, 18, 17, 14, 16, 15]⟩⟩,
       ⟨26, ⟨some 38, .bin .lss (.t 37) (.c (.int .i64 0)), some (35, false), [25, 23, 24, 22, 11, 8, 21, 7, 3, 6, 2, 1, 0, 5, 4, 20, 10, 9, 13, 19, 12, 18, 17, 14, 16, 15]⟩⟩,
       ⟨27, ⟨some 39, .pick (.t 35) (.c (.bool true)) (.t 38), none, [23, 26, 22, 11, 8, 21, 7, 3, 6, 2, 1, 0, 5, 4, 20, 10, 9, 13, 19, 12, 18, 17, 14, 16, 15, 25, 24]⟩⟩,
       ⟨28, ⟨some 40, .mv (.t 39), none, [27, 23, 26, 22, 11, 8, 21, 7, 3, 6, 2, 1, 0, 5, 4, 20, 10, 9, 13, 19, 12, 18, 17, 14, 16, 15, 25, 24]⟩⟩,
       ⟨29, ⟨some 41, .fa 1 (.t 4), some (40, false), [28, 27, 23, 26, 22, 11, 8, 21, 7, 3, 6, 2, 1, 0, 5, 4, 20, 10, 9, 13, 19, 12, 18, 17, 14, 16, 15, 25, 24]⟩⟩,
       ⟨30, ⟨some 42, .load false 1 (.t 41), some (40, false), [29, 28, 27, 23, 26, 22, 11, 8, 21, 7, 3, 6, 2, 1, 0, 5, 4, 20, 10, 9, 13, 19, 12, 18, 17, 14, 16, 15, 25, 24]⟩⟩,
       ⟨31, ⟨some 43, .bin .gtr (.t 42) (.c (.int .i64 16777216)), some (40, false), [30, 28, 29, 27, 23, 26, 22, 11, 8, 21, 7, 3, 6, 2, 1, 0, 5, 4, 20, 10, 9, 13, 19, 12, 18, 17, 14, 16, 15, 25, 24]⟩⟩,
       ⟨32, ⟨some 44, .pick (.t 40) (.c (.bool true)) (.t 43), none, [28, 31, 27, 23, 26, 22, 11, 8, 21, 7, 3, 6, 2, 1, 0, 5, 4, 20, 10, 9, 13, 19, 12, 18, 17, 14, 16, 15, 25, 24, 30, 29]⟩⟩]) <|
    .cond (.t 44) (.seq (.region [
        ⟨some 2, .mv (.c (.int .i64 53)), none, []⟩] none) <|
     .ret) <|
    .skip) <|
   .region [
     ⟨some 45, .bin .add (.t 7) (.c (.int .i64 1)), none, []⟩,
     ⟨some 7, .mv (.t 45), none, []⟩] none) <|
  .seq (.region [
     ⟨some 2, .mv (.c (.int .i64 0)), none, []⟩] none) <|
  .ret
abbrev n_ref38_Check : Nat := 11
theorem b_ref38_Check : bodyOf prog 11 [1000000] = some (c_ref38_Check, [.t 2], 46) := by kernel_rfl

def c_mk_Mod : ACode :=
  .seq (.region [
     ⟨some 4, .mv (.c (.int .i64 0)), none, []⟩] none) <|
  .seq (.region [
     ⟨some 5, .mv (.t 0), none, []⟩,
     ⟨some 6, .mv (.t 1), none, []⟩,
     ⟨some 7, .bin .rem (.t 5) (.t 6), none, []⟩,
     ⟨some 8, .mv (.t 1), none, []⟩,
     ⟨some 9, .bin .add (.t 7) (.t 8), none, []⟩,
     ⟨some 10, .mv (.t 1), none, []⟩,
     ⟨some 11, .bin .rem (.t 9) (.t 10), none, []⟩,
     ⟨some 4, .mv (.t 11), none, []⟩] none) <|
  .ret
abbrev n_mk_Mod : Nat := 12
theorem b_mk_Mod : bodyOf prog 12 [] = some (c_mk_Mod, [.t 4], 12) := by kernel_rfl

def c_manual_Take : ACode :=
  .seq (.region [
     ⟨some 6, .mv (.c (.nil)), none, []⟩,
     ⟨some 7, .mv (.c (.int .i64 0)), none, []⟩] none) <|
  .seq (.seq (.region [
      ⟨some 11, .mv (.t 0), none, []⟩,
      ⟨some 12, .mv (.t 1), none, []⟩,
      ⟨some 13, .call 26 [.t 11, .t 12], none, []⟩,
      ⟨some 8, .mv (.t 13), none, []⟩] none) <|
   .seq (.region [
      ⟨some 14, .mv (.t 8), none, []⟩,
      ⟨some 15, .bin .neq (.t 14) (.c (.int .i64 0)), none, []⟩] none) <|
   .cond (.t 15) (.seq (.region [
       ⟨some 16, .mv (.t 8), none, []⟩,
       ⟨some 6, .mv (.c (.nil)), none, []⟩,
       ⟨some 7, .mv (.t 16), none, []⟩] none) <|
    .ret) <|
   .skip) <|
  .seq (.seq (.region [
      ⟨some 17, .mv (.t 2), none, []⟩,
      ⟨some 18, .bin .lss (.t 17) (.c (.int .i64 0)), none, []⟩,
      ⟨some 19, .mv (.t 18), none, []⟩,
      ⟨some 20, .mv (.t 2), some (19, false), []⟩,
      ⟨some 21, .bin .gtr (.t 20) (.c (.int .i64 16777216)), some (19, false), []⟩,
      ⟨some 22, .pick (.t 19) (.c (.bool true)) (.t 21), none, []⟩] none) <|
   .cond (.t 22) (.seq (.region [
       ⟨some 6, .mv (.c (.nil)), none, []⟩,
       ⟨some 7, .mv (.c (.int .i64 6)), none, []⟩] none) <|
    .ret) <|
   .skip) <|
  .seq (.region [
     ⟨some 24, .mv (.t 0), none, []⟩,
     ⟨some 25, .mv (.t 1), none, []⟩,
     ⟨some 26, .call 27 [.t 24, .t 25], none, []⟩,
     ⟨some 23, .mv (.t 26), none, []⟩,
     ⟨some 27, .ext (.t 23) 0, none, []⟩,
     ⟨some 28, .ext (.t 23) 1, none, []⟩,
     ⟨some 9, .mv (.t 27), none, []⟩,
     ⟨some 10, .mv (.t 28), none, []⟩] none) <|
  .seq (.seq (.region [
      ⟨some 29, .mv (.t 10), none, []⟩] none) <|
   .cond (.t 29) (.seq (.region [
       ⟨some 6, .mv (.c (.nil)), none, []⟩,
       ⟨some 7, .mv (.c (.int .i64 46)), none, []⟩] none) <|
    .ret) <|
   .skip) <|
  .seq (.region [
     ⟨some 30, .mv (.t 0), none, []⟩,
     ⟨some 31, .call 29 [.t 30], none, []⟩,
     ⟨some 32, .mv (.t 9), none, []⟩,
     ⟨some 33, .mv (.t 1), none, []⟩,
     ⟨some 34, .mv (.t 2), none, []⟩,
     ⟨some 35, .build [.int .i64 0, .int .i64 0] [(0, 1, .t 33), (1, 1, .t 34)], none, []⟩,
     ⟨some 36, .lit true 2 60 [.t 35], none, []⟩,
     ⟨some 37, .call 28 [.t 31, .t 32, .t 36], none, []⟩,
     ⟨some 6, .mv (.t 37), none, []⟩,
     ⟨some 7, .mv (.c (.int .i64 0)), none, []⟩] none) <|
  .ret
abbrev n_manual_Take : Nat := 13
theorem b_manual_Take : bodyOf prog 13 [36, 1000000] = some (c_manual_Take, [.t 6, .t 7], 38) := by kernel_rfl

def c_ref38_Take : ACode :=
  .seq (.region [
     ⟨some 6, .mv (.c (.nil)), none, []⟩,
     ⟨some 7, .mv (.c (.int .i64 0)), none, []⟩] none) <|
  .seq (.block 0 <|
   .seq (.region [
      ⟨some 11, .mv (.t 0), none, []⟩,
      ⟨some 12, .call 11 [.t 11], none, []⟩,
      ⟨some 13, .bin .neq (.t 12) (.c (.int .i64 0)), none, []⟩,
      ⟨some 10, .mv (.t 13), none, []⟩] none) <|
   .cond (.t 10) (.seq (.region [
       ⟨some 6, .mv (.c (.nil)), none, []⟩,
       ⟨some 7, .mv (.c (.int .i64 53)), none, []⟩] none) <|
    .ret) <|
   .seq (.region [
      ⟨some 15, .mv (.t 1), none, []⟩,
      ⟨some 16, .bin .lss (.t 15) (.c (.int .i64 0)), none, []⟩,
      ⟨some 17, .mv (.t 16), none, []⟩,
      ⟨some 18, .mv (.t 1), some (17, false), []⟩,
      ⟨some 19, .bin .geq (.t 18) (.c (.int .i64 6)), some (17, false), []⟩,
      ⟨some 20, .pick (.t 17) (.c (.bool true)) (.t 19), none, []⟩,
      ⟨some 14, .mv (.t 20), none, []⟩] none) <|
   .cond (.t 14) (.seq (.region [
       ⟨some 6, .mv (.c (.nil)), none, []⟩,
       ⟨some 7, .mv (.c (.int .i64 40)), none, []⟩] none) <|
    .ret) <|
   .seq (.region [
      ⟨some 22, .mv (.t 2), none, []⟩,
      ⟨some 23, .bin .lss (.t 22) (.c (.int .i64 0)), none, []⟩,
      ⟨some 24, .mv (.t 23), none, []⟩,
      ⟨some 25, .mv (.t 2), some (24, false), []⟩,
      ⟨some 26, .bin .gtr (.t 25) (.c (.int .i64 16777216)), some (24, false), []⟩,
      ⟨some 27, .pick (.t 24) (.c (.bool true)) (.t 26), none, []⟩,
      ⟨some 21, .mv (.t 27), none, []⟩] none) <|
   .cond (.t 21) (.seq (.region [
       ⟨some 6, .mv (.c (.nil)), none, []⟩,
       ⟨some 7, .mv (.c (.int .i64 6)), none, []⟩] none) <|
    .ret) <|
   .seq (.region [
      ⟨some 29, .mv (.t 0), none, []⟩,
      ⟨some 30, .mv (.t 1), none, []⟩,
      ⟨some 31, .call 19 [.t 29, .t 30], none, []⟩,
      ⟨some 28, .mv (.t 31), none, []⟩] none) <|
   .cond (.t 28) (.seq (.region [
       ⟨some 6, .mv (.c (.nil)), none, []⟩,
       ⟨some 7, .mv (.c (.int .i64 46)), none, []⟩] none) <|
    .ret) <|
   .skip) <|
  .seq (.region [
     ⟨some 8, .mv (.c (.int .i64 0)), none, []⟩] none) <|
  .seq (.block 1 <|
   .loop <|
   .seq (.seq (.region [
       ⟨some 32, .mv (.t 8), none, []⟩,
       ⟨some 33, .mv (.t 0), none, []⟩,
       ⟨some 34, .len (.t 33), none, []⟩,
       ⟨some 35, .bin .lss (.t 32) (.t 34), none, []⟩,
       ⟨some 36, .mv (.t 35), none, []⟩,
       ⟨some 37, .mv (.t 0), some (36, true), []⟩,
       ⟨some 38, .mv (.t 8), some (36, true), []⟩,
       ⟨some 39, .ixs 2 (.t 37) (.t 38), some (36, true), []⟩,
       ⟨some 40, .fa 0 (.t 39), some (36, true), []⟩,
       ⟨some 41, .load false 1 (.t 40), some (36, true), []⟩,
       ⟨some 42, .mv (.t 1), some (36, true), []⟩,
       ⟨some 43, .bin .lss (.t 41) (.t 42), some (36, true), []⟩,
       ⟨some 44, .pick (.t 36) (.t 43) (.c (.bool false)), none, []⟩] none) <|
    .cond (.t 44) (.skip) <|
    .exit 1) <|
   .block 2 <|
   .region [
     ⟨some 45, .mv (.t 8), none, []⟩,
     ⟨some 46, .bin .add (.t 45) (.c (.int .i64 1)), none, []⟩,
     ⟨some 8, .mv (.t 46), none, []⟩] none) <|
  .seq (.region [
     ⟨some 9, .mv (.c (.nil)), none, []⟩] none) <|
  .seq (.region [
     ⟨some 47, .mv (.t 9), none, []⟩,
     ⟨some 48, .mv (.t 0), none, []⟩,
     ⟨some 49, .mv (.t 8), none, []⟩,
     ⟨some 50, .slc 2 (.t 48) none (some (.t 49)), none, []⟩,
     ⟨some 51, .app 2 16 60 (.t 47) (.t 50), none, []⟩,
     ⟨some 52, .mv (.t 1), none, []⟩,
     ⟨some 53, .mv (.t 2), none, []⟩,
     ⟨some 54, .build [.int .i64 0, .int .i64 0] [(0, 1, .t 52), (1, 1, .t 53)], none, []⟩,
     ⟨some 55, .lit false 2 60 [.t 54], none, []⟩,
     ⟨some 56, .app 2 16 60 (.t 51) (.t 55), none, []⟩,
     ⟨some 9, .mv (.t 56), none, []⟩] none) <|
  .seq (.region [
     ⟨some 57, .mv (.t 9), none, []⟩,
     ⟨some 58, .mv (.t 0), none, []⟩,
     ⟨some 59, .mv (.t 8), none, []⟩,
     ⟨some 60, .slc 2 (.t 58) (some (.t 59)) none, none, []⟩,
     ⟨some 61, .app 2 16 60 (.t 57) (.t 60), none, []⟩,
     ⟨some 6, .mv (.t 61), none, []⟩,
     ⟨some 7, .mv (.c (.int .i64 0)), none, []⟩] none) <|
  .ret
abbrev n_ref38_Take : Nat := 14
theorem b_ref38_Take : bodyOf prog 14 [1000000] = some (c_ref38_Take, [.t 6, .t 7], 62) := by kernel_rfl

def c_manual_Back : ACode :=
  .seq (.region [
     ⟨some 6, .mv (.c (.nil)), none, []⟩,
     ⟨some 7, .mv (.c (.int .i64 0)), none, []⟩,
     ⟨some 8, .mv (.c (.int .i64 0)), none, []⟩] none) <|
  .seq (.seq (.region [
      ⟨some 13, .mv (.t 0), none, []⟩,
      ⟨some 14, .mv (.t 1), none, []⟩,
      ⟨some 15, .call 26 [.t 13, .t 14], none, []⟩,
      ⟨some 9, .mv (.t 15), none, []⟩] none) <|
   .seq (.region [
      ⟨some 16, .mv (.t 9), none, []⟩,
      ⟨some 17, .bin .neq (.t 16) (.c (.int .i64 0)), none, []⟩] none) <|
   .cond (.t 17) (.seq (.region [
       ⟨some 18, .mv (.t 9), none, []⟩,
       ⟨some 6, .mv (.c (.nil)), none, []⟩,
       ⟨some 7, .mv (.c (.int .i64 0)), none, []⟩,
       ⟨some 8, .mv (.t 18), none, []⟩] none) <|
    .ret) <|
   .skip) <|
  .seq (.region [
     ⟨some 20, .mv (.t 0), none, []⟩,
     ⟨some 21, .mv (.t 1), none, []⟩,
     ⟨some 22, .call 27 [.t 20, .t 21], none, []⟩,
     ⟨some 19, .mv (.t 22), none, []⟩,
     ⟨some 23, .ext (.t 19) 0, none, []⟩,
     ⟨some 24, .ext (.t 19) 1, none, []⟩,
     ⟨some 10, .mv (.t 23), none, []⟩,
     ⟨some 11, .mv (.t 24), none, []⟩] none) <|
  .seq (.seq (.region [
      ⟨some 25, .mv (.t 11), none, []⟩,
      ⟨some 26, .un .not (.t 25), none, []⟩] none) <|
   .cond (.t 26) (.seq (.region [
       ⟨some 6, .mv (.c (.nil)), none, []⟩,
       ⟨some 7, .mv (.c (.int .i64 0)), none, []⟩,
       ⟨some 8, .mv (.c (.int .i64 9)), none, []⟩] none) <|
    .ret) <|
   .skip) <|
  .seq (.region [
     ⟨some 27, .mv (.t 0), none, []⟩,
     ⟨some 28, .mv (.t 10), none, []⟩,
     ⟨some 29, .ixs 2 (.t 27) (.t 28), none, []⟩,
     ⟨some 30, .fa 1 (.t 29), none, []⟩,
     ⟨some 31, .load false 1 (.t 30), none, []⟩,
     ⟨some 12, .mv (.t 31), none, []⟩] none) <|
  .seq (.seq (.region [
      ⟨some 32, .mv (.t 2), none, []⟩,
      ⟨some 33, .mv (.t 12), none, []⟩,
      ⟨some 34, .bin .lss (.t 32) (.t 33), none, []⟩,
      ⟨some 35, .mv (.t 34), none, []⟩,
      ⟨some 36, .mv (.t 2), some (35, false), []⟩,
      ⟨some 37, .bin .gtr (.t 36) (.c (.int .i64 16777216)), some (35, false), []⟩,
      ⟨some 38, .pick (.t 35) (.c (.bool true)) (.t 37), none, []⟩] none) <|
   .cond (.t 38) (.seq (.region [
       ⟨some 6, .mv (.c (.nil)), none, []⟩,
       ⟨some 7, .mv (.c (.int .i64 0)), none, []⟩,
       ⟨some 8, .mv (.c (.int .i64 6)), none, []⟩] none) <|
    .ret) <|
   .skip) <|
  .seq (.region [
     ⟨some 39, .mv (.t 0), none, []⟩,
     ⟨some 40, .call 29 [.t 39], none, []⟩,
     ⟨some 41, .mv (.t 10), none, []⟩,
     ⟨some 42, .mv (.t 10), none, []⟩,
     ⟨some 43, .bin .add (.t 42) (.c (.int .i64 1)), none, []⟩,
     ⟨some 44, .call 30 [.t 40, .t 41, .t 43], none, []⟩,
     ⟨some 45, .mv (.t 12), none, []⟩,
     ⟨some 6, .mv (.t 44), none, []⟩,
     ⟨some 7, .mv (.t 45), none, []⟩,
     ⟨some 8, .mv (.c (.int .i64 0)), none, []⟩] none) <|
  .ret
abbrev n_manual_Back : Nat := 15
theorem b_manual_Back : bodyOf prog 15 [1000000] = some (c_manual_Back, [.t 6, .t 7, .t 8], 46) := by kernel_rfl

def c_ref38_Back : ACode :=
  .seq (.region [
     ⟨some 6, .mv (.c (.nil)), none, []⟩,
     ⟨some 7, .mv (.c (.int .i64 0)), none, []⟩,
     ⟨some 8, .mv (.c (.int .i64 0)), none, []⟩] none) <|
  .seq (.seq (.region [
      ⟨some 13, .mv (.t 0), none, []⟩,
      ⟨some 14, .call 11 [.t 13], none, []⟩,
      ⟨some 15, .bin .neq (.t 14) (.c (.int .i64 0)), none, []⟩] none) <|
   .cond (.t 15) (.seq (.region [
       ⟨some 6, .mv (.c (.nil)), none, []⟩,
       ⟨some 7, .mv (.c (.int .i64 0)), none, []⟩,
       ⟨some 8, .mv (.c (.int .i64 53)), none, []⟩] none) <|
    .ret) <|
   .skip) <|
  .seq (.seq (.region [
      ⟨some 16, .mv (.t 1), none, []⟩,
      ⟨some 17, .bin .lss (.t 16) (.c (.int .i64 0)), none, []⟩,
      ⟨some 18, .mv (.t 17), none, []⟩,
      ⟨some 19, .mv (.t 1), some (18, false), []⟩,
      ⟨some 20, .bin .geq (.t 19) (.c (.int .i64 6)), some (18, false), []⟩,
      ⟨some 21, .pick (.t 18) (.c (.bool true)) (.t 20), none, []⟩] none) <|
   .cond (.t 21) (.seq (.region [
       ⟨some 6, .mv (.c (.nil)), none, []⟩,
       ⟨some 7, .mv (.c (.int .i64 0)), none, []⟩,
       ⟨some 8, .mv (.c (.int .i64 40)), none, []⟩] none) <|
    .ret) <|
   .skip) <|
  .seq (.region [
     ⟨some 9, .mv (.c (.nil)), none, []⟩] none) <|
  .seq (.region [
     ⟨some 10, .mv (.c (.int .i64 (-1))), none, []⟩] none) <|
  .seq (.seq (.region [
      ⟨some 22, .mv (.t 0), none, []⟩,
      ⟨some 23, .len (.t 22), none, []⟩,
      ⟨some 24, .mv (.c (.int .i64 0)), none, []⟩] none) <|
   .block 0 <|
   .loop <|
   .seq (.region [
      ⟨some 25, .bin .lss (.t 24) (.t 23), none, []⟩] none) <|
   .seq (.cond (.t 25) (.skip) <|
    .exit 0) <|
   .seq (.block 1 <|
    .seq (.region [
       ⟨some 26, .ixs 2 (.t 22) (.t 24), none, []⟩,
       ⟨some 27, .load true 2 (.t 26), none, []⟩,
       ⟨some 12, .alloc 2 60 (.agg [.int .i64 0, .int .i64 0]), none, []⟩,
       ⟨none, .store 2 (.t 12) (.t 27), none, []⟩] none) <|
    .seq (.region [
       ⟨some 28, .fa 0 (.t 12), none, []⟩,
       ⟨some 29, .load false 1 (.t 28), none, []⟩,
       ⟨some 30, .mv (.t 1), none, []⟩,
       ⟨some 31, .bin .eql (.t 29) (.t 30), none, []⟩] none) <|
    .cond (.t 31) (.region [
       ⟨some 32, .fa 1 (.t 12), none, []⟩,
       ⟨some 33, .load false 1 (.t 32), none, []⟩,
       ⟨some 10, .mv (.t 33), none, []⟩] none) <|
    .region [
      ⟨some 34, .mv (.t 9), none, []⟩,
      ⟨some 35, .load true 2 (.t 12), none, []⟩,
      ⟨some 36, .lit false 2 60 [.t 35], none, []⟩,
      ⟨some 37, .app 2 16 60 (.t 34) (.t 36), none, []⟩,
      ⟨some 9, .mv (.t 37), none, []⟩] none) <|
   .region [
     ⟨some 38, .bin .add (.t 24) (.c (.int .i64 1)), none, []⟩,
     ⟨some 24, .mv (.t 38), none, []⟩] none) <|
  .seq (.seq (.region [
      ⟨some 39, .mv (.t 10), none, []⟩,
      ⟨some 40, .bin .lss (.t 39) (.c (.int .i64 0)), none, []⟩] none) <|
   .cond (.t 40) (.seq (.region [
       ⟨some 6, .mv (.c (.nil)), none, []⟩,
       ⟨some 7, .mv (.c (.int .i64 0)), none, []⟩,
       ⟨some 8, .mv (.c (.int .i64 9)), none, []⟩] none) <|
    .ret) <|
   .skip) <|
  .seq (.seq (.region [
      ⟨some 41, .mv (.t 2), none, []⟩,
      ⟨some 42, .mv (.t 10), none, []⟩,
      ⟨some 43, .bin .lss (.t 41) (.t 42), none, []⟩,
      ⟨some 44, .mv (.t 43), none, []⟩,
      ⟨some 45, .mv (.t 2), some (44, false), []⟩,
      ⟨some 46, .bin .gtr (.t 45) (.c (.int .i64 16777216)), some (44, false), []⟩,
      ⟨some 47, .pick (.t 44) (.c (.bool true)) (.t 46), none, []⟩] none) <|
   .cond (.t 47) (.seq (.region [
       ⟨some 6, .mv (.c (.nil)), none, []⟩,
       ⟨some 7, .mv (.c (.int .i64 0)), none, []⟩,
       ⟨some 8, .mv (.c (.int .i64 6)), none, []⟩] none) <|
    .ret) <|
   .skip) <|
  .seq (.region [
     ⟨some 48, .mv (.t 9), none, []⟩,
     ⟨some 49, .mv (.t 10), none, []⟩,
     ⟨some 6, .mv (.t 48), none, []⟩,
     ⟨some 7, .mv (.t 49), none, []⟩,
     ⟨some 8, .mv (.c (.int .i64 0)), none, []⟩] none) <|
  .ret
abbrev n_ref38_Back : Nat := 16
theorem b_ref38_Back : bodyOf prog 16 [1000000] = some (c_ref38_Back, [.t 6, .t 7, .t 8], 50) := by kernel_rfl

def c_ref38_SameHands : ACode :=
  .seq (.region [
     ⟨some 4, .mv (.c (.bool false)), none, []⟩] none) <|
  .seq (.seq (.region [
      ⟨some 6, .mv (.t 0), none, []⟩,
      ⟨some 7, .len (.t 6), none, []⟩,
      ⟨some 8, .mv (.t 1), none, []⟩,
      ⟨some 9, .len (.t 8), none, []⟩,
      ⟨some 10, .bin .neq (.t 7) (.t 9), none, []⟩] none) <|
   .cond (.t 10) (.seq (.region [
       ⟨some 4, .mv (.c (.bool false)), none, []⟩] none) <|
    .ret) <|
   .skip) <|
  .seq (.seq (.region [
      ⟨some 11, .mv (.t 0), none, []⟩,
      ⟨some 12, .len (.t 11), none, []⟩,
      ⟨some 13, .mv (.c (.int .i64 0)), none, []⟩] none) <|
   .block 0 <|
   .loop <|
   .seq (.region [
      ⟨some 14, .bin .lss (.t 13) (.t 12), none, []⟩] none) <|
   .seq (.cond (.t 14) (.skip) <|
    .exit 0) <|
   .seq (.block 1 <|
    .seq (.region [
       ⟨some 15, .mv (.t 13), none, []⟩,
       ⟨some 5, .mv (.t 15), none, []⟩] none) <|
    .seq (.hregion [
       ⟨5, ⟨some 21, .mv (.t 5), none, []⟩⟩,
       ⟨4, ⟨some 20, .mv (.t 1), none, []⟩⟩,
       ⟨6, ⟨some 22, .ixs 2 (.t 20) (.t 21), none, [4, 5]⟩⟩,
       ⟨7, ⟨some 23, .load true 2 (.t 22), none, [6, 4, 5]⟩⟩,
       ⟨1, ⟨some 17, .mv (.t 5), none, []⟩⟩,
       ⟨0, ⟨some 16, .mv (.t 0), none, []⟩⟩,
       ⟨2, ⟨some 18, .ixs 2 (.t 16) (.t 17), none, [0, 1]⟩⟩,
       ⟨3, ⟨some 19, .load true 2 (.t 18), none, [2, 0, 1]⟩⟩,
       ⟨8, ⟨some 24, .eqs true [0, 0] (.t 19) (.t 23), none, [3, 7, 2, 0, 1, 6, 4, 5]⟩⟩]) <|
    .cond (.t 24) (.seq (.region [
        ⟨some 4, .mv (.c (.bool false)), none, []⟩] none) <|
     .ret) <|
    .skip) <|
   .region [
     ⟨some 25, .bin .add (.t 13) (.c (.int .i64 1)), none, []⟩,
     ⟨some 13, .mv (.t 25), none, []⟩] none) <|
  .seq (.region [
     ⟨some 4, .mv (.c (.bool true)), none, []⟩] none) <|
  .ret
abbrev n_ref38_SameHands : Nat := 17
theorem b_ref38_SameHands : bodyOf prog 17 [1000000] = some (c_ref38_SameHands, [.t 4], 26) := by kernel_rfl

def c_manual_By : ACode :=
  .seq (.region [
     ⟨some 4, .mv (.c (.bool false)), none, []⟩] none) <|
  .seq (.seq (.region [
      ⟨some 7, .mv (.t 0), none, []⟩,
      ⟨some 8, .mv (.t 1), none, []⟩,
      ⟨some 9, .call 26 [.t 7, .t 8], none, []⟩,
      ⟨some 10, .bin .neq (.t 9) (.c (.int .i64 0)), none, []⟩] none) <|
   .cond (.t 10) (.seq (.region [
       ⟨some 4, .mv (.c (.bool false)), none, []⟩] none) <|
    .ret) <|
   .skip) <|
  .seq (.region [
     ⟨some 12, .mv (.t 0), none, []⟩,
     ⟨some 13, .mv (.t 1), none, []⟩,
     ⟨some 14, .call 27 [.t 12, .t 13], none, []⟩,
     ⟨some 11, .mv (.t 14), none, []⟩,
     ⟨some 15, .ext (.t 11) 0, none, []⟩,
     ⟨some 16, .ext (.t 11) 1, none, []⟩,
     ⟨some 5, .mv (.t 15), none, []⟩,
     ⟨some 6, .mv (.t 16), none, []⟩] none) <|
  .seq (.region [
     ⟨some 17, .mv (.t 6), none, []⟩,
     ⟨some 4, .mv (.t 17), none, []⟩] none) <|
  .ret
abbrev n_manual_By : Nat := 18
theorem b_manual_By : bodyOf prog 18 [1000000] = some (c_manual_By, [.t 4], 18) := by kernel_rfl

def c_ref38_By : ACode :=
  .seq (.region [
     ⟨some 4, .mv (.c (.bool false)), none, []⟩] none) <|
  .seq (.seq (.region [
      ⟨some 7, .mv (.t 0), none, []⟩,
      ⟨some 8, .call 11 [.t 7], none, []⟩,
      ⟨some 9, .bin .neq (.t 8) (.c (.int .i64 0)), none, []⟩] none) <|
   .cond (.t 9) (.seq (.region [
       ⟨some 4, .mv (.c (.bool false)), none, []⟩] none) <|
    .ret) <|
   .skip) <|
  .seq (.seq (.region [
      ⟨some 10, .mv (.t 0), none, []⟩,
      ⟨some 11, .len (.t 10), none, []⟩,
      ⟨some 12, .mv (.c (.int .i64 0)), none, []⟩] none) <|
   .block 0 <|
   .loop <|
   .seq (.region [
      ⟨some 13, .bin .lss (.t 12) (.t 11), none, []⟩] none) <|
   .seq (.cond (.t 13) (.skip) <|
    .exit 0) <|
   .seq (.block 1 <|
    .seq (.region [
       ⟨some 14, .ixs 2 (.t 10) (.t 12), none, []⟩,
       ⟨some 15, .load true 2 (.t 14), none, []⟩,
       ⟨some 6, .alloc 2 60 (.agg [.int .i64 0, .int .i64 0]), none, []⟩,
       ⟨none, .store 2 (.t 6) (.t 15), none, []⟩] none) <|
    .seq (.region [
       ⟨some 16, .fa 0 (.t 6), none, []⟩,
       ⟨some 17, .load false 1 (.t 16), none, []⟩,
       ⟨some 18, .mv (.t 1), none, []⟩,
       ⟨some 19, .bin .eql (.t 17) (.t 18), none, []⟩] none) <|
    .cond (.t 19) (.seq (.region [
        ⟨some 4, .mv (.c (.bool true)), none, []⟩] none) <|
     .ret) <|
    .skip) <|
   .region [
     ⟨some 20, .bin .add (.t 12) (.c (.int .i64 1)), none, []⟩,
     ⟨some 12, .mv (.t 20), none, []⟩] none) <|
  .seq (.region [
     ⟨some 4, .mv (.c (.bool false)), none, []⟩] none) <|
  .ret
abbrev n_ref38_By : Nat := 19
theorem b_ref38_By : bodyOf prog 19 [1000000] = some (c_ref38_By, [.t 4], 21) := by kernel_rfl

def c_manual_Reports : ACode :=
  .seq (.region [
     ⟨some 12, .mv (.c (.nil)), none, []⟩,
     ⟨some 13, .mv (.c (.int .i64 0)), none, []⟩] none) <|
  .seq (.region [
     ⟨some 18, .mv (.t 4), none, []⟩,
     ⟨some 19, .len (.t 18), none, []⟩,
     ⟨some 14, .mv (.t 19), none, []⟩] none) <|
  .seq (.block 0 <|
   .seq (.region [
      ⟨some 21, .mv (.t 0), none, []⟩,
      ⟨some 22, .bin .lss (.t 21) (.c (.int .i64 0)), none, []⟩,
      ⟨some 23, .mv (.t 22), none, []⟩,
      ⟨some 24, .mv (.t 1), some (23, false), []⟩,
      ⟨some 25, .bin .lss (.t 24) (.c (.int .i64 0)), some (23, false), []⟩,
      ⟨some 26, .pick (.t 23) (.c (.bool true)) (.t 25), none, []⟩,
      ⟨some 20, .mv (.t 26), none, []⟩] none) <|
   .cond (.t 20) (.seq (.region [
       ⟨some 12, .mv (.c (.nil)), none, []⟩,
       ⟨some 13, .mv (.c (.int .i64 1)), none, []⟩] none) <|
    .ret) <|
   .seq (.region [
      ⟨some 28, .mv (.t 14), none, []⟩,
      ⟨some 29, .bin .gtr (.t 28) (.c (.int .i64 400)), none, []⟩,
      ⟨some 30, .mv (.t 29), none, []⟩,
      ⟨some 31, .mv (.t 14), some (30, false), []⟩,
      ⟨some 32, .bin .gtr (.t 31) (.c (.int .i64 0)), some (30, false), []⟩,
      ⟨some 33, .mv (.t 32), some (30, false), []⟩,
      ⟨some 34, .mv (.t 0), some (33, true), []⟩,
      ⟨some 35, .mv (.t 14), some (33, true), []⟩,
      ⟨some 36, .bin .sub (.c (.int .i64 1073741824)) (.t 35), some (33, true), []⟩,
      ⟨some 37, .bin .add (.t 36) (.c (.int .i64 1)), some (33, true), []⟩,
      ⟨some 38, .bin .gtr (.t 34) (.t 37), some (33, true), []⟩,
      ⟨some 39, .pick (.t 33) (.t 38) (.c (.bool false)), some (30, false), []⟩,
      ⟨some 40, .pick (.t 30) (.c (.bool true)) (.t 39), none, []⟩,
      ⟨some 27, .mv (.t 40), none, []⟩] none) <|
   .cond (.t 27) (.seq (.region [
       ⟨some 12, .mv (.c (.nil)), none, []⟩,
       ⟨some 13, .mv (.c (.int .i64 10)), none, []⟩] none) <|
    .ret) <|
   .seq (.region [
      ⟨some 42, .mv (.t 3), none, []⟩,
      ⟨some 43, .bin .lss (.t 42) (.c (.int .i64 0)), none, []⟩,
      ⟨some 44, .mv (.t 43), none, []⟩,
      ⟨some 45, .mv (.t 14), some (44, false), []⟩,
      ⟨some 46, .bin .gtr (.t 45) (.c (.int .i64 0)), some (44, false), []⟩,
      ⟨some 47, .mv (.t 46), some (44, false), []⟩,
      ⟨some 48, .mv (.t 3), some (47, true), []⟩,
      ⟨some 49, .mv (.t 14), some (47, true), []⟩,
      ⟨some 50, .bin .sub (.c (.int .i64 16777216)) (.t 49), some (47, true), []⟩,
      ⟨some 51, .bin .add (.t 50) (.c (.int .i64 1)), some (47, true), []⟩,
      ⟨some 52, .bin .gtr (.t 48) (.t 51), some (47, true), []⟩,
      ⟨some 53, .pick (.t 47) (.t 52) (.c (.bool false)), some (44, false), []⟩,
      ⟨some 54, .pick (.t 44) (.c (.bool true)) (.t 53), none, []⟩,
      ⟨some 41, .mv (.t 54), none, []⟩] none) <|
   .cond (.t 41) (.seq (.region [
       ⟨some 12, .mv (.c (.nil)), none, []⟩,
       ⟨some 13, .mv (.c (.int .i64 6)), none, []⟩] none) <|
    .ret) <|
   .seq (.region [
      ⟨some 56, .mv (.t 5), none, []⟩,
      ⟨some 57, .bin .lss (.t 56) (.c (.int .i64 0)), none, []⟩,
      ⟨some 58, .mv (.t 57), none, []⟩,
      ⟨some 59, .mv (.t 5), some (58, false), []⟩,
      ⟨some 60, .bin .gtr (.t 59) (.c (.int .i64 274877906944)), some (58, false), []⟩,
      ⟨some 61, .pick (.t 58) (.c (.bool true)) (.t 60), none, []⟩,
      ⟨some 62, .mv (.t 61), none, []⟩,
      ⟨some 63, .mv (.t 4), some (62, false), []⟩,
      ⟨some 64, .call 31 [.t 63, .c (.func 32 [])], some (62, false), []⟩,
      ⟨some 65, .pick (.t 62) (.c (.bool true)) (.t 64), none, []⟩,
      ⟨some 55, .mv (.t 65), none, []⟩] none) <|
   .cond (.t 55) (.seq (.region [
       ⟨some 12, .mv (.c (.nil)), none, []⟩,
       ⟨some 13, .mv (.c (.int .i64 1)), none, []⟩] none) <|
    .ret) <|
   .skip) <|
  .seq (.region [
     ⟨some 15, .mv (.c (.nil)), none, []⟩] none) <|
  .seq (.seq (.region [
      ⟨some 66, .mv (.t 4), none, []⟩,
      ⟨some 67, .len (.t 66), none, []⟩,
      ⟨some 68, .mv (.c (.int .i64 0)), none, []⟩] none) <|
   .block 1 <|
   .loop <|
   .seq (.region [
      ⟨some 69, .bin .lss (.t 68) (.t 67), none, []⟩] none) <|
   .seq (.cond (.t 69) (.skip) <|
    .exit 1) <|
   .seq (.block 2 <|
    .seq (.region [
       ⟨some 70, .mv (.t 68), none, []⟩,
       ⟨some 71, .ixs 1 (.t 66) (.t 68), none, []⟩,
       ⟨some 72, .load false 1 (.t 71), none, []⟩,
       ⟨some 16, .mv (.t 70), none, []⟩,
       ⟨some 17, .mv (.t 72), none, []⟩] none) <|
    .region [
      ⟨some 73, .mv (.t 15), none, []⟩,
      ⟨some 74, .mv (.t 0), none, []⟩,
      ⟨some 75, .mv (.t 16), none, []⟩,
      ⟨some 76, .bin .add (.t 74) (.t 75), none, []⟩,
      ⟨some 77, .mv (.t 1), none, []⟩,
      ⟨some 78, .mv (.t 2), none, []⟩,
      ⟨some 79, .mv (.t 3), none, []⟩,
      ⟨some 80, .mv (.t 16), none, []⟩,
      ⟨some 81, .bin .add (.t 79) (.t 80), none, []⟩,
      ⟨some 82, .mv (.t 17), none, []⟩,
      ⟨some 83, .mv (.t 5), none, []⟩,
      ⟨some 84, .bin .sub (.t 82) (.t 83), none, []⟩,
      ⟨some 85, .mnx true (.c (.int .i64 0)) [.t 84], none, []⟩,
      ⟨some 86, .mv (.t 17), none, []⟩,
      ⟨some 87, .mv (.t 5), none, []⟩,
      ⟨some 88, .bin .add (.t 86) (.t 87), none, []⟩,
      ⟨some 89, .mnx false (.c (.int .i64 274877906944)) [.t 88], none, []⟩,
      ⟨some 90, .build [.int .i64 0, .int .i64 0] [(0, 1, .t 85), (1, 1, .t 89)], none, []⟩,
      ⟨some 91, .build [.int .i64 0, .int .i64 0, .int .i64 0, .int .i64 0, .int .i64 0, .int .i64 0] [(0, 1, .t 76), (1, 1, .t 77), (2, 1, .t 78), (3, 1, .t 81), (4, 2, .t 90)], none, []⟩,
      ⟨some 92, .lit false 6 47 [.t 91], none, []⟩,
      ⟨some 93, .app 6 48 47 (.t 73) (.t 92), none, []⟩,
      ⟨some 15, .mv (.t 93), none, []⟩] none) <|
   .region [
     ⟨some 94, .bin .add (.t 68) (.c (.int .i64 1)), none, []⟩,
     ⟨some 68, .mv (.t 94), none, []⟩] none) <|
  .seq (.region [
     ⟨some 95, .mv (.t 15), none, []⟩,
     ⟨some 12, .mv (.t 95), none, []⟩,
     ⟨some 13, .mv (.c (.int .i64 0)), none, []⟩] none) <|
  .ret
abbrev n_manual_Reports : Nat := 20
theorem b_manual_Reports : bodyOf prog 20 [1000000] = some (c_manual_Reports, [.t 12, .t 13], 96) := by kernel_rfl

def c_mk_Deck_Next : ACode :=
  .seq (.region [
     ⟨some 4, .mv (.c (.int .i64 0)), none, []⟩] none) <|
  .seq (.seq (.region [
      ⟨some 6, .mv (.t 1), none, []⟩,
      ⟨some 7, .bin .lss (.t 6) (.c (.int .i64 1)), none, [0]⟩,
      ⟨some 8, .mv (.t 7), none, [1, 0]⟩,
      ⟨some 9, .mv (.t 0), some (8, false), [2, 1, 0]⟩,
      ⟨some 10, .nilchk (.t 9), some (8, false), [3, 2, 1, 0]⟩,
      ⟨some 11, .fa 1 (.t 10), some (8, false), [4, 2, 3, 1, 0]⟩,
      ⟨some 12, .load false 1 (.t 11), some (8, false), [5, 2, 4, 3, 1, 0]⟩,
      ⟨some 13, .mv (.t 0), some (8, false), [2, 1, 0]⟩,
      ⟨some 14, .nilchk (.t 13), some (8, false), [7, 2, 1, 0]⟩,
      ⟨some 15, .fa 0 (.t 14), some (8, false), [8, 2, 7, 1, 0]⟩,
      ⟨some 16, .load false 1 (.t 15), some (8, false), [9, 2, 8, 7, 1, 0]⟩,
      ⟨some 17, .len (.t 16), some (8, false), [10, 2, 9, 8, 7, 1, 0]⟩,
      ⟨some 18, .bin .geq (.t 12) (.t 17), some (8, false), [6, 11, 2, 5, 4, 3, 1, 0, 10, 9, 8, 7]⟩,
      ⟨some 19, .pick (.t 8) (.c (.bool true)) (.t 18), none, [2, 12, 1, 0, 6, 11, 5, 4, 3, 10, 9, 8, 7]⟩] (some 0)) <|
   .cond (.t 19) (.seq (.region [
       ⟨some 4, .mv (.c (.int .i64 0)), none, []⟩] none) <|
    .ret) <|
   .skip) <|
  .seq (.region [
     ⟨some 20, .mv (.t 0), none, []⟩,
     ⟨some 21, .nilchk (.t 20), none, [0]⟩,
     ⟨some 22, .fa 0 (.t 21), none, [1, 0]⟩,
     ⟨some 23, .load false 1 (.t 22), none, [2, 1, 0]⟩,
     ⟨some 24, .mv (.t 0), none, []⟩,
     ⟨some 25, .nilchk (.t 24), none, [4]⟩,
     ⟨some 26, .fa 1 (.t 25), none, [5, 4]⟩,
     ⟨some 27, .load false 1 (.t 26), none, [6, 5, 4]⟩,
     ⟨some 28, .ixs 1 (.t 23) (.t 27), none, [3, 7, 2, 1, 0, 6, 5, 4]⟩,
     ⟨some 29, .load false 1 (.t 28), none, [8, 3, 7, 2, 1, 0, 6, 5, 4]⟩,
     ⟨some 5, .mv (.t 29), none, [9, 0, 1, 2, 3, 4, 5, 6, 7, 8]⟩] (some 0)) <|
  .seq (.region [
     ⟨some 30, .mv (.t 0), none, []⟩,
     ⟨some 31, .nilchk (.t 30), none, []⟩,
     ⟨some 32, .fa 1 (.t 31), none, []⟩,
     ⟨some 33, .load false 1 (.t 32), none, []⟩,
     ⟨some 34, .bin .add (.t 33) (.c (.int .i64 1)), none, []⟩,
     ⟨some 35, .nilchk (.t 30), none, []⟩,
     ⟨some 36, .fa 1 (.t 35), none, []⟩,
     ⟨none, .store 1 (.t 36) (.t 34), none, []⟩] none) <|
  .seq (.region [
     ⟨some 37, .mv (.t 5), none, []⟩,
     ⟨some 38, .mv (.t 1), none, []⟩,
     ⟨some 39, .call 12 [.t 37, .t 38], none, []⟩,
     ⟨some 4, .mv (.t 39), none, []⟩] none) <|
  .ret
abbrev n_mk_Deck_Next : Nat := 21
theorem b_mk_Deck_Next : bodyOf prog 21 [] = some (c_mk_Deck_Next, [.t 4], 40) := by kernel_rfl

def c_ref38_Reports : ACode :=
  .seq (.region [
     ⟨some 12, .mv (.c (.nil)), none, []⟩,
     ⟨some 13, .mv (.c (.int .i64 0)), none, []⟩] none) <|
  .seq (.seq (.region [
      ⟨some 18, .mv (.t 0), none, []⟩,
      ⟨some 19, .bin .lss (.t 18) (.c (.int .i64 0)), none, []⟩,
      ⟨some 20, .mv (.t 19), none, []⟩,
      ⟨some 21, .mv (.t 1), some (20, false), []⟩,
      ⟨some 22, .bin .lss (.t 21) (.c (.int .i64 0)), some (20, false), []⟩,
      ⟨some 23, .pick (.t 20) (.c (.bool true)) (.t 22), none, []⟩] none) <|
   .cond (.t 23) (.seq (.region [
       ⟨some 12, .mv (.c (.nil)), none, []⟩,
       ⟨some 13, .mv (.c (.int .i64 1)), none, []⟩] none) <|
    .ret) <|
   .skip) <|
  .seq (.region [
     ⟨some 24, .mv (.t 4), none, []⟩,
     ⟨some 25, .len (.t 24), none, []⟩,
     ⟨some 14, .mv (.t 25), none, []⟩] none) <|
  .seq (.seq (.region [
      ⟨some 26, .mv (.t 14), none, []⟩,
      ⟨some 27, .bin .gtr (.t 26) (.c (.int .i64 400)), none, []⟩,
      ⟨some 28, .mv (.t 27), none, []⟩,
      ⟨some 29, .mv (.t 14), some (28, false), []⟩,
      ⟨some 30, .bin .gtr (.t 29) (.c (.int .i64 0)), some (28, false), []⟩,
      ⟨some 31, .mv (.t 30), some (28, false), []⟩,
      ⟨some 32, .mv (.t 0), some (31, true), []⟩,
      ⟨some 33, .mv (.t 14), some (31, true), []⟩,
      ⟨some 34, .bin .sub (.t 33) (.c (.int .i64 1)), some (31, true), []⟩,
      ⟨some 35, .bin .sub (.c (.int .i64 1073741824)) (.t 34), some (31, true), []⟩,
      ⟨some 36, .bin .gtr (.t 32) (.t 35), some (31, true), []⟩,
      ⟨some 37, .pick (.t 31) (.t 36) (.c (.bool false)), some (28, false), []⟩,
      ⟨some 38, .pick (.t 28) (.c (.bool true)) (.t 37), none, []⟩] none) <|
   .cond (.t 38) (.seq (.region [
       ⟨some 12, .mv (.c (.nil)), none, []⟩,
       ⟨some 13, .mv (.c (.int .i64 10)), none, []⟩] none) <|
    .ret) <|
   .skip) <|
  .seq (.seq (.region [
      ⟨some 39, .mv (.t 3), none, []⟩,
      ⟨some 40, .bin .lss (.t 39) (.c (.int .i64 0)), none, []⟩,
      ⟨some 41, .mv (.t 40), none, []⟩,
      ⟨some 42, .mv (.t 14), some (41, false), []⟩,
      ⟨some 43, .bin .gtr (.t 42) (.c (.int .i64 0)), some (41, false), []⟩,
      ⟨some 44, .mv (.t 43), some (41, false), []⟩,
      ⟨some 45, .mv (.t 3), some (44, true), []⟩,
      ⟨some 46, .mv (.t 14), some (44, true), []⟩,
      ⟨some 47, .bin .sub (.t 46) (.c (.int .i64 1)), some (44, true), []⟩,
      ⟨some 48, .bin .sub (.c (.int .i64 16777216)) (.t 47), some (44, true), []⟩,
      ⟨some 49, .bin .gtr (.t 45) (.t 48), some (44, true), []⟩,
      ⟨some 50, .pick (.t 44) (.t 49) (.c (.bool false)), some (41, false), []⟩,
      ⟨some 51, .pick (.t 41) (.c (.bool true)) (.t 50), none, []⟩] none) <|
   .cond (.t 51) (.seq (.region [
       ⟨some 12, .mv (.c (.nil)), none, []⟩,
       ⟨some 13, .mv (.c (.int .i64 6)), none, []⟩] none) <|
    .ret) <|
   .skip) <|
  .seq (.seq (.region [
      ⟨some 52, .mv (.t 5), none, []⟩,
      ⟨some 53, .bin .lss (.t 52) (.c (.int .i64 0)), none, []⟩,
      ⟨some 54, .mv (.t 53), none, []⟩,
      ⟨some 55, .mv (.t 5), some (54, false), []⟩,
      ⟨some 56, .bin .gtr (.t 55) (.c (.int .i64 274877906944)), some (54, false), []⟩,
      ⟨some 57, .pick (.t 54) (.c (.bool true)) (.t 56), none, []⟩] none) <|
   .cond (.t 57) (.seq (.region [
       ⟨some 12, .mv (.c (.nil)), none, []⟩,
       ⟨some 13, .mv (.c (.int .i64 1)), none, []⟩] none) <|
    .ret) <|
   .skip) <|
  .seq (.region [
     ⟨some 15, .mv (.c (.nil)), none, []⟩] none) <|
  .seq (.seq (.region [
      ⟨some 58, .mv (.t 4), none, []⟩,
      ⟨some 59, .len (.t 58), none, []⟩,
      ⟨some 60, .mv (.c (.int .i64 0)), none, []⟩] none) <|
   .block 0 <|
   .loop <|
   .seq (.region [
      ⟨some 61, .bin .lss (.t 60) (.t 59), none, []⟩] none) <|
   .seq (.cond (.t 61) (.skip) <|
    .exit 0) <|
   .seq (.block 1 <|
    .seq (.region [
       ⟨some 62, .mv (.t 60), none, []⟩,
       ⟨some 63, .ixs 1 (.t 58) (.t 60), none, []⟩,
       ⟨some 64, .load false 1 (.t 63), none, []⟩,
       ⟨some 16, .mv (.t 62), none, []⟩,
       ⟨some 17, .mv (.t 64), none, []⟩] none) <|
    .seq (.seq (.region [
        ⟨some 65, .mv (.t 17), none, []⟩,
        ⟨some 66, .bin .lss (.t 65) (.c (.int .i64 0)), none, []⟩,
        ⟨some 67, .mv (.t 66), none, []⟩,
        ⟨some 68, .mv (.t 17), some (67, false), []⟩,
        ⟨some 69, .bin .gtr (.t 68) (.c (.int .i64 274877906944)), some (67, false), []⟩,
        ⟨some 70, .pick (.t 67) (.c (.bool true)) (.t 69), none, []⟩] none) <|
     .cond (.t 70) (.seq (.region [
         ⟨some 12, .mv (.c (.nil)), none, []⟩,
         ⟨some 13, .mv (.c (.int .i64 1)), none, []⟩] none) <|
      .ret) <|
     .skip) <|
    .region [
      ⟨some 71, .mv (.t 15), none, []⟩,
      ⟨some 72, .mv (.t 0), none, []⟩,
      ⟨some 73, .mv (.t 16), none, []⟩,
      ⟨some 74, .bin .add (.t 72) (.t 73), none, []⟩,
      ⟨some 75, .mv (.t 1), none, []⟩,
      ⟨some 76, .mv (.t 2), none, []⟩,
      ⟨some 77, .mv (.t 3), none, []⟩,
      ⟨some 78, .mv (.t 16), none, []⟩,
      ⟨some 79, .bin .add (.t 77) (.t 78), none, []⟩,
      ⟨some 80, .mv (.t 17), none, []⟩,
      ⟨some 81, .mv (.t 5), none, []⟩,
      ⟨some 82, .bin .sub (.t 80) (.t 81), none, []⟩,
      ⟨some 83, .mnx true (.c (.int .i64 0)) [.t 82], none, []⟩,
      ⟨some 84, .mv (.t 17), none, []⟩,
      ⟨some 85, .mv (.t 5), none, []⟩,
      ⟨some 86, .bin .add (.t 84) (.t 85), none, []⟩,
      ⟨some 87, .mnx false (.c (.int .i64 274877906944)) [.t 86], none, []⟩,
      ⟨some 88, .build [.int .i64 0, .int .i64 0] [(0, 1, .t 83), (1, 1, .t 87)], none, []⟩,
      ⟨some 89, .build [.int .i64 0, .int .i64 0, .int .i64 0, .int .i64 0, .int .i64 0, .int .i64 0] [(0, 1, .t 74), (1, 1, .t 75), (2, 1, .t 76), (3, 1, .t 79), (4, 2, .t 88)], none, []⟩,
      ⟨some 90, .lit false 6 47 [.t 89], none, []⟩,
      ⟨some 91, .app 6 48 47 (.t 71) (.t 90), none, []⟩,
      ⟨some 15, .mv (.t 91), none, []⟩] none) <|
   .region [
     ⟨some 92, .bin .add (.t 60) (.c (.int .i64 1)), none, []⟩,
     ⟨some 60, .mv (.t 92), none, []⟩] none) <|
  .seq (.region [
     ⟨some 93, .mv (.t 15), none, []⟩,
     ⟨some 12, .mv (.t 93), none, []⟩,
     ⟨some 13, .mv (.c (.int .i64 0)), none, []⟩] none) <|
  .ret
abbrev n_ref38_Reports : Nat := 22
theorem b_ref38_Reports : bodyOf prog 22 [1000000] = some (c_ref38_Reports, [.t 12, .t 13], 94) := by kernel_rfl

def c_ref38_SameReports : ACode :=
  .seq (.region [
     ⟨some 4, .mv (.c (.bool false)), none, []⟩] none) <|
  .seq (.seq (.region [
      ⟨some 6, .mv (.t 0), none, []⟩,
      ⟨some 7, .len (.t 6), none, []⟩,
      ⟨some 8, .mv (.t 1), none, []⟩,
      ⟨some 9, .len (.t 8), none, []⟩,
      ⟨some 10, .bin .neq (.t 7) (.t 9), none, []⟩] none) <|
   .cond (.t 10) (.seq (.region [
       ⟨some 4, .mv (.c (.bool false)), none, []⟩] none) <|
    .ret) <|
   .skip) <|
  .seq (.seq (.region [
      ⟨some 11, .mv (.t 0), none, []⟩,
      ⟨some 12, .len (.t 11), none, []⟩,
      ⟨some 13, .mv (.c (.int .i64 0)), none, []⟩] none) <|
   .block 0 <|
   .loop <|
   .seq (.region [
      ⟨some 14, .bin .lss (.t 13) (.t 12), none, []⟩] none) <|
   .seq (.cond (.t 14) (.skip) <|
    .exit 0) <|
   .seq (.block 1 <|
    .seq (.region [
       ⟨some 15, .mv (.t 13), none, []⟩,
       ⟨some 5, .mv (.t 15), none, []⟩] none) <|
    .seq (.hregion [
       ⟨5, ⟨some 21, .mv (.t 5), none, []⟩⟩,
       ⟨4, ⟨some 20, .mv (.t 1), none, []⟩⟩,
       ⟨6, ⟨some 22, .ixs 6 (.t 20) (.t 21), none, [4, 5]⟩⟩,
       ⟨7, ⟨some 23, .load true 6 (.t 22), none, [6, 4, 5]⟩⟩,
       ⟨1, ⟨some 17, .mv (.t 5), none, []⟩⟩,
       ⟨0, ⟨some 16, .mv (.t 0), none, []⟩⟩,
       ⟨2, ⟨some 18, .ixs 6 (.t 16) (.t 17), none, [0, 1]⟩⟩,
       ⟨3, ⟨some 19, .load true 6 (.t 18), none, [2, 0, 1]⟩⟩,
       ⟨8, ⟨some 24, .eqs true [0, 0, 0, 0, 0, 0] (.t 19) (.t 23), none, [3, 7, 2, 0, 1, 6, 4, 5]⟩⟩]) <|
    .cond (.t 24) (.seq (.region [
        ⟨some 4, .mv (.c (.bool false)), none, []⟩] none) <|
     .ret) <|
    .skip) <|
   .region [
     ⟨some 25, .bin .add (.t 13) (.c (.int .i64 1)), none, []⟩,
     ⟨some 13, .mv (.t 25), none, []⟩] none) <|
  .seq (.region [
     ⟨some 4, .mv (.c (.bool true)), none, []⟩] none) <|
  .ret
abbrev n_ref38_SameReports : Nat := 23
theorem b_ref38_SameReports : bodyOf prog 23 [1000000] = some (c_ref38_SameReports, [.t 4], 26) := by kernel_rfl

def c_manual_Unknown : ACode :=
  .seq (.region [
     ⟨some 4, .mv (.c (.nil)), none, []⟩,
     ⟨some 5, .mv (.c (.int .i64 0)), none, []⟩] none) <|
  .seq (.seq (.region [
      ⟨some 6, .mv (.t 0), none, []⟩,
      ⟨some 7, .bin .lss (.t 6) (.c (.int .i64 0)), none, []⟩,
      ⟨some 8, .mv (.t 7), none, []⟩,
      ⟨some 9, .mv (.t 0), some (8, false), []⟩,
      ⟨some 10, .bin .gtr (.t 9) (.c (.int .i64 400)), some (8, false), []⟩,
      ⟨some 11, .pick (.t 8) (.c (.bool true)) (.t 10), none, []⟩] none) <|
   .cond (.t 11) (.seq (.region [
       ⟨some 4, .mv (.c (.nil)), none, []⟩,
       ⟨some 5, .mv (.c (.int .i64 10)), none, []⟩] none) <|
    .ret) <|
   .skip) <|
  .seq (.seq (.region [
      ⟨some 12, .mv (.t 1), none, []⟩,
      ⟨some 13, .bin .lss (.t 12) (.c (.int .i64 0)), none, []⟩,
      ⟨some 14, .mv (.t 13), none, []⟩,
      ⟨some 15, .mv (.t 1), some (14, false), []⟩,
      ⟨some 16, .bin .gtr (.t 15) (.c (.int .i64 274877906944)), some (14, false), []⟩,
      ⟨some 17, .pick (.t 14) (.c (.bool true)) (.t 16), none, []⟩] none) <|
   .cond (.t 17) (.seq (.region [
       ⟨some 4, .mv (.c (.nil)), none, []⟩,
       ⟨some 5, .mv (.c (.int .i64 1)), none, []⟩] none) <|
    .ret) <|
   .skip) <|
  .seq (.region [
     ⟨some 18, .mv (.t 1), none, []⟩,
     ⟨some 19, .build [.int .i64 0, .int .i64 0] [(1, 1, .t 18)], none, []⟩,
     ⟨some 20, .lit false 2 45 [.t 19], none, []⟩,
     ⟨some 21, .mv (.t 0), none, []⟩,
     ⟨some 22, .call 33 [.t 20, .t 21], none, []⟩,
     ⟨some 4, .mv (.t 22), none, []⟩,
     ⟨some 5, .mv (.c (.int .i64 0)), none, []⟩] none) <|
  .ret
abbrev n_manual_Unknown : Nat := 24
theorem b_manual_Unknown : bodyOf prog 24 [1000000] = some (c_manual_Unknown, [.t 4, .t 5], 23) := by kernel_rfl

def c_ref38_Unknown : ACode :=
  .seq (.region [
     ⟨some 4, .mv (.c (.nil)), none, []⟩,
     ⟨some 5, .mv (.c (.int .i64 0)), none, []⟩] none) <|
  .seq (.seq (.region [
      ⟨some 7, .mv (.t 0), none, []⟩,
      ⟨some 8, .bin .lss (.t 7) (.c (.int .i64 0)), none, []⟩,
      ⟨some 9, .mv (.t 8), none, []⟩,
      ⟨some 10, .mv (.t 0), some (9, false), []⟩,
      ⟨some 11, .bin .gtr (.t 10) (.c (.int .i64 400)), some (9, false), []⟩,
      ⟨some 12, .pick (.t 9) (.c (.bool true)) (.t 11), none, []⟩] none) <|
   .cond (.t 12) (.seq (.region [
       ⟨some 4, .mv (.c (.nil)), none, []⟩,
       ⟨some 5, .mv (.c (.int .i64 10)), none, []⟩] none) <|
    .ret) <|
   .skip) <|
  .seq (.seq (.region [
      ⟨some 13, .mv (.t 1), none, []⟩,
      ⟨some 14, .bin .lss (.t 13) (.c (.int .i64 0)), none, []⟩,
      ⟨some 15, .mv (.t 14), none, []⟩,
      ⟨some 16, .mv (.t 1), some (15, false), []⟩,
      ⟨some 17, .bin .gtr (.t 16) (.c (.int .i64 274877906944)), some (15, false), []⟩,
      ⟨some 18, .pick (.t 15) (.c (.bool true)) (.t 17), none, []⟩] none) <|
   .cond (.t 18) (.seq (.region [
       ⟨some 4, .mv (.c (.nil)), none, []⟩,
       ⟨some 5, .mv (.c (.int .i64 1)), none, []⟩] none) <|
    .ret) <|
   .skip) <|
  .seq (.region [
     ⟨some 6, .mv (.c (.nil)), none, []⟩] none) <|
  .seq (.block 0 <|
   .loop <|
   .seq (.seq (.region [
       ⟨some 19, .mv (.t 0), none, []⟩,
       ⟨some 20, .bin .gtr (.t 19) (.c (.int .i64 0)), none, []⟩] none) <|
    .cond (.t 20) (.skip) <|
    .exit 0) <|
   .seq (.block 1 <|
    .region [
      ⟨some 23, .mv (.t 6), none, []⟩,
      ⟨some 24, .mv (.t 1), none, []⟩,
      ⟨some 25, .build [.int .i64 0, .int .i64 0] [(1, 1, .t 24)], none, []⟩,
      ⟨some 26, .lit false 2 45 [.t 25], none, []⟩,
      ⟨some 27, .app 2 16 45 (.t 23) (.t 26), none, []⟩,
      ⟨some 6, .mv (.t 27), none, []⟩] none) <|
   .region [
     ⟨some 21, .mv (.t 0), none, []⟩,
     ⟨some 22, .bin .sub (.t 21) (.c (.int .i64 1)), none, []⟩,
     ⟨some 0, .mv (.t 22), none, []⟩] none) <|
  .seq (.region [
     ⟨some 28, .mv (.t 6), none, []⟩,
     ⟨some 4, .mv (.t 28), none, []⟩,
     ⟨some 5, .mv (.c (.int .i64 0)), none, []⟩] none) <|
  .ret
abbrev n_ref38_Unknown : Nat := 25
theorem b_ref38_Unknown : bodyOf prog 25 [1000000] = some (c_ref38_Unknown, [.t 4, .t 5], 29) := by kernel_rfl

def c_manual_ready : ACode :=
  .seq (.region [
     ⟨some 4, .mv (.c (.int .i64 0)), none, []⟩] none) <|
  .seq (.seq (.region [
      ⟨some 6, .mv (.t 0), none, []⟩,
      ⟨some 7, .call 10 [.t 6], none, []⟩,
      ⟨some 5, .mv (.t 7), none, []⟩] none) <|
   .seq (.region [
      ⟨some 8, .mv (.t 5), none, []⟩,
      ⟨some 9, .bin .neq (.t 8) (.c (.int .i64 0)), none, []⟩] none) <|
   .cond (.t 9) (.seq (.region [
       ⟨some 10, .mv (.t 5), none, []⟩,
       ⟨some 4, .mv (.t 10), none, []⟩] none) <|
    .ret) <|
   .skip) <|
  .seq (.seq (.region [
      ⟨some 11, .mv (.t 1), none, []⟩,
      ⟨some 12, .bin .lss (.t 11) (.c (.int .i64 0)), none, []⟩,
      ⟨some 13, .mv (.t 12), none, []⟩,
      ⟨some 14, .mv (.t 1), some (13, false), []⟩,
      ⟨some 15, .bin .geq (.t 14) (.c (.int .i64 6)), some (13, false), []⟩,
      ⟨some 16, .pick (.t 13) (.c (.bool true)) (.t 15), none, []⟩] none) <|
   .cond (.t 16) (.seq (.region [
       ⟨some 4, .mv (.c (.int .i64 40)), none, []⟩] none) <|
    .ret) <|
   .skip) <|
  .seq (.region [
     ⟨some 4, .mv (.c (.int .i64 0)), none, []⟩] none) <|
  .ret
abbrev n_manual_ready : Nat := 26
theorem b_manual_ready : bodyOf prog 26 [1000000] = some (c_manual_ready, [.t 4], 17) := by kernel_rfl

def c_manual_find : ACode :=
  .seq (.region [
     ⟨some 4, .mv (.c (.int .i64 0)), none, []⟩,
     ⟨some 5, .mv (.c (.bool false)), none, []⟩] none) <|
  .seq (.region [
     ⟨some 6, .alloc 1 72 (.nilfunc), none, []⟩,
     ⟨none, .store 1 (.t 6) (.c (.func 34 [])), none, []⟩] none) <|
  .seq (.region [
     ⟨some 7, .mv (.t 0), none, []⟩,
     ⟨some 8, .mv (.t 1), none, []⟩,
     ⟨some 9, .mkf 36 [.t 6], none, []⟩,
     ⟨some 10, .call 35 [.t 7, .t 8, .t 9], none, []⟩,
     ⟨some 11, .ext (.t 10) 0, none, []⟩,
     ⟨some 12, .ext (.t 10) 1, none, []⟩,
     ⟨some 4, .mv (.t 11), none, []⟩,
     ⟨some 5, .mv (.t 12), none, []⟩] none) <|
  .ret
abbrev n_manual_find : Nat := 27
theorem b_manual_find : bodyOf prog 27 [1000000] = some (c_manual_find, [.t 4, .t 5], 13) := by kernel_rfl

def c_slices_Insert__Hand : ACode :=
  .seq (.region [
     ⟨some 6, .mv (.c (.nil)), none, []⟩] none) <|
  .seq (.region [
     ⟨some 10, .mv (.t 0), none, []⟩,
     ⟨some 11, .mv (.t 1), none, []⟩,
     ⟨some 12, .slc 2 (.t 10) (some (.t 11)) none, none, []⟩] none) <|
  .seq (.region [
     ⟨some 13, .mv (.t 2), none, []⟩,
     ⟨some 14, .len (.t 13), none, []⟩,
     ⟨some 7, .mv (.t 14), none, []⟩] none) <|
  .seq (.seq (.region [
      ⟨some 15, .mv (.t 7), none, []⟩,
      ⟨some 16, .bin .eql (.t 15) (.c (.int .i64 0)), none, []⟩] none) <|
   .cond (.t 16) (.seq (.region [
       ⟨some 17, .mv (.t 0), none, []⟩,
       ⟨some 6, .mv (.t 17), none, []⟩] none) <|
    .ret) <|
   .skip) <|
  .seq (.region [
     ⟨some 18, .mv (.t 0), none, []⟩,
     ⟨some 19, .len (.t 18), none, []⟩,
     ⟨some 8, .mv (.t 19), none, []⟩] none) <|
  .seq (.seq (.region [
      ⟨some 20, .mv (.t 1), none, []⟩,
      ⟨some 21, .mv (.t 8), none, []⟩,
      ⟨some 22, .bin .eql (.t 20) (.t 21), none, []⟩] none) <|
   .cond (.t 22) (.seq (.region [
       ⟨some 23, .mv (.t 0), none, []⟩,
       ⟨some 24, .mv (.t 2), none, []⟩,
       ⟨some 25, .app 2 16 60 (.t 23) (.t 24), none, []⟩,
       ⟨some 6, .mv (.t 25), none, []⟩] none) <|
    .ret) <|
   .skip) <|
  .seq (.seq (.region [
      ⟨some 26, .mv (.t 8), none, []⟩,
      ⟨some 27, .mv (.t 7), none, []⟩,
      ⟨some 28, .bin .add (.t 26) (.t 27), none, []⟩,
      ⟨some 29, .mv (.t 0), none, []⟩,
      ⟨some 30, .pu .cap0 [.t 29], none, []⟩,
      ⟨some 31, .bin .gtr (.t 28) (.t 30), none, []⟩] none) <|
   .cond (.t 31) (.seq (.region [
       ⟨some 32, .mv (.t 0), none, []⟩,
       ⟨some 33, .mv (.t 1), none, []⟩,
       ⟨some 34, .slc 2 (.t 32) none (some (.t 33)), none, []⟩,
       ⟨some 35, .mv (.t 8), none, []⟩,
       ⟨some 36, .mv (.t 7), none, []⟩,
       ⟨some 37, .bin .add (.t 35) (.t 36), none, []⟩,
       ⟨some 38, .mv (.t 1), none, []⟩,
       ⟨some 39, .bin .sub (.t 37) (.t 38), none, []⟩,
       ⟨some 40, .appz 2 16 60 (.agg [.int .i64 0, .int .i64 0]) (.t 34) (.t 39), none, []⟩,
       ⟨some 9, .mv (.t 40), none, []⟩] none) <|
    .seq (.region [
       ⟨some 41, .mv (.t 9), none, []⟩,
       ⟨some 42, .mv (.t 1), none, []⟩,
       ⟨some 43, .slc 2 (.t 41) (some (.t 42)) none, none, []⟩,
       ⟨some 44, .mv (.t 2), none, []⟩,
       ⟨some 45, .cpy 2 (.t 43) (.t 44), none, []⟩] none) <|
    .seq (.hregion [
       ⟨6, ⟨some 52, .mv (.t 1), none, []⟩⟩,
       ⟨5, ⟨some 51, .mv (.t 0), none, []⟩⟩,
       ⟨7, ⟨some 53, .slc 2 (.t 51) (some (.t 52)) none, none, [5, 6]⟩⟩,
       ⟨2, ⟨some 48, .mv (.t 7), none, []⟩⟩,
       ⟨1, ⟨some 47, .mv (.t 1), none, []⟩⟩,
       ⟨3, ⟨some 49, .bin .add (.t 47) (.t 48), none, [1, 2]⟩⟩,
       ⟨0, ⟨some 46, .mv (.t 9), none, []⟩⟩,
       ⟨4, ⟨some 50, .slc 2 (.t 46) (some (.t 49)) none, none, [0, 3, 1, 2]⟩⟩,
       ⟨8, ⟨some 54, .cpy 2 (.t 50) (.t 53), none, [4, 7, 0, 3, 1, 2, 5, 6]⟩⟩]) <|
    .seq (.region [
       ⟨some 55, .mv (.t 9), none, []⟩,
       ⟨some 6, .mv (.t 55), none, []⟩] none) <|
    .ret) <|
   .skip) <|
  .seq (.region [
     ⟨some 56, .mv (.t 0), none, []⟩,
     ⟨some 57, .mv (.t 8), none, []⟩,
     ⟨some 58, .mv (.t 7), none, []⟩,
     ⟨some 59, .bin .add (.t 57) (.t 58), none, []⟩,
     ⟨some 60, .slc 2 (.t 56) none (some (.t 59)), none, []⟩,
     ⟨some 0, .mv (.t 60), none, []⟩] none) <|
  .seq (.seq (.region [
      ⟨some 61, .mv (.t 2), none, []⟩,
      ⟨some 62, .mv (.t 0), none, []⟩,
      ⟨some 63, .mv (.t 1), none, []⟩,
      ⟨some 64, .mv (.t 7), none, []⟩,
      ⟨some 65, .bin .add (.t 63) (.t 64), none, []⟩,
      ⟨some 66, .slc 2 (.t 62) (some (.t 65)) none, none, []⟩,
      ⟨some 67, .call 37 [.t 61, .t 66], none, []⟩,
      ⟨some 68, .un .not (.t 67), none, []⟩] none) <|
   .cond (.t 68) (.seq (.hregion [
       ⟨6, ⟨some 75, .mv (.t 1), none, []⟩⟩,
       ⟨5, ⟨some 74, .mv (.t 0), none, []⟩⟩,
       ⟨7, ⟨some 76, .slc 2 (.t 74) (some (.t 75)) none, none, [5, 6]⟩⟩,
       ⟨2, ⟨some 71, .mv (.t 7), none, []⟩⟩,
       ⟨1, ⟨some 70, .mv (.t 1), none, []⟩⟩,
       ⟨3, ⟨some 72, .bin .add (.t 70) (.t 71), none, [1, 2]⟩⟩,
       ⟨0, ⟨some 69, .mv (.t 0), none, []⟩⟩,
       ⟨4, ⟨some 73, .slc 2 (.t 69) (some (.t 72)) none, none, [0, 3, 1, 2]⟩⟩,
       ⟨8, ⟨some 77, .cpy 2 (.t 73) (.t 76), none, [4, 7, 0, 3, 1, 2, 5, 6]⟩⟩]) <|
    .seq (.region [
       ⟨some 78, .mv (.t 0), none, []⟩,
       ⟨some 79, .mv (.t 1), none, []⟩,
       ⟨some 80, .slc 2 (.t 78) (some (.t 79)) none, none, []⟩,
       ⟨some 81, .mv (.t 2), none, []⟩,
       ⟨some 82, .cpy 2 (.t 80) (.t 81), none, []⟩] none) <|
    .seq (.region [
       ⟨some 83, .mv (.t 0), none, []⟩,
       ⟨some 6, .mv (.t 83), none, []⟩] none) <|
    .ret) <|
   .skip) <|
  .seq (.region [
     ⟨some 84, .mv (.t 0), none, []⟩,
     ⟨some 85, .mv (.t 8), none, []⟩,
     ⟨some 86, .slc 2 (.t 84) (some (.t 85)) none, none, []⟩,
     ⟨some 87, .mv (.t 2), none, []⟩,
     ⟨some 88, .cpy 2 (.t 86) (.t 87), none, []⟩] none) <|
  .seq (.region [
     ⟨some 89, .mv (.t 0), none, []⟩,
     ⟨some 90, .mv (.t 1), none, []⟩,
     ⟨some 91, .slc 2 (.t 89) (some (.t 90)) none, none, []⟩,
     ⟨some 92, .mv (.t 7), none, []⟩,
     ⟨some 93, .call 38 [.t 91, .t 92], none, []⟩] none) <|
  .seq (.region [
     ⟨some 94, .mv (.t 0), none, []⟩,
     ⟨some 6, .mv (.t 94), none, []⟩] none) <|
  .ret
abbrev n_slices_Insert__Hand : Nat := 28
theorem b_slices_Insert__Hand : bodyOf prog 28 [1000000] = some (c_slices_Insert__Hand, [.t 6], 95) := by kernel_rfl

def c_slices_Clone__Hand : ACode :=
  .seq (.region [
     ⟨some 2, .newsl 2 60, none, []⟩] none) <|
  .seq (.seq (.region [
      ⟨some 3, .mv (.t 0), none, []⟩,
      ⟨some 4, .isnil false (.t 3), none, []⟩] none) <|
   .cond (.t 4) (.seq (.region [
       ⟨some 2, .newsl 2 60, none, []⟩] none) <|
    .ret) <|
   .skip) <|
  .seq (.region [
     ⟨some 5, .lit true 2 60 [], none, []⟩,
     ⟨some 6, .mv (.t 0), none, []⟩,
     ⟨some 7, .app 2 16 60 (.t 5) (.t 6), none, []⟩,
     ⟨some 2, .mv (.t 7), none, []⟩] none) <|
  .ret
abbrev n_slices_Clone__Hand : Nat := 29
theorem b_slices_Clone__Hand : bodyOf prog 29 [2, 5, 1000000] = some (c_slices_Clone__Hand, [.t 2], 8) := by kernel_rfl

def c_slices_Delete__Hand : ACode :=
  .seq (.region [
     ⟨some 6, .mv (.c (.nil)), none, []⟩] none) <|
  .seq (.region [
     ⟨some 8, .mv (.t 0), none, []⟩,
     ⟨some 9, .mv (.t 1), none, []⟩,
     ⟨some 10, .mv (.t 2), none, []⟩,
     ⟨some 11, .mv (.t 0), none, []⟩,
     ⟨some 12, .len (.t 11), none, []⟩,
     ⟨some 13, .slc3 2 (.t 8) (.t 9) (.t 10) (.t 12), none, []⟩] none) <|
  .seq (.seq (.region [
      ⟨some 14, .mv (.t 1), none, []⟩,
      ⟨some 15, .mv (.t 2), none, []⟩,
      ⟨some 16, .bin .eql (.t 14) (.t 15), none, []⟩] none) <|
   .cond (.t 16) (.seq (.region [
       ⟨some 17, .mv (.t 0), none, []⟩,
       ⟨some 6, .mv (.t 17), none, []⟩] none) <|
    .ret) <|
   .skip) <|
  .seq (.region [
     ⟨some 18, .mv (.t 0), none, []⟩,
     ⟨some 19, .len (.t 18), none, []⟩,
     ⟨some 7, .mv (.t 19), none, []⟩] none) <|
  .seq (.hregion [
     ⟨4, ⟨some 24, .mv (.t 2), none, []⟩⟩,
     ⟨3, ⟨some 23, .mv (.t 0), none, []⟩⟩,
     ⟨5, ⟨some 25, .slc 2 (.t 23) (some (.t 24)) none, none, [3, 4]⟩⟩,
     ⟨1, ⟨some 21, .mv (.t 1), none, []⟩⟩,
     ⟨0, ⟨some 20, .mv (.t 0), none, []⟩⟩,
     ⟨2, ⟨some 22, .slc 2 (.t 20) none (some (.t 21)), none, [0, 1]⟩⟩,
     ⟨6, ⟨some 26, .app 2 16 60 (.t 22) (.t 25), none, [2, 5, 0, 1, 3, 4]⟩⟩,
     ⟨7, ⟨some 0, .mv (.t 26), none, [6, 0, 1, 2, 3, 4, 5]⟩⟩]) <|
  .seq (.region [
     ⟨some 27, .mv (.t 0), none, []⟩,
     ⟨some 28, .mv (.t 0), none, []⟩,
     ⟨some 29, .len (.t 28), none, []⟩,
     ⟨some 30, .mv (.t 7), none, []⟩,
     ⟨some 31, .slc 2 (.t 27) (some (.t 29)) (some (.t 30)), none, []⟩,
     ⟨none, .clr 2 (.agg [.int .i64 0, .int .i64 0]) (.t 31), none, []⟩] none) <|
  .seq (.region [
     ⟨some 32, .mv (.t 0), none, []⟩,
     ⟨some 6, .mv (.t 32), none, []⟩] none) <|
  .ret
abbrev n_slices_Delete__Hand : Nat := 30
theorem b_slices_Delete__Hand : bodyOf prog 30 [1000000] = some (c_slices_Delete__Hand, [.t 6], 33) := by kernel_rfl

def c_slices_ContainsFunc__int : ACode :=
  .seq (.region [
     ⟨some 4, .mv (.c (.bool false)), none, []⟩] none) <|
  .seq (.region [
     ⟨some 5, .mv (.t 0), none, []⟩,
     ⟨some 6, .mv (.t 1), none, []⟩,
     ⟨some 7, .call 39 [.t 5, .t 6], none, []⟩,
     ⟨some 8, .bin .geq (.t 7) (.c (.int .i64 0)), none, []⟩,
     ⟨some 4, .mv (.t 8), none, []⟩] none) <|
  .ret
abbrev n_slices_ContainsFunc__int : Nat := 31
theorem b_slices_ContainsFunc__int : bodyOf prog 31 [] = some (c_slices_ContainsFunc__int, [.t 4], 9) := by kernel_rfl

def c_manual_Reports_1 : ACode :=
  .seq (.region [
     ⟨some 2, .mv (.c (.bool false)), none, []⟩] none) <|
  .seq (.region [
     ⟨some 3, .mv (.t 0), none, []⟩,
     ⟨some 4, .bin .lss (.t 3) (.c (.int .i64 0)), none, []⟩,
     ⟨some 5, .mv (.t 4), none, []⟩,
     ⟨some 6, .mv (.t 0), some (5, false), []⟩,
     ⟨some 7, .bin .gtr (.t 6) (.c (.int .i64 274877906944)), some (5, false), []⟩,
     ⟨some 8, .pick (.t 5) (.c (.bool true)) (.t 7), none, []⟩,
     ⟨some 2, .mv (.t 8), none, []⟩] none) <|
  .ret
abbrev n_manual_Reports_1 : Nat := 32
theorem b_manual_Reports_1 : bodyOf prog 32 [1000000] = some (c_manual_Reports_1, [.t 2], 9) := by kernel_rfl

def c_slices_Repeat__Bounds : ACode :=
  .seq (.region [
     ⟨some 4, .mv (.c (.nil)), none, []⟩] none) <|
  .seq (.seq (.region [
      ⟨some 9, .mv (.t 1), none, []⟩,
      ⟨some 10, .bin .lss (.t 9) (.c (.int .i64 0)), none, []⟩] none) <|
   .cond (.t 10) (.region [
      ⟨some 11, .pu .mki [.c (.str ⟨#[99, 97, 110, 110, 111, 116, 32, 98, 101, 32, 110, 101, 103, 97, 116, 105, 118, 101]⟩)], none, []⟩,
      ⟨none, .pu .never [], none, []⟩] none) <|
   .skip) <|
  .seq (.region [
     ⟨some 13, .mv (.t 0), none, []⟩,
     ⟨some 14, .len (.t 13), none, []⟩,
     ⟨some 15, .conv .u64 (.t 14), none, []⟩,
     ⟨some 16, .mv (.t 1), none, []⟩,
     ⟨some 17, .conv .u64 (.t 16), none, []⟩,
     ⟨some 18, .call 40 [.t 15, .t 17], none, []⟩,
     ⟨some 12, .mv (.t 18), none, []⟩,
     ⟨some 19, .ext (.t 12) 0, none, []⟩,
     ⟨some 20, .ext (.t 12) 1, none, []⟩,
     ⟨some 5, .mv (.t 19), none, []⟩,
     ⟨some 6, .mv (.t 20), none, []⟩] none) <|
  .seq (.seq (.region [
      ⟨some 21, .mv (.t 5), none, []⟩,
      ⟨some 22, .bin .gtr (.t 21) (.c (.int .u64 0)), none, []⟩,
      ⟨some 23, .mv (.t 22), none, []⟩,
      ⟨some 24, .mv (.t 6), some (23, false), []⟩,
      ⟨some 25, .bin .gtr (.t 24) (.c (.int .u64 9223372036854775807)), some (23, false), []⟩,
      ⟨some 26, .pick (.t 23) (.c (.bool true)) (.t 25), none, []⟩] none) <|
   .cond (.t 26) (.region [
      ⟨some 27, .pu .mki [.c (.str ⟨#[116, 104, 101, 32, 114, 101, 115, 117, 108, 116, 32, 111, 102, 32, 40, 108, 101, 110, 40, 120, 41, 32, 42, 32, 99, 111, 117, 110, 116, 41, 32, 111, 118, 101, 114, 102, 108, 111, 119, 115]⟩)], none, []⟩,
      ⟨none, .pu .never [], none, []⟩] none) <|
   .skip) <|
  .seq (.region [
     ⟨some 28, .mv (.t 6), none, []⟩,
     ⟨some 29, .conv .i64 (.t 28), none, []⟩,
     ⟨some 30, .mks true 2 16 45 (.agg [.int .i64 0, .int .i64 0]) (.t 29), none, []⟩,
     ⟨some 7, .mv (.t 30), none, []⟩] none) <|
  .seq (.region [
     ⟨some 31, .mv (.t 7), none, []⟩,
     ⟨some 32, .mv (.t 0), none, []⟩,
     ⟨some 33, .cpy 2 (.t 31) (.t 32), none, []⟩,
     ⟨some 8, .mv (.t 33), none, []⟩] none) <|
  .seq (.block 0 <|
   .loop <|
   .seq (.seq (.region [
       ⟨some 34, .mv (.t 8), none, []⟩,
       ⟨some 35, .mv (.t 7), none, []⟩,
       ⟨some 36, .len (.t 35), none, []⟩,
       ⟨some 37, .bin .lss (.t 34) (.t 36), none, []⟩] none) <|
    .cond (.t 37) (.skip) <|
    .exit 0) <|
   .block 1 <|
   .hregion [
     ⟨5, ⟨some 43, .mv (.t 8), none, []⟩⟩,
     ⟨4, ⟨some 42, .mv (.t 7), none, []⟩⟩,
     ⟨6, ⟨some 44, .slc 2 (.t 42) none (some (.t 43)), none, [4, 5]⟩⟩,
     ⟨2, ⟨some 40, .mv (.t 8), none, []⟩⟩,
     ⟨1, ⟨some 39, .mv (.t 7), none, []⟩⟩,
     ⟨3, ⟨some 41, .slc 2 (.t 39) (some (.t 40)) none, none, [1, 2]⟩⟩,
     ⟨0, ⟨some 38, .mv (.t 8), none, []⟩⟩,
     ⟨7, ⟨some 45, .cpy 2 (.t 41) (.t 44), none, [3, 6, 1, 2, 4, 5]⟩⟩,
     ⟨8, ⟨some 46, .bin .add (.t 38) (.t 45), none, [0, 7, 3, 6, 1, 2, 4, 5]⟩⟩,
     ⟨9, ⟨some 8, .mv (.t 46), none, [8, 7, 0, 1, 2, 3, 4, 5, 6]⟩⟩]) <|
  .seq (.region [
     ⟨some 47, .mv (.t 7), none, []⟩,
     ⟨some 4, .mv (.t 47), none, []⟩] none) <|
  .ret
abbrev n_slices_Repeat__Bounds : Nat := 33
theorem b_slices_Repeat__Bounds : bodyOf prog 33 [30, 1000000] = some (c_slices_Repeat__Bounds, [.t 4], 48) := by kernel_rfl

def c_manual_place_compare : ACode :=
  .seq (.region [
     ⟨some 3, .box 2 60 (.t 1), none, []⟩,
     ⟨some 4, .mv (.c (.int .i64 0)), none, []⟩] none) <|
  .seq (.region [
     ⟨some 5, .fa 0 (.t 3), none, []⟩,
     ⟨some 6, .load false 1 (.t 5), none, []⟩,
     ⟨some 7, .mv (.t 0), none, []⟩,
     ⟨some 8, .bin .sub (.t 6) (.t 7), none, []⟩,
     ⟨some 4, .mv (.t 8), none, []⟩] none) <|
  .ret
abbrev n_manual_place_compare : Nat := 34
theorem b_manual_place_compare : bodyOf prog 34 [1000000] = some (c_manual_place_compare, [.t 4], 9) := by kernel_rfl

def c_slices_BinarySearchFunc__place : ACode :=
  .seq (.region [
     ⟨some 6, .mv (.c (.int .i64 0)), none, []⟩,
     ⟨some 7, .mv (.c (.bool false)), none, []⟩] none) <|
  .seq (.region [
     ⟨some 12, .mv (.t 0), none, []⟩,
     ⟨some 13, .len (.t 12), none, []⟩,
     ⟨some 8, .mv (.t 13), none, []⟩] none) <|
  .seq (.region [
     ⟨some 14, .mv (.t 8), none, []⟩,
     ⟨some 9, .mv (.c (.int .i64 0)), none, []⟩,
     ⟨some 10, .mv (.t 14), none, []⟩] none) <|
  .seq (.block 0 <|
   .loop <|
   .seq (.seq (.region [
       ⟨some 15, .mv (.t 9), none, []⟩,
       ⟨some 16, .mv (.t 10), none, []⟩,
       ⟨some 17, .bin .lss (.t 15) (.t 16), none, []⟩] none) <|
    .cond (.t 17) (.skip) <|
    .exit 0) <|
   .block 1 <|
   .seq (.region [
      ⟨some 18, .mv (.t 9), none, []⟩,
      ⟨some 19, .mv (.t 10), none, []⟩,
      ⟨some 20, .bin .add (.t 18) (.t 19), none, []⟩,
      ⟨some 21, .conv .u64 (.t 20), none, []⟩,
      ⟨some 22, .pu (.bit .shr) [.t 21, .c (.int .u64 1)], none, []⟩,
      ⟨some 23, .conv .i64 (.t 22), none, []⟩,
      ⟨some 11, .mv (.t 23), none, []⟩] none) <|
   .seq (.region [
      ⟨some 24, .mv (.t 2), none, []⟩,
      ⟨some 25, .mv (.t 0), none, []⟩,
      ⟨some 26, .mv (.t 11), none, []⟩,
      ⟨some 27, .ixs 2 (.t 25) (.t 26), none, []⟩,
      ⟨some 28, .load true 2 (.t 27), none, []⟩,
      ⟨some 29, .mv (.t 1), none, []⟩,
      ⟨some 30, .callv (.t 24) [.t 28, .t 29], none, []⟩,
      ⟨some 31, .bin .lss (.t 30) (.c (.int .i64 0)), none, []⟩] none) <|
   .cond (.t 31) (.region [
      ⟨some 32, .mv (.t 11), none, []⟩,
      ⟨some 33, .bin .add (.t 32) (.c (.int .i64 1)), none, []⟩,
      ⟨some 9, .mv (.t 33), none, []⟩] none) <|
   .region [
     ⟨some 34, .mv (.t 11), none, []⟩,
     ⟨some 10, .mv (.t 34), none, []⟩] none) <|
  .seq (.region [
     ⟨some 35, .mv (.t 9), none, []⟩,
     ⟨some 36, .mv (.t 9), none, []⟩,
     ⟨some 37, .mv (.t 8), none, []⟩,
     ⟨some 38, .bin .lss (.t 36) (.t 37), none, []⟩,
     ⟨some 39, .mv (.t 38), none, []⟩,
     ⟨some 40, .mv (.t 2), some (39, true), []⟩,
     ⟨some 41, .mv (.t 0), some (39, true), []⟩,
     ⟨some 42, .mv (.t 9), some (39, true), []⟩,
     ⟨some 43, .ixs 2 (.t 41) (.t 42), some (39, true), []⟩,
     ⟨some 44, .load true 2 (.t 43), some (39, true), []⟩,
     ⟨some 45, .mv (.t 1), some (39, true), []⟩,
     ⟨some 46, .callv (.t 40) [.t 44, .t 45], some (39, true), []⟩,
     ⟨some 47, .bin .eql (.t 46) (.c (.int .i64 0)), some (39, true), []⟩,
     ⟨some 48, .pick (.t 39) (.t 47) (.c (.bool false)), none, []⟩,
     ⟨some 6, .mv (.t 35), none, []⟩,
     ⟨some 7, .mv (.t 48), none, []⟩] none) <|
  .ret
abbrev n_slices_BinarySearchFunc__place : Nat := 35
theorem b_slices_BinarySearchFunc__place : bodyOf prog 35 [1000000] = some (c_slices_BinarySearchFunc__place, [.t 6, .t 7], 49) := by kernel_rfl

def c_manual_find_1 : ACode :=
  .seq (.region [
     ⟨some 3, .box 2 60 (.t 0), none, []⟩,
     ⟨some 5, .mv (.c (.int .i64 0)), none, []⟩] none) <|
  .seq (.region [
     ⟨some 6, .load false 1 (.t 2), none, []⟩,
     ⟨some 7, .mv (.t 1), none, []⟩,
     ⟨some 8, .load true 2 (.t 3), none, []⟩,
     ⟨some 9, .callv (.t 6) [.t 7, .t 8], none, []⟩,
     ⟨some 5, .mv (.t 9), none, []⟩] none) <|
  .ret
abbrev n_manual_find_1 : Nat := 36
theorem b_manual_find_1 : bodyOf prog 36 [1000000] = some (c_manual_find_1, [.t 5], 10) := by kernel_rfl

def c_slices_rotateRight__Hand : ACode :=
  .region [
    ⟨some 4, .mv (.t 0), none, []⟩,
    ⟨some 5, .mv (.t 0), none, []⟩,
    ⟨some 6, .len (.t 5), none, []⟩,
    ⟨some 7, .mv (.t 1), none, []⟩,
    ⟨some 8, .bin .sub (.t 6) (.t 7), none, []⟩,
    ⟨some 9, .call 41 [.t 4, .t 8], none, []⟩] none
abbrev n_slices_rotateRight__Hand : Nat := 38
theorem b_slices_rotateRight__Hand : bodyOf prog 38 [1000000] = some (c_slices_rotateRight__Hand, [], 10) := by kernel_rfl

def c_slices_IndexFunc__int : ACode :=
  .seq (.region [
     ⟨some 4, .mv (.c (.int .i64 0)), none, []⟩] none) <|
  .seq (.seq (.region [
      ⟨some 6, .mv (.t 0), none, []⟩,
      ⟨some 7, .len (.t 6), none, []⟩,
      ⟨some 8, .mv (.c (.int .i64 0)), none, []⟩] none) <|
   .block 0 <|
   .loop <|
   .seq (.region [
      ⟨some 9, .bin .lss (.t 8) (.t 7), none, []⟩] none) <|
   .seq (.cond (.t 9) (.skip) <|
    .exit 0) <|
   .seq (.block 1 <|
    .seq (.region [
       ⟨some 10, .mv (.t 8), none, []⟩,
       ⟨some 5, .mv (.t 10), none, []⟩] none) <|
    .seq (.region [
       ⟨some 11, .mv (.t 1), none, []⟩,
       ⟨some 12, .mv (.t 0), none, []⟩,
       ⟨some 13, .mv (.t 5), none, []⟩,
       ⟨some 14, .ixs 1 (.t 12) (.t 13), none, []⟩,
       ⟨some 15, .load false 1 (.t 14), none, []⟩,
       ⟨some 16, .callv (.t 11) [.t 15], none, []⟩] none) <|
    .cond (.t 16) (.seq (.region [
        ⟨some 17, .mv (.t 5), none, []⟩,
        ⟨some 4, .mv (.t 17), none, []⟩] none) <|
     .ret) <|
    .skip) <|
   .region [
     ⟨some 18, .bin .add (.t 8) (.c (.int .i64 1)), none, []⟩,
     ⟨some 8, .mv (.t 18), none, []⟩] none) <|
  .seq (.region [
     ⟨some 4, .mv (.c (.int .i64 (-1))), none, []⟩] none) <|
  .ret
abbrev n_slices_IndexFunc__int : Nat := 39
theorem b_slices_IndexFunc__int : bodyOf prog 39 [] = some (c_slices_IndexFunc__int, [.t 4], 19) := by kernel_rfl

def c_math_bits_Mul : ACode :=
  .seq (.region [
     ⟨some 4, .mv (.c (.int .u64 0)), none, []⟩,
     ⟨some 5, .mv (.c (.int .u64 0)), none, []⟩] none) <|
  .seq (.cond (.c (.bool false)) (.seq (.region [
       ⟨some 11, .mv (.t 0), none, []⟩,
       ⟨some 12, .conv .u32 (.t 11), none, []⟩,
       ⟨some 13, .mv (.t 1), none, []⟩,
       ⟨some 14, .conv .u32 (.t 13), none, []⟩,
       ⟨some 15, .call 42 [.t 12, .t 14], none, []⟩,
       ⟨some 10, .mv (.t 15), none, []⟩,
       ⟨some 16, .ext (.t 10) 0, none, []⟩,
       ⟨some 17, .ext (.t 10) 1, none, []⟩,
       ⟨some 6, .mv (.t 16), none, []⟩,
       ⟨some 7, .mv (.t 17), none, []⟩] none) <|
    .seq (.region [
       ⟨some 18, .mv (.t 6), none, []⟩,
       ⟨some 19, .conv .u64 (.t 18), none, []⟩,
       ⟨some 20, .mv (.t 7), none, []⟩,
       ⟨some 21, .conv .u64 (.t 20), none, []⟩,
       ⟨some 4, .mv (.t 19), none, []⟩,
       ⟨some 5, .mv (.t 21), none, []⟩] none) <|
    .ret) <|
   .skip) <|
  .seq (.region [
     ⟨some 23, .mv (.t 0), none, []⟩,
     ⟨some 24, .mv (.t 1), none, []⟩,
     ⟨some 25, .call 43 [.t 23, .t 24], none, []⟩,
     ⟨some 22, .mv (.t 25), none, []⟩,
     ⟨some 26, .ext (.t 22) 0, none, []⟩,
     ⟨some 27, .ext (.t 22) 1, none, []⟩,
     ⟨some 8, .mv (.t 26), none, []⟩,
     ⟨some 9, .mv (.t 27), none, []⟩] none) <|
  .seq (.region [
     ⟨some 28, .mv (.t 8), none, []⟩,
     ⟨some 29, .mv (.t 9), none, []⟩,
     ⟨some 4, .mv (.t 28), none, []⟩,
     ⟨some 5, .mv (.t 29), none, []⟩] none) <|
  .ret
abbrev n_math_bits_Mul : Nat := 40
theorem b_math_bits_Mul : bodyOf prog 40 [1000000] = some (c_math_bits_Mul, [.t 4, .t 5], 30) := by kernel_rfl

def c_slices_rotateLeft__Hand : ACode :=
  .seq (.region [
     ⟨some 4, .mv (.t 0), none, []⟩,
     ⟨some 5, .mv (.t 1), none, []⟩,
     ⟨some 6, .slc 2 (.t 4) none (some (.t 5)), none, []⟩,
     ⟨some 7, .call 44 [.t 6], none, []⟩] none) <|
  .seq (.region [
     ⟨some 8, .mv (.t 0), none, []⟩,
     ⟨some 9, .mv (.t 1), none, []⟩,
     ⟨some 10, .slc 2 (.t 8) (some (.t 9)) none, none, []⟩,
     ⟨some 11, .call 44 [.t 10], none, []⟩] none) <|
  .region [
    ⟨some 12, .mv (.t 0), none, []⟩,
    ⟨some 13, .call 44 [.t 12], none, []⟩] none
abbrev n_slices_rotateLeft__Hand : Nat := 41
theorem b_slices_rotateLeft__Hand : bodyOf prog 41 [1000000] = some (c_slices_rotateLeft__Hand, [], 14) := by kernel_rfl

def c_math_bits_Mul32 : ACode :=
  .seq (.region [
     ⟨some 4, .mv (.c (.int .u32 0)), none, []⟩,
     ⟨some 5, .mv (.c (.int .u32 0)), none, []⟩] none) <|
  .seq (.region [
     ⟨some 7, .mv (.t 0), none, []⟩,
     ⟨some 8, .conv .u64 (.t 7), none, []⟩,
     ⟨some 9, .mv (.t 1), none, []⟩,
     ⟨some 10, .conv .u64 (.t 9), none, []⟩,
     ⟨some 11, .bin .mul (.t 8) (.t 10), none, []⟩,
     ⟨some 6, .mv (.t 11), none, []⟩] none) <|
  .seq (.region [
     ⟨some 12, .mv (.t 6), none, []⟩,
     ⟨some 13, .pu (.bit .shr) [.t 12, .c (.int .u64 32)], none, []⟩,
     ⟨some 14, .conv .u32 (.t 13), none, []⟩,
     ⟨some 15, .mv (.t 6), none, []⟩,
     ⟨some 16, .conv .u32 (.t 15), none, []⟩,
     ⟨some 4, .mv (.t 14), none, []⟩,
     ⟨some 5, .mv (.t 16), none, []⟩] none) <|
  .ret
abbrev n_math_bits_Mul32 : Nat := 42
theorem b_math_bits_Mul32 : bodyOf prog 42 [1000000] = some (c_math_bits_Mul32, [.t 4, .t 5], 17) := by kernel_rfl

def c_math_bits_Mul64 : ACode :=
  .seq (.region [
     ⟨some 4, .mv (.c (.int .u64 0)), none, []⟩,
     ⟨some 5, .mv (.c (.int .u64 0)), none, []⟩] none) <|
  .seq (.region [
     ⟨some 14, .mv (.t 0), none, []⟩,
     ⟨some 15, .pu (.bit .and) [.t 14, .c (.int .u64 4294967295)], none, []⟩,
     ⟨some 6, .mv (.t 15), none, []⟩] none) <|
  .seq (.region [
     ⟨some 16, .mv (.t 0), none, []⟩,
     ⟨some 17, .pu (.bit .shr) [.t 16, .c (.int .u64 32)], none, []⟩,
     ⟨some 7, .mv (.t 17), none, []⟩] none) <|
  .seq (.region [
     ⟨some 18, .mv (.t 1), none, []⟩,
     ⟨some 19, .pu (.bit .and) [.t 18, .c (.int .u64 4294967295)], none, []⟩,
     ⟨some 8, .mv (.t 19), none, []⟩] none) <|
  .seq (.region [
     ⟨some 20, .mv (.t 1), none, []⟩,
     ⟨some 21, .pu (.bit .shr) [.t 20, .c (.int .u64 32)], none, []⟩,
     ⟨some 9, .mv (.t 21), none, []⟩] none) <|
  .seq (.region [
     ⟨some 22, .mv (.t 6), none, []⟩,
     ⟨some 23, .mv (.t 8), none, []⟩,
     ⟨some 24, .bin .mul (.t 22) (.t 23), none, []⟩,
     ⟨some 10, .mv (.t 24), none, []⟩] none) <|
  .seq (.region [
     ⟨some 25, .mv (.t 7), none, []⟩,
     ⟨some 26, .mv (.t 8), none, []⟩,
     ⟨some 27, .bin .mul (.t 25) (.t 26), none, []⟩,
     ⟨some 28, .mv (.t 10), none, []⟩,
     ⟨some 29, .pu (.bit .shr) [.t 28, .c (.int .u64 32)], none, []⟩,
     ⟨some 30, .bin .add (.t 27) (.t 29), none, []⟩,
     ⟨some 11, .mv (.t 30), none, []⟩] none) <|
  .seq (.region [
     ⟨some 31, .mv (.t 11), none, []⟩,
     ⟨some 32, .pu (.bit .and) [.t 31, .c (.int .u64 4294967295)], none, []⟩,
     ⟨some 12, .mv (.t 32), none, []⟩] none) <|
  .seq (.region [
     ⟨some 33, .mv (.t 11), none, []⟩,
     ⟨some 34, .pu (.bit .shr) [.t 33, .c (.int .u64 32)], none, []⟩,
     ⟨some 13, .mv (.t 34), none, []⟩] none) <|
  .seq (.region [
     ⟨some 35, .mv (.t 12), none, []⟩,
     ⟨some 36, .mv (.t 6), none, []⟩,
     ⟨some 37, .mv (.t 9), none, []⟩,
     ⟨some 38, .bin .mul (.t 36) (.t 37), none, []⟩,
     ⟨some 39, .bin .add (.t 35) (.t 38), none, []⟩,
     ⟨some 12, .mv (.t 39), none, []⟩] none) <|
  .seq (.region [
     ⟨some 40, .mv (.t 7), none, []⟩,
     ⟨some 41, .mv (.t 9), none, []⟩,
     ⟨some 42, .bin .mul (.t 40) (.t 41), none, []⟩,
     ⟨some 43, .mv (.t 13), none, []⟩,
     ⟨some 44, .bin .add (.t 42) (.t 43), none, []⟩,
     ⟨some 45, .mv (.t 12), none, []⟩,
     ⟨some 46, .pu (.bit .shr) [.t 45, .c (.int .u64 32)], none, []⟩,
     ⟨some 47, .bin .add (.t 44) (.t 46), none, []⟩,
     ⟨some 4, .mv (.t 47), none, []⟩] none) <|
  .seq (.region [
     ⟨some 48, .mv (.t 0), none, []⟩,
     ⟨some 49, .mv (.t 1), none, []⟩,
     ⟨some 50, .bin .mul (.t 48) (.t 49), none, []⟩,
     ⟨some 5, .mv (.t 50), none, []⟩] none) <|
  .ret
abbrev n_math_bits_Mul64 : Nat := 43
theorem b_math_bits_Mul64 : bodyOf prog 43 [1000000] = some (c_math_bits_Mul64, [.t 4, .t 5], 51) := by kernel_rfl

def c_slices_Reverse__Hand : ACode :=
  .seq (.region [
     ⟨some 4, .mv (.t 0), none, []⟩,
     ⟨some 5, .len (.t 4), none, []⟩,
     ⟨some 6, .bin .sub (.t 5) (.c (.int .i64 1)), none, []⟩,
     ⟨some 2, .mv (.c (.int .i64 0)), none, []⟩,
     ⟨some 3, .mv (.t 6), none, []⟩] none) <|
  .block 0 <|
  .loop <|
  .seq (.seq (.region [
      ⟨some 7, .mv (.t 2), none, []⟩,
      ⟨some 8, .mv (.t 3), none, []⟩,
      ⟨some 9, .bin .lss (.t 7) (.t 8), none, []⟩] none) <|
   .cond (.t 9) (.skip) <|
   .exit 0) <|
  .seq (.block 1 <|
   .hregion [
     ⟨9, ⟨some 23, .mv (.t 2), none, []⟩⟩,
     ⟨8, ⟨some 22, .mv (.t 0), none, []⟩⟩,
     ⟨10, ⟨some 24, .ixs 2 (.t 22) (.t 23), none, [8, 9]⟩⟩,
     ⟨11, ⟨some 25, .load true 2 (.t 24), none, [10, 8, 9]⟩⟩,
     ⟨5, ⟨some 19, .mv (.t 3), none, []⟩⟩,
     ⟨4, ⟨some 18, .mv (.t 0), none, []⟩⟩,
     ⟨6, ⟨some 20, .ixs 2 (.t 18) (.t 19), none, [4, 5]⟩⟩,
     ⟨7, ⟨some 21, .load true 2 (.t 20), none, [6, 4, 5]⟩⟩,
     ⟨3, ⟨some 17, .mv (.t 3), none, []⟩⟩,
     ⟨2, ⟨some 16, .mv (.t 0), none, []⟩⟩,
     ⟨1, ⟨some 15, .mv (.t 2), none, []⟩⟩,
     ⟨0, ⟨some 14, .mv (.t 0), none, []⟩⟩,
     ⟨12, ⟨some 26, .ixs 2 (.t 14) (.t 15), none, [0, 1, 4, 5, 6, 7, 11, 10, 8, 9]⟩⟩,
     ⟨13, ⟨none, .store 2 (.t 26) (.t 21), none, [12, 7, 0, 1, 4, 5, 6, 11, 10, 8, 9]⟩⟩,
     ⟨14, ⟨some 27, .ixs 2 (.t 16) (.t 17), none, [2, 3, 0, 1, 4, 5, 6, 7, 8, 9, 10, 11, 12, 13]⟩⟩,
     ⟨15, ⟨none, .store 2 (.t 27) (.t 25), none, [14, 11, 13, 0, 1, 2, 3, 4, 5, 6, 7, 8, 9, 10, 12]⟩⟩]) <|
  .region [
    ⟨some 10, .mv (.t 2), none, []⟩,
    ⟨some 11, .bin .add (.t 10) (.c (.int .i64 1)), none, []⟩,
    ⟨some 12, .mv (.t 3), none, []⟩,
    ⟨some 13, .bin .sub (.t 12) (.c (.int .i64 1)), none, []⟩,
    ⟨some 2, .mv (.t 11), none, []⟩,
    ⟨some 3, .mv (.t 13), none, []⟩] none
abbrev n_slices_Reverse__Hand : Nat := 44
theorem b_slices_Reverse__Hand : bodyOf prog 44 [1000000] = some (c_slices_Reverse__Hand, [], 28) := by kernel_rfl

end Go.Proofs.Try
