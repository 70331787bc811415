/-
  WRITTEN BY A PROGRAM OF OURS (tools/seat.py): the code of the functions of this seat, each checked by the kernel against the model.
-/
import Derived.Test.YtkjjlopkooiljaaBaseS
import Derived.Test.YtkjjlopkooiljaaProg
import Derived.KernelRfl
namespace Go.Proofs.Try
open Go Go.Ab
abbrev n_slices_overlaps__Order : Nat := 44
theorem x_slices_overlaps__Order : extOf prog 44 = some (Extern.SlicesOverlaps.overlaps #[27, 27] #[4]) := by kernel_rfl
theorem xt_slices_overlaps__Order : eltOf prog 27 = true := by kernel_rfl
def c_law27_OrdersLines : ACode :=
  .seq (.region [
     ⟨some 2, .mv (.c (.bool false)), none, []⟩] none) <|
  .seq (.seq (.region [
      ⟨some 28, .call 7 [], none, []⟩,
      ⟨some 29, .un .not (.t 28), none, []⟩] none) <|
   .cond (.t 29) (.seq (.region [
       ⟨some 2, .mv (.c (.bool false)), none, []⟩] none) <|
    .ret) <|
   .skip) <|
  .seq (.seq (.region [
      ⟨some 30, .mv (.t 0), none, []⟩,
      ⟨some 31, .call 8 [.t 30], none, []⟩,
      ⟨some 32, .un .not (.t 31), none, []⟩] none) <|
   .cond (.t 32) (.seq (.region [
       ⟨some 2, .mv (.c (.bool true)), none, []⟩] none) <|
    .ret) <|
   .skip) <|
  .seq (.region [
     ⟨some 33, .mv (.t 0), none, []⟩,
     ⟨some 34, .call 9 [.t 33], none, []⟩,
     ⟨some 3, .mv (.t 34), none, []⟩] none) <|
  .seq (.region [
     ⟨some 35, .build [.int .i64 0, .nil] [(0, 1, .c (.int .i64 1))], none, []⟩,
     ⟨some 36, .build [.int .i64 0, .nil] [], none, []⟩,
     ⟨some 4, .alloc 2 29 (.agg [.int .i64 0, .nil]), none, []⟩,
     ⟨some 5, .alloc 2 31 (.agg [.int .i64 0, .nil]), none, []⟩,
     ⟨none, .store 2 (.t 4) (.t 35), none, []⟩,
     ⟨none, .store 2 (.t 5) (.t 36), none, []⟩] none) <|
  .seq (.region [
     ⟨some 6, .mv (.c (.nil)), none, []⟩,
     ⟨some 7, .mv (.c (.nil)), none, []⟩,
     ⟨some 8, .mv (.c (.nil)), none, []⟩] none) <|
  .seq (.region [
     ⟨some 9, .mv (.c (.int .i64 0)), none, []⟩] none) <|
  .seq (.seq (.region [
      ⟨some 10, .mv (.c (.int .i64 0)), none, []⟩] none) <|
   .block 0 <|
   .loop <|
   .seq (.seq (.hregion [
       ⟨0, ⟨some 37, .mv (.t 10), none, []⟩⟩,
       ⟨1, ⟨some 38, .bin .lss (.t 37) (.c (.int .i64 60)), none, [0]⟩⟩,
       ⟨2, ⟨some 39, .mv (.t 38), none, [1, 0]⟩⟩,
       ⟨7, ⟨some 44, .mv (.t 3), some (39, true), [2, 1, 0]⟩⟩,
       ⟨8, ⟨some 45, .nilchk (.t 44), some (39, true), [7, 2, 1, 0]⟩⟩,
       ⟨9, ⟨some 46, .fa 0 (.t 45), some (39, true), [8, 2, 7, 1, 0]⟩⟩,
       ⟨10, ⟨some 47, .load false 1 (.t 46), some (39, true), [9, 2, 8, 7, 1, 0]⟩⟩,
       ⟨11, ⟨some 48, .len (.t 47), some (39, true), [10, 2, 9, 8, 7, 1, 0]⟩⟩,
       ⟨3, ⟨some 40, .mv (.t 3), some (39, true), [2, 1, 0]⟩⟩,
       ⟨4, ⟨some 41, .nilchk (.t 40), some (39, true), [3, 2, 1, 0]⟩⟩,
       ⟨5, ⟨some 42, .fa 1 (.t 41), some (39, true), [4, 2, 3, 1, 0]⟩⟩,
       ⟨6, ⟨some 43, .load false 1 (.t 42), some (39, true), [5, 2, 4, 3, 1, 0]⟩⟩,
       ⟨12, ⟨some 49, .bin .lss (.t 43) (.t 48), some (39, true), [6, 11, 2, 5, 4, 3, 1, 0, 10, 9, 8, 7]⟩⟩,
       ⟨13, ⟨some 50, .pick (.t 39) (.t 49) (.c (.bool false)), none, [2, 12, 1, 0, 6, 11, 5, 4, 3, 10, 9, 8, 7]⟩⟩]) <|
    .cond (.t 50) (.skip) <|
    .exit 0) <|
   .seq (.block 1 <|
    .seq (.seq (.region [
        ⟨some 53, .mv (.t 3), none, []⟩,
        ⟨some 54, .call 10 [.t 53, .c (.int .i64 5)], none, []⟩] none) <|
     .block 2 <|
     .seq (.seq (.region [
         ⟨some 71, .bin .eql (.t 54) (.c (.int .i64 0)), none, []⟩,
         ⟨some 70, .mv (.t 71), none, []⟩] none) <|
      .cond (.t 70) (.skip) <|
      .region [
        ⟨some 72, .bin .eql (.t 54) (.c (.int .i64 1)), none, []⟩,
        ⟨some 70, .mv (.t 72), none, []⟩] none) <|
     .cond (.t 70) (.seq (.region [
         ⟨some 73, .mv (.t 3), none, []⟩,
         ⟨some 74, .call 11 [.t 73, .c (.int .i64 1)], none, []⟩,
         ⟨some 11, .alloc 4 36 (.agg [.int .i64 0, .int .i64 0, .int .i64 0, .int .i64 0]), none, []⟩,
         ⟨none, .store 4 (.t 11) (.t 74), none, []⟩] none) <|
      .seq (.region [
         ⟨some 76, .load true 2 (.t 4), none, []⟩,
         ⟨some 77, .fa 1 (.t 11), none, []⟩,
         ⟨some 78, .load false 1 (.t 77), none, []⟩,
         ⟨some 79, .fa 2 (.t 11), none, []⟩,
         ⟨some 80, .load false 1 (.t 79), none, []⟩,
         ⟨some 81, .fa 3 (.t 11), none, []⟩,
         ⟨some 82, .load false 1 (.t 81), none, []⟩,
         ⟨some 83, .call 12 [.t 76, .t 78, .t 80, .t 82], none, []⟩,
         ⟨some 75, .mv (.t 83), none, []⟩,
         ⟨some 84, .ext (.t 75) 0, none, []⟩,
         ⟨some 85, .ext (.t 75) 1, none, []⟩,
         ⟨some 86, .ext (.t 75) 2, none, []⟩,
         ⟨some 12, .alloc 2 29 (.agg [.int .i64 0, .nil]), none, []⟩,
         ⟨some 13, .alloc 4 36 (.agg [.int .i64 0, .int .i64 0, .int .i64 0, .int .i64 0]), none, []⟩,
         ⟨none, .store 2 (.t 12) (.t 84), none, []⟩,
         ⟨none, .store 4 (.t 13) (.t 85), none, []⟩,
         ⟨some 14, .mv (.t 86), none, []⟩] none) <|
      .seq (.region [
         ⟨some 87, .mv (.t 14), none, []⟩,
         ⟨some 88, .bin .eql (.t 87) (.c (.int .i64 0)), none, []⟩] none) <|
      .cond (.t 88) (.hregion [
         ⟨6, ⟨some 95, .load true 4 (.t 13), none, []⟩⟩,
         ⟨7, ⟨some 96, .lit false 4 36 [.t 95], none, [6]⟩⟩,
         ⟨5, ⟨some 94, .mv (.t 7), none, []⟩⟩,
         ⟨2, ⟨some 91, .load true 4 (.t 13), none, []⟩⟩,
         ⟨3, ⟨some 92, .lit false 4 36 [.t 91], none, [2]⟩⟩,
         ⟨1, ⟨some 90, .mv (.t 6), none, []⟩⟩,
         ⟨0, ⟨some 89, .load true 2 (.t 12), none, []⟩⟩,
         ⟨4, ⟨some 93, .app 4 32 36 (.t 90) (.t 92), none, [1, 3, 2]⟩⟩,
         ⟨8, ⟨some 97, .app 4 32 36 (.t 94) (.t 96), none, [5, 7, 4, 6, 1, 3, 2]⟩⟩,
         ⟨9, ⟨none, .store 2 (.t 4) (.t 89), none, [0, 8, 5, 7, 4, 6, 1, 3, 2]⟩⟩,
         ⟨10, ⟨some 6, .mv (.t 93), none, [4, 9, 0, 1, 2, 3, 8, 5, 7, 6]⟩⟩,
         ⟨11, ⟨some 7, .mv (.t 97), none, [8, 10, 0, 1, 2, 3, 4, 5, 6, 7, 9]⟩⟩]) <|
      .skip) <|
     .seq (.seq (.region [
         ⟨some 99, .bin .eql (.t 54) (.c (.int .i64 2)), none, []⟩,
         ⟨some 98, .mv (.t 99), none, []⟩] none) <|
      .cond (.t 98) (.skip) <|
      .region [
        ⟨some 100, .bin .eql (.t 54) (.c (.int .i64 3)), none, []⟩,
        ⟨some 98, .mv (.t 100), none, []⟩] none) <|
     .cond (.t 98) (.seq (.region [
         ⟨some 101, .mv (.t 7), none, []⟩,
         ⟨some 102, .len (.t 101), none, []⟩,
         ⟨some 103, .bin .gtr (.t 102) (.c (.int .i64 0)), none, []⟩] none) <|
      .cond (.t 103) (.seq (.hregion [
          ⟨3, ⟨some 108, .mv (.t 7), none, []⟩⟩,
          ⟨4, ⟨some 109, .len (.t 108), none, [3]⟩⟩,
          ⟨2, ⟨some 107, .mv (.t 3), none, []⟩⟩,
          ⟨1, ⟨some 106, .mv (.t 7), none, []⟩⟩,
          ⟨0, ⟨some 105, .load true 2 (.t 5), none, []⟩⟩,
          ⟨5, ⟨some 110, .call 10 [.t 107, .t 109], none, [2, 4, 3]⟩⟩,
          ⟨6, ⟨some 111, .ixs 4 (.t 106) (.t 110), none, [1, 5, 2, 4, 3]⟩⟩,
          ⟨7, ⟨some 112, .load true 4 (.t 111), none, [6, 1, 5, 2, 4, 3]⟩⟩,
          ⟨8, ⟨some 113, .call 13 [.t 105, .t 112], none, [0, 7, 5, 6, 1, 2, 4, 3]⟩⟩,
          ⟨9, ⟨some 104, .mv (.t 113), none, [8, 0, 7, 5, 6, 1, 2, 4, 3]⟩⟩,
          ⟨13, ⟨some 117, .ext (.t 104) 3, none, [9, 8, 0, 7, 5, 6, 1, 2, 4, 3]⟩⟩,
          ⟨12, ⟨some 116, .ext (.t 104) 2, none, [9, 8, 0, 7, 5, 6, 1, 2, 4, 3]⟩⟩,
          ⟨11, ⟨some 115, .ext (.t 104) 1, none, [9, 8, 0, 7, 5, 6, 1, 2, 4, 3]⟩⟩,
          ⟨10, ⟨some 114, .ext (.t 104) 0, none, [9, 8, 0, 7, 5, 6, 1, 2, 4, 3]⟩⟩,
          ⟨14, ⟨some 15, .alloc 2 31 (.agg [.int .i64 0, .nil]), none, []⟩⟩,
          ⟨15, ⟨none, .store 2 (.t 15) (.t 114), none, [14, 10, 8, 0, 1, 2, 3, 4, 5, 6, 7, 9]⟩⟩,
          ⟨16, ⟨some 16, .mv (.t 115), none, [11, 15, 0, 1, 2, 3, 4, 5, 6, 7, 8, 9, 10, 14]⟩⟩,
          ⟨17, ⟨some 17, .mv (.t 116), none, [12, 16, 0, 1, 2, 3, 4, 5, 6, 7, 8, 9, 10, 11, 14, 15]⟩⟩,
          ⟨18, ⟨some 18, .mv (.t 117), none, [13, 17, 0, 1, 2, 3, 4, 5, 6, 7, 8, 9, 10, 11, 12, 14, 15, 16]⟩⟩]) <|
       .seq (.seq (.region [
           ⟨some 118, .mv (.t 18), none, []⟩,
           ⟨some 119, .bin .neq (.t 118) (.c (.int .i64 0)), none, []⟩] none) <|
        .cond (.t 119) (.seq (.region [
            ⟨some 2, .mv (.c (.bool false)), none, []⟩] none) <|
         .ret) <|
        .skip) <|
       .hregion [
         ⟨4, ⟨some 124, .mv (.t 17), none, []⟩⟩,
         ⟨2, ⟨some 122, .mv (.t 16), none, []⟩⟩,
         ⟨1, ⟨some 121, .mv (.t 8), none, []⟩⟩,
         ⟨0, ⟨some 120, .load true 2 (.t 15), none, []⟩⟩,
         ⟨3, ⟨some 123, .app 4 32 36 (.t 121) (.t 122), none, [1, 2]⟩⟩,
         ⟨5, ⟨none, .store 2 (.t 5) (.t 120), none, [0, 3, 1, 2]⟩⟩,
         ⟨6, ⟨some 8, .mv (.t 123), none, [3, 5, 0, 1, 2]⟩⟩,
         ⟨7, ⟨some 9, .mv (.t 124), none, [4, 6, 0, 1, 2, 3, 5]⟩⟩]) <|
      .skip) <|
     .seq (.hregion [
        ⟨5, ⟨some 61, .mv (.t 9), none, []⟩⟩,
        ⟨6, ⟨some 62, .bin .add (.t 61) (.c (.int .i64 1)), none, [5]⟩⟩,
        ⟨2, ⟨some 58, .mv (.t 9), none, []⟩⟩,
        ⟨3, ⟨some 59, .bin .add (.t 58) (.c (.int .i64 1)), none, [2]⟩⟩,
        ⟨1, ⟨some 57, .mv (.t 3), none, []⟩⟩,
        ⟨0, ⟨some 56, .load true 2 (.t 4), none, []⟩⟩,
        ⟨4, ⟨some 60, .call 10 [.t 57, .t 59], none, [1, 3, 2]⟩⟩,
        ⟨7, ⟨some 63, .call 15 [.t 60, .t 62], none, [4, 6, 1, 3, 2, 5]⟩⟩,
        ⟨8, ⟨some 64, .call 14 [.t 56, .t 63], none, [0, 7, 4, 6, 1, 3, 2, 5]⟩⟩,
        ⟨9, ⟨some 55, .mv (.t 64), none, [8, 0, 7, 4, 6, 1, 3, 2, 5]⟩⟩,
        ⟨11, ⟨some 66, .ext (.t 55) 1, none, [9, 8, 0, 7, 4, 6, 1, 3, 2, 5]⟩⟩,
        ⟨10, ⟨some 65, .ext (.t 55) 0, none, [9, 8, 0, 7, 4, 6, 1, 3, 2, 5]⟩⟩,
        ⟨12, ⟨some 19, .alloc 2 29 (.agg [.int .i64 0, .nil]), none, []⟩⟩,
        ⟨13, ⟨none, .store 2 (.t 19) (.t 65), none, [12, 10, 8, 0, 1, 2, 3, 4, 5, 6, 7, 9]⟩⟩,
        ⟨14, ⟨some 20, .mv (.t 66), none, [11, 13, 0, 1, 2, 3, 4, 5, 6, 7, 8, 9, 10, 12]⟩⟩]) <|
     .seq (.seq (.region [
         ⟨some 67, .mv (.t 20), none, []⟩,
         ⟨some 68, .bin .neq (.t 67) (.c (.int .i64 0)), none, []⟩] none) <|
      .cond (.t 68) (.seq (.region [
          ⟨some 2, .mv (.c (.bool false)), none, []⟩] none) <|
       .ret) <|
      .skip) <|
     .region [
       ⟨some 69, .load true 2 (.t 19), none, []⟩,
       ⟨none, .store 2 (.t 4) (.t 69), none, []⟩] none) <|
    .seq (.region [
       ⟨some 125, .mv (.t 8), none, []⟩,
       ⟨some 126, .len (.t 125), none, []⟩,
       ⟨some 127, .mv (.t 6), none, []⟩,
       ⟨some 128, .len (.t 127), none, []⟩,
       ⟨some 129, .bin .gtr (.t 126) (.t 128), none, []⟩,
       ⟨some 130, .mv (.t 129), none, []⟩,
       ⟨some 131, .mv (.t 8), some (130, false), []⟩,
       ⟨some 132, .mv (.t 6), some (130, false), []⟩,
       ⟨some 133, .mv (.t 8), some (130, false), []⟩,
       ⟨some 134, .len (.t 133), some (130, false), []⟩,
       ⟨some 135, .slc 4 (.t 132) none (some (.t 134)), some (130, false), []⟩,
       ⟨some 136, .call 16 [.t 131, .t 135], some (130, false), []⟩,
       ⟨some 137, .un .not (.t 136), some (130, false), []⟩,
       ⟨some 138, .pick (.t 130) (.c (.bool true)) (.t 137), none, []⟩,
       ⟨some 139, .mv (.t 138), none, []⟩,
       ⟨some 140, .fa 0 (.t 5), some (139, false), []⟩,
       ⟨some 141, .load false 1 (.t 140), some (139, false), []⟩,
       ⟨some 142, .mv (.t 8), some (139, false), []⟩,
       ⟨some 143, .len (.t 142), some (139, false), []⟩,
       ⟨some 144, .bin .neq (.t 141) (.t 143), some (139, false), []⟩,
       ⟨some 145, .pick (.t 139) (.c (.bool true)) (.t 144), none, []⟩] none) <|
    .cond (.t 145) (.seq (.region [
        ⟨some 2, .mv (.c (.bool false)), none, []⟩] none) <|
     .ret) <|
    .skip) <|
   .region [
     ⟨some 51, .mv (.t 10), none, []⟩,
     ⟨some 52, .bin .add (.t 51) (.c (.int .i64 1)), none, []⟩,
     ⟨some 10, .mv (.t 52), none, []⟩] none) <|
  .seq (.seq (.region [
      ⟨some 146, .fa 1 (.t 4), none, []⟩,
      ⟨some 147, .load false 1 (.t 146), none, []⟩,
      ⟨some 148, .len (.t 147), none, []⟩,
      ⟨some 149, .mv (.c (.int .i64 0)), none, []⟩] none) <|
   .block 3 <|
   .loop <|
   .seq (.region [
      ⟨some 150, .bin .lss (.t 149) (.t 148), none, []⟩] none) <|
   .seq (.cond (.t 150) (.skip) <|
    .exit 3) <|
   .seq (.block 4 <|
    .seq (.region [
       ⟨some 151, .ixs 4 (.t 147) (.t 149), none, []⟩,
       ⟨some 152, .load true 4 (.t 151), none, []⟩,
       ⟨some 22, .alloc 4 36 (.agg [.int .i64 0, .int .i64 0, .int .i64 0, .int .i64 0]), none, []⟩,
       ⟨none, .store 4 (.t 22) (.t 152), none, []⟩] none) <|
    .seq (.region [
       ⟨some 154, .load true 2 (.t 5), none, []⟩,
       ⟨some 155, .load true 4 (.t 22), none, []⟩,
       ⟨some 156, .call 13 [.t 154, .t 155], none, []⟩,
       ⟨some 153, .mv (.t 156), none, []⟩,
       ⟨some 157, .ext (.t 153) 0, none, []⟩,
       ⟨some 158, .ext (.t 153) 1, none, []⟩,
       ⟨some 159, .ext (.t 153) 2, none, []⟩,
       ⟨some 160, .ext (.t 153) 3, none, []⟩,
       ⟨some 23, .alloc 2 31 (.agg [.int .i64 0, .nil]), none, []⟩,
       ⟨none, .store 2 (.t 23) (.t 157), none, []⟩,
       ⟨some 24, .mv (.t 158), none, []⟩,
       ⟨some 25, .mv (.t 159), none, []⟩,
       ⟨some 26, .mv (.t 160), none, []⟩] none) <|
    .seq (.seq (.region [
        ⟨some 161, .mv (.t 26), none, []⟩,
        ⟨some 162, .bin .neq (.t 161) (.c (.int .i64 0)), none, []⟩] none) <|
     .cond (.t 162) (.seq (.region [
         ⟨some 2, .mv (.c (.bool false)), none, []⟩] none) <|
      .ret) <|
     .skip) <|
    .hregion [
      ⟨4, ⟨some 167, .mv (.t 25), none, []⟩⟩,
      ⟨2, ⟨some 165, .mv (.t 24), none, []⟩⟩,
      ⟨1, ⟨some 164, .mv (.t 8), none, []⟩⟩,
      ⟨0, ⟨some 163, .load true 2 (.t 23), none, []⟩⟩,
      ⟨3, ⟨some 166, .app 4 32 36 (.t 164) (.t 165), none, [1, 2]⟩⟩,
      ⟨5, ⟨none, .store 2 (.t 5) (.t 163), none, [0, 3, 1, 2]⟩⟩,
      ⟨6, ⟨some 8, .mv (.t 166), none, [3, 5, 0, 1, 2]⟩⟩,
      ⟨7, ⟨some 9, .mv (.t 167), none, [4, 6, 0, 1, 2, 3, 5]⟩⟩]) <|
   .region [
     ⟨some 168, .bin .add (.t 149) (.c (.int .i64 1)), none, []⟩,
     ⟨some 149, .mv (.t 168), none, []⟩] none) <|
  .seq (.region [
     ⟨some 170, .load true 2 (.t 4), none, []⟩,
     ⟨some 171, .fa 0 (.t 5), none, []⟩,
     ⟨some 172, .load false 1 (.t 171), none, []⟩,
     ⟨some 173, .call 14 [.t 170, .t 172], none, []⟩,
     ⟨some 169, .mv (.t 173), none, []⟩,
     ⟨some 174, .ext (.t 169) 0, none, []⟩,
     ⟨some 175, .ext (.t 169) 1, none, []⟩,
     ⟨none, .store 2 (.t 4) (.t 174), none, []⟩,
     ⟨some 27, .mv (.t 175), none, []⟩] none) <|
  .seq (.region [
     ⟨some 176, .mv (.t 27), none, []⟩,
     ⟨some 177, .bin .eql (.t 176) (.c (.int .i64 0)), none, []⟩,
     ⟨some 178, .mv (.t 177), none, []⟩,
     ⟨some 179, .fa 1 (.t 4), some (178, true), []⟩,
     ⟨some 180, .load false 1 (.t 179), some (178, true), []⟩,
     ⟨some 181, .len (.t 180), some (178, true), []⟩,
     ⟨some 182, .bin .eql (.t 181) (.c (.int .i64 0)), some (178, true), []⟩,
     ⟨some 183, .pick (.t 178) (.t 182) (.c (.bool false)), none, []⟩,
     ⟨some 184, .mv (.t 183), none, []⟩,
     ⟨some 185, .mv (.t 8), some (184, true), []⟩,
     ⟨some 186, .mv (.t 6), some (184, true), []⟩,
     ⟨some 187, .call 16 [.t 185, .t 186], some (184, true), []⟩,
     ⟨some 188, .pick (.t 184) (.t 187) (.c (.bool false)), none, []⟩,
     ⟨some 2, .mv (.t 188), none, []⟩] none) <|
  .ret
abbrev n_law27_OrdersLines : Nat := 3
theorem b_law27_OrdersLines : bodyOf prog 3 [1000000] = some (c_law27_OrdersLines, [.t 2], 189) := by kernel_rfl

def c_law27_OrdersLimits : ACode :=
  .seq (.region [
     ⟨some 4, .mv (.c (.bool false)), none, []⟩] none) <|
  .seq (.seq (.region [
      ⟨some 26, .call 7 [], none, []⟩,
      ⟨some 27, .un .not (.t 26), none, []⟩] none) <|
   .cond (.t 27) (.seq (.region [
       ⟨some 4, .mv (.c (.bool false)), none, []⟩] none) <|
    .ret) <|
   .skip) <|
  .seq (.region [
     ⟨some 28, .mv (.t 0), none, []⟩,
     ⟨some 29, .conv .i64 (.t 28), none, []⟩,
     ⟨some 30, .bin .add (.c (.int .i64 1)) (.t 29), none, []⟩,
     ⟨some 31, .build [.int .i64 0, .nil] [(0, 1, .t 30)], none, []⟩,
     ⟨some 5, .alloc 2 29 (.agg [.int .i64 0, .nil]), none, []⟩,
     ⟨none, .store 2 (.t 5) (.t 31), none, []⟩] none) <|
  .seq (.region [
     ⟨some 32, .mv (.t 0), none, []⟩,
     ⟨some 33, .conv .i64 (.t 32), none, []⟩,
     ⟨some 34, .build [.int .i64 0, .nil] [(0, 1, .t 33)], none, []⟩,
     ⟨some 6, .alloc 2 31 (.agg [.int .i64 0, .nil]), none, []⟩,
     ⟨none, .store 2 (.t 6) (.t 34), none, []⟩] none) <|
  .seq (.seq (.region [
      ⟨some 7, .mv (.c (.int .i64 0)), none, []⟩] none) <|
   .block 0 <|
   .loop <|
   .seq (.seq (.region [
       ⟨some 35, .mv (.t 7), none, []⟩,
       ⟨some 36, .bin .lss (.t 35) (.c (.int .i64 64)), none, []⟩] none) <|
    .cond (.t 36) (.skip) <|
    .exit 0) <|
   .seq (.block 1 <|
    .seq (.region [
       ⟨some 40, .load true 2 (.t 5), none, []⟩,
       ⟨some 41, .mv (.t 7), none, []⟩,
       ⟨some 42, .bin .rem (.t 41) (.c (.int .i64 6)), none, []⟩,
       ⟨some 43, .mv (.t 7), none, []⟩,
       ⟨some 44, .bin .rem (.t 43) (.c (.int .i64 2)), none, []⟩,
       ⟨some 45, .call 12 [.t 40, .c (.int .i64 3), .t 42, .t 44], none, []⟩,
       ⟨some 39, .mv (.t 45), none, []⟩,
       ⟨some 46, .ext (.t 39) 0, none, []⟩,
       ⟨some 47, .ext (.t 39) 1, none, []⟩,
       ⟨some 48, .ext (.t 39) 2, none, []⟩,
       ⟨some 8, .alloc 2 29 (.agg [.int .i64 0, .nil]), none, []⟩,
       ⟨some 9, .alloc 4 36 (.agg [.int .i64 0, .int .i64 0, .int .i64 0, .int .i64 0]), none, []⟩,
       ⟨none, .store 2 (.t 8) (.t 46), none, []⟩,
       ⟨none, .store 4 (.t 9) (.t 47), none, []⟩,
       ⟨some 10, .mv (.t 48), none, []⟩] none) <|
    .seq (.seq (.region [
        ⟨some 49, .mv (.t 10), none, []⟩,
        ⟨some 50, .bin .neq (.t 49) (.c (.int .i64 0)), none, []⟩] none) <|
     .cond (.t 50) (.seq (.region [
         ⟨some 4, .mv (.c (.bool false)), none, []⟩] none) <|
      .ret) <|
     .skip) <|
    .seq (.region [
       ⟨some 51, .load true 2 (.t 8), none, []⟩,
       ⟨none, .store 2 (.t 5) (.t 51), none, []⟩] none) <|
    .seq (.region [
       ⟨some 52, .fa 0 (.t 9), none, []⟩,
       ⟨some 53, .load false 1 (.t 52), none, []⟩,
       ⟨some 54, .mv (.t 1), none, []⟩,
       ⟨some 55, .conv .i64 (.t 54), none, []⟩,
       ⟨some 56, .bin .add (.c (.int .i64 1)) (.t 55), none, []⟩,
       ⟨some 57, .bin .add (.t 53) (.t 56), none, []⟩,
       ⟨some 58, .fa 0 (.t 9), none, []⟩,
       ⟨none, .store 1 (.t 58) (.t 57), none, []⟩] none) <|
    .seq (.region [
       ⟨some 60, .load true 2 (.t 6), none, []⟩,
       ⟨some 61, .load true 4 (.t 9), none, []⟩,
       ⟨some 62, .call 13 [.t 60, .t 61], none, []⟩,
       ⟨some 59, .mv (.t 62), none, []⟩,
       ⟨some 63, .ext (.t 59) 0, none, []⟩,
       ⟨some 64, .ext (.t 59) 1, none, []⟩,
       ⟨some 65, .ext (.t 59) 2, none, []⟩,
       ⟨some 66, .ext (.t 59) 3, none, []⟩,
       ⟨some 11, .alloc 2 31 (.agg [.int .i64 0, .nil]), none, []⟩,
       ⟨none, .store 2 (.t 11) (.t 63), none, []⟩,
       ⟨some 12, .mv (.t 64), none, []⟩,
       ⟨some 13, .mv (.t 65), none, []⟩,
       ⟨some 14, .mv (.t 66), none, []⟩] none) <|
    .seq (.seq (.region [
        ⟨some 67, .mv (.t 14), none, []⟩,
        ⟨some 68, .bin .neq (.t 67) (.c (.int .i64 0)), none, []⟩,
        ⟨some 69, .mv (.t 68), none, []⟩,
        ⟨some 70, .mv (.t 12), some (69, false), []⟩,
        ⟨some 71, .len (.t 70), some (69, false), []⟩,
        ⟨some 72, .bin .neq (.t 71) (.c (.int .i64 0)), some (69, false), []⟩,
        ⟨some 73, .pick (.t 69) (.c (.bool true)) (.t 72), none, []⟩,
        ⟨some 74, .mv (.t 73), none, []⟩,
        ⟨some 75, .mv (.t 13), some (74, false), []⟩,
        ⟨some 76, .mv (.t 0), some (74, false), []⟩,
        ⟨some 77, .conv .i64 (.t 76), some (74, false), []⟩,
        ⟨some 78, .bin .neq (.t 75) (.t 77), some (74, false), []⟩,
        ⟨some 79, .pick (.t 74) (.c (.bool true)) (.t 78), none, []⟩] none) <|
     .cond (.t 79) (.seq (.region [
         ⟨some 4, .mv (.c (.bool false)), none, []⟩] none) <|
      .ret) <|
     .skip) <|
    .region [
      ⟨some 80, .load true 2 (.t 11), none, []⟩,
      ⟨none, .store 2 (.t 6) (.t 80), none, []⟩] none) <|
   .region [
     ⟨some 37, .mv (.t 7), none, []⟩,
     ⟨some 38, .bin .add (.t 37) (.c (.int .i64 1)), none, []⟩,
     ⟨some 7, .mv (.t 38), none, []⟩] none) <|
  .seq (.region [
     ⟨some 82, .load true 2 (.t 5), none, []⟩,
     ⟨some 83, .call 12 [.t 82, .c (.int .i64 3), .c (.int .i64 0), .c (.int .i64 0)], none, []⟩,
     ⟨some 81, .mv (.t 83), none, []⟩,
     ⟨some 84, .ext (.t 81) 0, none, []⟩,
     ⟨some 85, .ext (.t 81) 1, none, []⟩,
     ⟨some 86, .ext (.t 81) 2, none, []⟩,
     ⟨some 15, .alloc 2 29 (.agg [.int .i64 0, .nil]), none, []⟩,
     ⟨some 16, .alloc 4 36 (.agg [.int .i64 0, .int .i64 0, .int .i64 0, .int .i64 0]), none, []⟩,
     ⟨none, .store 2 (.t 15) (.t 84), none, []⟩,
     ⟨none, .store 4 (.t 16) (.t 85), none, []⟩,
     ⟨some 17, .mv (.t 86), none, []⟩] none) <|
  .seq (.region [
     ⟨some 88, .load true 2 (.t 6), none, []⟩,
     ⟨some 89, .build [.int .i64 0, .int .i64 0, .int .i64 0, .int .i64 0] [(0, 1, .c (.int .i64 1048576)), (1, 1, .c (.int .i64 3))], none, []⟩,
     ⟨some 90, .call 13 [.t 88, .t 89], none, []⟩,
     ⟨some 87, .mv (.t 90), none, []⟩,
     ⟨some 91, .ext (.t 87) 0, none, []⟩,
     ⟨some 92, .ext (.t 87) 1, none, []⟩,
     ⟨some 93, .ext (.t 87) 2, none, []⟩,
     ⟨some 94, .ext (.t 87) 3, none, []⟩,
     ⟨some 18, .alloc 2 31 (.agg [.int .i64 0, .nil]), none, []⟩,
     ⟨none, .store 2 (.t 18) (.t 91), none, []⟩,
     ⟨some 19, .mv (.t 92), none, []⟩,
     ⟨some 20, .mv (.t 93), none, []⟩,
     ⟨some 21, .mv (.t 94), none, []⟩] none) <|
  .seq (.hregion [
     ⟨3, ⟨some 99, .fa 1 (.t 6), none, []⟩⟩,
     ⟨4, ⟨some 100, .load false 1 (.t 99), none, [3]⟩⟩,
     ⟨5, ⟨some 101, .len (.t 100), none, [4, 3]⟩⟩,
     ⟨6, ⟨some 102, .bin .sub (.t 101) (.c (.int .i64 1)), none, [5, 4, 3]⟩⟩,
     ⟨1, ⟨some 97, .fa 1 (.t 6), none, []⟩⟩,
     ⟨2, ⟨some 98, .load false 1 (.t 97), none, [1]⟩⟩,
     ⟨7, ⟨some 103, .ixs 4 (.t 98) (.t 102), none, [2, 6, 1, 5, 4, 3]⟩⟩,
     ⟨8, ⟨some 104, .load true 4 (.t 103), none, [7, 2, 6, 1, 5, 4, 3]⟩⟩,
     ⟨0, ⟨some 96, .load true 2 (.t 6), none, []⟩⟩,
     ⟨9, ⟨some 105, .call 13 [.t 96, .t 104], none, [0, 8, 7, 2, 6, 1, 5, 4, 3]⟩⟩,
     ⟨10, ⟨some 95, .mv (.t 105), none, [9, 0, 8, 7, 2, 6, 1, 5, 4, 3]⟩⟩,
     ⟨14, ⟨some 109, .ext (.t 95) 3, none, [10, 9, 0, 8, 7, 2, 6, 1, 5, 4, 3]⟩⟩,
     ⟨13, ⟨some 108, .ext (.t 95) 2, none, [10, 9, 0, 8, 7, 2, 6, 1, 5, 4, 3]⟩⟩,
     ⟨12, ⟨some 107, .ext (.t 95) 1, none, [10, 9, 0, 8, 7, 2, 6, 1, 5, 4, 3]⟩⟩,
     ⟨11, ⟨some 106, .ext (.t 95) 0, none, [10, 9, 0, 8, 7, 2, 6, 1, 5, 4, 3]⟩⟩,
     ⟨15, ⟨some 22, .alloc 2 31 (.agg [.int .i64 0, .nil]), none, []⟩⟩,
     ⟨16, ⟨none, .store 2 (.t 22) (.t 106), none, [15, 11, 9, 0, 1, 2, 3, 4, 5, 6, 7, 8, 10]⟩⟩,
     ⟨17, ⟨some 23, .mv (.t 107), none, [12, 16, 0, 1, 2, 3, 4, 5, 6, 7, 8, 9, 10, 11, 15]⟩⟩,
     ⟨18, ⟨some 24, .mv (.t 108), none, [13, 17, 0, 1, 2, 3, 4, 5, 6, 7, 8, 9, 10, 11, 12, 15, 16]⟩⟩,
     ⟨19, ⟨some 25, .mv (.t 109), none, [14, 18, 0, 1, 2, 3, 4, 5, 6, 7, 8, 9, 10, 11, 12, 13, 15, 16, 17]⟩⟩]) <|
  .seq (.region [
     ⟨some 110, .mv (.t 17), none, []⟩,
     ⟨some 111, .bin .eql (.t 110) (.c (.int .i64 10)), none, []⟩,
     ⟨some 112, .mv (.t 111), none, []⟩,
     ⟨some 113, .mv (.t 21), some (112, true), []⟩,
     ⟨some 114, .bin .eql (.t 113) (.c (.int .i64 10)), some (112, true), []⟩,
     ⟨some 115, .pick (.t 112) (.t 114) (.c (.bool false)), none, []⟩,
     ⟨some 116, .mv (.t 115), none, []⟩,
     ⟨some 117, .mv (.t 25), some (116, true), []⟩,
     ⟨some 118, .bin .eql (.t 117) (.c (.int .i64 0)), some (116, true), []⟩,
     ⟨some 119, .pick (.t 116) (.t 118) (.c (.bool false)), none, []⟩,
     ⟨some 120, .mv (.t 119), none, []⟩,
     ⟨some 121, .load true 2 (.t 5), some (120, true), []⟩,
     ⟨some 122, .call 17 [.t 121], some (120, true), []⟩,
     ⟨some 123, .pick (.t 120) (.t 122) (.c (.bool false)), none, []⟩,
     ⟨some 124, .mv (.t 123), none, []⟩,
     ⟨some 125, .load true 2 (.t 6), some (124, true), []⟩,
     ⟨some 126, .call 18 [.t 125], some (124, true), []⟩,
     ⟨some 127, .pick (.t 124) (.t 126) (.c (.bool false)), none, []⟩,
     ⟨some 4, .mv (.t 127), none, []⟩] none) <|
  .ret
abbrev n_law27_OrdersLimits : Nat := 4
theorem b_law27_OrdersLimits : bodyOf prog 4 [1000000] = some (c_law27_OrdersLimits, [.t 4], 128) := by kernel_rfl

def c_law27_OrdersDoes : ACode :=
  .seq (.region [
     ⟨some 6, .box 2 29 (.t 1), none, []⟩,
     ⟨some 7, .box 2 31 (.t 2), none, []⟩,
     ⟨some 8, .box 4 36 (.t 3), none, []⟩,
     ⟨some 10, .mv (.c (.bool false)), none, []⟩] none) <|
  .seq (.seq (.region [
      ⟨some 43, .call 7 [], none, []⟩,
      ⟨some 44, .un .not (.t 43), none, []⟩] none) <|
   .cond (.t 44) (.seq (.region [
       ⟨some 10, .mv (.c (.bool false)), none, []⟩] none) <|
    .ret) <|
   .skip) <|
  .seq (.seq (.region [
      ⟨some 45, .mv (.t 0), none, []⟩,
      ⟨some 46, .call 8 [.t 45], none, []⟩,
      ⟨some 47, .un .not (.t 46), none, []⟩,
      ⟨some 48, .mv (.t 47), none, []⟩,
      ⟨some 49, .fa 1 (.t 6), some (48, false), []⟩,
      ⟨some 50, .load false 1 (.t 49), some (48, false), []⟩,
      ⟨some 51, .len (.t 50), some (48, false), []⟩,
      ⟨some 52, .fa 1 (.t 7), some (48, false), []⟩,
      ⟨some 53, .load false 1 (.t 52), some (48, false), []⟩,
      ⟨some 54, .len (.t 53), some (48, false), []⟩,
      ⟨some 55, .bin .add (.t 51) (.t 54), some (48, false), []⟩,
      ⟨some 56, .bin .gtr (.t 55) (.c (.int .i64 300)), some (48, false), []⟩,
      ⟨some 57, .pick (.t 48) (.c (.bool true)) (.t 56), none, []⟩] none) <|
   .cond (.t 57) (.seq (.region [
       ⟨some 10, .mv (.c (.bool true)), none, []⟩] none) <|
    .ret) <|
   .skip) <|
  .seq (.region [
     ⟨some 58, .mv (.t 0), none, []⟩,
     ⟨some 59, .call 9 [.t 58], none, []⟩,
     ⟨some 11, .mv (.t 59), none, []⟩] none) <|
  .seq (.region [
     ⟨some 61, .mv (.t 11), none, []⟩,
     ⟨some 62, .call 19 [.t 61], none, []⟩,
     ⟨some 60, .mv (.t 62), none, []⟩,
     ⟨some 63, .ext (.t 60) 0, none, []⟩,
     ⟨some 64, .ext (.t 60) 1, none, []⟩,
     ⟨some 12, .alloc 2 29 (.agg [.int .i64 0, .nil]), none, []⟩,
     ⟨some 13, .alloc 2 31 (.agg [.int .i64 0, .nil]), none, []⟩,
     ⟨none, .store 2 (.t 12) (.t 63), none, []⟩,
     ⟨none, .store 2 (.t 13) (.t 64), none, []⟩] none) <|
  .seq (.region [
     ⟨some 65, .mv (.t 11), none, []⟩,
     ⟨some 66, .mv (.t 11), none, []⟩,
     ⟨some 67, .call 10 [.t 66, .c (.int .i64 12)], none, []⟩,
     ⟨some 68, .bin .add (.c (.int .i64 1)) (.t 67), none, []⟩,
     ⟨some 69, .call 11 [.t 65, .t 68], none, []⟩,
     ⟨some 14, .alloc 4 36 (.agg [.int .i64 0, .int .i64 0, .int .i64 0, .int .i64 0]), none, []⟩,
     ⟨none, .store 4 (.t 14) (.t 69), none, []⟩] none) <|
  .seq (.seq (.region [
      ⟨some 70, .load true 2 (.t 6), none, []⟩,
      ⟨some 71, .load true 2 (.t 12), none, []⟩,
      ⟨some 72, .lit false 2 29 [.t 70, .t 71], none, []⟩,
      ⟨some 73, .len (.t 72), none, []⟩,
      ⟨some 74, .mv (.c (.int .i64 0)), none, []⟩] none) <|
   .block 0 <|
   .loop <|
   .seq (.region [
      ⟨some 75, .bin .lss (.t 74) (.t 73), none, []⟩] none) <|
   .seq (.cond (.t 75) (.skip) <|
    .exit 0) <|
   .seq (.block 1 <|
    .seq (.region [
       ⟨some 76, .ixs 2 (.t 72) (.t 74), none, []⟩,
       ⟨some 77, .load true 2 (.t 76), none, []⟩,
       ⟨some 16, .alloc 2 29 (.agg [.int .i64 0, .nil]), none, []⟩,
       ⟨none, .store 2 (.t 16) (.t 77), none, []⟩] none) <|
    .seq (.seq (.hregion [
        ⟨2, ⟨some 80, .load true 2 (.t 16), none, []⟩⟩,
        ⟨0, ⟨some 78, .load true 2 (.t 16), none, []⟩⟩,
        ⟨1, ⟨some 79, .call 17 [.t 78], none, [0]⟩⟩,
        ⟨3, ⟨some 81, .call 20 [.t 80], none, [2, 1, 0]⟩⟩,
        ⟨4, ⟨some 82, .eqb true (.t 79) (.t 81), none, [1, 3, 0, 2]⟩⟩,
        ⟨5, ⟨some 83, .mv (.t 82), none, [4, 3, 1, 0, 2]⟩⟩,
        ⟨10, ⟨some 88, .load true 2 (.t 12), some (83, false), [5, 4, 3, 1, 0, 2]⟩⟩,
        ⟨9, ⟨some 87, .load true 2 (.t 16), some (83, false), [5, 4, 3, 1, 0, 2]⟩⟩,
        ⟨7, ⟨some 85, .load true 2 (.t 12), some (83, false), [5, 4, 3, 1, 0, 2]⟩⟩,
        ⟨6, ⟨some 84, .load true 2 (.t 16), some (83, false), [5, 4, 3, 1, 0, 2]⟩⟩,
        ⟨8, ⟨some 86, .call 21 [.t 84, .t 85], some (83, false), [6, 7, 5, 4, 3, 1, 0, 2]⟩⟩,
        ⟨11, ⟨some 89, .call 22 [.t 87, .t 88], some (83, false), [9, 10, 8, 5, 4, 3, 1, 0, 2, 6, 7]⟩⟩,
        ⟨12, ⟨some 90, .eqb true (.t 86) (.t 89), some (83, false), [8, 11, 5, 6, 7, 4, 3, 1, 0, 2, 9, 10]⟩⟩,
        ⟨13, ⟨some 91, .pick (.t 83) (.c (.bool true)) (.t 90), none, [5, 12, 4, 3, 1, 0, 2, 8, 11, 6, 7, 9, 10]⟩⟩]) <|
     .cond (.t 91) (.seq (.region [
         ⟨some 10, .mv (.c (.bool false)), none, []⟩] none) <|
      .ret) <|
     .skip) <|
    .seq (.seq (.region [
        ⟨some 92, .load true 4 (.t 8), none, []⟩,
        ⟨some 93, .load true 4 (.t 14), none, []⟩,
        ⟨some 94, .lit false 4 36 [.t 92, .t 93], none, []⟩,
        ⟨some 95, .len (.t 94), none, []⟩,
        ⟨some 96, .mv (.c (.int .i64 0)), none, []⟩] none) <|
     .block 2 <|
     .loop <|
     .seq (.region [
        ⟨some 97, .bin .lss (.t 96) (.t 95), none, []⟩] none) <|
     .seq (.cond (.t 97) (.skip) <|
      .exit 2) <|
     .seq (.block 3 <|
      .seq (.region [
         ⟨some 98, .ixs 4 (.t 94) (.t 96), none, []⟩,
         ⟨some 99, .load true 4 (.t 98), none, []⟩,
         ⟨some 18, .alloc 4 36 (.agg [.int .i64 0, .int .i64 0, .int .i64 0, .int .i64 0]), none, []⟩,
         ⟨none, .store 4 (.t 18) (.t 99), none, []⟩] none) <|
      .seq (.region [
         ⟨some 101, .load true 2 (.t 16), none, []⟩,
         ⟨some 102, .fa 1 (.t 18), none, []⟩,
         ⟨some 103, .load false 1 (.t 102), none, []⟩,
         ⟨some 104, .fa 2 (.t 18), none, []⟩,
         ⟨some 105, .load false 1 (.t 104), none, []⟩,
         ⟨some 106, .fa 3 (.t 18), none, []⟩,
         ⟨some 107, .load false 1 (.t 106), none, []⟩,
         ⟨some 108, .call 12 [.t 101, .t 103, .t 105, .t 107], none, []⟩,
         ⟨some 100, .mv (.t 108), none, []⟩,
         ⟨some 109, .ext (.t 100) 0, none, []⟩,
         ⟨some 110, .ext (.t 100) 1, none, []⟩,
         ⟨some 111, .ext (.t 100) 2, none, []⟩,
         ⟨some 19, .alloc 2 29 (.agg [.int .i64 0, .nil]), none, []⟩,
         ⟨some 20, .alloc 4 36 (.agg [.int .i64 0, .int .i64 0, .int .i64 0, .int .i64 0]), none, []⟩,
         ⟨none, .store 2 (.t 19) (.t 109), none, []⟩,
         ⟨none, .store 4 (.t 20) (.t 110), none, []⟩,
         ⟨some 21, .mv (.t 111), none, []⟩] none) <|
      .seq (.region [
         ⟨some 113, .load true 2 (.t 16), none, []⟩,
         ⟨some 114, .fa 1 (.t 18), none, []⟩,
         ⟨some 115, .load false 1 (.t 114), none, []⟩,
         ⟨some 116, .fa 2 (.t 18), none, []⟩,
         ⟨some 117, .load false 1 (.t 116), none, []⟩,
         ⟨some 118, .fa 3 (.t 18), none, []⟩,
         ⟨some 119, .load false 1 (.t 118), none, []⟩,
         ⟨some 120, .call 23 [.t 113, .t 115, .t 117, .t 119], none, []⟩,
         ⟨some 112, .mv (.t 120), none, []⟩,
         ⟨some 121, .ext (.t 112) 0, none, []⟩,
         ⟨some 122, .ext (.t 112) 1, none, []⟩,
         ⟨some 123, .ext (.t 112) 2, none, []⟩,
         ⟨some 22, .alloc 2 29 (.agg [.int .i64 0, .nil]), none, []⟩,
         ⟨some 23, .alloc 4 36 (.agg [.int .i64 0, .int .i64 0, .int .i64 0, .int .i64 0]), none, []⟩,
         ⟨none, .store 2 (.t 22) (.t 121), none, []⟩,
         ⟨none, .store 4 (.t 23) (.t 122), none, []⟩,
         ⟨some 24, .mv (.t 123), none, []⟩] none) <|
      .seq (.region [
         ⟨some 124, .mv (.t 21), none, []⟩,
         ⟨some 125, .mv (.t 24), none, []⟩,
         ⟨some 126, .bin .neq (.t 124) (.t 125), none, []⟩,
         ⟨some 127, .mv (.t 126), none, []⟩,
         ⟨some 128, .load true 4 (.t 20), some (127, false), []⟩,
         ⟨some 129, .load true 4 (.t 23), some (127, false), []⟩,
         ⟨some 130, .eqs true [0, 0, 0, 0] (.t 128) (.t 129), some (127, false), []⟩,
         ⟨some 131, .pick (.t 127) (.c (.bool true)) (.t 130), none, []⟩,
         ⟨some 132, .mv (.t 131), none, []⟩,
         ⟨some 133, .load true 2 (.t 19), some (132, false), []⟩,
         ⟨some 134, .load true 2 (.t 22), some (132, false), []⟩,
         ⟨some 135, .call 22 [.t 133, .t 134], some (132, false), []⟩,
         ⟨some 136, .un .not (.t 135), some (132, false), []⟩,
         ⟨some 137, .pick (.t 132) (.c (.bool true)) (.t 136), none, []⟩] none) <|
      .cond (.t 137) (.seq (.region [
          ⟨some 10, .mv (.c (.bool false)), none, []⟩] none) <|
       .ret) <|
      .skip) <|
     .region [
       ⟨some 138, .bin .add (.t 96) (.c (.int .i64 1)), none, []⟩,
       ⟨some 96, .mv (.t 138), none, []⟩] none) <|
    .seq (.hregion [
       ⟨10, ⟨some 149, .mv (.c (.int .i64 0)), none, []⟩⟩,
       ⟨5, ⟨some 144, .fa 0 (.t 16), none, []⟩⟩,
       ⟨6, ⟨some 145, .load false 1 (.t 144), none, [5]⟩⟩,
       ⟨7, ⟨some 146, .bin .sub (.t 145) (.c (.int .i64 1)), none, [6, 5]⟩⟩,
       ⟨3, ⟨some 142, .fa 0 (.t 16), none, []⟩⟩,
       ⟨4, ⟨some 143, .load false 1 (.t 142), none, [3]⟩⟩,
       ⟨1, ⟨some 140, .mv (.t 4), none, []⟩⟩,
       ⟨0, ⟨some 139, .mv (.t 4), none, []⟩⟩,
       ⟨2, ⟨some 141, .call 15 [.t 140, .c (.int .i64 16)], none, [1]⟩⟩,
       ⟨8, ⟨some 147, .lit false 1 3 [.t 139, .t 141, .t 143, .t 146], none, [0, 2, 4, 7, 1, 3, 6, 5]⟩⟩,
       ⟨9, ⟨some 148, .len (.t 147), none, [8, 0, 2, 4, 7, 1, 3, 6, 5]⟩⟩]) <|
    .block 4 <|
    .loop <|
    .seq (.region [
       ⟨some 150, .bin .lss (.t 149) (.t 148), none, []⟩] none) <|
    .seq (.cond (.t 150) (.skip) <|
     .exit 4) <|
    .seq (.block 5 <|
     .seq (.region [
        ⟨some 151, .ixs 1 (.t 147) (.t 149), none, []⟩,
        ⟨some 152, .load false 1 (.t 151), none, []⟩,
        ⟨some 26, .mv (.t 152), none, []⟩] none) <|
     .seq (.region [
        ⟨some 154, .load true 2 (.t 16), none, []⟩,
        ⟨some 155, .mv (.t 26), none, []⟩,
        ⟨some 156, .call 14 [.t 154, .t 155], none, []⟩,
        ⟨some 153, .mv (.t 156), none, []⟩,
        ⟨some 157, .ext (.t 153) 0, none, []⟩,
        ⟨some 158, .ext (.t 153) 1, none, []⟩,
        ⟨some 27, .alloc 2 29 (.agg [.int .i64 0, .nil]), none, []⟩,
        ⟨none, .store 2 (.t 27) (.t 157), none, []⟩,
        ⟨some 28, .mv (.t 158), none, []⟩] none) <|
     .seq (.region [
        ⟨some 160, .load true 2 (.t 16), none, []⟩,
        ⟨some 161, .mv (.t 26), none, []⟩,
        ⟨some 162, .call 24 [.t 160, .t 161], none, []⟩,
        ⟨some 159, .mv (.t 162), none, []⟩,
        ⟨some 163, .ext (.t 159) 0, none, []⟩,
        ⟨some 164, .ext (.t 159) 1, none, []⟩,
        ⟨some 29, .alloc 2 29 (.agg [.int .i64 0, .nil]), none, []⟩,
        ⟨none, .store 2 (.t 29) (.t 163), none, []⟩,
        ⟨some 30, .mv (.t 164), none, []⟩] none) <|
     .seq (.region [
        ⟨some 165, .mv (.t 28), none, []⟩,
        ⟨some 166, .mv (.t 30), none, []⟩,
        ⟨some 167, .bin .neq (.t 165) (.t 166), none, []⟩,
        ⟨some 168, .mv (.t 167), none, []⟩,
        ⟨some 169, .load true 2 (.t 27), some (168, false), []⟩,
        ⟨some 170, .load true 2 (.t 29), some (168, false), []⟩,
        ⟨some 171, .call 22 [.t 169, .t 170], some (168, false), []⟩,
        ⟨some 172, .un .not (.t 171), some (168, false), []⟩,
        ⟨some 173, .pick (.t 168) (.c (.bool true)) (.t 172), none, []⟩] none) <|
     .cond (.t 173) (.seq (.region [
         ⟨some 10, .mv (.c (.bool false)), none, []⟩] none) <|
      .ret) <|
     .skip) <|
    .region [
      ⟨some 174, .bin .add (.t 149) (.c (.int .i64 1)), none, []⟩,
      ⟨some 149, .mv (.t 174), none, []⟩] none) <|
   .region [
     ⟨some 175, .bin .add (.t 74) (.c (.int .i64 1)), none, []⟩,
     ⟨some 74, .mv (.t 175), none, []⟩] none) <|
  .seq (.seq (.region [
      ⟨some 176, .load true 2 (.t 7), none, []⟩,
      ⟨some 177, .load true 2 (.t 13), none, []⟩,
      ⟨some 178, .lit false 2 31 [.t 176, .t 177], none, []⟩,
      ⟨some 179, .len (.t 178), none, []⟩,
      ⟨some 180, .mv (.c (.int .i64 0)), none, []⟩] none) <|
   .block 6 <|
   .loop <|
   .seq (.region [
      ⟨some 181, .bin .lss (.t 180) (.t 179), none, []⟩] none) <|
   .seq (.cond (.t 181) (.skip) <|
    .exit 6) <|
   .seq (.block 7 <|
    .seq (.region [
       ⟨some 182, .ixs 2 (.t 178) (.t 180), none, []⟩,
       ⟨some 183, .load true 2 (.t 182), none, []⟩,
       ⟨some 32, .alloc 2 31 (.agg [.int .i64 0, .nil]), none, []⟩,
       ⟨none, .store 2 (.t 32) (.t 183), none, []⟩] none) <|
    .seq (.seq (.hregion [
        ⟨2, ⟨some 186, .load true 2 (.t 32), none, []⟩⟩,
        ⟨0, ⟨some 184, .load true 2 (.t 32), none, []⟩⟩,
        ⟨1, ⟨some 185, .call 18 [.t 184], none, [0]⟩⟩,
        ⟨3, ⟨some 187, .call 25 [.t 186], none, [2, 1, 0]⟩⟩,
        ⟨4, ⟨some 188, .eqb true (.t 185) (.t 187), none, [1, 3, 0, 2]⟩⟩,
        ⟨5, ⟨some 189, .mv (.t 188), none, [4, 3, 1, 0, 2]⟩⟩,
        ⟨10, ⟨some 194, .load true 2 (.t 13), some (189, false), [5, 4, 3, 1, 0, 2]⟩⟩,
        ⟨9, ⟨some 193, .load true 2 (.t 32), some (189, false), [5, 4, 3, 1, 0, 2]⟩⟩,
        ⟨7, ⟨some 191, .load true 2 (.t 13), some (189, false), [5, 4, 3, 1, 0, 2]⟩⟩,
        ⟨6, ⟨some 190, .load true 2 (.t 32), some (189, false), [5, 4, 3, 1, 0, 2]⟩⟩,
        ⟨8, ⟨some 192, .call 26 [.t 190, .t 191], some (189, false), [6, 7, 5, 4, 3, 1, 0, 2]⟩⟩,
        ⟨11, ⟨some 195, .call 27 [.t 193, .t 194], some (189, false), [9, 10, 8, 5, 4, 3, 1, 0, 2, 6, 7]⟩⟩,
        ⟨12, ⟨some 196, .eqb true (.t 192) (.t 195), some (189, false), [8, 11, 5, 6, 7, 4, 3, 1, 0, 2, 9, 10]⟩⟩,
        ⟨13, ⟨some 197, .pick (.t 189) (.c (.bool true)) (.t 196), none, [5, 12, 4, 3, 1, 0, 2, 8, 11, 6, 7, 9, 10]⟩⟩]) <|
     .cond (.t 197) (.seq (.region [
         ⟨some 10, .mv (.c (.bool false)), none, []⟩] none) <|
      .ret) <|
     .skip) <|
    .seq (.region [
       ⟨some 198, .load true 4 (.t 8), none, []⟩,
       ⟨some 199, .load true 4 (.t 14), none, []⟩,
       ⟨some 200, .fa 0 (.t 32), none, []⟩,
       ⟨some 201, .load false 1 (.t 200), none, []⟩,
       ⟨some 202, .bin .add (.t 201) (.c (.int .i64 1)), none, []⟩,
       ⟨some 203, .build [.int .i64 0, .int .i64 0, .int .i64 0, .int .i64 0] [(0, 1, .t 202), (1, 1, .c (.int .i64 1))], none, []⟩,
       ⟨some 204, .lit false 4 36 [.t 198, .t 199, .t 203], none, []⟩,
       ⟨some 205, .len (.t 204), none, []⟩,
       ⟨some 206, .mv (.c (.int .i64 0)), none, []⟩] none) <|
    .block 8 <|
    .loop <|
    .seq (.region [
       ⟨some 207, .bin .lss (.t 206) (.t 205), none, []⟩] none) <|
    .seq (.cond (.t 207) (.skip) <|
     .exit 8) <|
    .seq (.block 9 <|
     .seq (.region [
        ⟨some 208, .ixs 4 (.t 204) (.t 206), none, []⟩,
        ⟨some 209, .load true 4 (.t 208), none, []⟩,
        ⟨some 34, .alloc 4 36 (.agg [.int .i64 0, .int .i64 0, .int .i64 0, .int .i64 0]), none, []⟩,
        ⟨none, .store 4 (.t 34) (.t 209), none, []⟩] none) <|
     .seq (.region [
        ⟨some 211, .load true 2 (.t 32), none, []⟩,
        ⟨some 212, .load true 4 (.t 34), none, []⟩,
        ⟨some 213, .call 13 [.t 211, .t 212], none, []⟩,
        ⟨some 210, .mv (.t 213), none, []⟩,
        ⟨some 214, .ext (.t 210) 0, none, []⟩,
        ⟨some 215, .ext (.t 210) 1, none, []⟩,
        ⟨some 216, .ext (.t 210) 2, none, []⟩,
        ⟨some 217, .ext (.t 210) 3, none, []⟩,
        ⟨some 35, .alloc 2 31 (.agg [.int .i64 0, .nil]), none, []⟩,
        ⟨none, .store 2 (.t 35) (.t 214), none, []⟩,
        ⟨some 36, .mv (.t 215), none, []⟩,
        ⟨some 37, .mv (.t 216), none, []⟩,
        ⟨some 38, .mv (.t 217), none, []⟩] none) <|
     .seq (.region [
        ⟨some 219, .load true 2 (.t 32), none, []⟩,
        ⟨some 220, .load true 4 (.t 34), none, []⟩,
        ⟨some 221, .call 28 [.t 219, .t 220], none, []⟩,
        ⟨some 218, .mv (.t 221), none, []⟩,
        ⟨some 222, .ext (.t 218) 0, none, []⟩,
        ⟨some 223, .ext (.t 218) 1, none, []⟩,
        ⟨some 224, .ext (.t 218) 2, none, []⟩,
        ⟨some 225, .ext (.t 218) 3, none, []⟩,
        ⟨some 39, .alloc 2 31 (.agg [.int .i64 0, .nil]), none, []⟩,
        ⟨none, .store 2 (.t 39) (.t 222), none, []⟩,
        ⟨some 40, .mv (.t 223), none, []⟩,
        ⟨some 41, .mv (.t 224), none, []⟩,
        ⟨some 42, .mv (.t 225), none, []⟩] none) <|
     .seq (.region [
        ⟨some 226, .mv (.t 38), none, []⟩,
        ⟨some 227, .mv (.t 42), none, []⟩,
        ⟨some 228, .bin .neq (.t 226) (.t 227), none, []⟩,
        ⟨some 229, .mv (.t 228), none, []⟩,
        ⟨some 230, .mv (.t 37), some (229, false), []⟩,
        ⟨some 231, .mv (.t 41), some (229, false), []⟩,
        ⟨some 232, .bin .neq (.t 230) (.t 231), some (229, false), []⟩,
        ⟨some 233, .pick (.t 229) (.c (.bool true)) (.t 232), none, []⟩,
        ⟨some 234, .mv (.t 233), none, []⟩,
        ⟨some 235, .mv (.t 36), some (234, false), []⟩,
        ⟨some 236, .mv (.t 40), some (234, false), []⟩,
        ⟨some 237, .call 16 [.t 235, .t 236], some (234, false), []⟩,
        ⟨some 238, .un .not (.t 237), some (234, false), []⟩,
        ⟨some 239, .pick (.t 234) (.c (.bool true)) (.t 238), none, []⟩,
        ⟨some 240, .mv (.t 239), none, []⟩,
        ⟨some 241, .load true 2 (.t 35), some (240, false), []⟩,
        ⟨some 242, .load true 2 (.t 39), some (240, false), []⟩,
        ⟨some 243, .call 27 [.t 241, .t 242], some (240, false), []⟩,
        ⟨some 244, .un .not (.t 243), some (240, false), []⟩,
        ⟨some 245, .pick (.t 240) (.c (.bool true)) (.t 244), none, []⟩] none) <|
     .cond (.t 245) (.seq (.region [
         ⟨some 10, .mv (.c (.bool false)), none, []⟩] none) <|
      .ret) <|
     .skip) <|
    .region [
      ⟨some 246, .bin .add (.t 206) (.c (.int .i64 1)), none, []⟩,
      ⟨some 206, .mv (.t 246), none, []⟩] none) <|
   .region [
     ⟨some 247, .bin .add (.t 180) (.c (.int .i64 1)), none, []⟩,
     ⟨some 180, .mv (.t 247), none, []⟩] none) <|
  .seq (.region [
     ⟨some 10, .mv (.c (.bool true)), none, []⟩] none) <|
  .ret
abbrev n_law27_OrdersDoes : Nat := 5
theorem b_law27_OrdersDoes : bodyOf prog 5 [1000000] = some (c_law27_OrdersDoes, [.t 10], 248) := by kernel_rfl

def c_law27_OrdersTwice : ACode :=
  .seq (.region [
     ⟨some 4, .mv (.c (.bool false)), none, []⟩] none) <|
  .seq (.seq (.region [
      ⟨some 21, .call 7 [], none, []⟩,
      ⟨some 22, .un .not (.t 21), none, []⟩] none) <|
   .cond (.t 22) (.seq (.region [
       ⟨some 4, .mv (.c (.bool false)), none, []⟩] none) <|
    .ret) <|
   .skip) <|
  .seq (.seq (.region [
      ⟨some 23, .mv (.t 0), none, []⟩,
      ⟨some 24, .call 8 [.t 23], none, []⟩,
      ⟨some 25, .un .not (.t 24), none, []⟩] none) <|
   .cond (.t 25) (.seq (.region [
       ⟨some 4, .mv (.c (.bool true)), none, []⟩] none) <|
    .ret) <|
   .skip) <|
  .seq (.region [
     ⟨some 26, .mv (.t 0), none, []⟩,
     ⟨some 27, .call 9 [.t 26], none, []⟩,
     ⟨some 5, .mv (.t 27), none, []⟩] none) <|
  .seq (.region [
     ⟨some 29, .mv (.t 5), none, []⟩,
     ⟨some 30, .call 19 [.t 29], none, []⟩,
     ⟨some 28, .mv (.t 30), none, []⟩,
     ⟨some 31, .ext (.t 28) 0, none, []⟩,
     ⟨some 32, .ext (.t 28) 1, none, []⟩,
     ⟨some 6, .alloc 2 29 (.agg [.int .i64 0, .nil]), none, []⟩,
     ⟨some 7, .alloc 2 31 (.agg [.int .i64 0, .nil]), none, []⟩,
     ⟨none, .store 2 (.t 6) (.t 31), none, []⟩,
     ⟨none, .store 2 (.t 7) (.t 32), none, []⟩] none) <|
  .seq (.region [
     ⟨some 33, .mv (.t 5), none, []⟩,
     ⟨some 34, .mv (.t 1), none, []⟩,
     ⟨some 35, .bin .rem (.t 34) (.c (.int .u8 16)), none, []⟩,
     ⟨some 36, .conv .i64 (.t 35), none, []⟩,
     ⟨some 37, .bin .add (.c (.int .i64 1)) (.t 36), none, []⟩,
     ⟨some 38, .call 11 [.t 33, .t 37], none, []⟩,
     ⟨some 8, .alloc 4 36 (.agg [.int .i64 0, .int .i64 0, .int .i64 0, .int .i64 0]), none, []⟩,
     ⟨none, .store 4 (.t 8) (.t 38), none, []⟩] none) <|
  .seq (.seq (.region [
      ⟨some 40, .load true 2 (.t 7), none, []⟩,
      ⟨some 41, .load true 4 (.t 8), none, []⟩,
      ⟨some 42, .call 13 [.t 40, .t 41], none, []⟩,
      ⟨some 39, .mv (.t 42), none, []⟩,
      ⟨some 43, .ext (.t 39) 0, none, []⟩,
      ⟨some 44, .ext (.t 39) 1, none, []⟩,
      ⟨some 45, .ext (.t 39) 2, none, []⟩,
      ⟨some 46, .ext (.t 39) 3, none, []⟩,
      ⟨some 9, .alloc 2 31 (.agg [.int .i64 0, .nil]), none, []⟩,
      ⟨none, .store 2 (.t 9) (.t 43), none, []⟩,
      ⟨some 10, .mv (.t 44), none, []⟩,
      ⟨some 11, .mv (.t 45), none, []⟩,
      ⟨some 12, .mv (.t 46), none, []⟩] none) <|
   .seq (.region [
      ⟨some 47, .mv (.t 12), none, []⟩,
      ⟨some 48, .bin .eql (.t 47) (.c (.int .i64 0)), none, []⟩] none) <|
   .cond (.t 48) (.seq (.region [
       ⟨some 50, .load true 2 (.t 9), none, []⟩,
       ⟨some 51, .load true 4 (.t 8), none, []⟩,
       ⟨some 52, .call 13 [.t 50, .t 51], none, []⟩,
       ⟨some 49, .mv (.t 52), none, []⟩,
       ⟨some 53, .ext (.t 49) 0, none, []⟩,
       ⟨some 54, .ext (.t 49) 1, none, []⟩,
       ⟨some 55, .ext (.t 49) 2, none, []⟩,
       ⟨some 56, .ext (.t 49) 3, none, []⟩,
       ⟨some 13, .alloc 2 31 (.agg [.int .i64 0, .nil]), none, []⟩,
       ⟨none, .store 2 (.t 13) (.t 53), none, []⟩,
       ⟨some 14, .mv (.t 54), none, []⟩,
       ⟨some 15, .mv (.t 55), none, []⟩,
       ⟨some 16, .mv (.t 56), none, []⟩] none) <|
    .seq (.region [
       ⟨some 57, .mv (.t 16), none, []⟩,
       ⟨some 58, .bin .neq (.t 57) (.c (.int .i64 0)), none, []⟩,
       ⟨some 59, .mv (.t 58), none, []⟩,
       ⟨some 60, .mv (.t 14), some (59, false), []⟩,
       ⟨some 61, .len (.t 60), some (59, false), []⟩,
       ⟨some 62, .bin .neq (.t 61) (.c (.int .i64 0)), some (59, false), []⟩,
       ⟨some 63, .pick (.t 59) (.c (.bool true)) (.t 62), none, []⟩,
       ⟨some 64, .mv (.t 63), none, []⟩,
       ⟨some 65, .mv (.t 15), some (64, false), []⟩,
       ⟨some 66, .mv (.t 11), some (64, false), []⟩,
       ⟨some 67, .bin .neq (.t 65) (.t 66), some (64, false), []⟩,
       ⟨some 68, .pick (.t 64) (.c (.bool true)) (.t 67), none, []⟩,
       ⟨some 69, .mv (.t 68), none, []⟩,
       ⟨some 70, .load true 2 (.t 9), some (69, false), []⟩,
       ⟨some 71, .load true 2 (.t 13), some (69, false), []⟩,
       ⟨some 72, .call 26 [.t 70, .t 71], some (69, false), []⟩,
       ⟨some 73, .un .not (.t 72), some (69, false), []⟩,
       ⟨some 74, .pick (.t 69) (.c (.bool true)) (.t 73), none, []⟩,
       ⟨some 75, .mv (.t 74), none, []⟩,
       ⟨some 76, .mv (.t 10), some (75, false), []⟩,
       ⟨some 77, .len (.t 76), some (75, false), []⟩,
       ⟨some 78, .fa 0 (.t 9), some (75, false), []⟩,
       ⟨some 79, .load false 1 (.t 78), some (75, false), []⟩,
       ⟨some 80, .fa 0 (.t 7), some (75, false), []⟩,
       ⟨some 81, .load false 1 (.t 80), some (75, false), []⟩,
       ⟨some 82, .bin .sub (.t 79) (.t 81), some (75, false), []⟩,
       ⟨some 83, .bin .neq (.t 77) (.t 82), some (75, false), []⟩,
       ⟨some 84, .pick (.t 75) (.c (.bool true)) (.t 83), none, []⟩] none) <|
    .cond (.t 84) (.seq (.region [
        ⟨some 4, .mv (.c (.bool false)), none, []⟩] none) <|
     .ret) <|
    .skip) <|
   .skip) <|
  .seq (.seq (.region [
      ⟨some 86, .load true 2 (.t 6), none, []⟩,
      ⟨some 87, .mv (.t 1), none, []⟩,
      ⟨some 88, .conv .i64 (.t 87), none, []⟩,
      ⟨some 89, .call 14 [.t 86, .t 88], none, []⟩,
      ⟨some 85, .mv (.t 89), none, []⟩,
      ⟨some 90, .ext (.t 85) 0, none, []⟩,
      ⟨some 91, .ext (.t 85) 1, none, []⟩,
      ⟨some 17, .alloc 2 29 (.agg [.int .i64 0, .nil]), none, []⟩,
      ⟨none, .store 2 (.t 17) (.t 90), none, []⟩,
      ⟨some 18, .mv (.t 91), none, []⟩] none) <|
   .seq (.region [
      ⟨some 92, .mv (.t 18), none, []⟩,
      ⟨some 93, .bin .eql (.t 92) (.c (.int .i64 0)), none, []⟩] none) <|
   .cond (.t 93) (.seq (.region [
       ⟨some 95, .load true 2 (.t 17), none, []⟩,
       ⟨some 96, .mv (.t 1), none, []⟩,
       ⟨some 97, .conv .i64 (.t 96), none, []⟩,
       ⟨some 98, .call 14 [.t 95, .t 97], none, []⟩,
       ⟨some 94, .mv (.t 98), none, []⟩,
       ⟨some 99, .ext (.t 94) 0, none, []⟩,
       ⟨some 100, .ext (.t 94) 1, none, []⟩,
       ⟨some 19, .alloc 2 29 (.agg [.int .i64 0, .nil]), none, []⟩,
       ⟨none, .store 2 (.t 19) (.t 99), none, []⟩,
       ⟨some 20, .mv (.t 100), none, []⟩] none) <|
    .seq (.region [
       ⟨some 101, .mv (.t 20), none, []⟩,
       ⟨some 102, .bin .eql (.t 101) (.c (.int .i64 0)), none, []⟩,
       ⟨some 103, .mv (.t 102), none, []⟩,
       ⟨some 104, .load true 2 (.t 17), some (103, true), []⟩,
       ⟨some 105, .load true 2 (.t 19), some (103, true), []⟩,
       ⟨some 106, .call 21 [.t 104, .t 105], some (103, true), []⟩,
       ⟨some 107, .pick (.t 103) (.t 106) (.c (.bool false)), none, []⟩,
       ⟨some 4, .mv (.t 107), none, []⟩] none) <|
    .ret) <|
   .skip) <|
  .seq (.region [
     ⟨some 4, .mv (.c (.bool true)), none, []⟩] none) <|
  .ret
abbrev n_law27_OrdersTwice : Nat := 6
theorem b_law27_OrdersTwice : bodyOf prog 6 [1000000] = some (c_law27_OrdersTwice, [.t 4], 108) := by kernel_rfl

def c_law27_sane : ACode :=
  .seq (.region [
     ⟨some 0, .mv (.c (.bool false)), none, []⟩] none) <|
  .seq (.region [
     ⟨some 16, .build [.int .i64 0, .nil] [(0, 1, .c (.int .i64 1))], none, []⟩,
     ⟨some 1, .alloc 2 29 (.agg [.int .i64 0, .nil]), none, []⟩,
     ⟨none, .store 2 (.t 1) (.t 16), none, []⟩] none) <|
  .seq (.region [
     ⟨some 2, .mv (.c (.nil)), none, []⟩] none) <|
  .seq (.seq (.region [
      ⟨some 3, .mv (.c (.int .i64 0)), none, []⟩] none) <|
   .block 0 <|
   .loop <|
   .seq (.seq (.region [
       ⟨some 17, .mv (.t 3), none, []⟩,
       ⟨some 18, .bin .lss (.t 17) (.c (.int .i64 3)), none, []⟩] none) <|
    .cond (.t 18) (.skip) <|
    .exit 0) <|
   .seq (.block 1 <|
    .seq (.region [
       ⟨some 22, .load true 2 (.t 1), none, []⟩,
       ⟨some 23, .mv (.t 3), none, []⟩,
       ⟨some 24, .bin .mul (.c (.int .i64 5)) (.t 23), none, []⟩,
       ⟨some 25, .call 12 [.t 22, .c (.int .i64 1), .c (.int .i64 0), .t 24], none, []⟩,
       ⟨some 21, .mv (.t 25), none, []⟩,
       ⟨some 26, .ext (.t 21) 0, none, []⟩,
       ⟨some 27, .ext (.t 21) 1, none, []⟩,
       ⟨some 28, .ext (.t 21) 2, none, []⟩,
       ⟨some 4, .alloc 2 29 (.agg [.int .i64 0, .nil]), none, []⟩,
       ⟨some 5, .alloc 4 36 (.agg [.int .i64 0, .int .i64 0, .int .i64 0, .int .i64 0]), none, []⟩,
       ⟨none, .store 2 (.t 4) (.t 26), none, []⟩,
       ⟨none, .store 4 (.t 5) (.t 27), none, []⟩,
       ⟨some 6, .mv (.t 28), none, []⟩] none) <|
    .seq (.seq (.region [
        ⟨some 29, .mv (.t 6), none, []⟩,
        ⟨some 30, .bin .neq (.t 29) (.c (.int .i64 0)), none, []⟩,
        ⟨some 31, .mv (.t 30), none, []⟩,
        ⟨some 32, .fa 0 (.t 5), some (31, false), []⟩,
        ⟨some 33, .load false 1 (.t 32), some (31, false), []⟩,
        ⟨some 34, .mv (.t 3), some (31, false), []⟩,
        ⟨some 35, .bin .add (.t 34) (.c (.int .i64 1)), some (31, false), []⟩,
        ⟨some 36, .bin .neq (.t 33) (.t 35), some (31, false), []⟩,
        ⟨some 37, .pick (.t 31) (.c (.bool true)) (.t 36), none, []⟩] none) <|
     .cond (.t 37) (.seq (.region [
         ⟨some 0, .mv (.c (.bool false)), none, []⟩] none) <|
      .ret) <|
     .skip) <|
    .hregion [
      ⟨2, ⟨some 40, .load true 4 (.t 5), none, []⟩⟩,
      ⟨3, ⟨some 41, .lit false 4 36 [.t 40], none, [2]⟩⟩,
      ⟨1, ⟨some 39, .mv (.t 2), none, []⟩⟩,
      ⟨0, ⟨some 38, .load true 2 (.t 4), none, []⟩⟩,
      ⟨4, ⟨some 42, .app 4 32 36 (.t 39) (.t 41), none, [1, 3, 2]⟩⟩,
      ⟨5, ⟨none, .store 2 (.t 1) (.t 38), none, [0, 4, 1, 3, 2]⟩⟩,
      ⟨6, ⟨some 2, .mv (.t 42), none, [4, 5, 0, 1, 2, 3]⟩⟩]) <|
   .region [
     ⟨some 19, .mv (.t 3), none, []⟩,
     ⟨some 20, .bin .add (.t 19) (.c (.int .i64 1)), none, []⟩,
     ⟨some 3, .mv (.t 20), none, []⟩] none) <|
  .seq (.region [
     ⟨some 44, .build [.int .i64 0, .nil] [], none, []⟩,
     ⟨some 45, .mv (.t 2), none, []⟩,
     ⟨some 46, .ixs 4 (.t 45) (.c (.int .i64 1)), none, []⟩,
     ⟨some 47, .load true 4 (.t 46), none, []⟩,
     ⟨some 48, .call 13 [.t 44, .t 47], none, []⟩,
     ⟨some 43, .mv (.t 48), none, []⟩,
     ⟨some 49, .ext (.t 43) 0, none, []⟩,
     ⟨some 50, .ext (.t 43) 1, none, []⟩,
     ⟨some 51, .ext (.t 43) 2, none, []⟩,
     ⟨some 52, .ext (.t 43) 3, none, []⟩,
     ⟨some 7, .alloc 2 31 (.agg [.int .i64 0, .nil]), none, []⟩,
     ⟨none, .store 2 (.t 7) (.t 49), none, []⟩,
     ⟨some 8, .mv (.t 50), none, []⟩,
     ⟨some 9, .mv (.t 51), none, []⟩,
     ⟨some 10, .mv (.t 52), none, []⟩] none) <|
  .seq (.hregion [
     ⟨1, ⟨some 55, .mv (.t 2), none, []⟩⟩,
     ⟨2, ⟨some 56, .ixs 4 (.t 55) (.c (.int .i64 0)), none, [1]⟩⟩,
     ⟨3, ⟨some 57, .load true 4 (.t 56), none, [2, 1]⟩⟩,
     ⟨0, ⟨some 54, .load true 2 (.t 7), none, []⟩⟩,
     ⟨4, ⟨some 58, .call 13 [.t 54, .t 57], none, [0, 3, 2, 1]⟩⟩,
     ⟨5, ⟨some 53, .mv (.t 58), none, [4, 0, 3, 2, 1]⟩⟩,
     ⟨9, ⟨some 62, .ext (.t 53) 3, none, [5, 4, 0, 3, 2, 1]⟩⟩,
     ⟨8, ⟨some 61, .ext (.t 53) 2, none, [5, 4, 0, 3, 2, 1]⟩⟩,
     ⟨7, ⟨some 60, .ext (.t 53) 1, none, [5, 4, 0, 3, 2, 1]⟩⟩,
     ⟨6, ⟨some 59, .ext (.t 53) 0, none, [5, 4, 0, 3, 2, 1]⟩⟩,
     ⟨10, ⟨some 11, .alloc 2 31 (.agg [.int .i64 0, .nil]), none, []⟩⟩,
     ⟨11, ⟨none, .store 2 (.t 11) (.t 59), none, [10, 6, 4, 0, 1, 2, 3, 5]⟩⟩,
     ⟨12, ⟨some 12, .mv (.t 60), none, [7, 11, 0, 1, 2, 3, 4, 5, 6, 10]⟩⟩,
     ⟨13, ⟨some 13, .mv (.t 61), none, [8, 12, 0, 1, 2, 3, 4, 5, 6, 7, 10, 11]⟩⟩,
     ⟨14, ⟨some 14, .mv (.t 62), none, [9, 13, 0, 1, 2, 3, 4, 5, 6, 7, 8, 10, 11, 12]⟩⟩]) <|
  .seq (.region [
     ⟨some 64, .load true 2 (.t 1), none, []⟩,
     ⟨some 65, .mv (.t 13), none, []⟩,
     ⟨some 66, .call 14 [.t 64, .t 65], none, []⟩,
     ⟨some 63, .mv (.t 66), none, []⟩,
     ⟨some 67, .ext (.t 63) 0, none, []⟩,
     ⟨some 68, .ext (.t 63) 1, none, []⟩,
     ⟨none, .store 2 (.t 1) (.t 67), none, []⟩,
     ⟨some 15, .mv (.t 68), none, []⟩] none) <|
  .seq (.region [
     ⟨some 69, .mv (.t 10), none, []⟩,
     ⟨some 70, .bin .eql (.t 69) (.c (.int .i64 0)), none, []⟩,
     ⟨some 71, .mv (.t 70), none, []⟩,
     ⟨some 72, .mv (.t 14), some (71, true), []⟩,
     ⟨some 73, .bin .eql (.t 72) (.c (.int .i64 0)), some (71, true), []⟩,
     ⟨some 74, .pick (.t 71) (.t 73) (.c (.bool false)), none, []⟩,
     ⟨some 75, .mv (.t 74), none, []⟩,
     ⟨some 76, .mv (.t 15), some (75, true), []⟩,
     ⟨some 77, .bin .eql (.t 76) (.c (.int .i64 0)), some (75, true), []⟩,
     ⟨some 78, .pick (.t 75) (.t 77) (.c (.bool false)), none, []⟩,
     ⟨some 79, .mv (.t 78), none, []⟩,
     ⟨some 80, .mv (.t 8), some (79, true), []⟩,
     ⟨some 81, .len (.t 80), some (79, true), []⟩,
     ⟨some 82, .bin .eql (.t 81) (.c (.int .i64 0)), some (79, true), []⟩,
     ⟨some 83, .pick (.t 79) (.t 82) (.c (.bool false)), none, []⟩,
     ⟨some 84, .mv (.t 83), none, []⟩,
     ⟨some 85, .mv (.t 9), some (84, true), []⟩,
     ⟨some 86, .bin .eql (.t 85) (.c (.int .i64 0)), some (84, true), []⟩,
     ⟨some 87, .pick (.t 84) (.t 86) (.c (.bool false)), none, []⟩,
     ⟨some 88, .mv (.t 87), none, []⟩,
     ⟨some 89, .mv (.t 12), some (88, true), []⟩,
     ⟨some 90, .len (.t 89), some (88, true), []⟩,
     ⟨some 91, .bin .eql (.t 90) (.c (.int .i64 2)), some (88, true), []⟩,
     ⟨some 92, .pick (.t 88) (.t 91) (.c (.bool false)), none, []⟩,
     ⟨some 93, .mv (.t 92), none, []⟩,
     ⟨some 94, .mv (.t 13), some (93, true), []⟩,
     ⟨some 95, .bin .eql (.t 94) (.c (.int .i64 2)), some (93, true), []⟩,
     ⟨some 96, .pick (.t 93) (.t 95) (.c (.bool false)), none, []⟩,
     ⟨some 97, .mv (.t 96), none, []⟩,
     ⟨some 98, .fa 0 (.t 11), some (97, true), []⟩,
     ⟨some 99, .load false 1 (.t 98), some (97, true), []⟩,
     ⟨some 100, .bin .eql (.t 99) (.c (.int .i64 2)), some (97, true), []⟩,
     ⟨some 101, .pick (.t 97) (.t 100) (.c (.bool false)), none, []⟩,
     ⟨some 102, .mv (.t 101), none, []⟩,
     ⟨some 103, .fa 1 (.t 1), some (102, true), []⟩,
     ⟨some 104, .load false 1 (.t 103), some (102, true), []⟩,
     ⟨some 105, .len (.t 104), some (102, true), []⟩,
     ⟨some 106, .bin .eql (.t 105) (.c (.int .i64 1)), some (102, true), []⟩,
     ⟨some 107, .pick (.t 102) (.t 106) (.c (.bool false)), none, []⟩,
     ⟨some 108, .mv (.t 107), none, []⟩,
     ⟨some 109, .load true 2 (.t 1), some (108, true), []⟩,
     ⟨some 110, .call 17 [.t 109], some (108, true), []⟩,
     ⟨some 111, .pick (.t 108) (.t 110) (.c (.bool false)), none, []⟩,
     ⟨some 112, .mv (.t 111), none, []⟩,
     ⟨some 113, .load true 2 (.t 11), some (112, true), []⟩,
     ⟨some 114, .call 18 [.t 113], some (112, true), []⟩,
     ⟨some 115, .pick (.t 112) (.t 114) (.c (.bool false)), none, []⟩,
     ⟨some 0, .mv (.t 115), none, []⟩] none) <|
  .ret
abbrev n_law27_sane : Nat := 7
theorem b_law27_sane : bodyOf prog 7 [1000000] = some (c_law27_sane, [.t 0], 116) := by kernel_rfl

def c_mk_Few : ACode :=
  .seq (.region [
     ⟨some 2, .mv (.c (.bool false)), none, []⟩] none) <|
  .seq (.region [
     ⟨some 3, .mv (.t 0), none, []⟩,
     ⟨some 4, .len (.t 3), none, []⟩,
     ⟨some 5, .bin .leq (.t 4) (.c (.int .i64 500)), none, []⟩,
     ⟨some 2, .mv (.t 5), none, []⟩] none) <|
  .ret
abbrev n_mk_Few : Nat := 8
theorem b_mk_Few : bodyOf prog 8 [1000000] = some (c_mk_Few, [.t 2], 6) := by kernel_rfl

def c_mk_New : ACode :=
  .seq (.region [
     ⟨some 2, .mv (.c (.nilptr)), none, []⟩] none) <|
  .seq (.region [
     ⟨some 3, .mv (.t 0), none, []⟩,
     ⟨some 4, .build [.nil, .int .i64 0] [(0, 1, .t 3)], none, []⟩,
     ⟨some 5, .box 2 33 (.t 4), none, []⟩,
     ⟨some 2, .mv (.t 5), none, []⟩] none) <|
  .ret
abbrev n_mk_New : Nat := 9
theorem b_mk_New : bodyOf prog 9 [] = some (c_mk_New, [.t 2], 6) := by kernel_rfl

def c_mk_Deck_Next : ACode :=
  .seq (.region [
     ⟨some 4, .mv (.c (.int .i64 0)), none, []⟩] none) <|
  .seq (.seq (.region [
      ⟨some 6, .mv (.t 1), none, []⟩,
      ⟨some 7, .bin .lss (.t 6) (.c (.int .i64 1)), none, [0]⟩,
      ⟨some 8, .mv (.t 7), none, [1, 0]⟩,
      ⟨some 9, .mv (.t 0), some (8, false), [2, 1, 0]⟩,
      ⟨some 10, .nilchk (.t 9), some (8, false), [3, 2, 1, 0]⟩,
      ⟨some 11, .fa 1 (.t 10), some (8, false), [4, 2, 3, 1, 0]⟩,
      ⟨some 12, .load false 1 (.t 11), some (8, false), [5, 2, 4, 3, 1, 0]⟩,
      ⟨some 13, .mv (.t 0), some (8, false), [2, 1, 0]⟩,
      ⟨some 14, .nilchk (.t 13), some (8, false), [7, 2, 1, 0]⟩,
      ⟨some 15, .fa 0 (.t 14), some (8, false), [8, 2, 7, 1, 0]⟩,
      ⟨some 16, .load false 1 (.t 15), some (8, false), [9, 2, 8, 7, 1, 0]⟩,
      ⟨some 17, .len (.t 16), some (8, false), [10, 2, 9, 8, 7, 1, 0]⟩,
      ⟨some 18, .bin .geq (.t 12) (.t 17), some (8, false), [6, 11, 2, 5, 4, 3, 1, 0, 10, 9, 8, 7]⟩,
      ⟨some 19, .pick (.t 8) (.c (.bool true)) (.t 18), none, [2, 12, 1, 0, 6, 11, 5, 4, 3, 10, 9, 8, 7]⟩] (some 0)) <|
   .cond (.t 19) (.seq (.region [
       ⟨some 4, .mv (.c (.int .i64 0)), none, []⟩] none) <|
    .ret) <|
   .skip) <|
  .seq (.region [
     ⟨some 20, .mv (.t 0), none, []⟩,
     ⟨some 21, .nilchk (.t 20), none, [0]⟩,
     ⟨some 22, .fa 0 (.t 21), none, [1, 0]⟩,
     ⟨some 23, .load false 1 (.t 22), none, [2, 1, 0]⟩,
     ⟨some 24, .mv (.t 0), none, []⟩,
     ⟨some 25, .nilchk (.t 24), none, [4]⟩,
     ⟨some 26, .fa 1 (.t 25), none, [5, 4]⟩,
     ⟨some 27, .load false 1 (.t 26), none, [6, 5, 4]⟩,
     ⟨some 28, .ixs 1 (.t 23) (.t 27), none, [3, 7, 2, 1, 0, 6, 5, 4]⟩,
     ⟨some 29, .load false 1 (.t 28), none, [8, 3, 7, 2, 1, 0, 6, 5, 4]⟩,
     ⟨some 5, .mv (.t 29), none, [9, 0, 1, 2, 3, 4, 5, 6, 7, 8]⟩] (some 0)) <|
  .seq (.region [
     ⟨some 30, .mv (.t 0), none, []⟩,
     ⟨some 31, .nilchk (.t 30), none, []⟩,
     ⟨some 32, .fa 1 (.t 31), none, []⟩,
     ⟨some 33, .load false 1 (.t 32), none, []⟩,
     ⟨some 34, .bin .add (.t 33) (.c (.int .i64 1)), none, []⟩,
     ⟨some 35, .nilchk (.t 30), none, []⟩,
     ⟨some 36, .fa 1 (.t 35), none, []⟩,
     ⟨none, .store 1 (.t 36) (.t 34), none, []⟩] none) <|
  .seq (.region [
     ⟨some 37, .mv (.t 5), none, []⟩,
     ⟨some 38, .mv (.t 1), none, []⟩,
     ⟨some 39, .call 15 [.t 37, .t 38], none, []⟩,
     ⟨some 4, .mv (.t 39), none, []⟩] none) <|
  .ret
abbrev n_mk_Deck_Next : Nat := 10
theorem b_mk_Deck_Next : bodyOf prog 10 [] = some (c_mk_Deck_Next, [.t 4], 40) := by kernel_rfl

def c_flow_Order : ACode :=
  .seq (.region [
     ⟨some 4, .alloc 4 36 (.agg [.int .i64 0, .int .i64 0, .int .i64 0, .int .i64 0]), none, []⟩] none) <|
  .seq (.region [
     ⟨some 6, .mv (.t 1), none, []⟩,
     ⟨some 7, .mv (.t 0), none, []⟩,
     ⟨some 8, .call 10 [.t 7, .c (.int .i64 3)], none, []⟩,
     ⟨some 9, .bin .add (.c (.int .i64 1)) (.t 8), none, []⟩,
     ⟨some 10, .build [.int .i64 0, .int .i64 0, .int .i64 0, .int .i64 0] [(0, 1, .t 6), (1, 1, .t 9)], none, []⟩,
     ⟨some 5, .alloc 4 36 (.agg [.int .i64 0, .int .i64 0, .int .i64 0, .int .i64 0]), none, []⟩,
     ⟨none, .store 4 (.t 5) (.t 10), none, []⟩] none) <|
  .seq (.seq (.region [
      ⟨some 11, .fa 1 (.t 5), none, []⟩,
      ⟨some 12, .load false 1 (.t 11), none, []⟩] none) <|
   .block 0 <|
   .seq (.region [
      ⟨some 20, .bin .eql (.t 12) (.c (.int .i64 1)), none, []⟩,
      ⟨some 19, .mv (.t 20), none, []⟩] none) <|
   .cond (.t 19) (.region [
      ⟨some 21, .mv (.t 0), none, []⟩,
      ⟨some 22, .call 10 [.t 21, .c (.int .i64 50)], none, []⟩,
      ⟨some 23, .fa 3 (.t 5), none, []⟩,
      ⟨none, .store 1 (.t 23) (.t 22), none, []⟩] none) <|
   .seq (.region [
      ⟨some 25, .bin .eql (.t 12) (.c (.int .i64 2)), none, []⟩,
      ⟨some 24, .mv (.t 25), none, []⟩] none) <|
   .cond (.t 24) (.region [
      ⟨some 26, .mv (.t 0), none, []⟩,
      ⟨some 27, .call 10 [.t 26, .c (.int .i64 8)], none, []⟩,
      ⟨some 28, .fa 2 (.t 5), none, []⟩,
      ⟨none, .store 1 (.t 28) (.t 27), none, []⟩] none) <|
   .region [
     ⟨some 13, .mv (.t 0), none, []⟩,
     ⟨some 14, .call 10 [.t 13, .c (.int .i64 6)], none, []⟩,
     ⟨some 15, .mv (.t 0), none, []⟩,
     ⟨some 16, .call 10 [.t 15, .c (.int .i64 2)], none, []⟩,
     ⟨some 17, .fa 2 (.t 5), none, []⟩,
     ⟨none, .store 1 (.t 17) (.t 14), none, []⟩,
     ⟨some 18, .fa 3 (.t 5), none, []⟩,
     ⟨none, .store 1 (.t 18) (.t 16), none, []⟩] none) <|
  .seq (.region [
     ⟨some 29, .load true 4 (.t 5), none, []⟩,
     ⟨none, .store 4 (.t 4) (.t 29), none, []⟩] none) <|
  .ret
abbrev n_flow_Order : Nat := 11
theorem b_flow_Order : bodyOf prog 11 [1000000] = some (c_flow_Order, [.c 4 true 4], 30) := by kernel_rfl

def c_orders_Issue : ACode :=
  .seq (.region [
     ⟨some 4, .box 2 29 (.t 0), none, []⟩,
     ⟨some 8, .alloc 2 29 (.agg [.int .i64 0, .nil]), none, []⟩,
     ⟨some 9, .alloc 4 36 (.agg [.int .i64 0, .int .i64 0, .int .i64 0, .int .i64 0]), none, []⟩,
     ⟨some 10, .mv (.c (.int .i64 0)), none, []⟩] none) <|
  .seq (.seq (.region [
      ⟨some 13, .load true 2 (.t 4), none, []⟩,
      ⟨some 14, .call 17 [.t 13], none, []⟩,
      ⟨some 15, .un .not (.t 14), none, []⟩] none) <|
   .cond (.t 15) (.seq (.region [
       ⟨some 16, .build [.int .i64 0, .nil] [], none, []⟩,
       ⟨some 17, .build [.int .i64 0, .int .i64 0, .int .i64 0, .int .i64 0] [], none, []⟩,
       ⟨none, .store 2 (.t 8) (.t 16), none, []⟩,
       ⟨none, .store 4 (.t 9) (.t 17), none, []⟩,
       ⟨some 10, .mv (.c (.int .i64 50)), none, []⟩] none) <|
    .ret) <|
   .skip) <|
  .seq (.seq (.region [
      ⟨some 18, .mv (.t 1), none, []⟩,
      ⟨some 19, .mv (.t 2), none, []⟩,
      ⟨some 20, .mv (.t 3), none, []⟩,
      ⟨some 21, .call 29 [.t 18, .t 19, .t 20], none, []⟩,
      ⟨some 11, .mv (.t 21), none, []⟩] none) <|
   .seq (.region [
      ⟨some 22, .mv (.t 11), none, []⟩,
      ⟨some 23, .bin .neq (.t 22) (.c (.int .i64 0)), none, []⟩] none) <|
   .cond (.t 23) (.seq (.region [
       ⟨some 24, .build [.int .i64 0, .nil] [], none, []⟩,
       ⟨some 25, .build [.int .i64 0, .int .i64 0, .int .i64 0, .int .i64 0] [], none, []⟩,
       ⟨some 26, .mv (.t 11), none, []⟩,
       ⟨none, .store 2 (.t 8) (.t 24), none, []⟩,
       ⟨none, .store 4 (.t 9) (.t 25), none, []⟩,
       ⟨some 10, .mv (.t 26), none, []⟩] none) <|
    .ret) <|
   .skip) <|
  .seq (.seq (.region [
      ⟨some 27, .fa 1 (.t 4), none, []⟩,
      ⟨some 28, .load false 1 (.t 27), none, []⟩,
      ⟨some 29, .len (.t 28), none, []⟩,
      ⟨some 30, .bin .eql (.t 29) (.c (.int .i64 64)), none, []⟩,
      ⟨some 31, .mv (.t 30), none, []⟩,
      ⟨some 32, .fa 0 (.t 4), some (31, false), []⟩,
      ⟨some 33, .load false 1 (.t 32), some (31, false), []⟩,
      ⟨some 34, .bin .eql (.t 33) (.c (.int .i64 1073741824)), some (31, false), []⟩,
      ⟨some 35, .pick (.t 31) (.c (.bool true)) (.t 34), none, []⟩] none) <|
   .cond (.t 35) (.seq (.region [
       ⟨some 36, .build [.int .i64 0, .nil] [], none, []⟩,
       ⟨some 37, .build [.int .i64 0, .int .i64 0, .int .i64 0, .int .i64 0] [], none, []⟩,
       ⟨none, .store 2 (.t 8) (.t 36), none, []⟩,
       ⟨none, .store 4 (.t 9) (.t 37), none, []⟩,
       ⟨some 10, .mv (.c (.int .i64 10)), none, []⟩] none) <|
    .ret) <|
   .skip) <|
  .seq (.region [
     ⟨some 38, .fa 0 (.t 4), none, []⟩,
     ⟨some 39, .load false 1 (.t 38), none, []⟩,
     ⟨some 40, .mv (.t 1), none, []⟩,
     ⟨some 41, .mv (.t 2), none, []⟩,
     ⟨some 42, .mv (.t 3), none, []⟩,
     ⟨some 43, .build [.int .i64 0, .int .i64 0, .int .i64 0, .int .i64 0] [(0, 1, .t 39), (1, 1, .t 40), (2, 1, .t 41), (3, 1, .t 42)], none, []⟩,
     ⟨some 12, .alloc 4 36 (.agg [.int .i64 0, .int .i64 0, .int .i64 0, .int .i64 0]), none, []⟩,
     ⟨none, .store 4 (.t 12) (.t 43), none, []⟩] none) <|
  .seq (.hregion [
     ⟨10, ⟨some 54, .load true 4 (.t 12), none, []⟩⟩,
     ⟨6, ⟨some 50, .load true 4 (.t 12), none, []⟩⟩,
     ⟨7, ⟨some 51, .lit false 4 36 [.t 50], none, [6]⟩⟩,
     ⟨3, ⟨some 47, .fa 1 (.t 4), none, []⟩⟩,
     ⟨4, ⟨some 48, .load false 1 (.t 47), none, [3]⟩⟩,
     ⟨0, ⟨some 44, .fa 0 (.t 4), none, []⟩⟩,
     ⟨1, ⟨some 45, .load false 1 (.t 44), none, [0]⟩⟩,
     ⟨2, ⟨some 46, .bin .add (.t 45) (.c (.int .i64 1)), none, [1, 0]⟩⟩,
     ⟨5, ⟨some 49, .call 30 [.t 48], none, [4, 3]⟩⟩,
     ⟨8, ⟨some 52, .app 4 32 36 (.t 49) (.t 51), none, [5, 7, 4, 3, 6]⟩⟩,
     ⟨9, ⟨some 53, .build [.int .i64 0, .nil] [(0, 1, .t 46), (1, 1, .t 52)], none, [2, 8, 1, 0, 5, 7, 4, 3, 6]⟩⟩,
     ⟨11, ⟨none, .store 2 (.t 8) (.t 53), none, [9, 8, 0, 1, 2, 3, 4, 5, 6, 7]⟩⟩,
     ⟨12, ⟨none, .store 4 (.t 9) (.t 54), none, [10, 11, 0, 1, 2, 3, 4, 5, 6, 7, 8, 9]⟩⟩,
     ⟨13, ⟨some 10, .mv (.c (.int .i64 0)), none, [12, 0, 1, 2, 3, 4, 5, 6, 7, 8, 9, 10, 11]⟩⟩]) <|
  .ret
abbrev n_orders_Issue : Nat := 12
theorem b_orders_Issue : bodyOf prog 12 [1000000] = some (c_orders_Issue, [.c 8 true 2, .c 9 true 4, .t 10], 55) := by kernel_rfl

def c_orders_Take : ACode :=
  .seq (.region [
     ⟨some 2, .box 2 31 (.t 0), none, []⟩,
     ⟨some 3, .box 4 36 (.t 1), none, []⟩,
     ⟨some 4, .alloc 2 31 (.agg [.int .i64 0, .nil]), none, []⟩,
     ⟨some 5, .mv (.c (.nil)), none, []⟩,
     ⟨some 6, .mv (.c (.int .i64 0)), none, []⟩,
     ⟨some 7, .mv (.c (.int .i64 0)), none, []⟩] none) <|
  .seq (.seq (.region [
      ⟨some 12, .load true 2 (.t 2), none, []⟩,
      ⟨some 13, .call 18 [.t 12], none, []⟩,
      ⟨some 14, .un .not (.t 13), none, []⟩] none) <|
   .cond (.t 14) (.seq (.region [
       ⟨some 15, .build [.int .i64 0, .nil] [], none, []⟩,
       ⟨none, .store 2 (.t 4) (.t 15), none, []⟩,
       ⟨some 5, .mv (.c (.nil)), none, []⟩,
       ⟨some 6, .mv (.c (.int .i64 0)), none, []⟩,
       ⟨some 7, .mv (.c (.int .i64 50)), none, []⟩] none) <|
    .ret) <|
   .skip) <|
  .seq (.seq (.region [
      ⟨some 16, .load true 4 (.t 3), none, []⟩,
      ⟨some 17, .call 31 [.t 16], none, []⟩,
      ⟨some 18, .un .not (.t 17), none, []⟩] none) <|
   .cond (.t 18) (.seq (.region [
       ⟨some 19, .build [.int .i64 0, .nil] [], none, []⟩,
       ⟨none, .store 2 (.t 4) (.t 19), none, []⟩,
       ⟨some 5, .mv (.c (.nil)), none, []⟩,
       ⟨some 6, .mv (.c (.int .i64 0)), none, []⟩,
       ⟨some 7, .mv (.c (.int .i64 3)), none, []⟩] none) <|
    .ret) <|
   .skip) <|
  .seq (.hregion [
     ⟨2, ⟨some 22, .fa 1 (.t 2), none, []⟩⟩,
     ⟨3, ⟨some 23, .load false 1 (.t 22), none, [2]⟩⟩,
     ⟨0, ⟨some 20, .fa 0 (.t 2), none, []⟩⟩,
     ⟨1, ⟨some 21, .load false 1 (.t 20), none, [0]⟩⟩,
     ⟨4, ⟨some 24, .call 30 [.t 23], none, [3, 2]⟩⟩,
     ⟨5, ⟨some 25, .build [.int .i64 0, .nil] [(0, 1, .t 21), (1, 1, .t 24)], none, [1, 4, 0, 3, 2]⟩⟩,
     ⟨6, ⟨some 8, .alloc 2 31 (.agg [.int .i64 0, .nil]), none, []⟩⟩,
     ⟨7, ⟨none, .store 2 (.t 8) (.t 25), none, [6, 5, 4, 0, 1, 2, 3]⟩⟩]) <|
  .seq (.seq (.region [
      ⟨some 26, .fa 0 (.t 3), none, []⟩,
      ⟨some 27, .load false 1 (.t 26), none, []⟩,
      ⟨some 28, .fa 0 (.t 2), none, []⟩,
      ⟨some 29, .load false 1 (.t 28), none, []⟩,
      ⟨some 30, .bin .leq (.t 27) (.t 29), none, []⟩] none) <|
   .cond (.t 30) (.seq (.hregion [
       ⟨1, ⟨some 32, .fa 0 (.t 8), none, []⟩⟩,
       ⟨2, ⟨some 33, .load false 1 (.t 32), none, [1]⟩⟩,
       ⟨0, ⟨some 31, .load true 2 (.t 8), none, []⟩⟩,
       ⟨3, ⟨none, .store 2 (.t 4) (.t 31), none, [0]⟩⟩,
       ⟨4, ⟨some 5, .mv (.c (.nil)), none, [3, 0]⟩⟩,
       ⟨5, ⟨some 6, .mv (.t 33), none, [2, 4, 0, 1, 3]⟩⟩,
       ⟨6, ⟨some 7, .mv (.c (.int .i64 0)), none, [5, 0, 1, 2, 3, 4]⟩⟩]) <|
    .ret) <|
   .skip) <|
  .seq (.seq (.region [
      ⟨some 34, .fa 0 (.t 3), none, []⟩,
      ⟨some 35, .load false 1 (.t 34), none, []⟩,
      ⟨some 36, .fa 0 (.t 2), none, []⟩,
      ⟨some 37, .load false 1 (.t 36), none, []⟩,
      ⟨some 38, .bin .add (.t 37) (.c (.int .i64 1)), none, []⟩,
      ⟨some 39, .bin .gtr (.t 35) (.t 38), none, []⟩] none) <|
   .cond (.t 39) (.seq (.region [
       ⟨some 41, .fa 1 (.t 8), none, []⟩,
       ⟨some 42, .load false 1 (.t 41), none, []⟩,
       ⟨some 43, .load true 4 (.t 3), none, []⟩,
       ⟨some 44, .call 32 [.t 42, .t 43, .c (.func 33 [])], none, []⟩,
       ⟨some 40, .mv (.t 44), none, []⟩,
       ⟨some 45, .ext (.t 40) 0, none, []⟩,
       ⟨some 46, .ext (.t 40) 1, none, []⟩,
       ⟨some 9, .mv (.t 45), none, []⟩,
       ⟨some 10, .mv (.t 46), none, []⟩] none) <|
    .seq (.seq (.region [
        ⟨some 47, .mv (.t 10), none, []⟩] none) <|
     .cond (.t 47) (.seq (.hregion [
         ⟨1, ⟨some 49, .fa 0 (.t 8), none, []⟩⟩,
         ⟨2, ⟨some 50, .load false 1 (.t 49), none, [1]⟩⟩,
         ⟨0, ⟨some 48, .load true 2 (.t 8), none, []⟩⟩,
         ⟨3, ⟨none, .store 2 (.t 4) (.t 48), none, [0]⟩⟩,
         ⟨4, ⟨some 5, .mv (.c (.nil)), none, [3, 0]⟩⟩,
         ⟨5, ⟨some 6, .mv (.t 50), none, [2, 4, 0, 1, 3]⟩⟩,
         ⟨6, ⟨some 7, .mv (.c (.int .i64 0)), none, [5, 0, 1, 2, 3, 4]⟩⟩]) <|
      .ret) <|
     .skip) <|
    .seq (.seq (.region [
        ⟨some 51, .fa 1 (.t 8), none, []⟩,
        ⟨some 52, .load false 1 (.t 51), none, []⟩,
        ⟨some 53, .len (.t 52), none, []⟩,
        ⟨some 54, .bin .eql (.t 53) (.c (.int .i64 64)), none, []⟩] none) <|
     .cond (.t 54) (.seq (.region [
         ⟨some 55, .build [.int .i64 0, .nil] [], none, []⟩,
         ⟨none, .store 2 (.t 4) (.t 55), none, []⟩,
         ⟨some 5, .mv (.c (.nil)), none, []⟩,
         ⟨some 6, .mv (.c (.int .i64 0)), none, []⟩,
         ⟨some 7, .mv (.c (.int .i64 10)), none, []⟩] none) <|
      .ret) <|
     .skip) <|
    .seq (.region [
       ⟨some 56, .fa 1 (.t 8), none, []⟩,
       ⟨some 57, .load false 1 (.t 56), none, []⟩,
       ⟨some 58, .mv (.t 9), none, []⟩,
       ⟨some 59, .load true 4 (.t 3), none, []⟩,
       ⟨some 60, .lit true 4 36 [.t 59], none, []⟩,
       ⟨some 61, .call 34 [.t 57, .t 58, .t 60], none, []⟩,
       ⟨some 62, .fa 1 (.t 8), none, []⟩,
       ⟨none, .store 1 (.t 62) (.t 61), none, []⟩] none) <|
    .seq (.hregion [
       ⟨1, ⟨some 64, .fa 0 (.t 8), none, []⟩⟩,
       ⟨2, ⟨some 65, .load false 1 (.t 64), none, [1]⟩⟩,
       ⟨0, ⟨some 63, .load true 2 (.t 8), none, []⟩⟩,
       ⟨3, ⟨none, .store 2 (.t 4) (.t 63), none, [0]⟩⟩,
       ⟨4, ⟨some 5, .mv (.c (.nil)), none, [3, 0]⟩⟩,
       ⟨5, ⟨some 6, .mv (.t 65), none, [2, 4, 0, 1, 3]⟩⟩,
       ⟨6, ⟨some 7, .mv (.c (.int .i64 0)), none, [5, 0, 1, 2, 3, 4]⟩⟩]) <|
    .ret) <|
   .skip) <|
  .seq (.region [
     ⟨some 66, .load true 4 (.t 3), none, []⟩,
     ⟨some 67, .lit true 4 36 [.t 66], none, []⟩,
     ⟨some 11, .mv (.t 67), none, []⟩] none) <|
  .seq (.block 0 <|
   .loop <|
   .seq (.seq (.hregion [
       ⟨0, ⟨some 68, .fa 1 (.t 8), none, []⟩⟩,
       ⟨1, ⟨some 69, .load false 1 (.t 68), none, [0]⟩⟩,
       ⟨2, ⟨some 70, .len (.t 69), none, [1, 0]⟩⟩,
       ⟨3, ⟨some 71, .bin .gtr (.t 70) (.c (.int .i64 0)), none, [2, 1, 0]⟩⟩,
       ⟨4, ⟨some 72, .mv (.t 71), none, [3, 2, 1, 0]⟩⟩,
       ⟨11, ⟨some 79, .mv (.t 11), some (72, true), [4, 3, 2, 1, 0]⟩⟩,
       ⟨12, ⟨some 80, .len (.t 79), some (72, true), [11, 4, 3, 2, 1, 0]⟩⟩,
       ⟨13, ⟨some 81, .bin .sub (.t 80) (.c (.int .i64 1)), some (72, true), [12, 4, 11, 3, 2, 1, 0]⟩⟩,
       ⟨10, ⟨some 78, .mv (.t 11), some (72, true), [4, 3, 2, 1, 0]⟩⟩,
       ⟨14, ⟨some 82, .ixs 4 (.t 78) (.t 81), some (72, true), [10, 13, 4, 3, 2, 1, 0, 12, 11]⟩⟩,
       ⟨15, ⟨some 83, .fa 0 (.t 82), some (72, true), [14, 4, 10, 13, 3, 2, 1, 0, 12, 11]⟩⟩,
       ⟨16, ⟨some 84, .load false 1 (.t 83), some (72, true), [15, 4, 14, 10, 13, 3, 2, 1, 0, 12, 11]⟩⟩,
       ⟨17, ⟨some 85, .bin .add (.t 84) (.c (.int .i64 1)), some (72, true), [16, 4, 15, 14, 10, 13, 3, 2, 1, 0, 12, 11]⟩⟩,
       ⟨5, ⟨some 73, .fa 1 (.t 8), some (72, true), [4, 3, 2, 1, 0]⟩⟩,
       ⟨6, ⟨some 74, .load false 1 (.t 73), some (72, true), [5, 4, 3, 2, 1, 0]⟩⟩,
       ⟨7, ⟨some 75, .ixs 4 (.t 74) (.c (.int .i64 0)), some (72, true), [6, 4, 5, 3, 2, 1, 0]⟩⟩,
       ⟨8, ⟨some 76, .fa 0 (.t 75), some (72, true), [7, 4, 6, 5, 3, 2, 1, 0]⟩⟩,
       ⟨9, ⟨some 77, .load false 1 (.t 76), some (72, true), [8, 4, 7, 6, 5, 3, 2, 1, 0]⟩⟩,
       ⟨18, ⟨some 86, .bin .eql (.t 77) (.t 85), some (72, true), [9, 17, 4, 8, 7, 6, 5, 3, 2, 1, 0, 16, 15, 14, 10, 13, 12, 11]⟩⟩,
       ⟨19, ⟨some 87, .pick (.t 72) (.t 86) (.c (.bool false)), none, [4, 18, 3, 2, 1, 0, 9, 17, 8, 7, 6, 5, 16, 15, 14, 10, 13, 12, 11]⟩⟩]) <|
    .cond (.t 87) (.skip) <|
    .exit 0) <|
   .block 1 <|
   .hregion [
     ⟨7, ⟨some 95, .fa 1 (.t 8), none, []⟩⟩,
     ⟨8, ⟨some 96, .load false 1 (.t 95), none, [7]⟩⟩,
     ⟨9, ⟨some 97, .slc 4 (.t 96) (some (.c (.int .i64 1))) none, none, [8, 7]⟩⟩,
     ⟨1, ⟨some 89, .fa 1 (.t 8), none, []⟩⟩,
     ⟨2, ⟨some 90, .load false 1 (.t 89), none, [1]⟩⟩,
     ⟨3, ⟨some 91, .ixs 4 (.t 90) (.c (.int .i64 0)), none, [2, 1]⟩⟩,
     ⟨4, ⟨some 92, .load true 4 (.t 91), none, [3, 2, 1]⟩⟩,
     ⟨5, ⟨some 93, .lit false 4 36 [.t 92], none, [4, 3, 2, 1]⟩⟩,
     ⟨0, ⟨some 88, .mv (.t 11), none, []⟩⟩,
     ⟨6, ⟨some 94, .app 4 32 36 (.t 88) (.t 93), none, [0, 5, 4, 3, 2, 1]⟩⟩,
     ⟨10, ⟨some 11, .mv (.t 94), none, [6, 0, 1, 2, 3, 4, 5]⟩⟩,
     ⟨11, ⟨some 98, .fa 1 (.t 8), none, [0, 1, 2, 3, 4, 5, 6, 7, 8, 9, 10]⟩⟩,
     ⟨12, ⟨none, .store 1 (.t 98) (.t 97), none, [11, 9, 10, 0, 1, 2, 3, 4, 5, 6, 7, 8]⟩⟩]) <|
  .seq (.hregion [
     ⟨7, ⟨some 106, .fa 1 (.t 8), none, []⟩⟩,
     ⟨8, ⟨some 107, .load false 1 (.t 106), none, [7]⟩⟩,
     ⟨1, ⟨some 100, .mv (.t 11), none, []⟩⟩,
     ⟨2, ⟨some 101, .len (.t 100), none, [1]⟩⟩,
     ⟨3, ⟨some 102, .bin .sub (.t 101) (.c (.int .i64 1)), none, [2, 1]⟩⟩,
     ⟨0, ⟨some 99, .mv (.t 11), none, []⟩⟩,
     ⟨4, ⟨some 103, .ixs 4 (.t 99) (.t 102), none, [0, 3, 2, 1]⟩⟩,
     ⟨5, ⟨some 104, .fa 0 (.t 103), none, [4, 0, 3, 2, 1]⟩⟩,
     ⟨6, ⟨some 105, .load false 1 (.t 104), none, [5, 4, 0, 3, 2, 1]⟩⟩,
     ⟨10, ⟨some 109, .fa 0 (.t 8), none, [0, 1, 2, 3, 4, 5, 6, 7, 8]⟩⟩,
     ⟨9, ⟨some 108, .call 30 [.t 107], none, [8, 7]⟩⟩,
     ⟨11, ⟨none, .store 1 (.t 109) (.t 105), none, [10, 6, 9, 0, 1, 2, 3, 4, 5, 7, 8]⟩⟩,
     ⟨12, ⟨some 110, .fa 1 (.t 8), none, [0, 1, 2, 3, 4, 5, 6, 7, 8, 9, 10, 11]⟩⟩,
     ⟨13, ⟨none, .store 1 (.t 110) (.t 108), none, [12, 9, 11, 0, 1, 2, 3, 4, 5, 6, 7, 8, 10]⟩⟩]) <|
  .seq (.hregion [
     ⟨2, ⟨some 113, .fa 0 (.t 8), none, []⟩⟩,
     ⟨3, ⟨some 114, .load false 1 (.t 113), none, [2]⟩⟩,
     ⟨1, ⟨some 112, .mv (.t 11), none, []⟩⟩,
     ⟨0, ⟨some 111, .load true 2 (.t 8), none, []⟩⟩,
     ⟨4, ⟨none, .store 2 (.t 4) (.t 111), none, [0]⟩⟩,
     ⟨5, ⟨some 5, .mv (.t 112), none, [1, 4, 0]⟩⟩,
     ⟨6, ⟨some 6, .mv (.t 114), none, [3, 5, 0, 1, 2, 4]⟩⟩,
     ⟨7, ⟨some 7, .mv (.c (.int .i64 0)), none, [6, 0, 1, 2, 3, 4, 5]⟩⟩]) <|
  .ret
abbrev n_orders_Take : Nat := 13
theorem b_orders_Take : bodyOf prog 13 [60, 67, 1000000] = some (c_orders_Take, [.c 4 true 2, .t 5, .t 6, .t 7], 115) := by kernel_rfl

def c_orders_Confirm : ACode :=
  .seq (.region [
     ⟨some 2, .box 2 29 (.t 0), none, []⟩,
     ⟨some 3, .box 1 3 (.t 1), none, []⟩,
     ⟨some 4, .alloc 2 29 (.agg [.int .i64 0, .nil]), none, []⟩,
     ⟨some 5, .mv (.c (.int .i64 0)), none, []⟩] none) <|
  .seq (.seq (.region [
      ⟨some 7, .load true 2 (.t 2), none, []⟩,
      ⟨some 8, .call 17 [.t 7], none, []⟩,
      ⟨some 9, .un .not (.t 8), none, []⟩] none) <|
   .cond (.t 9) (.seq (.region [
       ⟨some 10, .build [.int .i64 0, .nil] [], none, []⟩,
       ⟨none, .store 2 (.t 4) (.t 10), none, []⟩,
       ⟨some 5, .mv (.c (.int .i64 50)), none, []⟩] none) <|
    .ret) <|
   .skip) <|
  .seq (.seq (.region [
      ⟨some 11, .load false 1 (.t 3), none, []⟩,
      ⟨some 12, .bin .lss (.t 11) (.c (.int .i64 0)), none, []⟩,
      ⟨some 13, .mv (.t 12), none, []⟩,
      ⟨some 14, .load false 1 (.t 3), some (13, false), []⟩,
      ⟨some 15, .fa 0 (.t 2), some (13, false), []⟩,
      ⟨some 16, .load false 1 (.t 15), some (13, false), []⟩,
      ⟨some 17, .bin .geq (.t 14) (.t 16), some (13, false), []⟩,
      ⟨some 18, .pick (.t 13) (.c (.bool true)) (.t 17), none, []⟩] none) <|
   .cond (.t 18) (.seq (.region [
       ⟨some 19, .build [.int .i64 0, .nil] [], none, []⟩,
       ⟨none, .store 2 (.t 4) (.t 19), none, []⟩,
       ⟨some 5, .mv (.c (.int .i64 1)), none, []⟩] none) <|
    .ret) <|
   .skip) <|
  .seq (.region [
     ⟨some 20, .fa 1 (.t 2), none, []⟩,
     ⟨some 21, .load false 1 (.t 20), none, []⟩,
     ⟨some 22, .call 30 [.t 21], none, []⟩,
     ⟨some 6, .mv (.t 22), none, []⟩] none) <|
  .seq (.hregion [
     ⟨3, ⟨some 26, .mkf 36 [.t 3], none, []⟩⟩,
     ⟨2, ⟨some 25, .mv (.t 6), none, []⟩⟩,
     ⟨0, ⟨some 23, .fa 0 (.t 2), none, []⟩⟩,
     ⟨1, ⟨some 24, .load false 1 (.t 23), none, [0]⟩⟩,
     ⟨4, ⟨some 27, .call 35 [.t 25, .t 26], none, [2, 3]⟩⟩,
     ⟨5, ⟨some 28, .build [.int .i64 0, .nil] [(0, 1, .t 24), (1, 1, .t 27)], none, [1, 4, 0, 2, 3]⟩⟩,
     ⟨6, ⟨none, .store 2 (.t 4) (.t 28), none, [5, 4, 0, 1, 2, 3]⟩⟩,
     ⟨7, ⟨some 5, .mv (.c (.int .i64 0)), none, [6, 0, 1, 2, 3, 4, 5]⟩⟩]) <|
  .ret
abbrev n_orders_Confirm : Nat := 14
theorem b_orders_Confirm : bodyOf prog 14 [1000000] = some (c_orders_Confirm, [.c 4 true 2, .t 5], 29) := by kernel_rfl

def c_mk_Mod : ACode :=
  .seq (.region [
     ⟨some 4, .mv (.c (.int .i64 0)), none, []⟩] none) <|
  .seq (.region [
     ⟨some 5, .mv (.t 0), none, []⟩,
     ⟨some 6, .mv (.t 1), none, []⟩,
     ⟨some 7, .bin .rem (.t 5) (.t 6), none, []⟩,
     ⟨some 8, .mv (.t 1), none, []⟩,
     ⟨some 9, .bin .add (.t 7) (.t 8), none, []⟩,
     ⟨some 10, .mv (.t 1), none, []⟩,
     ⟨some 11, .bin .rem (.t 9) (.t 10), none, []⟩,
     ⟨some 4, .mv (.t 11), none, []⟩] none) <|
  .ret
abbrev n_mk_Mod : Nat := 15
theorem b_mk_Mod : bodyOf prog 15 [] = some (c_mk_Mod, [.t 4], 12) := by kernel_rfl

def c_ref27_SameOrders : ACode :=
  .seq (.region [
     ⟨some 4, .mv (.c (.bool false)), none, []⟩] none) <|
  .seq (.seq (.region [
      ⟨some 6, .mv (.t 0), none, []⟩,
      ⟨some 7, .len (.t 6), none, []⟩,
      ⟨some 8, .mv (.t 1), none, []⟩,
      ⟨some 9, .len (.t 8), none, []⟩,
      ⟨some 10, .bin .neq (.t 7) (.t 9), none, []⟩] none) <|
   .cond (.t 10) (.seq (.region [
       ⟨some 4, .mv (.c (.bool false)), none, []⟩] none) <|
    .ret) <|
   .skip) <|
  .seq (.seq (.region [
      ⟨some 11, .mv (.t 0), none, []⟩,
      ⟨some 12, .len (.t 11), none, []⟩,
      ⟨some 13, .mv (.c (.int .i64 0)), none, []⟩] none) <|
   .block 0 <|
   .loop <|
   .seq (.region [
      ⟨some 14, .bin .lss (.t 13) (.t 12), none, []⟩] none) <|
   .seq (.cond (.t 14) (.skip) <|
    .exit 0) <|
   .seq (.block 1 <|
    .seq (.region [
       ⟨some 15, .mv (.t 13), none, []⟩,
       ⟨some 5, .mv (.t 15), none, []⟩] none) <|
    .seq (.hregion [
       ⟨5, ⟨some 21, .mv (.t 5), none, []⟩⟩,
       ⟨4, ⟨some 20, .mv (.t 1), none, []⟩⟩,
       ⟨6, ⟨some 22, .ixs 4 (.t 20) (.t 21), none, [4, 5]⟩⟩,
       ⟨7, ⟨some 23, .load true 4 (.t 22), none, [6, 4, 5]⟩⟩,
       ⟨1, ⟨some 17, .mv (.t 5), none, []⟩⟩,
       ⟨0, ⟨some 16, .mv (.t 0), none, []⟩⟩,
       ⟨2, ⟨some 18, .ixs 4 (.t 16) (.t 17), none, [0, 1]⟩⟩,
       ⟨3, ⟨some 19, .load true 4 (.t 18), none, [2, 0, 1]⟩⟩,
       ⟨8, ⟨some 24, .eqs true [0, 0, 0, 0] (.t 19) (.t 23), none, [3, 7, 2, 0, 1, 6, 4, 5]⟩⟩]) <|
    .cond (.t 24) (.seq (.region [
        ⟨some 4, .mv (.c (.bool false)), none, []⟩] none) <|
     .ret) <|
    .skip) <|
   .region [
     ⟨some 25, .bin .add (.t 13) (.c (.int .i64 1)), none, []⟩,
     ⟨some 13, .mv (.t 25), none, []⟩] none) <|
  .seq (.region [
     ⟨some 4, .mv (.c (.bool true)), none, []⟩] none) <|
  .ret
abbrev n_ref27_SameOrders : Nat := 16
theorem b_ref27_SameOrders : bodyOf prog 16 [1000000] = some (c_ref27_SameOrders, [.t 4], 26) := by kernel_rfl

def c_orders_Valid : ACode :=
  .seq (.region [
     ⟨some 1, .box 2 29 (.t 0), none, []⟩,
     ⟨some 2, .mv (.c (.bool false)), none, []⟩] none) <|
  .seq (.seq (.region [
      ⟨some 5, .fa 0 (.t 1), none, []⟩,
      ⟨some 6, .load false 1 (.t 5), none, []⟩,
      ⟨some 7, .call 37 [.t 6, .c (.int .i64 1), .c (.int .i64 1073741824)], none, []⟩,
      ⟨some 8, .un .not (.t 7), none, []⟩,
      ⟨some 9, .mv (.t 8), none, []⟩,
      ⟨some 10, .fa 1 (.t 1), some (9, false), []⟩,
      ⟨some 11, .load false 1 (.t 10), some (9, false), []⟩,
      ⟨some 12, .len (.t 11), some (9, false), []⟩,
      ⟨some 13, .bin .gtr (.t 12) (.c (.int .i64 64)), some (9, false), []⟩,
      ⟨some 14, .pick (.t 9) (.c (.bool true)) (.t 13), none, []⟩] none) <|
   .cond (.t 14) (.seq (.region [
       ⟨some 2, .mv (.c (.bool false)), none, []⟩] none) <|
    .ret) <|
   .skip) <|
  .seq (.seq (.region [
      ⟨some 15, .fa 1 (.t 1), none, []⟩,
      ⟨some 16, .load false 1 (.t 15), none, []⟩,
      ⟨some 17, .len (.t 16), none, []⟩,
      ⟨some 18, .mv (.c (.int .i64 0)), none, []⟩] none) <|
   .block 0 <|
   .loop <|
   .seq (.region [
      ⟨some 19, .bin .lss (.t 18) (.t 17), none, []⟩] none) <|
   .seq (.cond (.t 19) (.skip) <|
    .exit 0) <|
   .seq (.block 1 <|
    .seq (.region [
       ⟨some 20, .mv (.t 18), none, []⟩,
       ⟨some 21, .ixs 4 (.t 16) (.t 18), none, []⟩,
       ⟨some 22, .load true 4 (.t 21), none, []⟩,
       ⟨some 4, .alloc 4 36 (.agg [.int .i64 0, .int .i64 0, .int .i64 0, .int .i64 0]), none, []⟩,
       ⟨some 3, .mv (.t 20), none, []⟩,
       ⟨none, .store 4 (.t 4) (.t 22), none, []⟩] none) <|
    .seq (.region [
       ⟨some 23, .load true 4 (.t 4), none, []⟩,
       ⟨some 24, .call 31 [.t 23], none, []⟩,
       ⟨some 25, .un .not (.t 24), none, []⟩,
       ⟨some 26, .mv (.t 25), none, []⟩,
       ⟨some 27, .fa 0 (.t 4), some (26, false), []⟩,
       ⟨some 28, .load false 1 (.t 27), some (26, false), []⟩,
       ⟨some 29, .fa 0 (.t 1), some (26, false), []⟩,
       ⟨some 30, .load false 1 (.t 29), some (26, false), []⟩,
       ⟨some 31, .fa 1 (.t 1), some (26, false), []⟩,
       ⟨some 32, .load false 1 (.t 31), some (26, false), []⟩,
       ⟨some 33, .len (.t 32), some (26, false), []⟩,
       ⟨some 34, .bin .sub (.t 30) (.t 33), some (26, false), []⟩,
       ⟨some 35, .mv (.t 3), some (26, false), []⟩,
       ⟨some 36, .bin .add (.t 34) (.t 35), some (26, false), []⟩,
       ⟨some 37, .bin .neq (.t 28) (.t 36), some (26, false), []⟩,
       ⟨some 38, .pick (.t 26) (.c (.bool true)) (.t 37), none, []⟩] none) <|
    .cond (.t 38) (.seq (.region [
        ⟨some 2, .mv (.c (.bool false)), none, []⟩] none) <|
     .ret) <|
    .skip) <|
   .region [
     ⟨some 39, .bin .add (.t 18) (.c (.int .i64 1)), none, []⟩,
     ⟨some 18, .mv (.t 39), none, []⟩] none) <|
  .seq (.region [
     ⟨some 2, .mv (.c (.bool true)), none, []⟩] none) <|
  .ret
abbrev n_orders_Valid : Nat := 17
theorem b_orders_Valid : bodyOf prog 17 [1000000] = some (c_orders_Valid, [.t 2], 40) := by kernel_rfl

def c_orders_Right : ACode :=
  .seq (.region [
     ⟨some 1, .box 2 31 (.t 0), none, []⟩,
     ⟨some 2, .mv (.c (.bool false)), none, []⟩] none) <|
  .seq (.seq (.region [
      ⟨some 6, .fa 0 (.t 1), none, []⟩,
      ⟨some 7, .load false 1 (.t 6), none, []⟩,
      ⟨some 8, .call 37 [.t 7, .c (.int .i64 0), .c (.int .i64 1073741824)], none, []⟩,
      ⟨some 9, .un .not (.t 8), none, []⟩,
      ⟨some 10, .mv (.t 9), none, []⟩,
      ⟨some 11, .fa 1 (.t 1), some (10, false), []⟩,
      ⟨some 12, .load false 1 (.t 11), some (10, false), []⟩,
      ⟨some 13, .len (.t 12), some (10, false), []⟩,
      ⟨some 14, .bin .gtr (.t 13) (.c (.int .i64 64)), some (10, false), []⟩,
      ⟨some 15, .pick (.t 10) (.c (.bool true)) (.t 14), none, []⟩] none) <|
   .cond (.t 15) (.seq (.region [
       ⟨some 2, .mv (.c (.bool false)), none, []⟩] none) <|
    .ret) <|
   .skip) <|
  .seq (.region [
     ⟨some 16, .fa 0 (.t 1), none, []⟩,
     ⟨some 17, .load false 1 (.t 16), none, []⟩,
     ⟨some 18, .bin .add (.t 17) (.c (.int .i64 1)), none, []⟩,
     ⟨some 3, .mv (.t 18), none, []⟩] none) <|
  .seq (.seq (.region [
      ⟨some 19, .fa 1 (.t 1), none, []⟩,
      ⟨some 20, .load false 1 (.t 19), none, []⟩,
      ⟨some 21, .len (.t 20), none, []⟩,
      ⟨some 22, .mv (.c (.int .i64 0)), none, []⟩] none) <|
   .block 0 <|
   .loop <|
   .seq (.region [
      ⟨some 23, .bin .lss (.t 22) (.t 21), none, []⟩] none) <|
   .seq (.cond (.t 23) (.skip) <|
    .exit 0) <|
   .seq (.block 1 <|
    .seq (.region [
       ⟨some 24, .ixs 4 (.t 20) (.t 22), none, []⟩,
       ⟨some 25, .load true 4 (.t 24), none, []⟩,
       ⟨some 5, .alloc 4 36 (.agg [.int .i64 0, .int .i64 0, .int .i64 0, .int .i64 0]), none, []⟩,
       ⟨none, .store 4 (.t 5) (.t 25), none, []⟩] none) <|
    .seq (.seq (.region [
        ⟨some 26, .load true 4 (.t 5), none, []⟩,
        ⟨some 27, .call 31 [.t 26], none, []⟩,
        ⟨some 28, .un .not (.t 27), none, []⟩,
        ⟨some 29, .mv (.t 28), none, []⟩,
        ⟨some 30, .fa 0 (.t 5), some (29, false), []⟩,
        ⟨some 31, .load false 1 (.t 30), some (29, false), []⟩,
        ⟨some 32, .mv (.t 3), some (29, false), []⟩,
        ⟨some 33, .bin .leq (.t 31) (.t 32), some (29, false), []⟩,
        ⟨some 34, .pick (.t 29) (.c (.bool true)) (.t 33), none, []⟩] none) <|
     .cond (.t 34) (.seq (.region [
         ⟨some 2, .mv (.c (.bool false)), none, []⟩] none) <|
      .ret) <|
     .skip) <|
    .region [
      ⟨some 35, .fa 0 (.t 5), none, []⟩,
      ⟨some 36, .load false 1 (.t 35), none, []⟩,
      ⟨some 3, .mv (.t 36), none, []⟩] none) <|
   .region [
     ⟨some 37, .bin .add (.t 22) (.c (.int .i64 1)), none, []⟩,
     ⟨some 22, .mv (.t 37), none, []⟩] none) <|
  .seq (.region [
     ⟨some 2, .mv (.c (.bool true)), none, []⟩] none) <|
  .ret
abbrev n_orders_Right : Nat := 18
theorem b_orders_Right : bodyOf prog 18 [1000000] = some (c_orders_Right, [.t 2], 38) := by kernel_rfl

def c_flow_Lines : ACode :=
  .seq (.region [
     ⟨some 2, .alloc 2 29 (.agg [.int .i64 0, .nil]), none, []⟩,
     ⟨some 3, .alloc 2 31 (.agg [.int .i64 0, .nil]), none, []⟩] none) <|
  .seq (.region [
     ⟨some 12, .build [.int .i64 0, .nil] [(0, 1, .c (.int .i64 1))], none, []⟩,
     ⟨some 13, .build [.int .i64 0, .nil] [], none, []⟩,
     ⟨some 4, .alloc 2 29 (.agg [.int .i64 0, .nil]), none, []⟩,
     ⟨some 5, .alloc 2 31 (.agg [.int .i64 0, .nil]), none, []⟩,
     ⟨none, .store 2 (.t 4) (.t 12), none, []⟩,
     ⟨none, .store 2 (.t 5) (.t 13), none, []⟩] none) <|
  .seq (.seq (.region [
      ⟨some 14, .mv (.t 0), none, []⟩,
      ⟨some 15, .call 10 [.t 14, .c (.int .i64 15)], none, []⟩,
      ⟨some 6, .mv (.t 15), none, []⟩] none) <|
   .block 0 <|
   .loop <|
   .seq (.seq (.region [
       ⟨some 16, .mv (.t 6), none, []⟩,
       ⟨some 17, .bin .gtr (.t 16) (.c (.int .i64 0)), none, []⟩] none) <|
    .cond (.t 17) (.skip) <|
    .exit 0) <|
   .seq (.block 1 <|
    .seq (.region [
       ⟨some 20, .mv (.t 0), none, []⟩,
       ⟨some 21, .call 10 [.t 20, .c (.int .i64 4)], none, []⟩] none) <|
    .block 2 <|
    .seq (.seq (.region [
        ⟨some 30, .bin .eql (.t 21) (.c (.int .i64 0)), none, []⟩,
        ⟨some 29, .mv (.t 30), none, []⟩] none) <|
     .cond (.t 29) (.skip) <|
     .region [
       ⟨some 31, .bin .eql (.t 21) (.c (.int .i64 1)), none, []⟩,
       ⟨some 29, .mv (.t 31), none, []⟩] none) <|
    .cond (.t 29) (.seq (.region [
        ⟨some 32, .mv (.t 0), none, []⟩,
        ⟨some 33, .call 11 [.t 32, .c (.int .i64 1)], none, []⟩,
        ⟨some 7, .alloc 4 36 (.agg [.int .i64 0, .int .i64 0, .int .i64 0, .int .i64 0]), none, []⟩,
        ⟨none, .store 4 (.t 7) (.t 33), none, []⟩] none) <|
     .region [
       ⟨some 35, .load true 2 (.t 4), none, []⟩,
       ⟨some 36, .fa 1 (.t 7), none, []⟩,
       ⟨some 37, .load false 1 (.t 36), none, []⟩,
       ⟨some 38, .fa 2 (.t 7), none, []⟩,
       ⟨some 39, .load false 1 (.t 38), none, []⟩,
       ⟨some 40, .fa 3 (.t 7), none, []⟩,
       ⟨some 41, .load false 1 (.t 40), none, []⟩,
       ⟨some 42, .call 23 [.t 35, .t 37, .t 39, .t 41], none, []⟩,
       ⟨some 34, .mv (.t 42), none, []⟩,
       ⟨some 43, .ext (.t 34) 0, none, []⟩,
       ⟨some 44, .ext (.t 34) 1, none, []⟩,
       ⟨some 45, .ext (.t 34) 2, none, []⟩,
       ⟨none, .store 2 (.t 4) (.t 43), none, []⟩] none) <|
    .seq (.region [
       ⟨some 47, .bin .eql (.t 21) (.c (.int .i64 2)), none, []⟩,
       ⟨some 46, .mv (.t 47), none, []⟩] none) <|
    .cond (.t 46) (.seq (.region [
        ⟨some 48, .fa 1 (.t 4), none, []⟩,
        ⟨some 49, .load false 1 (.t 48), none, []⟩,
        ⟨some 50, .len (.t 49), none, []⟩,
        ⟨some 51, .bin .gtr (.t 50) (.c (.int .i64 0)), none, []⟩] none) <|
     .cond (.t 51) (.seq (.hregion [
         ⟨4, ⟨some 57, .fa 1 (.t 4), none, []⟩⟩,
         ⟨5, ⟨some 58, .load false 1 (.t 57), none, [4]⟩⟩,
         ⟨6, ⟨some 59, .len (.t 58), none, [5, 4]⟩⟩,
         ⟨3, ⟨some 56, .mv (.t 0), none, []⟩⟩,
         ⟨1, ⟨some 54, .fa 1 (.t 4), none, []⟩⟩,
         ⟨2, ⟨some 55, .load false 1 (.t 54), none, [1]⟩⟩,
         ⟨0, ⟨some 53, .load true 2 (.t 5), none, []⟩⟩,
         ⟨7, ⟨some 60, .call 10 [.t 56, .t 59], none, [3, 6, 5, 4]⟩⟩,
         ⟨8, ⟨some 61, .ixs 4 (.t 55) (.t 60), none, [2, 7, 1, 3, 6, 5, 4]⟩⟩,
         ⟨9, ⟨some 62, .load true 4 (.t 61), none, [8, 2, 7, 1, 3, 6, 5, 4]⟩⟩,
         ⟨10, ⟨some 63, .call 28 [.t 53, .t 62], none, [0, 9, 7, 8, 2, 1, 3, 6, 5, 4]⟩⟩,
         ⟨11, ⟨some 52, .mv (.t 63), none, [10, 0, 9, 7, 8, 2, 1, 3, 6, 5, 4]⟩⟩,
         ⟨15, ⟨some 67, .ext (.t 52) 3, none, [11, 10, 0, 9, 7, 8, 2, 1, 3, 6, 5, 4]⟩⟩,
         ⟨14, ⟨some 66, .ext (.t 52) 2, none, [11, 10, 0, 9, 7, 8, 2, 1, 3, 6, 5, 4]⟩⟩,
         ⟨13, ⟨some 65, .ext (.t 52) 1, none, [11, 10, 0, 9, 7, 8, 2, 1, 3, 6, 5, 4]⟩⟩,
         ⟨12, ⟨some 64, .ext (.t 52) 0, none, [11, 10, 0, 9, 7, 8, 2, 1, 3, 6, 5, 4]⟩⟩,
         ⟨16, ⟨some 8, .alloc 2 31 (.agg [.int .i64 0, .nil]), none, []⟩⟩,
         ⟨17, ⟨none, .store 2 (.t 8) (.t 64), none, [16, 12, 10, 0, 1, 2, 3, 4, 5, 6, 7, 8, 9, 11]⟩⟩,
         ⟨18, ⟨some 9, .mv (.t 65), none, [13, 17, 0, 1, 2, 3, 4, 5, 6, 7, 8, 9, 10, 11, 12, 16]⟩⟩,
         ⟨19, ⟨some 10, .mv (.t 66), none, [14, 18, 0, 1, 2, 3, 4, 5, 6, 7, 8, 9, 10, 11, 12, 13, 16, 17]⟩⟩,
         ⟨20, ⟨some 11, .mv (.t 67), none, [15, 19, 0, 1, 2, 3, 4, 5, 6, 7, 8, 9, 10, 11, 12, 13, 14, 16, 17, 18]⟩⟩]) <|
      .seq (.region [
         ⟨some 68, .mv (.t 11), none, []⟩,
         ⟨some 69, .bin .eql (.t 68) (.c (.int .i64 0)), none, []⟩] none) <|
      .cond (.t 69) (.region [
         ⟨some 70, .load true 2 (.t 8), none, []⟩,
         ⟨none, .store 2 (.t 5) (.t 70), none, []⟩] none) <|
      .skip) <|
     .skip) <|
    .region [
      ⟨some 23, .load true 2 (.t 4), none, []⟩,
      ⟨some 24, .fa 0 (.t 5), none, []⟩,
      ⟨some 25, .load false 1 (.t 24), none, []⟩,
      ⟨some 26, .call 24 [.t 23, .t 25], none, []⟩,
      ⟨some 22, .mv (.t 26), none, []⟩,
      ⟨some 27, .ext (.t 22) 0, none, []⟩,
      ⟨some 28, .ext (.t 22) 1, none, []⟩,
      ⟨none, .store 2 (.t 4) (.t 27), none, []⟩] none) <|
   .region [
     ⟨some 18, .mv (.t 6), none, []⟩,
     ⟨some 19, .bin .sub (.t 18) (.c (.int .i64 1)), none, []⟩,
     ⟨some 6, .mv (.t 19), none, []⟩] none) <|
  .seq (.hregion [
     ⟨1, ⟨some 72, .load true 2 (.t 5), none, []⟩⟩,
     ⟨0, ⟨some 71, .load true 2 (.t 4), none, []⟩⟩,
     ⟨2, ⟨none, .store 2 (.t 2) (.t 71), none, [0]⟩⟩,
     ⟨3, ⟨none, .store 2 (.t 3) (.t 72), none, [1, 2, 0]⟩⟩]) <|
  .ret
abbrev n_flow_Lines : Nat := 19
theorem b_flow_Lines : bodyOf prog 19 [1000000] = some (c_flow_Lines, [.c 2 true 2, .c 3 true 2], 73) := by kernel_rfl

def c_ref27_Valid : ACode :=
  .seq (.region [
     ⟨some 1, .box 2 29 (.t 0), none, []⟩,
     ⟨some 2, .mv (.c (.bool false)), none, []⟩] none) <|
  .seq (.seq (.region [
      ⟨some 5, .fa 0 (.t 1), none, []⟩,
      ⟨some 6, .load false 1 (.t 5), none, []⟩,
      ⟨some 7, .call 38 [.t 6, .c (.int .i64 1), .c (.int .i64 1073741824)], none, []⟩,
      ⟨some 8, .un .not (.t 7), none, []⟩,
      ⟨some 9, .mv (.t 8), none, []⟩,
      ⟨some 10, .fa 1 (.t 1), some (9, false), []⟩,
      ⟨some 11, .load false 1 (.t 10), some (9, false), []⟩,
      ⟨some 12, .len (.t 11), some (9, false), []⟩,
      ⟨some 13, .bin .gtr (.t 12) (.c (.int .i64 64)), some (9, false), []⟩,
      ⟨some 14, .pick (.t 9) (.c (.bool true)) (.t 13), none, []⟩] none) <|
   .cond (.t 14) (.seq (.region [
       ⟨some 2, .mv (.c (.bool false)), none, []⟩] none) <|
    .ret) <|
   .skip) <|
  .seq (.seq (.region [
      ⟨some 15, .fa 1 (.t 1), none, []⟩,
      ⟨some 16, .load false 1 (.t 15), none, []⟩,
      ⟨some 17, .len (.t 16), none, []⟩,
      ⟨some 18, .mv (.c (.int .i64 0)), none, []⟩] none) <|
   .block 0 <|
   .loop <|
   .seq (.region [
      ⟨some 19, .bin .lss (.t 18) (.t 17), none, []⟩] none) <|
   .seq (.cond (.t 19) (.skip) <|
    .exit 0) <|
   .seq (.block 1 <|
    .seq (.region [
       ⟨some 20, .mv (.t 18), none, []⟩,
       ⟨some 21, .ixs 4 (.t 16) (.t 18), none, []⟩,
       ⟨some 22, .load true 4 (.t 21), none, []⟩,
       ⟨some 4, .alloc 4 36 (.agg [.int .i64 0, .int .i64 0, .int .i64 0, .int .i64 0]), none, []⟩,
       ⟨some 3, .mv (.t 20), none, []⟩,
       ⟨none, .store 4 (.t 4) (.t 22), none, []⟩] none) <|
    .seq (.region [
       ⟨some 23, .load true 4 (.t 4), none, []⟩,
       ⟨some 24, .call 39 [.t 23], none, []⟩,
       ⟨some 25, .un .not (.t 24), none, []⟩,
       ⟨some 26, .mv (.t 25), none, []⟩,
       ⟨some 27, .fa 0 (.t 4), some (26, false), []⟩,
       ⟨some 28, .load false 1 (.t 27), some (26, false), []⟩,
       ⟨some 29, .fa 0 (.t 1), some (26, false), []⟩,
       ⟨some 30, .load false 1 (.t 29), some (26, false), []⟩,
       ⟨some 31, .fa 1 (.t 1), some (26, false), []⟩,
       ⟨some 32, .load false 1 (.t 31), some (26, false), []⟩,
       ⟨some 33, .len (.t 32), some (26, false), []⟩,
       ⟨some 34, .bin .sub (.t 30) (.t 33), some (26, false), []⟩,
       ⟨some 35, .mv (.t 3), some (26, false), []⟩,
       ⟨some 36, .bin .add (.t 34) (.t 35), some (26, false), []⟩,
       ⟨some 37, .bin .neq (.t 28) (.t 36), some (26, false), []⟩,
       ⟨some 38, .pick (.t 26) (.c (.bool true)) (.t 37), none, []⟩] none) <|
    .cond (.t 38) (.seq (.region [
        ⟨some 2, .mv (.c (.bool false)), none, []⟩] none) <|
     .ret) <|
    .skip) <|
   .region [
     ⟨some 39, .bin .add (.t 18) (.c (.int .i64 1)), none, []⟩,
     ⟨some 18, .mv (.t 39), none, []⟩] none) <|
  .seq (.region [
     ⟨some 2, .mv (.c (.bool true)), none, []⟩] none) <|
  .ret
abbrev n_ref27_Valid : Nat := 20
theorem b_ref27_Valid : bodyOf prog 20 [1000000] = some (c_ref27_Valid, [.t 2], 40) := by kernel_rfl

def c_orders_Same : ACode :=
  .seq (.region [
     ⟨some 2, .box 2 29 (.t 0), none, []⟩,
     ⟨some 3, .box 2 29 (.t 1), none, []⟩,
     ⟨some 4, .mv (.c (.bool false)), none, []⟩] none) <|
  .seq (.region [
     ⟨some 5, .fa 0 (.t 2), none, []⟩,
     ⟨some 6, .load false 1 (.t 5), none, []⟩,
     ⟨some 7, .fa 0 (.t 3), none, []⟩,
     ⟨some 8, .load false 1 (.t 7), none, []⟩,
     ⟨some 9, .bin .eql (.t 6) (.t 8), none, []⟩,
     ⟨some 10, .mv (.t 9), none, []⟩,
     ⟨some 11, .fa 1 (.t 2), some (10, true), []⟩,
     ⟨some 12, .load false 1 (.t 11), some (10, true), []⟩,
     ⟨some 13, .fa 1 (.t 3), some (10, true), []⟩,
     ⟨some 14, .load false 1 (.t 13), some (10, true), []⟩,
     ⟨some 15, .call 40 [.t 12, .t 14], some (10, true), []⟩,
     ⟨some 16, .pick (.t 10) (.t 15) (.c (.bool false)), none, []⟩,
     ⟨some 4, .mv (.t 16), none, []⟩] none) <|
  .ret
abbrev n_orders_Same : Nat := 21
theorem b_orders_Same : bodyOf prog 21 [1000000] = some (c_orders_Same, [.t 4], 17) := by kernel_rfl

def c_ref27_Same : ACode :=
  .seq (.region [
     ⟨some 2, .box 2 29 (.t 0), none, []⟩,
     ⟨some 3, .box 2 29 (.t 1), none, []⟩,
     ⟨some 4, .mv (.c (.bool false)), none, []⟩] none) <|
  .seq (.region [
     ⟨some 5, .fa 0 (.t 2), none, []⟩,
     ⟨some 6, .load false 1 (.t 5), none, []⟩,
     ⟨some 7, .fa 0 (.t 3), none, []⟩,
     ⟨some 8, .load false 1 (.t 7), none, []⟩,
     ⟨some 9, .bin .eql (.t 6) (.t 8), none, []⟩,
     ⟨some 10, .mv (.t 9), none, []⟩,
     ⟨some 11, .fa 1 (.t 2), some (10, true), []⟩,
     ⟨some 12, .load false 1 (.t 11), some (10, true), []⟩,
     ⟨some 13, .fa 1 (.t 3), some (10, true), []⟩,
     ⟨some 14, .load false 1 (.t 13), some (10, true), []⟩,
     ⟨some 15, .call 16 [.t 12, .t 14], some (10, true), []⟩,
     ⟨some 16, .pick (.t 10) (.t 15) (.c (.bool false)), none, []⟩,
     ⟨some 4, .mv (.t 16), none, []⟩] none) <|
  .ret
abbrev n_ref27_Same : Nat := 22
theorem b_ref27_Same : bodyOf prog 22 [1000000] = some (c_ref27_Same, [.t 4], 17) := by kernel_rfl

def c_ref27_Issue : ACode :=
  .seq (.region [
     ⟨some 4, .box 2 29 (.t 0), none, []⟩,
     ⟨some 8, .alloc 2 29 (.agg [.int .i64 0, .nil]), none, []⟩,
     ⟨some 9, .alloc 4 36 (.agg [.int .i64 0, .int .i64 0, .int .i64 0, .int .i64 0]), none, []⟩,
     ⟨some 10, .mv (.c (.int .i64 0)), none, []⟩] none) <|
  .seq (.seq (.region [
      ⟨some 13, .load true 2 (.t 4), none, []⟩,
      ⟨some 14, .call 20 [.t 13], none, []⟩,
      ⟨some 15, .un .not (.t 14), none, []⟩] none) <|
   .cond (.t 15) (.seq (.region [
       ⟨some 16, .build [.int .i64 0, .nil] [], none, []⟩,
       ⟨some 17, .build [.int .i64 0, .int .i64 0, .int .i64 0, .int .i64 0] [], none, []⟩,
       ⟨none, .store 2 (.t 8) (.t 16), none, []⟩,
       ⟨none, .store 4 (.t 9) (.t 17), none, []⟩,
       ⟨some 10, .mv (.c (.int .i64 50)), none, []⟩] none) <|
    .ret) <|
   .skip) <|
  .seq (.seq (.region [
      ⟨some 18, .mv (.t 1), none, []⟩,
      ⟨some 19, .mv (.t 2), none, []⟩,
      ⟨some 20, .mv (.t 3), none, []⟩,
      ⟨some 21, .call 41 [.t 18, .t 19, .t 20], none, []⟩,
      ⟨some 11, .mv (.t 21), none, []⟩] none) <|
   .seq (.region [
      ⟨some 22, .mv (.t 11), none, []⟩,
      ⟨some 23, .bin .neq (.t 22) (.c (.int .i64 0)), none, []⟩] none) <|
   .cond (.t 23) (.seq (.region [
       ⟨some 24, .build [.int .i64 0, .nil] [], none, []⟩,
       ⟨some 25, .build [.int .i64 0, .int .i64 0, .int .i64 0, .int .i64 0] [], none, []⟩,
       ⟨some 26, .mv (.t 11), none, []⟩,
       ⟨none, .store 2 (.t 8) (.t 24), none, []⟩,
       ⟨none, .store 4 (.t 9) (.t 25), none, []⟩,
       ⟨some 10, .mv (.t 26), none, []⟩] none) <|
    .ret) <|
   .skip) <|
  .seq (.seq (.region [
      ⟨some 27, .fa 1 (.t 4), none, []⟩,
      ⟨some 28, .load false 1 (.t 27), none, []⟩,
      ⟨some 29, .len (.t 28), none, []⟩,
      ⟨some 30, .bin .eql (.t 29) (.c (.int .i64 64)), none, []⟩,
      ⟨some 31, .mv (.t 30), none, []⟩,
      ⟨some 32, .fa 0 (.t 4), some (31, false), []⟩,
      ⟨some 33, .load false 1 (.t 32), some (31, false), []⟩,
      ⟨some 34, .bin .eql (.t 33) (.c (.int .i64 1073741824)), some (31, false), []⟩,
      ⟨some 35, .pick (.t 31) (.c (.bool true)) (.t 34), none, []⟩] none) <|
   .cond (.t 35) (.seq (.region [
       ⟨some 36, .build [.int .i64 0, .nil] [], none, []⟩,
       ⟨some 37, .build [.int .i64 0, .int .i64 0, .int .i64 0, .int .i64 0] [], none, []⟩,
       ⟨none, .store 2 (.t 8) (.t 36), none, []⟩,
       ⟨none, .store 4 (.t 9) (.t 37), none, []⟩,
       ⟨some 10, .mv (.c (.int .i64 10)), none, []⟩] none) <|
    .ret) <|
   .skip) <|
  .seq (.region [
     ⟨some 38, .fa 0 (.t 4), none, []⟩,
     ⟨some 39, .load false 1 (.t 38), none, []⟩,
     ⟨some 40, .mv (.t 1), none, []⟩,
     ⟨some 41, .mv (.t 2), none, []⟩,
     ⟨some 42, .mv (.t 3), none, []⟩,
     ⟨some 43, .build [.int .i64 0, .int .i64 0, .int .i64 0, .int .i64 0] [(0, 1, .t 39), (1, 1, .t 40), (2, 1, .t 41), (3, 1, .t 42)], none, []⟩,
     ⟨some 12, .alloc 4 36 (.agg [.int .i64 0, .int .i64 0, .int .i64 0, .int .i64 0]), none, []⟩,
     ⟨none, .store 4 (.t 12) (.t 43), none, []⟩] none) <|
  .seq (.hregion [
     ⟨10, ⟨some 54, .load true 4 (.t 12), none, []⟩⟩,
     ⟨6, ⟨some 50, .load true 4 (.t 12), none, []⟩⟩,
     ⟨7, ⟨some 51, .lit false 4 36 [.t 50], none, [6]⟩⟩,
     ⟨3, ⟨some 47, .fa 1 (.t 4), none, []⟩⟩,
     ⟨4, ⟨some 48, .load false 1 (.t 47), none, [3]⟩⟩,
     ⟨0, ⟨some 44, .fa 0 (.t 4), none, []⟩⟩,
     ⟨1, ⟨some 45, .load false 1 (.t 44), none, [0]⟩⟩,
     ⟨2, ⟨some 46, .bin .add (.t 45) (.c (.int .i64 1)), none, [1, 0]⟩⟩,
     ⟨5, ⟨some 49, .app 4 32 36 (.c (.nil)) (.t 48), none, [4, 3]⟩⟩,
     ⟨8, ⟨some 52, .app 4 32 36 (.t 49) (.t 51), none, [5, 7, 4, 3, 6]⟩⟩,
     ⟨9, ⟨some 53, .build [.int .i64 0, .nil] [(0, 1, .t 46), (1, 1, .t 52)], none, [2, 8, 1, 0, 5, 7, 4, 3, 6]⟩⟩,
     ⟨11, ⟨none, .store 2 (.t 8) (.t 53), none, [9, 8, 0, 1, 2, 3, 4, 5, 6, 7]⟩⟩,
     ⟨12, ⟨none, .store 4 (.t 9) (.t 54), none, [10, 11, 0, 1, 2, 3, 4, 5, 6, 7, 8, 9]⟩⟩,
     ⟨13, ⟨some 10, .mv (.c (.int .i64 0)), none, [12, 0, 1, 2, 3, 4, 5, 6, 7, 8, 9, 10, 11]⟩⟩]) <|
  .ret
abbrev n_ref27_Issue : Nat := 23
theorem b_ref27_Issue : bodyOf prog 23 [1000000] = some (c_ref27_Issue, [.c 8 true 2, .c 9 true 4, .t 10], 55) := by kernel_rfl

def c_ref27_Confirm : ACode :=
  .seq (.region [
     ⟨some 2, .box 2 29 (.t 0), none, []⟩,
     ⟨some 4, .alloc 2 29 (.agg [.int .i64 0, .nil]), none, []⟩,
     ⟨some 5, .mv (.c (.int .i64 0)), none, []⟩] none) <|
  .seq (.seq (.region [
      ⟨some 9, .load true 2 (.t 2), none, []⟩,
      ⟨some 10, .call 20 [.t 9], none, []⟩,
      ⟨some 11, .un .not (.t 10), none, []⟩] none) <|
   .cond (.t 11) (.seq (.region [
       ⟨some 12, .build [.int .i64 0, .nil] [], none, []⟩,
       ⟨none, .store 2 (.t 4) (.t 12), none, []⟩,
       ⟨some 5, .mv (.c (.int .i64 50)), none, []⟩] none) <|
    .ret) <|
   .skip) <|
  .seq (.seq (.region [
      ⟨some 13, .mv (.t 1), none, []⟩,
      ⟨some 14, .bin .lss (.t 13) (.c (.int .i64 0)), none, []⟩,
      ⟨some 15, .mv (.t 14), none, []⟩,
      ⟨some 16, .mv (.t 1), some (15, false), []⟩,
      ⟨some 17, .fa 0 (.t 2), some (15, false), []⟩,
      ⟨some 18, .load false 1 (.t 17), some (15, false), []⟩,
      ⟨some 19, .bin .geq (.t 16) (.t 18), some (15, false), []⟩,
      ⟨some 20, .pick (.t 15) (.c (.bool true)) (.t 19), none, []⟩] none) <|
   .cond (.t 20) (.seq (.region [
       ⟨some 21, .build [.int .i64 0, .nil] [], none, []⟩,
       ⟨none, .store 2 (.t 4) (.t 21), none, []⟩,
       ⟨some 5, .mv (.c (.int .i64 1)), none, []⟩] none) <|
    .ret) <|
   .skip) <|
  .seq (.region [
     ⟨some 22, .fa 0 (.t 2), none, []⟩,
     ⟨some 23, .load false 1 (.t 22), none, []⟩,
     ⟨some 24, .build [.int .i64 0, .nil] [(0, 1, .t 23)], none, []⟩,
     ⟨some 6, .alloc 2 29 (.agg [.int .i64 0, .nil]), none, []⟩,
     ⟨none, .store 2 (.t 6) (.t 24), none, []⟩] none) <|
  .seq (.seq (.region [
      ⟨some 25, .fa 1 (.t 2), none, []⟩,
      ⟨some 26, .load false 1 (.t 25), none, []⟩,
      ⟨some 27, .len (.t 26), none, []⟩,
      ⟨some 28, .mv (.c (.int .i64 0)), none, []⟩] none) <|
   .block 0 <|
   .loop <|
   .seq (.region [
      ⟨some 29, .bin .lss (.t 28) (.t 27), none, []⟩] none) <|
   .seq (.cond (.t 29) (.skip) <|
    .exit 0) <|
   .seq (.block 1 <|
    .seq (.region [
       ⟨some 30, .ixs 4 (.t 26) (.t 28), none, []⟩,
       ⟨some 31, .load true 4 (.t 30), none, []⟩,
       ⟨some 8, .alloc 4 36 (.agg [.int .i64 0, .int .i64 0, .int .i64 0, .int .i64 0]), none, []⟩,
       ⟨none, .store 4 (.t 8) (.t 31), none, []⟩] none) <|
    .seq (.region [
       ⟨some 32, .fa 0 (.t 8), none, []⟩,
       ⟨some 33, .load false 1 (.t 32), none, []⟩,
       ⟨some 34, .mv (.t 1), none, []⟩,
       ⟨some 35, .bin .gtr (.t 33) (.t 34), none, []⟩] none) <|
    .cond (.t 35) (.region [
       ⟨some 36, .fa 1 (.t 6), none, []⟩,
       ⟨some 37, .load false 1 (.t 36), none, []⟩,
       ⟨some 38, .load true 4 (.t 8), none, []⟩,
       ⟨some 39, .lit false 4 36 [.t 38], none, []⟩,
       ⟨some 40, .app 4 32 36 (.t 37) (.t 39), none, []⟩,
       ⟨some 41, .fa 1 (.t 6), none, []⟩,
       ⟨none, .store 1 (.t 41) (.t 40), none, []⟩] none) <|
    .skip) <|
   .region [
     ⟨some 42, .bin .add (.t 28) (.c (.int .i64 1)), none, []⟩,
     ⟨some 28, .mv (.t 42), none, []⟩] none) <|
  .seq (.region [
     ⟨some 43, .load true 2 (.t 6), none, []⟩,
     ⟨none, .store 2 (.t 4) (.t 43), none, []⟩,
     ⟨some 5, .mv (.c (.int .i64 0)), none, []⟩] none) <|
  .ret
abbrev n_ref27_Confirm : Nat := 24
theorem b_ref27_Confirm : bodyOf prog 24 [1000000] = some (c_ref27_Confirm, [.c 4 true 2, .t 5], 44) := by kernel_rfl

def c_ref27_Right : ACode :=
  .seq (.region [
     ⟨some 1, .box 2 31 (.t 0), none, []⟩,
     ⟨some 2, .mv (.c (.bool false)), none, []⟩] none) <|
  .seq (.seq (.region [
      ⟨some 5, .fa 0 (.t 1), none, []⟩,
      ⟨some 6, .load false 1 (.t 5), none, []⟩,
      ⟨some 7, .call 38 [.t 6, .c (.int .i64 0), .c (.int .i64 1073741824)], none, []⟩,
      ⟨some 8, .un .not (.t 7), none, []⟩,
      ⟨some 9, .mv (.t 8), none, []⟩,
      ⟨some 10, .fa 1 (.t 1), some (9, false), []⟩,
      ⟨some 11, .load false 1 (.t 10), some (9, false), []⟩,
      ⟨some 12, .len (.t 11), some (9, false), []⟩,
      ⟨some 13, .bin .gtr (.t 12) (.c (.int .i64 64)), some (9, false), []⟩,
      ⟨some 14, .pick (.t 9) (.c (.bool true)) (.t 13), none, []⟩] none) <|
   .cond (.t 14) (.seq (.region [
       ⟨some 2, .mv (.c (.bool false)), none, []⟩] none) <|
    .ret) <|
   .skip) <|
  .seq (.seq (.region [
      ⟨some 15, .fa 1 (.t 1), none, []⟩,
      ⟨some 16, .load false 1 (.t 15), none, []⟩,
      ⟨some 17, .len (.t 16), none, []⟩,
      ⟨some 18, .mv (.c (.int .i64 0)), none, []⟩] none) <|
   .block 0 <|
   .loop <|
   .seq (.region [
      ⟨some 19, .bin .lss (.t 18) (.t 17), none, []⟩] none) <|
   .seq (.cond (.t 19) (.skip) <|
    .exit 0) <|
   .seq (.block 1 <|
    .seq (.region [
       ⟨some 20, .mv (.t 18), none, []⟩,
       ⟨some 21, .ixs 4 (.t 16) (.t 18), none, []⟩,
       ⟨some 22, .load true 4 (.t 21), none, []⟩,
       ⟨some 4, .alloc 4 36 (.agg [.int .i64 0, .int .i64 0, .int .i64 0, .int .i64 0]), none, []⟩,
       ⟨some 3, .mv (.t 20), none, []⟩,
       ⟨none, .store 4 (.t 4) (.t 22), none, []⟩] none) <|
    .seq (.hregion [
       ⟨0, ⟨some 23, .load true 4 (.t 4), none, []⟩⟩,
       ⟨1, ⟨some 24, .call 39 [.t 23], none, [0]⟩⟩,
       ⟨2, ⟨some 25, .un .not (.t 24), none, [1, 0]⟩⟩,
       ⟨3, ⟨some 26, .mv (.t 25), none, [2, 1, 0]⟩⟩,
       ⟨6, ⟨some 29, .fa 0 (.t 1), some (26, false), [3, 2, 1, 0]⟩⟩,
       ⟨7, ⟨some 30, .load false 1 (.t 29), some (26, false), [6, 3, 2, 1, 0]⟩⟩,
       ⟨8, ⟨some 31, .bin .add (.t 30) (.c (.int .i64 1)), some (26, false), [7, 3, 6, 2, 1, 0]⟩⟩,
       ⟨4, ⟨some 27, .fa 0 (.t 4), some (26, false), [3, 2, 1, 0]⟩⟩,
       ⟨5, ⟨some 28, .load false 1 (.t 27), some (26, false), [4, 3, 2, 1, 0]⟩⟩,
       ⟨9, ⟨some 32, .bin .leq (.t 28) (.t 31), some (26, false), [5, 8, 3, 4, 2, 1, 0, 7, 6]⟩⟩,
       ⟨10, ⟨some 33, .pick (.t 26) (.c (.bool true)) (.t 32), none, [3, 9, 2, 1, 0, 5, 8, 4, 7, 6]⟩⟩,
       ⟨11, ⟨some 34, .mv (.t 33), none, [10, 3, 9, 2, 1, 0, 5, 8, 4, 7, 6]⟩⟩,
       ⟨12, ⟨some 35, .mv (.t 3), some (34, false), [11, 10, 3, 9, 2, 1, 0, 5, 8, 4, 7, 6]⟩⟩,
       ⟨13, ⟨some 36, .bin .gtr (.t 35) (.c (.int .i64 0)), some (34, false), [12, 11, 10, 3, 9, 2, 1, 0, 5, 8, 4, 7, 6]⟩⟩,
       ⟨14, ⟨some 37, .mv (.t 36), some (34, false), [13, 11, 12, 10, 3, 9, 2, 1, 0, 5, 8, 4, 7, 6]⟩⟩,
       ⟨19, ⟨some 42, .mv (.t 3), some (37, true), [14, 13, 11, 12, 10, 3, 9, 2, 1, 0, 5, 8, 4, 7, 6]⟩⟩,
       ⟨20, ⟨some 43, .bin .sub (.t 42) (.c (.int .i64 1)), some (37, true), [19, 14, 13, 11, 12, 10, 3, 9, 2, 1, 0, 5, 8, 4, 7, 6]⟩⟩,
       ⟨17, ⟨some 40, .fa 1 (.t 1), some (37, true), [14, 13, 11, 12, 10, 3, 9, 2, 1, 0, 5, 8, 4, 7, 6]⟩⟩,
       ⟨18, ⟨some 41, .load false 1 (.t 40), some (37, true), [17, 14, 13, 11, 12, 10, 3, 9, 2, 1, 0, 5, 8, 4, 7, 6]⟩⟩,
       ⟨21, ⟨some 44, .ixs 4 (.t 41) (.t 43), some (37, true), [18, 20, 14, 17, 13, 11, 12, 10, 3, 9, 2, 1, 0, 5, 8, 4, 7, 6, 19]⟩⟩,
       ⟨22, ⟨some 45, .fa 0 (.t 44), some (37, true), [21, 14, 18, 20, 17, 13, 11, 12, 10, 3, 9, 2, 1, 0, 5, 8, 4, 7, 6, 19]⟩⟩,
       ⟨23, ⟨some 46, .load false 1 (.t 45), some (37, true), [22, 14, 21, 18, 20, 17, 13, 11, 12, 10, 3, 9, 2, 1, 0, 5, 8, 4, 7, 6, 19]⟩⟩,
       ⟨15, ⟨some 38, .fa 0 (.t 4), some (37, true), [14, 13, 11, 12, 10, 3, 9, 2, 1, 0, 5, 8, 4, 7, 6]⟩⟩,
       ⟨16, ⟨some 39, .load false 1 (.t 38), some (37, true), [15, 14, 13, 11, 12, 10, 3, 9, 2, 1, 0, 5, 8, 4, 7, 6]⟩⟩,
       ⟨24, ⟨some 47, .bin .leq (.t 39) (.t 46), some (37, true), [16, 23, 14, 15, 13, 11, 12, 10, 3, 9, 2, 1, 0, 5, 8, 4, 7, 6, 22, 21, 18, 20, 17, 19]⟩⟩,
       ⟨25, ⟨some 48, .pick (.t 37) (.t 47) (.c (.bool false)), some (34, false), [14, 24, 11, 13, 12, 10, 3, 9, 2, 1, 0, 5, 8, 4, 7, 6, 16, 23, 15, 22, 21, 18, 20, 17, 19]⟩⟩,
       ⟨26, ⟨some 49, .pick (.t 34) (.c (.bool true)) (.t 48), none, [11, 25, 10, 3, 9, 2, 1, 0, 5, 8, 4, 7, 6, 14, 24, 13, 12, 16, 23, 15, 22, 21, 18, 20, 17, 19]⟩⟩]) <|
    .cond (.t 49) (.seq (.region [
        ⟨some 2, .mv (.c (.bool false)), none, []⟩] none) <|
     .ret) <|
    .skip) <|
   .region [
     ⟨some 50, .bin .add (.t 18) (.c (.int .i64 1)), none, []⟩,
     ⟨some 18, .mv (.t 50), none, []⟩] none) <|
  .seq (.region [
     ⟨some 2, .mv (.c (.bool true)), none, []⟩] none) <|
  .ret
abbrev n_ref27_Right : Nat := 25
theorem b_ref27_Right : bodyOf prog 25 [1000000] = some (c_ref27_Right, [.t 2], 51) := by kernel_rfl

def c_orders_Like : ACode :=
  .seq (.region [
     ⟨some 2, .box 2 31 (.t 0), none, []⟩,
     ⟨some 3, .box 2 31 (.t 1), none, []⟩,
     ⟨some 4, .mv (.c (.bool false)), none, []⟩] none) <|
  .seq (.region [
     ⟨some 5, .fa 0 (.t 2), none, []⟩,
     ⟨some 6, .load false 1 (.t 5), none, []⟩,
     ⟨some 7, .fa 0 (.t 3), none, []⟩,
     ⟨some 8, .load false 1 (.t 7), none, []⟩,
     ⟨some 9, .bin .eql (.t 6) (.t 8), none, []⟩,
     ⟨some 10, .mv (.t 9), none, []⟩,
     ⟨some 11, .fa 1 (.t 2), some (10, true), []⟩,
     ⟨some 12, .load false 1 (.t 11), some (10, true), []⟩,
     ⟨some 13, .fa 1 (.t 3), some (10, true), []⟩,
     ⟨some 14, .load false 1 (.t 13), some (10, true), []⟩,
     ⟨some 15, .call 40 [.t 12, .t 14], some (10, true), []⟩,
     ⟨some 16, .pick (.t 10) (.t 15) (.c (.bool false)), none, []⟩,
     ⟨some 4, .mv (.t 16), none, []⟩] none) <|
  .ret
abbrev n_orders_Like : Nat := 26
theorem b_orders_Like : bodyOf prog 26 [1000000] = some (c_orders_Like, [.t 4], 17) := by kernel_rfl

def c_ref27_Like : ACode :=
  .seq (.region [
     ⟨some 2, .box 2 31 (.t 0), none, []⟩,
     ⟨some 3, .box 2 31 (.t 1), none, []⟩,
     ⟨some 4, .mv (.c (.bool false)), none, []⟩] none) <|
  .seq (.region [
     ⟨some 5, .fa 0 (.t 2), none, []⟩,
     ⟨some 6, .load false 1 (.t 5), none, []⟩,
     ⟨some 7, .fa 0 (.t 3), none, []⟩,
     ⟨some 8, .load false 1 (.t 7), none, []⟩,
     ⟨some 9, .bin .eql (.t 6) (.t 8), none, []⟩,
     ⟨some 10, .mv (.t 9), none, []⟩,
     ⟨some 11, .fa 1 (.t 2), some (10, true), []⟩,
     ⟨some 12, .load false 1 (.t 11), some (10, true), []⟩,
     ⟨some 13, .fa 1 (.t 3), some (10, true), []⟩,
     ⟨some 14, .load false 1 (.t 13), some (10, true), []⟩,
     ⟨some 15, .call 16 [.t 12, .t 14], some (10, true), []⟩,
     ⟨some 16, .pick (.t 10) (.t 15) (.c (.bool false)), none, []⟩,
     ⟨some 4, .mv (.t 16), none, []⟩] none) <|
  .ret
abbrev n_ref27_Like : Nat := 27
theorem b_ref27_Like : bodyOf prog 27 [1000000] = some (c_ref27_Like, [.t 4], 17) := by kernel_rfl

def c_ref27_Take : ACode :=
  .seq (.region [
     ⟨some 2, .box 2 31 (.t 0), none, []⟩,
     ⟨some 3, .box 4 36 (.t 1), none, []⟩,
     ⟨some 4, .alloc 2 31 (.agg [.int .i64 0, .nil]), none, []⟩,
     ⟨some 5, .mv (.c (.nil)), none, []⟩,
     ⟨some 6, .mv (.c (.int .i64 0)), none, []⟩,
     ⟨some 7, .mv (.c (.int .i64 0)), none, []⟩] none) <|
  .seq (.seq (.region [
      ⟨some 13, .load true 2 (.t 2), none, []⟩,
      ⟨some 14, .call 25 [.t 13], none, []⟩,
      ⟨some 15, .un .not (.t 14), none, []⟩] none) <|
   .cond (.t 15) (.seq (.region [
       ⟨some 16, .build [.int .i64 0, .nil] [], none, []⟩,
       ⟨none, .store 2 (.t 4) (.t 16), none, []⟩,
       ⟨some 5, .mv (.c (.nil)), none, []⟩,
       ⟨some 6, .mv (.c (.int .i64 0)), none, []⟩,
       ⟨some 7, .mv (.c (.int .i64 50)), none, []⟩] none) <|
    .ret) <|
   .skip) <|
  .seq (.seq (.region [
      ⟨some 17, .load true 4 (.t 3), none, []⟩,
      ⟨some 18, .call 39 [.t 17], none, []⟩,
      ⟨some 19, .un .not (.t 18), none, []⟩] none) <|
   .cond (.t 19) (.seq (.region [
       ⟨some 20, .build [.int .i64 0, .nil] [], none, []⟩,
       ⟨none, .store 2 (.t 4) (.t 20), none, []⟩,
       ⟨some 5, .mv (.c (.nil)), none, []⟩,
       ⟨some 6, .mv (.c (.int .i64 0)), none, []⟩,
       ⟨some 7, .mv (.c (.int .i64 3)), none, []⟩] none) <|
    .ret) <|
   .skip) <|
  .seq (.region [
     ⟨some 21, .fa 1 (.t 2), none, []⟩,
     ⟨some 22, .load false 1 (.t 21), none, []⟩,
     ⟨some 23, .app 4 32 36 (.c (.nil)) (.t 22), none, []⟩,
     ⟨some 8, .mv (.t 23), none, []⟩] none) <|
  .seq (.seq (.region [
      ⟨some 24, .fa 0 (.t 3), none, []⟩,
      ⟨some 25, .load false 1 (.t 24), none, []⟩,
      ⟨some 26, .fa 0 (.t 2), none, []⟩,
      ⟨some 27, .load false 1 (.t 26), none, []⟩,
      ⟨some 28, .bin .leq (.t 25) (.t 27), none, []⟩] none) <|
   .cond (.t 28) (.seq (.hregion [
       ⟨4, ⟨some 33, .fa 0 (.t 2), none, []⟩⟩,
       ⟨5, ⟨some 34, .load false 1 (.t 33), none, [4]⟩⟩,
       ⟨2, ⟨some 31, .mv (.t 8), none, []⟩⟩,
       ⟨0, ⟨some 29, .fa 0 (.t 2), none, []⟩⟩,
       ⟨1, ⟨some 30, .load false 1 (.t 29), none, [0]⟩⟩,
       ⟨3, ⟨some 32, .build [.int .i64 0, .nil] [(0, 1, .t 30), (1, 1, .t 31)], none, [1, 2, 0]⟩⟩,
       ⟨6, ⟨none, .store 2 (.t 4) (.t 32), none, [3, 0, 1, 2]⟩⟩,
       ⟨7, ⟨some 5, .mv (.c (.nil)), none, [6, 0, 1, 2, 3]⟩⟩,
       ⟨8, ⟨some 6, .mv (.t 34), none, [5, 7, 0, 1, 2, 3, 4, 6]⟩⟩,
       ⟨9, ⟨some 7, .mv (.c (.int .i64 0)), none, [8, 0, 1, 2, 3, 4, 5, 6, 7]⟩⟩]) <|
    .ret) <|
   .skip) <|
  .seq (.seq (.region [
      ⟨some 35, .fa 0 (.t 3), none, []⟩,
      ⟨some 36, .load false 1 (.t 35), none, []⟩,
      ⟨some 37, .fa 0 (.t 2), none, []⟩,
      ⟨some 38, .load false 1 (.t 37), none, []⟩,
      ⟨some 39, .bin .add (.t 38) (.c (.int .i64 1)), none, []⟩,
      ⟨some 40, .bin .eql (.t 36) (.t 39), none, []⟩] none) <|
   .cond (.t 40) (.seq (.region [
       ⟨some 41, .load true 4 (.t 3), none, []⟩,
       ⟨some 42, .lit true 4 36 [.t 41], none, []⟩,
       ⟨some 9, .mv (.t 42), none, []⟩] none) <|
    .seq (.region [
       ⟨some 43, .fa 0 (.t 2), none, []⟩,
       ⟨some 44, .load false 1 (.t 43), none, []⟩,
       ⟨some 45, .bin .add (.t 44) (.c (.int .i64 1)), none, []⟩,
       ⟨some 10, .mv (.t 45), none, []⟩] none) <|
    .seq (.block 0 <|
     .loop <|
     .seq (.seq (.region [
         ⟨some 46, .mv (.t 8), none, []⟩,
         ⟨some 47, .len (.t 46), none, []⟩,
         ⟨some 48, .bin .gtr (.t 47) (.c (.int .i64 0)), none, []⟩,
         ⟨some 49, .mv (.t 48), none, []⟩,
         ⟨some 50, .mv (.t 8), some (49, true), []⟩,
         ⟨some 51, .ixs 4 (.t 50) (.c (.int .i64 0)), some (49, true), []⟩,
         ⟨some 52, .fa 0 (.t 51), some (49, true), []⟩,
         ⟨some 53, .load false 1 (.t 52), some (49, true), []⟩,
         ⟨some 54, .mv (.t 10), some (49, true), []⟩,
         ⟨some 55, .bin .add (.t 54) (.c (.int .i64 1)), some (49, true), []⟩,
         ⟨some 56, .bin .eql (.t 53) (.t 55), some (49, true), []⟩,
         ⟨some 57, .pick (.t 49) (.t 56) (.c (.bool false)), none, []⟩] none) <|
      .cond (.t 57) (.skip) <|
      .exit 0) <|
     .block 1 <|
     .seq (.hregion [
        ⟨6, ⟨some 64, .mv (.t 8), none, []⟩⟩,
        ⟨7, ⟨some 65, .slc 4 (.t 64) (some (.c (.int .i64 1))) none, none, [6]⟩⟩,
        ⟨1, ⟨some 59, .mv (.t 8), none, []⟩⟩,
        ⟨2, ⟨some 60, .ixs 4 (.t 59) (.c (.int .i64 0)), none, [1]⟩⟩,
        ⟨3, ⟨some 61, .load true 4 (.t 60), none, [2, 1]⟩⟩,
        ⟨4, ⟨some 62, .lit false 4 36 [.t 61], none, [3, 2, 1]⟩⟩,
        ⟨0, ⟨some 58, .mv (.t 9), none, []⟩⟩,
        ⟨5, ⟨some 63, .app 4 32 36 (.t 58) (.t 62), none, [0, 4, 3, 2, 1]⟩⟩,
        ⟨8, ⟨some 9, .mv (.t 63), none, [5, 0, 1, 2, 3, 4]⟩⟩,
        ⟨9, ⟨some 8, .mv (.t 65), none, [7, 8, 0, 1, 2, 3, 4, 5, 6]⟩⟩]) <|
     .region [
       ⟨some 66, .mv (.t 10), none, []⟩,
       ⟨some 67, .bin .add (.t 66) (.c (.int .i64 1)), none, []⟩,
       ⟨some 10, .mv (.t 67), none, []⟩] none) <|
    .seq (.region [
       ⟨some 68, .mv (.t 10), none, []⟩,
       ⟨some 69, .mv (.t 8), none, []⟩,
       ⟨some 70, .build [.int .i64 0, .nil] [(0, 1, .t 68), (1, 1, .t 69)], none, []⟩,
       ⟨some 71, .mv (.t 9), none, []⟩,
       ⟨some 72, .mv (.t 10), none, []⟩,
       ⟨none, .store 2 (.t 4) (.t 70), none, []⟩,
       ⟨some 5, .mv (.t 71), none, []⟩,
       ⟨some 6, .mv (.t 72), none, []⟩,
       ⟨some 7, .mv (.c (.int .i64 0)), none, []⟩] none) <|
    .ret) <|
   .skip) <|
  .seq (.region [
     ⟨some 11, .mv (.c (.int .i64 0)), none, []⟩] none) <|
  .seq (.block 2 <|
   .loop <|
   .seq (.seq (.hregion [
       ⟨1, ⟨some 74, .mv (.t 8), none, []⟩⟩,
       ⟨2, ⟨some 75, .len (.t 74), none, [1]⟩⟩,
       ⟨0, ⟨some 73, .mv (.t 11), none, []⟩⟩,
       ⟨3, ⟨some 76, .bin .lss (.t 73) (.t 75), none, [0, 2, 1]⟩⟩,
       ⟨4, ⟨some 77, .mv (.t 76), none, [3, 0, 2, 1]⟩⟩,
       ⟨10, ⟨some 83, .fa 0 (.t 3), some (77, true), [4, 3, 0, 2, 1]⟩⟩,
       ⟨11, ⟨some 84, .load false 1 (.t 83), some (77, true), [10, 4, 3, 0, 2, 1]⟩⟩,
       ⟨6, ⟨some 79, .mv (.t 11), some (77, true), [4, 3, 0, 2, 1]⟩⟩,
       ⟨5, ⟨some 78, .mv (.t 8), some (77, true), [4, 3, 0, 2, 1]⟩⟩,
       ⟨7, ⟨some 80, .ixs 4 (.t 78) (.t 79), some (77, true), [5, 6, 4, 3, 0, 2, 1]⟩⟩,
       ⟨8, ⟨some 81, .fa 0 (.t 80), some (77, true), [7, 4, 5, 6, 3, 0, 2, 1]⟩⟩,
       ⟨9, ⟨some 82, .load false 1 (.t 81), some (77, true), [8, 4, 7, 5, 6, 3, 0, 2, 1]⟩⟩,
       ⟨12, ⟨some 85, .bin .lss (.t 82) (.t 84), some (77, true), [9, 11, 4, 8, 7, 5, 6, 3, 0, 2, 1, 10]⟩⟩,
       ⟨13, ⟨some 86, .pick (.t 77) (.t 85) (.c (.bool false)), none, [4, 12, 3, 0, 2, 1, 9, 11, 8, 7, 5, 6, 10]⟩⟩]) <|
    .cond (.t 86) (.skip) <|
    .exit 2) <|
   .block 3 <|
   .region [
     ⟨some 87, .mv (.t 11), none, []⟩,
     ⟨some 88, .bin .add (.t 87) (.c (.int .i64 1)), none, []⟩,
     ⟨some 11, .mv (.t 88), none, []⟩] none) <|
  .seq (.seq (.hregion [
      ⟨1, ⟨some 90, .mv (.t 8), none, []⟩⟩,
      ⟨2, ⟨some 91, .len (.t 90), none, [1]⟩⟩,
      ⟨0, ⟨some 89, .mv (.t 11), none, []⟩⟩,
      ⟨3, ⟨some 92, .bin .lss (.t 89) (.t 91), none, [0, 2, 1]⟩⟩,
      ⟨4, ⟨some 93, .mv (.t 92), none, [3, 0, 2, 1]⟩⟩,
      ⟨10, ⟨some 99, .fa 0 (.t 3), some (93, true), [4, 3, 0, 2, 1]⟩⟩,
      ⟨11, ⟨some 100, .load false 1 (.t 99), some (93, true), [10, 4, 3, 0, 2, 1]⟩⟩,
      ⟨6, ⟨some 95, .mv (.t 11), some (93, true), [4, 3, 0, 2, 1]⟩⟩,
      ⟨5, ⟨some 94, .mv (.t 8), some (93, true), [4, 3, 0, 2, 1]⟩⟩,
      ⟨7, ⟨some 96, .ixs 4 (.t 94) (.t 95), some (93, true), [5, 6, 4, 3, 0, 2, 1]⟩⟩,
      ⟨8, ⟨some 97, .fa 0 (.t 96), some (93, true), [7, 4, 5, 6, 3, 0, 2, 1]⟩⟩,
      ⟨9, ⟨some 98, .load false 1 (.t 97), some (93, true), [8, 4, 7, 5, 6, 3, 0, 2, 1]⟩⟩,
      ⟨12, ⟨some 101, .bin .eql (.t 98) (.t 100), some (93, true), [9, 11, 4, 8, 7, 5, 6, 3, 0, 2, 1, 10]⟩⟩,
      ⟨13, ⟨some 102, .pick (.t 93) (.t 101) (.c (.bool false)), none, [4, 12, 3, 0, 2, 1, 9, 11, 8, 7, 5, 6, 10]⟩⟩]) <|
   .cond (.t 102) (.seq (.hregion [
       ⟨4, ⟨some 107, .fa 0 (.t 2), none, []⟩⟩,
       ⟨5, ⟨some 108, .load false 1 (.t 107), none, [4]⟩⟩,
       ⟨2, ⟨some 105, .mv (.t 8), none, []⟩⟩,
       ⟨0, ⟨some 103, .fa 0 (.t 2), none, []⟩⟩,
       ⟨1, ⟨some 104, .load false 1 (.t 103), none, [0]⟩⟩,
       ⟨3, ⟨some 106, .build [.int .i64 0, .nil] [(0, 1, .t 104), (1, 1, .t 105)], none, [1, 2, 0]⟩⟩,
       ⟨6, ⟨none, .store 2 (.t 4) (.t 106), none, [3, 0, 1, 2]⟩⟩,
       ⟨7, ⟨some 5, .mv (.c (.nil)), none, [6, 0, 1, 2, 3]⟩⟩,
       ⟨8, ⟨some 6, .mv (.t 108), none, [5, 7, 0, 1, 2, 3, 4, 6]⟩⟩,
       ⟨9, ⟨some 7, .mv (.c (.int .i64 0)), none, [8, 0, 1, 2, 3, 4, 5, 6, 7]⟩⟩]) <|
    .ret) <|
   .skip) <|
  .seq (.seq (.region [
      ⟨some 109, .mv (.t 8), none, []⟩,
      ⟨some 110, .len (.t 109), none, []⟩,
      ⟨some 111, .bin .eql (.t 110) (.c (.int .i64 64)), none, []⟩] none) <|
   .cond (.t 111) (.seq (.region [
       ⟨some 112, .build [.int .i64 0, .nil] [], none, []⟩,
       ⟨none, .store 2 (.t 4) (.t 112), none, []⟩,
       ⟨some 5, .mv (.c (.nil)), none, []⟩,
       ⟨some 6, .mv (.c (.int .i64 0)), none, []⟩,
       ⟨some 7, .mv (.c (.int .i64 10)), none, []⟩] none) <|
    .ret) <|
   .skip) <|
  .seq (.region [
     ⟨some 12, .mv (.c (.nil)), none, []⟩] none) <|
  .seq (.hregion [
     ⟨9, ⟨some 122, .mv (.t 11), none, []⟩⟩,
     ⟨8, ⟨some 121, .mv (.t 8), none, []⟩⟩,
     ⟨10, ⟨some 123, .slc 4 (.t 121) (some (.t 122)) none, none, [8, 9]⟩⟩,
     ⟨5, ⟨some 118, .load true 4 (.t 3), none, []⟩⟩,
     ⟨6, ⟨some 119, .lit false 4 36 [.t 118], none, [5]⟩⟩,
     ⟨2, ⟨some 115, .mv (.t 11), none, []⟩⟩,
     ⟨1, ⟨some 114, .mv (.t 8), none, []⟩⟩,
     ⟨3, ⟨some 116, .slc 4 (.t 114) none (some (.t 115)), none, [1, 2]⟩⟩,
     ⟨0, ⟨some 113, .mv (.t 12), none, []⟩⟩,
     ⟨4, ⟨some 117, .app 4 32 36 (.t 113) (.t 116), none, [0, 3, 1, 2]⟩⟩,
     ⟨7, ⟨some 120, .app 4 32 36 (.t 117) (.t 119), none, [4, 6, 0, 3, 1, 2, 5]⟩⟩,
     ⟨11, ⟨some 124, .app 4 32 36 (.t 120) (.t 123), none, [7, 10, 4, 6, 0, 3, 1, 2, 5, 8, 9]⟩⟩,
     ⟨12, ⟨some 12, .mv (.t 124), none, [11, 0, 1, 2, 3, 4, 5, 6, 7, 8, 9, 10]⟩⟩]) <|
  .seq (.hregion [
     ⟨4, ⟨some 129, .fa 0 (.t 2), none, []⟩⟩,
     ⟨5, ⟨some 130, .load false 1 (.t 129), none, [4]⟩⟩,
     ⟨2, ⟨some 127, .mv (.t 12), none, []⟩⟩,
     ⟨0, ⟨some 125, .fa 0 (.t 2), none, []⟩⟩,
     ⟨1, ⟨some 126, .load false 1 (.t 125), none, [0]⟩⟩,
     ⟨3, ⟨some 128, .build [.int .i64 0, .nil] [(0, 1, .t 126), (1, 1, .t 127)], none, [1, 2, 0]⟩⟩,
     ⟨6, ⟨none, .store 2 (.t 4) (.t 128), none, [3, 0, 1, 2]⟩⟩,
     ⟨7, ⟨some 5, .mv (.c (.nil)), none, [6, 0, 1, 2, 3]⟩⟩,
     ⟨8, ⟨some 6, .mv (.t 130), none, [5, 7, 0, 1, 2, 3, 4, 6]⟩⟩,
     ⟨9, ⟨some 7, .mv (.c (.int .i64 0)), none, [8, 0, 1, 2, 3, 4, 5, 6, 7]⟩⟩]) <|
  .ret
abbrev n_ref27_Take : Nat := 28
theorem b_ref27_Take : bodyOf prog 28 [42, 1000000] = some (c_ref27_Take, [.c 4 true 2, .t 5, .t 6, .t 7], 131) := by kernel_rfl

def c_orders_check : ACode :=
  .seq (.region [
     ⟨some 6, .mv (.c (.int .i64 0)), none, []⟩] none) <|
  .seq (.region [
     ⟨some 7, .mv (.c (.bool false)), none, []⟩] none) <|
  .seq (.seq (.region [
      ⟨some 8, .mv (.t 0), none, []⟩] none) <|
   .block 0 <|
   .seq (.region [
      ⟨some 10, .bin .eql (.t 8) (.c (.int .i64 1)), none, []⟩,
      ⟨some 9, .mv (.t 10), none, []⟩] none) <|
   .cond (.t 9) (.region [
      ⟨some 11, .mv (.t 1), none, []⟩,
      ⟨some 12, .bin .eql (.t 11) (.c (.int .i64 0)), none, []⟩,
      ⟨some 13, .mv (.t 12), none, []⟩,
      ⟨some 14, .mv (.t 2), some (13, true), []⟩,
      ⟨some 15, .call 37 [.t 14, .c (.int .i64 0), .c (.int .i64 1073741824)], some (13, true), []⟩,
      ⟨some 16, .pick (.t 13) (.t 15) (.c (.bool false)), none, []⟩,
      ⟨some 7, .mv (.t 16), none, []⟩] none) <|
   .seq (.region [
      ⟨some 18, .bin .eql (.t 8) (.c (.int .i64 2)), none, []⟩,
      ⟨some 17, .mv (.t 18), none, []⟩] none) <|
   .cond (.t 17) (.region [
      ⟨some 19, .mv (.t 1), none, []⟩,
      ⟨some 20, .call 37 [.t 19, .c (.int .i64 0), .c (.int .i64 7)], none, []⟩,
      ⟨some 21, .mv (.t 20), none, []⟩,
      ⟨some 22, .mv (.t 2), some (21, true), []⟩,
      ⟨some 23, .bin .eql (.t 22) (.c (.int .i64 0)), some (21, true), []⟩,
      ⟨some 24, .pick (.t 21) (.t 23) (.c (.bool false)), none, []⟩,
      ⟨some 7, .mv (.t 24), none, []⟩] none) <|
   .seq (.region [
      ⟨some 26, .bin .eql (.t 8) (.c (.int .i64 3)), none, []⟩,
      ⟨some 25, .mv (.t 26), none, []⟩] none) <|
   .cond (.t 25) (.region [
      ⟨some 27, .mv (.t 1), none, []⟩,
      ⟨some 28, .call 37 [.t 27, .c (.int .i64 0), .c (.int .i64 5)], none, []⟩,
      ⟨some 29, .mv (.t 28), none, []⟩,
      ⟨some 30, .mv (.t 2), some (29, true), []⟩,
      ⟨some 31, .call 37 [.t 30, .c (.int .i64 0), .c (.int .i64 1)], some (29, true), []⟩,
      ⟨some 32, .pick (.t 29) (.t 31) (.c (.bool false)), none, []⟩,
      ⟨some 7, .mv (.t 32), none, []⟩] none) <|
   .seq (.region [
      ⟨some 6, .mv (.c (.int .i64 5)), none, []⟩] none) <|
   .ret) <|
  .seq (.seq (.region [
      ⟨some 33, .mv (.t 7), none, []⟩,
      ⟨some 34, .un .not (.t 33), none, []⟩] none) <|
   .cond (.t 34) (.seq (.region [
       ⟨some 6, .mv (.c (.int .i64 1)), none, []⟩] none) <|
    .ret) <|
   .skip) <|
  .seq (.region [
     ⟨some 6, .mv (.c (.int .i64 0)), none, []⟩] none) <|
  .ret
abbrev n_orders_check : Nat := 29
theorem b_orders_check : bodyOf prog 29 [1000000] = some (c_orders_check, [.t 6], 35) := by kernel_rfl

def c_slices_Clone__Order : ACode :=
  .seq (.region [
     ⟨some 2, .newsl 4 36, none, []⟩] none) <|
  .seq (.seq (.region [
      ⟨some 3, .mv (.t 0), none, []⟩,
      ⟨some 4, .isnil false (.t 3), none, []⟩] none) <|
   .cond (.t 4) (.seq (.region [
       ⟨some 2, .newsl 4 36, none, []⟩] none) <|
    .ret) <|
   .skip) <|
  .seq (.region [
     ⟨some 5, .lit true 4 36 [], none, []⟩,
     ⟨some 6, .mv (.t 0), none, []⟩,
     ⟨some 7, .app 4 32 36 (.t 5) (.t 6), none, []⟩,
     ⟨some 2, .mv (.t 7), none, []⟩] none) <|
  .ret
abbrev n_slices_Clone__Order : Nat := 30
theorem b_slices_Clone__Order : bodyOf prog 30 [2, 5, 1000000] = some (c_slices_Clone__Order, [.t 2], 8) := by kernel_rfl

def c_orders_proper : ACode :=
  .seq (.region [
     ⟨some 1, .box 4 36 (.t 0), none, []⟩,
     ⟨some 2, .mv (.c (.bool false)), none, []⟩] none) <|
  .seq (.region [
     ⟨some 3, .fa 0 (.t 1), none, []⟩,
     ⟨some 4, .load false 1 (.t 3), none, []⟩,
     ⟨some 5, .call 37 [.t 4, .c (.int .i64 1), .c (.int .i64 1073741824)], none, []⟩,
     ⟨some 6, .mv (.t 5), none, []⟩,
     ⟨some 7, .fa 1 (.t 1), some (6, true), []⟩,
     ⟨some 8, .load false 1 (.t 7), some (6, true), []⟩,
     ⟨some 9, .fa 2 (.t 1), some (6, true), []⟩,
     ⟨some 10, .load false 1 (.t 9), some (6, true), []⟩,
     ⟨some 11, .fa 3 (.t 1), some (6, true), []⟩,
     ⟨some 12, .load false 1 (.t 11), some (6, true), []⟩,
     ⟨some 13, .call 29 [.t 8, .t 10, .t 12], some (6, true), []⟩,
     ⟨some 14, .bin .eql (.t 13) (.c (.int .i64 0)), some (6, true), []⟩,
     ⟨some 15, .pick (.t 6) (.t 14) (.c (.bool false)), none, []⟩,
     ⟨some 2, .mv (.t 15), none, []⟩] none) <|
  .ret
abbrev n_orders_proper : Nat := 31
theorem b_orders_proper : bodyOf prog 31 [1000000] = some (c_orders_proper, [.t 2], 16) := by kernel_rfl

def c_orders_place__Order : ACode :=
  .seq (.region [
     ⟨some 4, .box 4 36 (.t 1), none, []⟩,
     ⟨some 5, .box 1 63 (.t 2), none, []⟩,
     ⟨some 6, .mv (.c (.int .i64 0)), none, []⟩,
     ⟨some 7, .mv (.c (.bool false)), none, []⟩] none) <|
  .seq (.region [
     ⟨some 8, .mv (.t 0), none, []⟩,
     ⟨some 9, .load false 1 (.t 5), none, []⟩,
     ⟨some 10, .load true 4 (.t 4), none, []⟩,
     ⟨some 11, .callv (.t 9) [.t 10], none, []⟩,
     ⟨some 12, .mkf 43 [.t 5], none, []⟩,
     ⟨some 13, .call 42 [.t 8, .t 11, .t 12], none, []⟩,
     ⟨some 14, .ext (.t 13) 0, none, []⟩,
     ⟨some 15, .ext (.t 13) 1, none, []⟩,
     ⟨some 6, .mv (.t 14), none, []⟩,
     ⟨some 7, .mv (.t 15), none, []⟩] none) <|
  .ret
abbrev n_orders_place__Order : Nat := 32
theorem b_orders_place__Order : bodyOf prog 32 [1000000] = some (c_orders_place__Order, [.t 6, .t 7], 16) := by kernel_rfl

def c_orders_numberOf : ACode :=
  .seq (.region [
     ⟨some 1, .box 4 36 (.t 0), none, []⟩,
     ⟨some 2, .mv (.c (.int .i64 0)), none, []⟩] none) <|
  .seq (.region [
     ⟨some 3, .fa 0 (.t 1), none, []⟩,
     ⟨some 4, .load false 1 (.t 3), none, []⟩,
     ⟨some 2, .mv (.t 4), none, []⟩] none) <|
  .ret
abbrev n_orders_numberOf : Nat := 33
theorem b_orders_numberOf : bodyOf prog 33 [1000000] = some (c_orders_numberOf, [.t 2], 5) := by kernel_rfl

def c_slices_Insert__Order : ACode :=
  .seq (.region [
     ⟨some 6, .mv (.c (.nil)), none, []⟩] none) <|
  .seq (.region [
     ⟨some 10, .mv (.t 0), none, []⟩,
     ⟨some 11, .mv (.t 1), none, []⟩,
     ⟨some 12, .slc 4 (.t 10) (some (.t 11)) none, none, []⟩] none) <|
  .seq (.region [
     ⟨some 13, .mv (.t 2), none, []⟩,
     ⟨some 14, .len (.t 13), none, []⟩,
     ⟨some 7, .mv (.t 14), none, []⟩] none) <|
  .seq (.seq (.region [
      ⟨some 15, .mv (.t 7), none, []⟩,
      ⟨some 16, .bin .eql (.t 15) (.c (.int .i64 0)), none, []⟩] none) <|
   .cond (.t 16) (.seq (.region [
       ⟨some 17, .mv (.t 0), none, []⟩,
       ⟨some 6, .mv (.t 17), none, []⟩] none) <|
    .ret) <|
   .skip) <|
  .seq (.region [
     ⟨some 18, .mv (.t 0), none, []⟩,
     ⟨some 19, .len (.t 18), none, []⟩,
     ⟨some 8, .mv (.t 19), none, []⟩] none) <|
  .seq (.seq (.region [
      ⟨some 20, .mv (.t 1), none, []⟩,
      ⟨some 21, .mv (.t 8), none, []⟩,
      ⟨some 22, .bin .eql (.t 20) (.t 21), none, []⟩] none) <|
   .cond (.t 22) (.seq (.region [
       ⟨some 23, .mv (.t 0), none, []⟩,
       ⟨some 24, .mv (.t 2), none, []⟩,
       ⟨some 25, .app 4 32 36 (.t 23) (.t 24), none, []⟩,
       ⟨some 6, .mv (.t 25), none, []⟩] none) <|
    .ret) <|
   .skip) <|
  .seq (.seq (.region [
      ⟨some 26, .mv (.t 8), none, []⟩,
      ⟨some 27, .mv (.t 7), none, []⟩,
      ⟨some 28, .bin .add (.t 26) (.t 27), none, []⟩,
      ⟨some 29, .mv (.t 0), none, []⟩,
      ⟨some 30, .pu .cap0 [.t 29], none, []⟩,
      ⟨some 31, .bin .gtr (.t 28) (.t 30), none, []⟩] none) <|
   .cond (.t 31) (.seq (.region [
       ⟨some 32, .mv (.t 0), none, []⟩,
       ⟨some 33, .mv (.t 1), none, []⟩,
       ⟨some 34, .slc 4 (.t 32) none (some (.t 33)), none, []⟩,
       ⟨some 35, .mv (.t 8), none, []⟩,
       ⟨some 36, .mv (.t 7), none, []⟩,
       ⟨some 37, .bin .add (.t 35) (.t 36), none, []⟩,
       ⟨some 38, .mv (.t 1), none, []⟩,
       ⟨some 39, .bin .sub (.t 37) (.t 38), none, []⟩,
       ⟨some 40, .appz 4 32 36 (.agg [.int .i64 0, .int .i64 0, .int .i64 0, .int .i64 0]) (.t 34) (.t 39), none, []⟩,
       ⟨some 9, .mv (.t 40), none, []⟩] none) <|
    .seq (.region [
       ⟨some 41, .mv (.t 9), none, []⟩,
       ⟨some 42, .mv (.t 1), none, []⟩,
       ⟨some 43, .slc 4 (.t 41) (some (.t 42)) none, none, []⟩,
       ⟨some 44, .mv (.t 2), none, []⟩,
       ⟨some 45, .cpy 4 (.t 43) (.t 44), none, []⟩] none) <|
    .seq (.hregion [
       ⟨6, ⟨some 52, .mv (.t 1), none, []⟩⟩,
       ⟨5, ⟨some 51, .mv (.t 0), none, []⟩⟩,
       ⟨7, ⟨some 53, .slc 4 (.t 51) (some (.t 52)) none, none, [5, 6]⟩⟩,
       ⟨2, ⟨some 48, .mv (.t 7), none, []⟩⟩,
       ⟨1, ⟨some 47, .mv (.t 1), none, []⟩⟩,
       ⟨3, ⟨some 49, .bin .add (.t 47) (.t 48), none, [1, 2]⟩⟩,
       ⟨0, ⟨some 46, .mv (.t 9), none, []⟩⟩,
       ⟨4, ⟨some 50, .slc 4 (.t 46) (some (.t 49)) none, none, [0, 3, 1, 2]⟩⟩,
       ⟨8, ⟨some 54, .cpy 4 (.t 50) (.t 53), none, [4, 7, 0, 3, 1, 2, 5, 6]⟩⟩]) <|
    .seq (.region [
       ⟨some 55, .mv (.t 9), none, []⟩,
       ⟨some 6, .mv (.t 55), none, []⟩] none) <|
    .ret) <|
   .skip) <|
  .seq (.region [
     ⟨some 56, .mv (.t 0), none, []⟩,
     ⟨some 57, .mv (.t 8), none, []⟩,
     ⟨some 58, .mv (.t 7), none, []⟩,
     ⟨some 59, .bin .add (.t 57) (.t 58), none, []⟩,
     ⟨some 60, .slc 4 (.t 56) none (some (.t 59)), none, []⟩,
     ⟨some 0, .mv (.t 60), none, []⟩] none) <|
  .seq (.seq (.region [
      ⟨some 61, .mv (.t 2), none, []⟩,
      ⟨some 62, .mv (.t 0), none, []⟩,
      ⟨some 63, .mv (.t 1), none, []⟩,
      ⟨some 64, .mv (.t 7), none, []⟩,
      ⟨some 65, .bin .add (.t 63) (.t 64), none, []⟩,
      ⟨some 66, .slc 4 (.t 62) (some (.t 65)) none, none, []⟩,
      ⟨some 67, .call 44 [.t 61, .t 66], none, []⟩,
      ⟨some 68, .un .not (.t 67), none, []⟩] none) <|
   .cond (.t 68) (.seq (.hregion [
       ⟨6, ⟨some 75, .mv (.t 1), none, []⟩⟩,
       ⟨5, ⟨some 74, .mv (.t 0), none, []⟩⟩,
       ⟨7, ⟨some 76, .slc 4 (.t 74) (some (.t 75)) none, none, [5, 6]⟩⟩,
       ⟨2, ⟨some 71, .mv (.t 7), none, []⟩⟩,
       ⟨1, ⟨some 70, .mv (.t 1), none, []⟩⟩,
       ⟨3, ⟨some 72, .bin .add (.t 70) (.t 71), none, [1, 2]⟩⟩,
       ⟨0, ⟨some 69, .mv (.t 0), none, []⟩⟩,
       ⟨4, ⟨some 73, .slc 4 (.t 69) (some (.t 72)) none, none, [0, 3, 1, 2]⟩⟩,
       ⟨8, ⟨some 77, .cpy 4 (.t 73) (.t 76), none, [4, 7, 0, 3, 1, 2, 5, 6]⟩⟩]) <|
    .seq (.region [
       ⟨some 78, .mv (.t 0), none, []⟩,
       ⟨some 79, .mv (.t 1), none, []⟩,
       ⟨some 80, .slc 4 (.t 78) (some (.t 79)) none, none, []⟩,
       ⟨some 81, .mv (.t 2), none, []⟩,
       ⟨some 82, .cpy 4 (.t 80) (.t 81), none, []⟩] none) <|
    .seq (.region [
       ⟨some 83, .mv (.t 0), none, []⟩,
       ⟨some 6, .mv (.t 83), none, []⟩] none) <|
    .ret) <|
   .skip) <|
  .seq (.region [
     ⟨some 84, .mv (.t 0), none, []⟩,
     ⟨some 85, .mv (.t 8), none, []⟩,
     ⟨some 86, .slc 4 (.t 84) (some (.t 85)) none, none, []⟩,
     ⟨some 87, .mv (.t 2), none, []⟩,
     ⟨some 88, .cpy 4 (.t 86) (.t 87), none, []⟩] none) <|
  .seq (.region [
     ⟨some 89, .mv (.t 0), none, []⟩,
     ⟨some 90, .mv (.t 1), none, []⟩,
     ⟨some 91, .slc 4 (.t 89) (some (.t 90)) none, none, []⟩,
     ⟨some 92, .mv (.t 7), none, []⟩,
     ⟨some 93, .call 45 [.t 91, .t 92], none, []⟩] none) <|
  .seq (.region [
     ⟨some 94, .mv (.t 0), none, []⟩,
     ⟨some 6, .mv (.t 94), none, []⟩] none) <|
  .ret
abbrev n_slices_Insert__Order : Nat := 34
theorem b_slices_Insert__Order : bodyOf prog 34 [1000000] = some (c_slices_Insert__Order, [.t 6], 95) := by kernel_rfl

def c_slices_DeleteFunc__Order : ACode :=
  .seq (.region [
     ⟨some 4, .mv (.c (.nil)), none, []⟩] none) <|
  .seq (.region [
     ⟨some 8, .mv (.t 0), none, []⟩,
     ⟨some 9, .mv (.t 1), none, []⟩,
     ⟨some 10, .call 46 [.t 8, .t 9], none, []⟩,
     ⟨some 5, .mv (.t 10), none, []⟩] none) <|
  .seq (.seq (.region [
      ⟨some 11, .mv (.t 5), none, []⟩,
      ⟨some 12, .bin .eql (.t 11) (.c (.int .i64 (-1))), none, []⟩] none) <|
   .cond (.t 12) (.seq (.region [
       ⟨some 13, .mv (.t 0), none, []⟩,
       ⟨some 4, .mv (.t 13), none, []⟩] none) <|
    .ret) <|
   .skip) <|
  .seq (.seq (.region [
      ⟨some 14, .mv (.t 5), none, []⟩,
      ⟨some 15, .bin .add (.t 14) (.c (.int .i64 1)), none, []⟩,
      ⟨some 6, .mv (.t 15), none, []⟩] none) <|
   .block 0 <|
   .loop <|
   .seq (.seq (.region [
       ⟨some 16, .mv (.t 6), none, []⟩,
       ⟨some 17, .mv (.t 0), none, []⟩,
       ⟨some 18, .len (.t 17), none, []⟩,
       ⟨some 19, .bin .lss (.t 16) (.t 18), none, []⟩] none) <|
    .cond (.t 19) (.skip) <|
    .exit 0) <|
   .seq (.block 1 <|
    .seq (.region [
       ⟨some 22, .mv (.t 0), none, []⟩,
       ⟨some 23, .mv (.t 6), none, []⟩,
       ⟨some 24, .ixs 4 (.t 22) (.t 23), none, []⟩,
       ⟨some 25, .load true 4 (.t 24), none, []⟩,
       ⟨some 7, .alloc 4 36 (.agg [.int .i64 0, .int .i64 0, .int .i64 0, .int .i64 0]), none, []⟩,
       ⟨none, .store 4 (.t 7) (.t 25), none, []⟩] none) <|
    .seq (.region [
       ⟨some 26, .mv (.t 1), none, []⟩,
       ⟨some 27, .load true 4 (.t 7), none, []⟩,
       ⟨some 28, .callv (.t 26) [.t 27], none, []⟩,
       ⟨some 29, .un .not (.t 28), none, []⟩] none) <|
    .cond (.t 29) (.seq (.region [
        ⟨some 30, .mv (.t 0), none, []⟩,
        ⟨some 31, .mv (.t 5), none, []⟩,
        ⟨some 32, .load true 4 (.t 7), none, []⟩,
        ⟨some 33, .ixs 4 (.t 30) (.t 31), none, []⟩,
        ⟨none, .store 4 (.t 33) (.t 32), none, []⟩] none) <|
     .region [
       ⟨some 34, .mv (.t 5), none, []⟩,
       ⟨some 35, .bin .add (.t 34) (.c (.int .i64 1)), none, []⟩,
       ⟨some 5, .mv (.t 35), none, []⟩] none) <|
    .skip) <|
   .region [
     ⟨some 20, .mv (.t 6), none, []⟩,
     ⟨some 21, .bin .add (.t 20) (.c (.int .i64 1)), none, []⟩,
     ⟨some 6, .mv (.t 21), none, []⟩] none) <|
  .seq (.region [
     ⟨some 36, .mv (.t 0), none, []⟩,
     ⟨some 37, .mv (.t 5), none, []⟩,
     ⟨some 38, .slc 4 (.t 36) (some (.t 37)) none, none, []⟩,
     ⟨none, .clr 4 (.agg [.int .i64 0, .int .i64 0, .int .i64 0, .int .i64 0]) (.t 38), none, []⟩] none) <|
  .seq (.region [
     ⟨some 39, .mv (.t 0), none, []⟩,
     ⟨some 40, .mv (.t 5), none, []⟩,
     ⟨some 41, .slc 4 (.t 39) none (some (.t 40)), none, []⟩,
     ⟨some 4, .mv (.t 41), none, []⟩] none) <|
  .ret
abbrev n_slices_DeleteFunc__Order : Nat := 35
theorem b_slices_DeleteFunc__Order : bodyOf prog 35 [1000000] = some (c_slices_DeleteFunc__Order, [.t 4], 42) := by kernel_rfl

def c_orders_Confirm_1 : ACode :=
  .seq (.region [
     ⟨some 2, .box 4 36 (.t 0), none, []⟩,
     ⟨some 3, .mv (.c (.bool false)), none, []⟩] none) <|
  .seq (.region [
     ⟨some 4, .fa 0 (.t 2), none, []⟩,
     ⟨some 5, .load false 1 (.t 4), none, []⟩,
     ⟨some 6, .load false 1 (.t 1), none, []⟩,
     ⟨some 7, .bin .leq (.t 5) (.t 6), none, []⟩,
     ⟨some 3, .mv (.t 7), none, []⟩] none) <|
  .ret
abbrev n_orders_Confirm_1 : Nat := 36
theorem b_orders_Confirm_1 : bodyOf prog 36 [1000000] = some (c_orders_Confirm_1, [.t 3], 8) := by kernel_rfl

def c_orders_within : ACode :=
  .seq (.region [
     ⟨some 6, .mv (.c (.bool false)), none, []⟩] none) <|
  .seq (.region [
     ⟨some 7, .mv (.t 0), none, []⟩,
     ⟨some 8, .mv (.t 1), none, []⟩,
     ⟨some 9, .bin .geq (.t 7) (.t 8), none, []⟩,
     ⟨some 10, .mv (.t 9), none, []⟩,
     ⟨some 11, .mv (.t 0), some (10, true), []⟩,
     ⟨some 12, .mv (.t 2), some (10, true), []⟩,
     ⟨some 13, .bin .leq (.t 11) (.t 12), some (10, true), []⟩,
     ⟨some 14, .pick (.t 10) (.t 13) (.c (.bool false)), none, []⟩,
     ⟨some 6, .mv (.t 14), none, []⟩] none) <|
  .ret
abbrev n_orders_within : Nat := 37
theorem b_orders_within : bodyOf prog 37 [1000000] = some (c_orders_within, [.t 6], 15) := by kernel_rfl

def c_ref27_in : ACode :=
  .seq (.region [
     ⟨some 6, .mv (.c (.bool false)), none, []⟩] none) <|
  .seq (.region [
     ⟨some 7, .mv (.t 0), none, []⟩,
     ⟨some 8, .mv (.t 1), none, []⟩,
     ⟨some 9, .bin .geq (.t 7) (.t 8), none, []⟩,
     ⟨some 10, .mv (.t 9), none, []⟩,
     ⟨some 11, .mv (.t 0), some (10, true), []⟩,
     ⟨some 12, .mv (.t 2), some (10, true), []⟩,
     ⟨some 13, .bin .leq (.t 11) (.t 12), some (10, true), []⟩,
     ⟨some 14, .pick (.t 10) (.t 13) (.c (.bool false)), none, []⟩,
     ⟨some 6, .mv (.t 14), none, []⟩] none) <|
  .ret
abbrev n_ref27_in : Nat := 38
theorem b_ref27_in : bodyOf prog 38 [1000000] = some (c_ref27_in, [.t 6], 15) := by kernel_rfl

def c_ref27_order : ACode :=
  .seq (.region [
     ⟨some 1, .box 4 36 (.t 0), none, []⟩,
     ⟨some 2, .mv (.c (.bool false)), none, []⟩] none) <|
  .seq (.region [
     ⟨some 3, .fa 0 (.t 1), none, []⟩,
     ⟨some 4, .load false 1 (.t 3), none, []⟩,
     ⟨some 5, .call 38 [.t 4, .c (.int .i64 1), .c (.int .i64 1073741824)], none, []⟩,
     ⟨some 6, .mv (.t 5), none, []⟩,
     ⟨some 7, .fa 1 (.t 1), some (6, true), []⟩,
     ⟨some 8, .load false 1 (.t 7), some (6, true), []⟩,
     ⟨some 9, .fa 2 (.t 1), some (6, true), []⟩,
     ⟨some 10, .load false 1 (.t 9), some (6, true), []⟩,
     ⟨some 11, .fa 3 (.t 1), some (6, true), []⟩,
     ⟨some 12, .load false 1 (.t 11), some (6, true), []⟩,
     ⟨some 13, .call 41 [.t 8, .t 10, .t 12], some (6, true), []⟩,
     ⟨some 14, .bin .eql (.t 13) (.c (.int .i64 0)), some (6, true), []⟩,
     ⟨some 15, .pick (.t 6) (.t 14) (.c (.bool false)), none, []⟩,
     ⟨some 2, .mv (.t 15), none, []⟩] none) <|
  .ret
abbrev n_ref27_order : Nat := 39
theorem b_ref27_order : bodyOf prog 39 [1000000] = some (c_ref27_order, [.t 2], 16) := by kernel_rfl

def c_slices_Equal__Order : ACode :=
  .seq (.region [
     ⟨some 4, .mv (.c (.bool false)), none, []⟩] none) <|
  .seq (.seq (.region [
      ⟨some 6, .mv (.t 0), none, []⟩,
      ⟨some 7, .len (.t 6), none, []⟩,
      ⟨some 8, .mv (.t 1), none, []⟩,
      ⟨some 9, .len (.t 8), none, []⟩,
      ⟨some 10, .bin .neq (.t 7) (.t 9), none, []⟩] none) <|
   .cond (.t 10) (.seq (.region [
       ⟨some 4, .mv (.c (.bool false)), none, []⟩] none) <|
    .ret) <|
   .skip) <|
  .seq (.seq (.region [
      ⟨some 11, .mv (.t 0), none, []⟩,
      ⟨some 12, .len (.t 11), none, []⟩,
      ⟨some 13, .mv (.c (.int .i64 0)), none, []⟩] none) <|
   .block 0 <|
   .loop <|
   .seq (.region [
      ⟨some 14, .bin .lss (.t 13) (.t 12), none, []⟩] none) <|
   .seq (.cond (.t 14) (.skip) <|
    .exit 0) <|
   .seq (.block 1 <|
    .seq (.region [
       ⟨some 15, .mv (.t 13), none, []⟩,
       ⟨some 5, .mv (.t 15), none, []⟩] none) <|
    .seq (.hregion [
       ⟨5, ⟨some 21, .mv (.t 5), none, []⟩⟩,
       ⟨4, ⟨some 20, .mv (.t 1), none, []⟩⟩,
       ⟨6, ⟨some 22, .ixs 4 (.t 20) (.t 21), none, [4, 5]⟩⟩,
       ⟨7, ⟨some 23, .load true 4 (.t 22), none, [6, 4, 5]⟩⟩,
       ⟨1, ⟨some 17, .mv (.t 5), none, []⟩⟩,
       ⟨0, ⟨some 16, .mv (.t 0), none, []⟩⟩,
       ⟨2, ⟨some 18, .ixs 4 (.t 16) (.t 17), none, [0, 1]⟩⟩,
       ⟨3, ⟨some 19, .load true 4 (.t 18), none, [2, 0, 1]⟩⟩,
       ⟨8, ⟨some 24, .eqs true [0, 0, 0, 0] (.t 19) (.t 23), none, [3, 7, 2, 0, 1, 6, 4, 5]⟩⟩]) <|
    .cond (.t 24) (.seq (.region [
        ⟨some 4, .mv (.c (.bool false)), none, []⟩] none) <|
     .ret) <|
    .skip) <|
   .region [
     ⟨some 25, .bin .add (.t 13) (.c (.int .i64 1)), none, []⟩,
     ⟨some 13, .mv (.t 25), none, []⟩] none) <|
  .seq (.region [
     ⟨some 4, .mv (.c (.bool true)), none, []⟩] none) <|
  .ret
abbrev n_slices_Equal__Order : Nat := 40
theorem b_slices_Equal__Order : bodyOf prog 40 [1000000] = some (c_slices_Equal__Order, [.t 4], 26) := by kernel_rfl

def c_ref27_Fits : ACode :=
  .seq (.region [
     ⟨some 6, .mv (.c (.int .i64 0)), none, []⟩] none) <|
  .seq (.seq (.region [
      ⟨some 7, .mv (.t 0), none, []⟩] none) <|
   .block 0 <|
   .seq (.region [
      ⟨some 9, .bin .eql (.t 7) (.c (.int .i64 1)), none, []⟩,
      ⟨some 8, .mv (.t 9), none, []⟩] none) <|
   .cond (.t 8) (.seq (.region [
       ⟨some 10, .mv (.t 1), none, []⟩,
       ⟨some 11, .bin .neq (.t 10) (.c (.int .i64 0)), none, []⟩,
       ⟨some 12, .mv (.t 11), none, []⟩,
       ⟨some 13, .mv (.t 2), some (12, false), []⟩,
       ⟨some 14, .call 38 [.t 13, .c (.int .i64 0), .c (.int .i64 1073741824)], some (12, false), []⟩,
       ⟨some 15, .un .not (.t 14), some (12, false), []⟩,
       ⟨some 16, .pick (.t 12) (.c (.bool true)) (.t 15), none, []⟩] none) <|
    .cond (.t 16) (.seq (.region [
        ⟨some 6, .mv (.c (.int .i64 1)), none, []⟩] none) <|
     .ret) <|
    .skip) <|
   .seq (.region [
      ⟨some 18, .bin .eql (.t 7) (.c (.int .i64 2)), none, []⟩,
      ⟨some 17, .mv (.t 18), none, []⟩] none) <|
   .cond (.t 17) (.seq (.region [
       ⟨some 19, .mv (.t 1), none, []⟩,
       ⟨some 20, .call 38 [.t 19, .c (.int .i64 0), .c (.int .i64 7)], none, []⟩,
       ⟨some 21, .un .not (.t 20), none, []⟩,
       ⟨some 22, .mv (.t 21), none, []⟩,
       ⟨some 23, .mv (.t 2), some (22, false), []⟩,
       ⟨some 24, .bin .neq (.t 23) (.c (.int .i64 0)), some (22, false), []⟩,
       ⟨some 25, .pick (.t 22) (.c (.bool true)) (.t 24), none, []⟩] none) <|
    .cond (.t 25) (.seq (.region [
        ⟨some 6, .mv (.c (.int .i64 1)), none, []⟩] none) <|
     .ret) <|
    .skip) <|
   .seq (.region [
      ⟨some 27, .bin .eql (.t 7) (.c (.int .i64 3)), none, []⟩,
      ⟨some 26, .mv (.t 27), none, []⟩] none) <|
   .cond (.t 26) (.seq (.region [
       ⟨some 28, .mv (.t 1), none, []⟩,
       ⟨some 29, .call 38 [.t 28, .c (.int .i64 0), .c (.int .i64 5)], none, []⟩,
       ⟨some 30, .un .not (.t 29), none, []⟩,
       ⟨some 31, .mv (.t 30), none, []⟩,
       ⟨some 32, .mv (.t 2), some (31, false), []⟩,
       ⟨some 33, .call 38 [.t 32, .c (.int .i64 0), .c (.int .i64 1)], some (31, false), []⟩,
       ⟨some 34, .un .not (.t 33), some (31, false), []⟩,
       ⟨some 35, .pick (.t 31) (.c (.bool true)) (.t 34), none, []⟩] none) <|
    .cond (.t 35) (.seq (.region [
        ⟨some 6, .mv (.c (.int .i64 1)), none, []⟩] none) <|
     .ret) <|
    .skip) <|
   .seq (.region [
      ⟨some 6, .mv (.c (.int .i64 5)), none, []⟩] none) <|
   .ret) <|
  .seq (.region [
     ⟨some 6, .mv (.c (.int .i64 0)), none, []⟩] none) <|
  .ret
abbrev n_ref27_Fits : Nat := 41
theorem b_ref27_Fits : bodyOf prog 41 [1000000] = some (c_ref27_Fits, [.t 6], 36) := by kernel_rfl

def c_slices_BinarySearchFunc__int : ACode :=
  .seq (.region [
     ⟨some 6, .mv (.c (.int .i64 0)), none, []⟩,
     ⟨some 7, .mv (.c (.bool false)), none, []⟩] none) <|
  .seq (.region [
     ⟨some 12, .mv (.t 0), none, []⟩,
     ⟨some 13, .len (.t 12), none, []⟩,
     ⟨some 8, .mv (.t 13), none, []⟩] none) <|
  .seq (.region [
     ⟨some 14, .mv (.t 8), none, []⟩,
     ⟨some 9, .mv (.c (.int .i64 0)), none, []⟩,
     ⟨some 10, .mv (.t 14), none, []⟩] none) <|
  .seq (.block 0 <|
   .loop <|
   .seq (.seq (.region [
       ⟨some 15, .mv (.t 9), none, []⟩,
       ⟨some 16, .mv (.t 10), none, []⟩,
       ⟨some 17, .bin .lss (.t 15) (.t 16), none, []⟩] none) <|
    .cond (.t 17) (.skip) <|
    .exit 0) <|
   .block 1 <|
   .seq (.region [
      ⟨some 18, .mv (.t 9), none, []⟩,
      ⟨some 19, .mv (.t 10), none, []⟩,
      ⟨some 20, .bin .add (.t 18) (.t 19), none, []⟩,
      ⟨some 21, .conv .u64 (.t 20), none, []⟩,
      ⟨some 22, .pu (.bit .shr) [.t 21, .c (.int .u64 1)], none, []⟩,
      ⟨some 23, .conv .i64 (.t 22), none, []⟩,
      ⟨some 11, .mv (.t 23), none, []⟩] none) <|
   .seq (.region [
      ⟨some 24, .mv (.t 2), none, []⟩,
      ⟨some 25, .mv (.t 0), none, []⟩,
      ⟨some 26, .mv (.t 11), none, []⟩,
      ⟨some 27, .ixs 4 (.t 25) (.t 26), none, []⟩,
      ⟨some 28, .load true 4 (.t 27), none, []⟩,
      ⟨some 29, .mv (.t 1), none, []⟩,
      ⟨some 30, .callv (.t 24) [.t 28, .t 29], none, []⟩,
      ⟨some 31, .bin .lss (.t 30) (.c (.int .i64 0)), none, []⟩] none) <|
   .cond (.t 31) (.region [
      ⟨some 32, .mv (.t 11), none, []⟩,
      ⟨some 33, .bin .add (.t 32) (.c (.int .i64 1)), none, []⟩,
      ⟨some 9, .mv (.t 33), none, []⟩] none) <|
   .region [
     ⟨some 34, .mv (.t 11), none, []⟩,
     ⟨some 10, .mv (.t 34), none, []⟩] none) <|
  .seq (.region [
     ⟨some 35, .mv (.t 9), none, []⟩,
     ⟨some 36, .mv (.t 9), none, []⟩,
     ⟨some 37, .mv (.t 8), none, []⟩,
     ⟨some 38, .bin .lss (.t 36) (.t 37), none, []⟩,
     ⟨some 39, .mv (.t 38), none, []⟩,
     ⟨some 40, .mv (.t 2), some (39, true), []⟩,
     ⟨some 41, .mv (.t 0), some (39, true), []⟩,
     ⟨some 42, .mv (.t 9), some (39, true), []⟩,
     ⟨some 43, .ixs 4 (.t 41) (.t 42), some (39, true), []⟩,
     ⟨some 44, .load true 4 (.t 43), some (39, true), []⟩,
     ⟨some 45, .mv (.t 1), some (39, true), []⟩,
     ⟨some 46, .callv (.t 40) [.t 44, .t 45], some (39, true), []⟩,
     ⟨some 47, .bin .eql (.t 46) (.c (.int .i64 0)), some (39, true), []⟩,
     ⟨some 48, .pick (.t 39) (.t 47) (.c (.bool false)), none, []⟩,
     ⟨some 6, .mv (.t 35), none, []⟩,
     ⟨some 7, .mv (.t 48), none, []⟩] none) <|
  .ret
abbrev n_slices_BinarySearchFunc__int : Nat := 42
theorem b_slices_BinarySearchFunc__int : bodyOf prog 42 [1000000] = some (c_slices_BinarySearchFunc__int, [.t 6, .t 7], 49) := by kernel_rfl

def c_orders_place_1__Order : ACode :=
  .seq (.region [
     ⟨some 3, .box 4 36 (.t 0), none, []⟩,
     ⟨some 5, .mv (.c (.int .i64 0)), none, []⟩] none) <|
  .seq (.region [
     ⟨some 6, .load false 1 (.t 2), none, []⟩,
     ⟨some 7, .load true 4 (.t 3), none, []⟩,
     ⟨some 8, .callv (.t 6) [.t 7], none, []⟩,
     ⟨some 9, .mv (.t 1), none, []⟩,
     ⟨some 10, .bin .sub (.t 8) (.t 9), none, []⟩,
     ⟨some 5, .mv (.t 10), none, []⟩] none) <|
  .ret
abbrev n_orders_place_1__Order : Nat := 43
theorem b_orders_place_1__Order : bodyOf prog 43 [1000000] = some (c_orders_place_1__Order, [.t 5], 11) := by kernel_rfl

def c_slices_rotateRight__Order : ACode :=
  .region [
    ⟨some 4, .mv (.t 0), none, []⟩,
    ⟨some 5, .mv (.t 0), none, []⟩,
    ⟨some 6, .len (.t 5), none, []⟩,
    ⟨some 7, .mv (.t 1), none, []⟩,
    ⟨some 8, .bin .sub (.t 6) (.t 7), none, []⟩,
    ⟨some 9, .call 47 [.t 4, .t 8], none, []⟩] none
abbrev n_slices_rotateRight__Order : Nat := 45
theorem b_slices_rotateRight__Order : bodyOf prog 45 [1000000] = some (c_slices_rotateRight__Order, [], 10) := by kernel_rfl

def c_slices_IndexFunc__Order : ACode :=
  .seq (.region [
     ⟨some 4, .mv (.c (.int .i64 0)), none, []⟩] none) <|
  .seq (.seq (.region [
      ⟨some 6, .mv (.t 0), none, []⟩,
      ⟨some 7, .len (.t 6), none, []⟩,
      ⟨some 8, .mv (.c (.int .i64 0)), none, []⟩] none) <|
   .block 0 <|
   .loop <|
   .seq (.region [
      ⟨some 9, .bin .lss (.t 8) (.t 7), none, []⟩] none) <|
   .seq (.cond (.t 9) (.skip) <|
    .exit 0) <|
   .seq (.block 1 <|
    .seq (.region [
       ⟨some 10, .mv (.t 8), none, []⟩,
       ⟨some 5, .mv (.t 10), none, []⟩] none) <|
    .seq (.region [
       ⟨some 11, .mv (.t 1), none, []⟩,
       ⟨some 12, .mv (.t 0), none, []⟩,
       ⟨some 13, .mv (.t 5), none, []⟩,
       ⟨some 14, .ixs 4 (.t 12) (.t 13), none, []⟩,
       ⟨some 15, .load true 4 (.t 14), none, []⟩,
       ⟨some 16, .callv (.t 11) [.t 15], none, []⟩] none) <|
    .cond (.t 16) (.seq (.region [
        ⟨some 17, .mv (.t 5), none, []⟩,
        ⟨some 4, .mv (.t 17), none, []⟩] none) <|
     .ret) <|
    .skip) <|
   .region [
     ⟨some 18, .bin .add (.t 8) (.c (.int .i64 1)), none, []⟩,
     ⟨some 8, .mv (.t 18), none, []⟩] none) <|
  .seq (.region [
     ⟨some 4, .mv (.c (.int .i64 (-1))), none, []⟩] none) <|
  .ret
abbrev n_slices_IndexFunc__Order : Nat := 46
theorem b_slices_IndexFunc__Order : bodyOf prog 46 [1000000] = some (c_slices_IndexFunc__Order, [.t 4], 19) := by kernel_rfl

def c_slices_rotateLeft__Order : ACode :=
  .seq (.region [
     ⟨some 4, .mv (.t 0), none, []⟩,
     ⟨some 5, .mv (.t 1), none, []⟩,
     ⟨some 6, .slc 4 (.t 4) none (some (.t 5)), none, []⟩,
     ⟨some 7, .call 48 [.t 6], none, []⟩] none) <|
  .seq (.region [
     ⟨some 8, .mv (.t 0), none, []⟩,
     ⟨some 9, .mv (.t 1), none, []⟩,
     ⟨some 10, .slc 4 (.t 8) (some (.t 9)) none, none, []⟩,
     ⟨some 11, .call 48 [.t 10], none, []⟩] none) <|
  .region [
    ⟨some 12, .mv (.t 0), none, []⟩,
    ⟨some 13, .call 48 [.t 12], none, []⟩] none
abbrev n_slices_rotateLeft__Order : Nat := 47
theorem b_slices_rotateLeft__Order : bodyOf prog 47 [1000000] = some (c_slices_rotateLeft__Order, [], 14) := by kernel_rfl

def c_slices_Reverse__Order : ACode :=
  .seq (.region [
     ⟨some 4, .mv (.t 0), none, []⟩,
     ⟨some 5, .len (.t 4), none, []⟩,
     ⟨some 6, .bin .sub (.t 5) (.c (.int .i64 1)), none, []⟩,
     ⟨some 2, .mv (.c (.int .i64 0)), none, []⟩,
     ⟨some 3, .mv (.t 6), none, []⟩] none) <|
  .block 0 <|
  .loop <|
  .seq (.seq (.region [
      ⟨some 7, .mv (.t 2), none, []⟩,
      ⟨some 8, .mv (.t 3), none, []⟩,
      ⟨some 9, .bin .lss (.t 7) (.t 8), none, []⟩] none) <|
   .cond (.t 9) (.skip) <|
   .exit 0) <|
  .seq (.block 1 <|
   .hregion [
     ⟨9, ⟨some 23, .mv (.t 2), none, []⟩⟩,
     ⟨8, ⟨some 22, .mv (.t 0), none, []⟩⟩,
     ⟨10, ⟨some 24, .ixs 4 (.t 22) (.t 23), none, [8, 9]⟩⟩,
     ⟨11, ⟨some 25, .load true 4 (.t 24), none, [10, 8, 9]⟩⟩,
     ⟨5, ⟨some 19, .mv (.t 3), none, []⟩⟩,
     ⟨4, ⟨some 18, .mv (.t 0), none, []⟩⟩,
     ⟨6, ⟨some 20, .ixs 4 (.t 18) (.t 19), none, [4, 5]⟩⟩,
     ⟨7, ⟨some 21, .load true 4 (.t 20), none, [6, 4, 5]⟩⟩,
     ⟨3, ⟨some 17, .mv (.t 3), none, []⟩⟩,
     ⟨2, ⟨some 16, .mv (.t 0), none, []⟩⟩,
     ⟨1, ⟨some 15, .mv (.t 2), none, []⟩⟩,
     ⟨0, ⟨some 14, .mv (.t 0), none, []⟩⟩,
     ⟨12, ⟨some 26, .ixs 4 (.t 14) (.t 15), none, [0, 1, 4, 5, 6, 7, 11, 10, 8, 9]⟩⟩,
     ⟨13, ⟨none, .store 4 (.t 26) (.t 21), none, [12, 7, 0, 1, 4, 5, 6, 11, 10, 8, 9]⟩⟩,
     ⟨14, ⟨some 27, .ixs 4 (.t 16) (.t 17), none, [2, 3, 0, 1, 4, 5, 6, 7, 8, 9, 10, 11, 12, 13]⟩⟩,
     ⟨15, ⟨none, .store 4 (.t 27) (.t 25), none, [14, 11, 13, 0, 1, 2, 3, 4, 5, 6, 7, 8, 9, 10, 12]⟩⟩]) <|
  .region [
    ⟨some 10, .mv (.t 2), none, []⟩,
    ⟨some 11, .bin .add (.t 10) (.c (.int .i64 1)), none, []⟩,
    ⟨some 12, .mv (.t 3), none, []⟩,
    ⟨some 13, .bin .sub (.t 12) (.c (.int .i64 1)), none, []⟩,
    ⟨some 2, .mv (.t 11), none, []⟩,
    ⟨some 3, .mv (.t 13), none, []⟩] none
abbrev n_slices_Reverse__Order : Nat := 48
theorem b_slices_Reverse__Order : bodyOf prog 48 [1000000] = some (c_slices_Reverse__Order, [], 28) := by kernel_rfl

end Go.Proofs.Try
