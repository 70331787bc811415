/-
  WRITTEN BY A PROGRAM OF OURS (tools/seat.py): the code of the functions of this seat, each checked by the kernel against the model.
-/
import Derived.Test.YtekndbmlkheddaaBaseS
import Derived.Test.YtekndbmlkheddaaProg
import Derived.KernelRfl
namespace Go.Proofs.Try
open Go Go.Ab
abbrev n_law37_CauseHolds : Nat := 6
abbrev n_ref37_End : Nat := 41
abbrev n_slices_overlaps__Cause : Nat := 96
theorem x_slices_overlaps__Cause : extOf prog 96 = some (Extern.SlicesOverlaps.overlaps #[42, 42] #[4]) := by kernel_rfl
theorem xt_slices_overlaps__Cause : eltOf prog 42 = true := by kernel_rfl
abbrev n_slices_overlaps__Warning : Nat := 92
theorem x_slices_overlaps__Warning : extOf prog 92 = some (Extern.SlicesOverlaps.overlaps #[29, 29] #[4]) := by kernel_rfl
theorem xt_slices_overlaps__Warning : eltOf prog 29 = true := by kernel_rfl
def c_law36_WarningWindow : ACode :=
  .seq (.region [
     ⟨some 6, .mv (.c (.bool false)), none, []⟩] none) <|
  .seq (.seq (.region [
      ⟨some 27, .call 9 [], none, []⟩,
      ⟨some 28, .un .not (.t 27), none, []⟩] none) <|
   .cond (.t 28) (.seq (.region [
       ⟨some 6, .mv (.c (.bool false)), none, []⟩] none) <|
    .ret) <|
   .skip) <|
  .seq (.seq (.region [
      ⟨some 29, .mv (.t 0), none, []⟩,
      ⟨some 30, .call 10 [.t 29], none, []⟩,
      ⟨some 31, .un .not (.t 30), none, []⟩,
      ⟨some 32, .mv (.t 31), none, []⟩,
      ⟨some 33, .mv (.t 1), some (32, false), []⟩,
      ⟨some 34, .len (.t 33), some (32, false), []⟩,
      ⟨some 35, .bin .gtr (.t 34) (.c (.int .i64 200)), some (32, false), []⟩,
      ⟨some 36, .pick (.t 32) (.c (.bool true)) (.t 35), none, []⟩] none) <|
   .cond (.t 36) (.seq (.region [
       ⟨some 6, .mv (.c (.bool true)), none, []⟩] none) <|
    .ret) <|
   .skip) <|
  .seq (.region [
     ⟨some 37, .mv (.t 0), none, []⟩,
     ⟨some 38, .call 11 [.t 37], none, []⟩,
     ⟨some 7, .mv (.t 38), none, []⟩] none) <|
  .seq (.region [
     ⟨some 39, .mv (.t 7), none, []⟩,
     ⟨some 40, .call 12 [.t 39], none, []⟩,
     ⟨some 8, .alloc 3 31 (.agg [.nil, .nil, .nil]), none, []⟩,
     ⟨none, .store 3 (.t 8) (.t 40), none, []⟩] none) <|
  .seq (.region [
     ⟨some 42, .fa 0 (.t 8), none, []⟩,
     ⟨some 43, .load false 1 (.t 42), none, []⟩,
     ⟨some 44, .call 24 [.t 43], none, []⟩,
     ⟨some 41, .mv (.t 44), none, []⟩,
     ⟨some 45, .ext (.t 41) 0, none, []⟩,
     ⟨some 46, .ext (.t 41) 1, none, []⟩,
     ⟨some 9, .alloc 3 31 (.agg [.nil, .nil, .nil]), none, []⟩,
     ⟨none, .store 3 (.t 9) (.t 45), none, []⟩,
     ⟨some 10, .mv (.t 46), none, []⟩] none) <|
  .seq (.seq (.region [
      ⟨some 47, .mv (.t 10), none, []⟩,
      ⟨some 48, .bin .neq (.t 47) (.c (.int .i64 0)), none, []⟩] none) <|
   .cond (.t 48) (.seq (.region [
       ⟨some 6, .mv (.c (.bool false)), none, []⟩] none) <|
    .ret) <|
   .skip) <|
  .seq (.region [
     ⟨some 49, .fa 2 (.t 8), none, []⟩,
     ⟨some 50, .load false 1 (.t 49), none, []⟩,
     ⟨some 51, .fa 2 (.t 9), none, []⟩,
     ⟨none, .store 1 (.t 51) (.t 50), none, []⟩] none) <|
  .seq (.seq (.region [
      ⟨some 52, .mv (.t 1), none, []⟩,
      ⟨some 53, .len (.t 52), none, []⟩,
      ⟨some 54, .mv (.c (.int .i64 0)), none, []⟩] none) <|
   .block 0 <|
   .loop <|
   .seq (.region [
      ⟨some 55, .bin .lss (.t 54) (.t 53), none, []⟩] none) <|
   .seq (.cond (.t 55) (.skip) <|
    .exit 0) <|
   .seq (.block 1 <|
    .seq (.region [
       ⟨some 56, .ixs 1 (.t 52) (.t 54), none, []⟩,
       ⟨some 57, .load false 1 (.t 56), none, []⟩,
       ⟨some 12, .mv (.t 57), none, []⟩] none) <|
    .seq (.region [
       ⟨some 58, .mv (.t 7), none, []⟩,
       ⟨some 59, .fa 0 (.t 8), none, []⟩,
       ⟨some 60, .load false 1 (.t 59), none, []⟩,
       ⟨some 61, .len (.t 60), none, []⟩,
       ⟨some 62, .call 13 [.t 58, .t 61, .c (.int .i64 30)], none, []⟩,
       ⟨some 13, .mv (.t 62), none, []⟩] none) <|
    .seq (.hregion [
       ⟨6, ⟨some 69, .mv (.t 12), none, []⟩⟩,
       ⟨3, ⟨some 66, .mv (.t 13), none, []⟩⟩,
       ⟨4, ⟨some 67, .len (.t 66), none, [3]⟩⟩,
       ⟨1, ⟨some 64, .mv (.t 2), none, []⟩⟩,
       ⟨2, ⟨some 65, .conv .i64 (.t 64), none, [1]⟩⟩,
       ⟨5, ⟨some 68, .bin .rem (.t 65) (.t 67), none, [2, 4, 1, 3]⟩⟩,
       ⟨0, ⟨some 63, .mv (.t 13), none, []⟩⟩,
       ⟨7, ⟨some 70, .call 26 [.t 69, .c (.int .i64 50)], none, [6]⟩⟩,
       ⟨8, ⟨some 71, .ixs 1 (.t 63) (.t 68), none, [0, 5, 1, 2, 3, 4, 6, 7]⟩⟩,
       ⟨9, ⟨none, .store 1 (.t 71) (.t 70), none, [8, 7, 0, 1, 2, 3, 4, 5, 6]⟩⟩]) <|
    .seq (.region [
       ⟨some 73, .load true 3 (.t 9), none, []⟩,
       ⟨some 74, .mv (.t 13), none, []⟩,
       ⟨some 75, .call 15 [.t 73, .t 74], none, []⟩,
       ⟨some 72, .mv (.t 75), none, []⟩,
       ⟨some 76, .ext (.t 72) 0, none, []⟩,
       ⟨some 77, .ext (.t 72) 1, none, []⟩,
       ⟨some 78, .ext (.t 72) 2, none, []⟩,
       ⟨none, .store 3 (.t 9) (.t 76), none, []⟩,
       ⟨some 10, .mv (.t 78), none, []⟩] none) <|
    .seq (.region [
       ⟨some 79, .mv (.t 10), none, []⟩,
       ⟨some 80, .bin .neq (.t 79) (.c (.int .i64 0)), none, []⟩] none) <|
    .cond (.t 80) (.seq (.region [
        ⟨some 6, .mv (.c (.bool false)), none, []⟩] none) <|
     .ret) <|
    .skip) <|
   .region [
     ⟨some 81, .bin .add (.t 54) (.c (.int .i64 1)), none, []⟩,
     ⟨some 54, .mv (.t 81), none, []⟩] none) <|
  .seq (.region [
     ⟨some 83, .fa 0 (.t 8), none, []⟩,
     ⟨some 84, .load false 1 (.t 83), none, []⟩,
     ⟨some 85, .call 24 [.t 84], none, []⟩,
     ⟨some 82, .mv (.t 85), none, []⟩,
     ⟨some 86, .ext (.t 82) 0, none, []⟩,
     ⟨some 87, .ext (.t 82) 1, none, []⟩,
     ⟨some 14, .alloc 3 31 (.agg [.nil, .nil, .nil]), none, []⟩,
     ⟨none, .store 3 (.t 14) (.t 86), none, []⟩,
     ⟨some 10, .mv (.t 87), none, []⟩] none) <|
  .seq (.seq (.region [
      ⟨some 15, .mv (.c (.int .i64 0)), none, []⟩] none) <|
   .block 2 <|
   .loop <|
   .seq (.seq (.region [
       ⟨some 88, .mv (.t 15), none, []⟩,
       ⟨some 89, .bin .lss (.t 88) (.c (.int .i64 4)), none, []⟩,
       ⟨some 90, .mv (.t 89), none, []⟩,
       ⟨some 91, .mv (.t 10), some (90, true), []⟩,
       ⟨some 92, .bin .eql (.t 91) (.c (.int .i64 0)), some (90, true), []⟩,
       ⟨some 93, .pick (.t 90) (.t 92) (.c (.bool false)), none, []⟩] none) <|
    .cond (.t 93) (.skip) <|
    .exit 2) <|
   .seq (.block 3 <|
    .seq (.region [
       ⟨some 96, .mv (.t 7), none, []⟩,
       ⟨some 97, .fa 0 (.t 8), none, []⟩,
       ⟨some 98, .load false 1 (.t 97), none, []⟩,
       ⟨some 99, .len (.t 98), none, []⟩,
       ⟨some 100, .call 13 [.t 96, .t 99, .c (.int .i64 30)], none, []⟩,
       ⟨some 16, .mv (.t 100), none, []⟩] none) <|
    .seq (.region [
       ⟨some 17, .mv (.c (.int .i64 0)), none, []⟩] none) <|
    .seq (.region [
       ⟨some 102, .load true 3 (.t 9), none, []⟩,
       ⟨some 103, .mv (.t 16), none, []⟩,
       ⟨some 104, .call 15 [.t 102, .t 103], none, []⟩,
       ⟨some 101, .mv (.t 104), none, []⟩,
       ⟨some 105, .ext (.t 101) 0, none, []⟩,
       ⟨some 106, .ext (.t 101) 1, none, []⟩,
       ⟨some 107, .ext (.t 101) 2, none, []⟩,
       ⟨none, .store 3 (.t 9) (.t 105), none, []⟩,
       ⟨some 10, .mv (.t 107), none, []⟩] none) <|
    .seq (.region [
       ⟨some 109, .load true 3 (.t 14), none, []⟩,
       ⟨some 110, .mv (.t 16), none, []⟩,
       ⟨some 111, .call 15 [.t 109, .t 110], none, []⟩,
       ⟨some 108, .mv (.t 111), none, []⟩,
       ⟨some 112, .ext (.t 108) 0, none, []⟩,
       ⟨some 113, .ext (.t 108) 1, none, []⟩,
       ⟨some 114, .ext (.t 108) 2, none, []⟩,
       ⟨none, .store 3 (.t 14) (.t 112), none, []⟩,
       ⟨some 17, .mv (.t 114), none, []⟩] none) <|
    .seq (.region [
       ⟨some 115, .mv (.t 17), none, []⟩,
       ⟨some 116, .bin .neq (.t 115) (.c (.int .i64 0)), none, []⟩] none) <|
    .cond (.t 116) (.seq (.region [
        ⟨some 6, .mv (.c (.bool false)), none, []⟩] none) <|
     .ret) <|
    .skip) <|
   .region [
     ⟨some 94, .mv (.t 15), none, []⟩,
     ⟨some 95, .bin .add (.t 94) (.c (.int .i64 1)), none, []⟩,
     ⟨some 15, .mv (.t 95), none, []⟩] none) <|
  .seq (.region [
     ⟨some 117, .mv (.t 7), none, []⟩,
     ⟨some 118, .fa 0 (.t 8), none, []⟩,
     ⟨some 119, .load false 1 (.t 118), none, []⟩,
     ⟨some 120, .len (.t 119), none, []⟩,
     ⟨some 121, .call 13 [.t 117, .t 120, .c (.int .i64 40)], none, []⟩,
     ⟨some 18, .mv (.t 121), none, []⟩] none) <|
  .seq (.region [
     ⟨some 123, .load true 3 (.t 9), none, []⟩,
     ⟨some 124, .mv (.t 18), none, []⟩,
     ⟨some 125, .call 15 [.t 123, .t 124], none, []⟩,
     ⟨some 122, .mv (.t 125), none, []⟩,
     ⟨some 126, .ext (.t 122) 0, none, []⟩,
     ⟨some 127, .ext (.t 122) 1, none, []⟩,
     ⟨some 128, .ext (.t 122) 2, none, []⟩,
     ⟨some 19, .alloc 3 31 (.agg [.nil, .nil, .nil]), none, []⟩,
     ⟨none, .store 3 (.t 19) (.t 126), none, []⟩,
     ⟨some 20, .mv (.t 127), none, []⟩,
     ⟨some 21, .mv (.t 128), none, []⟩] none) <|
  .seq (.region [
     ⟨some 130, .load true 3 (.t 14), none, []⟩,
     ⟨some 131, .mv (.t 18), none, []⟩,
     ⟨some 132, .call 15 [.t 130, .t 131], none, []⟩,
     ⟨some 129, .mv (.t 132), none, []⟩,
     ⟨some 133, .ext (.t 129) 0, none, []⟩,
     ⟨some 134, .ext (.t 129) 1, none, []⟩,
     ⟨some 135, .ext (.t 129) 2, none, []⟩,
     ⟨some 22, .alloc 3 31 (.agg [.nil, .nil, .nil]), none, []⟩,
     ⟨none, .store 3 (.t 22) (.t 133), none, []⟩,
     ⟨some 23, .mv (.t 134), none, []⟩,
     ⟨some 24, .mv (.t 135), none, []⟩] none) <|
  .seq (.seq (.region [
      ⟨some 136, .fa 0 (.t 8), none, []⟩,
      ⟨some 137, .load false 1 (.t 136), none, []⟩,
      ⟨some 138, .len (.t 137), none, []⟩,
      ⟨some 139, .mv (.c (.int .i64 0)), none, []⟩] none) <|
   .block 4 <|
   .loop <|
   .seq (.region [
      ⟨some 140, .bin .lss (.t 139) (.t 138), none, []⟩] none) <|
   .seq (.cond (.t 140) (.skip) <|
    .exit 4) <|
   .seq (.block 5 <|
    .seq (.region [
       ⟨some 141, .mv (.t 139), none, []⟩,
       ⟨some 142, .ixs 4 (.t 137) (.t 139), none, []⟩,
       ⟨some 143, .load true 4 (.t 142), none, []⟩,
       ⟨some 26, .alloc 4 41 (.agg [.int .i64 0, .int .i64 0, .int .i64 0, .int .i64 0]), none, []⟩,
       ⟨some 25, .mv (.t 141), none, []⟩,
       ⟨none, .store 4 (.t 26) (.t 143), none, []⟩] none) <|
    .seq (.region [
       ⟨some 144, .fa 1 (.t 26), none, []⟩,
       ⟨some 145, .load false 1 (.t 144), none, []⟩,
       ⟨some 146, .bin .leq (.t 145) (.c (.int .i64 4)), none, []⟩,
       ⟨some 147, .mv (.t 146), none, []⟩,
       ⟨some 148, .mv (.t 20), some (147, true), []⟩,
       ⟨some 149, .mv (.t 25), some (147, true), []⟩,
       ⟨some 150, .call 30 [.t 148, .t 149], some (147, true), []⟩,
       ⟨some 151, .mv (.t 23), some (147, true), []⟩,
       ⟨some 152, .mv (.t 25), some (147, true), []⟩,
       ⟨some 153, .call 30 [.t 151, .t 152], some (147, true), []⟩,
       ⟨some 154, .eqb true (.t 150) (.t 153), some (147, true), []⟩,
       ⟨some 155, .pick (.t 147) (.t 154) (.c (.bool false)), none, []⟩] none) <|
    .cond (.t 155) (.seq (.region [
        ⟨some 6, .mv (.c (.bool false)), none, []⟩] none) <|
     .ret) <|
    .skip) <|
   .region [
     ⟨some 156, .bin .add (.t 139) (.c (.int .i64 1)), none, []⟩,
     ⟨some 139, .mv (.t 156), none, []⟩] none) <|
  .seq (.region [
     ⟨some 157, .mv (.t 10), none, []⟩,
     ⟨some 158, .bin .eql (.t 157) (.c (.int .i64 0)), none, []⟩,
     ⟨some 159, .mv (.t 158), none, []⟩,
     ⟨some 160, .mv (.t 21), some (159, true), []⟩,
     ⟨some 161, .bin .eql (.t 160) (.c (.int .i64 0)), some (159, true), []⟩,
     ⟨some 162, .pick (.t 159) (.t 161) (.c (.bool false)), none, []⟩,
     ⟨some 163, .mv (.t 162), none, []⟩,
     ⟨some 164, .mv (.t 24), some (163, true), []⟩,
     ⟨some 165, .bin .eql (.t 164) (.c (.int .i64 0)), some (163, true), []⟩,
     ⟨some 166, .pick (.t 163) (.t 165) (.c (.bool false)), none, []⟩,
     ⟨some 167, .mv (.t 166), none, []⟩,
     ⟨some 168, .fa 2 (.t 19), some (167, true), []⟩,
     ⟨some 169, .load false 1 (.t 168), some (167, true), []⟩,
     ⟨some 170, .build [.nil, .nil, .nil] [(2, 1, .t 169)], some (167, true), []⟩,
     ⟨some 171, .fa 2 (.t 8), some (167, true), []⟩,
     ⟨some 172, .load false 1 (.t 171), some (167, true), []⟩,
     ⟨some 173, .build [.nil, .nil, .nil] [(2, 1, .t 172)], some (167, true), []⟩,
     ⟨some 174, .call 19 [.t 170, .t 173], some (167, true), []⟩,
     ⟨some 175, .pick (.t 167) (.t 174) (.c (.bool false)), none, []⟩,
     ⟨some 6, .mv (.t 175), none, []⟩] none) <|
  .ret
abbrev n_law36_WarningWindow : Nat := 5
theorem b_law36_WarningWindow : bodyOf prog 5 [1000000] = some (c_law36_WarningWindow, [.t 6], 176) := by kernel_rfl

def c_law36_sane : ACode :=
  .seq (.region [
     ⟨some 0, .mv (.c (.bool false)), none, []⟩] none) <|
  .seq (.region [
     ⟨some 16, .build [.int .i64 0, .int .i64 0, .int .i64 0, .int .i64 0] [(1, 1, .c (.int .i64 2)), (2, 1, .c (.int .i64 5)), (3, 1, .c (.int .i64 1))], none, []⟩,
     ⟨some 17, .lit false 4 41 [.t 16], none, []⟩,
     ⟨some 18, .call 24 [.t 17], none, []⟩,
     ⟨some 15, .mv (.t 18), none, []⟩,
     ⟨some 19, .ext (.t 15) 0, none, []⟩,
     ⟨some 20, .ext (.t 15) 1, none, []⟩,
     ⟨some 1, .alloc 3 31 (.agg [.nil, .nil, .nil]), none, []⟩,
     ⟨none, .store 3 (.t 1) (.t 19), none, []⟩,
     ⟨some 2, .mv (.t 20), none, []⟩] none) <|
  .seq (.seq (.region [
      ⟨some 21, .lit false 1 3 [.c (.int .i64 10), .c (.int .i64 12)], none, []⟩,
      ⟨some 22, .len (.t 21), none, []⟩,
      ⟨some 23, .mv (.c (.int .i64 0)), none, []⟩] none) <|
   .block 0 <|
   .loop <|
   .seq (.region [
      ⟨some 24, .bin .lss (.t 23) (.t 22), none, []⟩] none) <|
   .seq (.cond (.t 24) (.skip) <|
    .exit 0) <|
   .seq (.block 1 <|
    .seq (.region [
       ⟨some 25, .ixs 1 (.t 21) (.t 23), none, []⟩,
       ⟨some 26, .load false 1 (.t 25), none, []⟩,
       ⟨some 4, .mv (.t 26), none, []⟩] none) <|
    .seq (.region [
       ⟨some 28, .load true 3 (.t 1), none, []⟩,
       ⟨some 29, .mv (.t 4), none, []⟩,
       ⟨some 30, .lit false 1 3 [.t 29], none, []⟩,
       ⟨some 31, .call 15 [.t 28, .t 30], none, []⟩,
       ⟨some 27, .mv (.t 31), none, []⟩,
       ⟨some 32, .ext (.t 27) 0, none, []⟩,
       ⟨some 33, .ext (.t 27) 1, none, []⟩,
       ⟨some 34, .ext (.t 27) 2, none, []⟩,
       ⟨some 5, .alloc 3 31 (.agg [.nil, .nil, .nil]), none, []⟩,
       ⟨none, .store 3 (.t 5) (.t 32), none, []⟩,
       ⟨some 6, .mv (.t 33), none, []⟩,
       ⟨some 7, .mv (.t 34), none, []⟩] none) <|
    .seq (.seq (.region [
        ⟨some 35, .mv (.t 7), none, []⟩,
        ⟨some 36, .bin .neq (.t 35) (.c (.int .i64 0)), none, []⟩,
        ⟨some 37, .mv (.t 36), none, []⟩,
        ⟨some 38, .mv (.t 6), some (37, false), []⟩,
        ⟨some 39, .len (.t 38), some (37, false), []⟩,
        ⟨some 40, .bin .neq (.t 39) (.c (.int .i64 0)), some (37, false), []⟩,
        ⟨some 41, .pick (.t 37) (.c (.bool true)) (.t 40), none, []⟩] none) <|
     .cond (.t 41) (.seq (.region [
         ⟨some 0, .mv (.c (.bool false)), none, []⟩] none) <|
      .ret) <|
     .skip) <|
    .region [
      ⟨some 42, .load true 3 (.t 5), none, []⟩,
      ⟨none, .store 3 (.t 1) (.t 42), none, []⟩] none) <|
   .region [
     ⟨some 43, .bin .add (.t 23) (.c (.int .i64 1)), none, []⟩,
     ⟨some 23, .mv (.t 43), none, []⟩] none) <|
  .seq (.region [
     ⟨some 45, .load true 3 (.t 1), none, []⟩,
     ⟨some 46, .lit false 1 3 [.c (.int .i64 12), .c (.int .i64 18)], none, []⟩,
     ⟨some 47, .lit false 1 22 [.t 46], none, []⟩,
     ⟨some 48, .call 14 [.t 45, .t 47], none, []⟩,
     ⟨some 44, .mv (.t 48), none, []⟩,
     ⟨some 49, .ext (.t 44) 0, none, []⟩,
     ⟨some 50, .ext (.t 44) 1, none, []⟩,
     ⟨some 8, .mv (.t 49), none, []⟩,
     ⟨some 9, .mv (.t 50), none, []⟩] none) <|
  .seq (.region [
     ⟨some 52, .load true 3 (.t 1), none, []⟩,
     ⟨some 53, .lit false 1 3 [.c (.int .i64 16)], none, []⟩,
     ⟨some 54, .call 15 [.t 52, .t 53], none, []⟩,
     ⟨some 51, .mv (.t 54), none, []⟩,
     ⟨some 55, .ext (.t 51) 0, none, []⟩,
     ⟨some 56, .ext (.t 51) 1, none, []⟩,
     ⟨some 57, .ext (.t 51) 2, none, []⟩,
     ⟨some 10, .alloc 3 31 (.agg [.nil, .nil, .nil]), none, []⟩,
     ⟨none, .store 3 (.t 10) (.t 55), none, []⟩,
     ⟨some 11, .mv (.t 56), none, []⟩,
     ⟨some 12, .mv (.t 57), none, []⟩] none) <|
  .seq (.region [
     ⟨some 59, .load true 3 (.t 1), none, []⟩,
     ⟨some 60, .call 27 [.t 59, .c (.int .i64 0)], none, []⟩,
     ⟨some 58, .mv (.t 60), none, []⟩,
     ⟨some 61, .ext (.t 58) 0, none, []⟩,
     ⟨some 62, .ext (.t 58) 1, none, []⟩,
     ⟨some 13, .alloc 4 44 (.agg [.int .i64 0, .int .i64 0, .nil, .int .i64 0]), none, []⟩,
     ⟨none, .store 4 (.t 13) (.t 61), none, []⟩,
     ⟨some 14, .mv (.t 62), none, []⟩] none) <|
  .seq (.region [
     ⟨some 63, .mv (.t 2), none, []⟩,
     ⟨some 64, .bin .eql (.t 63) (.c (.int .i64 0)), none, []⟩,
     ⟨some 65, .mv (.t 64), none, []⟩,
     ⟨some 66, .mv (.t 12), some (65, true), []⟩,
     ⟨some 67, .bin .eql (.t 66) (.c (.int .i64 0)), some (65, true), []⟩,
     ⟨some 68, .pick (.t 65) (.t 67) (.c (.bool false)), none, []⟩,
     ⟨some 69, .mv (.t 68), none, []⟩,
     ⟨some 70, .mv (.t 9), some (69, true), []⟩,
     ⟨some 71, .bin .eql (.t 70) (.c (.int .i64 0)), some (69, true), []⟩,
     ⟨some 72, .pick (.t 69) (.t 71) (.c (.bool false)), none, []⟩,
     ⟨some 73, .mv (.t 72), none, []⟩,
     ⟨some 74, .mv (.t 11), some (73, true), []⟩,
     ⟨some 75, .len (.t 74), some (73, true), []⟩,
     ⟨some 76, .bin .eql (.t 75) (.c (.int .i64 1)), some (73, true), []⟩,
     ⟨some 77, .pick (.t 73) (.t 76) (.c (.bool false)), none, []⟩,
     ⟨some 78, .mv (.t 77), none, []⟩,
     ⟨some 79, .mv (.t 8), some (78, true), []⟩,
     ⟨some 80, .len (.t 79), some (78, true), []⟩,
     ⟨some 81, .bin .eql (.t 80) (.c (.int .i64 1)), some (78, true), []⟩,
     ⟨some 82, .pick (.t 78) (.t 81) (.c (.bool false)), none, []⟩,
     ⟨some 83, .mv (.t 82), none, []⟩,
     ⟨some 84, .mv (.t 14), some (83, true), []⟩,
     ⟨some 85, .un .not (.t 84), some (83, true), []⟩,
     ⟨some 86, .pick (.t 83) (.t 85) (.c (.bool false)), none, []⟩,
     ⟨some 87, .mv (.t 86), none, []⟩,
     ⟨some 88, .load true 3 (.t 1), some (87, true), []⟩,
     ⟨some 89, .call 17 [.t 88], some (87, true), []⟩,
     ⟨some 90, .bin .eql (.t 89) (.c (.int .i64 0)), some (87, true), []⟩,
     ⟨some 91, .pick (.t 87) (.t 90) (.c (.bool false)), none, []⟩,
     ⟨some 0, .mv (.t 91), none, []⟩] none) <|
  .ret
abbrev n_law36_sane : Nat := 9
theorem b_law36_sane : bodyOf prog 9 [1000000] = some (c_law36_sane, [.t 0], 92) := by kernel_rfl

def c_mk_Few : ACode :=
  .seq (.region [
     ⟨some 2, .mv (.c (.bool false)), none, []⟩] none) <|
  .seq (.region [
     ⟨some 3, .mv (.t 0), none, []⟩,
     ⟨some 4, .len (.t 3), none, []⟩,
     ⟨some 5, .bin .leq (.t 4) (.c (.int .i64 500)), none, []⟩,
     ⟨some 2, .mv (.t 5), none, []⟩] none) <|
  .ret
abbrev n_mk_Few : Nat := 10
theorem b_mk_Few : bodyOf prog 10 [1000000] = some (c_mk_Few, [.t 2], 6) := by kernel_rfl

def c_mk_New : ACode :=
  .seq (.region [
     ⟨some 2, .mv (.c (.nilptr)), none, []⟩] none) <|
  .seq (.region [
     ⟨some 3, .mv (.t 0), none, []⟩,
     ⟨some 4, .build [.nil, .int .i64 0] [(0, 1, .t 3)], none, []⟩,
     ⟨some 5, .box 2 62 (.t 4), none, []⟩,
     ⟨some 2, .mv (.t 5), none, []⟩] none) <|
  .ret
abbrev n_mk_New : Nat := 11
theorem b_mk_New : bodyOf prog 11 [] = some (c_mk_New, [.t 2], 6) := by kernel_rfl

def c_flow_Board : ACode :=
  .seq (.region [
     ⟨some 2, .alloc 3 31 (.agg [.nil, .nil, .nil]), none, []⟩] none) <|
  .seq (.region [
     ⟨some 7, .mv (.t 0), none, []⟩,
     ⟨some 8, .call 47 [.t 7, .c (.int .i64 5)], none, []⟩,
     ⟨some 9, .call 25 [.t 8], none, []⟩,
     ⟨some 6, .mv (.t 9), none, []⟩,
     ⟨some 10, .ext (.t 6) 0, none, []⟩,
     ⟨some 11, .ext (.t 6) 1, none, []⟩,
     ⟨some 3, .alloc 3 31 (.agg [.nil, .nil, .nil]), none, []⟩,
     ⟨none, .store 3 (.t 3) (.t 10), none, []⟩,
     ⟨some 4, .mv (.t 11), none, []⟩] none) <|
  .seq (.seq (.region [
      ⟨some 12, .mv (.t 0), none, []⟩,
      ⟨some 13, .call 16 [.t 12, .c (.int .i64 10)], none, []⟩,
      ⟨some 5, .mv (.t 13), none, []⟩] none) <|
   .block 0 <|
   .loop <|
   .seq (.seq (.region [
       ⟨some 14, .mv (.t 5), none, []⟩,
       ⟨some 15, .bin .gtr (.t 14) (.c (.int .i64 0)), none, []⟩] none) <|
    .cond (.t 15) (.skip) <|
    .exit 0) <|
   .seq (.block 1 <|
    .seq (.region [
       ⟨some 18, .mv (.t 0), none, []⟩,
       ⟨some 19, .call 16 [.t 18, .c (.int .i64 4)], none, []⟩] none) <|
    .block 2 <|
    .seq (.region [
       ⟨some 32, .bin .eql (.t 19) (.c (.int .i64 0)), none, []⟩,
       ⟨some 31, .mv (.t 32), none, []⟩] none) <|
    .cond (.t 31) (.hregion [
       ⟨8, ⟨some 42, .mv (.t 0), none, []⟩⟩,
       ⟨6, ⟨some 40, .mv (.t 0), none, []⟩⟩,
       ⟨2, ⟨some 36, .fa 0 (.t 3), none, []⟩⟩,
       ⟨3, ⟨some 37, .load false 1 (.t 36), none, [2]⟩⟩,
       ⟨4, ⟨some 38, .len (.t 37), none, [3, 2]⟩⟩,
       ⟨1, ⟨some 35, .mv (.t 0), none, []⟩⟩,
       ⟨0, ⟨some 34, .load true 3 (.t 3), none, []⟩⟩,
       ⟨5, ⟨some 39, .call 16 [.t 35, .t 38], none, [1, 4, 3, 2]⟩⟩,
       ⟨7, ⟨some 41, .call 16 [.t 40, .c (.int .i64 20)], none, [6, 5, 1, 4, 3, 2]⟩⟩,
       ⟨9, ⟨some 43, .call 32 [.t 42], none, [8, 7, 6, 5, 1, 4, 3, 2]⟩⟩,
       ⟨10, ⟨some 44, .call 40 [.t 34, .t 39, .t 41, .t 43], none, [0, 5, 7, 9, 1, 4, 3, 2, 6, 8]⟩⟩,
       ⟨11, ⟨some 33, .mv (.t 44), none, [10, 0, 5, 7, 9, 1, 4, 3, 2, 6, 8]⟩⟩,
       ⟨13, ⟨some 46, .ext (.t 33) 1, none, [11, 10, 0, 5, 7, 9, 1, 4, 3, 2, 6, 8]⟩⟩,
       ⟨12, ⟨some 45, .ext (.t 33) 0, none, [11, 10, 0, 5, 7, 9, 1, 4, 3, 2, 6, 8]⟩⟩,
       ⟨14, ⟨none, .store 3 (.t 3) (.t 45), none, [12, 10, 0, 1, 2, 3, 4, 5, 6, 7, 8, 9, 11]⟩⟩]) <|
    .seq (.region [
       ⟨some 48, .bin .eql (.t 19) (.c (.int .i64 1)), none, []⟩,
       ⟨some 47, .mv (.t 48), none, []⟩] none) <|
    .cond (.t 47) (.hregion [
       ⟨4, ⟨some 54, .mv (.t 0), none, []⟩⟩,
       ⟨2, ⟨some 52, .load true 3 (.t 3), none, []⟩⟩,
       ⟨1, ⟨some 51, .mv (.t 0), none, []⟩⟩,
       ⟨0, ⟨some 50, .load true 3 (.t 3), none, []⟩⟩,
       ⟨3, ⟨some 53, .call 35 [.t 51, .t 52], none, [1, 2]⟩⟩,
       ⟨5, ⟨some 55, .call 16 [.t 54, .c (.int .i64 4)], none, [4, 3, 1, 2]⟩⟩,
       ⟨6, ⟨some 56, .bin .add (.c (.int .i64 1)) (.t 55), none, [5, 4, 3, 1, 2]⟩⟩,
       ⟨7, ⟨some 57, .call 45 [.t 50, .t 53, .t 56], none, [0, 3, 6, 5, 1, 2, 4]⟩⟩,
       ⟨8, ⟨some 49, .mv (.t 57), none, [7, 0, 3, 6, 5, 1, 2, 4]⟩⟩,
       ⟨11, ⟨some 60, .ext (.t 49) 2, none, [8, 7, 0, 3, 6, 5, 1, 2, 4]⟩⟩,
       ⟨10, ⟨some 59, .ext (.t 49) 1, none, [8, 7, 0, 3, 6, 5, 1, 2, 4]⟩⟩,
       ⟨9, ⟨some 58, .ext (.t 49) 0, none, [8, 7, 0, 3, 6, 5, 1, 2, 4]⟩⟩,
       ⟨12, ⟨none, .store 3 (.t 3) (.t 58), none, [9, 7, 0, 1, 2, 3, 4, 5, 6, 8]⟩⟩]) <|
    .seq (.region [
       ⟨some 62, .bin .eql (.t 19) (.c (.int .i64 2)), none, []⟩,
       ⟨some 61, .mv (.t 62), none, []⟩] none) <|
    .cond (.t 61) (.hregion [
       ⟨6, ⟨some 70, .mv (.t 0), none, []⟩⟩,
       ⟨2, ⟨some 66, .fa 0 (.t 3), none, []⟩⟩,
       ⟨3, ⟨some 67, .load false 1 (.t 66), none, [2]⟩⟩,
       ⟨4, ⟨some 68, .len (.t 67), none, [3, 2]⟩⟩,
       ⟨1, ⟨some 65, .mv (.t 0), none, []⟩⟩,
       ⟨0, ⟨some 64, .load true 3 (.t 3), none, []⟩⟩,
       ⟨5, ⟨some 69, .call 16 [.t 65, .t 68], none, [1, 4, 3, 2]⟩⟩,
       ⟨7, ⟨some 71, .call 32 [.t 70], none, [6, 5, 1, 4, 3, 2]⟩⟩,
       ⟨8, ⟨some 72, .lit false 2 64 [.t 71], none, [7, 6, 5, 1, 4, 3, 2]⟩⟩,
       ⟨9, ⟨some 73, .call 43 [.t 64, .t 69, .t 72], none, [0, 5, 8, 7, 1, 4, 3, 2, 6]⟩⟩,
       ⟨10, ⟨some 63, .mv (.t 73), none, [9, 0, 5, 8, 7, 1, 4, 3, 2, 6]⟩⟩,
       ⟨12, ⟨some 75, .ext (.t 63) 1, none, [10, 9, 0, 5, 8, 7, 1, 4, 3, 2, 6]⟩⟩,
       ⟨11, ⟨some 74, .ext (.t 63) 0, none, [10, 9, 0, 5, 8, 7, 1, 4, 3, 2, 6]⟩⟩,
       ⟨13, ⟨none, .store 3 (.t 3) (.t 74), none, [11, 9, 0, 1, 2, 3, 4, 5, 6, 7, 8, 10]⟩⟩]) <|
    .hregion [
      ⟨2, ⟨some 23, .fa 0 (.t 3), none, []⟩⟩,
      ⟨3, ⟨some 24, .load false 1 (.t 23), none, [2]⟩⟩,
      ⟨4, ⟨some 25, .len (.t 24), none, [3, 2]⟩⟩,
      ⟨1, ⟨some 22, .mv (.t 0), none, []⟩⟩,
      ⟨0, ⟨some 21, .load true 3 (.t 3), none, []⟩⟩,
      ⟨5, ⟨some 26, .call 13 [.t 22, .t 25, .c (.int .i64 30)], none, [1, 4, 3, 2]⟩⟩,
      ⟨6, ⟨some 27, .call 23 [.t 21, .t 26], none, [0, 5, 1, 4, 3, 2]⟩⟩,
      ⟨7, ⟨some 20, .mv (.t 27), none, [6, 0, 5, 1, 4, 3, 2]⟩⟩,
      ⟨10, ⟨some 30, .ext (.t 20) 2, none, [7, 6, 0, 5, 1, 4, 3, 2]⟩⟩,
      ⟨9, ⟨some 29, .ext (.t 20) 1, none, [7, 6, 0, 5, 1, 4, 3, 2]⟩⟩,
      ⟨8, ⟨some 28, .ext (.t 20) 0, none, [7, 6, 0, 5, 1, 4, 3, 2]⟩⟩,
      ⟨11, ⟨none, .store 3 (.t 3) (.t 28), none, [8, 6, 0, 1, 2, 3, 4, 5, 7]⟩⟩]) <|
   .region [
     ⟨some 16, .mv (.t 5), none, []⟩,
     ⟨some 17, .bin .sub (.t 16) (.c (.int .i64 1)), none, []⟩,
     ⟨some 5, .mv (.t 17), none, []⟩] none) <|
  .seq (.region [
     ⟨some 76, .load true 3 (.t 3), none, []⟩,
     ⟨none, .store 3 (.t 2) (.t 76), none, []⟩] none) <|
  .ret
abbrev n_flow_Board : Nat := 12
theorem b_flow_Board : bodyOf prog 12 [1000000] = some (c_flow_Board, [.c 2 true 3], 77) := by kernel_rfl

def c_mk_Flows : ACode :=
  .seq (.region [
     ⟨some 6, .mv (.c (.nil)), none, []⟩] none) <|
  .seq (.region [
     ⟨some 7, .newsl 1 3, none, []⟩] none) <|
  .seq (.seq (.region [
      ⟨some 8, .mv (.t 1), none, []⟩,
      ⟨some 9, .mv (.c (.int .i64 0)), none, []⟩] none) <|
   .block 0 <|
   .loop <|
   .seq (.region [
      ⟨some 10, .bin .lss (.t 9) (.t 8), none, []⟩] none) <|
   .seq (.cond (.t 10) (.skip) <|
    .exit 0) <|
   .seq (.block 1 <|
    .region [
      ⟨some 11, .mv (.t 7), none, []⟩,
      ⟨some 12, .mv (.t 0), none, []⟩,
      ⟨some 13, .mv (.t 2), none, []⟩,
      ⟨some 14, .call 16 [.t 12, .t 13], none, []⟩,
      ⟨some 15, .lit false 1 3 [.t 14], none, []⟩,
      ⟨some 16, .app 1 8 3 (.t 11) (.t 15), none, []⟩,
      ⟨some 7, .mv (.t 16), none, []⟩] none) <|
   .region [
     ⟨some 17, .bin .add (.t 9) (.c (.int .i64 1)), none, []⟩,
     ⟨some 9, .mv (.t 17), none, []⟩] none) <|
  .seq (.region [
     ⟨some 18, .mv (.t 7), none, []⟩,
     ⟨some 6, .mv (.t 18), none, []⟩] none) <|
  .ret
abbrev n_mk_Flows : Nat := 13
theorem b_mk_Flows : bodyOf prog 13 [7] = some (c_mk_Flows, [.t 6], 19) := by kernel_rfl

def c_warning_Ahead : ACode :=
  .seq (.region [
     ⟨some 2, .box 3 31 (.t 0), none, []⟩,
     ⟨some 4, .mv (.c (.nil)), none, []⟩,
     ⟨some 5, .mv (.c (.int .i64 0)), none, []⟩] none) <|
  .seq (.seq (.region [
      ⟨some 13, .load true 3 (.t 2), none, []⟩,
      ⟨some 14, .call 48 [.t 13], none, []⟩,
      ⟨some 15, .un .not (.t 14), none, []⟩] none) <|
   .cond (.t 15) (.seq (.region [
       ⟨some 4, .mv (.c (.nil)), none, []⟩,
       ⟨some 5, .mv (.c (.int .i64 50)), none, []⟩] none) <|
    .ret) <|
   .skip) <|
  .seq (.seq (.region [
      ⟨some 16, .mv (.t 1), none, []⟩,
      ⟨some 17, .len (.t 16), none, []⟩,
      ⟨some 18, .fa 0 (.t 2), none, []⟩,
      ⟨some 19, .load false 1 (.t 18), none, []⟩,
      ⟨some 20, .len (.t 19), none, []⟩,
      ⟨some 21, .bin .neq (.t 17) (.t 20), none, []⟩] none) <|
   .cond (.t 21) (.seq (.region [
       ⟨some 4, .mv (.c (.nil)), none, []⟩,
       ⟨some 5, .mv (.c (.int .i64 3)), none, []⟩] none) <|
    .ret) <|
   .skip) <|
  .seq (.seq (.region [
      ⟨some 22, .mv (.t 1), none, []⟩,
      ⟨some 23, .len (.t 22), none, []⟩,
      ⟨some 24, .mv (.c (.int .i64 0)), none, []⟩] none) <|
   .block 0 <|
   .loop <|
   .seq (.region [
      ⟨some 25, .bin .lss (.t 24) (.t 23), none, []⟩] none) <|
   .seq (.cond (.t 25) (.skip) <|
    .exit 0) <|
   .seq (.block 1 <|
    .seq (.region [
       ⟨some 26, .ixs 1 (.t 22) (.t 24), none, []⟩,
       ⟨some 27, .load false 1 (.t 26), none, []⟩,
       ⟨some 7, .mv (.t 27), none, []⟩] none) <|
    .seq (.region [
       ⟨some 28, .mv (.t 7), none, []⟩,
       ⟨some 29, .call 49 [.t 28, .c (.func 50 [])], none, []⟩] none) <|
    .cond (.t 29) (.seq (.region [
        ⟨some 4, .mv (.c (.nil)), none, []⟩,
        ⟨some 5, .mv (.c (.int .i64 1)), none, []⟩] none) <|
     .ret) <|
    .skip) <|
   .region [
     ⟨some 30, .bin .add (.t 24) (.c (.int .i64 1)), none, []⟩,
     ⟨some 24, .mv (.t 30), none, []⟩] none) <|
  .seq (.region [
     ⟨some 8, .mv (.c (.nil)), none, []⟩] none) <|
  .seq (.seq (.region [
      ⟨some 31, .fa 0 (.t 2), none, []⟩,
      ⟨some 32, .load false 1 (.t 31), none, []⟩,
      ⟨some 33, .len (.t 32), none, []⟩,
      ⟨some 34, .mv (.c (.int .i64 0)), none, []⟩] none) <|
   .block 2 <|
   .loop <|
   .seq (.region [
      ⟨some 35, .bin .lss (.t 34) (.t 33), none, []⟩] none) <|
   .seq (.cond (.t 35) (.skip) <|
    .exit 2) <|
   .seq (.block 3 <|
    .seq (.region [
       ⟨some 36, .mv (.t 34), none, []⟩,
       ⟨some 9, .mv (.t 36), none, []⟩] none) <|
    .seq (.region [
       ⟨some 37, .fa 0 (.t 2), none, []⟩,
       ⟨some 38, .load false 1 (.t 37), none, []⟩,
       ⟨some 39, .mv (.t 9), none, []⟩,
       ⟨some 40, .ixs 4 (.t 38) (.t 39), none, []⟩,
       ⟨some 41, .load true 4 (.t 40), none, []⟩,
       ⟨some 10, .alloc 4 41 (.agg [.int .i64 0, .int .i64 0, .int .i64 0, .int .i64 0]), none, []⟩,
       ⟨none, .store 4 (.t 10) (.t 41), none, []⟩] none) <|
    .seq (.hregion [
       ⟨21, ⟨some 64, .fa 2 (.t 10), none, []⟩⟩,
       ⟨22, ⟨some 65, .load false 1 (.t 64), none, [21]⟩⟩,
       ⟨19, ⟨some 62, .fa 1 (.t 10), none, []⟩⟩,
       ⟨20, ⟨some 63, .load false 1 (.t 62), none, [19]⟩⟩,
       ⟨14, ⟨some 57, .fa 3 (.t 10), none, []⟩⟩,
       ⟨15, ⟨some 58, .load false 1 (.t 57), none, [14]⟩⟩,
       ⟨16, ⟨some 59, .bin .add (.t 58) (.c (.int .i64 1)), none, [15, 14]⟩⟩,
       ⟨10, ⟨some 53, .mv (.t 9), none, []⟩⟩,
       ⟨9, ⟨some 52, .mv (.t 1), none, []⟩⟩,
       ⟨11, ⟨some 54, .ixs 1 (.t 52) (.t 53), none, [9, 10]⟩⟩,
       ⟨12, ⟨some 55, .load false 1 (.t 54), none, [11, 9, 10]⟩⟩,
       ⟨13, ⟨some 56, .len (.t 55), none, [12, 11, 9, 10]⟩⟩,
       ⟨17, ⟨some 60, .mnx false (.t 56) [.t 59], none, [13, 16, 12, 11, 9, 10, 15, 14]⟩⟩,
       ⟨6, ⟨some 49, .mv (.t 9), none, []⟩⟩,
       ⟨5, ⟨some 48, .mv (.t 1), none, []⟩⟩,
       ⟨7, ⟨some 50, .ixs 1 (.t 48) (.t 49), none, [5, 6]⟩⟩,
       ⟨8, ⟨some 51, .load false 1 (.t 50), none, [7, 5, 6]⟩⟩,
       ⟨18, ⟨some 61, .slc 1 (.t 51) none (some (.t 60)), none, [8, 17, 7, 5, 6, 13, 16, 12, 11, 9, 10, 15, 14]⟩⟩,
       ⟨2, ⟨some 45, .mv (.t 9), none, []⟩⟩,
       ⟨0, ⟨some 43, .fa 1 (.t 2), none, []⟩⟩,
       ⟨1, ⟨some 44, .load false 1 (.t 43), none, [0]⟩⟩,
       ⟨3, ⟨some 46, .ixs 1 (.t 44) (.t 45), none, [1, 2, 0]⟩⟩,
       ⟨4, ⟨some 47, .load false 1 (.t 46), none, [3, 1, 2, 0]⟩⟩,
       ⟨23, ⟨some 66, .call 51 [.t 47, .t 61, .t 63, .t 65], none, [4, 18, 20, 22, 3, 1, 2, 0, 8, 17, 7, 5, 6, 13, 16, 12, 11, 9, 10, 15, 14, 19, 21]⟩⟩,
       ⟨24, ⟨some 42, .mv (.t 66), none, [23, 4, 18, 20, 22, 3, 1, 2, 0, 8, 17, 7, 5, 6, 13, 16, 12, 11, 9, 10, 15, 14, 19, 21]⟩⟩,
       ⟨26, ⟨some 68, .ext (.t 42) 1, none, [24, 23, 4, 18, 20, 22, 3, 1, 2, 0, 8, 17, 7, 5, 6, 13, 16, 12, 11, 9, 10, 15, 14, 19, 21]⟩⟩,
       ⟨25, ⟨some 67, .ext (.t 42) 0, none, [24, 23, 4, 18, 20, 22, 3, 1, 2, 0, 8, 17, 7, 5, 6, 13, 16, 12, 11, 9, 10, 15, 14, 19, 21]⟩⟩,
       ⟨27, ⟨some 11, .mv (.t 67), none, [25, 23, 0, 1, 2, 3, 4, 5, 6, 7, 8, 9, 10, 11, 12, 13, 14, 15, 16, 17, 18, 19, 20, 21, 22, 24]⟩⟩,
       ⟨28, ⟨some 12, .mv (.t 68), none, [26, 27, 0, 1, 2, 3, 4, 5, 6, 7, 8, 9, 10, 11, 12, 13, 14, 15, 16, 17, 18, 19, 20, 21, 22, 23, 24, 25]⟩⟩]) <|
    .seq (.region [
       ⟨some 69, .mv (.t 12), none, []⟩] none) <|
    .cond (.t 69) (.region [
       ⟨some 70, .mv (.t 8), none, []⟩,
       ⟨some 71, .mv (.t 9), none, []⟩,
       ⟨some 72, .lit false 1 3 [.t 71], none, []⟩,
       ⟨some 73, .app 1 8 3 (.t 70) (.t 72), none, []⟩,
       ⟨some 8, .mv (.t 73), none, []⟩] none) <|
    .skip) <|
   .region [
     ⟨some 74, .bin .add (.t 34) (.c (.int .i64 1)), none, []⟩,
     ⟨some 34, .mv (.t 74), none, []⟩] none) <|
  .seq (.region [
     ⟨some 75, .mv (.t 8), none, []⟩,
     ⟨some 4, .mv (.t 75), none, []⟩,
     ⟨some 5, .mv (.c (.int .i64 0)), none, []⟩] none) <|
  .ret
abbrev n_warning_Ahead : Nat := 14
theorem b_warning_Ahead : bodyOf prog 14 [1000000] = some (c_warning_Ahead, [.t 4, .t 5], 76) := by kernel_rfl

def c_warning_See : ACode :=
  .seq (.region [
     ⟨some 2, .box 3 31 (.t 0), none, []⟩,
     ⟨some 4, .alloc 3 31 (.agg [.nil, .nil, .nil]), none, []⟩,
     ⟨some 5, .mv (.c (.nil)), none, []⟩,
     ⟨some 6, .mv (.c (.int .i64 0)), none, []⟩] none) <|
  .seq (.seq (.region [
      ⟨some 14, .load true 3 (.t 2), none, []⟩,
      ⟨some 15, .call 48 [.t 14], none, []⟩,
      ⟨some 16, .un .not (.t 15), none, []⟩] none) <|
   .cond (.t 16) (.seq (.region [
       ⟨some 17, .build [.nil, .nil, .nil] [], none, []⟩,
       ⟨none, .store 3 (.t 4) (.t 17), none, []⟩,
       ⟨some 5, .mv (.c (.nil)), none, []⟩,
       ⟨some 6, .mv (.c (.int .i64 50)), none, []⟩] none) <|
    .ret) <|
   .skip) <|
  .seq (.seq (.region [
      ⟨some 18, .mv (.t 1), none, []⟩,
      ⟨some 19, .len (.t 18), none, []⟩,
      ⟨some 20, .fa 0 (.t 2), none, []⟩,
      ⟨some 21, .load false 1 (.t 20), none, []⟩,
      ⟨some 22, .len (.t 21), none, []⟩,
      ⟨some 23, .bin .neq (.t 19) (.t 22), none, []⟩] none) <|
   .cond (.t 23) (.seq (.region [
       ⟨some 24, .build [.nil, .nil, .nil] [], none, []⟩,
       ⟨none, .store 3 (.t 4) (.t 24), none, []⟩,
       ⟨some 5, .mv (.c (.nil)), none, []⟩,
       ⟨some 6, .mv (.c (.int .i64 3)), none, []⟩] none) <|
    .ret) <|
   .skip) <|
  .seq (.seq (.region [
      ⟨some 25, .mv (.t 1), none, []⟩,
      ⟨some 26, .call 49 [.t 25, .c (.func 50 [])], none, []⟩] none) <|
   .cond (.t 26) (.seq (.region [
       ⟨some 27, .build [.nil, .nil, .nil] [], none, []⟩,
       ⟨none, .store 3 (.t 4) (.t 27), none, []⟩,
       ⟨some 5, .mv (.c (.nil)), none, []⟩,
       ⟨some 6, .mv (.c (.int .i64 1)), none, []⟩] none) <|
    .ret) <|
   .skip) <|
  .seq (.region [
     ⟨some 28, .fa 0 (.t 2), none, []⟩,
     ⟨some 29, .load false 1 (.t 28), none, []⟩,
     ⟨some 30, .call 52 [.t 29], none, []⟩,
     ⟨some 31, .build [.nil, .nil, .nil] [(0, 1, .t 30)], none, []⟩,
     ⟨some 7, .alloc 3 31 (.agg [.nil, .nil, .nil]), none, []⟩,
     ⟨none, .store 3 (.t 7) (.t 31), none, []⟩] none) <|
  .seq (.region [
     ⟨some 8, .mv (.c (.nil)), none, []⟩] none) <|
  .seq (.seq (.region [
      ⟨some 32, .fa 0 (.t 2), none, []⟩,
      ⟨some 33, .load false 1 (.t 32), none, []⟩,
      ⟨some 34, .len (.t 33), none, []⟩,
      ⟨some 35, .mv (.c (.int .i64 0)), none, []⟩] none) <|
   .block 0 <|
   .loop <|
   .seq (.region [
      ⟨some 36, .bin .lss (.t 35) (.t 34), none, []⟩] none) <|
   .seq (.cond (.t 36) (.skip) <|
    .exit 0) <|
   .seq (.block 1 <|
    .seq (.region [
       ⟨some 37, .mv (.t 35), none, []⟩,
       ⟨some 9, .mv (.t 37), none, []⟩] none) <|
    .seq (.hregion [
       ⟨7, ⟨some 45, .mv (.t 9), none, []⟩⟩,
       ⟨5, ⟨some 43, .fa 1 (.t 2), none, []⟩⟩,
       ⟨6, ⟨some 44, .load false 1 (.t 43), none, [5]⟩⟩,
       ⟨8, ⟨some 46, .ixs 1 (.t 44) (.t 45), none, [6, 7, 5]⟩⟩,
       ⟨9, ⟨some 47, .load false 1 (.t 46), none, [8, 6, 7, 5]⟩⟩,
       ⟨2, ⟨some 40, .mv (.t 9), none, []⟩⟩,
       ⟨0, ⟨some 38, .fa 0 (.t 2), none, []⟩⟩,
       ⟨1, ⟨some 39, .load false 1 (.t 38), none, [0]⟩⟩,
       ⟨3, ⟨some 41, .ixs 4 (.t 39) (.t 40), none, [1, 2, 0]⟩⟩,
       ⟨4, ⟨some 42, .load true 4 (.t 41), none, [3, 1, 2, 0]⟩⟩,
       ⟨10, ⟨some 10, .alloc 4 41 (.agg [.int .i64 0, .int .i64 0, .int .i64 0, .int .i64 0]), none, []⟩⟩,
       ⟨11, ⟨none, .store 4 (.t 10) (.t 42), none, [10, 4, 0, 1, 2, 3]⟩⟩,
       ⟨12, ⟨some 11, .mv (.t 47), none, [9, 11, 0, 1, 2, 3, 4, 5, 6, 7, 8, 10]⟩⟩]) <|
    .seq (.seq (.hregion [
        ⟨8, ⟨some 56, .fa 2 (.t 10), none, []⟩⟩,
        ⟨9, ⟨some 57, .load false 1 (.t 56), none, [8]⟩⟩,
        ⟨4, ⟨some 52, .mv (.t 9), none, []⟩⟩,
        ⟨3, ⟨some 51, .mv (.t 1), none, []⟩⟩,
        ⟨5, ⟨some 53, .ixs 1 (.t 51) (.t 52), none, [3, 4]⟩⟩,
        ⟨6, ⟨some 54, .load false 1 (.t 53), none, [5, 3, 4]⟩⟩,
        ⟨1, ⟨some 49, .fa 1 (.t 10), none, []⟩⟩,
        ⟨2, ⟨some 50, .load false 1 (.t 49), none, [1]⟩⟩,
        ⟨0, ⟨some 48, .mv (.t 11), none, []⟩⟩,
        ⟨7, ⟨some 55, .call 53 [.t 48, .t 50, .t 54], none, [0, 2, 6, 1, 5, 3, 4]⟩⟩,
        ⟨10, ⟨some 58, .bin .gtr (.t 55) (.t 57), none, [7, 9, 0, 2, 6, 1, 5, 3, 4, 8]⟩⟩]) <|
     .cond (.t 58) (.region [
        ⟨some 59, .mv (.t 8), none, []⟩,
        ⟨some 60, .mv (.t 9), none, []⟩,
        ⟨some 61, .lit false 1 3 [.t 60], none, []⟩,
        ⟨some 62, .app 1 8 3 (.t 59) (.t 61), none, []⟩,
        ⟨some 8, .mv (.t 62), none, []⟩] none) <|
     .skip) <|
    .seq (.region [
       ⟨some 63, .mv (.t 11), none, []⟩,
       ⟨some 64, .mv (.t 1), none, []⟩,
       ⟨some 65, .mv (.t 9), none, []⟩,
       ⟨some 66, .mv (.t 9), none, []⟩,
       ⟨some 67, .bin .add (.t 66) (.c (.int .i64 1)), none, []⟩,
       ⟨some 68, .slc 1 (.t 64) (some (.t 65)) (some (.t 67)), none, []⟩,
       ⟨some 69, .lit false 1 22 [.t 63, .t 68], none, []⟩,
       ⟨some 70, .call 54 [.t 69], none, []⟩,
       ⟨some 11, .mv (.t 70), none, []⟩] none) <|
    .hregion [
      ⟨5, ⟨some 76, .fa 1 (.t 10), none, []⟩⟩,
      ⟨6, ⟨some 77, .load false 1 (.t 76), none, [5]⟩⟩,
      ⟨3, ⟨some 74, .mv (.t 11), none, []⟩⟩,
      ⟨4, ⟨some 75, .len (.t 74), none, [3]⟩⟩,
      ⟨7, ⟨some 78, .bin .sub (.t 75) (.t 77), none, [4, 6, 3, 5]⟩⟩,
      ⟨8, ⟨some 79, .mnx true (.c (.int .i64 0)) [.t 78], none, [7, 4, 6, 3, 5]⟩⟩,
      ⟨2, ⟨some 73, .mv (.t 11), none, []⟩⟩,
      ⟨9, ⟨some 80, .slc 1 (.t 73) (some (.t 79)) none, none, [2, 8, 7, 4, 6, 3, 5]⟩⟩,
      ⟨0, ⟨some 71, .fa 1 (.t 7), none, []⟩⟩,
      ⟨1, ⟨some 72, .load false 1 (.t 71), none, [0]⟩⟩,
      ⟨10, ⟨some 81, .call 55 [.t 80], none, [9, 2, 8, 7, 4, 6, 3, 5]⟩⟩,
      ⟨11, ⟨some 82, .lit false 1 22 [.t 81], none, [10, 9, 2, 8, 7, 4, 6, 3, 5]⟩⟩,
      ⟨12, ⟨some 83, .app 1 24 22 (.t 72) (.t 82), none, [1, 11, 10, 0, 9, 2, 8, 7, 4, 6, 3, 5]⟩⟩,
      ⟨13, ⟨some 84, .fa 1 (.t 7), none, [0, 1, 2, 3, 4, 5, 6, 7, 8, 9, 10, 11, 12]⟩⟩,
      ⟨14, ⟨none, .store 1 (.t 84) (.t 83), none, [13, 12, 0, 1, 2, 3, 4, 5, 6, 7, 8, 9, 10, 11]⟩⟩]) <|
   .region [
     ⟨some 85, .bin .add (.t 35) (.c (.int .i64 1)), none, []⟩,
     ⟨some 35, .mv (.t 85), none, []⟩] none) <|
  .seq (.seq (.region [
      ⟨some 86, .fa 2 (.t 2), none, []⟩,
      ⟨some 87, .load false 1 (.t 86), none, []⟩,
      ⟨some 88, .len (.t 87), none, []⟩,
      ⟨some 89, .mv (.c (.int .i64 0)), none, []⟩] none) <|
   .block 2 <|
   .loop <|
   .seq (.region [
      ⟨some 90, .bin .lss (.t 89) (.t 88), none, []⟩] none) <|
   .seq (.cond (.t 90) (.skip) <|
    .exit 2) <|
   .seq (.block 3 <|
    .seq (.region [
       ⟨some 91, .ixs 4 (.t 87) (.t 89), none, []⟩,
       ⟨some 92, .load true 4 (.t 91), none, []⟩,
       ⟨some 13, .alloc 4 44 (.agg [.int .i64 0, .int .i64 0, .nil, .int .i64 0]), none, []⟩,
       ⟨none, .store 4 (.t 13) (.t 92), none, []⟩] none) <|
    .hregion [
      ⟨2, ⟨some 95, .load true 4 (.t 13), none, []⟩⟩,
      ⟨0, ⟨some 93, .fa 2 (.t 7), none, []⟩⟩,
      ⟨1, ⟨some 94, .load false 1 (.t 93), none, [0]⟩⟩,
      ⟨3, ⟨some 96, .call 56 [.t 95], none, [2]⟩⟩,
      ⟨4, ⟨some 97, .lit false 4 44 [.t 96], none, [3, 2]⟩⟩,
      ⟨5, ⟨some 98, .app 4 48 44 (.t 94) (.t 97), none, [1, 4, 3, 0, 2]⟩⟩,
      ⟨6, ⟨some 99, .fa 2 (.t 7), none, [0, 1, 2, 3, 4, 5]⟩⟩,
      ⟨7, ⟨none, .store 1 (.t 99) (.t 98), none, [6, 5, 0, 1, 2, 3, 4]⟩⟩]) <|
   .region [
     ⟨some 100, .bin .add (.t 89) (.c (.int .i64 1)), none, []⟩,
     ⟨some 89, .mv (.t 100), none, []⟩] none) <|
  .seq (.region [
     ⟨some 101, .load true 3 (.t 7), none, []⟩,
     ⟨some 102, .mv (.t 8), none, []⟩,
     ⟨none, .store 3 (.t 4) (.t 101), none, []⟩,
     ⟨some 5, .mv (.t 102), none, []⟩,
     ⟨some 6, .mv (.c (.int .i64 0)), none, []⟩] none) <|
  .ret
abbrev n_warning_See : Nat := 15
theorem b_warning_See : bodyOf prog 15 [1000000] = some (c_warning_See, [.c 4 true 3, .t 5, .t 6], 103) := by kernel_rfl

def c_mk_Deck_Next : ACode :=
  .seq (.region [
     ⟨some 4, .mv (.c (.int .i64 0)), none, []⟩] none) <|
  .seq (.seq (.region [
      ⟨some 6, .mv (.t 1), none, []⟩,
      ⟨some 7, .bin .lss (.t 6) (.c (.int .i64 1)), none, [0]⟩,
      ⟨some 8, .mv (.t 7), none, [1, 0]⟩,
      ⟨some 9, .mv (.t 0), some (8, false), [2, 1, 0]⟩,
      ⟨some 10, .nilchk (.t 9), some (8, false), [3, 2, 1, 0]⟩,
      ⟨some 11, .fa 1 (.t 10), some (8, false), [4, 2, 3, 1, 0]⟩,
      ⟨some 12, .load false 1 (.t 11), some (8, false), [5, 2, 4, 3, 1, 0]⟩,
      ⟨some 13, .mv (.t 0), some (8, false), [2, 1, 0]⟩,
      ⟨some 14, .nilchk (.t 13), some (8, false), [7, 2, 1, 0]⟩,
      ⟨some 15, .fa 0 (.t 14), some (8, false), [8, 2, 7, 1, 0]⟩,
      ⟨some 16, .load false 1 (.t 15), some (8, false), [9, 2, 8, 7, 1, 0]⟩,
      ⟨some 17, .len (.t 16), some (8, false), [10, 2, 9, 8, 7, 1, 0]⟩,
      ⟨some 18, .bin .geq (.t 12) (.t 17), some (8, false), [6, 11, 2, 5, 4, 3, 1, 0, 10, 9, 8, 7]⟩,
      ⟨some 19, .pick (.t 8) (.c (.bool true)) (.t 18), none, [2, 12, 1, 0, 6, 11, 5, 4, 3, 10, 9, 8, 7]⟩] (some 0)) <|
   .cond (.t 19) (.seq (.region [
       ⟨some 4, .mv (.c (.int .i64 0)), none, []⟩] none) <|
    .ret) <|
   .skip) <|
  .seq (.region [
     ⟨some 20, .mv (.t 0), none, []⟩,
     ⟨some 21, .nilchk (.t 20), none, [0]⟩,
     ⟨some 22, .fa 0 (.t 21), none, [1, 0]⟩,
     ⟨some 23, .load false 1 (.t 22), none, [2, 1, 0]⟩,
     ⟨some 24, .mv (.t 0), none, []⟩,
     ⟨some 25, .nilchk (.t 24), none, [4]⟩,
     ⟨some 26, .fa 1 (.t 25), none, [5, 4]⟩,
     ⟨some 27, .load false 1 (.t 26), none, [6, 5, 4]⟩,
     ⟨some 28, .ixs 1 (.t 23) (.t 27), none, [3, 7, 2, 1, 0, 6, 5, 4]⟩,
     ⟨some 29, .load false 1 (.t 28), none, [8, 3, 7, 2, 1, 0, 6, 5, 4]⟩,
     ⟨some 5, .mv (.t 29), none, [9, 0, 1, 2, 3, 4, 5, 6, 7, 8]⟩] (some 0)) <|
  .seq (.region [
     ⟨some 30, .mv (.t 0), none, []⟩,
     ⟨some 31, .nilchk (.t 30), none, []⟩,
     ⟨some 32, .fa 1 (.t 31), none, []⟩,
     ⟨some 33, .load false 1 (.t 32), none, []⟩,
     ⟨some 34, .bin .add (.t 33) (.c (.int .i64 1)), none, []⟩,
     ⟨some 35, .nilchk (.t 30), none, []⟩,
     ⟨some 36, .fa 1 (.t 35), none, []⟩,
     ⟨none, .store 1 (.t 36) (.t 34), none, []⟩] none) <|
  .seq (.region [
     ⟨some 37, .mv (.t 5), none, []⟩,
     ⟨some 38, .mv (.t 1), none, []⟩,
     ⟨some 39, .call 26 [.t 37, .t 38], none, []⟩,
     ⟨some 4, .mv (.t 39), none, []⟩] none) <|
  .ret
abbrev n_mk_Deck_Next : Nat := 16
theorem b_mk_Deck_Next : bodyOf prog 16 [] = some (c_mk_Deck_Next, [.t 4], 40) := by kernel_rfl

def c_warning_Check : ACode :=
  .seq (.region [
     ⟨some 1, .box 3 31 (.t 0), none, []⟩,
     ⟨some 2, .mv (.c (.int .i64 0)), none, []⟩] none) <|
  .seq (.seq (.region [
      ⟨some 3, .load true 3 (.t 1), none, []⟩,
      ⟨some 4, .call 48 [.t 3], none, []⟩,
      ⟨some 5, .un .not (.t 4), none, []⟩] none) <|
   .cond (.t 5) (.seq (.region [
       ⟨some 2, .mv (.c (.int .i64 50)), none, []⟩] none) <|
    .ret) <|
   .skip) <|
  .seq (.region [
     ⟨some 2, .mv (.c (.int .i64 0)), none, []⟩] none) <|
  .ret
abbrev n_warning_Check : Nat := 17
theorem b_warning_Check : bodyOf prog 17 [1000000] = some (c_warning_Check, [.t 2], 6) := by kernel_rfl

def c_ref36_Check : ACode :=
  .seq (.region [
     ⟨some 1, .box 3 31 (.t 0), none, []⟩,
     ⟨some 2, .mv (.c (.int .i64 0)), none, []⟩] none) <|
  .seq (.seq (.region [
      ⟨some 7, .fa 0 (.t 1), none, []⟩,
      ⟨some 8, .load false 1 (.t 7), none, []⟩,
      ⟨some 9, .len (.t 8), none, []⟩,
      ⟨some 10, .bin .gtr (.t 9) (.c (.int .i64 8)), none, []⟩,
      ⟨some 11, .mv (.t 10), none, []⟩,
      ⟨some 12, .fa 1 (.t 1), some (11, false), []⟩,
      ⟨some 13, .load false 1 (.t 12), some (11, false), []⟩,
      ⟨some 14, .len (.t 13), some (11, false), []⟩,
      ⟨some 15, .fa 0 (.t 1), some (11, false), []⟩,
      ⟨some 16, .load false 1 (.t 15), some (11, false), []⟩,
      ⟨some 17, .len (.t 16), some (11, false), []⟩,
      ⟨some 18, .bin .neq (.t 14) (.t 17), some (11, false), []⟩,
      ⟨some 19, .pick (.t 11) (.c (.bool true)) (.t 18), none, []⟩] none) <|
   .cond (.t 19) (.seq (.region [
       ⟨some 2, .mv (.c (.int .i64 50)), none, []⟩] none) <|
    .ret) <|
   .skip) <|
  .seq (.seq (.region [
      ⟨some 20, .fa 0 (.t 1), none, []⟩,
      ⟨some 21, .load false 1 (.t 20), none, []⟩,
      ⟨some 22, .len (.t 21), none, []⟩,
      ⟨some 23, .mv (.c (.int .i64 0)), none, []⟩] none) <|
   .block 0 <|
   .loop <|
   .seq (.region [
      ⟨some 24, .bin .lss (.t 23) (.t 22), none, []⟩] none) <|
   .seq (.cond (.t 24) (.skip) <|
    .exit 0) <|
   .seq (.block 1 <|
    .seq (.region [
       ⟨some 25, .mv (.t 23), none, []⟩,
       ⟨some 26, .ixs 4 (.t 21) (.t 23), none, []⟩,
       ⟨some 27, .load true 4 (.t 26), none, []⟩,
       ⟨some 4, .alloc 4 41 (.agg [.int .i64 0, .int .i64 0, .int .i64 0, .int .i64 0]), none, []⟩,
       ⟨some 3, .mv (.t 25), none, []⟩,
       ⟨none, .store 4 (.t 4) (.t 27), none, []⟩] none) <|
    .seq (.hregion [
       ⟨0, ⟨some 28, .load true 4 (.t 4), none, []⟩⟩,
       ⟨1, ⟨some 29, .call 57 [.t 28], none, [0]⟩⟩,
       ⟨2, ⟨some 30, .un .not (.t 29), none, [1, 0]⟩⟩,
       ⟨3, ⟨some 31, .mv (.t 30), none, [2, 1, 0]⟩⟩,
       ⟨10, ⟨some 38, .fa 1 (.t 4), some (31, false), [3, 2, 1, 0]⟩⟩,
       ⟨11, ⟨some 39, .load false 1 (.t 38), some (31, false), [10, 3, 2, 1, 0]⟩⟩,
       ⟨6, ⟨some 34, .mv (.t 3), some (31, false), [3, 2, 1, 0]⟩⟩,
       ⟨4, ⟨some 32, .fa 1 (.t 1), some (31, false), [3, 2, 1, 0]⟩⟩,
       ⟨5, ⟨some 33, .load false 1 (.t 32), some (31, false), [4, 3, 2, 1, 0]⟩⟩,
       ⟨7, ⟨some 35, .ixs 1 (.t 33) (.t 34), some (31, false), [5, 6, 3, 4, 2, 1, 0]⟩⟩,
       ⟨8, ⟨some 36, .load false 1 (.t 35), some (31, false), [7, 3, 5, 6, 4, 2, 1, 0]⟩⟩,
       ⟨9, ⟨some 37, .len (.t 36), some (31, false), [8, 3, 7, 5, 6, 4, 2, 1, 0]⟩⟩,
       ⟨12, ⟨some 40, .bin .gtr (.t 37) (.t 39), some (31, false), [9, 11, 3, 8, 7, 5, 6, 4, 2, 1, 0, 10]⟩⟩,
       ⟨13, ⟨some 41, .pick (.t 31) (.c (.bool true)) (.t 40), none, [3, 12, 2, 1, 0, 9, 11, 8, 7, 5, 6, 4, 10]⟩⟩,
       ⟨14, ⟨some 42, .mv (.t 41), none, [13, 3, 12, 2, 1, 0, 9, 11, 8, 7, 5, 6, 4, 10]⟩⟩,
       ⟨17, ⟨some 45, .mv (.t 3), some (42, false), [14, 13, 3, 12, 2, 1, 0, 9, 11, 8, 7, 5, 6, 4, 10]⟩⟩,
       ⟨15, ⟨some 43, .fa 1 (.t 1), some (42, false), [14, 13, 3, 12, 2, 1, 0, 9, 11, 8, 7, 5, 6, 4, 10]⟩⟩,
       ⟨16, ⟨some 44, .load false 1 (.t 43), some (42, false), [15, 14, 13, 3, 12, 2, 1, 0, 9, 11, 8, 7, 5, 6, 4, 10]⟩⟩,
       ⟨18, ⟨some 46, .ixs 1 (.t 44) (.t 45), some (42, false), [16, 17, 14, 15, 13, 3, 12, 2, 1, 0, 9, 11, 8, 7, 5, 6, 4, 10]⟩⟩,
       ⟨19, ⟨some 47, .load false 1 (.t 46), some (42, false), [18, 14, 16, 17, 15, 13, 3, 12, 2, 1, 0, 9, 11, 8, 7, 5, 6, 4, 10]⟩⟩,
       ⟨20, ⟨some 48, .call 58 [.t 47], some (42, false), [19, 14, 18, 16, 17, 15, 13, 3, 12, 2, 1, 0, 9, 11, 8, 7, 5, 6, 4, 10]⟩⟩,
       ⟨21, ⟨some 49, .un .not (.t 48), some (42, false), [20, 14, 19, 18, 16, 17, 15, 13, 3, 12, 2, 1, 0, 9, 11, 8, 7, 5, 6, 4, 10]⟩⟩,
       ⟨22, ⟨some 50, .pick (.t 42) (.c (.bool true)) (.t 49), none, [14, 21, 13, 3, 12, 2, 1, 0, 9, 11, 8, 7, 5, 6, 4, 10, 20, 19, 18, 16, 17, 15]⟩⟩]) <|
    .cond (.t 50) (.seq (.region [
        ⟨some 2, .mv (.c (.int .i64 50)), none, []⟩] none) <|
     .ret) <|
    .skip) <|
   .region [
     ⟨some 51, .bin .add (.t 23) (.c (.int .i64 1)), none, []⟩,
     ⟨some 23, .mv (.t 51), none, []⟩] none) <|
  .seq (.seq (.region [
      ⟨some 52, .fa 2 (.t 1), none, []⟩,
      ⟨some 53, .load false 1 (.t 52), none, []⟩,
      ⟨some 54, .len (.t 53), none, []⟩,
      ⟨some 55, .mv (.c (.int .i64 0)), none, []⟩] none) <|
   .block 2 <|
   .loop <|
   .seq (.region [
      ⟨some 56, .bin .lss (.t 55) (.t 54), none, []⟩] none) <|
   .seq (.cond (.t 56) (.skip) <|
    .exit 2) <|
   .seq (.block 3 <|
    .seq (.region [
       ⟨some 57, .mv (.t 55), none, []⟩,
       ⟨some 58, .ixs 4 (.t 53) (.t 55), none, []⟩,
       ⟨some 59, .load true 4 (.t 58), none, []⟩,
       ⟨some 6, .alloc 4 44 (.agg [.int .i64 0, .int .i64 0, .nil, .int .i64 0]), none, []⟩,
       ⟨some 5, .mv (.t 57), none, []⟩,
       ⟨none, .store 4 (.t 6) (.t 59), none, []⟩] none) <|
    .seq (.hregion [
       ⟨2, ⟨some 62, .fa 0 (.t 1), none, []⟩⟩,
       ⟨3, ⟨some 63, .load false 1 (.t 62), none, [2]⟩⟩,
       ⟨4, ⟨some 64, .len (.t 63), none, [3, 2]⟩⟩,
       ⟨5, ⟨some 65, .bin .sub (.t 64) (.c (.int .i64 1)), none, [4, 3, 2]⟩⟩,
       ⟨0, ⟨some 60, .fa 0 (.t 6), none, []⟩⟩,
       ⟨1, ⟨some 61, .load false 1 (.t 60), none, [0]⟩⟩,
       ⟨6, ⟨some 66, .call 59 [.t 61, .c (.int .i64 0), .t 65], none, [1, 5, 0, 4, 3, 2]⟩⟩,
       ⟨7, ⟨some 67, .un .not (.t 66), none, [6, 1, 5, 0, 4, 3, 2]⟩⟩,
       ⟨8, ⟨some 68, .mv (.t 67), none, [7, 6, 1, 5, 0, 4, 3, 2]⟩⟩,
       ⟨9, ⟨some 69, .mv (.t 5), some (68, false), [8, 7, 6, 1, 5, 0, 4, 3, 2]⟩⟩,
       ⟨10, ⟨some 70, .bin .gtr (.t 69) (.c (.int .i64 0)), some (68, false), [9, 8, 7, 6, 1, 5, 0, 4, 3, 2]⟩⟩,
       ⟨11, ⟨some 71, .mv (.t 70), some (68, false), [10, 8, 9, 7, 6, 1, 5, 0, 4, 3, 2]⟩⟩,
       ⟨16, ⟨some 76, .mv (.t 5), some (71, true), [11, 10, 8, 9, 7, 6, 1, 5, 0, 4, 3, 2]⟩⟩,
       ⟨17, ⟨some 77, .bin .sub (.t 76) (.c (.int .i64 1)), some (71, true), [16, 11, 10, 8, 9, 7, 6, 1, 5, 0, 4, 3, 2]⟩⟩,
       ⟨14, ⟨some 74, .fa 2 (.t 1), some (71, true), [11, 10, 8, 9, 7, 6, 1, 5, 0, 4, 3, 2]⟩⟩,
       ⟨15, ⟨some 75, .load false 1 (.t 74), some (71, true), [14, 11, 10, 8, 9, 7, 6, 1, 5, 0, 4, 3, 2]⟩⟩,
       ⟨18, ⟨some 78, .ixs 4 (.t 75) (.t 77), some (71, true), [15, 17, 11, 14, 10, 8, 9, 7, 6, 1, 5, 0, 4, 3, 2, 16]⟩⟩,
       ⟨19, ⟨some 79, .fa 0 (.t 78), some (71, true), [18, 11, 15, 17, 14, 10, 8, 9, 7, 6, 1, 5, 0, 4, 3, 2, 16]⟩⟩,
       ⟨20, ⟨some 80, .load false 1 (.t 79), some (71, true), [19, 11, 18, 15, 17, 14, 10, 8, 9, 7, 6, 1, 5, 0, 4, 3, 2, 16]⟩⟩,
       ⟨12, ⟨some 72, .fa 0 (.t 6), some (71, true), [11, 10, 8, 9, 7, 6, 1, 5, 0, 4, 3, 2]⟩⟩,
       ⟨13, ⟨some 73, .load false 1 (.t 72), some (71, true), [12, 11, 10, 8, 9, 7, 6, 1, 5, 0, 4, 3, 2]⟩⟩,
       ⟨21, ⟨some 81, .bin .leq (.t 73) (.t 80), some (71, true), [13, 20, 11, 12, 10, 8, 9, 7, 6, 1, 5, 0, 4, 3, 2, 19, 18, 15, 17, 14, 16]⟩⟩,
       ⟨22, ⟨some 82, .pick (.t 71) (.t 81) (.c (.bool false)), some (68, false), [11, 21, 8, 10, 9, 7, 6, 1, 5, 0, 4, 3, 2, 13, 20, 12, 19, 18, 15, 17, 14, 16]⟩⟩,
       ⟨23, ⟨some 83, .pick (.t 68) (.c (.bool true)) (.t 82), none, [8, 22, 7, 6, 1, 5, 0, 4, 3, 2, 11, 21, 10, 9, 13, 20, 12, 19, 18, 15, 17, 14, 16]⟩⟩,
       ⟨24, ⟨some 84, .mv (.t 83), none, [23, 11, 8, 22, 7, 6, 1, 5, 0, 4, 3, 2, 21, 10, 9, 13, 20, 12, 19, 18, 15, 17, 14, 16]⟩⟩,
       ⟨25, ⟨some 85, .load true 4 (.t 6), some (84, false), [24, 23, 11, 8, 22, 7, 6, 1, 5, 0, 4, 3, 2, 21, 10, 9, 13, 20, 12, 19, 18, 15, 17, 14, 16]⟩⟩,
       ⟨26, ⟨some 86, .call 60 [.t 85], some (84, false), [25, 24, 23, 11, 8, 22, 7, 6, 1, 5, 0, 4, 3, 2, 21, 10, 9, 13, 20, 12, 19, 18, 15, 17, 14, 16]⟩⟩,
       ⟨27, ⟨some 87, .un .not (.t 86), some (84, false), [26, 24, 25, 23, 11, 8, 22, 7, 6, 1, 5, 0, 4, 3, 2, 21, 10, 9, 13, 20, 12, 19, 18, 15, 17, 14, 16]⟩⟩,
       ⟨28, ⟨some 88, .pick (.t 84) (.c (.bool true)) (.t 87), none, [24, 27, 23, 11, 8, 22, 7, 6, 1, 5, 0, 4, 3, 2, 21, 10, 9, 13, 20, 12, 19, 18, 15, 17, 14, 16, 26, 25]⟩⟩]) <|
    .cond (.t 88) (.seq (.region [
        ⟨some 2, .mv (.c (.int .i64 50)), none, []⟩] none) <|
     .ret) <|
    .skip) <|
   .region [
     ⟨some 89, .bin .add (.t 55) (.c (.int .i64 1)), none, []⟩,
     ⟨some 55, .mv (.t 89), none, []⟩] none) <|
  .seq (.region [
     ⟨some 2, .mv (.c (.int .i64 0)), none, []⟩] none) <|
  .ret
abbrev n_ref36_Check : Nat := 18
theorem b_ref36_Check : bodyOf prog 18 [1000000] = some (c_ref36_Check, [.t 2], 90) := by kernel_rfl

def c_warning_Same : ACode :=
  .seq (.region [
     ⟨some 2, .box 3 31 (.t 0), none, []⟩,
     ⟨some 3, .box 3 31 (.t 1), none, []⟩,
     ⟨some 4, .mv (.c (.bool false)), none, []⟩] none) <|
  .seq (.region [
     ⟨some 5, .fa 0 (.t 2), none, []⟩,
     ⟨some 6, .load false 1 (.t 5), none, []⟩,
     ⟨some 7, .fa 0 (.t 3), none, []⟩,
     ⟨some 8, .load false 1 (.t 7), none, []⟩,
     ⟨some 9, .call 61 [.t 6, .t 8], none, []⟩,
     ⟨some 10, .mv (.t 9), none, []⟩,
     ⟨some 11, .fa 1 (.t 2), some (10, true), []⟩,
     ⟨some 12, .load false 1 (.t 11), some (10, true), []⟩,
     ⟨some 13, .fa 1 (.t 3), some (10, true), []⟩,
     ⟨some 14, .load false 1 (.t 13), some (10, true), []⟩,
     ⟨some 15, .call 62 [.t 12, .t 14, .c (.func 63 [])], some (10, true), []⟩,
     ⟨some 16, .pick (.t 10) (.t 15) (.c (.bool false)), none, []⟩,
     ⟨some 17, .mv (.t 16), none, []⟩,
     ⟨some 18, .fa 2 (.t 2), some (17, true), []⟩,
     ⟨some 19, .load false 1 (.t 18), some (17, true), []⟩,
     ⟨some 20, .fa 2 (.t 3), some (17, true), []⟩,
     ⟨some 21, .load false 1 (.t 20), some (17, true), []⟩,
     ⟨some 22, .call 64 [.t 19, .t 21, .c (.func 65 [])], some (17, true), []⟩,
     ⟨some 23, .pick (.t 17) (.t 22) (.c (.bool false)), none, []⟩,
     ⟨some 4, .mv (.t 23), none, []⟩] none) <|
  .ret
abbrev n_warning_Same : Nat := 19
theorem b_warning_Same : bodyOf prog 19 [1000000] = some (c_warning_Same, [.t 4], 24) := by kernel_rfl

def c_ref36_See : ACode :=
  .seq (.region [
     ⟨some 2, .box 3 31 (.t 0), none, []⟩,
     ⟨some 4, .alloc 3 31 (.agg [.nil, .nil, .nil]), none, []⟩,
     ⟨some 5, .mv (.c (.nil)), none, []⟩,
     ⟨some 6, .mv (.c (.int .i64 0)), none, []⟩] none) <|
  .seq (.seq (.region [
      ⟨some 12, .load true 3 (.t 2), none, []⟩,
      ⟨some 13, .call 18 [.t 12], none, []⟩,
      ⟨some 14, .bin .neq (.t 13) (.c (.int .i64 0)), none, []⟩] none) <|
   .cond (.t 14) (.seq (.region [
       ⟨some 15, .build [.nil, .nil, .nil] [], none, []⟩,
       ⟨none, .store 3 (.t 4) (.t 15), none, []⟩,
       ⟨some 5, .mv (.c (.nil)), none, []⟩,
       ⟨some 6, .mv (.c (.int .i64 50)), none, []⟩] none) <|
    .ret) <|
   .skip) <|
  .seq (.seq (.region [
      ⟨some 16, .mv (.t 1), none, []⟩,
      ⟨some 17, .len (.t 16), none, []⟩,
      ⟨some 18, .fa 0 (.t 2), none, []⟩,
      ⟨some 19, .load false 1 (.t 18), none, []⟩,
      ⟨some 20, .len (.t 19), none, []⟩,
      ⟨some 21, .bin .neq (.t 17) (.t 20), none, []⟩] none) <|
   .cond (.t 21) (.seq (.region [
       ⟨some 22, .build [.nil, .nil, .nil] [], none, []⟩,
       ⟨none, .store 3 (.t 4) (.t 22), none, []⟩,
       ⟨some 5, .mv (.c (.nil)), none, []⟩,
       ⟨some 6, .mv (.c (.int .i64 3)), none, []⟩] none) <|
    .ret) <|
   .skip) <|
  .seq (.seq (.region [
      ⟨some 23, .mv (.t 1), none, []⟩,
      ⟨some 24, .call 58 [.t 23], none, []⟩,
      ⟨some 25, .un .not (.t 24), none, []⟩] none) <|
   .cond (.t 25) (.seq (.region [
       ⟨some 26, .build [.nil, .nil, .nil] [], none, []⟩,
       ⟨none, .store 3 (.t 4) (.t 26), none, []⟩,
       ⟨some 5, .mv (.c (.nil)), none, []⟩,
       ⟨some 6, .mv (.c (.int .i64 1)), none, []⟩] none) <|
    .ret) <|
   .skip) <|
  .seq (.region [
     ⟨some 27, .load true 3 (.t 2), none, []⟩,
     ⟨some 28, .call 68 [.t 27], none, []⟩,
     ⟨some 7, .alloc 3 31 (.agg [.nil, .nil, .nil]), none, []⟩,
     ⟨none, .store 3 (.t 7) (.t 28), none, []⟩] none) <|
  .seq (.region [
     ⟨some 8, .mv (.c (.nil)), none, []⟩] none) <|
  .seq (.seq (.region [
      ⟨some 29, .fa 0 (.t 2), none, []⟩,
      ⟨some 30, .load false 1 (.t 29), none, []⟩,
      ⟨some 31, .len (.t 30), none, []⟩,
      ⟨some 32, .mv (.c (.int .i64 0)), none, []⟩] none) <|
   .block 0 <|
   .loop <|
   .seq (.region [
      ⟨some 33, .bin .lss (.t 32) (.t 31), none, []⟩] none) <|
   .seq (.cond (.t 33) (.skip) <|
    .exit 0) <|
   .seq (.block 1 <|
    .seq (.region [
       ⟨some 34, .mv (.t 32), none, []⟩,
       ⟨some 35, .ixs 4 (.t 30) (.t 32), none, []⟩,
       ⟨some 36, .load true 4 (.t 35), none, []⟩,
       ⟨some 10, .alloc 4 41 (.agg [.int .i64 0, .int .i64 0, .int .i64 0, .int .i64 0]), none, []⟩,
       ⟨some 9, .mv (.t 34), none, []⟩,
       ⟨none, .store 4 (.t 10) (.t 36), none, []⟩] none) <|
    .seq (.seq (.hregion [
        ⟨12, ⟨some 49, .fa 2 (.t 10), none, []⟩⟩,
        ⟨13, ⟨some 50, .load false 1 (.t 49), none, [12]⟩⟩,
        ⟨8, ⟨some 45, .mv (.t 9), none, []⟩⟩,
        ⟨7, ⟨some 44, .mv (.t 1), none, []⟩⟩,
        ⟨9, ⟨some 46, .ixs 1 (.t 44) (.t 45), none, [7, 8]⟩⟩,
        ⟨10, ⟨some 47, .load false 1 (.t 46), none, [9, 7, 8]⟩⟩,
        ⟨5, ⟨some 42, .fa 1 (.t 10), none, []⟩⟩,
        ⟨6, ⟨some 43, .load false 1 (.t 42), none, [5]⟩⟩,
        ⟨2, ⟨some 39, .mv (.t 9), none, []⟩⟩,
        ⟨0, ⟨some 37, .fa 1 (.t 2), none, []⟩⟩,
        ⟨1, ⟨some 38, .load false 1 (.t 37), none, [0]⟩⟩,
        ⟨3, ⟨some 40, .ixs 1 (.t 38) (.t 39), none, [1, 2, 0]⟩⟩,
        ⟨4, ⟨some 41, .load false 1 (.t 40), none, [3, 1, 2, 0]⟩⟩,
        ⟨11, ⟨some 48, .call 69 [.t 41, .t 43, .t 47], none, [4, 6, 10, 3, 1, 2, 0, 5, 9, 7, 8]⟩⟩,
        ⟨14, ⟨some 51, .bin .gtr (.t 48) (.t 50), none, [11, 13, 4, 6, 10, 3, 1, 2, 0, 5, 9, 7, 8, 12]⟩⟩]) <|
     .cond (.t 51) (.region [
        ⟨some 52, .mv (.t 8), none, []⟩,
        ⟨some 53, .mv (.t 9), none, []⟩,
        ⟨some 54, .lit false 1 3 [.t 53], none, []⟩,
        ⟨some 55, .app 1 8 3 (.t 52) (.t 54), none, []⟩,
        ⟨some 8, .mv (.t 55), none, []⟩] none) <|
     .skip) <|
    .seq (.hregion [
       ⟨6, ⟨some 62, .mv (.t 9), none, []⟩⟩,
       ⟨5, ⟨some 61, .mv (.t 1), none, []⟩⟩,
       ⟨7, ⟨some 63, .ixs 1 (.t 61) (.t 62), none, [5, 6]⟩⟩,
       ⟨8, ⟨some 64, .load false 1 (.t 63), none, [7, 5, 6]⟩⟩,
       ⟨9, ⟨some 65, .lit false 1 3 [.t 64], none, [8, 7, 5, 6]⟩⟩,
       ⟨2, ⟨some 58, .mv (.t 9), none, []⟩⟩,
       ⟨0, ⟨some 56, .fa 1 (.t 7), none, []⟩⟩,
       ⟨1, ⟨some 57, .load false 1 (.t 56), none, [0]⟩⟩,
       ⟨3, ⟨some 59, .ixs 1 (.t 57) (.t 58), none, [1, 2, 0]⟩⟩,
       ⟨4, ⟨some 60, .load false 1 (.t 59), none, [3, 1, 2, 0]⟩⟩,
       ⟨10, ⟨some 66, .app 1 8 3 (.t 60) (.t 65), none, [4, 9, 3, 1, 2, 0, 8, 7, 5, 6]⟩⟩,
       ⟨11, ⟨some 11, .mv (.t 66), none, [10, 0, 1, 2, 3, 4, 5, 6, 7, 8, 9]⟩⟩]) <|
    .hregion [
      ⟨6, ⟨some 73, .fa 1 (.t 10), none, []⟩⟩,
      ⟨7, ⟨some 74, .load false 1 (.t 73), none, [6]⟩⟩,
      ⟨4, ⟨some 71, .mv (.t 11), none, []⟩⟩,
      ⟨5, ⟨some 72, .len (.t 71), none, [4]⟩⟩,
      ⟨8, ⟨some 75, .bin .sub (.t 72) (.t 74), none, [5, 7, 4, 6]⟩⟩,
      ⟨9, ⟨some 76, .mnx true (.c (.int .i64 0)) [.t 75], none, [8, 5, 7, 4, 6]⟩⟩,
      ⟨3, ⟨some 70, .mv (.t 11), none, []⟩⟩,
      ⟨10, ⟨some 77, .slc 1 (.t 70) (some (.t 76)) none, none, [3, 9, 8, 5, 7, 4, 6]⟩⟩,
      ⟨2, ⟨some 69, .mv (.t 9), none, []⟩⟩,
      ⟨0, ⟨some 67, .fa 1 (.t 7), none, []⟩⟩,
      ⟨1, ⟨some 68, .load false 1 (.t 67), none, [0]⟩⟩,
      ⟨11, ⟨some 78, .ixs 1 (.t 68) (.t 69), none, [1, 2, 0, 3, 4, 5, 6, 7, 8, 9, 10]⟩⟩,
      ⟨12, ⟨none, .store 1 (.t 78) (.t 77), none, [11, 10, 0, 1, 2, 3, 4, 5, 6, 7, 8, 9]⟩⟩]) <|
   .region [
     ⟨some 79, .bin .add (.t 32) (.c (.int .i64 1)), none, []⟩,
     ⟨some 32, .mv (.t 79), none, []⟩] none) <|
  .seq (.region [
     ⟨some 80, .load true 3 (.t 7), none, []⟩,
     ⟨some 81, .mv (.t 8), none, []⟩,
     ⟨none, .store 3 (.t 4) (.t 80), none, []⟩,
     ⟨some 5, .mv (.t 81), none, []⟩,
     ⟨some 6, .mv (.c (.int .i64 0)), none, []⟩] none) <|
  .ret
abbrev n_ref36_See : Nat := 23
theorem b_ref36_See : bodyOf prog 23 [1000000] = some (c_ref36_See, [.c 4 true 3, .t 5, .t 6], 82) := by kernel_rfl

def c_warning_Open : ACode :=
  .seq (.region [
     ⟨some 2, .alloc 3 31 (.agg [.nil, .nil, .nil]), none, []⟩,
     ⟨some 3, .mv (.c (.int .i64 0)), none, []⟩] none) <|
  .seq (.seq (.region [
      ⟨some 5, .mv (.t 0), none, []⟩,
      ⟨some 6, .call 70 [.t 5], none, []⟩,
      ⟨some 4, .mv (.t 6), none, []⟩] none) <|
   .seq (.region [
      ⟨some 7, .mv (.t 4), none, []⟩,
      ⟨some 8, .bin .neq (.t 7) (.c (.int .i64 0)), none, []⟩] none) <|
   .cond (.t 8) (.seq (.region [
       ⟨some 9, .build [.nil, .nil, .nil] [], none, []⟩,
       ⟨some 10, .mv (.t 4), none, []⟩,
       ⟨none, .store 3 (.t 2) (.t 9), none, []⟩,
       ⟨some 3, .mv (.t 10), none, []⟩] none) <|
    .ret) <|
   .skip) <|
  .seq (.region [
     ⟨some 11, .mv (.t 0), none, []⟩,
     ⟨some 12, .call 52 [.t 11], none, [0]⟩,
     ⟨some 13, .mv (.t 0), none, []⟩,
     ⟨some 14, .len (.t 13), none, [2]⟩,
     ⟨some 15, .mks false 1 24 22 (.nil) (.t 14), none, [3, 2]⟩,
     ⟨some 16, .build [.nil, .nil, .nil] [(0, 1, .t 12), (1, 1, .t 15)], none, [1, 4, 0, 3, 2]⟩,
     ⟨none, .store 3 (.t 2) (.t 16), none, [5, 1, 0, 2, 3, 4]⟩,
     ⟨some 3, .mv (.c (.int .i64 0)), none, [6, 0, 1, 2, 3, 4, 5]⟩] (some 8)) <|
  .ret
abbrev n_warning_Open : Nat := 24
theorem b_warning_Open : bodyOf prog 24 [1000000] = some (c_warning_Open, [.c 2 true 3, .t 3], 17) := by kernel_rfl

def c_ref36_Open : ACode :=
  .seq (.region [
     ⟨some 2, .alloc 3 31 (.agg [.nil, .nil, .nil]), none, []⟩,
     ⟨some 3, .mv (.c (.int .i64 0)), none, []⟩] none) <|
  .seq (.seq (.region [
      ⟨some 6, .mv (.t 0), none, []⟩,
      ⟨some 7, .len (.t 6), none, []⟩,
      ⟨some 8, .bin .gtr (.t 7) (.c (.int .i64 8)), none, []⟩] none) <|
   .cond (.t 8) (.seq (.region [
       ⟨some 9, .build [.nil, .nil, .nil] [], none, []⟩,
       ⟨none, .store 3 (.t 2) (.t 9), none, []⟩,
       ⟨some 3, .mv (.c (.int .i64 10)), none, []⟩] none) <|
    .ret) <|
   .skip) <|
  .seq (.seq (.region [
      ⟨some 10, .mv (.t 0), none, []⟩,
      ⟨some 11, .len (.t 10), none, []⟩,
      ⟨some 12, .mv (.c (.int .i64 0)), none, []⟩] none) <|
   .block 0 <|
   .loop <|
   .seq (.region [
      ⟨some 13, .bin .lss (.t 12) (.t 11), none, []⟩] none) <|
   .seq (.cond (.t 13) (.skip) <|
    .exit 0) <|
   .seq (.block 1 <|
    .seq (.region [
       ⟨some 14, .ixs 4 (.t 10) (.t 12), none, []⟩,
       ⟨some 15, .load true 4 (.t 14), none, []⟩,
       ⟨some 5, .alloc 4 41 (.agg [.int .i64 0, .int .i64 0, .int .i64 0, .int .i64 0]), none, []⟩,
       ⟨none, .store 4 (.t 5) (.t 15), none, []⟩] none) <|
    .seq (.region [
       ⟨some 16, .load true 4 (.t 5), none, []⟩,
       ⟨some 17, .call 57 [.t 16], none, []⟩,
       ⟨some 18, .un .not (.t 17), none, []⟩] none) <|
    .cond (.t 18) (.seq (.region [
        ⟨some 19, .build [.nil, .nil, .nil] [], none, []⟩,
        ⟨none, .store 3 (.t 2) (.t 19), none, []⟩,
        ⟨some 3, .mv (.c (.int .i64 52)), none, []⟩] none) <|
     .ret) <|
    .skip) <|
   .region [
     ⟨some 20, .bin .add (.t 12) (.c (.int .i64 1)), none, []⟩,
     ⟨some 12, .mv (.t 20), none, []⟩] none) <|
  .seq (.region [
     ⟨some 21, .mv (.t 0), none, []⟩,
     ⟨some 22, .app 4 32 41 (.c (.nil)) (.t 21), none, [0]⟩,
     ⟨some 23, .mv (.t 0), none, []⟩,
     ⟨some 24, .len (.t 23), none, [2]⟩,
     ⟨some 25, .mks false 1 24 22 (.nil) (.t 24), none, [3, 2]⟩,
     ⟨some 26, .build [.nil, .nil, .nil] [(0, 1, .t 22), (1, 1, .t 25)], none, [1, 4, 0, 3, 2]⟩,
     ⟨none, .store 3 (.t 2) (.t 26), none, [5, 1, 0, 2, 3, 4]⟩,
     ⟨some 3, .mv (.c (.int .i64 0)), none, [6, 0, 1, 2, 3, 4, 5]⟩] (some 8)) <|
  .ret
abbrev n_ref36_Open : Nat := 25
theorem b_ref36_Open : bodyOf prog 25 [1000000] = some (c_ref36_Open, [.c 2 true 3, .t 3], 27) := by kernel_rfl

def c_mk_Mod : ACode :=
  .seq (.region [
     ⟨some 4, .mv (.c (.int .i64 0)), none, []⟩] none) <|
  .seq (.region [
     ⟨some 5, .mv (.t 0), none, []⟩,
     ⟨some 6, .mv (.t 1), none, []⟩,
     ⟨some 7, .bin .rem (.t 5) (.t 6), none, []⟩,
     ⟨some 8, .mv (.t 1), none, []⟩,
     ⟨some 9, .bin .add (.t 7) (.t 8), none, []⟩,
     ⟨some 10, .mv (.t 1), none, []⟩,
     ⟨some 11, .bin .rem (.t 9) (.t 10), none, []⟩,
     ⟨some 4, .mv (.t 11), none, []⟩] none) <|
  .ret
abbrev n_mk_Mod : Nat := 26
theorem b_mk_Mod : bodyOf prog 26 [] = some (c_mk_Mod, [.t 4], 12) := by kernel_rfl

def c_warning_Active : ACode :=
  .seq (.region [
     ⟨some 2, .box 3 31 (.t 0), none, []⟩,
     ⟨some 4, .alloc 4 44 (.agg [.int .i64 0, .int .i64 0, .nil, .int .i64 0]), none, []⟩,
     ⟨some 5, .mv (.c (.bool false)), none, []⟩] none) <|
  .seq (.seq (.region [
      ⟨some 8, .load true 3 (.t 2), none, []⟩,
      ⟨some 9, .call 48 [.t 8], none, []⟩,
      ⟨some 10, .un .not (.t 9), none, []⟩] none) <|
   .cond (.t 10) (.seq (.region [
       ⟨some 11, .build [.int .i64 0, .int .i64 0, .nil, .int .i64 0] [], none, []⟩,
       ⟨none, .store 4 (.t 4) (.t 11), none, []⟩,
       ⟨some 5, .mv (.c (.bool false)), none, []⟩] none) <|
    .ret) <|
   .skip) <|
  .seq (.seq (.region [
      ⟨some 12, .fa 2 (.t 2), none, []⟩,
      ⟨some 13, .load false 1 (.t 12), none, []⟩,
      ⟨some 14, .len (.t 13), none, []⟩,
      ⟨some 15, .mv (.c (.int .i64 0)), none, []⟩] none) <|
   .block 0 <|
   .loop <|
   .seq (.region [
      ⟨some 16, .bin .lss (.t 15) (.t 14), none, []⟩] none) <|
   .seq (.cond (.t 16) (.skip) <|
    .exit 0) <|
   .seq (.block 1 <|
    .seq (.region [
       ⟨some 17, .ixs 4 (.t 13) (.t 15), none, []⟩,
       ⟨some 18, .load true 4 (.t 17), none, []⟩,
       ⟨some 7, .alloc 4 44 (.agg [.int .i64 0, .int .i64 0, .nil, .int .i64 0]), none, []⟩,
       ⟨none, .store 4 (.t 7) (.t 18), none, []⟩] none) <|
    .seq (.region [
       ⟨some 19, .fa 0 (.t 7), none, []⟩,
       ⟨some 20, .load false 1 (.t 19), none, []⟩,
       ⟨some 21, .mv (.t 1), none, []⟩,
       ⟨some 22, .bin .eql (.t 20) (.t 21), none, []⟩] none) <|
    .cond (.t 22) (.seq (.region [
        ⟨some 23, .load true 4 (.t 7), none, []⟩,
        ⟨some 24, .call 56 [.t 23], none, []⟩,
        ⟨none, .store 4 (.t 4) (.t 24), none, []⟩,
        ⟨some 5, .mv (.c (.bool true)), none, []⟩] none) <|
     .ret) <|
    .skip) <|
   .region [
     ⟨some 25, .bin .add (.t 15) (.c (.int .i64 1)), none, []⟩,
     ⟨some 15, .mv (.t 25), none, []⟩] none) <|
  .seq (.region [
     ⟨some 26, .build [.int .i64 0, .int .i64 0, .nil, .int .i64 0] [], none, []⟩,
     ⟨none, .store 4 (.t 4) (.t 26), none, []⟩,
     ⟨some 5, .mv (.c (.bool false)), none, []⟩] none) <|
  .ret
abbrev n_warning_Active : Nat := 27
theorem b_warning_Active : bodyOf prog 27 [1000000] = some (c_warning_Active, [.c 4 true 4, .t 5], 27) := by kernel_rfl

def c_law36_has : ACode :=
  .seq (.region [
     ⟨some 4, .mv (.c (.bool false)), none, []⟩] none) <|
  .seq (.seq (.region [
      ⟨some 7, .mv (.t 0), none, []⟩,
      ⟨some 8, .len (.t 7), none, []⟩,
      ⟨some 9, .mv (.c (.int .i64 0)), none, []⟩] none) <|
   .block 0 <|
   .loop <|
   .seq (.region [
      ⟨some 10, .bin .lss (.t 9) (.t 8), none, []⟩] none) <|
   .seq (.cond (.t 10) (.skip) <|
    .exit 0) <|
   .seq (.block 1 <|
    .seq (.region [
       ⟨some 11, .ixs 1 (.t 7) (.t 9), none, []⟩,
       ⟨some 12, .load false 1 (.t 11), none, []⟩,
       ⟨some 6, .mv (.t 12), none, []⟩] none) <|
    .seq (.region [
       ⟨some 13, .mv (.t 6), none, []⟩,
       ⟨some 14, .mv (.t 1), none, []⟩,
       ⟨some 15, .bin .eql (.t 13) (.t 14), none, []⟩] none) <|
    .cond (.t 15) (.seq (.region [
        ⟨some 4, .mv (.c (.bool true)), none, []⟩] none) <|
     .ret) <|
    .skip) <|
   .region [
     ⟨some 16, .bin .add (.t 9) (.c (.int .i64 1)), none, []⟩,
     ⟨some 9, .mv (.t 16), none, []⟩] none) <|
  .seq (.region [
     ⟨some 4, .mv (.c (.bool false)), none, []⟩] none) <|
  .ret
abbrev n_law36_has : Nat := 30
theorem b_law36_has : bodyOf prog 30 [1000000] = some (c_law36_has, [.t 4], 17) := by kernel_rfl

def c_flow_Cause : ACode :=
  .seq (.region [
     ⟨some 2, .alloc 2 64 (.agg [.int .i64 0, .int .i64 0]), none, []⟩] none) <|
  .seq (.region [
     ⟨some 3, .mv (.t 0), none, []⟩,
     ⟨some 4, .call 16 [.t 3, .c (.int .i64 4)], none, []⟩,
     ⟨some 5, .bin .add (.c (.int .i64 1)) (.t 4), none, []⟩,
     ⟨some 6, .mv (.t 0), none, []⟩,
     ⟨some 7, .call 16 [.t 6, .c (.int .i64 3)], none, []⟩,
     ⟨some 8, .build [.int .i64 0, .int .i64 0] [(0, 1, .t 5), (1, 1, .t 7)], none, []⟩,
     ⟨none, .store 2 (.t 2) (.t 8), none, []⟩] none) <|
  .ret
abbrev n_flow_Cause : Nat := 32
theorem b_flow_Cause : bodyOf prog 32 [1000000] = some (c_flow_Cause, [.c 2 true 2], 9) := by kernel_rfl

def c_flow_Quiet : ACode :=
  .seq (.region [
     ⟨some 3, .box 3 31 (.t 1), none, []⟩,
     ⟨some 4, .mv (.c (.nil)), none, []⟩] none) <|
  .seq (.region [
     ⟨some 5, .mv (.c (.nil)), none, []⟩] none) <|
  .seq (.seq (.region [
      ⟨some 6, .fa 0 (.t 3), none, []⟩,
      ⟨some 7, .load false 1 (.t 6), none, []⟩,
      ⟨some 8, .len (.t 7), none, []⟩,
      ⟨some 9, .mv (.c (.int .i64 0)), none, []⟩] none) <|
   .block 0 <|
   .loop <|
   .seq (.region [
      ⟨some 10, .bin .lss (.t 9) (.t 8), none, []⟩] none) <|
   .seq (.cond (.t 10) (.skip) <|
    .exit 0) <|
   .seq (.block 1 <|
    .region [
      ⟨some 11, .mv (.t 5), none, []⟩,
      ⟨some 12, .mv (.t 0), none, []⟩,
      ⟨some 13, .call 16 [.t 12, .c (.int .i64 3)], none, []⟩,
      ⟨some 14, .bin .gtr (.t 13) (.c (.int .i64 0)), none, []⟩,
      ⟨some 15, .lit false 1 4 [.t 14], none, []⟩,
      ⟨some 16, .app 1 1 4 (.t 11) (.t 15), none, []⟩,
      ⟨some 5, .mv (.t 16), none, []⟩] none) <|
   .region [
     ⟨some 17, .bin .add (.t 9) (.c (.int .i64 1)), none, []⟩,
     ⟨some 9, .mv (.t 17), none, []⟩] none) <|
  .seq (.region [
     ⟨some 18, .mv (.t 5), none, []⟩,
     ⟨some 4, .mv (.t 18), none, []⟩] none) <|
  .ret
abbrev n_flow_Quiet : Nat := 35
theorem b_flow_Quiet : bodyOf prog 35 [1000000] = some (c_flow_Quiet, [.t 4], 19) := by kernel_rfl

def c_ref37_Issue : ACode :=
  .seq (.region [
     ⟨some 4, .box 3 31 (.t 0), none, []⟩,
     ⟨some 7, .box 2 64 (.t 3), none, []⟩,
     ⟨some 8, .alloc 3 31 (.agg [.nil, .nil, .nil]), none, []⟩,
     ⟨some 9, .mv (.c (.int .i64 0)), none, []⟩] none) <|
  .seq (.seq (.region [
      ⟨some 19, .load true 3 (.t 4), none, []⟩,
      ⟨some 20, .call 18 [.t 19], none, []⟩,
      ⟨some 21, .bin .neq (.t 20) (.c (.int .i64 0)), none, []⟩] none) <|
   .cond (.t 21) (.seq (.region [
       ⟨some 22, .build [.nil, .nil, .nil] [], none, []⟩,
       ⟨none, .store 3 (.t 8) (.t 22), none, []⟩,
       ⟨some 9, .mv (.c (.int .i64 50)), none, []⟩] none) <|
    .ret) <|
   .skip) <|
  .seq (.seq (.region [
      ⟨some 23, .mv (.t 1), none, []⟩,
      ⟨some 24, .bin .lss (.t 23) (.c (.int .i64 0)), none, []⟩,
      ⟨some 25, .mv (.t 24), none, []⟩,
      ⟨some 26, .mv (.t 1), some (25, false), []⟩,
      ⟨some 27, .fa 0 (.t 4), some (25, false), []⟩,
      ⟨some 28, .load false 1 (.t 27), some (25, false), []⟩,
      ⟨some 29, .len (.t 28), some (25, false), []⟩,
      ⟨some 30, .bin .geq (.t 26) (.t 29), some (25, false), []⟩,
      ⟨some 31, .pick (.t 25) (.c (.bool true)) (.t 30), none, []⟩] none) <|
   .cond (.t 31) (.seq (.region [
       ⟨some 32, .build [.nil, .nil, .nil] [], none, []⟩,
       ⟨none, .store 3 (.t 8) (.t 32), none, []⟩,
       ⟨some 9, .mv (.c (.int .i64 52)), none, []⟩] none) <|
    .ret) <|
   .skip) <|
  .seq (.seq (.region [
      ⟨some 33, .mv (.t 2), none, []⟩,
      ⟨some 34, .bin .lss (.t 33) (.c (.int .i64 0)), none, []⟩,
      ⟨some 35, .mv (.t 34), none, []⟩,
      ⟨some 36, .mv (.t 2), some (35, false), []⟩,
      ⟨some 37, .bin .gtr (.t 36) (.c (.int .i64 16777216)), some (35, false), []⟩,
      ⟨some 38, .pick (.t 35) (.c (.bool true)) (.t 37), none, []⟩] none) <|
   .cond (.t 38) (.seq (.region [
       ⟨some 39, .build [.nil, .nil, .nil] [], none, []⟩,
       ⟨none, .store 3 (.t 8) (.t 39), none, []⟩,
       ⟨some 9, .mv (.c (.int .i64 6)), none, []⟩] none) <|
    .ret) <|
   .skip) <|
  .seq (.seq (.region [
      ⟨some 40, .load true 2 (.t 7), none, []⟩,
      ⟨some 41, .call 80 [.t 40], none, []⟩,
      ⟨some 10, .mv (.t 41), none, []⟩] none) <|
   .seq (.region [
      ⟨some 42, .mv (.t 10), none, []⟩,
      ⟨some 43, .bin .neq (.t 42) (.c (.int .i64 0)), none, []⟩] none) <|
   .cond (.t 43) (.seq (.region [
       ⟨some 44, .build [.nil, .nil, .nil] [], none, []⟩,
       ⟨some 45, .mv (.t 10), none, []⟩,
       ⟨none, .store 3 (.t 8) (.t 44), none, []⟩,
       ⟨some 9, .mv (.t 45), none, []⟩] none) <|
    .ret) <|
   .skip) <|
  .seq (.region [
     ⟨some 46, .load true 3 (.t 4), none, []⟩,
     ⟨some 47, .call 68 [.t 46], none, []⟩,
     ⟨some 11, .alloc 3 31 (.agg [.nil, .nil, .nil]), none, []⟩,
     ⟨none, .store 3 (.t 11) (.t 47), none, []⟩] none) <|
  .seq (.region [
     ⟨some 49, .load true 3 (.t 11), none, []⟩,
     ⟨some 50, .mv (.t 1), none, []⟩,
     ⟨some 51, .call 81 [.t 49, .t 50], none, []⟩,
     ⟨some 48, .mv (.t 51), none, []⟩,
     ⟨some 52, .ext (.t 48) 0, none, []⟩,
     ⟨some 53, .ext (.t 48) 1, none, []⟩,
     ⟨some 12, .mv (.t 52), none, []⟩,
     ⟨some 13, .mv (.t 53), none, []⟩] none) <|
  .seq (.seq (.region [
      ⟨some 54, .mv (.t 13), none, []⟩,
      ⟨some 55, .un .not (.t 54), none, []⟩] none) <|
   .cond (.t 55) (.seq (.region [
       ⟨some 14, .mv (.c (.nil)), none, []⟩] none) <|
    .seq (.region [
       ⟨some 56, .mv (.t 14), none, []⟩,
       ⟨some 57, .fa 2 (.t 11), none, []⟩,
       ⟨some 58, .load false 1 (.t 57), none, []⟩,
       ⟨some 59, .mv (.t 12), none, []⟩,
       ⟨some 60, .slc 4 (.t 58) none (some (.t 59)), none, []⟩,
       ⟨some 61, .app 4 48 44 (.t 56) (.t 60), none, []⟩,
       ⟨some 62, .mv (.t 1), none, []⟩,
       ⟨some 63, .mv (.t 2), none, []⟩,
       ⟨some 64, .build [.int .i64 0, .int .i64 0, .nil, .int .i64 0] [(0, 1, .t 62), (1, 1, .t 63)], none, []⟩,
       ⟨some 65, .lit false 4 44 [.t 64], none, []⟩,
       ⟨some 66, .app 4 48 44 (.t 61) (.t 65), none, []⟩,
       ⟨some 14, .mv (.t 66), none, []⟩] none) <|
    .region [
      ⟨some 67, .mv (.t 14), none, []⟩,
      ⟨some 68, .fa 2 (.t 11), none, []⟩,
      ⟨some 69, .load false 1 (.t 68), none, []⟩,
      ⟨some 70, .mv (.t 12), none, []⟩,
      ⟨some 71, .slc 4 (.t 69) (some (.t 70)) none, none, []⟩,
      ⟨some 72, .app 4 48 44 (.t 67) (.t 71), none, []⟩,
      ⟨some 73, .fa 2 (.t 11), none, []⟩,
      ⟨none, .store 1 (.t 73) (.t 72), none, []⟩] none) <|
   .skip) <|
  .seq (.region [
     ⟨some 74, .fa 2 (.t 11), none, []⟩,
     ⟨some 75, .load false 1 (.t 74), none, []⟩,
     ⟨some 76, .mv (.t 12), none, []⟩,
     ⟨some 77, .ixs 4 (.t 75) (.t 76), none, []⟩,
     ⟨some 15, .mv (.t 77), none, []⟩] none) <|
  .seq (.region [
     ⟨some 78, .mv (.t 15), none, []⟩,
     ⟨some 79, .nilchk (.t 78), none, []⟩,
     ⟨some 80, .fa 3 (.t 79), none, []⟩,
     ⟨none, .store 1 (.t 80) (.c (.int .i64 0)), none, []⟩] none) <|
  .seq (.seq (.hregion [
      ⟨4, ⟨some 86, .load true 2 (.t 7), none, []⟩⟩,
      ⟨0, ⟨some 82, .mv (.t 15), none, []⟩⟩,
      ⟨1, ⟨some 83, .nilchk (.t 82), none, [0]⟩⟩,
      ⟨2, ⟨some 84, .fa 2 (.t 83), none, [1, 0]⟩⟩,
      ⟨3, ⟨some 85, .load false 1 (.t 84), none, [2, 1, 0]⟩⟩,
      ⟨5, ⟨some 87, .call 82 [.t 85, .t 86], none, [3, 4, 2, 1, 0]⟩⟩,
      ⟨6, ⟨some 81, .mv (.t 87), none, [5, 3, 4, 2, 1, 0]⟩⟩,
      ⟨8, ⟨some 89, .ext (.t 81) 1, none, [6, 5, 3, 4, 2, 1, 0]⟩⟩,
      ⟨7, ⟨some 88, .ext (.t 81) 0, none, [6, 5, 3, 4, 2, 1, 0]⟩⟩,
      ⟨9, ⟨some 16, .mv (.t 88), none, [7, 5, 0, 1, 2, 3, 4, 6]⟩⟩,
      ⟨10, ⟨some 17, .mv (.t 89), none, [8, 9, 0, 1, 2, 3, 4, 5, 6, 7]⟩⟩]) <|
   .seq (.region [
      ⟨some 90, .mv (.t 17), none, []⟩,
      ⟨some 91, .un .not (.t 90), none, []⟩] none) <|
   .cond (.t 91) (.seq (.region [
       ⟨some 18, .mv (.c (.nil)), none, []⟩] none) <|
    .seq (.hregion [
       ⟨8, ⟨some 100, .load true 2 (.t 7), none, []⟩⟩,
       ⟨9, ⟨some 101, .lit false 2 64 [.t 100], none, [8]⟩⟩,
       ⟨5, ⟨some 97, .mv (.t 16), none, []⟩⟩,
       ⟨1, ⟨some 93, .mv (.t 15), none, []⟩⟩,
       ⟨2, ⟨some 94, .nilchk (.t 93), none, [1]⟩⟩,
       ⟨3, ⟨some 95, .fa 2 (.t 94), none, [2, 1]⟩⟩,
       ⟨4, ⟨some 96, .load false 1 (.t 95), none, [3, 2, 1]⟩⟩,
       ⟨6, ⟨some 98, .slc 2 (.t 96) none (some (.t 97)), none, [4, 5, 3, 2, 1]⟩⟩,
       ⟨0, ⟨some 92, .mv (.t 18), none, []⟩⟩,
       ⟨7, ⟨some 99, .app 2 16 64 (.t 92) (.t 98), none, [0, 6, 4, 5, 3, 2, 1]⟩⟩,
       ⟨10, ⟨some 102, .app 2 16 64 (.t 99) (.t 101), none, [7, 9, 0, 6, 4, 5, 3, 2, 1, 8]⟩⟩,
       ⟨11, ⟨some 18, .mv (.t 102), none, [10, 0, 1, 2, 3, 4, 5, 6, 7, 8, 9]⟩⟩]) <|
    .region [
      ⟨some 103, .mv (.t 15), none, []⟩,
      ⟨some 104, .mv (.t 18), none, []⟩,
      ⟨some 105, .mv (.t 15), none, []⟩,
      ⟨some 106, .nilchk (.t 105), none, []⟩,
      ⟨some 107, .fa 2 (.t 106), none, []⟩,
      ⟨some 108, .load false 1 (.t 107), none, []⟩,
      ⟨some 109, .mv (.t 16), none, []⟩,
      ⟨some 110, .slc 2 (.t 108) (some (.t 109)) none, none, []⟩,
      ⟨some 111, .app 2 16 64 (.t 104) (.t 110), none, []⟩,
      ⟨some 112, .nilchk (.t 103), none, []⟩,
      ⟨some 113, .fa 2 (.t 112), none, []⟩,
      ⟨none, .store 1 (.t 113) (.t 111), none, []⟩] none) <|
   .skip) <|
  .seq (.region [
     ⟨some 114, .load true 3 (.t 11), none, []⟩,
     ⟨none, .store 3 (.t 8) (.t 114), none, []⟩,
     ⟨some 9, .mv (.c (.int .i64 0)), none, []⟩] none) <|
  .ret
abbrev n_ref37_Issue : Nat := 40
theorem b_ref37_Issue : bodyOf prog 40 [1000000] = some (c_ref37_Issue, [.c 8 true 3, .t 9], 115) := by kernel_rfl

def c_ref37_Keep : ACode :=
  .seq (.region [
     ⟨some 3, .box 3 31 (.t 0), none, []⟩,
     ⟨some 6, .alloc 3 31 (.agg [.nil, .nil, .nil]), none, []⟩,
     ⟨some 7, .mv (.c (.int .i64 0)), none, []⟩] none) <|
  .seq (.seq (.region [
      ⟨some 17, .load true 3 (.t 3), none, []⟩,
      ⟨some 18, .call 18 [.t 17], none, []⟩,
      ⟨some 19, .bin .neq (.t 18) (.c (.int .i64 0)), none, []⟩] none) <|
   .cond (.t 19) (.seq (.region [
       ⟨some 20, .build [.nil, .nil, .nil] [], none, []⟩,
       ⟨none, .store 3 (.t 6) (.t 20), none, []⟩,
       ⟨some 7, .mv (.c (.int .i64 50)), none, []⟩] none) <|
    .ret) <|
   .skip) <|
  .seq (.seq (.region [
      ⟨some 21, .mv (.t 1), none, []⟩,
      ⟨some 22, .bin .lss (.t 21) (.c (.int .i64 0)), none, []⟩,
      ⟨some 23, .mv (.t 22), none, []⟩,
      ⟨some 24, .mv (.t 1), some (23, false), []⟩,
      ⟨some 25, .fa 0 (.t 3), some (23, false), []⟩,
      ⟨some 26, .load false 1 (.t 25), some (23, false), []⟩,
      ⟨some 27, .len (.t 26), some (23, false), []⟩,
      ⟨some 28, .bin .geq (.t 24) (.t 27), some (23, false), []⟩,
      ⟨some 29, .pick (.t 23) (.c (.bool true)) (.t 28), none, []⟩] none) <|
   .cond (.t 29) (.seq (.region [
       ⟨some 30, .build [.nil, .nil, .nil] [], none, []⟩,
       ⟨none, .store 3 (.t 6) (.t 30), none, []⟩,
       ⟨some 7, .mv (.c (.int .i64 52)), none, []⟩] none) <|
    .ret) <|
   .skip) <|
  .seq (.region [
     ⟨some 31, .load true 3 (.t 3), none, []⟩,
     ⟨some 32, .call 68 [.t 31], none, []⟩,
     ⟨some 8, .alloc 3 31 (.agg [.nil, .nil, .nil]), none, []⟩,
     ⟨none, .store 3 (.t 8) (.t 32), none, []⟩] none) <|
  .seq (.region [
     ⟨some 34, .load true 3 (.t 8), none, []⟩,
     ⟨some 35, .mv (.t 1), none, []⟩,
     ⟨some 36, .call 81 [.t 34, .t 35], none, []⟩,
     ⟨some 33, .mv (.t 36), none, []⟩,
     ⟨some 37, .ext (.t 33) 0, none, []⟩,
     ⟨some 38, .ext (.t 33) 1, none, []⟩,
     ⟨some 9, .mv (.t 37), none, []⟩,
     ⟨some 10, .mv (.t 38), none, []⟩] none) <|
  .seq (.seq (.region [
      ⟨some 39, .mv (.t 10), none, []⟩,
      ⟨some 40, .un .not (.t 39), none, []⟩] none) <|
   .cond (.t 40) (.seq (.region [
       ⟨some 41, .load true 3 (.t 8), none, []⟩,
       ⟨none, .store 3 (.t 6) (.t 41), none, []⟩,
       ⟨some 7, .mv (.c (.int .i64 0)), none, []⟩] none) <|
    .ret) <|
   .skip) <|
  .seq (.region [
     ⟨some 11, .mv (.c (.nil)), none, []⟩] none) <|
  .seq (.seq (.region [
      ⟨some 42, .fa 2 (.t 8), none, []⟩,
      ⟨some 43, .load false 1 (.t 42), none, []⟩,
      ⟨some 44, .mv (.t 9), none, []⟩,
      ⟨some 45, .ixs 4 (.t 43) (.t 44), none, []⟩,
      ⟨some 46, .fa 2 (.t 45), none, []⟩,
      ⟨some 47, .load false 1 (.t 46), none, []⟩,
      ⟨some 48, .len (.t 47), none, []⟩,
      ⟨some 49, .mv (.c (.int .i64 0)), none, []⟩] none) <|
   .block 0 <|
   .loop <|
   .seq (.region [
      ⟨some 50, .bin .lss (.t 49) (.t 48), none, []⟩] none) <|
   .seq (.cond (.t 50) (.skip) <|
    .exit 0) <|
   .seq (.block 1 <|
    .seq (.region [
       ⟨some 51, .ixs 2 (.t 47) (.t 49), none, []⟩,
       ⟨some 52, .load true 2 (.t 51), none, []⟩,
       ⟨some 13, .alloc 2 64 (.agg [.int .i64 0, .int .i64 0]), none, []⟩,
       ⟨none, .store 2 (.t 13) (.t 52), none, []⟩] none) <|
    .seq (.region [
       ⟨some 14, .mv (.c (.bool false)), none, []⟩] none) <|
    .seq (.seq (.region [
        ⟨some 53, .mv (.t 2), none, []⟩,
        ⟨some 54, .len (.t 53), none, []⟩,
        ⟨some 55, .mv (.c (.int .i64 0)), none, []⟩] none) <|
     .block 2 <|
     .loop <|
     .seq (.region [
        ⟨some 56, .bin .lss (.t 55) (.t 54), none, []⟩] none) <|
     .seq (.cond (.t 56) (.skip) <|
      .exit 2) <|
     .seq (.block 3 <|
      .seq (.region [
         ⟨some 57, .ixs 2 (.t 53) (.t 55), none, []⟩,
         ⟨some 58, .load true 2 (.t 57), none, []⟩,
         ⟨some 16, .alloc 2 64 (.agg [.int .i64 0, .int .i64 0]), none, []⟩,
         ⟨none, .store 2 (.t 16) (.t 58), none, []⟩] none) <|
      .region [
        ⟨some 59, .mv (.t 14), none, []⟩,
        ⟨some 60, .mv (.t 59), none, []⟩,
        ⟨some 61, .load true 2 (.t 16), some (60, false), []⟩,
        ⟨some 62, .load true 2 (.t 13), some (60, false), []⟩,
        ⟨some 63, .eqs false [0, 0] (.t 61) (.t 62), some (60, false), []⟩,
        ⟨some 64, .pick (.t 60) (.c (.bool true)) (.t 63), none, []⟩,
        ⟨some 14, .mv (.t 64), none, []⟩] none) <|
     .region [
       ⟨some 65, .bin .add (.t 55) (.c (.int .i64 1)), none, []⟩,
       ⟨some 55, .mv (.t 65), none, []⟩] none) <|
    .seq (.region [
       ⟨some 66, .mv (.t 14), none, []⟩] none) <|
    .cond (.t 66) (.region [
       ⟨some 67, .mv (.t 11), none, []⟩,
       ⟨some 68, .load true 2 (.t 13), none, []⟩,
       ⟨some 69, .lit false 2 64 [.t 68], none, []⟩,
       ⟨some 70, .app 2 16 64 (.t 67) (.t 69), none, []⟩,
       ⟨some 11, .mv (.t 70), none, []⟩] none) <|
    .skip) <|
   .region [
     ⟨some 71, .bin .add (.t 49) (.c (.int .i64 1)), none, []⟩,
     ⟨some 49, .mv (.t 71), none, []⟩] none) <|
  .seq (.region [
     ⟨some 72, .fa 2 (.t 8), none, []⟩,
     ⟨some 73, .load false 1 (.t 72), none, []⟩,
     ⟨some 74, .mv (.t 9), none, []⟩,
     ⟨some 75, .mv (.t 11), none, []⟩,
     ⟨some 76, .ixs 4 (.t 73) (.t 74), none, []⟩,
     ⟨some 77, .fa 2 (.t 76), none, []⟩,
     ⟨none, .store 1 (.t 77) (.t 75), none, []⟩] none) <|
  .seq (.region [
     ⟨some 78, .load true 3 (.t 8), none, []⟩,
     ⟨none, .store 3 (.t 6) (.t 78), none, []⟩,
     ⟨some 7, .mv (.c (.int .i64 0)), none, []⟩] none) <|
  .ret
abbrev n_ref37_Keep : Nat := 43
theorem b_ref37_Keep : bodyOf prog 43 [1000000] = some (c_ref37_Keep, [.c 6 true 3, .t 7], 79) := by kernel_rfl

def c_ref37_Tick : ACode :=
  .seq (.region [
     ⟨some 3, .box 3 31 (.t 0), none, []⟩,
     ⟨some 6, .alloc 3 31 (.agg [.nil, .nil, .nil]), none, []⟩,
     ⟨some 7, .mv (.c (.nil)), none, []⟩,
     ⟨some 8, .mv (.c (.int .i64 0)), none, []⟩] none) <|
  .seq (.seq (.region [
      ⟨some 13, .load true 3 (.t 3), none, []⟩,
      ⟨some 14, .call 18 [.t 13], none, []⟩,
      ⟨some 15, .bin .neq (.t 14) (.c (.int .i64 0)), none, []⟩] none) <|
   .cond (.t 15) (.seq (.region [
       ⟨some 16, .build [.nil, .nil, .nil] [], none, []⟩,
       ⟨none, .store 3 (.t 6) (.t 16), none, []⟩,
       ⟨some 7, .mv (.c (.nil)), none, []⟩,
       ⟨some 8, .mv (.c (.int .i64 50)), none, []⟩] none) <|
    .ret) <|
   .skip) <|
  .seq (.seq (.region [
      ⟨some 17, .mv (.t 1), none, []⟩,
      ⟨some 18, .len (.t 17), none, []⟩,
      ⟨some 19, .fa 0 (.t 3), none, []⟩,
      ⟨some 20, .load false 1 (.t 19), none, []⟩,
      ⟨some 21, .len (.t 20), none, []⟩,
      ⟨some 22, .bin .neq (.t 18) (.t 21), none, []⟩] none) <|
   .cond (.t 22) (.seq (.region [
       ⟨some 23, .build [.nil, .nil, .nil] [], none, []⟩,
       ⟨none, .store 3 (.t 6) (.t 23), none, []⟩,
       ⟨some 7, .mv (.c (.nil)), none, []⟩,
       ⟨some 8, .mv (.c (.int .i64 3)), none, []⟩] none) <|
    .ret) <|
   .skip) <|
  .seq (.seq (.region [
      ⟨some 24, .mv (.t 2), none, []⟩,
      ⟨some 25, .bin .lss (.t 24) (.c (.int .i64 1)), none, []⟩,
      ⟨some 26, .mv (.t 25), none, []⟩,
      ⟨some 27, .mv (.t 2), some (26, false), []⟩,
      ⟨some 28, .bin .gtr (.t 27) (.c (.int .i64 96)), some (26, false), []⟩,
      ⟨some 29, .pick (.t 26) (.c (.bool true)) (.t 28), none, []⟩] none) <|
   .cond (.t 29) (.seq (.region [
       ⟨some 30, .build [.nil, .nil, .nil] [], none, []⟩,
       ⟨none, .store 3 (.t 6) (.t 30), none, []⟩,
       ⟨some 7, .mv (.c (.nil)), none, []⟩,
       ⟨some 8, .mv (.c (.int .i64 1)), none, []⟩] none) <|
    .ret) <|
   .skip) <|
  .seq (.region [
     ⟨some 31, .load true 3 (.t 3), none, []⟩,
     ⟨some 32, .call 68 [.t 31], none, []⟩,
     ⟨some 9, .alloc 3 31 (.agg [.nil, .nil, .nil]), none, []⟩,
     ⟨none, .store 3 (.t 9) (.t 32), none, []⟩] none) <|
  .seq (.region [
     ⟨some 33, .fa 2 (.t 9), none, []⟩,
     ⟨none, .store 1 (.t 33) (.c (.nil)), none, []⟩] none) <|
  .seq (.region [
     ⟨some 10, .mv (.c (.nil)), none, []⟩] none) <|
  .seq (.seq (.region [
      ⟨some 34, .load true 3 (.t 3), none, []⟩,
      ⟨some 35, .call 68 [.t 34], none, []⟩,
      ⟨some 36, .pu (.fld false 1 2) [.t 35], none, []⟩,
      ⟨some 37, .len (.t 36), none, []⟩,
      ⟨some 38, .mv (.c (.int .i64 0)), none, []⟩] none) <|
   .block 0 <|
   .loop <|
   .seq (.region [
      ⟨some 39, .bin .lss (.t 38) (.t 37), none, []⟩] none) <|
   .seq (.cond (.t 39) (.skip) <|
    .exit 0) <|
   .seq (.block 1 <|
    .seq (.region [
       ⟨some 40, .ixs 4 (.t 36) (.t 38), none, []⟩,
       ⟨some 41, .load true 4 (.t 40), none, []⟩,
       ⟨some 12, .alloc 4 44 (.agg [.int .i64 0, .int .i64 0, .nil, .int .i64 0]), none, []⟩,
       ⟨none, .store 4 (.t 12) (.t 41), none, []⟩] none) <|
    .seq (.block 2 <|
     .seq (.region [
        ⟨some 56, .fa 2 (.t 12), none, []⟩,
        ⟨some 57, .load false 1 (.t 56), none, []⟩,
        ⟨some 58, .len (.t 57), none, []⟩,
        ⟨some 59, .bin .gtr (.t 58) (.c (.int .i64 0)), none, []⟩,
        ⟨some 60, .mv (.t 59), none, []⟩,
        ⟨some 61, .mv (.t 1), some (60, false), []⟩,
        ⟨some 62, .fa 0 (.t 12), some (60, false), []⟩,
        ⟨some 63, .load false 1 (.t 62), some (60, false), []⟩,
        ⟨some 64, .ixs 1 (.t 61) (.t 63), some (60, false), []⟩,
        ⟨some 65, .load false 1 (.t 64), some (60, false), []⟩,
        ⟨some 66, .un .not (.t 65), some (60, false), []⟩,
        ⟨some 67, .pick (.t 60) (.c (.bool true)) (.t 66), none, []⟩,
        ⟨some 55, .mv (.t 67), none, []⟩] none) <|
     .cond (.t 55) (.region [
        ⟨some 68, .fa 3 (.t 12), none, []⟩,
        ⟨none, .store 1 (.t 68) (.c (.int .i64 0)), none, []⟩] none) <|
     .seq (.region [
        ⟨some 42, .fa 3 (.t 12), none, []⟩,
        ⟨some 43, .load false 1 (.t 42), none, []⟩,
        ⟨some 44, .bin .add (.t 43) (.c (.int .i64 1)), none, []⟩,
        ⟨some 45, .fa 3 (.t 12), none, []⟩,
        ⟨none, .store 1 (.t 45) (.t 44), none, []⟩] none) <|
     .seq (.region [
        ⟨some 46, .fa 3 (.t 12), none, []⟩,
        ⟨some 47, .load false 1 (.t 46), none, []⟩,
        ⟨some 48, .mv (.t 2), none, []⟩,
        ⟨some 49, .bin .geq (.t 47) (.t 48), none, []⟩] none) <|
     .cond (.t 49) (.seq (.region [
         ⟨some 50, .mv (.t 10), none, []⟩,
         ⟨some 51, .fa 0 (.t 12), none, []⟩,
         ⟨some 52, .load false 1 (.t 51), none, []⟩,
         ⟨some 53, .lit false 1 3 [.t 52], none, []⟩,
         ⟨some 54, .app 1 8 3 (.t 50) (.t 53), none, []⟩,
         ⟨some 10, .mv (.t 54), none, []⟩] none) <|
      .exit 1) <|
     .skip) <|
    .region [
      ⟨some 69, .fa 2 (.t 9), none, []⟩,
      ⟨some 70, .load false 1 (.t 69), none, []⟩,
      ⟨some 71, .load true 4 (.t 12), none, []⟩,
      ⟨some 72, .lit false 4 44 [.t 71], none, []⟩,
      ⟨some 73, .app 4 48 44 (.t 70) (.t 72), none, []⟩,
      ⟨some 74, .fa 2 (.t 9), none, []⟩,
      ⟨none, .store 1 (.t 74) (.t 73), none, []⟩] none) <|
   .region [
     ⟨some 75, .bin .add (.t 38) (.c (.int .i64 1)), none, []⟩,
     ⟨some 38, .mv (.t 75), none, []⟩] none) <|
  .seq (.region [
     ⟨some 76, .load true 3 (.t 9), none, []⟩,
     ⟨some 77, .mv (.t 10), none, []⟩,
     ⟨none, .store 3 (.t 6) (.t 76), none, []⟩,
     ⟨some 7, .mv (.t 77), none, []⟩,
     ⟨some 8, .mv (.c (.int .i64 0)), none, []⟩] none) <|
  .ret
abbrev n_ref37_Tick : Nat := 45
theorem b_ref37_Tick : bodyOf prog 45 [1000000] = some (c_ref37_Tick, [.c 6 true 3, .t 7, .t 8], 78) := by kernel_rfl

def c_flow_Points : ACode :=
  .seq (.region [
     ⟨some 4, .mv (.c (.nil)), none, []⟩] none) <|
  .seq (.region [
     ⟨some 5, .mv (.c (.nil)), none, []⟩] none) <|
  .seq (.seq (.region [
      ⟨some 7, .mv (.t 0), none, []⟩,
      ⟨some 8, .call 16 [.t 7, .c (.int .i64 3)], none, []⟩,
      ⟨some 6, .mv (.t 8), none, []⟩] none) <|
   .block 0 <|
   .loop <|
   .seq (.seq (.region [
       ⟨some 9, .mv (.t 6), none, []⟩,
       ⟨some 10, .bin .geq (.t 9) (.c (.int .i64 0)), none, []⟩] none) <|
    .cond (.t 10) (.skip) <|
    .exit 0) <|
   .seq (.block 1 <|
    .region [
      ⟨some 13, .mv (.t 5), none, []⟩,
      ⟨some 14, .mv (.t 0), none, []⟩,
      ⟨some 15, .mv (.t 1), none, []⟩,
      ⟨some 16, .call 16 [.t 14, .t 15], none, []⟩,
      ⟨some 17, .mv (.t 0), none, []⟩,
      ⟨some 18, .call 16 [.t 17, .c (.int .i64 4)], none, []⟩,
      ⟨some 19, .bin .add (.c (.int .i64 1)) (.t 18), none, []⟩,
      ⟨some 20, .mv (.t 0), none, []⟩,
      ⟨some 21, .call 16 [.t 20, .c (.int .i64 12)], none, []⟩,
      ⟨some 22, .mv (.t 0), none, []⟩,
      ⟨some 23, .call 16 [.t 22, .c (.int .i64 4)], none, []⟩,
      ⟨some 24, .bin .add (.c (.int .i64 1)) (.t 23), none, []⟩,
      ⟨some 25, .build [.int .i64 0, .int .i64 0, .int .i64 0, .int .i64 0] [(0, 1, .t 16), (1, 1, .t 19), (2, 1, .t 21), (3, 1, .t 24)], none, []⟩,
      ⟨some 26, .lit false 4 41 [.t 25], none, []⟩,
      ⟨some 27, .app 4 32 41 (.t 13) (.t 26), none, []⟩,
      ⟨some 5, .mv (.t 27), none, []⟩] none) <|
   .region [
     ⟨some 11, .mv (.t 6), none, []⟩,
     ⟨some 12, .bin .sub (.t 11) (.c (.int .i64 1)), none, []⟩,
     ⟨some 6, .mv (.t 12), none, []⟩] none) <|
  .seq (.region [
     ⟨some 28, .mv (.t 5), none, []⟩,
     ⟨some 4, .mv (.t 28), none, []⟩] none) <|
  .ret
abbrev n_flow_Points : Nat := 47
theorem b_flow_Points : bodyOf prog 47 [1000000] = some (c_flow_Points, [.t 4], 29) := by kernel_rfl

def c_warning_valid : ACode :=
  .seq (.region [
     ⟨some 1, .box 3 31 (.t 0), none, []⟩,
     ⟨some 2, .mv (.c (.bool false)), none, []⟩] none) <|
  .seq (.seq (.region [
      ⟨some 7, .fa 0 (.t 1), none, []⟩,
      ⟨some 8, .load false 1 (.t 7), none, []⟩,
      ⟨some 9, .call 70 [.t 8], none, []⟩,
      ⟨some 10, .bin .neq (.t 9) (.c (.int .i64 0)), none, []⟩,
      ⟨some 11, .mv (.t 10), none, []⟩,
      ⟨some 12, .fa 1 (.t 1), some (11, false), []⟩,
      ⟨some 13, .load false 1 (.t 12), some (11, false), []⟩,
      ⟨some 14, .len (.t 13), some (11, false), []⟩,
      ⟨some 15, .fa 0 (.t 1), some (11, false), []⟩,
      ⟨some 16, .load false 1 (.t 15), some (11, false), []⟩,
      ⟨some 17, .len (.t 16), some (11, false), []⟩,
      ⟨some 18, .bin .neq (.t 14) (.t 17), some (11, false), []⟩,
      ⟨some 19, .pick (.t 11) (.c (.bool true)) (.t 18), none, []⟩] none) <|
   .cond (.t 19) (.seq (.region [
       ⟨some 2, .mv (.c (.bool false)), none, []⟩] none) <|
    .ret) <|
   .skip) <|
  .seq (.seq (.region [
      ⟨some 20, .fa 0 (.t 1), none, []⟩,
      ⟨some 21, .load false 1 (.t 20), none, []⟩,
      ⟨some 22, .len (.t 21), none, []⟩,
      ⟨some 23, .mv (.c (.int .i64 0)), none, []⟩] none) <|
   .block 0 <|
   .loop <|
   .seq (.region [
      ⟨some 24, .bin .lss (.t 23) (.t 22), none, []⟩] none) <|
   .seq (.cond (.t 24) (.skip) <|
    .exit 0) <|
   .seq (.block 1 <|
    .seq (.region [
       ⟨some 25, .mv (.t 23), none, []⟩,
       ⟨some 3, .mv (.t 25), none, []⟩] none) <|
    .seq (.hregion [
       ⟨8, ⟨some 34, .mv (.t 3), none, []⟩⟩,
       ⟨6, ⟨some 32, .fa 0 (.t 1), none, []⟩⟩,
       ⟨7, ⟨some 33, .load false 1 (.t 32), none, [6]⟩⟩,
       ⟨9, ⟨some 35, .ixs 4 (.t 33) (.t 34), none, [7, 8, 6]⟩⟩,
       ⟨10, ⟨some 36, .fa 1 (.t 35), none, [9, 7, 8, 6]⟩⟩,
       ⟨11, ⟨some 37, .load false 1 (.t 36), none, [10, 9, 7, 8, 6]⟩⟩,
       ⟨2, ⟨some 28, .mv (.t 3), none, []⟩⟩,
       ⟨0, ⟨some 26, .fa 1 (.t 1), none, []⟩⟩,
       ⟨1, ⟨some 27, .load false 1 (.t 26), none, [0]⟩⟩,
       ⟨3, ⟨some 29, .ixs 1 (.t 27) (.t 28), none, [1, 2, 0]⟩⟩,
       ⟨4, ⟨some 30, .load false 1 (.t 29), none, [3, 1, 2, 0]⟩⟩,
       ⟨5, ⟨some 31, .len (.t 30), none, [4, 3, 1, 2, 0]⟩⟩,
       ⟨12, ⟨some 38, .bin .gtr (.t 31) (.t 37), none, [5, 11, 4, 3, 1, 2, 0, 10, 9, 7, 8, 6]⟩⟩,
       ⟨13, ⟨some 39, .mv (.t 38), none, [12, 5, 11, 4, 3, 1, 2, 0, 10, 9, 7, 8, 6]⟩⟩,
       ⟨16, ⟨some 42, .mv (.t 3), some (39, false), [13, 12, 5, 11, 4, 3, 1, 2, 0, 10, 9, 7, 8, 6]⟩⟩,
       ⟨14, ⟨some 40, .fa 1 (.t 1), some (39, false), [13, 12, 5, 11, 4, 3, 1, 2, 0, 10, 9, 7, 8, 6]⟩⟩,
       ⟨15, ⟨some 41, .load false 1 (.t 40), some (39, false), [14, 13, 12, 5, 11, 4, 3, 1, 2, 0, 10, 9, 7, 8, 6]⟩⟩,
       ⟨17, ⟨some 43, .ixs 1 (.t 41) (.t 42), some (39, false), [15, 16, 13, 14, 12, 5, 11, 4, 3, 1, 2, 0, 10, 9, 7, 8, 6]⟩⟩,
       ⟨18, ⟨some 44, .load false 1 (.t 43), some (39, false), [17, 13, 15, 16, 14, 12, 5, 11, 4, 3, 1, 2, 0, 10, 9, 7, 8, 6]⟩⟩,
       ⟨19, ⟨some 45, .call 49 [.t 44, .c (.func 50 [])], some (39, false), [18, 13, 17, 15, 16, 14, 12, 5, 11, 4, 3, 1, 2, 0, 10, 9, 7, 8, 6]⟩⟩,
       ⟨20, ⟨some 46, .pick (.t 39) (.c (.bool true)) (.t 45), none, [13, 19, 12, 5, 11, 4, 3, 1, 2, 0, 10, 9, 7, 8, 6, 18, 17, 15, 16, 14]⟩⟩]) <|
    .cond (.t 46) (.seq (.region [
        ⟨some 2, .mv (.c (.bool false)), none, []⟩] none) <|
     .ret) <|
    .skip) <|
   .region [
     ⟨some 47, .bin .add (.t 23) (.c (.int .i64 1)), none, []⟩,
     ⟨some 23, .mv (.t 47), none, []⟩] none) <|
  .seq (.region [
     ⟨some 4, .mv (.c (.int .i64 (-1))), none, []⟩] none) <|
  .seq (.seq (.region [
      ⟨some 48, .fa 2 (.t 1), none, []⟩,
      ⟨some 49, .load false 1 (.t 48), none, []⟩,
      ⟨some 50, .len (.t 49), none, []⟩,
      ⟨some 51, .mv (.c (.int .i64 0)), none, []⟩] none) <|
   .block 2 <|
   .loop <|
   .seq (.region [
      ⟨some 52, .bin .lss (.t 51) (.t 50), none, []⟩] none) <|
   .seq (.cond (.t 52) (.skip) <|
    .exit 2) <|
   .seq (.block 3 <|
    .seq (.region [
       ⟨some 53, .ixs 4 (.t 49) (.t 51), none, []⟩,
       ⟨some 54, .load true 4 (.t 53), none, []⟩,
       ⟨some 6, .alloc 4 44 (.agg [.int .i64 0, .int .i64 0, .nil, .int .i64 0]), none, []⟩,
       ⟨none, .store 4 (.t 6) (.t 54), none, []⟩] none) <|
    .seq (.seq (.region [
        ⟨some 55, .fa 0 (.t 6), none, []⟩,
        ⟨some 56, .load false 1 (.t 55), none, []⟩,
        ⟨some 57, .mv (.t 4), none, []⟩,
        ⟨some 58, .bin .leq (.t 56) (.t 57), none, []⟩,
        ⟨some 59, .mv (.t 58), none, []⟩,
        ⟨some 60, .fa 0 (.t 6), some (59, false), []⟩,
        ⟨some 61, .load false 1 (.t 60), some (59, false), []⟩,
        ⟨some 62, .fa 0 (.t 1), some (59, false), []⟩,
        ⟨some 63, .load false 1 (.t 62), some (59, false), []⟩,
        ⟨some 64, .len (.t 63), some (59, false), []⟩,
        ⟨some 65, .bin .geq (.t 61) (.t 64), some (59, false), []⟩,
        ⟨some 66, .pick (.t 59) (.c (.bool true)) (.t 65), none, []⟩,
        ⟨some 67, .mv (.t 66), none, []⟩,
        ⟨some 68, .fa 1 (.t 6), some (67, false), []⟩,
        ⟨some 69, .load false 1 (.t 68), some (67, false), []⟩,
        ⟨some 70, .bin .lss (.t 69) (.c (.int .i64 0)), some (67, false), []⟩,
        ⟨some 71, .pick (.t 67) (.c (.bool true)) (.t 70), none, []⟩,
        ⟨some 72, .mv (.t 71), none, []⟩,
        ⟨some 73, .fa 1 (.t 6), some (72, false), []⟩,
        ⟨some 74, .load false 1 (.t 73), some (72, false), []⟩,
        ⟨some 75, .bin .gtr (.t 74) (.c (.int .i64 16777216)), some (72, false), []⟩,
        ⟨some 76, .pick (.t 72) (.c (.bool true)) (.t 75), none, []⟩,
        ⟨some 77, .mv (.t 76), none, []⟩,
        ⟨some 78, .fa 2 (.t 6), some (77, false), []⟩,
        ⟨some 79, .load false 1 (.t 78), some (77, false), []⟩,
        ⟨some 80, .call 84 [.t 79], some (77, false), []⟩,
        ⟨some 81, .un .not (.t 80), some (77, false), []⟩,
        ⟨some 82, .pick (.t 77) (.c (.bool true)) (.t 81), none, []⟩,
        ⟨some 83, .mv (.t 82), none, []⟩,
        ⟨some 84, .fa 3 (.t 6), some (83, false), []⟩,
        ⟨some 85, .load false 1 (.t 84), some (83, false), []⟩,
        ⟨some 86, .bin .lss (.t 85) (.c (.int .i64 0)), some (83, false), []⟩,
        ⟨some 87, .pick (.t 83) (.c (.bool true)) (.t 86), none, []⟩,
        ⟨some 88, .mv (.t 87), none, []⟩,
        ⟨some 89, .fa 3 (.t 6), some (88, false), []⟩,
        ⟨some 90, .load false 1 (.t 89), some (88, false), []⟩,
        ⟨some 91, .bin .gtr (.t 90) (.c (.int .i64 96)), some (88, false), []⟩,
        ⟨some 92, .pick (.t 88) (.c (.bool true)) (.t 91), none, []⟩,
        ⟨some 93, .mv (.t 92), none, []⟩,
        ⟨some 94, .fa 2 (.t 6), some (93, false), []⟩,
        ⟨some 95, .load false 1 (.t 94), some (93, false), []⟩,
        ⟨some 96, .len (.t 95), some (93, false), []⟩,
        ⟨some 97, .bin .gtr (.t 96) (.c (.int .i64 0)), some (93, false), []⟩,
        ⟨some 98, .mv (.t 97), some (93, false), []⟩,
        ⟨some 99, .fa 3 (.t 6), some (98, true), []⟩,
        ⟨some 100, .load false 1 (.t 99), some (98, true), []⟩,
        ⟨some 101, .bin .gtr (.t 100) (.c (.int .i64 0)), some (98, true), []⟩,
        ⟨some 102, .pick (.t 98) (.t 101) (.c (.bool false)), some (93, false), []⟩,
        ⟨some 103, .pick (.t 93) (.c (.bool true)) (.t 102), none, []⟩] none) <|
     .cond (.t 103) (.seq (.region [
         ⟨some 2, .mv (.c (.bool false)), none, []⟩] none) <|
      .ret) <|
     .skip) <|
    .region [
      ⟨some 104, .fa 0 (.t 6), none, []⟩,
      ⟨some 105, .load false 1 (.t 104), none, []⟩,
      ⟨some 4, .mv (.t 105), none, []⟩] none) <|
   .region [
     ⟨some 106, .bin .add (.t 51) (.c (.int .i64 1)), none, []⟩,
     ⟨some 51, .mv (.t 106), none, []⟩] none) <|
  .seq (.region [
     ⟨some 2, .mv (.c (.bool true)), none, []⟩] none) <|
  .ret
abbrev n_warning_valid : Nat := 48
theorem b_warning_valid : bodyOf prog 48 [1000000] = some (c_warning_valid, [.t 2], 107) := by kernel_rfl

def c_slices_ContainsFunc__int : ACode :=
  .seq (.region [
     ⟨some 4, .mv (.c (.bool false)), none, []⟩] none) <|
  .seq (.region [
     ⟨some 5, .mv (.t 0), none, []⟩,
     ⟨some 6, .mv (.t 1), none, []⟩,
     ⟨some 7, .call 85 [.t 5, .t 6], none, []⟩,
     ⟨some 8, .bin .geq (.t 7) (.c (.int .i64 0)), none, []⟩,
     ⟨some 4, .mv (.t 8), none, []⟩] none) <|
  .ret
abbrev n_slices_ContainsFunc__int : Nat := 49
theorem b_slices_ContainsFunc__int : bodyOf prog 49 [] = some (c_slices_ContainsFunc__int, [.t 4], 9) := by kernel_rfl

def c_warning_beyond : ACode :=
  .seq (.region [
     ⟨some 2, .mv (.c (.bool false)), none, []⟩] none) <|
  .seq (.region [
     ⟨some 3, .mv (.t 0), none, []⟩,
     ⟨some 4, .bin .lss (.t 3) (.c (.int .i64 0)), none, []⟩,
     ⟨some 5, .mv (.t 4), none, []⟩,
     ⟨some 6, .mv (.t 0), some (5, false), []⟩,
     ⟨some 7, .bin .gtr (.t 6) (.c (.int .i64 1073741824)), some (5, false), []⟩,
     ⟨some 8, .pick (.t 5) (.c (.bool true)) (.t 7), none, []⟩,
     ⟨some 2, .mv (.t 8), none, []⟩] none) <|
  .ret
abbrev n_warning_beyond : Nat := 50
theorem b_warning_beyond : bodyOf prog 50 [1000000] = some (c_warning_beyond, [.t 2], 9) := by kernel_rfl

def c_rise_First : ACode :=
  .seq (.region [
     ⟨some 8, .mv (.c (.int .i64 0)), none, []⟩,
     ⟨some 9, .mv (.c (.bool false)), none, []⟩] none) <|
  .seq (.region [
     ⟨some 13, .mv (.t 0), none, []⟩,
     ⟨some 14, .mv (.t 1), none, []⟩,
     ⟨some 15, .lit false 1 22 [.t 13, .t 14], none, []⟩,
     ⟨some 16, .call 54 [.t 15], none, []⟩,
     ⟨some 10, .mv (.t 16), none, []⟩] none) <|
  .seq (.seq (.region [
      ⟨some 17, .mv (.t 1), none, []⟩,
      ⟨some 18, .len (.t 17), none, []⟩,
      ⟨some 19, .mv (.c (.int .i64 0)), none, []⟩] none) <|
   .block 0 <|
   .loop <|
   .seq (.region [
      ⟨some 20, .bin .lss (.t 19) (.t 18), none, []⟩] none) <|
   .seq (.cond (.t 20) (.skip) <|
    .exit 0) <|
   .seq (.block 1 <|
    .seq (.region [
       ⟨some 21, .mv (.t 19), none, []⟩,
       ⟨some 22, .ixs 1 (.t 17) (.t 19), none, []⟩,
       ⟨some 23, .load false 1 (.t 22), none, []⟩,
       ⟨some 11, .mv (.t 21), none, []⟩,
       ⟨some 12, .mv (.t 23), none, []⟩] none) <|
    .seq (.region [
       ⟨some 24, .mv (.t 10), none, []⟩,
       ⟨some 25, .mv (.t 0), none, []⟩,
       ⟨some 26, .len (.t 25), none, []⟩,
       ⟨some 27, .mv (.t 11), none, []⟩,
       ⟨some 28, .bin .add (.t 26) (.t 27), none, []⟩,
       ⟨some 29, .slc 1 (.t 24) none (some (.t 28)), none, []⟩,
       ⟨some 30, .mv (.t 2), none, []⟩,
       ⟨some 31, .mv (.t 12), none, []⟩,
       ⟨some 32, .call 53 [.t 29, .t 30, .t 31], none, []⟩,
       ⟨some 33, .mv (.t 3), none, []⟩,
       ⟨some 34, .bin .gtr (.t 32) (.t 33), none, []⟩] none) <|
    .cond (.t 34) (.seq (.region [
        ⟨some 35, .mv (.t 11), none, []⟩,
        ⟨some 8, .mv (.t 35), none, []⟩,
        ⟨some 9, .mv (.c (.bool true)), none, []⟩] none) <|
     .ret) <|
    .skip) <|
   .region [
     ⟨some 36, .bin .add (.t 19) (.c (.int .i64 1)), none, []⟩,
     ⟨some 19, .mv (.t 36), none, []⟩] none) <|
  .seq (.region [
     ⟨some 8, .mv (.c (.int .i64 0)), none, []⟩,
     ⟨some 9, .mv (.c (.bool false)), none, []⟩] none) <|
  .ret
abbrev n_rise_First : Nat := 51
theorem b_rise_First : bodyOf prog 51 [] = some (c_rise_First, [.t 8, .t 9], 37) := by kernel_rfl

def c_slices_Clone__Watch : ACode :=
  .seq (.region [
     ⟨some 2, .newsl 4 41, none, []⟩] none) <|
  .seq (.seq (.region [
      ⟨some 3, .mv (.t 0), none, []⟩,
      ⟨some 4, .isnil false (.t 3), none, []⟩] none) <|
   .cond (.t 4) (.seq (.region [
       ⟨some 2, .newsl 4 41, none, []⟩] none) <|
    .ret) <|
   .skip) <|
  .seq (.region [
     ⟨some 5, .lit true 4 41 [], none, []⟩,
     ⟨some 6, .mv (.t 0), none, []⟩,
     ⟨some 7, .app 4 32 41 (.t 5) (.t 6), none, []⟩,
     ⟨some 2, .mv (.t 7), none, []⟩] none) <|
  .ret
abbrev n_slices_Clone__Watch : Nat := 52
theorem b_slices_Clone__Watch : bodyOf prog 52 [2, 5, 1000000] = some (c_slices_Clone__Watch, [.t 2], 8) := by kernel_rfl

def c_rise_Rise : ACode :=
  .seq (.region [
     ⟨some 6, .mv (.c (.int .i64 0)), none, []⟩] none) <|
  .seq (.region [
     ⟨some 10, .mv (.t 0), none, []⟩,
     ⟨some 11, .mv (.t 1), none, []⟩,
     ⟨some 12, .call 86 [.t 10, .t 11], none, []⟩,
     ⟨some 9, .mv (.t 12), none, []⟩,
     ⟨some 13, .ext (.t 9) 0, none, []⟩,
     ⟨some 14, .ext (.t 9) 1, none, []⟩,
     ⟨some 7, .mv (.t 13), none, []⟩,
     ⟨some 8, .mv (.t 14), none, []⟩] none) <|
  .seq (.seq (.region [
      ⟨some 15, .mv (.t 8), none, []⟩,
      ⟨some 16, .un .not (.t 15), none, []⟩,
      ⟨some 17, .mv (.t 16), none, []⟩,
      ⟨some 18, .mv (.t 2), some (17, false), []⟩,
      ⟨some 19, .mv (.t 7), some (17, false), []⟩,
      ⟨some 20, .bin .leq (.t 18) (.t 19), some (17, false), []⟩,
      ⟨some 21, .pick (.t 17) (.c (.bool true)) (.t 20), none, []⟩] none) <|
   .cond (.t 21) (.seq (.region [
       ⟨some 6, .mv (.c (.int .i64 0)), none, []⟩] none) <|
    .ret) <|
   .skip) <|
  .seq (.region [
     ⟨some 22, .mv (.t 2), none, []⟩,
     ⟨some 23, .mv (.t 7), none, []⟩,
     ⟨some 24, .bin .sub (.t 22) (.t 23), none, []⟩,
     ⟨some 6, .mv (.t 24), none, []⟩] none) <|
  .ret
abbrev n_rise_Rise : Nat := 53
theorem b_rise_Rise : bodyOf prog 53 [] = some (c_rise_Rise, [.t 6], 25) := by kernel_rfl

def c_slices_Concat__int : ACode :=
  .seq (.region [
     ⟨some 2, .mv (.c (.nil)), none, []⟩] none) <|
  .seq (.region [
     ⟨some 3, .mv (.c (.int .i64 0)), none, []⟩] none) <|
  .seq (.seq (.region [
      ⟨some 9, .mv (.t 0), none, []⟩,
      ⟨some 10, .len (.t 9), none, []⟩,
      ⟨some 11, .mv (.c (.int .i64 0)), none, []⟩] none) <|
   .block 0 <|
   .loop <|
   .seq (.region [
      ⟨some 12, .bin .lss (.t 11) (.t 10), none, []⟩] none) <|
   .seq (.cond (.t 12) (.skip) <|
    .exit 0) <|
   .seq (.block 1 <|
    .seq (.region [
       ⟨some 13, .ixs 1 (.t 9) (.t 11), none, []⟩,
       ⟨some 14, .load false 1 (.t 13), none, []⟩,
       ⟨some 5, .mv (.t 14), none, []⟩] none) <|
    .seq (.region [
       ⟨some 15, .mv (.t 3), none, []⟩,
       ⟨some 16, .mv (.t 5), none, []⟩,
       ⟨some 17, .len (.t 16), none, []⟩,
       ⟨some 18, .bin .add (.t 15) (.t 17), none, []⟩,
       ⟨some 3, .mv (.t 18), none, []⟩] none) <|
    .seq (.region [
       ⟨some 19, .mv (.t 3), none, []⟩,
       ⟨some 20, .bin .lss (.t 19) (.c (.int .i64 0)), none, []⟩] none) <|
    .cond (.t 20) (.region [
       ⟨some 21, .pu .mki [.c (.str ⟨#[108, 101, 110, 32, 111, 117, 116, 32, 111, 102, 32, 114, 97, 110, 103, 101]⟩)], none, []⟩,
       ⟨none, .pu .never [], none, []⟩] none) <|
    .skip) <|
   .region [
     ⟨some 22, .bin .add (.t 11) (.c (.int .i64 1)), none, []⟩,
     ⟨some 11, .mv (.t 22), none, []⟩] none) <|
  .seq (.region [
     ⟨some 23, .mv (.t 3), none, []⟩,
     ⟨some 24, .call 87 [.c (.nil), .t 23], none, []⟩,
     ⟨some 6, .mv (.t 24), none, []⟩] none) <|
  .seq (.seq (.region [
      ⟨some 25, .mv (.t 0), none, []⟩,
      ⟨some 26, .len (.t 25), none, []⟩,
      ⟨some 27, .mv (.c (.int .i64 0)), none, []⟩] none) <|
   .block 2 <|
   .loop <|
   .seq (.region [
      ⟨some 28, .bin .lss (.t 27) (.t 26), none, []⟩] none) <|
   .seq (.cond (.t 28) (.skip) <|
    .exit 2) <|
   .seq (.block 3 <|
    .seq (.region [
       ⟨some 29, .ixs 1 (.t 25) (.t 27), none, []⟩,
       ⟨some 30, .load false 1 (.t 29), none, []⟩,
       ⟨some 8, .mv (.t 30), none, []⟩] none) <|
    .region [
      ⟨some 31, .mv (.t 6), none, []⟩,
      ⟨some 32, .mv (.t 8), none, []⟩,
      ⟨some 33, .app 1 8 3 (.t 31) (.t 32), none, []⟩,
      ⟨some 6, .mv (.t 33), none, []⟩] none) <|
   .region [
     ⟨some 34, .bin .add (.t 27) (.c (.int .i64 1)), none, []⟩,
     ⟨some 27, .mv (.t 34), none, []⟩] none) <|
  .seq (.region [
     ⟨some 35, .mv (.t 6), none, []⟩,
     ⟨some 2, .mv (.t 35), none, []⟩] none) <|
  .ret
abbrev n_slices_Concat__int : Nat := 54
theorem b_slices_Concat__int : bodyOf prog 54 [] = some (c_slices_Concat__int, [.t 2], 36) := by kernel_rfl

def c_slices_Clone__int : ACode :=
  .seq (.region [
     ⟨some 2, .newsl 1 3, none, []⟩] none) <|
  .seq (.seq (.region [
      ⟨some 3, .mv (.t 0), none, []⟩,
      ⟨some 4, .isnil false (.t 3), none, []⟩] none) <|
   .cond (.t 4) (.seq (.region [
       ⟨some 2, .newsl 1 3, none, []⟩] none) <|
    .ret) <|
   .skip) <|
  .seq (.region [
     ⟨some 5, .lit true 1 3 [], none, []⟩,
     ⟨some 6, .mv (.t 0), none, []⟩,
     ⟨some 7, .app 1 8 3 (.t 5) (.t 6), none, []⟩,
     ⟨some 2, .mv (.t 7), none, []⟩] none) <|
  .ret
abbrev n_slices_Clone__int : Nat := 55
theorem b_slices_Clone__int : bodyOf prog 55 [2, 5] = some (c_slices_Clone__int, [.t 2], 8) := by kernel_rfl

def c_warning_copied : ACode :=
  .seq (.region [
     ⟨some 1, .box 4 44 (.t 0), none, []⟩,
     ⟨some 2, .alloc 4 44 (.agg [.int .i64 0, .int .i64 0, .nil, .int .i64 0]), none, []⟩] none) <|
  .seq (.region [
     ⟨some 3, .fa 2 (.t 1), none, []⟩,
     ⟨some 4, .load false 1 (.t 3), none, []⟩,
     ⟨some 5, .call 88 [.t 4], none, []⟩,
     ⟨some 6, .fa 2 (.t 1), none, []⟩,
     ⟨none, .store 1 (.t 6) (.t 5), none, []⟩] none) <|
  .seq (.region [
     ⟨some 7, .load true 4 (.t 1), none, []⟩,
     ⟨none, .store 4 (.t 2) (.t 7), none, []⟩] none) <|
  .ret
abbrev n_warning_copied : Nat := 56
theorem b_warning_copied : bodyOf prog 56 [1000000] = some (c_warning_copied, [.c 2 true 4], 8) := by kernel_rfl

def c_ref36_point : ACode :=
  .seq (.region [
     ⟨some 1, .box 4 41 (.t 0), none, []⟩,
     ⟨some 2, .mv (.c (.bool false)), none, []⟩] none) <|
  .seq (.region [
     ⟨some 3, .fa 0 (.t 1), none, []⟩,
     ⟨some 4, .load false 1 (.t 3), none, []⟩,
     ⟨some 5, .call 59 [.t 4, .c (.int .i64 0), .c (.int .i64 11)], none, []⟩,
     ⟨some 6, .mv (.t 5), none, []⟩,
     ⟨some 7, .fa 1 (.t 1), some (6, true), []⟩,
     ⟨some 8, .load false 1 (.t 7), some (6, true), []⟩,
     ⟨some 9, .call 59 [.t 8, .c (.int .i64 1), .c (.int .i64 96)], some (6, true), []⟩,
     ⟨some 10, .pick (.t 6) (.t 9) (.c (.bool false)), none, []⟩,
     ⟨some 11, .mv (.t 10), none, []⟩,
     ⟨some 12, .fa 3 (.t 1), some (11, true), []⟩,
     ⟨some 13, .load false 1 (.t 12), some (11, true), []⟩,
     ⟨some 14, .call 59 [.t 13, .c (.int .i64 1), .c (.int .i64 96)], some (11, true), []⟩,
     ⟨some 15, .pick (.t 11) (.t 14) (.c (.bool false)), none, []⟩,
     ⟨some 16, .mv (.t 15), none, []⟩,
     ⟨some 17, .fa 2 (.t 1), some (16, true), []⟩,
     ⟨some 18, .load false 1 (.t 17), some (16, true), []⟩,
     ⟨some 19, .call 59 [.t 18, .c (.int .i64 0), .c (.int .i64 1073741824)], some (16, true), []⟩,
     ⟨some 20, .pick (.t 16) (.t 19) (.c (.bool false)), none, []⟩,
     ⟨some 2, .mv (.t 20), none, []⟩] none) <|
  .ret
abbrev n_ref36_point : Nat := 57
theorem b_ref36_point : bodyOf prog 57 [1000000] = some (c_ref36_point, [.t 2], 21) := by kernel_rfl

def c_ref36_flows : ACode :=
  .seq (.region [
     ⟨some 2, .mv (.c (.bool false)), none, []⟩] none) <|
  .seq (.seq (.region [
      ⟨some 5, .mv (.t 0), none, []⟩,
      ⟨some 6, .len (.t 5), none, []⟩,
      ⟨some 7, .mv (.c (.int .i64 0)), none, []⟩] none) <|
   .block 0 <|
   .loop <|
   .seq (.region [
      ⟨some 8, .bin .lss (.t 7) (.t 6), none, []⟩] none) <|
   .seq (.cond (.t 8) (.skip) <|
    .exit 0) <|
   .seq (.block 1 <|
    .seq (.region [
       ⟨some 9, .ixs 1 (.t 5) (.t 7), none, []⟩,
       ⟨some 10, .load false 1 (.t 9), none, []⟩,
       ⟨some 4, .mv (.t 10), none, []⟩] none) <|
    .seq (.region [
       ⟨some 11, .mv (.t 4), none, []⟩,
       ⟨some 12, .call 59 [.t 11, .c (.int .i64 0), .c (.int .i64 1073741824)], none, []⟩,
       ⟨some 13, .un .not (.t 12), none, []⟩] none) <|
    .cond (.t 13) (.seq (.region [
        ⟨some 2, .mv (.c (.bool false)), none, []⟩] none) <|
     .ret) <|
    .skip) <|
   .region [
     ⟨some 14, .bin .add (.t 7) (.c (.int .i64 1)), none, []⟩,
     ⟨some 7, .mv (.t 14), none, []⟩] none) <|
  .seq (.region [
     ⟨some 2, .mv (.c (.bool true)), none, []⟩] none) <|
  .ret
abbrev n_ref36_flows : Nat := 58
theorem b_ref36_flows : bodyOf prog 58 [1000000] = some (c_ref36_flows, [.t 2], 15) := by kernel_rfl

def c_ref36_in : ACode :=
  .seq (.region [
     ⟨some 6, .mv (.c (.bool false)), none, []⟩] none) <|
  .seq (.region [
     ⟨some 7, .mv (.t 0), none, []⟩,
     ⟨some 8, .mv (.t 1), none, []⟩,
     ⟨some 9, .bin .geq (.t 7) (.t 8), none, []⟩,
     ⟨some 10, .mv (.t 9), none, []⟩,
     ⟨some 11, .mv (.t 0), some (10, true), []⟩,
     ⟨some 12, .mv (.t 2), some (10, true), []⟩,
     ⟨some 13, .bin .leq (.t 11) (.t 12), some (10, true), []⟩,
     ⟨some 14, .pick (.t 10) (.t 13) (.c (.bool false)), none, []⟩,
     ⟨some 6, .mv (.t 14), none, []⟩] none) <|
  .ret
abbrev n_ref36_in : Nat := 59
theorem b_ref36_in : bodyOf prog 59 [1000000] = some (c_ref36_in, [.t 6], 15) := by kernel_rfl

def c_ref36_warning : ACode :=
  .seq (.region [
     ⟨some 1, .box 4 44 (.t 0), none, []⟩,
     ⟨some 2, .mv (.c (.bool false)), none, []⟩] none) <|
  .seq (.seq (.region [
      ⟨some 5, .fa 1 (.t 1), none, []⟩,
      ⟨some 6, .load false 1 (.t 5), none, []⟩,
      ⟨some 7, .call 59 [.t 6, .c (.int .i64 0), .c (.int .i64 16777216)], none, []⟩,
      ⟨some 8, .un .not (.t 7), none, []⟩,
      ⟨some 9, .mv (.t 8), none, []⟩,
      ⟨some 10, .fa 3 (.t 1), some (9, false), []⟩,
      ⟨some 11, .load false 1 (.t 10), some (9, false), []⟩,
      ⟨some 12, .call 59 [.t 11, .c (.int .i64 0), .c (.int .i64 96)], some (9, false), []⟩,
      ⟨some 13, .un .not (.t 12), some (9, false), []⟩,
      ⟨some 14, .pick (.t 9) (.c (.bool true)) (.t 13), none, []⟩,
      ⟨some 15, .mv (.t 14), none, []⟩,
      ⟨some 16, .fa 2 (.t 1), some (15, false), []⟩,
      ⟨some 17, .load false 1 (.t 16), some (15, false), []⟩,
      ⟨some 18, .len (.t 17), some (15, false), []⟩,
      ⟨some 19, .bin .gtr (.t 18) (.c (.int .i64 0)), some (15, false), []⟩,
      ⟨some 20, .mv (.t 19), some (15, false), []⟩,
      ⟨some 21, .fa 3 (.t 1), some (20, true), []⟩,
      ⟨some 22, .load false 1 (.t 21), some (20, true), []⟩,
      ⟨some 23, .bin .neq (.t 22) (.c (.int .i64 0)), some (20, true), []⟩,
      ⟨some 24, .pick (.t 20) (.t 23) (.c (.bool false)), some (15, false), []⟩,
      ⟨some 25, .pick (.t 15) (.c (.bool true)) (.t 24), none, []⟩] none) <|
   .cond (.t 25) (.seq (.region [
       ⟨some 2, .mv (.c (.bool false)), none, []⟩] none) <|
    .ret) <|
   .skip) <|
  .seq (.seq (.region [
      ⟨some 26, .fa 2 (.t 1), none, []⟩,
      ⟨some 27, .load false 1 (.t 26), none, []⟩,
      ⟨some 28, .len (.t 27), none, []⟩,
      ⟨some 29, .mv (.c (.int .i64 0)), none, []⟩] none) <|
   .block 0 <|
   .loop <|
   .seq (.region [
      ⟨some 30, .bin .lss (.t 29) (.t 28), none, []⟩] none) <|
   .seq (.cond (.t 30) (.skip) <|
    .exit 0) <|
   .seq (.block 1 <|
    .seq (.region [
       ⟨some 31, .mv (.t 29), none, []⟩,
       ⟨some 32, .ixs 2 (.t 27) (.t 29), none, []⟩,
       ⟨some 33, .load true 2 (.t 32), none, []⟩,
       ⟨some 4, .alloc 2 64 (.agg [.int .i64 0, .int .i64 0]), none, []⟩,
       ⟨some 3, .mv (.t 31), none, []⟩,
       ⟨none, .store 2 (.t 4) (.t 33), none, []⟩] none) <|
    .seq (.hregion [
       ⟨0, ⟨some 34, .load true 2 (.t 4), none, []⟩⟩,
       ⟨1, ⟨some 35, .call 80 [.t 34], none, [0]⟩⟩,
       ⟨2, ⟨some 36, .bin .neq (.t 35) (.c (.int .i64 0)), none, [1, 0]⟩⟩,
       ⟨3, ⟨some 37, .mv (.t 36), none, [2, 1, 0]⟩⟩,
       ⟨4, ⟨some 38, .mv (.t 3), some (37, false), [3, 2, 1, 0]⟩⟩,
       ⟨5, ⟨some 39, .bin .gtr (.t 38) (.c (.int .i64 0)), some (37, false), [4, 3, 2, 1, 0]⟩⟩,
       ⟨6, ⟨some 40, .mv (.t 39), some (37, false), [5, 3, 4, 2, 1, 0]⟩⟩,
       ⟨13, ⟨some 47, .load true 2 (.t 4), some (40, true), [6, 5, 3, 4, 2, 1, 0]⟩⟩,
       ⟨9, ⟨some 43, .mv (.t 3), some (40, true), [6, 5, 3, 4, 2, 1, 0]⟩⟩,
       ⟨10, ⟨some 44, .bin .sub (.t 43) (.c (.int .i64 1)), some (40, true), [9, 6, 5, 3, 4, 2, 1, 0]⟩⟩,
       ⟨7, ⟨some 41, .fa 2 (.t 1), some (40, true), [6, 5, 3, 4, 2, 1, 0]⟩⟩,
       ⟨8, ⟨some 42, .load false 1 (.t 41), some (40, true), [7, 6, 5, 3, 4, 2, 1, 0]⟩⟩,
       ⟨11, ⟨some 45, .ixs 2 (.t 42) (.t 44), some (40, true), [8, 10, 6, 7, 5, 3, 4, 2, 1, 0, 9]⟩⟩,
       ⟨12, ⟨some 46, .load true 2 (.t 45), some (40, true), [11, 6, 8, 10, 7, 5, 3, 4, 2, 1, 0, 9]⟩⟩,
       ⟨14, ⟨some 48, .call 89 [.t 46, .t 47], some (40, true), [12, 13, 6, 11, 8, 10, 7, 5, 3, 4, 2, 1, 0, 9]⟩⟩,
       ⟨15, ⟨some 49, .un .not (.t 48), some (40, true), [14, 6, 12, 13, 11, 8, 10, 7, 5, 3, 4, 2, 1, 0, 9]⟩⟩,
       ⟨16, ⟨some 50, .pick (.t 40) (.t 49) (.c (.bool false)), some (37, false), [6, 15, 3, 5, 4, 2, 1, 0, 14, 12, 13, 11, 8, 10, 7, 9]⟩⟩,
       ⟨17, ⟨some 51, .pick (.t 37) (.c (.bool true)) (.t 50), none, [3, 16, 2, 1, 0, 6, 15, 5, 4, 14, 12, 13, 11, 8, 10, 7, 9]⟩⟩]) <|
    .cond (.t 51) (.seq (.region [
        ⟨some 2, .mv (.c (.bool false)), none, []⟩] none) <|
     .ret) <|
    .skip) <|
   .region [
     ⟨some 52, .bin .add (.t 29) (.c (.int .i64 1)), none, []⟩,
     ⟨some 29, .mv (.t 52), none, []⟩] none) <|
  .seq (.region [
     ⟨some 2, .mv (.c (.bool true)), none, []⟩] none) <|
  .ret
abbrev n_ref36_warning : Nat := 60
theorem b_ref36_warning : bodyOf prog 60 [1000000] = some (c_ref36_warning, [.t 2], 53) := by kernel_rfl

def c_slices_Equal__Watch : ACode :=
  .seq (.region [
     ⟨some 4, .mv (.c (.bool false)), none, []⟩] none) <|
  .seq (.seq (.region [
      ⟨some 6, .mv (.t 0), none, []⟩,
      ⟨some 7, .len (.t 6), none, []⟩,
      ⟨some 8, .mv (.t 1), none, []⟩,
      ⟨some 9, .len (.t 8), none, []⟩,
      ⟨some 10, .bin .neq (.t 7) (.t 9), none, []⟩] none) <|
   .cond (.t 10) (.seq (.region [
       ⟨some 4, .mv (.c (.bool false)), none, []⟩] none) <|
    .ret) <|
   .skip) <|
  .seq (.seq (.region [
      ⟨some 11, .mv (.t 0), none, []⟩,
      ⟨some 12, .len (.t 11), none, []⟩,
      ⟨some 13, .mv (.c (.int .i64 0)), none, []⟩] none) <|
   .block 0 <|
   .loop <|
   .seq (.region [
      ⟨some 14, .bin .lss (.t 13) (.t 12), none, []⟩] none) <|
   .seq (.cond (.t 14) (.skip) <|
    .exit 0) <|
   .seq (.block 1 <|
    .seq (.region [
       ⟨some 15, .mv (.t 13), none, []⟩,
       ⟨some 5, .mv (.t 15), none, []⟩] none) <|
    .seq (.hregion [
       ⟨5, ⟨some 21, .mv (.t 5), none, []⟩⟩,
       ⟨4, ⟨some 20, .mv (.t 1), none, []⟩⟩,
       ⟨6, ⟨some 22, .ixs 4 (.t 20) (.t 21), none, [4, 5]⟩⟩,
       ⟨7, ⟨some 23, .load true 4 (.t 22), none, [6, 4, 5]⟩⟩,
       ⟨1, ⟨some 17, .mv (.t 5), none, []⟩⟩,
       ⟨0, ⟨some 16, .mv (.t 0), none, []⟩⟩,
       ⟨2, ⟨some 18, .ixs 4 (.t 16) (.t 17), none, [0, 1]⟩⟩,
       ⟨3, ⟨some 19, .load true 4 (.t 18), none, [2, 0, 1]⟩⟩,
       ⟨8, ⟨some 24, .eqs true [0, 0, 0, 0] (.t 19) (.t 23), none, [3, 7, 2, 0, 1, 6, 4, 5]⟩⟩]) <|
    .cond (.t 24) (.seq (.region [
        ⟨some 4, .mv (.c (.bool false)), none, []⟩] none) <|
     .ret) <|
    .skip) <|
   .region [
     ⟨some 25, .bin .add (.t 13) (.c (.int .i64 1)), none, []⟩,
     ⟨some 13, .mv (.t 25), none, []⟩] none) <|
  .seq (.region [
     ⟨some 4, .mv (.c (.bool true)), none, []⟩] none) <|
  .ret
abbrev n_slices_Equal__Watch : Nat := 61
theorem b_slices_Equal__Watch : bodyOf prog 61 [1000000] = some (c_slices_Equal__Watch, [.t 4], 26) := by kernel_rfl

def c_slices_EqualFunc__int : ACode :=
  .seq (.region [
     ⟨some 6, .mv (.c (.bool false)), none, []⟩] none) <|
  .seq (.seq (.region [
      ⟨some 10, .mv (.t 0), none, []⟩,
      ⟨some 11, .len (.t 10), none, []⟩,
      ⟨some 12, .mv (.t 1), none, []⟩,
      ⟨some 13, .len (.t 12), none, []⟩,
      ⟨some 14, .bin .neq (.t 11) (.t 13), none, []⟩] none) <|
   .cond (.t 14) (.seq (.region [
       ⟨some 6, .mv (.c (.bool false)), none, []⟩] none) <|
    .ret) <|
   .skip) <|
  .seq (.seq (.region [
      ⟨some 15, .mv (.t 0), none, []⟩,
      ⟨some 16, .len (.t 15), none, []⟩,
      ⟨some 17, .mv (.c (.int .i64 0)), none, []⟩] none) <|
   .block 0 <|
   .loop <|
   .seq (.region [
      ⟨some 18, .bin .lss (.t 17) (.t 16), none, []⟩] none) <|
   .seq (.cond (.t 18) (.skip) <|
    .exit 0) <|
   .seq (.block 1 <|
    .seq (.region [
       ⟨some 19, .mv (.t 17), none, []⟩,
       ⟨some 20, .ixs 1 (.t 15) (.t 17), none, []⟩,
       ⟨some 21, .load false 1 (.t 20), none, []⟩,
       ⟨some 7, .mv (.t 19), none, []⟩,
       ⟨some 8, .mv (.t 21), none, []⟩] none) <|
    .seq (.region [
       ⟨some 22, .mv (.t 1), none, []⟩,
       ⟨some 23, .mv (.t 7), none, []⟩,
       ⟨some 24, .ixs 1 (.t 22) (.t 23), none, []⟩,
       ⟨some 25, .load false 1 (.t 24), none, []⟩,
       ⟨some 9, .mv (.t 25), none, []⟩] none) <|
    .seq (.region [
       ⟨some 26, .mv (.t 2), none, []⟩,
       ⟨some 27, .mv (.t 8), none, []⟩,
       ⟨some 28, .mv (.t 9), none, []⟩,
       ⟨some 29, .callv (.t 26) [.t 27, .t 28], none, []⟩,
       ⟨some 30, .un .not (.t 29), none, []⟩] none) <|
    .cond (.t 30) (.seq (.region [
        ⟨some 6, .mv (.c (.bool false)), none, []⟩] none) <|
     .ret) <|
    .skip) <|
   .region [
     ⟨some 31, .bin .add (.t 17) (.c (.int .i64 1)), none, []⟩,
     ⟨some 17, .mv (.t 31), none, []⟩] none) <|
  .seq (.region [
     ⟨some 6, .mv (.c (.bool true)), none, []⟩] none) <|
  .ret
abbrev n_slices_EqualFunc__int : Nat := 62
theorem b_slices_EqualFunc__int : bodyOf prog 62 [1000000] = some (c_slices_EqualFunc__int, [.t 6], 32) := by kernel_rfl

def c_slices_Equal__int : ACode :=
  .seq (.region [
     ⟨some 4, .mv (.c (.bool false)), none, []⟩] none) <|
  .seq (.seq (.region [
      ⟨some 6, .mv (.t 0), none, []⟩,
      ⟨some 7, .len (.t 6), none, []⟩,
      ⟨some 8, .mv (.t 1), none, []⟩,
      ⟨some 9, .len (.t 8), none, []⟩,
      ⟨some 10, .bin .neq (.t 7) (.t 9), none, []⟩] none) <|
   .cond (.t 10) (.seq (.region [
       ⟨some 4, .mv (.c (.bool false)), none, []⟩] none) <|
    .ret) <|
   .skip) <|
  .seq (.seq (.region [
      ⟨some 11, .mv (.t 0), none, []⟩,
      ⟨some 12, .len (.t 11), none, []⟩,
      ⟨some 13, .mv (.c (.int .i64 0)), none, []⟩] none) <|
   .block 0 <|
   .loop <|
   .seq (.region [
      ⟨some 14, .bin .lss (.t 13) (.t 12), none, []⟩] none) <|
   .seq (.cond (.t 14) (.skip) <|
    .exit 0) <|
   .seq (.block 1 <|
    .seq (.region [
       ⟨some 15, .mv (.t 13), none, []⟩,
       ⟨some 5, .mv (.t 15), none, []⟩] none) <|
    .seq (.hregion [
       ⟨5, ⟨some 21, .mv (.t 5), none, []⟩⟩,
       ⟨4, ⟨some 20, .mv (.t 1), none, []⟩⟩,
       ⟨6, ⟨some 22, .ixs 1 (.t 20) (.t 21), none, [4, 5]⟩⟩,
       ⟨7, ⟨some 23, .load false 1 (.t 22), none, [6, 4, 5]⟩⟩,
       ⟨1, ⟨some 17, .mv (.t 5), none, []⟩⟩,
       ⟨0, ⟨some 16, .mv (.t 0), none, []⟩⟩,
       ⟨2, ⟨some 18, .ixs 1 (.t 16) (.t 17), none, [0, 1]⟩⟩,
       ⟨3, ⟨some 19, .load false 1 (.t 18), none, [2, 0, 1]⟩⟩,
       ⟨8, ⟨some 24, .bin .neq (.t 19) (.t 23), none, [3, 7, 2, 0, 1, 6, 4, 5]⟩⟩]) <|
    .cond (.t 24) (.seq (.region [
        ⟨some 4, .mv (.c (.bool false)), none, []⟩] none) <|
     .ret) <|
    .skip) <|
   .region [
     ⟨some 25, .bin .add (.t 13) (.c (.int .i64 1)), none, []⟩,
     ⟨some 13, .mv (.t 25), none, []⟩] none) <|
  .seq (.region [
     ⟨some 4, .mv (.c (.bool true)), none, []⟩] none) <|
  .ret
abbrev n_slices_Equal__int : Nat := 63
theorem b_slices_Equal__int : bodyOf prog 63 [1000000] = some (c_slices_Equal__int, [.t 4], 26) := by kernel_rfl

def c_slices_EqualFunc__Warning : ACode :=
  .seq (.region [
     ⟨some 6, .mv (.c (.bool false)), none, []⟩] none) <|
  .seq (.seq (.region [
      ⟨some 10, .mv (.t 0), none, []⟩,
      ⟨some 11, .len (.t 10), none, []⟩,
      ⟨some 12, .mv (.t 1), none, []⟩,
      ⟨some 13, .len (.t 12), none, []⟩,
      ⟨some 14, .bin .neq (.t 11) (.t 13), none, []⟩] none) <|
   .cond (.t 14) (.seq (.region [
       ⟨some 6, .mv (.c (.bool false)), none, []⟩] none) <|
    .ret) <|
   .skip) <|
  .seq (.seq (.region [
      ⟨some 15, .mv (.t 0), none, []⟩,
      ⟨some 16, .len (.t 15), none, []⟩,
      ⟨some 17, .mv (.c (.int .i64 0)), none, []⟩] none) <|
   .block 0 <|
   .loop <|
   .seq (.region [
      ⟨some 18, .bin .lss (.t 17) (.t 16), none, []⟩] none) <|
   .seq (.cond (.t 18) (.skip) <|
    .exit 0) <|
   .seq (.block 1 <|
    .seq (.region [
       ⟨some 19, .mv (.t 17), none, []⟩,
       ⟨some 20, .ixs 4 (.t 15) (.t 17), none, []⟩,
       ⟨some 21, .load true 4 (.t 20), none, []⟩,
       ⟨some 8, .alloc 4 44 (.agg [.int .i64 0, .int .i64 0, .nil, .int .i64 0]), none, []⟩,
       ⟨some 7, .mv (.t 19), none, []⟩,
       ⟨none, .store 4 (.t 8) (.t 21), none, []⟩] none) <|
    .seq (.region [
       ⟨some 22, .mv (.t 1), none, []⟩,
       ⟨some 23, .mv (.t 7), none, []⟩,
       ⟨some 24, .ixs 4 (.t 22) (.t 23), none, []⟩,
       ⟨some 25, .load true 4 (.t 24), none, []⟩,
       ⟨some 9, .alloc 4 44 (.agg [.int .i64 0, .int .i64 0, .nil, .int .i64 0]), none, []⟩,
       ⟨none, .store 4 (.t 9) (.t 25), none, []⟩] none) <|
    .seq (.region [
       ⟨some 26, .mv (.t 2), none, []⟩,
       ⟨some 27, .load true 4 (.t 8), none, []⟩,
       ⟨some 28, .load true 4 (.t 9), none, []⟩,
       ⟨some 29, .callv (.t 26) [.t 27, .t 28], none, []⟩,
       ⟨some 30, .un .not (.t 29), none, []⟩] none) <|
    .cond (.t 30) (.seq (.region [
        ⟨some 6, .mv (.c (.bool false)), none, []⟩] none) <|
     .ret) <|
    .skip) <|
   .region [
     ⟨some 31, .bin .add (.t 17) (.c (.int .i64 1)), none, []⟩,
     ⟨some 17, .mv (.t 31), none, []⟩] none) <|
  .seq (.region [
     ⟨some 6, .mv (.c (.bool true)), none, []⟩] none) <|
  .ret
abbrev n_slices_EqualFunc__Warning : Nat := 64
theorem b_slices_EqualFunc__Warning : bodyOf prog 64 [1000000] = some (c_slices_EqualFunc__Warning, [.t 6], 32) := by kernel_rfl

def c_warning_alike : ACode :=
  .seq (.region [
     ⟨some 2, .box 4 44 (.t 0), none, []⟩,
     ⟨some 3, .box 4 44 (.t 1), none, []⟩,
     ⟨some 4, .mv (.c (.bool false)), none, []⟩] none) <|
  .seq (.region [
     ⟨some 5, .fa 0 (.t 2), none, []⟩,
     ⟨some 6, .load false 1 (.t 5), none, []⟩,
     ⟨some 7, .fa 0 (.t 3), none, []⟩,
     ⟨some 8, .load false 1 (.t 7), none, []⟩,
     ⟨some 9, .bin .eql (.t 6) (.t 8), none, []⟩,
     ⟨some 10, .mv (.t 9), none, []⟩,
     ⟨some 11, .fa 1 (.t 2), some (10, true), []⟩,
     ⟨some 12, .load false 1 (.t 11), some (10, true), []⟩,
     ⟨some 13, .fa 1 (.t 3), some (10, true), []⟩,
     ⟨some 14, .load false 1 (.t 13), some (10, true), []⟩,
     ⟨some 15, .bin .eql (.t 12) (.t 14), some (10, true), []⟩,
     ⟨some 16, .pick (.t 10) (.t 15) (.c (.bool false)), none, []⟩,
     ⟨some 17, .mv (.t 16), none, []⟩,
     ⟨some 18, .fa 3 (.t 2), some (17, true), []⟩,
     ⟨some 19, .load false 1 (.t 18), some (17, true), []⟩,
     ⟨some 20, .fa 3 (.t 3), some (17, true), []⟩,
     ⟨some 21, .load false 1 (.t 20), some (17, true), []⟩,
     ⟨some 22, .bin .eql (.t 19) (.t 21), some (17, true), []⟩,
     ⟨some 23, .pick (.t 17) (.t 22) (.c (.bool false)), none, []⟩,
     ⟨some 24, .mv (.t 23), none, []⟩,
     ⟨some 25, .fa 2 (.t 2), some (24, true), []⟩,
     ⟨some 26, .load false 1 (.t 25), some (24, true), []⟩,
     ⟨some 27, .fa 2 (.t 3), some (24, true), []⟩,
     ⟨some 28, .load false 1 (.t 27), some (24, true), []⟩,
     ⟨some 29, .call 90 [.t 26, .t 28], some (24, true), []⟩,
     ⟨some 30, .pick (.t 24) (.t 29) (.c (.bool false)), none, []⟩,
     ⟨some 4, .mv (.t 30), none, []⟩] none) <|
  .ret
abbrev n_warning_alike : Nat := 65
theorem b_warning_alike : bodyOf prog 65 [1000000] = some (c_warning_alike, [.t 4], 31) := by kernel_rfl

def c_ref36_Copy : ACode :=
  .seq (.region [
     ⟨some 1, .box 3 31 (.t 0), none, []⟩,
     ⟨some 2, .alloc 3 31 (.agg [.nil, .nil, .nil]), none, []⟩] none) <|
  .seq (.region [
     ⟨some 8, .fa 0 (.t 1), none, []⟩,
     ⟨some 9, .load false 1 (.t 8), none, []⟩,
     ⟨some 10, .app 4 32 41 (.c (.nil)) (.t 9), none, []⟩,
     ⟨some 11, .build [.nil, .nil, .nil] [(0, 1, .t 10)], none, []⟩,
     ⟨some 3, .alloc 3 31 (.agg [.nil, .nil, .nil]), none, []⟩,
     ⟨none, .store 3 (.t 3) (.t 11), none, []⟩] none) <|
  .seq (.seq (.region [
      ⟨some 12, .fa 1 (.t 1), none, []⟩,
      ⟨some 13, .load false 1 (.t 12), none, []⟩,
      ⟨some 14, .len (.t 13), none, []⟩,
      ⟨some 15, .mv (.c (.int .i64 0)), none, []⟩] none) <|
   .block 0 <|
   .loop <|
   .seq (.region [
      ⟨some 16, .bin .lss (.t 15) (.t 14), none, []⟩] none) <|
   .seq (.cond (.t 16) (.skip) <|
    .exit 0) <|
   .seq (.block 1 <|
    .seq (.region [
       ⟨some 17, .ixs 1 (.t 13) (.t 15), none, []⟩,
       ⟨some 18, .load false 1 (.t 17), none, []⟩,
       ⟨some 5, .mv (.t 18), none, []⟩] none) <|
    .hregion [
      ⟨2, ⟨some 21, .mv (.t 5), none, []⟩⟩,
      ⟨0, ⟨some 19, .fa 1 (.t 3), none, []⟩⟩,
      ⟨1, ⟨some 20, .load false 1 (.t 19), none, [0]⟩⟩,
      ⟨3, ⟨some 22, .app 1 8 3 (.c (.nil)) (.t 21), none, [2]⟩⟩,
      ⟨4, ⟨some 23, .lit true 1 22 [.t 22], none, [3, 2]⟩⟩,
      ⟨5, ⟨some 24, .app 1 24 22 (.t 20) (.t 23), none, [1, 4, 3, 0, 2]⟩⟩,
      ⟨6, ⟨some 25, .fa 1 (.t 3), none, [0, 1, 2, 3, 4, 5]⟩⟩,
      ⟨7, ⟨none, .store 1 (.t 25) (.t 24), none, [6, 5, 0, 1, 2, 3, 4]⟩⟩]) <|
   .region [
     ⟨some 26, .bin .add (.t 15) (.c (.int .i64 1)), none, []⟩,
     ⟨some 15, .mv (.t 26), none, []⟩] none) <|
  .seq (.seq (.region [
      ⟨some 27, .fa 2 (.t 1), none, []⟩,
      ⟨some 28, .load false 1 (.t 27), none, []⟩,
      ⟨some 29, .len (.t 28), none, []⟩,
      ⟨some 30, .mv (.c (.int .i64 0)), none, []⟩] none) <|
   .block 2 <|
   .loop <|
   .seq (.region [
      ⟨some 31, .bin .lss (.t 30) (.t 29), none, []⟩] none) <|
   .seq (.cond (.t 31) (.skip) <|
    .exit 2) <|
   .seq (.block 3 <|
    .seq (.region [
       ⟨some 32, .ixs 4 (.t 28) (.t 30), none, []⟩,
       ⟨some 33, .load true 4 (.t 32), none, []⟩,
       ⟨some 7, .alloc 4 44 (.agg [.int .i64 0, .int .i64 0, .nil, .int .i64 0]), none, []⟩,
       ⟨none, .store 4 (.t 7) (.t 33), none, []⟩] none) <|
    .seq (.region [
       ⟨some 34, .fa 2 (.t 7), none, []⟩,
       ⟨some 35, .load false 1 (.t 34), none, []⟩,
       ⟨some 36, .app 2 16 64 (.c (.nil)) (.t 35), none, []⟩,
       ⟨some 37, .fa 2 (.t 7), none, []⟩,
       ⟨none, .store 1 (.t 37) (.t 36), none, []⟩] none) <|
    .region [
      ⟨some 38, .fa 2 (.t 3), none, []⟩,
      ⟨some 39, .load false 1 (.t 38), none, []⟩,
      ⟨some 40, .load true 4 (.t 7), none, []⟩,
      ⟨some 41, .lit true 4 44 [.t 40], none, []⟩,
      ⟨some 42, .app 4 48 44 (.t 39) (.t 41), none, []⟩,
      ⟨some 43, .fa 2 (.t 3), none, []⟩,
      ⟨none, .store 1 (.t 43) (.t 42), none, []⟩] none) <|
   .region [
     ⟨some 44, .bin .add (.t 30) (.c (.int .i64 1)), none, []⟩,
     ⟨some 30, .mv (.t 44), none, []⟩] none) <|
  .seq (.region [
     ⟨some 45, .load true 3 (.t 3), none, []⟩,
     ⟨none, .store 3 (.t 2) (.t 45), none, []⟩] none) <|
  .ret
abbrev n_ref36_Copy : Nat := 68
theorem b_ref36_Copy : bodyOf prog 68 [23, 41, 1000000] = some (c_ref36_Copy, [.c 2 true 3], 46) := by kernel_rfl

def c_ref35_Rise : ACode :=
  .seq (.region [
     ⟨some 6, .mv (.c (.int .i64 0)), none, []⟩] none) <|
  .seq (.region [
     ⟨some 10, .mv (.t 0), none, []⟩,
     ⟨some 11, .mv (.t 1), none, []⟩,
     ⟨some 12, .call 91 [.t 10, .t 11], none, []⟩,
     ⟨some 9, .mv (.t 12), none, []⟩,
     ⟨some 13, .ext (.t 9) 0, none, []⟩,
     ⟨some 14, .ext (.t 9) 1, none, []⟩,
     ⟨some 7, .mv (.t 13), none, []⟩,
     ⟨some 8, .mv (.t 14), none, []⟩] none) <|
  .seq (.seq (.region [
      ⟨some 15, .mv (.t 8), none, []⟩,
      ⟨some 16, .un .not (.t 15), none, []⟩] none) <|
   .cond (.t 16) (.seq (.region [
       ⟨some 6, .mv (.c (.int .i64 0)), none, []⟩] none) <|
    .ret) <|
   .skip) <|
  .seq (.region [
     ⟨some 17, .mv (.t 2), none, []⟩,
     ⟨some 18, .mv (.t 7), none, []⟩,
     ⟨some 19, .bin .sub (.t 17) (.t 18), none, []⟩,
     ⟨some 20, .mnx true (.c (.int .i64 0)) [.t 19], none, []⟩,
     ⟨some 6, .mv (.t 20), none, []⟩] none) <|
  .ret
abbrev n_ref35_Rise : Nat := 69
theorem b_ref35_Rise : bodyOf prog 69 [] = some (c_ref35_Rise, [.t 6], 21) := by kernel_rfl

def c_warning_watched : ACode :=
  .seq (.region [
     ⟨some 2, .mv (.c (.int .i64 0)), none, []⟩] none) <|
  .seq (.seq (.region [
      ⟨some 5, .mv (.t 0), none, []⟩,
      ⟨some 6, .len (.t 5), none, []⟩,
      ⟨some 7, .bin .gtr (.t 6) (.c (.int .i64 8)), none, []⟩] none) <|
   .cond (.t 7) (.seq (.region [
       ⟨some 2, .mv (.c (.int .i64 10)), none, []⟩] none) <|
    .ret) <|
   .skip) <|
  .seq (.seq (.region [
      ⟨some 8, .mv (.t 0), none, []⟩,
      ⟨some 9, .len (.t 8), none, []⟩,
      ⟨some 10, .mv (.c (.int .i64 0)), none, []⟩] none) <|
   .block 0 <|
   .loop <|
   .seq (.region [
      ⟨some 11, .bin .lss (.t 10) (.t 9), none, []⟩] none) <|
   .seq (.cond (.t 11) (.skip) <|
    .exit 0) <|
   .seq (.block 1 <|
    .seq (.region [
       ⟨some 12, .ixs 4 (.t 8) (.t 10), none, []⟩,
       ⟨some 13, .load true 4 (.t 12), none, []⟩,
       ⟨some 4, .alloc 4 41 (.agg [.int .i64 0, .int .i64 0, .int .i64 0, .int .i64 0]), none, []⟩,
       ⟨none, .store 4 (.t 4) (.t 13), none, []⟩] none) <|
    .seq (.region [
       ⟨some 14, .fa 0 (.t 4), none, []⟩,
       ⟨some 15, .load false 1 (.t 14), none, []⟩,
       ⟨some 16, .bin .lss (.t 15) (.c (.int .i64 0)), none, []⟩,
       ⟨some 17, .mv (.t 16), none, []⟩,
       ⟨some 18, .fa 0 (.t 4), some (17, false), []⟩,
       ⟨some 19, .load false 1 (.t 18), some (17, false), []⟩,
       ⟨some 20, .bin .geq (.t 19) (.c (.int .i64 12)), some (17, false), []⟩,
       ⟨some 21, .pick (.t 17) (.c (.bool true)) (.t 20), none, []⟩,
       ⟨some 22, .mv (.t 21), none, []⟩,
       ⟨some 23, .fa 1 (.t 4), some (22, false), []⟩,
       ⟨some 24, .load false 1 (.t 23), some (22, false), []⟩,
       ⟨some 25, .bin .lss (.t 24) (.c (.int .i64 1)), some (22, false), []⟩,
       ⟨some 26, .pick (.t 22) (.c (.bool true)) (.t 25), none, []⟩,
       ⟨some 27, .mv (.t 26), none, []⟩,
       ⟨some 28, .fa 1 (.t 4), some (27, false), []⟩,
       ⟨some 29, .load false 1 (.t 28), some (27, false), []⟩,
       ⟨some 30, .bin .gtr (.t 29) (.c (.int .i64 96)), some (27, false), []⟩,
       ⟨some 31, .pick (.t 27) (.c (.bool true)) (.t 30), none, []⟩,
       ⟨some 32, .mv (.t 31), none, []⟩,
       ⟨some 33, .fa 3 (.t 4), some (32, false), []⟩,
       ⟨some 34, .load false 1 (.t 33), some (32, false), []⟩,
       ⟨some 35, .bin .lss (.t 34) (.c (.int .i64 1)), some (32, false), []⟩,
       ⟨some 36, .pick (.t 32) (.c (.bool true)) (.t 35), none, []⟩,
       ⟨some 37, .mv (.t 36), none, []⟩,
       ⟨some 38, .fa 3 (.t 4), some (37, false), []⟩,
       ⟨some 39, .load false 1 (.t 38), some (37, false), []⟩,
       ⟨some 40, .bin .gtr (.t 39) (.c (.int .i64 96)), some (37, false), []⟩,
       ⟨some 41, .pick (.t 37) (.c (.bool true)) (.t 40), none, []⟩,
       ⟨some 42, .mv (.t 41), none, []⟩,
       ⟨some 43, .fa 2 (.t 4), some (42, false), []⟩,
       ⟨some 44, .load false 1 (.t 43), some (42, false), []⟩,
       ⟨some 45, .call 50 [.t 44], some (42, false), []⟩,
       ⟨some 46, .pick (.t 42) (.c (.bool true)) (.t 45), none, []⟩] none) <|
    .cond (.t 46) (.seq (.region [
        ⟨some 2, .mv (.c (.int .i64 52)), none, []⟩] none) <|
     .ret) <|
    .skip) <|
   .region [
     ⟨some 47, .bin .add (.t 10) (.c (.int .i64 1)), none, []⟩,
     ⟨some 10, .mv (.t 47), none, []⟩] none) <|
  .seq (.region [
     ⟨some 2, .mv (.c (.int .i64 0)), none, []⟩] none) <|
  .ret
abbrev n_warning_watched : Nat := 70
theorem b_warning_watched : bodyOf prog 70 [1000000] = some (c_warning_watched, [.t 2], 48) := by kernel_rfl

def c_ref36_Cause : ACode :=
  .seq (.region [
     ⟨some 1, .box 2 64 (.t 0), none, []⟩,
     ⟨some 2, .mv (.c (.int .i64 0)), none, []⟩] none) <|
  .seq (.seq (.region [
      ⟨some 3, .fa 0 (.t 1), none, []⟩,
      ⟨some 4, .load false 1 (.t 3), none, []⟩,
      ⟨some 5, .call 59 [.t 4, .c (.int .i64 1), .c (.int .i64 4)], none, []⟩,
      ⟨some 6, .un .not (.t 5), none, []⟩] none) <|
   .cond (.t 6) (.seq (.region [
       ⟨some 2, .mv (.c (.int .i64 5)), none, []⟩] none) <|
    .ret) <|
   .skip) <|
  .seq (.seq (.region [
      ⟨some 7, .fa 1 (.t 1), none, []⟩,
      ⟨some 8, .load false 1 (.t 7), none, []⟩,
      ⟨some 9, .call 59 [.t 8, .c (.int .i64 0), .c (.int .i64 5)], none, []⟩,
      ⟨some 10, .un .not (.t 9), none, []⟩] none) <|
   .cond (.t 10) (.seq (.region [
       ⟨some 2, .mv (.c (.int .i64 40)), none, []⟩] none) <|
    .ret) <|
   .skip) <|
  .seq (.region [
     ⟨some 2, .mv (.c (.int .i64 0)), none, []⟩] none) <|
  .ret
abbrev n_ref36_Cause : Nat := 80
theorem b_ref36_Cause : bodyOf prog 80 [1000000] = some (c_ref36_Cause, [.t 2], 11) := by kernel_rfl

def c_ref37_place : ACode :=
  .seq (.region [
     ⟨some 2, .box 3 31 (.t 0), none, []⟩,
     ⟨some 4, .mv (.c (.int .i64 0)), none, []⟩,
     ⟨some 5, .mv (.c (.bool false)), none, []⟩] none) <|
  .seq (.seq (.region [
      ⟨some 8, .fa 2 (.t 2), none, []⟩,
      ⟨some 9, .load false 1 (.t 8), none, []⟩,
      ⟨some 10, .len (.t 9), none, []⟩,
      ⟨some 11, .mv (.c (.int .i64 0)), none, []⟩] none) <|
   .block 0 <|
   .loop <|
   .seq (.region [
      ⟨some 12, .bin .lss (.t 11) (.t 10), none, []⟩] none) <|
   .seq (.cond (.t 12) (.skip) <|
    .exit 0) <|
   .seq (.block 1 <|
    .seq (.region [
       ⟨some 13, .mv (.t 11), none, []⟩,
       ⟨some 14, .ixs 4 (.t 9) (.t 11), none, []⟩,
       ⟨some 15, .load true 4 (.t 14), none, []⟩,
       ⟨some 7, .alloc 4 44 (.agg [.int .i64 0, .int .i64 0, .nil, .int .i64 0]), none, []⟩,
       ⟨some 6, .mv (.t 13), none, []⟩,
       ⟨none, .store 4 (.t 7) (.t 15), none, []⟩] none) <|
    .seq (.region [
       ⟨some 16, .fa 0 (.t 7), none, []⟩,
       ⟨some 17, .load false 1 (.t 16), none, []⟩,
       ⟨some 18, .mv (.t 1), none, []⟩,
       ⟨some 19, .bin .geq (.t 17) (.t 18), none, []⟩] none) <|
    .cond (.t 19) (.seq (.hregion [
        ⟨3, ⟨some 23, .mv (.t 1), none, []⟩⟩,
        ⟨1, ⟨some 21, .fa 0 (.t 7), none, []⟩⟩,
        ⟨2, ⟨some 22, .load false 1 (.t 21), none, [1]⟩⟩,
        ⟨4, ⟨some 24, .bin .eql (.t 22) (.t 23), none, [2, 3, 1]⟩⟩,
        ⟨0, ⟨some 20, .mv (.t 6), none, []⟩⟩,
        ⟨5, ⟨some 4, .mv (.t 20), none, [0]⟩⟩,
        ⟨6, ⟨some 5, .mv (.t 24), none, [4, 5, 0, 1, 2, 3]⟩⟩]) <|
     .ret) <|
    .skip) <|
   .region [
     ⟨some 25, .bin .add (.t 11) (.c (.int .i64 1)), none, []⟩,
     ⟨some 11, .mv (.t 25), none, []⟩] none) <|
  .seq (.region [
     ⟨some 26, .fa 2 (.t 2), none, []⟩,
     ⟨some 27, .load false 1 (.t 26), none, []⟩,
     ⟨some 28, .len (.t 27), none, []⟩,
     ⟨some 4, .mv (.t 28), none, []⟩,
     ⟨some 5, .mv (.c (.bool false)), none, []⟩] none) <|
  .ret
abbrev n_ref37_place : Nat := 81
theorem b_ref37_place : bodyOf prog 81 [1000000] = some (c_ref37_place, [.t 4, .t 5], 29) := by kernel_rfl

def c_ref37_has : ACode :=
  .seq (.region [
     ⟨some 3, .box 2 64 (.t 1), none, []⟩,
     ⟨some 4, .mv (.c (.int .i64 0)), none, []⟩,
     ⟨some 5, .mv (.c (.bool false)), none, []⟩] none) <|
  .seq (.seq (.region [
      ⟨some 8, .mv (.t 0), none, []⟩,
      ⟨some 9, .len (.t 8), none, []⟩,
      ⟨some 10, .mv (.c (.int .i64 0)), none, []⟩] none) <|
   .block 0 <|
   .loop <|
   .seq (.region [
      ⟨some 11, .bin .lss (.t 10) (.t 9), none, []⟩] none) <|
   .seq (.cond (.t 11) (.skip) <|
    .exit 0) <|
   .seq (.block 1 <|
    .seq (.region [
       ⟨some 12, .mv (.t 10), none, []⟩,
       ⟨some 13, .ixs 2 (.t 8) (.t 10), none, []⟩,
       ⟨some 14, .load true 2 (.t 13), none, []⟩,
       ⟨some 7, .alloc 2 64 (.agg [.int .i64 0, .int .i64 0]), none, []⟩,
       ⟨some 6, .mv (.t 12), none, []⟩,
       ⟨none, .store 2 (.t 7) (.t 14), none, []⟩] none) <|
    .seq (.region [
       ⟨some 15, .load true 2 (.t 7), none, []⟩,
       ⟨some 16, .load true 2 (.t 3), none, []⟩,
       ⟨some 17, .call 89 [.t 15, .t 16], none, []⟩,
       ⟨some 18, .un .not (.t 17), none, []⟩] none) <|
    .cond (.t 18) (.seq (.hregion [
        ⟨2, ⟨some 21, .load true 2 (.t 3), none, []⟩⟩,
        ⟨1, ⟨some 20, .load true 2 (.t 7), none, []⟩⟩,
        ⟨3, ⟨some 22, .eqs false [0, 0] (.t 20) (.t 21), none, [1, 2]⟩⟩,
        ⟨0, ⟨some 19, .mv (.t 6), none, []⟩⟩,
        ⟨4, ⟨some 4, .mv (.t 19), none, [0]⟩⟩,
        ⟨5, ⟨some 5, .mv (.t 22), none, [3, 4, 0, 1, 2]⟩⟩]) <|
     .ret) <|
    .skip) <|
   .region [
     ⟨some 23, .bin .add (.t 10) (.c (.int .i64 1)), none, []⟩,
     ⟨some 10, .mv (.t 23), none, []⟩] none) <|
  .seq (.region [
     ⟨some 24, .mv (.t 0), none, []⟩,
     ⟨some 25, .len (.t 24), none, []⟩,
     ⟨some 4, .mv (.t 25), none, []⟩,
     ⟨some 5, .mv (.c (.bool false)), none, []⟩] none) <|
  .ret
abbrev n_ref37_has : Nat := 82
theorem b_ref37_has : bodyOf prog 82 [1000000] = some (c_ref37_has, [.t 4, .t 5], 26) := by kernel_rfl

def c_warning_caused : ACode :=
  .seq (.region [
     ⟨some 2, .mv (.c (.bool false)), none, []⟩] none) <|
  .seq (.region [
     ⟨some 7, .build [.int .i64 0, .int .i64 0] [], none, []⟩,
     ⟨some 3, .alloc 2 117 (.agg [.int .i64 0, .int .i64 0]), none, []⟩,
     ⟨none, .store 2 (.t 3) (.t 7), none, []⟩] none) <|
  .seq (.seq (.region [
      ⟨some 8, .mv (.t 0), none, []⟩,
      ⟨some 9, .len (.t 8), none, []⟩,
      ⟨some 10, .mv (.c (.int .i64 0)), none, []⟩] none) <|
   .block 0 <|
   .loop <|
   .seq (.region [
      ⟨some 11, .bin .lss (.t 10) (.t 9), none, []⟩] none) <|
   .seq (.cond (.t 11) (.skip) <|
    .exit 0) <|
   .seq (.block 1 <|
    .seq (.region [
       ⟨some 12, .ixs 2 (.t 8) (.t 10), none, []⟩,
       ⟨some 13, .load true 2 (.t 12), none, []⟩,
       ⟨some 5, .alloc 2 64 (.agg [.int .i64 0, .int .i64 0]), none, []⟩,
       ⟨none, .store 2 (.t 5) (.t 13), none, []⟩] none) <|
    .seq (.region [
       ⟨some 14, .fa 0 (.t 5), none, []⟩,
       ⟨some 15, .load false 1 (.t 14), none, []⟩,
       ⟨some 16, .fa 1 (.t 5), none, []⟩,
       ⟨some 17, .load false 1 (.t 16), none, []⟩,
       ⟨some 18, .build [.int .i64 0, .int .i64 0] [(0, 1, .t 15), (1, 1, .t 17)], none, []⟩,
       ⟨some 6, .alloc 2 117 (.agg [.int .i64 0, .int .i64 0]), none, []⟩,
       ⟨none, .store 2 (.t 6) (.t 18), none, []⟩] none) <|
    .seq (.seq (.hregion [
        ⟨0, ⟨some 19, .fa 0 (.t 5), none, []⟩⟩,
        ⟨1, ⟨some 20, .load false 1 (.t 19), none, [0]⟩⟩,
        ⟨2, ⟨some 21, .bin .lss (.t 20) (.c (.int .i64 1)), none, [1, 0]⟩⟩,
        ⟨3, ⟨some 22, .mv (.t 21), none, [2, 1, 0]⟩⟩,
        ⟨4, ⟨some 23, .fa 0 (.t 5), some (22, false), [3, 2, 1, 0]⟩⟩,
        ⟨5, ⟨some 24, .load false 1 (.t 23), some (22, false), [4, 3, 2, 1, 0]⟩⟩,
        ⟨6, ⟨some 25, .bin .gtr (.t 24) (.c (.int .i64 4)), some (22, false), [5, 3, 4, 2, 1, 0]⟩⟩,
        ⟨7, ⟨some 26, .pick (.t 22) (.c (.bool true)) (.t 25), none, [3, 6, 2, 1, 0, 5, 4]⟩⟩,
        ⟨8, ⟨some 27, .mv (.t 26), none, [7, 3, 6, 2, 1, 0, 5, 4]⟩⟩,
        ⟨9, ⟨some 28, .fa 1 (.t 5), some (27, false), [8, 7, 3, 6, 2, 1, 0, 5, 4]⟩⟩,
        ⟨10, ⟨some 29, .load false 1 (.t 28), some (27, false), [9, 8, 7, 3, 6, 2, 1, 0, 5, 4]⟩⟩,
        ⟨11, ⟨some 30, .bin .lss (.t 29) (.c (.int .i64 0)), some (27, false), [10, 8, 9, 7, 3, 6, 2, 1, 0, 5, 4]⟩⟩,
        ⟨12, ⟨some 31, .pick (.t 27) (.c (.bool true)) (.t 30), none, [8, 11, 7, 3, 6, 2, 1, 0, 5, 4, 10, 9]⟩⟩,
        ⟨13, ⟨some 32, .mv (.t 31), none, [12, 8, 11, 7, 3, 6, 2, 1, 0, 5, 4, 10, 9]⟩⟩,
        ⟨14, ⟨some 33, .fa 1 (.t 5), some (32, false), [13, 12, 8, 11, 7, 3, 6, 2, 1, 0, 5, 4, 10, 9]⟩⟩,
        ⟨15, ⟨some 34, .load false 1 (.t 33), some (32, false), [14, 13, 12, 8, 11, 7, 3, 6, 2, 1, 0, 5, 4, 10, 9]⟩⟩,
        ⟨16, ⟨some 35, .bin .geq (.t 34) (.c (.int .i64 6)), some (32, false), [15, 13, 14, 12, 8, 11, 7, 3, 6, 2, 1, 0, 5, 4, 10, 9]⟩⟩,
        ⟨17, ⟨some 36, .pick (.t 32) (.c (.bool true)) (.t 35), none, [13, 16, 12, 8, 11, 7, 3, 6, 2, 1, 0, 5, 4, 10, 9, 15, 14]⟩⟩,
        ⟨18, ⟨some 37, .mv (.t 36), none, [17, 13, 16, 12, 8, 11, 7, 3, 6, 2, 1, 0, 5, 4, 10, 9, 15, 14]⟩⟩,
        ⟨20, ⟨some 39, .slca 1 2 (.t 3) none none, some (37, false), [18, 17, 13, 16, 12, 8, 11, 7, 3, 6, 2, 1, 0, 5, 4, 10, 9, 15, 14]⟩⟩,
        ⟨19, ⟨some 38, .slca 1 2 (.t 6) none none, some (37, false), [18, 17, 13, 16, 12, 8, 11, 7, 3, 6, 2, 1, 0, 5, 4, 10, 9, 15, 14]⟩⟩,
        ⟨21, ⟨some 40, .call 95 [.t 38, .t 39], some (37, false), [19, 20, 18, 17, 13, 16, 12, 8, 11, 7, 3, 6, 2, 1, 0, 5, 4, 10, 9, 15, 14]⟩⟩,
        ⟨22, ⟨some 41, .bin .leq (.t 40) (.c (.int .i64 0)), some (37, false), [21, 18, 19, 20, 17, 13, 16, 12, 8, 11, 7, 3, 6, 2, 1, 0, 5, 4, 10, 9, 15, 14]⟩⟩,
        ⟨23, ⟨some 42, .pick (.t 37) (.c (.bool true)) (.t 41), none, [18, 22, 17, 13, 16, 12, 8, 11, 7, 3, 6, 2, 1, 0, 5, 4, 10, 9, 15, 14, 21, 19, 20]⟩⟩]) <|
     .cond (.t 42) (.seq (.region [
         ⟨some 2, .mv (.c (.bool false)), none, []⟩] none) <|
      .ret) <|
     .skip) <|
    .region [
      ⟨some 43, .load true 2 (.t 6), none, []⟩,
      ⟨none, .store 2 (.t 3) (.t 43), none, []⟩] none) <|
   .region [
     ⟨some 44, .bin .add (.t 10) (.c (.int .i64 1)), none, []⟩,
     ⟨some 10, .mv (.t 44), none, []⟩] none) <|
  .seq (.region [
     ⟨some 2, .mv (.c (.bool true)), none, []⟩] none) <|
  .ret
abbrev n_warning_caused : Nat := 84
theorem b_warning_caused : bodyOf prog 84 [1000000] = some (c_warning_caused, [.t 2], 45) := by kernel_rfl

def c_slices_IndexFunc__int : ACode :=
  .seq (.region [
     ⟨some 4, .mv (.c (.int .i64 0)), none, []⟩] none) <|
  .seq (.seq (.region [
      ⟨some 6, .mv (.t 0), none, []⟩,
      ⟨some 7, .len (.t 6), none, []⟩,
      ⟨some 8, .mv (.c (.int .i64 0)), none, []⟩] none) <|
   .block 0 <|
   .loop <|
   .seq (.region [
      ⟨some 9, .bin .lss (.t 8) (.t 7), none, []⟩] none) <|
   .seq (.cond (.t 9) (.skip) <|
    .exit 0) <|
   .seq (.block 1 <|
    .seq (.region [
       ⟨some 10, .mv (.t 8), none, []⟩,
       ⟨some 5, .mv (.t 10), none, []⟩] none) <|
    .seq (.region [
       ⟨some 11, .mv (.t 1), none, []⟩,
       ⟨some 12, .mv (.t 0), none, []⟩,
       ⟨some 13, .mv (.t 5), none, []⟩,
       ⟨some 14, .ixs 1 (.t 12) (.t 13), none, []⟩,
       ⟨some 15, .load false 1 (.t 14), none, []⟩,
       ⟨some 16, .callv (.t 11) [.t 15], none, []⟩] none) <|
    .cond (.t 16) (.seq (.region [
        ⟨some 17, .mv (.t 5), none, []⟩,
        ⟨some 4, .mv (.t 17), none, []⟩] none) <|
     .ret) <|
    .skip) <|
   .region [
     ⟨some 18, .bin .add (.t 8) (.c (.int .i64 1)), none, []⟩,
     ⟨some 8, .mv (.t 18), none, []⟩] none) <|
  .seq (.region [
     ⟨some 4, .mv (.c (.int .i64 (-1))), none, []⟩] none) <|
  .ret
abbrev n_slices_IndexFunc__int : Nat := 85
theorem b_slices_IndexFunc__int : bodyOf prog 85 [] = some (c_slices_IndexFunc__int, [.t 4], 19) := by kernel_rfl

def c_rise_least : ACode :=
  .seq (.region [
     ⟨some 4, .mv (.c (.int .i64 0)), none, []⟩,
     ⟨some 5, .mv (.c (.bool false)), none, []⟩] none) <|
  .seq (.seq (.region [
      ⟨some 6, .mv (.t 1), none, []⟩,
      ⟨some 7, .bin .lss (.t 6) (.c (.int .i64 1)), none, []⟩,
      ⟨some 8, .mv (.t 7), none, []⟩,
      ⟨some 9, .mv (.t 0), some (8, false), []⟩,
      ⟨some 10, .len (.t 9), some (8, false), []⟩,
      ⟨some 11, .bin .eql (.t 10) (.c (.int .i64 0)), some (8, false), []⟩,
      ⟨some 12, .pick (.t 8) (.c (.bool true)) (.t 11), none, []⟩] none) <|
   .cond (.t 12) (.seq (.region [
       ⟨some 4, .mv (.c (.int .i64 0)), none, []⟩,
       ⟨some 5, .mv (.c (.bool false)), none, []⟩] none) <|
    .ret) <|
   .skip) <|
  .seq (.region [
     ⟨some 13, .mv (.t 0), none, []⟩,
     ⟨some 14, .mv (.t 0), none, []⟩,
     ⟨some 15, .len (.t 14), none, []⟩,
     ⟨some 16, .mv (.t 1), none, []⟩,
     ⟨some 17, .bin .sub (.t 15) (.t 16), none, []⟩,
     ⟨some 18, .mnx true (.c (.int .i64 0)) [.t 17], none, []⟩,
     ⟨some 19, .slc 1 (.t 13) (some (.t 18)) none, none, []⟩,
     ⟨some 20, .call 99 [.t 19], none, []⟩,
     ⟨some 4, .mv (.t 20), none, []⟩,
     ⟨some 5, .mv (.c (.bool true)), none, []⟩] none) <|
  .ret
abbrev n_rise_least : Nat := 86
theorem b_rise_least : bodyOf prog 86 [] = some (c_rise_least, [.t 4, .t 5], 21) := by kernel_rfl

def c_slices_Grow__int : ACode :=
  .seq (.region [
     ⟨some 4, .mv (.c (.nil)), none, []⟩] none) <|
  .seq (.seq (.region [
      ⟨some 5, .mv (.t 1), none, []⟩,
      ⟨some 6, .bin .lss (.t 5) (.c (.int .i64 0)), none, []⟩] none) <|
   .cond (.t 6) (.region [
      ⟨some 7, .pu .mki [.c (.str ⟨#[99, 97, 110, 110, 111, 116, 32, 98, 101, 32, 110, 101, 103, 97, 116, 105, 118, 101]⟩)], none, []⟩,
      ⟨none, .pu .never [], none, []⟩] none) <|
   .skip) <|
  .seq (.seq (.region [
      ⟨some 8, .mv (.t 1), none, []⟩,
      ⟨some 9, .mv (.t 0), none, []⟩,
      ⟨some 10, .pu .cap0 [.t 9], none, []⟩,
      ⟨some 11, .mv (.t 0), none, []⟩,
      ⟨some 12, .len (.t 11), none, []⟩,
      ⟨some 13, .bin .sub (.t 10) (.t 12), none, []⟩,
      ⟨some 14, .bin .sub (.t 8) (.t 13), none, []⟩,
      ⟨some 1, .mv (.t 14), none, []⟩] none) <|
   .seq (.region [
      ⟨some 15, .mv (.t 1), none, []⟩,
      ⟨some 16, .bin .gtr (.t 15) (.c (.int .i64 0)), none, []⟩] none) <|
   .cond (.t 16) (.region [
      ⟨some 17, .mv (.t 0), none, []⟩,
      ⟨some 18, .mv (.t 0), none, []⟩,
      ⟨some 19, .pu .cap0 [.t 18], none, []⟩,
      ⟨some 20, .slc 1 (.t 17) none (some (.t 19)), none, []⟩,
      ⟨some 21, .mv (.t 1), none, []⟩,
      ⟨some 22, .appz 1 8 3 (.int .i64 0) (.t 20) (.t 21), none, []⟩,
      ⟨some 23, .mv (.t 0), none, []⟩,
      ⟨some 24, .len (.t 23), none, []⟩,
      ⟨some 25, .trn 1 (.t 22) (.t 24), none, []⟩,
      ⟨some 0, .mv (.t 25), none, []⟩] none) <|
   .skip) <|
  .seq (.region [
     ⟨some 26, .mv (.t 0), none, []⟩,
     ⟨some 4, .mv (.t 26), none, []⟩] none) <|
  .ret
abbrev n_slices_Grow__int : Nat := 87
theorem b_slices_Grow__int : bodyOf prog 87 [25] = some (c_slices_Grow__int, [.t 4], 27) := by kernel_rfl

def c_slices_Clone__Cause : ACode :=
  .seq (.region [
     ⟨some 2, .newsl 2 64, none, []⟩] none) <|
  .seq (.seq (.region [
      ⟨some 3, .mv (.t 0), none, []⟩,
      ⟨some 4, .isnil false (.t 3), none, []⟩] none) <|
   .cond (.t 4) (.seq (.region [
       ⟨some 2, .newsl 2 64, none, []⟩] none) <|
    .ret) <|
   .skip) <|
  .seq (.region [
     ⟨some 5, .lit true 2 64 [], none, []⟩,
     ⟨some 6, .mv (.t 0), none, []⟩,
     ⟨some 7, .app 2 16 64 (.t 5) (.t 6), none, []⟩,
     ⟨some 2, .mv (.t 7), none, []⟩] none) <|
  .ret
abbrev n_slices_Clone__Cause : Nat := 88
theorem b_slices_Clone__Cause : bodyOf prog 88 [2, 5, 1000000] = some (c_slices_Clone__Cause, [.t 2], 8) := by kernel_rfl

def c_ref36_Before : ACode :=
  .seq (.region [
     ⟨some 2, .box 2 64 (.t 0), none, []⟩,
     ⟨some 3, .box 2 64 (.t 1), none, []⟩,
     ⟨some 4, .mv (.c (.bool false)), none, []⟩] none) <|
  .seq (.region [
     ⟨some 5, .fa 0 (.t 2), none, []⟩,
     ⟨some 6, .load false 1 (.t 5), none, []⟩,
     ⟨some 7, .fa 0 (.t 3), none, []⟩,
     ⟨some 8, .load false 1 (.t 7), none, []⟩,
     ⟨some 9, .bin .lss (.t 6) (.t 8), none, []⟩,
     ⟨some 10, .mv (.t 9), none, []⟩,
     ⟨some 11, .fa 0 (.t 2), some (10, false), []⟩,
     ⟨some 12, .load false 1 (.t 11), some (10, false), []⟩,
     ⟨some 13, .fa 0 (.t 3), some (10, false), []⟩,
     ⟨some 14, .load false 1 (.t 13), some (10, false), []⟩,
     ⟨some 15, .bin .eql (.t 12) (.t 14), some (10, false), []⟩,
     ⟨some 16, .mv (.t 15), some (10, false), []⟩,
     ⟨some 17, .fa 1 (.t 2), some (16, true), []⟩,
     ⟨some 18, .load false 1 (.t 17), some (16, true), []⟩,
     ⟨some 19, .fa 1 (.t 3), some (16, true), []⟩,
     ⟨some 20, .load false 1 (.t 19), some (16, true), []⟩,
     ⟨some 21, .bin .lss (.t 18) (.t 20), some (16, true), []⟩,
     ⟨some 22, .pick (.t 16) (.t 21) (.c (.bool false)), some (10, false), []⟩,
     ⟨some 23, .pick (.t 10) (.c (.bool true)) (.t 22), none, []⟩,
     ⟨some 4, .mv (.t 23), none, []⟩] none) <|
  .ret
abbrev n_ref36_Before : Nat := 89
theorem b_ref36_Before : bodyOf prog 89 [1000000] = some (c_ref36_Before, [.t 4], 24) := by kernel_rfl

def c_slices_Equal__Cause : ACode :=
  .seq (.region [
     ⟨some 4, .mv (.c (.bool false)), none, []⟩] none) <|
  .seq (.seq (.region [
      ⟨some 6, .mv (.t 0), none, []⟩,
      ⟨some 7, .len (.t 6), none, []⟩,
      ⟨some 8, .mv (.t 1), none, []⟩,
      ⟨some 9, .len (.t 8), none, []⟩,
      ⟨some 10, .bin .neq (.t 7) (.t 9), none, []⟩] none) <|
   .cond (.t 10) (.seq (.region [
       ⟨some 4, .mv (.c (.bool false)), none, []⟩] none) <|
    .ret) <|
   .skip) <|
  .seq (.seq (.region [
      ⟨some 11, .mv (.t 0), none, []⟩,
      ⟨some 12, .len (.t 11), none, []⟩,
      ⟨some 13, .mv (.c (.int .i64 0)), none, []⟩] none) <|
   .block 0 <|
   .loop <|
   .seq (.region [
      ⟨some 14, .bin .lss (.t 13) (.t 12), none, []⟩] none) <|
   .seq (.cond (.t 14) (.skip) <|
    .exit 0) <|
   .seq (.block 1 <|
    .seq (.region [
       ⟨some 15, .mv (.t 13), none, []⟩,
       ⟨some 5, .mv (.t 15), none, []⟩] none) <|
    .seq (.hregion [
       ⟨5, ⟨some 21, .mv (.t 5), none, []⟩⟩,
       ⟨4, ⟨some 20, .mv (.t 1), none, []⟩⟩,
       ⟨6, ⟨some 22, .ixs 2 (.t 20) (.t 21), none, [4, 5]⟩⟩,
       ⟨7, ⟨some 23, .load true 2 (.t 22), none, [6, 4, 5]⟩⟩,
       ⟨1, ⟨some 17, .mv (.t 5), none, []⟩⟩,
       ⟨0, ⟨some 16, .mv (.t 0), none, []⟩⟩,
       ⟨2, ⟨some 18, .ixs 2 (.t 16) (.t 17), none, [0, 1]⟩⟩,
       ⟨3, ⟨some 19, .load true 2 (.t 18), none, [2, 0, 1]⟩⟩,
       ⟨8, ⟨some 24, .eqs true [0, 0] (.t 19) (.t 23), none, [3, 7, 2, 0, 1, 6, 4, 5]⟩⟩]) <|
    .cond (.t 24) (.seq (.region [
        ⟨some 4, .mv (.c (.bool false)), none, []⟩] none) <|
     .ret) <|
    .skip) <|
   .region [
     ⟨some 25, .bin .add (.t 13) (.c (.int .i64 1)), none, []⟩,
     ⟨some 13, .mv (.t 25), none, []⟩] none) <|
  .seq (.region [
     ⟨some 4, .mv (.c (.bool true)), none, []⟩] none) <|
  .ret
abbrev n_slices_Equal__Cause : Nat := 90
theorem b_slices_Equal__Cause : bodyOf prog 90 [1000000] = some (c_slices_Equal__Cause, [.t 4], 26) := by kernel_rfl

def c_ref35_least : ACode :=
  .seq (.region [
     ⟨some 4, .mv (.c (.int .i64 0)), none, []⟩,
     ⟨some 5, .mv (.c (.bool false)), none, []⟩] none) <|
  .seq (.seq (.region [
      ⟨some 8, .mv (.t 1), none, []⟩,
      ⟨some 9, .bin .lss (.t 8) (.c (.int .i64 1)), none, []⟩,
      ⟨some 10, .mv (.t 9), none, []⟩,
      ⟨some 11, .mv (.t 0), some (10, false), []⟩,
      ⟨some 12, .len (.t 11), some (10, false), []⟩,
      ⟨some 13, .bin .eql (.t 12) (.c (.int .i64 0)), some (10, false), []⟩,
      ⟨some 14, .pick (.t 10) (.c (.bool true)) (.t 13), none, []⟩] none) <|
   .cond (.t 14) (.seq (.region [
       ⟨some 4, .mv (.c (.int .i64 0)), none, []⟩,
       ⟨some 5, .mv (.c (.bool false)), none, []⟩] none) <|
    .ret) <|
   .skip) <|
  .seq (.region [
     ⟨some 15, .mv (.t 0), none, []⟩,
     ⟨some 16, .mv (.t 0), none, []⟩,
     ⟨some 17, .len (.t 16), none, []⟩,
     ⟨some 18, .bin .sub (.t 17) (.c (.int .i64 1)), none, []⟩,
     ⟨some 19, .ixs 1 (.t 15) (.t 18), none, []⟩,
     ⟨some 20, .load false 1 (.t 19), none, []⟩,
     ⟨some 6, .mv (.t 20), none, []⟩] none) <|
  .seq (.seq (.region [
      ⟨some 7, .mv (.c (.int .i64 1)), none, []⟩] none) <|
   .block 0 <|
   .loop <|
   .seq (.seq (.region [
       ⟨some 21, .mv (.t 7), none, []⟩,
       ⟨some 22, .mv (.t 1), none, []⟩,
       ⟨some 23, .bin .leq (.t 21) (.t 22), none, []⟩,
       ⟨some 24, .mv (.t 23), none, []⟩,
       ⟨some 25, .mv (.t 7), some (24, true), []⟩,
       ⟨some 26, .mv (.t 0), some (24, true), []⟩,
       ⟨some 27, .len (.t 26), some (24, true), []⟩,
       ⟨some 28, .bin .leq (.t 25) (.t 27), some (24, true), []⟩,
       ⟨some 29, .pick (.t 24) (.t 28) (.c (.bool false)), none, []⟩] none) <|
    .cond (.t 29) (.skip) <|
    .exit 0) <|
   .seq (.block 1 <|
    .region [
      ⟨some 32, .mv (.t 6), none, []⟩,
      ⟨some 33, .mv (.t 0), none, []⟩,
      ⟨some 34, .mv (.t 0), none, []⟩,
      ⟨some 35, .len (.t 34), none, []⟩,
      ⟨some 36, .mv (.t 7), none, []⟩,
      ⟨some 37, .bin .sub (.t 35) (.t 36), none, []⟩,
      ⟨some 38, .ixs 1 (.t 33) (.t 37), none, []⟩,
      ⟨some 39, .load false 1 (.t 38), none, []⟩,
      ⟨some 40, .mnx false (.t 32) [.t 39], none, []⟩,
      ⟨some 6, .mv (.t 40), none, []⟩] none) <|
   .region [
     ⟨some 30, .mv (.t 7), none, []⟩,
     ⟨some 31, .bin .add (.t 30) (.c (.int .i64 1)), none, []⟩,
     ⟨some 7, .mv (.t 31), none, []⟩] none) <|
  .seq (.region [
     ⟨some 41, .mv (.t 6), none, []⟩,
     ⟨some 4, .mv (.t 41), none, []⟩,
     ⟨some 5, .mv (.c (.bool true)), none, []⟩] none) <|
  .ret
abbrev n_ref35_least : Nat := 91
theorem b_ref35_least : bodyOf prog 91 [] = some (c_ref35_least, [.t 4, .t 5], 42) := by kernel_rfl

def c_slices_Compare__int : ACode :=
  .seq (.region [
     ⟨some 4, .mv (.c (.int .i64 0)), none, []⟩] none) <|
  .seq (.seq (.region [
      ⟨some 9, .mv (.t 0), none, []⟩,
      ⟨some 10, .len (.t 9), none, []⟩,
      ⟨some 11, .mv (.c (.int .i64 0)), none, []⟩] none) <|
   .block 0 <|
   .loop <|
   .seq (.region [
      ⟨some 12, .bin .lss (.t 11) (.t 10), none, []⟩] none) <|
   .seq (.cond (.t 12) (.skip) <|
    .exit 0) <|
   .seq (.block 1 <|
    .seq (.region [
       ⟨some 13, .mv (.t 11), none, []⟩,
       ⟨some 14, .ixs 1 (.t 9) (.t 11), none, []⟩,
       ⟨some 15, .load false 1 (.t 14), none, []⟩,
       ⟨some 5, .mv (.t 13), none, []⟩,
       ⟨some 6, .mv (.t 15), none, []⟩] none) <|
    .seq (.seq (.region [
        ⟨some 16, .mv (.t 5), none, []⟩,
        ⟨some 17, .mv (.t 1), none, []⟩,
        ⟨some 18, .len (.t 17), none, []⟩,
        ⟨some 19, .bin .geq (.t 16) (.t 18), none, []⟩] none) <|
     .cond (.t 19) (.seq (.region [
         ⟨some 4, .mv (.c (.int .i64 1)), none, []⟩] none) <|
      .ret) <|
     .skip) <|
    .seq (.region [
       ⟨some 20, .mv (.t 1), none, []⟩,
       ⟨some 21, .mv (.t 5), none, []⟩,
       ⟨some 22, .ixs 1 (.t 20) (.t 21), none, []⟩,
       ⟨some 23, .load false 1 (.t 22), none, []⟩,
       ⟨some 7, .mv (.t 23), none, []⟩] none) <|
    .seq (.region [
       ⟨some 24, .mv (.t 6), none, []⟩,
       ⟨some 25, .mv (.t 7), none, []⟩,
       ⟨some 26, .call 101 [.t 24, .t 25], none, []⟩,
       ⟨some 8, .mv (.t 26), none, []⟩] none) <|
    .seq (.region [
       ⟨some 27, .mv (.t 8), none, []⟩,
       ⟨some 28, .bin .neq (.t 27) (.c (.int .i64 0)), none, []⟩] none) <|
    .cond (.t 28) (.seq (.region [
        ⟨some 29, .mv (.t 8), none, []⟩,
        ⟨some 4, .mv (.t 29), none, []⟩] none) <|
     .ret) <|
    .skip) <|
   .region [
     ⟨some 30, .bin .add (.t 11) (.c (.int .i64 1)), none, []⟩,
     ⟨some 11, .mv (.t 30), none, []⟩] none) <|
  .seq (.seq (.region [
      ⟨some 31, .mv (.t 0), none, []⟩,
      ⟨some 32, .len (.t 31), none, []⟩,
      ⟨some 33, .mv (.t 1), none, []⟩,
      ⟨some 34, .len (.t 33), none, []⟩,
      ⟨some 35, .bin .lss (.t 32) (.t 34), none, []⟩] none) <|
   .cond (.t 35) (.seq (.region [
       ⟨some 4, .mv (.c (.int .i64 (-1))), none, []⟩] none) <|
    .ret) <|
   .skip) <|
  .seq (.region [
     ⟨some 4, .mv (.c (.int .i64 0)), none, []⟩] none) <|
  .ret
abbrev n_slices_Compare__int : Nat := 95
theorem b_slices_Compare__int : bodyOf prog 95 [1000000] = some (c_slices_Compare__int, [.t 4], 36) := by kernel_rfl

def c_slices_Min__int : ACode :=
  .seq (.region [
     ⟨some 2, .mv (.c (.int .i64 0)), none, []⟩] none) <|
  .seq (.seq (.region [
      ⟨some 5, .mv (.t 0), none, []⟩,
      ⟨some 6, .len (.t 5), none, []⟩,
      ⟨some 7, .bin .lss (.t 6) (.c (.int .i64 1)), none, []⟩] none) <|
   .cond (.t 7) (.region [
      ⟨some 8, .pu .mki [.c (.str ⟨#[115, 108, 105, 99, 101, 115, 46, 77, 105, 110, 58, 32, 101, 109, 112, 116, 121, 32, 108, 105, 115, 116]⟩)], none, []⟩,
      ⟨none, .pu .never [], none, []⟩] none) <|
   .skip) <|
  .seq (.region [
     ⟨some 9, .mv (.t 0), none, []⟩,
     ⟨some 10, .ixs 1 (.t 9) (.c (.int .i64 0)), none, []⟩,
     ⟨some 11, .load false 1 (.t 10), none, []⟩,
     ⟨some 3, .mv (.t 11), none, []⟩] none) <|
  .seq (.seq (.region [
      ⟨some 4, .mv (.c (.int .i64 1)), none, []⟩] none) <|
   .block 0 <|
   .loop <|
   .seq (.seq (.region [
       ⟨some 12, .mv (.t 4), none, []⟩,
       ⟨some 13, .mv (.t 0), none, []⟩,
       ⟨some 14, .len (.t 13), none, []⟩,
       ⟨some 15, .bin .lss (.t 12) (.t 14), none, []⟩] none) <|
    .cond (.t 15) (.skip) <|
    .exit 0) <|
   .seq (.block 1 <|
    .region [
      ⟨some 18, .mv (.t 3), none, []⟩,
      ⟨some 19, .mv (.t 0), none, []⟩,
      ⟨some 20, .mv (.t 4), none, []⟩,
      ⟨some 21, .ixs 1 (.t 19) (.t 20), none, []⟩,
      ⟨some 22, .load false 1 (.t 21), none, []⟩,
      ⟨some 23, .mnx false (.t 18) [.t 22], none, []⟩,
      ⟨some 3, .mv (.t 23), none, []⟩] none) <|
   .region [
     ⟨some 16, .mv (.t 4), none, []⟩,
     ⟨some 17, .bin .add (.t 16) (.c (.int .i64 1)), none, []⟩,
     ⟨some 4, .mv (.t 17), none, []⟩] none) <|
  .seq (.region [
     ⟨some 24, .mv (.t 3), none, []⟩,
     ⟨some 2, .mv (.t 24), none, []⟩] none) <|
  .ret
abbrev n_slices_Min__int : Nat := 99
theorem b_slices_Min__int : bodyOf prog 99 [] = some (c_slices_Min__int, [.t 2], 25) := by kernel_rfl

def c_cmp_Compare__int : ACode :=
  .seq (.region [
     ⟨some 4, .mv (.c (.int .i64 0)), none, []⟩] none) <|
  .seq (.region [
     ⟨some 7, .mv (.t 0), none, []⟩,
     ⟨some 8, .call 104 [.t 7], none, []⟩,
     ⟨some 5, .mv (.t 8), none, []⟩] none) <|
  .seq (.region [
     ⟨some 9, .mv (.t 1), none, []⟩,
     ⟨some 10, .call 104 [.t 9], none, []⟩,
     ⟨some 6, .mv (.t 10), none, []⟩] none) <|
  .seq (.seq (.region [
      ⟨some 11, .mv (.t 5), none, []⟩] none) <|
   .cond (.t 11) (.seq (.seq (.region [
        ⟨some 12, .mv (.t 6), none, []⟩] none) <|
     .cond (.t 12) (.seq (.region [
         ⟨some 4, .mv (.c (.int .i64 0)), none, []⟩] none) <|
      .ret) <|
     .skip) <|
    .seq (.region [
       ⟨some 4, .mv (.c (.int .i64 (-1))), none, []⟩] none) <|
    .ret) <|
   .skip) <|
  .seq (.seq (.region [
      ⟨some 13, .mv (.t 6), none, []⟩] none) <|
   .cond (.t 13) (.seq (.region [
       ⟨some 4, .mv (.c (.int .i64 1)), none, []⟩] none) <|
    .ret) <|
   .skip) <|
  .seq (.seq (.region [
      ⟨some 14, .mv (.t 0), none, []⟩,
      ⟨some 15, .mv (.t 1), none, []⟩,
      ⟨some 16, .bin .lss (.t 14) (.t 15), none, []⟩] none) <|
   .cond (.t 16) (.seq (.region [
       ⟨some 4, .mv (.c (.int .i64 (-1))), none, []⟩] none) <|
    .ret) <|
   .skip) <|
  .seq (.seq (.region [
      ⟨some 17, .mv (.t 0), none, []⟩,
      ⟨some 18, .mv (.t 1), none, []⟩,
      ⟨some 19, .bin .gtr (.t 17) (.t 18), none, []⟩] none) <|
   .cond (.t 19) (.seq (.region [
       ⟨some 4, .mv (.c (.int .i64 1)), none, []⟩] none) <|
    .ret) <|
   .skip) <|
  .seq (.region [
     ⟨some 4, .mv (.c (.int .i64 0)), none, []⟩] none) <|
  .ret
abbrev n_cmp_Compare__int : Nat := 101
theorem b_cmp_Compare__int : bodyOf prog 101 [1000000] = some (c_cmp_Compare__int, [.t 4], 20) := by kernel_rfl

def c_cmp_isNaN__int : ACode :=
  .seq (.region [
     ⟨some 2, .mv (.c (.bool false)), none, []⟩] none) <|
  .seq (.region [
     ⟨some 3, .mv (.t 0), none, []⟩,
     ⟨some 4, .mv (.t 0), none, []⟩,
     ⟨some 5, .bin .neq (.t 3) (.t 4), none, []⟩,
     ⟨some 2, .mv (.t 5), none, []⟩] none) <|
  .ret
abbrev n_cmp_isNaN__int : Nat := 104
theorem b_cmp_isNaN__int : bodyOf prog 104 [1000000] = some (c_cmp_isNaN__int, [.t 2], 6) := by kernel_rfl

end Go.Proofs.Try
