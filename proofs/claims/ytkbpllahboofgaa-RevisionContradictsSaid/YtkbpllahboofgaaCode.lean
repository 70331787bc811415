/-
  WRITTEN BY A PROGRAM OF OURS (tools/seat.py): the code of the functions of this seat, each checked by the kernel against the model.
-/
import Derived.Test.YtkbpllahboofgaaBaseS
import Derived.Test.YtkbpllahboofgaaProg
import Derived.KernelRfl
namespace Go.Proofs.Try
open Go Go.Ab
abbrev n_law31_RevisionOrder : Nat := 6
abbrev n_slices_overlaps__Report : Nat := 64
theorem x_slices_overlaps__Report : extOf prog 64 = some (Extern.SlicesOverlaps.overlaps #[28, 28] #[4]) := by kernel_rfl
theorem xt_slices_overlaps__Report : eltOf prog 28 = true := by kernel_rfl
def c_law31_RevisionContradicts : ACode :=
  .seq (.region [
     ⟨some 8, .mv (.c (.bool false)), none, []⟩] none) <|
  .seq (.seq (.region [
      ⟨some 26, .call 7 [], none, []⟩,
      ⟨some 27, .un .not (.t 26), none, []⟩] none) <|
   .cond (.t 27) (.seq (.region [
       ⟨some 8, .mv (.c (.bool false)), none, []⟩] none) <|
    .ret) <|
   .skip) <|
  .seq (.seq (.region [
      ⟨some 28, .mv (.t 0), none, []⟩,
      ⟨some 29, .call 8 [.t 28], none, []⟩,
      ⟨some 30, .un .not (.t 29), none, []⟩] none) <|
   .cond (.t 30) (.seq (.region [
       ⟨some 8, .mv (.c (.bool true)), none, []⟩] none) <|
    .ret) <|
   .skip) <|
  .seq (.region [
     ⟨some 31, .mv (.t 0), none, []⟩,
     ⟨some 32, .call 9 [.t 31], none, []⟩,
     ⟨some 9, .mv (.t 32), none, []⟩] none) <|
  .seq (.region [
     ⟨some 34, .mv (.t 9), none, []⟩,
     ⟨some 35, .call 10 [.t 34], none, []⟩,
     ⟨some 33, .mv (.t 35), none, []⟩,
     ⟨some 36, .ext (.t 33) 0, none, []⟩,
     ⟨some 37, .ext (.t 33) 1, none, []⟩,
     ⟨some 10, .alloc 2 30 (.agg [.nil, .nil]), none, []⟩,
     ⟨none, .store 2 (.t 10) (.t 36), none, []⟩,
     ⟨some 11, .mv (.t 37), none, []⟩] none) <|
  .seq (.region [
     ⟨some 38, .fa 1 (.t 10), none, []⟩,
     ⟨none, .store 1 (.t 38) (.c (.nil)), none, []⟩] none) <|
  .seq (.hregion [
     ⟨5, ⟨some 44, .mv (.t 11), none, []⟩⟩,
     ⟨6, ⟨some 45, .ixs 3 (.t 44) (.c (.int .i64 0)), none, [5]⟩⟩,
     ⟨7, ⟨some 46, .load true 3 (.t 45), none, [6, 5]⟩⟩,
     ⟨1, ⟨some 40, .fa 0 (.t 10), none, []⟩⟩,
     ⟨2, ⟨some 41, .load false 1 (.t 40), none, [1]⟩⟩,
     ⟨3, ⟨some 42, .ixs 4 (.t 41) (.c (.int .i64 0)), none, [2, 1]⟩⟩,
     ⟨4, ⟨some 43, .load true 4 (.t 42), none, [3, 2, 1]⟩⟩,
     ⟨0, ⟨some 39, .mv (.t 9), none, []⟩⟩,
     ⟨8, ⟨some 47, .call 11 [.t 39, .t 43, .t 46, .c (.int .i64 0), .c (.int .i64 1)], none, [0, 4, 7, 3, 2, 1, 6, 5]⟩⟩,
     ⟨9, ⟨some 12, .alloc 6 37 (.agg [.int .i64 0, .int .i64 0, .int .i64 0, .int .i64 0, .int .i64 0, .int .i64 0]), none, []⟩⟩,
     ⟨10, ⟨none, .store 6 (.t 12) (.t 47), none, [9, 8, 0, 1, 2, 3, 4, 5, 6, 7]⟩⟩]) <|
  .seq (.region [
     ⟨some 48, .load true 6 (.t 12), none, []⟩,
     ⟨some 13, .alloc 6 37 (.agg [.int .i64 0, .int .i64 0, .int .i64 0, .int .i64 0, .int .i64 0, .int .i64 0]), none, []⟩,
     ⟨none, .store 6 (.t 13) (.t 48), none, []⟩] none) <|
  .seq (.region [
     ⟨some 49, .fa 0 (.t 13), none, []⟩,
     ⟨none, .store 1 (.t 49) (.c (.int .i64 2)), none, []⟩] none) <|
  .seq (.region [
     ⟨some 50, .fa 4 (.t 12), none, []⟩,
     ⟨some 51, .fa 1 (.t 50), none, []⟩,
     ⟨some 52, .load false 1 (.t 51), none, []⟩,
     ⟨some 53, .bin .add (.t 52) (.c (.int .i64 1)), none, []⟩,
     ⟨some 54, .mv (.t 3), none, []⟩,
     ⟨some 55, .conv .i64 (.t 54), none, []⟩,
     ⟨some 56, .bin .add (.t 53) (.t 55), none, []⟩,
     ⟨some 57, .fa 4 (.t 12), none, []⟩,
     ⟨some 58, .fa 1 (.t 57), none, []⟩,
     ⟨some 59, .load false 1 (.t 58), none, []⟩,
     ⟨some 60, .bin .add (.t 59) (.c (.int .i64 1)), none, []⟩,
     ⟨some 61, .mv (.t 3), none, []⟩,
     ⟨some 62, .conv .i64 (.t 61), none, []⟩,
     ⟨some 63, .bin .add (.t 60) (.t 62), none, []⟩,
     ⟨some 64, .mv (.t 2), none, []⟩,
     ⟨some 65, .conv .i64 (.t 64), none, []⟩,
     ⟨some 66, .bin .add (.t 63) (.t 65), none, []⟩,
     ⟨some 67, .build [.int .i64 0, .int .i64 0] [(0, 1, .t 56), (1, 1, .t 66)], none, []⟩,
     ⟨some 68, .fa 4 (.t 13), none, []⟩,
     ⟨none, .store 2 (.t 68) (.t 67), none, []⟩] none) <|
  .seq (.region [
     ⟨some 69, .load true 6 (.t 12), none, []⟩,
     ⟨some 70, .load true 6 (.t 13), none, []⟩,
     ⟨some 71, .lit false 6 37 [.t 69, .t 70], none, []⟩,
     ⟨some 14, .mv (.t 71), none, []⟩] none) <|
  .seq (.seq (.region [
      ⟨some 72, .mv (.t 1), none, []⟩,
      ⟨some 73, .bin .rem (.t 72) (.c (.int .u8 2)), none, []⟩,
      ⟨some 74, .bin .eql (.t 73) (.c (.int .u8 1)), none, []⟩] none) <|
   .cond (.t 74) (.region [
      ⟨some 75, .load true 6 (.t 13), none, []⟩,
      ⟨some 76, .load true 6 (.t 12), none, []⟩,
      ⟨some 77, .lit false 6 37 [.t 75, .t 76], none, []⟩,
      ⟨some 14, .mv (.t 77), none, []⟩] none) <|
   .skip) <|
  .seq (.seq (.region [
      ⟨some 78, .mv (.t 14), none, []⟩,
      ⟨some 79, .len (.t 78), none, []⟩,
      ⟨some 80, .mv (.c (.int .i64 0)), none, []⟩] none) <|
   .block 0 <|
   .loop <|
   .seq (.region [
      ⟨some 81, .bin .lss (.t 80) (.t 79), none, []⟩] none) <|
   .seq (.cond (.t 81) (.skip) <|
    .exit 0) <|
   .seq (.block 1 <|
    .seq (.region [
       ⟨some 82, .ixs 6 (.t 78) (.t 80), none, []⟩,
       ⟨some 83, .load true 6 (.t 82), none, []⟩,
       ⟨some 16, .alloc 6 37 (.agg [.int .i64 0, .int .i64 0, .int .i64 0, .int .i64 0, .int .i64 0, .int .i64 0]), none, []⟩,
       ⟨none, .store 6 (.t 16) (.t 83), none, []⟩] none) <|
    .seq (.region [
       ⟨some 85, .load true 2 (.t 10), none, []⟩,
       ⟨some 86, .load true 6 (.t 16), none, []⟩,
       ⟨some 87, .call 12 [.t 85, .t 86], none, []⟩,
       ⟨some 84, .mv (.t 87), none, []⟩,
       ⟨some 88, .ext (.t 84) 0, none, []⟩,
       ⟨some 89, .ext (.t 84) 1, none, []⟩,
       ⟨some 17, .alloc 2 30 (.agg [.nil, .nil]), none, []⟩,
       ⟨none, .store 2 (.t 17) (.t 88), none, []⟩,
       ⟨some 18, .mv (.t 89), none, []⟩] none) <|
    .seq (.seq (.region [
        ⟨some 90, .mv (.t 18), none, []⟩,
        ⟨some 91, .bin .neq (.t 90) (.c (.int .i64 0)), none, []⟩] none) <|
     .cond (.t 91) (.seq (.region [
         ⟨some 8, .mv (.c (.bool false)), none, []⟩] none) <|
      .ret) <|
     .skip) <|
    .region [
      ⟨some 92, .load true 2 (.t 17), none, []⟩,
      ⟨none, .store 2 (.t 10) (.t 92), none, []⟩] none) <|
   .region [
     ⟨some 93, .bin .add (.t 80) (.c (.int .i64 1)), none, []⟩,
     ⟨some 80, .mv (.t 93), none, []⟩] none) <|
  .seq (.region [
     ⟨some 95, .load true 2 (.t 10), none, []⟩,
     ⟨some 96, .call 13 [.t 95, .c (.int .i64 0)], none, []⟩,
     ⟨some 94, .mv (.t 96), none, []⟩,
     ⟨some 97, .ext (.t 94) 0, none, []⟩,
     ⟨some 98, .ext (.t 94) 1, none, []⟩,
     ⟨some 99, .ext (.t 94) 2, none, []⟩,
     ⟨some 19, .alloc 4 41 (.agg [.int .i64 0, .nil, .nil, .nil]), none, []⟩,
     ⟨none, .store 4 (.t 19) (.t 97), none, []⟩,
     ⟨some 20, .mv (.t 98), none, []⟩,
     ⟨some 21, .mv (.t 99), none, []⟩] none) <|
  .seq (.region [
     ⟨some 101, .load true 2 (.t 10), none, []⟩,
     ⟨some 102, .call 14 [.t 101, .c (.int .i64 0)], none, []⟩,
     ⟨some 100, .mv (.t 102), none, []⟩,
     ⟨some 103, .ext (.t 100) 0, none, []⟩,
     ⟨some 104, .ext (.t 100) 1, none, []⟩,
     ⟨some 22, .alloc 4 41 (.agg [.int .i64 0, .nil, .nil, .nil]), none, []⟩,
     ⟨none, .store 4 (.t 22) (.t 103), none, []⟩,
     ⟨some 23, .mv (.t 104), none, []⟩] none) <|
  .seq (.seq (.region [
      ⟨some 105, .mv (.t 21), none, []⟩,
      ⟨some 106, .bin .neq (.t 105) (.c (.int .i64 48)), none, []⟩,
      ⟨some 107, .mv (.t 106), none, []⟩,
      ⟨some 108, .mv (.t 20), some (107, false), []⟩,
      ⟨some 109, .bin .neq (.t 108) (.c (.int .i64 2)), some (107, false), []⟩,
      ⟨some 110, .pick (.t 107) (.c (.bool true)) (.t 109), none, []⟩,
      ⟨some 111, .mv (.t 110), none, []⟩,
      ⟨some 112, .mv (.t 23), some (111, false), []⟩,
      ⟨some 113, .bin .neq (.t 112) (.c (.int .i64 48)), some (111, false), []⟩,
      ⟨some 114, .pick (.t 111) (.c (.bool true)) (.t 113), none, []⟩] none) <|
   .cond (.t 114) (.seq (.region [
       ⟨some 8, .mv (.c (.bool false)), none, []⟩] none) <|
    .ret) <|
   .skip) <|
  .seq (.seq (.region [
      ⟨some 115, .mv (.t 11), none, []⟩,
      ⟨some 116, .len (.t 115), none, []⟩,
      ⟨some 117, .bin .gtr (.t 116) (.c (.int .i64 1)), none, []⟩] none) <|
   .cond (.t 117) (.seq (.region [
       ⟨some 119, .load true 2 (.t 10), none, []⟩,
       ⟨some 120, .call 14 [.t 119, .c (.int .i64 1)], none, []⟩,
       ⟨some 118, .mv (.t 120), none, []⟩,
       ⟨some 121, .ext (.t 118) 0, none, []⟩,
       ⟨some 122, .ext (.t 118) 1, none, []⟩,
       ⟨some 24, .alloc 4 41 (.agg [.int .i64 0, .nil, .nil, .nil]), none, []⟩,
       ⟨none, .store 4 (.t 24) (.t 121), none, []⟩,
       ⟨some 25, .mv (.t 122), none, []⟩] none) <|
    .seq (.hregion [
       ⟨0, ⟨some 123, .mv (.t 25), none, []⟩⟩,
       ⟨1, ⟨some 124, .bin .eql (.t 123) (.c (.int .i64 0)), none, [0]⟩⟩,
       ⟨2, ⟨some 125, .mv (.t 124), none, [1, 0]⟩⟩,
       ⟨12, ⟨some 135, .mv (.t 11), some (125, true), [2, 1, 0]⟩⟩,
       ⟨13, ⟨some 136, .ixs 3 (.t 135) (.c (.int .i64 1)), some (125, true), [12, 2, 1, 0]⟩⟩,
       ⟨14, ⟨some 137, .fa 2 (.t 136), some (125, true), [13, 2, 12, 1, 0]⟩⟩,
       ⟨15, ⟨some 138, .load false 1 (.t 137), some (125, true), [14, 2, 13, 12, 1, 0]⟩⟩,
       ⟨8, ⟨some 131, .mv (.t 11), some (125, true), [2, 1, 0]⟩⟩,
       ⟨9, ⟨some 132, .ixs 3 (.t 131) (.c (.int .i64 1)), some (125, true), [8, 2, 1, 0]⟩⟩,
       ⟨10, ⟨some 133, .fa 1 (.t 132), some (125, true), [9, 2, 8, 1, 0]⟩⟩,
       ⟨11, ⟨some 134, .load false 1 (.t 133), some (125, true), [10, 2, 9, 8, 1, 0]⟩⟩,
       ⟨4, ⟨some 127, .mv (.t 11), some (125, true), [2, 1, 0]⟩⟩,
       ⟨5, ⟨some 128, .ixs 3 (.t 127) (.c (.int .i64 1)), some (125, true), [4, 2, 1, 0]⟩⟩,
       ⟨6, ⟨some 129, .fa 0 (.t 128), some (125, true), [5, 2, 4, 1, 0]⟩⟩,
       ⟨7, ⟨some 130, .load false 1 (.t 129), some (125, true), [6, 2, 5, 4, 1, 0]⟩⟩,
       ⟨3, ⟨some 126, .load true 4 (.t 24), some (125, true), [2, 1, 0]⟩⟩,
       ⟨16, ⟨some 139, .call 15 [.t 126, .t 130, .t 134, .t 138], some (125, true), [3, 7, 11, 15, 2, 1, 0, 6, 5, 4, 10, 9, 8, 14, 13, 12]⟩⟩,
       ⟨17, ⟨some 140, .pick (.t 125) (.t 139) (.c (.bool false)), none, [2, 16, 1, 0, 3, 7, 11, 15, 6, 5, 4, 10, 9, 8, 14, 13, 12]⟩⟩,
       ⟨18, ⟨some 8, .mv (.t 140), none, [17, 16, 0, 1, 2, 3, 4, 5, 6, 7, 8, 9, 10, 11, 12, 13, 14, 15]⟩⟩]) <|
    .ret) <|
   .skip) <|
  .seq (.region [
     ⟨some 8, .mv (.c (.bool true)), none, []⟩] none) <|
  .ret
abbrev n_law31_RevisionContradicts : Nat := 3
theorem b_law31_RevisionContradicts : bodyOf prog 3 [1000000] = some (c_law31_RevisionContradicts, [.t 8], 141) := by kernel_rfl

def c_law31_RevisionTrue : ACode :=
  .seq (.region [
     ⟨some 4, .mv (.c (.bool false)), none, []⟩] none) <|
  .seq (.seq (.region [
      ⟨some 20, .call 7 [], none, []⟩,
      ⟨some 21, .un .not (.t 20), none, []⟩] none) <|
   .cond (.t 21) (.seq (.region [
       ⟨some 4, .mv (.c (.bool false)), none, []⟩] none) <|
    .ret) <|
   .skip) <|
  .seq (.seq (.region [
      ⟨some 22, .mv (.t 0), none, []⟩,
      ⟨some 23, .call 8 [.t 22], none, []⟩,
      ⟨some 24, .un .not (.t 23), none, []⟩] none) <|
   .cond (.t 24) (.seq (.region [
       ⟨some 4, .mv (.c (.bool true)), none, []⟩] none) <|
    .ret) <|
   .skip) <|
  .seq (.region [
     ⟨some 25, .mv (.t 0), none, []⟩,
     ⟨some 26, .call 9 [.t 25], none, []⟩,
     ⟨some 5, .mv (.t 26), none, []⟩] none) <|
  .seq (.region [
     ⟨some 28, .mv (.t 5), none, []⟩,
     ⟨some 29, .call 10 [.t 28], none, []⟩,
     ⟨some 27, .mv (.t 29), none, []⟩,
     ⟨some 30, .ext (.t 27) 0, none, []⟩,
     ⟨some 31, .ext (.t 27) 1, none, []⟩,
     ⟨some 6, .alloc 2 30 (.agg [.nil, .nil]), none, []⟩,
     ⟨none, .store 2 (.t 6) (.t 30), none, []⟩,
     ⟨some 7, .mv (.t 31), none, []⟩] none) <|
  .seq (.region [
     ⟨some 33, .load true 2 (.t 6), none, []⟩,
     ⟨some 34, .mv (.t 1), none, []⟩,
     ⟨some 35, .conv .i64 (.t 34), none, []⟩,
     ⟨some 36, .call 16 [.t 33, .t 35], none, []⟩,
     ⟨some 32, .mv (.t 36), none, []⟩,
     ⟨some 37, .ext (.t 32) 0, none, []⟩,
     ⟨some 38, .ext (.t 32) 1, none, []⟩,
     ⟨some 8, .alloc 2 30 (.agg [.nil, .nil]), none, []⟩,
     ⟨none, .store 2 (.t 8) (.t 37), none, []⟩,
     ⟨some 9, .mv (.t 38), none, []⟩] none) <|
  .seq (.seq (.region [
      ⟨some 39, .mv (.t 9), none, []⟩,
      ⟨some 40, .bin .neq (.t 39) (.c (.int .i64 0)), none, []⟩] none) <|
   .cond (.t 40) (.seq (.region [
       ⟨some 4, .mv (.c (.bool false)), none, []⟩] none) <|
    .ret) <|
   .skip) <|
  .seq (.seq (.region [
      ⟨some 41, .mv (.t 7), none, []⟩,
      ⟨some 42, .len (.t 41), none, []⟩,
      ⟨some 43, .mv (.c (.int .i64 0)), none, []⟩] none) <|
   .block 0 <|
   .loop <|
   .seq (.region [
      ⟨some 44, .bin .lss (.t 43) (.t 42), none, []⟩] none) <|
   .seq (.cond (.t 44) (.skip) <|
    .exit 0) <|
   .seq (.block 1 <|
    .seq (.region [
       ⟨some 45, .mv (.t 43), none, []⟩,
       ⟨some 46, .ixs 3 (.t 41) (.t 43), none, []⟩,
       ⟨some 47, .load true 3 (.t 46), none, []⟩,
       ⟨some 11, .alloc 3 43 (.agg [.nil, .nil, .nil]), none, []⟩,
       ⟨some 10, .mv (.t 45), none, []⟩,
       ⟨none, .store 3 (.t 11) (.t 47), none, []⟩] none) <|
    .seq (.region [
       ⟨some 49, .load true 2 (.t 6), none, []⟩,
       ⟨some 50, .mv (.t 10), none, []⟩,
       ⟨some 51, .call 14 [.t 49, .t 50], none, []⟩,
       ⟨some 48, .mv (.t 51), none, []⟩,
       ⟨some 52, .ext (.t 48) 0, none, []⟩,
       ⟨some 53, .ext (.t 48) 1, none, []⟩,
       ⟨some 12, .alloc 4 41 (.agg [.int .i64 0, .nil, .nil, .nil]), none, []⟩,
       ⟨none, .store 4 (.t 12) (.t 52), none, []⟩,
       ⟨some 13, .mv (.t 53), none, []⟩] none) <|
    .seq (.region [
       ⟨some 55, .load true 2 (.t 8), none, []⟩,
       ⟨some 56, .mv (.t 10), none, []⟩,
       ⟨some 57, .call 14 [.t 55, .t 56], none, []⟩,
       ⟨some 54, .mv (.t 57), none, []⟩,
       ⟨some 58, .ext (.t 54) 0, none, []⟩,
       ⟨some 59, .ext (.t 54) 1, none, []⟩,
       ⟨some 14, .alloc 4 41 (.agg [.int .i64 0, .nil, .nil, .nil]), none, []⟩,
       ⟨none, .store 4 (.t 14) (.t 58), none, []⟩,
       ⟨some 15, .mv (.t 59), none, []⟩] none) <|
    .seq (.seq (.region [
        ⟨some 60, .mv (.t 13), none, []⟩,
        ⟨some 61, .bin .neq (.t 60) (.c (.int .i64 0)), none, []⟩,
        ⟨some 62, .mv (.t 61), none, []⟩,
        ⟨some 63, .mv (.t 15), some (62, false), []⟩,
        ⟨some 64, .bin .neq (.t 63) (.c (.int .i64 0)), some (62, false), []⟩,
        ⟨some 65, .pick (.t 62) (.c (.bool true)) (.t 64), none, []⟩,
        ⟨some 66, .mv (.t 65), none, []⟩,
        ⟨some 67, .load true 4 (.t 12), some (66, false), []⟩,
        ⟨some 68, .fa 0 (.t 11), some (66, false), []⟩,
        ⟨some 69, .load false 1 (.t 68), some (66, false), []⟩,
        ⟨some 70, .fa 1 (.t 11), some (66, false), []⟩,
        ⟨some 71, .load false 1 (.t 70), some (66, false), []⟩,
        ⟨some 72, .fa 2 (.t 11), some (66, false), []⟩,
        ⟨some 73, .load false 1 (.t 72), some (66, false), []⟩,
        ⟨some 74, .call 15 [.t 67, .t 69, .t 71, .t 73], some (66, false), []⟩,
        ⟨some 75, .un .not (.t 74), some (66, false), []⟩,
        ⟨some 76, .pick (.t 66) (.c (.bool true)) (.t 75), none, []⟩,
        ⟨some 77, .mv (.t 76), none, []⟩,
        ⟨some 78, .load true 4 (.t 14), some (77, false), []⟩,
        ⟨some 79, .fa 0 (.t 11), some (77, false), []⟩,
        ⟨some 80, .load false 1 (.t 79), some (77, false), []⟩,
        ⟨some 81, .fa 1 (.t 11), some (77, false), []⟩,
        ⟨some 82, .load false 1 (.t 81), some (77, false), []⟩,
        ⟨some 83, .fa 2 (.t 11), some (77, false), []⟩,
        ⟨some 84, .load false 1 (.t 83), some (77, false), []⟩,
        ⟨some 85, .call 15 [.t 78, .t 80, .t 82, .t 84], some (77, false), []⟩,
        ⟨some 86, .un .not (.t 85), some (77, false), []⟩,
        ⟨some 87, .pick (.t 77) (.c (.bool true)) (.t 86), none, []⟩] none) <|
     .cond (.t 87) (.seq (.region [
         ⟨some 4, .mv (.c (.bool false)), none, []⟩] none) <|
      .ret) <|
     .skip) <|
    .seq (.region [
       ⟨some 89, .load true 4 (.t 12), none, []⟩,
       ⟨some 90, .call 17 [.t 89], none, []⟩,
       ⟨some 88, .mv (.t 90), none, []⟩,
       ⟨some 91, .ext (.t 88) 0, none, []⟩,
       ⟨some 92, .ext (.t 88) 1, none, []⟩,
       ⟨some 16, .mv (.t 91), none, []⟩,
       ⟨some 17, .mv (.t 92), none, []⟩] none) <|
    .seq (.region [
       ⟨some 94, .load true 4 (.t 14), none, []⟩,
       ⟨some 95, .call 17 [.t 94], none, []⟩,
       ⟨some 93, .mv (.t 95), none, []⟩,
       ⟨some 96, .ext (.t 93) 0, none, []⟩,
       ⟨some 97, .ext (.t 93) 1, none, []⟩,
       ⟨some 18, .mv (.t 96), none, []⟩,
       ⟨some 19, .mv (.t 97), none, []⟩] none) <|
    .seq (.region [
       ⟨some 98, .mv (.t 16), none, []⟩,
       ⟨some 99, .mv (.t 18), none, []⟩,
       ⟨some 100, .bin .gtr (.t 98) (.t 99), none, []⟩] none) <|
    .cond (.t 100) (.seq (.region [
        ⟨some 4, .mv (.c (.bool false)), none, []⟩] none) <|
     .ret) <|
    .skip) <|
   .region [
     ⟨some 101, .bin .add (.t 43) (.c (.int .i64 1)), none, []⟩,
     ⟨some 43, .mv (.t 101), none, []⟩] none) <|
  .seq (.region [
     ⟨some 4, .mv (.c (.bool true)), none, []⟩] none) <|
  .ret
abbrev n_law31_RevisionTrue : Nat := 4
theorem b_law31_RevisionTrue : bodyOf prog 4 [1000000] = some (c_law31_RevisionTrue, [.t 4], 102) := by kernel_rfl

def c_law31_RevisionChanged : ACode :=
  .seq (.region [
     ⟨some 2, .mv (.c (.bool false)), none, []⟩] none) <|
  .seq (.seq (.region [
      ⟨some 19, .call 7 [], none, []⟩,
      ⟨some 20, .un .not (.t 19), none, []⟩] none) <|
   .cond (.t 20) (.seq (.region [
       ⟨some 2, .mv (.c (.bool false)), none, []⟩] none) <|
    .ret) <|
   .skip) <|
  .seq (.seq (.region [
      ⟨some 21, .mv (.t 0), none, []⟩,
      ⟨some 22, .call 8 [.t 21], none, []⟩,
      ⟨some 23, .un .not (.t 22), none, []⟩] none) <|
   .cond (.t 23) (.seq (.region [
       ⟨some 2, .mv (.c (.bool true)), none, []⟩] none) <|
    .ret) <|
   .skip) <|
  .seq (.region [
     ⟨some 24, .mv (.t 0), none, []⟩,
     ⟨some 25, .call 9 [.t 24], none, []⟩,
     ⟨some 3, .mv (.t 25), none, []⟩] none) <|
  .seq (.region [
     ⟨some 27, .mv (.t 3), none, []⟩,
     ⟨some 28, .call 10 [.t 27], none, []⟩,
     ⟨some 26, .mv (.t 28), none, []⟩,
     ⟨some 29, .ext (.t 26) 0, none, []⟩,
     ⟨some 30, .ext (.t 26) 1, none, []⟩,
     ⟨some 4, .alloc 2 30 (.agg [.nil, .nil]), none, []⟩,
     ⟨none, .store 2 (.t 4) (.t 29), none, []⟩,
     ⟨some 5, .mv (.t 30), none, []⟩] none) <|
  .seq (.hregion [
     ⟨5, ⟨some 36, .mv (.t 5), none, []⟩⟩,
     ⟨6, ⟨some 37, .ixs 3 (.t 36) (.c (.int .i64 0)), none, [5]⟩⟩,
     ⟨7, ⟨some 38, .load true 3 (.t 37), none, [6, 5]⟩⟩,
     ⟨1, ⟨some 32, .fa 0 (.t 4), none, []⟩⟩,
     ⟨2, ⟨some 33, .load false 1 (.t 32), none, [1]⟩⟩,
     ⟨3, ⟨some 34, .ixs 4 (.t 33) (.c (.int .i64 0)), none, [2, 1]⟩⟩,
     ⟨4, ⟨some 35, .load true 4 (.t 34), none, [3, 2, 1]⟩⟩,
     ⟨0, ⟨some 31, .mv (.t 3), none, []⟩⟩,
     ⟨8, ⟨some 39, .call 11 [.t 31, .t 35, .t 38, .c (.int .i64 0), .c (.int .i64 1000)], none, [0, 4, 7, 3, 2, 1, 6, 5]⟩⟩,
     ⟨9, ⟨some 6, .alloc 6 37 (.agg [.int .i64 0, .int .i64 0, .int .i64 0, .int .i64 0, .int .i64 0, .int .i64 0]), none, []⟩⟩,
     ⟨10, ⟨none, .store 6 (.t 6) (.t 39), none, [9, 8, 0, 1, 2, 3, 4, 5, 6, 7]⟩⟩]) <|
  .seq (.region [
     ⟨some 41, .load true 2 (.t 4), none, []⟩,
     ⟨some 42, .load true 6 (.t 6), none, []⟩,
     ⟨some 43, .call 18 [.t 41, .t 42], none, []⟩,
     ⟨some 40, .mv (.t 43), none, []⟩,
     ⟨some 44, .ext (.t 40) 0, none, []⟩,
     ⟨some 45, .ext (.t 40) 1, none, []⟩,
     ⟨some 7, .mv (.t 44), none, []⟩,
     ⟨some 8, .mv (.t 45), none, []⟩] none) <|
  .seq (.region [
     ⟨some 47, .load true 2 (.t 4), none, []⟩,
     ⟨some 48, .call 14 [.t 47, .c (.int .i64 0)], none, []⟩,
     ⟨some 46, .mv (.t 48), none, []⟩,
     ⟨some 49, .ext (.t 46) 0, none, []⟩,
     ⟨some 50, .ext (.t 46) 1, none, []⟩,
     ⟨some 9, .alloc 4 41 (.agg [.int .i64 0, .nil, .nil, .nil]), none, []⟩,
     ⟨none, .store 4 (.t 9) (.t 49), none, []⟩,
     ⟨some 10, .mv (.t 50), none, []⟩] none) <|
  .seq (.region [
     ⟨some 52, .load true 2 (.t 4), none, []⟩,
     ⟨some 53, .load true 6 (.t 6), none, []⟩,
     ⟨some 54, .call 12 [.t 52, .t 53], none, []⟩,
     ⟨some 51, .mv (.t 54), none, []⟩,
     ⟨some 55, .ext (.t 51) 0, none, []⟩,
     ⟨some 56, .ext (.t 51) 1, none, []⟩,
     ⟨some 11, .alloc 2 30 (.agg [.nil, .nil]), none, []⟩,
     ⟨none, .store 2 (.t 11) (.t 55), none, []⟩,
     ⟨some 12, .mv (.t 56), none, []⟩] none) <|
  .seq (.region [
     ⟨some 58, .load true 2 (.t 11), none, []⟩,
     ⟨some 59, .call 14 [.t 58, .c (.int .i64 0)], none, []⟩,
     ⟨some 57, .mv (.t 59), none, []⟩,
     ⟨some 60, .ext (.t 57) 0, none, []⟩,
     ⟨some 61, .ext (.t 57) 1, none, []⟩,
     ⟨some 13, .alloc 4 41 (.agg [.int .i64 0, .nil, .nil, .nil]), none, []⟩,
     ⟨none, .store 4 (.t 13) (.t 60), none, []⟩,
     ⟨some 14, .mv (.t 61), none, []⟩] none) <|
  .seq (.seq (.region [
      ⟨some 62, .mv (.t 8), none, []⟩,
      ⟨some 63, .bin .neq (.t 62) (.c (.int .i64 0)), none, []⟩,
      ⟨some 64, .mv (.t 63), none, []⟩,
      ⟨some 65, .mv (.t 10), some (64, false), []⟩,
      ⟨some 66, .bin .neq (.t 65) (.c (.int .i64 0)), some (64, false), []⟩,
      ⟨some 67, .pick (.t 64) (.c (.bool true)) (.t 66), none, []⟩,
      ⟨some 68, .mv (.t 67), none, []⟩,
      ⟨some 69, .mv (.t 12), some (68, false), []⟩,
      ⟨some 70, .bin .neq (.t 69) (.c (.int .i64 0)), some (68, false), []⟩,
      ⟨some 71, .pick (.t 68) (.c (.bool true)) (.t 70), none, []⟩,
      ⟨some 72, .mv (.t 71), none, []⟩,
      ⟨some 73, .mv (.t 14), some (72, false), []⟩,
      ⟨some 74, .bin .neq (.t 73) (.c (.int .i64 0)), some (72, false), []⟩,
      ⟨some 75, .pick (.t 72) (.c (.bool true)) (.t 74), none, []⟩] none) <|
   .cond (.t 75) (.seq (.region [
       ⟨some 2, .mv (.c (.bool false)), none, []⟩] none) <|
    .ret) <|
   .skip) <|
  .seq (.region [
     ⟨some 77, .load true 4 (.t 9), none, []⟩,
     ⟨some 78, .call 17 [.t 77], none, []⟩,
     ⟨some 76, .mv (.t 78), none, []⟩,
     ⟨some 79, .ext (.t 76) 0, none, []⟩,
     ⟨some 80, .ext (.t 76) 1, none, []⟩,
     ⟨some 15, .mv (.t 79), none, []⟩,
     ⟨some 16, .mv (.t 80), none, []⟩] none) <|
  .seq (.region [
     ⟨some 82, .load true 4 (.t 13), none, []⟩,
     ⟨some 83, .call 17 [.t 82], none, []⟩,
     ⟨some 81, .mv (.t 83), none, []⟩,
     ⟨some 84, .ext (.t 81) 0, none, []⟩,
     ⟨some 85, .ext (.t 81) 1, none, []⟩,
     ⟨some 17, .mv (.t 84), none, []⟩,
     ⟨some 18, .mv (.t 85), none, []⟩] none) <|
  .seq (.region [
     ⟨some 86, .mv (.t 7), none, []⟩,
     ⟨some 87, .bin .eql (.t 86) (.c (.int .i64 0)), none, []⟩,
     ⟨some 88, .load true 4 (.t 9), none, []⟩,
     ⟨some 89, .load true 4 (.t 13), none, []⟩,
     ⟨some 90, .call 19 [.t 88, .t 89], none, []⟩,
     ⟨some 91, .eqb false (.t 87) (.t 90), none, []⟩,
     ⟨some 92, .mv (.t 91), none, []⟩,
     ⟨some 93, .mv (.t 7), some (92, true), []⟩,
     ⟨some 94, .bin .eql (.t 93) (.c (.int .i64 0)), some (92, true), []⟩,
     ⟨some 95, .mv (.t 15), some (92, true), []⟩,
     ⟨some 96, .mv (.t 17), some (92, true), []⟩,
     ⟨some 97, .bin .eql (.t 95) (.t 96), some (92, true), []⟩,
     ⟨some 98, .eqb false (.t 94) (.t 97), some (92, true), []⟩,
     ⟨some 99, .pick (.t 92) (.t 98) (.c (.bool false)), none, []⟩,
     ⟨some 100, .mv (.t 99), none, []⟩,
     ⟨some 101, .mv (.t 17), some (100, true), []⟩,
     ⟨some 102, .mv (.t 15), some (100, true), []⟩,
     ⟨some 103, .bin .leq (.t 101) (.t 102), some (100, true), []⟩,
     ⟨some 104, .pick (.t 100) (.t 103) (.c (.bool false)), none, []⟩,
     ⟨some 2, .mv (.t 104), none, []⟩] none) <|
  .ret
abbrev n_law31_RevisionChanged : Nat := 5
theorem b_law31_RevisionChanged : bodyOf prog 5 [1000000] = some (c_law31_RevisionChanged, [.t 2], 105) := by kernel_rfl

def c_law31_sane : ACode :=
  .seq (.region [
     ⟨some 0, .mv (.c (.bool false)), none, []⟩] none) <|
  .seq (.region [
     ⟨some 8, .build [.int .i64 0, .int .i64 0] [(0, 1, .c (.int .i64 10)), (1, 1, .c (.int .i64 10))], none, []⟩,
     ⟨some 9, .build [.int .i64 0, .int .i64 0] [(1, 1, .c (.int .i64 50))], none, []⟩,
     ⟨some 10, .lit false 2 35 [.t 8, .t 9], none, []⟩,
     ⟨some 11, .build [.int .i64 0, .int .i64 0] [(1, 1, .c (.int .i64 50))], none, []⟩,
     ⟨some 12, .lit false 2 35 [.t 11], none, []⟩,
     ⟨some 13, .build [.int .i64 0, .int .i64 0] [(1, 1, .c (.int .i64 50))], none, []⟩,
     ⟨some 14, .lit false 2 35 [.t 13], none, []⟩,
     ⟨some 15, .build [.int .i64 0, .nil, .nil, .nil] [(1, 1, .t 10), (2, 1, .t 12), (3, 1, .t 14)], none, []⟩,
     ⟨some 1, .alloc 4 41 (.agg [.int .i64 0, .nil, .nil, .nil]), none, []⟩,
     ⟨none, .store 4 (.t 1) (.t 15), none, []⟩] none) <|
  .seq (.region [
     ⟨some 17, .load true 4 (.t 1), none, []⟩,
     ⟨some 18, .lit false 4 41 [.t 17], none, []⟩,
     ⟨some 19, .call 22 [.t 18], none, []⟩,
     ⟨some 16, .mv (.t 19), none, []⟩,
     ⟨some 20, .ext (.t 16) 0, none, []⟩,
     ⟨some 21, .ext (.t 16) 1, none, []⟩,
     ⟨some 2, .alloc 2 30 (.agg [.nil, .nil]), none, []⟩,
     ⟨none, .store 2 (.t 2) (.t 20), none, []⟩,
     ⟨some 3, .mv (.t 21), none, []⟩] none) <|
  .seq (.region [
     ⟨some 23, .load true 2 (.t 2), none, []⟩,
     ⟨some 24, .build [.int .i64 0, .int .i64 0] [(0, 1, .c (.int .i64 3)), (1, 1, .c (.int .i64 3))], none, []⟩,
     ⟨some 25, .build [.int .i64 0, .int .i64 0, .int .i64 0, .int .i64 0, .int .i64 0, .int .i64 0] [(0, 1, .c (.int .i64 2)), (2, 1, .c (.int .i64 3)), (4, 2, .t 24)], none, []⟩,
     ⟨some 26, .call 12 [.t 23, .t 25], none, []⟩,
     ⟨some 22, .mv (.t 26), none, []⟩,
     ⟨some 27, .ext (.t 22) 0, none, []⟩,
     ⟨some 28, .ext (.t 22) 1, none, []⟩,
     ⟨none, .store 2 (.t 2) (.t 27), none, []⟩,
     ⟨some 4, .mv (.t 28), none, []⟩] none) <|
  .seq (.region [
     ⟨some 30, .load true 2 (.t 2), none, []⟩,
     ⟨some 31, .build [.int .i64 0, .int .i64 0] [(0, 1, .c (.int .i64 7)), (1, 1, .c (.int .i64 7))], none, []⟩,
     ⟨some 32, .build [.int .i64 0, .int .i64 0, .int .i64 0, .int .i64 0, .int .i64 0, .int .i64 0] [(0, 1, .c (.int .i64 1)), (2, 1, .c (.int .i64 2)), (4, 2, .t 31)], none, []⟩,
     ⟨some 33, .call 12 [.t 30, .t 32], none, []⟩,
     ⟨some 29, .mv (.t 33), none, []⟩,
     ⟨some 34, .ext (.t 29) 0, none, []⟩,
     ⟨some 35, .ext (.t 29) 1, none, []⟩,
     ⟨none, .store 2 (.t 2) (.t 34), none, []⟩,
     ⟨some 5, .mv (.t 35), none, []⟩] none) <|
  .seq (.region [
     ⟨some 37, .load true 2 (.t 2), none, []⟩,
     ⟨some 38, .call 14 [.t 37, .c (.int .i64 0)], none, []⟩,
     ⟨some 36, .mv (.t 38), none, []⟩,
     ⟨some 39, .ext (.t 36) 0, none, []⟩,
     ⟨some 40, .ext (.t 36) 1, none, []⟩,
     ⟨some 6, .alloc 4 41 (.agg [.int .i64 0, .nil, .nil, .nil]), none, []⟩,
     ⟨none, .store 4 (.t 6) (.t 39), none, []⟩,
     ⟨some 7, .mv (.t 40), none, []⟩] none) <|
  .seq (.region [
     ⟨some 41, .mv (.t 3), none, []⟩,
     ⟨some 42, .bin .eql (.t 41) (.c (.int .i64 0)), none, []⟩,
     ⟨some 43, .mv (.t 42), none, []⟩,
     ⟨some 44, .mv (.t 4), some (43, true), []⟩,
     ⟨some 45, .bin .eql (.t 44) (.c (.int .i64 0)), some (43, true), []⟩,
     ⟨some 46, .pick (.t 43) (.t 45) (.c (.bool false)), none, []⟩,
     ⟨some 47, .mv (.t 46), none, []⟩,
     ⟨some 48, .mv (.t 5), some (47, true), []⟩,
     ⟨some 49, .bin .eql (.t 48) (.c (.int .i64 0)), some (47, true), []⟩,
     ⟨some 50, .pick (.t 47) (.t 49) (.c (.bool false)), none, []⟩,
     ⟨some 51, .mv (.t 50), none, []⟩,
     ⟨some 52, .mv (.t 7), some (51, true), []⟩,
     ⟨some 53, .bin .eql (.t 52) (.c (.int .i64 0)), some (51, true), []⟩,
     ⟨some 54, .pick (.t 51) (.t 53) (.c (.bool false)), none, []⟩,
     ⟨some 55, .mv (.t 54), none, []⟩,
     ⟨some 56, .fa 1 (.t 2), some (55, true), []⟩,
     ⟨some 57, .load false 1 (.t 56), some (55, true), []⟩,
     ⟨some 58, .len (.t 57), some (55, true), []⟩,
     ⟨some 59, .bin .eql (.t 58) (.c (.int .i64 2)), some (55, true), []⟩,
     ⟨some 60, .pick (.t 55) (.t 59) (.c (.bool false)), none, []⟩,
     ⟨some 61, .mv (.t 60), none, []⟩,
     ⟨some 62, .fa 1 (.t 2), some (61, true), []⟩,
     ⟨some 63, .load false 1 (.t 62), some (61, true), []⟩,
     ⟨some 64, .ixs 6 (.t 63) (.c (.int .i64 0)), some (61, true), []⟩,
     ⟨some 65, .fa 0 (.t 64), some (61, true), []⟩,
     ⟨some 66, .load false 1 (.t 65), some (61, true), []⟩,
     ⟨some 67, .bin .eql (.t 66) (.c (.int .i64 1)), some (61, true), []⟩,
     ⟨some 68, .pick (.t 61) (.t 67) (.c (.bool false)), none, []⟩,
     ⟨some 69, .mv (.t 68), none, []⟩,
     ⟨some 70, .fa 1 (.t 6), some (69, true), []⟩,
     ⟨some 71, .load false 1 (.t 70), some (69, true), []⟩,
     ⟨some 72, .len (.t 71), some (69, true), []⟩,
     ⟨some 73, .bin .eql (.t 72) (.c (.int .i64 2)), some (69, true), []⟩,
     ⟨some 74, .pick (.t 69) (.t 73) (.c (.bool false)), none, []⟩,
     ⟨some 75, .mv (.t 74), none, []⟩,
     ⟨some 76, .fa 1 (.t 6), some (75, true), []⟩,
     ⟨some 77, .load false 1 (.t 76), some (75, true), []⟩,
     ⟨some 78, .ixs 2 (.t 77) (.c (.int .i64 1)), some (75, true), []⟩,
     ⟨some 79, .load true 2 (.t 78), some (75, true), []⟩,
     ⟨some 80, .build [.int .i64 0, .int .i64 0] [(0, 1, .c (.int .i64 14)), (1, 1, .c (.int .i64 14))], some (75, true), []⟩,
     ⟨some 81, .eqs false [0, 0] (.t 79) (.t 80), some (75, true), []⟩,
     ⟨some 82, .pick (.t 75) (.t 81) (.c (.bool false)), none, []⟩,
     ⟨some 0, .mv (.t 82), none, []⟩] none) <|
  .ret
abbrev n_law31_sane : Nat := 7
theorem b_law31_sane : bodyOf prog 7 [1000000] = some (c_law31_sane, [.t 0], 83) := by kernel_rfl

def c_mk_Few : ACode :=
  .seq (.region [
     ⟨some 2, .mv (.c (.bool false)), none, []⟩] none) <|
  .seq (.region [
     ⟨some 3, .mv (.t 0), none, []⟩,
     ⟨some 4, .len (.t 3), none, []⟩,
     ⟨some 5, .bin .leq (.t 4) (.c (.int .i64 500)), none, []⟩,
     ⟨some 2, .mv (.t 5), none, []⟩] none) <|
  .ret
abbrev n_mk_Few : Nat := 8
theorem b_mk_Few : bodyOf prog 8 [1000000] = some (c_mk_Few, [.t 2], 6) := by kernel_rfl

def c_mk_New : ACode :=
  .seq (.region [
     ⟨some 2, .mv (.c (.nilptr)), none, []⟩] none) <|
  .seq (.region [
     ⟨some 3, .mv (.t 0), none, []⟩,
     ⟨some 4, .build [.nil, .int .i64 0] [(0, 1, .t 3)], none, []⟩,
     ⟨some 5, .box 2 63 (.t 4), none, []⟩,
     ⟨some 2, .mv (.t 5), none, []⟩] none) <|
  .ret
abbrev n_mk_New : Nat := 9
theorem b_mk_New : bodyOf prog 9 [] = some (c_mk_New, [.t 2], 6) := by kernel_rfl

def c_flow_Book : ACode :=
  .seq (.region [
     ⟨some 2, .alloc 2 30 (.agg [.nil, .nil]), none, []⟩,
     ⟨some 3, .mv (.c (.nil)), none, []⟩] none) <|
  .seq (.region [
     ⟨some 4, .mv (.c (.nil)), none, []⟩] none) <|
  .seq (.region [
     ⟨some 5, .mv (.c (.nil)), none, []⟩] none) <|
  .seq (.seq (.region [
      ⟨some 16, .mv (.t 0), none, []⟩,
      ⟨some 17, .call 20 [.t 16, .c (.int .i64 2)], none, []⟩,
      ⟨some 6, .mv (.t 17), none, []⟩] none) <|
   .block 0 <|
   .loop <|
   .seq (.seq (.region [
       ⟨some 18, .mv (.t 6), none, []⟩,
       ⟨some 19, .bin .geq (.t 18) (.c (.int .i64 0)), none, []⟩] none) <|
    .cond (.t 19) (.skip) <|
    .exit 0) <|
   .seq (.block 1 <|
    .seq (.region [
       ⟨some 23, .mv (.t 0), none, []⟩,
       ⟨some 24, .call 23 [.t 23], none, []⟩,
       ⟨some 22, .mv (.t 24), none, []⟩,
       ⟨some 25, .ext (.t 22) 0, none, []⟩,
       ⟨some 26, .ext (.t 22) 1, none, []⟩,
       ⟨some 27, .ext (.t 22) 2, none, []⟩,
       ⟨some 28, .ext (.t 22) 3, none, []⟩,
       ⟨some 7, .alloc 4 41 (.agg [.int .i64 0, .nil, .nil, .nil]), none, []⟩,
       ⟨none, .store 4 (.t 7) (.t 25), none, []⟩,
       ⟨some 8, .mv (.t 26), none, []⟩,
       ⟨some 9, .mv (.t 27), none, []⟩,
       ⟨some 10, .mv (.t 28), none, []⟩] none) <|
    .region [
      ⟨some 29, .mv (.t 4), none, []⟩,
      ⟨some 30, .load true 4 (.t 7), none, []⟩,
      ⟨some 31, .lit false 4 41 [.t 30], none, []⟩,
      ⟨some 32, .app 4 80 41 (.t 29) (.t 31), none, []⟩,
      ⟨some 33, .mv (.t 5), none, []⟩,
      ⟨some 34, .mv (.t 8), none, []⟩,
      ⟨some 35, .mv (.t 9), none, []⟩,
      ⟨some 36, .mv (.t 10), none, []⟩,
      ⟨some 37, .build [.nil, .nil, .nil] [(0, 1, .t 34), (1, 1, .t 35), (2, 1, .t 36)], none, []⟩,
      ⟨some 38, .lit false 3 43 [.t 37], none, []⟩,
      ⟨some 39, .app 3 72 43 (.t 33) (.t 38), none, []⟩,
      ⟨some 4, .mv (.t 32), none, []⟩,
      ⟨some 5, .mv (.t 39), none, []⟩] none) <|
   .region [
     ⟨some 20, .mv (.t 6), none, []⟩,
     ⟨some 21, .bin .sub (.t 20) (.c (.int .i64 1)), none, []⟩,
     ⟨some 6, .mv (.t 21), none, []⟩] none) <|
  .seq (.region [
     ⟨some 40, .mv (.t 4), none, []⟩,
     ⟨some 41, .build [.nil, .nil] [(0, 1, .t 40)], none, []⟩,
     ⟨some 11, .alloc 2 30 (.agg [.nil, .nil]), none, []⟩,
     ⟨none, .store 2 (.t 11) (.t 41), none, []⟩] none) <|
  .seq (.seq (.region [
      ⟨some 42, .mv (.t 0), none, []⟩,
      ⟨some 43, .call 20 [.t 42, .c (.int .i64 9)], none, []⟩,
      ⟨some 12, .mv (.t 43), none, []⟩] none) <|
   .block 2 <|
   .loop <|
   .seq (.seq (.region [
       ⟨some 44, .mv (.t 12), none, []⟩,
       ⟨some 45, .bin .gtr (.t 44) (.c (.int .i64 0)), none, []⟩] none) <|
    .cond (.t 45) (.skip) <|
    .exit 2) <|
   .seq (.block 3 <|
    .seq (.region [
       ⟨some 48, .mv (.t 0), none, []⟩,
       ⟨some 49, .mv (.t 4), none, []⟩,
       ⟨some 50, .len (.t 49), none, []⟩,
       ⟨some 51, .call 20 [.t 48, .t 50], none, []⟩,
       ⟨some 13, .mv (.t 51), none, []⟩] none) <|
    .seq (.hregion [
       ⟨11, ⟨some 64, .mv (.t 0), none, []⟩⟩,
       ⟨10, ⟨some 63, .mv (.t 13), none, []⟩⟩,
       ⟨7, ⟨some 60, .mv (.t 13), none, []⟩⟩,
       ⟨6, ⟨some 59, .mv (.t 5), none, []⟩⟩,
       ⟨8, ⟨some 61, .ixs 3 (.t 59) (.t 60), none, [6, 7]⟩⟩,
       ⟨9, ⟨some 62, .load true 3 (.t 61), none, [8, 6, 7]⟩⟩,
       ⟨3, ⟨some 56, .mv (.t 13), none, []⟩⟩,
       ⟨2, ⟨some 55, .mv (.t 4), none, []⟩⟩,
       ⟨4, ⟨some 57, .ixs 4 (.t 55) (.t 56), none, [2, 3]⟩⟩,
       ⟨5, ⟨some 58, .load true 4 (.t 57), none, [4, 2, 3]⟩⟩,
       ⟨1, ⟨some 54, .mv (.t 0), none, []⟩⟩,
       ⟨0, ⟨some 53, .load true 2 (.t 11), none, []⟩⟩,
       ⟨12, ⟨some 65, .call 20 [.t 64, .c (.int .i64 20)], none, [11]⟩⟩,
       ⟨13, ⟨some 66, .bin .add (.c (.int .i64 1)) (.t 65), none, [12, 11]⟩⟩,
       ⟨14, ⟨some 67, .call 11 [.t 54, .t 58, .t 62, .t 63, .t 66], none, [1, 5, 9, 10, 13, 12, 4, 2, 3, 8, 6, 7, 11]⟩⟩,
       ⟨15, ⟨some 68, .call 24 [.t 53, .t 67], none, [0, 14, 1, 5, 9, 10, 13, 12, 4, 2, 3, 8, 6, 7, 11]⟩⟩,
       ⟨16, ⟨some 52, .mv (.t 68), none, [15, 0, 14, 1, 5, 9, 10, 13, 12, 4, 2, 3, 8, 6, 7, 11]⟩⟩,
       ⟨18, ⟨some 70, .ext (.t 52) 1, none, [16, 15, 0, 14, 1, 5, 9, 10, 13, 12, 4, 2, 3, 8, 6, 7, 11]⟩⟩,
       ⟨17, ⟨some 69, .ext (.t 52) 0, none, [16, 15, 0, 14, 1, 5, 9, 10, 13, 12, 4, 2, 3, 8, 6, 7, 11]⟩⟩,
       ⟨19, ⟨some 14, .alloc 2 30 (.agg [.nil, .nil]), none, []⟩⟩,
       ⟨20, ⟨none, .store 2 (.t 14) (.t 69), none, [19, 17, 15, 0, 1, 2, 3, 4, 5, 6, 7, 8, 9, 10, 11, 12, 13, 14, 16]⟩⟩,
       ⟨21, ⟨some 15, .mv (.t 70), none, [18, 20, 0, 1, 2, 3, 4, 5, 6, 7, 8, 9, 10, 11, 12, 13, 14, 15, 16, 17, 19]⟩⟩]) <|
    .seq (.region [
       ⟨some 71, .mv (.t 15), none, []⟩,
       ⟨some 72, .bin .eql (.t 71) (.c (.int .i64 0)), none, []⟩] none) <|
    .cond (.t 72) (.region [
       ⟨some 73, .load true 2 (.t 14), none, []⟩,
       ⟨none, .store 2 (.t 11) (.t 73), none, []⟩] none) <|
    .skip) <|
   .region [
     ⟨some 46, .mv (.t 12), none, []⟩,
     ⟨some 47, .bin .sub (.t 46) (.c (.int .i64 1)), none, []⟩,
     ⟨some 12, .mv (.t 47), none, []⟩] none) <|
  .seq (.region [
     ⟨some 74, .load true 2 (.t 11), none, []⟩,
     ⟨some 75, .mv (.t 5), none, []⟩,
     ⟨none, .store 2 (.t 2) (.t 74), none, []⟩,
     ⟨some 3, .mv (.t 75), none, []⟩] none) <|
  .ret
abbrev n_flow_Book : Nat := 10
theorem b_flow_Book : bodyOf prog 10 [1000000] = some (c_flow_Book, [.c 2 true 2, .t 3], 76) := by kernel_rfl

def c_flow_Report : ACode :=
  .seq (.region [
     ⟨some 6, .box 4 41 (.t 1), none, []⟩,
     ⟨some 7, .box 3 43 (.t 2), none, []⟩,
     ⟨some 10, .alloc 6 37 (.agg [.int .i64 0, .int .i64 0, .int .i64 0, .int .i64 0, .int .i64 0, .int .i64 0]), none, []⟩] none) <|
  .seq (.region [
     ⟨some 14, .mv (.t 4), none, []⟩,
     ⟨some 15, .mv (.t 3), none, []⟩,
     ⟨some 16, .mv (.t 0), none, []⟩,
     ⟨some 17, .call 20 [.t 16, .c (.int .i64 3)], none, []⟩,
     ⟨some 18, .bin .add (.c (.int .i64 1)) (.t 17), none, []⟩,
     ⟨some 19, .build [.int .i64 0, .int .i64 0, .int .i64 0, .int .i64 0, .int .i64 0, .int .i64 0] [(0, 1, .t 14), (1, 1, .t 15), (2, 1, .t 18)], none, []⟩,
     ⟨some 11, .alloc 6 37 (.agg [.int .i64 0, .int .i64 0, .int .i64 0, .int .i64 0, .int .i64 0, .int .i64 0]), none, []⟩,
     ⟨none, .store 6 (.t 11) (.t 19), none, []⟩] none) <|
  .seq (.region [
     ⟨some 20, .fa 0 (.t 7), none, []⟩,
     ⟨some 21, .load false 1 (.t 20), none, []⟩,
     ⟨some 22, .fa 1 (.t 7), none, []⟩,
     ⟨some 23, .load false 1 (.t 22), none, []⟩,
     ⟨some 24, .fa 2 (.t 7), none, []⟩,
     ⟨some 25, .load false 1 (.t 24), none, []⟩,
     ⟨some 26, .lit false 1 22 [.t 21, .t 23, .t 25], none, []⟩,
     ⟨some 27, .fa 2 (.t 11), none, []⟩,
     ⟨some 28, .load false 1 (.t 27), none, []⟩,
     ⟨some 29, .bin .sub (.t 28) (.c (.int .i64 1)), none, []⟩,
     ⟨some 30, .ixs 1 (.t 26) (.t 29), none, []⟩,
     ⟨some 31, .load false 1 (.t 30), none, []⟩,
     ⟨some 12, .mv (.t 31), none, []⟩] none) <|
  .seq (.region [
     ⟨some 32, .mv (.t 0), none, []⟩,
     ⟨some 33, .mv (.t 12), none, []⟩,
     ⟨some 34, .len (.t 33), none, []⟩,
     ⟨some 35, .call 20 [.t 32, .t 34], none, []⟩,
     ⟨some 13, .mv (.t 35), none, []⟩] none) <|
  .seq (.hregion [
     ⟨6, ⟨some 42, .mv (.t 13), none, []⟩⟩,
     ⟨5, ⟨some 41, .mv (.t 12), none, []⟩⟩,
     ⟨7, ⟨some 43, .ixs 1 (.t 41) (.t 42), none, [5, 6]⟩⟩,
     ⟨8, ⟨some 44, .load false 1 (.t 43), none, [7, 5, 6]⟩⟩,
     ⟨4, ⟨some 40, .mv (.t 0), none, []⟩⟩,
     ⟨2, ⟨some 38, .mv (.t 13), none, []⟩⟩,
     ⟨0, ⟨some 36, .fa 0 (.t 6), none, []⟩⟩,
     ⟨1, ⟨some 37, .load false 1 (.t 36), none, [0]⟩⟩,
     ⟨3, ⟨some 39, .bin .add (.t 37) (.t 38), none, [1, 2, 0]⟩⟩,
     ⟨10, ⟨some 46, .fa 3 (.t 11), none, [0, 1, 2, 3]⟩⟩,
     ⟨9, ⟨some 45, .call 25 [.t 40, .t 44], none, [4, 8, 7, 5, 6]⟩⟩,
     ⟨11, ⟨none, .store 1 (.t 46) (.t 39), none, [10, 3, 9, 0, 1, 2, 4, 8, 7, 5, 6]⟩⟩,
     ⟨12, ⟨some 47, .fa 4 (.t 11), none, [0, 1, 2, 3, 4, 5, 6, 7, 8, 9, 10, 11]⟩⟩,
     ⟨13, ⟨none, .store 2 (.t 47) (.t 45), none, [12, 9, 11, 0, 1, 2, 3, 4, 5, 6, 7, 8, 10]⟩⟩]) <|
  .seq (.region [
     ⟨some 48, .load true 6 (.t 11), none, []⟩,
     ⟨none, .store 6 (.t 10) (.t 48), none, []⟩] none) <|
  .ret
abbrev n_flow_Report : Nat := 11
theorem b_flow_Report : bodyOf prog 11 [1000000] = some (c_flow_Report, [.c 10 true 6], 49) := by kernel_rfl

def c_revision_File : ACode :=
  .seq (.region [
     ⟨some 2, .box 2 30 (.t 0), none, []⟩,
     ⟨some 3, .box 6 37 (.t 1), none, []⟩,
     ⟨some 4, .alloc 2 30 (.agg [.nil, .nil]), none, []⟩,
     ⟨some 5, .mv (.c (.int .i64 0)), none, []⟩] none) <|
  .seq (.seq (.region [
      ⟨some 9, .load true 2 (.t 2), none, []⟩,
      ⟨some 10, .call 26 [.t 9], none, []⟩,
      ⟨some 11, .bin .neq (.t 10) (.c (.int .i64 0)), none, []⟩] none) <|
   .cond (.t 11) (.seq (.region [
       ⟨some 12, .build [.nil, .nil] [], none, []⟩,
       ⟨none, .store 2 (.t 4) (.t 12), none, []⟩,
       ⟨some 5, .mv (.c (.int .i64 50)), none, []⟩] none) <|
    .ret) <|
   .skip) <|
  .seq (.seq (.region [
      ⟨some 13, .load true 6 (.t 3), none, []⟩,
      ⟨some 14, .call 27 [.t 13], none, []⟩,
      ⟨some 15, .un .not (.t 14), none, []⟩] none) <|
   .cond (.t 15) (.seq (.region [
       ⟨some 16, .build [.nil, .nil] [], none, []⟩,
       ⟨none, .store 2 (.t 4) (.t 16), none, []⟩,
       ⟨some 5, .mv (.c (.int .i64 3)), none, []⟩] none) <|
    .ret) <|
   .skip) <|
  .seq (.seq (.region [
      ⟨some 17, .fa 0 (.t 2), none, []⟩,
      ⟨some 18, .load false 1 (.t 17), none, []⟩,
      ⟨some 19, .load true 6 (.t 3), none, []⟩,
      ⟨some 20, .call 28 [.t 18, .t 19], none, []⟩,
      ⟨some 6, .mv (.t 20), none, []⟩] none) <|
   .seq (.region [
      ⟨some 21, .mv (.t 6), none, []⟩,
      ⟨some 22, .bin .neq (.t 21) (.c (.int .i64 0)), none, []⟩] none) <|
   .cond (.t 22) (.seq (.region [
       ⟨some 23, .build [.nil, .nil] [], none, []⟩,
       ⟨some 24, .mv (.t 6), none, []⟩,
       ⟨none, .store 2 (.t 4) (.t 23), none, []⟩,
       ⟨some 5, .mv (.t 24), none, []⟩] none) <|
    .ret) <|
   .skip) <|
  .seq (.region [
     ⟨some 26, .fa 1 (.t 2), none, []⟩,
     ⟨some 27, .load false 1 (.t 26), none, []⟩,
     ⟨some 28, .load true 6 (.t 3), none, []⟩,
     ⟨some 29, .call 29 [.t 27, .t 28, .c (.func 30 [])], none, []⟩,
     ⟨some 25, .mv (.t 29), none, []⟩,
     ⟨some 30, .ext (.t 25) 0, none, []⟩,
     ⟨some 31, .ext (.t 25) 1, none, []⟩,
     ⟨some 7, .mv (.t 30), none, []⟩,
     ⟨some 8, .mv (.t 31), none, []⟩] none) <|
  .seq (.block 0 <|
   .seq (.hregion [
      ⟨0, ⟨some 33, .mv (.t 8), none, []⟩⟩,
      ⟨1, ⟨some 34, .mv (.t 33), none, [0]⟩⟩,
      ⟨7, ⟨some 40, .load true 6 (.t 3), some (34, true), [1, 0]⟩⟩,
      ⟨4, ⟨some 37, .mv (.t 7), some (34, true), [1, 0]⟩⟩,
      ⟨2, ⟨some 35, .fa 1 (.t 2), some (34, true), [1, 0]⟩⟩,
      ⟨3, ⟨some 36, .load false 1 (.t 35), some (34, true), [2, 1, 0]⟩⟩,
      ⟨5, ⟨some 38, .ixs 6 (.t 36) (.t 37), some (34, true), [3, 4, 1, 2, 0]⟩⟩,
      ⟨6, ⟨some 39, .load true 6 (.t 38), some (34, true), [5, 1, 3, 4, 2, 0]⟩⟩,
      ⟨8, ⟨some 41, .eqs false [0, 0, 0, 0, 0, 0] (.t 39) (.t 40), some (34, true), [6, 7, 1, 5, 3, 4, 2, 0]⟩⟩,
      ⟨9, ⟨some 42, .pick (.t 34) (.t 41) (.c (.bool false)), none, [1, 8, 0, 6, 7, 5, 3, 4, 2]⟩⟩,
      ⟨10, ⟨some 32, .mv (.t 42), none, [9, 1, 8, 0, 6, 7, 5, 3, 4, 2]⟩⟩]) <|
   .cond (.t 32) (.seq (.region [
       ⟨some 43, .load true 2 (.t 2), none, []⟩,
       ⟨some 44, .fa 1 (.t 2), none, []⟩,
       ⟨some 45, .load false 1 (.t 44), none, []⟩,
       ⟨some 46, .call 31 [.t 43, .t 45], none, []⟩,
       ⟨none, .store 2 (.t 4) (.t 46), none, []⟩,
       ⟨some 5, .mv (.c (.int .i64 0)), none, []⟩] none) <|
    .ret) <|
   .seq (.region [
      ⟨some 48, .mv (.t 8), none, []⟩,
      ⟨some 47, .mv (.t 48), none, []⟩] none) <|
   .cond (.t 47) (.seq (.region [
       ⟨some 49, .build [.nil, .nil] [], none, []⟩,
       ⟨none, .store 2 (.t 4) (.t 49), none, []⟩,
       ⟨some 5, .mv (.c (.int .i64 46)), none, []⟩] none) <|
    .ret) <|
   .seq (.region [
      ⟨some 51, .fa 1 (.t 2), none, []⟩,
      ⟨some 52, .load false 1 (.t 51), none, []⟩,
      ⟨some 53, .len (.t 52), none, []⟩,
      ⟨some 54, .bin .eql (.t 53) (.c (.int .i64 4096)), none, []⟩,
      ⟨some 50, .mv (.t 54), none, []⟩] none) <|
   .cond (.t 50) (.seq (.region [
       ⟨some 55, .build [.nil, .nil] [], none, []⟩,
       ⟨none, .store 2 (.t 4) (.t 55), none, []⟩,
       ⟨some 5, .mv (.c (.int .i64 10)), none, []⟩] none) <|
    .ret) <|
   .skip) <|
  .seq (.hregion [
     ⟨4, ⟨some 60, .load true 6 (.t 3), none, []⟩⟩,
     ⟨3, ⟨some 59, .mv (.t 7), none, []⟩⟩,
     ⟨1, ⟨some 57, .fa 1 (.t 2), none, []⟩⟩,
     ⟨2, ⟨some 58, .load false 1 (.t 57), none, [1]⟩⟩,
     ⟨0, ⟨some 56, .load true 2 (.t 2), none, []⟩⟩,
     ⟨5, ⟨some 61, .call 32 [.t 58, .t 59, .t 60], none, [2, 3, 4, 1]⟩⟩,
     ⟨6, ⟨some 62, .call 31 [.t 56, .t 61], none, [0, 5, 2, 3, 4, 1]⟩⟩,
     ⟨7, ⟨none, .store 2 (.t 4) (.t 62), none, [6, 0, 1, 2, 3, 4, 5]⟩⟩,
     ⟨8, ⟨some 5, .mv (.c (.int .i64 0)), none, [7, 0, 1, 2, 3, 4, 5, 6]⟩⟩]) <|
  .ret
abbrev n_revision_File : Nat := 12
theorem b_revision_File : bodyOf prog 12 [1000000] = some (c_revision_File, [.c 4 true 2, .t 5], 63) := by kernel_rfl

def c_revision_Current : ACode :=
  .seq (.region [
     ⟨some 2, .box 2 30 (.t 0), none, []⟩,
     ⟨some 4, .alloc 4 41 (.agg [.int .i64 0, .nil, .nil, .nil]), none, []⟩,
     ⟨some 5, .mv (.c (.int .i64 0)), none, []⟩,
     ⟨some 6, .mv (.c (.int .i64 0)), none, []⟩] none) <|
  .seq (.seq (.region [
      ⟨some 12, .load true 2 (.t 2), none, []⟩,
      ⟨some 13, .call 26 [.t 12], none, []⟩,
      ⟨some 14, .bin .neq (.t 13) (.c (.int .i64 0)), none, []⟩] none) <|
   .cond (.t 14) (.seq (.region [
       ⟨some 15, .build [.int .i64 0, .nil, .nil, .nil] [], none, []⟩,
       ⟨none, .store 4 (.t 4) (.t 15), none, []⟩,
       ⟨some 5, .mv (.c (.int .i64 0)), none, []⟩,
       ⟨some 6, .mv (.c (.int .i64 50)), none, []⟩] none) <|
    .ret) <|
   .skip) <|
  .seq (.seq (.region [
      ⟨some 16, .mv (.t 1), none, []⟩,
      ⟨some 17, .bin .lss (.t 16) (.c (.int .i64 0)), none, []⟩,
      ⟨some 18, .mv (.t 17), none, []⟩,
      ⟨some 19, .mv (.t 1), some (18, false), []⟩,
      ⟨some 20, .fa 0 (.t 2), some (18, false), []⟩,
      ⟨some 21, .load false 1 (.t 20), some (18, false), []⟩,
      ⟨some 22, .len (.t 21), some (18, false), []⟩,
      ⟨some 23, .bin .geq (.t 19) (.t 22), some (18, false), []⟩,
      ⟨some 24, .pick (.t 18) (.c (.bool true)) (.t 23), none, []⟩] none) <|
   .cond (.t 24) (.seq (.region [
       ⟨some 25, .build [.int .i64 0, .nil, .nil, .nil] [], none, []⟩,
       ⟨none, .store 4 (.t 4) (.t 25), none, []⟩,
       ⟨some 5, .mv (.c (.int .i64 0)), none, []⟩,
       ⟨some 6, .mv (.c (.int .i64 47)), none, []⟩] none) <|
    .ret) <|
   .skip) <|
  .seq (.region [
     ⟨some 26, .fa 0 (.t 2), none, []⟩,
     ⟨some 27, .load false 1 (.t 26), none, []⟩,
     ⟨some 28, .mv (.t 1), none, []⟩,
     ⟨some 29, .ixs 4 (.t 27) (.t 28), none, []⟩,
     ⟨some 30, .load true 4 (.t 29), none, []⟩,
     ⟨some 31, .call 33 [.t 30], none, []⟩,
     ⟨some 7, .alloc 4 41 (.agg [.int .i64 0, .nil, .nil, .nil]), none, []⟩,
     ⟨none, .store 4 (.t 7) (.t 31), none, []⟩] none) <|
  .seq (.seq (.region [
      ⟨some 32, .fa 1 (.t 2), none, []⟩,
      ⟨some 33, .load false 1 (.t 32), none, []⟩,
      ⟨some 34, .len (.t 33), none, []⟩,
      ⟨some 35, .mv (.c (.int .i64 0)), none, []⟩] none) <|
   .block 0 <|
   .loop <|
   .seq (.region [
      ⟨some 36, .bin .lss (.t 35) (.t 34), none, []⟩] none) <|
   .seq (.cond (.t 36) (.skip) <|
    .exit 0) <|
   .seq (.block 1 <|
    .seq (.region [
       ⟨some 37, .ixs 6 (.t 33) (.t 35), none, []⟩,
       ⟨some 38, .load true 6 (.t 37), none, []⟩,
       ⟨some 9, .alloc 6 37 (.agg [.int .i64 0, .int .i64 0, .int .i64 0, .int .i64 0, .int .i64 0, .int .i64 0]), none, []⟩,
       ⟨none, .store 6 (.t 9) (.t 38), none, []⟩] none) <|
    .seq (.seq (.region [
        ⟨some 39, .fa 1 (.t 9), none, []⟩,
        ⟨some 40, .load false 1 (.t 39), none, []⟩,
        ⟨some 41, .mv (.t 1), none, []⟩,
        ⟨some 42, .bin .neq (.t 40) (.t 41), none, []⟩] none) <|
     .cond (.t 42) (.exit 1) <|
     .skip) <|
    .seq (.region [
       ⟨some 44, .load true 4 (.t 7), none, []⟩,
       ⟨some 45, .fa 2 (.t 9), none, []⟩,
       ⟨some 46, .load false 1 (.t 45), none, []⟩,
       ⟨some 47, .fa 3 (.t 9), none, []⟩,
       ⟨some 48, .load false 1 (.t 47), none, []⟩,
       ⟨some 49, .fa 4 (.t 9), none, []⟩,
       ⟨some 50, .load true 2 (.t 49), none, []⟩,
       ⟨some 51, .call 34 [.t 44, .t 46, .t 48, .t 50], none, []⟩,
       ⟨some 43, .mv (.t 51), none, []⟩,
       ⟨some 52, .ext (.t 43) 0, none, []⟩,
       ⟨some 53, .ext (.t 43) 1, none, []⟩,
       ⟨some 10, .alloc 4 41 (.agg [.int .i64 0, .nil, .nil, .nil]), none, []⟩,
       ⟨none, .store 4 (.t 10) (.t 52), none, []⟩,
       ⟨some 11, .mv (.t 53), none, []⟩] none) <|
    .seq (.seq (.region [
        ⟨some 54, .mv (.t 11), none, []⟩,
        ⟨some 55, .bin .neq (.t 54) (.c (.int .i64 0)), none, []⟩] none) <|
     .cond (.t 55) (.seq (.hregion [
         ⟨1, ⟨some 57, .fa 0 (.t 9), none, []⟩⟩,
         ⟨2, ⟨some 58, .load false 1 (.t 57), none, [1]⟩⟩,
         ⟨0, ⟨some 56, .build [.int .i64 0, .nil, .nil, .nil] [], none, []⟩⟩,
         ⟨3, ⟨none, .store 4 (.t 4) (.t 56), none, [0]⟩⟩,
         ⟨4, ⟨some 5, .mv (.t 58), none, [2, 3, 0, 1]⟩⟩,
         ⟨5, ⟨some 6, .mv (.c (.int .i64 48)), none, [4, 0, 1, 2, 3]⟩⟩]) <|
      .ret) <|
     .skip) <|
    .region [
      ⟨some 59, .load true 4 (.t 10), none, []⟩,
      ⟨none, .store 4 (.t 7) (.t 59), none, []⟩] none) <|
   .region [
     ⟨some 60, .bin .add (.t 35) (.c (.int .i64 1)), none, []⟩,
     ⟨some 35, .mv (.t 60), none, []⟩] none) <|
  .seq (.region [
     ⟨some 61, .load true 4 (.t 7), none, []⟩,
     ⟨none, .store 4 (.t 4) (.t 61), none, []⟩,
     ⟨some 5, .mv (.c (.int .i64 0)), none, []⟩,
     ⟨some 6, .mv (.c (.int .i64 0)), none, []⟩] none) <|
  .ret
abbrev n_revision_Current : Nat := 13
theorem b_revision_Current : bodyOf prog 13 [1000000] = some (c_revision_Current, [.c 4 true 4, .t 5, .t 6], 62) := by kernel_rfl

def c_revision_Tight : ACode :=
  .seq (.region [
     ⟨some 2, .box 2 30 (.t 0), none, []⟩,
     ⟨some 4, .alloc 4 41 (.agg [.int .i64 0, .nil, .nil, .nil]), none, []⟩,
     ⟨some 5, .mv (.c (.int .i64 0)), none, []⟩] none) <|
  .seq (.region [
     ⟨some 10, .load true 2 (.t 2), none, []⟩,
     ⟨some 11, .mv (.t 1), none, []⟩,
     ⟨some 12, .call 13 [.t 10, .t 11], none, []⟩,
     ⟨some 9, .mv (.t 12), none, []⟩,
     ⟨some 13, .ext (.t 9) 0, none, []⟩,
     ⟨some 14, .ext (.t 9) 1, none, []⟩,
     ⟨some 15, .ext (.t 9) 2, none, []⟩,
     ⟨some 6, .alloc 4 41 (.agg [.int .i64 0, .nil, .nil, .nil]), none, []⟩,
     ⟨none, .store 4 (.t 6) (.t 13), none, []⟩,
     ⟨some 7, .mv (.t 14), none, []⟩,
     ⟨some 8, .mv (.t 15), none, []⟩] none) <|
  .seq (.seq (.region [
      ⟨some 16, .mv (.t 8), none, []⟩,
      ⟨some 17, .bin .neq (.t 16) (.c (.int .i64 0)), none, []⟩] none) <|
   .cond (.t 17) (.seq (.region [
       ⟨some 18, .build [.int .i64 0, .nil, .nil, .nil] [], none, []⟩,
       ⟨some 19, .mv (.t 8), none, []⟩,
       ⟨none, .store 4 (.t 4) (.t 18), none, []⟩,
       ⟨some 5, .mv (.t 19), none, []⟩] none) <|
    .ret) <|
   .skip) <|
  .seq (.region [
     ⟨some 20, .load true 4 (.t 6), none, []⟩,
     ⟨some 21, .call 35 [.t 20], none, []⟩,
     ⟨some 22, .ext (.t 21) 0, none, []⟩,
     ⟨some 23, .ext (.t 21) 1, none, []⟩,
     ⟨none, .store 4 (.t 4) (.t 22), none, []⟩,
     ⟨some 5, .mv (.t 23), none, []⟩] none) <|
  .ret
abbrev n_revision_Tight : Nat := 14
theorem b_revision_Tight : bodyOf prog 14 [1000000] = some (c_revision_Tight, [.c 4 true 4, .t 5], 24) := by kernel_rfl

def c_ref30_Holds : ACode :=
  .seq (.region [
     ⟨some 4, .box 4 41 (.t 0), none, []⟩,
     ⟨some 8, .mv (.c (.bool false)), none, []⟩] none) <|
  .seq (.seq (.region [
      ⟨some 12, .load true 4 (.t 4), none, []⟩,
      ⟨some 13, .call 36 [.t 12], none, []⟩,
      ⟨some 14, .bin .neq (.t 13) (.c (.int .i64 0)), none, []⟩,
      ⟨some 15, .mv (.t 14), none, []⟩,
      ⟨some 16, .mv (.t 1), some (15, false), []⟩,
      ⟨some 17, .len (.t 16), some (15, false), []⟩,
      ⟨some 18, .fa 1 (.t 4), some (15, false), []⟩,
      ⟨some 19, .load false 1 (.t 18), some (15, false), []⟩,
      ⟨some 20, .len (.t 19), some (15, false), []⟩,
      ⟨some 21, .bin .neq (.t 17) (.t 20), some (15, false), []⟩,
      ⟨some 22, .pick (.t 15) (.c (.bool true)) (.t 21), none, []⟩,
      ⟨some 23, .mv (.t 22), none, []⟩,
      ⟨some 24, .mv (.t 2), some (23, false), []⟩,
      ⟨some 25, .len (.t 24), some (23, false), []⟩,
      ⟨some 26, .fa 2 (.t 4), some (23, false), []⟩,
      ⟨some 27, .load false 1 (.t 26), some (23, false), []⟩,
      ⟨some 28, .len (.t 27), some (23, false), []⟩,
      ⟨some 29, .bin .neq (.t 25) (.t 28), some (23, false), []⟩,
      ⟨some 30, .pick (.t 23) (.c (.bool true)) (.t 29), none, []⟩,
      ⟨some 31, .mv (.t 30), none, []⟩,
      ⟨some 32, .mv (.t 3), some (31, false), []⟩,
      ⟨some 33, .len (.t 32), some (31, false), []⟩,
      ⟨some 34, .fa 3 (.t 4), some (31, false), []⟩,
      ⟨some 35, .load false 1 (.t 34), some (31, false), []⟩,
      ⟨some 36, .len (.t 35), some (31, false), []⟩,
      ⟨some 37, .bin .neq (.t 33) (.t 36), some (31, false), []⟩,
      ⟨some 38, .pick (.t 31) (.c (.bool true)) (.t 37), none, []⟩] none) <|
   .cond (.t 38) (.seq (.region [
       ⟨some 8, .mv (.c (.bool false)), none, []⟩] none) <|
    .ret) <|
   .skip) <|
  .seq (.seq (.region [
      ⟨some 39, .mv (.t 1), none, []⟩,
      ⟨some 40, .len (.t 39), none, []⟩,
      ⟨some 41, .mv (.c (.int .i64 0)), none, []⟩] none) <|
   .block 0 <|
   .loop <|
   .seq (.region [
      ⟨some 42, .bin .lss (.t 41) (.t 40), none, []⟩] none) <|
   .seq (.cond (.t 42) (.skip) <|
    .exit 0) <|
   .seq (.block 1 <|
    .seq (.region [
       ⟨some 43, .mv (.t 41), none, []⟩,
       ⟨some 44, .ixs 1 (.t 39) (.t 41), none, []⟩,
       ⟨some 45, .load false 1 (.t 44), none, []⟩,
       ⟨some 9, .mv (.t 43), none, []⟩,
       ⟨some 10, .mv (.t 45), none, []⟩] none) <|
    .seq (.region [
       ⟨some 46, .mv (.t 10), none, []⟩,
       ⟨some 47, .fa 1 (.t 4), none, []⟩,
       ⟨some 48, .load false 1 (.t 47), none, []⟩,
       ⟨some 49, .mv (.t 9), none, []⟩,
       ⟨some 50, .ixs 2 (.t 48) (.t 49), none, []⟩,
       ⟨some 51, .load true 2 (.t 50), none, []⟩,
       ⟨some 52, .call 37 [.t 46, .t 51], none, []⟩,
       ⟨some 53, .un .not (.t 52), none, []⟩] none) <|
    .cond (.t 53) (.seq (.region [
        ⟨some 8, .mv (.c (.bool false)), none, []⟩] none) <|
     .ret) <|
    .skip) <|
   .region [
     ⟨some 54, .bin .add (.t 41) (.c (.int .i64 1)), none, []⟩,
     ⟨some 41, .mv (.t 54), none, []⟩] none) <|
  .seq (.seq (.region [
      ⟨some 55, .mv (.t 2), none, []⟩,
      ⟨some 56, .len (.t 55), none, []⟩,
      ⟨some 57, .mv (.c (.int .i64 0)), none, []⟩] none) <|
   .block 2 <|
   .loop <|
   .seq (.region [
      ⟨some 58, .bin .lss (.t 57) (.t 56), none, []⟩] none) <|
   .seq (.cond (.t 58) (.skip) <|
    .exit 2) <|
   .seq (.block 3 <|
    .seq (.region [
       ⟨some 59, .mv (.t 57), none, []⟩,
       ⟨some 11, .mv (.t 59), none, []⟩] none) <|
    .seq (.hregion [
       ⟨6, ⟨some 66, .mv (.t 11), none, []⟩⟩,
       ⟨4, ⟨some 64, .fa 2 (.t 4), none, []⟩⟩,
       ⟨5, ⟨some 65, .load false 1 (.t 64), none, [4]⟩⟩,
       ⟨7, ⟨some 67, .ixs 2 (.t 65) (.t 66), none, [5, 6, 4]⟩⟩,
       ⟨8, ⟨some 68, .load true 2 (.t 67), none, [7, 5, 6, 4]⟩⟩,
       ⟨1, ⟨some 61, .mv (.t 11), none, []⟩⟩,
       ⟨0, ⟨some 60, .mv (.t 2), none, []⟩⟩,
       ⟨2, ⟨some 62, .ixs 1 (.t 60) (.t 61), none, [0, 1]⟩⟩,
       ⟨3, ⟨some 63, .load false 1 (.t 62), none, [2, 0, 1]⟩⟩,
       ⟨9, ⟨some 69, .call 37 [.t 63, .t 68], none, [3, 8, 2, 0, 1, 7, 5, 6, 4]⟩⟩,
       ⟨10, ⟨some 70, .un .not (.t 69), none, [9, 3, 8, 2, 0, 1, 7, 5, 6, 4]⟩⟩,
       ⟨11, ⟨some 71, .mv (.t 70), none, [10, 9, 3, 8, 2, 0, 1, 7, 5, 6, 4]⟩⟩,
       ⟨18, ⟨some 78, .mv (.t 11), some (71, false), [11, 10, 9, 3, 8, 2, 0, 1, 7, 5, 6, 4]⟩⟩,
       ⟨16, ⟨some 76, .fa 3 (.t 4), some (71, false), [11, 10, 9, 3, 8, 2, 0, 1, 7, 5, 6, 4]⟩⟩,
       ⟨17, ⟨some 77, .load false 1 (.t 76), some (71, false), [16, 11, 10, 9, 3, 8, 2, 0, 1, 7, 5, 6, 4]⟩⟩,
       ⟨19, ⟨some 79, .ixs 2 (.t 77) (.t 78), some (71, false), [17, 18, 11, 16, 10, 9, 3, 8, 2, 0, 1, 7, 5, 6, 4]⟩⟩,
       ⟨20, ⟨some 80, .load true 2 (.t 79), some (71, false), [19, 11, 17, 18, 16, 10, 9, 3, 8, 2, 0, 1, 7, 5, 6, 4]⟩⟩,
       ⟨13, ⟨some 73, .mv (.t 11), some (71, false), [11, 10, 9, 3, 8, 2, 0, 1, 7, 5, 6, 4]⟩⟩,
       ⟨12, ⟨some 72, .mv (.t 3), some (71, false), [11, 10, 9, 3, 8, 2, 0, 1, 7, 5, 6, 4]⟩⟩,
       ⟨14, ⟨some 74, .ixs 1 (.t 72) (.t 73), some (71, false), [12, 13, 11, 10, 9, 3, 8, 2, 0, 1, 7, 5, 6, 4]⟩⟩,
       ⟨15, ⟨some 75, .load false 1 (.t 74), some (71, false), [14, 11, 12, 13, 10, 9, 3, 8, 2, 0, 1, 7, 5, 6, 4]⟩⟩,
       ⟨21, ⟨some 81, .call 37 [.t 75, .t 80], some (71, false), [15, 20, 11, 14, 12, 13, 10, 9, 3, 8, 2, 0, 1, 7, 5, 6, 4, 19, 17, 18, 16]⟩⟩,
       ⟨22, ⟨some 82, .un .not (.t 81), some (71, false), [21, 11, 15, 20, 14, 12, 13, 10, 9, 3, 8, 2, 0, 1, 7, 5, 6, 4, 19, 17, 18, 16]⟩⟩,
       ⟨23, ⟨some 83, .pick (.t 71) (.c (.bool true)) (.t 82), none, [11, 22, 10, 9, 3, 8, 2, 0, 1, 7, 5, 6, 4, 21, 15, 20, 14, 12, 13, 19, 17, 18, 16]⟩⟩,
       ⟨24, ⟨some 84, .mv (.t 83), none, [23, 21, 11, 22, 10, 9, 3, 8, 2, 0, 1, 7, 5, 6, 4, 15, 20, 14, 12, 13, 19, 17, 18, 16]⟩⟩,
       ⟨40, ⟨some 100, .mv (.t 11), some (84, false), [24, 23, 21, 11, 22, 10, 9, 3, 8, 2, 0, 1, 7, 5, 6, 4, 15, 20, 14, 12, 13, 19, 17, 18, 16]⟩⟩,
       ⟨41, ⟨some 101, .bin .add (.t 100) (.c (.int .i64 1)), some (84, false), [40, 24, 23, 21, 11, 22, 10, 9, 3, 8, 2, 0, 1, 7, 5, 6, 4, 15, 20, 14, 12, 13, 19, 17, 18, 16]⟩⟩,
       ⟨39, ⟨some 99, .mv (.t 1), some (84, false), [24, 23, 21, 11, 22, 10, 9, 3, 8, 2, 0, 1, 7, 5, 6, 4, 15, 20, 14, 12, 13, 19, 17, 18, 16]⟩⟩,
       ⟨42, ⟨some 102, .ixs 1 (.t 99) (.t 101), some (84, false), [39, 41, 24, 23, 21, 11, 22, 10, 9, 3, 8, 2, 0, 1, 7, 5, 6, 4, 15, 20, 14, 12, 13, 19, 17, 18, 16, 40]⟩⟩,
       ⟨43, ⟨some 103, .load false 1 (.t 102), some (84, false), [42, 24, 39, 41, 23, 21, 11, 22, 10, 9, 3, 8, 2, 0, 1, 7, 5, 6, 4, 15, 20, 14, 12, 13, 19, 17, 18, 16, 40]⟩⟩,
       ⟨35, ⟨some 95, .mv (.t 11), some (84, false), [24, 23, 21, 11, 22, 10, 9, 3, 8, 2, 0, 1, 7, 5, 6, 4, 15, 20, 14, 12, 13, 19, 17, 18, 16]⟩⟩,
       ⟨34, ⟨some 94, .mv (.t 3), some (84, false), [24, 23, 21, 11, 22, 10, 9, 3, 8, 2, 0, 1, 7, 5, 6, 4, 15, 20, 14, 12, 13, 19, 17, 18, 16]⟩⟩,
       ⟨36, ⟨some 96, .ixs 1 (.t 94) (.t 95), some (84, false), [34, 35, 24, 23, 21, 11, 22, 10, 9, 3, 8, 2, 0, 1, 7, 5, 6, 4, 15, 20, 14, 12, 13, 19, 17, 18, 16]⟩⟩,
       ⟨37, ⟨some 97, .load false 1 (.t 96), some (84, false), [36, 24, 34, 35, 23, 21, 11, 22, 10, 9, 3, 8, 2, 0, 1, 7, 5, 6, 4, 15, 20, 14, 12, 13, 19, 17, 18, 16]⟩⟩,
       ⟨30, ⟨some 90, .mv (.t 11), some (84, false), [24, 23, 21, 11, 22, 10, 9, 3, 8, 2, 0, 1, 7, 5, 6, 4, 15, 20, 14, 12, 13, 19, 17, 18, 16]⟩⟩,
       ⟨29, ⟨some 89, .mv (.t 2), some (84, false), [24, 23, 21, 11, 22, 10, 9, 3, 8, 2, 0, 1, 7, 5, 6, 4, 15, 20, 14, 12, 13, 19, 17, 18, 16]⟩⟩,
       ⟨31, ⟨some 91, .ixs 1 (.t 89) (.t 90), some (84, false), [29, 30, 24, 23, 21, 11, 22, 10, 9, 3, 8, 2, 0, 1, 7, 5, 6, 4, 15, 20, 14, 12, 13, 19, 17, 18, 16]⟩⟩,
       ⟨32, ⟨some 92, .load false 1 (.t 91), some (84, false), [31, 24, 29, 30, 23, 21, 11, 22, 10, 9, 3, 8, 2, 0, 1, 7, 5, 6, 4, 15, 20, 14, 12, 13, 19, 17, 18, 16]⟩⟩,
       ⟨26, ⟨some 86, .mv (.t 11), some (84, false), [24, 23, 21, 11, 22, 10, 9, 3, 8, 2, 0, 1, 7, 5, 6, 4, 15, 20, 14, 12, 13, 19, 17, 18, 16]⟩⟩,
       ⟨25, ⟨some 85, .mv (.t 1), some (84, false), [24, 23, 21, 11, 22, 10, 9, 3, 8, 2, 0, 1, 7, 5, 6, 4, 15, 20, 14, 12, 13, 19, 17, 18, 16]⟩⟩,
       ⟨27, ⟨some 87, .ixs 1 (.t 85) (.t 86), some (84, false), [25, 26, 24, 23, 21, 11, 22, 10, 9, 3, 8, 2, 0, 1, 7, 5, 6, 4, 15, 20, 14, 12, 13, 19, 17, 18, 16]⟩⟩,
       ⟨28, ⟨some 88, .load false 1 (.t 87), some (84, false), [27, 24, 25, 26, 23, 21, 11, 22, 10, 9, 3, 8, 2, 0, 1, 7, 5, 6, 4, 15, 20, 14, 12, 13, 19, 17, 18, 16]⟩⟩,
       ⟨33, ⟨some 93, .bin .add (.t 88) (.t 92), some (84, false), [28, 32, 24, 27, 25, 26, 23, 21, 11, 22, 10, 9, 3, 8, 2, 0, 1, 7, 5, 6, 4, 15, 20, 14, 12, 13, 19, 17, 18, 16, 31, 29, 30]⟩⟩,
       ⟨38, ⟨some 98, .bin .sub (.t 93) (.t 97), some (84, false), [33, 37, 24, 28, 32, 27, 25, 26, 23, 21, 11, 22, 10, 9, 3, 8, 2, 0, 1, 7, 5, 6, 4, 15, 20, 14, 12, 13, 19, 17, 18, 16, 31, 29, 30, 36, 34, 35]⟩⟩,
       ⟨44, ⟨some 104, .bin .neq (.t 98) (.t 103), some (84, false), [38, 43, 24, 33, 37, 28, 32, 27, 25, 26, 23, 21, 11, 22, 10, 9, 3, 8, 2, 0, 1, 7, 5, 6, 4, 15, 20, 14, 12, 13, 19, 17, 18, 16, 31, 29, 30, 36, 34, 35, 42, 39, 41, 40]⟩⟩,
       ⟨45, ⟨some 105, .pick (.t 84) (.c (.bool true)) (.t 104), none, [24, 44, 23, 21, 11, 22, 10, 9, 3, 8, 2, 0, 1, 7, 5, 6, 4, 15, 20, 14, 12, 13, 19, 17, 18, 16, 38, 43, 33, 37, 28, 32, 27, 25, 26, 31, 29, 30, 36, 34, 35, 42, 39, 41, 40]⟩⟩]) <|
    .cond (.t 105) (.seq (.region [
        ⟨some 8, .mv (.c (.bool false)), none, []⟩] none) <|
     .ret) <|
    .skip) <|
   .region [
     ⟨some 106, .bin .add (.t 57) (.c (.int .i64 1)), none, []⟩,
     ⟨some 57, .mv (.t 106), none, []⟩] none) <|
  .seq (.region [
     ⟨some 8, .mv (.c (.bool true)), none, []⟩] none) <|
  .ret
abbrev n_ref30_Holds : Nat := 15
theorem b_ref30_Holds : bodyOf prog 15 [1000000] = some (c_ref30_Holds, [.t 8], 107) := by kernel_rfl

def c_revision_Upto : ACode :=
  .seq (.region [
     ⟨some 2, .box 2 30 (.t 0), none, []⟩,
     ⟨some 4, .alloc 2 30 (.agg [.nil, .nil]), none, []⟩,
     ⟨some 5, .mv (.c (.int .i64 0)), none, []⟩] none) <|
  .seq (.seq (.region [
      ⟨some 7, .load true 2 (.t 2), none, []⟩,
      ⟨some 8, .call 26 [.t 7], none, []⟩,
      ⟨some 9, .bin .neq (.t 8) (.c (.int .i64 0)), none, []⟩] none) <|
   .cond (.t 9) (.seq (.region [
       ⟨some 10, .build [.nil, .nil] [], none, []⟩,
       ⟨none, .store 2 (.t 4) (.t 10), none, []⟩,
       ⟨some 5, .mv (.c (.int .i64 50)), none, []⟩] none) <|
    .ret) <|
   .skip) <|
  .seq (.region [
     ⟨some 6, .mv (.c (.int .i64 0)), none, []⟩] none) <|
  .seq (.block 0 <|
   .loop <|
   .seq (.seq (.region [
       ⟨some 11, .mv (.t 6), none, []⟩,
       ⟨some 12, .fa 1 (.t 2), none, []⟩,
       ⟨some 13, .load false 1 (.t 12), none, []⟩,
       ⟨some 14, .len (.t 13), none, []⟩,
       ⟨some 15, .bin .lss (.t 11) (.t 14), none, []⟩,
       ⟨some 16, .mv (.t 15), none, []⟩,
       ⟨some 17, .fa 1 (.t 2), some (16, true), []⟩,
       ⟨some 18, .load false 1 (.t 17), some (16, true), []⟩,
       ⟨some 19, .mv (.t 6), some (16, true), []⟩,
       ⟨some 20, .ixs 6 (.t 18) (.t 19), some (16, true), []⟩,
       ⟨some 21, .fa 0 (.t 20), some (16, true), []⟩,
       ⟨some 22, .load false 1 (.t 21), some (16, true), []⟩,
       ⟨some 23, .mv (.t 1), some (16, true), []⟩,
       ⟨some 24, .bin .leq (.t 22) (.t 23), some (16, true), []⟩,
       ⟨some 25, .pick (.t 16) (.t 24) (.c (.bool false)), none, []⟩] none) <|
    .cond (.t 25) (.skip) <|
    .exit 0) <|
   .block 1 <|
   .region [
     ⟨some 26, .mv (.t 6), none, []⟩,
     ⟨some 27, .bin .add (.t 26) (.c (.int .i64 1)), none, []⟩,
     ⟨some 6, .mv (.t 27), none, []⟩] none) <|
  .seq (.hregion [
     ⟨3, ⟨some 31, .mv (.t 6), none, []⟩⟩,
     ⟨1, ⟨some 29, .fa 1 (.t 2), none, []⟩⟩,
     ⟨2, ⟨some 30, .load false 1 (.t 29), none, [1]⟩⟩,
     ⟨4, ⟨some 32, .slc 6 (.t 30) none (some (.t 31)), none, [2, 3, 1]⟩⟩,
     ⟨0, ⟨some 28, .load true 2 (.t 2), none, []⟩⟩,
     ⟨5, ⟨some 33, .call 31 [.t 28, .t 32], none, [0, 4, 2, 3, 1]⟩⟩,
     ⟨6, ⟨none, .store 2 (.t 4) (.t 33), none, [5, 0, 1, 2, 3, 4]⟩⟩,
     ⟨7, ⟨some 5, .mv (.c (.int .i64 0)), none, [6, 0, 1, 2, 3, 4, 5]⟩⟩]) <|
  .ret
abbrev n_revision_Upto : Nat := 16
theorem b_revision_Upto : bodyOf prog 16 [1000000] = some (c_revision_Upto, [.c 4 true 2, .t 5], 34) := by kernel_rfl

def c_ref30_Width : ACode :=
  .seq (.region [
     ⟨some 1, .box 4 41 (.t 0), none, []⟩,
     ⟨some 2, .mv (.c (.int .i64 0)), none, []⟩,
     ⟨some 3, .mv (.c (.int .i64 0)), none, []⟩] none) <|
  .seq (.seq (.region [
      ⟨some 10, .load true 4 (.t 1), none, []⟩,
      ⟨some 11, .call 36 [.t 10], none, []⟩,
      ⟨some 4, .mv (.t 11), none, []⟩] none) <|
   .seq (.region [
      ⟨some 12, .mv (.t 4), none, []⟩,
      ⟨some 13, .bin .neq (.t 12) (.c (.int .i64 0)), none, []⟩] none) <|
   .cond (.t 13) (.seq (.region [
       ⟨some 14, .mv (.t 4), none, []⟩,
       ⟨some 2, .mv (.c (.int .i64 0)), none, []⟩,
       ⟨some 3, .mv (.t 14), none, []⟩] none) <|
    .ret) <|
   .skip) <|
  .seq (.region [
     ⟨some 5, .mv (.c (.int .i64 0)), none, []⟩] none) <|
  .seq (.seq (.region [
      ⟨some 15, .fa 1 (.t 1), none, []⟩,
      ⟨some 16, .load false 1 (.t 15), none, []⟩,
      ⟨some 17, .fa 2 (.t 1), none, []⟩,
      ⟨some 18, .load false 1 (.t 17), none, []⟩,
      ⟨some 19, .fa 3 (.t 1), none, []⟩,
      ⟨some 20, .load false 1 (.t 19), none, []⟩,
      ⟨some 21, .lit false 1 39 [.t 16, .t 18, .t 20], none, []⟩,
      ⟨some 22, .len (.t 21), none, []⟩,
      ⟨some 23, .mv (.c (.int .i64 0)), none, []⟩] none) <|
   .block 0 <|
   .loop <|
   .seq (.region [
      ⟨some 24, .bin .lss (.t 23) (.t 22), none, []⟩] none) <|
   .seq (.cond (.t 24) (.skip) <|
    .exit 0) <|
   .seq (.block 1 <|
    .seq (.region [
       ⟨some 25, .ixs 1 (.t 21) (.t 23), none, []⟩,
       ⟨some 26, .load false 1 (.t 25), none, []⟩,
       ⟨some 7, .mv (.t 26), none, []⟩] none) <|
    .seq (.region [
       ⟨some 27, .mv (.t 7), none, []⟩,
       ⟨some 28, .len (.t 27), none, []⟩,
       ⟨some 29, .mv (.c (.int .i64 0)), none, []⟩] none) <|
    .block 2 <|
    .loop <|
    .seq (.region [
       ⟨some 30, .bin .lss (.t 29) (.t 28), none, []⟩] none) <|
    .seq (.cond (.t 30) (.skip) <|
     .exit 2) <|
    .seq (.block 3 <|
     .seq (.region [
        ⟨some 31, .ixs 2 (.t 27) (.t 29), none, []⟩,
        ⟨some 32, .load true 2 (.t 31), none, []⟩,
        ⟨some 9, .alloc 2 35 (.agg [.int .i64 0, .int .i64 0]), none, []⟩,
        ⟨none, .store 2 (.t 9) (.t 32), none, []⟩] none) <|
     .region [
       ⟨some 33, .mv (.t 5), none, []⟩,
       ⟨some 34, .fa 1 (.t 9), none, []⟩,
       ⟨some 35, .load false 1 (.t 34), none, []⟩,
       ⟨some 36, .fa 0 (.t 9), none, []⟩,
       ⟨some 37, .load false 1 (.t 36), none, []⟩,
       ⟨some 38, .bin .sub (.t 35) (.t 37), none, []⟩,
       ⟨some 39, .bin .add (.t 33) (.t 38), none, []⟩,
       ⟨some 5, .mv (.t 39), none, []⟩] none) <|
    .region [
      ⟨some 40, .bin .add (.t 29) (.c (.int .i64 1)), none, []⟩,
      ⟨some 29, .mv (.t 40), none, []⟩] none) <|
   .region [
     ⟨some 41, .bin .add (.t 23) (.c (.int .i64 1)), none, []⟩,
     ⟨some 23, .mv (.t 41), none, []⟩] none) <|
  .seq (.region [
     ⟨some 42, .mv (.t 5), none, []⟩,
     ⟨some 2, .mv (.t 42), none, []⟩,
     ⟨some 3, .mv (.c (.int .i64 0)), none, []⟩] none) <|
  .ret
abbrev n_ref30_Width : Nat := 17
theorem b_ref30_Width : bodyOf prog 17 [1000000] = some (c_ref30_Width, [.t 2, .t 3], 43) := by kernel_rfl

def c_revision_Changed : ACode :=
  .seq (.region [
     ⟨some 2, .box 2 30 (.t 0), none, []⟩,
     ⟨some 3, .box 6 37 (.t 1), none, []⟩,
     ⟨some 4, .mv (.c (.int .i64 0)), none, []⟩,
     ⟨some 5, .mv (.c (.int .i64 0)), none, []⟩] none) <|
  .seq (.region [
     ⟨some 11, .load true 2 (.t 2), none, []⟩,
     ⟨some 12, .load true 6 (.t 3), none, []⟩,
     ⟨some 13, .call 12 [.t 11, .t 12], none, []⟩,
     ⟨some 10, .mv (.t 13), none, []⟩,
     ⟨some 14, .ext (.t 10) 0, none, []⟩,
     ⟨some 15, .ext (.t 10) 1, none, []⟩,
     ⟨some 6, .alloc 2 30 (.agg [.nil, .nil]), none, []⟩,
     ⟨none, .store 2 (.t 6) (.t 14), none, []⟩,
     ⟨some 7, .mv (.t 15), none, []⟩] none) <|
  .seq (.seq (.region [
      ⟨some 16, .mv (.t 7), none, []⟩,
      ⟨some 17, .bin .neq (.t 16) (.c (.int .i64 0)), none, []⟩] none) <|
   .cond (.t 17) (.seq (.region [
       ⟨some 18, .mv (.t 7), none, []⟩,
       ⟨some 4, .mv (.c (.int .i64 0)), none, []⟩,
       ⟨some 5, .mv (.t 18), none, []⟩] none) <|
    .ret) <|
   .skip) <|
  .seq (.region [
     ⟨some 20, .load true 2 (.t 2), none, []⟩,
     ⟨some 21, .fa 1 (.t 3), none, []⟩,
     ⟨some 22, .load false 1 (.t 21), none, []⟩,
     ⟨some 23, .call 14 [.t 20, .t 22], none, []⟩,
     ⟨some 19, .mv (.t 23), none, []⟩,
     ⟨some 24, .ext (.t 19) 0, none, []⟩,
     ⟨some 25, .ext (.t 19) 1, none, []⟩,
     ⟨some 8, .alloc 4 41 (.agg [.int .i64 0, .nil, .nil, .nil]), none, []⟩,
     ⟨none, .store 4 (.t 8) (.t 24), none, []⟩,
     ⟨some 7, .mv (.t 25), none, []⟩] none) <|
  .seq (.seq (.region [
      ⟨some 26, .mv (.t 7), none, []⟩,
      ⟨some 27, .bin .neq (.t 26) (.c (.int .i64 0)), none, []⟩] none) <|
   .cond (.t 27) (.seq (.region [
       ⟨some 28, .mv (.t 7), none, []⟩,
       ⟨some 4, .mv (.c (.int .i64 0)), none, []⟩,
       ⟨some 5, .mv (.t 28), none, []⟩] none) <|
    .ret) <|
   .skip) <|
  .seq (.region [
     ⟨some 30, .load true 2 (.t 6), none, []⟩,
     ⟨some 31, .fa 1 (.t 3), none, []⟩,
     ⟨some 32, .load false 1 (.t 31), none, []⟩,
     ⟨some 33, .call 14 [.t 30, .t 32], none, []⟩,
     ⟨some 29, .mv (.t 33), none, []⟩,
     ⟨some 34, .ext (.t 29) 0, none, []⟩,
     ⟨some 35, .ext (.t 29) 1, none, []⟩,
     ⟨some 9, .alloc 4 41 (.agg [.int .i64 0, .nil, .nil, .nil]), none, []⟩,
     ⟨none, .store 4 (.t 9) (.t 34), none, []⟩,
     ⟨some 7, .mv (.t 35), none, []⟩] none) <|
  .seq (.seq (.region [
      ⟨some 36, .mv (.t 7), none, []⟩,
      ⟨some 37, .bin .neq (.t 36) (.c (.int .i64 0)), none, []⟩] none) <|
   .cond (.t 37) (.seq (.region [
       ⟨some 38, .mv (.t 7), none, []⟩,
       ⟨some 4, .mv (.c (.int .i64 0)), none, []⟩,
       ⟨some 5, .mv (.t 38), none, []⟩] none) <|
    .ret) <|
   .skip) <|
  .seq (.hregion [
     ⟨13, ⟨some 52, .fa 3 (.t 9), none, []⟩⟩,
     ⟨14, ⟨some 53, .load false 1 (.t 52), none, [13]⟩⟩,
     ⟨11, ⟨some 50, .fa 3 (.t 8), none, []⟩⟩,
     ⟨12, ⟨some 51, .load false 1 (.t 50), none, [11]⟩⟩,
     ⟨7, ⟨some 46, .fa 2 (.t 9), none, []⟩⟩,
     ⟨8, ⟨some 47, .load false 1 (.t 46), none, [7]⟩⟩,
     ⟨5, ⟨some 44, .fa 2 (.t 8), none, []⟩⟩,
     ⟨6, ⟨some 45, .load false 1 (.t 44), none, [5]⟩⟩,
     ⟨2, ⟨some 41, .fa 1 (.t 9), none, []⟩⟩,
     ⟨3, ⟨some 42, .load false 1 (.t 41), none, [2]⟩⟩,
     ⟨0, ⟨some 39, .fa 1 (.t 8), none, []⟩⟩,
     ⟨1, ⟨some 40, .load false 1 (.t 39), none, [0]⟩⟩,
     ⟨4, ⟨some 43, .call 38 [.t 40, .t 42], none, [1, 3, 0, 2]⟩⟩,
     ⟨9, ⟨some 48, .call 38 [.t 45, .t 47], none, [6, 8, 4, 5, 7, 1, 3, 0, 2]⟩⟩,
     ⟨10, ⟨some 49, .bin .add (.t 43) (.t 48), none, [4, 9, 1, 3, 0, 2, 6, 8, 5, 7]⟩⟩,
     ⟨15, ⟨some 54, .call 38 [.t 51, .t 53], none, [12, 14, 9, 11, 13, 6, 8, 4, 5, 7, 1, 3, 0, 2]⟩⟩,
     ⟨16, ⟨some 55, .bin .add (.t 49) (.t 54), none, [10, 15, 4, 9, 1, 3, 0, 2, 6, 8, 5, 7, 12, 14, 11, 13]⟩⟩,
     ⟨17, ⟨some 4, .mv (.t 55), none, [16, 15, 0, 1, 2, 3, 4, 5, 6, 7, 8, 9, 10, 11, 12, 13, 14]⟩⟩,
     ⟨18, ⟨some 5, .mv (.c (.int .i64 0)), none, [17, 0, 1, 2, 3, 4, 5, 6, 7, 8, 9, 10, 11, 12, 13, 14, 15, 16]⟩⟩]) <|
  .ret
abbrev n_revision_Changed : Nat := 18
theorem b_revision_Changed : bodyOf prog 18 [1000000] = some (c_revision_Changed, [.t 4, .t 5], 56) := by kernel_rfl

def c_ref30_Same : ACode :=
  .seq (.region [
     ⟨some 2, .box 4 41 (.t 0), none, []⟩,
     ⟨some 3, .box 4 41 (.t 1), none, []⟩,
     ⟨some 4, .mv (.c (.bool false)), none, []⟩] none) <|
  .seq (.region [
     ⟨some 5, .fa 0 (.t 2), none, []⟩,
     ⟨some 6, .load false 1 (.t 5), none, []⟩,
     ⟨some 7, .fa 0 (.t 3), none, []⟩,
     ⟨some 8, .load false 1 (.t 7), none, []⟩,
     ⟨some 9, .bin .eql (.t 6) (.t 8), none, []⟩,
     ⟨some 10, .mv (.t 9), none, []⟩,
     ⟨some 11, .fa 1 (.t 2), some (10, true), []⟩,
     ⟨some 12, .load false 1 (.t 11), some (10, true), []⟩,
     ⟨some 13, .fa 1 (.t 3), some (10, true), []⟩,
     ⟨some 14, .load false 1 (.t 13), some (10, true), []⟩,
     ⟨some 15, .call 39 [.t 12, .t 14], some (10, true), []⟩,
     ⟨some 16, .pick (.t 10) (.t 15) (.c (.bool false)), none, []⟩,
     ⟨some 17, .mv (.t 16), none, []⟩,
     ⟨some 18, .fa 2 (.t 2), some (17, true), []⟩,
     ⟨some 19, .load false 1 (.t 18), some (17, true), []⟩,
     ⟨some 20, .fa 2 (.t 3), some (17, true), []⟩,
     ⟨some 21, .load false 1 (.t 20), some (17, true), []⟩,
     ⟨some 22, .call 39 [.t 19, .t 21], some (17, true), []⟩,
     ⟨some 23, .pick (.t 17) (.t 22) (.c (.bool false)), none, []⟩,
     ⟨some 24, .mv (.t 23), none, []⟩,
     ⟨some 25, .fa 3 (.t 2), some (24, true), []⟩,
     ⟨some 26, .load false 1 (.t 25), some (24, true), []⟩,
     ⟨some 27, .fa 3 (.t 3), some (24, true), []⟩,
     ⟨some 28, .load false 1 (.t 27), some (24, true), []⟩,
     ⟨some 29, .call 39 [.t 26, .t 28], some (24, true), []⟩,
     ⟨some 30, .pick (.t 24) (.t 29) (.c (.bool false)), none, []⟩,
     ⟨some 4, .mv (.t 30), none, []⟩] none) <|
  .ret
abbrev n_ref30_Same : Nat := 19
theorem b_ref30_Same : bodyOf prog 19 [1000000] = some (c_ref30_Same, [.t 4], 31) := by kernel_rfl

def c_mk_Deck_Next : ACode :=
  .seq (.region [
     ⟨some 4, .mv (.c (.int .i64 0)), none, []⟩] none) <|
  .seq (.seq (.region [
      ⟨some 6, .mv (.t 1), none, []⟩,
      ⟨some 7, .bin .lss (.t 6) (.c (.int .i64 1)), none, [0]⟩,
      ⟨some 8, .mv (.t 7), none, [1, 0]⟩,
      ⟨some 9, .mv (.t 0), some (8, false), [2, 1, 0]⟩,
      ⟨some 10, .nilchk (.t 9), some (8, false), [3, 2, 1, 0]⟩,
      ⟨some 11, .fa 1 (.t 10), some (8, false), [4, 2, 3, 1, 0]⟩,
      ⟨some 12, .load false 1 (.t 11), some (8, false), [5, 2, 4, 3, 1, 0]⟩,
      ⟨some 13, .mv (.t 0), some (8, false), [2, 1, 0]⟩,
      ⟨some 14, .nilchk (.t 13), some (8, false), [7, 2, 1, 0]⟩,
      ⟨some 15, .fa 0 (.t 14), some (8, false), [8, 2, 7, 1, 0]⟩,
      ⟨some 16, .load false 1 (.t 15), some (8, false), [9, 2, 8, 7, 1, 0]⟩,
      ⟨some 17, .len (.t 16), some (8, false), [10, 2, 9, 8, 7, 1, 0]⟩,
      ⟨some 18, .bin .geq (.t 12) (.t 17), some (8, false), [6, 11, 2, 5, 4, 3, 1, 0, 10, 9, 8, 7]⟩,
      ⟨some 19, .pick (.t 8) (.c (.bool true)) (.t 18), none, [2, 12, 1, 0, 6, 11, 5, 4, 3, 10, 9, 8, 7]⟩] (some 0)) <|
   .cond (.t 19) (.seq (.region [
       ⟨some 4, .mv (.c (.int .i64 0)), none, []⟩] none) <|
    .ret) <|
   .skip) <|
  .seq (.region [
     ⟨some 20, .mv (.t 0), none, []⟩,
     ⟨some 21, .nilchk (.t 20), none, [0]⟩,
     ⟨some 22, .fa 0 (.t 21), none, [1, 0]⟩,
     ⟨some 23, .load false 1 (.t 22), none, [2, 1, 0]⟩,
     ⟨some 24, .mv (.t 0), none, []⟩,
     ⟨some 25, .nilchk (.t 24), none, [4]⟩,
     ⟨some 26, .fa 1 (.t 25), none, [5, 4]⟩,
     ⟨some 27, .load false 1 (.t 26), none, [6, 5, 4]⟩,
     ⟨some 28, .ixs 1 (.t 23) (.t 27), none, [3, 7, 2, 1, 0, 6, 5, 4]⟩,
     ⟨some 29, .load false 1 (.t 28), none, [8, 3, 7, 2, 1, 0, 6, 5, 4]⟩,
     ⟨some 5, .mv (.t 29), none, [9, 0, 1, 2, 3, 4, 5, 6, 7, 8]⟩] (some 0)) <|
  .seq (.region [
     ⟨some 30, .mv (.t 0), none, []⟩,
     ⟨some 31, .nilchk (.t 30), none, []⟩,
     ⟨some 32, .fa 1 (.t 31), none, []⟩,
     ⟨some 33, .load false 1 (.t 32), none, []⟩,
     ⟨some 34, .bin .add (.t 33) (.c (.int .i64 1)), none, []⟩,
     ⟨some 35, .nilchk (.t 30), none, []⟩,
     ⟨some 36, .fa 1 (.t 35), none, []⟩,
     ⟨none, .store 1 (.t 36) (.t 34), none, []⟩] none) <|
  .seq (.region [
     ⟨some 37, .mv (.t 5), none, []⟩,
     ⟨some 38, .mv (.t 1), none, []⟩,
     ⟨some 39, .call 40 [.t 37, .t 38], none, []⟩,
     ⟨some 4, .mv (.t 39), none, []⟩] none) <|
  .ret
abbrev n_mk_Deck_Next : Nat := 20
theorem b_mk_Deck_Next : bodyOf prog 20 [] = some (c_mk_Deck_Next, [.t 4], 40) := by kernel_rfl

def c_revision_Same : ACode :=
  .seq (.region [
     ⟨some 2, .box 2 30 (.t 0), none, []⟩,
     ⟨some 3, .box 2 30 (.t 1), none, []⟩,
     ⟨some 4, .mv (.c (.bool false)), none, []⟩] none) <|
  .seq (.region [
     ⟨some 5, .fa 0 (.t 2), none, []⟩,
     ⟨some 6, .load false 1 (.t 5), none, []⟩,
     ⟨some 7, .fa 0 (.t 3), none, []⟩,
     ⟨some 8, .load false 1 (.t 7), none, []⟩,
     ⟨some 9, .call 41 [.t 6, .t 8, .c (.func 42 [])], none, []⟩,
     ⟨some 10, .mv (.t 9), none, []⟩,
     ⟨some 11, .fa 1 (.t 2), some (10, true), []⟩,
     ⟨some 12, .load false 1 (.t 11), some (10, true), []⟩,
     ⟨some 13, .fa 1 (.t 3), some (10, true), []⟩,
     ⟨some 14, .load false 1 (.t 13), some (10, true), []⟩,
     ⟨some 15, .call 43 [.t 12, .t 14], some (10, true), []⟩,
     ⟨some 16, .pick (.t 10) (.t 15) (.c (.bool false)), none, []⟩,
     ⟨some 4, .mv (.t 16), none, []⟩] none) <|
  .ret
abbrev n_revision_Same : Nat := 21
theorem b_revision_Same : bodyOf prog 21 [1000000] = some (c_revision_Same, [.t 4], 17) := by kernel_rfl

def c_revision_Open : ACode :=
  .seq (.region [
     ⟨some 2, .alloc 2 30 (.agg [.nil, .nil]), none, []⟩,
     ⟨some 3, .mv (.c (.int .i64 0)), none, []⟩] none) <|
  .seq (.seq (.region [
      ⟨some 5, .mv (.t 0), none, []⟩,
      ⟨some 6, .call 44 [.t 5], none, []⟩,
      ⟨some 4, .mv (.t 6), none, []⟩] none) <|
   .seq (.region [
      ⟨some 7, .mv (.t 4), none, []⟩,
      ⟨some 8, .bin .neq (.t 7) (.c (.int .i64 0)), none, []⟩] none) <|
   .cond (.t 8) (.seq (.region [
       ⟨some 9, .build [.nil, .nil] [], none, []⟩,
       ⟨some 10, .mv (.t 4), none, []⟩,
       ⟨none, .store 2 (.t 2) (.t 9), none, []⟩,
       ⟨some 3, .mv (.t 10), none, []⟩] none) <|
    .ret) <|
   .skip) <|
  .seq (.region [
     ⟨some 11, .mv (.t 0), none, []⟩,
     ⟨some 12, .build [.nil, .nil] [(0, 1, .t 11)], none, []⟩,
     ⟨some 13, .call 31 [.t 12, .c (.nil)], none, []⟩,
     ⟨none, .store 2 (.t 2) (.t 13), none, []⟩,
     ⟨some 3, .mv (.c (.int .i64 0)), none, []⟩] none) <|
  .ret
abbrev n_revision_Open : Nat := 22
theorem b_revision_Open : bodyOf prog 22 [1000000] = some (c_revision_Open, [.c 2 true 2, .t 3], 14) := by kernel_rfl

def c_flow_Account : ACode :=
  .seq (.region [
     ⟨some 2, .alloc 4 41 (.agg [.int .i64 0, .nil, .nil, .nil]), none, []⟩,
     ⟨some 3, .mv (.c (.nil)), none, []⟩,
     ⟨some 4, .mv (.c (.nil)), none, []⟩,
     ⟨some 5, .mv (.c (.nil)), none, []⟩] none) <|
  .seq (.region [
     ⟨some 10, .mv (.t 0), none, []⟩,
     ⟨some 11, .call 45 [.t 10], none, []⟩,
     ⟨some 9, .mv (.t 11), none, []⟩,
     ⟨some 12, .ext (.t 9) 0, none, []⟩,
     ⟨some 13, .ext (.t 9) 1, none, []⟩,
     ⟨some 14, .ext (.t 9) 2, none, []⟩,
     ⟨some 6, .mv (.t 12), none, []⟩,
     ⟨some 7, .mv (.t 13), none, []⟩,
     ⟨some 8, .mv (.t 14), none, []⟩] none) <|
  .seq (.region [
     ⟨some 15, .mv (.t 0), none, []⟩,
     ⟨some 16, .call 20 [.t 15, .c (.int .i64 20)], none, []⟩,
     ⟨some 17, .mv (.t 0), none, []⟩,
     ⟨some 18, .mv (.t 6), none, []⟩,
     ⟨some 19, .call 46 [.t 17, .t 18], none, []⟩,
     ⟨some 20, .mv (.t 0), none, []⟩,
     ⟨some 21, .mv (.t 7), none, []⟩,
     ⟨some 22, .call 46 [.t 20, .t 21], none, []⟩,
     ⟨some 23, .mv (.t 0), none, []⟩,
     ⟨some 24, .mv (.t 8), none, []⟩,
     ⟨some 25, .call 46 [.t 23, .t 24], none, []⟩,
     ⟨some 26, .build [.int .i64 0, .nil, .nil, .nil] [(0, 1, .t 16), (1, 1, .t 19), (2, 1, .t 22), (3, 1, .t 25)], none, []⟩,
     ⟨some 27, .mv (.t 6), none, []⟩,
     ⟨some 28, .mv (.t 7), none, []⟩,
     ⟨some 29, .mv (.t 8), none, []⟩,
     ⟨none, .store 4 (.t 2) (.t 26), none, []⟩,
     ⟨some 3, .mv (.t 27), none, []⟩,
     ⟨some 4, .mv (.t 28), none, []⟩,
     ⟨some 5, .mv (.t 29), none, []⟩] none) <|
  .ret
abbrev n_flow_Account : Nat := 23
theorem b_flow_Account : bodyOf prog 23 [1000000] = some (c_flow_Account, [.c 2 true 4, .t 3, .t 4, .t 5], 30) := by kernel_rfl

def c_ref31_File : ACode :=
  .seq (.region [
     ⟨some 2, .box 2 30 (.t 0), none, []⟩,
     ⟨some 3, .box 6 37 (.t 1), none, []⟩,
     ⟨some 4, .alloc 2 30 (.agg [.nil, .nil]), none, []⟩,
     ⟨some 5, .mv (.c (.int .i64 0)), none, []⟩] none) <|
  .seq (.seq (.region [
      ⟨some 10, .load true 2 (.t 2), none, []⟩,
      ⟨some 11, .call 47 [.t 10], none, []⟩,
      ⟨some 12, .bin .neq (.t 11) (.c (.int .i64 0)), none, []⟩] none) <|
   .cond (.t 12) (.seq (.region [
       ⟨some 13, .build [.nil, .nil] [], none, []⟩,
       ⟨none, .store 2 (.t 4) (.t 13), none, []⟩,
       ⟨some 5, .mv (.c (.int .i64 50)), none, []⟩] none) <|
    .ret) <|
   .skip) <|
  .seq (.seq (.region [
      ⟨some 14, .fa 0 (.t 2), none, []⟩,
      ⟨some 15, .load false 1 (.t 14), none, []⟩,
      ⟨some 16, .load true 6 (.t 3), none, []⟩,
      ⟨some 17, .call 48 [.t 15, .t 16], none, []⟩,
      ⟨some 6, .mv (.t 17), none, []⟩] none) <|
   .seq (.region [
      ⟨some 18, .mv (.t 6), none, []⟩,
      ⟨some 19, .bin .neq (.t 18) (.c (.int .i64 0)), none, []⟩] none) <|
   .cond (.t 19) (.seq (.region [
       ⟨some 20, .build [.nil, .nil] [], none, []⟩,
       ⟨some 21, .mv (.t 6), none, []⟩,
       ⟨none, .store 2 (.t 4) (.t 20), none, []⟩,
       ⟨some 5, .mv (.t 21), none, []⟩] none) <|
    .ret) <|
   .skip) <|
  .seq (.region [
     ⟨some 22, .load true 2 (.t 2), none, []⟩,
     ⟨some 23, .call 49 [.t 22], none, []⟩,
     ⟨some 7, .alloc 2 30 (.agg [.nil, .nil]), none, []⟩,
     ⟨none, .store 2 (.t 7) (.t 23), none, []⟩] none) <|
  .seq (.region [
     ⟨some 8, .mv (.c (.int .i64 0)), none, []⟩] none) <|
  .seq (.block 0 <|
   .loop <|
   .seq (.seq (.hregion [
       ⟨1, ⟨some 25, .fa 1 (.t 2), none, []⟩⟩,
       ⟨2, ⟨some 26, .load false 1 (.t 25), none, [1]⟩⟩,
       ⟨3, ⟨some 27, .len (.t 26), none, [2, 1]⟩⟩,
       ⟨0, ⟨some 24, .mv (.t 8), none, []⟩⟩,
       ⟨4, ⟨some 28, .bin .lss (.t 24) (.t 27), none, [0, 3, 2, 1]⟩⟩,
       ⟨5, ⟨some 29, .mv (.t 28), none, [4, 0, 3, 2, 1]⟩⟩,
       ⟨12, ⟨some 36, .fa 0 (.t 3), some (29, true), [5, 4, 0, 3, 2, 1]⟩⟩,
       ⟨13, ⟨some 37, .load false 1 (.t 36), some (29, true), [12, 5, 4, 0, 3, 2, 1]⟩⟩,
       ⟨8, ⟨some 32, .mv (.t 8), some (29, true), [5, 4, 0, 3, 2, 1]⟩⟩,
       ⟨6, ⟨some 30, .fa 1 (.t 2), some (29, true), [5, 4, 0, 3, 2, 1]⟩⟩,
       ⟨7, ⟨some 31, .load false 1 (.t 30), some (29, true), [6, 5, 4, 0, 3, 2, 1]⟩⟩,
       ⟨9, ⟨some 33, .ixs 6 (.t 31) (.t 32), some (29, true), [7, 8, 5, 6, 4, 0, 3, 2, 1]⟩⟩,
       ⟨10, ⟨some 34, .fa 0 (.t 33), some (29, true), [9, 5, 7, 8, 6, 4, 0, 3, 2, 1]⟩⟩,
       ⟨11, ⟨some 35, .load false 1 (.t 34), some (29, true), [10, 5, 9, 7, 8, 6, 4, 0, 3, 2, 1]⟩⟩,
       ⟨14, ⟨some 38, .bin .lss (.t 35) (.t 37), some (29, true), [11, 13, 5, 10, 9, 7, 8, 6, 4, 0, 3, 2, 1, 12]⟩⟩,
       ⟨15, ⟨some 39, .pick (.t 29) (.t 38) (.c (.bool false)), none, [5, 14, 4, 0, 3, 2, 1, 11, 13, 10, 9, 7, 8, 6, 12]⟩⟩]) <|
    .cond (.t 39) (.skip) <|
    .exit 0) <|
   .block 1 <|
   .region [
     ⟨some 40, .mv (.t 8), none, []⟩,
     ⟨some 41, .bin .add (.t 40) (.c (.int .i64 1)), none, []⟩,
     ⟨some 8, .mv (.t 41), none, []⟩] none) <|
  .seq (.seq (.hregion [
      ⟨1, ⟨some 43, .fa 1 (.t 2), none, []⟩⟩,
      ⟨2, ⟨some 44, .load false 1 (.t 43), none, [1]⟩⟩,
      ⟨3, ⟨some 45, .len (.t 44), none, [2, 1]⟩⟩,
      ⟨0, ⟨some 42, .mv (.t 8), none, []⟩⟩,
      ⟨4, ⟨some 46, .bin .lss (.t 42) (.t 45), none, [0, 3, 2, 1]⟩⟩,
      ⟨5, ⟨some 47, .mv (.t 46), none, [4, 0, 3, 2, 1]⟩⟩,
      ⟨12, ⟨some 54, .fa 0 (.t 3), some (47, true), [5, 4, 0, 3, 2, 1]⟩⟩,
      ⟨13, ⟨some 55, .load false 1 (.t 54), some (47, true), [12, 5, 4, 0, 3, 2, 1]⟩⟩,
      ⟨8, ⟨some 50, .mv (.t 8), some (47, true), [5, 4, 0, 3, 2, 1]⟩⟩,
      ⟨6, ⟨some 48, .fa 1 (.t 2), some (47, true), [5, 4, 0, 3, 2, 1]⟩⟩,
      ⟨7, ⟨some 49, .load false 1 (.t 48), some (47, true), [6, 5, 4, 0, 3, 2, 1]⟩⟩,
      ⟨9, ⟨some 51, .ixs 6 (.t 49) (.t 50), some (47, true), [7, 8, 5, 6, 4, 0, 3, 2, 1]⟩⟩,
      ⟨10, ⟨some 52, .fa 0 (.t 51), some (47, true), [9, 5, 7, 8, 6, 4, 0, 3, 2, 1]⟩⟩,
      ⟨11, ⟨some 53, .load false 1 (.t 52), some (47, true), [10, 5, 9, 7, 8, 6, 4, 0, 3, 2, 1]⟩⟩,
      ⟨14, ⟨some 56, .bin .eql (.t 53) (.t 55), some (47, true), [11, 13, 5, 10, 9, 7, 8, 6, 4, 0, 3, 2, 1, 12]⟩⟩,
      ⟨15, ⟨some 57, .pick (.t 47) (.t 56) (.c (.bool false)), none, [5, 14, 4, 0, 3, 2, 1, 11, 13, 10, 9, 7, 8, 6, 12]⟩⟩]) <|
   .cond (.t 57) (.seq (.seq (.hregion [
        ⟨5, ⟨some 63, .load true 6 (.t 3), none, []⟩⟩,
        ⟨2, ⟨some 60, .mv (.t 8), none, []⟩⟩,
        ⟨0, ⟨some 58, .fa 1 (.t 2), none, []⟩⟩,
        ⟨1, ⟨some 59, .load false 1 (.t 58), none, [0]⟩⟩,
        ⟨3, ⟨some 61, .ixs 6 (.t 59) (.t 60), none, [1, 2, 0]⟩⟩,
        ⟨4, ⟨some 62, .load true 6 (.t 61), none, [3, 1, 2, 0]⟩⟩,
        ⟨6, ⟨some 64, .eqs true [0, 0, 0, 0, 0, 0] (.t 62) (.t 63), none, [4, 5, 3, 1, 2, 0]⟩⟩]) <|
     .cond (.t 64) (.seq (.region [
         ⟨some 65, .build [.nil, .nil] [], none, []⟩,
         ⟨none, .store 2 (.t 4) (.t 65), none, []⟩,
         ⟨some 5, .mv (.c (.int .i64 46)), none, []⟩] none) <|
      .ret) <|
     .skip) <|
    .seq (.region [
       ⟨some 66, .load true 2 (.t 7), none, []⟩,
       ⟨none, .store 2 (.t 4) (.t 66), none, []⟩,
       ⟨some 5, .mv (.c (.int .i64 0)), none, []⟩] none) <|
    .ret) <|
   .skip) <|
  .seq (.seq (.region [
      ⟨some 67, .fa 1 (.t 2), none, []⟩,
      ⟨some 68, .load false 1 (.t 67), none, []⟩,
      ⟨some 69, .len (.t 68), none, []⟩,
      ⟨some 70, .bin .eql (.t 69) (.c (.int .i64 4096)), none, []⟩] none) <|
   .cond (.t 70) (.seq (.region [
       ⟨some 71, .build [.nil, .nil] [], none, []⟩,
       ⟨none, .store 2 (.t 4) (.t 71), none, []⟩,
       ⟨some 5, .mv (.c (.int .i64 10)), none, []⟩] none) <|
    .ret) <|
   .skip) <|
  .seq (.region [
     ⟨some 9, .mv (.c (.nil)), none, []⟩] none) <|
  .seq (.hregion [
     ⟨11, ⟨some 83, .mv (.t 8), none, []⟩⟩,
     ⟨9, ⟨some 81, .fa 1 (.t 2), none, []⟩⟩,
     ⟨10, ⟨some 82, .load false 1 (.t 81), none, [9]⟩⟩,
     ⟨12, ⟨some 84, .slc 6 (.t 82) (some (.t 83)) none, none, [10, 11, 9]⟩⟩,
     ⟨6, ⟨some 78, .load true 6 (.t 3), none, []⟩⟩,
     ⟨7, ⟨some 79, .lit false 6 37 [.t 78], none, [6]⟩⟩,
     ⟨3, ⟨some 75, .mv (.t 8), none, []⟩⟩,
     ⟨1, ⟨some 73, .fa 1 (.t 2), none, []⟩⟩,
     ⟨2, ⟨some 74, .load false 1 (.t 73), none, [1]⟩⟩,
     ⟨4, ⟨some 76, .slc 6 (.t 74) none (some (.t 75)), none, [2, 3, 1]⟩⟩,
     ⟨0, ⟨some 72, .mv (.t 9), none, []⟩⟩,
     ⟨5, ⟨some 77, .app 6 48 37 (.t 72) (.t 76), none, [0, 4, 2, 3, 1]⟩⟩,
     ⟨8, ⟨some 80, .app 6 48 37 (.t 77) (.t 79), none, [5, 7, 0, 4, 2, 3, 1, 6]⟩⟩,
     ⟨13, ⟨some 85, .app 6 48 37 (.t 80) (.t 84), none, [8, 12, 5, 7, 0, 4, 2, 3, 1, 6, 10, 11, 9]⟩⟩,
     ⟨14, ⟨some 9, .mv (.t 85), none, [13, 0, 1, 2, 3, 4, 5, 6, 7, 8, 9, 10, 11, 12]⟩⟩]) <|
  .seq (.region [
     ⟨some 86, .mv (.t 9), none, []⟩,
     ⟨some 87, .fa 1 (.t 7), none, []⟩,
     ⟨none, .store 1 (.t 87) (.t 86), none, []⟩] none) <|
  .seq (.region [
     ⟨some 88, .load true 2 (.t 7), none, []⟩,
     ⟨none, .store 2 (.t 4) (.t 88), none, []⟩,
     ⟨some 5, .mv (.c (.int .i64 0)), none, []⟩] none) <|
  .ret
abbrev n_ref31_File : Nat := 24
theorem b_ref31_File : bodyOf prog 24 [1000000] = some (c_ref31_File, [.c 4 true 2, .t 5], 89) := by kernel_rfl

def c_flow_Bounds : ACode :=
  .seq (.region [
     ⟨some 4, .alloc 2 35 (.agg [.int .i64 0, .int .i64 0]), none, []⟩] none) <|
  .seq (.seq (.region [
      ⟨some 5, .mv (.t 0), none, []⟩,
      ⟨some 6, .call 20 [.t 5, .c (.int .i64 4)], none, []⟩] none) <|
   .block 0 <|
   .seq (.region [
      ⟨some 8, .bin .eql (.t 6) (.c (.int .i64 0)), none, []⟩,
      ⟨some 7, .mv (.t 8), none, []⟩] none) <|
   .cond (.t 7) (.seq (.region [
       ⟨some 9, .mv (.t 1), none, []⟩,
       ⟨some 10, .mv (.t 1), none, []⟩,
       ⟨some 11, .build [.int .i64 0, .int .i64 0] [(0, 1, .t 9), (1, 1, .t 10)], none, []⟩,
       ⟨none, .store 2 (.t 4) (.t 11), none, []⟩] none) <|
    .ret) <|
   .seq (.region [
      ⟨some 13, .bin .eql (.t 6) (.c (.int .i64 1)), none, []⟩,
      ⟨some 12, .mv (.t 13), none, []⟩] none) <|
   .cond (.t 12) (.seq (.region [
       ⟨some 14, .mv (.t 1), none, []⟩,
       ⟨some 15, .mv (.t 0), none, []⟩,
       ⟨some 16, .call 20 [.t 15, .c (.int .i64 30)], none, []⟩,
       ⟨some 17, .bin .add (.t 14) (.t 16), none, []⟩,
       ⟨some 18, .build [.int .i64 0, .int .i64 0] [(0, 1, .c (.int .i64 0)), (1, 1, .t 17)], none, []⟩,
       ⟨none, .store 2 (.t 4) (.t 18), none, []⟩] none) <|
    .ret) <|
   .skip) <|
  .seq (.region [
     ⟨some 19, .mv (.t 1), none, []⟩,
     ⟨some 20, .mv (.t 0), none, []⟩,
     ⟨some 21, .mv (.t 1), none, []⟩,
     ⟨some 22, .mnx false (.t 21) [.c (.int .i64 6)], none, []⟩,
     ⟨some 23, .bin .add (.t 22) (.c (.int .i64 1)), none, []⟩,
     ⟨some 24, .call 20 [.t 20, .t 23], none, []⟩,
     ⟨some 25, .bin .sub (.t 19) (.t 24), none, []⟩,
     ⟨some 26, .mv (.t 1), none, []⟩,
     ⟨some 27, .mv (.t 0), none, []⟩,
     ⟨some 28, .call 20 [.t 27, .c (.int .i64 6)], none, []⟩,
     ⟨some 29, .bin .add (.t 26) (.t 28), none, []⟩,
     ⟨some 30, .build [.int .i64 0, .int .i64 0] [(0, 1, .t 25), (1, 1, .t 29)], none, []⟩,
     ⟨none, .store 2 (.t 4) (.t 30), none, []⟩] none) <|
  .ret
abbrev n_flow_Bounds : Nat := 25
theorem b_flow_Bounds : bodyOf prog 25 [1000000] = some (c_flow_Bounds, [.c 4 true 2], 31) := by kernel_rfl

def c_revision_Check : ACode :=
  .seq (.region [
     ⟨some 1, .box 2 30 (.t 0), none, []⟩,
     ⟨some 2, .mv (.c (.int .i64 0)), none, []⟩] none) <|
  .seq (.seq (.region [
      ⟨some 7, .fa 0 (.t 1), none, []⟩,
      ⟨some 8, .load false 1 (.t 7), none, []⟩,
      ⟨some 9, .call 44 [.t 8], none, []⟩,
      ⟨some 3, .mv (.t 9), none, []⟩] none) <|
   .seq (.region [
      ⟨some 10, .mv (.t 3), none, []⟩,
      ⟨some 11, .bin .neq (.t 10) (.c (.int .i64 0)), none, []⟩] none) <|
   .cond (.t 11) (.seq (.region [
       ⟨some 12, .mv (.t 3), none, []⟩,
       ⟨some 2, .mv (.t 12), none, []⟩] none) <|
    .ret) <|
   .skip) <|
  .seq (.seq (.region [
      ⟨some 13, .fa 1 (.t 1), none, []⟩,
      ⟨some 14, .load false 1 (.t 13), none, []⟩,
      ⟨some 15, .len (.t 14), none, []⟩,
      ⟨some 16, .bin .gtr (.t 15) (.c (.int .i64 4096)), none, []⟩] none) <|
   .cond (.t 16) (.seq (.region [
       ⟨some 2, .mv (.c (.int .i64 10)), none, []⟩] none) <|
    .ret) <|
   .skip) <|
  .seq (.seq (.region [
      ⟨some 17, .fa 1 (.t 1), none, []⟩,
      ⟨some 18, .load false 1 (.t 17), none, []⟩,
      ⟨some 19, .len (.t 18), none, []⟩,
      ⟨some 20, .mv (.c (.int .i64 0)), none, []⟩] none) <|
   .block 0 <|
   .loop <|
   .seq (.region [
      ⟨some 21, .bin .lss (.t 20) (.t 19), none, []⟩] none) <|
   .seq (.cond (.t 21) (.skip) <|
    .exit 0) <|
   .seq (.block 1 <|
    .seq (.region [
       ⟨some 22, .mv (.t 20), none, []⟩,
       ⟨some 23, .ixs 6 (.t 18) (.t 20), none, []⟩,
       ⟨some 24, .load true 6 (.t 23), none, []⟩,
       ⟨some 5, .alloc 6 37 (.agg [.int .i64 0, .int .i64 0, .int .i64 0, .int .i64 0, .int .i64 0, .int .i64 0]), none, []⟩,
       ⟨some 4, .mv (.t 22), none, []⟩,
       ⟨none, .store 6 (.t 5) (.t 24), none, []⟩] none) <|
    .seq (.seq (.region [
        ⟨some 25, .load true 6 (.t 5), none, []⟩,
        ⟨some 26, .call 27 [.t 25], none, []⟩,
        ⟨some 27, .un .not (.t 26), none, []⟩] none) <|
     .cond (.t 27) (.seq (.region [
         ⟨some 2, .mv (.c (.int .i64 3)), none, []⟩] none) <|
      .ret) <|
     .skip) <|
    .seq (.seq (.hregion [
        ⟨0, ⟨some 28, .mv (.t 4), none, []⟩⟩,
        ⟨1, ⟨some 29, .bin .gtr (.t 28) (.c (.int .i64 0)), none, [0]⟩⟩,
        ⟨2, ⟨some 30, .mv (.t 29), none, [1, 0]⟩⟩,
        ⟨7, ⟨some 35, .mv (.t 4), some (30, true), [2, 1, 0]⟩⟩,
        ⟨8, ⟨some 36, .bin .sub (.t 35) (.c (.int .i64 1)), some (30, true), [7, 2, 1, 0]⟩⟩,
        ⟨5, ⟨some 33, .fa 1 (.t 1), some (30, true), [2, 1, 0]⟩⟩,
        ⟨6, ⟨some 34, .load false 1 (.t 33), some (30, true), [5, 2, 1, 0]⟩⟩,
        ⟨9, ⟨some 37, .ixs 6 (.t 34) (.t 36), some (30, true), [6, 8, 2, 5, 1, 0, 7]⟩⟩,
        ⟨10, ⟨some 38, .fa 0 (.t 37), some (30, true), [9, 2, 6, 8, 5, 1, 0, 7]⟩⟩,
        ⟨11, ⟨some 39, .load false 1 (.t 38), some (30, true), [10, 2, 9, 6, 8, 5, 1, 0, 7]⟩⟩,
        ⟨3, ⟨some 31, .fa 0 (.t 5), some (30, true), [2, 1, 0]⟩⟩,
        ⟨4, ⟨some 32, .load false 1 (.t 31), some (30, true), [3, 2, 1, 0]⟩⟩,
        ⟨12, ⟨some 40, .bin .leq (.t 32) (.t 39), some (30, true), [4, 11, 2, 3, 1, 0, 10, 9, 6, 8, 5, 7]⟩⟩,
        ⟨13, ⟨some 41, .pick (.t 30) (.t 40) (.c (.bool false)), none, [2, 12, 1, 0, 4, 11, 3, 10, 9, 6, 8, 5, 7]⟩⟩]) <|
     .cond (.t 41) (.seq (.region [
         ⟨some 2, .mv (.c (.int .i64 4)), none, []⟩] none) <|
      .ret) <|
     .skip) <|
    .seq (.region [
       ⟨some 42, .fa 0 (.t 1), none, []⟩,
       ⟨some 43, .load false 1 (.t 42), none, []⟩,
       ⟨some 44, .load true 6 (.t 5), none, []⟩,
       ⟨some 45, .call 28 [.t 43, .t 44], none, []⟩,
       ⟨some 6, .mv (.t 45), none, []⟩] none) <|
    .seq (.region [
       ⟨some 46, .mv (.t 6), none, []⟩,
       ⟨some 47, .bin .neq (.t 46) (.c (.int .i64 0)), none, []⟩] none) <|
    .cond (.t 47) (.seq (.region [
        ⟨some 48, .mv (.t 6), none, []⟩,
        ⟨some 2, .mv (.t 48), none, []⟩] none) <|
     .ret) <|
    .skip) <|
   .region [
     ⟨some 49, .bin .add (.t 20) (.c (.int .i64 1)), none, []⟩,
     ⟨some 20, .mv (.t 49), none, []⟩] none) <|
  .seq (.region [
     ⟨some 2, .mv (.c (.int .i64 0)), none, []⟩] none) <|
  .ret
abbrev n_revision_Check : Nat := 26
theorem b_revision_Check : bodyOf prog 26 [1000000] = some (c_revision_Check, [.t 2], 50) := by kernel_rfl

def c_revision_numbered : ACode :=
  .seq (.region [
     ⟨some 1, .box 6 37 (.t 0), none, []⟩,
     ⟨some 2, .mv (.c (.bool false)), none, []⟩] none) <|
  .seq (.region [
     ⟨some 3, .fa 0 (.t 1), none, []⟩,
     ⟨some 4, .load false 1 (.t 3), none, []⟩,
     ⟨some 5, .bin .geq (.t 4) (.c (.int .i64 1)), none, []⟩,
     ⟨some 6, .mv (.t 5), none, []⟩,
     ⟨some 7, .fa 0 (.t 1), some (6, true), []⟩,
     ⟨some 8, .load false 1 (.t 7), some (6, true), []⟩,
     ⟨some 9, .bin .leq (.t 8) (.c (.int .i64 1073741824)), some (6, true), []⟩,
     ⟨some 10, .pick (.t 6) (.t 9) (.c (.bool false)), none, []⟩,
     ⟨some 2, .mv (.t 10), none, []⟩] none) <|
  .ret
abbrev n_revision_numbered : Nat := 27
theorem b_revision_numbered : bodyOf prog 27 [1000000] = some (c_revision_numbered, [.t 2], 11) := by kernel_rfl

def c_revision_report : ACode :=
  .seq (.region [
     ⟨some 3, .box 6 37 (.t 1), none, []⟩,
     ⟨some 4, .mv (.c (.int .i64 0)), none, []⟩] none) <|
  .seq (.seq (.region [
      ⟨some 7, .fa 1 (.t 3), none, []⟩,
      ⟨some 8, .load false 1 (.t 7), none, []⟩,
      ⟨some 9, .bin .lss (.t 8) (.c (.int .i64 0)), none, []⟩,
      ⟨some 10, .mv (.t 9), none, []⟩,
      ⟨some 11, .fa 1 (.t 3), some (10, false), []⟩,
      ⟨some 12, .load false 1 (.t 11), some (10, false), []⟩,
      ⟨some 13, .mv (.t 0), some (10, false), []⟩,
      ⟨some 14, .len (.t 13), some (10, false), []⟩,
      ⟨some 15, .bin .geq (.t 12) (.t 14), some (10, false), []⟩,
      ⟨some 16, .pick (.t 10) (.c (.bool true)) (.t 15), none, []⟩] none) <|
   .cond (.t 16) (.seq (.region [
       ⟨some 4, .mv (.c (.int .i64 47)), none, []⟩] none) <|
    .ret) <|
   .skip) <|
  .seq (.seq (.region [
      ⟨some 17, .fa 2 (.t 3), none, []⟩,
      ⟨some 18, .load false 1 (.t 17), none, []⟩,
      ⟨some 19, .bin .lss (.t 18) (.c (.int .i64 1)), none, []⟩,
      ⟨some 20, .mv (.t 19), none, []⟩,
      ⟨some 21, .fa 2 (.t 3), some (20, false), []⟩,
      ⟨some 22, .load false 1 (.t 21), some (20, false), []⟩,
      ⟨some 23, .bin .gtr (.t 22) (.c (.int .i64 3)), some (20, false), []⟩,
      ⟨some 24, .pick (.t 20) (.c (.bool true)) (.t 23), none, []⟩] none) <|
   .cond (.t 24) (.seq (.region [
       ⟨some 4, .mv (.c (.int .i64 5)), none, []⟩] none) <|
    .ret) <|
   .skip) <|
  .seq (.region [
     ⟨some 25, .mv (.t 0), none, []⟩,
     ⟨some 26, .fa 1 (.t 3), none, []⟩,
     ⟨some 27, .load false 1 (.t 26), none, []⟩,
     ⟨some 28, .ixs 4 (.t 25) (.t 27), none, []⟩,
     ⟨some 29, .load true 4 (.t 28), none, []⟩,
     ⟨some 5, .alloc 4 41 (.agg [.int .i64 0, .nil, .nil, .nil]), none, []⟩,
     ⟨none, .store 4 (.t 5) (.t 29), none, []⟩] none) <|
  .seq (.region [
     ⟨some 30, .fa 0 (.t 5), none, []⟩,
     ⟨some 31, .load false 1 (.t 30), none, []⟩,
     ⟨some 32, .fa 2 (.t 5), none, []⟩,
     ⟨some 33, .load false 1 (.t 32), none, []⟩,
     ⟨some 34, .len (.t 33), none, []⟩,
     ⟨some 35, .bin .add (.t 31) (.t 34), none, []⟩,
     ⟨some 36, .bin .sub (.t 35) (.c (.int .i64 1)), none, []⟩,
     ⟨some 6, .mv (.t 36), none, []⟩] none) <|
  .seq (.seq (.region [
      ⟨some 37, .fa 2 (.t 3), none, []⟩,
      ⟨some 38, .load false 1 (.t 37), none, []⟩,
      ⟨some 39, .bin .eql (.t 38) (.c (.int .i64 1)), none, []⟩] none) <|
   .cond (.t 39) (.region [
      ⟨some 40, .mv (.t 6), none, []⟩,
      ⟨some 41, .bin .add (.t 40) (.c (.int .i64 1)), none, []⟩,
      ⟨some 6, .mv (.t 41), none, []⟩] none) <|
   .skip) <|
  .seq (.block 0 <|
   .seq (.region [
      ⟨some 43, .fa 3 (.t 3), none, []⟩,
      ⟨some 44, .load false 1 (.t 43), none, []⟩,
      ⟨some 45, .fa 0 (.t 5), none, []⟩,
      ⟨some 46, .load false 1 (.t 45), none, []⟩,
      ⟨some 47, .bin .lss (.t 44) (.t 46), none, []⟩,
      ⟨some 48, .mv (.t 47), none, []⟩,
      ⟨some 49, .fa 3 (.t 3), some (48, false), []⟩,
      ⟨some 50, .load false 1 (.t 49), some (48, false), []⟩,
      ⟨some 51, .mv (.t 6), some (48, false), []⟩,
      ⟨some 52, .bin .gtr (.t 50) (.t 51), some (48, false), []⟩,
      ⟨some 53, .pick (.t 48) (.c (.bool true)) (.t 52), none, []⟩,
      ⟨some 42, .mv (.t 53), none, []⟩] none) <|
   .cond (.t 42) (.seq (.region [
       ⟨some 4, .mv (.c (.int .i64 6)), none, []⟩] none) <|
    .ret) <|
   .seq (.region [
      ⟨some 55, .fa 4 (.t 3), none, []⟩,
      ⟨some 56, .fa 0 (.t 55), none, []⟩,
      ⟨some 57, .load false 1 (.t 56), none, []⟩,
      ⟨some 58, .bin .lss (.t 57) (.c (.int .i64 0)), none, []⟩,
      ⟨some 59, .mv (.t 58), none, []⟩,
      ⟨some 60, .fa 4 (.t 3), some (59, false), []⟩,
      ⟨some 61, .fa 1 (.t 60), some (59, false), []⟩,
      ⟨some 62, .load false 1 (.t 61), some (59, false), []⟩,
      ⟨some 63, .bin .gtr (.t 62) (.c (.int .i64 274877906944)), some (59, false), []⟩,
      ⟨some 64, .pick (.t 59) (.c (.bool true)) (.t 63), none, []⟩,
      ⟨some 54, .mv (.t 64), none, []⟩] none) <|
   .cond (.t 54) (.seq (.region [
       ⟨some 4, .mv (.c (.int .i64 1)), none, []⟩] none) <|
    .ret) <|
   .seq (.region [
      ⟨some 66, .fa 4 (.t 3), none, []⟩,
      ⟨some 67, .fa 0 (.t 66), none, []⟩,
      ⟨some 68, .load false 1 (.t 67), none, []⟩,
      ⟨some 69, .fa 4 (.t 3), none, []⟩,
      ⟨some 70, .fa 1 (.t 69), none, []⟩,
      ⟨some 71, .load false 1 (.t 70), none, []⟩,
      ⟨some 72, .bin .gtr (.t 68) (.t 71), none, []⟩,
      ⟨some 65, .mv (.t 72), none, []⟩] none) <|
   .cond (.t 65) (.seq (.region [
       ⟨some 4, .mv (.c (.int .i64 48)), none, []⟩] none) <|
    .ret) <|
   .skip) <|
  .seq (.region [
     ⟨some 4, .mv (.c (.int .i64 0)), none, []⟩] none) <|
  .ret
abbrev n_revision_report : Nat := 28
theorem b_revision_report : bodyOf prog 28 [1000000] = some (c_revision_report, [.t 4], 73) := by kernel_rfl

def c_revision_place__Report : ACode :=
  .seq (.region [
     ⟨some 4, .box 6 37 (.t 1), none, []⟩,
     ⟨some 5, .box 1 73 (.t 2), none, []⟩,
     ⟨some 6, .mv (.c (.int .i64 0)), none, []⟩,
     ⟨some 7, .mv (.c (.bool false)), none, []⟩] none) <|
  .seq (.region [
     ⟨some 8, .mv (.t 0), none, []⟩,
     ⟨some 9, .load false 1 (.t 5), none, []⟩,
     ⟨some 10, .load true 6 (.t 4), none, []⟩,
     ⟨some 11, .callv (.t 9) [.t 10], none, []⟩,
     ⟨some 12, .mkf 51 [.t 5], none, []⟩,
     ⟨some 13, .call 50 [.t 8, .t 11, .t 12], none, []⟩,
     ⟨some 14, .ext (.t 13) 0, none, []⟩,
     ⟨some 15, .ext (.t 13) 1, none, []⟩,
     ⟨some 6, .mv (.t 14), none, []⟩,
     ⟨some 7, .mv (.t 15), none, []⟩] none) <|
  .ret
abbrev n_revision_place__Report : Nat := 29
theorem b_revision_place__Report : bodyOf prog 29 [1000000] = some (c_revision_place__Report, [.t 6, .t 7], 16) := by kernel_rfl

def c_revision_File_1 : ACode :=
  .seq (.region [
     ⟨some 1, .box 6 37 (.t 0), none, []⟩,
     ⟨some 2, .mv (.c (.int .i64 0)), none, []⟩] none) <|
  .seq (.region [
     ⟨some 3, .fa 0 (.t 1), none, []⟩,
     ⟨some 4, .load false 1 (.t 3), none, []⟩,
     ⟨some 2, .mv (.t 4), none, []⟩] none) <|
  .ret
abbrev n_revision_File_1 : Nat := 30
theorem b_revision_File_1 : bodyOf prog 30 [1000000] = some (c_revision_File_1, [.t 2], 5) := by kernel_rfl

def c_revision_copied : ACode :=
  .seq (.region [
     ⟨some 2, .box 2 30 (.t 0), none, []⟩,
     ⟨some 4, .alloc 2 30 (.agg [.nil, .nil]), none, []⟩] none) <|
  .seq (.region [
     ⟨some 8, .mv (.t 1), none, []⟩,
     ⟨some 9, .call 52 [.t 8], none, []⟩,
     ⟨some 10, .build [.nil, .nil] [(1, 1, .t 9)], none, []⟩,
     ⟨some 5, .alloc 2 30 (.agg [.nil, .nil]), none, []⟩,
     ⟨none, .store 2 (.t 5) (.t 10), none, []⟩] none) <|
  .seq (.seq (.region [
      ⟨some 11, .fa 0 (.t 2), none, []⟩,
      ⟨some 12, .load false 1 (.t 11), none, []⟩,
      ⟨some 13, .len (.t 12), none, []⟩,
      ⟨some 14, .mv (.c (.int .i64 0)), none, []⟩] none) <|
   .block 0 <|
   .loop <|
   .seq (.region [
      ⟨some 15, .bin .lss (.t 14) (.t 13), none, []⟩] none) <|
   .seq (.cond (.t 15) (.skip) <|
    .exit 0) <|
   .seq (.block 1 <|
    .seq (.region [
       ⟨some 16, .ixs 4 (.t 12) (.t 14), none, []⟩,
       ⟨some 17, .load true 4 (.t 16), none, []⟩,
       ⟨some 7, .alloc 4 41 (.agg [.int .i64 0, .nil, .nil, .nil]), none, []⟩,
       ⟨none, .store 4 (.t 7) (.t 17), none, []⟩] none) <|
    .hregion [
      ⟨2, ⟨some 20, .load true 4 (.t 7), none, []⟩⟩,
      ⟨0, ⟨some 18, .fa 0 (.t 5), none, []⟩⟩,
      ⟨1, ⟨some 19, .load false 1 (.t 18), none, [0]⟩⟩,
      ⟨3, ⟨some 21, .call 33 [.t 20], none, [2]⟩⟩,
      ⟨4, ⟨some 22, .lit false 4 41 [.t 21], none, [3, 2]⟩⟩,
      ⟨5, ⟨some 23, .app 4 80 41 (.t 19) (.t 22), none, [1, 4, 3, 0, 2]⟩⟩,
      ⟨6, ⟨some 24, .fa 0 (.t 5), none, [0, 1, 2, 3, 4, 5]⟩⟩,
      ⟨7, ⟨none, .store 1 (.t 24) (.t 23), none, [6, 5, 0, 1, 2, 3, 4]⟩⟩]) <|
   .region [
     ⟨some 25, .bin .add (.t 14) (.c (.int .i64 1)), none, []⟩,
     ⟨some 14, .mv (.t 25), none, []⟩] none) <|
  .seq (.region [
     ⟨some 26, .load true 2 (.t 5), none, []⟩,
     ⟨none, .store 2 (.t 4) (.t 26), none, []⟩] none) <|
  .ret
abbrev n_revision_copied : Nat := 31
theorem b_revision_copied : bodyOf prog 31 [1000000] = some (c_revision_copied, [.c 4 true 2], 27) := by kernel_rfl

def c_revision_inserted__Report : ACode :=
  .seq (.region [
     ⟨some 5, .box 6 37 (.t 2), none, []⟩,
     ⟨some 6, .mv (.c (.nil)), none, []⟩] none) <|
  .seq (.hregion [
     ⟨3, ⟨some 10, .load true 6 (.t 5), none, []⟩⟩,
     ⟨4, ⟨some 11, .lit false 6 37 [.t 10], none, [3]⟩⟩,
     ⟨2, ⟨some 9, .mv (.t 1), none, []⟩⟩,
     ⟨0, ⟨some 7, .mv (.t 0), none, []⟩⟩,
     ⟨1, ⟨some 8, .call 52 [.t 7], none, [0]⟩⟩,
     ⟨5, ⟨some 12, .call 53 [.t 8, .t 9, .t 11], none, [1, 2, 4, 0, 3]⟩⟩,
     ⟨6, ⟨some 6, .mv (.t 12), none, [5, 0, 1, 2, 3, 4]⟩⟩]) <|
  .ret
abbrev n_revision_inserted__Report : Nat := 32
theorem b_revision_inserted__Report : bodyOf prog 32 [1000000] = some (c_revision_inserted__Report, [.t 6], 13) := by kernel_rfl

def c_revision_twin : ACode :=
  .seq (.region [
     ⟨some 1, .box 4 41 (.t 0), none, []⟩,
     ⟨some 2, .alloc 4 41 (.agg [.int .i64 0, .nil, .nil, .nil]), none, []⟩] none) <|
  .seq (.hregion [
     ⟨8, ⟨some 11, .fa 3 (.t 1), none, []⟩⟩,
     ⟨9, ⟨some 12, .load false 1 (.t 11), none, [8]⟩⟩,
     ⟨5, ⟨some 8, .fa 2 (.t 1), none, []⟩⟩,
     ⟨6, ⟨some 9, .load false 1 (.t 8), none, [5]⟩⟩,
     ⟨2, ⟨some 5, .fa 1 (.t 1), none, []⟩⟩,
     ⟨3, ⟨some 6, .load false 1 (.t 5), none, [2]⟩⟩,
     ⟨0, ⟨some 3, .fa 0 (.t 1), none, []⟩⟩,
     ⟨1, ⟨some 4, .load false 1 (.t 3), none, [0]⟩⟩,
     ⟨4, ⟨some 7, .call 54 [.t 6], none, [3, 2]⟩⟩,
     ⟨7, ⟨some 10, .call 54 [.t 9], none, [6, 4, 5, 3, 2]⟩⟩,
     ⟨10, ⟨some 13, .call 54 [.t 12], none, [9, 7, 8, 6, 4, 5, 3, 2]⟩⟩,
     ⟨11, ⟨some 14, .build [.int .i64 0, .nil, .nil, .nil] [(0, 1, .t 4), (1, 1, .t 7), (2, 1, .t 10), (3, 1, .t 13)], none, [1, 4, 7, 10, 0, 3, 2, 6, 5, 9, 8]⟩⟩,
     ⟨12, ⟨none, .store 4 (.t 2) (.t 14), none, [11, 10, 0, 1, 2, 3, 4, 5, 6, 7, 8, 9]⟩⟩]) <|
  .ret
abbrev n_revision_twin : Nat := 33
theorem b_revision_twin : bodyOf prog 33 [1000000] = some (c_revision_twin, [.c 2 true 4], 15) := by kernel_rfl

def c_ledger_Fix : ACode :=
  .seq (.region [
     ⟨some 4, .box 4 41 (.t 0), none, []⟩,
     ⟨some 7, .box 2 35 (.t 3), none, []⟩,
     ⟨some 8, .alloc 4 41 (.agg [.int .i64 0, .nil, .nil, .nil]), none, []⟩,
     ⟨some 9, .mv (.c (.int .i64 0)), none, []⟩] none) <|
  .seq (.seq (.region [
      ⟨some 13, .load true 4 (.t 4), none, []⟩,
      ⟨some 14, .call 55 [.t 13], none, []⟩,
      ⟨some 10, .mv (.t 14), none, []⟩] none) <|
   .seq (.region [
      ⟨some 15, .mv (.t 10), none, []⟩,
      ⟨some 16, .bin .neq (.t 15) (.c (.int .i64 0)), none, []⟩] none) <|
   .cond (.t 16) (.seq (.region [
       ⟨some 17, .build [.int .i64 0, .nil, .nil, .nil] [], none, []⟩,
       ⟨some 18, .mv (.t 10), none, []⟩,
       ⟨none, .store 4 (.t 8) (.t 17), none, []⟩,
       ⟨some 9, .mv (.t 18), none, []⟩] none) <|
    .ret) <|
   .skip) <|
  .seq (.seq (.region [
      ⟨some 19, .mv (.t 1), none, []⟩,
      ⟨some 20, .bin .lss (.t 19) (.c (.int .i64 1)), none, []⟩,
      ⟨some 21, .mv (.t 20), none, []⟩,
      ⟨some 22, .mv (.t 1), some (21, false), []⟩,
      ⟨some 23, .bin .gtr (.t 22) (.c (.int .i64 3)), some (21, false), []⟩,
      ⟨some 24, .pick (.t 21) (.c (.bool true)) (.t 23), none, []⟩] none) <|
   .cond (.t 24) (.seq (.region [
       ⟨some 25, .build [.int .i64 0, .nil, .nil, .nil] [], none, []⟩,
       ⟨none, .store 4 (.t 8) (.t 25), none, []⟩,
       ⟨some 9, .mv (.c (.int .i64 5)), none, []⟩] none) <|
    .ret) <|
   .skip) <|
  .seq (.region [
     ⟨some 26, .load true 4 (.t 4), none, []⟩,
     ⟨some 27, .call 56 [.t 26], none, []⟩,
     ⟨some 11, .alloc 4 41 (.agg [.int .i64 0, .nil, .nil, .nil]), none, []⟩,
     ⟨none, .store 4 (.t 11) (.t 27), none, []⟩] none) <|
  .seq (.region [
     ⟨some 28, .call 57 [.t 11], none, []⟩,
     ⟨some 29, .mv (.t 1), none, []⟩,
     ⟨some 30, .bin .sub (.t 29) (.c (.int .i64 1)), none, []⟩,
     ⟨some 31, .pu (.aidx false 1 3) [.t 28, .t 30], none, []⟩,
     ⟨some 12, .mv (.t 31), none, []⟩] none) <|
  .seq (.seq (.region [
      ⟨some 32, .mv (.t 2), none, []⟩,
      ⟨some 33, .fa 0 (.t 4), none, []⟩,
      ⟨some 34, .load false 1 (.t 33), none, []⟩,
      ⟨some 35, .bin .lss (.t 32) (.t 34), none, []⟩,
      ⟨some 36, .mv (.t 35), none, []⟩,
      ⟨some 37, .mv (.t 2), some (36, false), []⟩,
      ⟨some 38, .fa 0 (.t 4), some (36, false), []⟩,
      ⟨some 39, .load false 1 (.t 38), some (36, false), []⟩,
      ⟨some 40, .mv (.t 12), some (36, false), []⟩,
      ⟨some 41, .len (.t 40), some (36, false), []⟩,
      ⟨some 42, .bin .add (.t 39) (.t 41), some (36, false), []⟩,
      ⟨some 43, .bin .geq (.t 37) (.t 42), some (36, false), []⟩,
      ⟨some 44, .pick (.t 36) (.c (.bool true)) (.t 43), none, []⟩] none) <|
   .cond (.t 44) (.seq (.region [
       ⟨some 45, .build [.int .i64 0, .nil, .nil, .nil] [], none, []⟩,
       ⟨none, .store 4 (.t 8) (.t 45), none, []⟩,
       ⟨some 9, .mv (.c (.int .i64 6)), none, []⟩] none) <|
    .ret) <|
   .skip) <|
  .seq (.seq (.hregion [
      ⟨8, ⟨some 54, .fa 1 (.t 7), none, []⟩⟩,
      ⟨9, ⟨some 55, .load false 1 (.t 54), none, [8]⟩⟩,
      ⟨6, ⟨some 52, .fa 0 (.t 7), none, []⟩⟩,
      ⟨7, ⟨some 53, .load false 1 (.t 52), none, [6]⟩⟩,
      ⟨2, ⟨some 48, .fa 0 (.t 4), none, []⟩⟩,
      ⟨3, ⟨some 49, .load false 1 (.t 48), none, [2]⟩⟩,
      ⟨1, ⟨some 47, .mv (.t 2), none, []⟩⟩,
      ⟨4, ⟨some 50, .bin .sub (.t 47) (.t 49), none, [1, 3, 2]⟩⟩,
      ⟨0, ⟨some 46, .mv (.t 12), none, []⟩⟩,
      ⟨5, ⟨some 51, .ixs 2 (.t 46) (.t 50), none, [0, 4, 1, 3, 2]⟩⟩,
      ⟨10, ⟨some 56, .call 58 [.t 51, .t 53, .t 55], none, [5, 7, 9, 0, 4, 1, 3, 2, 6, 8]⟩⟩,
      ⟨11, ⟨some 57, .un .not (.t 56), none, [10, 5, 7, 9, 0, 4, 1, 3, 2, 6, 8]⟩⟩]) <|
   .cond (.t 57) (.seq (.region [
       ⟨some 58, .build [.int .i64 0, .nil, .nil, .nil] [], none, []⟩,
       ⟨none, .store 4 (.t 8) (.t 58), none, []⟩,
       ⟨some 9, .mv (.c (.int .i64 48)), none, []⟩] none) <|
    .ret) <|
   .skip) <|
  .seq (.region [
     ⟨some 59, .load true 4 (.t 11), none, []⟩,
     ⟨none, .store 4 (.t 8) (.t 59), none, []⟩,
     ⟨some 9, .mv (.c (.int .i64 0)), none, []⟩] none) <|
  .ret
abbrev n_ledger_Fix : Nat := 34
theorem b_ledger_Fix : bodyOf prog 34 [1000000] = some (c_ledger_Fix, [.c 8 true 4, .t 9], 60) := by kernel_rfl

def c_ledger_Tighten : ACode :=
  .seq (.region [
     ⟨some 1, .box 4 41 (.t 0), none, []⟩,
     ⟨some 2, .alloc 4 41 (.agg [.int .i64 0, .nil, .nil, .nil]), none, []⟩,
     ⟨some 3, .alloc 1 44 (.int .i64 0), none, []⟩] none) <|
  .seq (.seq (.region [
      ⟨some 14, .load true 4 (.t 1), none, []⟩,
      ⟨some 15, .call 55 [.t 14], none, []⟩,
      ⟨some 4, .mv (.t 15), none, []⟩] none) <|
   .seq (.region [
      ⟨some 16, .mv (.t 4), none, []⟩,
      ⟨some 17, .bin .neq (.t 16) (.c (.int .i64 0)), none, []⟩] none) <|
   .cond (.t 17) (.seq (.region [
       ⟨some 18, .build [.int .i64 0, .nil, .nil, .nil] [], none, []⟩,
       ⟨some 19, .mv (.t 4), none, []⟩,
       ⟨none, .store 4 (.t 2) (.t 18), none, []⟩,
       ⟨none, .store 1 (.t 3) (.t 19), none, []⟩] none) <|
    .ret) <|
   .skip) <|
  .seq (.region [
     ⟨some 20, .load true 4 (.t 1), none, []⟩,
     ⟨some 21, .call 56 [.t 20], none, []⟩,
     ⟨some 5, .alloc 4 41 (.agg [.int .i64 0, .nil, .nil, .nil]), none, []⟩,
     ⟨none, .store 4 (.t 5) (.t 21), none, []⟩] none) <|
  .seq (.seq (.region [
      ⟨some 22, .lit false 1 4 [.c (.bool false), .c (.bool true)], none, []⟩,
      ⟨some 23, .len (.t 22), none, []⟩,
      ⟨some 24, .mv (.c (.int .i64 0)), none, []⟩] none) <|
   .block 0 <|
   .loop <|
   .seq (.region [
      ⟨some 25, .bin .lss (.t 24) (.t 23), none, []⟩] none) <|
   .seq (.cond (.t 25) (.skip) <|
    .exit 0) <|
   .seq (.block 1 <|
    .seq (.region [
       ⟨some 26, .ixs 1 (.t 22) (.t 24), none, []⟩,
       ⟨some 27, .load false 1 (.t 26), none, []⟩,
       ⟨some 7, .alloc 1 4 (.bool false), none, []⟩,
       ⟨none, .store 1 (.t 7) (.t 27), none, []⟩] none) <|
    .seq (.region [
       ⟨some 28, .fa 2 (.t 1), none, []⟩,
       ⟨some 29, .load false 1 (.t 28), none, []⟩,
       ⟨some 30, .len (.t 29), none, []⟩,
       ⟨some 31, .load false 1 (.t 7), none, []⟩,
       ⟨some 32, .call 59 [.t 30, .t 31], none, []⟩] none) <|
    .block 2 <|
    .rangeF (ItC prog) (.t 32) 33 8 <|
    .block 3 <|
    .seq (.region [
       ⟨some 34, .mv (.t 8), none, []⟩,
       ⟨some 35, .load false 1 (.t 7), none, []⟩,
       ⟨some 36, .call 60 [.t 5, .t 34, .t 35], none, []⟩,
       ⟨some 37, .un .not (.t 36), none, []⟩] none) <|
    .cond (.t 37) (.seq (.region [
        ⟨some 38, .build [.int .i64 0, .nil, .nil, .nil] [], none, []⟩,
        ⟨none, .store 4 (.t 2) (.t 38), none, []⟩,
        ⟨none, .store 1 (.t 3) (.c (.int .i64 48)), none, []⟩] none) <|
     .ret) <|
    .skip) <|
   .region [
     ⟨some 39, .bin .add (.t 24) (.c (.int .i64 1)), none, []⟩,
     ⟨some 24, .mv (.t 39), none, []⟩] none) <|
  .seq (.seq (.region [
      ⟨some 40, .fa 2 (.t 1), none, []⟩,
      ⟨some 41, .load false 1 (.t 40), none, []⟩,
      ⟨some 42, .len (.t 41), none, []⟩,
      ⟨some 43, .call 59 [.t 42, .c (.bool false)], none, []⟩] none) <|
   .block 4 <|
   .rangeF (ItC prog) (.t 43) 44 9 <|
   .block 5 <|
   .seq (.hregion [
      ⟨18, ⟨some 63, .mv (.t 9), none, []⟩⟩,
      ⟨16, ⟨some 61, .fa 3 (.t 1), none, []⟩⟩,
      ⟨17, ⟨some 62, .load false 1 (.t 61), none, [16]⟩⟩,
      ⟨19, ⟨some 64, .ixs 2 (.t 62) (.t 63), none, [17, 18, 16]⟩⟩,
      ⟨20, ⟨some 65, .load true 2 (.t 64), none, [19, 17, 18, 16]⟩⟩,
      ⟨13, ⟨some 58, .mv (.t 9), none, []⟩⟩,
      ⟨11, ⟨some 56, .fa 2 (.t 1), none, []⟩⟩,
      ⟨12, ⟨some 57, .load false 1 (.t 56), none, [11]⟩⟩,
      ⟨14, ⟨some 59, .ixs 2 (.t 57) (.t 58), none, [12, 13, 11]⟩⟩,
      ⟨15, ⟨some 60, .load true 2 (.t 59), none, [14, 12, 13, 11]⟩⟩,
      ⟨7, ⟨some 52, .mv (.t 9), none, []⟩⟩,
      ⟨8, ⟨some 53, .bin .add (.t 52) (.c (.int .i64 1)), none, [7]⟩⟩,
      ⟨5, ⟨some 50, .fa 1 (.t 5), none, []⟩⟩,
      ⟨6, ⟨some 51, .load false 1 (.t 50), none, [5]⟩⟩,
      ⟨9, ⟨some 54, .ixs 2 (.t 51) (.t 53), none, [6, 8, 5, 7]⟩⟩,
      ⟨10, ⟨some 55, .load true 2 (.t 54), none, [9, 6, 8, 5, 7]⟩⟩,
      ⟨2, ⟨some 47, .mv (.t 9), none, []⟩⟩,
      ⟨0, ⟨some 45, .fa 1 (.t 5), none, []⟩⟩,
      ⟨1, ⟨some 46, .load false 1 (.t 45), none, [0]⟩⟩,
      ⟨3, ⟨some 48, .ixs 2 (.t 46) (.t 47), none, [1, 2, 0]⟩⟩,
      ⟨4, ⟨some 49, .load true 2 (.t 48), none, [3, 1, 2, 0]⟩⟩,
      ⟨24, ⟨some 13, .alloc 2 35 (.agg [.int .i64 0, .int .i64 0]), none, []⟩⟩,
      ⟨23, ⟨some 12, .alloc 2 35 (.agg [.int .i64 0, .int .i64 0]), none, []⟩⟩,
      ⟨22, ⟨some 11, .alloc 2 35 (.agg [.int .i64 0, .int .i64 0]), none, []⟩⟩,
      ⟨21, ⟨some 10, .alloc 2 35 (.agg [.int .i64 0, .int .i64 0]), none, []⟩⟩,
      ⟨25, ⟨none, .store 2 (.t 10) (.t 49), none, [21, 4, 0, 1, 2, 3, 22, 23, 24]⟩⟩,
      ⟨26, ⟨none, .store 2 (.t 11) (.t 55), none, [22, 10, 25, 0, 1, 2, 3, 4, 5, 6, 7, 8, 9, 21, 23, 24]⟩⟩,
      ⟨27, ⟨none, .store 2 (.t 12) (.t 60), none, [23, 15, 26, 0, 1, 2, 3, 4, 5, 6, 7, 8, 9, 10, 11, 12, 13, 14, 21, 22, 24, 25]⟩⟩,
      ⟨28, ⟨none, .store 2 (.t 13) (.t 65), none, [24, 20, 27, 0, 1, 2, 3, 4, 5, 6, 7, 8, 9, 10, 11, 12, 13, 14, 15, 16, 17, 18, 19, 21, 22, 23, 25, 26]⟩⟩]) <|
   .seq (.hregion [
      ⟨17, ⟨some 83, .fa 1 (.t 13), none, []⟩⟩,
      ⟨18, ⟨some 84, .load false 1 (.t 83), none, [17]⟩⟩,
      ⟨14, ⟨some 80, .fa 0 (.t 10), none, []⟩⟩,
      ⟨15, ⟨some 81, .load false 1 (.t 80), none, [14]⟩⟩,
      ⟨12, ⟨some 78, .fa 1 (.t 11), none, []⟩⟩,
      ⟨13, ⟨some 79, .load false 1 (.t 78), none, [12]⟩⟩,
      ⟨16, ⟨some 82, .bin .sub (.t 79) (.t 81), none, [13, 15, 12, 14]⟩⟩,
      ⟨19, ⟨some 85, .bin .add (.t 82) (.t 84), none, [16, 18, 13, 15, 12, 14, 17]⟩⟩,
      ⟨9, ⟨some 75, .fa 0 (.t 13), none, []⟩⟩,
      ⟨10, ⟨some 76, .load false 1 (.t 75), none, [9]⟩⟩,
      ⟨6, ⟨some 72, .fa 1 (.t 10), none, []⟩⟩,
      ⟨7, ⟨some 73, .load false 1 (.t 72), none, [6]⟩⟩,
      ⟨4, ⟨some 70, .fa 0 (.t 11), none, []⟩⟩,
      ⟨5, ⟨some 71, .load false 1 (.t 70), none, [4]⟩⟩,
      ⟨8, ⟨some 74, .bin .sub (.t 71) (.t 73), none, [5, 7, 4, 6]⟩⟩,
      ⟨11, ⟨some 77, .bin .add (.t 74) (.t 76), none, [8, 10, 5, 7, 4, 6, 9]⟩⟩,
      ⟨2, ⟨some 68, .mv (.t 9), none, []⟩⟩,
      ⟨0, ⟨some 66, .fa 2 (.t 5), none, []⟩⟩,
      ⟨1, ⟨some 67, .load false 1 (.t 66), none, [0]⟩⟩,
      ⟨3, ⟨some 69, .ixs 2 (.t 67) (.t 68), none, [1, 2, 0]⟩⟩,
      ⟨20, ⟨some 86, .call 58 [.t 69, .t 77, .t 85], none, [3, 11, 19, 1, 2, 0, 8, 10, 5, 7, 4, 6, 9, 16, 18, 13, 15, 12, 14, 17]⟩⟩,
      ⟨21, ⟨some 87, .un .not (.t 86), none, [20, 3, 11, 19, 1, 2, 0, 8, 10, 5, 7, 4, 6, 9, 16, 18, 13, 15, 12, 14, 17]⟩⟩,
      ⟨22, ⟨some 88, .mv (.t 87), none, [21, 20, 3, 11, 19, 1, 2, 0, 8, 10, 5, 7, 4, 6, 9, 16, 18, 13, 15, 12, 14, 17]⟩⟩,
      ⟨40, ⟨some 106, .fa 0 (.t 11), some (88, false), [22, 21, 20, 3, 11, 19, 1, 2, 0, 8, 10, 5, 7, 4, 6, 9, 16, 18, 13, 15, 12, 14, 17]⟩⟩,
      ⟨41, ⟨some 107, .load false 1 (.t 106), some (88, false), [40, 22, 21, 20, 3, 11, 19, 1, 2, 0, 8, 10, 5, 7, 4, 6, 9, 16, 18, 13, 15, 12, 14, 17]⟩⟩,
      ⟨37, ⟨some 103, .fa 1 (.t 12), some (88, false), [22, 21, 20, 3, 11, 19, 1, 2, 0, 8, 10, 5, 7, 4, 6, 9, 16, 18, 13, 15, 12, 14, 17]⟩⟩,
      ⟨38, ⟨some 104, .load false 1 (.t 103), some (88, false), [37, 22, 21, 20, 3, 11, 19, 1, 2, 0, 8, 10, 5, 7, 4, 6, 9, 16, 18, 13, 15, 12, 14, 17]⟩⟩,
      ⟨35, ⟨some 101, .fa 1 (.t 10), some (88, false), [22, 21, 20, 3, 11, 19, 1, 2, 0, 8, 10, 5, 7, 4, 6, 9, 16, 18, 13, 15, 12, 14, 17]⟩⟩,
      ⟨36, ⟨some 102, .load false 1 (.t 101), some (88, false), [35, 22, 21, 20, 3, 11, 19, 1, 2, 0, 8, 10, 5, 7, 4, 6, 9, 16, 18, 13, 15, 12, 14, 17]⟩⟩,
      ⟨39, ⟨some 105, .bin .add (.t 102) (.t 104), some (88, false), [36, 38, 22, 35, 21, 20, 3, 11, 19, 1, 2, 0, 8, 10, 5, 7, 4, 6, 9, 16, 18, 13, 15, 12, 14, 17, 37]⟩⟩,
      ⟨42, ⟨some 108, .bin .sub (.t 105) (.t 107), some (88, false), [39, 41, 22, 36, 38, 35, 21, 20, 3, 11, 19, 1, 2, 0, 8, 10, 5, 7, 4, 6, 9, 16, 18, 13, 15, 12, 14, 17, 37, 40]⟩⟩,
      ⟨32, ⟨some 98, .fa 1 (.t 11), some (88, false), [22, 21, 20, 3, 11, 19, 1, 2, 0, 8, 10, 5, 7, 4, 6, 9, 16, 18, 13, 15, 12, 14, 17]⟩⟩,
      ⟨33, ⟨some 99, .load false 1 (.t 98), some (88, false), [32, 22, 21, 20, 3, 11, 19, 1, 2, 0, 8, 10, 5, 7, 4, 6, 9, 16, 18, 13, 15, 12, 14, 17]⟩⟩,
      ⟨29, ⟨some 95, .fa 0 (.t 12), some (88, false), [22, 21, 20, 3, 11, 19, 1, 2, 0, 8, 10, 5, 7, 4, 6, 9, 16, 18, 13, 15, 12, 14, 17]⟩⟩,
      ⟨30, ⟨some 96, .load false 1 (.t 95), some (88, false), [29, 22, 21, 20, 3, 11, 19, 1, 2, 0, 8, 10, 5, 7, 4, 6, 9, 16, 18, 13, 15, 12, 14, 17]⟩⟩,
      ⟨27, ⟨some 93, .fa 0 (.t 10), some (88, false), [22, 21, 20, 3, 11, 19, 1, 2, 0, 8, 10, 5, 7, 4, 6, 9, 16, 18, 13, 15, 12, 14, 17]⟩⟩,
      ⟨28, ⟨some 94, .load false 1 (.t 93), some (88, false), [27, 22, 21, 20, 3, 11, 19, 1, 2, 0, 8, 10, 5, 7, 4, 6, 9, 16, 18, 13, 15, 12, 14, 17]⟩⟩,
      ⟨31, ⟨some 97, .bin .add (.t 94) (.t 96), some (88, false), [28, 30, 22, 27, 21, 20, 3, 11, 19, 1, 2, 0, 8, 10, 5, 7, 4, 6, 9, 16, 18, 13, 15, 12, 14, 17, 29]⟩⟩,
      ⟨34, ⟨some 100, .bin .sub (.t 97) (.t 99), some (88, false), [31, 33, 22, 28, 30, 27, 21, 20, 3, 11, 19, 1, 2, 0, 8, 10, 5, 7, 4, 6, 9, 16, 18, 13, 15, 12, 14, 17, 29, 32]⟩⟩,
      ⟨25, ⟨some 91, .mv (.t 9), some (88, false), [22, 21, 20, 3, 11, 19, 1, 2, 0, 8, 10, 5, 7, 4, 6, 9, 16, 18, 13, 15, 12, 14, 17]⟩⟩,
      ⟨23, ⟨some 89, .fa 3 (.t 5), some (88, false), [22, 21, 20, 3, 11, 19, 1, 2, 0, 8, 10, 5, 7, 4, 6, 9, 16, 18, 13, 15, 12, 14, 17]⟩⟩,
      ⟨24, ⟨some 90, .load false 1 (.t 89), some (88, false), [23, 22, 21, 20, 3, 11, 19, 1, 2, 0, 8, 10, 5, 7, 4, 6, 9, 16, 18, 13, 15, 12, 14, 17]⟩⟩,
      ⟨26, ⟨some 92, .ixs 2 (.t 90) (.t 91), some (88, false), [24, 25, 22, 23, 21, 20, 3, 11, 19, 1, 2, 0, 8, 10, 5, 7, 4, 6, 9, 16, 18, 13, 15, 12, 14, 17]⟩⟩,
      ⟨43, ⟨some 109, .call 58 [.t 92, .t 100, .t 108], some (88, false), [26, 34, 42, 22, 24, 25, 23, 21, 20, 3, 11, 19, 1, 2, 0, 8, 10, 5, 7, 4, 6, 9, 16, 18, 13, 15, 12, 14, 17, 31, 33, 28, 30, 27, 29, 32, 39, 41, 36, 38, 35, 37, 40]⟩⟩,
      ⟨44, ⟨some 110, .un .not (.t 109), some (88, false), [43, 22, 26, 34, 42, 24, 25, 23, 21, 20, 3, 11, 19, 1, 2, 0, 8, 10, 5, 7, 4, 6, 9, 16, 18, 13, 15, 12, 14, 17, 31, 33, 28, 30, 27, 29, 32, 39, 41, 36, 38, 35, 37, 40]⟩⟩,
      ⟨45, ⟨some 111, .pick (.t 88) (.c (.bool true)) (.t 110), none, [22, 44, 21, 20, 3, 11, 19, 1, 2, 0, 8, 10, 5, 7, 4, 6, 9, 16, 18, 13, 15, 12, 14, 17, 43, 26, 34, 42, 24, 25, 23, 31, 33, 28, 30, 27, 29, 32, 39, 41, 36, 38, 35, 37, 40]⟩⟩]) <|
   .cond (.t 111) (.seq (.region [
       ⟨some 112, .build [.int .i64 0, .nil, .nil, .nil] [], none, []⟩,
       ⟨none, .store 4 (.t 2) (.t 112), none, []⟩,
       ⟨none, .store 1 (.t 3) (.c (.int .i64 48)), none, []⟩] none) <|
    .ret) <|
   .skip) <|
  .seq (.region [
     ⟨some 113, .load true 4 (.t 5), none, []⟩,
     ⟨none, .store 4 (.t 2) (.t 113), none, []⟩,
     ⟨none, .store 1 (.t 3) (.c (.int .i64 0)), none, []⟩] none) <|
  .ret
abbrev n_ledger_Tighten : Nat := 35
theorem b_ledger_Tighten : bodyOf prog 35 [1000000] = some (c_ledger_Tighten, [.c 2 true 4, .c 3 false 1], 114) := by kernel_rfl

def c_ref30_Check : ACode :=
  .seq (.region [
     ⟨some 1, .box 4 41 (.t 0), none, []⟩,
     ⟨some 2, .mv (.c (.int .i64 0)), none, []⟩] none) <|
  .seq (.seq (.region [
      ⟨some 8, .load true 4 (.t 1), none, []⟩,
      ⟨some 9, .call 61 [.t 8], none, []⟩,
      ⟨some 3, .mv (.t 9), none, []⟩] none) <|
   .seq (.region [
      ⟨some 10, .mv (.t 3), none, []⟩,
      ⟨some 11, .bin .neq (.t 10) (.c (.int .i64 0)), none, []⟩] none) <|
   .cond (.t 11) (.seq (.region [
       ⟨some 12, .mv (.t 3), none, []⟩,
       ⟨some 2, .mv (.t 12), none, []⟩] none) <|
    .ret) <|
   .skip) <|
  .seq (.seq (.region [
      ⟨some 13, .fa 1 (.t 1), none, []⟩,
      ⟨some 14, .load false 1 (.t 13), none, []⟩,
      ⟨some 15, .fa 2 (.t 1), none, []⟩,
      ⟨some 16, .load false 1 (.t 15), none, []⟩,
      ⟨some 17, .fa 3 (.t 1), none, []⟩,
      ⟨some 18, .load false 1 (.t 17), none, []⟩,
      ⟨some 19, .lit false 1 39 [.t 14, .t 16, .t 18], none, []⟩,
      ⟨some 20, .len (.t 19), none, []⟩,
      ⟨some 21, .mv (.c (.int .i64 0)), none, []⟩] none) <|
   .block 0 <|
   .loop <|
   .seq (.region [
      ⟨some 22, .bin .lss (.t 21) (.t 20), none, []⟩] none) <|
   .seq (.cond (.t 22) (.skip) <|
    .exit 0) <|
   .seq (.block 1 <|
    .seq (.region [
       ⟨some 23, .ixs 1 (.t 19) (.t 21), none, []⟩,
       ⟨some 24, .load false 1 (.t 23), none, []⟩,
       ⟨some 5, .mv (.t 24), none, []⟩] none) <|
    .seq (.region [
       ⟨some 25, .mv (.t 5), none, []⟩,
       ⟨some 26, .len (.t 25), none, []⟩,
       ⟨some 27, .mv (.c (.int .i64 0)), none, []⟩] none) <|
    .block 2 <|
    .loop <|
    .seq (.region [
       ⟨some 28, .bin .lss (.t 27) (.t 26), none, []⟩] none) <|
    .seq (.cond (.t 28) (.skip) <|
     .exit 2) <|
    .seq (.block 3 <|
     .seq (.region [
        ⟨some 29, .ixs 2 (.t 25) (.t 27), none, []⟩,
        ⟨some 30, .load true 2 (.t 29), none, []⟩,
        ⟨some 7, .alloc 2 35 (.agg [.int .i64 0, .int .i64 0]), none, []⟩,
        ⟨none, .store 2 (.t 7) (.t 30), none, []⟩] none) <|
     .seq (.seq (.region [
         ⟨some 31, .fa 0 (.t 7), none, []⟩,
         ⟨some 32, .load false 1 (.t 31), none, []⟩,
         ⟨some 33, .bin .lss (.t 32) (.c (.int .i64 0)), none, []⟩,
         ⟨some 34, .mv (.t 33), none, []⟩,
         ⟨some 35, .fa 1 (.t 7), some (34, false), []⟩,
         ⟨some 36, .load false 1 (.t 35), some (34, false), []⟩,
         ⟨some 37, .bin .gtr (.t 36) (.c (.int .i64 274877906944)), some (34, false), []⟩,
         ⟨some 38, .pick (.t 34) (.c (.bool true)) (.t 37), none, []⟩] none) <|
      .cond (.t 38) (.seq (.region [
          ⟨some 2, .mv (.c (.int .i64 1)), none, []⟩] none) <|
       .ret) <|
      .skip) <|
     .seq (.region [
        ⟨some 39, .fa 0 (.t 7), none, []⟩,
        ⟨some 40, .load false 1 (.t 39), none, []⟩,
        ⟨some 41, .fa 1 (.t 7), none, []⟩,
        ⟨some 42, .load false 1 (.t 41), none, []⟩,
        ⟨some 43, .bin .gtr (.t 40) (.t 42), none, []⟩] none) <|
     .cond (.t 43) (.seq (.region [
         ⟨some 2, .mv (.c (.int .i64 48)), none, []⟩] none) <|
      .ret) <|
     .skip) <|
    .region [
      ⟨some 44, .bin .add (.t 27) (.c (.int .i64 1)), none, []⟩,
      ⟨some 27, .mv (.t 44), none, []⟩] none) <|
   .region [
     ⟨some 45, .bin .add (.t 21) (.c (.int .i64 1)), none, []⟩,
     ⟨some 21, .mv (.t 45), none, []⟩] none) <|
  .seq (.region [
     ⟨some 2, .mv (.c (.int .i64 0)), none, []⟩] none) <|
  .ret
abbrev n_ref30_Check : Nat := 36
theorem b_ref30_Check : bodyOf prog 36 [1000000] = some (c_ref30_Check, [.t 2], 46) := by kernel_rfl

def c_ref30_within : ACode :=
  .seq (.region [
     ⟨some 3, .box 2 35 (.t 1), none, []⟩,
     ⟨some 4, .mv (.c (.bool false)), none, []⟩] none) <|
  .seq (.region [
     ⟨some 5, .mv (.t 0), none, []⟩,
     ⟨some 6, .fa 0 (.t 3), none, []⟩,
     ⟨some 7, .load false 1 (.t 6), none, []⟩,
     ⟨some 8, .bin .geq (.t 5) (.t 7), none, []⟩,
     ⟨some 9, .mv (.t 8), none, []⟩,
     ⟨some 10, .mv (.t 0), some (9, true), []⟩,
     ⟨some 11, .fa 1 (.t 3), some (9, true), []⟩,
     ⟨some 12, .load false 1 (.t 11), some (9, true), []⟩,
     ⟨some 13, .bin .leq (.t 10) (.t 12), some (9, true), []⟩,
     ⟨some 14, .pick (.t 9) (.t 13) (.c (.bool false)), none, []⟩,
     ⟨some 4, .mv (.t 14), none, []⟩] none) <|
  .ret
abbrev n_ref30_within : Nat := 37
theorem b_ref30_within : bodyOf prog 37 [1000000] = some (c_ref30_within, [.t 4], 15) := by kernel_rfl

def c_revision_different : ACode :=
  .seq (.region [
     ⟨some 4, .mv (.c (.int .i64 0)), none, []⟩] none) <|
  .seq (.region [
     ⟨some 5, .mv (.c (.int .i64 0)), none, []⟩] none) <|
  .seq (.seq (.region [
      ⟨some 8, .mv (.t 0), none, []⟩,
      ⟨some 9, .len (.t 8), none, []⟩,
      ⟨some 10, .mv (.c (.int .i64 0)), none, []⟩] none) <|
   .block 0 <|
   .loop <|
   .seq (.region [
      ⟨some 11, .bin .lss (.t 10) (.t 9), none, []⟩] none) <|
   .seq (.cond (.t 11) (.skip) <|
    .exit 0) <|
   .seq (.block 1 <|
    .seq (.region [
       ⟨some 12, .mv (.t 10), none, []⟩,
       ⟨some 13, .ixs 2 (.t 8) (.t 10), none, []⟩,
       ⟨some 14, .load true 2 (.t 13), none, []⟩,
       ⟨some 7, .alloc 2 35 (.agg [.int .i64 0, .int .i64 0]), none, []⟩,
       ⟨some 6, .mv (.t 12), none, []⟩,
       ⟨none, .store 2 (.t 7) (.t 14), none, []⟩] none) <|
    .seq (.hregion [
       ⟨2, ⟨some 17, .mv (.t 6), none, []⟩⟩,
       ⟨1, ⟨some 16, .mv (.t 1), none, []⟩⟩,
       ⟨3, ⟨some 18, .ixs 2 (.t 16) (.t 17), none, [1, 2]⟩⟩,
       ⟨4, ⟨some 19, .load true 2 (.t 18), none, [3, 1, 2]⟩⟩,
       ⟨0, ⟨some 15, .load true 2 (.t 7), none, []⟩⟩,
       ⟨5, ⟨some 20, .eqs true [0, 0] (.t 15) (.t 19), none, [0, 4, 3, 1, 2]⟩⟩]) <|
    .cond (.t 20) (.region [
       ⟨some 21, .mv (.t 5), none, []⟩,
       ⟨some 22, .bin .add (.t 21) (.c (.int .i64 1)), none, []⟩,
       ⟨some 5, .mv (.t 22), none, []⟩] none) <|
    .skip) <|
   .region [
     ⟨some 23, .bin .add (.t 10) (.c (.int .i64 1)), none, []⟩,
     ⟨some 10, .mv (.t 23), none, []⟩] none) <|
  .seq (.region [
     ⟨some 24, .mv (.t 5), none, []⟩,
     ⟨some 4, .mv (.t 24), none, []⟩] none) <|
  .ret
abbrev n_revision_different : Nat := 38
theorem b_revision_different : bodyOf prog 38 [1000000] = some (c_revision_different, [.t 4], 25) := by kernel_rfl

def c_ref30_SameBounds : ACode :=
  .seq (.region [
     ⟨some 4, .mv (.c (.bool false)), none, []⟩] none) <|
  .seq (.seq (.region [
      ⟨some 6, .mv (.t 0), none, []⟩,
      ⟨some 7, .len (.t 6), none, []⟩,
      ⟨some 8, .mv (.t 1), none, []⟩,
      ⟨some 9, .len (.t 8), none, []⟩,
      ⟨some 10, .bin .neq (.t 7) (.t 9), none, []⟩] none) <|
   .cond (.t 10) (.seq (.region [
       ⟨some 4, .mv (.c (.bool false)), none, []⟩] none) <|
    .ret) <|
   .skip) <|
  .seq (.seq (.region [
      ⟨some 11, .mv (.t 0), none, []⟩,
      ⟨some 12, .len (.t 11), none, []⟩,
      ⟨some 13, .mv (.c (.int .i64 0)), none, []⟩] none) <|
   .block 0 <|
   .loop <|
   .seq (.region [
      ⟨some 14, .bin .lss (.t 13) (.t 12), none, []⟩] none) <|
   .seq (.cond (.t 14) (.skip) <|
    .exit 0) <|
   .seq (.block 1 <|
    .seq (.region [
       ⟨some 15, .mv (.t 13), none, []⟩,
       ⟨some 5, .mv (.t 15), none, []⟩] none) <|
    .seq (.hregion [
       ⟨5, ⟨some 21, .mv (.t 5), none, []⟩⟩,
       ⟨4, ⟨some 20, .mv (.t 1), none, []⟩⟩,
       ⟨6, ⟨some 22, .ixs 2 (.t 20) (.t 21), none, [4, 5]⟩⟩,
       ⟨7, ⟨some 23, .load true 2 (.t 22), none, [6, 4, 5]⟩⟩,
       ⟨1, ⟨some 17, .mv (.t 5), none, []⟩⟩,
       ⟨0, ⟨some 16, .mv (.t 0), none, []⟩⟩,
       ⟨2, ⟨some 18, .ixs 2 (.t 16) (.t 17), none, [0, 1]⟩⟩,
       ⟨3, ⟨some 19, .load true 2 (.t 18), none, [2, 0, 1]⟩⟩,
       ⟨8, ⟨some 24, .eqs true [0, 0] (.t 19) (.t 23), none, [3, 7, 2, 0, 1, 6, 4, 5]⟩⟩]) <|
    .cond (.t 24) (.seq (.region [
        ⟨some 4, .mv (.c (.bool false)), none, []⟩] none) <|
     .ret) <|
    .skip) <|
   .region [
     ⟨some 25, .bin .add (.t 13) (.c (.int .i64 1)), none, []⟩,
     ⟨some 13, .mv (.t 25), none, []⟩] none) <|
  .seq (.region [
     ⟨some 4, .mv (.c (.bool true)), none, []⟩] none) <|
  .ret
abbrev n_ref30_SameBounds : Nat := 39
theorem b_ref30_SameBounds : bodyOf prog 39 [1000000] = some (c_ref30_SameBounds, [.t 4], 26) := by kernel_rfl

def c_mk_Mod : ACode :=
  .seq (.region [
     ⟨some 4, .mv (.c (.int .i64 0)), none, []⟩] none) <|
  .seq (.region [
     ⟨some 5, .mv (.t 0), none, []⟩,
     ⟨some 6, .mv (.t 1), none, []⟩,
     ⟨some 7, .bin .rem (.t 5) (.t 6), none, []⟩,
     ⟨some 8, .mv (.t 1), none, []⟩,
     ⟨some 9, .bin .add (.t 7) (.t 8), none, []⟩,
     ⟨some 10, .mv (.t 1), none, []⟩,
     ⟨some 11, .bin .rem (.t 9) (.t 10), none, []⟩,
     ⟨some 4, .mv (.t 11), none, []⟩] none) <|
  .ret
abbrev n_mk_Mod : Nat := 40
theorem b_mk_Mod : bodyOf prog 40 [] = some (c_mk_Mod, [.t 4], 12) := by kernel_rfl

def c_slices_EqualFunc__Account : ACode :=
  .seq (.region [
     ⟨some 6, .mv (.c (.bool false)), none, []⟩] none) <|
  .seq (.seq (.region [
      ⟨some 10, .mv (.t 0), none, []⟩,
      ⟨some 11, .len (.t 10), none, []⟩,
      ⟨some 12, .mv (.t 1), none, []⟩,
      ⟨some 13, .len (.t 12), none, []⟩,
      ⟨some 14, .bin .neq (.t 11) (.t 13), none, []⟩] none) <|
   .cond (.t 14) (.seq (.region [
       ⟨some 6, .mv (.c (.bool false)), none, []⟩] none) <|
    .ret) <|
   .skip) <|
  .seq (.seq (.region [
      ⟨some 15, .mv (.t 0), none, []⟩,
      ⟨some 16, .len (.t 15), none, []⟩,
      ⟨some 17, .mv (.c (.int .i64 0)), none, []⟩] none) <|
   .block 0 <|
   .loop <|
   .seq (.region [
      ⟨some 18, .bin .lss (.t 17) (.t 16), none, []⟩] none) <|
   .seq (.cond (.t 18) (.skip) <|
    .exit 0) <|
   .seq (.block 1 <|
    .seq (.region [
       ⟨some 19, .mv (.t 17), none, []⟩,
       ⟨some 20, .ixs 4 (.t 15) (.t 17), none, []⟩,
       ⟨some 21, .load true 4 (.t 20), none, []⟩,
       ⟨some 8, .alloc 4 41 (.agg [.int .i64 0, .nil, .nil, .nil]), none, []⟩,
       ⟨some 7, .mv (.t 19), none, []⟩,
       ⟨none, .store 4 (.t 8) (.t 21), none, []⟩] none) <|
    .seq (.region [
       ⟨some 22, .mv (.t 1), none, []⟩,
       ⟨some 23, .mv (.t 7), none, []⟩,
       ⟨some 24, .ixs 4 (.t 22) (.t 23), none, []⟩,
       ⟨some 25, .load true 4 (.t 24), none, []⟩,
       ⟨some 9, .alloc 4 41 (.agg [.int .i64 0, .nil, .nil, .nil]), none, []⟩,
       ⟨none, .store 4 (.t 9) (.t 25), none, []⟩] none) <|
    .seq (.region [
       ⟨some 26, .mv (.t 2), none, []⟩,
       ⟨some 27, .load true 4 (.t 8), none, []⟩,
       ⟨some 28, .load true 4 (.t 9), none, []⟩,
       ⟨some 29, .callv (.t 26) [.t 27, .t 28], none, []⟩,
       ⟨some 30, .un .not (.t 29), none, []⟩] none) <|
    .cond (.t 30) (.seq (.region [
        ⟨some 6, .mv (.c (.bool false)), none, []⟩] none) <|
     .ret) <|
    .skip) <|
   .region [
     ⟨some 31, .bin .add (.t 17) (.c (.int .i64 1)), none, []⟩,
     ⟨some 17, .mv (.t 31), none, []⟩] none) <|
  .seq (.region [
     ⟨some 6, .mv (.c (.bool true)), none, []⟩] none) <|
  .ret
abbrev n_slices_EqualFunc__Account : Nat := 41
theorem b_slices_EqualFunc__Account : bodyOf prog 41 [1000000] = some (c_slices_EqualFunc__Account, [.t 6], 32) := by kernel_rfl

def c_ledger_Same : ACode :=
  .seq (.region [
     ⟨some 2, .box 4 41 (.t 0), none, []⟩,
     ⟨some 3, .box 4 41 (.t 1), none, []⟩,
     ⟨some 4, .mv (.c (.bool false)), none, []⟩] none) <|
  .seq (.region [
     ⟨some 5, .fa 0 (.t 2), none, []⟩,
     ⟨some 6, .load false 1 (.t 5), none, []⟩,
     ⟨some 7, .fa 0 (.t 3), none, []⟩,
     ⟨some 8, .load false 1 (.t 7), none, []⟩,
     ⟨some 9, .bin .eql (.t 6) (.t 8), none, []⟩,
     ⟨some 10, .mv (.t 9), none, []⟩,
     ⟨some 11, .fa 1 (.t 2), some (10, true), []⟩,
     ⟨some 12, .load false 1 (.t 11), some (10, true), []⟩,
     ⟨some 13, .fa 1 (.t 3), some (10, true), []⟩,
     ⟨some 14, .load false 1 (.t 13), some (10, true), []⟩,
     ⟨some 15, .call 62 [.t 12, .t 14], some (10, true), []⟩,
     ⟨some 16, .pick (.t 10) (.t 15) (.c (.bool false)), none, []⟩,
     ⟨some 17, .mv (.t 16), none, []⟩,
     ⟨some 18, .fa 2 (.t 2), some (17, true), []⟩,
     ⟨some 19, .load false 1 (.t 18), some (17, true), []⟩,
     ⟨some 20, .fa 2 (.t 3), some (17, true), []⟩,
     ⟨some 21, .load false 1 (.t 20), some (17, true), []⟩,
     ⟨some 22, .call 62 [.t 19, .t 21], some (17, true), []⟩,
     ⟨some 23, .pick (.t 17) (.t 22) (.c (.bool false)), none, []⟩,
     ⟨some 24, .mv (.t 23), none, []⟩,
     ⟨some 25, .fa 3 (.t 2), some (24, true), []⟩,
     ⟨some 26, .load false 1 (.t 25), some (24, true), []⟩,
     ⟨some 27, .fa 3 (.t 3), some (24, true), []⟩,
     ⟨some 28, .load false 1 (.t 27), some (24, true), []⟩,
     ⟨some 29, .call 62 [.t 26, .t 28], some (24, true), []⟩,
     ⟨some 30, .pick (.t 24) (.t 29) (.c (.bool false)), none, []⟩,
     ⟨some 4, .mv (.t 30), none, []⟩] none) <|
  .ret
abbrev n_ledger_Same : Nat := 42
theorem b_ledger_Same : bodyOf prog 42 [1000000] = some (c_ledger_Same, [.t 4], 31) := by kernel_rfl

def c_slices_Equal__Report : ACode :=
  .seq (.region [
     ⟨some 4, .mv (.c (.bool false)), none, []⟩] none) <|
  .seq (.seq (.region [
      ⟨some 6, .mv (.t 0), none, []⟩,
      ⟨some 7, .len (.t 6), none, []⟩,
      ⟨some 8, .mv (.t 1), none, []⟩,
      ⟨some 9, .len (.t 8), none, []⟩,
      ⟨some 10, .bin .neq (.t 7) (.t 9), none, []⟩] none) <|
   .cond (.t 10) (.seq (.region [
       ⟨some 4, .mv (.c (.bool false)), none, []⟩] none) <|
    .ret) <|
   .skip) <|
  .seq (.seq (.region [
      ⟨some 11, .mv (.t 0), none, []⟩,
      ⟨some 12, .len (.t 11), none, []⟩,
      ⟨some 13, .mv (.c (.int .i64 0)), none, []⟩] none) <|
   .block 0 <|
   .loop <|
   .seq (.region [
      ⟨some 14, .bin .lss (.t 13) (.t 12), none, []⟩] none) <|
   .seq (.cond (.t 14) (.skip) <|
    .exit 0) <|
   .seq (.block 1 <|
    .seq (.region [
       ⟨some 15, .mv (.t 13), none, []⟩,
       ⟨some 5, .mv (.t 15), none, []⟩] none) <|
    .seq (.hregion [
       ⟨5, ⟨some 21, .mv (.t 5), none, []⟩⟩,
       ⟨4, ⟨some 20, .mv (.t 1), none, []⟩⟩,
       ⟨6, ⟨some 22, .ixs 6 (.t 20) (.t 21), none, [4, 5]⟩⟩,
       ⟨7, ⟨some 23, .load true 6 (.t 22), none, [6, 4, 5]⟩⟩,
       ⟨1, ⟨some 17, .mv (.t 5), none, []⟩⟩,
       ⟨0, ⟨some 16, .mv (.t 0), none, []⟩⟩,
       ⟨2, ⟨some 18, .ixs 6 (.t 16) (.t 17), none, [0, 1]⟩⟩,
       ⟨3, ⟨some 19, .load true 6 (.t 18), none, [2, 0, 1]⟩⟩,
       ⟨8, ⟨some 24, .eqs true [0, 0, 0, 0, 0, 0] (.t 19) (.t 23), none, [3, 7, 2, 0, 1, 6, 4, 5]⟩⟩]) <|
    .cond (.t 24) (.seq (.region [
        ⟨some 4, .mv (.c (.bool false)), none, []⟩] none) <|
     .ret) <|
    .skip) <|
   .region [
     ⟨some 25, .bin .add (.t 13) (.c (.int .i64 1)), none, []⟩,
     ⟨some 13, .mv (.t 25), none, []⟩] none) <|
  .seq (.region [
     ⟨some 4, .mv (.c (.bool true)), none, []⟩] none) <|
  .ret
abbrev n_slices_Equal__Report : Nat := 43
theorem b_slices_Equal__Report : bodyOf prog 43 [1000000] = some (c_slices_Equal__Report, [.t 4], 26) := by kernel_rfl

def c_revision_opened : ACode :=
  .seq (.region [
     ⟨some 2, .mv (.c (.int .i64 0)), none, []⟩] none) <|
  .seq (.seq (.region [
      ⟨some 6, .mv (.t 0), none, []⟩,
      ⟨some 7, .len (.t 6), none, []⟩,
      ⟨some 8, .bin .gtr (.t 7) (.c (.int .i64 16)), none, []⟩] none) <|
   .cond (.t 8) (.seq (.region [
       ⟨some 2, .mv (.c (.int .i64 10)), none, []⟩] none) <|
    .ret) <|
   .skip) <|
  .seq (.seq (.region [
      ⟨some 9, .mv (.t 0), none, []⟩,
      ⟨some 10, .len (.t 9), none, []⟩,
      ⟨some 11, .mv (.c (.int .i64 0)), none, []⟩] none) <|
   .block 0 <|
   .loop <|
   .seq (.region [
      ⟨some 12, .bin .lss (.t 11) (.t 10), none, []⟩] none) <|
   .seq (.cond (.t 12) (.skip) <|
    .exit 0) <|
   .seq (.block 1 <|
    .seq (.region [
       ⟨some 13, .ixs 4 (.t 9) (.t 11), none, []⟩,
       ⟨some 14, .load true 4 (.t 13), none, []⟩,
       ⟨some 4, .alloc 4 41 (.agg [.int .i64 0, .nil, .nil, .nil]), none, []⟩,
       ⟨none, .store 4 (.t 4) (.t 14), none, []⟩] none) <|
    .seq (.region [
       ⟨some 15, .load true 4 (.t 4), none, []⟩,
       ⟨some 16, .call 55 [.t 15], none, []⟩,
       ⟨some 5, .mv (.t 16), none, []⟩] none) <|
    .seq (.region [
       ⟨some 17, .mv (.t 5), none, []⟩,
       ⟨some 18, .bin .neq (.t 17) (.c (.int .i64 0)), none, []⟩] none) <|
    .cond (.t 18) (.seq (.region [
        ⟨some 19, .mv (.t 5), none, []⟩,
        ⟨some 2, .mv (.t 19), none, []⟩] none) <|
     .ret) <|
    .skip) <|
   .region [
     ⟨some 20, .bin .add (.t 11) (.c (.int .i64 1)), none, []⟩,
     ⟨some 11, .mv (.t 20), none, []⟩] none) <|
  .seq (.region [
     ⟨some 2, .mv (.c (.int .i64 0)), none, []⟩] none) <|
  .ret
abbrev n_revision_opened : Nat := 44
theorem b_revision_opened : bodyOf prog 44 [1000000] = some (c_revision_opened, [.t 2], 21) := by kernel_rfl

def c_flow_History : ACode :=
  .seq (.region [
     ⟨some 2, .mv (.c (.nil)), none, []⟩,
     ⟨some 3, .mv (.c (.nil)), none, []⟩,
     ⟨some 4, .mv (.c (.nil)), none, []⟩] none) <|
  .seq (.region [
     ⟨some 12, .mv (.t 0), none, []⟩,
     ⟨some 13, .call 20 [.t 12, .c (.int .i64 40)], none, []⟩,
     ⟨some 14, .lit true 1 3 [.t 13], none, []⟩,
     ⟨some 5, .mv (.t 14), none, []⟩] none) <|
  .seq (.region [
     ⟨some 6, .mv (.c (.nil)), none, []⟩,
     ⟨some 7, .mv (.c (.nil)), none, []⟩] none) <|
  .seq (.seq (.region [
      ⟨some 15, .mv (.t 0), none, []⟩,
      ⟨some 16, .call 20 [.t 15, .c (.int .i64 5)], none, []⟩,
      ⟨some 8, .mv (.t 16), none, []⟩] none) <|
   .block 0 <|
   .loop <|
   .seq (.seq (.region [
       ⟨some 17, .mv (.t 8), none, []⟩,
       ⟨some 18, .bin .geq (.t 17) (.c (.int .i64 0)), none, []⟩] none) <|
    .cond (.t 18) (.skip) <|
    .exit 0) <|
   .seq (.block 1 <|
    .seq (.region [
       ⟨some 21, .mv (.t 0), none, []⟩,
       ⟨some 22, .call 20 [.t 21, .c (.int .i64 10)], none, []⟩,
       ⟨some 9, .mv (.t 22), none, []⟩] none) <|
    .seq (.region [
       ⟨some 23, .mv (.t 5), none, []⟩,
       ⟨some 24, .mv (.t 5), none, []⟩,
       ⟨some 25, .len (.t 24), none, []⟩,
       ⟨some 26, .bin .sub (.t 25) (.c (.int .i64 1)), none, []⟩,
       ⟨some 27, .ixs 1 (.t 23) (.t 26), none, []⟩,
       ⟨some 28, .load false 1 (.t 27), none, []⟩,
       ⟨some 10, .mv (.t 28), none, []⟩] none) <|
    .seq (.region [
       ⟨some 29, .mv (.t 0), none, []⟩,
       ⟨some 30, .mv (.t 10), none, []⟩,
       ⟨some 31, .mv (.t 9), none, []⟩,
       ⟨some 32, .bin .add (.t 30) (.t 31), none, []⟩,
       ⟨some 33, .mnx false (.t 32) [.c (.int .i64 12)], none, []⟩,
       ⟨some 34, .bin .add (.t 33) (.c (.int .i64 1)), none, []⟩,
       ⟨some 35, .call 20 [.t 29, .t 34], none, []⟩,
       ⟨some 11, .mv (.t 35), none, []⟩] none) <|
    .region [
      ⟨some 36, .mv (.t 6), none, []⟩,
      ⟨some 37, .mv (.t 9), none, []⟩,
      ⟨some 38, .lit false 1 3 [.t 37], none, []⟩,
      ⟨some 39, .app 1 8 3 (.t 36) (.t 38), none, []⟩,
      ⟨some 40, .mv (.t 7), none, []⟩,
      ⟨some 41, .mv (.t 11), none, []⟩,
      ⟨some 42, .lit false 1 3 [.t 41], none, []⟩,
      ⟨some 43, .app 1 8 3 (.t 40) (.t 42), none, []⟩,
      ⟨some 44, .mv (.t 5), none, []⟩,
      ⟨some 45, .mv (.t 10), none, []⟩,
      ⟨some 46, .mv (.t 9), none, []⟩,
      ⟨some 47, .bin .add (.t 45) (.t 46), none, []⟩,
      ⟨some 48, .mv (.t 11), none, []⟩,
      ⟨some 49, .bin .sub (.t 47) (.t 48), none, []⟩,
      ⟨some 50, .lit false 1 3 [.t 49], none, []⟩,
      ⟨some 51, .app 1 8 3 (.t 44) (.t 50), none, []⟩,
      ⟨some 6, .mv (.t 39), none, []⟩,
      ⟨some 7, .mv (.t 43), none, []⟩,
      ⟨some 5, .mv (.t 51), none, []⟩] none) <|
   .region [
     ⟨some 19, .mv (.t 8), none, []⟩,
     ⟨some 20, .bin .sub (.t 19) (.c (.int .i64 1)), none, []⟩,
     ⟨some 8, .mv (.t 20), none, []⟩] none) <|
  .seq (.region [
     ⟨some 52, .mv (.t 5), none, []⟩,
     ⟨some 53, .mv (.t 6), none, []⟩,
     ⟨some 54, .mv (.t 7), none, []⟩,
     ⟨some 2, .mv (.t 52), none, []⟩,
     ⟨some 3, .mv (.t 53), none, []⟩,
     ⟨some 4, .mv (.t 54), none, []⟩] none) <|
  .ret
abbrev n_flow_History : Nat := 45
theorem b_flow_History : bodyOf prog 45 [14, 1000000] = some (c_flow_History, [.t 2, .t 3, .t 4], 55) := by kernel_rfl

def c_flow_list : ACode :=
  .seq (.region [
     ⟨some 4, .mv (.c (.nil)), none, []⟩] none) <|
  .seq (.region [
     ⟨some 5, .mv (.c (.nil)), none, []⟩] none) <|
  .seq (.seq (.region [
      ⟨some 8, .mv (.t 1), none, []⟩,
      ⟨some 9, .len (.t 8), none, []⟩,
      ⟨some 10, .mv (.c (.int .i64 0)), none, []⟩] none) <|
   .block 0 <|
   .loop <|
   .seq (.region [
      ⟨some 11, .bin .lss (.t 10) (.t 9), none, []⟩] none) <|
   .seq (.cond (.t 11) (.skip) <|
    .exit 0) <|
   .seq (.block 1 <|
    .seq (.region [
       ⟨some 12, .ixs 1 (.t 8) (.t 10), none, []⟩,
       ⟨some 13, .load false 1 (.t 12), none, []⟩,
       ⟨some 7, .mv (.t 13), none, []⟩] none) <|
    .region [
      ⟨some 14, .mv (.t 5), none, []⟩,
      ⟨some 15, .mv (.t 0), none, []⟩,
      ⟨some 16, .mv (.t 7), none, []⟩,
      ⟨some 17, .call 25 [.t 15, .t 16], none, []⟩,
      ⟨some 18, .lit false 2 35 [.t 17], none, []⟩,
      ⟨some 19, .app 2 16 35 (.t 14) (.t 18), none, []⟩,
      ⟨some 5, .mv (.t 19), none, []⟩] none) <|
   .region [
     ⟨some 20, .bin .add (.t 10) (.c (.int .i64 1)), none, []⟩,
     ⟨some 10, .mv (.t 20), none, []⟩] none) <|
  .seq (.region [
     ⟨some 21, .mv (.t 5), none, []⟩,
     ⟨some 4, .mv (.t 21), none, []⟩] none) <|
  .ret
abbrev n_flow_list : Nat := 46
theorem b_flow_list : bodyOf prog 46 [1000000] = some (c_flow_list, [.t 4], 22) := by kernel_rfl

def c_ref31_Check : ACode :=
  .seq (.region [
     ⟨some 1, .box 2 30 (.t 0), none, []⟩,
     ⟨some 2, .mv (.c (.int .i64 0)), none, []⟩] none) <|
  .seq (.seq (.region [
      ⟨some 9, .fa 0 (.t 1), none, []⟩,
      ⟨some 10, .load false 1 (.t 9), none, []⟩,
      ⟨some 11, .len (.t 10), none, []⟩,
      ⟨some 12, .bin .gtr (.t 11) (.c (.int .i64 16)), none, []⟩] none) <|
   .cond (.t 12) (.seq (.region [
       ⟨some 2, .mv (.c (.int .i64 10)), none, []⟩] none) <|
    .ret) <|
   .skip) <|
  .seq (.seq (.region [
      ⟨some 13, .fa 0 (.t 1), none, []⟩,
      ⟨some 14, .load false 1 (.t 13), none, []⟩,
      ⟨some 15, .len (.t 14), none, []⟩,
      ⟨some 16, .mv (.c (.int .i64 0)), none, []⟩] none) <|
   .block 0 <|
   .loop <|
   .seq (.region [
      ⟨some 17, .bin .lss (.t 16) (.t 15), none, []⟩] none) <|
   .seq (.cond (.t 17) (.skip) <|
    .exit 0) <|
   .seq (.block 1 <|
    .seq (.region [
       ⟨some 18, .ixs 4 (.t 14) (.t 16), none, []⟩,
       ⟨some 19, .load true 4 (.t 18), none, []⟩,
       ⟨some 4, .alloc 4 41 (.agg [.int .i64 0, .nil, .nil, .nil]), none, []⟩,
       ⟨none, .store 4 (.t 4) (.t 19), none, []⟩] none) <|
    .seq (.region [
       ⟨some 20, .load true 4 (.t 4), none, []⟩,
       ⟨some 21, .call 36 [.t 20], none, []⟩,
       ⟨some 5, .mv (.t 21), none, []⟩] none) <|
    .seq (.region [
       ⟨some 22, .mv (.t 5), none, []⟩,
       ⟨some 23, .bin .neq (.t 22) (.c (.int .i64 0)), none, []⟩] none) <|
    .cond (.t 23) (.seq (.region [
        ⟨some 24, .mv (.t 5), none, []⟩,
        ⟨some 2, .mv (.t 24), none, []⟩] none) <|
     .ret) <|
    .skip) <|
   .region [
     ⟨some 25, .bin .add (.t 16) (.c (.int .i64 1)), none, []⟩,
     ⟨some 16, .mv (.t 25), none, []⟩] none) <|
  .seq (.seq (.region [
      ⟨some 26, .fa 1 (.t 1), none, []⟩,
      ⟨some 27, .load false 1 (.t 26), none, []⟩,
      ⟨some 28, .len (.t 27), none, []⟩,
      ⟨some 29, .bin .gtr (.t 28) (.c (.int .i64 4096)), none, []⟩] none) <|
   .cond (.t 29) (.seq (.region [
       ⟨some 2, .mv (.c (.int .i64 10)), none, []⟩] none) <|
    .ret) <|
   .skip) <|
  .seq (.seq (.region [
      ⟨some 30, .fa 1 (.t 1), none, []⟩,
      ⟨some 31, .load false 1 (.t 30), none, []⟩,
      ⟨some 32, .len (.t 31), none, []⟩,
      ⟨some 33, .mv (.c (.int .i64 0)), none, []⟩] none) <|
   .block 2 <|
   .loop <|
   .seq (.region [
      ⟨some 34, .bin .lss (.t 33) (.t 32), none, []⟩] none) <|
   .seq (.cond (.t 34) (.skip) <|
    .exit 2) <|
   .seq (.block 3 <|
    .seq (.region [
       ⟨some 35, .mv (.t 33), none, []⟩,
       ⟨some 36, .ixs 6 (.t 31) (.t 33), none, []⟩,
       ⟨some 37, .load true 6 (.t 36), none, []⟩,
       ⟨some 7, .alloc 6 37 (.agg [.int .i64 0, .int .i64 0, .int .i64 0, .int .i64 0, .int .i64 0, .int .i64 0]), none, []⟩,
       ⟨some 6, .mv (.t 35), none, []⟩,
       ⟨none, .store 6 (.t 7) (.t 37), none, []⟩] none) <|
    .seq (.seq (.region [
        ⟨some 38, .fa 0 (.t 7), none, []⟩,
        ⟨some 39, .load false 1 (.t 38), none, []⟩,
        ⟨some 40, .bin .lss (.t 39) (.c (.int .i64 1)), none, []⟩,
        ⟨some 41, .mv (.t 40), none, []⟩,
        ⟨some 42, .fa 0 (.t 7), some (41, false), []⟩,
        ⟨some 43, .load false 1 (.t 42), some (41, false), []⟩,
        ⟨some 44, .bin .gtr (.t 43) (.c (.int .i64 1073741824)), some (41, false), []⟩,
        ⟨some 45, .pick (.t 41) (.c (.bool true)) (.t 44), none, []⟩] none) <|
     .cond (.t 45) (.seq (.region [
         ⟨some 2, .mv (.c (.int .i64 3)), none, []⟩] none) <|
      .ret) <|
     .skip) <|
    .seq (.seq (.hregion [
        ⟨0, ⟨some 46, .mv (.t 6), none, []⟩⟩,
        ⟨1, ⟨some 47, .bin .gtr (.t 46) (.c (.int .i64 0)), none, [0]⟩⟩,
        ⟨2, ⟨some 48, .mv (.t 47), none, [1, 0]⟩⟩,
        ⟨7, ⟨some 53, .mv (.t 6), some (48, true), [2, 1, 0]⟩⟩,
        ⟨8, ⟨some 54, .bin .sub (.t 53) (.c (.int .i64 1)), some (48, true), [7, 2, 1, 0]⟩⟩,
        ⟨5, ⟨some 51, .fa 1 (.t 1), some (48, true), [2, 1, 0]⟩⟩,
        ⟨6, ⟨some 52, .load false 1 (.t 51), some (48, true), [5, 2, 1, 0]⟩⟩,
        ⟨9, ⟨some 55, .ixs 6 (.t 52) (.t 54), some (48, true), [6, 8, 2, 5, 1, 0, 7]⟩⟩,
        ⟨10, ⟨some 56, .fa 0 (.t 55), some (48, true), [9, 2, 6, 8, 5, 1, 0, 7]⟩⟩,
        ⟨11, ⟨some 57, .load false 1 (.t 56), some (48, true), [10, 2, 9, 6, 8, 5, 1, 0, 7]⟩⟩,
        ⟨3, ⟨some 49, .fa 0 (.t 7), some (48, true), [2, 1, 0]⟩⟩,
        ⟨4, ⟨some 50, .load false 1 (.t 49), some (48, true), [3, 2, 1, 0]⟩⟩,
        ⟨12, ⟨some 58, .bin .leq (.t 50) (.t 57), some (48, true), [4, 11, 2, 3, 1, 0, 10, 9, 6, 8, 5, 7]⟩⟩,
        ⟨13, ⟨some 59, .pick (.t 48) (.t 58) (.c (.bool false)), none, [2, 12, 1, 0, 4, 11, 3, 10, 9, 6, 8, 5, 7]⟩⟩]) <|
     .cond (.t 59) (.seq (.region [
         ⟨some 2, .mv (.c (.int .i64 4)), none, []⟩] none) <|
      .ret) <|
     .skip) <|
    .seq (.region [
       ⟨some 60, .fa 0 (.t 1), none, []⟩,
       ⟨some 61, .load false 1 (.t 60), none, []⟩,
       ⟨some 62, .load true 6 (.t 7), none, []⟩,
       ⟨some 63, .call 48 [.t 61, .t 62], none, []⟩,
       ⟨some 8, .mv (.t 63), none, []⟩] none) <|
    .seq (.region [
       ⟨some 64, .mv (.t 8), none, []⟩,
       ⟨some 65, .bin .neq (.t 64) (.c (.int .i64 0)), none, []⟩] none) <|
    .cond (.t 65) (.seq (.region [
        ⟨some 66, .mv (.t 8), none, []⟩,
        ⟨some 2, .mv (.t 66), none, []⟩] none) <|
     .ret) <|
    .skip) <|
   .region [
     ⟨some 67, .bin .add (.t 33) (.c (.int .i64 1)), none, []⟩,
     ⟨some 33, .mv (.t 67), none, []⟩] none) <|
  .seq (.region [
     ⟨some 2, .mv (.c (.int .i64 0)), none, []⟩] none) <|
  .ret
abbrev n_ref31_Check : Nat := 47
theorem b_ref31_Check : bodyOf prog 47 [1000000] = some (c_ref31_Check, [.t 2], 68) := by kernel_rfl

def c_ref31_fits : ACode :=
  .seq (.region [
     ⟨some 3, .box 6 37 (.t 1), none, []⟩,
     ⟨some 4, .mv (.c (.int .i64 0)), none, []⟩] none) <|
  .seq (.seq (.region [
      ⟨some 7, .fa 0 (.t 3), none, []⟩,
      ⟨some 8, .load false 1 (.t 7), none, []⟩,
      ⟨some 9, .bin .lss (.t 8) (.c (.int .i64 1)), none, []⟩,
      ⟨some 10, .mv (.t 9), none, []⟩,
      ⟨some 11, .fa 0 (.t 3), some (10, false), []⟩,
      ⟨some 12, .load false 1 (.t 11), some (10, false), []⟩,
      ⟨some 13, .bin .gtr (.t 12) (.c (.int .i64 1073741824)), some (10, false), []⟩,
      ⟨some 14, .pick (.t 10) (.c (.bool true)) (.t 13), none, []⟩] none) <|
   .cond (.t 14) (.seq (.region [
       ⟨some 4, .mv (.c (.int .i64 3)), none, []⟩] none) <|
    .ret) <|
   .skip) <|
  .seq (.seq (.region [
      ⟨some 15, .fa 1 (.t 3), none, []⟩,
      ⟨some 16, .load false 1 (.t 15), none, []⟩,
      ⟨some 17, .bin .lss (.t 16) (.c (.int .i64 0)), none, []⟩,
      ⟨some 18, .mv (.t 17), none, []⟩,
      ⟨some 19, .fa 1 (.t 3), some (18, false), []⟩,
      ⟨some 20, .load false 1 (.t 19), some (18, false), []⟩,
      ⟨some 21, .mv (.t 0), some (18, false), []⟩,
      ⟨some 22, .len (.t 21), some (18, false), []⟩,
      ⟨some 23, .bin .geq (.t 20) (.t 22), some (18, false), []⟩,
      ⟨some 24, .pick (.t 18) (.c (.bool true)) (.t 23), none, []⟩] none) <|
   .cond (.t 24) (.seq (.region [
       ⟨some 4, .mv (.c (.int .i64 47)), none, []⟩] none) <|
    .ret) <|
   .skip) <|
  .seq (.region [
     ⟨some 25, .mv (.t 0), none, []⟩,
     ⟨some 26, .fa 1 (.t 3), none, []⟩,
     ⟨some 27, .load false 1 (.t 26), none, []⟩,
     ⟨some 28, .ixs 4 (.t 25) (.t 27), none, []⟩,
     ⟨some 29, .load true 4 (.t 28), none, []⟩,
     ⟨some 5, .alloc 4 41 (.agg [.int .i64 0, .nil, .nil, .nil]), none, []⟩,
     ⟨none, .store 4 (.t 5) (.t 29), none, []⟩] none) <|
  .seq (.region [
     ⟨some 30, .fa 2 (.t 5), none, []⟩,
     ⟨some 31, .load false 1 (.t 30), none, []⟩,
     ⟨some 32, .len (.t 31), none, []⟩,
     ⟨some 6, .mv (.t 32), none, []⟩] none) <|
  .seq (.seq (.region [
      ⟨some 33, .fa 2 (.t 3), none, []⟩,
      ⟨some 34, .load false 1 (.t 33), none, []⟩] none) <|
   .block 0 <|
   .seq (.region [
      ⟨some 36, .bin .eql (.t 34) (.c (.int .i64 1)), none, []⟩,
      ⟨some 35, .mv (.t 36), none, []⟩] none) <|
   .cond (.t 35) (.region [
      ⟨some 37, .mv (.t 6), none, []⟩,
      ⟨some 38, .bin .add (.t 37) (.c (.int .i64 1)), none, []⟩,
      ⟨some 6, .mv (.t 38), none, []⟩] none) <|
   .seq (.seq (.region [
       ⟨some 40, .bin .eql (.t 34) (.c (.int .i64 2)), none, []⟩,
       ⟨some 39, .mv (.t 40), none, []⟩] none) <|
    .cond (.t 39) (.skip) <|
    .region [
      ⟨some 41, .bin .eql (.t 34) (.c (.int .i64 3)), none, []⟩,
      ⟨some 39, .mv (.t 41), none, []⟩] none) <|
   .cond (.t 39) (.skip) <|
   .seq (.region [
      ⟨some 4, .mv (.c (.int .i64 5)), none, []⟩] none) <|
   .ret) <|
  .seq (.seq (.region [
      ⟨some 42, .fa 3 (.t 3), none, []⟩,
      ⟨some 43, .load false 1 (.t 42), none, []⟩,
      ⟨some 44, .fa 0 (.t 5), none, []⟩,
      ⟨some 45, .load false 1 (.t 44), none, []⟩,
      ⟨some 46, .bin .lss (.t 43) (.t 45), none, []⟩,
      ⟨some 47, .mv (.t 46), none, []⟩,
      ⟨some 48, .fa 3 (.t 3), some (47, false), []⟩,
      ⟨some 49, .load false 1 (.t 48), some (47, false), []⟩,
      ⟨some 50, .fa 0 (.t 5), some (47, false), []⟩,
      ⟨some 51, .load false 1 (.t 50), some (47, false), []⟩,
      ⟨some 52, .mv (.t 6), some (47, false), []⟩,
      ⟨some 53, .bin .add (.t 51) (.t 52), some (47, false), []⟩,
      ⟨some 54, .bin .geq (.t 49) (.t 53), some (47, false), []⟩,
      ⟨some 55, .pick (.t 47) (.c (.bool true)) (.t 54), none, []⟩] none) <|
   .cond (.t 55) (.seq (.region [
       ⟨some 4, .mv (.c (.int .i64 6)), none, []⟩] none) <|
    .ret) <|
   .skip) <|
  .seq (.seq (.region [
      ⟨some 56, .fa 4 (.t 3), none, []⟩,
      ⟨some 57, .fa 0 (.t 56), none, []⟩,
      ⟨some 58, .load false 1 (.t 57), none, []⟩,
      ⟨some 59, .bin .lss (.t 58) (.c (.int .i64 0)), none, []⟩,
      ⟨some 60, .mv (.t 59), none, []⟩,
      ⟨some 61, .fa 4 (.t 3), some (60, false), []⟩,
      ⟨some 62, .fa 0 (.t 61), some (60, false), []⟩,
      ⟨some 63, .load false 1 (.t 62), some (60, false), []⟩,
      ⟨some 64, .bin .gtr (.t 63) (.c (.int .i64 274877906944)), some (60, false), []⟩,
      ⟨some 65, .pick (.t 60) (.c (.bool true)) (.t 64), none, []⟩,
      ⟨some 66, .mv (.t 65), none, []⟩,
      ⟨some 67, .fa 4 (.t 3), some (66, false), []⟩,
      ⟨some 68, .fa 1 (.t 67), some (66, false), []⟩,
      ⟨some 69, .load false 1 (.t 68), some (66, false), []⟩,
      ⟨some 70, .bin .lss (.t 69) (.c (.int .i64 0)), some (66, false), []⟩,
      ⟨some 71, .pick (.t 66) (.c (.bool true)) (.t 70), none, []⟩,
      ⟨some 72, .mv (.t 71), none, []⟩,
      ⟨some 73, .fa 4 (.t 3), some (72, false), []⟩,
      ⟨some 74, .fa 1 (.t 73), some (72, false), []⟩,
      ⟨some 75, .load false 1 (.t 74), some (72, false), []⟩,
      ⟨some 76, .bin .gtr (.t 75) (.c (.int .i64 274877906944)), some (72, false), []⟩,
      ⟨some 77, .pick (.t 72) (.c (.bool true)) (.t 76), none, []⟩] none) <|
   .cond (.t 77) (.seq (.region [
       ⟨some 4, .mv (.c (.int .i64 1)), none, []⟩] none) <|
    .ret) <|
   .skip) <|
  .seq (.seq (.region [
      ⟨some 78, .fa 4 (.t 3), none, []⟩,
      ⟨some 79, .fa 0 (.t 78), none, []⟩,
      ⟨some 80, .load false 1 (.t 79), none, []⟩,
      ⟨some 81, .fa 4 (.t 3), none, []⟩,
      ⟨some 82, .fa 1 (.t 81), none, []⟩,
      ⟨some 83, .load false 1 (.t 82), none, []⟩,
      ⟨some 84, .bin .gtr (.t 80) (.t 83), none, []⟩] none) <|
   .cond (.t 84) (.seq (.region [
       ⟨some 4, .mv (.c (.int .i64 48)), none, []⟩] none) <|
    .ret) <|
   .skip) <|
  .seq (.region [
     ⟨some 4, .mv (.c (.int .i64 0)), none, []⟩] none) <|
  .ret
abbrev n_ref31_fits : Nat := 48
theorem b_ref31_fits : bodyOf prog 48 [1000000] = some (c_ref31_fits, [.t 4], 85) := by kernel_rfl

def c_ref31_Copy : ACode :=
  .seq (.region [
     ⟨some 1, .box 2 30 (.t 0), none, []⟩,
     ⟨some 2, .alloc 2 30 (.agg [.nil, .nil]), none, []⟩] none) <|
  .seq (.region [
     ⟨some 3, .mv (.c (.nil)), none, []⟩] none) <|
  .seq (.seq (.region [
      ⟨some 6, .fa 0 (.t 1), none, []⟩,
      ⟨some 7, .load false 1 (.t 6), none, []⟩,
      ⟨some 8, .len (.t 7), none, []⟩,
      ⟨some 9, .mv (.c (.int .i64 0)), none, []⟩] none) <|
   .block 0 <|
   .loop <|
   .seq (.region [
      ⟨some 10, .bin .lss (.t 9) (.t 8), none, []⟩] none) <|
   .seq (.cond (.t 10) (.skip) <|
    .exit 0) <|
   .seq (.block 1 <|
    .seq (.region [
       ⟨some 11, .ixs 4 (.t 7) (.t 9), none, []⟩,
       ⟨some 12, .load true 4 (.t 11), none, []⟩,
       ⟨some 5, .alloc 4 41 (.agg [.int .i64 0, .nil, .nil, .nil]), none, []⟩,
       ⟨none, .store 4 (.t 5) (.t 12), none, []⟩] none) <|
    .region [
      ⟨some 13, .mv (.t 3), none, []⟩,
      ⟨some 14, .load true 4 (.t 5), none, []⟩,
      ⟨some 15, .call 63 [.t 14], none, []⟩,
      ⟨some 16, .lit false 4 41 [.t 15], none, []⟩,
      ⟨some 17, .app 4 80 41 (.t 13) (.t 16), none, []⟩,
      ⟨some 3, .mv (.t 17), none, []⟩] none) <|
   .region [
     ⟨some 18, .bin .add (.t 9) (.c (.int .i64 1)), none, []⟩,
     ⟨some 9, .mv (.t 18), none, []⟩] none) <|
  .seq (.region [
     ⟨some 19, .mv (.t 3), none, []⟩,
     ⟨some 20, .fa 1 (.t 1), none, []⟩,
     ⟨some 21, .load false 1 (.t 20), none, []⟩,
     ⟨some 22, .app 6 48 37 (.c (.nil)) (.t 21), none, []⟩,
     ⟨some 23, .build [.nil, .nil] [(0, 1, .t 19), (1, 1, .t 22)], none, []⟩,
     ⟨none, .store 2 (.t 2) (.t 23), none, []⟩] none) <|
  .ret
abbrev n_ref31_Copy : Nat := 49
theorem b_ref31_Copy : bodyOf prog 49 [1000000] = some (c_ref31_Copy, [.c 2 true 2], 24) := by kernel_rfl

def c_slices_BinarySearchFunc__int : ACode :=
  .seq (.region [
     ⟨some 6, .mv (.c (.int .i64 0)), none, []⟩,
     ⟨some 7, .mv (.c (.bool false)), none, []⟩] none) <|
  .seq (.region [
     ⟨some 12, .mv (.t 0), none, []⟩,
     ⟨some 13, .len (.t 12), none, []⟩,
     ⟨some 8, .mv (.t 13), none, []⟩] none) <|
  .seq (.region [
     ⟨some 14, .mv (.t 8), none, []⟩,
     ⟨some 9, .mv (.c (.int .i64 0)), none, []⟩,
     ⟨some 10, .mv (.t 14), none, []⟩] none) <|
  .seq (.block 0 <|
   .loop <|
   .seq (.seq (.region [
       ⟨some 15, .mv (.t 9), none, []⟩,
       ⟨some 16, .mv (.t 10), none, []⟩,
       ⟨some 17, .bin .lss (.t 15) (.t 16), none, []⟩] none) <|
    .cond (.t 17) (.skip) <|
    .exit 0) <|
   .block 1 <|
   .seq (.region [
      ⟨some 18, .mv (.t 9), none, []⟩,
      ⟨some 19, .mv (.t 10), none, []⟩,
      ⟨some 20, .bin .add (.t 18) (.t 19), none, []⟩,
      ⟨some 21, .conv .u64 (.t 20), none, []⟩,
      ⟨some 22, .pu (.bit .shr) [.t 21, .c (.int .u64 1)], none, []⟩,
      ⟨some 23, .conv .i64 (.t 22), none, []⟩,
      ⟨some 11, .mv (.t 23), none, []⟩] none) <|
   .seq (.region [
      ⟨some 24, .mv (.t 2), none, []⟩,
      ⟨some 25, .mv (.t 0), none, []⟩,
      ⟨some 26, .mv (.t 11), none, []⟩,
      ⟨some 27, .ixs 6 (.t 25) (.t 26), none, []⟩,
      ⟨some 28, .load true 6 (.t 27), none, []⟩,
      ⟨some 29, .mv (.t 1), none, []⟩,
      ⟨some 30, .callv (.t 24) [.t 28, .t 29], none, []⟩,
      ⟨some 31, .bin .lss (.t 30) (.c (.int .i64 0)), none, []⟩] none) <|
   .cond (.t 31) (.region [
      ⟨some 32, .mv (.t 11), none, []⟩,
      ⟨some 33, .bin .add (.t 32) (.c (.int .i64 1)), none, []⟩,
      ⟨some 9, .mv (.t 33), none, []⟩] none) <|
   .region [
     ⟨some 34, .mv (.t 11), none, []⟩,
     ⟨some 10, .mv (.t 34), none, []⟩] none) <|
  .seq (.region [
     ⟨some 35, .mv (.t 9), none, []⟩,
     ⟨some 36, .mv (.t 9), none, []⟩,
     ⟨some 37, .mv (.t 8), none, []⟩,
     ⟨some 38, .bin .lss (.t 36) (.t 37), none, []⟩,
     ⟨some 39, .mv (.t 38), none, []⟩,
     ⟨some 40, .mv (.t 2), some (39, true), []⟩,
     ⟨some 41, .mv (.t 0), some (39, true), []⟩,
     ⟨some 42, .mv (.t 9), some (39, true), []⟩,
     ⟨some 43, .ixs 6 (.t 41) (.t 42), some (39, true), []⟩,
     ⟨some 44, .load true 6 (.t 43), some (39, true), []⟩,
     ⟨some 45, .mv (.t 1), some (39, true), []⟩,
     ⟨some 46, .callv (.t 40) [.t 44, .t 45], some (39, true), []⟩,
     ⟨some 47, .bin .eql (.t 46) (.c (.int .i64 0)), some (39, true), []⟩,
     ⟨some 48, .pick (.t 39) (.t 47) (.c (.bool false)), none, []⟩,
     ⟨some 6, .mv (.t 35), none, []⟩,
     ⟨some 7, .mv (.t 48), none, []⟩] none) <|
  .ret
abbrev n_slices_BinarySearchFunc__int : Nat := 50
theorem b_slices_BinarySearchFunc__int : bodyOf prog 50 [1000000] = some (c_slices_BinarySearchFunc__int, [.t 6, .t 7], 49) := by kernel_rfl

def c_revision_place_1__Report : ACode :=
  .seq (.region [
     ⟨some 3, .box 6 37 (.t 0), none, []⟩,
     ⟨some 5, .mv (.c (.int .i64 0)), none, []⟩] none) <|
  .seq (.region [
     ⟨some 6, .load false 1 (.t 2), none, []⟩,
     ⟨some 7, .load true 6 (.t 3), none, []⟩,
     ⟨some 8, .callv (.t 6) [.t 7], none, []⟩,
     ⟨some 9, .mv (.t 1), none, []⟩,
     ⟨some 10, .bin .sub (.t 8) (.t 9), none, []⟩,
     ⟨some 5, .mv (.t 10), none, []⟩] none) <|
  .ret
abbrev n_revision_place_1__Report : Nat := 51
theorem b_revision_place_1__Report : bodyOf prog 51 [1000000] = some (c_revision_place_1__Report, [.t 5], 11) := by kernel_rfl

def c_slices_Clone__Report : ACode :=
  .seq (.region [
     ⟨some 2, .newsl 6 37, none, []⟩] none) <|
  .seq (.seq (.region [
      ⟨some 3, .mv (.t 0), none, []⟩,
      ⟨some 4, .isnil false (.t 3), none, []⟩] none) <|
   .cond (.t 4) (.seq (.region [
       ⟨some 2, .newsl 6 37, none, []⟩] none) <|
    .ret) <|
   .skip) <|
  .seq (.region [
     ⟨some 5, .lit true 6 37 [], none, []⟩,
     ⟨some 6, .mv (.t 0), none, []⟩,
     ⟨some 7, .app 6 48 37 (.t 5) (.t 6), none, []⟩,
     ⟨some 2, .mv (.t 7), none, []⟩] none) <|
  .ret
abbrev n_slices_Clone__Report : Nat := 52
theorem b_slices_Clone__Report : bodyOf prog 52 [2, 5, 1000000] = some (c_slices_Clone__Report, [.t 2], 8) := by kernel_rfl

def c_slices_Insert__Report : ACode :=
  .seq (.region [
     ⟨some 6, .mv (.c (.nil)), none, []⟩] none) <|
  .seq (.region [
     ⟨some 10, .mv (.t 0), none, []⟩,
     ⟨some 11, .mv (.t 1), none, []⟩,
     ⟨some 12, .slc 6 (.t 10) (some (.t 11)) none, none, []⟩] none) <|
  .seq (.region [
     ⟨some 13, .mv (.t 2), none, []⟩,
     ⟨some 14, .len (.t 13), none, []⟩,
     ⟨some 7, .mv (.t 14), none, []⟩] none) <|
  .seq (.seq (.region [
      ⟨some 15, .mv (.t 7), none, []⟩,
      ⟨some 16, .bin .eql (.t 15) (.c (.int .i64 0)), none, []⟩] none) <|
   .cond (.t 16) (.seq (.region [
       ⟨some 17, .mv (.t 0), none, []⟩,
       ⟨some 6, .mv (.t 17), none, []⟩] none) <|
    .ret) <|
   .skip) <|
  .seq (.region [
     ⟨some 18, .mv (.t 0), none, []⟩,
     ⟨some 19, .len (.t 18), none, []⟩,
     ⟨some 8, .mv (.t 19), none, []⟩] none) <|
  .seq (.seq (.region [
      ⟨some 20, .mv (.t 1), none, []⟩,
      ⟨some 21, .mv (.t 8), none, []⟩,
      ⟨some 22, .bin .eql (.t 20) (.t 21), none, []⟩] none) <|
   .cond (.t 22) (.seq (.region [
       ⟨some 23, .mv (.t 0), none, []⟩,
       ⟨some 24, .mv (.t 2), none, []⟩,
       ⟨some 25, .app 6 48 37 (.t 23) (.t 24), none, []⟩,
       ⟨some 6, .mv (.t 25), none, []⟩] none) <|
    .ret) <|
   .skip) <|
  .seq (.seq (.region [
      ⟨some 26, .mv (.t 8), none, []⟩,
      ⟨some 27, .mv (.t 7), none, []⟩,
      ⟨some 28, .bin .add (.t 26) (.t 27), none, []⟩,
      ⟨some 29, .mv (.t 0), none, []⟩,
      ⟨some 30, .pu .cap0 [.t 29], none, []⟩,
      ⟨some 31, .bin .gtr (.t 28) (.t 30), none, []⟩] none) <|
   .cond (.t 31) (.seq (.region [
       ⟨some 32, .mv (.t 0), none, []⟩,
       ⟨some 33, .mv (.t 1), none, []⟩,
       ⟨some 34, .slc 6 (.t 32) none (some (.t 33)), none, []⟩,
       ⟨some 35, .mv (.t 8), none, []⟩,
       ⟨some 36, .mv (.t 7), none, []⟩,
       ⟨some 37, .bin .add (.t 35) (.t 36), none, []⟩,
       ⟨some 38, .mv (.t 1), none, []⟩,
       ⟨some 39, .bin .sub (.t 37) (.t 38), none, []⟩,
       ⟨some 40, .appz 6 48 37 (.agg [.int .i64 0, .int .i64 0, .int .i64 0, .int .i64 0, .int .i64 0, .int .i64 0]) (.t 34) (.t 39), none, []⟩,
       ⟨some 9, .mv (.t 40), none, []⟩] none) <|
    .seq (.region [
       ⟨some 41, .mv (.t 9), none, []⟩,
       ⟨some 42, .mv (.t 1), none, []⟩,
       ⟨some 43, .slc 6 (.t 41) (some (.t 42)) none, none, []⟩,
       ⟨some 44, .mv (.t 2), none, []⟩,
       ⟨some 45, .cpy 6 (.t 43) (.t 44), none, []⟩] none) <|
    .seq (.hregion [
       ⟨6, ⟨some 52, .mv (.t 1), none, []⟩⟩,
       ⟨5, ⟨some 51, .mv (.t 0), none, []⟩⟩,
       ⟨7, ⟨some 53, .slc 6 (.t 51) (some (.t 52)) none, none, [5, 6]⟩⟩,
       ⟨2, ⟨some 48, .mv (.t 7), none, []⟩⟩,
       ⟨1, ⟨some 47, .mv (.t 1), none, []⟩⟩,
       ⟨3, ⟨some 49, .bin .add (.t 47) (.t 48), none, [1, 2]⟩⟩,
       ⟨0, ⟨some 46, .mv (.t 9), none, []⟩⟩,
       ⟨4, ⟨some 50, .slc 6 (.t 46) (some (.t 49)) none, none, [0, 3, 1, 2]⟩⟩,
       ⟨8, ⟨some 54, .cpy 6 (.t 50) (.t 53), none, [4, 7, 0, 3, 1, 2, 5, 6]⟩⟩]) <|
    .seq (.region [
       ⟨some 55, .mv (.t 9), none, []⟩,
       ⟨some 6, .mv (.t 55), none, []⟩] none) <|
    .ret) <|
   .skip) <|
  .seq (.region [
     ⟨some 56, .mv (.t 0), none, []⟩,
     ⟨some 57, .mv (.t 8), none, []⟩,
     ⟨some 58, .mv (.t 7), none, []⟩,
     ⟨some 59, .bin .add (.t 57) (.t 58), none, []⟩,
     ⟨some 60, .slc 6 (.t 56) none (some (.t 59)), none, []⟩,
     ⟨some 0, .mv (.t 60), none, []⟩] none) <|
  .seq (.seq (.region [
      ⟨some 61, .mv (.t 2), none, []⟩,
      ⟨some 62, .mv (.t 0), none, []⟩,
      ⟨some 63, .mv (.t 1), none, []⟩,
      ⟨some 64, .mv (.t 7), none, []⟩,
      ⟨some 65, .bin .add (.t 63) (.t 64), none, []⟩,
      ⟨some 66, .slc 6 (.t 62) (some (.t 65)) none, none, []⟩,
      ⟨some 67, .call 64 [.t 61, .t 66], none, []⟩,
      ⟨some 68, .un .not (.t 67), none, []⟩] none) <|
   .cond (.t 68) (.seq (.hregion [
       ⟨6, ⟨some 75, .mv (.t 1), none, []⟩⟩,
       ⟨5, ⟨some 74, .mv (.t 0), none, []⟩⟩,
       ⟨7, ⟨some 76, .slc 6 (.t 74) (some (.t 75)) none, none, [5, 6]⟩⟩,
       ⟨2, ⟨some 71, .mv (.t 7), none, []⟩⟩,
       ⟨1, ⟨some 70, .mv (.t 1), none, []⟩⟩,
       ⟨3, ⟨some 72, .bin .add (.t 70) (.t 71), none, [1, 2]⟩⟩,
       ⟨0, ⟨some 69, .mv (.t 0), none, []⟩⟩,
       ⟨4, ⟨some 73, .slc 6 (.t 69) (some (.t 72)) none, none, [0, 3, 1, 2]⟩⟩,
       ⟨8, ⟨some 77, .cpy 6 (.t 73) (.t 76), none, [4, 7, 0, 3, 1, 2, 5, 6]⟩⟩]) <|
    .seq (.region [
       ⟨some 78, .mv (.t 0), none, []⟩,
       ⟨some 79, .mv (.t 1), none, []⟩,
       ⟨some 80, .slc 6 (.t 78) (some (.t 79)) none, none, []⟩,
       ⟨some 81, .mv (.t 2), none, []⟩,
       ⟨some 82, .cpy 6 (.t 80) (.t 81), none, []⟩] none) <|
    .seq (.region [
       ⟨some 83, .mv (.t 0), none, []⟩,
       ⟨some 6, .mv (.t 83), none, []⟩] none) <|
    .ret) <|
   .skip) <|
  .seq (.region [
     ⟨some 84, .mv (.t 0), none, []⟩,
     ⟨some 85, .mv (.t 8), none, []⟩,
     ⟨some 86, .slc 6 (.t 84) (some (.t 85)) none, none, []⟩,
     ⟨some 87, .mv (.t 2), none, []⟩,
     ⟨some 88, .cpy 6 (.t 86) (.t 87), none, []⟩] none) <|
  .seq (.region [
     ⟨some 89, .mv (.t 0), none, []⟩,
     ⟨some 90, .mv (.t 1), none, []⟩,
     ⟨some 91, .slc 6 (.t 89) (some (.t 90)) none, none, []⟩,
     ⟨some 92, .mv (.t 7), none, []⟩,
     ⟨some 93, .call 65 [.t 91, .t 92], none, []⟩] none) <|
  .seq (.region [
     ⟨some 94, .mv (.t 0), none, []⟩,
     ⟨some 6, .mv (.t 94), none, []⟩] none) <|
  .ret
abbrev n_slices_Insert__Report : Nat := 53
theorem b_slices_Insert__Report : bodyOf prog 53 [1000000] = some (c_slices_Insert__Report, [.t 6], 95) := by kernel_rfl

def c_slices_Clone__Bounds : ACode :=
  .seq (.region [
     ⟨some 2, .newsl 2 35, none, []⟩] none) <|
  .seq (.seq (.region [
      ⟨some 3, .mv (.t 0), none, []⟩,
      ⟨some 4, .isnil false (.t 3), none, []⟩] none) <|
   .cond (.t 4) (.seq (.region [
       ⟨some 2, .newsl 2 35, none, []⟩] none) <|
    .ret) <|
   .skip) <|
  .seq (.region [
     ⟨some 5, .lit true 2 35 [], none, []⟩,
     ⟨some 6, .mv (.t 0), none, []⟩,
     ⟨some 7, .app 2 16 35 (.t 5) (.t 6), none, []⟩,
     ⟨some 2, .mv (.t 7), none, []⟩] none) <|
  .ret
abbrev n_slices_Clone__Bounds : Nat := 54
theorem b_slices_Clone__Bounds : bodyOf prog 54 [2, 5] = some (c_slices_Clone__Bounds, [.t 2], 8) := by kernel_rfl

def c_ledger_Check : ACode :=
  .seq (.region [
     ⟨some 1, .box 4 41 (.t 0), none, []⟩,
     ⟨some 2, .mv (.c (.int .i64 0)), none, []⟩] none) <|
  .seq (.region [
     ⟨some 8, .fa 2 (.t 1), none, []⟩,
     ⟨some 9, .load false 1 (.t 8), none, []⟩,
     ⟨some 10, .len (.t 9), none, []⟩,
     ⟨some 3, .mv (.t 10), none, []⟩] none) <|
  .seq (.block 0 <|
   .seq (.region [
      ⟨some 12, .mv (.t 3), none, []⟩,
      ⟨some 13, .bin .eql (.t 12) (.c (.int .i64 0)), none, []⟩,
      ⟨some 14, .mv (.t 13), none, []⟩,
      ⟨some 15, .fa 3 (.t 1), some (14, false), []⟩,
      ⟨some 16, .load false 1 (.t 15), some (14, false), []⟩,
      ⟨some 17, .len (.t 16), some (14, false), []⟩,
      ⟨some 18, .mv (.t 3), some (14, false), []⟩,
      ⟨some 19, .bin .neq (.t 17) (.t 18), some (14, false), []⟩,
      ⟨some 20, .pick (.t 14) (.c (.bool true)) (.t 19), none, []⟩,
      ⟨some 21, .mv (.t 20), none, []⟩,
      ⟨some 22, .fa 1 (.t 1), some (21, false), []⟩,
      ⟨some 23, .load false 1 (.t 22), some (21, false), []⟩,
      ⟨some 24, .len (.t 23), some (21, false), []⟩,
      ⟨some 25, .mv (.t 3), some (21, false), []⟩,
      ⟨some 26, .bin .add (.t 25) (.c (.int .i64 1)), some (21, false), []⟩,
      ⟨some 27, .bin .neq (.t 24) (.t 26), some (21, false), []⟩,
      ⟨some 28, .pick (.t 21) (.c (.bool true)) (.t 27), none, []⟩,
      ⟨some 11, .mv (.t 28), none, []⟩] none) <|
   .cond (.t 11) (.seq (.region [
       ⟨some 2, .mv (.c (.int .i64 3)), none, []⟩] none) <|
    .ret) <|
   .seq (.region [
      ⟨some 30, .mv (.t 3), none, []⟩,
      ⟨some 31, .bin .gtr (.t 30) (.c (.int .i64 400)), none, []⟩,
      ⟨some 29, .mv (.t 31), none, []⟩] none) <|
   .cond (.t 29) (.seq (.region [
       ⟨some 2, .mv (.c (.int .i64 10)), none, []⟩] none) <|
    .ret) <|
   .seq (.region [
      ⟨some 33, .fa 0 (.t 1), none, []⟩,
      ⟨some 34, .load false 1 (.t 33), none, []⟩,
      ⟨some 35, .bin .lss (.t 34) (.c (.int .i64 0)), none, []⟩,
      ⟨some 36, .mv (.t 35), none, []⟩,
      ⟨some 37, .fa 0 (.t 1), some (36, false), []⟩,
      ⟨some 38, .load false 1 (.t 37), some (36, false), []⟩,
      ⟨some 39, .mv (.t 3), some (36, false), []⟩,
      ⟨some 40, .bin .sub (.c (.int .i64 16777216)) (.t 39), some (36, false), []⟩,
      ⟨some 41, .bin .gtr (.t 38) (.t 40), some (36, false), []⟩,
      ⟨some 42, .pick (.t 36) (.c (.bool true)) (.t 41), none, []⟩,
      ⟨some 32, .mv (.t 42), none, []⟩] none) <|
   .cond (.t 32) (.seq (.region [
       ⟨some 2, .mv (.c (.int .i64 6)), none, []⟩] none) <|
    .ret) <|
   .skip) <|
  .seq (.seq (.region [
      ⟨some 43, .call 57 [.t 1], none, []⟩,
      ⟨some 44, .mv (.c (.int .i64 0)), none, []⟩] none) <|
   .block 1 <|
   .loop <|
   .seq (.region [
      ⟨some 45, .bin .lss (.t 44) (.c (.int .i64 3)), none, []⟩] none) <|
   .seq (.cond (.t 45) (.skip) <|
    .exit 1) <|
   .seq (.block 2 <|
    .seq (.region [
       ⟨some 46, .pu (.aidx false 1 3) [.t 43, .t 44], none, []⟩,
       ⟨some 5, .mv (.t 46), none, []⟩] none) <|
    .seq (.region [
       ⟨some 47, .mv (.t 5), none, []⟩,
       ⟨some 48, .len (.t 47), none, []⟩,
       ⟨some 49, .mv (.c (.int .i64 0)), none, []⟩] none) <|
    .block 3 <|
    .loop <|
    .seq (.region [
       ⟨some 50, .bin .lss (.t 49) (.t 48), none, []⟩] none) <|
    .seq (.cond (.t 50) (.skip) <|
     .exit 3) <|
    .seq (.block 4 <|
     .seq (.region [
        ⟨some 51, .ixs 2 (.t 47) (.t 49), none, []⟩,
        ⟨some 52, .load true 2 (.t 51), none, []⟩,
        ⟨some 7, .alloc 2 35 (.agg [.int .i64 0, .int .i64 0]), none, []⟩,
        ⟨none, .store 2 (.t 7) (.t 52), none, []⟩] none) <|
     .seq (.seq (.region [
         ⟨some 53, .fa 0 (.t 7), none, []⟩,
         ⟨some 54, .load false 1 (.t 53), none, []⟩,
         ⟨some 55, .bin .lss (.t 54) (.c (.int .i64 0)), none, []⟩,
         ⟨some 56, .mv (.t 55), none, []⟩,
         ⟨some 57, .fa 1 (.t 7), some (56, false), []⟩,
         ⟨some 58, .load false 1 (.t 57), some (56, false), []⟩,
         ⟨some 59, .bin .gtr (.t 58) (.c (.int .i64 274877906944)), some (56, false), []⟩,
         ⟨some 60, .pick (.t 56) (.c (.bool true)) (.t 59), none, []⟩] none) <|
      .cond (.t 60) (.seq (.region [
          ⟨some 2, .mv (.c (.int .i64 1)), none, []⟩] none) <|
       .ret) <|
      .skip) <|
     .seq (.region [
        ⟨some 61, .fa 0 (.t 7), none, []⟩,
        ⟨some 62, .load false 1 (.t 61), none, []⟩,
        ⟨some 63, .fa 1 (.t 7), none, []⟩,
        ⟨some 64, .load false 1 (.t 63), none, []⟩,
        ⟨some 65, .bin .gtr (.t 62) (.t 64), none, []⟩] none) <|
     .cond (.t 65) (.seq (.region [
         ⟨some 2, .mv (.c (.int .i64 48)), none, []⟩] none) <|
      .ret) <|
     .skip) <|
    .region [
      ⟨some 66, .bin .add (.t 49) (.c (.int .i64 1)), none, []⟩,
      ⟨some 49, .mv (.t 66), none, []⟩] none) <|
   .region [
     ⟨some 67, .bin .add (.t 44) (.c (.int .i64 1)), none, []⟩,
     ⟨some 44, .mv (.t 67), none, []⟩] none) <|
  .seq (.region [
     ⟨some 2, .mv (.c (.int .i64 0)), none, []⟩] none) <|
  .ret
abbrev n_ledger_Check : Nat := 55
theorem b_ledger_Check : bodyOf prog 55 [1000000] = some (c_ledger_Check, [.t 2], 68) := by kernel_rfl

def c_ledger_twin : ACode :=
  .seq (.region [
     ⟨some 1, .box 4 41 (.t 0), none, []⟩,
     ⟨some 2, .alloc 4 41 (.agg [.int .i64 0, .nil, .nil, .nil]), none, []⟩] none) <|
  .seq (.hregion [
     ⟨8, ⟨some 11, .fa 3 (.t 1), none, []⟩⟩,
     ⟨9, ⟨some 12, .load false 1 (.t 11), none, [8]⟩⟩,
     ⟨5, ⟨some 8, .fa 2 (.t 1), none, []⟩⟩,
     ⟨6, ⟨some 9, .load false 1 (.t 8), none, [5]⟩⟩,
     ⟨2, ⟨some 5, .fa 1 (.t 1), none, []⟩⟩,
     ⟨3, ⟨some 6, .load false 1 (.t 5), none, [2]⟩⟩,
     ⟨0, ⟨some 3, .fa 0 (.t 1), none, []⟩⟩,
     ⟨1, ⟨some 4, .load false 1 (.t 3), none, [0]⟩⟩,
     ⟨4, ⟨some 7, .call 54 [.t 6], none, [3, 2]⟩⟩,
     ⟨7, ⟨some 10, .call 54 [.t 9], none, [6, 4, 5, 3, 2]⟩⟩,
     ⟨10, ⟨some 13, .call 54 [.t 12], none, [9, 7, 8, 6, 4, 5, 3, 2]⟩⟩,
     ⟨11, ⟨some 14, .build [.int .i64 0, .nil, .nil, .nil] [(0, 1, .t 4), (1, 1, .t 7), (2, 1, .t 10), (3, 1, .t 13)], none, [1, 4, 7, 10, 0, 3, 2, 6, 5, 9, 8]⟩⟩,
     ⟨12, ⟨none, .store 4 (.t 2) (.t 14), none, [11, 10, 0, 1, 2, 3, 4, 5, 6, 7, 8, 9]⟩⟩]) <|
  .ret
abbrev n_ledger_twin : Nat := 56
theorem b_ledger_twin : bodyOf prog 56 [1000000] = some (c_ledger_twin, [.c 2 true 4], 15) := by kernel_rfl

def c_ledger_lists : ACode :=
  .seq (.region [
     ⟨some 2, .alloc 3 97 (.agg [.nil, .nil, .nil]), none, []⟩] none) <|
  .seq (.hregion [
     ⟨8, ⟨some 11, .mv (.t 0), none, []⟩⟩,
     ⟨9, ⟨some 12, .nilchk (.t 11), none, [8]⟩⟩,
     ⟨10, ⟨some 13, .fa 3 (.t 12), none, [9, 8]⟩⟩,
     ⟨11, ⟨some 14, .load false 1 (.t 13), none, [10, 9, 8]⟩⟩,
     ⟨4, ⟨some 7, .mv (.t 0), none, []⟩⟩,
     ⟨5, ⟨some 8, .nilchk (.t 7), none, [4]⟩⟩,
     ⟨6, ⟨some 9, .fa 2 (.t 8), none, [5, 4]⟩⟩,
     ⟨7, ⟨some 10, .load false 1 (.t 9), none, [6, 5, 4]⟩⟩,
     ⟨0, ⟨some 3, .mv (.t 0), none, []⟩⟩,
     ⟨1, ⟨some 4, .nilchk (.t 3), none, [0]⟩⟩,
     ⟨2, ⟨some 5, .fa 1 (.t 4), none, [1, 0]⟩⟩,
     ⟨3, ⟨some 6, .load false 1 (.t 5), none, [2, 1, 0]⟩⟩,
     ⟨12, ⟨some 15, .build [.nil, .nil, .nil] [(0, 1, .t 6), (1, 1, .t 10), (2, 1, .t 14)], none, [3, 7, 11, 2, 1, 0, 6, 5, 4, 10, 9, 8]⟩⟩,
     ⟨13, ⟨none, .store 3 (.t 2) (.t 15), none, [12, 0, 1, 2, 3, 4, 5, 6, 7, 8, 9, 10, 11]⟩⟩]) <|
  .ret
abbrev n_ledger_lists : Nat := 57
theorem b_ledger_lists : bodyOf prog 57 [1000000] = some (c_ledger_lists, [.c 2 true 3], 16) := by kernel_rfl

def c_ledger_narrow : ACode :=
  .seq (.region [
     ⟨some 6, .mv (.c (.bool false)), none, []⟩] none) <|
  .seq (.region [
     ⟨some 10, .mv (.t 0), none, []⟩,
     ⟨some 11, .nilchk (.t 10), none, []⟩,
     ⟨some 12, .load true 2 (.t 11), none, []⟩,
     ⟨some 13, .mv (.t 1), none, []⟩,
     ⟨some 14, .mv (.t 2), none, []⟩,
     ⟨some 15, .build [.int .i64 0, .int .i64 0] [(0, 1, .t 13), (1, 1, .t 14)], none, []⟩,
     ⟨some 16, .call 66 [.t 12, .t 15], none, []⟩,
     ⟨some 9, .mv (.t 16), none, []⟩,
     ⟨some 17, .ext (.t 9) 0, none, []⟩,
     ⟨some 18, .ext (.t 9) 1, none, []⟩,
     ⟨some 7, .alloc 2 35 (.agg [.int .i64 0, .int .i64 0]), none, []⟩,
     ⟨none, .store 2 (.t 7) (.t 17), none, []⟩,
     ⟨some 8, .mv (.t 18), none, []⟩] none) <|
  .seq (.seq (.region [
      ⟨some 19, .mv (.t 8), none, []⟩] none) <|
   .cond (.t 19) (.region [
      ⟨some 20, .mv (.t 0), none, []⟩,
      ⟨some 21, .load true 2 (.t 7), none, []⟩,
      ⟨some 22, .nilchk (.t 20), none, []⟩,
      ⟨none, .store 2 (.t 22) (.t 21), none, []⟩] none) <|
   .skip) <|
  .seq (.region [
     ⟨some 23, .mv (.t 8), none, []⟩,
     ⟨some 6, .mv (.t 23), none, []⟩] none) <|
  .ret
abbrev n_ledger_narrow : Nat := 58
theorem b_ledger_narrow : bodyOf prog 58 [1000000] = some (c_ledger_narrow, [.t 6], 24) := by kernel_rfl

def c_ledger_steps : ACode :=
  .seq (.region [
     ⟨some 2, .box 1 3 (.t 0), none, []⟩,
     ⟨some 3, .box 1 4 (.t 1), none, []⟩,
     ⟨some 4, .mv (.c (.nilfunc)), none, []⟩] none) <|
  .seq (.region [
     ⟨some 5, .mkf 67 [.t 2, .t 3], none, []⟩,
     ⟨some 4, .mv (.t 5), none, []⟩] none) <|
  .ret
abbrev n_ledger_steps : Nat := 59
theorem b_ledger_steps : bodyOf prog 59 [1000000] = some (c_ledger_steps, [.t 4], 6) := by kernel_rfl

def c_ledger_step : ACode :=
  .seq (.region [
     ⟨some 6, .mv (.c (.bool false)), none, []⟩] none) <|
  .seq (.hregion [
     ⟨24, ⟨some 35, .mv (.t 1), none, []⟩⟩,
     ⟨20, ⟨some 31, .mv (.t 0), none, []⟩⟩,
     ⟨21, ⟨some 32, .nilchk (.t 31), none, [20]⟩⟩,
     ⟨22, ⟨some 33, .fa 3 (.t 32), none, [21, 20]⟩⟩,
     ⟨23, ⟨some 34, .load false 1 (.t 33), none, [22, 21, 20]⟩⟩,
     ⟨25, ⟨some 36, .ixs 2 (.t 34) (.t 35), none, [23, 24, 22, 21, 20]⟩⟩,
     ⟨26, ⟨some 37, .load true 2 (.t 36), none, [25, 23, 24, 22, 21, 20]⟩⟩,
     ⟨17, ⟨some 28, .mv (.t 1), none, []⟩⟩,
     ⟨13, ⟨some 24, .mv (.t 0), none, []⟩⟩,
     ⟨14, ⟨some 25, .nilchk (.t 24), none, [13]⟩⟩,
     ⟨15, ⟨some 26, .fa 2 (.t 25), none, [14, 13]⟩⟩,
     ⟨16, ⟨some 27, .load false 1 (.t 26), none, [15, 14, 13]⟩⟩,
     ⟨18, ⟨some 29, .ixs 2 (.t 27) (.t 28), none, [16, 17, 15, 14, 13]⟩⟩,
     ⟨19, ⟨some 30, .load true 2 (.t 29), none, [18, 16, 17, 15, 14, 13]⟩⟩,
     ⟨10, ⟨some 21, .mv (.t 1), none, []⟩⟩,
     ⟨11, ⟨some 22, .bin .add (.t 21) (.c (.int .i64 1)), none, [10]⟩⟩,
     ⟨6, ⟨some 17, .mv (.t 0), none, []⟩⟩,
     ⟨7, ⟨some 18, .nilchk (.t 17), none, [6]⟩⟩,
     ⟨8, ⟨some 19, .fa 1 (.t 18), none, [7, 6]⟩⟩,
     ⟨9, ⟨some 20, .load false 1 (.t 19), none, [8, 7, 6]⟩⟩,
     ⟨12, ⟨some 23, .ixs 2 (.t 20) (.t 22), none, [9, 11, 8, 7, 6, 10]⟩⟩,
     ⟨4, ⟨some 15, .mv (.t 1), none, []⟩⟩,
     ⟨0, ⟨some 11, .mv (.t 0), none, []⟩⟩,
     ⟨1, ⟨some 12, .nilchk (.t 11), none, [0]⟩⟩,
     ⟨2, ⟨some 13, .fa 1 (.t 12), none, [1, 0]⟩⟩,
     ⟨3, ⟨some 14, .load false 1 (.t 13), none, [2, 1, 0]⟩⟩,
     ⟨5, ⟨some 16, .ixs 2 (.t 14) (.t 15), none, [3, 4, 2, 1, 0]⟩⟩,
     ⟨28, ⟨some 10, .alloc 2 35 (.agg [.int .i64 0, .int .i64 0]), none, []⟩⟩,
     ⟨27, ⟨some 9, .alloc 2 35 (.agg [.int .i64 0, .int .i64 0]), none, []⟩⟩,
     ⟨29, ⟨some 7, .mv (.t 16), none, [5, 0, 1, 2, 3, 4, 27, 28]⟩⟩,
     ⟨30, ⟨some 8, .mv (.t 23), none, [12, 29, 0, 1, 2, 3, 4, 5, 6, 7, 8, 9, 10, 11, 27, 28]⟩⟩,
     ⟨31, ⟨none, .store 2 (.t 9) (.t 30), none, [27, 19, 30, 0, 1, 2, 3, 4, 5, 6, 7, 8, 9, 10, 11, 12, 13, 14, 15, 16, 17, 18, 28, 29]⟩⟩,
     ⟨32, ⟨none, .store 2 (.t 10) (.t 37), none, [28, 26, 31, 0, 1, 2, 3, 4, 5, 6, 7, 8, 9, 10, 11, 12, 13, 14, 15, 16, 17, 18, 19, 20, 21, 22, 23, 24, 25, 27, 29, 30]⟩⟩]) <|
  .seq (.seq (.region [
      ⟨some 38, .mv (.t 2), none, []⟩] none) <|
   .cond (.t 38) (.seq (.hregion [
       ⟨18, ⟨some 57, .fa 1 (.t 10), none, []⟩⟩,
       ⟨19, ⟨some 58, .load false 1 (.t 57), none, [18]⟩⟩,
       ⟨15, ⟨some 54, .fa 0 (.t 9), none, []⟩⟩,
       ⟨16, ⟨some 55, .load false 1 (.t 54), none, [15]⟩⟩,
       ⟨11, ⟨some 50, .mv (.t 8), none, []⟩⟩,
       ⟨12, ⟨some 51, .nilchk (.t 50), none, [11]⟩⟩,
       ⟨13, ⟨some 52, .fa 1 (.t 51), none, [12, 11]⟩⟩,
       ⟨14, ⟨some 53, .load false 1 (.t 52), none, [13, 12, 11]⟩⟩,
       ⟨17, ⟨some 56, .bin .sub (.t 53) (.t 55), none, [14, 16, 13, 12, 11, 15]⟩⟩,
       ⟨20, ⟨some 59, .bin .add (.t 56) (.t 58), none, [17, 19, 14, 16, 13, 12, 11, 15, 18]⟩⟩,
       ⟨8, ⟨some 47, .fa 0 (.t 10), none, []⟩⟩,
       ⟨9, ⟨some 48, .load false 1 (.t 47), none, [8]⟩⟩,
       ⟨5, ⟨some 44, .fa 1 (.t 9), none, []⟩⟩,
       ⟨6, ⟨some 45, .load false 1 (.t 44), none, [5]⟩⟩,
       ⟨1, ⟨some 40, .mv (.t 8), none, []⟩⟩,
       ⟨2, ⟨some 41, .nilchk (.t 40), none, [1]⟩⟩,
       ⟨3, ⟨some 42, .fa 0 (.t 41), none, [2, 1]⟩⟩,
       ⟨4, ⟨some 43, .load false 1 (.t 42), none, [3, 2, 1]⟩⟩,
       ⟨7, ⟨some 46, .bin .sub (.t 43) (.t 45), none, [4, 6, 3, 2, 1, 5]⟩⟩,
       ⟨10, ⟨some 49, .bin .add (.t 46) (.t 48), none, [7, 9, 4, 6, 3, 2, 1, 5, 8]⟩⟩,
       ⟨0, ⟨some 39, .mv (.t 7), none, []⟩⟩,
       ⟨21, ⟨some 60, .call 58 [.t 39, .t 49, .t 59], none, [0, 10, 20, 7, 9, 4, 6, 3, 2, 1, 5, 8, 17, 19, 14, 16, 13, 12, 11, 15, 18]⟩⟩,
       ⟨22, ⟨some 6, .mv (.t 60), none, [21, 0, 1, 2, 3, 4, 5, 6, 7, 8, 9, 10, 11, 12, 13, 14, 15, 16, 17, 18, 19, 20]⟩⟩]) <|
    .ret) <|
   .skip) <|
  .seq (.hregion [
     ⟨18, ⟨some 79, .fa 0 (.t 10), none, []⟩⟩,
     ⟨19, ⟨some 80, .load false 1 (.t 79), none, [18]⟩⟩,
     ⟨15, ⟨some 76, .fa 1 (.t 9), none, []⟩⟩,
     ⟨16, ⟨some 77, .load false 1 (.t 76), none, [15]⟩⟩,
     ⟨11, ⟨some 72, .mv (.t 7), none, []⟩⟩,
     ⟨12, ⟨some 73, .nilchk (.t 72), none, [11]⟩⟩,
     ⟨13, ⟨some 74, .fa 1 (.t 73), none, [12, 11]⟩⟩,
     ⟨14, ⟨some 75, .load false 1 (.t 74), none, [13, 12, 11]⟩⟩,
     ⟨17, ⟨some 78, .bin .add (.t 75) (.t 77), none, [14, 16, 13, 12, 11, 15]⟩⟩,
     ⟨20, ⟨some 81, .bin .sub (.t 78) (.t 80), none, [17, 19, 14, 16, 13, 12, 11, 15, 18]⟩⟩,
     ⟨8, ⟨some 69, .fa 1 (.t 10), none, []⟩⟩,
     ⟨9, ⟨some 70, .load false 1 (.t 69), none, [8]⟩⟩,
     ⟨5, ⟨some 66, .fa 0 (.t 9), none, []⟩⟩,
     ⟨6, ⟨some 67, .load false 1 (.t 66), none, [5]⟩⟩,
     ⟨1, ⟨some 62, .mv (.t 7), none, []⟩⟩,
     ⟨2, ⟨some 63, .nilchk (.t 62), none, [1]⟩⟩,
     ⟨3, ⟨some 64, .fa 0 (.t 63), none, [2, 1]⟩⟩,
     ⟨4, ⟨some 65, .load false 1 (.t 64), none, [3, 2, 1]⟩⟩,
     ⟨7, ⟨some 68, .bin .add (.t 65) (.t 67), none, [4, 6, 3, 2, 1, 5]⟩⟩,
     ⟨10, ⟨some 71, .bin .sub (.t 68) (.t 70), none, [7, 9, 4, 6, 3, 2, 1, 5, 8]⟩⟩,
     ⟨0, ⟨some 61, .mv (.t 8), none, []⟩⟩,
     ⟨21, ⟨some 82, .call 58 [.t 61, .t 71, .t 81], none, [0, 10, 20, 7, 9, 4, 6, 3, 2, 1, 5, 8, 17, 19, 14, 16, 13, 12, 11, 15, 18]⟩⟩,
     ⟨22, ⟨some 6, .mv (.t 82), none, [21, 0, 1, 2, 3, 4, 5, 6, 7, 8, 9, 10, 11, 12, 13, 14, 15, 16, 17, 18, 19, 20]⟩⟩]) <|
  .ret
abbrev n_ledger_step : Nat := 60
theorem b_ledger_step : bodyOf prog 60 [1000000] = some (c_ledger_step, [.t 6], 83) := by kernel_rfl

def c_ref30_account : ACode :=
  .seq (.region [
     ⟨some 1, .box 4 41 (.t 0), none, []⟩,
     ⟨some 2, .mv (.c (.int .i64 0)), none, []⟩] none) <|
  .seq (.region [
     ⟨some 4, .fa 2 (.t 1), none, []⟩,
     ⟨some 5, .load false 1 (.t 4), none, []⟩,
     ⟨some 6, .len (.t 5), none, []⟩,
     ⟨some 3, .mv (.t 6), none, []⟩] none) <|
  .seq (.seq (.region [
      ⟨some 7, .mv (.t 3), none, []⟩,
      ⟨some 8, .bin .lss (.t 7) (.c (.int .i64 1)), none, []⟩,
      ⟨some 9, .mv (.t 8), none, []⟩,
      ⟨some 10, .fa 3 (.t 1), some (9, false), []⟩,
      ⟨some 11, .load false 1 (.t 10), some (9, false), []⟩,
      ⟨some 12, .len (.t 11), some (9, false), []⟩,
      ⟨some 13, .mv (.t 3), some (9, false), []⟩,
      ⟨some 14, .bin .neq (.t 12) (.t 13), some (9, false), []⟩,
      ⟨some 15, .pick (.t 9) (.c (.bool true)) (.t 14), none, []⟩,
      ⟨some 16, .mv (.t 15), none, []⟩,
      ⟨some 17, .fa 1 (.t 1), some (16, false), []⟩,
      ⟨some 18, .load false 1 (.t 17), some (16, false), []⟩,
      ⟨some 19, .len (.t 18), some (16, false), []⟩,
      ⟨some 20, .mv (.t 3), some (16, false), []⟩,
      ⟨some 21, .bin .add (.t 20) (.c (.int .i64 1)), some (16, false), []⟩,
      ⟨some 22, .bin .neq (.t 19) (.t 21), some (16, false), []⟩,
      ⟨some 23, .pick (.t 16) (.c (.bool true)) (.t 22), none, []⟩] none) <|
   .cond (.t 23) (.seq (.region [
       ⟨some 2, .mv (.c (.int .i64 3)), none, []⟩] none) <|
    .ret) <|
   .skip) <|
  .seq (.seq (.region [
      ⟨some 24, .mv (.t 3), none, []⟩,
      ⟨some 25, .bin .gtr (.t 24) (.c (.int .i64 400)), none, []⟩] none) <|
   .cond (.t 25) (.seq (.region [
       ⟨some 2, .mv (.c (.int .i64 10)), none, []⟩] none) <|
    .ret) <|
   .skip) <|
  .seq (.seq (.region [
      ⟨some 26, .fa 0 (.t 1), none, []⟩,
      ⟨some 27, .load false 1 (.t 26), none, []⟩,
      ⟨some 28, .bin .lss (.t 27) (.c (.int .i64 0)), none, []⟩,
      ⟨some 29, .mv (.t 28), none, []⟩,
      ⟨some 30, .fa 0 (.t 1), some (29, false), []⟩,
      ⟨some 31, .load false 1 (.t 30), some (29, false), []⟩,
      ⟨some 32, .mv (.t 3), some (29, false), []⟩,
      ⟨some 33, .bin .sub (.c (.int .i64 16777216)) (.t 32), some (29, false), []⟩,
      ⟨some 34, .bin .gtr (.t 31) (.t 33), some (29, false), []⟩,
      ⟨some 35, .pick (.t 29) (.c (.bool true)) (.t 34), none, []⟩] none) <|
   .cond (.t 35) (.seq (.region [
       ⟨some 2, .mv (.c (.int .i64 6)), none, []⟩] none) <|
    .ret) <|
   .skip) <|
  .seq (.region [
     ⟨some 2, .mv (.c (.int .i64 0)), none, []⟩] none) <|
  .ret
abbrev n_ref30_account : Nat := 61
theorem b_ref30_account : bodyOf prog 61 [1000000] = some (c_ref30_account, [.t 2], 36) := by kernel_rfl

def c_slices_Equal__Bounds : ACode :=
  .seq (.region [
     ⟨some 4, .mv (.c (.bool false)), none, []⟩] none) <|
  .seq (.seq (.region [
      ⟨some 6, .mv (.t 0), none, []⟩,
      ⟨some 7, .len (.t 6), none, []⟩,
      ⟨some 8, .mv (.t 1), none, []⟩,
      ⟨some 9, .len (.t 8), none, []⟩,
      ⟨some 10, .bin .neq (.t 7) (.t 9), none, []⟩] none) <|
   .cond (.t 10) (.seq (.region [
       ⟨some 4, .mv (.c (.bool false)), none, []⟩] none) <|
    .ret) <|
   .skip) <|
  .seq (.seq (.region [
      ⟨some 11, .mv (.t 0), none, []⟩,
      ⟨some 12, .len (.t 11), none, []⟩,
      ⟨some 13, .mv (.c (.int .i64 0)), none, []⟩] none) <|
   .block 0 <|
   .loop <|
   .seq (.region [
      ⟨some 14, .bin .lss (.t 13) (.t 12), none, []⟩] none) <|
   .seq (.cond (.t 14) (.skip) <|
    .exit 0) <|
   .seq (.block 1 <|
    .seq (.region [
       ⟨some 15, .mv (.t 13), none, []⟩,
       ⟨some 5, .mv (.t 15), none, []⟩] none) <|
    .seq (.hregion [
       ⟨5, ⟨some 21, .mv (.t 5), none, []⟩⟩,
       ⟨4, ⟨some 20, .mv (.t 1), none, []⟩⟩,
       ⟨6, ⟨some 22, .ixs 2 (.t 20) (.t 21), none, [4, 5]⟩⟩,
       ⟨7, ⟨some 23, .load true 2 (.t 22), none, [6, 4, 5]⟩⟩,
       ⟨1, ⟨some 17, .mv (.t 5), none, []⟩⟩,
       ⟨0, ⟨some 16, .mv (.t 0), none, []⟩⟩,
       ⟨2, ⟨some 18, .ixs 2 (.t 16) (.t 17), none, [0, 1]⟩⟩,
       ⟨3, ⟨some 19, .load true 2 (.t 18), none, [2, 0, 1]⟩⟩,
       ⟨8, ⟨some 24, .eqs true [0, 0] (.t 19) (.t 23), none, [3, 7, 2, 0, 1, 6, 4, 5]⟩⟩]) <|
    .cond (.t 24) (.seq (.region [
        ⟨some 4, .mv (.c (.bool false)), none, []⟩] none) <|
     .ret) <|
    .skip) <|
   .region [
     ⟨some 25, .bin .add (.t 13) (.c (.int .i64 1)), none, []⟩,
     ⟨some 13, .mv (.t 25), none, []⟩] none) <|
  .seq (.region [
     ⟨some 4, .mv (.c (.bool true)), none, []⟩] none) <|
  .ret
abbrev n_slices_Equal__Bounds : Nat := 62
theorem b_slices_Equal__Bounds : bodyOf prog 62 [1000000] = some (c_slices_Equal__Bounds, [.t 4], 26) := by kernel_rfl

def c_ref30_Copy : ACode :=
  .seq (.region [
     ⟨some 1, .box 4 41 (.t 0), none, []⟩,
     ⟨some 2, .alloc 4 41 (.agg [.int .i64 0, .nil, .nil, .nil]), none, []⟩] none) <|
  .seq (.region [
     ⟨some 3, .fa 1 (.t 1), none, []⟩,
     ⟨some 4, .load false 1 (.t 3), none, []⟩,
     ⟨some 5, .app 2 16 35 (.c (.nil)) (.t 4), none, []⟩,
     ⟨some 6, .fa 1 (.t 1), none, []⟩,
     ⟨none, .store 1 (.t 6) (.t 5), none, []⟩] none) <|
  .seq (.region [
     ⟨some 7, .fa 2 (.t 1), none, []⟩,
     ⟨some 8, .load false 1 (.t 7), none, []⟩,
     ⟨some 9, .app 2 16 35 (.c (.nil)) (.t 8), none, []⟩,
     ⟨some 10, .fa 2 (.t 1), none, []⟩,
     ⟨none, .store 1 (.t 10) (.t 9), none, []⟩] none) <|
  .seq (.region [
     ⟨some 11, .fa 3 (.t 1), none, []⟩,
     ⟨some 12, .load false 1 (.t 11), none, []⟩,
     ⟨some 13, .app 2 16 35 (.c (.nil)) (.t 12), none, []⟩,
     ⟨some 14, .fa 3 (.t 1), none, []⟩,
     ⟨none, .store 1 (.t 14) (.t 13), none, []⟩] none) <|
  .seq (.region [
     ⟨some 15, .load true 4 (.t 1), none, []⟩,
     ⟨none, .store 4 (.t 2) (.t 15), none, []⟩] none) <|
  .ret
abbrev n_ref30_Copy : Nat := 63
theorem b_ref30_Copy : bodyOf prog 63 [1000000] = some (c_ref30_Copy, [.c 2 true 4], 16) := by kernel_rfl

def c_slices_rotateRight__Report : ACode :=
  .region [
    ⟨some 4, .mv (.t 0), none, []⟩,
    ⟨some 5, .mv (.t 0), none, []⟩,
    ⟨some 6, .len (.t 5), none, []⟩,
    ⟨some 7, .mv (.t 1), none, []⟩,
    ⟨some 8, .bin .sub (.t 6) (.t 7), none, []⟩,
    ⟨some 9, .call 68 [.t 4, .t 8], none, []⟩] none
abbrev n_slices_rotateRight__Report : Nat := 65
theorem b_slices_rotateRight__Report : bodyOf prog 65 [1000000] = some (c_slices_rotateRight__Report, [], 10) := by kernel_rfl

def c_quantity_Meet : ACode :=
  .seq (.region [
     ⟨some 2, .box 2 35 (.t 0), none, []⟩,
     ⟨some 3, .box 2 35 (.t 1), none, []⟩,
     ⟨some 4, .alloc 2 35 (.agg [.int .i64 0, .int .i64 0]), none, []⟩,
     ⟨some 5, .mv (.c (.bool false)), none, []⟩] none) <|
  .seq (.region [
     ⟨some 7, .fa 0 (.t 2), none, []⟩,
     ⟨some 8, .load false 1 (.t 7), none, []⟩,
     ⟨some 9, .fa 0 (.t 3), none, []⟩,
     ⟨some 10, .load false 1 (.t 9), none, []⟩,
     ⟨some 11, .mnx true (.t 8) [.t 10], none, []⟩,
     ⟨some 12, .fa 1 (.t 2), none, []⟩,
     ⟨some 13, .load false 1 (.t 12), none, []⟩,
     ⟨some 14, .fa 1 (.t 3), none, []⟩,
     ⟨some 15, .load false 1 (.t 14), none, []⟩,
     ⟨some 16, .mnx false (.t 13) [.t 15], none, []⟩,
     ⟨some 17, .build [.int .i64 0, .int .i64 0] [(0, 1, .t 11), (1, 1, .t 16)], none, []⟩,
     ⟨some 6, .alloc 2 35 (.agg [.int .i64 0, .int .i64 0]), none, []⟩,
     ⟨none, .store 2 (.t 6) (.t 17), none, []⟩] none) <|
  .seq (.seq (.region [
      ⟨some 18, .fa 0 (.t 2), none, []⟩,
      ⟨some 19, .load false 1 (.t 18), none, []⟩,
      ⟨some 20, .fa 1 (.t 2), none, []⟩,
      ⟨some 21, .load false 1 (.t 20), none, []⟩,
      ⟨some 22, .bin .gtr (.t 19) (.t 21), none, []⟩,
      ⟨some 23, .mv (.t 22), none, []⟩,
      ⟨some 24, .fa 0 (.t 3), some (23, false), []⟩,
      ⟨some 25, .load false 1 (.t 24), some (23, false), []⟩,
      ⟨some 26, .fa 1 (.t 3), some (23, false), []⟩,
      ⟨some 27, .load false 1 (.t 26), some (23, false), []⟩,
      ⟨some 28, .bin .gtr (.t 25) (.t 27), some (23, false), []⟩,
      ⟨some 29, .pick (.t 23) (.c (.bool true)) (.t 28), none, []⟩,
      ⟨some 30, .mv (.t 29), none, []⟩,
      ⟨some 31, .fa 0 (.t 6), some (30, false), []⟩,
      ⟨some 32, .load false 1 (.t 31), some (30, false), []⟩,
      ⟨some 33, .fa 1 (.t 6), some (30, false), []⟩,
      ⟨some 34, .load false 1 (.t 33), some (30, false), []⟩,
      ⟨some 35, .bin .gtr (.t 32) (.t 34), some (30, false), []⟩,
      ⟨some 36, .pick (.t 30) (.c (.bool true)) (.t 35), none, []⟩] none) <|
   .cond (.t 36) (.seq (.region [
       ⟨some 37, .build [.int .i64 0, .int .i64 0] [], none, []⟩,
       ⟨none, .store 2 (.t 4) (.t 37), none, []⟩,
       ⟨some 5, .mv (.c (.bool false)), none, []⟩] none) <|
    .ret) <|
   .skip) <|
  .seq (.region [
     ⟨some 38, .load true 2 (.t 6), none, []⟩,
     ⟨none, .store 2 (.t 4) (.t 38), none, []⟩,
     ⟨some 5, .mv (.c (.bool true)), none, []⟩] none) <|
  .ret
abbrev n_quantity_Meet : Nat := 66
theorem b_quantity_Meet : bodyOf prog 66 [] = some (c_quantity_Meet, [.c 4 true 2, .t 5], 39) := by kernel_rfl

def c_ledger_steps_1 : ACode :=
  .seq (.region [
     ⟨some 6, .load false 1 (.t 1), none, []⟩,
     ⟨some 7, .mv (.c (.int .i64 0)), none, []⟩] none) <|
  .block 0 <|
  .loop <|
  .seq (.region [
     ⟨some 8, .bin .lss (.t 7) (.t 6), none, []⟩] none) <|
  .seq (.cond (.t 8) (.skip) <|
   .exit 0) <|
  .seq (.block 1 <|
   .seq (.region [
      ⟨some 9, .mv (.t 7), none, []⟩,
      ⟨some 4, .mv (.t 9), none, []⟩] none) <|
   .seq (.region [
      ⟨some 10, .mv (.t 4), none, []⟩,
      ⟨some 5, .mv (.t 10), none, []⟩] none) <|
   .seq (.seq (.region [
       ⟨some 11, .load false 1 (.t 2), none, []⟩] none) <|
    .cond (.t 11) (.region [
       ⟨some 12, .load false 1 (.t 1), none, []⟩,
       ⟨some 13, .bin .sub (.t 12) (.c (.int .i64 1)), none, []⟩,
       ⟨some 14, .mv (.t 4), none, []⟩,
       ⟨some 15, .bin .sub (.t 13) (.t 14), none, []⟩,
       ⟨some 5, .mv (.t 15), none, []⟩] none) <|
    .skip) <|
   .seq (.region [
      ⟨some 16, .mv (.t 0), none, []⟩,
      ⟨some 17, .mv (.t 5), none, []⟩,
      ⟨some 18, .callv (.t 16) [.t 17], none, []⟩,
      ⟨some 19, .un .not (.t 18), none, []⟩] none) <|
   .cond (.t 19) (.ret) <|
   .skip) <|
  .region [
    ⟨some 20, .bin .add (.t 7) (.c (.int .i64 1)), none, []⟩,
    ⟨some 7, .mv (.t 20), none, []⟩] none
abbrev n_ledger_steps_1 : Nat := 67
theorem b_ledger_steps_1 : bodyOf prog 67 [1000000] = some (c_ledger_steps_1, [], 21) := by kernel_rfl

def c_slices_rotateLeft__Report : ACode :=
  .seq (.region [
     ⟨some 4, .mv (.t 0), none, []⟩,
     ⟨some 5, .mv (.t 1), none, []⟩,
     ⟨some 6, .slc 6 (.t 4) none (some (.t 5)), none, []⟩,
     ⟨some 7, .call 69 [.t 6], none, []⟩] none) <|
  .seq (.region [
     ⟨some 8, .mv (.t 0), none, []⟩,
     ⟨some 9, .mv (.t 1), none, []⟩,
     ⟨some 10, .slc 6 (.t 8) (some (.t 9)) none, none, []⟩,
     ⟨some 11, .call 69 [.t 10], none, []⟩] none) <|
  .region [
    ⟨some 12, .mv (.t 0), none, []⟩,
    ⟨some 13, .call 69 [.t 12], none, []⟩] none
abbrev n_slices_rotateLeft__Report : Nat := 68
theorem b_slices_rotateLeft__Report : bodyOf prog 68 [1000000] = some (c_slices_rotateLeft__Report, [], 14) := by kernel_rfl

def c_slices_Reverse__Report : ACode :=
  .seq (.region [
     ⟨some 4, .mv (.t 0), none, []⟩,
     ⟨some 5, .len (.t 4), none, []⟩,
     ⟨some 6, .bin .sub (.t 5) (.c (.int .i64 1)), none, []⟩,
     ⟨some 2, .mv (.c (.int .i64 0)), none, []⟩,
     ⟨some 3, .mv (.t 6), none, []⟩] none) <|
  .block 0 <|
  .loop <|
  .seq (.seq (.region [
      ⟨some 7, .mv (.t 2), none, []⟩,
      ⟨some 8, .mv (.t 3), none, []⟩,
      ⟨some 9, .bin .lss (.t 7) (.t 8), none, []⟩] none) <|
   .cond (.t 9) (.skip) <|
   .exit 0) <|
  .seq (.block 1 <|
   .hregion [
     ⟨9, ⟨some 23, .mv (.t 2), none, []⟩⟩,
     ⟨8, ⟨some 22, .mv (.t 0), none, []⟩⟩,
     ⟨10, ⟨some 24, .ixs 6 (.t 22) (.t 23), none, [8, 9]⟩⟩,
     ⟨11, ⟨some 25, .load true 6 (.t 24), none, [10, 8, 9]⟩⟩,
     ⟨5, ⟨some 19, .mv (.t 3), none, []⟩⟩,
     ⟨4, ⟨some 18, .mv (.t 0), none, []⟩⟩,
     ⟨6, ⟨some 20, .ixs 6 (.t 18) (.t 19), none, [4, 5]⟩⟩,
     ⟨7, ⟨some 21, .load true 6 (.t 20), none, [6, 4, 5]⟩⟩,
     ⟨3, ⟨some 17, .mv (.t 3), none, []⟩⟩,
     ⟨2, ⟨some 16, .mv (.t 0), none, []⟩⟩,
     ⟨1, ⟨some 15, .mv (.t 2), none, []⟩⟩,
     ⟨0, ⟨some 14, .mv (.t 0), none, []⟩⟩,
     ⟨12, ⟨some 26, .ixs 6 (.t 14) (.t 15), none, [0, 1, 4, 5, 6, 7, 11, 10, 8, 9]⟩⟩,
     ⟨13, ⟨none, .store 6 (.t 26) (.t 21), none, [12, 7, 0, 1, 4, 5, 6, 11, 10, 8, 9]⟩⟩,
     ⟨14, ⟨some 27, .ixs 6 (.t 16) (.t 17), none, [2, 3, 0, 1, 4, 5, 6, 7, 8, 9, 10, 11, 12, 13]⟩⟩,
     ⟨15, ⟨none, .store 6 (.t 27) (.t 25), none, [14, 11, 13, 0, 1, 2, 3, 4, 5, 6, 7, 8, 9, 10, 12]⟩⟩]) <|
  .region [
    ⟨some 10, .mv (.t 2), none, []⟩,
    ⟨some 11, .bin .add (.t 10) (.c (.int .i64 1)), none, []⟩,
    ⟨some 12, .mv (.t 3), none, []⟩,
    ⟨some 13, .bin .sub (.t 12) (.c (.int .i64 1)), none, []⟩,
    ⟨some 2, .mv (.t 11), none, []⟩,
    ⟨some 3, .mv (.t 13), none, []⟩] none
abbrev n_slices_Reverse__Report : Nat := 69
theorem b_slices_Reverse__Report : bodyOf prog 69 [1000000] = some (c_slices_Reverse__Report, [], 28) := by kernel_rfl

end Go.Proofs.Try
