/-
  WRITTEN BY A PROGRAM OF OURS (tools/seat.py): the code of the functions of this seat, each checked by the kernel against the model.
-/
import Derived.Test.YtfkkhdbmignmaaaBaseS
import Derived.Test.YtfkkhdbmignmaaaProg
import Derived.KernelRfl
namespace Go.Proofs.Try
open Go.Ab
def c_law21_RampMirrors : ACode :=
  .seq (.region [
     ⟨some 8, .mv (.c (.bool false)), none, []⟩] none) <|
  .seq (.region [
     ⟨some 23, .mv (.t 0), none, []⟩,
     ⟨some 24, .call 8 [.t 23, .c (.int .i64 60)], none, []⟩,
     ⟨some 25, .mv (.t 1), none, []⟩,
     ⟨some 26, .call 8 [.t 25, .c (.int .i64 60)], none, []⟩,
     ⟨some 27, .mv (.t 2), none, []⟩,
     ⟨some 28, .call 8 [.t 27, .c (.int .i64 9)], none, []⟩,
     ⟨some 9, .mv (.t 24), none, []⟩,
     ⟨some 10, .mv (.t 26), none, []⟩,
     ⟨some 11, .mv (.t 28), none, []⟩] none) <|
  .seq (.region [
     ⟨some 30, .mv (.t 9), none, []⟩,
     ⟨some 31, .mv (.t 10), none, []⟩,
     ⟨some 32, .mv (.t 11), none, []⟩,
     ⟨some 33, .mv (.t 11), none, []⟩,
     ⟨some 34, .call 9 [.t 30, .t 31, .t 32, .t 33], none, []⟩,
     ⟨some 29, .mv (.t 34), none, []⟩,
     ⟨some 35, .ext (.t 29) 0, none, []⟩,
     ⟨some 36, .ext (.t 29) 1, none, []⟩,
     ⟨some 37, .ext (.t 29) 2, none, []⟩,
     ⟨some 12, .mv (.t 35), none, []⟩,
     ⟨some 13, .mv (.t 36), none, []⟩,
     ⟨some 14, .mv (.t 37), none, []⟩] none) <|
  .seq (.region [
     ⟨some 39, .mv (.t 10), none, []⟩,
     ⟨some 40, .mv (.t 9), none, []⟩,
     ⟨some 41, .mv (.t 11), none, []⟩,
     ⟨some 42, .mv (.t 11), none, []⟩,
     ⟨some 43, .call 9 [.t 39, .t 40, .t 41, .t 42], none, []⟩,
     ⟨some 38, .mv (.t 43), none, []⟩,
     ⟨some 44, .ext (.t 38) 0, none, []⟩,
     ⟨some 45, .ext (.t 38) 1, none, []⟩,
     ⟨some 46, .ext (.t 38) 2, none, []⟩,
     ⟨some 15, .mv (.t 44), none, []⟩,
     ⟨some 16, .mv (.t 45), none, []⟩,
     ⟨some 17, .mv (.t 46), none, []⟩] none) <|
  .seq (.region [
     ⟨some 48, .mv (.t 9), none, []⟩,
     ⟨some 49, .mv (.t 10), none, []⟩,
     ⟨some 50, .mv (.t 11), none, []⟩,
     ⟨some 51, .mv (.t 11), none, []⟩,
     ⟨some 52, .bin .add (.t 51) (.c (.int .i64 1)), none, []⟩,
     ⟨some 53, .call 10 [.t 48, .t 49, .t 50, .t 52, .c (.int .i64 9)], none, []⟩,
     ⟨some 47, .mv (.t 53), none, []⟩,
     ⟨some 54, .ext (.t 47) 0, none, []⟩,
     ⟨some 55, .ext (.t 47) 1, none, []⟩,
     ⟨some 18, .mv (.t 54), none, []⟩,
     ⟨some 19, .mv (.t 55), none, []⟩] none) <|
  .seq (.seq (.region [
      ⟨some 56, .mv (.t 14), none, []⟩,
      ⟨some 57, .mv (.t 17), none, []⟩,
      ⟨some 58, .bin .add (.t 56) (.t 57), none, []⟩,
      ⟨some 59, .mv (.t 19), none, []⟩,
      ⟨some 60, .bin .add (.t 58) (.t 59), none, []⟩,
      ⟨some 61, .bin .neq (.t 60) (.c (.int .i64 0)), none, []⟩,
      ⟨some 62, .mv (.t 61), none, []⟩,
      ⟨some 63, .mv (.t 12), some (62, false), []⟩,
      ⟨some 64, .mv (.t 15), some (62, false), []⟩,
      ⟨some 65, .bin .neq (.t 63) (.t 64), some (62, false), []⟩,
      ⟨some 66, .pick (.t 62) (.c (.bool true)) (.t 65), none, []⟩,
      ⟨some 67, .mv (.t 66), none, []⟩,
      ⟨some 68, .mv (.t 13), some (67, false), []⟩,
      ⟨some 69, .mv (.t 16), some (67, false), []⟩,
      ⟨some 70, .eqb true (.t 68) (.t 69), some (67, false), []⟩,
      ⟨some 71, .pick (.t 67) (.c (.bool true)) (.t 70), none, []⟩,
      ⟨some 72, .mv (.t 71), none, []⟩,
      ⟨some 73, .mv (.t 18), some (72, false), []⟩,
      ⟨some 74, .len (.t 73), some (72, false), []⟩,
      ⟨some 75, .bin .neq (.t 74) (.c (.int .i64 9)), some (72, false), []⟩,
      ⟨some 76, .pick (.t 72) (.c (.bool true)) (.t 75), none, []⟩] none) <|
   .cond (.t 76) (.seq (.region [
       ⟨some 8, .mv (.c (.bool false)), none, []⟩] none) <|
    .ret) <|
   .skip) <|
  .seq (.region [
     ⟨some 77, .mv (.t 3), none, []⟩,
     ⟨some 78, .call 8 [.t 77, .c (.int .i64 9)], none, []⟩,
     ⟨some 20, .mv (.t 78), none, []⟩] none) <|
  .seq (.region [
     ⟨some 80, .mv (.t 18), none, []⟩,
     ⟨some 81, .mv (.t 20), none, []⟩,
     ⟨some 82, .ixs 1 (.t 80) (.t 81), none, []⟩,
     ⟨some 83, .load false 1 (.t 82), none, []⟩,
     ⟨some 84, .mv (.t 10), none, []⟩,
     ⟨some 85, .mv (.t 11), none, []⟩,
     ⟨some 86, .mv (.t 11), none, []⟩,
     ⟨some 87, .bin .add (.t 86) (.c (.int .i64 1)), none, []⟩,
     ⟨some 88, .mv (.t 20), none, []⟩,
     ⟨some 89, .bin .sub (.c (.int .i64 8)) (.t 88), none, []⟩,
     ⟨some 90, .call 10 [.t 83, .t 84, .t 85, .t 87, .t 89], none, []⟩,
     ⟨some 79, .mv (.t 90), none, []⟩,
     ⟨some 91, .ext (.t 79) 0, none, []⟩,
     ⟨some 92, .ext (.t 79) 1, none, []⟩,
     ⟨some 21, .mv (.t 91), none, []⟩,
     ⟨some 22, .mv (.t 92), none, []⟩] none) <|
  .seq (.region [
     ⟨some 93, .mv (.t 22), none, []⟩,
     ⟨some 94, .bin .eql (.t 93) (.c (.int .i64 0)), none, []⟩,
     ⟨some 95, .mv (.t 94), none, []⟩,
     ⟨some 96, .mv (.t 21), some (95, true), []⟩,
     ⟨some 97, .mv (.t 18), some (95, true), []⟩,
     ⟨some 98, .mv (.t 20), some (95, true), []⟩,
     ⟨some 99, .bin .add (.t 98) (.c (.int .i64 1)), some (95, true), []⟩,
     ⟨some 100, .slc 1 (.t 97) (some (.t 99)) none, some (95, true), []⟩,
     ⟨some 101, .call 11 [.t 96, .t 100], some (95, true), []⟩,
     ⟨some 102, .pick (.t 95) (.t 101) (.c (.bool false)), none, []⟩,
     ⟨some 103, .mv (.t 102), none, []⟩,
     ⟨some 104, .call 12 [], some (103, true), []⟩,
     ⟨some 105, .pick (.t 103) (.t 104) (.c (.bool false)), none, []⟩,
     ⟨some 8, .mv (.t 105), none, []⟩] none) <|
  .ret
abbrev n_law21_RampMirrors : Nat := 3
theorem b_law21_RampMirrors : bodyOf prog 3 [] = some (c_law21_RampMirrors, [.t 8], 106) := by kernel_rfl

def c_law21_RampArrives : ACode :=
  .seq (.region [
     ⟨some 8, .mv (.c (.bool false)), none, []⟩] none) <|
  .seq (.region [
     ⟨some 26, .mv (.t 0), none, []⟩,
     ⟨some 27, .call 8 [.t 26, .c (.int .i64 60)], none, []⟩,
     ⟨some 28, .mv (.t 1), none, []⟩,
     ⟨some 29, .call 8 [.t 28, .c (.int .i64 60)], none, []⟩,
     ⟨some 30, .mv (.t 2), none, []⟩,
     ⟨some 31, .call 8 [.t 30, .c (.int .i64 9)], none, []⟩,
     ⟨some 32, .mv (.t 3), none, []⟩,
     ⟨some 33, .call 8 [.t 32, .c (.int .i64 9)], none, []⟩,
     ⟨some 9, .mv (.t 27), none, []⟩,
     ⟨some 10, .mv (.t 29), none, []⟩,
     ⟨some 11, .mv (.t 31), none, []⟩,
     ⟨some 12, .mv (.t 33), none, []⟩] none) <|
  .seq (.region [
     ⟨some 35, .mv (.t 9), none, []⟩,
     ⟨some 36, .mv (.t 10), none, []⟩,
     ⟨some 37, .mv (.t 11), none, []⟩,
     ⟨some 38, .mv (.t 12), none, []⟩,
     ⟨some 39, .call 9 [.t 35, .t 36, .t 37, .t 38], none, []⟩,
     ⟨some 34, .mv (.t 39), none, []⟩,
     ⟨some 40, .ext (.t 34) 0, none, []⟩,
     ⟨some 41, .ext (.t 34) 1, none, []⟩,
     ⟨some 42, .ext (.t 34) 2, none, []⟩,
     ⟨some 13, .mv (.t 40), none, []⟩,
     ⟨some 14, .mv (.t 41), none, []⟩,
     ⟨some 15, .mv (.t 42), none, []⟩] none) <|
  .seq (.seq (.region [
      ⟨some 43, .mv (.t 15), none, []⟩,
      ⟨some 44, .bin .neq (.t 43) (.c (.int .i64 0)), none, []⟩] none) <|
   .cond (.t 44) (.seq (.region [
       ⟨some 8, .mv (.c (.bool false)), none, []⟩] none) <|
    .ret) <|
   .skip) <|
  .seq (.seq (.region [
      ⟨some 45, .mv (.t 14), none, []⟩,
      ⟨some 46, .un .not (.t 45), none, []⟩] none) <|
   .cond (.t 46) (.seq (.region [
       ⟨some 48, .mv (.t 9), none, []⟩,
       ⟨some 49, .mv (.t 10), none, []⟩,
       ⟨some 50, .mv (.t 11), none, []⟩,
       ⟨some 51, .mv (.t 12), none, []⟩,
       ⟨some 52, .call 10 [.t 48, .t 49, .t 50, .t 51, .c (.int .i64 5)], none, []⟩,
       ⟨some 47, .mv (.t 52), none, []⟩,
       ⟨some 53, .ext (.t 47) 0, none, []⟩,
       ⟨some 54, .ext (.t 47) 1, none, []⟩,
       ⟨some 16, .mv (.t 53), none, []⟩,
       ⟨some 17, .mv (.t 54), none, []⟩] none) <|
    .seq (.region [
       ⟨some 55, .mv (.t 17), none, []⟩,
       ⟨some 56, .bin .eql (.t 55) (.c (.int .i64 0)), none, []⟩,
       ⟨some 57, .mv (.t 56), none, []⟩,
       ⟨some 58, .mv (.t 16), some (57, true), []⟩,
       ⟨some 59, .mv (.t 9), some (57, true), []⟩,
       ⟨some 60, .mv (.t 9), some (57, true), []⟩,
       ⟨some 61, .mv (.t 9), some (57, true), []⟩,
       ⟨some 62, .mv (.t 9), some (57, true), []⟩,
       ⟨some 63, .mv (.t 9), some (57, true), []⟩,
       ⟨some 64, .lit false 1 3 [.t 59, .t 60, .t 61, .t 62, .t 63], some (57, true), []⟩,
       ⟨some 65, .call 11 [.t 58, .t 64], some (57, true), []⟩,
       ⟨some 66, .pick (.t 57) (.t 65) (.c (.bool false)), none, []⟩,
       ⟨some 67, .mv (.t 66), none, []⟩,
       ⟨some 68, .mv (.t 13), some (67, true), []⟩,
       ⟨some 69, .bin .eql (.t 68) (.c (.int .i64 0)), some (67, true), []⟩,
       ⟨some 70, .pick (.t 67) (.t 69) (.c (.bool false)), none, []⟩,
       ⟨some 71, .mv (.t 70), none, []⟩,
       ⟨some 72, .call 12 [], some (71, true), []⟩,
       ⟨some 73, .pick (.t 71) (.t 72) (.c (.bool false)), none, []⟩,
       ⟨some 8, .mv (.t 73), none, []⟩] none) <|
    .ret) <|
   .skip) <|
  .seq (.region [
     ⟨some 75, .mv (.t 9), none, []⟩,
     ⟨some 76, .mv (.t 10), none, []⟩,
     ⟨some 77, .mv (.t 11), none, []⟩,
     ⟨some 78, .mv (.t 12), none, []⟩,
     ⟨some 79, .mv (.t 13), none, []⟩,
     ⟨some 80, .bin .add (.t 79) (.c (.int .i64 3)), none, []⟩,
     ⟨some 81, .call 10 [.t 75, .t 76, .t 77, .t 78, .t 80], none, []⟩,
     ⟨some 74, .mv (.t 81), none, []⟩,
     ⟨some 82, .ext (.t 74) 0, none, []⟩,
     ⟨some 83, .ext (.t 74) 1, none, []⟩,
     ⟨some 18, .mv (.t 82), none, []⟩,
     ⟨some 19, .mv (.t 83), none, []⟩] none) <|
  .seq (.region [
     ⟨some 85, .mv (.t 18), none, []⟩,
     ⟨some 86, .mv (.t 9), none, []⟩,
     ⟨some 87, .mv (.t 11), none, []⟩,
     ⟨some 88, .mv (.t 12), none, []⟩,
     ⟨some 89, .call 13 [.t 85, .t 86, .t 87, .t 88], none, []⟩,
     ⟨some 84, .mv (.t 89), none, []⟩,
     ⟨some 90, .ext (.t 84) 0, none, []⟩,
     ⟨some 91, .ext (.t 84) 1, none, []⟩,
     ⟨some 20, .mv (.t 90), none, []⟩,
     ⟨some 21, .mv (.t 91), none, []⟩] none) <|
  .seq (.seq (.region [
      ⟨some 92, .mv (.t 19), none, []⟩,
      ⟨some 93, .bin .neq (.t 92) (.c (.int .i64 0)), none, []⟩,
      ⟨some 94, .mv (.t 93), none, []⟩,
      ⟨some 95, .mv (.t 21), some (94, false), []⟩,
      ⟨some 96, .un .not (.t 95), some (94, false), []⟩,
      ⟨some 97, .pick (.t 94) (.c (.bool true)) (.t 96), none, []⟩,
      ⟨some 98, .mv (.t 97), none, []⟩,
      ⟨some 99, .mv (.t 18), some (98, false), []⟩,
      ⟨some 100, .len (.t 99), some (98, false), []⟩,
      ⟨some 101, .mv (.t 13), some (98, false), []⟩,
      ⟨some 102, .bin .add (.t 101) (.c (.int .i64 3)), some (98, false), []⟩,
      ⟨some 103, .bin .neq (.t 100) (.t 102), some (98, false), []⟩,
      ⟨some 104, .pick (.t 98) (.c (.bool true)) (.t 103), none, []⟩,
      ⟨some 105, .mv (.t 104), none, []⟩,
      ⟨some 106, .mv (.t 13), some (105, false), []⟩,
      ⟨some 107, .bin .gtr (.t 106) (.c (.int .i64 60)), some (105, false), []⟩,
      ⟨some 108, .pick (.t 105) (.c (.bool true)) (.t 107), none, []⟩] none) <|
   .cond (.t 108) (.seq (.region [
       ⟨some 8, .mv (.c (.bool false)), none, []⟩] none) <|
    .ret) <|
   .skip) <|
  .seq (.seq (.region [
      ⟨some 109, .mv (.t 18), none, []⟩,
      ⟨some 110, .len (.t 109), none, []⟩,
      ⟨some 111, .mv (.c (.int .i64 0)), none, []⟩] none) <|
   .block 0 <|
   .loop <|
   .seq (.region [
      ⟨some 112, .bin .lss (.t 111) (.t 110), none, []⟩] none) <|
   .seq (.cond (.t 112) (.skip) <|
    .exit 0) <|
   .seq (.block 1 <|
    .seq (.region [
       ⟨some 113, .mv (.t 111), none, []⟩,
       ⟨some 114, .ixs 1 (.t 109) (.t 111), none, []⟩,
       ⟨some 115, .load false 1 (.t 114), none, []⟩,
       ⟨some 22, .mv (.t 113), none, []⟩,
       ⟨some 23, .mv (.t 115), none, []⟩] none) <|
    .seq (.region [
       ⟨some 117, .mv (.t 9), none, []⟩,
       ⟨some 118, .mv (.t 11), none, []⟩,
       ⟨some 119, .mv (.t 12), none, []⟩,
       ⟨some 120, .mv (.t 22), none, []⟩,
       ⟨some 121, .bin .add (.t 120) (.c (.int .i64 1)), none, []⟩,
       ⟨some 122, .call 14 [.t 117, .t 118, .t 119, .t 121], none, []⟩,
       ⟨some 116, .mv (.t 122), none, []⟩,
       ⟨some 123, .ext (.t 116) 0, none, []⟩,
       ⟨some 124, .ext (.t 116) 1, none, []⟩,
       ⟨some 24, .alloc 2 35 (.agg [.int .i64 0, .int .i64 0]), none, []⟩,
       ⟨none, .store 2 (.t 24) (.t 123), none, []⟩,
       ⟨some 25, .mv (.t 124), none, []⟩] none) <|
    .seq (.region [
       ⟨some 125, .mv (.t 25), none, []⟩,
       ⟨some 126, .bin .neq (.t 125) (.c (.int .i64 0)), none, []⟩,
       ⟨some 127, .mv (.t 126), none, []⟩,
       ⟨some 128, .mv (.t 23), some (127, false), []⟩,
       ⟨some 129, .mv (.t 10), some (127, false), []⟩,
       ⟨some 130, .bin .eql (.t 128) (.t 129), some (127, false), []⟩,
       ⟨some 131, .mv (.t 22), some (127, false), []⟩,
       ⟨some 132, .bin .add (.t 131) (.c (.int .i64 1)), some (127, false), []⟩,
       ⟨some 133, .mv (.t 13), some (127, false), []⟩,
       ⟨some 134, .bin .geq (.t 132) (.t 133), some (127, false), []⟩,
       ⟨some 135, .eqb true (.t 130) (.t 134), some (127, false), []⟩,
       ⟨some 136, .pick (.t 127) (.c (.bool true)) (.t 135), none, []⟩,
       ⟨some 137, .mv (.t 136), none, []⟩,
       ⟨some 138, .mv (.t 23), some (137, false), []⟩,
       ⟨some 139, .fa 0 (.t 24), some (137, false), []⟩,
       ⟨some 140, .load false 1 (.t 139), some (137, false), []⟩,
       ⟨some 141, .bin .lss (.t 138) (.t 140), some (137, false), []⟩,
       ⟨some 142, .pick (.t 137) (.c (.bool true)) (.t 141), none, []⟩,
       ⟨some 143, .mv (.t 142), none, []⟩,
       ⟨some 144, .mv (.t 23), some (143, false), []⟩,
       ⟨some 145, .fa 1 (.t 24), some (143, false), []⟩,
       ⟨some 146, .load false 1 (.t 145), some (143, false), []⟩,
       ⟨some 147, .bin .gtr (.t 144) (.t 146), some (143, false), []⟩,
       ⟨some 148, .pick (.t 143) (.c (.bool true)) (.t 147), none, []⟩] none) <|
    .cond (.t 148) (.seq (.region [
        ⟨some 8, .mv (.c (.bool false)), none, []⟩] none) <|
     .ret) <|
    .skip) <|
   .region [
     ⟨some 149, .bin .add (.t 111) (.c (.int .i64 1)), none, []⟩,
     ⟨some 111, .mv (.t 149), none, []⟩] none) <|
  .seq (.region [
     ⟨some 150, .call 12 [], none, []⟩,
     ⟨some 8, .mv (.t 150), none, []⟩] none) <|
  .ret
abbrev n_law21_RampArrives : Nat := 4
theorem b_law21_RampArrives : bodyOf prog 4 [] = some (c_law21_RampArrives, [.t 8], 151) := by kernel_rfl

def c_law21_RampSteps : ACode :=
  .seq (.region [
     ⟨some 8, .mv (.c (.bool false)), none, []⟩] none) <|
  .seq (.region [
     ⟨some 22, .mv (.t 1), none, []⟩,
     ⟨some 23, .call 8 [.t 22, .c (.int .i64 40)], none, []⟩,
     ⟨some 24, .mv (.t 2), none, []⟩,
     ⟨some 25, .call 8 [.t 24, .c (.int .i64 7)], none, []⟩,
     ⟨some 26, .mv (.t 3), none, []⟩,
     ⟨some 27, .call 8 [.t 26, .c (.int .i64 7)], none, []⟩,
     ⟨some 9, .mv (.t 23), none, []⟩,
     ⟨some 10, .mv (.t 25), none, []⟩,
     ⟨some 11, .mv (.t 27), none, []⟩] none) <|
  .seq (.region [
     ⟨some 28, .mv (.t 0), none, []⟩,
     ⟨some 29, .call 15 [.t 28], none, []⟩,
     ⟨some 12, .mv (.t 29), none, []⟩] none) <|
  .seq (.region [
     ⟨some 30, .mv (.t 9), none, []⟩,
     ⟨some 13, .mv (.t 30), none, []⟩] none) <|
  .seq (.region [
     ⟨some 14, .newsl 1 3, none, []⟩] none) <|
  .seq (.seq (.region [
      ⟨some 31, .mv (.c (.int .i64 0)), none, []⟩] none) <|
   .block 0 <|
   .loop <|
   .seq (.region [
      ⟨some 32, .bin .lss (.t 31) (.c (.int .i64 8)), none, []⟩] none) <|
   .seq (.cond (.t 32) (.skip) <|
    .exit 0) <|
   .seq (.block 1 <|
    .seq (.region [
       ⟨some 33, .mv (.t 13), none, []⟩,
       ⟨some 34, .mv (.t 12), none, []⟩,
       ⟨some 35, .mv (.t 10), none, []⟩,
       ⟨some 36, .mv (.t 11), none, []⟩,
       ⟨some 37, .bin .add (.t 35) (.t 36), none, []⟩,
       ⟨some 38, .bin .add (.t 37) (.c (.int .i64 1)), none, []⟩,
       ⟨some 39, .call 16 [.t 34, .t 38], none, []⟩,
       ⟨some 40, .bin .add (.t 33) (.t 39), none, []⟩,
       ⟨some 41, .mv (.t 11), none, []⟩,
       ⟨some 42, .bin .sub (.t 40) (.t 41), none, []⟩,
       ⟨some 43, .mnx true (.c (.int .i64 0)) [.t 42], none, []⟩,
       ⟨some 13, .mv (.t 43), none, []⟩] none) <|
    .seq (.region [
       ⟨some 44, .mv (.t 14), none, []⟩,
       ⟨some 45, .mv (.t 13), none, []⟩,
       ⟨some 46, .lit false 1 3 [.t 45], none, []⟩,
       ⟨some 47, .app 1 8 3 (.t 44) (.t 46), none, []⟩,
       ⟨some 14, .mv (.t 47), none, []⟩] none) <|
    .seq (.region [
       ⟨some 49, .mv (.t 9), none, []⟩,
       ⟨some 50, .mv (.t 13), none, []⟩,
       ⟨some 51, .mv (.t 10), none, []⟩,
       ⟨some 52, .mv (.t 11), none, []⟩,
       ⟨some 53, .call 9 [.t 49, .t 50, .t 51, .t 52], none, []⟩,
       ⟨some 48, .mv (.t 53), none, []⟩,
       ⟨some 54, .ext (.t 48) 0, none, []⟩,
       ⟨some 55, .ext (.t 48) 1, none, []⟩,
       ⟨some 56, .ext (.t 48) 2, none, []⟩,
       ⟨some 15, .mv (.t 54), none, []⟩,
       ⟨some 16, .mv (.t 55), none, []⟩,
       ⟨some 17, .mv (.t 56), none, []⟩] none) <|
    .seq (.region [
       ⟨some 58, .mv (.t 9), none, []⟩,
       ⟨some 59, .mv (.t 10), none, []⟩,
       ⟨some 60, .mv (.t 11), none, []⟩,
       ⟨some 61, .mv (.t 14), none, []⟩,
       ⟨some 62, .len (.t 61), none, []⟩,
       ⟨some 63, .call 14 [.t 58, .t 59, .t 60, .t 62], none, []⟩,
       ⟨some 57, .mv (.t 63), none, []⟩,
       ⟨some 64, .ext (.t 57) 0, none, []⟩,
       ⟨some 65, .ext (.t 57) 1, none, []⟩,
       ⟨some 18, .alloc 2 35 (.agg [.int .i64 0, .int .i64 0]), none, []⟩,
       ⟨none, .store 2 (.t 18) (.t 64), none, []⟩,
       ⟨some 19, .mv (.t 65), none, []⟩] none) <|
    .seq (.region [
       ⟨some 66, .mv (.t 17), none, []⟩,
       ⟨some 67, .bin .neq (.t 66) (.c (.int .i64 0)), none, []⟩,
       ⟨some 68, .mv (.t 67), none, []⟩,
       ⟨some 69, .mv (.t 19), some (68, false), []⟩,
       ⟨some 70, .bin .neq (.t 69) (.c (.int .i64 0)), some (68, false), []⟩,
       ⟨some 71, .pick (.t 68) (.c (.bool true)) (.t 70), none, []⟩,
       ⟨some 72, .mv (.t 71), none, []⟩,
       ⟨some 73, .mv (.t 16), some (72, false), []⟩,
       ⟨some 74, .un .not (.t 73), some (72, false), []⟩,
       ⟨some 75, .pick (.t 72) (.c (.bool true)) (.t 74), none, []⟩,
       ⟨some 76, .mv (.t 75), none, []⟩,
       ⟨some 77, .mv (.t 15), some (76, false), []⟩,
       ⟨some 78, .mv (.t 14), some (76, false), []⟩,
       ⟨some 79, .len (.t 78), some (76, false), []⟩,
       ⟨some 80, .bin .gtr (.t 77) (.t 79), some (76, false), []⟩,
       ⟨some 81, .pick (.t 76) (.c (.bool true)) (.t 80), none, []⟩,
       ⟨some 82, .mv (.t 81), none, []⟩,
       ⟨some 83, .mv (.t 13), some (82, false), []⟩,
       ⟨some 84, .fa 0 (.t 18), some (82, false), []⟩,
       ⟨some 85, .load false 1 (.t 84), some (82, false), []⟩,
       ⟨some 86, .bin .lss (.t 83) (.t 85), some (82, false), []⟩,
       ⟨some 87, .pick (.t 82) (.c (.bool true)) (.t 86), none, []⟩,
       ⟨some 88, .mv (.t 87), none, []⟩,
       ⟨some 89, .mv (.t 13), some (88, false), []⟩,
       ⟨some 90, .fa 1 (.t 18), some (88, false), []⟩,
       ⟨some 91, .load false 1 (.t 90), some (88, false), []⟩,
       ⟨some 92, .bin .gtr (.t 89) (.t 91), some (88, false), []⟩,
       ⟨some 93, .pick (.t 88) (.c (.bool true)) (.t 92), none, []⟩] none) <|
    .cond (.t 93) (.seq (.region [
        ⟨some 8, .mv (.c (.bool false)), none, []⟩] none) <|
     .ret) <|
    .skip) <|
   .region [
     ⟨some 94, .bin .add (.t 31) (.c (.int .i64 1)), none, []⟩,
     ⟨some 31, .mv (.t 94), none, []⟩] none) <|
  .seq (.region [
     ⟨some 96, .mv (.t 14), none, []⟩,
     ⟨some 97, .mv (.t 9), none, []⟩,
     ⟨some 98, .mv (.t 10), none, []⟩,
     ⟨some 99, .mv (.t 11), none, []⟩,
     ⟨some 100, .call 13 [.t 96, .t 97, .t 98, .t 99], none, []⟩,
     ⟨some 95, .mv (.t 100), none, []⟩,
     ⟨some 101, .ext (.t 95) 0, none, []⟩,
     ⟨some 102, .ext (.t 95) 1, none, []⟩,
     ⟨some 20, .mv (.t 101), none, []⟩,
     ⟨some 21, .mv (.t 102), none, []⟩] none) <|
  .seq (.region [
     ⟨some 103, .mv (.t 21), none, []⟩,
     ⟨some 104, .mv (.t 103), none, []⟩,
     ⟨some 105, .call 12 [], some (104, true), []⟩,
     ⟨some 106, .pick (.t 104) (.t 105) (.c (.bool false)), none, []⟩,
     ⟨some 8, .mv (.t 106), none, []⟩] none) <|
  .ret
abbrev n_law21_RampSteps : Nat := 5
theorem b_law21_RampSteps : bodyOf prog 5 [14] = some (c_law21_RampSteps, [.t 8], 107) := by kernel_rfl

def c_law21_RampLatest : ACode :=
  .seq (.region [
     ⟨some 8, .mv (.c (.bool false)), none, []⟩] none) <|
  .seq (.region [
     ⟨some 33, .mv (.t 0), none, []⟩,
     ⟨some 34, .call 15 [.t 33], none, []⟩,
     ⟨some 9, .mv (.t 34), none, []⟩] none) <|
  .seq (.region [
     ⟨some 35, .mv (.t 1), none, []⟩,
     ⟨some 36, .call 8 [.t 35, .c (.int .i64 40)], none, []⟩,
     ⟨some 37, .mv (.t 2), none, []⟩,
     ⟨some 38, .call 8 [.t 37, .c (.int .i64 9)], none, []⟩,
     ⟨some 39, .mv (.t 3), none, []⟩,
     ⟨some 40, .call 8 [.t 39, .c (.int .i64 9)], none, []⟩,
     ⟨some 10, .mv (.t 36), none, []⟩,
     ⟨some 11, .mv (.t 38), none, []⟩,
     ⟨some 12, .mv (.t 40), none, []⟩] none) <|
  .seq (.region [
     ⟨some 41, .mv (.t 9), none, []⟩,
     ⟨some 42, .call 17 [.t 41], none, []⟩,
     ⟨some 13, .mv (.t 42), none, []⟩] none) <|
  .seq (.region [
     ⟨some 44, .mv (.t 10), none, []⟩,
     ⟨some 45, .mv (.t 13), none, []⟩,
     ⟨some 46, .mv (.t 11), none, []⟩,
     ⟨some 47, .mv (.t 12), none, []⟩,
     ⟨some 48, .call 18 [.t 44, .t 45, .t 46, .t 47], none, []⟩,
     ⟨some 43, .mv (.t 48), none, []⟩,
     ⟨some 49, .ext (.t 43) 0, none, []⟩,
     ⟨some 50, .ext (.t 43) 1, none, []⟩,
     ⟨some 51, .ext (.t 43) 2, none, []⟩,
     ⟨some 14, .mv (.t 49), none, []⟩,
     ⟨some 15, .mv (.t 50), none, []⟩,
     ⟨some 16, .mv (.t 51), none, []⟩] none) <|
  .seq (.seq (.region [
      ⟨some 52, .mv (.t 16), none, []⟩,
      ⟨some 53, .bin .neq (.t 52) (.c (.int .i64 0)), none, []⟩] none) <|
   .cond (.t 53) (.seq (.region [
       ⟨some 8, .mv (.c (.bool false)), none, []⟩] none) <|
    .ret) <|
   .skip) <|
  .seq (.seq (.region [
      ⟨some 54, .mv (.t 15), none, []⟩] none) <|
   .cond (.t 54) (.seq (.region [
       ⟨some 55, .mv (.t 10), none, []⟩,
       ⟨some 56, .mv (.t 10), none, []⟩,
       ⟨some 57, .build [.int .i64 0, .int .i64 0] [(0, 1, .t 55), (1, 1, .t 56)], none, []⟩,
       ⟨some 17, .alloc 2 35 (.agg [.int .i64 0, .int .i64 0]), none, []⟩,
       ⟨none, .store 2 (.t 17) (.t 57), none, []⟩] none) <|
    .seq (.seq (.region [
        ⟨some 58, .mv (.t 14), none, []⟩,
        ⟨some 59, .len (.t 58), none, []⟩,
        ⟨some 60, .mv (.t 13), none, []⟩,
        ⟨some 61, .len (.t 60), none, []⟩,
        ⟨some 62, .bin .neq (.t 59) (.t 61), none, []⟩] none) <|
     .cond (.t 62) (.seq (.region [
         ⟨some 8, .mv (.c (.bool false)), none, []⟩] none) <|
      .ret) <|
     .skip) <|
    .seq (.region [
       ⟨some 63, .mv (.t 14), none, []⟩,
       ⟨some 64, .len (.t 63), none, []⟩,
       ⟨some 65, .mv (.c (.int .i64 0)), none, []⟩] none) <|
    .block 0 <|
    .loop <|
    .seq (.region [
       ⟨some 66, .bin .lss (.t 65) (.t 64), none, []⟩] none) <|
    .seq (.cond (.t 66) (.skip) <|
     .exit 0) <|
    .seq (.block 1 <|
     .seq (.region [
        ⟨some 67, .mv (.t 65), none, []⟩,
        ⟨some 68, .ixs 2 (.t 63) (.t 65), none, []⟩,
        ⟨some 69, .load true 2 (.t 68), none, []⟩,
        ⟨some 19, .alloc 2 35 (.agg [.int .i64 0, .int .i64 0]), none, []⟩,
        ⟨some 18, .mv (.t 67), none, []⟩,
        ⟨none, .store 2 (.t 19) (.t 69), none, []⟩] none) <|
     .seq (.seq (.region [
         ⟨some 70, .fa 0 (.t 19), none, []⟩,
         ⟨some 71, .load false 1 (.t 70), none, [0]⟩,
         ⟨some 72, .fa 1 (.t 19), none, []⟩,
         ⟨some 73, .load false 1 (.t 72), none, [2]⟩,
         ⟨some 74, .bin .gtr (.t 71) (.t 73), none, [1, 3, 0, 2]⟩,
         ⟨some 75, .mv (.t 74), none, [4, 1, 3, 0, 2]⟩,
         ⟨some 76, .fa 0 (.t 19), some (75, false), [5, 4, 1, 3, 0, 2]⟩,
         ⟨some 77, .load false 1 (.t 76), some (75, false), [6, 5, 4, 1, 3, 0, 2]⟩,
         ⟨some 78, .mv (.t 13), some (75, false), [5, 4, 1, 3, 0, 2]⟩,
         ⟨some 79, .mv (.t 18), some (75, false), [5, 4, 1, 3, 0, 2]⟩,
         ⟨some 80, .ixs 2 (.t 78) (.t 79), some (75, false), [8, 9, 5, 4, 1, 3, 0, 2]⟩,
         ⟨some 81, .fa 0 (.t 80), some (75, false), [10, 5, 8, 9, 4, 1, 3, 0, 2]⟩,
         ⟨some 82, .load false 1 (.t 81), some (75, false), [11, 5, 10, 8, 9, 4, 1, 3, 0, 2]⟩,
         ⟨some 83, .bin .lss (.t 77) (.t 82), some (75, false), [7, 12, 5, 6, 4, 1, 3, 0, 2, 11, 10, 8, 9]⟩,
         ⟨some 84, .pick (.t 75) (.c (.bool true)) (.t 83), none, [5, 13, 4, 1, 3, 0, 2, 7, 12, 6, 11, 10, 8, 9]⟩,
         ⟨some 85, .mv (.t 84), none, [14, 5, 13, 4, 1, 3, 0, 2, 7, 12, 6, 11, 10, 8, 9]⟩,
         ⟨some 86, .fa 1 (.t 19), some (85, false), [15, 14, 5, 13, 4, 1, 3, 0, 2, 7, 12, 6, 11, 10, 8, 9]⟩,
         ⟨some 87, .load false 1 (.t 86), some (85, false), [16, 15, 14, 5, 13, 4, 1, 3, 0, 2, 7, 12, 6, 11, 10, 8, 9]⟩,
         ⟨some 88, .mv (.t 13), some (85, false), [15, 14, 5, 13, 4, 1, 3, 0, 2, 7, 12, 6, 11, 10, 8, 9]⟩,
         ⟨some 89, .mv (.t 18), some (85, false), [15, 14, 5, 13, 4, 1, 3, 0, 2, 7, 12, 6, 11, 10, 8, 9]⟩,
         ⟨some 90, .ixs 2 (.t 88) (.t 89), some (85, false), [18, 19, 15, 14, 5, 13, 4, 1, 3, 0, 2, 7, 12, 6, 11, 10, 8, 9]⟩,
         ⟨some 91, .fa 1 (.t 90), some (85, false), [20, 15, 18, 19, 14, 5, 13, 4, 1, 3, 0, 2, 7, 12, 6, 11, 10, 8, 9]⟩,
         ⟨some 92, .load false 1 (.t 91), some (85, false), [21, 15, 20, 18, 19, 14, 5, 13, 4, 1, 3, 0, 2, 7, 12, 6, 11, 10, 8, 9]⟩,
         ⟨some 93, .bin .gtr (.t 87) (.t 92), some (85, false), [17, 22, 15, 16, 14, 5, 13, 4, 1, 3, 0, 2, 7, 12, 6, 11, 10, 8, 9, 21, 20, 18, 19]⟩,
         ⟨some 94, .pick (.t 85) (.c (.bool true)) (.t 93), none, [15, 23, 14, 5, 13, 4, 1, 3, 0, 2, 7, 12, 6, 11, 10, 8, 9, 17, 22, 16, 21, 20, 18, 19]⟩,
         ⟨some 95, .mv (.t 94), none, [24, 15, 23, 14, 5, 13, 4, 1, 3, 0, 2, 7, 12, 6, 11, 10, 8, 9, 17, 22, 16, 21, 20, 18, 19]⟩,
         ⟨some 96, .fa 0 (.t 17), some (95, false), [25, 24, 15, 23, 14, 5, 13, 4, 1, 3, 0, 2, 7, 12, 6, 11, 10, 8, 9, 17, 22, 16, 21, 20, 18, 19]⟩,
         ⟨some 97, .load false 1 (.t 96), some (95, false), [26, 25, 24, 15, 23, 14, 5, 13, 4, 1, 3, 0, 2, 7, 12, 6, 11, 10, 8, 9, 17, 22, 16, 21, 20, 18, 19]⟩,
         ⟨some 98, .mv (.t 12), some (95, false), [25, 24, 15, 23, 14, 5, 13, 4, 1, 3, 0, 2, 7, 12, 6, 11, 10, 8, 9, 17, 22, 16, 21, 20, 18, 19]⟩,
         ⟨some 99, .bin .sub (.t 97) (.t 98), some (95, false), [27, 28, 25, 26, 24, 15, 23, 14, 5, 13, 4, 1, 3, 0, 2, 7, 12, 6, 11, 10, 8, 9, 17, 22, 16, 21, 20, 18, 19]⟩,
         ⟨some 100, .fa 1 (.t 19), some (95, false), [25, 24, 15, 23, 14, 5, 13, 4, 1, 3, 0, 2, 7, 12, 6, 11, 10, 8, 9, 17, 22, 16, 21, 20, 18, 19]⟩,
         ⟨some 101, .load false 1 (.t 100), some (95, false), [30, 25, 24, 15, 23, 14, 5, 13, 4, 1, 3, 0, 2, 7, 12, 6, 11, 10, 8, 9, 17, 22, 16, 21, 20, 18, 19]⟩,
         ⟨some 102, .bin .gtr (.t 99) (.t 101), some (95, false), [29, 31, 25, 27, 28, 26, 24, 15, 23, 14, 5, 13, 4, 1, 3, 0, 2, 7, 12, 6, 11, 10, 8, 9, 17, 22, 16, 21, 20, 18, 19, 30]⟩,
         ⟨some 103, .pick (.t 95) (.c (.bool true)) (.t 102), none, [25, 32, 24, 15, 23, 14, 5, 13, 4, 1, 3, 0, 2, 7, 12, 6, 11, 10, 8, 9, 17, 22, 16, 21, 20, 18, 19, 29, 31, 27, 28, 26, 30]⟩,
         ⟨some 104, .mv (.t 103), none, [33, 25, 32, 24, 15, 23, 14, 5, 13, 4, 1, 3, 0, 2, 7, 12, 6, 11, 10, 8, 9, 17, 22, 16, 21, 20, 18, 19, 29, 31, 27, 28, 26, 30]⟩,
         ⟨some 105, .fa 1 (.t 17), some (104, false), [34, 33, 25, 32, 24, 15, 23, 14, 5, 13, 4, 1, 3, 0, 2, 7, 12, 6, 11, 10, 8, 9, 17, 22, 16, 21, 20, 18, 19, 29, 31, 27, 28, 26, 30]⟩,
         ⟨some 106, .load false 1 (.t 105), some (104, false), [35, 34, 33, 25, 32, 24, 15, 23, 14, 5, 13, 4, 1, 3, 0, 2, 7, 12, 6, 11, 10, 8, 9, 17, 22, 16, 21, 20, 18, 19, 29, 31, 27, 28, 26, 30]⟩,
         ⟨some 107, .mv (.t 11), some (104, false), [34, 33, 25, 32, 24, 15, 23, 14, 5, 13, 4, 1, 3, 0, 2, 7, 12, 6, 11, 10, 8, 9, 17, 22, 16, 21, 20, 18, 19, 29, 31, 27, 28, 26, 30]⟩,
         ⟨some 108, .bin .add (.t 106) (.t 107), some (104, false), [36, 37, 34, 35, 33, 25, 32, 24, 15, 23, 14, 5, 13, 4, 1, 3, 0, 2, 7, 12, 6, 11, 10, 8, 9, 17, 22, 16, 21, 20, 18, 19, 29, 31, 27, 28, 26, 30]⟩,
         ⟨some 109, .fa 0 (.t 19), some (104, false), [34, 33, 25, 32, 24, 15, 23, 14, 5, 13, 4, 1, 3, 0, 2, 7, 12, 6, 11, 10, 8, 9, 17, 22, 16, 21, 20, 18, 19, 29, 31, 27, 28, 26, 30]⟩,
         ⟨some 110, .load false 1 (.t 109), some (104, false), [39, 34, 33, 25, 32, 24, 15, 23, 14, 5, 13, 4, 1, 3, 0, 2, 7, 12, 6, 11, 10, 8, 9, 17, 22, 16, 21, 20, 18, 19, 29, 31, 27, 28, 26, 30]⟩,
         ⟨some 111, .bin .lss (.t 108) (.t 110), some (104, false), [38, 40, 34, 36, 37, 35, 33, 25, 32, 24, 15, 23, 14, 5, 13, 4, 1, 3, 0, 2, 7, 12, 6, 11, 10, 8, 9, 17, 22, 16, 21, 20, 18, 19, 29, 31, 27, 28, 26, 30, 39]⟩,
         ⟨some 112, .pick (.t 104) (.c (.bool true)) (.t 111), none, [34, 41, 33, 25, 32, 24, 15, 23, 14, 5, 13, 4, 1, 3, 0, 2, 7, 12, 6, 11, 10, 8, 9, 17, 22, 16, 21, 20, 18, 19, 29, 31, 27, 28, 26, 30, 38, 40, 36, 37, 35, 39]⟩] (some 0)) <|
      .cond (.t 112) (.seq (.region [
          ⟨some 8, .mv (.c (.bool false)), none, []⟩] none) <|
       .ret) <|
      .skip) <|
     .seq (.seq (.region [
         ⟨some 113, .fa 0 (.t 17), none, []⟩,
         ⟨some 114, .load false 1 (.t 113), none, []⟩,
         ⟨some 115, .fa 1 (.t 17), none, []⟩,
         ⟨some 116, .load false 1 (.t 115), none, []⟩,
         ⟨some 117, .lit false 1 3 [.t 114, .t 116], none, []⟩,
         ⟨some 118, .len (.t 117), none, []⟩,
         ⟨some 119, .mv (.c (.int .i64 0)), none, []⟩] none) <|
      .block 2 <|
      .loop <|
      .seq (.region [
         ⟨some 120, .bin .lss (.t 119) (.t 118), none, []⟩] none) <|
      .seq (.cond (.t 120) (.skip) <|
       .exit 2) <|
      .seq (.block 3 <|
       .seq (.region [
          ⟨some 121, .ixs 1 (.t 117) (.t 119), none, []⟩,
          ⟨some 122, .load false 1 (.t 121), none, []⟩,
          ⟨some 21, .mv (.t 122), none, []⟩] none) <|
       .seq (.region [
          ⟨some 123, .mv (.t 21), none, []⟩,
          ⟨some 124, .mv (.t 12), none, []⟩,
          ⟨some 125, .bin .sub (.t 123) (.t 124), none, []⟩,
          ⟨some 126, .fa 1 (.t 19), none, []⟩,
          ⟨some 127, .load false 1 (.t 126), none, []⟩,
          ⟨some 128, .bin .gtr (.t 125) (.t 127), none, []⟩,
          ⟨some 129, .mv (.t 128), none, []⟩,
          ⟨some 130, .mv (.t 21), some (129, false), []⟩,
          ⟨some 131, .mv (.t 11), some (129, false), []⟩,
          ⟨some 132, .bin .add (.t 130) (.t 131), some (129, false), []⟩,
          ⟨some 133, .fa 0 (.t 19), some (129, false), []⟩,
          ⟨some 134, .load false 1 (.t 133), some (129, false), []⟩,
          ⟨some 135, .bin .lss (.t 132) (.t 134), some (129, false), []⟩,
          ⟨some 136, .pick (.t 129) (.c (.bool true)) (.t 135), none, []⟩] none) <|
       .cond (.t 136) (.seq (.region [
           ⟨some 8, .mv (.c (.bool false)), none, []⟩] none) <|
        .ret) <|
       .skip) <|
      .region [
        ⟨some 137, .bin .add (.t 119) (.c (.int .i64 1)), none, []⟩,
        ⟨some 119, .mv (.t 137), none, []⟩] none) <|
     .region [
       ⟨some 138, .load true 2 (.t 19), none, []⟩,
       ⟨none, .store 2 (.t 17) (.t 138), none, []⟩] none) <|
    .region [
      ⟨some 139, .bin .add (.t 65) (.c (.int .i64 1)), none, []⟩,
      ⟨some 65, .mv (.t 139), none, []⟩] none) <|
   .skip) <|
  .seq (.region [
     ⟨some 140, .mv (.t 10), none, []⟩,
     ⟨some 22, .mv (.t 140), none, []⟩] none) <|
  .seq (.region [
     ⟨some 23, .newsl 1 3, none, []⟩] none) <|
  .seq (.seq (.region [
      ⟨some 141, .mv (.t 13), none, []⟩,
      ⟨some 142, .len (.t 141), none, []⟩,
      ⟨some 143, .mv (.c (.int .i64 0)), none, []⟩] none) <|
   .block 4 <|
   .loop <|
   .seq (.region [
      ⟨some 144, .bin .lss (.t 143) (.t 142), none, []⟩] none) <|
   .seq (.cond (.t 144) (.skip) <|
    .exit 4) <|
   .seq (.block 5 <|
    .seq (.region [
       ⟨some 145, .ixs 2 (.t 141) (.t 143), none, []⟩,
       ⟨some 146, .load true 2 (.t 145), none, []⟩,
       ⟨some 25, .alloc 2 35 (.agg [.int .i64 0, .int .i64 0]), none, []⟩,
       ⟨none, .store 2 (.t 25) (.t 146), none, []⟩] none) <|
    .seq (.region [
       ⟨some 147, .mv (.t 22), none, []⟩,
       ⟨some 148, .mv (.t 9), none, []⟩,
       ⟨some 149, .mv (.t 11), none, []⟩,
       ⟨some 150, .mv (.t 12), none, []⟩,
       ⟨some 151, .bin .add (.t 149) (.t 150), none, []⟩,
       ⟨some 152, .bin .add (.t 151) (.c (.int .i64 1)), none, []⟩,
       ⟨some 153, .call 16 [.t 148, .t 152], none, []⟩,
       ⟨some 154, .bin .add (.t 147) (.t 153), none, []⟩,
       ⟨some 155, .mv (.t 12), none, []⟩,
       ⟨some 156, .bin .sub (.t 154) (.t 155), none, []⟩,
       ⟨some 157, .mnx true (.c (.int .i64 0)) [.t 156], none, []⟩,
       ⟨some 22, .mv (.t 157), none, []⟩] none) <|
    .seq (.seq (.region [
        ⟨some 158, .mv (.t 9), none, []⟩,
        ⟨some 159, .call 16 [.t 158, .c (.int .i64 3)], none, []⟩,
        ⟨some 160, .bin .gtr (.t 159) (.c (.int .i64 0)), none, []⟩] none) <|
     .cond (.t 160) (.region [
        ⟨some 161, .mv (.t 22), none, []⟩,
        ⟨some 162, .load true 2 (.t 25), none, []⟩,
        ⟨some 163, .call 19 [.t 161, .t 162], none, []⟩,
        ⟨some 22, .mv (.t 163), none, []⟩] none) <|
     .skip) <|
    .region [
      ⟨some 164, .mv (.t 23), none, []⟩,
      ⟨some 165, .mv (.t 22), none, []⟩,
      ⟨some 166, .lit false 1 3 [.t 165], none, []⟩,
      ⟨some 167, .app 1 8 3 (.t 164) (.t 166), none, []⟩,
      ⟨some 23, .mv (.t 167), none, []⟩] none) <|
   .region [
     ⟨some 168, .bin .add (.t 143) (.c (.int .i64 1)), none, []⟩,
     ⟨some 143, .mv (.t 168), none, []⟩] none) <|
  .seq (.region [
     ⟨some 26, .mv (.c (.bool true)), none, []⟩] none) <|
  .seq (.seq (.region [
      ⟨some 169, .mv (.t 13), none, []⟩,
      ⟨some 170, .len (.t 169), none, []⟩,
      ⟨some 171, .mv (.c (.int .i64 0)), none, []⟩] none) <|
   .block 6 <|
   .loop <|
   .seq (.region [
      ⟨some 172, .bin .lss (.t 171) (.t 170), none, []⟩] none) <|
   .seq (.cond (.t 172) (.skip) <|
    .exit 6) <|
   .seq (.block 7 <|
    .seq (.region [
       ⟨some 173, .mv (.t 171), none, []⟩,
       ⟨some 174, .ixs 2 (.t 169) (.t 171), none, []⟩,
       ⟨some 175, .load true 2 (.t 174), none, []⟩,
       ⟨some 28, .alloc 2 35 (.agg [.int .i64 0, .int .i64 0]), none, []⟩,
       ⟨some 27, .mv (.t 173), none, []⟩,
       ⟨none, .store 2 (.t 28) (.t 175), none, []⟩] none) <|
    .region [
      ⟨some 176, .mv (.t 26), none, []⟩,
      ⟨some 177, .mv (.t 176), none, [0]⟩,
      ⟨some 178, .mv (.t 23), some (177, true), [1, 0]⟩,
      ⟨some 179, .mv (.t 27), some (177, true), [1, 0]⟩,
      ⟨some 180, .ixs 1 (.t 178) (.t 179), some (177, true), [2, 3, 1, 0]⟩,
      ⟨some 181, .load false 1 (.t 180), some (177, true), [4, 1, 2, 3, 0]⟩,
      ⟨some 182, .fa 0 (.t 28), some (177, true), [1, 0]⟩,
      ⟨some 183, .load false 1 (.t 182), some (177, true), [6, 1, 0]⟩,
      ⟨some 184, .bin .geq (.t 181) (.t 183), some (177, true), [5, 7, 1, 4, 2, 3, 0, 6]⟩,
      ⟨some 185, .pick (.t 177) (.t 184) (.c (.bool false)), none, [1, 8, 0, 5, 7, 4, 2, 3, 6]⟩,
      ⟨some 186, .mv (.t 185), none, [9, 1, 8, 0, 5, 7, 4, 2, 3, 6]⟩,
      ⟨some 187, .mv (.t 23), some (186, true), [10, 9, 1, 8, 0, 5, 7, 4, 2, 3, 6]⟩,
      ⟨some 188, .mv (.t 27), some (186, true), [10, 9, 1, 8, 0, 5, 7, 4, 2, 3, 6]⟩,
      ⟨some 189, .ixs 1 (.t 187) (.t 188), some (186, true), [11, 12, 10, 9, 1, 8, 0, 5, 7, 4, 2, 3, 6]⟩,
      ⟨some 190, .load false 1 (.t 189), some (186, true), [13, 10, 11, 12, 9, 1, 8, 0, 5, 7, 4, 2, 3, 6]⟩,
      ⟨some 191, .fa 1 (.t 28), some (186, true), [10, 9, 1, 8, 0, 5, 7, 4, 2, 3, 6]⟩,
      ⟨some 192, .load false 1 (.t 191), some (186, true), [15, 10, 9, 1, 8, 0, 5, 7, 4, 2, 3, 6]⟩,
      ⟨some 193, .bin .leq (.t 190) (.t 192), some (186, true), [14, 16, 10, 13, 11, 12, 9, 1, 8, 0, 5, 7, 4, 2, 3, 6, 15]⟩,
      ⟨some 194, .pick (.t 186) (.t 193) (.c (.bool false)), none, [10, 17, 9, 1, 8, 0, 5, 7, 4, 2, 3, 6, 14, 16, 13, 11, 12, 15]⟩,
      ⟨some 26, .mv (.t 194), none, [18, 10, 0, 1, 2, 3, 4, 5, 6, 7, 8, 9, 11, 12, 13, 14, 15, 16, 17]⟩] (some 0)) <|
   .region [
     ⟨some 195, .bin .add (.t 171) (.c (.int .i64 1)), none, []⟩,
     ⟨some 171, .mv (.t 195), none, []⟩] none) <|
  .seq (.seq (.region [
      ⟨some 197, .mv (.t 23), none, []⟩,
      ⟨some 198, .mv (.t 10), none, []⟩,
      ⟨some 199, .mv (.t 11), none, []⟩,
      ⟨some 200, .mv (.t 12), none, []⟩,
      ⟨some 201, .call 13 [.t 197, .t 198, .t 199, .t 200], none, []⟩,
      ⟨some 196, .mv (.t 201), none, []⟩,
      ⟨some 202, .ext (.t 196) 0, none, []⟩,
      ⟨some 203, .ext (.t 196) 1, none, []⟩,
      ⟨some 29, .mv (.t 202), none, []⟩,
      ⟨some 30, .mv (.t 203), none, []⟩] none) <|
   .seq (.region [
      ⟨some 204, .mv (.t 30), none, []⟩,
      ⟨some 205, .un .not (.t 204), none, []⟩,
      ⟨some 206, .mv (.t 205), none, []⟩,
      ⟨some 207, .mv (.t 26), some (206, false), []⟩,
      ⟨some 208, .un .not (.t 207), some (206, false), []⟩,
      ⟨some 209, .pick (.t 206) (.c (.bool true)) (.t 208), none, []⟩] none) <|
   .cond (.t 209) (.seq (.region [
       ⟨some 210, .call 12 [], none, []⟩,
       ⟨some 8, .mv (.t 210), none, []⟩] none) <|
    .ret) <|
   .skip) <|
  .seq (.seq (.region [
      ⟨some 211, .mv (.t 15), none, []⟩,
      ⟨some 212, .un .not (.t 211), none, []⟩] none) <|
   .cond (.t 212) (.seq (.region [
       ⟨some 8, .mv (.c (.bool false)), none, []⟩] none) <|
    .ret) <|
   .skip) <|
  .seq (.seq (.region [
      ⟨some 213, .mv (.t 14), none, []⟩,
      ⟨some 214, .len (.t 213), none, []⟩,
      ⟨some 215, .mv (.c (.int .i64 0)), none, []⟩] none) <|
   .block 8 <|
   .loop <|
   .seq (.region [
      ⟨some 216, .bin .lss (.t 215) (.t 214), none, []⟩] none) <|
   .seq (.cond (.t 216) (.skip) <|
    .exit 8) <|
   .seq (.block 9 <|
    .seq (.region [
       ⟨some 217, .mv (.t 215), none, []⟩,
       ⟨some 218, .ixs 2 (.t 213) (.t 215), none, []⟩,
       ⟨some 219, .load true 2 (.t 218), none, []⟩,
       ⟨some 32, .alloc 2 35 (.agg [.int .i64 0, .int .i64 0]), none, []⟩,
       ⟨some 31, .mv (.t 217), none, []⟩,
       ⟨none, .store 2 (.t 32) (.t 219), none, []⟩] none) <|
    .seq (.region [
       ⟨some 220, .mv (.t 23), none, []⟩,
       ⟨some 221, .mv (.t 31), none, []⟩,
       ⟨some 222, .ixs 1 (.t 220) (.t 221), none, [0, 1]⟩,
       ⟨some 223, .load false 1 (.t 222), none, [2, 0, 1]⟩,
       ⟨some 224, .fa 0 (.t 32), none, []⟩,
       ⟨some 225, .load false 1 (.t 224), none, [4]⟩,
       ⟨some 226, .bin .lss (.t 223) (.t 225), none, [3, 5, 2, 0, 1, 4]⟩,
       ⟨some 227, .mv (.t 226), none, [6, 3, 5, 2, 0, 1, 4]⟩,
       ⟨some 228, .mv (.t 23), some (227, false), [7, 6, 3, 5, 2, 0, 1, 4]⟩,
       ⟨some 229, .mv (.t 31), some (227, false), [7, 6, 3, 5, 2, 0, 1, 4]⟩,
       ⟨some 230, .ixs 1 (.t 228) (.t 229), some (227, false), [8, 9, 7, 6, 3, 5, 2, 0, 1, 4]⟩,
       ⟨some 231, .load false 1 (.t 230), some (227, false), [10, 7, 8, 9, 6, 3, 5, 2, 0, 1, 4]⟩,
       ⟨some 232, .fa 1 (.t 32), some (227, false), [7, 6, 3, 5, 2, 0, 1, 4]⟩,
       ⟨some 233, .load false 1 (.t 232), some (227, false), [12, 7, 6, 3, 5, 2, 0, 1, 4]⟩,
       ⟨some 234, .bin .gtr (.t 231) (.t 233), some (227, false), [11, 13, 7, 10, 8, 9, 6, 3, 5, 2, 0, 1, 4, 12]⟩,
       ⟨some 235, .pick (.t 227) (.c (.bool true)) (.t 234), none, [7, 14, 6, 3, 5, 2, 0, 1, 4, 11, 13, 10, 8, 9, 12]⟩] (some 0)) <|
    .cond (.t 235) (.seq (.region [
        ⟨some 8, .mv (.c (.bool false)), none, []⟩] none) <|
     .ret) <|
    .skip) <|
   .region [
     ⟨some 236, .bin .add (.t 215) (.c (.int .i64 1)), none, []⟩,
     ⟨some 215, .mv (.t 236), none, []⟩] none) <|
  .seq (.region [
     ⟨some 237, .call 12 [], none, []⟩,
     ⟨some 8, .mv (.t 237), none, []⟩] none) <|
  .ret
abbrev n_law21_RampLatest : Nat := 6
theorem b_law21_RampLatest : bodyOf prog 6 [23] = some (c_law21_RampLatest, [.t 8], 238) := by kernel_rfl

def c_law21_RampAll : ACode :=
  .seq (.region [
     ⟨some 16, .mv (.c (.bool false)), none, []⟩] none) <|
  .seq (.seq (.region [
      ⟨some 50, .mv (.t 0), none, []⟩,
      ⟨some 51, .len (.t 50), none, []⟩,
      ⟨some 52, .bin .gtr (.t 51) (.c (.int .i64 60)), none, []⟩,
      ⟨some 53, .mv (.t 52), none, []⟩,
      ⟨some 54, .mv (.t 1), some (53, false), []⟩,
      ⟨some 55, .len (.t 54), some (53, false), []⟩,
      ⟨some 56, .bin .gtr (.t 55) (.c (.int .i64 100)), some (53, false), []⟩,
      ⟨some 57, .pick (.t 53) (.c (.bool true)) (.t 56), none, []⟩,
      ⟨some 58, .mv (.t 57), none, []⟩,
      ⟨some 59, .mv (.t 7), some (58, false), []⟩,
      ⟨some 60, .bin .gtr (.t 59) (.c (.int .i64 300)), some (58, false), []⟩,
      ⟨some 61, .mv (.t 60), some (58, false), []⟩,
      ⟨some 62, .mv (.t 7), some (61, true), []⟩,
      ⟨some 63, .bin .leq (.t 62) (.c (.int .i64 4096)), some (61, true), []⟩,
      ⟨some 64, .pick (.t 61) (.t 63) (.c (.bool false)), some (58, false), []⟩,
      ⟨some 65, .pick (.t 58) (.c (.bool true)) (.t 64), none, []⟩] none) <|
   .cond (.t 65) (.seq (.region [
       ⟨some 66, .call 12 [], none, []⟩,
       ⟨some 16, .mv (.t 66), none, []⟩] none) <|
    .ret) <|
   .skip) <|
  .seq (.region [
     ⟨some 67, .mv (.t 2), none, []⟩,
     ⟨some 68, .call 15 [.t 67], none, []⟩,
     ⟨some 17, .mv (.t 68), none, []⟩] none) <|
  .seq (.region [
     ⟨some 69, .mv (.t 17), none, []⟩,
     ⟨some 70, .mv (.t 17), none, []⟩,
     ⟨some 71, .call 16 [.t 70, .c (.int .i64 8)], none, []⟩,
     ⟨some 72, .call 20 [.t 69, .t 71, .c (.int .i64 30)], none, []⟩,
     ⟨some 73, .mv (.t 17), none, []⟩,
     ⟨some 74, .call 17 [.t 73], none, []⟩,
     ⟨some 18, .mv (.t 72), none, []⟩,
     ⟨some 19, .mv (.t 74), none, []⟩] none) <|
  .seq (.seq (.region [
      ⟨some 75, .mv (.t 3), none, []⟩,
      ⟨some 76, .mv (.t 4), none, []⟩,
      ⟨some 77, .mv (.t 5), none, []⟩,
      ⟨some 78, .mv (.t 6), none, []⟩,
      ⟨some 79, .mv (.t 7), none, []⟩,
      ⟨some 80, .build [.int .i64 0, .int .i64 0, .int .i64 0, .int .i64 0, .int .i64 0] [(0, 1, .t 75), (1, 1, .t 76), (2, 1, .t 77), (3, 1, .t 78), (4, 1, .t 79)], none, []⟩,
      ⟨some 81, .mv (.t 3), none, []⟩,
      ⟨some 82, .call 8 [.t 81, .c (.int .i64 40)], none, []⟩,
      ⟨some 83, .mv (.t 4), none, []⟩,
      ⟨some 84, .call 8 [.t 83, .c (.int .i64 40)], none, []⟩,
      ⟨some 85, .mv (.t 5), none, []⟩,
      ⟨some 86, .call 8 [.t 85, .c (.int .i64 9)], none, []⟩,
      ⟨some 87, .mv (.t 6), none, []⟩,
      ⟨some 88, .call 8 [.t 87, .c (.int .i64 9)], none, []⟩,
      ⟨some 89, .mv (.t 7), none, []⟩,
      ⟨some 90, .call 8 [.t 89, .c (.int .i64 9)], none, []⟩,
      ⟨some 91, .build [.int .i64 0, .int .i64 0, .int .i64 0, .int .i64 0, .int .i64 0] [(0, 1, .t 82), (1, 1, .t 84), (2, 1, .t 86), (3, 1, .t 88), (4, 1, .t 90)], none, []⟩,
      ⟨some 92, .mv (.t 3), none, []⟩,
      ⟨some 93, .call 8 [.t 92, .c (.int .i64 1073741825)], none, []⟩,
      ⟨some 94, .mv (.t 4), none, []⟩,
      ⟨some 95, .call 8 [.t 94, .c (.int .i64 1073741825)], none, []⟩,
      ⟨some 96, .mv (.t 5), none, []⟩,
      ⟨some 97, .call 8 [.t 96, .c (.int .i64 1073741825)], none, []⟩,
      ⟨some 98, .mv (.t 6), none, []⟩,
      ⟨some 99, .call 8 [.t 98, .c (.int .i64 9)], none, []⟩,
      ⟨some 100, .mv (.t 7), none, []⟩,
      ⟨some 101, .call 8 [.t 100, .c (.int .i64 50)], none, []⟩,
      ⟨some 102, .build [.int .i64 0, .int .i64 0, .int .i64 0, .int .i64 0, .int .i64 0] [(0, 1, .t 93), (1, 1, .t 95), (2, 1, .t 97), (3, 1, .t 99), (4, 1, .t 101)], none, []⟩,
      ⟨some 103, .lit false 5 48 [.t 80, .t 91, .t 102], none, []⟩,
      ⟨some 104, .len (.t 103), none, []⟩,
      ⟨some 105, .mv (.c (.int .i64 0)), none, []⟩] none) <|
   .block 0 <|
   .loop <|
   .seq (.region [
      ⟨some 106, .bin .lss (.t 105) (.t 104), none, []⟩] none) <|
   .seq (.cond (.t 106) (.skip) <|
    .exit 0) <|
   .seq (.block 1 <|
    .seq (.region [
       ⟨some 107, .ixs 5 (.t 103) (.t 105), none, []⟩,
       ⟨some 108, .load true 5 (.t 107), none, []⟩,
       ⟨some 21, .alloc 5 48 (.agg [.int .i64 0, .int .i64 0, .int .i64 0, .int .i64 0, .int .i64 0]), none, []⟩,
       ⟨none, .store 5 (.t 21) (.t 108), none, []⟩] none) <|
    .seq (.region [
       ⟨some 110, .pu (.aixs 1 5) [.t 21, .c (.int .i64 0)], none, []⟩,
       ⟨some 111, .load false 1 (.t 110), none, []⟩,
       ⟨some 112, .pu (.aixs 1 5) [.t 21, .c (.int .i64 1)], none, []⟩,
       ⟨some 113, .load false 1 (.t 112), none, []⟩,
       ⟨some 114, .pu (.aixs 1 5) [.t 21, .c (.int .i64 2)], none, []⟩,
       ⟨some 115, .load false 1 (.t 114), none, []⟩,
       ⟨some 116, .pu (.aixs 1 5) [.t 21, .c (.int .i64 3)], none, []⟩,
       ⟨some 117, .load false 1 (.t 116), none, []⟩,
       ⟨some 118, .pu (.aixs 1 5) [.t 21, .c (.int .i64 4)], none, []⟩,
       ⟨some 119, .load false 1 (.t 118), none, []⟩,
       ⟨some 120, .call 10 [.t 111, .t 113, .t 115, .t 117, .t 119], none, []⟩,
       ⟨some 109, .mv (.t 120), none, []⟩,
       ⟨some 121, .ext (.t 109) 0, none, []⟩,
       ⟨some 122, .ext (.t 109) 1, none, []⟩,
       ⟨some 22, .mv (.t 121), none, []⟩,
       ⟨some 23, .mv (.t 122), none, []⟩] none) <|
    .seq (.region [
       ⟨some 124, .pu (.aixs 1 5) [.t 21, .c (.int .i64 0)], none, []⟩,
       ⟨some 125, .load false 1 (.t 124), none, []⟩,
       ⟨some 126, .pu (.aixs 1 5) [.t 21, .c (.int .i64 1)], none, []⟩,
       ⟨some 127, .load false 1 (.t 126), none, []⟩,
       ⟨some 128, .pu (.aixs 1 5) [.t 21, .c (.int .i64 2)], none, []⟩,
       ⟨some 129, .load false 1 (.t 128), none, []⟩,
       ⟨some 130, .pu (.aixs 1 5) [.t 21, .c (.int .i64 3)], none, []⟩,
       ⟨some 131, .load false 1 (.t 130), none, []⟩,
       ⟨some 132, .pu (.aixs 1 5) [.t 21, .c (.int .i64 4)], none, []⟩,
       ⟨some 133, .load false 1 (.t 132), none, []⟩,
       ⟨some 134, .call 21 [.t 125, .t 127, .t 129, .t 131, .t 133], none, []⟩,
       ⟨some 123, .mv (.t 134), none, []⟩,
       ⟨some 135, .ext (.t 123) 0, none, []⟩,
       ⟨some 136, .ext (.t 123) 1, none, []⟩,
       ⟨some 24, .mv (.t 135), none, []⟩,
       ⟨some 25, .mv (.t 136), none, []⟩] none) <|
    .seq (.region [
       ⟨some 138, .pu (.aixs 1 5) [.t 21, .c (.int .i64 0)], none, []⟩,
       ⟨some 139, .load false 1 (.t 138), none, []⟩,
       ⟨some 140, .pu (.aixs 1 5) [.t 21, .c (.int .i64 1)], none, []⟩,
       ⟨some 141, .load false 1 (.t 140), none, []⟩,
       ⟨some 142, .pu (.aixs 1 5) [.t 21, .c (.int .i64 2)], none, []⟩,
       ⟨some 143, .load false 1 (.t 142), none, []⟩,
       ⟨some 144, .pu (.aixs 1 5) [.t 21, .c (.int .i64 3)], none, []⟩,
       ⟨some 145, .load false 1 (.t 144), none, []⟩,
       ⟨some 146, .call 9 [.t 139, .t 141, .t 143, .t 145], none, []⟩,
       ⟨some 137, .mv (.t 146), none, []⟩,
       ⟨some 147, .ext (.t 137) 0, none, []⟩,
       ⟨some 148, .ext (.t 137) 1, none, []⟩,
       ⟨some 149, .ext (.t 137) 2, none, []⟩,
       ⟨some 26, .mv (.t 147), none, []⟩,
       ⟨some 27, .mv (.t 148), none, []⟩,
       ⟨some 28, .mv (.t 149), none, []⟩] none) <|
    .seq (.region [
       ⟨some 151, .pu (.aixs 1 5) [.t 21, .c (.int .i64 0)], none, []⟩,
       ⟨some 152, .load false 1 (.t 151), none, []⟩,
       ⟨some 153, .pu (.aixs 1 5) [.t 21, .c (.int .i64 1)], none, []⟩,
       ⟨some 154, .load false 1 (.t 153), none, []⟩,
       ⟨some 155, .pu (.aixs 1 5) [.t 21, .c (.int .i64 2)], none, []⟩,
       ⟨some 156, .load false 1 (.t 155), none, []⟩,
       ⟨some 157, .pu (.aixs 1 5) [.t 21, .c (.int .i64 3)], none, []⟩,
       ⟨some 158, .load false 1 (.t 157), none, []⟩,
       ⟨some 159, .call 22 [.t 152, .t 154, .t 156, .t 158], none, []⟩,
       ⟨some 150, .mv (.t 159), none, []⟩,
       ⟨some 160, .ext (.t 150) 0, none, []⟩,
       ⟨some 161, .ext (.t 150) 1, none, []⟩,
       ⟨some 162, .ext (.t 150) 2, none, []⟩,
       ⟨some 29, .mv (.t 160), none, []⟩,
       ⟨some 30, .mv (.t 161), none, []⟩,
       ⟨some 31, .mv (.t 162), none, []⟩] none) <|
    .seq (.region [
       ⟨some 164, .pu (.aixs 1 5) [.t 21, .c (.int .i64 0)], none, []⟩,
       ⟨some 165, .load false 1 (.t 164), none, []⟩,
       ⟨some 166, .pu (.aixs 1 5) [.t 21, .c (.int .i64 2)], none, []⟩,
       ⟨some 167, .load false 1 (.t 166), none, []⟩,
       ⟨some 168, .pu (.aixs 1 5) [.t 21, .c (.int .i64 3)], none, []⟩,
       ⟨some 169, .load false 1 (.t 168), none, []⟩,
       ⟨some 170, .pu (.aixs 1 5) [.t 21, .c (.int .i64 4)], none, []⟩,
       ⟨some 171, .load false 1 (.t 170), none, []⟩,
       ⟨some 172, .call 14 [.t 165, .t 167, .t 169, .t 171], none, []⟩,
       ⟨some 163, .mv (.t 172), none, []⟩,
       ⟨some 173, .ext (.t 163) 0, none, []⟩,
       ⟨some 174, .ext (.t 163) 1, none, []⟩,
       ⟨some 32, .alloc 2 35 (.agg [.int .i64 0, .int .i64 0]), none, []⟩,
       ⟨none, .store 2 (.t 32) (.t 173), none, []⟩,
       ⟨some 33, .mv (.t 174), none, []⟩] none) <|
    .seq (.region [
       ⟨some 176, .pu (.aixs 1 5) [.t 21, .c (.int .i64 0)], none, []⟩,
       ⟨some 177, .load false 1 (.t 176), none, []⟩,
       ⟨some 178, .pu (.aixs 1 5) [.t 21, .c (.int .i64 2)], none, []⟩,
       ⟨some 179, .load false 1 (.t 178), none, []⟩,
       ⟨some 180, .pu (.aixs 1 5) [.t 21, .c (.int .i64 3)], none, []⟩,
       ⟨some 181, .load false 1 (.t 180), none, []⟩,
       ⟨some 182, .pu (.aixs 1 5) [.t 21, .c (.int .i64 4)], none, []⟩,
       ⟨some 183, .load false 1 (.t 182), none, []⟩,
       ⟨some 184, .call 23 [.t 177, .t 179, .t 181, .t 183], none, []⟩,
       ⟨some 175, .mv (.t 184), none, []⟩,
       ⟨some 185, .ext (.t 175) 0, none, []⟩,
       ⟨some 186, .ext (.t 175) 1, none, []⟩,
       ⟨some 34, .alloc 2 35 (.agg [.int .i64 0, .int .i64 0]), none, []⟩,
       ⟨none, .store 2 (.t 34) (.t 185), none, []⟩,
       ⟨some 35, .mv (.t 186), none, []⟩] none) <|
    .seq (.seq (.region [
        ⟨some 187, .mv (.t 23), none, []⟩,
        ⟨some 188, .mv (.t 25), none, []⟩,
        ⟨some 189, .bin .neq (.t 187) (.t 188), none, []⟩,
        ⟨some 190, .mv (.t 189), none, []⟩,
        ⟨some 191, .mv (.t 28), some (190, false), []⟩,
        ⟨some 192, .mv (.t 31), some (190, false), []⟩,
        ⟨some 193, .bin .neq (.t 191) (.t 192), some (190, false), []⟩,
        ⟨some 194, .pick (.t 190) (.c (.bool true)) (.t 193), none, []⟩,
        ⟨some 195, .mv (.t 194), none, []⟩,
        ⟨some 196, .mv (.t 33), some (195, false), []⟩,
        ⟨some 197, .mv (.t 35), some (195, false), []⟩,
        ⟨some 198, .bin .neq (.t 196) (.t 197), some (195, false), []⟩,
        ⟨some 199, .pick (.t 195) (.c (.bool true)) (.t 198), none, []⟩,
        ⟨some 200, .mv (.t 199), none, []⟩,
        ⟨some 201, .mv (.t 26), some (200, false), []⟩,
        ⟨some 202, .mv (.t 29), some (200, false), []⟩,
        ⟨some 203, .bin .neq (.t 201) (.t 202), some (200, false), []⟩,
        ⟨some 204, .pick (.t 200) (.c (.bool true)) (.t 203), none, []⟩,
        ⟨some 205, .mv (.t 204), none, []⟩,
        ⟨some 206, .mv (.t 27), some (205, false), []⟩,
        ⟨some 207, .mv (.t 30), some (205, false), []⟩,
        ⟨some 208, .eqb true (.t 206) (.t 207), some (205, false), []⟩,
        ⟨some 209, .pick (.t 205) (.c (.bool true)) (.t 208), none, []⟩,
        ⟨some 210, .mv (.t 209), none, []⟩,
        ⟨some 211, .load true 2 (.t 32), some (210, false), []⟩,
        ⟨some 212, .load true 2 (.t 34), some (210, false), []⟩,
        ⟨some 213, .eqs true [0, 0] (.t 211) (.t 212), some (210, false), []⟩,
        ⟨some 214, .pick (.t 210) (.c (.bool true)) (.t 213), none, []⟩,
        ⟨some 215, .mv (.t 214), none, []⟩,
        ⟨some 216, .mv (.t 22), some (215, false), []⟩,
        ⟨some 217, .mv (.t 24), some (215, false), []⟩,
        ⟨some 218, .call 11 [.t 216, .t 217], some (215, false), []⟩,
        ⟨some 219, .un .not (.t 218), some (215, false), []⟩,
        ⟨some 220, .pick (.t 215) (.c (.bool true)) (.t 219), none, []⟩] none) <|
     .cond (.t 220) (.seq (.region [
         ⟨some 16, .mv (.c (.bool false)), none, []⟩] none) <|
      .ret) <|
     .skip) <|
    .seq (.seq (.region [
        ⟨some 221, .mv (.t 18), none, []⟩,
        ⟨some 222, .mv (.t 1), none, []⟩,
        ⟨some 223, .lit false 1 26 [.t 221, .t 222], none, []⟩,
        ⟨some 224, .len (.t 223), none, []⟩,
        ⟨some 225, .mv (.c (.int .i64 0)), none, []⟩] none) <|
     .block 2 <|
     .loop <|
     .seq (.region [
        ⟨some 226, .bin .lss (.t 225) (.t 224), none, []⟩] none) <|
     .seq (.cond (.t 226) (.skip) <|
      .exit 2) <|
     .seq (.block 3 <|
      .seq (.region [
         ⟨some 227, .ixs 1 (.t 223) (.t 225), none, []⟩,
         ⟨some 228, .load false 1 (.t 227), none, []⟩,
         ⟨some 37, .mv (.t 228), none, []⟩] none) <|
      .seq (.region [
         ⟨some 230, .mv (.t 37), none, []⟩,
         ⟨some 231, .pu (.aixs 1 5) [.t 21, .c (.int .i64 0)], none, []⟩,
         ⟨some 232, .load false 1 (.t 231), none, []⟩,
         ⟨some 233, .pu (.aixs 1 5) [.t 21, .c (.int .i64 2)], none, []⟩,
         ⟨some 234, .load false 1 (.t 233), none, []⟩,
         ⟨some 235, .pu (.aixs 1 5) [.t 21, .c (.int .i64 3)], none, []⟩,
         ⟨some 236, .load false 1 (.t 235), none, []⟩,
         ⟨some 237, .call 13 [.t 230, .t 232, .t 234, .t 236], none, []⟩,
         ⟨some 229, .mv (.t 237), none, []⟩,
         ⟨some 238, .ext (.t 229) 0, none, []⟩,
         ⟨some 239, .ext (.t 229) 1, none, []⟩,
         ⟨some 38, .mv (.t 238), none, []⟩,
         ⟨some 39, .mv (.t 239), none, []⟩] none) <|
      .seq (.region [
         ⟨some 241, .mv (.t 37), none, []⟩,
         ⟨some 242, .pu (.aixs 1 5) [.t 21, .c (.int .i64 0)], none, []⟩,
         ⟨some 243, .load false 1 (.t 242), none, []⟩,
         ⟨some 244, .pu (.aixs 1 5) [.t 21, .c (.int .i64 2)], none, []⟩,
         ⟨some 245, .load false 1 (.t 244), none, []⟩,
         ⟨some 246, .pu (.aixs 1 5) [.t 21, .c (.int .i64 3)], none, []⟩,
         ⟨some 247, .load false 1 (.t 246), none, []⟩,
         ⟨some 248, .call 24 [.t 241, .t 243, .t 245, .t 247], none, []⟩,
         ⟨some 240, .mv (.t 248), none, []⟩,
         ⟨some 249, .ext (.t 240) 0, none, []⟩,
         ⟨some 250, .ext (.t 240) 1, none, []⟩,
         ⟨some 40, .mv (.t 249), none, []⟩,
         ⟨some 41, .mv (.t 250), none, []⟩] none) <|
      .seq (.region [
         ⟨some 251, .mv (.t 38), none, []⟩,
         ⟨some 252, .mv (.t 40), none, []⟩,
         ⟨some 253, .bin .neq (.t 251) (.t 252), none, []⟩,
         ⟨some 254, .mv (.t 253), none, []⟩,
         ⟨some 255, .mv (.t 39), some (254, false), []⟩,
         ⟨some 256, .mv (.t 41), some (254, false), []⟩,
         ⟨some 257, .eqb true (.t 255) (.t 256), some (254, false), []⟩,
         ⟨some 258, .pick (.t 254) (.c (.bool true)) (.t 257), none, []⟩] none) <|
      .cond (.t 258) (.seq (.region [
          ⟨some 16, .mv (.c (.bool false)), none, []⟩] none) <|
       .ret) <|
      .skip) <|
     .region [
       ⟨some 259, .bin .add (.t 225) (.c (.int .i64 1)), none, []⟩,
       ⟨some 225, .mv (.t 259), none, []⟩] none) <|
    .seq (.region [
       ⟨some 260, .mv (.t 19), none, []⟩,
       ⟨some 261, .mv (.t 0), none, []⟩,
       ⟨some 262, .lit false 1 42 [.t 260, .t 261], none, []⟩,
       ⟨some 263, .len (.t 262), none, []⟩,
       ⟨some 264, .mv (.c (.int .i64 0)), none, []⟩] none) <|
    .block 4 <|
    .loop <|
    .seq (.region [
       ⟨some 265, .bin .lss (.t 264) (.t 263), none, []⟩] none) <|
    .seq (.cond (.t 265) (.skip) <|
     .exit 4) <|
    .seq (.block 5 <|
     .seq (.region [
        ⟨some 266, .ixs 1 (.t 262) (.t 264), none, []⟩,
        ⟨some 267, .load false 1 (.t 266), none, []⟩,
        ⟨some 43, .mv (.t 267), none, []⟩] none) <|
     .seq (.region [
        ⟨some 269, .pu (.aixs 1 5) [.t 21, .c (.int .i64 0)], none, []⟩,
        ⟨some 270, .load false 1 (.t 269), none, []⟩,
        ⟨some 271, .mv (.t 43), none, []⟩,
        ⟨some 272, .pu (.aixs 1 5) [.t 21, .c (.int .i64 2)], none, []⟩,
        ⟨some 273, .load false 1 (.t 272), none, []⟩,
        ⟨some 274, .pu (.aixs 1 5) [.t 21, .c (.int .i64 3)], none, []⟩,
        ⟨some 275, .load false 1 (.t 274), none, []⟩,
        ⟨some 276, .call 18 [.t 270, .t 271, .t 273, .t 275], none, []⟩,
        ⟨some 268, .mv (.t 276), none, []⟩,
        ⟨some 277, .ext (.t 268) 0, none, []⟩,
        ⟨some 278, .ext (.t 268) 1, none, []⟩,
        ⟨some 279, .ext (.t 268) 2, none, []⟩,
        ⟨some 44, .mv (.t 277), none, []⟩,
        ⟨some 45, .mv (.t 278), none, []⟩,
        ⟨some 46, .mv (.t 279), none, []⟩] none) <|
     .seq (.region [
        ⟨some 281, .pu (.aixs 1 5) [.t 21, .c (.int .i64 0)], none, []⟩,
        ⟨some 282, .load false 1 (.t 281), none, []⟩,
        ⟨some 283, .mv (.t 43), none, []⟩,
        ⟨some 284, .pu (.aixs 1 5) [.t 21, .c (.int .i64 2)], none, []⟩,
        ⟨some 285, .load false 1 (.t 284), none, []⟩,
        ⟨some 286, .pu (.aixs 1 5) [.t 21, .c (.int .i64 3)], none, []⟩,
        ⟨some 287, .load false 1 (.t 286), none, []⟩,
        ⟨some 288, .call 25 [.t 282, .t 283, .t 285, .t 287], none, []⟩,
        ⟨some 280, .mv (.t 288), none, []⟩,
        ⟨some 289, .ext (.t 280) 0, none, []⟩,
        ⟨some 290, .ext (.t 280) 1, none, []⟩,
        ⟨some 291, .ext (.t 280) 2, none, []⟩,
        ⟨some 47, .mv (.t 289), none, []⟩,
        ⟨some 48, .mv (.t 290), none, []⟩,
        ⟨some 49, .mv (.t 291), none, []⟩] none) <|
     .seq (.region [
        ⟨some 292, .mv (.t 45), none, []⟩,
        ⟨some 293, .mv (.t 48), none, []⟩,
        ⟨some 294, .eqb true (.t 292) (.t 293), none, []⟩,
        ⟨some 295, .mv (.t 294), none, []⟩,
        ⟨some 296, .mv (.t 46), some (295, false), []⟩,
        ⟨some 297, .mv (.t 49), some (295, false), []⟩,
        ⟨some 298, .bin .neq (.t 296) (.t 297), some (295, false), []⟩,
        ⟨some 299, .pick (.t 295) (.c (.bool true)) (.t 298), none, []⟩,
        ⟨some 300, .mv (.t 299), none, []⟩,
        ⟨some 301, .mv (.t 44), some (300, false), []⟩,
        ⟨some 302, .mv (.t 47), some (300, false), []⟩,
        ⟨some 303, .call 26 [.t 301, .t 302], some (300, false), []⟩,
        ⟨some 304, .un .not (.t 303), some (300, false), []⟩,
        ⟨some 305, .pick (.t 300) (.c (.bool true)) (.t 304), none, []⟩] none) <|
     .cond (.t 305) (.seq (.region [
         ⟨some 16, .mv (.c (.bool false)), none, []⟩] none) <|
      .ret) <|
     .skip) <|
    .region [
      ⟨some 306, .bin .add (.t 264) (.c (.int .i64 1)), none, []⟩,
      ⟨some 264, .mv (.t 306), none, []⟩] none) <|
   .region [
     ⟨some 307, .bin .add (.t 105) (.c (.int .i64 1)), none, []⟩,
     ⟨some 105, .mv (.t 307), none, []⟩] none) <|
  .seq (.region [
     ⟨some 308, .call 12 [], none, []⟩,
     ⟨some 16, .mv (.t 308), none, []⟩] none) <|
  .ret
abbrev n_law21_RampAll : Nat := 7
theorem b_law21_RampAll : bodyOf prog 7 [] = some (c_law21_RampAll, [.t 16], 309) := by kernel_rfl

def c_mk_Mod : ACode :=
  .seq (.region [
     ⟨some 4, .mv (.c (.int .i64 0)), none, []⟩] none) <|
  .seq (.region [
     ⟨some 5, .mv (.t 0), none, []⟩,
     ⟨some 6, .mv (.t 1), none, []⟩,
     ⟨some 7, .bin .rem (.t 5) (.t 6), none, []⟩,
     ⟨some 8, .mv (.t 1), none, []⟩,
     ⟨some 9, .bin .add (.t 7) (.t 8), none, []⟩,
     ⟨some 10, .mv (.t 1), none, []⟩,
     ⟨some 11, .bin .rem (.t 9) (.t 10), none, []⟩,
     ⟨some 4, .mv (.t 11), none, []⟩] none) <|
  .ret
abbrev n_mk_Mod : Nat := 8
theorem b_mk_Mod : bodyOf prog 8 [] = some (c_mk_Mod, [.t 4], 12) := by kernel_rfl

def c_ramp_Steps : ACode :=
  .seq (.region [
     ⟨some 8, .mv (.c (.int .i64 0)), none, []⟩,
     ⟨some 9, .mv (.c (.bool false)), none, []⟩,
     ⟨some 10, .mv (.c (.int .i64 0)), none, []⟩] none) <|
  .seq (.seq (.region [
      ⟨some 13, .mv (.t 0), none, []⟩,
      ⟨some 14, .mv (.t 1), none, []⟩,
      ⟨some 15, .mv (.t 2), none, []⟩,
      ⟨some 16, .mv (.t 3), none, []⟩,
      ⟨some 17, .lit false 1 3 [.t 13, .t 14, .t 15, .t 16], none, []⟩,
      ⟨some 18, .call 27 [.t 17], none, []⟩,
      ⟨some 19, .un .not (.t 18), none, []⟩] none) <|
   .cond (.t 19) (.seq (.region [
       ⟨some 8, .mv (.c (.int .i64 0)), none, []⟩,
       ⟨some 9, .mv (.c (.bool false)), none, []⟩,
       ⟨some 10, .mv (.c (.int .i64 1)), none, []⟩] none) <|
    .ret) <|
   .skip) <|
  .seq (.region [
     ⟨some 20, .mv (.t 1), none, []⟩,
     ⟨some 21, .mv (.t 0), none, []⟩,
     ⟨some 22, .bin .sub (.t 20) (.t 21), none, []⟩,
     ⟨some 23, .mv (.t 2), none, []⟩,
     ⟨some 11, .mv (.t 22), none, []⟩,
     ⟨some 12, .mv (.t 23), none, []⟩] none) <|
  .seq (.seq (.region [
      ⟨some 24, .mv (.t 11), none, []⟩,
      ⟨some 25, .bin .lss (.t 24) (.c (.int .i64 0)), none, []⟩] none) <|
   .cond (.t 25) (.region [
      ⟨some 26, .mv (.t 11), none, []⟩,
      ⟨some 27, .un .neg (.t 26), none, []⟩,
      ⟨some 28, .mv (.t 3), none, []⟩,
      ⟨some 11, .mv (.t 27), none, []⟩,
      ⟨some 12, .mv (.t 28), none, []⟩] none) <|
   .skip) <|
  .seq (.block 0 <|
   .seq (.region [
      ⟨some 30, .mv (.t 11), none, []⟩,
      ⟨some 31, .bin .eql (.t 30) (.c (.int .i64 0)), none, []⟩,
      ⟨some 29, .mv (.t 31), none, []⟩] none) <|
   .cond (.t 29) (.seq (.region [
       ⟨some 8, .mv (.c (.int .i64 0)), none, []⟩,
       ⟨some 9, .mv (.c (.bool true)), none, []⟩,
       ⟨some 10, .mv (.c (.int .i64 0)), none, []⟩] none) <|
    .ret) <|
   .seq (.region [
      ⟨some 33, .mv (.t 12), none, []⟩,
      ⟨some 34, .bin .eql (.t 33) (.c (.int .i64 0)), none, []⟩,
      ⟨some 32, .mv (.t 34), none, []⟩] none) <|
   .cond (.t 32) (.seq (.region [
       ⟨some 8, .mv (.c (.int .i64 0)), none, []⟩,
       ⟨some 9, .mv (.c (.bool false)), none, []⟩,
       ⟨some 10, .mv (.c (.int .i64 0)), none, []⟩] none) <|
    .ret) <|
   .skip) <|
  .seq (.region [
     ⟨some 35, .mv (.t 11), none, []⟩,
     ⟨some 36, .mv (.t 12), none, []⟩,
     ⟨some 37, .bin .add (.t 35) (.t 36), none, []⟩,
     ⟨some 38, .bin .sub (.t 37) (.c (.int .i64 1)), none, []⟩,
     ⟨some 39, .mv (.t 12), none, []⟩,
     ⟨some 40, .bin .quo (.t 38) (.t 39), none, []⟩,
     ⟨some 8, .mv (.t 40), none, []⟩,
     ⟨some 9, .mv (.c (.bool true)), none, []⟩,
     ⟨some 10, .mv (.c (.int .i64 0)), none, []⟩] none) <|
  .ret
abbrev n_ramp_Steps : Nat := 9
theorem b_ramp_Steps : bodyOf prog 9 [] = some (c_ramp_Steps, [.t 8, .t 9, .t 10], 41) := by kernel_rfl

def c_ramp_Path : ACode :=
  .seq (.region [
     ⟨some 10, .mv (.c (.nil)), none, []⟩,
     ⟨some 11, .mv (.c (.int .i64 0)), none, []⟩] none) <|
  .seq (.block 0 <|
   .seq (.region [
      ⟨some 14, .mv (.t 0), none, []⟩,
      ⟨some 15, .mv (.t 1), none, []⟩,
      ⟨some 16, .mv (.t 2), none, []⟩,
      ⟨some 17, .mv (.t 3), none, []⟩,
      ⟨some 18, .lit false 1 3 [.t 14, .t 15, .t 16, .t 17], none, []⟩,
      ⟨some 19, .call 27 [.t 18], none, []⟩,
      ⟨some 20, .un .not (.t 19), none, []⟩,
      ⟨some 13, .mv (.t 20), none, []⟩] none) <|
   .cond (.t 13) (.seq (.region [
       ⟨some 10, .mv (.c (.nil)), none, []⟩,
       ⟨some 11, .mv (.c (.int .i64 1)), none, []⟩] none) <|
    .ret) <|
   .seq (.region [
      ⟨some 22, .mv (.t 4), none, []⟩,
      ⟨some 23, .call 28 [.t 22, .c (.int .i64 4096)], none, []⟩,
      ⟨some 24, .un .not (.t 23), none, []⟩,
      ⟨some 21, .mv (.t 24), none, []⟩] none) <|
   .cond (.t 21) (.seq (.region [
       ⟨some 10, .mv (.c (.nil)), none, []⟩,
       ⟨some 11, .mv (.c (.int .i64 10)), none, []⟩] none) <|
    .ret) <|
   .skip) <|
  .seq (.region [
     ⟨some 12, .newsl 1 3, none, []⟩] none) <|
  .seq (.seq (.region [
      ⟨some 25, .mv (.t 4), none, []⟩,
      ⟨some 26, .mv (.c (.int .i64 0)), none, []⟩] none) <|
   .block 1 <|
   .loop <|
   .seq (.region [
      ⟨some 27, .bin .lss (.t 26) (.t 25), none, []⟩] none) <|
   .seq (.cond (.t 27) (.skip) <|
    .exit 1) <|
   .seq (.block 2 <|
    .seq (.region [
       ⟨some 28, .mv (.t 0), none, []⟩,
       ⟨some 29, .mv (.t 1), none, []⟩,
       ⟨some 30, .mv (.t 2), none, []⟩,
       ⟨some 31, .mv (.t 3), none, []⟩,
       ⟨some 32, .call 29 [.t 28, .t 29, .t 30, .t 31], none, []⟩,
       ⟨some 0, .mv (.t 32), none, []⟩] none) <|
    .region [
      ⟨some 33, .mv (.t 12), none, []⟩,
      ⟨some 34, .mv (.t 0), none, []⟩,
      ⟨some 35, .lit false 1 3 [.t 34], none, []⟩,
      ⟨some 36, .app 1 8 3 (.t 33) (.t 35), none, []⟩,
      ⟨some 12, .mv (.t 36), none, []⟩] none) <|
   .region [
     ⟨some 37, .bin .add (.t 26) (.c (.int .i64 1)), none, []⟩,
     ⟨some 26, .mv (.t 37), none, []⟩] none) <|
  .seq (.region [
     ⟨some 38, .mv (.t 12), none, []⟩,
     ⟨some 10, .mv (.t 38), none, []⟩,
     ⟨some 11, .mv (.c (.int .i64 0)), none, []⟩] none) <|
  .ret
abbrev n_ramp_Path : Nat := 10
theorem b_ramp_Path : bodyOf prog 10 [12] = some (c_ramp_Path, [.t 10, .t 11], 39) := by kernel_rfl

def c_ref01_Same : ACode :=
  .seq (.region [
     ⟨some 4, .mv (.c (.bool false)), none, []⟩] none) <|
  .seq (.seq (.region [
      ⟨some 6, .mv (.t 0), none, []⟩,
      ⟨some 7, .len (.t 6), none, []⟩,
      ⟨some 8, .mv (.t 1), none, []⟩,
      ⟨some 9, .len (.t 8), none, []⟩,
      ⟨some 10, .bin .neq (.t 7) (.t 9), none, []⟩] none) <|
   .cond (.t 10) (.seq (.region [
       ⟨some 4, .mv (.c (.bool false)), none, []⟩] none) <|
    .ret) <|
   .skip) <|
  .seq (.seq (.region [
      ⟨some 11, .mv (.t 0), none, []⟩,
      ⟨some 12, .len (.t 11), none, []⟩,
      ⟨some 13, .mv (.c (.int .i64 0)), none, []⟩] none) <|
   .block 0 <|
   .loop <|
   .seq (.region [
      ⟨some 14, .bin .lss (.t 13) (.t 12), none, []⟩] none) <|
   .seq (.cond (.t 14) (.skip) <|
    .exit 0) <|
   .seq (.block 1 <|
    .seq (.region [
       ⟨some 15, .mv (.t 13), none, []⟩,
       ⟨some 5, .mv (.t 15), none, []⟩] none) <|
    .seq (.region [
       ⟨some 16, .mv (.t 0), none, []⟩,
       ⟨some 17, .mv (.t 5), none, []⟩,
       ⟨some 18, .ixs 1 (.t 16) (.t 17), none, [0, 1]⟩,
       ⟨some 19, .load false 1 (.t 18), none, [2, 0, 1]⟩,
       ⟨some 20, .mv (.t 1), none, []⟩,
       ⟨some 21, .mv (.t 5), none, []⟩,
       ⟨some 22, .ixs 1 (.t 20) (.t 21), none, [4, 5]⟩,
       ⟨some 23, .load false 1 (.t 22), none, [6, 4, 5]⟩,
       ⟨some 24, .bin .neq (.t 19) (.t 23), none, [3, 7, 2, 0, 1, 6, 4, 5]⟩] (some 0)) <|
    .cond (.t 24) (.seq (.region [
        ⟨some 4, .mv (.c (.bool false)), none, []⟩] none) <|
     .ret) <|
    .skip) <|
   .region [
     ⟨some 25, .bin .add (.t 13) (.c (.int .i64 1)), none, []⟩,
     ⟨some 13, .mv (.t 25), none, []⟩] none) <|
  .seq (.region [
     ⟨some 4, .mv (.c (.bool true)), none, []⟩] none) <|
  .ret
abbrev n_ref01_Same : Nat := 11
theorem b_ref01_Same : bodyOf prog 11 [] = some (c_ref01_Same, [.t 4], 26) := by kernel_rfl

def c_law21_awake : ACode :=
  .seq (.region [
     ⟨some 0, .mv (.c (.bool false)), none, []⟩] none) <|
  .seq (.region [
     ⟨some 7, .call 10 [.c (.int .i64 10), .c (.int .i64 25), .c (.int .i64 6), .c (.int .i64 4), .c (.int .i64 4)], none, []⟩,
     ⟨some 6, .mv (.t 7), none, []⟩,
     ⟨some 8, .ext (.t 6) 0, none, []⟩,
     ⟨some 9, .ext (.t 6) 1, none, []⟩,
     ⟨some 1, .mv (.t 8), none, []⟩,
     ⟨some 2, .mv (.t 9), none, []⟩] none) <|
  .seq (.region [
     ⟨some 11, .call 9 [.c (.int .i64 10), .c (.int .i64 25), .c (.int .i64 6), .c (.int .i64 4)], none, []⟩,
     ⟨some 10, .mv (.t 11), none, []⟩,
     ⟨some 12, .ext (.t 10) 0, none, []⟩,
     ⟨some 13, .ext (.t 10) 1, none, []⟩,
     ⟨some 14, .ext (.t 10) 2, none, []⟩,
     ⟨some 3, .mv (.t 12), none, []⟩,
     ⟨some 4, .mv (.t 13), none, []⟩,
     ⟨some 5, .mv (.t 14), none, []⟩] none) <|
  .seq (.region [
     ⟨some 15, .mv (.t 2), none, []⟩,
     ⟨some 16, .bin .eql (.t 15) (.c (.int .i64 0)), none, []⟩,
     ⟨some 17, .mv (.t 16), none, []⟩,
     ⟨some 18, .mv (.t 5), some (17, true), []⟩,
     ⟨some 19, .bin .eql (.t 18) (.c (.int .i64 0)), some (17, true), []⟩,
     ⟨some 20, .pick (.t 17) (.t 19) (.c (.bool false)), none, []⟩,
     ⟨some 21, .mv (.t 20), none, []⟩,
     ⟨some 22, .mv (.t 4), some (21, true), []⟩,
     ⟨some 23, .pick (.t 21) (.t 22) (.c (.bool false)), none, []⟩,
     ⟨some 24, .mv (.t 23), none, []⟩,
     ⟨some 25, .mv (.t 3), some (24, true), []⟩,
     ⟨some 26, .bin .eql (.t 25) (.c (.int .i64 3)), some (24, true), []⟩,
     ⟨some 27, .pick (.t 24) (.t 26) (.c (.bool false)), none, []⟩,
     ⟨some 28, .mv (.t 27), none, []⟩,
     ⟨some 29, .mv (.t 1), some (28, true), []⟩,
     ⟨some 30, .lit false 1 3 [.c (.int .i64 16), .c (.int .i64 22), .c (.int .i64 25), .c (.int .i64 25)], some (28, true), []⟩,
     ⟨some 31, .call 11 [.t 29, .t 30], some (28, true), []⟩,
     ⟨some 32, .pick (.t 28) (.t 31) (.c (.bool false)), none, []⟩,
     ⟨some 0, .mv (.t 32), none, []⟩] none) <|
  .ret
abbrev n_law21_awake : Nat := 12
theorem b_law21_awake : bodyOf prog 12 [] = some (c_law21_awake, [.t 0], 33) := by kernel_rfl

def c_ramp_Within : ACode :=
  .seq (.region [
     ⟨some 8, .mv (.c (.int .i64 0)), none, []⟩,
     ⟨some 9, .mv (.c (.bool false)), none, []⟩] none) <|
  .seq (.seq (.region [
      ⟨some 12, .mv (.t 1), none, []⟩,
      ⟨some 13, .mv (.t 2), none, []⟩,
      ⟨some 14, .mv (.t 3), none, []⟩,
      ⟨some 15, .lit false 1 3 [.t 12, .t 13, .t 14], none, []⟩,
      ⟨some 16, .call 27 [.t 15], none, []⟩,
      ⟨some 17, .un .not (.t 16), none, []⟩] none) <|
   .cond (.t 17) (.seq (.region [
       ⟨some 8, .mv (.c (.int .i64 0)), none, []⟩,
       ⟨some 9, .mv (.c (.bool false)), none, []⟩] none) <|
    .ret) <|
   .skip) <|
  .seq (.seq (.region [
      ⟨some 18, .mv (.t 0), none, []⟩,
      ⟨some 19, .len (.t 18), none, []⟩,
      ⟨some 20, .mv (.c (.int .i64 0)), none, []⟩] none) <|
   .block 0 <|
   .loop <|
   .seq (.region [
      ⟨some 21, .bin .lss (.t 20) (.t 19), none, []⟩] none) <|
   .seq (.cond (.t 21) (.skip) <|
    .exit 0) <|
   .seq (.block 1 <|
    .seq (.region [
       ⟨some 22, .mv (.t 20), none, []⟩,
       ⟨some 23, .ixs 1 (.t 18) (.t 20), none, []⟩,
       ⟨some 24, .load false 1 (.t 23), none, []⟩,
       ⟨some 10, .mv (.t 22), none, []⟩,
       ⟨some 11, .mv (.t 24), none, []⟩] none) <|
    .seq (.seq (.region [
        ⟨some 25, .mv (.t 11), none, []⟩,
        ⟨some 26, .lit false 1 3 [.t 25], none, []⟩,
        ⟨some 27, .call 27 [.t 26], none, []⟩,
        ⟨some 28, .un .not (.t 27), none, []⟩,
        ⟨some 29, .mv (.t 28), none, []⟩,
        ⟨some 30, .mv (.t 11), some (29, false), []⟩,
        ⟨some 31, .mv (.t 1), some (29, false), []⟩,
        ⟨some 32, .bin .sub (.t 30) (.t 31), some (29, false), []⟩,
        ⟨some 33, .mv (.t 2), some (29, false), []⟩,
        ⟨some 34, .bin .gtr (.t 32) (.t 33), some (29, false), []⟩,
        ⟨some 35, .pick (.t 29) (.c (.bool true)) (.t 34), none, []⟩,
        ⟨some 36, .mv (.t 35), none, []⟩,
        ⟨some 37, .mv (.t 1), some (36, false), []⟩,
        ⟨some 38, .mv (.t 11), some (36, false), []⟩,
        ⟨some 39, .bin .sub (.t 37) (.t 38), some (36, false), []⟩,
        ⟨some 40, .mv (.t 3), some (36, false), []⟩,
        ⟨some 41, .bin .gtr (.t 39) (.t 40), some (36, false), []⟩,
        ⟨some 42, .pick (.t 36) (.c (.bool true)) (.t 41), none, []⟩] none) <|
     .cond (.t 42) (.seq (.region [
         ⟨some 43, .mv (.t 10), none, []⟩,
         ⟨some 8, .mv (.t 43), none, []⟩,
         ⟨some 9, .mv (.c (.bool false)), none, []⟩] none) <|
      .ret) <|
     .skip) <|
    .region [
      ⟨some 44, .mv (.t 11), none, []⟩,
      ⟨some 1, .mv (.t 44), none, []⟩] none) <|
   .region [
     ⟨some 45, .bin .add (.t 20) (.c (.int .i64 1)), none, []⟩,
     ⟨some 20, .mv (.t 45), none, []⟩] none) <|
  .seq (.region [
     ⟨some 8, .mv (.c (.int .i64 0)), none, []⟩,
     ⟨some 9, .mv (.c (.bool true)), none, []⟩] none) <|
  .ret
abbrev n_ramp_Within : Nat := 13
theorem b_ramp_Within : bodyOf prog 13 [] = some (c_ramp_Within, [.t 8, .t 9], 46) := by kernel_rfl

def c_ramp_Bounds : ACode :=
  .seq (.region [
     ⟨some 8, .alloc 2 35 (.agg [.int .i64 0, .int .i64 0]), none, []⟩,
     ⟨some 9, .mv (.c (.int .i64 0)), none, []⟩] none) <|
  .seq (.block 0 <|
   .seq (.region [
      ⟨some 11, .mv (.t 0), none, []⟩,
      ⟨some 12, .mv (.t 1), none, []⟩,
      ⟨some 13, .mv (.t 2), none, []⟩,
      ⟨some 14, .lit false 1 3 [.t 11, .t 12, .t 13], none, []⟩,
      ⟨some 15, .call 27 [.t 14], none, []⟩,
      ⟨some 16, .un .not (.t 15), none, []⟩,
      ⟨some 10, .mv (.t 16), none, []⟩] none) <|
   .cond (.t 10) (.seq (.region [
       ⟨some 17, .build [.int .i64 0, .int .i64 0] [], none, []⟩,
       ⟨none, .store 2 (.t 8) (.t 17), none, []⟩,
       ⟨some 9, .mv (.c (.int .i64 1)), none, []⟩] none) <|
    .ret) <|
   .seq (.region [
      ⟨some 19, .mv (.t 3), none, []⟩,
      ⟨some 20, .call 28 [.t 19, .c (.int .i64 4096)], none, []⟩,
      ⟨some 21, .un .not (.t 20), none, []⟩,
      ⟨some 18, .mv (.t 21), none, []⟩] none) <|
   .cond (.t 18) (.seq (.region [
       ⟨some 22, .build [.int .i64 0, .int .i64 0] [], none, []⟩,
       ⟨none, .store 2 (.t 8) (.t 22), none, []⟩,
       ⟨some 9, .mv (.c (.int .i64 10)), none, []⟩] none) <|
    .ret) <|
   .skip) <|
  .seq (.region [
     ⟨some 23, .mv (.t 0), none, []⟩,
     ⟨some 24, .mv (.t 2), none, []⟩,
     ⟨some 25, .mv (.t 3), none, []⟩,
     ⟨some 26, .bin .mul (.t 24) (.t 25), none, []⟩,
     ⟨some 27, .bin .sub (.t 23) (.t 26), none, []⟩,
     ⟨some 28, .mnx true (.t 27) [.c (.int .i64 0)], none, []⟩,
     ⟨some 29, .mv (.t 0), none, []⟩,
     ⟨some 30, .mv (.t 1), none, []⟩,
     ⟨some 31, .mv (.t 3), none, []⟩,
     ⟨some 32, .bin .mul (.t 30) (.t 31), none, []⟩,
     ⟨some 33, .bin .add (.t 29) (.t 32), none, []⟩,
     ⟨some 34, .mnx false (.t 33) [.c (.int .i64 1073741824)], none, []⟩,
     ⟨some 35, .build [.int .i64 0, .int .i64 0] [(0, 1, .t 28), (1, 1, .t 34)], none, []⟩,
     ⟨none, .store 2 (.t 8) (.t 35), none, []⟩,
     ⟨some 9, .mv (.c (.int .i64 0)), none, []⟩] none) <|
  .ret
abbrev n_ramp_Bounds : Nat := 14
theorem b_ramp_Bounds : bodyOf prog 14 [] = some (c_ramp_Bounds, [.c 8 true 2, .t 9], 36) := by kernel_rfl

def c_mk_New : ACode :=
  .seq (.region [
     ⟨some 2, .mv (.c (.nilptr)), none, []⟩] none) <|
  .seq (.region [
     ⟨some 3, .mv (.t 0), none, []⟩,
     ⟨some 4, .build [.nil, .int .i64 0] [(0, 1, .t 3)], none, []⟩,
     ⟨some 5, .box 2 58 (.t 4), none, []⟩,
     ⟨some 2, .mv (.t 5), none, []⟩] none) <|
  .ret
abbrev n_mk_New : Nat := 15
theorem b_mk_New : bodyOf prog 15 [] = some (c_mk_New, [.t 2], 6) := by kernel_rfl

def c_mk_Deck_Next : ACode :=
  .seq (.region [
     ⟨some 4, .mv (.c (.int .i64 0)), none, []⟩] none) <|
  .seq (.seq (.region [
      ⟨some 6, .mv (.t 1), none, []⟩,
      ⟨some 7, .bin .lss (.t 6) (.c (.int .i64 1)), none, [0]⟩,
      ⟨some 8, .mv (.t 7), none, [1, 0]⟩,
      ⟨some 9, .mv (.t 0), some (8, false), [2, 1, 0]⟩,
      ⟨some 10, .nilchk (.t 9), some (8, false), [3, 2, 1, 0]⟩,
      ⟨some 11, .fa 1 (.t 10), some (8, false), [4, 2, 3, 1, 0]⟩,
      ⟨some 12, .load false 1 (.t 11), some (8, false), [5, 2, 4, 3, 1, 0]⟩,
      ⟨some 13, .mv (.t 0), some (8, false), [2, 1, 0]⟩,
      ⟨some 14, .nilchk (.t 13), some (8, false), [7, 2, 1, 0]⟩,
      ⟨some 15, .fa 0 (.t 14), some (8, false), [8, 2, 7, 1, 0]⟩,
      ⟨some 16, .load false 1 (.t 15), some (8, false), [9, 2, 8, 7, 1, 0]⟩,
      ⟨some 17, .len (.t 16), some (8, false), [10, 2, 9, 8, 7, 1, 0]⟩,
      ⟨some 18, .bin .geq (.t 12) (.t 17), some (8, false), [6, 11, 2, 5, 4, 3, 1, 0, 10, 9, 8, 7]⟩,
      ⟨some 19, .pick (.t 8) (.c (.bool true)) (.t 18), none, [2, 12, 1, 0, 6, 11, 5, 4, 3, 10, 9, 8, 7]⟩] (some 0)) <|
   .cond (.t 19) (.seq (.region [
       ⟨some 4, .mv (.c (.int .i64 0)), none, []⟩] none) <|
    .ret) <|
   .skip) <|
  .seq (.region [
     ⟨some 20, .mv (.t 0), none, []⟩,
     ⟨some 21, .nilchk (.t 20), none, [0]⟩,
     ⟨some 22, .fa 0 (.t 21), none, [1, 0]⟩,
     ⟨some 23, .load false 1 (.t 22), none, [2, 1, 0]⟩,
     ⟨some 24, .mv (.t 0), none, []⟩,
     ⟨some 25, .nilchk (.t 24), none, [4]⟩,
     ⟨some 26, .fa 1 (.t 25), none, [5, 4]⟩,
     ⟨some 27, .load false 1 (.t 26), none, [6, 5, 4]⟩,
     ⟨some 28, .ixs 1 (.t 23) (.t 27), none, [3, 7, 2, 1, 0, 6, 5, 4]⟩,
     ⟨some 29, .load false 1 (.t 28), none, [8, 3, 7, 2, 1, 0, 6, 5, 4]⟩,
     ⟨some 5, .mv (.t 29), none, [9, 0, 1, 2, 3, 4, 5, 6, 7, 8]⟩] (some 0)) <|
  .seq (.region [
     ⟨some 30, .mv (.t 0), none, []⟩,
     ⟨some 31, .nilchk (.t 30), none, []⟩,
     ⟨some 32, .fa 1 (.t 31), none, []⟩,
     ⟨some 33, .load false 1 (.t 32), none, []⟩,
     ⟨some 34, .bin .add (.t 33) (.c (.int .i64 1)), none, []⟩,
     ⟨some 35, .nilchk (.t 30), none, []⟩,
     ⟨some 36, .fa 1 (.t 35), none, []⟩,
     ⟨none, .store 1 (.t 36) (.t 34), none, []⟩] none) <|
  .seq (.region [
     ⟨some 37, .mv (.t 5), none, []⟩,
     ⟨some 38, .mv (.t 1), none, []⟩,
     ⟨some 39, .call 8 [.t 37, .t 38], none, []⟩,
     ⟨some 4, .mv (.t 39), none, []⟩] none) <|
  .ret
abbrev n_mk_Deck_Next : Nat := 16
theorem b_mk_Deck_Next : bodyOf prog 16 [] = some (c_mk_Deck_Next, [.t 4], 40) := by kernel_rfl

def c_law21_due : ACode :=
  .seq (.region [
     ⟨some 2, .mv (.c (.nil)), none, []⟩] none) <|
  .seq (.region [
     ⟨some 3, .newsl 2 35, none, []⟩] none) <|
  .seq (.seq (.region [
      ⟨some 6, .mv (.t 0), none, []⟩,
      ⟨some 7, .call 16 [.t 6, .c (.int .i64 9)], none, []⟩,
      ⟨some 4, .mv (.t 7), none, []⟩] none) <|
   .block 0 <|
   .loop <|
   .seq (.seq (.region [
       ⟨some 8, .mv (.t 4), none, []⟩,
       ⟨some 9, .bin .gtr (.t 8) (.c (.int .i64 0)), none, []⟩] none) <|
    .cond (.t 9) (.skip) <|
    .exit 0) <|
   .seq (.block 1 <|
    .seq (.region [
       ⟨some 12, .mv (.t 0), none, []⟩,
       ⟨some 13, .call 16 [.t 12, .c (.int .i64 30)], none, []⟩,
       ⟨some 5, .mv (.t 13), none, []⟩] none) <|
    .region [
      ⟨some 14, .mv (.t 3), none, []⟩,
      ⟨some 15, .mv (.t 5), none, []⟩,
      ⟨some 16, .mv (.t 5), none, []⟩,
      ⟨some 17, .mv (.t 0), none, []⟩,
      ⟨some 18, .call 16 [.t 17, .c (.int .i64 25)], none, []⟩,
      ⟨some 19, .bin .add (.t 16) (.t 18), none, []⟩,
      ⟨some 20, .build [.int .i64 0, .int .i64 0] [(0, 1, .t 15), (1, 1, .t 19)], none, []⟩,
      ⟨some 21, .lit false 2 35 [.t 20], none, []⟩,
      ⟨some 22, .app 2 16 35 (.t 14) (.t 21), none, []⟩,
      ⟨some 3, .mv (.t 22), none, []⟩] none) <|
   .region [
     ⟨some 10, .mv (.t 4), none, []⟩,
     ⟨some 11, .bin .sub (.t 10) (.c (.int .i64 1)), none, []⟩,
     ⟨some 4, .mv (.t 11), none, []⟩] none) <|
  .seq (.seq (.region [
      ⟨some 23, .mv (.t 3), none, []⟩,
      ⟨some 24, .len (.t 23), none, []⟩,
      ⟨some 25, .bin .gtr (.t 24) (.c (.int .i64 0)), none, []⟩,
      ⟨some 26, .mv (.t 25), none, []⟩,
      ⟨some 27, .mv (.t 0), some (26, true), []⟩,
      ⟨some 28, .call 16 [.t 27, .c (.int .i64 12)], some (26, true), []⟩,
      ⟨some 29, .bin .eql (.t 28) (.c (.int .i64 11)), some (26, true), []⟩,
      ⟨some 30, .pick (.t 26) (.t 29) (.c (.bool false)), none, []⟩] none) <|
   .cond (.t 30) (.region [
      ⟨some 31, .mv (.t 3), none, []⟩,
      ⟨some 32, .mv (.t 0), none, []⟩,
      ⟨some 33, .mv (.t 3), none, []⟩,
      ⟨some 34, .len (.t 33), none, []⟩,
      ⟨some 35, .call 16 [.t 32, .t 34], none, []⟩,
      ⟨some 36, .ixs 2 (.t 31) (.t 35), none, []⟩,
      ⟨some 37, .fa 1 (.t 36), none, []⟩,
      ⟨none, .store 1 (.t 37) (.c (.int .i64 0)), none, []⟩] none) <|
   .skip) <|
  .seq (.region [
     ⟨some 38, .mv (.t 3), none, []⟩,
     ⟨some 2, .mv (.t 38), none, []⟩] none) <|
  .ret
abbrev n_law21_due : Nat := 17
theorem b_law21_due : bodyOf prog 17 [3] = some (c_law21_due, [.t 2], 39) := by kernel_rfl

def c_ramp_Latest : ACode :=
  .seq (.region [
     ⟨some 8, .mv (.c (.nil)), none, []⟩,
     ⟨some 9, .mv (.c (.bool false)), none, []⟩,
     ⟨some 10, .mv (.c (.int .i64 0)), none, []⟩] none) <|
  .seq (.seq (.region [
      ⟨some 14, .mv (.t 1), none, []⟩,
      ⟨some 15, .len (.t 14), none, []⟩,
      ⟨some 16, .bin .gtr (.t 15) (.c (.int .i64 4096)), none, []⟩] none) <|
   .cond (.t 16) (.seq (.region [
       ⟨some 8, .mv (.c (.nil)), none, []⟩,
       ⟨some 9, .mv (.c (.bool false)), none, []⟩,
       ⟨some 10, .mv (.c (.int .i64 10)), none, []⟩] none) <|
    .ret) <|
   .skip) <|
  .seq (.seq (.region [
      ⟨some 17, .mv (.t 0), none, []⟩,
      ⟨some 18, .mv (.t 2), none, []⟩,
      ⟨some 19, .mv (.t 3), none, []⟩,
      ⟨some 20, .lit false 1 3 [.t 17, .t 18, .t 19], none, []⟩,
      ⟨some 21, .call 27 [.t 20], none, []⟩,
      ⟨some 22, .un .not (.t 21), none, []⟩,
      ⟨some 23, .mv (.t 22), none, []⟩,
      ⟨some 24, .mv (.t 1), some (23, false), []⟩,
      ⟨some 25, .call 30 [.t 24, .c (.func 31 [])], some (23, false), []⟩,
      ⟨some 26, .pick (.t 23) (.c (.bool true)) (.t 25), none, []⟩] none) <|
   .cond (.t 26) (.seq (.region [
       ⟨some 8, .mv (.c (.nil)), none, []⟩,
       ⟨some 9, .mv (.c (.bool false)), none, []⟩,
       ⟨some 10, .mv (.c (.int .i64 1)), none, []⟩] none) <|
    .ret) <|
   .skip) <|
  .seq (.region [
     ⟨some 28, .mv (.t 0), none, []⟩,
     ⟨some 29, .mv (.t 0), none, []⟩,
     ⟨some 30, .build [.int .i64 0, .int .i64 0] [(0, 1, .t 28), (1, 1, .t 29)], none, []⟩,
     ⟨some 31, .mv (.t 1), none, []⟩,
     ⟨some 32, .mv (.t 2), none, []⟩,
     ⟨some 33, .mv (.t 3), none, []⟩,
     ⟨some 34, .call 32 [.t 30, .t 31, .t 32, .t 33], none, []⟩,
     ⟨some 27, .mv (.t 34), none, []⟩,
     ⟨some 35, .ext (.t 27) 0, none, []⟩,
     ⟨some 36, .ext (.t 27) 1, none, []⟩,
     ⟨some 11, .mv (.t 35), none, []⟩,
     ⟨some 12, .mv (.t 36), none, []⟩] none) <|
  .seq (.seq (.region [
      ⟨some 37, .mv (.t 12), none, []⟩,
      ⟨some 38, .un .not (.t 37), none, []⟩] none) <|
   .cond (.t 38) (.seq (.region [
       ⟨some 8, .mv (.c (.nil)), none, []⟩,
       ⟨some 9, .mv (.c (.bool false)), none, []⟩,
       ⟨some 10, .mv (.c (.int .i64 0)), none, []⟩] none) <|
    .ret) <|
   .skip) <|
  .seq (.region [
     ⟨some 40, .build [.int .i64 0, .int .i64 0] [(1, 1, .c (.int .i64 1073741824))], none, []⟩,
     ⟨some 41, .mv (.t 11), none, []⟩,
     ⟨some 42, .call 33 [.t 41], none, []⟩,
     ⟨some 43, .mv (.t 3), none, []⟩,
     ⟨some 44, .mv (.t 2), none, []⟩,
     ⟨some 45, .call 32 [.t 40, .t 42, .t 43, .t 44], none, []⟩,
     ⟨some 39, .mv (.t 45), none, []⟩,
     ⟨some 46, .ext (.t 39) 0, none, []⟩,
     ⟨some 47, .ext (.t 39) 1, none, []⟩,
     ⟨some 13, .mv (.t 46), none, []⟩,
     ⟨some 12, .mv (.t 47), none, []⟩] none) <|
  .seq (.seq (.region [
      ⟨some 48, .mv (.t 12), none, []⟩,
      ⟨some 49, .un .not (.t 48), none, []⟩] none) <|
   .cond (.t 49) (.seq (.region [
       ⟨some 8, .mv (.c (.nil)), none, []⟩,
       ⟨some 9, .mv (.c (.bool false)), none, []⟩,
       ⟨some 10, .mv (.c (.int .i64 0)), none, []⟩] none) <|
    .ret) <|
   .skip) <|
  .seq (.region [
     ⟨some 50, .mv (.t 13), none, []⟩,
     ⟨some 51, .call 33 [.t 50], none, []⟩,
     ⟨some 8, .mv (.t 51), none, []⟩,
     ⟨some 9, .mv (.c (.bool true)), none, []⟩,
     ⟨some 10, .mv (.c (.int .i64 0)), none, []⟩] none) <|
  .ret
abbrev n_ramp_Latest : Nat := 18
theorem b_ramp_Latest : bodyOf prog 18 [] = some (c_ramp_Latest, [.t 8, .t 9, .t 10], 52) := by kernel_rfl

def c_ref01_Clamp : ACode :=
  .seq (.region [
     ⟨some 3, .box 2 35 (.t 1), none, []⟩,
     ⟨some 4, .mv (.c (.int .i64 0)), none, []⟩] none) <|
  .seq (.seq (.region [
      ⟨some 5, .fa 0 (.t 3), none, []⟩,
      ⟨some 6, .load false 1 (.t 5), none, []⟩,
      ⟨some 7, .fa 1 (.t 3), none, []⟩,
      ⟨some 8, .load false 1 (.t 7), none, []⟩,
      ⟨some 9, .bin .gtr (.t 6) (.t 8), none, []⟩] none) <|
   .cond (.t 9) (.seq (.region [
       ⟨some 10, .fa 0 (.t 3), none, []⟩,
       ⟨some 11, .load false 1 (.t 10), none, []⟩,
       ⟨some 4, .mv (.t 11), none, []⟩] none) <|
    .ret) <|
   .skip) <|
  .seq (.region [
     ⟨some 12, .fa 0 (.t 3), none, []⟩,
     ⟨some 13, .load false 1 (.t 12), none, []⟩,
     ⟨some 14, .mv (.t 0), none, []⟩,
     ⟨some 15, .fa 1 (.t 3), none, []⟩,
     ⟨some 16, .load false 1 (.t 15), none, []⟩,
     ⟨some 17, .mnx false (.t 14) [.t 16], none, []⟩,
     ⟨some 18, .mnx true (.t 13) [.t 17], none, []⟩,
     ⟨some 4, .mv (.t 18), none, []⟩] none) <|
  .ret
abbrev n_ref01_Clamp : Nat := 19
theorem b_ref01_Clamp : bodyOf prog 19 [] = some (c_ref01_Clamp, [.t 4], 19) := by kernel_rfl

def c_mk_Flows : ACode :=
  .seq (.region [
     ⟨some 6, .mv (.c (.nil)), none, []⟩] none) <|
  .seq (.region [
     ⟨some 7, .newsl 1 3, none, []⟩] none) <|
  .seq (.seq (.region [
      ⟨some 8, .mv (.t 1), none, []⟩,
      ⟨some 9, .mv (.c (.int .i64 0)), none, []⟩] none) <|
   .block 0 <|
   .loop <|
   .seq (.region [
      ⟨some 10, .bin .lss (.t 9) (.t 8), none, []⟩] none) <|
   .seq (.cond (.t 10) (.skip) <|
    .exit 0) <|
   .seq (.block 1 <|
    .region [
      ⟨some 11, .mv (.t 7), none, []⟩,
      ⟨some 12, .mv (.t 0), none, []⟩,
      ⟨some 13, .mv (.t 2), none, []⟩,
      ⟨some 14, .call 16 [.t 12, .t 13], none, []⟩,
      ⟨some 15, .lit false 1 3 [.t 14], none, []⟩,
      ⟨some 16, .app 1 8 3 (.t 11) (.t 15), none, []⟩,
      ⟨some 7, .mv (.t 16), none, []⟩] none) <|
   .region [
     ⟨some 17, .bin .add (.t 9) (.c (.int .i64 1)), none, []⟩,
     ⟨some 9, .mv (.t 17), none, []⟩] none) <|
  .seq (.region [
     ⟨some 18, .mv (.t 7), none, []⟩,
     ⟨some 6, .mv (.t 18), none, []⟩] none) <|
  .ret
abbrev n_mk_Flows : Nat := 20
theorem b_mk_Flows : bodyOf prog 20 [7] = some (c_mk_Flows, [.t 6], 19) := by kernel_rfl

def c_ref21_Path : ACode :=
  .seq (.region [
     ⟨some 10, .mv (.c (.nil)), none, []⟩,
     ⟨some 11, .mv (.c (.int .i64 0)), none, []⟩] none) <|
  .seq (.seq (.region [
      ⟨some 13, .mv (.t 0), none, []⟩,
      ⟨some 14, .mv (.t 1), none, []⟩,
      ⟨some 15, .mv (.t 2), none, []⟩,
      ⟨some 16, .mv (.t 3), none, []⟩,
      ⟨some 17, .lit false 1 3 [.t 13, .t 14, .t 15, .t 16], none, []⟩,
      ⟨some 18, .call 34 [.t 17], none, []⟩,
      ⟨some 19, .un .not (.t 18), none, []⟩] none) <|
   .cond (.t 19) (.seq (.region [
       ⟨some 10, .mv (.c (.nil)), none, []⟩,
       ⟨some 11, .mv (.c (.int .i64 1)), none, []⟩] none) <|
    .ret) <|
   .skip) <|
  .seq (.seq (.region [
      ⟨some 20, .mv (.t 4), none, []⟩,
      ⟨some 21, .call 35 [.t 20, .c (.int .i64 4096)], none, []⟩,
      ⟨some 22, .un .not (.t 21), none, []⟩] none) <|
   .cond (.t 22) (.seq (.region [
       ⟨some 10, .mv (.c (.nil)), none, []⟩,
       ⟨some 11, .mv (.c (.int .i64 10)), none, []⟩] none) <|
    .ret) <|
   .skip) <|
  .seq (.region [
     ⟨some 12, .newsl 1 3, none, []⟩] none) <|
  .seq (.seq (.region [
      ⟨some 23, .mv (.t 4), none, []⟩,
      ⟨some 24, .mv (.c (.int .i64 0)), none, []⟩] none) <|
   .block 0 <|
   .loop <|
   .seq (.region [
      ⟨some 25, .bin .lss (.t 24) (.t 23), none, []⟩] none) <|
   .seq (.cond (.t 25) (.skip) <|
    .exit 0) <|
   .seq (.block 1 <|
    .seq (.region [
       ⟨some 26, .mv (.t 0), none, []⟩,
       ⟨some 27, .mv (.t 1), none, []⟩,
       ⟨some 28, .mv (.t 2), none, []⟩,
       ⟨some 29, .mv (.t 3), none, []⟩,
       ⟨some 30, .call 36 [.t 26, .t 27, .t 28, .t 29], none, []⟩,
       ⟨some 0, .mv (.t 30), none, []⟩] none) <|
    .region [
      ⟨some 31, .mv (.t 12), none, []⟩,
      ⟨some 32, .mv (.t 0), none, []⟩,
      ⟨some 33, .lit false 1 3 [.t 32], none, []⟩,
      ⟨some 34, .app 1 8 3 (.t 31) (.t 33), none, []⟩,
      ⟨some 12, .mv (.t 34), none, []⟩] none) <|
   .region [
     ⟨some 35, .bin .add (.t 24) (.c (.int .i64 1)), none, []⟩,
     ⟨some 24, .mv (.t 35), none, []⟩] none) <|
  .seq (.region [
     ⟨some 36, .mv (.t 12), none, []⟩,
     ⟨some 10, .mv (.t 36), none, []⟩,
     ⟨some 11, .mv (.c (.int .i64 0)), none, []⟩] none) <|
  .ret
abbrev n_ref21_Path : Nat := 21
theorem b_ref21_Path : bodyOf prog 21 [12] = some (c_ref21_Path, [.t 10, .t 11], 37) := by kernel_rfl

def c_ref21_Steps : ACode :=
  .seq (.region [
     ⟨some 8, .mv (.c (.int .i64 0)), none, []⟩,
     ⟨some 9, .mv (.c (.bool false)), none, []⟩,
     ⟨some 10, .mv (.c (.int .i64 0)), none, []⟩] none) <|
  .seq (.seq (.region [
      ⟨some 13, .mv (.t 0), none, []⟩,
      ⟨some 14, .mv (.t 1), none, []⟩,
      ⟨some 15, .mv (.t 2), none, []⟩,
      ⟨some 16, .mv (.t 3), none, []⟩,
      ⟨some 17, .lit false 1 3 [.t 13, .t 14, .t 15, .t 16], none, []⟩,
      ⟨some 18, .call 34 [.t 17], none, []⟩,
      ⟨some 19, .un .not (.t 18), none, []⟩] none) <|
   .cond (.t 19) (.seq (.region [
       ⟨some 8, .mv (.c (.int .i64 0)), none, []⟩,
       ⟨some 9, .mv (.c (.bool false)), none, []⟩,
       ⟨some 10, .mv (.c (.int .i64 1)), none, []⟩] none) <|
    .ret) <|
   .skip) <|
  .seq (.region [
     ⟨some 20, .mv (.t 1), none, []⟩,
     ⟨some 21, .mv (.t 0), none, []⟩,
     ⟨some 22, .bin .sub (.t 20) (.t 21), none, []⟩,
     ⟨some 23, .mv (.t 2), none, []⟩,
     ⟨some 11, .mv (.t 22), none, []⟩,
     ⟨some 12, .mv (.t 23), none, []⟩] none) <|
  .seq (.seq (.region [
      ⟨some 24, .mv (.t 11), none, []⟩,
      ⟨some 25, .bin .lss (.t 24) (.c (.int .i64 0)), none, []⟩] none) <|
   .cond (.t 25) (.region [
      ⟨some 26, .mv (.t 11), none, []⟩,
      ⟨some 27, .un .neg (.t 26), none, []⟩,
      ⟨some 28, .mv (.t 3), none, []⟩,
      ⟨some 11, .mv (.t 27), none, []⟩,
      ⟨some 12, .mv (.t 28), none, []⟩] none) <|
   .skip) <|
  .seq (.seq (.region [
      ⟨some 29, .mv (.t 11), none, []⟩,
      ⟨some 30, .bin .eql (.t 29) (.c (.int .i64 0)), none, []⟩] none) <|
   .cond (.t 30) (.seq (.region [
       ⟨some 8, .mv (.c (.int .i64 0)), none, []⟩,
       ⟨some 9, .mv (.c (.bool true)), none, []⟩,
       ⟨some 10, .mv (.c (.int .i64 0)), none, []⟩] none) <|
    .ret) <|
   .skip) <|
  .seq (.seq (.region [
      ⟨some 31, .mv (.t 12), none, []⟩,
      ⟨some 32, .bin .eql (.t 31) (.c (.int .i64 0)), none, []⟩] none) <|
   .cond (.t 32) (.seq (.region [
       ⟨some 8, .mv (.c (.int .i64 0)), none, []⟩,
       ⟨some 9, .mv (.c (.bool false)), none, []⟩,
       ⟨some 10, .mv (.c (.int .i64 0)), none, []⟩] none) <|
    .ret) <|
   .skip) <|
  .seq (.region [
     ⟨some 33, .mv (.t 11), none, []⟩,
     ⟨some 34, .mv (.t 12), none, []⟩,
     ⟨some 35, .bin .add (.t 33) (.t 34), none, []⟩,
     ⟨some 36, .bin .sub (.t 35) (.c (.int .i64 1)), none, []⟩,
     ⟨some 37, .mv (.t 12), none, []⟩,
     ⟨some 38, .bin .quo (.t 36) (.t 37), none, []⟩,
     ⟨some 8, .mv (.t 38), none, []⟩,
     ⟨some 9, .mv (.c (.bool true)), none, []⟩,
     ⟨some 10, .mv (.c (.int .i64 0)), none, []⟩] none) <|
  .ret
abbrev n_ref21_Steps : Nat := 22
theorem b_ref21_Steps : bodyOf prog 22 [] = some (c_ref21_Steps, [.t 8, .t 9, .t 10], 39) := by kernel_rfl

def c_ref21_Bounds : ACode :=
  .seq (.region [
     ⟨some 8, .alloc 2 35 (.agg [.int .i64 0, .int .i64 0]), none, []⟩,
     ⟨some 9, .mv (.c (.int .i64 0)), none, []⟩] none) <|
  .seq (.seq (.region [
      ⟨some 10, .mv (.t 0), none, []⟩,
      ⟨some 11, .mv (.t 1), none, []⟩,
      ⟨some 12, .mv (.t 2), none, []⟩,
      ⟨some 13, .lit false 1 3 [.t 10, .t 11, .t 12], none, []⟩,
      ⟨some 14, .call 34 [.t 13], none, []⟩,
      ⟨some 15, .un .not (.t 14), none, []⟩] none) <|
   .cond (.t 15) (.seq (.region [
       ⟨some 16, .build [.int .i64 0, .int .i64 0] [], none, []⟩,
       ⟨none, .store 2 (.t 8) (.t 16), none, []⟩,
       ⟨some 9, .mv (.c (.int .i64 1)), none, []⟩] none) <|
    .ret) <|
   .skip) <|
  .seq (.seq (.region [
      ⟨some 17, .mv (.t 3), none, []⟩,
      ⟨some 18, .call 35 [.t 17, .c (.int .i64 4096)], none, []⟩,
      ⟨some 19, .un .not (.t 18), none, []⟩] none) <|
   .cond (.t 19) (.seq (.region [
       ⟨some 20, .build [.int .i64 0, .int .i64 0] [], none, []⟩,
       ⟨none, .store 2 (.t 8) (.t 20), none, []⟩,
       ⟨some 9, .mv (.c (.int .i64 10)), none, []⟩] none) <|
    .ret) <|
   .skip) <|
  .seq (.region [
     ⟨some 21, .mv (.t 0), none, []⟩,
     ⟨some 22, .mv (.t 2), none, []⟩,
     ⟨some 23, .mv (.t 3), none, []⟩,
     ⟨some 24, .bin .mul (.t 22) (.t 23), none, []⟩,
     ⟨some 25, .bin .sub (.t 21) (.t 24), none, []⟩,
     ⟨some 26, .mnx true (.c (.int .i64 0)) [.t 25], none, []⟩,
     ⟨some 27, .mv (.t 0), none, []⟩,
     ⟨some 28, .mv (.t 1), none, []⟩,
     ⟨some 29, .mv (.t 3), none, []⟩,
     ⟨some 30, .bin .mul (.t 28) (.t 29), none, []⟩,
     ⟨some 31, .bin .add (.t 27) (.t 30), none, []⟩,
     ⟨some 32, .mnx false (.c (.int .i64 1073741824)) [.t 31], none, []⟩,
     ⟨some 33, .build [.int .i64 0, .int .i64 0] [(0, 1, .t 26), (1, 1, .t 32)], none, []⟩,
     ⟨none, .store 2 (.t 8) (.t 33), none, []⟩,
     ⟨some 9, .mv (.c (.int .i64 0)), none, []⟩] none) <|
  .ret
abbrev n_ref21_Bounds : Nat := 23
theorem b_ref21_Bounds : bodyOf prog 23 [] = some (c_ref21_Bounds, [.c 8 true 2, .t 9], 34) := by kernel_rfl

def c_ref21_Within : ACode :=
  .seq (.region [
     ⟨some 8, .mv (.c (.int .i64 0)), none, []⟩,
     ⟨some 9, .mv (.c (.bool false)), none, []⟩] none) <|
  .seq (.seq (.region [
      ⟨some 12, .mv (.t 1), none, []⟩,
      ⟨some 13, .mv (.t 2), none, []⟩,
      ⟨some 14, .mv (.t 3), none, []⟩,
      ⟨some 15, .lit false 1 3 [.t 12, .t 13, .t 14], none, []⟩,
      ⟨some 16, .call 34 [.t 15], none, []⟩,
      ⟨some 17, .un .not (.t 16), none, []⟩] none) <|
   .cond (.t 17) (.seq (.region [
       ⟨some 8, .mv (.c (.int .i64 0)), none, []⟩,
       ⟨some 9, .mv (.c (.bool false)), none, []⟩] none) <|
    .ret) <|
   .skip) <|
  .seq (.seq (.region [
      ⟨some 18, .mv (.t 0), none, []⟩,
      ⟨some 19, .len (.t 18), none, []⟩,
      ⟨some 20, .mv (.c (.int .i64 0)), none, []⟩] none) <|
   .block 0 <|
   .loop <|
   .seq (.region [
      ⟨some 21, .bin .lss (.t 20) (.t 19), none, []⟩] none) <|
   .seq (.cond (.t 21) (.skip) <|
    .exit 0) <|
   .seq (.block 1 <|
    .seq (.region [
       ⟨some 22, .mv (.t 20), none, []⟩,
       ⟨some 23, .ixs 1 (.t 18) (.t 20), none, []⟩,
       ⟨some 24, .load false 1 (.t 23), none, []⟩,
       ⟨some 10, .mv (.t 22), none, []⟩,
       ⟨some 11, .mv (.t 24), none, []⟩] none) <|
    .seq (.seq (.region [
        ⟨some 25, .mv (.t 11), none, []⟩,
        ⟨some 26, .lit false 1 3 [.t 25], none, []⟩,
        ⟨some 27, .call 34 [.t 26], none, []⟩,
        ⟨some 28, .un .not (.t 27), none, []⟩,
        ⟨some 29, .mv (.t 28), none, []⟩,
        ⟨some 30, .mv (.t 11), some (29, false), []⟩,
        ⟨some 31, .mv (.t 1), some (29, false), []⟩,
        ⟨some 32, .mv (.t 2), some (29, false), []⟩,
        ⟨some 33, .bin .add (.t 31) (.t 32), some (29, false), []⟩,
        ⟨some 34, .bin .gtr (.t 30) (.t 33), some (29, false), []⟩,
        ⟨some 35, .pick (.t 29) (.c (.bool true)) (.t 34), none, []⟩,
        ⟨some 36, .mv (.t 35), none, []⟩,
        ⟨some 37, .mv (.t 11), some (36, false), []⟩,
        ⟨some 38, .mv (.t 1), some (36, false), []⟩,
        ⟨some 39, .mv (.t 3), some (36, false), []⟩,
        ⟨some 40, .bin .sub (.t 38) (.t 39), some (36, false), []⟩,
        ⟨some 41, .bin .lss (.t 37) (.t 40), some (36, false), []⟩,
        ⟨some 42, .pick (.t 36) (.c (.bool true)) (.t 41), none, []⟩] none) <|
     .cond (.t 42) (.seq (.region [
         ⟨some 43, .mv (.t 10), none, []⟩,
         ⟨some 8, .mv (.t 43), none, []⟩,
         ⟨some 9, .mv (.c (.bool false)), none, []⟩] none) <|
      .ret) <|
     .skip) <|
    .region [
      ⟨some 44, .mv (.t 11), none, []⟩,
      ⟨some 1, .mv (.t 44), none, []⟩] none) <|
   .region [
     ⟨some 45, .bin .add (.t 20) (.c (.int .i64 1)), none, []⟩,
     ⟨some 20, .mv (.t 45), none, []⟩] none) <|
  .seq (.region [
     ⟨some 8, .mv (.c (.int .i64 0)), none, []⟩,
     ⟨some 9, .mv (.c (.bool true)), none, []⟩] none) <|
  .ret
abbrev n_ref21_Within : Nat := 24
theorem b_ref21_Within : bodyOf prog 24 [] = some (c_ref21_Within, [.t 8, .t 9], 46) := by kernel_rfl

def c_ref21_Latest : ACode :=
  .seq (.region [
     ⟨some 8, .mv (.c (.nil)), none, []⟩,
     ⟨some 9, .mv (.c (.bool false)), none, []⟩,
     ⟨some 10, .mv (.c (.int .i64 0)), none, []⟩] none) <|
  .seq (.seq (.region [
      ⟨some 19, .mv (.t 1), none, []⟩,
      ⟨some 20, .len (.t 19), none, []⟩,
      ⟨some 21, .bin .gtr (.t 20) (.c (.int .i64 4096)), none, []⟩] none) <|
   .cond (.t 21) (.seq (.region [
       ⟨some 8, .mv (.c (.nil)), none, []⟩,
       ⟨some 9, .mv (.c (.bool false)), none, []⟩,
       ⟨some 10, .mv (.c (.int .i64 10)), none, []⟩] none) <|
    .ret) <|
   .skip) <|
  .seq (.seq (.region [
      ⟨some 22, .mv (.t 0), none, []⟩,
      ⟨some 23, .mv (.t 2), none, []⟩,
      ⟨some 24, .mv (.t 3), none, []⟩,
      ⟨some 25, .lit false 1 3 [.t 22, .t 23, .t 24], none, []⟩,
      ⟨some 26, .call 34 [.t 25], none, []⟩,
      ⟨some 27, .un .not (.t 26), none, []⟩] none) <|
   .cond (.t 27) (.seq (.region [
       ⟨some 8, .mv (.c (.nil)), none, []⟩,
       ⟨some 9, .mv (.c (.bool false)), none, []⟩,
       ⟨some 10, .mv (.c (.int .i64 1)), none, []⟩] none) <|
    .ret) <|
   .skip) <|
  .seq (.seq (.region [
      ⟨some 28, .mv (.t 1), none, []⟩,
      ⟨some 29, .len (.t 28), none, []⟩,
      ⟨some 30, .mv (.c (.int .i64 0)), none, []⟩] none) <|
   .block 0 <|
   .loop <|
   .seq (.region [
      ⟨some 31, .bin .lss (.t 30) (.t 29), none, []⟩] none) <|
   .seq (.cond (.t 31) (.skip) <|
    .exit 0) <|
   .seq (.block 1 <|
    .seq (.region [
       ⟨some 32, .ixs 2 (.t 28) (.t 30), none, []⟩,
       ⟨some 33, .load true 2 (.t 32), none, []⟩,
       ⟨some 12, .alloc 2 35 (.agg [.int .i64 0, .int .i64 0]), none, []⟩,
       ⟨none, .store 2 (.t 12) (.t 33), none, []⟩] none) <|
    .seq (.region [
       ⟨some 34, .fa 0 (.t 12), none, []⟩,
       ⟨some 35, .load false 1 (.t 34), none, []⟩,
       ⟨some 36, .fa 1 (.t 12), none, []⟩,
       ⟨some 37, .load false 1 (.t 36), none, []⟩,
       ⟨some 38, .lit false 1 3 [.t 35, .t 37], none, []⟩,
       ⟨some 39, .call 34 [.t 38], none, []⟩,
       ⟨some 40, .un .not (.t 39), none, []⟩] none) <|
    .cond (.t 40) (.seq (.region [
        ⟨some 8, .mv (.c (.nil)), none, []⟩,
        ⟨some 9, .mv (.c (.bool false)), none, []⟩,
        ⟨some 10, .mv (.c (.int .i64 1)), none, []⟩] none) <|
     .ret) <|
    .skip) <|
   .region [
     ⟨some 41, .bin .add (.t 30) (.c (.int .i64 1)), none, []⟩,
     ⟨some 30, .mv (.t 41), none, []⟩] none) <|
  .seq (.region [
     ⟨some 42, .mv (.t 1), none, []⟩,
     ⟨some 43, .appn 2 16 35 (.t 42), none, []⟩,
     ⟨some 13, .mv (.t 43), none, []⟩] none) <|
  .seq (.region [
     ⟨some 44, .mv (.t 0), none, []⟩,
     ⟨some 45, .mv (.t 0), none, []⟩,
     ⟨some 46, .build [.int .i64 0, .int .i64 0] [(0, 1, .t 44), (1, 1, .t 45)], none, []⟩,
     ⟨some 14, .alloc 2 35 (.agg [.int .i64 0, .int .i64 0]), none, []⟩,
     ⟨none, .store 2 (.t 14) (.t 46), none, []⟩] none) <|
  .seq (.seq (.region [
      ⟨some 47, .mv (.t 13), none, []⟩,
      ⟨some 48, .len (.t 47), none, []⟩,
      ⟨some 49, .mv (.c (.int .i64 0)), none, []⟩] none) <|
   .block 2 <|
   .loop <|
   .seq (.region [
      ⟨some 50, .bin .lss (.t 49) (.t 48), none, []⟩] none) <|
   .seq (.cond (.t 50) (.skip) <|
    .exit 2) <|
   .seq (.block 3 <|
    .seq (.region [
       ⟨some 51, .mv (.t 49), none, []⟩,
       ⟨some 15, .mv (.t 51), none, []⟩] none) <|
    .seq (.region [
       ⟨some 53, .mv (.t 13), none, []⟩,
       ⟨some 54, .mv (.t 15), none, []⟩,
       ⟨some 55, .ixs 2 (.t 53) (.t 54), none, [0, 1]⟩,
       ⟨some 56, .load true 2 (.t 55), none, [2, 0, 1]⟩,
       ⟨some 57, .fa 0 (.t 14), none, []⟩,
       ⟨some 58, .load false 1 (.t 57), none, [4]⟩,
       ⟨some 59, .mv (.t 3), none, []⟩,
       ⟨some 60, .bin .sub (.t 58) (.t 59), none, [5, 6, 4]⟩,
       ⟨some 61, .fa 1 (.t 14), none, []⟩,
       ⟨some 62, .load false 1 (.t 61), none, [8]⟩,
       ⟨some 63, .mv (.t 2), none, []⟩,
       ⟨some 64, .bin .add (.t 62) (.t 63), none, [9, 10, 8]⟩,
       ⟨some 65, .build [.int .i64 0, .int .i64 0] [(0, 1, .t 60), (1, 1, .t 64)], none, [7, 11, 5, 6, 4, 9, 10, 8]⟩,
       ⟨some 66, .call 37 [.t 56, .t 65], none, [3, 12, 2, 0, 1, 7, 11, 5, 6, 4, 9, 10, 8]⟩,
       ⟨some 52, .mv (.t 66), none, [13, 3, 12, 2, 0, 1, 7, 11, 5, 6, 4, 9, 10, 8]⟩,
       ⟨some 67, .ext (.t 52) 0, none, [14, 13, 3, 12, 2, 0, 1, 7, 11, 5, 6, 4, 9, 10, 8]⟩,
       ⟨some 68, .ext (.t 52) 1, none, [14, 13, 3, 12, 2, 0, 1, 7, 11, 5, 6, 4, 9, 10, 8]⟩,
       ⟨some 16, .alloc 2 35 (.agg [.int .i64 0, .int .i64 0]), none, []⟩,
       ⟨none, .store 2 (.t 16) (.t 67), none, [17, 15, 13, 0, 1, 2, 3, 4, 5, 6, 7, 8, 9, 10, 11, 12, 14]⟩,
       ⟨some 17, .mv (.t 68), none, [16, 18, 0, 1, 2, 3, 4, 5, 6, 7, 8, 9, 10, 11, 12, 13, 14, 15, 17]⟩] (some 20)) <|
    .seq (.seq (.region [
        ⟨some 69, .mv (.t 17), none, []⟩,
        ⟨some 70, .un .not (.t 69), none, []⟩] none) <|
     .cond (.t 70) (.seq (.region [
         ⟨some 8, .mv (.c (.nil)), none, []⟩,
         ⟨some 9, .mv (.c (.bool false)), none, []⟩,
         ⟨some 10, .mv (.c (.int .i64 0)), none, []⟩] none) <|
      .ret) <|
     .skip) <|
    .region [
      ⟨some 71, .mv (.t 13), none, []⟩,
      ⟨some 72, .mv (.t 15), none, []⟩,
      ⟨some 73, .load true 2 (.t 16), none, []⟩,
      ⟨some 74, .load true 2 (.t 16), none, []⟩,
      ⟨some 75, .ixs 2 (.t 71) (.t 72), none, [0, 1, 2]⟩,
      ⟨none, .store 2 (.t 75) (.t 73), none, [4, 2, 0, 1]⟩,
      ⟨none, .store 2 (.t 14) (.t 74), none, [3, 5, 0, 1, 2, 4]⟩] (some 0)) <|
   .region [
     ⟨some 76, .bin .add (.t 49) (.c (.int .i64 1)), none, []⟩,
     ⟨some 49, .mv (.t 76), none, []⟩] none) <|
  .seq (.seq (.region [
      ⟨some 77, .mv (.t 13), none, []⟩,
      ⟨some 78, .len (.t 77), none, []⟩,
      ⟨some 79, .bin .sub (.t 78) (.c (.int .i64 2)), none, []⟩,
      ⟨some 18, .mv (.t 79), none, []⟩] none) <|
   .block 4 <|
   .loop <|
   .seq (.seq (.region [
       ⟨some 80, .mv (.t 18), none, []⟩,
       ⟨some 81, .bin .geq (.t 80) (.c (.int .i64 0)), none, []⟩] none) <|
    .cond (.t 81) (.skip) <|
    .exit 4) <|
   .seq (.block 5 <|
    .region [
      ⟨some 85, .mv (.t 13), none, []⟩,
      ⟨some 86, .mv (.t 18), none, []⟩,
      ⟨some 87, .mv (.t 13), none, []⟩,
      ⟨some 88, .mv (.t 18), none, []⟩,
      ⟨some 89, .ixs 2 (.t 87) (.t 88), none, [2, 3]⟩,
      ⟨some 90, .load true 2 (.t 89), none, [4, 2, 3]⟩,
      ⟨some 91, .mv (.t 13), none, []⟩,
      ⟨some 92, .mv (.t 18), none, []⟩,
      ⟨some 93, .bin .add (.t 92) (.c (.int .i64 1)), none, [7]⟩,
      ⟨some 94, .ixs 2 (.t 91) (.t 93), none, [6, 8, 7]⟩,
      ⟨some 95, .fa 0 (.t 94), none, [9, 6, 8, 7]⟩,
      ⟨some 96, .load false 1 (.t 95), none, [10, 9, 6, 8, 7]⟩,
      ⟨some 97, .mv (.t 2), none, []⟩,
      ⟨some 98, .bin .sub (.t 96) (.t 97), none, [11, 12, 10, 9, 6, 8, 7]⟩,
      ⟨some 99, .mv (.t 13), none, []⟩,
      ⟨some 100, .mv (.t 18), none, []⟩,
      ⟨some 101, .bin .add (.t 100) (.c (.int .i64 1)), none, [15]⟩,
      ⟨some 102, .ixs 2 (.t 99) (.t 101), none, [14, 16, 15]⟩,
      ⟨some 103, .fa 1 (.t 102), none, [17, 14, 16, 15]⟩,
      ⟨some 104, .load false 1 (.t 103), none, [18, 17, 14, 16, 15]⟩,
      ⟨some 105, .mv (.t 3), none, []⟩,
      ⟨some 106, .bin .add (.t 104) (.t 105), none, [19, 20, 18, 17, 14, 16, 15]⟩,
      ⟨some 107, .build [.int .i64 0, .int .i64 0] [(0, 1, .t 98), (1, 1, .t 106)], none, [13, 21, 11, 12, 10, 9, 6, 8, 7, 19, 20, 18, 17, 14, 16, 15]⟩,
      ⟨some 108, .call 37 [.t 90, .t 107], none, [5, 22, 4, 2, 3, 13, 21, 11, 12, 10, 9, 6, 8, 7, 19, 20, 18, 17, 14, 16, 15]⟩,
      ⟨some 84, .mv (.t 108), none, [23, 5, 22, 4, 2, 3, 13, 21, 11, 12, 10, 9, 6, 8, 7, 19, 20, 18, 17, 14, 16, 15]⟩,
      ⟨some 109, .ext (.t 84) 0, none, [24, 23, 5, 22, 4, 2, 3, 13, 21, 11, 12, 10, 9, 6, 8, 7, 19, 20, 18, 17, 14, 16, 15]⟩,
      ⟨some 110, .ext (.t 84) 1, none, [24, 23, 5, 22, 4, 2, 3, 13, 21, 11, 12, 10, 9, 6, 8, 7, 19, 20, 18, 17, 14, 16, 15]⟩,
      ⟨some 111, .ixs 2 (.t 85) (.t 86), none, [0, 1, 2, 3, 4, 5, 6, 7, 8, 9, 10, 11, 12, 13, 14, 15, 16, 17, 18, 19, 20, 21, 22, 23, 24, 25]⟩,
      ⟨none, .store 2 (.t 111) (.t 109), none, [27, 25, 23, 0, 1, 2, 3, 4, 5, 6, 7, 8, 9, 10, 11, 12, 13, 14, 15, 16, 17, 18, 19, 20, 21, 22, 24]⟩] (some 0)) <|
   .region [
     ⟨some 82, .mv (.t 18), none, []⟩,
     ⟨some 83, .bin .sub (.t 82) (.c (.int .i64 1)), none, []⟩,
     ⟨some 18, .mv (.t 83), none, []⟩] none) <|
  .seq (.region [
     ⟨some 112, .mv (.t 13), none, []⟩,
     ⟨some 8, .mv (.t 112), none, []⟩,
     ⟨some 9, .mv (.c (.bool true)), none, []⟩,
     ⟨some 10, .mv (.c (.int .i64 0)), none, []⟩] none) <|
  .ret
abbrev n_ref21_Latest : Nat := 25
theorem b_ref21_Latest : bodyOf prog 25 [43] = some (c_ref21_Latest, [.t 8, .t 9, .t 10], 113) := by kernel_rfl

def c_ref09_Same : ACode :=
  .seq (.region [
     ⟨some 4, .mv (.c (.bool false)), none, []⟩] none) <|
  .seq (.seq (.region [
      ⟨some 6, .mv (.t 0), none, []⟩,
      ⟨some 7, .len (.t 6), none, []⟩,
      ⟨some 8, .mv (.t 1), none, []⟩,
      ⟨some 9, .len (.t 8), none, []⟩,
      ⟨some 10, .bin .neq (.t 7) (.t 9), none, []⟩] none) <|
   .cond (.t 10) (.seq (.region [
       ⟨some 4, .mv (.c (.bool false)), none, []⟩] none) <|
    .ret) <|
   .skip) <|
  .seq (.seq (.region [
      ⟨some 11, .mv (.t 0), none, []⟩,
      ⟨some 12, .len (.t 11), none, []⟩,
      ⟨some 13, .mv (.c (.int .i64 0)), none, []⟩] none) <|
   .block 0 <|
   .loop <|
   .seq (.region [
      ⟨some 14, .bin .lss (.t 13) (.t 12), none, []⟩] none) <|
   .seq (.cond (.t 14) (.skip) <|
    .exit 0) <|
   .seq (.block 1 <|
    .seq (.region [
       ⟨some 15, .mv (.t 13), none, []⟩,
       ⟨some 5, .mv (.t 15), none, []⟩] none) <|
    .seq (.region [
       ⟨some 16, .mv (.t 0), none, []⟩,
       ⟨some 17, .mv (.t 5), none, []⟩,
       ⟨some 18, .ixs 2 (.t 16) (.t 17), none, [0, 1]⟩,
       ⟨some 19, .load true 2 (.t 18), none, [2, 0, 1]⟩,
       ⟨some 20, .mv (.t 1), none, []⟩,
       ⟨some 21, .mv (.t 5), none, []⟩,
       ⟨some 22, .ixs 2 (.t 20) (.t 21), none, [4, 5]⟩,
       ⟨some 23, .load true 2 (.t 22), none, [6, 4, 5]⟩,
       ⟨some 24, .eqs true [0, 0] (.t 19) (.t 23), none, [3, 7, 2, 0, 1, 6, 4, 5]⟩] (some 0)) <|
    .cond (.t 24) (.seq (.region [
        ⟨some 4, .mv (.c (.bool false)), none, []⟩] none) <|
     .ret) <|
    .skip) <|
   .region [
     ⟨some 25, .bin .add (.t 13) (.c (.int .i64 1)), none, []⟩,
     ⟨some 13, .mv (.t 25), none, []⟩] none) <|
  .seq (.region [
     ⟨some 4, .mv (.c (.bool true)), none, []⟩] none) <|
  .ret
abbrev n_ref09_Same : Nat := 26
theorem b_ref09_Same : bodyOf prog 26 [] = some (c_ref09_Same, [.t 4], 26) := by kernel_rfl

def c_ramp_flows : ACode :=
  .seq (.region [
     ⟨some 2, .mv (.c (.bool false)), none, []⟩] none) <|
  .seq (.region [
     ⟨some 3, .mv (.t 0), none, []⟩,
     ⟨some 4, .call 38 [.t 3, .c (.func 39 [])], none, []⟩,
     ⟨some 5, .un .not (.t 4), none, []⟩,
     ⟨some 2, .mv (.t 5), none, []⟩] none) <|
  .ret
abbrev n_ramp_flows : Nat := 27
theorem b_ramp_flows : bodyOf prog 27 [] = some (c_ramp_flows, [.t 2], 6) := by kernel_rfl

def c_quantity_Within : ACode :=
  .seq (.region [
     ⟨some 4, .mv (.c (.bool false)), none, []⟩] none) <|
  .seq (.region [
     ⟨some 5, .mv (.t 0), none, []⟩,
     ⟨some 6, .bin .geq (.t 5) (.c (.int .i64 0)), none, []⟩,
     ⟨some 7, .mv (.t 6), none, []⟩,
     ⟨some 8, .mv (.t 0), some (7, true), []⟩,
     ⟨some 9, .mv (.t 1), some (7, true), []⟩,
     ⟨some 10, .bin .leq (.t 8) (.t 9), some (7, true), []⟩,
     ⟨some 11, .pick (.t 7) (.t 10) (.c (.bool false)), none, []⟩,
     ⟨some 4, .mv (.t 11), none, []⟩] none) <|
  .ret
abbrev n_quantity_Within : Nat := 28
theorem b_quantity_Within : bodyOf prog 28 [] = some (c_quantity_Within, [.t 4], 12) := by kernel_rfl

def c_ramp_toward : ACode :=
  .seq (.region [
     ⟨some 8, .mv (.c (.int .i64 0)), none, []⟩] none) <|
  .seq (.seq (.region [
      ⟨some 9, .mv (.t 0), none, []⟩,
      ⟨some 10, .mv (.t 1), none, []⟩,
      ⟨some 11, .bin .lss (.t 9) (.t 10), none, []⟩] none) <|
   .cond (.t 11) (.seq (.region [
       ⟨some 12, .mv (.t 0), none, []⟩,
       ⟨some 13, .mv (.t 2), none, []⟩,
       ⟨some 14, .bin .add (.t 12) (.t 13), none, []⟩,
       ⟨some 15, .mv (.t 1), none, []⟩,
       ⟨some 16, .mnx false (.t 14) [.t 15], none, []⟩,
       ⟨some 8, .mv (.t 16), none, []⟩] none) <|
    .ret) <|
   .skip) <|
  .seq (.region [
     ⟨some 17, .mv (.t 0), none, []⟩,
     ⟨some 18, .mv (.t 3), none, []⟩,
     ⟨some 19, .bin .sub (.t 17) (.t 18), none, []⟩,
     ⟨some 20, .mv (.t 1), none, []⟩,
     ⟨some 21, .mnx true (.t 19) [.t 20], none, []⟩,
     ⟨some 8, .mv (.t 21), none, []⟩] none) <|
  .ret
abbrev n_ramp_toward : Nat := 29
theorem b_ramp_toward : bodyOf prog 29 [] = some (c_ramp_toward, [.t 8], 22) := by kernel_rfl

def c_slices_ContainsFunc__Bounds : ACode :=
  .seq (.region [
     ⟨some 4, .mv (.c (.bool false)), none, []⟩] none) <|
  .seq (.region [
     ⟨some 5, .mv (.t 0), none, []⟩,
     ⟨some 6, .mv (.t 1), none, []⟩,
     ⟨some 7, .call 40 [.t 5, .t 6], none, []⟩,
     ⟨some 8, .bin .geq (.t 7) (.c (.int .i64 0)), none, []⟩,
     ⟨some 4, .mv (.t 8), none, []⟩] none) <|
  .ret
abbrev n_slices_ContainsFunc__Bounds : Nat := 30
theorem b_slices_ContainsFunc__Bounds : bodyOf prog 30 [] = some (c_slices_ContainsFunc__Bounds, [.t 4], 9) := by kernel_rfl

def c_ramp_Latest_1 : ACode :=
  .seq (.region [
     ⟨some 1, .box 2 35 (.t 0), none, []⟩,
     ⟨some 2, .mv (.c (.bool false)), none, []⟩] none) <|
  .seq (.region [
     ⟨some 3, .fa 0 (.t 1), none, []⟩,
     ⟨some 4, .load false 1 (.t 3), none, []⟩,
     ⟨some 5, .fa 1 (.t 1), none, []⟩,
     ⟨some 6, .load false 1 (.t 5), none, []⟩,
     ⟨some 7, .lit false 1 3 [.t 4, .t 6], none, []⟩,
     ⟨some 8, .call 27 [.t 7], none, []⟩,
     ⟨some 9, .un .not (.t 8), none, []⟩,
     ⟨some 2, .mv (.t 9), none, []⟩] none) <|
  .ret
abbrev n_ramp_Latest_1 : Nat := 31
theorem b_ramp_Latest_1 : bodyOf prog 31 [] = some (c_ramp_Latest_1, [.t 2], 10) := by kernel_rfl

def c_ramp_through : ACode :=
  .seq (.region [
     ⟨some 4, .box 2 35 (.t 0), none, []⟩,
     ⟨some 8, .mv (.c (.nil)), none, []⟩,
     ⟨some 9, .mv (.c (.bool false)), none, []⟩] none) <|
  .seq (.region [
     ⟨some 10, .newsl 2 35, none, []⟩] none) <|
  .seq (.seq (.region [
      ⟨some 15, .mv (.t 1), none, []⟩,
      ⟨some 16, .len (.t 15), none, []⟩,
      ⟨some 17, .mv (.c (.int .i64 0)), none, []⟩] none) <|
   .block 0 <|
   .loop <|
   .seq (.region [
      ⟨some 18, .bin .lss (.t 17) (.t 16), none, []⟩] none) <|
   .seq (.cond (.t 18) (.skip) <|
    .exit 0) <|
   .seq (.block 1 <|
    .seq (.region [
       ⟨some 19, .ixs 2 (.t 15) (.t 17), none, []⟩,
       ⟨some 20, .load true 2 (.t 19), none, []⟩,
       ⟨some 12, .alloc 2 35 (.agg [.int .i64 0, .int .i64 0]), none, []⟩,
       ⟨none, .store 2 (.t 12) (.t 20), none, []⟩] none) <|
    .seq (.region [
       ⟨some 22, .fa 0 (.t 4), none, []⟩,
       ⟨some 23, .load false 1 (.t 22), none, []⟩,
       ⟨some 24, .mv (.t 3), none, []⟩,
       ⟨some 25, .bin .sub (.t 23) (.t 24), none, []⟩,
       ⟨some 26, .fa 1 (.t 4), none, []⟩,
       ⟨some 27, .load false 1 (.t 26), none, []⟩,
       ⟨some 28, .mv (.t 2), none, []⟩,
       ⟨some 29, .bin .add (.t 27) (.t 28), none, []⟩,
       ⟨some 30, .build [.int .i64 0, .int .i64 0] [(0, 1, .t 25), (1, 1, .t 29)], none, []⟩,
       ⟨some 31, .load true 2 (.t 12), none, []⟩,
       ⟨some 32, .call 41 [.t 30, .t 31], none, []⟩,
       ⟨some 21, .mv (.t 32), none, []⟩,
       ⟨some 33, .ext (.t 21) 0, none, []⟩,
       ⟨some 34, .ext (.t 21) 1, none, []⟩,
       ⟨some 13, .alloc 2 35 (.agg [.int .i64 0, .int .i64 0]), none, []⟩,
       ⟨none, .store 2 (.t 13) (.t 33), none, []⟩,
       ⟨some 14, .mv (.t 34), none, []⟩] none) <|
    .seq (.seq (.region [
        ⟨some 35, .mv (.t 14), none, []⟩,
        ⟨some 36, .un .not (.t 35), none, []⟩] none) <|
     .cond (.t 36) (.seq (.region [
         ⟨some 8, .mv (.c (.nil)), none, []⟩,
         ⟨some 9, .mv (.c (.bool false)), none, []⟩] none) <|
      .ret) <|
     .skip) <|
    .region [
      ⟨some 37, .mv (.t 10), none, []⟩,
      ⟨some 38, .load true 2 (.t 13), none, []⟩,
      ⟨some 39, .lit false 2 35 [.t 38], none, [1]⟩,
      ⟨some 40, .app 2 16 35 (.t 37) (.t 39), none, [0, 2, 1]⟩,
      ⟨some 41, .load true 2 (.t 13), none, []⟩,
      ⟨some 10, .mv (.t 40), none, [3, 0, 1, 2]⟩,
      ⟨none, .store 2 (.t 4) (.t 41), none, [4, 5, 0, 1, 2, 3]⟩] (some 7)) <|
   .region [
     ⟨some 42, .bin .add (.t 17) (.c (.int .i64 1)), none, []⟩,
     ⟨some 17, .mv (.t 42), none, []⟩] none) <|
  .seq (.region [
     ⟨some 43, .mv (.t 10), none, []⟩,
     ⟨some 8, .mv (.t 43), none, []⟩,
     ⟨some 9, .mv (.c (.bool true)), none, []⟩] none) <|
  .ret
abbrev n_ramp_through : Nat := 32
theorem b_ramp_through : bodyOf prog 32 [10] = some (c_ramp_through, [.t 8, .t 9], 44) := by kernel_rfl

def c_ramp_reversed__Bounds : ACode :=
  .seq (.region [
     ⟨some 2, .mv (.c (.nil)), none, []⟩] none) <|
  .seq (.region [
     ⟨some 3, .mv (.t 0), none, []⟩,
     ⟨some 4, .call 42 [.t 3], none, []⟩,
     ⟨some 0, .mv (.t 4), none, []⟩] none) <|
  .seq (.region [
     ⟨some 5, .mv (.t 0), none, []⟩,
     ⟨some 6, .call 43 [.t 5], none, []⟩] none) <|
  .seq (.region [
     ⟨some 7, .mv (.t 0), none, []⟩,
     ⟨some 2, .mv (.t 7), none, []⟩] none) <|
  .ret
abbrev n_ramp_reversed__Bounds : Nat := 33
theorem b_ramp_reversed__Bounds : bodyOf prog 33 [] = some (c_ramp_reversed__Bounds, [.t 2], 8) := by kernel_rfl

def c_ref21_flows : ACode :=
  .seq (.region [
     ⟨some 2, .mv (.c (.bool false)), none, []⟩] none) <|
  .seq (.seq (.region [
      ⟨some 5, .mv (.t 0), none, []⟩,
      ⟨some 6, .len (.t 5), none, []⟩,
      ⟨some 7, .mv (.c (.int .i64 0)), none, []⟩] none) <|
   .block 0 <|
   .loop <|
   .seq (.region [
      ⟨some 8, .bin .lss (.t 7) (.t 6), none, []⟩] none) <|
   .seq (.cond (.t 8) (.skip) <|
    .exit 0) <|
   .seq (.block 1 <|
    .seq (.region [
       ⟨some 9, .ixs 1 (.t 5) (.t 7), none, []⟩,
       ⟨some 10, .load false 1 (.t 9), none, []⟩,
       ⟨some 4, .mv (.t 10), none, []⟩] none) <|
    .seq (.region [
       ⟨some 11, .mv (.t 4), none, []⟩,
       ⟨some 12, .call 35 [.t 11, .c (.int .i64 1073741824)], none, []⟩,
       ⟨some 13, .un .not (.t 12), none, []⟩] none) <|
    .cond (.t 13) (.seq (.region [
        ⟨some 2, .mv (.c (.bool false)), none, []⟩] none) <|
     .ret) <|
    .skip) <|
   .region [
     ⟨some 14, .bin .add (.t 7) (.c (.int .i64 1)), none, []⟩,
     ⟨some 7, .mv (.t 14), none, []⟩] none) <|
  .seq (.region [
     ⟨some 2, .mv (.c (.bool true)), none, []⟩] none) <|
  .ret
abbrev n_ref21_flows : Nat := 34
theorem b_ref21_flows : bodyOf prog 34 [] = some (c_ref21_flows, [.t 2], 15) := by kernel_rfl

def c_ref01_In : ACode :=
  .seq (.region [
     ⟨some 4, .mv (.c (.bool false)), none, []⟩] none) <|
  .seq (.region [
     ⟨some 5, .mv (.t 0), none, []⟩,
     ⟨some 6, .mv (.t 1), none, []⟩,
     ⟨some 7, .call 44 [.t 5, .t 6], none, []⟩,
     ⟨some 4, .mv (.t 7), none, []⟩] none) <|
  .ret
abbrev n_ref01_In : Nat := 35
theorem b_ref01_In : bodyOf prog 35 [] = some (c_ref01_In, [.t 4], 8) := by kernel_rfl

def c_ref21_next : ACode :=
  .seq (.region [
     ⟨some 8, .mv (.c (.int .i64 0)), none, []⟩] none) <|
  .seq (.region [
     ⟨some 9, .mv (.t 1), none, []⟩,
     ⟨some 10, .mv (.t 0), none, []⟩,
     ⟨some 11, .mv (.t 3), none, []⟩,
     ⟨some 12, .bin .sub (.t 10) (.t 11), none, []⟩,
     ⟨some 13, .mv (.t 0), none, []⟩,
     ⟨some 14, .mv (.t 2), none, []⟩,
     ⟨some 15, .bin .add (.t 13) (.t 14), none, []⟩,
     ⟨some 16, .build [.int .i64 0, .int .i64 0] [(0, 1, .t 12), (1, 1, .t 15)], none, []⟩,
     ⟨some 17, .call 19 [.t 9, .t 16], none, []⟩,
     ⟨some 8, .mv (.t 17), none, []⟩] none) <|
  .ret
abbrev n_ref21_next : Nat := 36
theorem b_ref21_next : bodyOf prog 36 [] = some (c_ref21_next, [.t 8], 18) := by kernel_rfl

def c_ref01_Meet : ACode :=
  .seq (.region [
     ⟨some 2, .box 2 35 (.t 0), none, []⟩,
     ⟨some 3, .box 2 35 (.t 1), none, []⟩,
     ⟨some 4, .alloc 2 35 (.agg [.int .i64 0, .int .i64 0]), none, []⟩,
     ⟨some 5, .mv (.c (.bool false)), none, []⟩] none) <|
  .seq (.region [
     ⟨some 7, .fa 0 (.t 2), none, []⟩,
     ⟨some 8, .load false 1 (.t 7), none, []⟩,
     ⟨some 9, .fa 0 (.t 3), none, []⟩,
     ⟨some 10, .load false 1 (.t 9), none, []⟩,
     ⟨some 11, .mnx true (.t 8) [.t 10], none, []⟩,
     ⟨some 12, .fa 1 (.t 2), none, []⟩,
     ⟨some 13, .load false 1 (.t 12), none, []⟩,
     ⟨some 14, .fa 1 (.t 3), none, []⟩,
     ⟨some 15, .load false 1 (.t 14), none, []⟩,
     ⟨some 16, .mnx false (.t 13) [.t 15], none, []⟩,
     ⟨some 17, .build [.int .i64 0, .int .i64 0] [(0, 1, .t 11), (1, 1, .t 16)], none, []⟩,
     ⟨some 6, .alloc 2 35 (.agg [.int .i64 0, .int .i64 0]), none, []⟩,
     ⟨none, .store 2 (.t 6) (.t 17), none, []⟩] none) <|
  .seq (.seq (.region [
      ⟨some 18, .fa 0 (.t 2), none, []⟩,
      ⟨some 19, .load false 1 (.t 18), none, []⟩,
      ⟨some 20, .fa 1 (.t 2), none, []⟩,
      ⟨some 21, .load false 1 (.t 20), none, []⟩,
      ⟨some 22, .bin .gtr (.t 19) (.t 21), none, []⟩,
      ⟨some 23, .mv (.t 22), none, []⟩,
      ⟨some 24, .fa 0 (.t 3), some (23, false), []⟩,
      ⟨some 25, .load false 1 (.t 24), some (23, false), []⟩,
      ⟨some 26, .fa 1 (.t 3), some (23, false), []⟩,
      ⟨some 27, .load false 1 (.t 26), some (23, false), []⟩,
      ⟨some 28, .bin .gtr (.t 25) (.t 27), some (23, false), []⟩,
      ⟨some 29, .pick (.t 23) (.c (.bool true)) (.t 28), none, []⟩,
      ⟨some 30, .mv (.t 29), none, []⟩,
      ⟨some 31, .fa 0 (.t 6), some (30, false), []⟩,
      ⟨some 32, .load false 1 (.t 31), some (30, false), []⟩,
      ⟨some 33, .fa 1 (.t 6), some (30, false), []⟩,
      ⟨some 34, .load false 1 (.t 33), some (30, false), []⟩,
      ⟨some 35, .bin .gtr (.t 32) (.t 34), some (30, false), []⟩,
      ⟨some 36, .pick (.t 30) (.c (.bool true)) (.t 35), none, []⟩] none) <|
   .cond (.t 36) (.seq (.region [
       ⟨some 37, .build [.int .i64 0, .int .i64 0] [], none, []⟩,
       ⟨none, .store 2 (.t 4) (.t 37), none, []⟩,
       ⟨some 5, .mv (.c (.bool false)), none, []⟩] none) <|
    .ret) <|
   .skip) <|
  .seq (.region [
     ⟨some 38, .load true 2 (.t 6), none, []⟩,
     ⟨none, .store 2 (.t 4) (.t 38), none, []⟩,
     ⟨some 5, .mv (.c (.bool true)), none, []⟩] none) <|
  .ret
abbrev n_ref01_Meet : Nat := 37
theorem b_ref01_Meet : bodyOf prog 37 [] = some (c_ref01_Meet, [.c 4 true 2, .t 5], 39) := by kernel_rfl

def c_slices_ContainsFunc__int : ACode :=
  .seq (.region [
     ⟨some 4, .mv (.c (.bool false)), none, []⟩] none) <|
  .seq (.region [
     ⟨some 5, .mv (.t 0), none, []⟩,
     ⟨some 6, .mv (.t 1), none, []⟩,
     ⟨some 7, .call 45 [.t 5, .t 6], none, []⟩,
     ⟨some 8, .bin .geq (.t 7) (.c (.int .i64 0)), none, []⟩,
     ⟨some 4, .mv (.t 8), none, []⟩] none) <|
  .ret
abbrev n_slices_ContainsFunc__int : Nat := 38
theorem b_slices_ContainsFunc__int : bodyOf prog 38 [] = some (c_slices_ContainsFunc__int, [.t 4], 9) := by kernel_rfl

def c_ramp_flows_1 : ACode :=
  .seq (.region [
     ⟨some 2, .mv (.c (.bool false)), none, []⟩] none) <|
  .seq (.region [
     ⟨some 3, .mv (.t 0), none, []⟩,
     ⟨some 4, .call 28 [.t 3, .c (.int .i64 1073741824)], none, []⟩,
     ⟨some 5, .un .not (.t 4), none, []⟩,
     ⟨some 2, .mv (.t 5), none, []⟩] none) <|
  .ret
abbrev n_ramp_flows_1 : Nat := 39
theorem b_ramp_flows_1 : bodyOf prog 39 [] = some (c_ramp_flows_1, [.t 2], 6) := by kernel_rfl

def c_slices_IndexFunc__Bounds : ACode :=
  .seq (.region [
     ⟨some 4, .mv (.c (.int .i64 0)), none, []⟩] none) <|
  .seq (.seq (.region [
      ⟨some 6, .mv (.t 0), none, []⟩,
      ⟨some 7, .len (.t 6), none, []⟩,
      ⟨some 8, .mv (.c (.int .i64 0)), none, []⟩] none) <|
   .block 0 <|
   .loop <|
   .seq (.region [
      ⟨some 9, .bin .lss (.t 8) (.t 7), none, []⟩] none) <|
   .seq (.cond (.t 9) (.skip) <|
    .exit 0) <|
   .seq (.block 1 <|
    .seq (.region [
       ⟨some 10, .mv (.t 8), none, []⟩,
       ⟨some 5, .mv (.t 10), none, []⟩] none) <|
    .seq (.region [
       ⟨some 11, .mv (.t 1), none, []⟩,
       ⟨some 12, .mv (.t 0), none, []⟩,
       ⟨some 13, .mv (.t 5), none, []⟩,
       ⟨some 14, .ixs 2 (.t 12) (.t 13), none, []⟩,
       ⟨some 15, .load true 2 (.t 14), none, []⟩,
       ⟨some 16, .callv (.t 11) [.t 15], none, []⟩] none) <|
    .cond (.t 16) (.seq (.region [
        ⟨some 17, .mv (.t 5), none, []⟩,
        ⟨some 4, .mv (.t 17), none, []⟩] none) <|
     .ret) <|
    .skip) <|
   .region [
     ⟨some 18, .bin .add (.t 8) (.c (.int .i64 1)), none, []⟩,
     ⟨some 8, .mv (.t 18), none, []⟩] none) <|
  .seq (.region [
     ⟨some 4, .mv (.c (.int .i64 (-1))), none, []⟩] none) <|
  .ret
abbrev n_slices_IndexFunc__Bounds : Nat := 40
theorem b_slices_IndexFunc__Bounds : bodyOf prog 40 [] = some (c_slices_IndexFunc__Bounds, [.t 4], 19) := by kernel_rfl

def c_quantity_Meet : ACode :=
  .seq (.region [
     ⟨some 2, .box 2 35 (.t 0), none, []⟩,
     ⟨some 3, .box 2 35 (.t 1), none, []⟩,
     ⟨some 4, .alloc 2 35 (.agg [.int .i64 0, .int .i64 0]), none, []⟩,
     ⟨some 5, .mv (.c (.bool false)), none, []⟩] none) <|
  .seq (.region [
     ⟨some 7, .fa 0 (.t 2), none, []⟩,
     ⟨some 8, .load false 1 (.t 7), none, []⟩,
     ⟨some 9, .fa 0 (.t 3), none, []⟩,
     ⟨some 10, .load false 1 (.t 9), none, []⟩,
     ⟨some 11, .mnx true (.t 8) [.t 10], none, []⟩,
     ⟨some 12, .fa 1 (.t 2), none, []⟩,
     ⟨some 13, .load false 1 (.t 12), none, []⟩,
     ⟨some 14, .fa 1 (.t 3), none, []⟩,
     ⟨some 15, .load false 1 (.t 14), none, []⟩,
     ⟨some 16, .mnx false (.t 13) [.t 15], none, []⟩,
     ⟨some 17, .build [.int .i64 0, .int .i64 0] [(0, 1, .t 11), (1, 1, .t 16)], none, []⟩,
     ⟨some 6, .alloc 2 35 (.agg [.int .i64 0, .int .i64 0]), none, []⟩,
     ⟨none, .store 2 (.t 6) (.t 17), none, []⟩] none) <|
  .seq (.seq (.region [
      ⟨some 18, .fa 0 (.t 2), none, []⟩,
      ⟨some 19, .load false 1 (.t 18), none, []⟩,
      ⟨some 20, .fa 1 (.t 2), none, []⟩,
      ⟨some 21, .load false 1 (.t 20), none, []⟩,
      ⟨some 22, .bin .gtr (.t 19) (.t 21), none, []⟩,
      ⟨some 23, .mv (.t 22), none, []⟩,
      ⟨some 24, .fa 0 (.t 3), some (23, false), []⟩,
      ⟨some 25, .load false 1 (.t 24), some (23, false), []⟩,
      ⟨some 26, .fa 1 (.t 3), some (23, false), []⟩,
      ⟨some 27, .load false 1 (.t 26), some (23, false), []⟩,
      ⟨some 28, .bin .gtr (.t 25) (.t 27), some (23, false), []⟩,
      ⟨some 29, .pick (.t 23) (.c (.bool true)) (.t 28), none, []⟩,
      ⟨some 30, .mv (.t 29), none, []⟩,
      ⟨some 31, .fa 0 (.t 6), some (30, false), []⟩,
      ⟨some 32, .load false 1 (.t 31), some (30, false), []⟩,
      ⟨some 33, .fa 1 (.t 6), some (30, false), []⟩,
      ⟨some 34, .load false 1 (.t 33), some (30, false), []⟩,
      ⟨some 35, .bin .gtr (.t 32) (.t 34), some (30, false), []⟩,
      ⟨some 36, .pick (.t 30) (.c (.bool true)) (.t 35), none, []⟩] none) <|
   .cond (.t 36) (.seq (.region [
       ⟨some 37, .build [.int .i64 0, .int .i64 0] [], none, []⟩,
       ⟨none, .store 2 (.t 4) (.t 37), none, []⟩,
       ⟨some 5, .mv (.c (.bool false)), none, []⟩] none) <|
    .ret) <|
   .skip) <|
  .seq (.region [
     ⟨some 38, .load true 2 (.t 6), none, []⟩,
     ⟨none, .store 2 (.t 4) (.t 38), none, []⟩,
     ⟨some 5, .mv (.c (.bool true)), none, []⟩] none) <|
  .ret
abbrev n_quantity_Meet : Nat := 41
theorem b_quantity_Meet : bodyOf prog 41 [] = some (c_quantity_Meet, [.c 4 true 2, .t 5], 39) := by kernel_rfl

def c_slices_Clone__Bounds : ACode :=
  .seq (.region [
     ⟨some 2, .newsl 2 35, none, []⟩] none) <|
  .seq (.seq (.region [
      ⟨some 3, .mv (.t 0), none, []⟩,
      ⟨some 4, .isnil false (.t 3), none, []⟩] none) <|
   .cond (.t 4) (.seq (.region [
       ⟨some 2, .newsl 2 35, none, []⟩] none) <|
    .ret) <|
   .skip) <|
  .seq (.region [
     ⟨some 5, .lit true 2 35 [], none, []⟩,
     ⟨some 6, .mv (.t 0), none, []⟩,
     ⟨some 7, .app 2 16 35 (.t 5) (.t 6), none, []⟩,
     ⟨some 2, .mv (.t 7), none, []⟩] none) <|
  .ret
abbrev n_slices_Clone__Bounds : Nat := 42
theorem b_slices_Clone__Bounds : bodyOf prog 42 [2, 5] = some (c_slices_Clone__Bounds, [.t 2], 8) := by kernel_rfl

def c_slices_Reverse__Bounds : ACode :=
  .seq (.region [
     ⟨some 4, .mv (.t 0), none, []⟩,
     ⟨some 5, .len (.t 4), none, []⟩,
     ⟨some 6, .bin .sub (.t 5) (.c (.int .i64 1)), none, []⟩,
     ⟨some 2, .mv (.c (.int .i64 0)), none, []⟩,
     ⟨some 3, .mv (.t 6), none, []⟩] none) <|
  .block 0 <|
  .loop <|
  .seq (.seq (.region [
      ⟨some 7, .mv (.t 2), none, []⟩,
      ⟨some 8, .mv (.t 3), none, []⟩,
      ⟨some 9, .bin .lss (.t 7) (.t 8), none, []⟩] none) <|
   .cond (.t 9) (.skip) <|
   .exit 0) <|
  .seq (.block 1 <|
   .region [
     ⟨some 14, .mv (.t 0), none, []⟩,
     ⟨some 15, .mv (.t 2), none, []⟩,
     ⟨some 16, .mv (.t 0), none, []⟩,
     ⟨some 17, .mv (.t 3), none, []⟩,
     ⟨some 18, .mv (.t 0), none, []⟩,
     ⟨some 19, .mv (.t 3), none, []⟩,
     ⟨some 20, .ixs 2 (.t 18) (.t 19), none, [4, 5]⟩,
     ⟨some 21, .load true 2 (.t 20), none, [6, 4, 5]⟩,
     ⟨some 22, .mv (.t 0), none, []⟩,
     ⟨some 23, .mv (.t 2), none, []⟩,
     ⟨some 24, .ixs 2 (.t 22) (.t 23), none, [8, 9]⟩,
     ⟨some 25, .load true 2 (.t 24), none, [10, 8, 9]⟩,
     ⟨some 26, .ixs 2 (.t 14) (.t 15), none, [0, 1, 4, 5, 6, 7, 11, 10, 8, 9]⟩,
     ⟨none, .store 2 (.t 26) (.t 21), none, [12, 7, 0, 1, 4, 5, 6, 11, 10, 8, 9]⟩,
     ⟨some 27, .ixs 2 (.t 16) (.t 17), none, [2, 3, 0, 1, 4, 5, 6, 7, 8, 9, 10, 11, 12, 13]⟩,
     ⟨none, .store 2 (.t 27) (.t 25), none, [14, 11, 13, 0, 1, 2, 3, 4, 5, 6, 7, 8, 9, 10, 12]⟩] (some 0)) <|
  .region [
    ⟨some 10, .mv (.t 2), none, []⟩,
    ⟨some 11, .bin .add (.t 10) (.c (.int .i64 1)), none, []⟩,
    ⟨some 12, .mv (.t 3), none, []⟩,
    ⟨some 13, .bin .sub (.t 12) (.c (.int .i64 1)), none, []⟩,
    ⟨some 2, .mv (.t 11), none, []⟩,
    ⟨some 3, .mv (.t 13), none, []⟩] none
abbrev n_slices_Reverse__Bounds : Nat := 43
theorem b_slices_Reverse__Bounds : bodyOf prog 43 [] = some (c_slices_Reverse__Bounds, [], 28) := by kernel_rfl

def c_ref01_in : ACode :=
  .seq (.region [
     ⟨some 4, .mv (.c (.bool false)), none, []⟩] none) <|
  .seq (.region [
     ⟨some 5, .mv (.t 0), none, []⟩,
     ⟨some 6, .bin .geq (.t 5) (.c (.int .i64 0)), none, []⟩,
     ⟨some 7, .mv (.t 6), none, []⟩,
     ⟨some 8, .mv (.t 0), some (7, true), []⟩,
     ⟨some 9, .mv (.t 1), some (7, true), []⟩,
     ⟨some 10, .bin .leq (.t 8) (.t 9), some (7, true), []⟩,
     ⟨some 11, .pick (.t 7) (.t 10) (.c (.bool false)), none, []⟩,
     ⟨some 4, .mv (.t 11), none, []⟩] none) <|
  .ret
abbrev n_ref01_in : Nat := 44
theorem b_ref01_in : bodyOf prog 44 [] = some (c_ref01_in, [.t 4], 12) := by kernel_rfl

def c_slices_IndexFunc__int : ACode :=
  .seq (.region [
     ⟨some 4, .mv (.c (.int .i64 0)), none, []⟩] none) <|
  .seq (.seq (.region [
      ⟨some 6, .mv (.t 0), none, []⟩,
      ⟨some 7, .len (.t 6), none, []⟩,
      ⟨some 8, .mv (.c (.int .i64 0)), none, []⟩] none) <|
   .block 0 <|
   .loop <|
   .seq (.region [
      ⟨some 9, .bin .lss (.t 8) (.t 7), none, []⟩] none) <|
   .seq (.cond (.t 9) (.skip) <|
    .exit 0) <|
   .seq (.block 1 <|
    .seq (.region [
       ⟨some 10, .mv (.t 8), none, []⟩,
       ⟨some 5, .mv (.t 10), none, []⟩] none) <|
    .seq (.region [
       ⟨some 11, .mv (.t 1), none, []⟩,
       ⟨some 12, .mv (.t 0), none, []⟩,
       ⟨some 13, .mv (.t 5), none, []⟩,
       ⟨some 14, .ixs 1 (.t 12) (.t 13), none, []⟩,
       ⟨some 15, .load false 1 (.t 14), none, []⟩,
       ⟨some 16, .callv (.t 11) [.t 15], none, []⟩] none) <|
    .cond (.t 16) (.seq (.region [
        ⟨some 17, .mv (.t 5), none, []⟩,
        ⟨some 4, .mv (.t 17), none, []⟩] none) <|
     .ret) <|
    .skip) <|
   .region [
     ⟨some 18, .bin .add (.t 8) (.c (.int .i64 1)), none, []⟩,
     ⟨some 8, .mv (.t 18), none, []⟩] none) <|
  .seq (.region [
     ⟨some 4, .mv (.c (.int .i64 (-1))), none, []⟩] none) <|
  .ret
abbrev n_slices_IndexFunc__int : Nat := 45
theorem b_slices_IndexFunc__int : bodyOf prog 45 [] = some (c_slices_IndexFunc__int, [.t 4], 19) := by kernel_rfl

end Go.Proofs.Try
