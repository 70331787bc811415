/- OWN WORK, put together by tools/asm.py, seat.py, mini.py. -/
import Derived.Test.YtbfefempldcfoaaCode
namespace Go.Proofs.Try
open Go Go.Ab
def c_ref31_fits : ACode := .seq (.region [o9 3 (.box 6 35 (.t 1)), o9 4 (.mv (.c (.int .i64 0)))] none) <| .seq (.seq (.region [o9 7 (.fa 0 (.t 3)), o9 8 (.load false 1 (.t 7)), o9 9 (.bin .lss (.t 8) (.c (.int .i64 1))), m9 10 9, ⟨some
 11, .fa 0 (.t 3), some (10, false), []⟩, ⟨some 12, .load false 1 (.t 11), some (10, false), []⟩, ⟨some 13, .bin .gtr (.t 12) (.c (.int .i64 1073741824)), some (10, false), []⟩, o9 14 (.pick (.t 10) (.c (.bool true)) (.t 13))] none) <|
 .cond (.t 14) (.seq (.region [o9 4 (.mv (.c (.int .i64 3)))] none) <| .ret) <| .skip) <| .seq (.seq (.region [o9 15 (.fa 1 (.t 3)), o9 16 (.load false 1 (.t 15)), o9 17 (.bin .lss (.t 16) (.c (.int .i64 0))), m9 18 17, ⟨some 19, .fa 1 (.t
 3), some (18, false), []⟩, ⟨some 20, .load false 1 (.t 19), some (18, false), []⟩, ⟨some 21, .mv (.t 0), some (18, false), []⟩, ⟨some 22, .len (.t 21), some (18, false), []⟩, ⟨some 23, .bin .geq (.t 20) (.t 22), some (18, false), []⟩, o9
 24 (.pick (.t 18) (.c (.bool true)) (.t 23))] none) <| .cond (.t 24) (.seq (.region [o9 4 (.mv (.c (.int .i64 47)))] none) <| .ret) <| .skip) <| .seq (.region [m9 25 0, o9 26 (.fa 1 (.t 3)), o9 27 (.load false 1 (.t 26)), o9 28 (.ixs 4
 (.t 25) (.t 27)), o9 29 (.load true 4 (.t 28)), o9 5 (.alloc 4 103 (.agg [.int .i64 0, .nil, .nil, .nil])), ⟨none, .store 4 (.t 5) (.t 29), none, []⟩] none) <| .seq (.region [o9 30 (.fa 2 (.t 5)), o9 31 (.load false 1 (.t 30)), o9 32
 (.len (.t 31)), m9 6 32] none) <| .seq (.seq (.region [o9 33 (.fa 2 (.t 3)), o9 34 (.load false 1 (.t 33))] none) <| .block 0 <| .seq (.region [o9 36 (.bin .eql (.t 34) (.c (.int .i64 1))), m9 35 36] none) <| .cond (.t 35) (.region [m9 37
 6, o9 38 (.bin .add (.t 37) (.c (.int .i64 1))), m9 6 38] none) <| .seq (.seq (.region [o9 40 (.bin .eql (.t 34) (.c (.int .i64 2))), m9 39 40] none) <| .cond (.t 39) (.skip) <| .region [o9 41 (.bin .eql (.t 34) (.c (.int .i64 3))), m9 39
 41] none) <| .cond (.t 39) (.skip) <| .seq (.region [o9 4 (.mv (.c (.int .i64 5)))] none) <| .ret) <| .seq (.seq (.region [o9 42 (.fa 3 (.t 3)), o9 43 (.load false 1 (.t 42)), o9 44 (.fa 0 (.t 5)), o9 45 (.load false 1 (.t 44)), o9 46
 (.bin .lss (.t 43) (.t 45)), m9 47 46, ⟨some 48, .fa 3 (.t 3), some (47, false), []⟩, ⟨some 49, .load false 1 (.t 48), some (47, false), []⟩, ⟨some 50, .fa 0 (.t 5), some (47, false), []⟩, ⟨some 51, .load false 1 (.t 50), some (47,
 false), []⟩, ⟨some 52, .mv (.t 6), some (47, false), []⟩, ⟨some 53, .bin .add (.t 51) (.t 52), some (47, false), []⟩, ⟨some 54, .bin .geq (.t 49) (.t 53), some (47, false), []⟩, o9 55 (.pick (.t 47) (.c (.bool true)) (.t 54))] none) <|
 .cond (.t 55) (.seq (.region [o9 4 (.mv (.c (.int .i64 6)))] none) <| .ret) <| .skip) <| .seq (.seq (.region [o9 56 (.fa 4 (.t 3)), o9 57 (.fa 0 (.t 56)), o9 58 (.load false 1 (.t 57)), o9 59 (.bin .lss (.t 58) (.c (.int .i64 0))), m9 60
 59, ⟨some 61, .fa 4 (.t 3), some (60, false), []⟩, ⟨some 62, .fa 0 (.t 61), some (60, false), []⟩, ⟨some 63, .load false 1 (.t 62), some (60, false), []⟩, ⟨some 64, .bin .gtr (.t 63) (.c (.int .i64 274877906944)), some (60, false), []⟩,
 o9 65 (.pick (.t 60) (.c (.bool true)) (.t 64)), m9 66 65, ⟨some 67, .fa 4 (.t 3), some (66, false), []⟩, ⟨some 68, .fa 1 (.t 67), some (66, false), []⟩, ⟨some 69, .load false 1 (.t 68), some (66, false), []⟩, ⟨some 70, .bin .lss (.t 69)
 (.c (.int .i64 0)), some (66, false), []⟩, o9 71 (.pick (.t 66) (.c (.bool true)) (.t 70)), m9 72 71, ⟨some 73, .fa 4 (.t 3), some (72, false), []⟩, ⟨some 74, .fa 1 (.t 73), some (72, false), []⟩, ⟨some 75, .load false 1 (.t 74), some
 (72, false), []⟩, ⟨some 76, .bin .gtr (.t 75) (.c (.int .i64 274877906944)), some (72, false), []⟩, o9 77 (.pick (.t 72) (.c (.bool true)) (.t 76))] none) <| .cond (.t 77) (.seq (.region [o9 4 (.mv (.c (.int .i64 1)))] none) <| .ret) <|
 .skip) <| .seq (.seq (.region [o9 78 (.fa 4 (.t 3)), o9 79 (.fa 0 (.t 78)), o9 80 (.load false 1 (.t 79)), o9 81 (.fa 4 (.t 3)), o9 82 (.fa 1 (.t 81)), o9 83 (.load false 1 (.t 82)), o9 84 (.bin .gtr (.t 80) (.t 83))] none) <| .cond (.t
 84) (.seq (.region [o9 4 (.mv (.c (.int .i64 48)))] none) <| .ret) <| .skip) <| .seq (.region [o9 4 (.mv (.c (.int .i64 0)))] none) <| .ret
abbrev n_ref31_fits : Nat := 64
theorem b_ref31_fits : bodyOf prog 64 [1000000] = some (c_ref31_fits, [.t 4], 85) := by kernel_rfl
def c_ref31_Copy : ACode := .seq (.region [o9 1 (.box 2 63 (.t 0)), o9 2 (.alloc 2 63 (.agg [.nil, .nil]))] none) <| .seq (.region [o9 3 (.mv (.c (.nil)))] none) <| .seq (.seq (.region [o9 6 (.fa 0 (.t 1)), o9 7 (.load false 1 (.t 6)), o9
 8 (.len (.t 7)), o9 9 (.mv (.c (.int .i64 0)))] none) <| .block 0 <| .loop <| .seq (.region [o9 10 (.bin .lss (.t 9) (.t 8))] none) <| .seq (.cond (.t 10) (.skip) <| .exit 0) <| .seq (.block 1 <| .seq (.region [o9 11 (.ixs 4 (.t 7) (.t
 9)), o9 12 (.load true 4 (.t 11)), o9 5 (.alloc 4 103 (.agg [.int .i64 0, .nil, .nil, .nil])), ⟨none, .store 4 (.t 5) (.t 12), none, []⟩] none) <| .region [m9 13 3, o9 14 (.load true 4 (.t 5)), o9 15 (.call 76 [.t 14]), o9 16 (.lit false
 4 103 [.t 15]), o9 17 (.app 4 80 103 (.t 13) (.t 16)), m9 3 17] none) <| .region [o9 18 (.bin .add (.t 9) (.c (.int .i64 1))), m9 9 18] none) <| .seq (.region [m9 19 3, o9 20 (.fa 1 (.t 1)), o9 21 (.load false 1 (.t 20)), o9 22 (.app 6 48
 35 (.c (.nil)) (.t 21)), o9 23 (.build [.nil, .nil] [(0, 1, .t 19), (1, 1, .t 22)]), ⟨none, .store 2 (.t 2) (.t 23), none, []⟩] none) <| .ret
abbrev n_ref31_Copy : Nat := 65
theorem b_ref31_Copy : bodyOf prog 65 [1000000] = some (c_ref31_Copy, [.c 2 true 2], 24) := by kernel_rfl
def c_ref27_Valid : ACode := .seq (.region [o9 1 (.box 2 70 (.t 0)), o9 2 (.mv (.c (.bool false)))] none) <| .seq (.seq (.region [o9 5 (.fa 0 (.t 1)), o9 6 (.load false 1 (.t 5)), o9 7 (.call 78 [.t 6, .c (.int .i64 1), .c (.int .i64
 1073741824)]), o9 8 (.un .not (.t 7)), m9 9 8, ⟨some 10, .fa 1 (.t 1), some (9, false), []⟩, ⟨some 11, .load false 1 (.t 10), some (9, false), []⟩, ⟨some 12, .len (.t 11), some (9, false), []⟩, ⟨some 13, .bin .gtr (.t 12) (.c (.int .i64
 64)), some (9, false), []⟩, o9 14 (.pick (.t 9) (.c (.bool true)) (.t 13))] none) <| .cond (.t 14) (.seq (.region [o9 2 (.mv (.c (.bool false)))] none) <| .ret) <| .skip) <| .seq (.seq (.region [o9 15 (.fa 1 (.t 1)), o9 16 (.load false 1
 (.t 15)), o9 17 (.len (.t 16)), o9 18 (.mv (.c (.int .i64 0)))] none) <| .block 0 <| .loop <| .seq (.region [o9 19 (.bin .lss (.t 18) (.t 17))] none) <| .seq (.cond (.t 19) (.skip) <| .exit 0) <| .seq (.block 1 <| .seq (.region [m9 20 18,
 o9 21 (.ixs 4 (.t 16) (.t 18)), o9 22 (.load true 4 (.t 21)), o9 4 (.alloc 4 39 (.agg [.int .i64 0, .int .i64 0, .int .i64 0, .int .i64 0])), m9 3 20, ⟨none, .store 4 (.t 4) (.t 22), none, []⟩] none) <| .seq (.region [o9 23 (.load true 4
 (.t 4)), o9 24 (.call 69 [.t 23]), o9 25 (.un .not (.t 24)), m9 26 25, ⟨some 27, .fa 0 (.t 4), some (26, false), []⟩, ⟨some 28, .load false 1 (.t 27), some (26, false), []⟩, ⟨some 29, .fa 0 (.t 1), some (26, false), []⟩, ⟨some 30, .load
 false 1 (.t 29), some (26, false), []⟩, ⟨some 31, .fa 1 (.t 1), some (26, false), []⟩, ⟨some 32, .load false 1 (.t 31), some (26, false), []⟩, ⟨some 33, .len (.t 32), some (26, false), []⟩, ⟨some 34, .bin .sub (.t 30) (.t 33), some (26,
 false), []⟩, ⟨some 35, .mv (.t 3), some (26, false), []⟩, ⟨some 36, .bin .add (.t 34) (.t 35), some (26, false), []⟩, ⟨some 37, .bin .neq (.t 28) (.t 36), some (26, false), []⟩, o9 38 (.pick (.t 26) (.c (.bool true)) (.t 37))] none) <|
 .cond (.t 38) (.seq (.region [o9 2 (.mv (.c (.bool false)))] none) <| .ret) <| .skip) <| .region [o9 39 (.bin .add (.t 18) (.c (.int .i64 1))), m9 18 39] none) <| .seq (.region [o9 2 (.mv (.c (.bool true)))] none) <| .ret
abbrev n_ref27_Valid : Nat := 66
theorem b_ref27_Valid : bodyOf prog 66 [1000000] = some (c_ref27_Valid, [.t 2], 40) := by kernel_rfl
def c_ref27_Fits : ACode := .seq (.region [o9 6 (.mv (.c (.int .i64 0)))] none) <| .seq (.seq (.region [m9 7 0] none) <| .block 0 <| .seq (.region [o9 9 (.bin .eql (.t 7) (.c (.int .i64 1))), m9 8 9] none) <| .cond (.t 8) (.seq (.region
 [m9 10 1, o9 11 (.bin .neq (.t 10) (.c (.int .i64 0))), m9 12 11, ⟨some 13, .mv (.t 2), some (12, false), []⟩, ⟨some 14, .call 78 [.t 13, .c (.int .i64 0), .c (.int .i64 1073741824)], some (12, false), []⟩, ⟨some 15, .un .not (.t 14),
 some (12, false), []⟩, o9 16 (.pick (.t 12) (.c (.bool true)) (.t 15))] none) <| .cond (.t 16) (.seq (.region [o9 6 (.mv (.c (.int .i64 1)))] none) <| .ret) <| .skip) <| .seq (.region [o9 18 (.bin .eql (.t 7) (.c (.int .i64 2))), m9 17
 18] none) <| .cond (.t 17) (.seq (.region [m9 19 1, o9 20 (.call 78 [.t 19, .c (.int .i64 0), .c (.int .i64 7)]), o9 21 (.un .not (.t 20)), m9 22 21, ⟨some 23, .mv (.t 2), some (22, false), []⟩, ⟨some 24, .bin .neq (.t 23) (.c (.int .i64
 0)), some (22, false), []⟩, o9 25 (.pick (.t 22) (.c (.bool true)) (.t 24))] none) <| .cond (.t 25) (.seq (.region [o9 6 (.mv (.c (.int .i64 1)))] none) <| .ret) <| .skip) <| .seq (.region [o9 27 (.bin .eql (.t 7) (.c (.int .i64 3))), m9
 26 27] none) <| .cond (.t 26) (.seq (.region [m9 28 1, o9 29 (.call 78 [.t 28, .c (.int .i64 0), .c (.int .i64 5)]), o9 30 (.un .not (.t 29)), m9 31 30, ⟨some 32, .mv (.t 2), some (31, false), []⟩, ⟨some 33, .call 78 [.t 32, .c (.int .i64
 0), .c (.int .i64 1)], some (31, false), []⟩, ⟨some 34, .un .not (.t 33), some (31, false), []⟩, o9 35 (.pick (.t 31) (.c (.bool true)) (.t 34))] none) <| .cond (.t 35) (.seq (.region [o9 6 (.mv (.c (.int .i64 1)))] none) <| .ret) <|
 .skip) <| .seq (.region [o9 6 (.mv (.c (.int .i64 5)))] none) <| .ret) <| .seq (.region [o9 6 (.mv (.c (.int .i64 0)))] none) <| .ret
abbrev n_ref27_Fits : Nat := 67
theorem b_ref27_Fits : bodyOf prog 67 [1000000] = some (c_ref27_Fits, [.t 6], 36) := by kernel_rfl
def c_ref27_Right : ACode := .seq (.region [o9 1 (.box 2 97 (.t 0)), o9 2 (.mv (.c (.bool false)))] none) <| .seq (.seq (.region [o9 5 (.fa 0 (.t 1)), o9 6 (.load false 1 (.t 5)), o9 7 (.call 78 [.t 6, .c (.int .i64 0), .c (.int .i64
 1073741824)]), o9 8 (.un .not (.t 7)), m9 9 8, ⟨some 10, .fa 1 (.t 1), some (9, false), []⟩, ⟨some 11, .load false 1 (.t 10), some (9, false), []⟩, ⟨some 12, .len (.t 11), some (9, false), []⟩, ⟨some 13, .bin .gtr (.t 12) (.c (.int .i64
 64)), some (9, false), []⟩, o9 14 (.pick (.t 9) (.c (.bool true)) (.t 13))] none) <| .cond (.t 14) (.seq (.region [o9 2 (.mv (.c (.bool false)))] none) <| .ret) <| .skip) <| .seq (.seq (.region [o9 15 (.fa 1 (.t 1)), o9 16 (.load false 1
 (.t 15)), o9 17 (.len (.t 16)), o9 18 (.mv (.c (.int .i64 0)))] none) <| .block 0 <| .loop <| .seq (.region [o9 19 (.bin .lss (.t 18) (.t 17))] none) <| .seq (.cond (.t 19) (.skip) <| .exit 0) <| .seq (.block 1 <| .seq (.region [m9 20 18,
 o9 21 (.ixs 4 (.t 16) (.t 18)), o9 22 (.load true 4 (.t 21)), o9 4 (.alloc 4 39 (.agg [.int .i64 0, .int .i64 0, .int .i64 0, .int .i64 0])), m9 3 20, ⟨none, .store 4 (.t 4) (.t 22), none, []⟩] none) <| .seq (.hregion [⟨0, o9 23 (.load
 true 4 (.t 4))⟩, h9 1 24 (.call 69 [.t 23]) [0], h9 2 25 (.un .not (.t 24)) [1,0], h9 3 26 (.mv (.t 25)) [2,1,0], ⟨6, ⟨some 29, .fa 0 (.t 1), some (26, false), [3, 2, 1, 0]⟩⟩, ⟨7, ⟨some 30, .load false 1 (.t 29), some (26, false), [6, 3,
 2, 1, 0]⟩⟩, ⟨8, ⟨some 31, .bin .add (.t 30) (.c (.int .i64 1)), some (26, false), [7, 3, 6, 2, 1, 0]⟩⟩, ⟨4, ⟨some 27, .fa 0 (.t 4), some (26, false), [3, 2, 1, 0]⟩⟩, ⟨5, ⟨some 28, .load false 1 (.t 27), some (26, false), [4, 3, 2, 1,
 0]⟩⟩, ⟨9, ⟨some 32, .bin .leq (.t 28) (.t 31), some (26, false), [5, 8, 3, 4, 2, 1, 0, 7, 6]⟩⟩, h9 10 33 (.pick (.t 26) (.c (.bool true)) (.t 32)) [3,9,2,1,0,5,8,4,7,6], h9 11 34 (.mv (.t 33)) [10,3,9,2,1,0,5,8,4,7,6], ⟨12, ⟨some 35, .mv
 (.t 3), some (34, false), [11, 10, 3, 9, 2, 1, 0, 5, 8, 4, 7, 6]⟩⟩, ⟨13, ⟨some 36, .bin .gtr (.t 35) (.c (.int .i64 0)), some (34, false), [12, 11, 10, 3, 9, 2, 1, 0, 5, 8, 4, 7, 6]⟩⟩, ⟨14, ⟨some 37, .mv (.t 36), some (34, false), [13,
 11, 12, 10, 3, 9, 2, 1, 0, 5, 8, 4, 7, 6]⟩⟩, ⟨19, ⟨some 42, .mv (.t 3), some (37, true), [14, 13, 11, 12, 10, 3, 9, 2, 1, 0, 5, 8, 4, 7, 6]⟩⟩, ⟨20, ⟨some 43, .bin .sub (.t 42) (.c (.int .i64 1)), some (37, true), [19, 14, 13, 11, 12, 10,
 3, 9, 2, 1, 0, 5, 8, 4, 7, 6]⟩⟩, ⟨17, ⟨some 40, .fa 1 (.t 1), some (37, true), [14, 13, 11, 12, 10, 3, 9, 2, 1, 0, 5, 8, 4, 7, 6]⟩⟩, ⟨18, ⟨some 41, .load false 1 (.t 40), some (37, true), [17, 14, 13, 11, 12, 10, 3, 9, 2, 1, 0, 5, 8, 4,
 7, 6]⟩⟩, ⟨21, ⟨some 44, .ixs 4 (.t 41) (.t 43), some (37, true), [18, 20, 14, 17, 13, 11, 12, 10, 3, 9, 2, 1, 0, 5, 8, 4, 7, 6, 19]⟩⟩, ⟨22, ⟨some 45, .fa 0 (.t 44), some (37, true), [21, 14, 18, 20, 17, 13, 11, 12, 10, 3, 9, 2, 1, 0, 5,
 8, 4, 7, 6, 19]⟩⟩, ⟨23, ⟨some 46, .load false 1 (.t 45), some (37, true), [22, 14, 21, 18, 20, 17, 13, 11, 12, 10, 3, 9, 2, 1, 0, 5, 8, 4, 7, 6, 19]⟩⟩, ⟨15, ⟨some 38, .fa 0 (.t 4), some (37, true), [14, 13, 11, 12, 10, 3, 9, 2, 1, 0, 5,
 8, 4, 7, 6]⟩⟩, ⟨16, ⟨some 39, .load false 1 (.t 38), some (37, true), [15, 14, 13, 11, 12, 10, 3, 9, 2, 1, 0, 5, 8, 4, 7, 6]⟩⟩, ⟨24, ⟨some 47, .bin .leq (.t 39) (.t 46), some (37, true), [16, 23, 14, 15, 13, 11, 12, 10, 3, 9, 2, 1, 0, 5,
 8, 4, 7, 6, 22, 21, 18, 20, 17, 19]⟩⟩, ⟨25, ⟨some 48, .pick (.t 37) (.t 47) (.c (.bool false)), some (34, false), [14, 24, 11, 13, 12, 10, 3, 9, 2, 1, 0, 5, 8, 4, 7, 6, 16, 23, 15, 22, 21, 18, 20, 17, 19]⟩⟩, h9 26 49 (.pick (.t 34) (.c
 (.bool true)) (.t 48)) [11,25,10,3,9,2,1,0,5,8,4,7,6,14,24,13,12,16,23,15,22,21,18,20,17,19]]) <| .cond (.t 49) (.seq (.region [o9 2 (.mv (.c (.bool false)))] none) <| .ret) <| .skip) <| .region [o9 50 (.bin .add (.t 18) (.c (.int .i64
 1))), m9 18 50] none) <| .seq (.region [o9 2 (.mv (.c (.bool true)))] none) <| .ret
abbrev n_ref27_Right : Nat := 68
theorem b_ref27_Right : bodyOf prog 68 [1000000] = some (c_ref27_Right, [.t 2], 51) := by kernel_rfl
def c_ref27_order : ACode := .seq (.region [o9 1 (.box 4 39 (.t 0)), o9 2 (.mv (.c (.bool false)))] none) <| .seq (.region [o9 3 (.fa 0 (.t 1)), o9 4 (.load false 1 (.t 3)), o9 5 (.call 78 [.t 4, .c (.int .i64 1), .c (.int .i64
 1073741824)]), m9 6 5, ⟨some 7, .fa 1 (.t 1), some (6, true), []⟩, ⟨some 8, .load false 1 (.t 7), some (6, true), []⟩, ⟨some 9, .fa 2 (.t 1), some (6, true), []⟩, ⟨some 10, .load false 1 (.t 9), some (6, true), []⟩, ⟨some 11, .fa 3 (.t
 1), some (6, true), []⟩, ⟨some 12, .load false 1 (.t 11), some (6, true), []⟩, ⟨some 13, .call 67 [.t 8, .t 10, .t 12], some (6, true), []⟩, ⟨some 14, .bin .eql (.t 13) (.c (.int .i64 0)), some (6, true), []⟩, o9 15 (.pick (.t 6) (.t 14)
 (.c (.bool false))), m9 2 15] none) <| .ret
abbrev n_ref27_order : Nat := 69
theorem b_ref27_order : bodyOf prog 69 [1000000] = some (c_ref27_order, [.t 2], 16) := by kernel_rfl
def c_ref26_Check : ACode := .seq (.region [o9 1 (.box 3 67 (.t 0)), o9 2 (.mv (.c (.int .i64 0)))] none) <| .seq (.seq (.region [o9 7 (.fa 0 (.t 1)), o9 8 (.load false 1 (.t 7)), o9 9 (.len (.t 8)), o9 10 (.bin .gtr (.t 9) (.c (.int .i64
 12))), m9 11 10, ⟨some 12, .fa 1 (.t 1), some (11, false), []⟩, ⟨some 13, .load false 1 (.t 12), some (11, false), []⟩, ⟨some 14, .call 71 [.t 13, .c (.int .i64 1), .c (.int .i64 1073741824)], some (11, false), []⟩, ⟨some 15, .un .not (.t
 14), some (11, false), []⟩, o9 16 (.pick (.t 11) (.c (.bool true)) (.t 15)), m9 17 16, ⟨some 18, .fa 2 (.t 1), some (17, false), []⟩, ⟨some 19, .load false 1 (.t 18), some (17, false), []⟩, ⟨some 20, .len (.t 19), some (17, false), []⟩,
 ⟨some 21, .bin .gtr (.t 20) (.c (.int .i64 64)), some (17, false), []⟩, o9 22 (.pick (.t 17) (.c (.bool true)) (.t 21))] none) <| .cond (.t 22) (.seq (.region [o9 2 (.mv (.c (.int .i64 50)))] none) <| .ret) <| .skip) <| .seq (.seq
 (.region [o9 23 (.fa 0 (.t 1)), o9 24 (.load false 1 (.t 23)), o9 25 (.len (.t 24)), o9 26 (.mv (.c (.int .i64 0)))] none) <| .block 0 <| .loop <| .seq (.region [o9 27 (.bin .lss (.t 26) (.t 25))] none) <| .seq (.cond (.t 27) (.skip) <|
 .exit 0) <| .seq (.block 1 <| .seq (.region [m9 28 26, o9 29 (.ixs 3 (.t 24) (.t 26)), o9 30 (.load true 3 (.t 29)), o9 4 (.alloc 3 132 (.agg [.int .i64 0, .int .i64 0, .int .i64 0])), m9 3 28, ⟨none, .store 3 (.t 4) (.t 30), none, []⟩]
 none) <| .seq (.hregion [⟨0, o9 31 (.fa 0 (.t 4))⟩, h9 1 32 (.load false 1 (.t 31)) [0], h9 2 33 (.call 71 [.t 32, .c (.int .i64 1), .c (.int .i64 1073741824)]) [1,0], h9 3 34 (.un .not (.t 33)) [2,1,0], h9 4 35 (.mv (.t 34)) [3,2,1,0],
 ⟨5, ⟨some 36, .mv (.t 3), some (35, false), [4, 3, 2, 1, 0]⟩⟩, ⟨6, ⟨some 37, .bin .gtr (.t 36) (.c (.int .i64 0)), some (35, false), [5, 4, 3, 2, 1, 0]⟩⟩, ⟨7, ⟨some 38, .mv (.t 37), some (35, false), [6, 4, 5, 3, 2, 1, 0]⟩⟩, ⟨12, ⟨some
 43, .mv (.t 3), some (38, true), [7, 6, 4, 5, 3, 2, 1, 0]⟩⟩, ⟨13, ⟨some 44, .bin .sub (.t 43) (.c (.int .i64 1)), some (38, true), [12, 7, 6, 4, 5, 3, 2, 1, 0]⟩⟩, ⟨10, ⟨some 41, .fa 0 (.t 1), some (38, true), [7, 6, 4, 5, 3, 2, 1, 0]⟩⟩,
 ⟨11, ⟨some 42, .load false 1 (.t 41), some (38, true), [10, 7, 6, 4, 5, 3, 2, 1, 0]⟩⟩, ⟨14, ⟨some 45, .ixs 3 (.t 42) (.t 44), some (38, true), [11, 13, 7, 10, 6, 4, 5, 3, 2, 1, 0, 12]⟩⟩, ⟨15, ⟨some 46, .fa 0 (.t 45), some (38, true), [14,
 7, 11, 13, 10, 6, 4, 5, 3, 2, 1, 0, 12]⟩⟩, ⟨16, ⟨some 47, .load false 1 (.t 46), some (38, true), [15, 7, 14, 11, 13, 10, 6, 4, 5, 3, 2, 1, 0, 12]⟩⟩, ⟨8, ⟨some 39, .fa 0 (.t 4), some (38, true), [7, 6, 4, 5, 3, 2, 1, 0]⟩⟩, ⟨9, ⟨some 40,
 .load false 1 (.t 39), some (38, true), [8, 7, 6, 4, 5, 3, 2, 1, 0]⟩⟩, ⟨17, ⟨some 48, .bin .leq (.t 40) (.t 47), some (38, true), [9, 16, 7, 8, 6, 4, 5, 3, 2, 1, 0, 15, 14, 11, 13, 10, 12]⟩⟩, ⟨18, ⟨some 49, .pick (.t 38) (.t 48) (.c
 (.bool false)), some (35, false), [7, 17, 4, 6, 5, 3, 2, 1, 0, 9, 16, 8, 15, 14, 11, 13, 10, 12]⟩⟩, h9 19 50 (.pick (.t 35) (.c (.bool true)) (.t 49)) [4,18,3,2,1,0,7,17,6,5,9,16,8,15,14,11,13,10,12], h9 20 51 (.mv (.t 50))
 [19,7,4,18,3,2,1,0,17,6,5,9,16,8,15,14,11,13,10,12], ⟨21, ⟨some 52, .fa 1 (.t 4), some (51, false), [20, 19, 7, 4, 18, 3, 2, 1, 0, 17, 6, 5, 9, 16, 8, 15, 14, 11, 13, 10, 12]⟩⟩, ⟨22, ⟨some 53, .load false 1 (.t 52), some (51, false), [21,
 20, 19, 7, 4, 18, 3, 2, 1, 0, 17, 6, 5, 9, 16, 8, 15, 14, 11, 13, 10, 12]⟩⟩, ⟨23, ⟨some 54, .call 71 [.t 53, .c (.int .i64 1), .c (.int .i64 9)], some (51, false), [22, 20, 21, 19, 7, 4, 18, 3, 2, 1, 0, 17, 6, 5, 9, 16, 8, 15, 14, 11, 13,
 10, 12]⟩⟩, ⟨24, ⟨some 55, .un .not (.t 54), some (51, false), [23, 20, 22, 21, 19, 7, 4, 18, 3, 2, 1, 0, 17, 6, 5, 9, 16, 8, 15, 14, 11, 13, 10, 12]⟩⟩, h9 25 56 (.pick (.t 51) (.c (.bool true)) (.t 55))
 [20,24,19,7,4,18,3,2,1,0,17,6,5,9,16,8,15,14,11,13,10,12,23,22,21], h9 26 57 (.mv (.t 56)) [25,23,20,24,19,7,4,18,3,2,1,0,17,6,5,9,16,8,15,14,11,13,10,12,22,21], ⟨27, ⟨some 58, .fa 2 (.t 4), some (57, false), [26, 25, 23, 20, 24, 19, 7,
 4, 18, 3, 2, 1, 0, 17, 6, 5, 9, 16, 8, 15, 14, 11, 13, 10, 12, 22, 21]⟩⟩, ⟨28, ⟨some 59, .load false 1 (.t 58), some (57, false), [27, 26, 25, 23, 20, 24, 19, 7, 4, 18, 3, 2, 1, 0, 17, 6, 5, 9, 16, 8, 15, 14, 11, 13, 10, 12, 22, 21]⟩⟩,
 ⟨29, ⟨some 60, .call 71 [.t 59, .c (.int .i64 1), .c (.int .i64 1073741824)], some (57, false), [28, 26, 27, 25, 23, 20, 24, 19, 7, 4, 18, 3, 2, 1, 0, 17, 6, 5, 9, 16, 8, 15, 14, 11, 13, 10, 12, 22, 21]⟩⟩, ⟨30, ⟨some 61, .un .not (.t 60),
 some (57, false), [29, 26, 28, 27, 25, 23, 20, 24, 19, 7, 4, 18, 3, 2, 1, 0, 17, 6, 5, 9, 16, 8, 15, 14, 11, 13, 10, 12, 22, 21]⟩⟩, h9 31 62 (.pick (.t 57) (.c (.bool true)) (.t 61))
 [26,30,25,23,20,24,19,7,4,18,3,2,1,0,17,6,5,9,16,8,15,14,11,13,10,12,22,21,29,28,27]]) <| .cond (.t 62) (.seq (.region [o9 2 (.mv (.c (.int .i64 50)))] none) <| .ret) <| .skip) <| .region [o9 63 (.bin .add (.t 26) (.c (.int .i64 1))), m9
 26 63] none) <| .seq (.seq (.region [o9 64 (.fa 2 (.t 1)), o9 65 (.load false 1 (.t 64)), o9 66 (.len (.t 65)), o9 67 (.mv (.c (.int .i64 0)))] none) <| .block 2 <| .loop <| .seq (.region [o9 68 (.bin .lss (.t 67) (.t 66))] none) <| .seq
 (.cond (.t 68) (.skip) <| .exit 2) <| .seq (.block 3 <| .seq (.region [m9 69 67, o9 70 (.ixs 7 (.t 65) (.t 67)), o9 71 (.load true 7 (.t 70)), o9 6 (.alloc 7 37 (.agg [.int .i64 0, .int .i64 0, .int .i64 0, .int .i64 0, .int .i64 0, .nil,
 .bool false])), m9 5 69, ⟨none, .store 7 (.t 6) (.t 71), none, []⟩] none) <| .seq (.hregion [⟨2, o9 74 (.fa 1 (.t 1))⟩, h9 3 75 (.load false 1 (.t 74)) [2], h9 4 76 (.bin .sub (.t 75) (.c (.int .i64 1))) [3,2], ⟨0, o9 72 (.fa 0 (.t 6))⟩,
 h9 1 73 (.load false 1 (.t 72)) [0], h9 5 77 (.call 71 [.t 73, .c (.int .i64 1), .t 76]) [1,4,0,3,2], h9 6 78 (.un .not (.t 77)) [5,1,4,0,3,2], h9 7 79 (.mv (.t 78)) [6,5,1,4,0,3,2], ⟨8, ⟨some 80, .mv (.t 5), some (79, false), [7, 6, 5,
 1, 4, 0, 3, 2]⟩⟩, ⟨9, ⟨some 81, .bin .gtr (.t 80) (.c (.int .i64 0)), some (79, false), [8, 7, 6, 5, 1, 4, 0, 3, 2]⟩⟩, ⟨10, ⟨some 82, .mv (.t 81), some (79, false), [9, 7, 8, 6, 5, 1, 4, 0, 3, 2]⟩⟩, ⟨15, ⟨some 87, .mv (.t 5), some (82,
 true), [10, 9, 7, 8, 6, 5, 1, 4, 0, 3, 2]⟩⟩, ⟨16, ⟨some 88, .bin .sub (.t 87) (.c (.int .i64 1)), some (82, true), [15, 10, 9, 7, 8, 6, 5, 1, 4, 0, 3, 2]⟩⟩, ⟨13, ⟨some 85, .fa 2 (.t 1), some (82, true), [10, 9, 7, 8, 6, 5, 1, 4, 0, 3,
 2]⟩⟩, ⟨14, ⟨some 86, .load false 1 (.t 85), some (82, true), [13, 10, 9, 7, 8, 6, 5, 1, 4, 0, 3, 2]⟩⟩, ⟨17, ⟨some 89, .ixs 7 (.t 86) (.t 88), some (82, true), [14, 16, 10, 13, 9, 7, 8, 6, 5, 1, 4, 0, 3, 2, 15]⟩⟩, ⟨18, ⟨some 90, .fa 0 (.t
 89), some (82, true), [17, 10, 14, 16, 13, 9, 7, 8, 6, 5, 1, 4, 0, 3, 2, 15]⟩⟩, ⟨19, ⟨some 91, .load false 1 (.t 90), some (82, true), [18, 10, 17, 14, 16, 13, 9, 7, 8, 6, 5, 1, 4, 0, 3, 2, 15]⟩⟩, ⟨11, ⟨some 83, .fa 0 (.t 6), some (82,
 true), [10, 9, 7, 8, 6, 5, 1, 4, 0, 3, 2]⟩⟩, ⟨12, ⟨some 84, .load false 1 (.t 83), some (82, true), [11, 10, 9, 7, 8, 6, 5, 1, 4, 0, 3, 2]⟩⟩, ⟨20, ⟨some 92, .bin .leq (.t 84) (.t 91), some (82, true), [12, 19, 10, 11, 9, 7, 8, 6, 5, 1, 4,
 0, 3, 2, 18, 17, 14, 16, 13, 15]⟩⟩, ⟨21, ⟨some 93, .pick (.t 82) (.t 92) (.c (.bool false)), some (79, false), [10, 20, 7, 9, 8, 6, 5, 1, 4, 0, 3, 2, 12, 19, 11, 18, 17, 14, 16, 13, 15]⟩⟩, h9 22 94 (.pick (.t 79) (.c (.bool true)) (.t
 93)) [7,21,6,5,1,4,0,3,2,10,20,9,8,12,19,11,18,17,14,16,13,15], h9 23 95 (.mv (.t 94)) [22,10,7,21,6,5,1,4,0,3,2,20,9,8,12,19,11,18,17,14,16,13,15], ⟨25, ⟨some 97, .load true 7 (.t 6), some (95, false), [23, 22, 10, 7, 21, 6, 5, 1, 4, 0,
 3, 2, 20, 9, 8, 12, 19, 11, 18, 17, 14, 16, 13, 15]⟩⟩, ⟨24, ⟨some 96, .load true 3 (.t 1), some (95, false), [23, 22, 10, 7, 21, 6, 5, 1, 4, 0, 3, 2, 20, 9, 8, 12, 19, 11, 18, 17, 14, 16, 13, 15]⟩⟩, ⟨26, ⟨some 98, .call 79 [.t 96, .t 97],
 some (95, false), [24, 25, 23, 22, 10, 7, 21, 6, 5, 1, 4, 0, 3, 2, 20, 9, 8, 12, 19, 11, 18, 17, 14, 16, 13, 15]⟩⟩, ⟨27, ⟨some 99, .un .not (.t 98), some (95, false), [26, 23, 24, 25, 22, 10, 7, 21, 6, 5, 1, 4, 0, 3, 2, 20, 9, 8, 12, 19,
 11, 18, 17, 14, 16, 13, 15]⟩⟩, h9 28 100 (.pick (.t 95) (.c (.bool true)) (.t 99)) [23,27,22,10,7,21,6,5,1,4,0,3,2,20,9,8,12,19,11,18,17,14,16,13,15,26,24,25]]) <| .cond (.t 100) (.seq (.region [o9 2 (.mv (.c (.int .i64 50)))] none) <|
 .ret) <| .skip) <| .region [o9 101 (.bin .add (.t 67) (.c (.int .i64 1))), m9 67 101] none) <| .seq (.region [o9 2 (.mv (.c (.int .i64 0)))] none) <| .ret
abbrev n_ref26_Check : Nat := 70
theorem b_ref26_Check : bodyOf prog 70 [1000000] = some (c_ref26_Check, [.t 2], 102) := by kernel_rfl
def c_ref26_in : ACode := .seq (.region [o9 6 (.mv (.c (.bool false)))] none) <| .seq (.region [m9 7 0, m9 8 1, o9 9 (.bin .geq (.t 7) (.t 8)), m9 10 9, ⟨some 11, .mv (.t 0), some (10, true), []⟩, ⟨some 12, .mv (.t 2), some (10, true),
 []⟩, ⟨some 13, .bin .leq (.t 11) (.t 12), some (10, true), []⟩, o9 14 (.pick (.t 10) (.t 13) (.c (.bool false))), m9 6 14] none) <| .ret
abbrev n_ref26_in : Nat := 71
theorem b_ref26_in : bodyOf prog 71 [1000000] = some (c_ref26_in, [.t 6], 15) := by kernel_rfl
def c_ref26_Copy : ACode := .seq (.region [o9 1 (.box 3 67 (.t 0)), o9 2 (.alloc 3 67 (.agg [.nil, .int .i64 0, .nil]))] none) <| .seq (.region [o9 6 (.fa 0 (.t 1)), o9 7 (.load false 1 (.t 6)), o9 8 (.app 3 24 132 (.c (.nil)) (.t 7)), o9
 9 (.fa 0 (.t 1)), ⟨none, .store 1 (.t 9) (.t 8), none, []⟩] none) <| .seq (.region [o9 3 (.mv (.c (.nil)))] none) <| .seq (.seq (.region [o9 10 (.fa 2 (.t 1)), o9 11 (.load false 1 (.t 10)), o9 12 (.len (.t 11)), o9 13 (.mv (.c (.int .i64
 0)))] none) <| .block 0 <| .loop <| .seq (.region [o9 14 (.bin .lss (.t 13) (.t 12))] none) <| .seq (.cond (.t 14) (.skip) <| .exit 0) <| .seq (.block 1 <| .seq (.region [o9 15 (.ixs 7 (.t 11) (.t 13)), o9 16 (.load true 7 (.t 15)), o9 5
 (.alloc 7 37 (.agg [.int .i64 0, .int .i64 0, .int .i64 0, .int .i64 0, .int .i64 0, .nil, .bool false])), ⟨none, .store 7 (.t 5) (.t 16), none, []⟩] none) <| .seq (.region [o9 17 (.fa 5 (.t 5)), o9 18 (.load false 1 (.t 17)), o9 19 (.app
 1 8 3 (.c (.nil)) (.t 18)), o9 20 (.fa 5 (.t 5)), ⟨none, .store 1 (.t 20) (.t 19), none, []⟩] none) <| .region [m9 21 3, o9 22 (.load true 7 (.t 5)), o9 23 (.lit true 7 37 [.t 22]), o9 24 (.app 7 72 37 (.t 21) (.t 23)), m9 3 24] none) <|
 .region [o9 25 (.bin .add (.t 13) (.c (.int .i64 1))), m9 13 25] none) <| .seq (.region [m9 26 3, o9 27 (.fa 2 (.t 1)), ⟨none, .store 1 (.t 27) (.t 26), none, []⟩] none) <| .seq (.region [o9 28 (.load true 3 (.t 1)), ⟨none, .store 3 (.t
 2) (.t 28), none, []⟩] none) <| .ret
abbrev n_ref26_Copy : Nat := 72
theorem b_ref26_Copy : bodyOf prog 72 [23, 1000000] = some (c_ref26_Copy, [.c 2 true 3], 29) := by kernel_rfl
def c_ref26_ask : ACode := .seq (.region [o9 6 (.box 3 67 (.t 0)), o9 12 (.mv (.c (.int .i64 0))), o9 13 (.alloc 3 132 (.agg [.int .i64 0, .int .i64 0, .int .i64 0])), o9 14 (.mv (.c (.int .i64 0)))] none) <| .seq (.seq (.region [o9 19
 (.load true 3 (.t 6)), o9 20 (.call 70 [.t 19]), o9 21 (.bin .neq (.t 20) (.c (.int .i64 0)))] none) <| .cond (.t 21) (.seq (.region [o9 22 (.build [.int .i64 0, .int .i64 0, .int .i64 0] []), o9 12 (.mv (.c (.int .i64 0))), ⟨none, .store
 3 (.t 13) (.t 22), none, []⟩, o9 14 (.mv (.c (.int .i64 50)))] none) <| .ret) <| .skip) <| .seq (.seq (.region [o9 23 (.fa 2 (.t 6)), o9 24 (.load false 1 (.t 23)), o9 25 (.len (.t 24)), o9 26 (.mv (.c (.int .i64 0)))] none) <| .block 0
 <| .loop <| .seq (.region [o9 27 (.bin .lss (.t 26) (.t 25))] none) <| .seq (.cond (.t 27) (.skip) <| .exit 0) <| .seq (.block 1 <| .seq (.region [m9 28 26, o9 29 (.ixs 7 (.t 24) (.t 26)), o9 30 (.load true 7 (.t 29)), o9 16 (.alloc 7 37
 (.agg [.int .i64 0, .int .i64 0, .int .i64 0, .int .i64 0, .int .i64 0, .nil, .bool false])), m9 15 28, ⟨none, .store 7 (.t 16) (.t 30), none, []⟩] none) <| .seq (.seq (.region [o9 31 (.fa 0 (.t 16)), o9 32 (.load false 1 (.t 31)), m9 33
 1, o9 34 (.bin .neq (.t 32) (.t 33))] none) <| .cond (.t 34) (.exit 1) <| .skip) <| .seq (.seq (.region [o9 35 (.fa 6 (.t 16)), o9 36 (.load false 1 (.t 35)), m9 37 36, ⟨some 38, .mv (.t 4), some (37, false), []⟩, ⟨some 39, .fa 3 (.t 16),
 some (37, false), []⟩, ⟨some 40, .load false 1 (.t 39), some (37, false), []⟩, ⟨some 41, .bin .gtr (.t 38) (.t 40), some (37, false), []⟩, o9 42 (.pick (.t 37) (.c (.bool true)) (.t 41))] none) <| .cond (.t 42) (.seq (.region [o9 43
 (.build [.int .i64 0, .int .i64 0, .int .i64 0] []), o9 12 (.mv (.c (.int .i64 0))), ⟨none, .store 3 (.t 13) (.t 43), none, []⟩, o9 14 (.mv (.c (.int .i64 44)))] none) <| .ret) <| .skip) <| .seq (.region [o9 45 (.load true 3 (.t 6)), m9
 46 2, o9 47 (.call 74 [.t 45, .t 46]), m9 44 47, o9 48 (.ext (.t 44) 0), o9 49 (.ext (.t 44) 1), o9 17 (.alloc 3 132 (.agg [.int .i64 0, .int .i64 0, .int .i64 0])), ⟨none, .store 3 (.t 17) (.t 48), none, []⟩, m9 18 49] none) <| .seq
 (.seq (.region [m9 50 18, o9 51 (.un .not (.t 50))] none) <| .cond (.t 51) (.seq (.region [o9 52 (.build [.int .i64 0, .int .i64 0, .int .i64 0] []), o9 12 (.mv (.c (.int .i64 0))), ⟨none, .store 3 (.t 13) (.t 52), none, []⟩, o9 14 (.mv
 (.c (.int .i64 11)))] none) <| .ret) <| .skip) <| .seq (.seq (.region [m9 53 3, o9 54 (.fa 2 (.t 17)), o9 55 (.load false 1 (.t 54)), m9 56 5, o9 57 (.load true 7 (.t 16)), o9 58 (.call 60 [.t 55, .t 56, .t 57]), o9 59 (.bin .neq (.t 53)
 (.t 58))] none) <| .cond (.t 59) (.seq (.region [o9 60 (.build [.int .i64 0, .int .i64 0, .int .i64 0] []), o9 12 (.mv (.c (.int .i64 0))), ⟨none, .store 3 (.t 13) (.t 60), none, []⟩, o9 14 (.mv (.c (.int .i64 43)))] none) <| .ret) <|
 .skip) <| .seq (.hregion [⟨1, o9 62 (.load true 3 (.t 17))⟩, ⟨0, m9 61 15⟩, h9 2 12 (.mv (.t 61)) [0], ⟨3, ⟨none, .store 3 (.t 13) (.t 62), none, [1, 2, 0]⟩⟩, h9 4 14 (.mv (.c (.int .i64 0))) [3,0,1,2]]) <| .ret) <| .region [o9 63 (.bin
 .add (.t 26) (.c (.int .i64 1))), m9 26 63] none) <| .seq (.region [o9 64 (.build [.int .i64 0, .int .i64 0, .int .i64 0] []), o9 12 (.mv (.c (.int .i64 0))), ⟨none, .store 3 (.t 13) (.t 64), none, []⟩, o9 14 (.mv (.c (.int .i64 9)))]
 none) <| .ret
abbrev n_ref26_ask : Nat := 73
theorem b_ref26_ask : bodyOf prog 73 [1000000] = some (c_ref26_ask, [.t 12, .c 13 true 3, .t 14], 65) := by kernel_rfl
def c_ref26_person : ACode := .seq (.region [o9 2 (.box 3 67 (.t 0)), o9 4 (.alloc 3 132 (.agg [.int .i64 0, .int .i64 0, .int .i64 0])), o9 5 (.mv (.c (.bool false)))] none) <| .seq (.seq (.region [o9 8 (.fa 0 (.t 2)), o9 9 (.load false 1
 (.t 8)), o9 10 (.len (.t 9)), o9 11 (.mv (.c (.int .i64 0)))] none) <| .block 0 <| .loop <| .seq (.region [o9 12 (.bin .lss (.t 11) (.t 10))] none) <| .seq (.cond (.t 12) (.skip) <| .exit 0) <| .seq (.block 1 <| .seq (.region [o9 13 (.ixs
 3 (.t 9) (.t 11)), o9 14 (.load true 3 (.t 13)), o9 7 (.alloc 3 132 (.agg [.int .i64 0, .int .i64 0, .int .i64 0])), ⟨none, .store 3 (.t 7) (.t 14), none, []⟩] none) <| .seq (.region [o9 15 (.fa 0 (.t 7)), o9 16 (.load false 1 (.t 15)),
 m9 17 1, o9 18 (.bin .eql (.t 16) (.t 17))] none) <| .cond (.t 18) (.seq (.region [o9 19 (.load true 3 (.t 7)), ⟨none, .store 3 (.t 4) (.t 19), none, []⟩, o9 5 (.mv (.c (.bool true)))] none) <| .ret) <| .skip) <| .region [o9 20 (.bin .add
 (.t 11) (.c (.int .i64 1))), m9 11 20] none) <| .seq (.region [o9 21 (.build [.int .i64 0, .int .i64 0, .int .i64 0] []), ⟨none, .store 3 (.t 4) (.t 21), none, []⟩, o9 5 (.mv (.c (.bool false)))] none) <| .ret
abbrev n_ref26_person : Nat := 74
theorem b_ref26_person : bodyOf prog 74 [1000000] = some (c_ref26_person, [.c 4 true 3, .t 5], 22) := by kernel_rfl
def c_ref30_Check : ACode := .seq (.region [o9 1 (.box 4 103 (.t 0)), o9 2 (.mv (.c (.int .i64 0)))] none) <| .seq (.seq (.region [o9 8 (.load true 4 (.t 1)), o9 9 (.call 80 [.t 8]), m9 3 9] none) <| .seq (.region [m9 10 3, o9 11 (.bin
 .neq (.t 10) (.c (.int .i64 0)))] none) <| .cond (.t 11) (.seq (.region [m9 12 3, m9 2 12] none) <| .ret) <| .skip) <| .seq (.seq (.region [o9 13 (.fa 1 (.t 1)), o9 14 (.load false 1 (.t 13)), o9 15 (.fa 2 (.t 1)), o9 16 (.load false 1
 (.t 15)), o9 17 (.fa 3 (.t 1)), o9 18 (.load false 1 (.t 17)), o9 19 (.lit false 1 101 [.t 14, .t 16, .t 18]), o9 20 (.len (.t 19)), o9 21 (.mv (.c (.int .i64 0)))] none) <| .block 0 <| .loop <| .seq (.region [o9 22 (.bin .lss (.t 21) (.t
 20))] none) <| .seq (.cond (.t 22) (.skip) <| .exit 0) <| .seq (.block 1 <| .seq (.region [o9 23 (.ixs 1 (.t 19) (.t 21)), o9 24 (.load false 1 (.t 23)), m9 5 24] none) <| .seq (.region [m9 25 5, o9 26 (.len (.t 25)), o9 27 (.mv (.c (.int
 .i64 0)))] none) <| .block 2 <| .loop <| .seq (.region [o9 28 (.bin .lss (.t 27) (.t 26))] none) <| .seq (.cond (.t 28) (.skip) <| .exit 2) <| .seq (.block 3 <| .seq (.region [o9 29 (.ixs 2 (.t 25) (.t 27)), o9 30 (.load true 2 (.t 29)),
 o9 7 (.alloc 2 33 (.agg [.int .i64 0, .int .i64 0])), ⟨none, .store 2 (.t 7) (.t 30), none, []⟩] none) <| .seq (.seq (.region [o9 31 (.fa 0 (.t 7)), o9 32 (.load false 1 (.t 31)), o9 33 (.bin .lss (.t 32) (.c (.int .i64 0))), m9 34 33,
 ⟨some 35, .fa 1 (.t 7), some (34, false), []⟩, ⟨some 36, .load false 1 (.t 35), some (34, false), []⟩, ⟨some 37, .bin .gtr (.t 36) (.c (.int .i64 274877906944)), some (34, false), []⟩, o9 38 (.pick (.t 34) (.c (.bool true)) (.t 37))]
 none) <| .cond (.t 38) (.seq (.region [o9 2 (.mv (.c (.int .i64 1)))] none) <| .ret) <| .skip) <| .seq (.region [o9 39 (.fa 0 (.t 7)), o9 40 (.load false 1 (.t 39)), o9 41 (.fa 1 (.t 7)), o9 42 (.load false 1 (.t 41)), o9 43 (.bin .gtr
 (.t 40) (.t 42))] none) <| .cond (.t 43) (.seq (.region [o9 2 (.mv (.c (.int .i64 48)))] none) <| .ret) <| .skip) <| .region [o9 44 (.bin .add (.t 27) (.c (.int .i64 1))), m9 27 44] none) <| .region [o9 45 (.bin .add (.t 21) (.c (.int
 .i64 1))), m9 21 45] none) <| .seq (.region [o9 2 (.mv (.c (.int .i64 0)))] none) <| .ret
abbrev n_ref30_Check : Nat := 75
theorem b_ref30_Check : bodyOf prog 75 [1000000] = some (c_ref30_Check, [.t 2], 46) := by kernel_rfl
def c_ref30_Copy : ACode := .seq (.region [o9 1 (.box 4 103 (.t 0)), o9 2 (.alloc 4 103 (.agg [.int .i64 0, .nil, .nil, .nil]))] none) <| .seq (.region [o9 3 (.fa 1 (.t 1)), o9 4 (.load false 1 (.t 3)), o9 5 (.app 2 16 33 (.c (.nil)) (.t
 4)), o9 6 (.fa 1 (.t 1)), ⟨none, .store 1 (.t 6) (.t 5), none, []⟩] none) <| .seq (.region [o9 7 (.fa 2 (.t 1)), o9 8 (.load false 1 (.t 7)), o9 9 (.app 2 16 33 (.c (.nil)) (.t 8)), o9 10 (.fa 2 (.t 1)), ⟨none, .store 1 (.t 10) (.t 9),
 none, []⟩] none) <| .seq (.region [o9 11 (.fa 3 (.t 1)), o9 12 (.load false 1 (.t 11)), o9 13 (.app 2 16 33 (.c (.nil)) (.t 12)), o9 14 (.fa 3 (.t 1)), ⟨none, .store 1 (.t 14) (.t 13), none, []⟩] none) <| .seq (.region [o9 15 (.load true
 4 (.t 1)), ⟨none, .store 4 (.t 2) (.t 15), none, []⟩] none) <| .ret
abbrev n_ref30_Copy : Nat := 76
theorem b_ref30_Copy : bodyOf prog 76 [1000000] = some (c_ref30_Copy, [.c 2 true 4], 16) := by kernel_rfl
def c_ref30_meet : ACode := .seq (.region [o9 2 (.box 2 33 (.t 0)), o9 3 (.box 2 33 (.t 1)), o9 4 (.alloc 2 33 (.agg [.int .i64 0, .int .i64 0]))] none) <| .seq (.region [o9 5 (.fa 0 (.t 2)), o9 6 (.load false 1 (.t 5)), o9 7 (.fa 0 (.t
 3)), o9 8 (.load false 1 (.t 7)), o9 9 (.mnx true (.t 6) [.t 8]), o9 10 (.fa 1 (.t 2)), o9 11 (.load false 1 (.t 10)), o9 12 (.fa 1 (.t 3)), o9 13 (.load false 1 (.t 12)), o9 14 (.mnx false (.t 11) [.t 13]), o9 15 (.build [.int .i64 0,
 .int .i64 0] [(0, 1, .t 9), (1, 1, .t 14)]), ⟨none, .store 2 (.t 4) (.t 15), none, []⟩] none) <| .ret
abbrev n_ref30_meet : Nat := 77
theorem b_ref30_meet : bodyOf prog 77 [1000000] = some (c_ref30_meet, [.c 4 true 2], 16) := by kernel_rfl
def c_ref27_in : ACode := .seq (.region [o9 6 (.mv (.c (.bool false)))] none) <| .seq (.region [m9 7 0, m9 8 1, o9 9 (.bin .geq (.t 7) (.t 8)), m9 10 9, ⟨some 11, .mv (.t 0), some (10, true), []⟩, ⟨some 12, .mv (.t 2), some (10, true),
 []⟩, ⟨some 13, .bin .leq (.t 11) (.t 12), some (10, true), []⟩, o9 14 (.pick (.t 10) (.t 13) (.c (.bool false))), m9 6 14] none) <| .ret
abbrev n_ref27_in : Nat := 78
theorem b_ref27_in : bodyOf prog 78 [1000000] = some (c_ref27_in, [.t 6], 15) := by kernel_rfl
def c_ref26_right : ACode := .seq (.region [o9 2 (.box 3 67 (.t 0)), o9 3 (.box 7 37 (.t 1)), o9 4 (.mv (.c (.bool false)))] none) <| .seq (.seq (.region [o9 10 (.fa 1 (.t 3)), o9 11 (.load false 1 (.t 10)), o9 12 (.call 71 [.t 11, .c
 (.int .i64 0), .c (.int .i64 5)]), o9 13 (.un .not (.t 12)), m9 14 13, ⟨some 15, .fa 2 (.t 3), some (14, false), []⟩, ⟨some 16, .load false 1 (.t 15), some (14, false), []⟩, ⟨some 17, .bin .lss (.t 16) (.c (.int .i64 0)), some (14,
 false), []⟩, o9 18 (.pick (.t 14) (.c (.bool true)) (.t 17)), m9 19 18, ⟨some 20, .fa 2 (.t 3), some (19, false), []⟩, ⟨some 21, .load false 1 (.t 20), some (19, false), []⟩, ⟨some 22, .fa 3 (.t 3), some (19, false), []⟩, ⟨some 23, .load
 false 1 (.t 22), some (19, false), []⟩, ⟨some 24, .bin .gtr (.t 21) (.t 23), some (19, false), []⟩, o9 25 (.pick (.t 19) (.c (.bool true)) (.t 24)), m9 26 25, ⟨some 27, .fa 3 (.t 3), some (26, false), []⟩, ⟨some 28, .load false 1 (.t 27),
 some (26, false), []⟩, ⟨some 29, .bin .gtr (.t 28) (.c (.int .i64 16777216)), some (26, false), []⟩, o9 30 (.pick (.t 26) (.c (.bool true)) (.t 29)), m9 31 30, ⟨some 32, .fa 4 (.t 3), some (31, false), []⟩, ⟨some 33, .load false 1 (.t
 32), some (31, false), []⟩, ⟨some 34, .call 71 [.t 33, .c (.int .i64 0), .c (.int .i64 1073741824)], some (31, false), []⟩, ⟨some 35, .un .not (.t 34), some (31, false), []⟩, o9 36 (.pick (.t 31) (.c (.bool true)) (.t 35)), m9 37 36,
 ⟨some 38, .fa 5 (.t 3), some (37, false), []⟩, ⟨some 39, .load false 1 (.t 38), some (37, false), []⟩, ⟨some 40, .len (.t 39), some (37, false), []⟩, ⟨some 41, .bin .gtr (.t 40) (.c (.int .i64 2)), some (37, false), []⟩, o9 42 (.pick (.t
 37) (.c (.bool true)) (.t 41))] none) <| .cond (.t 42) (.seq (.region [o9 4 (.mv (.c (.bool false)))] none) <| .ret) <| .skip) <| .seq (.region [o9 5 (.mv (.c (.nil)))] none) <| .seq (.seq (.region [o9 43 (.fa 5 (.t 3)), o9 44 (.load
 false 1 (.t 43)), o9 45 (.len (.t 44)), o9 46 (.mv (.c (.int .i64 0)))] none) <| .block 0 <| .loop <| .seq (.region [o9 47 (.bin .lss (.t 46) (.t 45))] none) <| .seq (.cond (.t 47) (.skip) <| .exit 0) <| .seq (.block 1 <| .seq (.region
 [o9 48 (.ixs 1 (.t 44) (.t 46)), o9 49 (.load false 1 (.t 48)), m9 7 49] none) <| .seq (.region [o9 51 (.load true 3 (.t 2)), m9 52 7, o9 53 (.call 74 [.t 51, .t 52]), m9 50 53, o9 54 (.ext (.t 50) 0), o9 55 (.ext (.t 50) 1), o9 8 (.alloc
 3 132 (.agg [.int .i64 0, .int .i64 0, .int .i64 0])), ⟨none, .store 3 (.t 8) (.t 54), none, []⟩, m9 9 55] none) <| .seq (.seq (.region [m9 56 9, o9 57 (.un .not (.t 56))] none) <| .cond (.t 57) (.seq (.region [o9 4 (.mv (.c (.bool
 false)))] none) <| .ret) <| .skip) <| .region [m9 58 5, o9 59 (.fa 1 (.t 8)), o9 60 (.load false 1 (.t 59)), o9 61 (.lit false 1 3 [.t 60]), o9 62 (.app 1 8 3 (.t 58) (.t 61)), m9 5 62] none) <| .region [o9 63 (.bin .add (.t 46) (.c (.int
 .i64 1))), m9 46 63] none) <| .seq (.hregion [⟨0, m9 64 5⟩, h9 1 65 (.len (.t 64)) [0], h9 2 66 (.bin .lss (.t 65) (.c (.int .i64 2))) [1,0], h9 3 67 (.mv (.t 66)) [2,1,0], ⟨7, ⟨some 71, .mv (.t 5), some (67, false), [3, 2, 1, 0]⟩⟩, ⟨8,
 ⟨some 72, .ixs 1 (.t 71) (.c (.int .i64 1)), some (67, false), [7, 3, 2, 1, 0]⟩⟩, ⟨9, ⟨some 73, .load false 1 (.t 72), some (67, false), [8, 3, 7, 2, 1, 0]⟩⟩, ⟨4, ⟨some 68, .mv (.t 5), some (67, false), [3, 2, 1, 0]⟩⟩, ⟨5, ⟨some 69, .ixs
 1 (.t 68) (.c (.int .i64 0)), some (67, false), [4, 3, 2, 1, 0]⟩⟩, ⟨6, ⟨some 70, .load false 1 (.t 69), some (67, false), [5, 3, 4, 2, 1, 0]⟩⟩, ⟨10, ⟨some 74, .bin .neq (.t 70) (.t 73), some (67, false), [6, 9, 3, 5, 4, 2, 1, 0, 8, 7]⟩⟩,
 h9 11 75 (.pick (.t 67) (.c (.bool true)) (.t 74)) [3,10,2,1,0,6,9,5,4,8,7], h9 12 4 (.mv (.t 75)) [11,3,0,1,2,4,5,6,7,8,9,10]]) <| .ret
abbrev n_ref26_right : Nat := 79
theorem b_ref26_right : bodyOf prog 79 [1000000] = some (c_ref26_right, [.t 4], 76) := by kernel_rfl
def c_ref30_account : ACode := .seq (.region [o9 1 (.box 4 103 (.t 0)), o9 2 (.mv (.c (.int .i64 0)))] none) <| .seq (.region [o9 4 (.fa 2 (.t 1)), o9 5 (.load false 1 (.t 4)), o9 6 (.len (.t 5)), m9 3 6] none) <| .seq (.seq (.region [m9 7
 3, o9 8 (.bin .lss (.t 7) (.c (.int .i64 1))), m9 9 8, ⟨some 10, .fa 3 (.t 1), some (9, false), []⟩, ⟨some 11, .load false 1 (.t 10), some (9, false), []⟩, ⟨some 12, .len (.t 11), some (9, false), []⟩, ⟨some 13, .mv (.t 3), some (9,
 false), []⟩, ⟨some 14, .bin .neq (.t 12) (.t 13), some (9, false), []⟩, o9 15 (.pick (.t 9) (.c (.bool true)) (.t 14)), m9 16 15, ⟨some 17, .fa 1 (.t 1), some (16, false), []⟩, ⟨some 18, .load false 1 (.t 17), some (16, false), []⟩, ⟨some
 19, .len (.t 18), some (16, false), []⟩, ⟨some 20, .mv (.t 3), some (16, false), []⟩, ⟨some 21, .bin .add (.t 20) (.c (.int .i64 1)), some (16, false), []⟩, ⟨some 22, .bin .neq (.t 19) (.t 21), some (16, false), []⟩, o9 23 (.pick (.t 16)
 (.c (.bool true)) (.t 22))] none) <| .cond (.t 23) (.seq (.region [o9 2 (.mv (.c (.int .i64 3)))] none) <| .ret) <| .skip) <| .seq (.seq (.region [m9 24 3, o9 25 (.bin .gtr (.t 24) (.c (.int .i64 400)))] none) <| .cond (.t 25) (.seq
 (.region [o9 2 (.mv (.c (.int .i64 10)))] none) <| .ret) <| .skip) <| .seq (.seq (.region [o9 26 (.fa 0 (.t 1)), o9 27 (.load false 1 (.t 26)), o9 28 (.bin .lss (.t 27) (.c (.int .i64 0))), m9 29 28, ⟨some 30, .fa 0 (.t 1), some (29,
 false), []⟩, ⟨some 31, .load false 1 (.t 30), some (29, false), []⟩, ⟨some 32, .mv (.t 3), some (29, false), []⟩, ⟨some 33, .bin .sub (.c (.int .i64 16777216)) (.t 32), some (29, false), []⟩, ⟨some 34, .bin .gtr (.t 31) (.t 33), some (29,
 false), []⟩, o9 35 (.pick (.t 29) (.c (.bool true)) (.t 34))] none) <| .cond (.t 35) (.seq (.region [o9 2 (.mv (.c (.int .i64 6)))] none) <| .ret) <| .skip) <| .seq (.region [o9 2 (.mv (.c (.int .i64 0)))] none) <| .ret
abbrev n_ref30_account : Nat := 80
theorem b_ref30_account : bodyOf prog 80 [1000000] = some (c_ref30_account, [.t 2], 36) := by kernel_rfl
end Go.Proofs.Try
