/- OWN WORK, put together by tools/asm.py, seat.py, mini.py. -/
import Derived.Test.YtbfefempldcfoaaCode
namespace Go.Proofs.Try
open Go Go.Ab
def c_ref26_right : ACode := .seq (.region [o9 2 (.box 3 67 (.t 0)), o9 3 (.box 7 37 (.t 1)), o9 4 (.mv (.c (.bool false)))] none) <| .seq (.seq (.region [o9 10 (.fa 1 (.t 3)), o9 11 (.load false 1 (.t 10)), o9 12 (.call 71 [.t 11, .c
 (.int .i64 0), .c (.int .i64 5)]), o9 13 (.un .not (.t 12)), m9 14 13, ⟨some 15, .fa 2 (.t 3), some (14, false), []⟩, ⟨some 16, .load false 1 (.t 15), some (14, false), []⟩, ⟨some 17, .bin .lss (.t 16) (.c (.int .i64 0)), some (14,
 false), []⟩, o9 18 (.pick (.t 14) (.c (.bool true)) (.t 17)), m9 19 18, ⟨some 20, .fa 2 (.t 3), some (19, false), []⟩, ⟨some 21, .load false 1 (.t 20), some (19, false), []⟩, ⟨some 22, .fa 3 (.t 3), some (19, false), []⟩, ⟨some 23, .load
 false 1 (.t 22), some (19, false), []⟩, ⟨some 24, .bin .gtr (.t 21) (.t 23), some (19, false), []⟩, o9 25 (.pick (.t 19) (.c (.bool true)) (.t 24)), m9 26 25, ⟨some 27, .fa 3 (.t 3), some (26, false), []⟩, ⟨some 28, .load false 1 (.t 27),
 some (26, false), []⟩, ⟨some 29, .bin .gtr (.t 28) (.c (.int .i64 16777216)), some (26, false), []⟩, o9 30 (.pick (.t 26) (.c (.bool true)) (.t 29)), m9 31 30, ⟨some 32, .fa 4 (.t 3), some (31, false), []⟩, ⟨some 33, .load false 1 (.t
 32), some (31, false), []⟩, ⟨some 34, .call 71 [.t 33, .c (.int .i64 0), .c (.int .i64 1073741824)], some (31, false), []⟩, ⟨some 35, .un .not (.t 34), some (31, false), []⟩, o9 36 (.pick (.t 31) (.c (.bool true)) (.t 35)), m9 37 36,
 ⟨some 38, .fa 5 (.t 3), some (37, false), []⟩, ⟨some 39, .load false 1 (.t 38), some (37, false), []⟩, ⟨some 40, .len (.t 39), some (37, false), []⟩, ⟨some 41, .bin .gtr (.t 40) (.c (.int .i64 2)), some (37, false), []⟩, o9 42 (.pick (.t
 37) (.c (.bool true)) (.t 41))] none) <| .cond (.t 42) (.seq (.region [o9 4 (.mv (.c (.bool false)))] none) <| .ret) <| .skip) <| .seq (.region [o9 5 (.mv (.c (.nil)))] none) <| .seq (.seq (.region [o9 43 (.fa 5 (.t 3)), o9 44 (.load
 false 1 (.t 43)), o9 45 (.len (.t 44)), o9 46 (.mv (.c (.int .i64 0)))] none) <| .block 0 <| .loop <| .seq (.region [o9 47 (.bin .lss (.t 46) (.t 45))] none) <| .seq (.cond (.t 47) (.skip) <| .exit 0) <| .seq (.block 1 <| .seq (.region
 [o9 48 (.ixs 1 (.t 44) (.t 46)), o9 49 (.load false 1 (.t 48)), m9 7 49] none) <| .seq (.region [o9 51 (.load true 3 (.t 2)), m9 52 7, o9 53 (.call 74 [.t 51, .t 52]), m9 50 53, o9 54 (.ext (.t 50) 0), o9 55 (.ext (.t 50) 1), o9 8 (.alloc
 3 132 (.agg [.int .i64 0, .int .i64 0, .int .i64 0])), ⟨none, .store 3 (.t 8) (.t 54), none, []⟩, m9 9 55] none) <| .seq (.seq (.region [m9 56 9, o9 57 (.un .not (.t 56))] none) <| .cond (.t 57) (.seq (.region [o9 4 (.mv (.c (.bool
 false)))] none) <| .ret) <| .skip) <| .region [m9 58 5, o9 59 (.fa 1 (.t 8)), o9 60 (.load false 1 (.t 59)), o9 61 (.lit false 1 3 [.t 60]), o9 62 (.app 1 8 3 (.t 58) (.t 61)), m9 5 62] none) <| .region [o9 63 (.bin .add (.t 46) (.c (.int
 .i64 1))), m9 46 63] none) <| .seq (.hregion [⟨0, m9 64 5⟩, h9 1 65 (.len (.t 64)) [0], h9 2 66 (.bin .lss (.t 65) (.c (.int .i64 2))) [1,0], h9 3 67 (.mv (.t 66)) [2,1,0], ⟨7, ⟨some 71, .mv (.t 5), some (67, false), [3, 2, 1, 0]⟩⟩, ⟨8,
 ⟨some 72, .ixs 1 (.t 71) (.c (.int .i64 1)), some (67, false), [7, 3, 2, 1, 0]⟩⟩, ⟨9, ⟨some 73, .load false 1 (.t 72), some (67, false), [8, 3, 7, 2, 1, 0]⟩⟩, ⟨4, ⟨some 68, .mv (.t 5), some (67, false), [3, 2, 1, 0]⟩⟩, ⟨5, ⟨some 69, .ixs
 1 (.t 68) (.c (.int .i64 0)), some (67, false), [4, 3, 2, 1, 0]⟩⟩, ⟨6, ⟨some 70, .load false 1 (.t 69), some (67, false), [5, 3, 4, 2, 1, 0]⟩⟩, ⟨10, ⟨some 74, .bin .neq (.t 70) (.t 73), some (67, false), [6, 9, 3, 5, 4, 2, 1, 0, 8, 7]⟩⟩,
 h9 11 75 (.pick (.t 67) (.c (.bool true)) (.t 74)) [3,10,2,1,0,6,9,5,4,8,7], h9 12 4 (.mv (.t 75)) [11,3,0,1,2,4,5,6,7,8,9,10]]) <| .ret
abbrev n_ref26_right : Nat := 79
theorem b_ref26_right : bodyOf prog 79 [1000000] = some (c_ref26_right, [.t 4], 76) := by kernel_rfl
def c_ref30_account : ACode := .seq (.region [o9 1 (.box 4 103 (.t 0)), o9 2 (.mv (.c (.int .i64 0)))] none) <| .seq (.region [o9 4 (.fa 2 (.t 1)), o9 5 (.load false 1 (.t 4)), o9 6 (.len (.t 5)), m9 3 6] none) <| .seq (.seq (.region [m9 7
 3, o9 8 (.bin .lss (.t 7) (.c (.int .i64 1))), m9 9 8, ⟨some 10, .fa 3 (.t 1), some (9, false), []⟩, ⟨some 11, .load false 1 (.t 10), some (9, false), []⟩, ⟨some 12, .len (.t 11), some (9, false), []⟩, ⟨some 13, .mv (.t 3), some (9,
 false), []⟩, ⟨some 14, .bin .neq (.t 12) (.t 13), some (9, false), []⟩, o9 15 (.pick (.t 9) (.c (.bool true)) (.t 14)), m9 16 15, ⟨some 17, .fa 1 (.t 1), some (16, false), []⟩, ⟨some 18, .load false 1 (.t 17), some (16, false), []⟩, ⟨some
 19, .len (.t 18), some (16, false), []⟩, ⟨some 20, .mv (.t 3), some (16, false), []⟩, ⟨some 21, .bin .add (.t 20) (.c (.int .i64 1)), some (16, false), []⟩, ⟨some 22, .bin .neq (.t 19) (.t 21), some (16, false), []⟩, o9 23 (.pick (.t 16)
 (.c (.bool true)) (.t 22))] none) <| .cond (.t 23) (.seq (.region [o9 2 (.mv (.c (.int .i64 3)))] none) <| .ret) <| .skip) <| .seq (.seq (.region [m9 24 3, o9 25 (.bin .gtr (.t 24) (.c (.int .i64 400)))] none) <| .cond (.t 25) (.seq
 (.region [o9 2 (.mv (.c (.int .i64 10)))] none) <| .ret) <| .skip) <| .seq (.seq (.region [o9 26 (.fa 0 (.t 1)), o9 27 (.load false 1 (.t 26)), o9 28 (.bin .lss (.t 27) (.c (.int .i64 0))), m9 29 28, ⟨some 30, .fa 0 (.t 1), some (29,
 false), []⟩, ⟨some 31, .load false 1 (.t 30), some (29, false), []⟩, ⟨some 32, .mv (.t 3), some (29, false), []⟩, ⟨some 33, .bin .sub (.c (.int .i64 16777216)) (.t 32), some (29, false), []⟩, ⟨some 34, .bin .gtr (.t 31) (.t 33), some (29,
 false), []⟩, o9 35 (.pick (.t 29) (.c (.bool true)) (.t 34))] none) <| .cond (.t 35) (.seq (.region [o9 2 (.mv (.c (.int .i64 6)))] none) <| .ret) <| .skip) <| .seq (.region [o9 2 (.mv (.c (.int .i64 0)))] none) <| .ret
abbrev n_ref30_account : Nat := 80
theorem b_ref30_account : bodyOf prog 80 [1000000] = some (c_ref30_account, [.t 2], 36) := by kernel_rfl
end Go.Proofs.Try
