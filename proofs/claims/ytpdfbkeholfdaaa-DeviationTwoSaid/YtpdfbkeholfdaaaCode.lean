/- OWN WORK, put together by tools/asm.py, seat.py, mini.py. -/
import Derived.Test.YtpdfbkeholfdaaaBaseS
import Derived.Test.YtpdfbkeholfdaaaProg
import Derived.KernelRfl
namespace Go.Proofs.Try
open Go Go.Ab
abbrev o9 (d : Nat) (x : AOp) : AOper := ⟨some d, x, none, []⟩
@[go_sem] theorem w_o9 (d : Nat) (x : AOp) : o9 d x = ⟨some d, x, none, []⟩ := (rfl)
abbrev m9 (d s : Nat) : AOper := ⟨some d, .mv (.t s), none, []⟩
@[go_sem] theorem w_m9 (d s : Nat) : m9 d s = ⟨some d, .mv (.t s), none, []⟩ := (rfl)
abbrev h9 (p d : Nat) (x : AOp) (a : List Nat) : HS := ⟨p, ⟨some d, x, none, a⟩⟩
@[go_sem] theorem w_h9 (p d : Nat) (x : AOp) (a : List Nat) : h9 p d x a = ⟨p, ⟨some d, x, none, a⟩⟩ := (rfl)
def c_law26_DeviationTwo : ACode := .seq (.region [o9 2 (.mv (.c (.bool false)))] none) <| .seq (.seq (.region [o9 18 (.call 7 []), o9 19 (.un .not (.t 18))] none) <| .cond (.t 19) (.seq (.region [o9 2 (.mv (.c (.bool false)))] none) <|
 .ret) <| .skip) <| .seq (.seq (.region [m9 20 0, o9 21 (.call 8 [.t 20]), o9 22 (.un .not (.t 21))] none) <| .cond (.t 22) (.seq (.region [o9 2 (.mv (.c (.bool true)))] none) <| .ret) <| .skip) <| .seq (.region [m9 23 0, o9 24 (.call 9
 [.t 23]), m9 3 24] none) <| .seq (.region [m9 25 3, o9 26 (.call 10 [.t 25]), o9 27 (.build [.nil, .int .i64 0, .nil] [(0, 1, .t 26), (1, 1, .c (.int .i64 1))]), o9 4 (.alloc 3 31 (.agg [.nil, .int .i64 0, .nil])), ⟨none, .store 3 (.t 4)
 (.t 27), none, []⟩] none) <| .seq (.region [o9 5 (.mv (.c (.nil)))] none) <| .seq (.seq (.region [o9 6 (.mv (.c (.int .i64 0)))] none) <| .block 0 <| .loop <| .seq (.seq (.region [m9 28 6, o9 29 (.bin .lss (.t 28) (.c (.int .i64 14)))]
 none) <| .cond (.t 29) (.skip) <| .exit 0) <| .seq (.block 1 <| .seq (.seq (.region [m9 32 3, o9 33 (.call 11 [.t 32, .c (.int .i64 3)])] none) <| .block 2 <| .seq (.region [o9 61 (.bin .eql (.t 33) (.c (.int .i64 0))), m9 60 61] none) <|
 .cond (.t 60) (.seq (.hregion [⟨8, m9 71 3⟩, ⟨5, m9 68 3⟩, ⟨4, m9 67 6⟩, ⟨3, m9 66 6⟩, ⟨1, m9 64 3⟩, ⟨0, o9 63 (.load true 3 (.t 4))⟩, h9 2 65 (.call 11 [.t 64, .c (.int .i64 2)]) [1], h9 6 69 (.call 11 [.t 68, .c (.int .i64 6)]) [5,2,1],
 h9 7 70 (.bin .add (.t 67) (.t 69)) [4,6,5,2,1], h9 9 72 (.call 11 [.t 71, .c (.int .i64 40)]) [8,6,5,2,1], h9 10 73 (.call 12 [.t 63, .t 65, .t 66, .t 70, .t 72]) [0,2,3,7,9,1,4,6,5,8], h9 11 62 (.mv (.t 73)) [10,0,2,3,7,9,1,4,6,5,8], h9
 14 76 (.ext (.t 62) 2) [11,10,0,2,3,7,9,1,4,6,5,8], h9 13 75 (.ext (.t 62) 1) [11,10,0,2,3,7,9,1,4,6,5,8], h9 12 74 (.ext (.t 62) 0) [11,10,0,2,3,7,9,1,4,6,5,8], ⟨15, o9 7 (.alloc 3 31 (.agg [.nil, .int .i64 0, .nil]))⟩, ⟨16, ⟨none,
 .store 3 (.t 7) (.t 74), none, [15, 12, 10, 0, 1, 2, 3, 4, 5, 6, 7, 8, 9, 11]⟩⟩, h9 17 8 (.mv (.t 75)) [13,16,0,1,2,3,4,5,6,7,8,9,10,11,12,15], h9 18 9 (.mv (.t 76)) [14,17,0,1,2,3,4,5,6,7,8,9,10,11,12,13,15,16]]) <| .seq (.region [m9 77
 9, o9 78 (.bin .eql (.t 77) (.c (.int .i64 0)))] none) <| .cond (.t 78) (.region [o9 79 (.load true 3 (.t 7)), ⟨none, .store 3 (.t 4) (.t 79), none, []⟩] none) <| .skip) <| .seq (.region [m9 35 3, o9 36 (.load true 3 (.t 4)), m9 37 6, o9
 38 (.call 13 [.t 35, .t 36, .t 37]), m9 34 38, o9 39 (.ext (.t 34) 0), o9 40 (.ext (.t 34) 1), o9 41 (.ext (.t 34) 2), m9 10 39, m9 11 40, m9 12 41] none) <| .seq (.region [o9 43 (.load true 3 (.t 4)), m9 44 10, m9 45 11, m9 46 12, m9 47
 6, o9 48 (.call 14 [.t 43, .t 44, .t 45, .t 46, .t 47]), m9 42 48, o9 49 (.ext (.t 42) 0), o9 50 (.ext (.t 42) 1), o9 13 (.alloc 3 31 (.agg [.nil, .int .i64 0, .nil])), ⟨none, .store 3 (.t 13) (.t 49), none, []⟩, m9 14 50] none) <| .seq
 (.region [m9 51 14, o9 52 (.bin .eql (.t 51) (.c (.int .i64 0)))] none) <| .cond (.t 52) (.hregion [⟨3, m9 56 11⟩, ⟨2, m9 55 10⟩, h9 4 57 (.build [.int .i64 0, .int .i64 0] [(0, 1, .t 55), (1, 1, .t 56)]) [2,3], h9 5 58 (.lit false 2 41
 [.t 57]) [4,2,3], ⟨1, m9 54 5⟩, ⟨0, o9 53 (.load true 3 (.t 13))⟩, h9 6 59 (.app 2 16 41 (.t 54) (.t 58)) [1,5,4,2,3], ⟨7, ⟨none, .store 3 (.t 4) (.t 53), none, [0, 6, 1, 5, 4, 2, 3]⟩⟩, h9 8 5 (.mv (.t 59)) [6,7,0,1,2,3,4,5]]) <| .skip)
 <| .seq (.region [o9 15 (.mv (.c (.int .i64 0)))] none) <| .block 3 <| .loop <| .seq (.seq (.region [m9 80 15, o9 81 (.bin .lss (.t 80) (.c (.int .i64 2)))] none) <| .cond (.t 81) (.skip) <| .exit 3) <| .seq (.block 4 <| .seq (.region [o9
 85 (.load true 3 (.t 4)), m9 86 15, m9 87 6, o9 88 (.call 15 [.t 85, .t 86, .t 87]), m9 84 88, o9 89 (.ext (.t 84) 0), o9 90 (.ext (.t 84) 1), o9 16 (.alloc 7 43 (.agg [.int .i64 0, .int .i64 0, .int .i64 0, .int .i64 0, .int .i64 0,
 .nil, .bool false])), ⟨none, .store 7 (.t 16) (.t 89), none, []⟩, m9 17 90] none) <| .seq (.region [m9 91 17, m9 92 91, ⟨some 93, .load true 3 (.t 4), some (92, true), []⟩, ⟨some 94, .load true 7 (.t 16), some (92, true), []⟩, ⟨some 95,
 .mv (.t 5), some (92, true), []⟩, ⟨some 96, .call 16 [.t 93, .t 94, .t 95], some (92, true), []⟩, ⟨some 97, .un .not (.t 96), some (92, true), []⟩, o9 98 (.pick (.t 92) (.t 97) (.c (.bool false)))] none) <| .cond (.t 98) (.seq (.region
 [o9 2 (.mv (.c (.bool false)))] none) <| .ret) <| .skip) <| .region [m9 82 15, o9 83 (.bin .add (.t 82) (.c (.int .i64 1))), m9 15 83] none) <| .region [m9 30 6, o9 31 (.bin .add (.t 30) (.c (.int .i64 1))), m9 6 31] none) <| .seq
 (.region [o9 2 (.mv (.c (.bool true)))] none) <| .ret
abbrev n_law26_DeviationTwo : Nat := 3
theorem b_law26_DeviationTwo : bodyOf prog 3 [1000000] = some (c_law26_DeviationTwo, [.t 2], 99) := by kernel_rfl
def c_law26_sane : ACode := .seq (.region [o9 0 (.mv (.c (.bool false)))] none) <| .seq (.region [o9 10 (.build [.int .i64 0, .int .i64 0, .int .i64 0] [(0, 1, .c (.int .i64 1)), (1, 1, .c (.int .i64 1)), (2, 1, .c (.int .i64 5))]), o9 11
 (.build [.int .i64 0, .int .i64 0, .int .i64 0] [(0, 1, .c (.int .i64 2)), (1, 1, .c (.int .i64 2)), (2, 1, .c (.int .i64 6))]), o9 12 (.lit false 3 62 [.t 10, .t 11]), o9 13 (.build [.nil, .int .i64 0, .nil] [(0, 1, .t 12), (1, 1, .c
 (.int .i64 1))]), o9 1 (.alloc 3 31 (.agg [.nil, .int .i64 0, .nil])), ⟨none, .store 3 (.t 1) (.t 13), none, []⟩] none) <| .seq (.region [o9 15 (.load true 3 (.t 1)), o9 16 (.call 12 [.t 15, .c (.int .i64 0), .c (.int .i64 3), .c (.int
 .i64 9), .c (.int .i64 40)]), m9 14 16, o9 17 (.ext (.t 14) 0), o9 18 (.ext (.t 14) 1), o9 19 (.ext (.t 14) 2), ⟨none, .store 3 (.t 1) (.t 17), none, []⟩, m9 2 18, m9 3 19] none) <| .seq (.seq (.region [m9 20 3, o9 21 (.bin .neq (.t 20)
 (.c (.int .i64 0))), m9 22 21, ⟨some 23, .mv (.t 2), some (22, false), []⟩, ⟨some 24, .bin .neq (.t 23) (.c (.int .i64 1)), some (22, false), []⟩, o9 25 (.pick (.t 22) (.c (.bool true)) (.t 24)), m9 26 25, ⟨some 27, .fa 2 (.t 1), some
 (26, false), []⟩, ⟨some 28, .load false 1 (.t 27), some (26, false), []⟩, ⟨some 29, .len (.t 28), some (26, false), []⟩, ⟨some 30, .bin .neq (.t 29) (.c (.int .i64 1)), some (26, false), []⟩, o9 31 (.pick (.t 26) (.c (.bool true)) (.t
 30)), m9 32 31, o9 33 (.pick (.t 32) (.c (.bool true)) (.c (.bool false))), m9 34 33, o9 35 (.pick (.t 34) (.c (.bool true)) (.c (.bool false)))] none) <| .cond (.t 35) (.seq (.region [o9 0 (.mv (.c (.bool false)))] none) <| .ret) <|
 .skip) <| .seq (.region [o9 36 (.fa 2 (.t 1)), o9 37 (.load false 1 (.t 36)), o9 38 (.ixs 7 (.t 37) (.c (.int .i64 0))), o9 39 (.load true 7 (.t 38)), o9 4 (.alloc 7 43 (.agg [.int .i64 0, .int .i64 0, .int .i64 0, .int .i64 0, .int .i64
 0, .nil, .bool false])), ⟨none, .store 7 (.t 4) (.t 39), none, []⟩] none) <| .seq (.region [o9 41 (.load true 3 (.t 1)), o9 42 (.call 15 [.t 41, .c (.int .i64 0), .c (.int .i64 5)]), m9 40 42, o9 43 (.ext (.t 40) 0), o9 44 (.ext (.t 40)
 1), o9 5 (.alloc 7 43 (.agg [.int .i64 0, .int .i64 0, .int .i64 0, .int .i64 0, .int .i64 0, .nil, .bool false])), ⟨none, .store 7 (.t 5) (.t 43), none, []⟩, m9 6 44] none) <| .seq (.hregion [⟨1, o9 47 (.load true 7 (.t 4))⟩, ⟨0, o9 46
 (.load true 3 (.t 1))⟩, h9 2 48 (.call 18 [.c (.int .i64 5), .c (.int .i64 1), .t 47]) [1], h9 3 49 (.call 14 [.t 46, .c (.int .i64 1), .c (.int .i64 1), .t 48, .c (.int .i64 3)]) [0,2,1], h9 4 45 (.mv (.t 49)) [3,0,2,1], h9 6 51 (.ext
 (.t 45) 1) [4,3,0,2,1], h9 5 50 (.ext (.t 45) 0) [4,3,0,2,1], ⟨7, ⟨none, .store 3 (.t 1) (.t 50), none, [5, 3, 0, 1, 2, 4]⟩⟩, h9 8 3 (.mv (.t 51)) [6,7,0,1,2,3,4,5]]) <| .seq (.hregion [⟨1, o9 54 (.load true 7 (.t 4))⟩, ⟨0, o9 53 (.load
 true 3 (.t 1))⟩, h9 2 55 (.call 18 [.c (.int .i64 6), .c (.int .i64 1), .t 54]) [1], h9 3 56 (.call 14 [.t 53, .c (.int .i64 1), .c (.int .i64 2), .t 55, .c (.int .i64 3)]) [0,2,1], h9 4 52 (.mv (.t 56)) [3,0,2,1], h9 6 58 (.ext (.t 52)
 1) [4,3,0,2,1], h9 5 57 (.ext (.t 52) 0) [4,3,0,2,1], ⟨7, ⟨none, .store 3 (.t 1) (.t 57), none, [5, 3, 0, 1, 2, 4]⟩⟩, h9 8 7 (.mv (.t 58)) [6,7,0,1,2,3,4,5]]) <| .seq (.region [o9 60 (.load true 3 (.t 1)), o9 61 (.call 15 [.t 60, .c (.int
 .i64 0), .c (.int .i64 5)]), m9 59 61, o9 62 (.ext (.t 59) 0), o9 63 (.ext (.t 59) 1), o9 8 (.alloc 7 43 (.agg [.int .i64 0, .int .i64 0, .int .i64 0, .int .i64 0, .int .i64 0, .nil, .bool false])), ⟨none, .store 7 (.t 8) (.t 62), none,
 []⟩, m9 9 63] none) <| .seq (.region [m9 64 6, o9 65 (.un .not (.t 64)), m9 66 65, ⟨some 67, .mv (.t 3), some (66, true), []⟩, ⟨some 68, .bin .eql (.t 67) (.c (.int .i64 0)), some (66, true), []⟩, o9 69 (.pick (.t 66) (.t 68) (.c (.bool
 false))), m9 70 69, ⟨some 71, .mv (.t 7), some (70, true), []⟩, ⟨some 72, .bin .eql (.t 71) (.c (.int .i64 0)), some (70, true), []⟩, o9 73 (.pick (.t 70) (.t 72) (.c (.bool false))), m9 74 73, ⟨some 75, .mv (.t 9), some (74, true), []⟩,
 o9 76 (.pick (.t 74) (.t 75) (.c (.bool false))), m9 77 76, ⟨some 78, .fa 4 (.t 8), some (77, true), []⟩, ⟨some 79, .load false 1 (.t 78), some (77, true), []⟩, ⟨some 80, .bin .eql (.t 79) (.c (.int .i64 40)), some (77, true), []⟩, o9 81
 (.pick (.t 77) (.t 80) (.c (.bool false))), m9 82 81, ⟨some 83, .build [.int .i64 0, .int .i64 0, .int .i64 0, .int .i64 0, .int .i64 0, .nil, .bool false] [], some (82, true), []⟩, ⟨some 84, .call 18 [.c (.int .i64 1), .c (.int .i64 1),
 .t 83], some (82, true), []⟩, ⟨some 85, .bin .eql (.t 84) (.c (.int .i64 230903379)), some (82, true), []⟩, o9 86 (.pick (.t 82) (.t 85) (.c (.bool false))), m9 0 86] none) <| .ret
abbrev n_law26_sane : Nat := 7
theorem b_law26_sane : bodyOf prog 7 [1000000] = some (c_law26_sane, [.t 0], 87) := by kernel_rfl
def c_mk_Few : ACode := .seq (.region [o9 2 (.mv (.c (.bool false)))] none) <| .seq (.region [m9 3 0, o9 4 (.len (.t 3)), o9 5 (.bin .leq (.t 4) (.c (.int .i64 500))), m9 2 5] none) <| .ret
abbrev n_mk_Few : Nat := 8
theorem b_mk_Few : bodyOf prog 8 [1000000] = some (c_mk_Few, [.t 2], 6) := by kernel_rfl
def c_mk_New : ACode := .seq (.region [o9 2 (.mv (.c (.nilptr)))] none) <| .seq (.region [m9 3 0, o9 4 (.build [.nil, .int .i64 0] [(0, 1, .t 3)]), o9 5 (.box 2 64 (.t 4)), m9 2 5] none) <| .ret
abbrev n_mk_New : Nat := 9
theorem b_mk_New : bodyOf prog 9 [] = some (c_mk_New, [.t 2], 6) := by kernel_rfl
def c_flow_People : ACode := .seq (.region [o9 2 (.mv (.c (.nil)))] none) <| .seq (.region [o9 3 (.mv (.c (.nil)))] none) <| .seq (.region [o9 4 (.mv (.c (.int .i64 0)))] none) <| .seq (.seq (.region [m9 6 0, o9 7 (.call 11 [.t 6, .c (.int
 .i64 5)]), m9 5 7] none) <| .block 0 <| .loop <| .seq (.seq (.region [m9 8 5, o9 9 (.bin .geq (.t 8) (.c (.int .i64 0)))] none) <| .cond (.t 9) (.skip) <| .exit 0) <| .seq (.block 1 <| .seq (.region [m9 12 4, m9 13 0, o9 14 (.call 11 [.t
 13, .c (.int .i64 3)]), o9 15 (.bin .add (.c (.int .i64 1)) (.t 14)), o9 16 (.bin .add (.t 12) (.t 15)), m9 4 16] none) <| .region [m9 17 3, m9 18 4, m9 19 0, o9 20 (.call 11 [.t 19, .c (.int .i64 3)]), o9 21 (.bin .add (.c (.int .i64 1))
 (.t 20)), m9 22 0, o9 23 (.call 11 [.t 22, .c (.int .i64 1000)]), o9 24 (.bin .add (.c (.int .i64 1)) (.t 23)), o9 25 (.build [.int .i64 0, .int .i64 0, .int .i64 0] [(0, 1, .t 18), (1, 1, .t 21), (2, 1, .t 24)]), o9 26 (.lit false 3 62
 [.t 25]), o9 27 (.app 3 24 62 (.t 17) (.t 26)), m9 3 27] none) <| .region [m9 10 5, o9 11 (.bin .sub (.t 10) (.c (.int .i64 1))), m9 5 11] none) <| .seq (.region [m9 28 3, m9 2 28] none) <| .ret
abbrev n_flow_People : Nat := 10
theorem b_flow_People : bodyOf prog 10 [1000000] = some (c_flow_People, [.t 2], 29) := by kernel_rfl
def c_mk_Deck_Next : ACode := .seq (.region [o9 4 (.mv (.c (.int .i64 0)))] none) <| .seq (.seq (.region [m9 6 1, ⟨some 7, .bin .lss (.t 6) (.c (.int .i64 1)), none, [0]⟩, ⟨some 8, .mv (.t 7), none, [1, 0]⟩, ⟨some 9, .mv (.t 0), some (8,
 false), [2, 1, 0]⟩, ⟨some 10, .nilchk (.t 9), some (8, false), [3, 2, 1, 0]⟩, ⟨some 11, .fa 1 (.t 10), some (8, false), [4, 2, 3, 1, 0]⟩, ⟨some 12, .load false 1 (.t 11), some (8, false), [5, 2, 4, 3, 1, 0]⟩, ⟨some 13, .mv (.t 0), some
 (8, false), [2, 1, 0]⟩, ⟨some 14, .nilchk (.t 13), some (8, false), [7, 2, 1, 0]⟩, ⟨some 15, .fa 0 (.t 14), some (8, false), [8, 2, 7, 1, 0]⟩, ⟨some 16, .load false 1 (.t 15), some (8, false), [9, 2, 8, 7, 1, 0]⟩, ⟨some 17, .len (.t 16),
 some (8, false), [10, 2, 9, 8, 7, 1, 0]⟩, ⟨some 18, .bin .geq (.t 12) (.t 17), some (8, false), [6, 11, 2, 5, 4, 3, 1, 0, 10, 9, 8, 7]⟩, ⟨some 19, .pick (.t 8) (.c (.bool true)) (.t 18), none, [2, 12, 1, 0, 6, 11, 5, 4, 3, 10, 9, 8, 7]⟩]
 (some 0)) <| .cond (.t 19) (.seq (.region [o9 4 (.mv (.c (.int .i64 0)))] none) <| .ret) <| .skip) <| .seq (.region [m9 20 0, ⟨some 21, .nilchk (.t 20), none, [0]⟩, ⟨some 22, .fa 0 (.t 21), none, [1, 0]⟩, ⟨some 23, .load false 1 (.t 22),
 none, [2, 1, 0]⟩, m9 24 0, ⟨some 25, .nilchk (.t 24), none, [4]⟩, ⟨some 26, .fa 1 (.t 25), none, [5, 4]⟩, ⟨some 27, .load false 1 (.t 26), none, [6, 5, 4]⟩, ⟨some 28, .ixs 1 (.t 23) (.t 27), none, [3, 7, 2, 1, 0, 6, 5, 4]⟩, ⟨some 29,
 .load false 1 (.t 28), none, [8, 3, 7, 2, 1, 0, 6, 5, 4]⟩, ⟨some 5, .mv (.t 29), none, [9, 0, 1, 2, 3, 4, 5, 6, 7, 8]⟩] (some 0)) <| .seq (.region [m9 30 0, o9 31 (.nilchk (.t 30)), o9 32 (.fa 1 (.t 31)), o9 33 (.load false 1 (.t 32)), o9
 34 (.bin .add (.t 33) (.c (.int .i64 1))), o9 35 (.nilchk (.t 30)), o9 36 (.fa 1 (.t 35)), ⟨none, .store 1 (.t 36) (.t 34), none, []⟩] none) <| .seq (.region [m9 37 5, m9 38 1, o9 39 (.call 17 [.t 37, .t 38]), m9 4 39] none) <| .ret
abbrev n_mk_Deck_Next : Nat := 11
theorem b_mk_Deck_Next : bodyOf prog 11 [] = some (c_mk_Deck_Next, [.t 4], 40) := by kernel_rfl
def c_deviation_Request : ACode := .seq (.region [o9 5 (.box 3 31 (.t 0)), o9 10 (.alloc 3 31 (.agg [.nil, .int .i64 0, .nil])), o9 11 (.mv (.c (.int .i64 0))), o9 12 (.mv (.c (.int .i64 0)))] none) <| .seq (.block 0 <| .seq (.region [o9
 15 (.load true 3 (.t 5)), o9 16 (.call 34 [.t 15]), o9 17 (.un .not (.t 16)), m9 14 17] none) <| .cond (.t 14) (.seq (.region [o9 18 (.build [.nil, .int .i64 0, .nil] []), ⟨none, .store 3 (.t 10) (.t 18), none, []⟩, o9 11 (.mv (.c (.int
 .i64 0))), o9 12 (.mv (.c (.int .i64 50)))] none) <| .ret) <| .seq (.region [m9 20 1, o9 21 (.bin .lss (.t 20) (.c (.int .i64 0))), m9 22 21, ⟨some 23, .mv (.t 1), some (22, false), []⟩, ⟨some 24, .bin .geq (.t 23) (.c (.int .i64 6)),
 some (22, false), []⟩, o9 25 (.pick (.t 22) (.c (.bool true)) (.t 24)), m9 19 25] none) <| .cond (.t 19) (.seq (.region [o9 26 (.build [.nil, .int .i64 0, .nil] []), ⟨none, .store 3 (.t 10) (.t 26), none, []⟩, o9 11 (.mv (.c (.int .i64
 0))), o9 12 (.mv (.c (.int .i64 40)))] none) <| .ret) <| .seq (.region [m9 28 2, o9 29 (.bin .lss (.t 28) (.c (.int .i64 0))), m9 30 29, ⟨some 31, .mv (.t 2), some (30, false), []⟩, ⟨some 32, .mv (.t 3), some (30, false), []⟩, ⟨some 33,
 .bin .gtr (.t 31) (.t 32), some (30, false), []⟩, o9 34 (.pick (.t 30) (.c (.bool true)) (.t 33)), m9 35 34, ⟨some 36, .mv (.t 3), some (35, false), []⟩, ⟨some 37, .bin .gtr (.t 36) (.c (.int .i64 16777216)), some (35, false), []⟩, o9 38
 (.pick (.t 35) (.c (.bool true)) (.t 37)), m9 27 38] none) <| .cond (.t 27) (.seq (.region [o9 39 (.build [.nil, .int .i64 0, .nil] []), ⟨none, .store 3 (.t 10) (.t 39), none, []⟩, o9 11 (.mv (.c (.int .i64 0))), o9 12 (.mv (.c (.int .i64
 6)))] none) <| .ret) <| .seq (.region [m9 41 4, o9 42 (.bin .lss (.t 41) (.c (.int .i64 0))), m9 43 42, ⟨some 44, .mv (.t 4), some (43, false), []⟩, ⟨some 45, .bin .gtr (.t 44) (.c (.int .i64 1073741824)), some (43, false), []⟩, o9 46
 (.pick (.t 43) (.c (.bool true)) (.t 45)), m9 40 46] none) <| .cond (.t 40) (.seq (.region [o9 47 (.build [.nil, .int .i64 0, .nil] []), ⟨none, .store 3 (.t 10) (.t 47), none, []⟩, o9 11 (.mv (.c (.int .i64 0))), o9 12 (.mv (.c (.int .i64
 1)))] none) <| .ret) <| .seq (.region [o9 49 (.fa 2 (.t 5)), o9 50 (.load false 1 (.t 49)), o9 51 (.len (.t 50)), o9 52 (.bin .eql (.t 51) (.c (.int .i64 64))), m9 53 52, ⟨some 54, .fa 1 (.t 5), some (53, false), []⟩, ⟨some 55, .load
 false 1 (.t 54), some (53, false), []⟩, ⟨some 56, .bin .eql (.t 55) (.c (.int .i64 1073741824)), some (53, false), []⟩, o9 57 (.pick (.t 53) (.c (.bool true)) (.t 56)), m9 48 57] none) <| .cond (.t 48) (.seq (.region [o9 58 (.build [.nil,
 .int .i64 0, .nil] []), ⟨none, .store 3 (.t 10) (.t 58), none, []⟩, o9 11 (.mv (.c (.int .i64 0))), o9 12 (.mv (.c (.int .i64 10)))] none) <| .ret) <| .skip) <| .seq (.region [o9 59 (.load true 3 (.t 5)), o9 60 (.call 35 [.t 59]), o9 13
 (.alloc 3 31 (.agg [.nil, .int .i64 0, .nil])), ⟨none, .store 3 (.t 13) (.t 60), none, []⟩] none) <| .seq (.region [o9 61 (.fa 2 (.t 13)), o9 62 (.load false 1 (.t 61)), o9 63 (.fa 1 (.t 5)), o9 64 (.load false 1 (.t 63)), m9 65 1, m9 66
 2, m9 67 3, m9 68 4, o9 69 (.build [.int .i64 0, .int .i64 0, .int .i64 0, .int .i64 0, .int .i64 0, .nil, .bool false] [(0, 1, .t 64), (1, 1, .t 65), (2, 1, .t 66), (3, 1, .t 67), (4, 1, .t 68)]), o9 70 (.lit false 7 43 [.t 69]), o9 71
 (.app 7 72 43 (.t 62) (.t 70)), o9 72 (.fa 2 (.t 13)), ⟨none, .store 1 (.t 72) (.t 71), none, []⟩] none) <| .seq (.region [o9 73 (.fa 1 (.t 13)), o9 74 (.load false 1 (.t 73)), o9 75 (.bin .add (.t 74) (.c (.int .i64 1))), o9 76 (.fa 1
 (.t 13)), ⟨none, .store 1 (.t 76) (.t 75), none, []⟩] none) <| .seq (.hregion [⟨1, o9 78 (.fa 1 (.t 5))⟩, h9 2 79 (.load false 1 (.t 78)) [1], ⟨0, o9 77 (.load true 3 (.t 13))⟩, ⟨3, ⟨none, .store 3 (.t 10) (.t 77), none, [0]⟩⟩, h9 4 11
 (.mv (.t 79)) [2,3,0,1], h9 5 12 (.mv (.c (.int .i64 0))) [4,0,1,2,3]]) <| .ret
abbrev n_deviation_Request : Nat := 12
theorem b_deviation_Request : bodyOf prog 12 [1000000] = some (c_deviation_Request, [.c 10 true 3, .t 11, .t 12], 80) := by kernel_rfl
def c_flow_Signed : ACode := .seq (.region [o9 4 (.box 3 31 (.t 1)), o9 6 (.mv (.c (.int .i64 0))), o9 7 (.mv (.c (.int .i64 0))), o9 8 (.mv (.c (.int .i64 0)))] none) <| .seq (.seq (.region [o9 12 (.fa 2 (.t 4)), o9 13 (.load false 1 (.t
 12)), o9 14 (.len (.t 13)), o9 15 (.bin .eql (.t 14) (.c (.int .i64 0))), m9 16 15, ⟨some 17, .fa 0 (.t 4), some (16, false), []⟩, ⟨some 18, .load false 1 (.t 17), some (16, false), []⟩, ⟨some 19, .len (.t 18), some (16, false), []⟩,
 ⟨some 20, .bin .eql (.t 19) (.c (.int .i64 0)), some (16, false), []⟩, o9 21 (.pick (.t 16) (.c (.bool true)) (.t 20))] none) <| .cond (.t 21) (.seq (.region [m9 22 0, o9 23 (.call 11 [.t 22, .c (.int .i64 3)]), o9 24 (.bin .add (.c (.int
 .i64 1)) (.t 23)), m9 25 0, o9 26 (.call 11 [.t 25, .c (.int .i64 3)]), o9 27 (.bin .add (.c (.int .i64 1)) (.t 26)), m9 28 0, o9 29 (.call 11 [.t 28, .c (.int .i64 100)]), m9 6 24, m9 7 27, m9 8 29] none) <| .ret) <| .skip) <| .seq
 (.hregion [⟨3, o9 33 (.fa 2 (.t 4))⟩, h9 4 34 (.load false 1 (.t 33)) [3], h9 5 35 (.len (.t 34)) [4,3], ⟨2, m9 32 0⟩, ⟨0, o9 30 (.fa 2 (.t 4))⟩, h9 1 31 (.load false 1 (.t 30)) [0], h9 6 36 (.call 11 [.t 32, .t 35]) [2,5,4,3], h9 7 37
 (.ixs 7 (.t 31) (.t 36)) [1,6,0,2,5,4,3], h9 8 38 (.load true 7 (.t 37)) [7,1,6,0,2,5,4,3], ⟨9, o9 9 (.alloc 7 43 (.agg [.int .i64 0, .int .i64 0, .int .i64 0, .int .i64 0, .int .i64 0, .nil, .bool false]))⟩, ⟨10, ⟨none, .store 7 (.t 9)
 (.t 38), none, [9, 8, 6, 0, 1, 2, 3, 4, 5, 7]⟩⟩]) <| .seq (.hregion [⟨3, o9 42 (.fa 0 (.t 4))⟩, h9 4 43 (.load false 1 (.t 42)) [3], h9 5 44 (.len (.t 43)) [4,3], ⟨2, m9 41 0⟩, ⟨0, o9 39 (.fa 0 (.t 4))⟩, h9 1 40 (.load false 1 (.t 39))
 [0], h9 6 45 (.call 11 [.t 41, .t 44]) [2,5,4,3], h9 7 46 (.ixs 3 (.t 40) (.t 45)) [1,6,0,2,5,4,3], h9 8 47 (.load true 3 (.t 46)) [7,1,6,0,2,5,4,3], ⟨9, o9 10 (.alloc 3 62 (.agg [.int .i64 0, .int .i64 0, .int .i64 0]))⟩, ⟨10, ⟨none,
 .store 3 (.t 10) (.t 47), none, [9, 8, 6, 0, 1, 2, 3, 4, 5, 7]⟩⟩]) <| .seq (.region [o9 48 (.fa 2 (.t 10)), o9 49 (.load false 1 (.t 48)), o9 50 (.load true 7 (.t 9)), o9 51 (.call 33 [.t 49, .c (.int .i64 1), .t 50]), m9 11 51] none) <|
 .seq (.seq (.region [m9 52 0, o9 53 (.call 11 [.t 52, .c (.int .i64 8)])] none) <| .block 0 <| .seq (.region [o9 55 (.bin .eql (.t 53) (.c (.int .i64 6))), m9 54 55] none) <| .cond (.t 54) (.region [o9 56 (.fa 2 (.t 10)), o9 57 (.load
 false 1 (.t 56)), o9 58 (.load true 7 (.t 9)), o9 59 (.call 33 [.t 57, .c (.int .i64 2), .t 58]), m9 11 59] none) <| .seq (.region [o9 61 (.bin .eql (.t 53) (.c (.int .i64 7))), m9 60 61] none) <| .cond (.t 60) (.region [m9 62 11, o9 63
 (.bin .add (.t 62) (.c (.int .i64 1))), m9 11 63] none) <| .skip) <| .seq (.hregion [⟨4, m9 68 11⟩, ⟨2, o9 66 (.fa 0 (.t 10))⟩, h9 3 67 (.load false 1 (.t 66)) [2], ⟨0, o9 64 (.fa 0 (.t 9))⟩, h9 1 65 (.load false 1 (.t 64)) [0], h9 5 6
 (.mv (.t 65)) [1,0], h9 6 7 (.mv (.t 67)) [3,5,0,1,2], h9 7 8 (.mv (.t 68)) [4,6,0,1,2,3,5]]) <| .ret
abbrev n_flow_Signed : Nat := 13
theorem b_flow_Signed : bodyOf prog 13 [1000000] = some (c_flow_Signed, [.t 6, .t 7, .t 8], 69) := by kernel_rfl
def c_deviation_Sign : ACode := .seq (.region [o9 5 (.box 3 31 (.t 0)), o9 10 (.alloc 3 31 (.agg [.nil, .int .i64 0, .nil])), o9 11 (.mv (.c (.int .i64 0)))] none) <| .seq (.region [o9 22 (.load true 3 (.t 5)), m9 23 1, m9 24 2, m9 25 3,
 m9 26 4, o9 27 (.call 36 [.t 22, .t 23, .t 24, .t 25, .c (.int .i64 1), .t 26]), m9 21 27, o9 28 (.ext (.t 21) 0), o9 29 (.ext (.t 21) 1), o9 30 (.ext (.t 21) 2), o9 13 (.alloc 3 62 (.agg [.int .i64 0, .int .i64 0, .int .i64 0])), m9 12
 28, ⟨none, .store 3 (.t 13) (.t 29), none, []⟩, m9 14 30] none) <| .seq (.seq (.region [m9 31 14, o9 32 (.bin .neq (.t 31) (.c (.int .i64 0)))] none) <| .cond (.t 32) (.seq (.region [o9 33 (.build [.nil, .int .i64 0, .nil] []), m9 34 14,
 ⟨none, .store 3 (.t 10) (.t 33), none, []⟩, m9 11 34] none) <| .ret) <| .skip) <| .seq (.region [o9 35 (.fa 2 (.t 5)), o9 36 (.load false 1 (.t 35)), m9 37 12, o9 38 (.ixs 7 (.t 36) (.t 37)), o9 39 (.fa 5 (.t 38)), o9 40 (.load false 1
 (.t 39)), m9 15 40] none) <| .seq (.seq (.region [m9 41 15, o9 42 (.len (.t 41)), o9 43 (.bin .eql (.t 42) (.c (.int .i64 2))), m9 44 43, ⟨some 45, .mv (.t 15), some (44, false), []⟩, ⟨some 46, .mv (.t 2), some (44, false), []⟩, ⟨some 47,
 .call 37 [.t 45, .t 46], some (44, false), []⟩, o9 48 (.pick (.t 44) (.c (.bool true)) (.t 47))] none) <| .cond (.t 48) (.seq (.region [o9 49 (.build [.nil, .int .i64 0, .nil] []), ⟨none, .store 3 (.t 10) (.t 49), none, []⟩, o9 11 (.mv
 (.c (.int .i64 46)))] none) <| .ret) <| .skip) <| .seq (.seq (.region [m9 50 15, o9 51 (.len (.t 50)), o9 52 (.mv (.c (.int .i64 0)))] none) <| .block 0 <| .loop <| .seq (.region [o9 53 (.bin .lss (.t 52) (.t 51))] none) <| .seq (.cond
 (.t 53) (.skip) <| .exit 0) <| .seq (.block 1 <| .seq (.region [o9 54 (.ixs 1 (.t 50) (.t 52)), o9 55 (.load false 1 (.t 54)), m9 17 55] none) <| .seq (.region [o9 57 (.fa 0 (.t 5)), o9 58 (.load false 1 (.t 57)), m9 59 17, o9 60 (.call
 38 [.t 58, .t 59]), m9 56 60, o9 61 (.ext (.t 56) 0), o9 62 (.ext (.t 56) 1), o9 18 (.alloc 3 62 (.agg [.int .i64 0, .int .i64 0, .int .i64 0])), ⟨none, .store 3 (.t 18) (.t 61), none, []⟩, m9 19 62] none) <| .seq (.region [o9 63 (.fa 1
 (.t 18)), o9 64 (.load false 1 (.t 63)), o9 65 (.fa 1 (.t 13)), o9 66 (.load false 1 (.t 65)), o9 67 (.bin .eql (.t 64) (.t 66))] none) <| .cond (.t 67) (.seq (.region [o9 68 (.build [.nil, .int .i64 0, .nil] []), ⟨none, .store 3 (.t 10)
 (.t 68), none, []⟩, o9 11 (.mv (.c (.int .i64 5)))] none) <| .ret) <| .skip) <| .region [o9 69 (.bin .add (.t 52) (.c (.int .i64 1))), m9 52 69] none) <| .seq (.region [o9 70 (.load true 3 (.t 5)), o9 71 (.call 35 [.t 70]), o9 20 (.alloc
 3 31 (.agg [.nil, .int .i64 0, .nil])), ⟨none, .store 3 (.t 20) (.t 71), none, []⟩] none) <| .seq (.hregion [⟨9, m9 81 2⟩, h9 10 82 (.lit false 1 3 [.t 81]) [9], ⟨5, m9 77 12⟩, ⟨3, o9 75 (.fa 2 (.t 20))⟩, h9 4 76 (.load false 1 (.t 75))
 [3], h9 6 78 (.ixs 7 (.t 76) (.t 77)) [4,5,3], h9 7 79 (.fa 5 (.t 78)) [6,4,5,3], h9 8 80 (.load false 1 (.t 79)) [7,6,4,5,3], ⟨2, m9 74 12⟩, ⟨0, o9 72 (.fa 2 (.t 20))⟩, h9 1 73 (.load false 1 (.t 72)) [0], h9 11 83 (.app 1 8 3 (.t 80)
 (.t 82)) [8,10,7,6,4,5,3,9], h9 12 84 (.ixs 7 (.t 73) (.t 74)) [1,2,0,3,4,5,6,7,8,9,10,11], h9 13 85 (.fa 5 (.t 84)) [12,0,1,2,3,4,5,6,7,8,9,10,11], ⟨14, ⟨none, .store 1 (.t 85) (.t 83), none, [13, 11, 0, 1, 2, 3, 4, 5, 6, 7, 8, 9, 10,
 12]⟩⟩]) <| .seq (.region [o9 86 (.load true 3 (.t 20)), ⟨none, .store 3 (.t 10) (.t 86), none, []⟩, o9 11 (.mv (.c (.int .i64 0)))] none) <| .ret
abbrev n_deviation_Sign : Nat := 14
theorem b_deviation_Sign : bodyOf prog 14 [1000000] = some (c_deviation_Sign, [.c 10 true 3, .t 11], 87) := by kernel_rfl
def c_deviation_InForce : ACode := .seq (.region [o9 3 (.box 3 31 (.t 0)), o9 4 (.box 1 3 (.t 1)), o9 5 (.box 1 3 (.t 2)), o9 6 (.alloc 7 43 (.agg [.int .i64 0, .int .i64 0, .int .i64 0, .int .i64 0, .int .i64 0, .nil, .bool false])), o9 7
 (.alloc 1 4 (.bool false))] none) <| .seq (.seq (.region [o9 10 (.load true 3 (.t 3)), o9 11 (.call 34 [.t 10]), o9 12 (.un .not (.t 11))] none) <| .cond (.t 12) (.seq (.region [o9 13 (.build [.int .i64 0, .int .i64 0, .int .i64 0, .int
 .i64 0, .int .i64 0, .nil, .bool false] []), ⟨none, .store 7 (.t 6) (.t 13), none, []⟩, ⟨none, .store 1 (.t 7) (.c (.bool false)), none, []⟩] none) <| .ret) <| .skip) <| .seq (.seq (.region [o9 14 (.fa 2 (.t 3)), o9 15 (.load false 1 (.t
 14)), o9 16 (.call 39 [.t 15])] none) <| .block 0 <| .rangeG (ItG prog) (.t 16) [17, 18] [o9 9 (.alloc 7 43 (.agg [.int .i64 0, .int .i64 0, .int .i64 0, .int .i64 0, .int .i64 0, .nil, .bool false])), ⟨none, .store 7 (.t 9) (.t 18),
 none, []⟩] <| .block 1 <| .seq (.region [o9 19 (.fa 1 (.t 9)), o9 20 (.load false 1 (.t 19)), o9 21 (.load false 1 (.t 4)), o9 22 (.bin .eql (.t 20) (.t 21)), m9 23 22, ⟨some 24, .fa 5 (.t 9), some (23, true), []⟩, ⟨some 25, .load false 1
 (.t 24), some (23, true), []⟩, ⟨some 26, .len (.t 25), some (23, true), []⟩, ⟨some 27, .bin .eql (.t 26) (.c (.int .i64 2)), some (23, true), []⟩, o9 28 (.pick (.t 23) (.t 27) (.c (.bool false))), m9 29 28, ⟨some 30, .fa 6 (.t 9), some
 (29, true), []⟩, ⟨some 31, .load false 1 (.t 30), some (29, true), []⟩, ⟨some 32, .un .not (.t 31), some (29, true), []⟩, o9 33 (.pick (.t 29) (.t 32) (.c (.bool false))), m9 34 33, ⟨some 35, .fa 2 (.t 9), some (34, true), []⟩, ⟨some 36,
 .load false 1 (.t 35), some (34, true), []⟩, ⟨some 37, .load false 1 (.t 5), some (34, true), []⟩, ⟨some 38, .bin .leq (.t 36) (.t 37), some (34, true), []⟩, o9 39 (.pick (.t 34) (.t 38) (.c (.bool false))), m9 40 39, ⟨some 41, .load
 false 1 (.t 5), some (40, true), []⟩, ⟨some 42, .fa 3 (.t 9), some (40, true), []⟩, ⟨some 43, .load false 1 (.t 42), some (40, true), []⟩, ⟨some 44, .bin .leq (.t 41) (.t 43), some (40, true), []⟩, o9 45 (.pick (.t 40) (.t 44) (.c (.bool
 false)))] none) <| .cond (.t 45) (.seq (.region [o9 46 (.load true 7 (.t 9)), o9 47 (.call 40 [.t 46]), ⟨none, .store 7 (.t 6) (.t 47), none, []⟩, ⟨none, .store 1 (.t 7) (.c (.bool true)), none, []⟩] none) <| .ret) <| .skip) <| .seq
 (.region [o9 48 (.build [.int .i64 0, .int .i64 0, .int .i64 0, .int .i64 0, .int .i64 0, .nil, .bool false] []), ⟨none, .store 7 (.t 6) (.t 48), none, []⟩, ⟨none, .store 1 (.t 7) (.c (.bool false)), none, []⟩] none) <| .ret
abbrev n_deviation_InForce : Nat := 15
theorem b_deviation_InForce : bodyOf prog 15 [1000000] = some (c_deviation_InForce, [.c 6 true 7, .c 7 false 1], 49) := by kernel_rfl
def c_law26_two : ACode := .seq (.region [o9 3 (.box 3 31 (.t 0)), o9 4 (.box 7 43 (.t 1)), o9 6 (.mv (.c (.bool false)))] none) <| .seq (.region [o9 7 (.mv (.c (.nil)))] none) <| .seq (.seq (.region [m9 12 2, o9 13 (.len (.t 12)), o9 14
 (.mv (.c (.int .i64 0)))] none) <| .block 0 <| .loop <| .seq (.region [o9 15 (.bin .lss (.t 14) (.t 13))] none) <| .seq (.cond (.t 15) (.skip) <| .exit 0) <| .seq (.block 1 <| .seq (.region [o9 16 (.ixs 2 (.t 12) (.t 14)), o9 17 (.load
 true 2 (.t 16)), o9 9 (.alloc 2 41 (.agg [.int .i64 0, .int .i64 0])), ⟨none, .store 2 (.t 9) (.t 17), none, []⟩] none) <| .seq (.seq (.region [o9 18 (.pu (.aixs 1 2) [.t 9, .c (.int .i64 0)]), o9 19 (.load false 1 (.t 18)), o9 20 (.fa 0
 (.t 4)), o9 21 (.load false 1 (.t 20)), o9 22 (.bin .neq (.t 19) (.t 21))] none) <| .cond (.t 22) (.exit 1) <| .skip) <| .seq (.region [o9 23 (.fa 0 (.t 3)), o9 24 (.load false 1 (.t 23)), o9 25 (.len (.t 24)), o9 26 (.mv (.c (.int .i64
 0)))] none) <| .block 2 <| .loop <| .seq (.region [o9 27 (.bin .lss (.t 26) (.t 25))] none) <| .seq (.cond (.t 27) (.skip) <| .exit 2) <| .seq (.block 3 <| .seq (.region [o9 28 (.ixs 3 (.t 24) (.t 26)), o9 29 (.load true 3 (.t 28)), o9 11
 (.alloc 3 62 (.agg [.int .i64 0, .int .i64 0, .int .i64 0])), ⟨none, .store 3 (.t 11) (.t 29), none, []⟩] none) <| .seq (.region [o9 30 (.fa 0 (.t 11)), o9 31 (.load false 1 (.t 30)), o9 32 (.pu (.aixs 1 2) [.t 9, .c (.int .i64 1)]), o9
 33 (.load false 1 (.t 32)), o9 34 (.bin .eql (.t 31) (.t 33))] none) <| .cond (.t 34) (.region [m9 35 7, o9 36 (.fa 1 (.t 11)), o9 37 (.load false 1 (.t 36)), o9 38 (.lit false 1 3 [.t 37]), o9 39 (.app 1 8 3 (.t 35) (.t 38)), m9 7 39]
 none) <| .skip) <| .region [o9 40 (.bin .add (.t 26) (.c (.int .i64 1))), m9 26 40] none) <| .region [o9 41 (.bin .add (.t 14) (.c (.int .i64 1))), m9 14 41] none) <| .seq (.hregion [⟨0, m9 42 7⟩, h9 1 43 (.len (.t 42)) [0], h9 2 44 (.bin
 .eql (.t 43) (.c (.int .i64 2))) [1,0], h9 3 45 (.mv (.t 44)) [2,1,0], ⟨7, ⟨some 49, .mv (.t 7), some (45, true), [3, 2, 1, 0]⟩⟩, ⟨8, ⟨some 50, .ixs 1 (.t 49) (.c (.int .i64 1)), some (45, true), [7, 3, 2, 1, 0]⟩⟩, ⟨9, ⟨some 51, .load
 false 1 (.t 50), some (45, true), [8, 3, 7, 2, 1, 0]⟩⟩, ⟨4, ⟨some 46, .mv (.t 7), some (45, true), [3, 2, 1, 0]⟩⟩, ⟨5, ⟨some 47, .ixs 1 (.t 46) (.c (.int .i64 0)), some (45, true), [4, 3, 2, 1, 0]⟩⟩, ⟨6, ⟨some 48, .load false 1 (.t 47),
 some (45, true), [5, 3, 4, 2, 1, 0]⟩⟩, ⟨10, ⟨some 52, .bin .neq (.t 48) (.t 51), some (45, true), [6, 9, 3, 5, 4, 2, 1, 0, 8, 7]⟩⟩, h9 11 53 (.pick (.t 45) (.t 52) (.c (.bool false))) [3,10,2,1,0,6,9,5,4,8,7], h9 12 6 (.mv (.t 53))
 [11,3,0,1,2,4,5,6,7,8,9,10]]) <| .ret
abbrev n_law26_two : Nat := 16
theorem b_law26_two : bodyOf prog 16 [1000000] = some (c_law26_two, [.t 6], 54) := by kernel_rfl
def c_mk_Mod : ACode := .seq (.region [o9 4 (.mv (.c (.int .i64 0)))] none) <| .seq (.region [m9 5 0, m9 6 1, o9 7 (.bin .rem (.t 5) (.t 6)), m9 8 1, o9 9 (.bin .add (.t 7) (.t 8)), m9 10 1, o9 11 (.bin .rem (.t 9) (.t 10)), m9 4 11] none)
 <| .ret
abbrev n_mk_Mod : Nat := 17
theorem b_mk_Mod : bodyOf prog 17 [] = some (c_mk_Mod, [.t 4], 12) := by kernel_rfl
def c_deviation_Code : ACode := .seq (.region [o9 5 (.box 7 43 (.t 2)), o9 6 (.mv (.c (.int .i64 0)))] none) <| .seq (.region [o9 7 (.mv (.c (.int .i64 7)))] none) <| .seq (.seq (.region [m9 10 0, m9 11 1, o9 12 (.fa 0 (.t 5)), o9 13
 (.load false 1 (.t 12)), o9 14 (.fa 1 (.t 5)), o9 15 (.load false 1 (.t 14)), o9 16 (.fa 2 (.t 5)), o9 17 (.load false 1 (.t 16)), o9 18 (.fa 3 (.t 5)), o9 19 (.load false 1 (.t 18)), o9 20 (.fa 4 (.t 5)), o9 21 (.load false 1 (.t 20)),
 o9 22 (.build [.int .i64 0, .int .i64 0, .int .i64 0, .int .i64 0, .int .i64 0, .int .i64 0, .int .i64 0] [(0, 1, .t 10), (1, 1, .t 11), (2, 1, .t 13), (3, 1, .t 15), (4, 1, .t 17), (5, 1, .t 19), (6, 1, .t 21)]), o9 23 (.mv (.c (.int
 .i64 0)))] none) <| .block 0 <| .loop <| .seq (.region [o9 24 (.bin .lss (.t 23) (.c (.int .i64 7)))] none) <| .seq (.cond (.t 24) (.skip) <| .exit 0) <| .seq (.block 1 <| .seq (.region [o9 25 (.pu (.aidx false 1 7) [.t 22, .t 23]), m9 9
 25] none) <| .region [m9 26 7, o9 27 (.bin .mul (.c (.int .i64 31)) (.t 26)), m9 28 9, o9 29 (.bin .rem (.t 28) (.c (.int .i64 2147483647))), o9 30 (.bin .add (.t 29) (.c (.int .i64 2147483647))), o9 31 (.bin .rem (.t 30) (.c (.int .i64
 2147483647))), o9 32 (.bin .add (.t 27) (.t 31)), o9 33 (.bin .rem (.t 32) (.c (.int .i64 2147483647))), m9 7 33] none) <| .region [o9 34 (.bin .add (.t 23) (.c (.int .i64 1))), m9 23 34] none) <| .seq (.region [m9 35 7, m9 6 35] none) <|
 .ret
abbrev n_deviation_Code : Nat := 18
theorem b_deviation_Code : bodyOf prog 18 [1000000] = some (c_deviation_Code, [.t 6], 36) := by kernel_rfl
def c_flow_Desk : ACode := .seq (.region [o9 2 (.alloc 3 31 (.agg [.nil, .int .i64 0, .nil]))] none) <| .seq (.region [m9 16 0, o9 17 (.call 10 [.t 16]), o9 18 (.build [.nil, .int .i64 0, .nil] [(0, 1, .t 17), (1, 1, .c (.int .i64 1))]),
 o9 3 (.alloc 3 31 (.agg [.nil, .int .i64 0, .nil])), ⟨none, .store 3 (.t 3) (.t 18), none, []⟩] none) <| .seq (.seq (.region [m9 19 0, o9 20 (.call 11 [.t 19, .c (.int .i64 12)]), m9 4 20] none) <| .block 0 <| .loop <| .seq (.seq (.region
 [m9 21 4, o9 22 (.bin .gtr (.t 21) (.c (.int .i64 0)))] none) <| .cond (.t 22) (.skip) <| .exit 0) <| .seq (.block 1 <| .seq (.region [m9 25 0, o9 26 (.call 11 [.t 25, .c (.int .i64 12)]), m9 5 26] none) <| .seq (.region [m9 27 0, o9 28
 (.call 11 [.t 27, .c (.int .i64 4)])] none) <| .block 2 <| .seq (.region [o9 50 (.bin .eql (.t 28) (.c (.int .i64 0))), m9 49 50] none) <| .cond (.t 49) (.hregion [⟨8, m9 60 0⟩, ⟨5, m9 57 0⟩, ⟨4, m9 56 5⟩, ⟨3, m9 55 5⟩, ⟨1, m9 53 0⟩, ⟨0,
 o9 52 (.load true 3 (.t 3))⟩, h9 2 54 (.call 11 [.t 53, .c (.int .i64 3)]) [1], h9 6 58 (.call 11 [.t 57, .c (.int .i64 12)]) [5,2,1], h9 7 59 (.bin .add (.t 56) (.t 58)) [4,6,5,2,1], h9 9 61 (.call 11 [.t 60, .c (.int .i64 60)])
 [8,6,5,2,1], h9 10 62 (.call 21 [.t 52, .t 54, .t 55, .t 59, .t 61]) [0,2,3,7,9,1,4,6,5,8], h9 11 51 (.mv (.t 62)) [10,0,2,3,7,9,1,4,6,5,8], h9 14 65 (.ext (.t 51) 2) [11,10,0,2,3,7,9,1,4,6,5,8], h9 13 64 (.ext (.t 51) 1)
 [11,10,0,2,3,7,9,1,4,6,5,8], h9 12 63 (.ext (.t 51) 0) [11,10,0,2,3,7,9,1,4,6,5,8], ⟨15, ⟨none, .store 3 (.t 3) (.t 63), none, [12, 10, 0, 1, 2, 3, 4, 5, 6, 7, 8, 9, 11]⟩⟩]) <| .seq (.seq (.region [o9 67 (.bin .eql (.t 28) (.c (.int .i64
 1))), m9 66 67] none) <| .cond (.t 66) (.skip) <| .region [o9 68 (.bin .eql (.t 28) (.c (.int .i64 2))), m9 66 68] none) <| .cond (.t 66) (.seq (.region [m9 70 0, o9 71 (.load true 3 (.t 3)), m9 72 5, o9 73 (.call 13 [.t 70, .t 71, .t
 72]), m9 69 73, o9 74 (.ext (.t 69) 0), o9 75 (.ext (.t 69) 1), o9 76 (.ext (.t 69) 2), m9 6 74, m9 7 75, m9 8 76] none) <| .seq (.region [o9 78 (.load true 3 (.t 3)), m9 79 6, m9 80 7, m9 81 8, m9 82 5, o9 83 (.call 23 [.t 78, .t 79, .t
 80, .t 81, .t 82]), m9 77 83, o9 84 (.ext (.t 77) 0), o9 85 (.ext (.t 77) 1), o9 9 (.alloc 3 31 (.agg [.nil, .int .i64 0, .nil])), ⟨none, .store 3 (.t 9) (.t 84), none, []⟩, m9 10 85] none) <| .seq (.region [m9 86 10, o9 87 (.bin .eql (.t
 86) (.c (.int .i64 0)))] none) <| .cond (.t 87) (.region [o9 88 (.load true 3 (.t 9)), ⟨none, .store 3 (.t 3) (.t 88), none, []⟩] none) <| .skip) <| .seq (.region [m9 30 0, o9 31 (.load true 3 (.t 3)), m9 32 5, o9 33 (.call 13 [.t 30, .t
 31, .t 32]), m9 29 33, o9 34 (.ext (.t 29) 0), o9 35 (.ext (.t 29) 1), o9 36 (.ext (.t 29) 2), m9 11 34, m9 12 35, m9 13 36] none) <| .seq (.region [o9 38 (.load true 3 (.t 3)), m9 39 11, m9 40 12, m9 41 13, m9 42 5, o9 43 (.call 25 [.t
 38, .t 39, .t 40, .t 41, .t 42]), m9 37 43, o9 44 (.ext (.t 37) 0), o9 45 (.ext (.t 37) 1), o9 14 (.alloc 3 31 (.agg [.nil, .int .i64 0, .nil])), ⟨none, .store 3 (.t 14) (.t 44), none, []⟩, m9 15 45] none) <| .seq (.region [m9 46 15, o9
 47 (.bin .eql (.t 46) (.c (.int .i64 0)))] none) <| .cond (.t 47) (.region [o9 48 (.load true 3 (.t 14)), ⟨none, .store 3 (.t 3) (.t 48), none, []⟩] none) <| .skip) <| .region [m9 23 4, o9 24 (.bin .sub (.t 23) (.c (.int .i64 1))), m9 4
 24] none) <| .seq (.region [o9 89 (.load true 3 (.t 3)), ⟨none, .store 3 (.t 2) (.t 89), none, []⟩] none) <| .ret
abbrev n_flow_Desk : Nat := 20
theorem b_flow_Desk : bodyOf prog 20 [1000000] = some (c_flow_Desk, [.c 2 true 3], 90) := by kernel_rfl
def c_ref26_Request : ACode := .seq (.region [o9 5 (.box 3 31 (.t 0)), o9 10 (.alloc 3 31 (.agg [.nil, .int .i64 0, .nil])), o9 11 (.mv (.c (.int .i64 0))), o9 12 (.mv (.c (.int .i64 0)))] none) <| .seq (.block 0 <| .seq (.region [o9 14
 (.load true 3 (.t 5)), o9 15 (.call 27 [.t 14]), o9 16 (.bin .neq (.t 15) (.c (.int .i64 0))), m9 13 16] none) <| .cond (.t 13) (.seq (.region [o9 17 (.build [.nil, .int .i64 0, .nil] []), ⟨none, .store 3 (.t 10) (.t 17), none, []⟩, o9 11
 (.mv (.c (.int .i64 0))), o9 12 (.mv (.c (.int .i64 50)))] none) <| .ret) <| .seq (.region [m9 19 1, o9 20 (.call 41 [.t 19, .c (.int .i64 0), .c (.int .i64 5)]), o9 21 (.un .not (.t 20)), m9 18 21] none) <| .cond (.t 18) (.seq (.region
 [o9 22 (.build [.nil, .int .i64 0, .nil] []), ⟨none, .store 3 (.t 10) (.t 22), none, []⟩, o9 11 (.mv (.c (.int .i64 0))), o9 12 (.mv (.c (.int .i64 40)))] none) <| .ret) <| .seq (.region [m9 24 2, o9 25 (.bin .lss (.t 24) (.c (.int .i64
 0))), m9 26 25, ⟨some 27, .mv (.t 2), some (26, false), []⟩, ⟨some 28, .mv (.t 3), some (26, false), []⟩, ⟨some 29, .bin .gtr (.t 27) (.t 28), some (26, false), []⟩, o9 30 (.pick (.t 26) (.c (.bool true)) (.t 29)), m9 31 30, ⟨some 32, .mv
 (.t 3), some (31, false), []⟩, ⟨some 33, .bin .gtr (.t 32) (.c (.int .i64 16777216)), some (31, false), []⟩, o9 34 (.pick (.t 31) (.c (.bool true)) (.t 33)), m9 23 34] none) <| .cond (.t 23) (.seq (.region [o9 35 (.build [.nil, .int .i64
 0, .nil] []), ⟨none, .store 3 (.t 10) (.t 35), none, []⟩, o9 11 (.mv (.c (.int .i64 0))), o9 12 (.mv (.c (.int .i64 6)))] none) <| .ret) <| .seq (.region [m9 37 4, o9 38 (.call 41 [.t 37, .c (.int .i64 0), .c (.int .i64 1073741824)]), o9
 39 (.un .not (.t 38)), m9 36 39] none) <| .cond (.t 36) (.seq (.region [o9 40 (.build [.nil, .int .i64 0, .nil] []), ⟨none, .store 3 (.t 10) (.t 40), none, []⟩, o9 11 (.mv (.c (.int .i64 0))), o9 12 (.mv (.c (.int .i64 1)))] none) <|
 .ret) <| .seq (.region [o9 42 (.fa 2 (.t 5)), o9 43 (.load false 1 (.t 42)), o9 44 (.len (.t 43)), o9 45 (.bin .eql (.t 44) (.c (.int .i64 64))), m9 46 45, ⟨some 47, .fa 1 (.t 5), some (46, false), []⟩, ⟨some 48, .load false 1 (.t 47),
 some (46, false), []⟩, ⟨some 49, .bin .eql (.t 48) (.c (.int .i64 1073741824)), some (46, false), []⟩, o9 50 (.pick (.t 46) (.c (.bool true)) (.t 49)), m9 41 50] none) <| .cond (.t 41) (.seq (.region [o9 51 (.build [.nil, .int .i64 0,
 .nil] []), ⟨none, .store 3 (.t 10) (.t 51), none, []⟩, o9 11 (.mv (.c (.int .i64 0))), o9 12 (.mv (.c (.int .i64 10)))] none) <| .ret) <| .skip) <| .seq (.region [o9 52 (.load true 3 (.t 5)), o9 53 (.call 42 [.t 52]), ⟨none, .store 3 (.t
 5) (.t 53), none, []⟩] none) <| .seq (.region [o9 54 (.fa 2 (.t 5)), o9 55 (.load false 1 (.t 54)), o9 56 (.fa 1 (.t 5)), o9 57 (.load false 1 (.t 56)), m9 58 1, m9 59 2, m9 60 3, m9 61 4, o9 62 (.build [.int .i64 0, .int .i64 0, .int
 .i64 0, .int .i64 0, .int .i64 0, .nil, .bool false] [(0, 1, .t 57), (1, 1, .t 58), (2, 1, .t 59), (3, 1, .t 60), (4, 1, .t 61)]), o9 63 (.lit false 7 43 [.t 62]), o9 64 (.app 7 72 43 (.t 55) (.t 63)), o9 65 (.fa 2 (.t 5)), ⟨none, .store
 1 (.t 65) (.t 64), none, []⟩] none) <| .seq (.region [o9 66 (.fa 1 (.t 5)), o9 67 (.load false 1 (.t 66)), o9 68 (.bin .add (.t 67) (.c (.int .i64 1))), o9 69 (.fa 1 (.t 5)), ⟨none, .store 1 (.t 69) (.t 68), none, []⟩] none) <| .seq
 (.hregion [⟨1, o9 71 (.fa 1 (.t 5))⟩, h9 2 72 (.load false 1 (.t 71)) [1], h9 3 73 (.bin .sub (.t 72) (.c (.int .i64 1))) [2,1], ⟨0, o9 70 (.load true 3 (.t 5))⟩, ⟨4, ⟨none, .store 3 (.t 10) (.t 70), none, [0]⟩⟩, h9 5 11 (.mv (.t 73))
 [3,4,0,1,2], h9 6 12 (.mv (.c (.int .i64 0))) [5,0,1,2,3,4]]) <| .ret
abbrev n_ref26_Request : Nat := 21
theorem b_ref26_Request : bodyOf prog 21 [1000000] = some (c_ref26_Request, [.c 10 true 3, .t 11, .t 12], 74) := by kernel_rfl
def c_ref26_Sign : ACode := .seq (.region [o9 5 (.box 3 31 (.t 0)), o9 10 (.alloc 3 31 (.agg [.nil, .int .i64 0, .nil])), o9 11 (.mv (.c (.int .i64 0)))] none) <| .seq (.region [o9 21 (.load true 3 (.t 5)), m9 22 1, m9 23 2, m9 24 3, m9 25
 4, o9 26 (.call 43 [.t 21, .t 22, .t 23, .t 24, .t 25, .c (.int .i64 1)]), m9 20 26, o9 27 (.ext (.t 20) 0), o9 28 (.ext (.t 20) 1), o9 29 (.ext (.t 20) 2), o9 13 (.alloc 3 62 (.agg [.int .i64 0, .int .i64 0, .int .i64 0])), m9 12 27,
 ⟨none, .store 3 (.t 13) (.t 28), none, []⟩, m9 14 29] none) <| .seq (.seq (.region [m9 30 14, o9 31 (.bin .neq (.t 30) (.c (.int .i64 0)))] none) <| .cond (.t 31) (.seq (.region [o9 32 (.build [.nil, .int .i64 0, .nil] []), m9 33 14,
 ⟨none, .store 3 (.t 10) (.t 32), none, []⟩, m9 11 33] none) <| .ret) <| .skip) <| .seq (.region [o9 34 (.load true 3 (.t 5)), o9 35 (.call 42 [.t 34]), ⟨none, .store 3 (.t 5) (.t 35), none, []⟩] none) <| .seq (.region [o9 36 (.fa 2 (.t
 5)), o9 37 (.load false 1 (.t 36)), m9 38 12, o9 39 (.ixs 7 (.t 37) (.t 38)), m9 15 39] none) <| .seq (.seq (.region [m9 40 15, o9 41 (.nilchk (.t 40)), o9 42 (.fa 5 (.t 41)), o9 43 (.load false 1 (.t 42)), o9 44 (.len (.t 43)), o9 45
 (.bin .eql (.t 44) (.c (.int .i64 2)))] none) <| .cond (.t 45) (.seq (.region [o9 46 (.build [.nil, .int .i64 0, .nil] []), ⟨none, .store 3 (.t 10) (.t 46), none, []⟩, o9 11 (.mv (.c (.int .i64 46)))] none) <| .ret) <| .skip) <| .seq
 (.seq (.region [m9 47 15, o9 48 (.nilchk (.t 47)), o9 49 (.fa 5 (.t 48)), o9 50 (.load false 1 (.t 49)), o9 51 (.len (.t 50)), o9 52 (.mv (.c (.int .i64 0)))] none) <| .block 0 <| .loop <| .seq (.region [o9 53 (.bin .lss (.t 52) (.t 51))]
 none) <| .seq (.cond (.t 53) (.skip) <| .exit 0) <| .seq (.block 1 <| .seq (.region [o9 54 (.ixs 1 (.t 50) (.t 52)), o9 55 (.load false 1 (.t 54)), m9 17 55] none) <| .seq (.seq (.region [m9 56 17, m9 57 2, o9 58 (.bin .eql (.t 56) (.t
 57))] none) <| .cond (.t 58) (.seq (.region [o9 59 (.build [.nil, .int .i64 0, .nil] []), ⟨none, .store 3 (.t 10) (.t 59), none, []⟩, o9 11 (.mv (.c (.int .i64 46)))] none) <| .ret) <| .skip) <| .seq (.region [o9 61 (.load true 3 (.t 5)),
 m9 62 17, o9 63 (.call 44 [.t 61, .t 62]), m9 60 63, o9 64 (.ext (.t 60) 0), o9 65 (.ext (.t 60) 1), o9 18 (.alloc 3 62 (.agg [.int .i64 0, .int .i64 0, .int .i64 0])), ⟨none, .store 3 (.t 18) (.t 64), none, []⟩, m9 19 65] none) <| .seq
 (.region [o9 66 (.fa 1 (.t 18)), o9 67 (.load false 1 (.t 66)), o9 68 (.fa 1 (.t 13)), o9 69 (.load false 1 (.t 68)), o9 70 (.bin .eql (.t 67) (.t 69))] none) <| .cond (.t 70) (.seq (.region [o9 71 (.build [.nil, .int .i64 0, .nil] []),
 ⟨none, .store 3 (.t 10) (.t 71), none, []⟩, o9 11 (.mv (.c (.int .i64 5)))] none) <| .ret) <| .skip) <| .region [o9 72 (.bin .add (.t 52) (.c (.int .i64 1))), m9 52 72] none) <| .seq (.region [m9 73 15, m9 74 15, o9 75 (.nilchk (.t 74)),
 o9 76 (.fa 5 (.t 75)), o9 77 (.load false 1 (.t 76)), m9 78 2, o9 79 (.lit false 1 3 [.t 78]), o9 80 (.app 1 8 3 (.t 77) (.t 79)), o9 81 (.nilchk (.t 73)), o9 82 (.fa 5 (.t 81)), ⟨none, .store 1 (.t 82) (.t 80), none, []⟩] none) <| .seq
 (.region [o9 83 (.load true 3 (.t 5)), ⟨none, .store 3 (.t 10) (.t 83), none, []⟩, o9 11 (.mv (.c (.int .i64 0)))] none) <| .ret
abbrev n_ref26_Sign : Nat := 23
theorem b_ref26_Sign : bodyOf prog 23 [1000000] = some (c_ref26_Sign, [.c 10 true 3, .t 11], 84) := by kernel_rfl
def c_ref26_Withdraw : ACode := .seq (.region [o9 5 (.box 3 31 (.t 0)), o9 10 (.alloc 3 31 (.agg [.nil, .int .i64 0, .nil])), o9 11 (.mv (.c (.int .i64 0)))] none) <| .seq (.region [o9 16 (.load true 3 (.t 5)), m9 17 1, m9 18 2, m9 19 3,
 m9 20 4, o9 21 (.call 43 [.t 16, .t 17, .t 18, .t 19, .t 20, .c (.int .i64 2)]), m9 15 21, o9 22 (.ext (.t 15) 0), o9 23 (.ext (.t 15) 1), o9 24 (.ext (.t 15) 2), o9 13 (.alloc 3 62 (.agg [.int .i64 0, .int .i64 0, .int .i64 0])), m9 12
 22, ⟨none, .store 3 (.t 13) (.t 23), none, []⟩, m9 14 24] none) <| .seq (.seq (.region [m9 25 14, o9 26 (.bin .neq (.t 25) (.c (.int .i64 0)))] none) <| .cond (.t 26) (.seq (.region [o9 27 (.build [.nil, .int .i64 0, .nil] []), m9 28 14,
 ⟨none, .store 3 (.t 10) (.t 27), none, []⟩, m9 11 28] none) <| .ret) <| .skip) <| .seq (.region [o9 29 (.load true 3 (.t 5)), o9 30 (.call 42 [.t 29]), ⟨none, .store 3 (.t 5) (.t 30), none, []⟩] none) <| .seq (.region [o9 31 (.fa 2 (.t
 5)), o9 32 (.load false 1 (.t 31)), m9 33 12, o9 34 (.ixs 7 (.t 32) (.t 33)), o9 35 (.fa 6 (.t 34)), ⟨none, .store 1 (.t 35) (.c (.bool true)), none, []⟩] none) <| .seq (.region [o9 36 (.load true 3 (.t 5)), ⟨none, .store 3 (.t 10) (.t
 36), none, []⟩, o9 11 (.mv (.c (.int .i64 0)))] none) <| .ret
abbrev n_ref26_Withdraw : Nat := 25
theorem b_ref26_Withdraw : bodyOf prog 25 [1000000] = some (c_ref26_Withdraw, [.c 10 true 3, .t 11], 37) := by kernel_rfl
def c_ref26_Check : ACode := .seq (.region [o9 1 (.box 3 31 (.t 0)), o9 2 (.mv (.c (.int .i64 0)))] none) <| .seq (.seq (.region [o9 7 (.fa 0 (.t 1)), o9 8 (.load false 1 (.t 7)), o9 9 (.len (.t 8)), o9 10 (.bin .gtr (.t 9) (.c (.int .i64
 12))), m9 11 10, ⟨some 12, .fa 1 (.t 1), some (11, false), []⟩, ⟨some 13, .load false 1 (.t 12), some (11, false), []⟩, ⟨some 14, .call 41 [.t 13, .c (.int .i64 1), .c (.int .i64 1073741824)], some (11, false), []⟩, ⟨some 15, .un .not (.t
 14), some (11, false), []⟩, o9 16 (.pick (.t 11) (.c (.bool true)) (.t 15)), m9 17 16, ⟨some 18, .fa 2 (.t 1), some (17, false), []⟩, ⟨some 19, .load false 1 (.t 18), some (17, false), []⟩, ⟨some 20, .len (.t 19), some (17, false), []⟩,
 ⟨some 21, .bin .gtr (.t 20) (.c (.int .i64 64)), some (17, false), []⟩, o9 22 (.pick (.t 17) (.c (.bool true)) (.t 21))] none) <| .cond (.t 22) (.seq (.region [o9 2 (.mv (.c (.int .i64 50)))] none) <| .ret) <| .skip) <| .seq (.seq
 (.region [o9 23 (.fa 0 (.t 1)), o9 24 (.load false 1 (.t 23)), o9 25 (.len (.t 24)), o9 26 (.mv (.c (.int .i64 0)))] none) <| .block 0 <| .loop <| .seq (.region [o9 27 (.bin .lss (.t 26) (.t 25))] none) <| .seq (.cond (.t 27) (.skip) <|
 .exit 0) <| .seq (.block 1 <| .seq (.region [m9 28 26, o9 29 (.ixs 3 (.t 24) (.t 26)), o9 30 (.load true 3 (.t 29)), o9 4 (.alloc 3 62 (.agg [.int .i64 0, .int .i64 0, .int .i64 0])), m9 3 28, ⟨none, .store 3 (.t 4) (.t 30), none, []⟩]
 none) <| .seq (.hregion [⟨0, o9 31 (.fa 0 (.t 4))⟩, h9 1 32 (.load false 1 (.t 31)) [0], h9 2 33 (.call 41 [.t 32, .c (.int .i64 1), .c (.int .i64 1073741824)]) [1,0], h9 3 34 (.un .not (.t 33)) [2,1,0], h9 4 35 (.mv (.t 34)) [3,2,1,0],
 ⟨5, ⟨some 36, .mv (.t 3), some (35, false), [4, 3, 2, 1, 0]⟩⟩, ⟨6, ⟨some 37, .bin .gtr (.t 36) (.c (.int .i64 0)), some (35, false), [5, 4, 3, 2, 1, 0]⟩⟩, ⟨7, ⟨some 38, .mv (.t 37), some (35, false), [6, 4, 5, 3, 2, 1, 0]⟩⟩, ⟨12, ⟨some
 43, .mv (.t 3), some (38, true), [7, 6, 4, 5, 3, 2, 1, 0]⟩⟩, ⟨13, ⟨some 44, .bin .sub (.t 43) (.c (.int .i64 1)), some (38, true), [12, 7, 6, 4, 5, 3, 2, 1, 0]⟩⟩, ⟨10, ⟨some 41, .fa 0 (.t 1), some (38, true), [7, 6, 4, 5, 3, 2, 1, 0]⟩⟩,
 ⟨11, ⟨some 42, .load false 1 (.t 41), some (38, true), [10, 7, 6, 4, 5, 3, 2, 1, 0]⟩⟩, ⟨14, ⟨some 45, .ixs 3 (.t 42) (.t 44), some (38, true), [11, 13, 7, 10, 6, 4, 5, 3, 2, 1, 0, 12]⟩⟩, ⟨15, ⟨some 46, .fa 0 (.t 45), some (38, true), [14,
 7, 11, 13, 10, 6, 4, 5, 3, 2, 1, 0, 12]⟩⟩, ⟨16, ⟨some 47, .load false 1 (.t 46), some (38, true), [15, 7, 14, 11, 13, 10, 6, 4, 5, 3, 2, 1, 0, 12]⟩⟩, ⟨8, ⟨some 39, .fa 0 (.t 4), some (38, true), [7, 6, 4, 5, 3, 2, 1, 0]⟩⟩, ⟨9, ⟨some 40,
 .load false 1 (.t 39), some (38, true), [8, 7, 6, 4, 5, 3, 2, 1, 0]⟩⟩, ⟨17, ⟨some 48, .bin .leq (.t 40) (.t 47), some (38, true), [9, 16, 7, 8, 6, 4, 5, 3, 2, 1, 0, 15, 14, 11, 13, 10, 12]⟩⟩, ⟨18, ⟨some 49, .pick (.t 38) (.t 48) (.c
 (.bool false)), some (35, false), [7, 17, 4, 6, 5, 3, 2, 1, 0, 9, 16, 8, 15, 14, 11, 13, 10, 12]⟩⟩, h9 19 50 (.pick (.t 35) (.c (.bool true)) (.t 49)) [4,18,3,2,1,0,7,17,6,5,9,16,8,15,14,11,13,10,12], h9 20 51 (.mv (.t 50))
 [19,7,4,18,3,2,1,0,17,6,5,9,16,8,15,14,11,13,10,12], ⟨21, ⟨some 52, .fa 1 (.t 4), some (51, false), [20, 19, 7, 4, 18, 3, 2, 1, 0, 17, 6, 5, 9, 16, 8, 15, 14, 11, 13, 10, 12]⟩⟩, ⟨22, ⟨some 53, .load false 1 (.t 52), some (51, false), [21,
 20, 19, 7, 4, 18, 3, 2, 1, 0, 17, 6, 5, 9, 16, 8, 15, 14, 11, 13, 10, 12]⟩⟩, ⟨23, ⟨some 54, .call 41 [.t 53, .c (.int .i64 1), .c (.int .i64 9)], some (51, false), [22, 20, 21, 19, 7, 4, 18, 3, 2, 1, 0, 17, 6, 5, 9, 16, 8, 15, 14, 11, 13,
 10, 12]⟩⟩, ⟨24, ⟨some 55, .un .not (.t 54), some (51, false), [23, 20, 22, 21, 19, 7, 4, 18, 3, 2, 1, 0, 17, 6, 5, 9, 16, 8, 15, 14, 11, 13, 10, 12]⟩⟩, h9 25 56 (.pick (.t 51) (.c (.bool true)) (.t 55))
 [20,24,19,7,4,18,3,2,1,0,17,6,5,9,16,8,15,14,11,13,10,12,23,22,21], h9 26 57 (.mv (.t 56)) [25,23,20,24,19,7,4,18,3,2,1,0,17,6,5,9,16,8,15,14,11,13,10,12,22,21], ⟨27, ⟨some 58, .fa 2 (.t 4), some (57, false), [26, 25, 23, 20, 24, 19, 7,
 4, 18, 3, 2, 1, 0, 17, 6, 5, 9, 16, 8, 15, 14, 11, 13, 10, 12, 22, 21]⟩⟩, ⟨28, ⟨some 59, .load false 1 (.t 58), some (57, false), [27, 26, 25, 23, 20, 24, 19, 7, 4, 18, 3, 2, 1, 0, 17, 6, 5, 9, 16, 8, 15, 14, 11, 13, 10, 12, 22, 21]⟩⟩,
 ⟨29, ⟨some 60, .call 41 [.t 59, .c (.int .i64 1), .c (.int .i64 1073741824)], some (57, false), [28, 26, 27, 25, 23, 20, 24, 19, 7, 4, 18, 3, 2, 1, 0, 17, 6, 5, 9, 16, 8, 15, 14, 11, 13, 10, 12, 22, 21]⟩⟩, ⟨30, ⟨some 61, .un .not (.t 60),
 some (57, false), [29, 26, 28, 27, 25, 23, 20, 24, 19, 7, 4, 18, 3, 2, 1, 0, 17, 6, 5, 9, 16, 8, 15, 14, 11, 13, 10, 12, 22, 21]⟩⟩, h9 31 62 (.pick (.t 57) (.c (.bool true)) (.t 61))
 [26,30,25,23,20,24,19,7,4,18,3,2,1,0,17,6,5,9,16,8,15,14,11,13,10,12,22,21,29,28,27]]) <| .cond (.t 62) (.seq (.region [o9 2 (.mv (.c (.int .i64 50)))] none) <| .ret) <| .skip) <| .region [o9 63 (.bin .add (.t 26) (.c (.int .i64 1))), m9
 26 63] none) <| .seq (.seq (.region [o9 64 (.fa 2 (.t 1)), o9 65 (.load false 1 (.t 64)), o9 66 (.len (.t 65)), o9 67 (.mv (.c (.int .i64 0)))] none) <| .block 2 <| .loop <| .seq (.region [o9 68 (.bin .lss (.t 67) (.t 66))] none) <| .seq
 (.cond (.t 68) (.skip) <| .exit 2) <| .seq (.block 3 <| .seq (.region [m9 69 67, o9 70 (.ixs 7 (.t 65) (.t 67)), o9 71 (.load true 7 (.t 70)), o9 6 (.alloc 7 43 (.agg [.int .i64 0, .int .i64 0, .int .i64 0, .int .i64 0, .int .i64 0, .nil,
 .bool false])), m9 5 69, ⟨none, .store 7 (.t 6) (.t 71), none, []⟩] none) <| .seq (.hregion [⟨2, o9 74 (.fa 1 (.t 1))⟩, h9 3 75 (.load false 1 (.t 74)) [2], h9 4 76 (.bin .sub (.t 75) (.c (.int .i64 1))) [3,2], ⟨0, o9 72 (.fa 0 (.t 6))⟩,
 h9 1 73 (.load false 1 (.t 72)) [0], h9 5 77 (.call 41 [.t 73, .c (.int .i64 1), .t 76]) [1,4,0,3,2], h9 6 78 (.un .not (.t 77)) [5,1,4,0,3,2], h9 7 79 (.mv (.t 78)) [6,5,1,4,0,3,2], ⟨8, ⟨some 80, .mv (.t 5), some (79, false), [7, 6, 5,
 1, 4, 0, 3, 2]⟩⟩, ⟨9, ⟨some 81, .bin .gtr (.t 80) (.c (.int .i64 0)), some (79, false), [8, 7, 6, 5, 1, 4, 0, 3, 2]⟩⟩, ⟨10, ⟨some 82, .mv (.t 81), some (79, false), [9, 7, 8, 6, 5, 1, 4, 0, 3, 2]⟩⟩, ⟨15, ⟨some 87, .mv (.t 5), some (82,
 true), [10, 9, 7, 8, 6, 5, 1, 4, 0, 3, 2]⟩⟩, ⟨16, ⟨some 88, .bin .sub (.t 87) (.c (.int .i64 1)), some (82, true), [15, 10, 9, 7, 8, 6, 5, 1, 4, 0, 3, 2]⟩⟩, ⟨13, ⟨some 85, .fa 2 (.t 1), some (82, true), [10, 9, 7, 8, 6, 5, 1, 4, 0, 3,
 2]⟩⟩, ⟨14, ⟨some 86, .load false 1 (.t 85), some (82, true), [13, 10, 9, 7, 8, 6, 5, 1, 4, 0, 3, 2]⟩⟩, ⟨17, ⟨some 89, .ixs 7 (.t 86) (.t 88), some (82, true), [14, 16, 10, 13, 9, 7, 8, 6, 5, 1, 4, 0, 3, 2, 15]⟩⟩, ⟨18, ⟨some 90, .fa 0 (.t
 89), some (82, true), [17, 10, 14, 16, 13, 9, 7, 8, 6, 5, 1, 4, 0, 3, 2, 15]⟩⟩, ⟨19, ⟨some 91, .load false 1 (.t 90), some (82, true), [18, 10, 17, 14, 16, 13, 9, 7, 8, 6, 5, 1, 4, 0, 3, 2, 15]⟩⟩, ⟨11, ⟨some 83, .fa 0 (.t 6), some (82,
 true), [10, 9, 7, 8, 6, 5, 1, 4, 0, 3, 2]⟩⟩, ⟨12, ⟨some 84, .load false 1 (.t 83), some (82, true), [11, 10, 9, 7, 8, 6, 5, 1, 4, 0, 3, 2]⟩⟩, ⟨20, ⟨some 92, .bin .leq (.t 84) (.t 91), some (82, true), [12, 19, 10, 11, 9, 7, 8, 6, 5, 1, 4,
 0, 3, 2, 18, 17, 14, 16, 13, 15]⟩⟩, ⟨21, ⟨some 93, .pick (.t 82) (.t 92) (.c (.bool false)), some (79, false), [10, 20, 7, 9, 8, 6, 5, 1, 4, 0, 3, 2, 12, 19, 11, 18, 17, 14, 16, 13, 15]⟩⟩, h9 22 94 (.pick (.t 79) (.c (.bool true)) (.t
 93)) [7,21,6,5,1,4,0,3,2,10,20,9,8,12,19,11,18,17,14,16,13,15], h9 23 95 (.mv (.t 94)) [22,10,7,21,6,5,1,4,0,3,2,20,9,8,12,19,11,18,17,14,16,13,15], ⟨25, ⟨some 97, .load true 7 (.t 6), some (95, false), [23, 22, 10, 7, 21, 6, 5, 1, 4, 0,
 3, 2, 20, 9, 8, 12, 19, 11, 18, 17, 14, 16, 13, 15]⟩⟩, ⟨24, ⟨some 96, .load true 3 (.t 1), some (95, false), [23, 22, 10, 7, 21, 6, 5, 1, 4, 0, 3, 2, 20, 9, 8, 12, 19, 11, 18, 17, 14, 16, 13, 15]⟩⟩, ⟨26, ⟨some 98, .call 45 [.t 96, .t 97],
 some (95, false), [24, 25, 23, 22, 10, 7, 21, 6, 5, 1, 4, 0, 3, 2, 20, 9, 8, 12, 19, 11, 18, 17, 14, 16, 13, 15]⟩⟩, ⟨27, ⟨some 99, .un .not (.t 98), some (95, false), [26, 23, 24, 25, 22, 10, 7, 21, 6, 5, 1, 4, 0, 3, 2, 20, 9, 8, 12, 19,
 11, 18, 17, 14, 16, 13, 15]⟩⟩, h9 28 100 (.pick (.t 95) (.c (.bool true)) (.t 99)) [23,27,22,10,7,21,6,5,1,4,0,3,2,20,9,8,12,19,11,18,17,14,16,13,15,26,24,25]]) <| .cond (.t 100) (.seq (.region [o9 2 (.mv (.c (.int .i64 50)))] none) <|
 .ret) <| .skip) <| .region [o9 101 (.bin .add (.t 67) (.c (.int .i64 1))), m9 67 101] none) <| .seq (.region [o9 2 (.mv (.c (.int .i64 0)))] none) <| .ret
abbrev n_ref26_Check : Nat := 27
theorem b_ref26_Check : bodyOf prog 27 [1000000] = some (c_ref26_Check, [.t 2], 102) := by kernel_rfl
def c_ref26_Code : ACode := .seq (.region [o9 5 (.box 7 43 (.t 2)), o9 6 (.mv (.c (.int .i64 0)))] none) <| .seq (.region [o9 7 (.mv (.c (.int .i64 7)))] none) <| .seq (.seq (.region [m9 10 0, m9 11 1, o9 12 (.fa 0 (.t 5)), o9 13 (.load
 false 1 (.t 12)), o9 14 (.fa 1 (.t 5)), o9 15 (.load false 1 (.t 14)), o9 16 (.fa 2 (.t 5)), o9 17 (.load false 1 (.t 16)), o9 18 (.fa 3 (.t 5)), o9 19 (.load false 1 (.t 18)), o9 20 (.fa 4 (.t 5)), o9 21 (.load false 1 (.t 20)), o9 22
 (.lit false 1 3 [.t 10, .t 11, .t 13, .t 15, .t 17, .t 19, .t 21]), o9 23 (.len (.t 22)), o9 24 (.mv (.c (.int .i64 0)))] none) <| .block 0 <| .loop <| .seq (.region [o9 25 (.bin .lss (.t 24) (.t 23))] none) <| .seq (.cond (.t 25) (.skip)
 <| .exit 0) <| .seq (.block 1 <| .seq (.region [o9 26 (.ixs 1 (.t 22) (.t 24)), o9 27 (.load false 1 (.t 26)), m9 9 27] none) <| .region [m9 28 7, o9 29 (.bin .mul (.c (.int .i64 31)) (.t 28)), m9 30 9, o9 31 (.bin .rem (.t 30) (.c (.int
 .i64 2147483647))), o9 32 (.bin .add (.t 31) (.c (.int .i64 2147483647))), o9 33 (.bin .rem (.t 32) (.c (.int .i64 2147483647))), o9 34 (.bin .add (.t 29) (.t 33)), o9 35 (.bin .rem (.t 34) (.c (.int .i64 2147483647))), m9 7 35] none) <|
 .region [o9 36 (.bin .add (.t 24) (.c (.int .i64 1))), m9 24 36] none) <| .seq (.region [m9 37 7, m9 6 37] none) <| .ret
abbrev n_ref26_Code : Nat := 33
theorem b_ref26_Code : bodyOf prog 33 [1000000] = some (c_ref26_Code, [.t 6], 38) := by kernel_rfl
def c_deviation_valid : ACode := .seq (.region [o9 1 (.box 3 31 (.t 0)), o9 2 (.mv (.c (.bool false)))] none) <| .seq (.seq (.region [o9 6 (.fa 0 (.t 1)), o9 7 (.load false 1 (.t 6)), o9 8 (.call 51 [.t 7]), o9 9 (.un .not (.t 8)), m9 10
 9, ⟨some 11, .fa 1 (.t 1), some (10, false), []⟩, ⟨some 12, .load false 1 (.t 11), some (10, false), []⟩, ⟨some 13, .bin .lss (.t 12) (.c (.int .i64 1)), some (10, false), []⟩, o9 14 (.pick (.t 10) (.c (.bool true)) (.t 13)), m9 15 14,
 ⟨some 16, .fa 1 (.t 1), some (15, false), []⟩, ⟨some 17, .load false 1 (.t 16), some (15, false), []⟩, ⟨some 18, .bin .gtr (.t 17) (.c (.int .i64 1073741824)), some (15, false), []⟩, o9 19 (.pick (.t 15) (.c (.bool true)) (.t 18)), m9 20
 19, ⟨some 21, .fa 2 (.t 1), some (20, false), []⟩, ⟨some 22, .load false 1 (.t 21), some (20, false), []⟩, ⟨some 23, .len (.t 22), some (20, false), []⟩, ⟨some 24, .bin .gtr (.t 23) (.c (.int .i64 64)), some (20, false), []⟩, o9 25 (.pick
 (.t 20) (.c (.bool true)) (.t 24))] none) <| .cond (.t 25) (.seq (.region [o9 2 (.mv (.c (.bool false)))] none) <| .ret) <| .skip) <| .seq (.region [o9 3 (.mv (.c (.int .i64 0)))] none) <| .seq (.seq (.region [o9 26 (.fa 2 (.t 1)), o9 27
 (.load false 1 (.t 26)), o9 28 (.len (.t 27)), o9 29 (.mv (.c (.int .i64 0)))] none) <| .block 0 <| .loop <| .seq (.region [o9 30 (.bin .lss (.t 29) (.t 28))] none) <| .seq (.cond (.t 30) (.skip) <| .exit 0) <| .seq (.block 1 <| .seq
 (.region [o9 31 (.ixs 7 (.t 27) (.t 29)), o9 32 (.load true 7 (.t 31)), o9 5 (.alloc 7 43 (.agg [.int .i64 0, .int .i64 0, .int .i64 0, .int .i64 0, .int .i64 0, .nil, .bool false])), ⟨none, .store 7 (.t 5) (.t 32), none, []⟩] none) <|
 .seq (.seq (.region [o9 33 (.fa 0 (.t 5)), o9 34 (.load false 1 (.t 33)), m9 35 3, o9 36 (.bin .leq (.t 34) (.t 35)), m9 37 36, ⟨some 38, .fa 0 (.t 5), some (37, false), []⟩, ⟨some 39, .load false 1 (.t 38), some (37, false), []⟩, ⟨some
 40, .fa 1 (.t 1), some (37, false), []⟩, ⟨some 41, .load false 1 (.t 40), some (37, false), []⟩, ⟨some 42, .bin .geq (.t 39) (.t 41), some (37, false), []⟩, o9 43 (.pick (.t 37) (.c (.bool true)) (.t 42)), m9 44 43, ⟨some 45, .load true 7
 (.t 5), some (44, false), []⟩, ⟨some 46, .call 52 [.t 45], some (44, false), []⟩, ⟨some 47, .un .not (.t 46), some (44, false), []⟩, o9 48 (.pick (.t 44) (.c (.bool true)) (.t 47)), m9 49 48, ⟨some 50, .fa 0 (.t 1), some (49, false), []⟩,
 ⟨some 51, .load false 1 (.t 50), some (49, false), []⟩, ⟨some 52, .fa 5 (.t 5), some (49, false), []⟩, ⟨some 53, .load false 1 (.t 52), some (49, false), []⟩, ⟨some 54, .call 53 [.t 51, .t 53], some (49, false), []⟩, ⟨some 55, .un .not
 (.t 54), some (49, false), []⟩, o9 56 (.pick (.t 49) (.c (.bool true)) (.t 55))] none) <| .cond (.t 56) (.seq (.region [o9 2 (.mv (.c (.bool false)))] none) <| .ret) <| .skip) <| .region [o9 57 (.fa 0 (.t 5)), o9 58 (.load false 1 (.t
 57)), m9 3 58] none) <| .region [o9 59 (.bin .add (.t 29) (.c (.int .i64 1))), m9 29 59] none) <| .seq (.region [o9 2 (.mv (.c (.bool true)))] none) <| .ret
abbrev n_deviation_valid : Nat := 34
theorem b_deviation_valid : bodyOf prog 34 [1000000] = some (c_deviation_valid, [.t 2], 60) := by kernel_rfl
def c_deviation_twin : ACode := .seq (.region [o9 1 (.box 3 31 (.t 0)), o9 2 (.alloc 3 31 (.agg [.nil, .int .i64 0, .nil]))] none) <| .seq (.hregion [⟨3, o9 9 (.fa 1 (.t 1))⟩, h9 4 10 (.load false 1 (.t 9)) [3], ⟨0, o9 6 (.fa 0 (.t 1))⟩,
 h9 1 7 (.load false 1 (.t 6)) [0], h9 2 8 (.call 54 [.t 7]) [1,0], h9 5 11 (.build [.nil, .int .i64 0, .nil] [(0, 1, .t 8), (1, 1, .t 10)]) [2,4,1,0,3], ⟨6, o9 3 (.alloc 3 31 (.agg [.nil, .int .i64 0, .nil]))⟩, ⟨7, ⟨none, .store 3 (.t 3)
 (.t 11), none, [6, 5, 2, 0, 1, 3, 4]⟩⟩]) <| .seq (.seq (.region [o9 12 (.fa 2 (.t 1)), o9 13 (.load false 1 (.t 12)), o9 14 (.len (.t 13)), o9 15 (.mv (.c (.int .i64 0)))] none) <| .block 0 <| .loop <| .seq (.region [o9 16 (.bin .lss (.t
 15) (.t 14))] none) <| .seq (.cond (.t 16) (.skip) <| .exit 0) <| .seq (.block 1 <| .seq (.region [o9 17 (.ixs 7 (.t 13) (.t 15)), o9 18 (.load true 7 (.t 17)), o9 5 (.alloc 7 43 (.agg [.int .i64 0, .int .i64 0, .int .i64 0, .int .i64 0,
 .int .i64 0, .nil, .bool false])), ⟨none, .store 7 (.t 5) (.t 18), none, []⟩] none) <| .hregion [⟨2, o9 21 (.load true 7 (.t 5))⟩, ⟨0, o9 19 (.fa 2 (.t 3))⟩, h9 1 20 (.load false 1 (.t 19)) [0], h9 3 22 (.call 40 [.t 21]) [2], h9 4 23
 (.lit true 7 43 [.t 22]) [3,2], h9 5 24 (.app 7 72 43 (.t 20) (.t 23)) [1,4,3,0,2], h9 6 25 (.fa 2 (.t 3)) [0,1,2,3,4,5], ⟨7, ⟨none, .store 1 (.t 25) (.t 24), none, [6, 5, 0, 1, 2, 3, 4]⟩⟩]) <| .region [o9 26 (.bin .add (.t 15) (.c (.int
 .i64 1))), m9 15 26] none) <| .seq (.region [o9 27 (.load true 3 (.t 3)), ⟨none, .store 3 (.t 2) (.t 27), none, []⟩] none) <| .ret
abbrev n_deviation_twin : Nat := 35
theorem b_deviation_twin : bodyOf prog 35 [23, 1000000] = some (c_deviation_twin, [.c 2 true 3], 28) := by kernel_rfl
def c_deviation_open : ACode := .seq (.region [o9 6 (.box 3 31 (.t 0)), o9 7 (.box 1 3 (.t 1)), o9 12 (.mv (.c (.int .i64 0))), o9 13 (.alloc 3 62 (.agg [.int .i64 0, .int .i64 0, .int .i64 0])), o9 14 (.mv (.c (.int .i64 0)))] none) <|
 .seq (.seq (.region [o9 19 (.load true 3 (.t 6)), o9 20 (.call 34 [.t 19]), o9 21 (.un .not (.t 20))] none) <| .cond (.t 21) (.seq (.region [o9 22 (.build [.int .i64 0, .int .i64 0, .int .i64 0] []), o9 12 (.mv (.c (.int .i64 0))), ⟨none,
 .store 3 (.t 13) (.t 22), none, []⟩, o9 14 (.mv (.c (.int .i64 50)))] none) <| .ret) <| .skip) <| .seq (.region [o9 23 (.fa 2 (.t 6)), o9 24 (.load false 1 (.t 23)), o9 25 (.mkf 56 [.t 7]), o9 26 (.call 55 [.t 24, .t 25]), m9 15 26] none)
 <| .seq (.seq (.region [m9 27 15, o9 28 (.bin .lss (.t 27) (.c (.int .i64 0)))] none) <| .cond (.t 28) (.seq (.region [o9 29 (.build [.int .i64 0, .int .i64 0, .int .i64 0] []), o9 12 (.mv (.c (.int .i64 0))), ⟨none, .store 3 (.t 13) (.t
 29), none, []⟩, o9 14 (.mv (.c (.int .i64 9)))] none) <| .ret) <| .skip) <| .seq (.region [o9 30 (.fa 2 (.t 6)), o9 31 (.load false 1 (.t 30)), m9 32 15, o9 33 (.ixs 7 (.t 31) (.t 32)), o9 34 (.load true 7 (.t 33)), o9 16 (.alloc 7 43
 (.agg [.int .i64 0, .int .i64 0, .int .i64 0, .int .i64 0, .int .i64 0, .nil, .bool false])), ⟨none, .store 7 (.t 16) (.t 34), none, []⟩] none) <| .seq (.seq (.region [o9 35 (.fa 6 (.t 16)), o9 36 (.load false 1 (.t 35)), m9 37 36, ⟨some
 38, .mv (.t 5), some (37, false), []⟩, ⟨some 39, .fa 3 (.t 16), some (37, false), []⟩, ⟨some 40, .load false 1 (.t 39), some (37, false), []⟩, ⟨some 41, .bin .gtr (.t 38) (.t 40), some (37, false), []⟩, o9 42 (.pick (.t 37) (.c (.bool
 true)) (.t 41))] none) <| .cond (.t 42) (.seq (.region [o9 43 (.build [.int .i64 0, .int .i64 0, .int .i64 0] []), o9 12 (.mv (.c (.int .i64 0))), ⟨none, .store 3 (.t 13) (.t 43), none, []⟩, o9 14 (.mv (.c (.int .i64 44)))] none) <| .ret)
 <| .skip) <| .seq (.region [o9 45 (.fa 0 (.t 6)), o9 46 (.load false 1 (.t 45)), m9 47 2, o9 48 (.call 38 [.t 46, .t 47]), m9 44 48, o9 49 (.ext (.t 44) 0), o9 50 (.ext (.t 44) 1), o9 17 (.alloc 3 62 (.agg [.int .i64 0, .int .i64 0, .int
 .i64 0])), ⟨none, .store 3 (.t 17) (.t 49), none, []⟩, m9 18 50] none) <| .seq (.seq (.region [m9 51 18, o9 52 (.un .not (.t 51))] none) <| .cond (.t 52) (.seq (.region [o9 53 (.build [.int .i64 0, .int .i64 0, .int .i64 0] []), o9 12
 (.mv (.c (.int .i64 0))), ⟨none, .store 3 (.t 13) (.t 53), none, []⟩, o9 14 (.mv (.c (.int .i64 11)))] none) <| .ret) <| .skip) <| .seq (.seq (.region [m9 54 3, o9 55 (.fa 2 (.t 17)), o9 56 (.load false 1 (.t 55)), m9 57 4, o9 58 (.load
 true 7 (.t 16)), o9 59 (.call 18 [.t 56, .t 57, .t 58]), o9 60 (.bin .neq (.t 54) (.t 59))] none) <| .cond (.t 60) (.seq (.region [o9 61 (.build [.int .i64 0, .int .i64 0, .int .i64 0] []), o9 12 (.mv (.c (.int .i64 0))), ⟨none, .store 3
 (.t 13) (.t 61), none, []⟩, o9 14 (.mv (.c (.int .i64 43)))] none) <| .ret) <| .skip) <| .seq (.hregion [⟨1, o9 63 (.load true 3 (.t 17))⟩, ⟨0, m9 62 15⟩, h9 2 12 (.mv (.t 62)) [0], ⟨3, ⟨none, .store 3 (.t 13) (.t 63), none, [1, 2, 0]⟩⟩,
 h9 4 14 (.mv (.c (.int .i64 0))) [3,0,1,2]]) <| .ret
abbrev n_deviation_open : Nat := 36
theorem b_deviation_open : bodyOf prog 36 [1000000] = some (c_deviation_open, [.t 12, .c 13 true 3, .t 14], 64) := by kernel_rfl
def c_slices_Contains__int : ACode := .seq (.region [o9 4 (.mv (.c (.bool false)))] none) <| .seq (.region [m9 5 0, m9 6 1, o9 7 (.call 57 [.t 5, .t 6]), o9 8 (.bin .geq (.t 7) (.c (.int .i64 0))), m9 4 8] none) <| .ret
abbrev n_slices_Contains__int : Nat := 37
theorem b_slices_Contains__int : bodyOf prog 37 [1000000] = some (c_slices_Contains__int, [.t 4], 9) := by kernel_rfl
def c_deviation_find : ACode := .seq (.region [o9 4 (.alloc 3 62 (.agg [.int .i64 0, .int .i64 0, .int .i64 0])), o9 5 (.mv (.c (.bool false)))] none) <| .seq (.region [m9 8 0, m9 9 1, o9 10 (.build [.nil, .int .i64 0] [(0, 1, .t 8), (1,
 1, .t 9)]), o9 6 (.alloc 2 90 (.agg [.nil, .int .i64 0])), ⟨none, .store 2 (.t 6) (.t 10), none, []⟩] none) <| .seq (.region [m9 11 0, o9 12 (.len (.t 11)), o9 13 (.load true 2 (.t 6)), o9 14 (.mkm 59 [.t 13]), o9 15 (.call 58 [.t 12, .t
 14]), m9 7 15] none) <| .seq (.seq (.region [m9 16 7, m9 17 0, o9 18 (.len (.t 17)), o9 19 (.bin .eql (.t 16) (.t 18)), m9 20 19, ⟨some 21, .mv (.t 0), some (20, false), []⟩, ⟨some 22, .mv (.t 7), some (20, false), []⟩, ⟨some 23, .ixs 3
 (.t 21) (.t 22), some (20, false), []⟩, ⟨some 24, .fa 0 (.t 23), some (20, false), []⟩, ⟨some 25, .load false 1 (.t 24), some (20, false), []⟩, ⟨some 26, .mv (.t 1), some (20, false), []⟩, ⟨some 27, .bin .neq (.t 25) (.t 26), some (20,
 false), []⟩, o9 28 (.pick (.t 20) (.c (.bool true)) (.t 27))] none) <| .cond (.t 28) (.seq (.region [o9 29 (.build [.int .i64 0, .int .i64 0, .int .i64 0] []), ⟨none, .store 3 (.t 4) (.t 29), none, []⟩, o9 5 (.mv (.c (.bool false)))]
 none) <| .ret) <| .skip) <| .seq (.region [m9 30 0, m9 31 7, o9 32 (.ixs 3 (.t 30) (.t 31)), o9 33 (.load true 3 (.t 32)), ⟨none, .store 3 (.t 4) (.t 33), none, []⟩, o9 5 (.mv (.c (.bool true)))] none) <| .ret
abbrev n_deviation_find : Nat := 38
theorem b_deviation_find : bodyOf prog 38 [1000000] = some (c_deviation_find, [.c 4 true 3, .t 5], 34) := by kernel_rfl
def c_slices_Backward__Deviation : ACode := .seq (.region [o9 1 (.box 1 29 (.t 0)), o9 2 (.mv (.c (.nilfunc)))] none) <| .seq (.region [o9 3 (.mkf 60 [.t 1]), m9 2 3] none) <| .ret
abbrev n_slices_Backward__Deviation : Nat := 39
theorem b_slices_Backward__Deviation : bodyOf prog 39 [1000000] = some (c_slices_Backward__Deviation, [.t 2], 4) := by kernel_rfl
def c_deviation_copied : ACode := .seq (.region [o9 1 (.box 7 43 (.t 0)), o9 2 (.alloc 7 43 (.agg [.int .i64 0, .int .i64 0, .int .i64 0, .int .i64 0, .int .i64 0, .nil, .bool false]))] none) <| .seq (.region [o9 3 (.fa 5 (.t 1)), o9 4
 (.load false 1 (.t 3)), o9 5 (.call 61 [.t 4]), o9 6 (.fa 5 (.t 1)), ⟨none, .store 1 (.t 6) (.t 5), none, []⟩] none) <| .seq (.region [o9 7 (.load true 7 (.t 1)), ⟨none, .store 7 (.t 2) (.t 7), none, []⟩] none) <| .ret
abbrev n_deviation_copied : Nat := 40
theorem b_deviation_copied : bodyOf prog 40 [1000000] = some (c_deviation_copied, [.c 2 true 7], 8) := by kernel_rfl
def c_ref26_in : ACode := .seq (.region [o9 6 (.mv (.c (.bool false)))] none) <| .seq (.region [m9 7 0, m9 8 1, o9 9 (.bin .geq (.t 7) (.t 8)), m9 10 9, ⟨some 11, .mv (.t 0), some (10, true), []⟩, ⟨some 12, .mv (.t 2), some (10, true),
 []⟩, ⟨some 13, .bin .leq (.t 11) (.t 12), some (10, true), []⟩, o9 14 (.pick (.t 10) (.t 13) (.c (.bool false))), m9 6 14] none) <| .ret
abbrev n_ref26_in : Nat := 41
theorem b_ref26_in : bodyOf prog 41 [1000000] = some (c_ref26_in, [.t 6], 15) := by kernel_rfl
def c_ref26_Copy : ACode := .seq (.region [o9 1 (.box 3 31 (.t 0)), o9 2 (.alloc 3 31 (.agg [.nil, .int .i64 0, .nil]))] none) <| .seq (.region [o9 6 (.fa 0 (.t 1)), o9 7 (.load false 1 (.t 6)), o9 8 (.app 3 24 62 (.c (.nil)) (.t 7)), o9 9
 (.fa 0 (.t 1)), ⟨none, .store 1 (.t 9) (.t 8), none, []⟩] none) <| .seq (.region [o9 3 (.mv (.c (.nil)))] none) <| .seq (.seq (.region [o9 10 (.fa 2 (.t 1)), o9 11 (.load false 1 (.t 10)), o9 12 (.len (.t 11)), o9 13 (.mv (.c (.int .i64
 0)))] none) <| .block 0 <| .loop <| .seq (.region [o9 14 (.bin .lss (.t 13) (.t 12))] none) <| .seq (.cond (.t 14) (.skip) <| .exit 0) <| .seq (.block 1 <| .seq (.region [o9 15 (.ixs 7 (.t 11) (.t 13)), o9 16 (.load true 7 (.t 15)), o9 5
 (.alloc 7 43 (.agg [.int .i64 0, .int .i64 0, .int .i64 0, .int .i64 0, .int .i64 0, .nil, .bool false])), ⟨none, .store 7 (.t 5) (.t 16), none, []⟩] none) <| .seq (.region [o9 17 (.fa 5 (.t 5)), o9 18 (.load false 1 (.t 17)), o9 19 (.app
 1 8 3 (.c (.nil)) (.t 18)), o9 20 (.fa 5 (.t 5)), ⟨none, .store 1 (.t 20) (.t 19), none, []⟩] none) <| .region [m9 21 3, o9 22 (.load true 7 (.t 5)), o9 23 (.lit true 7 43 [.t 22]), o9 24 (.app 7 72 43 (.t 21) (.t 23)), m9 3 24] none) <|
 .region [o9 25 (.bin .add (.t 13) (.c (.int .i64 1))), m9 13 25] none) <| .seq (.region [m9 26 3, o9 27 (.fa 2 (.t 1)), ⟨none, .store 1 (.t 27) (.t 26), none, []⟩] none) <| .seq (.region [o9 28 (.load true 3 (.t 1)), ⟨none, .store 3 (.t
 2) (.t 28), none, []⟩] none) <| .ret
abbrev n_ref26_Copy : Nat := 42
theorem b_ref26_Copy : bodyOf prog 42 [23, 1000000] = some (c_ref26_Copy, [.c 2 true 3], 29) := by kernel_rfl
def c_ref26_ask : ACode := .seq (.region [o9 6 (.box 3 31 (.t 0)), o9 12 (.mv (.c (.int .i64 0))), o9 13 (.alloc 3 62 (.agg [.int .i64 0, .int .i64 0, .int .i64 0])), o9 14 (.mv (.c (.int .i64 0)))] none) <| .seq (.seq (.region [o9 19
 (.load true 3 (.t 6)), o9 20 (.call 27 [.t 19]), o9 21 (.bin .neq (.t 20) (.c (.int .i64 0)))] none) <| .cond (.t 21) (.seq (.region [o9 22 (.build [.int .i64 0, .int .i64 0, .int .i64 0] []), o9 12 (.mv (.c (.int .i64 0))), ⟨none, .store
 3 (.t 13) (.t 22), none, []⟩, o9 14 (.mv (.c (.int .i64 50)))] none) <| .ret) <| .skip) <| .seq (.seq (.region [o9 23 (.fa 2 (.t 6)), o9 24 (.load false 1 (.t 23)), o9 25 (.len (.t 24)), o9 26 (.mv (.c (.int .i64 0)))] none) <| .block 0
 <| .loop <| .seq (.region [o9 27 (.bin .lss (.t 26) (.t 25))] none) <| .seq (.cond (.t 27) (.skip) <| .exit 0) <| .seq (.block 1 <| .seq (.region [m9 28 26, o9 29 (.ixs 7 (.t 24) (.t 26)), o9 30 (.load true 7 (.t 29)), o9 16 (.alloc 7 43
 (.agg [.int .i64 0, .int .i64 0, .int .i64 0, .int .i64 0, .int .i64 0, .nil, .bool false])), m9 15 28, ⟨none, .store 7 (.t 16) (.t 30), none, []⟩] none) <| .seq (.seq (.region [o9 31 (.fa 0 (.t 16)), o9 32 (.load false 1 (.t 31)), m9 33
 1, o9 34 (.bin .neq (.t 32) (.t 33))] none) <| .cond (.t 34) (.exit 1) <| .skip) <| .seq (.seq (.region [o9 35 (.fa 6 (.t 16)), o9 36 (.load false 1 (.t 35)), m9 37 36, ⟨some 38, .mv (.t 4), some (37, false), []⟩, ⟨some 39, .fa 3 (.t 16),
 some (37, false), []⟩, ⟨some 40, .load false 1 (.t 39), some (37, false), []⟩, ⟨some 41, .bin .gtr (.t 38) (.t 40), some (37, false), []⟩, o9 42 (.pick (.t 37) (.c (.bool true)) (.t 41))] none) <| .cond (.t 42) (.seq (.region [o9 43
 (.build [.int .i64 0, .int .i64 0, .int .i64 0] []), o9 12 (.mv (.c (.int .i64 0))), ⟨none, .store 3 (.t 13) (.t 43), none, []⟩, o9 14 (.mv (.c (.int .i64 44)))] none) <| .ret) <| .skip) <| .seq (.region [o9 45 (.load true 3 (.t 6)), m9
 46 2, o9 47 (.call 44 [.t 45, .t 46]), m9 44 47, o9 48 (.ext (.t 44) 0), o9 49 (.ext (.t 44) 1), o9 17 (.alloc 3 62 (.agg [.int .i64 0, .int .i64 0, .int .i64 0])), ⟨none, .store 3 (.t 17) (.t 48), none, []⟩, m9 18 49] none) <| .seq (.seq
 (.region [m9 50 18, o9 51 (.un .not (.t 50))] none) <| .cond (.t 51) (.seq (.region [o9 52 (.build [.int .i64 0, .int .i64 0, .int .i64 0] []), o9 12 (.mv (.c (.int .i64 0))), ⟨none, .store 3 (.t 13) (.t 52), none, []⟩, o9 14 (.mv (.c
 (.int .i64 11)))] none) <| .ret) <| .skip) <| .seq (.seq (.region [m9 53 3, o9 54 (.fa 2 (.t 17)), o9 55 (.load false 1 (.t 54)), m9 56 5, o9 57 (.load true 7 (.t 16)), o9 58 (.call 33 [.t 55, .t 56, .t 57]), o9 59 (.bin .neq (.t 53) (.t
 58))] none) <| .cond (.t 59) (.seq (.region [o9 60 (.build [.int .i64 0, .int .i64 0, .int .i64 0] []), o9 12 (.mv (.c (.int .i64 0))), ⟨none, .store 3 (.t 13) (.t 60), none, []⟩, o9 14 (.mv (.c (.int .i64 43)))] none) <| .ret) <| .skip)
 <| .seq (.hregion [⟨1, o9 62 (.load true 3 (.t 17))⟩, ⟨0, m9 61 15⟩, h9 2 12 (.mv (.t 61)) [0], ⟨3, ⟨none, .store 3 (.t 13) (.t 62), none, [1, 2, 0]⟩⟩, h9 4 14 (.mv (.c (.int .i64 0))) [3,0,1,2]]) <| .ret) <| .region [o9 63 (.bin .add (.t
 26) (.c (.int .i64 1))), m9 26 63] none) <| .seq (.region [o9 64 (.build [.int .i64 0, .int .i64 0, .int .i64 0] []), o9 12 (.mv (.c (.int .i64 0))), ⟨none, .store 3 (.t 13) (.t 64), none, []⟩, o9 14 (.mv (.c (.int .i64 9)))] none) <| .ret
abbrev n_ref26_ask : Nat := 43
theorem b_ref26_ask : bodyOf prog 43 [1000000] = some (c_ref26_ask, [.t 12, .c 13 true 3, .t 14], 65) := by kernel_rfl
def c_ref26_person : ACode := .seq (.region [o9 2 (.box 3 31 (.t 0)), o9 4 (.alloc 3 62 (.agg [.int .i64 0, .int .i64 0, .int .i64 0])), o9 5 (.mv (.c (.bool false)))] none) <| .seq (.seq (.region [o9 8 (.fa 0 (.t 2)), o9 9 (.load false 1
 (.t 8)), o9 10 (.len (.t 9)), o9 11 (.mv (.c (.int .i64 0)))] none) <| .block 0 <| .loop <| .seq (.region [o9 12 (.bin .lss (.t 11) (.t 10))] none) <| .seq (.cond (.t 12) (.skip) <| .exit 0) <| .seq (.block 1 <| .seq (.region [o9 13 (.ixs
 3 (.t 9) (.t 11)), o9 14 (.load true 3 (.t 13)), o9 7 (.alloc 3 62 (.agg [.int .i64 0, .int .i64 0, .int .i64 0])), ⟨none, .store 3 (.t 7) (.t 14), none, []⟩] none) <| .seq (.region [o9 15 (.fa 0 (.t 7)), o9 16 (.load false 1 (.t 15)), m9
 17 1, o9 18 (.bin .eql (.t 16) (.t 17))] none) <| .cond (.t 18) (.seq (.region [o9 19 (.load true 3 (.t 7)), ⟨none, .store 3 (.t 4) (.t 19), none, []⟩, o9 5 (.mv (.c (.bool true)))] none) <| .ret) <| .skip) <| .region [o9 20 (.bin .add
 (.t 11) (.c (.int .i64 1))), m9 11 20] none) <| .seq (.region [o9 21 (.build [.int .i64 0, .int .i64 0, .int .i64 0] []), ⟨none, .store 3 (.t 4) (.t 21), none, []⟩, o9 5 (.mv (.c (.bool false)))] none) <| .ret
abbrev n_ref26_person : Nat := 44
theorem b_ref26_person : bodyOf prog 44 [1000000] = some (c_ref26_person, [.c 4 true 3, .t 5], 22) := by kernel_rfl
def c_ref26_right : ACode := .seq (.region [o9 2 (.box 3 31 (.t 0)), o9 3 (.box 7 43 (.t 1)), o9 4 (.mv (.c (.bool false)))] none) <| .seq (.seq (.region [o9 10 (.fa 1 (.t 3)), o9 11 (.load false 1 (.t 10)), o9 12 (.call 41 [.t 11, .c
 (.int .i64 0), .c (.int .i64 5)]), o9 13 (.un .not (.t 12)), m9 14 13, ⟨some 15, .fa 2 (.t 3), some (14, false), []⟩, ⟨some 16, .load false 1 (.t 15), some (14, false), []⟩, ⟨some 17, .bin .lss (.t 16) (.c (.int .i64 0)), some (14,
 false), []⟩, o9 18 (.pick (.t 14) (.c (.bool true)) (.t 17)), m9 19 18, ⟨some 20, .fa 2 (.t 3), some (19, false), []⟩, ⟨some 21, .load false 1 (.t 20), some (19, false), []⟩, ⟨some 22, .fa 3 (.t 3), some (19, false), []⟩, ⟨some 23, .load
 false 1 (.t 22), some (19, false), []⟩, ⟨some 24, .bin .gtr (.t 21) (.t 23), some (19, false), []⟩, o9 25 (.pick (.t 19) (.c (.bool true)) (.t 24)), m9 26 25, ⟨some 27, .fa 3 (.t 3), some (26, false), []⟩, ⟨some 28, .load false 1 (.t 27),
 some (26, false), []⟩, ⟨some 29, .bin .gtr (.t 28) (.c (.int .i64 16777216)), some (26, false), []⟩, o9 30 (.pick (.t 26) (.c (.bool true)) (.t 29)), m9 31 30, ⟨some 32, .fa 4 (.t 3), some (31, false), []⟩, ⟨some 33, .load false 1 (.t
 32), some (31, false), []⟩, ⟨some 34, .call 41 [.t 33, .c (.int .i64 0), .c (.int .i64 1073741824)], some (31, false), []⟩, ⟨some 35, .un .not (.t 34), some (31, false), []⟩, o9 36 (.pick (.t 31) (.c (.bool true)) (.t 35)), m9 37 36,
 ⟨some 38, .fa 5 (.t 3), some (37, false), []⟩, ⟨some 39, .load false 1 (.t 38), some (37, false), []⟩, ⟨some 40, .len (.t 39), some (37, false), []⟩, ⟨some 41, .bin .gtr (.t 40) (.c (.int .i64 2)), some (37, false), []⟩, o9 42 (.pick (.t
 37) (.c (.bool true)) (.t 41))] none) <| .cond (.t 42) (.seq (.region [o9 4 (.mv (.c (.bool false)))] none) <| .ret) <| .skip) <| .seq (.region [o9 5 (.mv (.c (.nil)))] none) <| .seq (.seq (.region [o9 43 (.fa 5 (.t 3)), o9 44 (.load
 false 1 (.t 43)), o9 45 (.len (.t 44)), o9 46 (.mv (.c (.int .i64 0)))] none) <| .block 0 <| .loop <| .seq (.region [o9 47 (.bin .lss (.t 46) (.t 45))] none) <| .seq (.cond (.t 47) (.skip) <| .exit 0) <| .seq (.block 1 <| .seq (.region
 [o9 48 (.ixs 1 (.t 44) (.t 46)), o9 49 (.load false 1 (.t 48)), m9 7 49] none) <| .seq (.region [o9 51 (.load true 3 (.t 2)), m9 52 7, o9 53 (.call 44 [.t 51, .t 52]), m9 50 53, o9 54 (.ext (.t 50) 0), o9 55 (.ext (.t 50) 1), o9 8 (.alloc
 3 62 (.agg [.int .i64 0, .int .i64 0, .int .i64 0])), ⟨none, .store 3 (.t 8) (.t 54), none, []⟩, m9 9 55] none) <| .seq (.seq (.region [m9 56 9, o9 57 (.un .not (.t 56))] none) <| .cond (.t 57) (.seq (.region [o9 4 (.mv (.c (.bool
 false)))] none) <| .ret) <| .skip) <| .region [m9 58 5, o9 59 (.fa 1 (.t 8)), o9 60 (.load false 1 (.t 59)), o9 61 (.lit false 1 3 [.t 60]), o9 62 (.app 1 8 3 (.t 58) (.t 61)), m9 5 62] none) <| .region [o9 63 (.bin .add (.t 46) (.c (.int
 .i64 1))), m9 46 63] none) <| .seq (.hregion [⟨0, m9 64 5⟩, h9 1 65 (.len (.t 64)) [0], h9 2 66 (.bin .lss (.t 65) (.c (.int .i64 2))) [1,0], h9 3 67 (.mv (.t 66)) [2,1,0], ⟨7, ⟨some 71, .mv (.t 5), some (67, false), [3, 2, 1, 0]⟩⟩, ⟨8,
 ⟨some 72, .ixs 1 (.t 71) (.c (.int .i64 1)), some (67, false), [7, 3, 2, 1, 0]⟩⟩, ⟨9, ⟨some 73, .load false 1 (.t 72), some (67, false), [8, 3, 7, 2, 1, 0]⟩⟩, ⟨4, ⟨some 68, .mv (.t 5), some (67, false), [3, 2, 1, 0]⟩⟩, ⟨5, ⟨some 69, .ixs
 1 (.t 68) (.c (.int .i64 0)), some (67, false), [4, 3, 2, 1, 0]⟩⟩, ⟨6, ⟨some 70, .load false 1 (.t 69), some (67, false), [5, 3, 4, 2, 1, 0]⟩⟩, ⟨10, ⟨some 74, .bin .neq (.t 70) (.t 73), some (67, false), [6, 9, 3, 5, 4, 2, 1, 0, 8, 7]⟩⟩,
 h9 11 75 (.pick (.t 67) (.c (.bool true)) (.t 74)) [3,10,2,1,0,6,9,5,4,8,7], h9 12 4 (.mv (.t 75)) [11,3,0,1,2,4,5,6,7,8,9,10]]) <| .ret
abbrev n_ref26_right : Nat := 45
theorem b_ref26_right : bodyOf prog 45 [1000000] = some (c_ref26_right, [.t 4], 76) := by kernel_rfl
def c_deviation_proper : ACode := .seq (.region [o9 2 (.mv (.c (.bool false)))] none) <| .seq (.region [o9 3 (.mv (.c (.int .i64 0)))] none) <| .seq (.seq (.region [m9 6 0, o9 7 (.len (.t 6)), o9 8 (.mv (.c (.int .i64 0)))] none) <| .block
 0 <| .loop <| .seq (.region [o9 9 (.bin .lss (.t 8) (.t 7))] none) <| .seq (.cond (.t 9) (.skip) <| .exit 0) <| .seq (.block 1 <| .seq (.region [o9 10 (.ixs 3 (.t 6) (.t 8)), o9 11 (.load true 3 (.t 10)), o9 5 (.alloc 3 62 (.agg [.int
 .i64 0, .int .i64 0, .int .i64 0])), ⟨none, .store 3 (.t 5) (.t 11), none, []⟩] none) <| .seq (.seq (.region [o9 12 (.fa 0 (.t 5)), o9 13 (.load false 1 (.t 12)), m9 14 3, o9 15 (.bin .leq (.t 13) (.t 14)), m9 16 15, ⟨some 17, .fa 0 (.t
 5), some (16, false), []⟩, ⟨some 18, .load false 1 (.t 17), some (16, false), []⟩, ⟨some 19, .bin .gtr (.t 18) (.c (.int .i64 1073741824)), some (16, false), []⟩, o9 20 (.pick (.t 16) (.c (.bool true)) (.t 19)), m9 21 20, ⟨some 22, .fa 1
 (.t 5), some (21, false), []⟩, ⟨some 23, .load false 1 (.t 22), some (21, false), []⟩, ⟨some 24, .bin .lss (.t 23) (.c (.int .i64 1)), some (21, false), []⟩, o9 25 (.pick (.t 21) (.c (.bool true)) (.t 24)), m9 26 25, ⟨some 27, .fa 1 (.t
 5), some (26, false), []⟩, ⟨some 28, .load false 1 (.t 27), some (26, false), []⟩, ⟨some 29, .bin .gtr (.t 28) (.c (.int .i64 9)), some (26, false), []⟩, o9 30 (.pick (.t 26) (.c (.bool true)) (.t 29)), m9 31 30, ⟨some 32, .fa 2 (.t 5),
 some (31, false), []⟩, ⟨some 33, .load false 1 (.t 32), some (31, false), []⟩, ⟨some 34, .bin .lss (.t 33) (.c (.int .i64 1)), some (31, false), []⟩, o9 35 (.pick (.t 31) (.c (.bool true)) (.t 34)), m9 36 35, ⟨some 37, .fa 2 (.t 5), some
 (36, false), []⟩, ⟨some 38, .load false 1 (.t 37), some (36, false), []⟩, ⟨some 39, .bin .gtr (.t 38) (.c (.int .i64 1073741824)), some (36, false), []⟩, o9 40 (.pick (.t 36) (.c (.bool true)) (.t 39))] none) <| .cond (.t 40) (.seq
 (.region [o9 2 (.mv (.c (.bool false)))] none) <| .ret) <| .skip) <| .region [o9 41 (.fa 0 (.t 5)), o9 42 (.load false 1 (.t 41)), m9 3 42] none) <| .region [o9 43 (.bin .add (.t 8) (.c (.int .i64 1))), m9 8 43] none) <| .seq (.region [m9
 44 0, o9 45 (.len (.t 44)), o9 46 (.bin .leq (.t 45) (.c (.int .i64 12))), m9 2 46] none) <| .ret
abbrev n_deviation_proper : Nat := 51
theorem b_deviation_proper : bodyOf prog 51 [1000000] = some (c_deviation_proper, [.t 2], 47) := by kernel_rfl
def c_deviation_planned : ACode := .seq (.region [o9 1 (.box 7 43 (.t 0)), o9 2 (.mv (.c (.bool false)))] none) <| .seq (.region [o9 3 (.fa 1 (.t 1)), o9 4 (.load false 1 (.t 3)), o9 5 (.bin .geq (.t 4) (.c (.int .i64 0))), m9 6 5, ⟨some
 7, .fa 1 (.t 1), some (6, true), []⟩, ⟨some 8, .load false 1 (.t 7), some (6, true), []⟩, ⟨some 9, .bin .lss (.t 8) (.c (.int .i64 6)), some (6, true), []⟩, o9 10 (.pick (.t 6) (.t 9) (.c (.bool false))), m9 11 10, ⟨some 12, .fa 2 (.t 1),
 some (11, true), []⟩, ⟨some 13, .load false 1 (.t 12), some (11, true), []⟩, ⟨some 14, .bin .geq (.t 13) (.c (.int .i64 0)), some (11, true), []⟩, o9 15 (.pick (.t 11) (.t 14) (.c (.bool false))), m9 16 15, ⟨some 17, .fa 2 (.t 1), some
 (16, true), []⟩, ⟨some 18, .load false 1 (.t 17), some (16, true), []⟩, ⟨some 19, .fa 3 (.t 1), some (16, true), []⟩, ⟨some 20, .load false 1 (.t 19), some (16, true), []⟩, ⟨some 21, .bin .leq (.t 18) (.t 20), some (16, true), []⟩, o9 22
 (.pick (.t 16) (.t 21) (.c (.bool false))), m9 23 22, ⟨some 24, .fa 3 (.t 1), some (23, true), []⟩, ⟨some 25, .load false 1 (.t 24), some (23, true), []⟩, ⟨some 26, .bin .leq (.t 25) (.c (.int .i64 16777216)), some (23, true), []⟩, o9 27
 (.pick (.t 23) (.t 26) (.c (.bool false))), m9 28 27, ⟨some 29, .fa 4 (.t 1), some (28, true), []⟩, ⟨some 30, .load false 1 (.t 29), some (28, true), []⟩, ⟨some 31, .bin .geq (.t 30) (.c (.int .i64 0)), some (28, true), []⟩, o9 32 (.pick
 (.t 28) (.t 31) (.c (.bool false))), m9 33 32, ⟨some 34, .fa 4 (.t 1), some (33, true), []⟩, ⟨some 35, .load false 1 (.t 34), some (33, true), []⟩, ⟨some 36, .bin .leq (.t 35) (.c (.int .i64 1073741824)), some (33, true), []⟩, o9 37
 (.pick (.t 33) (.t 36) (.c (.bool false))), m9 2 37] none) <| .ret
abbrev n_deviation_planned : Nat := 52
theorem b_deviation_planned : bodyOf prog 52 [1000000] = some (c_deviation_planned, [.t 2], 38) := by kernel_rfl
def c_deviation_signed : ACode := .seq (.region [o9 4 (.mv (.c (.bool false)))] none) <| .seq (.seq (.region [m9 10 1, o9 11 (.len (.t 10)), o9 12 (.bin .gtr (.t 11) (.c (.int .i64 2)))] none) <| .cond (.t 12) (.seq (.region [o9 4 (.mv (.c
 (.bool false)))] none) <| .ret) <| .skip) <| .seq (.region [o9 13 .mkmap, m9 5 13] none) <| .seq (.seq (.region [m9 14 1, o9 15 (.len (.t 14)), o9 16 (.mv (.c (.int .i64 0)))] none) <| .block 0 <| .loop <| .seq (.region [o9 17 (.bin .lss
 (.t 16) (.t 15))] none) <| .seq (.cond (.t 17) (.skip) <| .exit 0) <| .seq (.block 1 <| .seq (.region [o9 18 (.ixs 1 (.t 14) (.t 16)), o9 19 (.load false 1 (.t 18)), m9 7 19] none) <| .seq (.region [m9 21 0, m9 22 7, o9 23 (.call 38 [.t
 21, .t 22]), m9 20 23, o9 24 (.ext (.t 20) 0), o9 25 (.ext (.t 20) 1), o9 8 (.alloc 3 62 (.agg [.int .i64 0, .int .i64 0, .int .i64 0])), ⟨none, .store 3 (.t 8) (.t 24), none, []⟩, m9 9 25] none) <| .seq (.seq (.region [m9 26 9, o9 27
 (.un .not (.t 26)), m9 28 27, ⟨some 29, .mv (.t 5), some (28, false), []⟩, ⟨some 30, .fa 1 (.t 8), some (28, false), []⟩, ⟨some 31, .load false 1 (.t 30), some (28, false), []⟩, ⟨some 32, .mapget false (.bool false) (.t 29) (.t 31), some
 (28, false), []⟩, o9 33 (.pick (.t 28) (.c (.bool true)) (.t 32))] none) <| .cond (.t 33) (.seq (.region [o9 4 (.mv (.c (.bool false)))] none) <| .ret) <| .skip) <| .region [m9 34 5, o9 35 (.fa 1 (.t 8)), o9 36 (.load false 1 (.t 35)),
 ⟨none, .mapset (.t 34) (.t 36) (.c (.bool true)), none, []⟩] none) <| .region [o9 37 (.bin .add (.t 16) (.c (.int .i64 1))), m9 16 37] none) <| .seq (.region [o9 4 (.mv (.c (.bool true)))] none) <| .ret
abbrev n_deviation_signed : Nat := 53
theorem b_deviation_signed : bodyOf prog 53 [1000000] = some (c_deviation_signed, [.t 4], 38) := by kernel_rfl
def c_slices_Clone__Person : ACode := .seq (.region [o9 2 (.newsl 3 62)] none) <| .seq (.seq (.region [m9 3 0, o9 4 (.isnil false (.t 3))] none) <| .cond (.t 4) (.seq (.region [o9 2 (.newsl 3 62)] none) <| .ret) <| .skip) <| .seq (.region
 [o9 5 (.lit true 3 62 []), m9 6 0, o9 7 (.app 3 24 62 (.t 5) (.t 6)), m9 2 7] none) <| .ret
abbrev n_slices_Clone__Person : Nat := 54
theorem b_slices_Clone__Person : bodyOf prog 54 [2, 5, 1000000] = some (c_slices_Clone__Person, [.t 2], 8) := by kernel_rfl
def c_slices_IndexFunc__Deviation : ACode := .seq (.region [o9 4 (.mv (.c (.int .i64 0)))] none) <| .seq (.seq (.region [m9 6 0, o9 7 (.len (.t 6)), o9 8 (.mv (.c (.int .i64 0)))] none) <| .block 0 <| .loop <| .seq (.region [o9 9 (.bin
 .lss (.t 8) (.t 7))] none) <| .seq (.cond (.t 9) (.skip) <| .exit 0) <| .seq (.block 1 <| .seq (.region [m9 10 8, m9 5 10] none) <| .seq (.region [m9 11 1, m9 12 0, m9 13 5, o9 14 (.ixs 7 (.t 12) (.t 13)), o9 15 (.load true 7 (.t 14)), o9
 16 (.callv (.t 11) [.t 15])] none) <| .cond (.t 16) (.seq (.region [m9 17 5, m9 4 17] none) <| .ret) <| .skip) <| .region [o9 18 (.bin .add (.t 8) (.c (.int .i64 1))), m9 8 18] none) <| .seq (.region [o9 4 (.mv (.c (.int .i64 (-1))))]
 none) <| .ret
abbrev n_slices_IndexFunc__Deviation : Nat := 55
theorem b_slices_IndexFunc__Deviation : bodyOf prog 55 [1000000] = some (c_slices_IndexFunc__Deviation, [.t 4], 19) := by kernel_rfl
def c_deviation_open_1 : ACode := .seq (.region [o9 2 (.box 7 43 (.t 0)), o9 3 (.mv (.c (.bool false)))] none) <| .seq (.region [o9 4 (.fa 0 (.t 2)), o9 5 (.load false 1 (.t 4)), o9 6 (.load false 1 (.t 1)), o9 7 (.bin .eql (.t 5) (.t 6)),
 m9 3 7] none) <| .ret
abbrev n_deviation_open_1 : Nat := 56
theorem b_deviation_open_1 : bodyOf prog 56 [1000000] = some (c_deviation_open_1, [.t 3], 8) := by kernel_rfl
def c_slices_Index__int : ACode := .seq (.region [o9 4 (.mv (.c (.int .i64 0)))] none) <| .seq (.seq (.region [m9 6 0, o9 7 (.len (.t 6)), o9 8 (.mv (.c (.int .i64 0)))] none) <| .block 0 <| .loop <| .seq (.region [o9 9 (.bin .lss (.t 8)
 (.t 7))] none) <| .seq (.cond (.t 9) (.skip) <| .exit 0) <| .seq (.block 1 <| .seq (.region [m9 10 8, m9 5 10] none) <| .seq (.region [m9 11 1, m9 12 0, m9 13 5, o9 14 (.ixs 1 (.t 12) (.t 13)), o9 15 (.load false 1 (.t 14)), o9 16 (.bin
 .eql (.t 11) (.t 15))] none) <| .cond (.t 16) (.seq (.region [m9 17 5, m9 4 17] none) <| .ret) <| .skip) <| .region [o9 18 (.bin .add (.t 8) (.c (.int .i64 1))), m9 8 18] none) <| .seq (.region [o9 4 (.mv (.c (.int .i64 (-1))))] none) <|
 .ret
abbrev n_slices_Index__int : Nat := 57
theorem b_slices_Index__int : bodyOf prog 57 [1000000] = some (c_slices_Index__int, [.t 4], 19) := by kernel_rfl
def c_sort_Search : ACode := .seq (.region [o9 4 (.mv (.c (.int .i64 0)))] none) <| .seq (.region [m9 8 0, o9 5 (.mv (.c (.int .i64 0))), m9 6 8] none) <| .seq (.block 0 <| .loop <| .seq (.seq (.region [m9 9 5, m9 10 6, o9 11 (.bin .lss
 (.t 9) (.t 10))] none) <| .cond (.t 11) (.skip) <| .exit 0) <| .block 1 <| .seq (.region [m9 12 5, m9 13 6, o9 14 (.bin .add (.t 12) (.t 13)), o9 15 (.conv .u64 (.t 14)), o9 16 (.pu (.bit .shr) [.t 15, .c (.int .u64 1)]), o9 17 (.conv
 .i64 (.t 16)), m9 7 17] none) <| .seq (.region [m9 18 1, m9 19 7, o9 20 (.callv (.t 18) [.t 19]), o9 21 (.un .not (.t 20))] none) <| .cond (.t 21) (.region [m9 22 7, o9 23 (.bin .add (.t 22) (.c (.int .i64 1))), m9 5 23] none) <| .region
 [m9 24 7, m9 6 24] none) <| .seq (.region [m9 25 5, m9 4 25] none) <| .ret
abbrev n_sort_Search : Nat := 58
theorem b_sort_Search : bodyOf prog 58 [1000000] = some (c_sort_Search, [.t 4], 26) := by kernel_rfl
def c_deviation_seeker_from : ACode := .seq (.region [o9 2 (.box 2 90 (.t 0)), o9 4 (.mv (.c (.bool false)))] none) <| .seq (.hregion [⟨6, o9 11 (.fa 1 (.t 2))⟩, h9 7 12 (.load false 1 (.t 11)) [6], ⟨2, m9 7 1⟩, ⟨0, o9 5 (.fa 0 (.t 2))⟩,
 h9 1 6 (.load false 1 (.t 5)) [0], h9 3 8 (.ixs 3 (.t 6) (.t 7)) [1,2,0], h9 4 9 (.fa 0 (.t 8)) [3,1,2,0], h9 5 10 (.load false 1 (.t 9)) [4,3,1,2,0], h9 8 13 (.bin .geq (.t 10) (.t 12)) [5,7,4,3,1,2,0,6], h9 9 4 (.mv (.t 13))
 [8,0,1,2,3,4,5,6,7]]) <| .ret
abbrev n_deviation_seeker_from : Nat := 59
theorem b_deviation_seeker_from : bodyOf prog 59 [1000000] = some (c_deviation_seeker_from, [.t 4], 14) := by kernel_rfl
def c_slices_Backward_1__Deviation : ACode := .seq (.region [o9 4 (.load false 1 (.t 1)), o9 5 (.len (.t 4)), o9 6 (.bin .sub (.t 5) (.c (.int .i64 1))), m9 3 6] none) <| .block 0 <| .loop <| .seq (.seq (.region [m9 7 3, o9 8 (.bin .geq
 (.t 7) (.c (.int .i64 0)))] none) <| .cond (.t 8) (.skip) <| .exit 0) <| .seq (.block 1 <| .seq (.region [m9 11 0, m9 12 3, o9 13 (.load false 1 (.t 1)), m9 14 3, o9 15 (.ixs 7 (.t 13) (.t 14)), o9 16 (.load true 7 (.t 15)), o9 17 (.callv
 (.t 11) [.t 12, .t 16]), o9 18 (.un .not (.t 17))] none) <| .cond (.t 18) (.ret) <| .skip) <| .region [m9 9 3, o9 10 (.bin .sub (.t 9) (.c (.int .i64 1))), m9 3 10] none
abbrev n_slices_Backward_1__Deviation : Nat := 60
theorem b_slices_Backward_1__Deviation : bodyOf prog 60 [1000000] = some (c_slices_Backward_1__Deviation, [], 19) := by kernel_rfl
def c_slices_Clone__int : ACode := .seq (.region [o9 2 (.newsl 1 3)] none) <| .seq (.seq (.region [m9 3 0, o9 4 (.isnil false (.t 3))] none) <| .cond (.t 4) (.seq (.region [o9 2 (.newsl 1 3)] none) <| .ret) <| .skip) <| .seq (.region [o9 5
 (.lit true 1 3 []), m9 6 0, o9 7 (.app 1 8 3 (.t 5) (.t 6)), m9 2 7] none) <| .ret
abbrev n_slices_Clone__int : Nat := 61
theorem b_slices_Clone__int : bodyOf prog 61 [2, 5] = some (c_slices_Clone__int, [.t 2], 8) := by kernel_rfl
def c_slices_Equal__int : ACode := .seq (.region [o9 4 (.mv (.c (.bool false)))] none) <| .seq (.seq (.region [m9 6 0, o9 7 (.len (.t 6)), m9 8 1, o9 9 (.len (.t 8)), o9 10 (.bin .neq (.t 7) (.t 9))] none) <| .cond (.t 10) (.seq (.region
 [o9 4 (.mv (.c (.bool false)))] none) <| .ret) <| .skip) <| .seq (.seq (.region [m9 11 0, o9 12 (.len (.t 11)), o9 13 (.mv (.c (.int .i64 0)))] none) <| .block 0 <| .loop <| .seq (.region [o9 14 (.bin .lss (.t 13) (.t 12))] none) <| .seq
 (.cond (.t 14) (.skip) <| .exit 0) <| .seq (.block 1 <| .seq (.region [m9 15 13, m9 5 15] none) <| .seq (.hregion [⟨5, m9 21 5⟩, ⟨4, m9 20 1⟩, h9 6 22 (.ixs 1 (.t 20) (.t 21)) [4,5], h9 7 23 (.load false 1 (.t 22)) [6,4,5], ⟨1, m9 17 5⟩,
 ⟨0, m9 16 0⟩, h9 2 18 (.ixs 1 (.t 16) (.t 17)) [0,1], h9 3 19 (.load false 1 (.t 18)) [2,0,1], h9 8 24 (.bin .neq (.t 19) (.t 23)) [3,7,2,0,1,6,4,5]]) <| .cond (.t 24) (.seq (.region [o9 4 (.mv (.c (.bool false)))] none) <| .ret) <|
 .skip) <| .region [o9 25 (.bin .add (.t 13) (.c (.int .i64 1))), m9 13 25] none) <| .seq (.region [o9 4 (.mv (.c (.bool true)))] none) <| .ret
abbrev n_slices_Equal__int : Nat := 62
theorem b_slices_Equal__int : bodyOf prog 62 [1000000] = some (c_slices_Equal__int, [.t 4], 26) := by kernel_rfl
end Go.Proofs.Try
