/- OWN WORK, put together by tools/asm.py, seat.py, mini.py. -/
import Derived.Test.YtkbpllahboofgaaBaseS
import Derived.Test.YtkbpllahboofgaaProg
import Derived.KernelRfl
namespace Go.Proofs.Try
open Go Go.Ab
abbrev o9 (d : Nat) (x : AOp) : AOper := ⟨some d, x, none, []⟩
@[go_sem] theorem w_o9 (d : Nat) (x : AOp) : o9 d x = ⟨some d, x, none, []⟩ := (rfl)
abbrev m9 (d s : Nat) : AOper := ⟨some d, .mv (.t s), none, []⟩
@[go_sem] theorem w_m9 (d s : Nat) : m9 d s = ⟨some d, .mv (.t s), none, []⟩ := (rfl)
abbrev h9 (p d : Nat) (x : AOp) (a : List Nat) : HS := ⟨p, ⟨some d, x, none, a⟩⟩
@[go_sem] theorem w_h9 (p d : Nat) (x : AOp) (a : List Nat) : h9 p d x a = ⟨p, ⟨some d, x, none, a⟩⟩ := (rfl)
theorem x_slices_overlaps__Report : extOf prog 64 = some (Extern.SlicesOverlaps.overlaps #[28, 28] #[4]) := by kernel_rfl
theorem xt_slices_overlaps__Report : eltOf prog 28 = true := by kernel_rfl
def c_law31_RevisionOrder : ACode := .seq (.region [o9 2 (.mv (.c (.bool false)))] none) <| .seq (.seq (.region [o9 21 (.call 7 []), o9 22 (.un .not (.t 21))] none) <| .cond (.t 22) (.seq (.region [o9 2 (.mv (.c (.bool false)))] none) <|
 .ret) <| .skip) <| .seq (.seq (.region [m9 23 0, o9 24 (.call 8 [.t 23]), o9 25 (.un .not (.t 24))] none) <| .cond (.t 25) (.seq (.region [o9 2 (.mv (.c (.bool true)))] none) <| .ret) <| .skip) <| .seq (.region [m9 26 0, o9 27 (.call 9
 [.t 26]), m9 3 27] none) <| .seq (.region [m9 29 3, o9 30 (.call 10 [.t 29]), m9 28 30, o9 31 (.ext (.t 28) 0), o9 32 (.ext (.t 28) 1), o9 4 (.alloc 2 30 (.agg [.nil, .nil])), ⟨none, .store 2 (.t 4) (.t 31), none, []⟩, m9 5 32] none) <|
 .seq (.region [o9 33 (.fa 1 (.t 4)), ⟨none, .store 1 (.t 33) (.c (.nil)), none, []⟩] none) <| .seq (.region [o9 6 (.mv (.c (.nil)))] none) <| .seq (.seq (.region [m9 34 3, o9 35 (.call 20 [.t 34, .c (.int .i64 8)]), m9 7 35] none) <|
 .block 0 <| .loop <| .seq (.seq (.region [m9 36 7, o9 37 (.bin .gtr (.t 36) (.c (.int .i64 0)))] none) <| .cond (.t 37) (.skip) <| .exit 0) <| .seq (.block 1 <| .seq (.region [m9 40 3, m9 41 5, o9 42 (.len (.t 41)), o9 43 (.call 20 [.t
 40, .t 42]), m9 8 43] none) <| .hregion [⟨12, m9 56 6⟩, h9 13 57 (.len (.t 56)) [12], h9 14 58 (.bin .mul (.c (.int .i64 3)) (.t 57)) [13,12], h9 15 59 (.bin .add (.t 58) (.c (.int .i64 1))) [14,13,12], ⟨11, m9 55 8⟩, ⟨8, m9 52 8⟩, ⟨7, m9
 51 5⟩, h9 9 53 (.ixs 3 (.t 51) (.t 52)) [7,8], h9 10 54 (.load true 3 (.t 53)) [9,7,8], ⟨4, m9 48 8⟩, ⟨2, o9 46 (.fa 0 (.t 4))⟩, h9 3 47 (.load false 1 (.t 46)) [2], h9 5 49 (.ixs 4 (.t 47) (.t 48)) [3,4,2], h9 6 50 (.load true 4 (.t 49))
 [5,3,4,2], ⟨1, m9 45 3⟩, ⟨0, m9 44 6⟩, h9 16 60 (.call 11 [.t 45, .t 50, .t 54, .t 55, .t 59]) [1,6,10,11,15,5,3,4,2,9,7,8,14,13,12], h9 17 61 (.lit false 6 37 [.t 60]) [16,1,6,10,11,15,5,3,4,2,9,7,8,14,13,12], h9 18 62 (.app 6 48 37 (.t
 44) (.t 61)) [0,17,16,1,6,10,11,15,5,3,4,2,9,7,8,14,13,12], h9 19 6 (.mv (.t 62)) [18,0,1,2,3,4,5,6,7,8,9,10,11,12,13,14,15,16,17]]) <| .region [m9 38 7, o9 39 (.bin .sub (.t 38) (.c (.int .i64 1))), m9 7 39] none) <| .seq (.region [o9 63
 (.load true 2 (.t 4)), o9 9 (.alloc 2 30 (.agg [.nil, .nil])), ⟨none, .store 2 (.t 9) (.t 63), none, []⟩] none) <| .seq (.seq (.region [m9 64 6, o9 65 (.len (.t 64)), o9 66 (.mv (.c (.int .i64 0)))] none) <| .block 2 <| .loop <| .seq
 (.region [o9 67 (.bin .lss (.t 66) (.t 65))] none) <| .seq (.cond (.t 67) (.skip) <| .exit 2) <| .seq (.block 3 <| .seq (.region [o9 68 (.ixs 6 (.t 64) (.t 66)), o9 69 (.load true 6 (.t 68)), o9 11 (.alloc 6 37 (.agg [.int .i64 0, .int
 .i64 0, .int .i64 0, .int .i64 0, .int .i64 0, .int .i64 0])), ⟨none, .store 6 (.t 11) (.t 69), none, []⟩] none) <| .seq (.region [o9 71 (.load true 2 (.t 9)), o9 72 (.load true 6 (.t 11)), o9 73 (.call 12 [.t 71, .t 72]), m9 70 73, o9 74
 (.ext (.t 70) 0), o9 75 (.ext (.t 70) 1), o9 12 (.alloc 2 30 (.agg [.nil, .nil])), ⟨none, .store 2 (.t 12) (.t 74), none, []⟩, m9 13 75] none) <| .seq (.seq (.region [m9 76 13, o9 77 (.bin .neq (.t 76) (.c (.int .i64 0)))] none) <| .cond
 (.t 77) (.seq (.region [o9 2 (.mv (.c (.bool false)))] none) <| .ret) <| .skip) <| .region [o9 78 (.load true 2 (.t 12)), ⟨none, .store 2 (.t 9) (.t 78), none, []⟩] none) <| .region [o9 79 (.bin .add (.t 66) (.c (.int .i64 1))), m9 66 79]
 none) <| .seq (.region [o9 80 (.load true 2 (.t 4)), o9 14 (.alloc 2 30 (.agg [.nil, .nil])), ⟨none, .store 2 (.t 14) (.t 80), none, []⟩] none) <| .seq (.region [m9 81 6, o9 82 (.app 6 48 37 (.c (.nil)) (.t 81)), o9 15 (.mvs (.t 82))]
 none) <| .seq (.block 4 <| .loop <| .seq (.seq (.region [m9 83 15, o9 84 (.len (.t 83)), o9 85 (.bin .gtr (.t 84) (.c (.int .i64 0)))] none) <| .cond (.t 85) (.skip) <| .exit 4) <| .block 5 <| .seq (.region [m9 86 3, m9 87 15, o9 88 (.len
 (.t 87)), o9 89 (.call 20 [.t 86, .t 88]), m9 16 89] none) <| .seq (.hregion [⟨2, m9 93 16⟩, ⟨1, m9 92 15⟩, h9 3 94 (.ixs 6 (.t 92) (.t 93)) [1,2], h9 4 95 (.load true 6 (.t 94)) [3,1,2], ⟨0, o9 91 (.load true 2 (.t 14))⟩, h9 5 96 (.call
 12 [.t 91, .t 95]) [0,4,3,1,2], h9 6 90 (.mv (.t 96)) [5,0,4,3,1,2], h9 8 98 (.ext (.t 90) 1) [6,5,0,4,3,1,2], h9 7 97 (.ext (.t 90) 0) [6,5,0,4,3,1,2], ⟨9, o9 17 (.alloc 2 30 (.agg [.nil, .nil]))⟩, ⟨10, ⟨none, .store 2 (.t 17) (.t 97),
 none, [9, 7, 5, 0, 1, 2, 3, 4, 6]⟩⟩, h9 11 18 (.mv (.t 98)) [8,10,0,1,2,3,4,5,6,7,9]]) <| .seq (.hregion [⟨2, m9 102 16⟩, ⟨1, m9 101 15⟩, h9 3 103 (.ixs 6 (.t 101) (.t 102)) [1,2], h9 4 104 (.load true 6 (.t 103)) [3,1,2], ⟨0, o9 100
 (.load true 2 (.t 17))⟩, h9 5 105 (.call 12 [.t 100, .t 104]) [0,4,3,1,2], h9 6 99 (.mv (.t 105)) [5,0,4,3,1,2], h9 8 107 (.ext (.t 99) 1) [6,5,0,4,3,1,2], h9 7 106 (.ext (.t 99) 0) [6,5,0,4,3,1,2], ⟨9, o9 19 (.alloc 2 30 (.agg [.nil,
 .nil]))⟩, ⟨10, ⟨none, .store 2 (.t 19) (.t 106), none, [9, 7, 5, 0, 1, 2, 3, 4, 6]⟩⟩, h9 11 20 (.mv (.t 107)) [8,10,0,1,2,3,4,5,6,7,9]]) <| .seq (.seq (.region [m9 108 18, o9 109 (.bin .neq (.t 108) (.c (.int .i64 0))), m9 110 109, ⟨some
 111, .mv (.t 20), some (110, false), []⟩, ⟨some 112, .bin .neq (.t 111) (.c (.int .i64 0)), some (110, false), []⟩, o9 113 (.pick (.t 110) (.c (.bool true)) (.t 112)), m9 114 113, ⟨some 115, .load true 2 (.t 17), some (114, false), []⟩,
 ⟨some 116, .load true 2 (.t 19), some (114, false), []⟩, ⟨some 117, .call 21 [.t 115, .t 116], some (114, false), []⟩, ⟨some 118, .un .not (.t 117), some (114, false), []⟩, o9 119 (.pick (.t 114) (.c (.bool true)) (.t 118))] none) <|
 .cond (.t 119) (.seq (.region [o9 2 (.mv (.c (.bool false)))] none) <| .ret) <| .skip) <| .seq (.region [o9 120 (.load true 2 (.t 19)), ⟨none, .store 2 (.t 14) (.t 120), none, []⟩] none) <| .hregion [⟨5, m9 126 16⟩, h9 6 127 (.bin .add
 (.t 126) (.c (.int .i64 1))) [5], ⟨4, m9 125 15⟩, h9 7 128 (.slc 6 (.t 125) (some (.t 127)) none) [4,6,5], ⟨2, m9 123 16⟩, ⟨1, m9 122 16⟩, ⟨0, m9 121 15⟩, h9 3 124 (.slcf 6 (.t 121) (.t 122) (.t 123)) [0,1,2], h9 8 129 (.app 6 48 37 (.t
 124) (.t 128)) [3,7,0,1,2,4,6,5], h9 9 15 (.mvs (.t 129)) [8,0,1,2,3,4,5,6,7]]) <| .seq (.region [o9 130 (.load true 2 (.t 9)), o9 131 (.load true 2 (.t 14)), o9 132 (.call 21 [.t 130, .t 131]), m9 133 132, ⟨some 134, .fa 1 (.t 9), some
 (133, true), []⟩, ⟨some 135, .load false 1 (.t 134), some (133, true), []⟩, ⟨some 136, .len (.t 135), some (133, true), []⟩, ⟨some 137, .mv (.t 6), some (133, true), []⟩, ⟨some 138, .len (.t 137), some (133, true), []⟩, ⟨some 139, .bin
 .eql (.t 136) (.t 138), some (133, true), []⟩, o9 140 (.pick (.t 133) (.t 139) (.c (.bool false))), m9 2 140] none) <| .ret
abbrev n_law31_RevisionOrder : Nat := 6
theorem b_law31_RevisionOrder : bodyOf prog 6 [2000015, 1000000] = some (c_law31_RevisionOrder, [.t 2], 141) := by kernel_rfl
def c_law31_sane : ACode := .seq (.region [o9 0 (.mv (.c (.bool false)))] none) <| .seq (.region [o9 8 (.build [.int .i64 0, .int .i64 0] [(0, 1, .c (.int .i64 10)), (1, 1, .c (.int .i64 10))]), o9 9 (.build [.int .i64 0, .int .i64 0] [(1,
 1, .c (.int .i64 50))]), o9 10 (.lit false 2 35 [.t 8, .t 9]), o9 11 (.build [.int .i64 0, .int .i64 0] [(1, 1, .c (.int .i64 50))]), o9 12 (.lit false 2 35 [.t 11]), o9 13 (.build [.int .i64 0, .int .i64 0] [(1, 1, .c (.int .i64 50))]),
 o9 14 (.lit false 2 35 [.t 13]), o9 15 (.build [.int .i64 0, .nil, .nil, .nil] [(1, 1, .t 10), (2, 1, .t 12), (3, 1, .t 14)]), o9 1 (.alloc 4 41 (.agg [.int .i64 0, .nil, .nil, .nil])), ⟨none, .store 4 (.t 1) (.t 15), none, []⟩] none) <|
 .seq (.region [o9 17 (.load true 4 (.t 1)), o9 18 (.lit false 4 41 [.t 17]), o9 19 (.call 22 [.t 18]), m9 16 19, o9 20 (.ext (.t 16) 0), o9 21 (.ext (.t 16) 1), o9 2 (.alloc 2 30 (.agg [.nil, .nil])), ⟨none, .store 2 (.t 2) (.t 20), none,
 []⟩, m9 3 21] none) <| .seq (.region [o9 23 (.load true 2 (.t 2)), o9 24 (.build [.int .i64 0, .int .i64 0] [(0, 1, .c (.int .i64 3)), (1, 1, .c (.int .i64 3))]), o9 25 (.build [.int .i64 0, .int .i64 0, .int .i64 0, .int .i64 0, .int
 .i64 0, .int .i64 0] [(0, 1, .c (.int .i64 2)), (2, 1, .c (.int .i64 3)), (4, 2, .t 24)]), o9 26 (.call 12 [.t 23, .t 25]), m9 22 26, o9 27 (.ext (.t 22) 0), o9 28 (.ext (.t 22) 1), ⟨none, .store 2 (.t 2) (.t 27), none, []⟩, m9 4 28]
 none) <| .seq (.region [o9 30 (.load true 2 (.t 2)), o9 31 (.build [.int .i64 0, .int .i64 0] [(0, 1, .c (.int .i64 7)), (1, 1, .c (.int .i64 7))]), o9 32 (.build [.int .i64 0, .int .i64 0, .int .i64 0, .int .i64 0, .int .i64 0, .int .i64
 0] [(0, 1, .c (.int .i64 1)), (2, 1, .c (.int .i64 2)), (4, 2, .t 31)]), o9 33 (.call 12 [.t 30, .t 32]), m9 29 33, o9 34 (.ext (.t 29) 0), o9 35 (.ext (.t 29) 1), ⟨none, .store 2 (.t 2) (.t 34), none, []⟩, m9 5 35] none) <| .seq (.region
 [o9 37 (.load true 2 (.t 2)), o9 38 (.call 14 [.t 37, .c (.int .i64 0)]), m9 36 38, o9 39 (.ext (.t 36) 0), o9 40 (.ext (.t 36) 1), o9 6 (.alloc 4 41 (.agg [.int .i64 0, .nil, .nil, .nil])), ⟨none, .store 4 (.t 6) (.t 39), none, []⟩, m9 7
 40] none) <| .seq (.region [m9 41 3, o9 42 (.bin .eql (.t 41) (.c (.int .i64 0))), m9 43 42, ⟨some 44, .mv (.t 4), some (43, true), []⟩, ⟨some 45, .bin .eql (.t 44) (.c (.int .i64 0)), some (43, true), []⟩, o9 46 (.pick (.t 43) (.t 45)
 (.c (.bool false))), m9 47 46, ⟨some 48, .mv (.t 5), some (47, true), []⟩, ⟨some 49, .bin .eql (.t 48) (.c (.int .i64 0)), some (47, true), []⟩, o9 50 (.pick (.t 47) (.t 49) (.c (.bool false))), m9 51 50, ⟨some 52, .mv (.t 7), some (51,
 true), []⟩, ⟨some 53, .bin .eql (.t 52) (.c (.int .i64 0)), some (51, true), []⟩, o9 54 (.pick (.t 51) (.t 53) (.c (.bool false))), m9 55 54, ⟨some 56, .fa 1 (.t 2), some (55, true), []⟩, ⟨some 57, .load false 1 (.t 56), some (55, true),
 []⟩, ⟨some 58, .len (.t 57), some (55, true), []⟩, ⟨some 59, .bin .eql (.t 58) (.c (.int .i64 2)), some (55, true), []⟩, o9 60 (.pick (.t 55) (.t 59) (.c (.bool false))), m9 61 60, ⟨some 62, .fa 1 (.t 2), some (61, true), []⟩, ⟨some 63,
 .load false 1 (.t 62), some (61, true), []⟩, ⟨some 64, .ixs 6 (.t 63) (.c (.int .i64 0)), some (61, true), []⟩, ⟨some 65, .fa 0 (.t 64), some (61, true), []⟩, ⟨some 66, .load false 1 (.t 65), some (61, true), []⟩, ⟨some 67, .bin .eql (.t
 66) (.c (.int .i64 1)), some (61, true), []⟩, o9 68 (.pick (.t 61) (.t 67) (.c (.bool false))), m9 69 68, ⟨some 70, .fa 1 (.t 6), some (69, true), []⟩, ⟨some 71, .load false 1 (.t 70), some (69, true), []⟩, ⟨some 72, .len (.t 71), some
 (69, true), []⟩, ⟨some 73, .bin .eql (.t 72) (.c (.int .i64 2)), some (69, true), []⟩, o9 74 (.pick (.t 69) (.t 73) (.c (.bool false))), m9 75 74, ⟨some 76, .fa 1 (.t 6), some (75, true), []⟩, ⟨some 77, .load false 1 (.t 76), some (75,
 true), []⟩, ⟨some 78, .ixs 2 (.t 77) (.c (.int .i64 1)), some (75, true), []⟩, ⟨some 79, .load true 2 (.t 78), some (75, true), []⟩, ⟨some 80, .build [.int .i64 0, .int .i64 0] [(0, 1, .c (.int .i64 14)), (1, 1, .c (.int .i64 14))], some
 (75, true), []⟩, ⟨some 81, .eqs false [0, 0] (.t 79) (.t 80), some (75, true), []⟩, o9 82 (.pick (.t 75) (.t 81) (.c (.bool false))), m9 0 82] none) <| .ret
abbrev n_law31_sane : Nat := 7
theorem b_law31_sane : bodyOf prog 7 [1000000] = some (c_law31_sane, [.t 0], 83) := by kernel_rfl
def c_mk_Few : ACode := .seq (.region [o9 2 (.mv (.c (.bool false)))] none) <| .seq (.region [m9 3 0, o9 4 (.len (.t 3)), o9 5 (.bin .leq (.t 4) (.c (.int .i64 500))), m9 2 5] none) <| .ret
abbrev n_mk_Few : Nat := 8
theorem b_mk_Few : bodyOf prog 8 [1000000] = some (c_mk_Few, [.t 2], 6) := by kernel_rfl
def c_mk_New : ACode := .seq (.region [o9 2 (.mv (.c (.nilptr)))] none) <| .seq (.region [m9 3 0, o9 4 (.build [.nil, .int .i64 0] [(0, 1, .t 3)]), o9 5 (.box 2 63 (.t 4)), m9 2 5] none) <| .ret
abbrev n_mk_New : Nat := 9
theorem b_mk_New : bodyOf prog 9 [] = some (c_mk_New, [.t 2], 6) := by kernel_rfl
def c_flow_Book : ACode := .seq (.region [o9 2 (.alloc 2 30 (.agg [.nil, .nil])), o9 3 (.mv (.c (.nil)))] none) <| .seq (.region [o9 4 (.mv (.c (.nil)))] none) <| .seq (.region [o9 5 (.mv (.c (.nil)))] none) <| .seq (.seq (.region [m9 16
 0, o9 17 (.call 20 [.t 16, .c (.int .i64 2)]), m9 6 17] none) <| .block 0 <| .loop <| .seq (.seq (.region [m9 18 6, o9 19 (.bin .geq (.t 18) (.c (.int .i64 0)))] none) <| .cond (.t 19) (.skip) <| .exit 0) <| .seq (.block 1 <| .seq
 (.region [m9 23 0, o9 24 (.call 23 [.t 23]), m9 22 24, o9 25 (.ext (.t 22) 0), o9 26 (.ext (.t 22) 1), o9 27 (.ext (.t 22) 2), o9 28 (.ext (.t 22) 3), o9 7 (.alloc 4 41 (.agg [.int .i64 0, .nil, .nil, .nil])), ⟨none, .store 4 (.t 7) (.t
 25), none, []⟩, m9 8 26, m9 9 27, m9 10 28] none) <| .region [m9 29 4, o9 30 (.load true 4 (.t 7)), o9 31 (.lit false 4 41 [.t 30]), o9 32 (.app 4 80 41 (.t 29) (.t 31)), m9 33 5, m9 34 8, m9 35 9, m9 36 10, o9 37 (.build [.nil, .nil,
 .nil] [(0, 1, .t 34), (1, 1, .t 35), (2, 1, .t 36)]), o9 38 (.lit false 3 43 [.t 37]), o9 39 (.app 3 72 43 (.t 33) (.t 38)), m9 4 32, m9 5 39] none) <| .region [m9 20 6, o9 21 (.bin .sub (.t 20) (.c (.int .i64 1))), m9 6 21] none) <| .seq
 (.region [m9 40 4, o9 41 (.build [.nil, .nil] [(0, 1, .t 40)]), o9 11 (.alloc 2 30 (.agg [.nil, .nil])), ⟨none, .store 2 (.t 11) (.t 41), none, []⟩] none) <| .seq (.seq (.region [m9 42 0, o9 43 (.call 20 [.t 42, .c (.int .i64 9)]), m9 12
 43] none) <| .block 2 <| .loop <| .seq (.seq (.region [m9 44 12, o9 45 (.bin .gtr (.t 44) (.c (.int .i64 0)))] none) <| .cond (.t 45) (.skip) <| .exit 2) <| .seq (.block 3 <| .seq (.region [m9 48 0, m9 49 4, o9 50 (.len (.t 49)), o9 51
 (.call 20 [.t 48, .t 50]), m9 13 51] none) <| .seq (.hregion [⟨11, m9 64 0⟩, ⟨10, m9 63 13⟩, ⟨7, m9 60 13⟩, ⟨6, m9 59 5⟩, h9 8 61 (.ixs 3 (.t 59) (.t 60)) [6,7], h9 9 62 (.load true 3 (.t 61)) [8,6,7], ⟨3, m9 56 13⟩, ⟨2, m9 55 4⟩, h9 4 57
 (.ixs 4 (.t 55) (.t 56)) [2,3], h9 5 58 (.load true 4 (.t 57)) [4,2,3], ⟨1, m9 54 0⟩, ⟨0, o9 53 (.load true 2 (.t 11))⟩, h9 12 65 (.call 20 [.t 64, .c (.int .i64 20)]) [11], h9 13 66 (.bin .add (.c (.int .i64 1)) (.t 65)) [12,11], h9 14
 67 (.call 11 [.t 54, .t 58, .t 62, .t 63, .t 66]) [1,5,9,10,13,12,4,2,3,8,6,7,11], h9 15 68 (.call 24 [.t 53, .t 67]) [0,14,1,5,9,10,13,12,4,2,3,8,6,7,11], h9 16 52 (.mv (.t 68)) [15,0,14,1,5,9,10,13,12,4,2,3,8,6,7,11], h9 18 70 (.ext (.t
 52) 1) [16,15,0,14,1,5,9,10,13,12,4,2,3,8,6,7,11], h9 17 69 (.ext (.t 52) 0) [16,15,0,14,1,5,9,10,13,12,4,2,3,8,6,7,11], ⟨19, o9 14 (.alloc 2 30 (.agg [.nil, .nil]))⟩, ⟨20, ⟨none, .store 2 (.t 14) (.t 69), none, [19, 17, 15, 0, 1, 2, 3,
 4, 5, 6, 7, 8, 9, 10, 11, 12, 13, 14, 16]⟩⟩, h9 21 15 (.mv (.t 70)) [18,20,0,1,2,3,4,5,6,7,8,9,10,11,12,13,14,15,16,17,19]]) <| .seq (.region [m9 71 15, o9 72 (.bin .eql (.t 71) (.c (.int .i64 0)))] none) <| .cond (.t 72) (.region [o9 73
 (.load true 2 (.t 14)), ⟨none, .store 2 (.t 11) (.t 73), none, []⟩] none) <| .skip) <| .region [m9 46 12, o9 47 (.bin .sub (.t 46) (.c (.int .i64 1))), m9 12 47] none) <| .seq (.region [o9 74 (.load true 2 (.t 11)), m9 75 5, ⟨none, .store
 2 (.t 2) (.t 74), none, []⟩, m9 3 75] none) <| .ret
abbrev n_flow_Book : Nat := 10
theorem b_flow_Book : bodyOf prog 10 [1000000] = some (c_flow_Book, [.c 2 true 2, .t 3], 76) := by kernel_rfl
def c_flow_Report : ACode := .seq (.region [o9 6 (.box 4 41 (.t 1)), o9 7 (.box 3 43 (.t 2)), o9 10 (.alloc 6 37 (.agg [.int .i64 0, .int .i64 0, .int .i64 0, .int .i64 0, .int .i64 0, .int .i64 0]))] none) <| .seq (.region [m9 14 4, m9 15
 3, m9 16 0, o9 17 (.call 20 [.t 16, .c (.int .i64 3)]), o9 18 (.bin .add (.c (.int .i64 1)) (.t 17)), o9 19 (.build [.int .i64 0, .int .i64 0, .int .i64 0, .int .i64 0, .int .i64 0, .int .i64 0] [(0, 1, .t 14), (1, 1, .t 15), (2, 1, .t
 18)]), o9 11 (.alloc 6 37 (.agg [.int .i64 0, .int .i64 0, .int .i64 0, .int .i64 0, .int .i64 0, .int .i64 0])), ⟨none, .store 6 (.t 11) (.t 19), none, []⟩] none) <| .seq (.region [o9 20 (.fa 0 (.t 7)), o9 21 (.load false 1 (.t 20)), o9
 22 (.fa 1 (.t 7)), o9 23 (.load false 1 (.t 22)), o9 24 (.fa 2 (.t 7)), o9 25 (.load false 1 (.t 24)), o9 26 (.lit false 1 22 [.t 21, .t 23, .t 25]), o9 27 (.fa 2 (.t 11)), o9 28 (.load false 1 (.t 27)), o9 29 (.bin .sub (.t 28) (.c (.int
 .i64 1))), o9 30 (.ixs 1 (.t 26) (.t 29)), o9 31 (.load false 1 (.t 30)), m9 12 31] none) <| .seq (.region [m9 32 0, m9 33 12, o9 34 (.len (.t 33)), o9 35 (.call 20 [.t 32, .t 34]), m9 13 35] none) <| .seq (.hregion [⟨6, m9 42 13⟩, ⟨5, m9
 41 12⟩, h9 7 43 (.ixs 1 (.t 41) (.t 42)) [5,6], h9 8 44 (.load false 1 (.t 43)) [7,5,6], ⟨4, m9 40 0⟩, ⟨2, m9 38 13⟩, ⟨0, o9 36 (.fa 0 (.t 6))⟩, h9 1 37 (.load false 1 (.t 36)) [0], h9 3 39 (.bin .add (.t 37) (.t 38)) [1,2,0], h9 10 46
 (.fa 3 (.t 11)) [0,1,2,3], h9 9 45 (.call 25 [.t 40, .t 44]) [4,8,7,5,6], ⟨11, ⟨none, .store 1 (.t 46) (.t 39), none, [10, 3, 9, 0, 1, 2, 4, 8, 7, 5, 6]⟩⟩, h9 12 47 (.fa 4 (.t 11)) [0,1,2,3,4,5,6,7,8,9,10,11], ⟨13, ⟨none, .store 2 (.t 47)
 (.t 45), none, [12, 9, 11, 0, 1, 2, 3, 4, 5, 6, 7, 8, 10]⟩⟩]) <| .seq (.region [o9 48 (.load true 6 (.t 11)), ⟨none, .store 6 (.t 10) (.t 48), none, []⟩] none) <| .ret
abbrev n_flow_Report : Nat := 11
theorem b_flow_Report : bodyOf prog 11 [1000000] = some (c_flow_Report, [.c 10 true 6], 49) := by kernel_rfl
def c_revision_File : ACode := .seq (.region [o9 2 (.box 2 30 (.t 0)), o9 3 (.box 6 37 (.t 1)), o9 4 (.alloc 2 30 (.agg [.nil, .nil])), o9 5 (.mv (.c (.int .i64 0)))] none) <| .seq (.seq (.region [o9 9 (.load true 2 (.t 2)), o9 10 (.call
 26 [.t 9]), o9 11 (.bin .neq (.t 10) (.c (.int .i64 0)))] none) <| .cond (.t 11) (.seq (.region [o9 12 (.build [.nil, .nil] []), ⟨none, .store 2 (.t 4) (.t 12), none, []⟩, o9 5 (.mv (.c (.int .i64 50)))] none) <| .ret) <| .skip) <| .seq
 (.seq (.region [o9 13 (.load true 6 (.t 3)), o9 14 (.call 27 [.t 13]), o9 15 (.un .not (.t 14))] none) <| .cond (.t 15) (.seq (.region [o9 16 (.build [.nil, .nil] []), ⟨none, .store 2 (.t 4) (.t 16), none, []⟩, o9 5 (.mv (.c (.int .i64
 3)))] none) <| .ret) <| .skip) <| .seq (.seq (.region [o9 17 (.fa 0 (.t 2)), o9 18 (.load false 1 (.t 17)), o9 19 (.load true 6 (.t 3)), o9 20 (.call 28 [.t 18, .t 19]), m9 6 20] none) <| .seq (.region [m9 21 6, o9 22 (.bin .neq (.t 21)
 (.c (.int .i64 0)))] none) <| .cond (.t 22) (.seq (.region [o9 23 (.build [.nil, .nil] []), m9 24 6, ⟨none, .store 2 (.t 4) (.t 23), none, []⟩, m9 5 24] none) <| .ret) <| .skip) <| .seq (.region [o9 26 (.fa 1 (.t 2)), o9 27 (.load false 1
 (.t 26)), o9 28 (.load true 6 (.t 3)), o9 29 (.call 29 [.t 27, .t 28, .c (.func 30 [])]), m9 25 29, o9 30 (.ext (.t 25) 0), o9 31 (.ext (.t 25) 1), m9 7 30, m9 8 31] none) <| .seq (.block 0 <| .seq (.hregion [⟨0, m9 33 8⟩, h9 1 34 (.mv
 (.t 33)) [0], ⟨7, ⟨some 40, .load true 6 (.t 3), some (34, true), [1, 0]⟩⟩, ⟨4, ⟨some 37, .mv (.t 7), some (34, true), [1, 0]⟩⟩, ⟨2, ⟨some 35, .fa 1 (.t 2), some (34, true), [1, 0]⟩⟩, ⟨3, ⟨some 36, .load false 1 (.t 35), some (34, true),
 [2, 1, 0]⟩⟩, ⟨5, ⟨some 38, .ixs 6 (.t 36) (.t 37), some (34, true), [3, 4, 1, 2, 0]⟩⟩, ⟨6, ⟨some 39, .load true 6 (.t 38), some (34, true), [5, 1, 3, 4, 2, 0]⟩⟩, ⟨8, ⟨some 41, .eqs false [0, 0, 0, 0, 0, 0] (.t 39) (.t 40), some (34,
 true), [6, 7, 1, 5, 3, 4, 2, 0]⟩⟩, h9 9 42 (.pick (.t 34) (.t 41) (.c (.bool false))) [1,8,0,6,7,5,3,4,2], h9 10 32 (.mv (.t 42)) [9,1,8,0,6,7,5,3,4,2]]) <| .cond (.t 32) (.seq (.region [o9 43 (.load true 2 (.t 2)), o9 44 (.fa 1 (.t 2)),
 o9 45 (.load false 1 (.t 44)), o9 46 (.call 31 [.t 43, .t 45]), ⟨none, .store 2 (.t 4) (.t 46), none, []⟩, o9 5 (.mv (.c (.int .i64 0)))] none) <| .ret) <| .seq (.region [m9 48 8, m9 47 48] none) <| .cond (.t 47) (.seq (.region [o9 49
 (.build [.nil, .nil] []), ⟨none, .store 2 (.t 4) (.t 49), none, []⟩, o9 5 (.mv (.c (.int .i64 46)))] none) <| .ret) <| .seq (.region [o9 51 (.fa 1 (.t 2)), o9 52 (.load false 1 (.t 51)), o9 53 (.len (.t 52)), o9 54 (.bin .eql (.t 53) (.c
 (.int .i64 4096))), m9 50 54] none) <| .cond (.t 50) (.seq (.region [o9 55 (.build [.nil, .nil] []), ⟨none, .store 2 (.t 4) (.t 55), none, []⟩, o9 5 (.mv (.c (.int .i64 10)))] none) <| .ret) <| .skip) <| .seq (.hregion [⟨4, o9 60 (.load
 true 6 (.t 3))⟩, ⟨3, m9 59 7⟩, ⟨1, o9 57 (.fa 1 (.t 2))⟩, h9 2 58 (.load false 1 (.t 57)) [1], ⟨0, o9 56 (.load true 2 (.t 2))⟩, h9 5 61 (.call 32 [.t 58, .t 59, .t 60]) [2,3,4,1], h9 6 62 (.call 31 [.t 56, .t 61]) [0,5,2,3,4,1], ⟨7,
 ⟨none, .store 2 (.t 4) (.t 62), none, [6, 0, 1, 2, 3, 4, 5]⟩⟩, h9 8 5 (.mv (.c (.int .i64 0))) [7,0,1,2,3,4,5,6]]) <| .ret
abbrev n_revision_File : Nat := 12
theorem b_revision_File : bodyOf prog 12 [1000000] = some (c_revision_File, [.c 4 true 2, .t 5], 63) := by kernel_rfl
def c_revision_Current : ACode := .seq (.region [o9 2 (.box 2 30 (.t 0)), o9 4 (.alloc 4 41 (.agg [.int .i64 0, .nil, .nil, .nil])), o9 5 (.mv (.c (.int .i64 0))), o9 6 (.mv (.c (.int .i64 0)))] none) <| .seq (.seq (.region [o9 12 (.load
 true 2 (.t 2)), o9 13 (.call 26 [.t 12]), o9 14 (.bin .neq (.t 13) (.c (.int .i64 0)))] none) <| .cond (.t 14) (.seq (.region [o9 15 (.build [.int .i64 0, .nil, .nil, .nil] []), ⟨none, .store 4 (.t 4) (.t 15), none, []⟩, o9 5 (.mv (.c
 (.int .i64 0))), o9 6 (.mv (.c (.int .i64 50)))] none) <| .ret) <| .skip) <| .seq (.seq (.region [m9 16 1, o9 17 (.bin .lss (.t 16) (.c (.int .i64 0))), m9 18 17, ⟨some 19, .mv (.t 1), some (18, false), []⟩, ⟨some 20, .fa 0 (.t 2), some
 (18, false), []⟩, ⟨some 21, .load false 1 (.t 20), some (18, false), []⟩, ⟨some 22, .len (.t 21), some (18, false), []⟩, ⟨some 23, .bin .geq (.t 19) (.t 22), some (18, false), []⟩, o9 24 (.pick (.t 18) (.c (.bool true)) (.t 23))] none) <|
 .cond (.t 24) (.seq (.region [o9 25 (.build [.int .i64 0, .nil, .nil, .nil] []), ⟨none, .store 4 (.t 4) (.t 25), none, []⟩, o9 5 (.mv (.c (.int .i64 0))), o9 6 (.mv (.c (.int .i64 47)))] none) <| .ret) <| .skip) <| .seq (.region [o9 26
 (.fa 0 (.t 2)), o9 27 (.load false 1 (.t 26)), m9 28 1, o9 29 (.ixs 4 (.t 27) (.t 28)), o9 30 (.load true 4 (.t 29)), o9 31 (.call 33 [.t 30]), o9 7 (.alloc 4 41 (.agg [.int .i64 0, .nil, .nil, .nil])), ⟨none, .store 4 (.t 7) (.t 31),
 none, []⟩] none) <| .seq (.seq (.region [o9 32 (.fa 1 (.t 2)), o9 33 (.load false 1 (.t 32)), o9 34 (.len (.t 33)), o9 35 (.mv (.c (.int .i64 0)))] none) <| .block 0 <| .loop <| .seq (.region [o9 36 (.bin .lss (.t 35) (.t 34))] none) <|
 .seq (.cond (.t 36) (.skip) <| .exit 0) <| .seq (.block 1 <| .seq (.region [o9 37 (.ixs 6 (.t 33) (.t 35)), o9 38 (.load true 6 (.t 37)), o9 9 (.alloc 6 37 (.agg [.int .i64 0, .int .i64 0, .int .i64 0, .int .i64 0, .int .i64 0, .int .i64
 0])), ⟨none, .store 6 (.t 9) (.t 38), none, []⟩] none) <| .seq (.seq (.region [o9 39 (.fa 1 (.t 9)), o9 40 (.load false 1 (.t 39)), m9 41 1, o9 42 (.bin .neq (.t 40) (.t 41))] none) <| .cond (.t 42) (.exit 1) <| .skip) <| .seq (.region
 [o9 44 (.load true 4 (.t 7)), o9 45 (.fa 2 (.t 9)), o9 46 (.load false 1 (.t 45)), o9 47 (.fa 3 (.t 9)), o9 48 (.load false 1 (.t 47)), o9 49 (.fa 4 (.t 9)), o9 50 (.load true 2 (.t 49)), o9 51 (.call 34 [.t 44, .t 46, .t 48, .t 50]), m9
 43 51, o9 52 (.ext (.t 43) 0), o9 53 (.ext (.t 43) 1), o9 10 (.alloc 4 41 (.agg [.int .i64 0, .nil, .nil, .nil])), ⟨none, .store 4 (.t 10) (.t 52), none, []⟩, m9 11 53] none) <| .seq (.seq (.region [m9 54 11, o9 55 (.bin .neq (.t 54) (.c
 (.int .i64 0)))] none) <| .cond (.t 55) (.seq (.hregion [⟨1, o9 57 (.fa 0 (.t 9))⟩, h9 2 58 (.load false 1 (.t 57)) [1], ⟨0, o9 56 (.build [.int .i64 0, .nil, .nil, .nil] [])⟩, ⟨3, ⟨none, .store 4 (.t 4) (.t 56), none, [0]⟩⟩, h9 4 5 (.mv
 (.t 58)) [2,3,0,1], h9 5 6 (.mv (.c (.int .i64 48))) [4,0,1,2,3]]) <| .ret) <| .skip) <| .region [o9 59 (.load true 4 (.t 10)), ⟨none, .store 4 (.t 7) (.t 59), none, []⟩] none) <| .region [o9 60 (.bin .add (.t 35) (.c (.int .i64 1))), m9
 35 60] none) <| .seq (.region [o9 61 (.load true 4 (.t 7)), ⟨none, .store 4 (.t 4) (.t 61), none, []⟩, o9 5 (.mv (.c (.int .i64 0))), o9 6 (.mv (.c (.int .i64 0)))] none) <| .ret
abbrev n_revision_Current : Nat := 13
theorem b_revision_Current : bodyOf prog 13 [1000000] = some (c_revision_Current, [.c 4 true 4, .t 5, .t 6], 62) := by kernel_rfl
def c_revision_Tight : ACode := .seq (.region [o9 2 (.box 2 30 (.t 0)), o9 4 (.alloc 4 41 (.agg [.int .i64 0, .nil, .nil, .nil])), o9 5 (.mv (.c (.int .i64 0)))] none) <| .seq (.region [o9 10 (.load true 2 (.t 2)), m9 11 1, o9 12 (.call 13
 [.t 10, .t 11]), m9 9 12, o9 13 (.ext (.t 9) 0), o9 14 (.ext (.t 9) 1), o9 15 (.ext (.t 9) 2), o9 6 (.alloc 4 41 (.agg [.int .i64 0, .nil, .nil, .nil])), ⟨none, .store 4 (.t 6) (.t 13), none, []⟩, m9 7 14, m9 8 15] none) <| .seq (.seq
 (.region [m9 16 8, o9 17 (.bin .neq (.t 16) (.c (.int .i64 0)))] none) <| .cond (.t 17) (.seq (.region [o9 18 (.build [.int .i64 0, .nil, .nil, .nil] []), m9 19 8, ⟨none, .store 4 (.t 4) (.t 18), none, []⟩, m9 5 19] none) <| .ret) <|
 .skip) <| .seq (.region [o9 20 (.load true 4 (.t 6)), o9 21 (.call 35 [.t 20]), o9 22 (.ext (.t 21) 0), o9 23 (.ext (.t 21) 1), ⟨none, .store 4 (.t 4) (.t 22), none, []⟩, m9 5 23] none) <| .ret
abbrev n_revision_Tight : Nat := 14
theorem b_revision_Tight : bodyOf prog 14 [1000000] = some (c_revision_Tight, [.c 4 true 4, .t 5], 24) := by kernel_rfl
def c_mk_Deck_Next : ACode := .seq (.region [o9 4 (.mv (.c (.int .i64 0)))] none) <| .seq (.seq (.region [m9 6 1, ⟨some 7, .bin .lss (.t 6) (.c (.int .i64 1)), none, [0]⟩, ⟨some 8, .mv (.t 7), none, [1, 0]⟩, ⟨some 9, .mv (.t 0), some (8,
 false), [2, 1, 0]⟩, ⟨some 10, .nilchk (.t 9), some (8, false), [3, 2, 1, 0]⟩, ⟨some 11, .fa 1 (.t 10), some (8, false), [4, 2, 3, 1, 0]⟩, ⟨some 12, .load false 1 (.t 11), some (8, false), [5, 2, 4, 3, 1, 0]⟩, ⟨some 13, .mv (.t 0), some
 (8, false), [2, 1, 0]⟩, ⟨some 14, .nilchk (.t 13), some (8, false), [7, 2, 1, 0]⟩, ⟨some 15, .fa 0 (.t 14), some (8, false), [8, 2, 7, 1, 0]⟩, ⟨some 16, .load false 1 (.t 15), some (8, false), [9, 2, 8, 7, 1, 0]⟩, ⟨some 17, .len (.t 16),
 some (8, false), [10, 2, 9, 8, 7, 1, 0]⟩, ⟨some 18, .bin .geq (.t 12) (.t 17), some (8, false), [6, 11, 2, 5, 4, 3, 1, 0, 10, 9, 8, 7]⟩, ⟨some 19, .pick (.t 8) (.c (.bool true)) (.t 18), none, [2, 12, 1, 0, 6, 11, 5, 4, 3, 10, 9, 8, 7]⟩]
 (some 0)) <| .cond (.t 19) (.seq (.region [o9 4 (.mv (.c (.int .i64 0)))] none) <| .ret) <| .skip) <| .seq (.region [m9 20 0, ⟨some 21, .nilchk (.t 20), none, [0]⟩, ⟨some 22, .fa 0 (.t 21), none, [1, 0]⟩, ⟨some 23, .load false 1 (.t 22),
 none, [2, 1, 0]⟩, m9 24 0, ⟨some 25, .nilchk (.t 24), none, [4]⟩, ⟨some 26, .fa 1 (.t 25), none, [5, 4]⟩, ⟨some 27, .load false 1 (.t 26), none, [6, 5, 4]⟩, ⟨some 28, .ixs 1 (.t 23) (.t 27), none, [3, 7, 2, 1, 0, 6, 5, 4]⟩, ⟨some 29,
 .load false 1 (.t 28), none, [8, 3, 7, 2, 1, 0, 6, 5, 4]⟩, ⟨some 5, .mv (.t 29), none, [9, 0, 1, 2, 3, 4, 5, 6, 7, 8]⟩] (some 0)) <| .seq (.region [m9 30 0, o9 31 (.nilchk (.t 30)), o9 32 (.fa 1 (.t 31)), o9 33 (.load false 1 (.t 32)), o9
 34 (.bin .add (.t 33) (.c (.int .i64 1))), o9 35 (.nilchk (.t 30)), o9 36 (.fa 1 (.t 35)), ⟨none, .store 1 (.t 36) (.t 34), none, []⟩] none) <| .seq (.region [m9 37 5, m9 38 1, o9 39 (.call 40 [.t 37, .t 38]), m9 4 39] none) <| .ret
abbrev n_mk_Deck_Next : Nat := 20
theorem b_mk_Deck_Next : bodyOf prog 20 [] = some (c_mk_Deck_Next, [.t 4], 40) := by kernel_rfl
def c_revision_Same : ACode := .seq (.region [o9 2 (.box 2 30 (.t 0)), o9 3 (.box 2 30 (.t 1)), o9 4 (.mv (.c (.bool false)))] none) <| .seq (.region [o9 5 (.fa 0 (.t 2)), o9 6 (.load false 1 (.t 5)), o9 7 (.fa 0 (.t 3)), o9 8 (.load false
 1 (.t 7)), o9 9 (.call 41 [.t 6, .t 8, .c (.func 42 [])]), m9 10 9, ⟨some 11, .fa 1 (.t 2), some (10, true), []⟩, ⟨some 12, .load false 1 (.t 11), some (10, true), []⟩, ⟨some 13, .fa 1 (.t 3), some (10, true), []⟩, ⟨some 14, .load false 1
 (.t 13), some (10, true), []⟩, ⟨some 15, .call 43 [.t 12, .t 14], some (10, true), []⟩, o9 16 (.pick (.t 10) (.t 15) (.c (.bool false))), m9 4 16] none) <| .ret
abbrev n_revision_Same : Nat := 21
theorem b_revision_Same : bodyOf prog 21 [1000000] = some (c_revision_Same, [.t 4], 17) := by kernel_rfl
def c_revision_Open : ACode := .seq (.region [o9 2 (.alloc 2 30 (.agg [.nil, .nil])), o9 3 (.mv (.c (.int .i64 0)))] none) <| .seq (.seq (.region [m9 5 0, o9 6 (.call 44 [.t 5]), m9 4 6] none) <| .seq (.region [m9 7 4, o9 8 (.bin .neq (.t
 7) (.c (.int .i64 0)))] none) <| .cond (.t 8) (.seq (.region [o9 9 (.build [.nil, .nil] []), m9 10 4, ⟨none, .store 2 (.t 2) (.t 9), none, []⟩, m9 3 10] none) <| .ret) <| .skip) <| .seq (.region [m9 11 0, o9 12 (.build [.nil, .nil] [(0,
 1, .t 11)]), o9 13 (.call 31 [.t 12, .c (.nil)]), ⟨none, .store 2 (.t 2) (.t 13), none, []⟩, o9 3 (.mv (.c (.int .i64 0)))] none) <| .ret
abbrev n_revision_Open : Nat := 22
theorem b_revision_Open : bodyOf prog 22 [1000000] = some (c_revision_Open, [.c 2 true 2, .t 3], 14) := by kernel_rfl
def c_flow_Account : ACode := .seq (.region [o9 2 (.alloc 4 41 (.agg [.int .i64 0, .nil, .nil, .nil])), o9 3 (.mv (.c (.nil))), o9 4 (.mv (.c (.nil))), o9 5 (.mv (.c (.nil)))] none) <| .seq (.region [m9 10 0, o9 11 (.call 45 [.t 10]), m9 9
 11, o9 12 (.ext (.t 9) 0), o9 13 (.ext (.t 9) 1), o9 14 (.ext (.t 9) 2), m9 6 12, m9 7 13, m9 8 14] none) <| .seq (.region [m9 15 0, o9 16 (.call 20 [.t 15, .c (.int .i64 20)]), m9 17 0, m9 18 6, o9 19 (.call 46 [.t 17, .t 18]), m9 20 0,
 m9 21 7, o9 22 (.call 46 [.t 20, .t 21]), m9 23 0, m9 24 8, o9 25 (.call 46 [.t 23, .t 24]), o9 26 (.build [.int .i64 0, .nil, .nil, .nil] [(0, 1, .t 16), (1, 1, .t 19), (2, 1, .t 22), (3, 1, .t 25)]), m9 27 6, m9 28 7, m9 29 8, ⟨none,
 .store 4 (.t 2) (.t 26), none, []⟩, m9 3 27, m9 4 28, m9 5 29] none) <| .ret
abbrev n_flow_Account : Nat := 23
theorem b_flow_Account : bodyOf prog 23 [1000000] = some (c_flow_Account, [.c 2 true 4, .t 3, .t 4, .t 5], 30) := by kernel_rfl
def c_ref31_File : ACode := .seq (.region [o9 2 (.box 2 30 (.t 0)), o9 3 (.box 6 37 (.t 1)), o9 4 (.alloc 2 30 (.agg [.nil, .nil])), o9 5 (.mv (.c (.int .i64 0)))] none) <| .seq (.seq (.region [o9 10 (.load true 2 (.t 2)), o9 11 (.call 47
 [.t 10]), o9 12 (.bin .neq (.t 11) (.c (.int .i64 0)))] none) <| .cond (.t 12) (.seq (.region [o9 13 (.build [.nil, .nil] []), ⟨none, .store 2 (.t 4) (.t 13), none, []⟩, o9 5 (.mv (.c (.int .i64 50)))] none) <| .ret) <| .skip) <| .seq
 (.seq (.region [o9 14 (.fa 0 (.t 2)), o9 15 (.load false 1 (.t 14)), o9 16 (.load true 6 (.t 3)), o9 17 (.call 48 [.t 15, .t 16]), m9 6 17] none) <| .seq (.region [m9 18 6, o9 19 (.bin .neq (.t 18) (.c (.int .i64 0)))] none) <| .cond (.t
 19) (.seq (.region [o9 20 (.build [.nil, .nil] []), m9 21 6, ⟨none, .store 2 (.t 4) (.t 20), none, []⟩, m9 5 21] none) <| .ret) <| .skip) <| .seq (.region [o9 22 (.load true 2 (.t 2)), o9 23 (.call 49 [.t 22]), o9 7 (.alloc 2 30 (.agg
 [.nil, .nil])), ⟨none, .store 2 (.t 7) (.t 23), none, []⟩] none) <| .seq (.region [o9 8 (.mv (.c (.int .i64 0)))] none) <| .seq (.block 0 <| .loop <| .seq (.seq (.hregion [⟨1, o9 25 (.fa 1 (.t 2))⟩, h9 2 26 (.load false 1 (.t 25)) [1], h9
 3 27 (.len (.t 26)) [2,1], ⟨0, m9 24 8⟩, h9 4 28 (.bin .lss (.t 24) (.t 27)) [0,3,2,1], h9 5 29 (.mv (.t 28)) [4,0,3,2,1], ⟨12, ⟨some 36, .fa 0 (.t 3), some (29, true), [5, 4, 0, 3, 2, 1]⟩⟩, ⟨13, ⟨some 37, .load false 1 (.t 36), some (29,
 true), [12, 5, 4, 0, 3, 2, 1]⟩⟩, ⟨8, ⟨some 32, .mv (.t 8), some (29, true), [5, 4, 0, 3, 2, 1]⟩⟩, ⟨6, ⟨some 30, .fa 1 (.t 2), some (29, true), [5, 4, 0, 3, 2, 1]⟩⟩, ⟨7, ⟨some 31, .load false 1 (.t 30), some (29, true), [6, 5, 4, 0, 3, 2,
 1]⟩⟩, ⟨9, ⟨some 33, .ixs 6 (.t 31) (.t 32), some (29, true), [7, 8, 5, 6, 4, 0, 3, 2, 1]⟩⟩, ⟨10, ⟨some 34, .fa 0 (.t 33), some (29, true), [9, 5, 7, 8, 6, 4, 0, 3, 2, 1]⟩⟩, ⟨11, ⟨some 35, .load false 1 (.t 34), some (29, true), [10, 5, 9,
 7, 8, 6, 4, 0, 3, 2, 1]⟩⟩, ⟨14, ⟨some 38, .bin .lss (.t 35) (.t 37), some (29, true), [11, 13, 5, 10, 9, 7, 8, 6, 4, 0, 3, 2, 1, 12]⟩⟩, h9 15 39 (.pick (.t 29) (.t 38) (.c (.bool false))) [5,14,4,0,3,2,1,11,13,10,9,7,8,6,12]]) <| .cond
 (.t 39) (.skip) <| .exit 0) <| .block 1 <| .region [m9 40 8, o9 41 (.bin .add (.t 40) (.c (.int .i64 1))), m9 8 41] none) <| .seq (.seq (.hregion [⟨1, o9 43 (.fa 1 (.t 2))⟩, h9 2 44 (.load false 1 (.t 43)) [1], h9 3 45 (.len (.t 44))
 [2,1], ⟨0, m9 42 8⟩, h9 4 46 (.bin .lss (.t 42) (.t 45)) [0,3,2,1], h9 5 47 (.mv (.t 46)) [4,0,3,2,1], ⟨12, ⟨some 54, .fa 0 (.t 3), some (47, true), [5, 4, 0, 3, 2, 1]⟩⟩, ⟨13, ⟨some 55, .load false 1 (.t 54), some (47, true), [12, 5, 4,
 0, 3, 2, 1]⟩⟩, ⟨8, ⟨some 50, .mv (.t 8), some (47, true), [5, 4, 0, 3, 2, 1]⟩⟩, ⟨6, ⟨some 48, .fa 1 (.t 2), some (47, true), [5, 4, 0, 3, 2, 1]⟩⟩, ⟨7, ⟨some 49, .load false 1 (.t 48), some (47, true), [6, 5, 4, 0, 3, 2, 1]⟩⟩, ⟨9, ⟨some
 51, .ixs 6 (.t 49) (.t 50), some (47, true), [7, 8, 5, 6, 4, 0, 3, 2, 1]⟩⟩, ⟨10, ⟨some 52, .fa 0 (.t 51), some (47, true), [9, 5, 7, 8, 6, 4, 0, 3, 2, 1]⟩⟩, ⟨11, ⟨some 53, .load false 1 (.t 52), some (47, true), [10, 5, 9, 7, 8, 6, 4, 0,
 3, 2, 1]⟩⟩, ⟨14, ⟨some 56, .bin .eql (.t 53) (.t 55), some (47, true), [11, 13, 5, 10, 9, 7, 8, 6, 4, 0, 3, 2, 1, 12]⟩⟩, h9 15 57 (.pick (.t 47) (.t 56) (.c (.bool false))) [5,14,4,0,3,2,1,11,13,10,9,7,8,6,12]]) <| .cond (.t 57) (.seq
 (.seq (.hregion [⟨5, o9 63 (.load true 6 (.t 3))⟩, ⟨2, m9 60 8⟩, ⟨0, o9 58 (.fa 1 (.t 2))⟩, h9 1 59 (.load false 1 (.t 58)) [0], h9 3 61 (.ixs 6 (.t 59) (.t 60)) [1,2,0], h9 4 62 (.load true 6 (.t 61)) [3,1,2,0], h9 6 64 (.eqs true [0, 0,
 0, 0, 0, 0] (.t 62) (.t 63)) [4,5,3,1,2,0]]) <| .cond (.t 64) (.seq (.region [o9 65 (.build [.nil, .nil] []), ⟨none, .store 2 (.t 4) (.t 65), none, []⟩, o9 5 (.mv (.c (.int .i64 46)))] none) <| .ret) <| .skip) <| .seq (.region [o9 66
 (.load true 2 (.t 7)), ⟨none, .store 2 (.t 4) (.t 66), none, []⟩, o9 5 (.mv (.c (.int .i64 0)))] none) <| .ret) <| .skip) <| .seq (.seq (.region [o9 67 (.fa 1 (.t 2)), o9 68 (.load false 1 (.t 67)), o9 69 (.len (.t 68)), o9 70 (.bin .eql
 (.t 69) (.c (.int .i64 4096)))] none) <| .cond (.t 70) (.seq (.region [o9 71 (.build [.nil, .nil] []), ⟨none, .store 2 (.t 4) (.t 71), none, []⟩, o9 5 (.mv (.c (.int .i64 10)))] none) <| .ret) <| .skip) <| .seq (.region [o9 9 (.mv (.c
 (.nil)))] none) <| .seq (.hregion [⟨11, m9 83 8⟩, ⟨9, o9 81 (.fa 1 (.t 2))⟩, h9 10 82 (.load false 1 (.t 81)) [9], h9 12 84 (.slc 6 (.t 82) (some (.t 83)) none) [10,11,9], ⟨6, o9 78 (.load true 6 (.t 3))⟩, h9 7 79 (.lit false 6 37 [.t
 78]) [6], ⟨3, m9 75 8⟩, ⟨1, o9 73 (.fa 1 (.t 2))⟩, h9 2 74 (.load false 1 (.t 73)) [1], h9 4 76 (.slc 6 (.t 74) none (some (.t 75))) [2,3,1], ⟨0, m9 72 9⟩, h9 5 77 (.app 6 48 37 (.t 72) (.t 76)) [0,4,2,3,1], h9 8 80 (.app 6 48 37 (.t 77)
 (.t 79)) [5,7,0,4,2,3,1,6], h9 13 85 (.app 6 48 37 (.t 80) (.t 84)) [8,12,5,7,0,4,2,3,1,6,10,11,9], h9 14 9 (.mv (.t 85)) [13,0,1,2,3,4,5,6,7,8,9,10,11,12]]) <| .seq (.region [m9 86 9, o9 87 (.fa 1 (.t 7)), ⟨none, .store 1 (.t 87) (.t
 86), none, []⟩] none) <| .seq (.region [o9 88 (.load true 2 (.t 7)), ⟨none, .store 2 (.t 4) (.t 88), none, []⟩, o9 5 (.mv (.c (.int .i64 0)))] none) <| .ret
abbrev n_ref31_File : Nat := 24
theorem b_ref31_File : bodyOf prog 24 [1000000] = some (c_ref31_File, [.c 4 true 2, .t 5], 89) := by kernel_rfl
def c_flow_Bounds : ACode := .seq (.region [o9 4 (.alloc 2 35 (.agg [.int .i64 0, .int .i64 0]))] none) <| .seq (.seq (.region [m9 5 0, o9 6 (.call 20 [.t 5, .c (.int .i64 4)])] none) <| .block 0 <| .seq (.region [o9 8 (.bin .eql (.t 6)
 (.c (.int .i64 0))), m9 7 8] none) <| .cond (.t 7) (.seq (.region [m9 9 1, m9 10 1, o9 11 (.build [.int .i64 0, .int .i64 0] [(0, 1, .t 9), (1, 1, .t 10)]), ⟨none, .store 2 (.t 4) (.t 11), none, []⟩] none) <| .ret) <| .seq (.region [o9 13
 (.bin .eql (.t 6) (.c (.int .i64 1))), m9 12 13] none) <| .cond (.t 12) (.seq (.region [m9 14 1, m9 15 0, o9 16 (.call 20 [.t 15, .c (.int .i64 30)]), o9 17 (.bin .add (.t 14) (.t 16)), o9 18 (.build [.int .i64 0, .int .i64 0] [(0, 1, .c
 (.int .i64 0)), (1, 1, .t 17)]), ⟨none, .store 2 (.t 4) (.t 18), none, []⟩] none) <| .ret) <| .skip) <| .seq (.region [m9 19 1, m9 20 0, m9 21 1, o9 22 (.mnx false (.t 21) [.c (.int .i64 6)]), o9 23 (.bin .add (.t 22) (.c (.int .i64 1))),
 o9 24 (.call 20 [.t 20, .t 23]), o9 25 (.bin .sub (.t 19) (.t 24)), m9 26 1, m9 27 0, o9 28 (.call 20 [.t 27, .c (.int .i64 6)]), o9 29 (.bin .add (.t 26) (.t 28)), o9 30 (.build [.int .i64 0, .int .i64 0] [(0, 1, .t 25), (1, 1, .t 29)]),
 ⟨none, .store 2 (.t 4) (.t 30), none, []⟩] none) <| .ret
abbrev n_flow_Bounds : Nat := 25
theorem b_flow_Bounds : bodyOf prog 25 [1000000] = some (c_flow_Bounds, [.c 4 true 2], 31) := by kernel_rfl
def c_revision_Check : ACode := .seq (.region [o9 1 (.box 2 30 (.t 0)), o9 2 (.mv (.c (.int .i64 0)))] none) <| .seq (.seq (.region [o9 7 (.fa 0 (.t 1)), o9 8 (.load false 1 (.t 7)), o9 9 (.call 44 [.t 8]), m9 3 9] none) <| .seq (.region
 [m9 10 3, o9 11 (.bin .neq (.t 10) (.c (.int .i64 0)))] none) <| .cond (.t 11) (.seq (.region [m9 12 3, m9 2 12] none) <| .ret) <| .skip) <| .seq (.seq (.region [o9 13 (.fa 1 (.t 1)), o9 14 (.load false 1 (.t 13)), o9 15 (.len (.t 14)),
 o9 16 (.bin .gtr (.t 15) (.c (.int .i64 4096)))] none) <| .cond (.t 16) (.seq (.region [o9 2 (.mv (.c (.int .i64 10)))] none) <| .ret) <| .skip) <| .seq (.seq (.region [o9 17 (.fa 1 (.t 1)), o9 18 (.load false 1 (.t 17)), o9 19 (.len (.t
 18)), o9 20 (.mv (.c (.int .i64 0)))] none) <| .block 0 <| .loop <| .seq (.region [o9 21 (.bin .lss (.t 20) (.t 19))] none) <| .seq (.cond (.t 21) (.skip) <| .exit 0) <| .seq (.block 1 <| .seq (.region [m9 22 20, o9 23 (.ixs 6 (.t 18) (.t
 20)), o9 24 (.load true 6 (.t 23)), o9 5 (.alloc 6 37 (.agg [.int .i64 0, .int .i64 0, .int .i64 0, .int .i64 0, .int .i64 0, .int .i64 0])), m9 4 22, ⟨none, .store 6 (.t 5) (.t 24), none, []⟩] none) <| .seq (.seq (.region [o9 25 (.load
 true 6 (.t 5)), o9 26 (.call 27 [.t 25]), o9 27 (.un .not (.t 26))] none) <| .cond (.t 27) (.seq (.region [o9 2 (.mv (.c (.int .i64 3)))] none) <| .ret) <| .skip) <| .seq (.seq (.hregion [⟨0, m9 28 4⟩, h9 1 29 (.bin .gtr (.t 28) (.c (.int
 .i64 0))) [0], h9 2 30 (.mv (.t 29)) [1,0], ⟨7, ⟨some 35, .mv (.t 4), some (30, true), [2, 1, 0]⟩⟩, ⟨8, ⟨some 36, .bin .sub (.t 35) (.c (.int .i64 1)), some (30, true), [7, 2, 1, 0]⟩⟩, ⟨5, ⟨some 33, .fa 1 (.t 1), some (30, true), [2, 1,
 0]⟩⟩, ⟨6, ⟨some 34, .load false 1 (.t 33), some (30, true), [5, 2, 1, 0]⟩⟩, ⟨9, ⟨some 37, .ixs 6 (.t 34) (.t 36), some (30, true), [6, 8, 2, 5, 1, 0, 7]⟩⟩, ⟨10, ⟨some 38, .fa 0 (.t 37), some (30, true), [9, 2, 6, 8, 5, 1, 0, 7]⟩⟩, ⟨11,
 ⟨some 39, .load false 1 (.t 38), some (30, true), [10, 2, 9, 6, 8, 5, 1, 0, 7]⟩⟩, ⟨3, ⟨some 31, .fa 0 (.t 5), some (30, true), [2, 1, 0]⟩⟩, ⟨4, ⟨some 32, .load false 1 (.t 31), some (30, true), [3, 2, 1, 0]⟩⟩, ⟨12, ⟨some 40, .bin .leq (.t
 32) (.t 39), some (30, true), [4, 11, 2, 3, 1, 0, 10, 9, 6, 8, 5, 7]⟩⟩, h9 13 41 (.pick (.t 30) (.t 40) (.c (.bool false))) [2,12,1,0,4,11,3,10,9,6,8,5,7]]) <| .cond (.t 41) (.seq (.region [o9 2 (.mv (.c (.int .i64 4)))] none) <| .ret) <|
 .skip) <| .seq (.region [o9 42 (.fa 0 (.t 1)), o9 43 (.load false 1 (.t 42)), o9 44 (.load true 6 (.t 5)), o9 45 (.call 28 [.t 43, .t 44]), m9 6 45] none) <| .seq (.region [m9 46 6, o9 47 (.bin .neq (.t 46) (.c (.int .i64 0)))] none) <|
 .cond (.t 47) (.seq (.region [m9 48 6, m9 2 48] none) <| .ret) <| .skip) <| .region [o9 49 (.bin .add (.t 20) (.c (.int .i64 1))), m9 20 49] none) <| .seq (.region [o9 2 (.mv (.c (.int .i64 0)))] none) <| .ret
abbrev n_revision_Check : Nat := 26
theorem b_revision_Check : bodyOf prog 26 [1000000] = some (c_revision_Check, [.t 2], 50) := by kernel_rfl
def c_revision_numbered : ACode := .seq (.region [o9 1 (.box 6 37 (.t 0)), o9 2 (.mv (.c (.bool false)))] none) <| .seq (.region [o9 3 (.fa 0 (.t 1)), o9 4 (.load false 1 (.t 3)), o9 5 (.bin .geq (.t 4) (.c (.int .i64 1))), m9 6 5, ⟨some
 7, .fa 0 (.t 1), some (6, true), []⟩, ⟨some 8, .load false 1 (.t 7), some (6, true), []⟩, ⟨some 9, .bin .leq (.t 8) (.c (.int .i64 1073741824)), some (6, true), []⟩, o9 10 (.pick (.t 6) (.t 9) (.c (.bool false))), m9 2 10] none) <| .ret
abbrev n_revision_numbered : Nat := 27
theorem b_revision_numbered : bodyOf prog 27 [1000000] = some (c_revision_numbered, [.t 2], 11) := by kernel_rfl
def c_revision_report : ACode := .seq (.region [o9 3 (.box 6 37 (.t 1)), o9 4 (.mv (.c (.int .i64 0)))] none) <| .seq (.seq (.region [o9 7 (.fa 1 (.t 3)), o9 8 (.load false 1 (.t 7)), o9 9 (.bin .lss (.t 8) (.c (.int .i64 0))), m9 10 9,
 ⟨some 11, .fa 1 (.t 3), some (10, false), []⟩, ⟨some 12, .load false 1 (.t 11), some (10, false), []⟩, ⟨some 13, .mv (.t 0), some (10, false), []⟩, ⟨some 14, .len (.t 13), some (10, false), []⟩, ⟨some 15, .bin .geq (.t 12) (.t 14), some
 (10, false), []⟩, o9 16 (.pick (.t 10) (.c (.bool true)) (.t 15))] none) <| .cond (.t 16) (.seq (.region [o9 4 (.mv (.c (.int .i64 47)))] none) <| .ret) <| .skip) <| .seq (.seq (.region [o9 17 (.fa 2 (.t 3)), o9 18 (.load false 1 (.t
 17)), o9 19 (.bin .lss (.t 18) (.c (.int .i64 1))), m9 20 19, ⟨some 21, .fa 2 (.t 3), some (20, false), []⟩, ⟨some 22, .load false 1 (.t 21), some (20, false), []⟩, ⟨some 23, .bin .gtr (.t 22) (.c (.int .i64 3)), some (20, false), []⟩, o9
 24 (.pick (.t 20) (.c (.bool true)) (.t 23))] none) <| .cond (.t 24) (.seq (.region [o9 4 (.mv (.c (.int .i64 5)))] none) <| .ret) <| .skip) <| .seq (.region [m9 25 0, o9 26 (.fa 1 (.t 3)), o9 27 (.load false 1 (.t 26)), o9 28 (.ixs 4 (.t
 25) (.t 27)), o9 29 (.load true 4 (.t 28)), o9 5 (.alloc 4 41 (.agg [.int .i64 0, .nil, .nil, .nil])), ⟨none, .store 4 (.t 5) (.t 29), none, []⟩] none) <| .seq (.region [o9 30 (.fa 0 (.t 5)), o9 31 (.load false 1 (.t 30)), o9 32 (.fa 2
 (.t 5)), o9 33 (.load false 1 (.t 32)), o9 34 (.len (.t 33)), o9 35 (.bin .add (.t 31) (.t 34)), o9 36 (.bin .sub (.t 35) (.c (.int .i64 1))), m9 6 36] none) <| .seq (.seq (.region [o9 37 (.fa 2 (.t 3)), o9 38 (.load false 1 (.t 37)), o9
 39 (.bin .eql (.t 38) (.c (.int .i64 1)))] none) <| .cond (.t 39) (.region [m9 40 6, o9 41 (.bin .add (.t 40) (.c (.int .i64 1))), m9 6 41] none) <| .skip) <| .seq (.block 0 <| .seq (.region [o9 43 (.fa 3 (.t 3)), o9 44 (.load false 1 (.t
 43)), o9 45 (.fa 0 (.t 5)), o9 46 (.load false 1 (.t 45)), o9 47 (.bin .lss (.t 44) (.t 46)), m9 48 47, ⟨some 49, .fa 3 (.t 3), some (48, false), []⟩, ⟨some 50, .load false 1 (.t 49), some (48, false), []⟩, ⟨some 51, .mv (.t 6), some (48,
 false), []⟩, ⟨some 52, .bin .gtr (.t 50) (.t 51), some (48, false), []⟩, o9 53 (.pick (.t 48) (.c (.bool true)) (.t 52)), m9 42 53] none) <| .cond (.t 42) (.seq (.region [o9 4 (.mv (.c (.int .i64 6)))] none) <| .ret) <| .seq (.region [o9
 55 (.fa 4 (.t 3)), o9 56 (.fa 0 (.t 55)), o9 57 (.load false 1 (.t 56)), o9 58 (.bin .lss (.t 57) (.c (.int .i64 0))), m9 59 58, ⟨some 60, .fa 4 (.t 3), some (59, false), []⟩, ⟨some 61, .fa 1 (.t 60), some (59, false), []⟩, ⟨some 62,
 .load false 1 (.t 61), some (59, false), []⟩, ⟨some 63, .bin .gtr (.t 62) (.c (.int .i64 274877906944)), some (59, false), []⟩, o9 64 (.pick (.t 59) (.c (.bool true)) (.t 63)), m9 54 64] none) <| .cond (.t 54) (.seq (.region [o9 4 (.mv
 (.c (.int .i64 1)))] none) <| .ret) <| .seq (.region [o9 66 (.fa 4 (.t 3)), o9 67 (.fa 0 (.t 66)), o9 68 (.load false 1 (.t 67)), o9 69 (.fa 4 (.t 3)), o9 70 (.fa 1 (.t 69)), o9 71 (.load false 1 (.t 70)), o9 72 (.bin .gtr (.t 68) (.t
 71)), m9 65 72] none) <| .cond (.t 65) (.seq (.region [o9 4 (.mv (.c (.int .i64 48)))] none) <| .ret) <| .skip) <| .seq (.region [o9 4 (.mv (.c (.int .i64 0)))] none) <| .ret
abbrev n_revision_report : Nat := 28
theorem b_revision_report : bodyOf prog 28 [1000000] = some (c_revision_report, [.t 4], 73) := by kernel_rfl
def c_revision_place__Report : ACode := .seq (.region [o9 4 (.box 6 37 (.t 1)), o9 5 (.box 1 73 (.t 2)), o9 6 (.mv (.c (.int .i64 0))), o9 7 (.mv (.c (.bool false)))] none) <| .seq (.region [m9 8 0, o9 9 (.load false 1 (.t 5)), o9 10
 (.load true 6 (.t 4)), o9 11 (.callv (.t 9) [.t 10]), o9 12 (.mkf 51 [.t 5]), o9 13 (.call 50 [.t 8, .t 11, .t 12]), o9 14 (.ext (.t 13) 0), o9 15 (.ext (.t 13) 1), m9 6 14, m9 7 15] none) <| .ret
abbrev n_revision_place__Report : Nat := 29
theorem b_revision_place__Report : bodyOf prog 29 [1000000] = some (c_revision_place__Report, [.t 6, .t 7], 16) := by kernel_rfl
def c_revision_File_1 : ACode := .seq (.region [o9 1 (.box 6 37 (.t 0)), o9 2 (.mv (.c (.int .i64 0)))] none) <| .seq (.region [o9 3 (.fa 0 (.t 1)), o9 4 (.load false 1 (.t 3)), m9 2 4] none) <| .ret
abbrev n_revision_File_1 : Nat := 30
theorem b_revision_File_1 : bodyOf prog 30 [1000000] = some (c_revision_File_1, [.t 2], 5) := by kernel_rfl
def c_revision_copied : ACode := .seq (.region [o9 2 (.box 2 30 (.t 0)), o9 4 (.alloc 2 30 (.agg [.nil, .nil]))] none) <| .seq (.region [m9 8 1, o9 9 (.call 52 [.t 8]), o9 10 (.build [.nil, .nil] [(1, 1, .t 9)]), o9 5 (.alloc 2 30 (.agg
 [.nil, .nil])), ⟨none, .store 2 (.t 5) (.t 10), none, []⟩] none) <| .seq (.seq (.region [o9 11 (.fa 0 (.t 2)), o9 12 (.load false 1 (.t 11)), o9 13 (.len (.t 12)), o9 14 (.mv (.c (.int .i64 0)))] none) <| .block 0 <| .loop <| .seq
 (.region [o9 15 (.bin .lss (.t 14) (.t 13))] none) <| .seq (.cond (.t 15) (.skip) <| .exit 0) <| .seq (.block 1 <| .seq (.region [o9 16 (.ixs 4 (.t 12) (.t 14)), o9 17 (.load true 4 (.t 16)), o9 7 (.alloc 4 41 (.agg [.int .i64 0, .nil,
 .nil, .nil])), ⟨none, .store 4 (.t 7) (.t 17), none, []⟩] none) <| .hregion [⟨2, o9 20 (.load true 4 (.t 7))⟩, ⟨0, o9 18 (.fa 0 (.t 5))⟩, h9 1 19 (.load false 1 (.t 18)) [0], h9 3 21 (.call 33 [.t 20]) [2], h9 4 22 (.lit false 4 41 [.t
 21]) [3,2], h9 5 23 (.app 4 80 41 (.t 19) (.t 22)) [1,4,3,0,2], h9 6 24 (.fa 0 (.t 5)) [0,1,2,3,4,5], ⟨7, ⟨none, .store 1 (.t 24) (.t 23), none, [6, 5, 0, 1, 2, 3, 4]⟩⟩]) <| .region [o9 25 (.bin .add (.t 14) (.c (.int .i64 1))), m9 14 25]
 none) <| .seq (.region [o9 26 (.load true 2 (.t 5)), ⟨none, .store 2 (.t 4) (.t 26), none, []⟩] none) <| .ret
abbrev n_revision_copied : Nat := 31
theorem b_revision_copied : bodyOf prog 31 [1000000] = some (c_revision_copied, [.c 4 true 2], 27) := by kernel_rfl
def c_revision_inserted__Report : ACode := .seq (.region [o9 5 (.box 6 37 (.t 2)), o9 6 (.mv (.c (.nil)))] none) <| .seq (.hregion [⟨3, o9 10 (.load true 6 (.t 5))⟩, h9 4 11 (.lit false 6 37 [.t 10]) [3], ⟨2, m9 9 1⟩, ⟨0, m9 7 0⟩, h9 1 8
 (.call 52 [.t 7]) [0], h9 5 12 (.call 53 [.t 8, .t 9, .t 11]) [1,2,4,0,3], h9 6 6 (.mv (.t 12)) [5,0,1,2,3,4]]) <| .ret
abbrev n_revision_inserted__Report : Nat := 32
theorem b_revision_inserted__Report : bodyOf prog 32 [1000000] = some (c_revision_inserted__Report, [.t 6], 13) := by kernel_rfl
def c_revision_twin : ACode := .seq (.region [o9 1 (.box 4 41 (.t 0)), o9 2 (.alloc 4 41 (.agg [.int .i64 0, .nil, .nil, .nil]))] none) <| .seq (.hregion [⟨8, o9 11 (.fa 3 (.t 1))⟩, h9 9 12 (.load false 1 (.t 11)) [8], ⟨5, o9 8 (.fa 2 (.t
 1))⟩, h9 6 9 (.load false 1 (.t 8)) [5], ⟨2, o9 5 (.fa 1 (.t 1))⟩, h9 3 6 (.load false 1 (.t 5)) [2], ⟨0, o9 3 (.fa 0 (.t 1))⟩, h9 1 4 (.load false 1 (.t 3)) [0], h9 4 7 (.call 54 [.t 6]) [3,2], h9 7 10 (.call 54 [.t 9]) [6,4,5,3,2], h9
 10 13 (.call 54 [.t 12]) [9,7,8,6,4,5,3,2], h9 11 14 (.build [.int .i64 0, .nil, .nil, .nil] [(0, 1, .t 4), (1, 1, .t 7), (2, 1, .t 10), (3, 1, .t 13)]) [1,4,7,10,0,3,2,6,5,9,8], ⟨12, ⟨none, .store 4 (.t 2) (.t 14), none, [11, 10, 0, 1,
 2, 3, 4, 5, 6, 7, 8, 9]⟩⟩]) <| .ret
abbrev n_revision_twin : Nat := 33
theorem b_revision_twin : bodyOf prog 33 [1000000] = some (c_revision_twin, [.c 2 true 4], 15) := by kernel_rfl
def c_ledger_Fix : ACode := .seq (.region [o9 4 (.box 4 41 (.t 0)), o9 7 (.box 2 35 (.t 3)), o9 8 (.alloc 4 41 (.agg [.int .i64 0, .nil, .nil, .nil])), o9 9 (.mv (.c (.int .i64 0)))] none) <| .seq (.seq (.region [o9 13 (.load true 4 (.t
 4)), o9 14 (.call 55 [.t 13]), m9 10 14] none) <| .seq (.region [m9 15 10, o9 16 (.bin .neq (.t 15) (.c (.int .i64 0)))] none) <| .cond (.t 16) (.seq (.region [o9 17 (.build [.int .i64 0, .nil, .nil, .nil] []), m9 18 10, ⟨none, .store 4
 (.t 8) (.t 17), none, []⟩, m9 9 18] none) <| .ret) <| .skip) <| .seq (.seq (.region [m9 19 1, o9 20 (.bin .lss (.t 19) (.c (.int .i64 1))), m9 21 20, ⟨some 22, .mv (.t 1), some (21, false), []⟩, ⟨some 23, .bin .gtr (.t 22) (.c (.int .i64
 3)), some (21, false), []⟩, o9 24 (.pick (.t 21) (.c (.bool true)) (.t 23))] none) <| .cond (.t 24) (.seq (.region [o9 25 (.build [.int .i64 0, .nil, .nil, .nil] []), ⟨none, .store 4 (.t 8) (.t 25), none, []⟩, o9 9 (.mv (.c (.int .i64
 5)))] none) <| .ret) <| .skip) <| .seq (.region [o9 26 (.load true 4 (.t 4)), o9 27 (.call 56 [.t 26]), o9 11 (.alloc 4 41 (.agg [.int .i64 0, .nil, .nil, .nil])), ⟨none, .store 4 (.t 11) (.t 27), none, []⟩] none) <| .seq (.region [o9 28
 (.call 57 [.t 11]), m9 29 1, o9 30 (.bin .sub (.t 29) (.c (.int .i64 1))), o9 31 (.pu (.aidx false 1 3) [.t 28, .t 30]), m9 12 31] none) <| .seq (.seq (.region [m9 32 2, o9 33 (.fa 0 (.t 4)), o9 34 (.load false 1 (.t 33)), o9 35 (.bin
 .lss (.t 32) (.t 34)), m9 36 35, ⟨some 37, .mv (.t 2), some (36, false), []⟩, ⟨some 38, .fa 0 (.t 4), some (36, false), []⟩, ⟨some 39, .load false 1 (.t 38), some (36, false), []⟩, ⟨some 40, .mv (.t 12), some (36, false), []⟩, ⟨some 41,
 .len (.t 40), some (36, false), []⟩, ⟨some 42, .bin .add (.t 39) (.t 41), some (36, false), []⟩, ⟨some 43, .bin .geq (.t 37) (.t 42), some (36, false), []⟩, o9 44 (.pick (.t 36) (.c (.bool true)) (.t 43))] none) <| .cond (.t 44) (.seq
 (.region [o9 45 (.build [.int .i64 0, .nil, .nil, .nil] []), ⟨none, .store 4 (.t 8) (.t 45), none, []⟩, o9 9 (.mv (.c (.int .i64 6)))] none) <| .ret) <| .skip) <| .seq (.seq (.hregion [⟨8, o9 54 (.fa 1 (.t 7))⟩, h9 9 55 (.load false 1 (.t
 54)) [8], ⟨6, o9 52 (.fa 0 (.t 7))⟩, h9 7 53 (.load false 1 (.t 52)) [6], ⟨2, o9 48 (.fa 0 (.t 4))⟩, h9 3 49 (.load false 1 (.t 48)) [2], ⟨1, m9 47 2⟩, h9 4 50 (.bin .sub (.t 47) (.t 49)) [1,3,2], ⟨0, m9 46 12⟩, h9 5 51 (.ixs 2 (.t 46)
 (.t 50)) [0,4,1,3,2], h9 10 56 (.call 58 [.t 51, .t 53, .t 55]) [5,7,9,0,4,1,3,2,6,8], h9 11 57 (.un .not (.t 56)) [10,5,7,9,0,4,1,3,2,6,8]]) <| .cond (.t 57) (.seq (.region [o9 58 (.build [.int .i64 0, .nil, .nil, .nil] []), ⟨none,
 .store 4 (.t 8) (.t 58), none, []⟩, o9 9 (.mv (.c (.int .i64 48)))] none) <| .ret) <| .skip) <| .seq (.region [o9 59 (.load true 4 (.t 11)), ⟨none, .store 4 (.t 8) (.t 59), none, []⟩, o9 9 (.mv (.c (.int .i64 0)))] none) <| .ret
abbrev n_ledger_Fix : Nat := 34
theorem b_ledger_Fix : bodyOf prog 34 [1000000] = some (c_ledger_Fix, [.c 8 true 4, .t 9], 60) := by kernel_rfl
def c_ledger_Tighten : ACode := .seq (.region [o9 1 (.box 4 41 (.t 0)), o9 2 (.alloc 4 41 (.agg [.int .i64 0, .nil, .nil, .nil])), o9 3 (.alloc 1 44 (.int .i64 0))] none) <| .seq (.seq (.region [o9 14 (.load true 4 (.t 1)), o9 15 (.call 55
 [.t 14]), m9 4 15] none) <| .seq (.region [m9 16 4, o9 17 (.bin .neq (.t 16) (.c (.int .i64 0)))] none) <| .cond (.t 17) (.seq (.region [o9 18 (.build [.int .i64 0, .nil, .nil, .nil] []), m9 19 4, ⟨none, .store 4 (.t 2) (.t 18), none,
 []⟩, ⟨none, .store 1 (.t 3) (.t 19), none, []⟩] none) <| .ret) <| .skip) <| .seq (.region [o9 20 (.load true 4 (.t 1)), o9 21 (.call 56 [.t 20]), o9 5 (.alloc 4 41 (.agg [.int .i64 0, .nil, .nil, .nil])), ⟨none, .store 4 (.t 5) (.t 21),
 none, []⟩] none) <| .seq (.seq (.region [o9 22 (.lit false 1 4 [.c (.bool false), .c (.bool true)]), o9 23 (.len (.t 22)), o9 24 (.mv (.c (.int .i64 0)))] none) <| .block 0 <| .loop <| .seq (.region [o9 25 (.bin .lss (.t 24) (.t 23))]
 none) <| .seq (.cond (.t 25) (.skip) <| .exit 0) <| .seq (.block 1 <| .seq (.region [o9 26 (.ixs 1 (.t 22) (.t 24)), o9 27 (.load false 1 (.t 26)), o9 7 (.alloc 1 4 (.bool false)), ⟨none, .store 1 (.t 7) (.t 27), none, []⟩] none) <| .seq
 (.region [o9 28 (.fa 2 (.t 1)), o9 29 (.load false 1 (.t 28)), o9 30 (.len (.t 29)), o9 31 (.load false 1 (.t 7)), o9 32 (.call 59 [.t 30, .t 31])] none) <| .block 2 <| .rangeF (ItC prog) (.t 32) 33 8 <| .block 3 <| .seq (.region [m9 34
 8, o9 35 (.load false 1 (.t 7)), o9 36 (.call 60 [.t 5, .t 34, .t 35]), o9 37 (.un .not (.t 36))] none) <| .cond (.t 37) (.seq (.region [o9 38 (.build [.int .i64 0, .nil, .nil, .nil] []), ⟨none, .store 4 (.t 2) (.t 38), none, []⟩, ⟨none,
 .store 1 (.t 3) (.c (.int .i64 48)), none, []⟩] none) <| .ret) <| .skip) <| .region [o9 39 (.bin .add (.t 24) (.c (.int .i64 1))), m9 24 39] none) <| .seq (.seq (.region [o9 40 (.fa 2 (.t 1)), o9 41 (.load false 1 (.t 40)), o9 42 (.len
 (.t 41)), o9 43 (.call 59 [.t 42, .c (.bool false)])] none) <| .block 4 <| .rangeF (ItC prog) (.t 43) 44 9 <| .block 5 <| .seq (.hregion [⟨18, m9 63 9⟩, ⟨16, o9 61 (.fa 3 (.t 1))⟩, h9 17 62 (.load false 1 (.t 61)) [16], h9 19 64 (.ixs 2
 (.t 62) (.t 63)) [17,18,16], h9 20 65 (.load true 2 (.t 64)) [19,17,18,16], ⟨13, m9 58 9⟩, ⟨11, o9 56 (.fa 2 (.t 1))⟩, h9 12 57 (.load false 1 (.t 56)) [11], h9 14 59 (.ixs 2 (.t 57) (.t 58)) [12,13,11], h9 15 60 (.load true 2 (.t 59))
 [14,12,13,11], ⟨7, m9 52 9⟩, h9 8 53 (.bin .add (.t 52) (.c (.int .i64 1))) [7], ⟨5, o9 50 (.fa 1 (.t 5))⟩, h9 6 51 (.load false 1 (.t 50)) [5], h9 9 54 (.ixs 2 (.t 51) (.t 53)) [6,8,5,7], h9 10 55 (.load true 2 (.t 54)) [9,6,8,5,7], ⟨2,
 m9 47 9⟩, ⟨0, o9 45 (.fa 1 (.t 5))⟩, h9 1 46 (.load false 1 (.t 45)) [0], h9 3 48 (.ixs 2 (.t 46) (.t 47)) [1,2,0], h9 4 49 (.load true 2 (.t 48)) [3,1,2,0], ⟨24, o9 13 (.alloc 2 35 (.agg [.int .i64 0, .int .i64 0]))⟩, ⟨23, o9 12 (.alloc
 2 35 (.agg [.int .i64 0, .int .i64 0]))⟩, ⟨22, o9 11 (.alloc 2 35 (.agg [.int .i64 0, .int .i64 0]))⟩, ⟨21, o9 10 (.alloc 2 35 (.agg [.int .i64 0, .int .i64 0]))⟩, ⟨25, ⟨none, .store 2 (.t 10) (.t 49), none, [21, 4, 0, 1, 2, 3, 22, 23,
 24]⟩⟩, ⟨26, ⟨none, .store 2 (.t 11) (.t 55), none, [22, 10, 25, 0, 1, 2, 3, 4, 5, 6, 7, 8, 9, 21, 23, 24]⟩⟩, ⟨27, ⟨none, .store 2 (.t 12) (.t 60), none, [23, 15, 26, 0, 1, 2, 3, 4, 5, 6, 7, 8, 9, 10, 11, 12, 13, 14, 21, 22, 24, 25]⟩⟩,
 ⟨28, ⟨none, .store 2 (.t 13) (.t 65), none, [24, 20, 27, 0, 1, 2, 3, 4, 5, 6, 7, 8, 9, 10, 11, 12, 13, 14, 15, 16, 17, 18, 19, 21, 22, 23, 25, 26]⟩⟩]) <| .seq (.hregion [⟨17, o9 83 (.fa 1 (.t 13))⟩, h9 18 84 (.load false 1 (.t 83)) [17],
 ⟨14, o9 80 (.fa 0 (.t 10))⟩, h9 15 81 (.load false 1 (.t 80)) [14], ⟨12, o9 78 (.fa 1 (.t 11))⟩, h9 13 79 (.load false 1 (.t 78)) [12], h9 16 82 (.bin .sub (.t 79) (.t 81)) [13,15,12,14], h9 19 85 (.bin .add (.t 82) (.t 84))
 [16,18,13,15,12,14,17], ⟨9, o9 75 (.fa 0 (.t 13))⟩, h9 10 76 (.load false 1 (.t 75)) [9], ⟨6, o9 72 (.fa 1 (.t 10))⟩, h9 7 73 (.load false 1 (.t 72)) [6], ⟨4, o9 70 (.fa 0 (.t 11))⟩, h9 5 71 (.load false 1 (.t 70)) [4], h9 8 74 (.bin .sub
 (.t 71) (.t 73)) [5,7,4,6], h9 11 77 (.bin .add (.t 74) (.t 76)) [8,10,5,7,4,6,9], ⟨2, m9 68 9⟩, ⟨0, o9 66 (.fa 2 (.t 5))⟩, h9 1 67 (.load false 1 (.t 66)) [0], h9 3 69 (.ixs 2 (.t 67) (.t 68)) [1,2,0], h9 20 86 (.call 58 [.t 69, .t 77,
 .t 85]) [3,11,19,1,2,0,8,10,5,7,4,6,9,16,18,13,15,12,14,17], h9 21 87 (.un .not (.t 86)) [20,3,11,19,1,2,0,8,10,5,7,4,6,9,16,18,13,15,12,14,17], h9 22 88 (.mv (.t 87)) [21,20,3,11,19,1,2,0,8,10,5,7,4,6,9,16,18,13,15,12,14,17], ⟨40, ⟨some
 106, .fa 0 (.t 11), some (88, false), [22, 21, 20, 3, 11, 19, 1, 2, 0, 8, 10, 5, 7, 4, 6, 9, 16, 18, 13, 15, 12, 14, 17]⟩⟩, ⟨41, ⟨some 107, .load false 1 (.t 106), some (88, false), [40, 22, 21, 20, 3, 11, 19, 1, 2, 0, 8, 10, 5, 7, 4, 6,
 9, 16, 18, 13, 15, 12, 14, 17]⟩⟩, ⟨37, ⟨some 103, .fa 1 (.t 12), some (88, false), [22, 21, 20, 3, 11, 19, 1, 2, 0, 8, 10, 5, 7, 4, 6, 9, 16, 18, 13, 15, 12, 14, 17]⟩⟩, ⟨38, ⟨some 104, .load false 1 (.t 103), some (88, false), [37, 22,
 21, 20, 3, 11, 19, 1, 2, 0, 8, 10, 5, 7, 4, 6, 9, 16, 18, 13, 15, 12, 14, 17]⟩⟩, ⟨35, ⟨some 101, .fa 1 (.t 10), some (88, false), [22, 21, 20, 3, 11, 19, 1, 2, 0, 8, 10, 5, 7, 4, 6, 9, 16, 18, 13, 15, 12, 14, 17]⟩⟩, ⟨36, ⟨some 102, .load
 false 1 (.t 101), some (88, false), [35, 22, 21, 20, 3, 11, 19, 1, 2, 0, 8, 10, 5, 7, 4, 6, 9, 16, 18, 13, 15, 12, 14, 17]⟩⟩, ⟨39, ⟨some 105, .bin .add (.t 102) (.t 104), some (88, false), [36, 38, 22, 35, 21, 20, 3, 11, 19, 1, 2, 0, 8,
 10, 5, 7, 4, 6, 9, 16, 18, 13, 15, 12, 14, 17, 37]⟩⟩, ⟨42, ⟨some 108, .bin .sub (.t 105) (.t 107), some (88, false), [39, 41, 22, 36, 38, 35, 21, 20, 3, 11, 19, 1, 2, 0, 8, 10, 5, 7, 4, 6, 9, 16, 18, 13, 15, 12, 14, 17, 37, 40]⟩⟩, ⟨32,
 ⟨some 98, .fa 1 (.t 11), some (88, false), [22, 21, 20, 3, 11, 19, 1, 2, 0, 8, 10, 5, 7, 4, 6, 9, 16, 18, 13, 15, 12, 14, 17]⟩⟩, ⟨33, ⟨some 99, .load false 1 (.t 98), some (88, false), [32, 22, 21, 20, 3, 11, 19, 1, 2, 0, 8, 10, 5, 7, 4,
 6, 9, 16, 18, 13, 15, 12, 14, 17]⟩⟩, ⟨29, ⟨some 95, .fa 0 (.t 12), some (88, false), [22, 21, 20, 3, 11, 19, 1, 2, 0, 8, 10, 5, 7, 4, 6, 9, 16, 18, 13, 15, 12, 14, 17]⟩⟩, ⟨30, ⟨some 96, .load false 1 (.t 95), some (88, false), [29, 22,
 21, 20, 3, 11, 19, 1, 2, 0, 8, 10, 5, 7, 4, 6, 9, 16, 18, 13, 15, 12, 14, 17]⟩⟩, ⟨27, ⟨some 93, .fa 0 (.t 10), some (88, false), [22, 21, 20, 3, 11, 19, 1, 2, 0, 8, 10, 5, 7, 4, 6, 9, 16, 18, 13, 15, 12, 14, 17]⟩⟩, ⟨28, ⟨some 94, .load
 false 1 (.t 93), some (88, false), [27, 22, 21, 20, 3, 11, 19, 1, 2, 0, 8, 10, 5, 7, 4, 6, 9, 16, 18, 13, 15, 12, 14, 17]⟩⟩, ⟨31, ⟨some 97, .bin .add (.t 94) (.t 96), some (88, false), [28, 30, 22, 27, 21, 20, 3, 11, 19, 1, 2, 0, 8, 10,
 5, 7, 4, 6, 9, 16, 18, 13, 15, 12, 14, 17, 29]⟩⟩, ⟨34, ⟨some 100, .bin .sub (.t 97) (.t 99), some (88, false), [31, 33, 22, 28, 30, 27, 21, 20, 3, 11, 19, 1, 2, 0, 8, 10, 5, 7, 4, 6, 9, 16, 18, 13, 15, 12, 14, 17, 29, 32]⟩⟩, ⟨25, ⟨some
 91, .mv (.t 9), some (88, false), [22, 21, 20, 3, 11, 19, 1, 2, 0, 8, 10, 5, 7, 4, 6, 9, 16, 18, 13, 15, 12, 14, 17]⟩⟩, ⟨23, ⟨some 89, .fa 3 (.t 5), some (88, false), [22, 21, 20, 3, 11, 19, 1, 2, 0, 8, 10, 5, 7, 4, 6, 9, 16, 18, 13, 15,
 12, 14, 17]⟩⟩, ⟨24, ⟨some 90, .load false 1 (.t 89), some (88, false), [23, 22, 21, 20, 3, 11, 19, 1, 2, 0, 8, 10, 5, 7, 4, 6, 9, 16, 18, 13, 15, 12, 14, 17]⟩⟩, ⟨26, ⟨some 92, .ixs 2 (.t 90) (.t 91), some (88, false), [24, 25, 22, 23, 21,
 20, 3, 11, 19, 1, 2, 0, 8, 10, 5, 7, 4, 6, 9, 16, 18, 13, 15, 12, 14, 17]⟩⟩, ⟨43, ⟨some 109, .call 58 [.t 92, .t 100, .t 108], some (88, false), [26, 34, 42, 22, 24, 25, 23, 21, 20, 3, 11, 19, 1, 2, 0, 8, 10, 5, 7, 4, 6, 9, 16, 18, 13,
 15, 12, 14, 17, 31, 33, 28, 30, 27, 29, 32, 39, 41, 36, 38, 35, 37, 40]⟩⟩, ⟨44, ⟨some 110, .un .not (.t 109), some (88, false), [43, 22, 26, 34, 42, 24, 25, 23, 21, 20, 3, 11, 19, 1, 2, 0, 8, 10, 5, 7, 4, 6, 9, 16, 18, 13, 15, 12, 14, 17,
 31, 33, 28, 30, 27, 29, 32, 39, 41, 36, 38, 35, 37, 40]⟩⟩, h9 45 111 (.pick (.t 88) (.c (.bool true)) (.t 110))
 [22,44,21,20,3,11,19,1,2,0,8,10,5,7,4,6,9,16,18,13,15,12,14,17,43,26,34,42,24,25,23,31,33,28,30,27,29,32,39,41,36,38,35,37,40]]) <| .cond (.t 111) (.seq (.region [o9 112 (.build [.int .i64 0, .nil, .nil, .nil] []), ⟨none, .store 4 (.t 2)
 (.t 112), none, []⟩, ⟨none, .store 1 (.t 3) (.c (.int .i64 48)), none, []⟩] none) <| .ret) <| .skip) <| .seq (.region [o9 113 (.load true 4 (.t 5)), ⟨none, .store 4 (.t 2) (.t 113), none, []⟩, ⟨none, .store 1 (.t 3) (.c (.int .i64 0)),
 none, []⟩] none) <| .ret
abbrev n_ledger_Tighten : Nat := 35
theorem b_ledger_Tighten : bodyOf prog 35 [1000000] = some (c_ledger_Tighten, [.c 2 true 4, .c 3 false 1], 114) := by kernel_rfl
def c_ref30_Check : ACode := .seq (.region [o9 1 (.box 4 41 (.t 0)), o9 2 (.mv (.c (.int .i64 0)))] none) <| .seq (.seq (.region [o9 8 (.load true 4 (.t 1)), o9 9 (.call 61 [.t 8]), m9 3 9] none) <| .seq (.region [m9 10 3, o9 11 (.bin .neq
 (.t 10) (.c (.int .i64 0)))] none) <| .cond (.t 11) (.seq (.region [m9 12 3, m9 2 12] none) <| .ret) <| .skip) <| .seq (.seq (.region [o9 13 (.fa 1 (.t 1)), o9 14 (.load false 1 (.t 13)), o9 15 (.fa 2 (.t 1)), o9 16 (.load false 1 (.t
 15)), o9 17 (.fa 3 (.t 1)), o9 18 (.load false 1 (.t 17)), o9 19 (.lit false 1 39 [.t 14, .t 16, .t 18]), o9 20 (.len (.t 19)), o9 21 (.mv (.c (.int .i64 0)))] none) <| .block 0 <| .loop <| .seq (.region [o9 22 (.bin .lss (.t 21) (.t
 20))] none) <| .seq (.cond (.t 22) (.skip) <| .exit 0) <| .seq (.block 1 <| .seq (.region [o9 23 (.ixs 1 (.t 19) (.t 21)), o9 24 (.load false 1 (.t 23)), m9 5 24] none) <| .seq (.region [m9 25 5, o9 26 (.len (.t 25)), o9 27 (.mv (.c (.int
 .i64 0)))] none) <| .block 2 <| .loop <| .seq (.region [o9 28 (.bin .lss (.t 27) (.t 26))] none) <| .seq (.cond (.t 28) (.skip) <| .exit 2) <| .seq (.block 3 <| .seq (.region [o9 29 (.ixs 2 (.t 25) (.t 27)), o9 30 (.load true 2 (.t 29)),
 o9 7 (.alloc 2 35 (.agg [.int .i64 0, .int .i64 0])), ⟨none, .store 2 (.t 7) (.t 30), none, []⟩] none) <| .seq (.seq (.region [o9 31 (.fa 0 (.t 7)), o9 32 (.load false 1 (.t 31)), o9 33 (.bin .lss (.t 32) (.c (.int .i64 0))), m9 34 33,
 ⟨some 35, .fa 1 (.t 7), some (34, false), []⟩, ⟨some 36, .load false 1 (.t 35), some (34, false), []⟩, ⟨some 37, .bin .gtr (.t 36) (.c (.int .i64 274877906944)), some (34, false), []⟩, o9 38 (.pick (.t 34) (.c (.bool true)) (.t 37))]
 none) <| .cond (.t 38) (.seq (.region [o9 2 (.mv (.c (.int .i64 1)))] none) <| .ret) <| .skip) <| .seq (.region [o9 39 (.fa 0 (.t 7)), o9 40 (.load false 1 (.t 39)), o9 41 (.fa 1 (.t 7)), o9 42 (.load false 1 (.t 41)), o9 43 (.bin .gtr
 (.t 40) (.t 42))] none) <| .cond (.t 43) (.seq (.region [o9 2 (.mv (.c (.int .i64 48)))] none) <| .ret) <| .skip) <| .region [o9 44 (.bin .add (.t 27) (.c (.int .i64 1))), m9 27 44] none) <| .region [o9 45 (.bin .add (.t 21) (.c (.int
 .i64 1))), m9 21 45] none) <| .seq (.region [o9 2 (.mv (.c (.int .i64 0)))] none) <| .ret
abbrev n_ref30_Check : Nat := 36
theorem b_ref30_Check : bodyOf prog 36 [1000000] = some (c_ref30_Check, [.t 2], 46) := by kernel_rfl
def c_mk_Mod : ACode := .seq (.region [o9 4 (.mv (.c (.int .i64 0)))] none) <| .seq (.region [m9 5 0, m9 6 1, o9 7 (.bin .rem (.t 5) (.t 6)), m9 8 1, o9 9 (.bin .add (.t 7) (.t 8)), m9 10 1, o9 11 (.bin .rem (.t 9) (.t 10)), m9 4 11] none)
 <| .ret
abbrev n_mk_Mod : Nat := 40
theorem b_mk_Mod : bodyOf prog 40 [] = some (c_mk_Mod, [.t 4], 12) := by kernel_rfl
def c_slices_EqualFunc__Account : ACode := .seq (.region [o9 6 (.mv (.c (.bool false)))] none) <| .seq (.seq (.region [m9 10 0, o9 11 (.len (.t 10)), m9 12 1, o9 13 (.len (.t 12)), o9 14 (.bin .neq (.t 11) (.t 13))] none) <| .cond (.t 14)
 (.seq (.region [o9 6 (.mv (.c (.bool false)))] none) <| .ret) <| .skip) <| .seq (.seq (.region [m9 15 0, o9 16 (.len (.t 15)), o9 17 (.mv (.c (.int .i64 0)))] none) <| .block 0 <| .loop <| .seq (.region [o9 18 (.bin .lss (.t 17) (.t 16))]
 none) <| .seq (.cond (.t 18) (.skip) <| .exit 0) <| .seq (.block 1 <| .seq (.region [m9 19 17, o9 20 (.ixs 4 (.t 15) (.t 17)), o9 21 (.load true 4 (.t 20)), o9 8 (.alloc 4 41 (.agg [.int .i64 0, .nil, .nil, .nil])), m9 7 19, ⟨none, .store
 4 (.t 8) (.t 21), none, []⟩] none) <| .seq (.region [m9 22 1, m9 23 7, o9 24 (.ixs 4 (.t 22) (.t 23)), o9 25 (.load true 4 (.t 24)), o9 9 (.alloc 4 41 (.agg [.int .i64 0, .nil, .nil, .nil])), ⟨none, .store 4 (.t 9) (.t 25), none, []⟩]
 none) <| .seq (.region [m9 26 2, o9 27 (.load true 4 (.t 8)), o9 28 (.load true 4 (.t 9)), o9 29 (.callv (.t 26) [.t 27, .t 28]), o9 30 (.un .not (.t 29))] none) <| .cond (.t 30) (.seq (.region [o9 6 (.mv (.c (.bool false)))] none) <|
 .ret) <| .skip) <| .region [o9 31 (.bin .add (.t 17) (.c (.int .i64 1))), m9 17 31] none) <| .seq (.region [o9 6 (.mv (.c (.bool true)))] none) <| .ret
abbrev n_slices_EqualFunc__Account : Nat := 41
theorem b_slices_EqualFunc__Account : bodyOf prog 41 [1000000] = some (c_slices_EqualFunc__Account, [.t 6], 32) := by kernel_rfl
def c_ledger_Same : ACode := .seq (.region [o9 2 (.box 4 41 (.t 0)), o9 3 (.box 4 41 (.t 1)), o9 4 (.mv (.c (.bool false)))] none) <| .seq (.region [o9 5 (.fa 0 (.t 2)), o9 6 (.load false 1 (.t 5)), o9 7 (.fa 0 (.t 3)), o9 8 (.load false 1
 (.t 7)), o9 9 (.bin .eql (.t 6) (.t 8)), m9 10 9, ⟨some 11, .fa 1 (.t 2), some (10, true), []⟩, ⟨some 12, .load false 1 (.t 11), some (10, true), []⟩, ⟨some 13, .fa 1 (.t 3), some (10, true), []⟩, ⟨some 14, .load false 1 (.t 13), some
 (10, true), []⟩, ⟨some 15, .call 62 [.t 12, .t 14], some (10, true), []⟩, o9 16 (.pick (.t 10) (.t 15) (.c (.bool false))), m9 17 16, ⟨some 18, .fa 2 (.t 2), some (17, true), []⟩, ⟨some 19, .load false 1 (.t 18), some (17, true), []⟩,
 ⟨some 20, .fa 2 (.t 3), some (17, true), []⟩, ⟨some 21, .load false 1 (.t 20), some (17, true), []⟩, ⟨some 22, .call 62 [.t 19, .t 21], some (17, true), []⟩, o9 23 (.pick (.t 17) (.t 22) (.c (.bool false))), m9 24 23, ⟨some 25, .fa 3 (.t
 2), some (24, true), []⟩, ⟨some 26, .load false 1 (.t 25), some (24, true), []⟩, ⟨some 27, .fa 3 (.t 3), some (24, true), []⟩, ⟨some 28, .load false 1 (.t 27), some (24, true), []⟩, ⟨some 29, .call 62 [.t 26, .t 28], some (24, true), []⟩,
 o9 30 (.pick (.t 24) (.t 29) (.c (.bool false))), m9 4 30] none) <| .ret
abbrev n_ledger_Same : Nat := 42
theorem b_ledger_Same : bodyOf prog 42 [1000000] = some (c_ledger_Same, [.t 4], 31) := by kernel_rfl
def c_slices_Equal__Report : ACode := .seq (.region [o9 4 (.mv (.c (.bool false)))] none) <| .seq (.seq (.region [m9 6 0, o9 7 (.len (.t 6)), m9 8 1, o9 9 (.len (.t 8)), o9 10 (.bin .neq (.t 7) (.t 9))] none) <| .cond (.t 10) (.seq
 (.region [o9 4 (.mv (.c (.bool false)))] none) <| .ret) <| .skip) <| .seq (.seq (.region [m9 11 0, o9 12 (.len (.t 11)), o9 13 (.mv (.c (.int .i64 0)))] none) <| .block 0 <| .loop <| .seq (.region [o9 14 (.bin .lss (.t 13) (.t 12))] none)
 <| .seq (.cond (.t 14) (.skip) <| .exit 0) <| .seq (.block 1 <| .seq (.region [m9 15 13, m9 5 15] none) <| .seq (.hregion [⟨5, m9 21 5⟩, ⟨4, m9 20 1⟩, h9 6 22 (.ixs 6 (.t 20) (.t 21)) [4,5], h9 7 23 (.load true 6 (.t 22)) [6,4,5], ⟨1, m9
 17 5⟩, ⟨0, m9 16 0⟩, h9 2 18 (.ixs 6 (.t 16) (.t 17)) [0,1], h9 3 19 (.load true 6 (.t 18)) [2,0,1], h9 8 24 (.eqs true [0, 0, 0, 0, 0, 0] (.t 19) (.t 23)) [3,7,2,0,1,6,4,5]]) <| .cond (.t 24) (.seq (.region [o9 4 (.mv (.c (.bool
 false)))] none) <| .ret) <| .skip) <| .region [o9 25 (.bin .add (.t 13) (.c (.int .i64 1))), m9 13 25] none) <| .seq (.region [o9 4 (.mv (.c (.bool true)))] none) <| .ret
abbrev n_slices_Equal__Report : Nat := 43
theorem b_slices_Equal__Report : bodyOf prog 43 [1000000] = some (c_slices_Equal__Report, [.t 4], 26) := by kernel_rfl
def c_revision_opened : ACode := .seq (.region [o9 2 (.mv (.c (.int .i64 0)))] none) <| .seq (.seq (.region [m9 6 0, o9 7 (.len (.t 6)), o9 8 (.bin .gtr (.t 7) (.c (.int .i64 16)))] none) <| .cond (.t 8) (.seq (.region [o9 2 (.mv (.c (.int
 .i64 10)))] none) <| .ret) <| .skip) <| .seq (.seq (.region [m9 9 0, o9 10 (.len (.t 9)), o9 11 (.mv (.c (.int .i64 0)))] none) <| .block 0 <| .loop <| .seq (.region [o9 12 (.bin .lss (.t 11) (.t 10))] none) <| .seq (.cond (.t 12) (.skip)
 <| .exit 0) <| .seq (.block 1 <| .seq (.region [o9 13 (.ixs 4 (.t 9) (.t 11)), o9 14 (.load true 4 (.t 13)), o9 4 (.alloc 4 41 (.agg [.int .i64 0, .nil, .nil, .nil])), ⟨none, .store 4 (.t 4) (.t 14), none, []⟩] none) <| .seq (.region [o9
 15 (.load true 4 (.t 4)), o9 16 (.call 55 [.t 15]), m9 5 16] none) <| .seq (.region [m9 17 5, o9 18 (.bin .neq (.t 17) (.c (.int .i64 0)))] none) <| .cond (.t 18) (.seq (.region [m9 19 5, m9 2 19] none) <| .ret) <| .skip) <| .region [o9
 20 (.bin .add (.t 11) (.c (.int .i64 1))), m9 11 20] none) <| .seq (.region [o9 2 (.mv (.c (.int .i64 0)))] none) <| .ret
abbrev n_revision_opened : Nat := 44
theorem b_revision_opened : bodyOf prog 44 [1000000] = some (c_revision_opened, [.t 2], 21) := by kernel_rfl
def c_flow_History : ACode := .seq (.region [o9 2 (.mv (.c (.nil))), o9 3 (.mv (.c (.nil))), o9 4 (.mv (.c (.nil)))] none) <| .seq (.region [m9 12 0, o9 13 (.call 20 [.t 12, .c (.int .i64 40)]), o9 14 (.lit true 1 3 [.t 13]), m9 5 14]
 none) <| .seq (.region [o9 6 (.mv (.c (.nil))), o9 7 (.mv (.c (.nil)))] none) <| .seq (.seq (.region [m9 15 0, o9 16 (.call 20 [.t 15, .c (.int .i64 5)]), m9 8 16] none) <| .block 0 <| .loop <| .seq (.seq (.region [m9 17 8, o9 18 (.bin
 .geq (.t 17) (.c (.int .i64 0)))] none) <| .cond (.t 18) (.skip) <| .exit 0) <| .seq (.block 1 <| .seq (.region [m9 21 0, o9 22 (.call 20 [.t 21, .c (.int .i64 10)]), m9 9 22] none) <| .seq (.region [m9 23 5, m9 24 5, o9 25 (.len (.t
 24)), o9 26 (.bin .sub (.t 25) (.c (.int .i64 1))), o9 27 (.ixs 1 (.t 23) (.t 26)), o9 28 (.load false 1 (.t 27)), m9 10 28] none) <| .seq (.region [m9 29 0, m9 30 10, m9 31 9, o9 32 (.bin .add (.t 30) (.t 31)), o9 33 (.mnx false (.t 32)
 [.c (.int .i64 12)]), o9 34 (.bin .add (.t 33) (.c (.int .i64 1))), o9 35 (.call 20 [.t 29, .t 34]), m9 11 35] none) <| .region [m9 36 6, m9 37 9, o9 38 (.lit false 1 3 [.t 37]), o9 39 (.app 1 8 3 (.t 36) (.t 38)), m9 40 7, m9 41 11, o9
 42 (.lit false 1 3 [.t 41]), o9 43 (.app 1 8 3 (.t 40) (.t 42)), m9 44 5, m9 45 10, m9 46 9, o9 47 (.bin .add (.t 45) (.t 46)), m9 48 11, o9 49 (.bin .sub (.t 47) (.t 48)), o9 50 (.lit false 1 3 [.t 49]), o9 51 (.app 1 8 3 (.t 44) (.t
 50)), m9 6 39, m9 7 43, m9 5 51] none) <| .region [m9 19 8, o9 20 (.bin .sub (.t 19) (.c (.int .i64 1))), m9 8 20] none) <| .seq (.region [m9 52 5, m9 53 6, m9 54 7, m9 2 52, m9 3 53, m9 4 54] none) <| .ret
abbrev n_flow_History : Nat := 45
theorem b_flow_History : bodyOf prog 45 [14, 1000000] = some (c_flow_History, [.t 2, .t 3, .t 4], 55) := by kernel_rfl
def c_flow_list : ACode := .seq (.region [o9 4 (.mv (.c (.nil)))] none) <| .seq (.region [o9 5 (.mv (.c (.nil)))] none) <| .seq (.seq (.region [m9 8 1, o9 9 (.len (.t 8)), o9 10 (.mv (.c (.int .i64 0)))] none) <| .block 0 <| .loop <| .seq
 (.region [o9 11 (.bin .lss (.t 10) (.t 9))] none) <| .seq (.cond (.t 11) (.skip) <| .exit 0) <| .seq (.block 1 <| .seq (.region [o9 12 (.ixs 1 (.t 8) (.t 10)), o9 13 (.load false 1 (.t 12)), m9 7 13] none) <| .region [m9 14 5, m9 15 0, m9
 16 7, o9 17 (.call 25 [.t 15, .t 16]), o9 18 (.lit false 2 35 [.t 17]), o9 19 (.app 2 16 35 (.t 14) (.t 18)), m9 5 19] none) <| .region [o9 20 (.bin .add (.t 10) (.c (.int .i64 1))), m9 10 20] none) <| .seq (.region [m9 21 5, m9 4 21]
 none) <| .ret
abbrev n_flow_list : Nat := 46
theorem b_flow_list : bodyOf prog 46 [1000000] = some (c_flow_list, [.t 4], 22) := by kernel_rfl
def c_ref31_Check : ACode := .seq (.region [o9 1 (.box 2 30 (.t 0)), o9 2 (.mv (.c (.int .i64 0)))] none) <| .seq (.seq (.region [o9 9 (.fa 0 (.t 1)), o9 10 (.load false 1 (.t 9)), o9 11 (.len (.t 10)), o9 12 (.bin .gtr (.t 11) (.c (.int
 .i64 16)))] none) <| .cond (.t 12) (.seq (.region [o9 2 (.mv (.c (.int .i64 10)))] none) <| .ret) <| .skip) <| .seq (.seq (.region [o9 13 (.fa 0 (.t 1)), o9 14 (.load false 1 (.t 13)), o9 15 (.len (.t 14)), o9 16 (.mv (.c (.int .i64 0)))]
 none) <| .block 0 <| .loop <| .seq (.region [o9 17 (.bin .lss (.t 16) (.t 15))] none) <| .seq (.cond (.t 17) (.skip) <| .exit 0) <| .seq (.block 1 <| .seq (.region [o9 18 (.ixs 4 (.t 14) (.t 16)), o9 19 (.load true 4 (.t 18)), o9 4
 (.alloc 4 41 (.agg [.int .i64 0, .nil, .nil, .nil])), ⟨none, .store 4 (.t 4) (.t 19), none, []⟩] none) <| .seq (.region [o9 20 (.load true 4 (.t 4)), o9 21 (.call 36 [.t 20]), m9 5 21] none) <| .seq (.region [m9 22 5, o9 23 (.bin .neq (.t
 22) (.c (.int .i64 0)))] none) <| .cond (.t 23) (.seq (.region [m9 24 5, m9 2 24] none) <| .ret) <| .skip) <| .region [o9 25 (.bin .add (.t 16) (.c (.int .i64 1))), m9 16 25] none) <| .seq (.seq (.region [o9 26 (.fa 1 (.t 1)), o9 27
 (.load false 1 (.t 26)), o9 28 (.len (.t 27)), o9 29 (.bin .gtr (.t 28) (.c (.int .i64 4096)))] none) <| .cond (.t 29) (.seq (.region [o9 2 (.mv (.c (.int .i64 10)))] none) <| .ret) <| .skip) <| .seq (.seq (.region [o9 30 (.fa 1 (.t 1)),
 o9 31 (.load false 1 (.t 30)), o9 32 (.len (.t 31)), o9 33 (.mv (.c (.int .i64 0)))] none) <| .block 2 <| .loop <| .seq (.region [o9 34 (.bin .lss (.t 33) (.t 32))] none) <| .seq (.cond (.t 34) (.skip) <| .exit 2) <| .seq (.block 3 <|
 .seq (.region [m9 35 33, o9 36 (.ixs 6 (.t 31) (.t 33)), o9 37 (.load true 6 (.t 36)), o9 7 (.alloc 6 37 (.agg [.int .i64 0, .int .i64 0, .int .i64 0, .int .i64 0, .int .i64 0, .int .i64 0])), m9 6 35, ⟨none, .store 6 (.t 7) (.t 37),
 none, []⟩] none) <| .seq (.seq (.region [o9 38 (.fa 0 (.t 7)), o9 39 (.load false 1 (.t 38)), o9 40 (.bin .lss (.t 39) (.c (.int .i64 1))), m9 41 40, ⟨some 42, .fa 0 (.t 7), some (41, false), []⟩, ⟨some 43, .load false 1 (.t 42), some
 (41, false), []⟩, ⟨some 44, .bin .gtr (.t 43) (.c (.int .i64 1073741824)), some (41, false), []⟩, o9 45 (.pick (.t 41) (.c (.bool true)) (.t 44))] none) <| .cond (.t 45) (.seq (.region [o9 2 (.mv (.c (.int .i64 3)))] none) <| .ret) <|
 .skip) <| .seq (.seq (.hregion [⟨0, m9 46 6⟩, h9 1 47 (.bin .gtr (.t 46) (.c (.int .i64 0))) [0], h9 2 48 (.mv (.t 47)) [1,0], ⟨7, ⟨some 53, .mv (.t 6), some (48, true), [2, 1, 0]⟩⟩, ⟨8, ⟨some 54, .bin .sub (.t 53) (.c (.int .i64 1)),
 some (48, true), [7, 2, 1, 0]⟩⟩, ⟨5, ⟨some 51, .fa 1 (.t 1), some (48, true), [2, 1, 0]⟩⟩, ⟨6, ⟨some 52, .load false 1 (.t 51), some (48, true), [5, 2, 1, 0]⟩⟩, ⟨9, ⟨some 55, .ixs 6 (.t 52) (.t 54), some (48, true), [6, 8, 2, 5, 1, 0,
 7]⟩⟩, ⟨10, ⟨some 56, .fa 0 (.t 55), some (48, true), [9, 2, 6, 8, 5, 1, 0, 7]⟩⟩, ⟨11, ⟨some 57, .load false 1 (.t 56), some (48, true), [10, 2, 9, 6, 8, 5, 1, 0, 7]⟩⟩, ⟨3, ⟨some 49, .fa 0 (.t 7), some (48, true), [2, 1, 0]⟩⟩, ⟨4, ⟨some
 50, .load false 1 (.t 49), some (48, true), [3, 2, 1, 0]⟩⟩, ⟨12, ⟨some 58, .bin .leq (.t 50) (.t 57), some (48, true), [4, 11, 2, 3, 1, 0, 10, 9, 6, 8, 5, 7]⟩⟩, h9 13 59 (.pick (.t 48) (.t 58) (.c (.bool false)))
 [2,12,1,0,4,11,3,10,9,6,8,5,7]]) <| .cond (.t 59) (.seq (.region [o9 2 (.mv (.c (.int .i64 4)))] none) <| .ret) <| .skip) <| .seq (.region [o9 60 (.fa 0 (.t 1)), o9 61 (.load false 1 (.t 60)), o9 62 (.load true 6 (.t 7)), o9 63 (.call 48
 [.t 61, .t 62]), m9 8 63] none) <| .seq (.region [m9 64 8, o9 65 (.bin .neq (.t 64) (.c (.int .i64 0)))] none) <| .cond (.t 65) (.seq (.region [m9 66 8, m9 2 66] none) <| .ret) <| .skip) <| .region [o9 67 (.bin .add (.t 33) (.c (.int .i64
 1))), m9 33 67] none) <| .seq (.region [o9 2 (.mv (.c (.int .i64 0)))] none) <| .ret
abbrev n_ref31_Check : Nat := 47
theorem b_ref31_Check : bodyOf prog 47 [1000000] = some (c_ref31_Check, [.t 2], 68) := by kernel_rfl
def c_ref31_fits : ACode := .seq (.region [o9 3 (.box 6 37 (.t 1)), o9 4 (.mv (.c (.int .i64 0)))] none) <| .seq (.seq (.region [o9 7 (.fa 0 (.t 3)), o9 8 (.load false 1 (.t 7)), o9 9 (.bin .lss (.t 8) (.c (.int .i64 1))), m9 10 9, ⟨some
 11, .fa 0 (.t 3), some (10, false), []⟩, ⟨some 12, .load false 1 (.t 11), some (10, false), []⟩, ⟨some 13, .bin .gtr (.t 12) (.c (.int .i64 1073741824)), some (10, false), []⟩, o9 14 (.pick (.t 10) (.c (.bool true)) (.t 13))] none) <|
 .cond (.t 14) (.seq (.region [o9 4 (.mv (.c (.int .i64 3)))] none) <| .ret) <| .skip) <| .seq (.seq (.region [o9 15 (.fa 1 (.t 3)), o9 16 (.load false 1 (.t 15)), o9 17 (.bin .lss (.t 16) (.c (.int .i64 0))), m9 18 17, ⟨some 19, .fa 1 (.t
 3), some (18, false), []⟩, ⟨some 20, .load false 1 (.t 19), some (18, false), []⟩, ⟨some 21, .mv (.t 0), some (18, false), []⟩, ⟨some 22, .len (.t 21), some (18, false), []⟩, ⟨some 23, .bin .geq (.t 20) (.t 22), some (18, false), []⟩, o9
 24 (.pick (.t 18) (.c (.bool true)) (.t 23))] none) <| .cond (.t 24) (.seq (.region [o9 4 (.mv (.c (.int .i64 47)))] none) <| .ret) <| .skip) <| .seq (.region [m9 25 0, o9 26 (.fa 1 (.t 3)), o9 27 (.load false 1 (.t 26)), o9 28 (.ixs 4
 (.t 25) (.t 27)), o9 29 (.load true 4 (.t 28)), o9 5 (.alloc 4 41 (.agg [.int .i64 0, .nil, .nil, .nil])), ⟨none, .store 4 (.t 5) (.t 29), none, []⟩] none) <| .seq (.region [o9 30 (.fa 2 (.t 5)), o9 31 (.load false 1 (.t 30)), o9 32 (.len
 (.t 31)), m9 6 32] none) <| .seq (.seq (.region [o9 33 (.fa 2 (.t 3)), o9 34 (.load false 1 (.t 33))] none) <| .block 0 <| .seq (.region [o9 36 (.bin .eql (.t 34) (.c (.int .i64 1))), m9 35 36] none) <| .cond (.t 35) (.region [m9 37 6, o9
 38 (.bin .add (.t 37) (.c (.int .i64 1))), m9 6 38] none) <| .seq (.seq (.region [o9 40 (.bin .eql (.t 34) (.c (.int .i64 2))), m9 39 40] none) <| .cond (.t 39) (.skip) <| .region [o9 41 (.bin .eql (.t 34) (.c (.int .i64 3))), m9 39 41]
 none) <| .cond (.t 39) (.skip) <| .seq (.region [o9 4 (.mv (.c (.int .i64 5)))] none) <| .ret) <| .seq (.seq (.region [o9 42 (.fa 3 (.t 3)), o9 43 (.load false 1 (.t 42)), o9 44 (.fa 0 (.t 5)), o9 45 (.load false 1 (.t 44)), o9 46 (.bin
 .lss (.t 43) (.t 45)), m9 47 46, ⟨some 48, .fa 3 (.t 3), some (47, false), []⟩, ⟨some 49, .load false 1 (.t 48), some (47, false), []⟩, ⟨some 50, .fa 0 (.t 5), some (47, false), []⟩, ⟨some 51, .load false 1 (.t 50), some (47, false), []⟩,
 ⟨some 52, .mv (.t 6), some (47, false), []⟩, ⟨some 53, .bin .add (.t 51) (.t 52), some (47, false), []⟩, ⟨some 54, .bin .geq (.t 49) (.t 53), some (47, false), []⟩, o9 55 (.pick (.t 47) (.c (.bool true)) (.t 54))] none) <| .cond (.t 55)
 (.seq (.region [o9 4 (.mv (.c (.int .i64 6)))] none) <| .ret) <| .skip) <| .seq (.seq (.region [o9 56 (.fa 4 (.t 3)), o9 57 (.fa 0 (.t 56)), o9 58 (.load false 1 (.t 57)), o9 59 (.bin .lss (.t 58) (.c (.int .i64 0))), m9 60 59, ⟨some 61,
 .fa 4 (.t 3), some (60, false), []⟩, ⟨some 62, .fa 0 (.t 61), some (60, false), []⟩, ⟨some 63, .load false 1 (.t 62), some (60, false), []⟩, ⟨some 64, .bin .gtr (.t 63) (.c (.int .i64 274877906944)), some (60, false), []⟩, o9 65 (.pick
 (.t 60) (.c (.bool true)) (.t 64)), m9 66 65, ⟨some 67, .fa 4 (.t 3), some (66, false), []⟩, ⟨some 68, .fa 1 (.t 67), some (66, false), []⟩, ⟨some 69, .load false 1 (.t 68), some (66, false), []⟩, ⟨some 70, .bin .lss (.t 69) (.c (.int
 .i64 0)), some (66, false), []⟩, o9 71 (.pick (.t 66) (.c (.bool true)) (.t 70)), m9 72 71, ⟨some 73, .fa 4 (.t 3), some (72, false), []⟩, ⟨some 74, .fa 1 (.t 73), some (72, false), []⟩, ⟨some 75, .load false 1 (.t 74), some (72, false),
 []⟩, ⟨some 76, .bin .gtr (.t 75) (.c (.int .i64 274877906944)), some (72, false), []⟩, o9 77 (.pick (.t 72) (.c (.bool true)) (.t 76))] none) <| .cond (.t 77) (.seq (.region [o9 4 (.mv (.c (.int .i64 1)))] none) <| .ret) <| .skip) <| .seq
 (.seq (.region [o9 78 (.fa 4 (.t 3)), o9 79 (.fa 0 (.t 78)), o9 80 (.load false 1 (.t 79)), o9 81 (.fa 4 (.t 3)), o9 82 (.fa 1 (.t 81)), o9 83 (.load false 1 (.t 82)), o9 84 (.bin .gtr (.t 80) (.t 83))] none) <| .cond (.t 84) (.seq
 (.region [o9 4 (.mv (.c (.int .i64 48)))] none) <| .ret) <| .skip) <| .seq (.region [o9 4 (.mv (.c (.int .i64 0)))] none) <| .ret
abbrev n_ref31_fits : Nat := 48
theorem b_ref31_fits : bodyOf prog 48 [1000000] = some (c_ref31_fits, [.t 4], 85) := by kernel_rfl
def c_ref31_Copy : ACode := .seq (.region [o9 1 (.box 2 30 (.t 0)), o9 2 (.alloc 2 30 (.agg [.nil, .nil]))] none) <| .seq (.region [o9 3 (.mv (.c (.nil)))] none) <| .seq (.seq (.region [o9 6 (.fa 0 (.t 1)), o9 7 (.load false 1 (.t 6)), o9
 8 (.len (.t 7)), o9 9 (.mv (.c (.int .i64 0)))] none) <| .block 0 <| .loop <| .seq (.region [o9 10 (.bin .lss (.t 9) (.t 8))] none) <| .seq (.cond (.t 10) (.skip) <| .exit 0) <| .seq (.block 1 <| .seq (.region [o9 11 (.ixs 4 (.t 7) (.t
 9)), o9 12 (.load true 4 (.t 11)), o9 5 (.alloc 4 41 (.agg [.int .i64 0, .nil, .nil, .nil])), ⟨none, .store 4 (.t 5) (.t 12), none, []⟩] none) <| .region [m9 13 3, o9 14 (.load true 4 (.t 5)), o9 15 (.call 63 [.t 14]), o9 16 (.lit false 4
 41 [.t 15]), o9 17 (.app 4 80 41 (.t 13) (.t 16)), m9 3 17] none) <| .region [o9 18 (.bin .add (.t 9) (.c (.int .i64 1))), m9 9 18] none) <| .seq (.region [m9 19 3, o9 20 (.fa 1 (.t 1)), o9 21 (.load false 1 (.t 20)), o9 22 (.app 6 48 37
 (.c (.nil)) (.t 21)), o9 23 (.build [.nil, .nil] [(0, 1, .t 19), (1, 1, .t 22)]), ⟨none, .store 2 (.t 2) (.t 23), none, []⟩] none) <| .ret
abbrev n_ref31_Copy : Nat := 49
theorem b_ref31_Copy : bodyOf prog 49 [1000000] = some (c_ref31_Copy, [.c 2 true 2], 24) := by kernel_rfl
def c_slices_BinarySearchFunc__int : ACode := .seq (.region [o9 6 (.mv (.c (.int .i64 0))), o9 7 (.mv (.c (.bool false)))] none) <| .seq (.region [m9 12 0, o9 13 (.len (.t 12)), m9 8 13] none) <| .seq (.region [m9 14 8, o9 9 (.mv (.c (.int
 .i64 0))), m9 10 14] none) <| .seq (.block 0 <| .loop <| .seq (.seq (.region [m9 15 9, m9 16 10, o9 17 (.bin .lss (.t 15) (.t 16))] none) <| .cond (.t 17) (.skip) <| .exit 0) <| .block 1 <| .seq (.region [m9 18 9, m9 19 10, o9 20 (.bin
 .add (.t 18) (.t 19)), o9 21 (.conv .u64 (.t 20)), o9 22 (.pu (.bit .shr) [.t 21, .c (.int .u64 1)]), o9 23 (.conv .i64 (.t 22)), m9 11 23] none) <| .seq (.region [m9 24 2, m9 25 0, m9 26 11, o9 27 (.ixs 6 (.t 25) (.t 26)), o9 28 (.load
 true 6 (.t 27)), m9 29 1, o9 30 (.callv (.t 24) [.t 28, .t 29]), o9 31 (.bin .lss (.t 30) (.c (.int .i64 0)))] none) <| .cond (.t 31) (.region [m9 32 11, o9 33 (.bin .add (.t 32) (.c (.int .i64 1))), m9 9 33] none) <| .region [m9 34 11,
 m9 10 34] none) <| .seq (.region [m9 35 9, m9 36 9, m9 37 8, o9 38 (.bin .lss (.t 36) (.t 37)), m9 39 38, ⟨some 40, .mv (.t 2), some (39, true), []⟩, ⟨some 41, .mv (.t 0), some (39, true), []⟩, ⟨some 42, .mv (.t 9), some (39, true), []⟩,
 ⟨some 43, .ixs 6 (.t 41) (.t 42), some (39, true), []⟩, ⟨some 44, .load true 6 (.t 43), some (39, true), []⟩, ⟨some 45, .mv (.t 1), some (39, true), []⟩, ⟨some 46, .callv (.t 40) [.t 44, .t 45], some (39, true), []⟩, ⟨some 47, .bin .eql
 (.t 46) (.c (.int .i64 0)), some (39, true), []⟩, o9 48 (.pick (.t 39) (.t 47) (.c (.bool false))), m9 6 35, m9 7 48] none) <| .ret
abbrev n_slices_BinarySearchFunc__int : Nat := 50
theorem b_slices_BinarySearchFunc__int : bodyOf prog 50 [1000000] = some (c_slices_BinarySearchFunc__int, [.t 6, .t 7], 49) := by kernel_rfl
def c_revision_place_1__Report : ACode := .seq (.region [o9 3 (.box 6 37 (.t 0)), o9 5 (.mv (.c (.int .i64 0)))] none) <| .seq (.region [o9 6 (.load false 1 (.t 2)), o9 7 (.load true 6 (.t 3)), o9 8 (.callv (.t 6) [.t 7]), m9 9 1, o9 10
 (.bin .sub (.t 8) (.t 9)), m9 5 10] none) <| .ret
abbrev n_revision_place_1__Report : Nat := 51
theorem b_revision_place_1__Report : bodyOf prog 51 [1000000] = some (c_revision_place_1__Report, [.t 5], 11) := by kernel_rfl
def c_slices_Clone__Report : ACode := .seq (.region [o9 2 (.newsl 6 37)] none) <| .seq (.seq (.region [m9 3 0, o9 4 (.isnil false (.t 3))] none) <| .cond (.t 4) (.seq (.region [o9 2 (.newsl 6 37)] none) <| .ret) <| .skip) <| .seq (.region
 [o9 5 (.lit true 6 37 []), m9 6 0, o9 7 (.app 6 48 37 (.t 5) (.t 6)), m9 2 7] none) <| .ret
abbrev n_slices_Clone__Report : Nat := 52
theorem b_slices_Clone__Report : bodyOf prog 52 [2, 5, 1000000] = some (c_slices_Clone__Report, [.t 2], 8) := by kernel_rfl
def c_slices_Insert__Report : ACode := .seq (.region [o9 6 (.mv (.c (.nil)))] none) <| .seq (.region [m9 10 0, m9 11 1, o9 12 (.slc 6 (.t 10) (some (.t 11)) none)] none) <| .seq (.region [m9 13 2, o9 14 (.len (.t 13)), m9 7 14] none) <|
 .seq (.seq (.region [m9 15 7, o9 16 (.bin .eql (.t 15) (.c (.int .i64 0)))] none) <| .cond (.t 16) (.seq (.region [m9 17 0, m9 6 17] none) <| .ret) <| .skip) <| .seq (.region [m9 18 0, o9 19 (.len (.t 18)), m9 8 19] none) <| .seq (.seq
 (.region [m9 20 1, m9 21 8, o9 22 (.bin .eql (.t 20) (.t 21))] none) <| .cond (.t 22) (.seq (.region [m9 23 0, m9 24 2, o9 25 (.app 6 48 37 (.t 23) (.t 24)), m9 6 25] none) <| .ret) <| .skip) <| .seq (.seq (.region [m9 26 8, m9 27 7, o9
 28 (.bin .add (.t 26) (.t 27)), m9 29 0, o9 30 (.pu .cap0 [.t 29]), o9 31 (.bin .gtr (.t 28) (.t 30))] none) <| .cond (.t 31) (.seq (.region [m9 32 0, m9 33 1, o9 34 (.slc 6 (.t 32) none (some (.t 33))), m9 35 8, m9 36 7, o9 37 (.bin .add
 (.t 35) (.t 36)), m9 38 1, o9 39 (.bin .sub (.t 37) (.t 38)), o9 40 (.appz 6 48 37 (.agg [.int .i64 0, .int .i64 0, .int .i64 0, .int .i64 0, .int .i64 0, .int .i64 0]) (.t 34) (.t 39)), m9 9 40] none) <| .seq (.region [m9 41 9, m9 42 1,
 o9 43 (.slc 6 (.t 41) (some (.t 42)) none), m9 44 2, o9 45 (.cpy 6 (.t 43) (.t 44))] none) <| .seq (.hregion [⟨6, m9 52 1⟩, ⟨5, m9 51 0⟩, h9 7 53 (.slc 6 (.t 51) (some (.t 52)) none) [5,6], ⟨2, m9 48 7⟩, ⟨1, m9 47 1⟩, h9 3 49 (.bin .add
 (.t 47) (.t 48)) [1,2], ⟨0, m9 46 9⟩, h9 4 50 (.slc 6 (.t 46) (some (.t 49)) none) [0,3,1,2], h9 8 54 (.cpy 6 (.t 50) (.t 53)) [4,7,0,3,1,2,5,6]]) <| .seq (.region [m9 55 9, m9 6 55] none) <| .ret) <| .skip) <| .seq (.region [m9 56 0, m9
 57 8, m9 58 7, o9 59 (.bin .add (.t 57) (.t 58)), o9 60 (.slc 6 (.t 56) none (some (.t 59))), m9 0 60] none) <| .seq (.seq (.region [m9 61 2, m9 62 0, m9 63 1, m9 64 7, o9 65 (.bin .add (.t 63) (.t 64)), o9 66 (.slc 6 (.t 62) (some (.t
 65)) none), o9 67 (.call 64 [.t 61, .t 66]), o9 68 (.un .not (.t 67))] none) <| .cond (.t 68) (.seq (.hregion [⟨6, m9 75 1⟩, ⟨5, m9 74 0⟩, h9 7 76 (.slc 6 (.t 74) (some (.t 75)) none) [5,6], ⟨2, m9 71 7⟩, ⟨1, m9 70 1⟩, h9 3 72 (.bin .add
 (.t 70) (.t 71)) [1,2], ⟨0, m9 69 0⟩, h9 4 73 (.slc 6 (.t 69) (some (.t 72)) none) [0,3,1,2], h9 8 77 (.cpy 6 (.t 73) (.t 76)) [4,7,0,3,1,2,5,6]]) <| .seq (.region [m9 78 0, m9 79 1, o9 80 (.slc 6 (.t 78) (some (.t 79)) none), m9 81 2, o9
 82 (.cpy 6 (.t 80) (.t 81))] none) <| .seq (.region [m9 83 0, m9 6 83] none) <| .ret) <| .skip) <| .seq (.region [m9 84 0, m9 85 8, o9 86 (.slc 6 (.t 84) (some (.t 85)) none), m9 87 2, o9 88 (.cpy 6 (.t 86) (.t 87))] none) <| .seq
 (.region [m9 89 0, m9 90 1, o9 91 (.slc 6 (.t 89) (some (.t 90)) none), m9 92 7, o9 93 (.call 65 [.t 91, .t 92])] none) <| .seq (.region [m9 94 0, m9 6 94] none) <| .ret
abbrev n_slices_Insert__Report : Nat := 53
theorem b_slices_Insert__Report : bodyOf prog 53 [1000000] = some (c_slices_Insert__Report, [.t 6], 95) := by kernel_rfl
def c_slices_Clone__Bounds : ACode := .seq (.region [o9 2 (.newsl 2 35)] none) <| .seq (.seq (.region [m9 3 0, o9 4 (.isnil false (.t 3))] none) <| .cond (.t 4) (.seq (.region [o9 2 (.newsl 2 35)] none) <| .ret) <| .skip) <| .seq (.region
 [o9 5 (.lit true 2 35 []), m9 6 0, o9 7 (.app 2 16 35 (.t 5) (.t 6)), m9 2 7] none) <| .ret
abbrev n_slices_Clone__Bounds : Nat := 54
theorem b_slices_Clone__Bounds : bodyOf prog 54 [2, 5] = some (c_slices_Clone__Bounds, [.t 2], 8) := by kernel_rfl
def c_ledger_Check : ACode := .seq (.region [o9 1 (.box 4 41 (.t 0)), o9 2 (.mv (.c (.int .i64 0)))] none) <| .seq (.region [o9 8 (.fa 2 (.t 1)), o9 9 (.load false 1 (.t 8)), o9 10 (.len (.t 9)), m9 3 10] none) <| .seq (.block 0 <| .seq
 (.region [m9 12 3, o9 13 (.bin .eql (.t 12) (.c (.int .i64 0))), m9 14 13, ⟨some 15, .fa 3 (.t 1), some (14, false), []⟩, ⟨some 16, .load false 1 (.t 15), some (14, false), []⟩, ⟨some 17, .len (.t 16), some (14, false), []⟩, ⟨some 18, .mv
 (.t 3), some (14, false), []⟩, ⟨some 19, .bin .neq (.t 17) (.t 18), some (14, false), []⟩, o9 20 (.pick (.t 14) (.c (.bool true)) (.t 19)), m9 21 20, ⟨some 22, .fa 1 (.t 1), some (21, false), []⟩, ⟨some 23, .load false 1 (.t 22), some
 (21, false), []⟩, ⟨some 24, .len (.t 23), some (21, false), []⟩, ⟨some 25, .mv (.t 3), some (21, false), []⟩, ⟨some 26, .bin .add (.t 25) (.c (.int .i64 1)), some (21, false), []⟩, ⟨some 27, .bin .neq (.t 24) (.t 26), some (21, false),
 []⟩, o9 28 (.pick (.t 21) (.c (.bool true)) (.t 27)), m9 11 28] none) <| .cond (.t 11) (.seq (.region [o9 2 (.mv (.c (.int .i64 3)))] none) <| .ret) <| .seq (.region [m9 30 3, o9 31 (.bin .gtr (.t 30) (.c (.int .i64 400))), m9 29 31]
 none) <| .cond (.t 29) (.seq (.region [o9 2 (.mv (.c (.int .i64 10)))] none) <| .ret) <| .seq (.region [o9 33 (.fa 0 (.t 1)), o9 34 (.load false 1 (.t 33)), o9 35 (.bin .lss (.t 34) (.c (.int .i64 0))), m9 36 35, ⟨some 37, .fa 0 (.t 1),
 some (36, false), []⟩, ⟨some 38, .load false 1 (.t 37), some (36, false), []⟩, ⟨some 39, .mv (.t 3), some (36, false), []⟩, ⟨some 40, .bin .sub (.c (.int .i64 16777216)) (.t 39), some (36, false), []⟩, ⟨some 41, .bin .gtr (.t 38) (.t 40),
 some (36, false), []⟩, o9 42 (.pick (.t 36) (.c (.bool true)) (.t 41)), m9 32 42] none) <| .cond (.t 32) (.seq (.region [o9 2 (.mv (.c (.int .i64 6)))] none) <| .ret) <| .skip) <| .seq (.seq (.region [o9 43 (.call 57 [.t 1]), o9 44 (.mv
 (.c (.int .i64 0)))] none) <| .block 1 <| .loop <| .seq (.region [o9 45 (.bin .lss (.t 44) (.c (.int .i64 3)))] none) <| .seq (.cond (.t 45) (.skip) <| .exit 1) <| .seq (.block 2 <| .seq (.region [o9 46 (.pu (.aidx false 1 3) [.t 43, .t
 44]), m9 5 46] none) <| .seq (.region [m9 47 5, o9 48 (.len (.t 47)), o9 49 (.mv (.c (.int .i64 0)))] none) <| .block 3 <| .loop <| .seq (.region [o9 50 (.bin .lss (.t 49) (.t 48))] none) <| .seq (.cond (.t 50) (.skip) <| .exit 3) <| .seq
 (.block 4 <| .seq (.region [o9 51 (.ixs 2 (.t 47) (.t 49)), o9 52 (.load true 2 (.t 51)), o9 7 (.alloc 2 35 (.agg [.int .i64 0, .int .i64 0])), ⟨none, .store 2 (.t 7) (.t 52), none, []⟩] none) <| .seq (.seq (.region [o9 53 (.fa 0 (.t 7)),
 o9 54 (.load false 1 (.t 53)), o9 55 (.bin .lss (.t 54) (.c (.int .i64 0))), m9 56 55, ⟨some 57, .fa 1 (.t 7), some (56, false), []⟩, ⟨some 58, .load false 1 (.t 57), some (56, false), []⟩, ⟨some 59, .bin .gtr (.t 58) (.c (.int .i64
 274877906944)), some (56, false), []⟩, o9 60 (.pick (.t 56) (.c (.bool true)) (.t 59))] none) <| .cond (.t 60) (.seq (.region [o9 2 (.mv (.c (.int .i64 1)))] none) <| .ret) <| .skip) <| .seq (.region [o9 61 (.fa 0 (.t 7)), o9 62 (.load
 false 1 (.t 61)), o9 63 (.fa 1 (.t 7)), o9 64 (.load false 1 (.t 63)), o9 65 (.bin .gtr (.t 62) (.t 64))] none) <| .cond (.t 65) (.seq (.region [o9 2 (.mv (.c (.int .i64 48)))] none) <| .ret) <| .skip) <| .region [o9 66 (.bin .add (.t 49)
 (.c (.int .i64 1))), m9 49 66] none) <| .region [o9 67 (.bin .add (.t 44) (.c (.int .i64 1))), m9 44 67] none) <| .seq (.region [o9 2 (.mv (.c (.int .i64 0)))] none) <| .ret
abbrev n_ledger_Check : Nat := 55
theorem b_ledger_Check : bodyOf prog 55 [1000000] = some (c_ledger_Check, [.t 2], 68) := by kernel_rfl
def c_ledger_twin : ACode := .seq (.region [o9 1 (.box 4 41 (.t 0)), o9 2 (.alloc 4 41 (.agg [.int .i64 0, .nil, .nil, .nil]))] none) <| .seq (.hregion [⟨8, o9 11 (.fa 3 (.t 1))⟩, h9 9 12 (.load false 1 (.t 11)) [8], ⟨5, o9 8 (.fa 2 (.t
 1))⟩, h9 6 9 (.load false 1 (.t 8)) [5], ⟨2, o9 5 (.fa 1 (.t 1))⟩, h9 3 6 (.load false 1 (.t 5)) [2], ⟨0, o9 3 (.fa 0 (.t 1))⟩, h9 1 4 (.load false 1 (.t 3)) [0], h9 4 7 (.call 54 [.t 6]) [3,2], h9 7 10 (.call 54 [.t 9]) [6,4,5,3,2], h9
 10 13 (.call 54 [.t 12]) [9,7,8,6,4,5,3,2], h9 11 14 (.build [.int .i64 0, .nil, .nil, .nil] [(0, 1, .t 4), (1, 1, .t 7), (2, 1, .t 10), (3, 1, .t 13)]) [1,4,7,10,0,3,2,6,5,9,8], ⟨12, ⟨none, .store 4 (.t 2) (.t 14), none, [11, 10, 0, 1,
 2, 3, 4, 5, 6, 7, 8, 9]⟩⟩]) <| .ret
abbrev n_ledger_twin : Nat := 56
theorem b_ledger_twin : bodyOf prog 56 [1000000] = some (c_ledger_twin, [.c 2 true 4], 15) := by kernel_rfl
def c_ledger_lists : ACode := .seq (.region [o9 2 (.alloc 3 97 (.agg [.nil, .nil, .nil]))] none) <| .seq (.hregion [⟨8, m9 11 0⟩, h9 9 12 (.nilchk (.t 11)) [8], h9 10 13 (.fa 3 (.t 12)) [9,8], h9 11 14 (.load false 1 (.t 13)) [10,9,8], ⟨4,
 m9 7 0⟩, h9 5 8 (.nilchk (.t 7)) [4], h9 6 9 (.fa 2 (.t 8)) [5,4], h9 7 10 (.load false 1 (.t 9)) [6,5,4], ⟨0, m9 3 0⟩, h9 1 4 (.nilchk (.t 3)) [0], h9 2 5 (.fa 1 (.t 4)) [1,0], h9 3 6 (.load false 1 (.t 5)) [2,1,0], h9 12 15 (.build
 [.nil, .nil, .nil] [(0, 1, .t 6), (1, 1, .t 10), (2, 1, .t 14)]) [3,7,11,2,1,0,6,5,4,10,9,8], ⟨13, ⟨none, .store 3 (.t 2) (.t 15), none, [12, 0, 1, 2, 3, 4, 5, 6, 7, 8, 9, 10, 11]⟩⟩]) <| .ret
abbrev n_ledger_lists : Nat := 57
theorem b_ledger_lists : bodyOf prog 57 [1000000] = some (c_ledger_lists, [.c 2 true 3], 16) := by kernel_rfl
def c_ledger_narrow : ACode := .seq (.region [o9 6 (.mv (.c (.bool false)))] none) <| .seq (.region [m9 10 0, o9 11 (.nilchk (.t 10)), o9 12 (.load true 2 (.t 11)), m9 13 1, m9 14 2, o9 15 (.build [.int .i64 0, .int .i64 0] [(0, 1, .t 13),
 (1, 1, .t 14)]), o9 16 (.call 66 [.t 12, .t 15]), m9 9 16, o9 17 (.ext (.t 9) 0), o9 18 (.ext (.t 9) 1), o9 7 (.alloc 2 35 (.agg [.int .i64 0, .int .i64 0])), ⟨none, .store 2 (.t 7) (.t 17), none, []⟩, m9 8 18] none) <| .seq (.seq
 (.region [m9 19 8] none) <| .cond (.t 19) (.region [m9 20 0, o9 21 (.load true 2 (.t 7)), o9 22 (.nilchk (.t 20)), ⟨none, .store 2 (.t 22) (.t 21), none, []⟩] none) <| .skip) <| .seq (.region [m9 23 8, m9 6 23] none) <| .ret
abbrev n_ledger_narrow : Nat := 58
theorem b_ledger_narrow : bodyOf prog 58 [1000000] = some (c_ledger_narrow, [.t 6], 24) := by kernel_rfl
def c_ledger_steps : ACode := .seq (.region [o9 2 (.box 1 3 (.t 0)), o9 3 (.box 1 4 (.t 1)), o9 4 (.mv (.c (.nilfunc)))] none) <| .seq (.region [o9 5 (.mkf 67 [.t 2, .t 3]), m9 4 5] none) <| .ret
abbrev n_ledger_steps : Nat := 59
theorem b_ledger_steps : bodyOf prog 59 [1000000] = some (c_ledger_steps, [.t 4], 6) := by kernel_rfl
def c_ledger_step : ACode := .seq (.region [o9 6 (.mv (.c (.bool false)))] none) <| .seq (.hregion [⟨24, m9 35 1⟩, ⟨20, m9 31 0⟩, h9 21 32 (.nilchk (.t 31)) [20], h9 22 33 (.fa 3 (.t 32)) [21,20], h9 23 34 (.load false 1 (.t 33))
 [22,21,20], h9 25 36 (.ixs 2 (.t 34) (.t 35)) [23,24,22,21,20], h9 26 37 (.load true 2 (.t 36)) [25,23,24,22,21,20], ⟨17, m9 28 1⟩, ⟨13, m9 24 0⟩, h9 14 25 (.nilchk (.t 24)) [13], h9 15 26 (.fa 2 (.t 25)) [14,13], h9 16 27 (.load false 1
 (.t 26)) [15,14,13], h9 18 29 (.ixs 2 (.t 27) (.t 28)) [16,17,15,14,13], h9 19 30 (.load true 2 (.t 29)) [18,16,17,15,14,13], ⟨10, m9 21 1⟩, h9 11 22 (.bin .add (.t 21) (.c (.int .i64 1))) [10], ⟨6, m9 17 0⟩, h9 7 18 (.nilchk (.t 17))
 [6], h9 8 19 (.fa 1 (.t 18)) [7,6], h9 9 20 (.load false 1 (.t 19)) [8,7,6], h9 12 23 (.ixs 2 (.t 20) (.t 22)) [9,11,8,7,6,10], ⟨4, m9 15 1⟩, ⟨0, m9 11 0⟩, h9 1 12 (.nilchk (.t 11)) [0], h9 2 13 (.fa 1 (.t 12)) [1,0], h9 3 14 (.load false
 1 (.t 13)) [2,1,0], h9 5 16 (.ixs 2 (.t 14) (.t 15)) [3,4,2,1,0], ⟨28, o9 10 (.alloc 2 35 (.agg [.int .i64 0, .int .i64 0]))⟩, ⟨27, o9 9 (.alloc 2 35 (.agg [.int .i64 0, .int .i64 0]))⟩, h9 29 7 (.mv (.t 16)) [5,0,1,2,3,4,27,28], h9 30 8
 (.mv (.t 23)) [12,29,0,1,2,3,4,5,6,7,8,9,10,11,27,28], ⟨31, ⟨none, .store 2 (.t 9) (.t 30), none, [27, 19, 30, 0, 1, 2, 3, 4, 5, 6, 7, 8, 9, 10, 11, 12, 13, 14, 15, 16, 17, 18, 28, 29]⟩⟩, ⟨32, ⟨none, .store 2 (.t 10) (.t 37), none, [28,
 26, 31, 0, 1, 2, 3, 4, 5, 6, 7, 8, 9, 10, 11, 12, 13, 14, 15, 16, 17, 18, 19, 20, 21, 22, 23, 24, 25, 27, 29, 30]⟩⟩]) <| .seq (.seq (.region [m9 38 2] none) <| .cond (.t 38) (.seq (.hregion [⟨18, o9 57 (.fa 1 (.t 10))⟩, h9 19 58 (.load
 false 1 (.t 57)) [18], ⟨15, o9 54 (.fa 0 (.t 9))⟩, h9 16 55 (.load false 1 (.t 54)) [15], ⟨11, m9 50 8⟩, h9 12 51 (.nilchk (.t 50)) [11], h9 13 52 (.fa 1 (.t 51)) [12,11], h9 14 53 (.load false 1 (.t 52)) [13,12,11], h9 17 56 (.bin .sub
 (.t 53) (.t 55)) [14,16,13,12,11,15], h9 20 59 (.bin .add (.t 56) (.t 58)) [17,19,14,16,13,12,11,15,18], ⟨8, o9 47 (.fa 0 (.t 10))⟩, h9 9 48 (.load false 1 (.t 47)) [8], ⟨5, o9 44 (.fa 1 (.t 9))⟩, h9 6 45 (.load false 1 (.t 44)) [5], ⟨1,
 m9 40 8⟩, h9 2 41 (.nilchk (.t 40)) [1], h9 3 42 (.fa 0 (.t 41)) [2,1], h9 4 43 (.load false 1 (.t 42)) [3,2,1], h9 7 46 (.bin .sub (.t 43) (.t 45)) [4,6,3,2,1,5], h9 10 49 (.bin .add (.t 46) (.t 48)) [7,9,4,6,3,2,1,5,8], ⟨0, m9 39 7⟩, h9
 21 60 (.call 58 [.t 39, .t 49, .t 59]) [0,10,20,7,9,4,6,3,2,1,5,8,17,19,14,16,13,12,11,15,18], h9 22 6 (.mv (.t 60)) [21,0,1,2,3,4,5,6,7,8,9,10,11,12,13,14,15,16,17,18,19,20]]) <| .ret) <| .skip) <| .seq (.hregion [⟨18, o9 79 (.fa 0 (.t
 10))⟩, h9 19 80 (.load false 1 (.t 79)) [18], ⟨15, o9 76 (.fa 1 (.t 9))⟩, h9 16 77 (.load false 1 (.t 76)) [15], ⟨11, m9 72 7⟩, h9 12 73 (.nilchk (.t 72)) [11], h9 13 74 (.fa 1 (.t 73)) [12,11], h9 14 75 (.load false 1 (.t 74))
 [13,12,11], h9 17 78 (.bin .add (.t 75) (.t 77)) [14,16,13,12,11,15], h9 20 81 (.bin .sub (.t 78) (.t 80)) [17,19,14,16,13,12,11,15,18], ⟨8, o9 69 (.fa 1 (.t 10))⟩, h9 9 70 (.load false 1 (.t 69)) [8], ⟨5, o9 66 (.fa 0 (.t 9))⟩, h9 6 67
 (.load false 1 (.t 66)) [5], ⟨1, m9 62 7⟩, h9 2 63 (.nilchk (.t 62)) [1], h9 3 64 (.fa 0 (.t 63)) [2,1], h9 4 65 (.load false 1 (.t 64)) [3,2,1], h9 7 68 (.bin .add (.t 65) (.t 67)) [4,6,3,2,1,5], h9 10 71 (.bin .sub (.t 68) (.t 70))
 [7,9,4,6,3,2,1,5,8], ⟨0, m9 61 8⟩, h9 21 82 (.call 58 [.t 61, .t 71, .t 81]) [0,10,20,7,9,4,6,3,2,1,5,8,17,19,14,16,13,12,11,15,18], h9 22 6 (.mv (.t 82)) [21,0,1,2,3,4,5,6,7,8,9,10,11,12,13,14,15,16,17,18,19,20]]) <| .ret
abbrev n_ledger_step : Nat := 60
theorem b_ledger_step : bodyOf prog 60 [1000000] = some (c_ledger_step, [.t 6], 83) := by kernel_rfl
def c_ref30_account : ACode := .seq (.region [o9 1 (.box 4 41 (.t 0)), o9 2 (.mv (.c (.int .i64 0)))] none) <| .seq (.region [o9 4 (.fa 2 (.t 1)), o9 5 (.load false 1 (.t 4)), o9 6 (.len (.t 5)), m9 3 6] none) <| .seq (.seq (.region [m9 7
 3, o9 8 (.bin .lss (.t 7) (.c (.int .i64 1))), m9 9 8, ⟨some 10, .fa 3 (.t 1), some (9, false), []⟩, ⟨some 11, .load false 1 (.t 10), some (9, false), []⟩, ⟨some 12, .len (.t 11), some (9, false), []⟩, ⟨some 13, .mv (.t 3), some (9,
 false), []⟩, ⟨some 14, .bin .neq (.t 12) (.t 13), some (9, false), []⟩, o9 15 (.pick (.t 9) (.c (.bool true)) (.t 14)), m9 16 15, ⟨some 17, .fa 1 (.t 1), some (16, false), []⟩, ⟨some 18, .load false 1 (.t 17), some (16, false), []⟩, ⟨some
 19, .len (.t 18), some (16, false), []⟩, ⟨some 20, .mv (.t 3), some (16, false), []⟩, ⟨some 21, .bin .add (.t 20) (.c (.int .i64 1)), some (16, false), []⟩, ⟨some 22, .bin .neq (.t 19) (.t 21), some (16, false), []⟩, o9 23 (.pick (.t 16)
 (.c (.bool true)) (.t 22))] none) <| .cond (.t 23) (.seq (.region [o9 2 (.mv (.c (.int .i64 3)))] none) <| .ret) <| .skip) <| .seq (.seq (.region [m9 24 3, o9 25 (.bin .gtr (.t 24) (.c (.int .i64 400)))] none) <| .cond (.t 25) (.seq
 (.region [o9 2 (.mv (.c (.int .i64 10)))] none) <| .ret) <| .skip) <| .seq (.seq (.region [o9 26 (.fa 0 (.t 1)), o9 27 (.load false 1 (.t 26)), o9 28 (.bin .lss (.t 27) (.c (.int .i64 0))), m9 29 28, ⟨some 30, .fa 0 (.t 1), some (29,
 false), []⟩, ⟨some 31, .load false 1 (.t 30), some (29, false), []⟩, ⟨some 32, .mv (.t 3), some (29, false), []⟩, ⟨some 33, .bin .sub (.c (.int .i64 16777216)) (.t 32), some (29, false), []⟩, ⟨some 34, .bin .gtr (.t 31) (.t 33), some (29,
 false), []⟩, o9 35 (.pick (.t 29) (.c (.bool true)) (.t 34))] none) <| .cond (.t 35) (.seq (.region [o9 2 (.mv (.c (.int .i64 6)))] none) <| .ret) <| .skip) <| .seq (.region [o9 2 (.mv (.c (.int .i64 0)))] none) <| .ret
abbrev n_ref30_account : Nat := 61
theorem b_ref30_account : bodyOf prog 61 [1000000] = some (c_ref30_account, [.t 2], 36) := by kernel_rfl
def c_slices_Equal__Bounds : ACode := .seq (.region [o9 4 (.mv (.c (.bool false)))] none) <| .seq (.seq (.region [m9 6 0, o9 7 (.len (.t 6)), m9 8 1, o9 9 (.len (.t 8)), o9 10 (.bin .neq (.t 7) (.t 9))] none) <| .cond (.t 10) (.seq
 (.region [o9 4 (.mv (.c (.bool false)))] none) <| .ret) <| .skip) <| .seq (.seq (.region [m9 11 0, o9 12 (.len (.t 11)), o9 13 (.mv (.c (.int .i64 0)))] none) <| .block 0 <| .loop <| .seq (.region [o9 14 (.bin .lss (.t 13) (.t 12))] none)
 <| .seq (.cond (.t 14) (.skip) <| .exit 0) <| .seq (.block 1 <| .seq (.region [m9 15 13, m9 5 15] none) <| .seq (.hregion [⟨5, m9 21 5⟩, ⟨4, m9 20 1⟩, h9 6 22 (.ixs 2 (.t 20) (.t 21)) [4,5], h9 7 23 (.load true 2 (.t 22)) [6,4,5], ⟨1, m9
 17 5⟩, ⟨0, m9 16 0⟩, h9 2 18 (.ixs 2 (.t 16) (.t 17)) [0,1], h9 3 19 (.load true 2 (.t 18)) [2,0,1], h9 8 24 (.eqs true [0, 0] (.t 19) (.t 23)) [3,7,2,0,1,6,4,5]]) <| .cond (.t 24) (.seq (.region [o9 4 (.mv (.c (.bool false)))] none) <|
 .ret) <| .skip) <| .region [o9 25 (.bin .add (.t 13) (.c (.int .i64 1))), m9 13 25] none) <| .seq (.region [o9 4 (.mv (.c (.bool true)))] none) <| .ret
abbrev n_slices_Equal__Bounds : Nat := 62
theorem b_slices_Equal__Bounds : bodyOf prog 62 [1000000] = some (c_slices_Equal__Bounds, [.t 4], 26) := by kernel_rfl
def c_ref30_Copy : ACode := .seq (.region [o9 1 (.box 4 41 (.t 0)), o9 2 (.alloc 4 41 (.agg [.int .i64 0, .nil, .nil, .nil]))] none) <| .seq (.region [o9 3 (.fa 1 (.t 1)), o9 4 (.load false 1 (.t 3)), o9 5 (.app 2 16 35 (.c (.nil)) (.t
 4)), o9 6 (.fa 1 (.t 1)), ⟨none, .store 1 (.t 6) (.t 5), none, []⟩] none) <| .seq (.region [o9 7 (.fa 2 (.t 1)), o9 8 (.load false 1 (.t 7)), o9 9 (.app 2 16 35 (.c (.nil)) (.t 8)), o9 10 (.fa 2 (.t 1)), ⟨none, .store 1 (.t 10) (.t 9),
 none, []⟩] none) <| .seq (.region [o9 11 (.fa 3 (.t 1)), o9 12 (.load false 1 (.t 11)), o9 13 (.app 2 16 35 (.c (.nil)) (.t 12)), o9 14 (.fa 3 (.t 1)), ⟨none, .store 1 (.t 14) (.t 13), none, []⟩] none) <| .seq (.region [o9 15 (.load true
 4 (.t 1)), ⟨none, .store 4 (.t 2) (.t 15), none, []⟩] none) <| .ret
abbrev n_ref30_Copy : Nat := 63
theorem b_ref30_Copy : bodyOf prog 63 [1000000] = some (c_ref30_Copy, [.c 2 true 4], 16) := by kernel_rfl
def c_quantity_Meet : ACode := .seq (.region [o9 2 (.box 2 35 (.t 0)), o9 3 (.box 2 35 (.t 1)), o9 4 (.alloc 2 35 (.agg [.int .i64 0, .int .i64 0])), o9 5 (.mv (.c (.bool false)))] none) <| .seq (.region [o9 7 (.fa 0 (.t 2)), o9 8 (.load
 false 1 (.t 7)), o9 9 (.fa 0 (.t 3)), o9 10 (.load false 1 (.t 9)), o9 11 (.mnx true (.t 8) [.t 10]), o9 12 (.fa 1 (.t 2)), o9 13 (.load false 1 (.t 12)), o9 14 (.fa 1 (.t 3)), o9 15 (.load false 1 (.t 14)), o9 16 (.mnx false (.t 13) [.t
 15]), o9 17 (.build [.int .i64 0, .int .i64 0] [(0, 1, .t 11), (1, 1, .t 16)]), o9 6 (.alloc 2 35 (.agg [.int .i64 0, .int .i64 0])), ⟨none, .store 2 (.t 6) (.t 17), none, []⟩] none) <| .seq (.seq (.region [o9 18 (.fa 0 (.t 2)), o9 19
 (.load false 1 (.t 18)), o9 20 (.fa 1 (.t 2)), o9 21 (.load false 1 (.t 20)), o9 22 (.bin .gtr (.t 19) (.t 21)), m9 23 22, ⟨some 24, .fa 0 (.t 3), some (23, false), []⟩, ⟨some 25, .load false 1 (.t 24), some (23, false), []⟩, ⟨some 26,
 .fa 1 (.t 3), some (23, false), []⟩, ⟨some 27, .load false 1 (.t 26), some (23, false), []⟩, ⟨some 28, .bin .gtr (.t 25) (.t 27), some (23, false), []⟩, o9 29 (.pick (.t 23) (.c (.bool true)) (.t 28)), m9 30 29, ⟨some 31, .fa 0 (.t 6),
 some (30, false), []⟩, ⟨some 32, .load false 1 (.t 31), some (30, false), []⟩, ⟨some 33, .fa 1 (.t 6), some (30, false), []⟩, ⟨some 34, .load false 1 (.t 33), some (30, false), []⟩, ⟨some 35, .bin .gtr (.t 32) (.t 34), some (30, false),
 []⟩, o9 36 (.pick (.t 30) (.c (.bool true)) (.t 35))] none) <| .cond (.t 36) (.seq (.region [o9 37 (.build [.int .i64 0, .int .i64 0] []), ⟨none, .store 2 (.t 4) (.t 37), none, []⟩, o9 5 (.mv (.c (.bool false)))] none) <| .ret) <| .skip)
 <| .seq (.region [o9 38 (.load true 2 (.t 6)), ⟨none, .store 2 (.t 4) (.t 38), none, []⟩, o9 5 (.mv (.c (.bool true)))] none) <| .ret
abbrev n_quantity_Meet : Nat := 66
theorem b_quantity_Meet : bodyOf prog 66 [] = some (c_quantity_Meet, [.c 4 true 2, .t 5], 39) := by kernel_rfl
def c_ledger_steps_1 : ACode := .seq (.region [o9 6 (.load false 1 (.t 1)), o9 7 (.mv (.c (.int .i64 0)))] none) <| .block 0 <| .loop <| .seq (.region [o9 8 (.bin .lss (.t 7) (.t 6))] none) <| .seq (.cond (.t 8) (.skip) <| .exit 0) <| .seq
 (.block 1 <| .seq (.region [m9 9 7, m9 4 9] none) <| .seq (.region [m9 10 4, m9 5 10] none) <| .seq (.seq (.region [o9 11 (.load false 1 (.t 2))] none) <| .cond (.t 11) (.region [o9 12 (.load false 1 (.t 1)), o9 13 (.bin .sub (.t 12) (.c
 (.int .i64 1))), m9 14 4, o9 15 (.bin .sub (.t 13) (.t 14)), m9 5 15] none) <| .skip) <| .seq (.region [m9 16 0, m9 17 5, o9 18 (.callv (.t 16) [.t 17]), o9 19 (.un .not (.t 18))] none) <| .cond (.t 19) (.ret) <| .skip) <| .region [o9 20
 (.bin .add (.t 7) (.c (.int .i64 1))), m9 7 20] none
abbrev n_ledger_steps_1 : Nat := 67
theorem b_ledger_steps_1 : bodyOf prog 67 [1000000] = some (c_ledger_steps_1, [], 21) := by kernel_rfl
end Go.Proofs.Try
