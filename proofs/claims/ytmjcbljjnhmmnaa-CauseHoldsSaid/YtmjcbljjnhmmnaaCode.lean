/- OWN WORK, put together by tools/asm.py, seat.py, mini.py. -/
import Derived.Test.YtmjcbljjnhmmnaaBaseS
import Derived.Test.YtmjcbljjnhmmnaaProg
import Derived.KernelRfl
namespace Go.Proofs.Try
open Go Go.Ab
abbrev o9 (d : Nat) (x : AOp) : AOper := ⟨some d, x, none, []⟩
@[go_sem] theorem w_o9 (d : Nat) (x : AOp) : o9 d x = ⟨some d, x, none, []⟩ := (rfl)
abbrev m9 (d s : Nat) : AOper := ⟨some d, .mv (.t s), none, []⟩
@[go_sem] theorem w_m9 (d s : Nat) : m9 d s = ⟨some d, .mv (.t s), none, []⟩ := (rfl)
abbrev h9 (p d : Nat) (x : AOp) (a : List Nat) : HS := ⟨p, ⟨some d, x, none, a⟩⟩
@[go_sem] theorem w_h9 (p d : Nat) (x : AOp) (a : List Nat) : h9 p d x a = ⟨p, ⟨some d, x, none, a⟩⟩ := (rfl)
theorem x_slices_overlaps__Cause : extOf prog 62 = some (Extern.SlicesOverlaps.overlaps #[50, 50] #[4]) := by kernel_rfl
theorem xt_slices_overlaps__Cause : eltOf prog 50 = true := by kernel_rfl
theorem x_slices_overlaps__Warning : extOf prog 58 = some (Extern.SlicesOverlaps.overlaps #[29, 29] #[4]) := by kernel_rfl
theorem xt_slices_overlaps__Warning : eltOf prog 29 = true := by kernel_rfl
def c_law37_CauseHolds : ACode := .seq (.region [o9 4 (.mv (.c (.bool false)))] none) <| .seq (.seq (.region [o9 27 (.call 6 []), o9 28 (.un .not (.t 27))] none) <| .cond (.t 28) (.seq (.region [o9 4 (.mv (.c (.bool false)))] none) <|
 .ret) <| .skip) <| .seq (.seq (.region [m9 29 0, o9 30 (.call 7 [.t 29]), o9 31 (.un .not (.t 30))] none) <| .cond (.t 31) (.seq (.region [o9 4 (.mv (.c (.bool true)))] none) <| .ret) <| .skip) <| .seq (.region [m9 32 0, o9 33 (.call 8
 [.t 32]), m9 5 33] none) <| .seq (.region [m9 34 5, o9 35 (.call 9 [.t 34]), o9 6 (.alloc 3 31 (.agg [.nil, .nil, .nil])), ⟨none, .store 3 (.t 6) (.t 35), none, []⟩] none) <| .seq (.region [m9 36 1, o9 37 (.bin .rem (.t 36) (.c (.int .u8
 5))), o9 38 (.conv .i64 (.t 37)), o9 39 (.bin .add (.c (.int .i64 1)) (.t 38)), m9 7 39] none) <| .seq (.region [o9 40 (.fa 2 (.t 6)), ⟨none, .store 1 (.t 40) (.c (.nil)), none, []⟩] none) <| .seq (.region [o9 41 (.fa 0 (.t 6)), o9 42
 (.load false 1 (.t 41)), o9 43 (.len (.t 42)), o9 44 (.mks true 1 8 3 (.int .i64 0) (.t 43)), m9 8 44] none) <| .seq (.region [o9 45 (.fa 0 (.t 6)), o9 46 (.load false 1 (.t 45)), o9 47 (.len (.t 46)), o9 48 (.mks true 1 8 44 (.nilmap)
 (.t 47)), m9 9 48] none) <| .seq (.region [o9 49 (.fa 0 (.t 6)), o9 50 (.load false 1 (.t 49)), o9 51 (.len (.t 50)), o9 52 (.mks true 1 1 4 (.bool false) (.t 51)), m9 10 52] none) <| .seq (.seq (.region [o9 11 (.mv (.c (.int .i64 0)))]
 none) <| .block 0 <| .loop <| .seq (.seq (.hregion [⟨0, m9 53 11⟩, h9 1 54 (.bin .lss (.t 53) (.c (.int .i64 40))) [0], h9 2 55 (.mv (.t 54)) [1,0], ⟨7, ⟨some 60, .mv (.t 5), some (55, true), [2, 1, 0]⟩⟩, ⟨8, ⟨some 61, .nilchk (.t 60),
 some (55, true), [7, 2, 1, 0]⟩⟩, ⟨9, ⟨some 62, .fa 0 (.t 61), some (55, true), [8, 2, 7, 1, 0]⟩⟩, ⟨10, ⟨some 63, .load false 1 (.t 62), some (55, true), [9, 2, 8, 7, 1, 0]⟩⟩, ⟨11, ⟨some 64, .len (.t 63), some (55, true), [10, 2, 9, 8, 7,
 1, 0]⟩⟩, ⟨3, ⟨some 56, .mv (.t 5), some (55, true), [2, 1, 0]⟩⟩, ⟨4, ⟨some 57, .nilchk (.t 56), some (55, true), [3, 2, 1, 0]⟩⟩, ⟨5, ⟨some 58, .fa 1 (.t 57), some (55, true), [4, 2, 3, 1, 0]⟩⟩, ⟨6, ⟨some 59, .load false 1 (.t 58), some
 (55, true), [5, 2, 4, 3, 1, 0]⟩⟩, ⟨12, ⟨some 65, .bin .lss (.t 59) (.t 64), some (55, true), [6, 11, 2, 5, 4, 3, 1, 0, 10, 9, 8, 7]⟩⟩, h9 13 66 (.pick (.t 55) (.t 65) (.c (.bool false))) [2,12,1,0,6,11,5,4,3,10,9,8,7]]) <| .cond (.t 66)
 (.skip) <| .exit 0) <| .seq (.block 1 <| .seq (.region [m9 69 5, o9 70 (.fa 0 (.t 6)), o9 71 (.load false 1 (.t 70)), o9 72 (.len (.t 71)), o9 73 (.call 10 [.t 69, .t 72]), m9 74 5, o9 75 (.call 11 [.t 74]), o9 13 (.alloc 2 39 (.agg [.int
 .i64 0, .int .i64 0])), m9 12 73, ⟨none, .store 2 (.t 13) (.t 75), none, []⟩] none) <| .seq (.seq (.region [m9 76 5, o9 77 (.call 10 [.t 76, .c (.int .i64 3)])] none) <| .block 2 <| .seq (.region [o9 156 (.bin .eql (.t 77) (.c (.int .i64
 0))), m9 155 156] none) <| .cond (.t 155) (.seq (.region [o9 158 (.load true 3 (.t 6)), m9 159 12, m9 160 11, o9 161 (.load true 2 (.t 13)), o9 162 (.call 12 [.t 158, .t 159, .t 160, .t 161]), m9 157 162, o9 163 (.ext (.t 157) 0), o9 164
 (.ext (.t 157) 1), o9 14 (.alloc 3 31 (.agg [.nil, .nil, .nil])), ⟨none, .store 3 (.t 14) (.t 163), none, []⟩, m9 15 164] none) <| .seq (.seq (.region [m9 165 15, o9 166 (.bin .neq (.t 165) (.c (.int .i64 0)))] none) <| .cond (.t 166)
 (.seq (.region [o9 4 (.mv (.c (.bool false)))] none) <| .ret) <| .skip) <| .seq (.seq (.region [m9 167 10, m9 168 12, o9 169 (.ixs 1 (.t 167) (.t 168)), o9 170 (.load false 1 (.t 169)), o9 171 (.un .not (.t 170))] none) <| .cond (.t 171)
 (.region [m9 172 10, m9 173 12, m9 174 9, m9 175 12, o9 176 .mkmap, o9 177 (.ixs 1 (.t 172) (.t 173)), ⟨none, .store 1 (.t 177) (.c (.bool true)), none, []⟩, o9 178 (.ixs 1 (.t 174) (.t 175)), ⟨none, .store 1 (.t 178) (.t 176), none, []⟩]
 none) <| .skip) <| .hregion [⟨7, o9 186 (.load true 3 (.t 14))⟩, ⟨6, o9 185 (.load true 2 (.t 13))⟩, ⟨3, m9 182 12⟩, ⟨2, m9 181 9⟩, h9 4 183 (.ixs 1 (.t 181) (.t 182)) [2,3], h9 5 184 (.load false 1 (.t 183)) [4,2,3], ⟨1, m9 180 12⟩, ⟨0,
 m9 179 8⟩, ⟨8, ⟨none, .store 3 (.t 6) (.t 186), none, [7, 5, 4, 2, 3]⟩⟩, h9 9 187 (.ixs 1 (.t 179) (.t 180)) [0,1,5,7,8,4,2,3], ⟨10, ⟨none, .store 1 (.t 187) (.c (.int .i64 0)), none, [9, 8, 0, 1, 5, 7, 4, 2, 3]⟩⟩, h9 11 188 (.mp (.ent2
 (.bool false)) (.t 184) [.t 185]) [5,6,10,0,1,7,8,9,4,2,3], h9 12 189 (.ext (.t 188) 1) [11,5,6,10,0,1,7,8,9,4,2,3], ⟨13, ⟨none, .mp .sto2 (.t 184) [.t 189, .c (.bool true)], none, [5, 12, 11, 0, 1, 2, 3, 4, 6, 7, 8, 9, 10]⟩⟩]) <| .seq
 (.region [o9 191 (.bin .eql (.t 77) (.c (.int .i64 1))), m9 190 191] none) <| .cond (.t 190) (.seq (.region [o9 193 (.load true 3 (.t 6)), m9 194 12, o9 195 (.load true 2 (.t 13)), o9 196 (.call 13 [.t 193, .t 194, .t 195]), m9 192 196,
 o9 197 (.ext (.t 192) 0), o9 198 (.ext (.t 192) 1), o9 16 (.alloc 3 31 (.agg [.nil, .nil, .nil])), ⟨none, .store 3 (.t 16) (.t 197), none, []⟩, m9 17 198] none) <| .seq (.seq (.hregion [⟨3, m9 202 12⟩, ⟨2, m9 201 10⟩, h9 4 203 (.ixs 1 (.t
 201) (.t 202)) [2,3], h9 5 204 (.load false 1 (.t 203)) [4,2,3], h9 6 205 (.mv (.t 204)) [5,4,2,3], ⟨11, ⟨some 210, .load true 2 (.t 13), some (205, true), [6, 5, 4, 2, 3]⟩⟩, ⟨8, ⟨some 207, .mv (.t 12), some (205, true), [6, 5, 4, 2,
 3]⟩⟩, ⟨7, ⟨some 206, .mv (.t 9), some (205, true), [6, 5, 4, 2, 3]⟩⟩, ⟨9, ⟨some 208, .ixs 1 (.t 206) (.t 207), some (205, true), [7, 8, 6, 5, 4, 2, 3]⟩⟩, ⟨10, ⟨some 209, .load false 1 (.t 208), some (205, true), [9, 6, 7, 8, 5, 4, 2,
 3]⟩⟩, ⟨0, m9 199 17⟩, h9 1 200 (.bin .eql (.t 199) (.c (.int .i64 0))) [0], ⟨12, ⟨some 211, .mp (.get2 false (.bool false)) (.t 209) [.t 210], some (205, true), [10, 11, 6, 9, 7, 8, 5, 4, 2, 3]⟩⟩, h9 13 212 (.pick (.t 205) (.t 211) (.c
 (.bool false))) [6,12,5,4,2,3,10,11,9,7,8], h9 14 213 (.eqb true (.t 200) (.t 212)) [1,13,0,6,12,5,4,2,3,10,11,9,7,8]]) <| .cond (.t 213) (.seq (.region [o9 4 (.mv (.c (.bool false)))] none) <| .ret) <| .skip) <| .seq (.region [m9 214 17,
 o9 215 (.bin .eql (.t 214) (.c (.int .i64 0)))] none) <| .cond (.t 215) (.seq (.region [o9 216 (.load true 3 (.t 16)), ⟨none, .store 3 (.t 6) (.t 216), none, []⟩] none) <| .hregion [⟨4, o9 221 (.load true 2 (.t 13))⟩, ⟨1, m9 218 12⟩, ⟨0,
 m9 217 9⟩, h9 2 219 (.ixs 1 (.t 217) (.t 218)) [0,1], h9 3 220 (.load false 1 (.t 219)) [2,0,1], ⟨5, ⟨none, .mp .del2 (.t 220) [.t 221], none, [3, 4, 2, 0, 1]⟩⟩]) <| .skip) <| .seq (.region [m9 78 5, o9 79 (.load true 3 (.t 6)), o9 80
 (.call 14 [.t 78, .t 79]), m9 18 80] none) <| .seq (.region [o9 82 (.load true 3 (.t 6)), m9 83 18, m9 84 7, o9 85 (.call 15 [.t 82, .t 83, .t 84]), m9 81 85, o9 86 (.ext (.t 81) 0), o9 87 (.ext (.t 81) 1), o9 88 (.ext (.t 81) 2), o9 19
 (.alloc 3 31 (.agg [.nil, .nil, .nil])), ⟨none, .store 3 (.t 19) (.t 86), none, []⟩, m9 20 87, m9 21 88] none) <| .seq (.seq (.region [m9 89 21, o9 90 (.bin .neq (.t 89) (.c (.int .i64 0)))] none) <| .cond (.t 90) (.seq (.region [o9 4
 (.mv (.c (.bool false)))] none) <| .ret) <| .skip) <| .seq (.region [o9 91 (.load true 3 (.t 19)), ⟨none, .store 3 (.t 6) (.t 91), none, []⟩] none) <| .seq (.region [m9 92 10, o9 93 (.len (.t 92)), o9 94 (.mv (.c (.int .i64 0)))] none) <|
 .block 3 <| .loop <| .seq (.region [o9 95 (.bin .lss (.t 94) (.t 93))] none) <| .seq (.cond (.t 95) (.skip) <| .exit 3) <| .seq (.block 4 <| .seq (.region [m9 96 94, m9 22 96] none) <| .seq (.region [m9 97 8, m9 98 22, o9 99 (.ixs 1 (.t
 97) (.t 98)), o9 100 (.load false 1 (.t 99)), o9 101 (.bin .add (.t 100) (.c (.int .i64 1))), o9 102 (.ixs 1 (.t 97) (.t 98)), ⟨none, .store 1 (.t 102) (.t 101), none, []⟩] none) <| .seq (.seq (.region [m9 103 18, m9 104 22, o9 105 (.ixs
 1 (.t 103) (.t 104)), o9 106 (.load false 1 (.t 105)), o9 107 (.un .not (.t 106)), m9 108 107, ⟨some 109, .mv (.t 9), some (108, false), []⟩, ⟨some 110, .mv (.t 22), some (108, false), []⟩, ⟨some 111, .ixs 1 (.t 109) (.t 110), some (108,
 false), []⟩, ⟨some 112, .load false 1 (.t 111), some (108, false), []⟩, ⟨some 113, .mp .mlen (.t 112) [], some (108, false), []⟩, ⟨some 114, .bin .gtr (.t 113) (.c (.int .i64 0)), some (108, false), []⟩, o9 115 (.pick (.t 108) (.c (.bool
 true)) (.t 114))] none) <| .cond (.t 115) (.region [m9 116 8, m9 117 22, o9 118 (.ixs 1 (.t 116) (.t 117)), ⟨none, .store 1 (.t 118) (.c (.int .i64 0)), none, []⟩] none) <| .skip) <| .seq (.region [m9 119 10, m9 120 22, o9 121 (.ixs 1 (.t
 119) (.t 120)), o9 122 (.load false 1 (.t 121)), m9 123 122, ⟨some 124, .mv (.t 8), some (123, true), []⟩, ⟨some 125, .mv (.t 22), some (123, true), []⟩, ⟨some 126, .ixs 1 (.t 124) (.t 125), some (123, true), []⟩, ⟨some 127, .load false 1
 (.t 126), some (123, true), []⟩, ⟨some 128, .mv (.t 7), some (123, true), []⟩, ⟨some 129, .bin .geq (.t 127) (.t 128), some (123, true), []⟩, o9 130 (.pick (.t 123) (.t 129) (.c (.bool false))), m9 131 130, ⟨some 132, .mv (.t 9), some
 (131, true), []⟩, ⟨some 133, .mv (.t 22), some (131, true), []⟩, ⟨some 134, .ixs 1 (.t 132) (.t 133), some (131, true), []⟩, ⟨some 135, .load false 1 (.t 134), some (131, true), []⟩, ⟨some 136, .mp .mlen (.t 135) [], some (131, true),
 []⟩, ⟨some 137, .bin .eql (.t 136) (.c (.int .i64 0)), some (131, true), []⟩, o9 138 (.pick (.t 131) (.t 137) (.c (.bool false))), m9 139 138, ⟨some 140, .mv (.t 18), some (139, true), []⟩, ⟨some 141, .mv (.t 22), some (139, true), []⟩,
 ⟨some 142, .ixs 1 (.t 140) (.t 141), some (139, true), []⟩, ⟨some 143, .load false 1 (.t 142), some (139, true), []⟩, o9 144 (.pick (.t 139) (.t 143) (.c (.bool false))), m9 23 144] none) <| .seq (.seq (.region [m9 145 20, m9 146 22, o9
 147 (.call 16 [.t 145, .t 146]), m9 148 23, o9 149 (.eqb true (.t 147) (.t 148))] none) <| .cond (.t 149) (.seq (.region [o9 4 (.mv (.c (.bool false)))] none) <| .ret) <| .skip) <| .seq (.region [m9 150 23] none) <| .cond (.t 150)
 (.region [m9 151 10, m9 152 22, o9 153 (.ixs 1 (.t 151) (.t 152)), ⟨none, .store 1 (.t 153) (.c (.bool false)), none, []⟩] none) <| .skip) <| .region [o9 154 (.bin .add (.t 94) (.c (.int .i64 1))), m9 94 154] none) <| .seq (.region [m9
 222 10, o9 223 (.len (.t 222)), o9 224 (.mv (.c (.int .i64 0)))] none) <| .block 5 <| .loop <| .seq (.region [o9 225 (.bin .lss (.t 224) (.t 223))] none) <| .seq (.cond (.t 225) (.skip) <| .exit 5) <| .seq (.block 6 <| .seq (.region [m9
 226 224, m9 24 226] none) <| .seq (.region [o9 228 (.load true 3 (.t 6)), m9 229 24, o9 230 (.call 17 [.t 228, .t 229]), m9 227 230, o9 231 (.ext (.t 227) 0), o9 232 (.ext (.t 227) 1), m9 25 231, m9 26 232] none) <| .seq (.region [m9 233
 26, m9 234 10, m9 235 24, o9 236 (.ixs 1 (.t 234) (.t 235)), o9 237 (.load false 1 (.t 236)), o9 238 (.eqb true (.t 233) (.t 237))] none) <| .cond (.t 238) (.seq (.region [o9 4 (.mv (.c (.bool false)))] none) <| .ret) <| .skip) <| .region
 [o9 239 (.bin .add (.t 224) (.c (.int .i64 1))), m9 224 239] none) <| .region [m9 67 11, o9 68 (.bin .add (.t 67) (.c (.int .i64 1))), m9 11 68] none) <| .seq (.region [o9 4 (.mv (.c (.bool true)))] none) <| .ret
abbrev n_law37_CauseHolds : Nat := 3
theorem b_law37_CauseHolds : bodyOf prog 3 [44, 48, 52, 1000000] = some (c_law37_CauseHolds, [.t 4], 240) := by kernel_rfl
def c_law37_sane : ACode := .seq (.region [o9 0 (.mv (.c (.bool false)))] none) <| .seq (.region [o9 13 (.build [.int .i64 0, .int .i64 0, .int .i64 0, .int .i64 0] [(1, 1, .c (.int .i64 1)), (3, 1, .c (.int .i64 1))]), o9 14 (.lit false 4
 68 [.t 13]), o9 15 (.mks false 1 24 22 (.nil) (.c (.int .i64 1))), o9 16 (.build [.nil, .nil, .nil] [(0, 1, .t 14), (1, 1, .t 15)]), o9 1 (.alloc 3 31 (.agg [.nil, .nil, .nil])), ⟨none, .store 3 (.t 1) (.t 16), none, []⟩] none) <| .seq
 (.region [o9 17 (.build [.int .i64 0, .int .i64 0] [(0, 1, .c (.int .i64 2)), (1, 1, .c (.int .i64 1))]), o9 2 (.alloc 2 39 (.agg [.int .i64 0, .int .i64 0])), ⟨none, .store 2 (.t 2) (.t 17), none, []⟩] none) <| .seq (.region [o9 19
 (.load true 3 (.t 1)), o9 20 (.load true 2 (.t 2)), o9 21 (.call 12 [.t 19, .c (.int .i64 0), .c (.int .i64 7), .t 20]), m9 18 21, o9 22 (.ext (.t 18) 0), o9 23 (.ext (.t 18) 1), ⟨none, .store 3 (.t 1) (.t 22), none, []⟩, m9 3 23] none)
 <| .seq (.region [o9 25 (.load true 3 (.t 1)), o9 26 (.call 17 [.t 25, .c (.int .i64 0)]), m9 24 26, o9 27 (.ext (.t 24) 0), o9 28 (.ext (.t 24) 1), m9 4 27, m9 5 28] none) <| .seq (.region [o9 30 (.load true 3 (.t 1)), o9 31 (.lit false
 1 4 [.c (.bool true)]), o9 32 (.call 15 [.t 30, .t 31, .c (.int .i64 2)]), m9 29 32, o9 33 (.ext (.t 29) 0), o9 34 (.ext (.t 29) 1), o9 35 (.ext (.t 29) 2), ⟨none, .store 3 (.t 1) (.t 33), none, []⟩, m9 6 34, m9 7 35] none) <| .seq
 (.region [o9 37 (.load true 3 (.t 1)), o9 38 (.load true 2 (.t 2)), o9 39 (.call 13 [.t 37, .c (.int .i64 0), .t 38]), m9 36 39, o9 40 (.ext (.t 36) 0), o9 41 (.ext (.t 36) 1), ⟨none, .store 3 (.t 1) (.t 40), none, []⟩, m9 8 41] none) <|
 .seq (.region [o9 43 (.load true 3 (.t 1)), o9 44 (.lit false 1 4 [.c (.bool true)]), o9 45 (.call 15 [.t 43, .t 44, .c (.int .i64 2)]), m9 42 45, o9 46 (.ext (.t 42) 0), o9 47 (.ext (.t 42) 1), o9 48 (.ext (.t 42) 2), ⟨none, .store 3 (.t
 1) (.t 46), none, []⟩, m9 9 47, m9 10 48] none) <| .seq (.region [o9 50 (.load true 3 (.t 1)), o9 51 (.lit false 1 4 [.c (.bool true)]), o9 52 (.call 15 [.t 50, .t 51, .c (.int .i64 2)]), m9 49 52, o9 53 (.ext (.t 49) 0), o9 54 (.ext (.t
 49) 1), o9 55 (.ext (.t 49) 2), ⟨none, .store 3 (.t 1) (.t 53), none, []⟩, m9 11 54, m9 12 55] none) <| .seq (.hregion [⟨0, m9 56 3⟩, h9 1 57 (.bin .eql (.t 56) (.c (.int .i64 0))) [0], h9 2 58 (.mv (.t 57)) [1,0], ⟨3, ⟨some 59, .mv (.t
 7), some (58, true), [2, 1, 0]⟩⟩, ⟨4, ⟨some 60, .bin .eql (.t 59) (.c (.int .i64 0)), some (58, true), [3, 2, 1, 0]⟩⟩, h9 5 61 (.pick (.t 58) (.t 60) (.c (.bool false))) [2,4,1,0,3], h9 6 62 (.mv (.t 61)) [5,2,4,1,0,3], ⟨7, ⟨some 63, .mv
 (.t 8), some (62, true), [6, 5, 2, 4, 1, 0, 3]⟩⟩, ⟨8, ⟨some 64, .bin .eql (.t 63) (.c (.int .i64 0)), some (62, true), [7, 6, 5, 2, 4, 1, 0, 3]⟩⟩, h9 9 65 (.pick (.t 62) (.t 64) (.c (.bool false))) [6,8,5,2,4,1,0,3,7], h9 10 66 (.mv (.t
 65)) [9,6,8,5,2,4,1,0,3,7], ⟨11, ⟨some 67, .mv (.t 10), some (66, true), [10, 9, 6, 8, 5, 2, 4, 1, 0, 3, 7]⟩⟩, ⟨12, ⟨some 68, .bin .eql (.t 67) (.c (.int .i64 0)), some (66, true), [11, 10, 9, 6, 8, 5, 2, 4, 1, 0, 3, 7]⟩⟩, h9 13 69 (.pick
 (.t 66) (.t 68) (.c (.bool false))) [10,12,9,6,8,5,2,4,1,0,3,7,11], h9 14 70 (.mv (.t 69)) [13,10,12,9,6,8,5,2,4,1,0,3,7,11], ⟨15, ⟨some 71, .mv (.t 12), some (70, true), [14, 13, 10, 12, 9, 6, 8, 5, 2, 4, 1, 0, 3, 7, 11]⟩⟩, ⟨16, ⟨some
 72, .bin .eql (.t 71) (.c (.int .i64 0)), some (70, true), [15, 14, 13, 10, 12, 9, 6, 8, 5, 2, 4, 1, 0, 3, 7, 11]⟩⟩, h9 17 73 (.pick (.t 70) (.t 72) (.c (.bool false))) [14,16,13,10,12,9,6,8,5,2,4,1,0,3,7,11,15], h9 18 74 (.mv (.t 73))
 [17,14,16,13,10,12,9,6,8,5,2,4,1,0,3,7,11,15], ⟨19, ⟨some 75, .mv (.t 5), some (74, true), [18, 17, 14, 16, 13, 10, 12, 9, 6, 8, 5, 2, 4, 1, 0, 3, 7, 11, 15]⟩⟩, h9 20 76 (.pick (.t 74) (.t 75) (.c (.bool false)))
 [18,19,17,14,16,13,10,12,9,6,8,5,2,4,1,0,3,7,11,15], h9 21 77 (.mv (.t 76)) [20,18,19,17,14,16,13,10,12,9,6,8,5,2,4,1,0,3,7,11,15], ⟨22, ⟨some 78, .mv (.t 4), some (77, true), [21, 20, 18, 19, 17, 14, 16, 13, 10, 12, 9, 6, 8, 5, 2, 4, 1,
 0, 3, 7, 11, 15]⟩⟩, ⟨23, ⟨some 79, .len (.t 78), some (77, true), [22, 21, 20, 18, 19, 17, 14, 16, 13, 10, 12, 9, 6, 8, 5, 2, 4, 1, 0, 3, 7, 11, 15]⟩⟩, ⟨24, ⟨some 80, .bin .eql (.t 79) (.c (.int .i64 1)), some (77, true), [23, 21, 22, 20,
 18, 19, 17, 14, 16, 13, 10, 12, 9, 6, 8, 5, 2, 4, 1, 0, 3, 7, 11, 15]⟩⟩, h9 25 81 (.pick (.t 77) (.t 80) (.c (.bool false))) [21,24,20,18,19,17,14,16,13,10,12,9,6,8,5,2,4,1,0,3,7,11,15,23,22], h9 26 82 (.mv (.t 81))
 [25,21,24,20,18,19,17,14,16,13,10,12,9,6,8,5,2,4,1,0,3,7,11,15,23,22], ⟨30, ⟨some 86, .load true 2 (.t 2), some (82, true), [26, 25, 21, 24, 20, 18, 19, 17, 14, 16, 13, 10, 12, 9, 6, 8, 5, 2, 4, 1, 0, 3, 7, 11, 15, 23, 22]⟩⟩, ⟨27, ⟨some
 83, .mv (.t 4), some (82, true), [26, 25, 21, 24, 20, 18, 19, 17, 14, 16, 13, 10, 12, 9, 6, 8, 5, 2, 4, 1, 0, 3, 7, 11, 15, 23, 22]⟩⟩, ⟨28, ⟨some 84, .ixs 2 (.t 83) (.c (.int .i64 0)), some (82, true), [27, 26, 25, 21, 24, 20, 18, 19, 17,
 14, 16, 13, 10, 12, 9, 6, 8, 5, 2, 4, 1, 0, 3, 7, 11, 15, 23, 22]⟩⟩, ⟨29, ⟨some 85, .load true 2 (.t 84), some (82, true), [28, 26, 27, 25, 21, 24, 20, 18, 19, 17, 14, 16, 13, 10, 12, 9, 6, 8, 5, 2, 4, 1, 0, 3, 7, 11, 15, 23, 22]⟩⟩, ⟨31,
 ⟨some 87, .eqs false [0, 0] (.t 85) (.t 86), some (82, true), [29, 30, 26, 28, 27, 25, 21, 24, 20, 18, 19, 17, 14, 16, 13, 10, 12, 9, 6, 8, 5, 2, 4, 1, 0, 3, 7, 11, 15, 23, 22]⟩⟩, h9 32 88 (.pick (.t 82) (.t 87) (.c (.bool false)))
 [26,31,25,21,24,20,18,19,17,14,16,13,10,12,9,6,8,5,2,4,1,0,3,7,11,15,23,22,29,30,28,27], h9 33 89 (.mv (.t 88)) [32,26,31,25,21,24,20,18,19,17,14,16,13,10,12,9,6,8,5,2,4,1,0,3,7,11,15,23,22,29,30,28,27], ⟨34, ⟨some 90, .mv (.t 6), some
 (89, true), [33, 32, 26, 31, 25, 21, 24, 20, 18, 19, 17, 14, 16, 13, 10, 12, 9, 6, 8, 5, 2, 4, 1, 0, 3, 7, 11, 15, 23, 22, 29, 30, 28, 27]⟩⟩, ⟨35, ⟨some 91, .len (.t 90), some (89, true), [34, 33, 32, 26, 31, 25, 21, 24, 20, 18, 19, 17,
 14, 16, 13, 10, 12, 9, 6, 8, 5, 2, 4, 1, 0, 3, 7, 11, 15, 23, 22, 29, 30, 28, 27]⟩⟩, ⟨36, ⟨some 92, .bin .eql (.t 91) (.c (.int .i64 0)), some (89, true), [35, 33, 34, 32, 26, 31, 25, 21, 24, 20, 18, 19, 17, 14, 16, 13, 10, 12, 9, 6, 8,
 5, 2, 4, 1, 0, 3, 7, 11, 15, 23, 22, 29, 30, 28, 27]⟩⟩, h9 37 93 (.pick (.t 89) (.t 92) (.c (.bool false))) [33,36,32,26,31,25,21,24,20,18,19,17,14,16,13,10,12,9,6,8,5,2,4,1,0,3,7,11,15,23,22,29,30,28,27,35,34], h9 38 94 (.mv (.t 93))
 [37,33,36,32,26,31,25,21,24,20,18,19,17,14,16,13,10,12,9,6,8,5,2,4,1,0,3,7,11,15,23,22,29,30,28,27,35,34], ⟨39, ⟨some 95, .mv (.t 9), some (94, true), [38, 37, 33, 36, 32, 26, 31, 25, 21, 24, 20, 18, 19, 17, 14, 16, 13, 10, 12, 9, 6, 8,
 5, 2, 4, 1, 0, 3, 7, 11, 15, 23, 22, 29, 30, 28, 27, 35, 34]⟩⟩, ⟨40, ⟨some 96, .len (.t 95), some (94, true), [39, 38, 37, 33, 36, 32, 26, 31, 25, 21, 24, 20, 18, 19, 17, 14, 16, 13, 10, 12, 9, 6, 8, 5, 2, 4, 1, 0, 3, 7, 11, 15, 23, 22,
 29, 30, 28, 27, 35, 34]⟩⟩, ⟨41, ⟨some 97, .bin .eql (.t 96) (.c (.int .i64 0)), some (94, true), [40, 38, 39, 37, 33, 36, 32, 26, 31, 25, 21, 24, 20, 18, 19, 17, 14, 16, 13, 10, 12, 9, 6, 8, 5, 2, 4, 1, 0, 3, 7, 11, 15, 23, 22, 29, 30,
 28, 27, 35, 34]⟩⟩, h9 42 98 (.pick (.t 94) (.t 97) (.c (.bool false))) [38,41,37,33,36,32,26,31,25,21,24,20,18,19,17,14,16,13,10,12,9,6,8,5,2,4,1,0,3,7,11,15,23,22,29,30,28,27,35,34,40,39], h9 43 99 (.mv (.t 98))
 [42,38,41,37,33,36,32,26,31,25,21,24,20,18,19,17,14,16,13,10,12,9,6,8,5,2,4,1,0,3,7,11,15,23,22,29,30,28,27,35,34,40,39], ⟨44, ⟨some 100, .mv (.t 11), some (99, true), [43, 42, 38, 41, 37, 33, 36, 32, 26, 31, 25, 21, 24, 20, 18, 19, 17,
 14, 16, 13, 10, 12, 9, 6, 8, 5, 2, 4, 1, 0, 3, 7, 11, 15, 23, 22, 29, 30, 28, 27, 35, 34, 40, 39]⟩⟩, ⟨45, ⟨some 101, .len (.t 100), some (99, true), [44, 43, 42, 38, 41, 37, 33, 36, 32, 26, 31, 25, 21, 24, 20, 18, 19, 17, 14, 16, 13, 10,
 12, 9, 6, 8, 5, 2, 4, 1, 0, 3, 7, 11, 15, 23, 22, 29, 30, 28, 27, 35, 34, 40, 39]⟩⟩, ⟨46, ⟨some 102, .bin .eql (.t 101) (.c (.int .i64 1)), some (99, true), [45, 43, 44, 42, 38, 41, 37, 33, 36, 32, 26, 31, 25, 21, 24, 20, 18, 19, 17, 14,
 16, 13, 10, 12, 9, 6, 8, 5, 2, 4, 1, 0, 3, 7, 11, 15, 23, 22, 29, 30, 28, 27, 35, 34, 40, 39]⟩⟩, h9 47 103 (.pick (.t 99) (.t 102) (.c (.bool false)))
 [43,46,42,38,41,37,33,36,32,26,31,25,21,24,20,18,19,17,14,16,13,10,12,9,6,8,5,2,4,1,0,3,7,11,15,23,22,29,30,28,27,35,34,40,39,45,44], h9 48 104 (.mv (.t 103))
 [47,43,46,42,38,41,37,33,36,32,26,31,25,21,24,20,18,19,17,14,16,13,10,12,9,6,8,5,2,4,1,0,3,7,11,15,23,22,29,30,28,27,35,34,40,39,45,44], ⟨49, ⟨some 105, .fa 2 (.t 1), some (104, true), [48, 47, 43, 46, 42, 38, 41, 37, 33, 36, 32, 26, 31,
 25, 21, 24, 20, 18, 19, 17, 14, 16, 13, 10, 12, 9, 6, 8, 5, 2, 4, 1, 0, 3, 7, 11, 15, 23, 22, 29, 30, 28, 27, 35, 34, 40, 39, 45, 44]⟩⟩, ⟨50, ⟨some 106, .load false 1 (.t 105), some (104, true), [49, 48, 47, 43, 46, 42, 38, 41, 37, 33,
 36, 32, 26, 31, 25, 21, 24, 20, 18, 19, 17, 14, 16, 13, 10, 12, 9, 6, 8, 5, 2, 4, 1, 0, 3, 7, 11, 15, 23, 22, 29, 30, 28, 27, 35, 34, 40, 39, 45, 44]⟩⟩, ⟨51, ⟨some 107, .len (.t 106), some (104, true), [50, 48, 49, 47, 43, 46, 42, 38, 41,
 37, 33, 36, 32, 26, 31, 25, 21, 24, 20, 18, 19, 17, 14, 16, 13, 10, 12, 9, 6, 8, 5, 2, 4, 1, 0, 3, 7, 11, 15, 23, 22, 29, 30, 28, 27, 35, 34, 40, 39, 45, 44]⟩⟩, ⟨52, ⟨some 108, .bin .eql (.t 107) (.c (.int .i64 0)), some (104, true), [51,
 48, 50, 49, 47, 43, 46, 42, 38, 41, 37, 33, 36, 32, 26, 31, 25, 21, 24, 20, 18, 19, 17, 14, 16, 13, 10, 12, 9, 6, 8, 5, 2, 4, 1, 0, 3, 7, 11, 15, 23, 22, 29, 30, 28, 27, 35, 34, 40, 39, 45, 44]⟩⟩, h9 53 109 (.pick (.t 104) (.t 108) (.c
 (.bool false))) [48,52,47,43,46,42,38,41,37,33,36,32,26,31,25,21,24,20,18,19,17,14,16,13,10,12,9,6,8,5,2,4,1,0,3,7,11,15,23,22,29,30,28,27,35,34,40,39,45,44,51,50,49], h9 54 0 (.mv (.t 109))
 [53,48,0,1,2,3,4,5,6,7,8,9,10,11,12,13,14,15,16,17,18,19,20,21,22,23,24,25,26,27,28,29,30,31,32,33,34,35,36,37,38,39,40,41,42,43,44,45,46,47,49,50,51,52]]) <| .ret
abbrev n_law37_sane : Nat := 6
theorem b_law37_sane : bodyOf prog 6 [1000000] = some (c_law37_sane, [.t 0], 110) := by kernel_rfl
def c_mk_Few : ACode := .seq (.region [o9 2 (.mv (.c (.bool false)))] none) <| .seq (.region [m9 3 0, o9 4 (.len (.t 3)), o9 5 (.bin .leq (.t 4) (.c (.int .i64 500))), m9 2 5] none) <| .ret
abbrev n_mk_Few : Nat := 7
theorem b_mk_Few : bodyOf prog 7 [1000000] = some (c_mk_Few, [.t 2], 6) := by kernel_rfl
def c_mk_New : ACode := .seq (.region [o9 2 (.mv (.c (.nilptr)))] none) <| .seq (.region [m9 3 0, o9 4 (.build [.nil, .int .i64 0] [(0, 1, .t 3)]), o9 5 (.box 2 36 (.t 4)), m9 2 5] none) <| .ret
abbrev n_mk_New : Nat := 8
theorem b_mk_New : bodyOf prog 8 [] = some (c_mk_New, [.t 2], 6) := by kernel_rfl
def c_flow_Board : ACode := .seq (.region [o9 2 (.alloc 3 31 (.agg [.nil, .nil, .nil]))] none) <| .seq (.region [m9 7 0, o9 8 (.call 30 [.t 7, .c (.int .i64 5)]), o9 9 (.call 29 [.t 8]), m9 6 9, o9 10 (.ext (.t 6) 0), o9 11 (.ext (.t 6)
 1), o9 3 (.alloc 3 31 (.agg [.nil, .nil, .nil])), ⟨none, .store 3 (.t 3) (.t 10), none, []⟩, m9 4 11] none) <| .seq (.seq (.region [m9 12 0, o9 13 (.call 10 [.t 12, .c (.int .i64 10)]), m9 5 13] none) <| .block 0 <| .loop <| .seq (.seq
 (.region [m9 14 5, o9 15 (.bin .gtr (.t 14) (.c (.int .i64 0)))] none) <| .cond (.t 15) (.skip) <| .exit 0) <| .seq (.block 1 <| .seq (.region [m9 18 0, o9 19 (.call 10 [.t 18, .c (.int .i64 4)])] none) <| .block 2 <| .seq (.region [o9 32
 (.bin .eql (.t 19) (.c (.int .i64 0))), m9 31 32] none) <| .cond (.t 31) (.hregion [⟨8, m9 42 0⟩, ⟨6, m9 40 0⟩, ⟨2, o9 36 (.fa 0 (.t 3))⟩, h9 3 37 (.load false 1 (.t 36)) [2], h9 4 38 (.len (.t 37)) [3,2], ⟨1, m9 35 0⟩, ⟨0, o9 34 (.load
 true 3 (.t 3))⟩, h9 5 39 (.call 10 [.t 35, .t 38]) [1,4,3,2], h9 7 41 (.call 10 [.t 40, .c (.int .i64 20)]) [6,5,1,4,3,2], h9 9 43 (.call 11 [.t 42]) [8,7,6,5,1,4,3,2], h9 10 44 (.call 22 [.t 34, .t 39, .t 41, .t 43])
 [0,5,7,9,1,4,3,2,6,8], h9 11 33 (.mv (.t 44)) [10,0,5,7,9,1,4,3,2,6,8], h9 13 46 (.ext (.t 33) 1) [11,10,0,5,7,9,1,4,3,2,6,8], h9 12 45 (.ext (.t 33) 0) [11,10,0,5,7,9,1,4,3,2,6,8], ⟨14, ⟨none, .store 3 (.t 3) (.t 45), none, [12, 10, 0,
 1, 2, 3, 4, 5, 6, 7, 8, 9, 11]⟩⟩]) <| .seq (.region [o9 48 (.bin .eql (.t 19) (.c (.int .i64 1))), m9 47 48] none) <| .cond (.t 47) (.hregion [⟨4, m9 54 0⟩, ⟨2, o9 52 (.load true 3 (.t 3))⟩, ⟨1, m9 51 0⟩, ⟨0, o9 50 (.load true 3 (.t 3))⟩,
 h9 3 53 (.call 14 [.t 51, .t 52]) [1,2], h9 5 55 (.call 10 [.t 54, .c (.int .i64 4)]) [4,3,1,2], h9 6 56 (.bin .add (.c (.int .i64 1)) (.t 55)) [5,4,3,1,2], h9 7 57 (.call 27 [.t 50, .t 53, .t 56]) [0,3,6,5,1,2,4], h9 8 49 (.mv (.t 57))
 [7,0,3,6,5,1,2,4], h9 11 60 (.ext (.t 49) 2) [8,7,0,3,6,5,1,2,4], h9 10 59 (.ext (.t 49) 1) [8,7,0,3,6,5,1,2,4], h9 9 58 (.ext (.t 49) 0) [8,7,0,3,6,5,1,2,4], ⟨12, ⟨none, .store 3 (.t 3) (.t 58), none, [9, 7, 0, 1, 2, 3, 4, 5, 6, 8]⟩⟩])
 <| .seq (.region [o9 62 (.bin .eql (.t 19) (.c (.int .i64 2))), m9 61 62] none) <| .cond (.t 61) (.hregion [⟨6, m9 70 0⟩, ⟨2, o9 66 (.fa 0 (.t 3))⟩, h9 3 67 (.load false 1 (.t 66)) [2], h9 4 68 (.len (.t 67)) [3,2], ⟨1, m9 65 0⟩, ⟨0, o9
 64 (.load true 3 (.t 3))⟩, h9 5 69 (.call 10 [.t 65, .t 68]) [1,4,3,2], h9 7 71 (.call 11 [.t 70]) [6,5,1,4,3,2], h9 8 72 (.lit false 2 39 [.t 71]) [7,6,5,1,4,3,2], h9 9 73 (.call 25 [.t 64, .t 69, .t 72]) [0,5,8,7,1,4,3,2,6], h9 10 63
 (.mv (.t 73)) [9,0,5,8,7,1,4,3,2,6], h9 12 75 (.ext (.t 63) 1) [10,9,0,5,8,7,1,4,3,2,6], h9 11 74 (.ext (.t 63) 0) [10,9,0,5,8,7,1,4,3,2,6], ⟨13, ⟨none, .store 3 (.t 3) (.t 74), none, [11, 9, 0, 1, 2, 3, 4, 5, 6, 7, 8, 10]⟩⟩]) <| .hregion
 [⟨2, o9 23 (.fa 0 (.t 3))⟩, h9 3 24 (.load false 1 (.t 23)) [2], h9 4 25 (.len (.t 24)) [3,2], ⟨1, m9 22 0⟩, ⟨0, o9 21 (.load true 3 (.t 3))⟩, h9 5 26 (.call 32 [.t 22, .t 25, .c (.int .i64 30)]) [1,4,3,2], h9 6 27 (.call 31 [.t 21, .t
 26]) [0,5,1,4,3,2], h9 7 20 (.mv (.t 27)) [6,0,5,1,4,3,2], h9 10 30 (.ext (.t 20) 2) [7,6,0,5,1,4,3,2], h9 9 29 (.ext (.t 20) 1) [7,6,0,5,1,4,3,2], h9 8 28 (.ext (.t 20) 0) [7,6,0,5,1,4,3,2], ⟨11, ⟨none, .store 3 (.t 3) (.t 28), none, [8,
 6, 0, 1, 2, 3, 4, 5, 7]⟩⟩]) <| .region [m9 16 5, o9 17 (.bin .sub (.t 16) (.c (.int .i64 1))), m9 5 17] none) <| .seq (.region [o9 76 (.load true 3 (.t 3)), ⟨none, .store 3 (.t 2) (.t 76), none, []⟩] none) <| .ret
abbrev n_flow_Board : Nat := 9
theorem b_flow_Board : bodyOf prog 9 [1000000] = some (c_flow_Board, [.c 2 true 3], 77) := by kernel_rfl
def c_mk_Deck_Next : ACode := .seq (.region [o9 4 (.mv (.c (.int .i64 0)))] none) <| .seq (.seq (.region [m9 6 1, ⟨some 7, .bin .lss (.t 6) (.c (.int .i64 1)), none, [0]⟩, ⟨some 8, .mv (.t 7), none, [1, 0]⟩, ⟨some 9, .mv (.t 0), some (8,
 false), [2, 1, 0]⟩, ⟨some 10, .nilchk (.t 9), some (8, false), [3, 2, 1, 0]⟩, ⟨some 11, .fa 1 (.t 10), some (8, false), [4, 2, 3, 1, 0]⟩, ⟨some 12, .load false 1 (.t 11), some (8, false), [5, 2, 4, 3, 1, 0]⟩, ⟨some 13, .mv (.t 0), some
 (8, false), [2, 1, 0]⟩, ⟨some 14, .nilchk (.t 13), some (8, false), [7, 2, 1, 0]⟩, ⟨some 15, .fa 0 (.t 14), some (8, false), [8, 2, 7, 1, 0]⟩, ⟨some 16, .load false 1 (.t 15), some (8, false), [9, 2, 8, 7, 1, 0]⟩, ⟨some 17, .len (.t 16),
 some (8, false), [10, 2, 9, 8, 7, 1, 0]⟩, ⟨some 18, .bin .geq (.t 12) (.t 17), some (8, false), [6, 11, 2, 5, 4, 3, 1, 0, 10, 9, 8, 7]⟩, ⟨some 19, .pick (.t 8) (.c (.bool true)) (.t 18), none, [2, 12, 1, 0, 6, 11, 5, 4, 3, 10, 9, 8, 7]⟩]
 (some 0)) <| .cond (.t 19) (.seq (.region [o9 4 (.mv (.c (.int .i64 0)))] none) <| .ret) <| .skip) <| .seq (.region [m9 20 0, ⟨some 21, .nilchk (.t 20), none, [0]⟩, ⟨some 22, .fa 0 (.t 21), none, [1, 0]⟩, ⟨some 23, .load false 1 (.t 22),
 none, [2, 1, 0]⟩, m9 24 0, ⟨some 25, .nilchk (.t 24), none, [4]⟩, ⟨some 26, .fa 1 (.t 25), none, [5, 4]⟩, ⟨some 27, .load false 1 (.t 26), none, [6, 5, 4]⟩, ⟨some 28, .ixs 1 (.t 23) (.t 27), none, [3, 7, 2, 1, 0, 6, 5, 4]⟩, ⟨some 29,
 .load false 1 (.t 28), none, [8, 3, 7, 2, 1, 0, 6, 5, 4]⟩, ⟨some 5, .mv (.t 29), none, [9, 0, 1, 2, 3, 4, 5, 6, 7, 8]⟩] (some 0)) <| .seq (.region [m9 30 0, o9 31 (.nilchk (.t 30)), o9 32 (.fa 1 (.t 31)), o9 33 (.load false 1 (.t 32)), o9
 34 (.bin .add (.t 33) (.c (.int .i64 1))), o9 35 (.nilchk (.t 30)), o9 36 (.fa 1 (.t 35)), ⟨none, .store 1 (.t 36) (.t 34), none, []⟩] none) <| .seq (.region [m9 37 5, m9 38 1, o9 39 (.call 21 [.t 37, .t 38]), m9 4 39] none) <| .ret
abbrev n_mk_Deck_Next : Nat := 10
theorem b_mk_Deck_Next : bodyOf prog 10 [] = some (c_mk_Deck_Next, [.t 4], 40) := by kernel_rfl
def c_flow_Cause : ACode := .seq (.region [o9 2 (.alloc 2 39 (.agg [.int .i64 0, .int .i64 0]))] none) <| .seq (.region [m9 3 0, o9 4 (.call 10 [.t 3, .c (.int .i64 4)]), o9 5 (.bin .add (.c (.int .i64 1)) (.t 4)), m9 6 0, o9 7 (.call 10
 [.t 6, .c (.int .i64 3)]), o9 8 (.build [.int .i64 0, .int .i64 0] [(0, 1, .t 5), (1, 1, .t 7)]), ⟨none, .store 2 (.t 2) (.t 8), none, []⟩] none) <| .ret
abbrev n_flow_Cause : Nat := 11
theorem b_flow_Cause : bodyOf prog 11 [1000000] = some (c_flow_Cause, [.c 2 true 2], 9) := by kernel_rfl
def c_cause_Issue : ACode := .seq (.region [o9 4 (.box 3 31 (.t 0)), o9 7 (.box 2 39 (.t 3)), o9 8 (.alloc 3 31 (.agg [.nil, .nil, .nil])), o9 9 (.mv (.c (.int .i64 0)))] none) <| .seq (.seq (.region [o9 16 (.load true 3 (.t 4)), m9 17 1,
 o9 18 (.call 33 [.t 16, .t 17]), m9 10 18] none) <| .seq (.region [m9 19 10, o9 20 (.bin .neq (.t 19) (.c (.int .i64 0)))] none) <| .cond (.t 20) (.seq (.region [o9 21 (.build [.nil, .nil, .nil] []), m9 22 10, ⟨none, .store 3 (.t 8) (.t
 21), none, []⟩, m9 9 22] none) <| .ret) <| .skip) <| .seq (.block 0 <| .seq (.region [m9 24 2, o9 25 (.bin .lss (.t 24) (.c (.int .i64 0))), m9 26 25, ⟨some 27, .mv (.t 2), some (26, false), []⟩, ⟨some 28, .bin .gtr (.t 27) (.c (.int .i64
 16777216)), some (26, false), []⟩, o9 29 (.pick (.t 26) (.c (.bool true)) (.t 28)), m9 23 29] none) <| .cond (.t 23) (.seq (.region [o9 30 (.build [.nil, .nil, .nil] []), ⟨none, .store 3 (.t 8) (.t 30), none, []⟩, o9 9 (.mv (.c (.int .i64
 6)))] none) <| .ret) <| .seq (.region [o9 32 (.fa 0 (.t 7)), o9 33 (.load false 1 (.t 32)), o9 34 (.bin .lss (.t 33) (.c (.int .i64 1))), m9 35 34, ⟨some 36, .fa 0 (.t 7), some (35, false), []⟩, ⟨some 37, .load false 1 (.t 36), some (35,
 false), []⟩, ⟨some 38, .bin .gtr (.t 37) (.c (.int .i64 4)), some (35, false), []⟩, o9 39 (.pick (.t 35) (.c (.bool true)) (.t 38)), m9 31 39] none) <| .cond (.t 31) (.seq (.region [o9 40 (.build [.nil, .nil, .nil] []), ⟨none, .store 3
 (.t 8) (.t 40), none, []⟩, o9 9 (.mv (.c (.int .i64 5)))] none) <| .ret) <| .seq (.region [o9 42 (.fa 1 (.t 7)), o9 43 (.load false 1 (.t 42)), o9 44 (.bin .lss (.t 43) (.c (.int .i64 0))), m9 45 44, ⟨some 46, .fa 1 (.t 7), some (45,
 false), []⟩, ⟨some 47, .load false 1 (.t 46), some (45, false), []⟩, ⟨some 48, .bin .geq (.t 47) (.c (.int .i64 6)), some (45, false), []⟩, o9 49 (.pick (.t 45) (.c (.bool true)) (.t 48)), m9 41 49] none) <| .cond (.t 41) (.seq (.region
 [o9 50 (.build [.nil, .nil, .nil] []), ⟨none, .store 3 (.t 8) (.t 50), none, []⟩, o9 9 (.mv (.c (.int .i64 40)))] none) <| .ret) <| .skip) <| .seq (.region [o9 51 (.load true 3 (.t 4)), o9 52 (.call 34 [.t 51]), o9 11 (.alloc 3 31 (.agg
 [.nil, .nil, .nil])), ⟨none, .store 3 (.t 11) (.t 52), none, []⟩] none) <| .seq (.region [o9 54 (.load true 3 (.t 11)), m9 55 1, o9 56 (.call 35 [.t 54, .t 55]), m9 53 56, o9 57 (.ext (.t 53) 0), o9 58 (.ext (.t 53) 1), m9 12 57, m9 13
 58] none) <| .seq (.seq (.region [m9 59 13, o9 60 (.un .not (.t 59))] none) <| .cond (.t 60) (.region [o9 61 (.fa 2 (.t 11)), o9 62 (.load false 1 (.t 61)), m9 63 12, m9 64 1, m9 65 2, o9 66 (.build [.int .i64 0, .int .i64 0, .nil, .int
 .i64 0] [(0, 1, .t 64), (1, 1, .t 65)]), o9 67 (.lit false 4 56 [.t 66]), o9 68 (.call 36 [.t 62, .t 63, .t 67]), o9 69 (.fa 2 (.t 11)), ⟨none, .store 1 (.t 69) (.t 68), none, []⟩] none) <| .skip) <| .seq (.region [o9 70 (.fa 2 (.t 11)),
 o9 71 (.load false 1 (.t 70)), m9 72 12, o9 73 (.ixs 4 (.t 71) (.t 72)), m9 14 73] none) <| .seq (.region [m9 74 14, o9 75 (.nilchk (.t 74)), o9 76 (.fa 3 (.t 75)), ⟨none, .store 1 (.t 76) (.c (.int .i64 0)), none, []⟩] none) <| .seq
 (.seq (.hregion [⟨4, o9 81 (.load true 2 (.t 7))⟩, ⟨0, m9 77 14⟩, h9 1 78 (.nilchk (.t 77)) [0], h9 2 79 (.fa 2 (.t 78)) [1,0], h9 3 80 (.load false 1 (.t 79)) [2,1,0], h9 5 82 (.call 37 [.t 80, .t 81]) [3,4,2,1,0], h9 6 83 (.un .not (.t
 82)) [5,3,4,2,1,0]]) <| .cond (.t 83) (.seq (.region [o9 15 (.mv (.c (.int .i64 0)))] none) <| .seq (.block 1 <| .loop <| .seq (.seq (.hregion [⟨1, m9 85 14⟩, h9 2 86 (.nilchk (.t 85)) [1], h9 3 87 (.fa 2 (.t 86)) [2,1], h9 4 88 (.load
 false 1 (.t 87)) [3,2,1], h9 5 89 (.len (.t 88)) [4,3,2,1], ⟨0, m9 84 15⟩, h9 6 90 (.bin .lss (.t 84) (.t 89)) [0,5,4,3,2,1], h9 7 91 (.mv (.t 90)) [6,0,5,4,3,2,1], ⟨15, ⟨some 99, .load true 2 (.t 7), some (91, true), [7, 6, 0, 5, 4, 3,
 2, 1]⟩⟩, ⟨12, ⟨some 96, .mv (.t 15), some (91, true), [7, 6, 0, 5, 4, 3, 2, 1]⟩⟩, ⟨8, ⟨some 92, .mv (.t 14), some (91, true), [7, 6, 0, 5, 4, 3, 2, 1]⟩⟩, ⟨9, ⟨some 93, .nilchk (.t 92), some (91, true), [8, 7, 6, 0, 5, 4, 3, 2, 1]⟩⟩, ⟨10,
 ⟨some 94, .fa 2 (.t 93), some (91, true), [9, 7, 8, 6, 0, 5, 4, 3, 2, 1]⟩⟩, ⟨11, ⟨some 95, .load false 1 (.t 94), some (91, true), [10, 7, 9, 8, 6, 0, 5, 4, 3, 2, 1]⟩⟩, ⟨13, ⟨some 97, .ixs 2 (.t 95) (.t 96), some (91, true), [11, 12, 7,
 10, 9, 8, 6, 0, 5, 4, 3, 2, 1]⟩⟩, ⟨14, ⟨some 98, .load true 2 (.t 97), some (91, true), [13, 7, 11, 12, 10, 9, 8, 6, 0, 5, 4, 3, 2, 1]⟩⟩, ⟨16, ⟨some 100, .call 38 [.t 98, .t 99], some (91, true), [14, 15, 7, 13, 11, 12, 10, 9, 8, 6, 0, 5,
 4, 3, 2, 1]⟩⟩, h9 17 101 (.pick (.t 91) (.t 100) (.c (.bool false))) [7,16,6,0,5,4,3,2,1,14,15,13,11,12,10,9,8]]) <| .cond (.t 101) (.skip) <| .exit 1) <| .block 2 <| .region [m9 102 15, o9 103 (.bin .add (.t 102) (.c (.int .i64 1))), m9
 15 103] none) <| .hregion [⟨6, o9 110 (.load true 2 (.t 7))⟩, h9 7 111 (.lit false 2 39 [.t 110]) [6], ⟨5, m9 109 15⟩, ⟨1, m9 105 14⟩, h9 2 106 (.nilchk (.t 105)) [1], h9 3 107 (.fa 2 (.t 106)) [2,1], h9 4 108 (.load false 1 (.t 107))
 [3,2,1], ⟨0, m9 104 14⟩, h9 8 112 (.call 39 [.t 108, .t 109, .t 111]) [4,5,7,3,2,1,6], h9 9 113 (.nilchk (.t 104)) [0,1,2,3,4,5,6,7,8], h9 10 114 (.fa 2 (.t 113)) [9,0,1,2,3,4,5,6,7,8], ⟨11, ⟨none, .store 1 (.t 114) (.t 112), none, [10,
 8, 0, 1, 2, 3, 4, 5, 6, 7, 9]⟩⟩]) <| .skip) <| .seq (.region [o9 115 (.load true 3 (.t 11)), ⟨none, .store 3 (.t 8) (.t 115), none, []⟩, o9 9 (.mv (.c (.int .i64 0)))] none) <| .ret
abbrev n_cause_Issue : Nat := 12
theorem b_cause_Issue : bodyOf prog 12 [1000000] = some (c_cause_Issue, [.c 8 true 3, .t 9], 116) := by kernel_rfl
def c_cause_End : ACode := .seq (.region [o9 3 (.box 3 31 (.t 0)), o9 5 (.box 2 39 (.t 2)), o9 6 (.alloc 3 31 (.agg [.nil, .nil, .nil])), o9 7 (.mv (.c (.int .i64 0)))] none) <| .seq (.seq (.region [o9 12 (.load true 3 (.t 3)), m9 13 1, o9
 14 (.call 33 [.t 12, .t 13]), m9 8 14] none) <| .seq (.region [m9 15 8, o9 16 (.bin .neq (.t 15) (.c (.int .i64 0)))] none) <| .cond (.t 16) (.seq (.region [o9 17 (.build [.nil, .nil, .nil] []), m9 18 8, ⟨none, .store 3 (.t 6) (.t 17),
 none, []⟩, m9 7 18] none) <| .ret) <| .skip) <| .seq (.region [o9 19 (.load true 3 (.t 3)), o9 20 (.call 34 [.t 19]), o9 9 (.alloc 3 31 (.agg [.nil, .nil, .nil])), ⟨none, .store 3 (.t 9) (.t 20), none, []⟩] none) <| .seq (.region [o9 22
 (.load true 3 (.t 9)), m9 23 1, o9 24 (.call 35 [.t 22, .t 23]), m9 21 24, o9 25 (.ext (.t 21) 0), o9 26 (.ext (.t 21) 1), m9 10 25, m9 11 26] none) <| .seq (.seq (.hregion [⟨0, m9 27 11⟩, h9 1 28 (.un .not (.t 27)) [0], h9 2 29 (.mv (.t
 28)) [1,0], ⟨9, ⟨some 36, .load true 2 (.t 5), some (29, false), [2, 1, 0]⟩⟩, ⟨5, ⟨some 32, .mv (.t 10), some (29, false), [2, 1, 0]⟩⟩, ⟨3, ⟨some 30, .fa 2 (.t 9), some (29, false), [2, 1, 0]⟩⟩, ⟨4, ⟨some 31, .load false 1 (.t 30), some
 (29, false), [3, 2, 1, 0]⟩⟩, ⟨6, ⟨some 33, .ixs 4 (.t 31) (.t 32), some (29, false), [4, 5, 2, 3, 1, 0]⟩⟩, ⟨7, ⟨some 34, .fa 2 (.t 33), some (29, false), [6, 2, 4, 5, 3, 1, 0]⟩⟩, ⟨8, ⟨some 35, .load false 1 (.t 34), some (29, false), [7,
 2, 6, 4, 5, 3, 1, 0]⟩⟩, ⟨10, ⟨some 37, .call 37 [.t 35, .t 36], some (29, false), [8, 9, 2, 7, 6, 4, 5, 3, 1, 0]⟩⟩, ⟨11, ⟨some 38, .un .not (.t 37), some (29, false), [10, 2, 8, 9, 7, 6, 4, 5, 3, 1, 0]⟩⟩, h9 12 39 (.pick (.t 29) (.c
 (.bool true)) (.t 38)) [2,11,1,0,10,8,9,7,6,4,5,3]]) <| .cond (.t 39) (.seq (.region [o9 40 (.build [.nil, .nil, .nil] []), ⟨none, .store 3 (.t 6) (.t 40), none, []⟩, o9 7 (.mv (.c (.int .i64 9)))] none) <| .ret) <| .skip) <| .seq
 (.hregion [⟨9, o9 50 (.mkf 41 [.t 5])⟩, ⟨5, m9 46 10⟩, ⟨3, o9 44 (.fa 2 (.t 9))⟩, h9 4 45 (.load false 1 (.t 44)) [3], h9 6 47 (.ixs 4 (.t 45) (.t 46)) [4,5,3], h9 7 48 (.fa 2 (.t 47)) [6,4,5,3], h9 8 49 (.load false 1 (.t 48))
 [7,6,4,5,3], ⟨2, m9 43 10⟩, ⟨0, o9 41 (.fa 2 (.t 9))⟩, h9 1 42 (.load false 1 (.t 41)) [0], h9 10 51 (.call 40 [.t 49, .t 50]) [8,9,7,6,4,5,3], h9 11 52 (.ixs 4 (.t 42) (.t 43)) [1,2,0,3,4,5,6,7,8,9,10], h9 12 53 (.fa 2 (.t 52))
 [11,0,1,2,3,4,5,6,7,8,9,10], ⟨13, ⟨none, .store 1 (.t 53) (.t 51), none, [12, 10, 0, 1, 2, 3, 4, 5, 6, 7, 8, 9, 11]⟩⟩]) <| .seq (.region [o9 54 (.load true 3 (.t 9)), ⟨none, .store 3 (.t 6) (.t 54), none, []⟩, o9 7 (.mv (.c (.int .i64
 0)))] none) <| .ret
abbrev n_cause_End : Nat := 13
theorem b_cause_End : bodyOf prog 13 [1000000] = some (c_cause_End, [.c 6 true 3, .t 7], 55) := by kernel_rfl
def c_flow_Quiet : ACode := .seq (.region [o9 3 (.box 3 31 (.t 1)), o9 4 (.mv (.c (.nil)))] none) <| .seq (.region [o9 5 (.mv (.c (.nil)))] none) <| .seq (.seq (.region [o9 6 (.fa 0 (.t 3)), o9 7 (.load false 1 (.t 6)), o9 8 (.len (.t 7)),
 o9 9 (.mv (.c (.int .i64 0)))] none) <| .block 0 <| .loop <| .seq (.region [o9 10 (.bin .lss (.t 9) (.t 8))] none) <| .seq (.cond (.t 10) (.skip) <| .exit 0) <| .seq (.block 1 <| .region [m9 11 5, m9 12 0, o9 13 (.call 10 [.t 12, .c (.int
 .i64 3)]), o9 14 (.bin .gtr (.t 13) (.c (.int .i64 0))), o9 15 (.lit false 1 4 [.t 14]), o9 16 (.app 1 1 4 (.t 11) (.t 15)), m9 5 16] none) <| .region [o9 17 (.bin .add (.t 9) (.c (.int .i64 1))), m9 9 17] none) <| .seq (.region [m9 18 5,
 m9 4 18] none) <| .ret
abbrev n_flow_Quiet : Nat := 14
theorem b_flow_Quiet : bodyOf prog 14 [1000000] = some (c_flow_Quiet, [.t 4], 19) := by kernel_rfl
def c_cause_Tick : ACode := .seq (.region [o9 3 (.box 3 31 (.t 0)), o9 6 (.alloc 3 31 (.agg [.nil, .nil, .nil])), o9 7 (.mv (.c (.nil))), o9 8 (.mv (.c (.int .i64 0)))] none) <| .seq (.block 0 <| .seq (.region [o9 15 (.load true 3 (.t 3)),
 o9 16 (.call 42 [.t 15]), o9 17 (.bin .neq (.t 16) (.c (.int .i64 0))), m9 14 17] none) <| .cond (.t 14) (.seq (.region [o9 18 (.build [.nil, .nil, .nil] []), ⟨none, .store 3 (.t 6) (.t 18), none, []⟩, o9 7 (.mv (.c (.nil))), o9 8 (.mv
 (.c (.int .i64 50)))] none) <| .ret) <| .seq (.region [m9 20 1, o9 21 (.len (.t 20)), o9 22 (.fa 0 (.t 3)), o9 23 (.load false 1 (.t 22)), o9 24 (.len (.t 23)), o9 25 (.bin .neq (.t 21) (.t 24)), m9 19 25] none) <| .cond (.t 19) (.seq
 (.region [o9 26 (.build [.nil, .nil, .nil] []), ⟨none, .store 3 (.t 6) (.t 26), none, []⟩, o9 7 (.mv (.c (.nil))), o9 8 (.mv (.c (.int .i64 3)))] none) <| .ret) <| .seq (.region [m9 28 2, o9 29 (.bin .lss (.t 28) (.c (.int .i64 1))), m9
 30 29, ⟨some 31, .mv (.t 2), some (30, false), []⟩, ⟨some 32, .bin .gtr (.t 31) (.c (.int .i64 96)), some (30, false), []⟩, o9 33 (.pick (.t 30) (.c (.bool true)) (.t 32)), m9 27 33] none) <| .cond (.t 27) (.seq (.region [o9 34 (.build
 [.nil, .nil, .nil] []), ⟨none, .store 3 (.t 6) (.t 34), none, []⟩, o9 7 (.mv (.c (.nil))), o9 8 (.mv (.c (.int .i64 1)))] none) <| .ret) <| .skip) <| .seq (.region [o9 35 (.load true 3 (.t 3)), o9 36 (.call 34 [.t 35]), o9 9 (.alloc 3 31
 (.agg [.nil, .nil, .nil])), ⟨none, .store 3 (.t 9) (.t 36), none, []⟩] none) <| .seq (.region [o9 10 (.mv (.c (.nil)))] none) <| .seq (.region [o9 11 (.mv (.c (.nil)))] none) <| .seq (.seq (.region [o9 37 (.fa 2 (.t 9)), o9 38 (.load
 false 1 (.t 37)), o9 39 (.len (.t 38)), o9 40 (.mv (.c (.int .i64 0)))] none) <| .block 1 <| .loop <| .seq (.region [o9 41 (.bin .lss (.t 40) (.t 39))] none) <| .seq (.cond (.t 41) (.skip) <| .exit 1) <| .seq (.block 2 <| .seq (.region
 [o9 42 (.ixs 4 (.t 38) (.t 40)), o9 43 (.load true 4 (.t 42)), o9 13 (.alloc 4 56 (.agg [.int .i64 0, .int .i64 0, .nil, .int .i64 0])), ⟨none, .store 4 (.t 13) (.t 43), none, []⟩] none) <| .seq (.block 3 <| .seq (.region [o9 49 (.fa 2
 (.t 13)), o9 50 (.load false 1 (.t 49)), o9 51 (.len (.t 50)), o9 52 (.bin .gtr (.t 51) (.c (.int .i64 0))), m9 53 52, ⟨some 54, .mv (.t 1), some (53, false), []⟩, ⟨some 55, .fa 0 (.t 13), some (53, false), []⟩, ⟨some 56, .load false 1
 (.t 55), some (53, false), []⟩, ⟨some 57, .ixs 1 (.t 54) (.t 56), some (53, false), []⟩, ⟨some 58, .load false 1 (.t 57), some (53, false), []⟩, ⟨some 59, .un .not (.t 58), some (53, false), []⟩, o9 60 (.pick (.t 53) (.c (.bool true)) (.t
 59)), m9 48 60] none) <| .cond (.t 48) (.region [o9 61 (.fa 3 (.t 13)), ⟨none, .store 1 (.t 61) (.c (.int .i64 0)), none, []⟩] none) <| .seq (.region [o9 63 (.fa 3 (.t 13)), o9 64 (.load false 1 (.t 63)), o9 65 (.bin .add (.t 64) (.c
 (.int .i64 1))), m9 66 2, o9 67 (.bin .geq (.t 65) (.t 66)), m9 62 67] none) <| .cond (.t 62) (.seq (.region [m9 68 11, o9 69 (.fa 0 (.t 13)), o9 70 (.load false 1 (.t 69)), o9 71 (.lit false 1 3 [.t 70]), o9 72 (.app 1 8 3 (.t 68) (.t
 71)), m9 11 72] none) <| .exit 2) <| .region [o9 44 (.fa 3 (.t 13)), o9 45 (.load false 1 (.t 44)), o9 46 (.bin .add (.t 45) (.c (.int .i64 1))), o9 47 (.fa 3 (.t 13)), ⟨none, .store 1 (.t 47) (.t 46), none, []⟩] none) <| .region [m9 73
 10, o9 74 (.load true 4 (.t 13)), o9 75 (.lit false 4 56 [.t 74]), o9 76 (.app 4 48 56 (.t 73) (.t 75)), m9 10 76] none) <| .region [o9 77 (.bin .add (.t 40) (.c (.int .i64 1))), m9 40 77] none) <| .seq (.region [m9 78 10, o9 79 (.fa 2
 (.t 9)), ⟨none, .store 1 (.t 79) (.t 78), none, []⟩] none) <| .seq (.region [o9 80 (.load true 3 (.t 9)), m9 81 11, ⟨none, .store 3 (.t 6) (.t 80), none, []⟩, m9 7 81, o9 8 (.mv (.c (.int .i64 0)))] none) <| .ret
abbrev n_cause_Tick : Nat := 15
theorem b_cause_Tick : bodyOf prog 15 [1000000] = some (c_cause_Tick, [.c 6 true 3, .t 7, .t 8], 82) := by kernel_rfl
def c_law37_has : ACode := .seq (.region [o9 4 (.mv (.c (.bool false)))] none) <| .seq (.seq (.region [m9 7 0, o9 8 (.len (.t 7)), o9 9 (.mv (.c (.int .i64 0)))] none) <| .block 0 <| .loop <| .seq (.region [o9 10 (.bin .lss (.t 9) (.t 8))]
 none) <| .seq (.cond (.t 10) (.skip) <| .exit 0) <| .seq (.block 1 <| .seq (.region [o9 11 (.ixs 1 (.t 7) (.t 9)), o9 12 (.load false 1 (.t 11)), m9 6 12] none) <| .seq (.region [m9 13 6, m9 14 1, o9 15 (.bin .eql (.t 13) (.t 14))] none)
 <| .cond (.t 15) (.seq (.region [o9 4 (.mv (.c (.bool true)))] none) <| .ret) <| .skip) <| .region [o9 16 (.bin .add (.t 9) (.c (.int .i64 1))), m9 9 16] none) <| .seq (.region [o9 4 (.mv (.c (.bool false)))] none) <| .ret
abbrev n_law37_has : Nat := 16
theorem b_law37_has : bodyOf prog 16 [1000000] = some (c_law37_has, [.t 4], 17) := by kernel_rfl
def c_cause_Causes : ACode := .seq (.region [o9 2 (.box 3 31 (.t 0)), o9 4 (.mv (.c (.nil))), o9 5 (.mv (.c (.bool false)))] none) <| .seq (.region [o9 9 (.load true 3 (.t 2)), m9 10 1, o9 11 (.call 43 [.t 9, .t 10]), m9 8 11, o9 12 (.ext
 (.t 8) 0), o9 13 (.ext (.t 8) 1), o9 6 (.alloc 4 56 (.agg [.int .i64 0, .int .i64 0, .nil, .int .i64 0])), ⟨none, .store 4 (.t 6) (.t 12), none, []⟩, m9 7 13] none) <| .seq (.seq (.region [m9 14 7, o9 15 (.un .not (.t 14))] none) <| .cond
 (.t 15) (.seq (.region [o9 4 (.mv (.c (.nil))), o9 5 (.mv (.c (.bool false)))] none) <| .ret) <| .skip) <| .seq (.region [o9 16 (.fa 2 (.t 6)), o9 17 (.load false 1 (.t 16)), m9 4 17, o9 5 (.mv (.c (.bool true)))] none) <| .ret
abbrev n_cause_Causes : Nat := 17
theorem b_cause_Causes : bodyOf prog 17 [1000000] = some (c_cause_Causes, [.t 4, .t 5], 18) := by kernel_rfl
def c_mk_Mod : ACode := .seq (.region [o9 4 (.mv (.c (.int .i64 0)))] none) <| .seq (.region [m9 5 0, m9 6 1, o9 7 (.bin .rem (.t 5) (.t 6)), m9 8 1, o9 9 (.bin .add (.t 7) (.t 8)), m9 10 1, o9 11 (.bin .rem (.t 9) (.t 10)), m9 4 11] none)
 <| .ret
abbrev n_mk_Mod : Nat := 21
theorem b_mk_Mod : bodyOf prog 21 [] = some (c_mk_Mod, [.t 4], 12) := by kernel_rfl
def c_ref37_Issue : ACode := .seq (.region [o9 4 (.box 3 31 (.t 0)), o9 7 (.box 2 39 (.t 3)), o9 8 (.alloc 3 31 (.agg [.nil, .nil, .nil])), o9 9 (.mv (.c (.int .i64 0)))] none) <| .seq (.seq (.region [o9 19 (.load true 3 (.t 4)), o9 20
 (.call 46 [.t 19]), o9 21 (.bin .neq (.t 20) (.c (.int .i64 0)))] none) <| .cond (.t 21) (.seq (.region [o9 22 (.build [.nil, .nil, .nil] []), ⟨none, .store 3 (.t 8) (.t 22), none, []⟩, o9 9 (.mv (.c (.int .i64 50)))] none) <| .ret) <|
 .skip) <| .seq (.seq (.region [m9 23 1, o9 24 (.bin .lss (.t 23) (.c (.int .i64 0))), m9 25 24, ⟨some 26, .mv (.t 1), some (25, false), []⟩, ⟨some 27, .fa 0 (.t 4), some (25, false), []⟩, ⟨some 28, .load false 1 (.t 27), some (25, false),
 []⟩, ⟨some 29, .len (.t 28), some (25, false), []⟩, ⟨some 30, .bin .geq (.t 26) (.t 29), some (25, false), []⟩, o9 31 (.pick (.t 25) (.c (.bool true)) (.t 30))] none) <| .cond (.t 31) (.seq (.region [o9 32 (.build [.nil, .nil, .nil] []),
 ⟨none, .store 3 (.t 8) (.t 32), none, []⟩, o9 9 (.mv (.c (.int .i64 52)))] none) <| .ret) <| .skip) <| .seq (.seq (.region [m9 33 2, o9 34 (.bin .lss (.t 33) (.c (.int .i64 0))), m9 35 34, ⟨some 36, .mv (.t 2), some (35, false), []⟩,
 ⟨some 37, .bin .gtr (.t 36) (.c (.int .i64 16777216)), some (35, false), []⟩, o9 38 (.pick (.t 35) (.c (.bool true)) (.t 37))] none) <| .cond (.t 38) (.seq (.region [o9 39 (.build [.nil, .nil, .nil] []), ⟨none, .store 3 (.t 8) (.t 39),
 none, []⟩, o9 9 (.mv (.c (.int .i64 6)))] none) <| .ret) <| .skip) <| .seq (.seq (.region [o9 40 (.load true 2 (.t 7)), o9 41 (.call 48 [.t 40]), m9 10 41] none) <| .seq (.region [m9 42 10, o9 43 (.bin .neq (.t 42) (.c (.int .i64 0)))]
 none) <| .cond (.t 43) (.seq (.region [o9 44 (.build [.nil, .nil, .nil] []), m9 45 10, ⟨none, .store 3 (.t 8) (.t 44), none, []⟩, m9 9 45] none) <| .ret) <| .skip) <| .seq (.region [o9 46 (.load true 3 (.t 4)), o9 47 (.call 47 [.t 46]),
 o9 11 (.alloc 3 31 (.agg [.nil, .nil, .nil])), ⟨none, .store 3 (.t 11) (.t 47), none, []⟩] none) <| .seq (.region [o9 49 (.load true 3 (.t 11)), m9 50 1, o9 51 (.call 49 [.t 49, .t 50]), m9 48 51, o9 52 (.ext (.t 48) 0), o9 53 (.ext (.t
 48) 1), m9 12 52, m9 13 53] none) <| .seq (.seq (.region [m9 54 13, o9 55 (.un .not (.t 54))] none) <| .cond (.t 55) (.seq (.region [o9 14 (.mv (.c (.nil)))] none) <| .seq (.region [m9 56 14, o9 57 (.fa 2 (.t 11)), o9 58 (.load false 1
 (.t 57)), m9 59 12, o9 60 (.slc 4 (.t 58) none (some (.t 59))), o9 61 (.app 4 48 56 (.t 56) (.t 60)), m9 62 1, m9 63 2, o9 64 (.build [.int .i64 0, .int .i64 0, .nil, .int .i64 0] [(0, 1, .t 62), (1, 1, .t 63)]), o9 65 (.lit false 4 56
 [.t 64]), o9 66 (.app 4 48 56 (.t 61) (.t 65)), m9 14 66] none) <| .region [m9 67 14, o9 68 (.fa 2 (.t 11)), o9 69 (.load false 1 (.t 68)), m9 70 12, o9 71 (.slc 4 (.t 69) (some (.t 70)) none), o9 72 (.app 4 48 56 (.t 67) (.t 71)), o9 73
 (.fa 2 (.t 11)), ⟨none, .store 1 (.t 73) (.t 72), none, []⟩] none) <| .skip) <| .seq (.region [o9 74 (.fa 2 (.t 11)), o9 75 (.load false 1 (.t 74)), m9 76 12, o9 77 (.ixs 4 (.t 75) (.t 76)), m9 15 77] none) <| .seq (.region [m9 78 15, o9
 79 (.nilchk (.t 78)), o9 80 (.fa 3 (.t 79)), ⟨none, .store 1 (.t 80) (.c (.int .i64 0)), none, []⟩] none) <| .seq (.seq (.hregion [⟨4, o9 86 (.load true 2 (.t 7))⟩, ⟨0, m9 82 15⟩, h9 1 83 (.nilchk (.t 82)) [0], h9 2 84 (.fa 2 (.t 83))
 [1,0], h9 3 85 (.load false 1 (.t 84)) [2,1,0], h9 5 87 (.call 50 [.t 85, .t 86]) [3,4,2,1,0], h9 6 81 (.mv (.t 87)) [5,3,4,2,1,0], h9 8 89 (.ext (.t 81) 1) [6,5,3,4,2,1,0], h9 7 88 (.ext (.t 81) 0) [6,5,3,4,2,1,0], h9 9 16 (.mv (.t 88))
 [7,5,0,1,2,3,4,6], h9 10 17 (.mv (.t 89)) [8,9,0,1,2,3,4,5,6,7]]) <| .seq (.region [m9 90 17, o9 91 (.un .not (.t 90))] none) <| .cond (.t 91) (.seq (.region [o9 18 (.mv (.c (.nil)))] none) <| .seq (.hregion [⟨8, o9 100 (.load true 2 (.t
 7))⟩, h9 9 101 (.lit false 2 39 [.t 100]) [8], ⟨5, m9 97 16⟩, ⟨1, m9 93 15⟩, h9 2 94 (.nilchk (.t 93)) [1], h9 3 95 (.fa 2 (.t 94)) [2,1], h9 4 96 (.load false 1 (.t 95)) [3,2,1], h9 6 98 (.slc 2 (.t 96) none (some (.t 97))) [4,5,3,2,1],
 ⟨0, m9 92 18⟩, h9 7 99 (.app 2 16 39 (.t 92) (.t 98)) [0,6,4,5,3,2,1], h9 10 102 (.app 2 16 39 (.t 99) (.t 101)) [7,9,0,6,4,5,3,2,1,8], h9 11 18 (.mv (.t 102)) [10,0,1,2,3,4,5,6,7,8,9]]) <| .region [m9 103 15, m9 104 18, m9 105 15, o9 106
 (.nilchk (.t 105)), o9 107 (.fa 2 (.t 106)), o9 108 (.load false 1 (.t 107)), m9 109 16, o9 110 (.slc 2 (.t 108) (some (.t 109)) none), o9 111 (.app 2 16 39 (.t 104) (.t 110)), o9 112 (.nilchk (.t 103)), o9 113 (.fa 2 (.t 112)), ⟨none,
 .store 1 (.t 113) (.t 111), none, []⟩] none) <| .skip) <| .seq (.region [o9 114 (.load true 3 (.t 11)), ⟨none, .store 3 (.t 8) (.t 114), none, []⟩, o9 9 (.mv (.c (.int .i64 0)))] none) <| .ret
abbrev n_ref37_Issue : Nat := 22
theorem b_ref37_Issue : bodyOf prog 22 [1000000] = some (c_ref37_Issue, [.c 8 true 3, .t 9], 115) := by kernel_rfl
def c_ref37_Keep : ACode := .seq (.region [o9 3 (.box 3 31 (.t 0)), o9 6 (.alloc 3 31 (.agg [.nil, .nil, .nil])), o9 7 (.mv (.c (.int .i64 0)))] none) <| .seq (.seq (.region [o9 17 (.load true 3 (.t 3)), o9 18 (.call 46 [.t 17]), o9 19
 (.bin .neq (.t 18) (.c (.int .i64 0)))] none) <| .cond (.t 19) (.seq (.region [o9 20 (.build [.nil, .nil, .nil] []), ⟨none, .store 3 (.t 6) (.t 20), none, []⟩, o9 7 (.mv (.c (.int .i64 50)))] none) <| .ret) <| .skip) <| .seq (.seq
 (.region [m9 21 1, o9 22 (.bin .lss (.t 21) (.c (.int .i64 0))), m9 23 22, ⟨some 24, .mv (.t 1), some (23, false), []⟩, ⟨some 25, .fa 0 (.t 3), some (23, false), []⟩, ⟨some 26, .load false 1 (.t 25), some (23, false), []⟩, ⟨some 27, .len
 (.t 26), some (23, false), []⟩, ⟨some 28, .bin .geq (.t 24) (.t 27), some (23, false), []⟩, o9 29 (.pick (.t 23) (.c (.bool true)) (.t 28))] none) <| .cond (.t 29) (.seq (.region [o9 30 (.build [.nil, .nil, .nil] []), ⟨none, .store 3 (.t
 6) (.t 30), none, []⟩, o9 7 (.mv (.c (.int .i64 52)))] none) <| .ret) <| .skip) <| .seq (.region [o9 31 (.load true 3 (.t 3)), o9 32 (.call 47 [.t 31]), o9 8 (.alloc 3 31 (.agg [.nil, .nil, .nil])), ⟨none, .store 3 (.t 8) (.t 32), none,
 []⟩] none) <| .seq (.region [o9 34 (.load true 3 (.t 8)), m9 35 1, o9 36 (.call 49 [.t 34, .t 35]), m9 33 36, o9 37 (.ext (.t 33) 0), o9 38 (.ext (.t 33) 1), m9 9 37, m9 10 38] none) <| .seq (.seq (.region [m9 39 10, o9 40 (.un .not (.t
 39))] none) <| .cond (.t 40) (.seq (.region [o9 41 (.load true 3 (.t 8)), ⟨none, .store 3 (.t 6) (.t 41), none, []⟩, o9 7 (.mv (.c (.int .i64 0)))] none) <| .ret) <| .skip) <| .seq (.region [o9 11 (.mv (.c (.nil)))] none) <| .seq (.seq
 (.region [o9 42 (.fa 2 (.t 8)), o9 43 (.load false 1 (.t 42)), m9 44 9, o9 45 (.ixs 4 (.t 43) (.t 44)), o9 46 (.fa 2 (.t 45)), o9 47 (.load false 1 (.t 46)), o9 48 (.len (.t 47)), o9 49 (.mv (.c (.int .i64 0)))] none) <| .block 0 <| .loop
 <| .seq (.region [o9 50 (.bin .lss (.t 49) (.t 48))] none) <| .seq (.cond (.t 50) (.skip) <| .exit 0) <| .seq (.block 1 <| .seq (.region [o9 51 (.ixs 2 (.t 47) (.t 49)), o9 52 (.load true 2 (.t 51)), o9 13 (.alloc 2 39 (.agg [.int .i64 0,
 .int .i64 0])), ⟨none, .store 2 (.t 13) (.t 52), none, []⟩] none) <| .seq (.region [o9 14 (.mv (.c (.bool false)))] none) <| .seq (.seq (.region [m9 53 2, o9 54 (.len (.t 53)), o9 55 (.mv (.c (.int .i64 0)))] none) <| .block 2 <| .loop <|
 .seq (.region [o9 56 (.bin .lss (.t 55) (.t 54))] none) <| .seq (.cond (.t 56) (.skip) <| .exit 2) <| .seq (.block 3 <| .seq (.region [o9 57 (.ixs 2 (.t 53) (.t 55)), o9 58 (.load true 2 (.t 57)), o9 16 (.alloc 2 39 (.agg [.int .i64 0,
 .int .i64 0])), ⟨none, .store 2 (.t 16) (.t 58), none, []⟩] none) <| .region [m9 59 14, m9 60 59, ⟨some 61, .load true 2 (.t 16), some (60, false), []⟩, ⟨some 62, .load true 2 (.t 13), some (60, false), []⟩, ⟨some 63, .eqs false [0, 0]
 (.t 61) (.t 62), some (60, false), []⟩, o9 64 (.pick (.t 60) (.c (.bool true)) (.t 63)), m9 14 64] none) <| .region [o9 65 (.bin .add (.t 55) (.c (.int .i64 1))), m9 55 65] none) <| .seq (.region [m9 66 14] none) <| .cond (.t 66) (.region
 [m9 67 11, o9 68 (.load true 2 (.t 13)), o9 69 (.lit false 2 39 [.t 68]), o9 70 (.app 2 16 39 (.t 67) (.t 69)), m9 11 70] none) <| .skip) <| .region [o9 71 (.bin .add (.t 49) (.c (.int .i64 1))), m9 49 71] none) <| .seq (.region [o9 72
 (.fa 2 (.t 8)), o9 73 (.load false 1 (.t 72)), m9 74 9, m9 75 11, o9 76 (.ixs 4 (.t 73) (.t 74)), o9 77 (.fa 2 (.t 76)), ⟨none, .store 1 (.t 77) (.t 75), none, []⟩] none) <| .seq (.region [o9 78 (.load true 3 (.t 8)), ⟨none, .store 3 (.t
 6) (.t 78), none, []⟩, o9 7 (.mv (.c (.int .i64 0)))] none) <| .ret
abbrev n_ref37_Keep : Nat := 25
theorem b_ref37_Keep : bodyOf prog 25 [1000000] = some (c_ref37_Keep, [.c 6 true 3, .t 7], 79) := by kernel_rfl
def c_ref37_Tick : ACode := .seq (.region [o9 3 (.box 3 31 (.t 0)), o9 6 (.alloc 3 31 (.agg [.nil, .nil, .nil])), o9 7 (.mv (.c (.nil))), o9 8 (.mv (.c (.int .i64 0)))] none) <| .seq (.seq (.region [o9 13 (.load true 3 (.t 3)), o9 14
 (.call 46 [.t 13]), o9 15 (.bin .neq (.t 14) (.c (.int .i64 0)))] none) <| .cond (.t 15) (.seq (.region [o9 16 (.build [.nil, .nil, .nil] []), ⟨none, .store 3 (.t 6) (.t 16), none, []⟩, o9 7 (.mv (.c (.nil))), o9 8 (.mv (.c (.int .i64
 50)))] none) <| .ret) <| .skip) <| .seq (.seq (.region [m9 17 1, o9 18 (.len (.t 17)), o9 19 (.fa 0 (.t 3)), o9 20 (.load false 1 (.t 19)), o9 21 (.len (.t 20)), o9 22 (.bin .neq (.t 18) (.t 21))] none) <| .cond (.t 22) (.seq (.region [o9
 23 (.build [.nil, .nil, .nil] []), ⟨none, .store 3 (.t 6) (.t 23), none, []⟩, o9 7 (.mv (.c (.nil))), o9 8 (.mv (.c (.int .i64 3)))] none) <| .ret) <| .skip) <| .seq (.seq (.region [m9 24 2, o9 25 (.bin .lss (.t 24) (.c (.int .i64 1))),
 m9 26 25, ⟨some 27, .mv (.t 2), some (26, false), []⟩, ⟨some 28, .bin .gtr (.t 27) (.c (.int .i64 96)), some (26, false), []⟩, o9 29 (.pick (.t 26) (.c (.bool true)) (.t 28))] none) <| .cond (.t 29) (.seq (.region [o9 30 (.build [.nil,
 .nil, .nil] []), ⟨none, .store 3 (.t 6) (.t 30), none, []⟩, o9 7 (.mv (.c (.nil))), o9 8 (.mv (.c (.int .i64 1)))] none) <| .ret) <| .skip) <| .seq (.region [o9 31 (.load true 3 (.t 3)), o9 32 (.call 47 [.t 31]), o9 9 (.alloc 3 31 (.agg
 [.nil, .nil, .nil])), ⟨none, .store 3 (.t 9) (.t 32), none, []⟩] none) <| .seq (.region [o9 33 (.fa 2 (.t 9)), ⟨none, .store 1 (.t 33) (.c (.nil)), none, []⟩] none) <| .seq (.region [o9 10 (.mv (.c (.nil)))] none) <| .seq (.seq (.region
 [o9 34 (.load true 3 (.t 3)), o9 35 (.call 47 [.t 34]), o9 36 (.pu (.fld false 1 2) [.t 35]), o9 37 (.len (.t 36)), o9 38 (.mv (.c (.int .i64 0)))] none) <| .block 0 <| .loop <| .seq (.region [o9 39 (.bin .lss (.t 38) (.t 37))] none) <|
 .seq (.cond (.t 39) (.skip) <| .exit 0) <| .seq (.block 1 <| .seq (.region [o9 40 (.ixs 4 (.t 36) (.t 38)), o9 41 (.load true 4 (.t 40)), o9 12 (.alloc 4 56 (.agg [.int .i64 0, .int .i64 0, .nil, .int .i64 0])), ⟨none, .store 4 (.t 12)
 (.t 41), none, []⟩] none) <| .seq (.block 2 <| .seq (.region [o9 56 (.fa 2 (.t 12)), o9 57 (.load false 1 (.t 56)), o9 58 (.len (.t 57)), o9 59 (.bin .gtr (.t 58) (.c (.int .i64 0))), m9 60 59, ⟨some 61, .mv (.t 1), some (60, false), []⟩,
 ⟨some 62, .fa 0 (.t 12), some (60, false), []⟩, ⟨some 63, .load false 1 (.t 62), some (60, false), []⟩, ⟨some 64, .ixs 1 (.t 61) (.t 63), some (60, false), []⟩, ⟨some 65, .load false 1 (.t 64), some (60, false), []⟩, ⟨some 66, .un .not
 (.t 65), some (60, false), []⟩, o9 67 (.pick (.t 60) (.c (.bool true)) (.t 66)), m9 55 67] none) <| .cond (.t 55) (.region [o9 68 (.fa 3 (.t 12)), ⟨none, .store 1 (.t 68) (.c (.int .i64 0)), none, []⟩] none) <| .seq (.region [o9 42 (.fa 3
 (.t 12)), o9 43 (.load false 1 (.t 42)), o9 44 (.bin .add (.t 43) (.c (.int .i64 1))), o9 45 (.fa 3 (.t 12)), ⟨none, .store 1 (.t 45) (.t 44), none, []⟩] none) <| .seq (.region [o9 46 (.fa 3 (.t 12)), o9 47 (.load false 1 (.t 46)), m9 48
 2, o9 49 (.bin .geq (.t 47) (.t 48))] none) <| .cond (.t 49) (.seq (.region [m9 50 10, o9 51 (.fa 0 (.t 12)), o9 52 (.load false 1 (.t 51)), o9 53 (.lit false 1 3 [.t 52]), o9 54 (.app 1 8 3 (.t 50) (.t 53)), m9 10 54] none) <| .exit 1)
 <| .skip) <| .region [o9 69 (.fa 2 (.t 9)), o9 70 (.load false 1 (.t 69)), o9 71 (.load true 4 (.t 12)), o9 72 (.lit false 4 56 [.t 71]), o9 73 (.app 4 48 56 (.t 70) (.t 72)), o9 74 (.fa 2 (.t 9)), ⟨none, .store 1 (.t 74) (.t 73), none,
 []⟩] none) <| .region [o9 75 (.bin .add (.t 38) (.c (.int .i64 1))), m9 38 75] none) <| .seq (.region [o9 76 (.load true 3 (.t 9)), m9 77 10, ⟨none, .store 3 (.t 6) (.t 76), none, []⟩, m9 7 77, o9 8 (.mv (.c (.int .i64 0)))] none) <| .ret
abbrev n_ref37_Tick : Nat := 27
theorem b_ref37_Tick : bodyOf prog 27 [1000000] = some (c_ref37_Tick, [.c 6 true 3, .t 7, .t 8], 78) := by kernel_rfl
def c_ref36_Open : ACode := .seq (.region [o9 2 (.alloc 3 31 (.agg [.nil, .nil, .nil])), o9 3 (.mv (.c (.int .i64 0)))] none) <| .seq (.seq (.region [m9 6 0, o9 7 (.len (.t 6)), o9 8 (.bin .gtr (.t 7) (.c (.int .i64 8)))] none) <| .cond
 (.t 8) (.seq (.region [o9 9 (.build [.nil, .nil, .nil] []), ⟨none, .store 3 (.t 2) (.t 9), none, []⟩, o9 3 (.mv (.c (.int .i64 10)))] none) <| .ret) <| .skip) <| .seq (.seq (.region [m9 10 0, o9 11 (.len (.t 10)), o9 12 (.mv (.c (.int
 .i64 0)))] none) <| .block 0 <| .loop <| .seq (.region [o9 13 (.bin .lss (.t 12) (.t 11))] none) <| .seq (.cond (.t 13) (.skip) <| .exit 0) <| .seq (.block 1 <| .seq (.region [o9 14 (.ixs 4 (.t 10) (.t 12)), o9 15 (.load true 4 (.t 14)),
 o9 5 (.alloc 4 68 (.agg [.int .i64 0, .int .i64 0, .int .i64 0, .int .i64 0])), ⟨none, .store 4 (.t 5) (.t 15), none, []⟩] none) <| .seq (.region [o9 16 (.load true 4 (.t 5)), o9 17 (.call 52 [.t 16]), o9 18 (.un .not (.t 17))] none) <|
 .cond (.t 18) (.seq (.region [o9 19 (.build [.nil, .nil, .nil] []), ⟨none, .store 3 (.t 2) (.t 19), none, []⟩, o9 3 (.mv (.c (.int .i64 52)))] none) <| .ret) <| .skip) <| .region [o9 20 (.bin .add (.t 12) (.c (.int .i64 1))), m9 12 20]
 none) <| .seq (.region [m9 21 0, ⟨some 22, .app 4 32 68 (.c (.nil)) (.t 21), none, [0]⟩, m9 23 0, ⟨some 24, .len (.t 23), none, [2]⟩, ⟨some 25, .mks false 1 24 22 (.nil) (.t 24), none, [3, 2]⟩, ⟨some 26, .build [.nil, .nil, .nil] [(0, 1,
 .t 22), (1, 1, .t 25)], none, [1, 4, 0, 3, 2]⟩, ⟨none, .store 3 (.t 2) (.t 26), none, [5, 1, 0, 2, 3, 4]⟩, ⟨some 3, .mv (.c (.int .i64 0)), none, [6, 0, 1, 2, 3, 4, 5]⟩] (some 8)) <| .ret
abbrev n_ref36_Open : Nat := 29
theorem b_ref36_Open : bodyOf prog 29 [1000000] = some (c_ref36_Open, [.c 2 true 3, .t 3], 27) := by kernel_rfl
def c_flow_Points : ACode := .seq (.region [o9 4 (.mv (.c (.nil)))] none) <| .seq (.region [o9 5 (.mv (.c (.nil)))] none) <| .seq (.seq (.region [m9 7 0, o9 8 (.call 10 [.t 7, .c (.int .i64 3)]), m9 6 8] none) <| .block 0 <| .loop <| .seq
 (.seq (.region [m9 9 6, o9 10 (.bin .geq (.t 9) (.c (.int .i64 0)))] none) <| .cond (.t 10) (.skip) <| .exit 0) <| .seq (.block 1 <| .region [m9 13 5, m9 14 0, m9 15 1, o9 16 (.call 10 [.t 14, .t 15]), m9 17 0, o9 18 (.call 10 [.t 17, .c
 (.int .i64 4)]), o9 19 (.bin .add (.c (.int .i64 1)) (.t 18)), m9 20 0, o9 21 (.call 10 [.t 20, .c (.int .i64 12)]), m9 22 0, o9 23 (.call 10 [.t 22, .c (.int .i64 4)]), o9 24 (.bin .add (.c (.int .i64 1)) (.t 23)), o9 25 (.build [.int
 .i64 0, .int .i64 0, .int .i64 0, .int .i64 0] [(0, 1, .t 16), (1, 1, .t 19), (2, 1, .t 21), (3, 1, .t 24)]), o9 26 (.lit false 4 68 [.t 25]), o9 27 (.app 4 32 68 (.t 13) (.t 26)), m9 5 27] none) <| .region [m9 11 6, o9 12 (.bin .sub (.t
 11) (.c (.int .i64 1))), m9 6 12] none) <| .seq (.region [m9 28 5, m9 4 28] none) <| .ret
abbrev n_flow_Points : Nat := 30
theorem b_flow_Points : bodyOf prog 30 [1000000] = some (c_flow_Points, [.t 4], 29) := by kernel_rfl
def c_ref36_See : ACode := .seq (.region [o9 2 (.box 3 31 (.t 0)), o9 4 (.alloc 3 31 (.agg [.nil, .nil, .nil])), o9 5 (.mv (.c (.nil))), o9 6 (.mv (.c (.int .i64 0)))] none) <| .seq (.seq (.region [o9 12 (.load true 3 (.t 2)), o9 13 (.call
 46 [.t 12]), o9 14 (.bin .neq (.t 13) (.c (.int .i64 0)))] none) <| .cond (.t 14) (.seq (.region [o9 15 (.build [.nil, .nil, .nil] []), ⟨none, .store 3 (.t 4) (.t 15), none, []⟩, o9 5 (.mv (.c (.nil))), o9 6 (.mv (.c (.int .i64 50)))]
 none) <| .ret) <| .skip) <| .seq (.seq (.region [m9 16 1, o9 17 (.len (.t 16)), o9 18 (.fa 0 (.t 2)), o9 19 (.load false 1 (.t 18)), o9 20 (.len (.t 19)), o9 21 (.bin .neq (.t 17) (.t 20))] none) <| .cond (.t 21) (.seq (.region [o9 22
 (.build [.nil, .nil, .nil] []), ⟨none, .store 3 (.t 4) (.t 22), none, []⟩, o9 5 (.mv (.c (.nil))), o9 6 (.mv (.c (.int .i64 3)))] none) <| .ret) <| .skip) <| .seq (.seq (.region [m9 23 1, o9 24 (.call 53 [.t 23]), o9 25 (.un .not (.t
 24))] none) <| .cond (.t 25) (.seq (.region [o9 26 (.build [.nil, .nil, .nil] []), ⟨none, .store 3 (.t 4) (.t 26), none, []⟩, o9 5 (.mv (.c (.nil))), o9 6 (.mv (.c (.int .i64 1)))] none) <| .ret) <| .skip) <| .seq (.region [o9 27 (.load
 true 3 (.t 2)), o9 28 (.call 47 [.t 27]), o9 7 (.alloc 3 31 (.agg [.nil, .nil, .nil])), ⟨none, .store 3 (.t 7) (.t 28), none, []⟩] none) <| .seq (.region [o9 8 (.mv (.c (.nil)))] none) <| .seq (.seq (.region [o9 29 (.fa 0 (.t 2)), o9 30
 (.load false 1 (.t 29)), o9 31 (.len (.t 30)), o9 32 (.mv (.c (.int .i64 0)))] none) <| .block 0 <| .loop <| .seq (.region [o9 33 (.bin .lss (.t 32) (.t 31))] none) <| .seq (.cond (.t 33) (.skip) <| .exit 0) <| .seq (.block 1 <| .seq
 (.region [m9 34 32, o9 35 (.ixs 4 (.t 30) (.t 32)), o9 36 (.load true 4 (.t 35)), o9 10 (.alloc 4 68 (.agg [.int .i64 0, .int .i64 0, .int .i64 0, .int .i64 0])), m9 9 34, ⟨none, .store 4 (.t 10) (.t 36), none, []⟩] none) <| .seq (.seq
 (.hregion [⟨12, o9 49 (.fa 2 (.t 10))⟩, h9 13 50 (.load false 1 (.t 49)) [12], ⟨8, m9 45 9⟩, ⟨7, m9 44 1⟩, h9 9 46 (.ixs 1 (.t 44) (.t 45)) [7,8], h9 10 47 (.load false 1 (.t 46)) [9,7,8], ⟨5, o9 42 (.fa 1 (.t 10))⟩, h9 6 43 (.load false
 1 (.t 42)) [5], ⟨2, m9 39 9⟩, ⟨0, o9 37 (.fa 1 (.t 2))⟩, h9 1 38 (.load false 1 (.t 37)) [0], h9 3 40 (.ixs 1 (.t 38) (.t 39)) [1,2,0], h9 4 41 (.load false 1 (.t 40)) [3,1,2,0], h9 11 48 (.call 54 [.t 41, .t 43, .t 47])
 [4,6,10,3,1,2,0,5,9,7,8], h9 14 51 (.bin .gtr (.t 48) (.t 50)) [11,13,4,6,10,3,1,2,0,5,9,7,8,12]]) <| .cond (.t 51) (.region [m9 52 8, m9 53 9, o9 54 (.lit false 1 3 [.t 53]), o9 55 (.app 1 8 3 (.t 52) (.t 54)), m9 8 55] none) <| .skip)
 <| .seq (.hregion [⟨6, m9 62 9⟩, ⟨5, m9 61 1⟩, h9 7 63 (.ixs 1 (.t 61) (.t 62)) [5,6], h9 8 64 (.load false 1 (.t 63)) [7,5,6], h9 9 65 (.lit false 1 3 [.t 64]) [8,7,5,6], ⟨2, m9 58 9⟩, ⟨0, o9 56 (.fa 1 (.t 7))⟩, h9 1 57 (.load false 1
 (.t 56)) [0], h9 3 59 (.ixs 1 (.t 57) (.t 58)) [1,2,0], h9 4 60 (.load false 1 (.t 59)) [3,1,2,0], h9 10 66 (.app 1 8 3 (.t 60) (.t 65)) [4,9,3,1,2,0,8,7,5,6], h9 11 11 (.mv (.t 66)) [10,0,1,2,3,4,5,6,7,8,9]]) <| .hregion [⟨6, o9 73 (.fa
 1 (.t 10))⟩, h9 7 74 (.load false 1 (.t 73)) [6], ⟨4, m9 71 11⟩, h9 5 72 (.len (.t 71)) [4], h9 8 75 (.bin .sub (.t 72) (.t 74)) [5,7,4,6], h9 9 76 (.mnx true (.c (.int .i64 0)) [.t 75]) [8,5,7,4,6], ⟨3, m9 70 11⟩, h9 10 77 (.slc 1 (.t
 70) (some (.t 76)) none) [3,9,8,5,7,4,6], ⟨2, m9 69 9⟩, ⟨0, o9 67 (.fa 1 (.t 7))⟩, h9 1 68 (.load false 1 (.t 67)) [0], h9 11 78 (.ixs 1 (.t 68) (.t 69)) [1,2,0,3,4,5,6,7,8,9,10], ⟨12, ⟨none, .store 1 (.t 78) (.t 77), none, [11, 10, 0, 1,
 2, 3, 4, 5, 6, 7, 8, 9]⟩⟩]) <| .region [o9 79 (.bin .add (.t 32) (.c (.int .i64 1))), m9 32 79] none) <| .seq (.region [o9 80 (.load true 3 (.t 7)), m9 81 8, ⟨none, .store 3 (.t 4) (.t 80), none, []⟩, m9 5 81, o9 6 (.mv (.c (.int .i64
 0)))] none) <| .ret
abbrev n_ref36_See : Nat := 31
theorem b_ref36_See : bodyOf prog 31 [1000000] = some (c_ref36_See, [.c 4 true 3, .t 5, .t 6], 82) := by kernel_rfl
def c_mk_Flows : ACode := .seq (.region [o9 6 (.mv (.c (.nil)))] none) <| .seq (.region [o9 7 (.newsl 1 3)] none) <| .seq (.seq (.region [m9 8 1, o9 9 (.mv (.c (.int .i64 0)))] none) <| .block 0 <| .loop <| .seq (.region [o9 10 (.bin .lss
 (.t 9) (.t 8))] none) <| .seq (.cond (.t 10) (.skip) <| .exit 0) <| .seq (.block 1 <| .region [m9 11 7, m9 12 0, m9 13 2, o9 14 (.call 10 [.t 12, .t 13]), o9 15 (.lit false 1 3 [.t 14]), o9 16 (.app 1 8 3 (.t 11) (.t 15)), m9 7 16] none)
 <| .region [o9 17 (.bin .add (.t 9) (.c (.int .i64 1))), m9 9 17] none) <| .seq (.region [m9 18 7, m9 6 18] none) <| .ret
abbrev n_mk_Flows : Nat := 32
theorem b_mk_Flows : bodyOf prog 32 [7] = some (c_mk_Flows, [.t 6], 19) := by kernel_rfl
def c_cause_ready : ACode := .seq (.region [o9 2 (.box 3 31 (.t 0)), o9 4 (.mv (.c (.int .i64 0)))] none) <| .seq (.seq (.region [o9 5 (.load true 3 (.t 2)), o9 6 (.call 42 [.t 5]), o9 7 (.bin .neq (.t 6) (.c (.int .i64 0)))] none) <|
 .cond (.t 7) (.seq (.region [o9 4 (.mv (.c (.int .i64 50)))] none) <| .ret) <| .skip) <| .seq (.seq (.region [m9 8 1, o9 9 (.bin .lss (.t 8) (.c (.int .i64 0))), m9 10 9, ⟨some 11, .mv (.t 1), some (10, false), []⟩, ⟨some 12, .fa 0 (.t
 2), some (10, false), []⟩, ⟨some 13, .load false 1 (.t 12), some (10, false), []⟩, ⟨some 14, .len (.t 13), some (10, false), []⟩, ⟨some 15, .bin .geq (.t 11) (.t 14), some (10, false), []⟩, o9 16 (.pick (.t 10) (.c (.bool true)) (.t 15))]
 none) <| .cond (.t 16) (.seq (.region [o9 4 (.mv (.c (.int .i64 52)))] none) <| .ret) <| .skip) <| .seq (.region [o9 4 (.mv (.c (.int .i64 0)))] none) <| .ret
abbrev n_cause_ready : Nat := 33
theorem b_cause_ready : bodyOf prog 33 [1000000] = some (c_cause_ready, [.t 4], 17) := by kernel_rfl
def c_cause_copied : ACode := .seq (.region [o9 1 (.box 3 31 (.t 0)), o9 2 (.alloc 3 31 (.agg [.nil, .nil, .nil]))] none) <| .seq (.region [o9 8 (.fa 0 (.t 1)), o9 9 (.load false 1 (.t 8)), o9 10 (.call 55 [.t 9]), o9 11 (.build [.nil,
 .nil, .nil] [(0, 1, .t 10)]), o9 3 (.alloc 3 31 (.agg [.nil, .nil, .nil])), ⟨none, .store 3 (.t 3) (.t 11), none, []⟩] none) <| .seq (.seq (.region [o9 12 (.fa 1 (.t 1)), o9 13 (.load false 1 (.t 12)), o9 14 (.len (.t 13)), o9 15 (.mv (.c
 (.int .i64 0)))] none) <| .block 0 <| .loop <| .seq (.region [o9 16 (.bin .lss (.t 15) (.t 14))] none) <| .seq (.cond (.t 16) (.skip) <| .exit 0) <| .seq (.block 1 <| .seq (.region [o9 17 (.ixs 1 (.t 13) (.t 15)), o9 18 (.load false 1 (.t
 17)), m9 5 18] none) <| .hregion [⟨2, m9 21 5⟩, ⟨0, o9 19 (.fa 1 (.t 3))⟩, h9 1 20 (.load false 1 (.t 19)) [0], h9 3 22 (.call 56 [.t 21]) [2], h9 4 23 (.lit false 1 22 [.t 22]) [3,2], h9 5 24 (.app 1 24 22 (.t 20) (.t 23)) [1,4,3,0,2],
 h9 6 25 (.fa 1 (.t 3)) [0,1,2,3,4,5], ⟨7, ⟨none, .store 1 (.t 25) (.t 24), none, [6, 5, 0, 1, 2, 3, 4]⟩⟩]) <| .region [o9 26 (.bin .add (.t 15) (.c (.int .i64 1))), m9 15 26] none) <| .seq (.seq (.region [o9 27 (.fa 2 (.t 1)), o9 28
 (.load false 1 (.t 27)), o9 29 (.len (.t 28)), o9 30 (.mv (.c (.int .i64 0)))] none) <| .block 2 <| .loop <| .seq (.region [o9 31 (.bin .lss (.t 30) (.t 29))] none) <| .seq (.cond (.t 31) (.skip) <| .exit 2) <| .seq (.block 3 <| .seq
 (.region [o9 32 (.ixs 4 (.t 28) (.t 30)), o9 33 (.load true 4 (.t 32)), o9 7 (.alloc 4 56 (.agg [.int .i64 0, .int .i64 0, .nil, .int .i64 0])), ⟨none, .store 4 (.t 7) (.t 33), none, []⟩] none) <| .seq (.region [o9 34 (.fa 2 (.t 7)), o9
 35 (.load false 1 (.t 34)), o9 36 (.call 57 [.t 35]), o9 37 (.fa 2 (.t 7)), ⟨none, .store 1 (.t 37) (.t 36), none, []⟩] none) <| .region [o9 38 (.fa 2 (.t 3)), o9 39 (.load false 1 (.t 38)), o9 40 (.load true 4 (.t 7)), o9 41 (.lit true 4
 56 [.t 40]), o9 42 (.app 4 48 56 (.t 39) (.t 41)), o9 43 (.fa 2 (.t 3)), ⟨none, .store 1 (.t 43) (.t 42), none, []⟩] none) <| .region [o9 44 (.bin .add (.t 30) (.c (.int .i64 1))), m9 30 44] none) <| .seq (.region [o9 45 (.load true 3 (.t
 3)), ⟨none, .store 3 (.t 2) (.t 45), none, []⟩] none) <| .ret
abbrev n_cause_copied : Nat := 34
theorem b_cause_copied : bodyOf prog 34 [41, 1000000] = some (c_cause_copied, [.c 2 true 3], 46) := by kernel_rfl
def c_cause_at : ACode := .seq (.region [o9 2 (.box 3 31 (.t 0)), o9 4 (.mv (.c (.int .i64 0))), o9 5 (.mv (.c (.bool false)))] none) <| .seq (.seq (.region [o9 8 (.fa 2 (.t 2)), o9 9 (.load false 1 (.t 8)), o9 10 (.len (.t 9)), o9 11 (.mv
 (.c (.int .i64 0)))] none) <| .block 0 <| .loop <| .seq (.region [o9 12 (.bin .lss (.t 11) (.t 10))] none) <| .seq (.cond (.t 12) (.skip) <| .exit 0) <| .seq (.block 1 <| .seq (.region [m9 13 11, o9 14 (.ixs 4 (.t 9) (.t 11)), o9 15
 (.load true 4 (.t 14)), o9 7 (.alloc 4 56 (.agg [.int .i64 0, .int .i64 0, .nil, .int .i64 0])), m9 6 13, ⟨none, .store 4 (.t 7) (.t 15), none, []⟩] none) <| .seq (.region [o9 16 (.fa 0 (.t 7)), o9 17 (.load false 1 (.t 16)), m9 18 1, o9
 19 (.bin .geq (.t 17) (.t 18))] none) <| .cond (.t 19) (.seq (.hregion [⟨3, m9 23 1⟩, ⟨1, o9 21 (.fa 0 (.t 7))⟩, h9 2 22 (.load false 1 (.t 21)) [1], h9 4 24 (.bin .eql (.t 22) (.t 23)) [2,3,1], ⟨0, m9 20 6⟩, h9 5 4 (.mv (.t 20)) [0], h9
 6 5 (.mv (.t 24)) [4,5,0,1,2,3]]) <| .ret) <| .skip) <| .region [o9 25 (.bin .add (.t 11) (.c (.int .i64 1))), m9 11 25] none) <| .seq (.region [o9 26 (.fa 2 (.t 2)), o9 27 (.load false 1 (.t 26)), o9 28 (.len (.t 27)), m9 4 28, o9 5 (.mv
 (.c (.bool false)))] none) <| .ret
abbrev n_cause_at : Nat := 35
theorem b_cause_at : bodyOf prog 35 [1000000] = some (c_cause_at, [.t 4, .t 5], 29) := by kernel_rfl
def c_slices_Insert__Warning : ACode := .seq (.region [o9 6 (.mv (.c (.nil)))] none) <| .seq (.region [m9 10 0, m9 11 1, o9 12 (.slc 4 (.t 10) (some (.t 11)) none)] none) <| .seq (.region [m9 13 2, o9 14 (.len (.t 13)), m9 7 14] none) <|
 .seq (.seq (.region [m9 15 7, o9 16 (.bin .eql (.t 15) (.c (.int .i64 0)))] none) <| .cond (.t 16) (.seq (.region [m9 17 0, m9 6 17] none) <| .ret) <| .skip) <| .seq (.region [m9 18 0, o9 19 (.len (.t 18)), m9 8 19] none) <| .seq (.seq
 (.region [m9 20 1, m9 21 8, o9 22 (.bin .eql (.t 20) (.t 21))] none) <| .cond (.t 22) (.seq (.region [m9 23 0, m9 24 2, o9 25 (.app 4 48 56 (.t 23) (.t 24)), m9 6 25] none) <| .ret) <| .skip) <| .seq (.seq (.region [m9 26 8, m9 27 7, o9
 28 (.bin .add (.t 26) (.t 27)), m9 29 0, o9 30 (.pu .cap0 [.t 29]), o9 31 (.bin .gtr (.t 28) (.t 30))] none) <| .cond (.t 31) (.seq (.region [m9 32 0, m9 33 1, o9 34 (.slc 4 (.t 32) none (some (.t 33))), m9 35 8, m9 36 7, o9 37 (.bin .add
 (.t 35) (.t 36)), m9 38 1, o9 39 (.bin .sub (.t 37) (.t 38)), o9 40 (.appz 4 48 56 (.agg [.int .i64 0, .int .i64 0, .nil, .int .i64 0]) (.t 34) (.t 39)), m9 9 40] none) <| .seq (.region [m9 41 9, m9 42 1, o9 43 (.slc 4 (.t 41) (some (.t
 42)) none), m9 44 2, o9 45 (.cpy 4 (.t 43) (.t 44))] none) <| .seq (.hregion [⟨6, m9 52 1⟩, ⟨5, m9 51 0⟩, h9 7 53 (.slc 4 (.t 51) (some (.t 52)) none) [5,6], ⟨2, m9 48 7⟩, ⟨1, m9 47 1⟩, h9 3 49 (.bin .add (.t 47) (.t 48)) [1,2], ⟨0, m9 46
 9⟩, h9 4 50 (.slc 4 (.t 46) (some (.t 49)) none) [0,3,1,2], h9 8 54 (.cpy 4 (.t 50) (.t 53)) [4,7,0,3,1,2,5,6]]) <| .seq (.region [m9 55 9, m9 6 55] none) <| .ret) <| .skip) <| .seq (.region [m9 56 0, m9 57 8, m9 58 7, o9 59 (.bin .add
 (.t 57) (.t 58)), o9 60 (.slc 4 (.t 56) none (some (.t 59))), m9 0 60] none) <| .seq (.seq (.region [m9 61 2, m9 62 0, m9 63 1, m9 64 7, o9 65 (.bin .add (.t 63) (.t 64)), o9 66 (.slc 4 (.t 62) (some (.t 65)) none), o9 67 (.call 58 [.t
 61, .t 66]), o9 68 (.un .not (.t 67))] none) <| .cond (.t 68) (.seq (.hregion [⟨6, m9 75 1⟩, ⟨5, m9 74 0⟩, h9 7 76 (.slc 4 (.t 74) (some (.t 75)) none) [5,6], ⟨2, m9 71 7⟩, ⟨1, m9 70 1⟩, h9 3 72 (.bin .add (.t 70) (.t 71)) [1,2], ⟨0, m9
 69 0⟩, h9 4 73 (.slc 4 (.t 69) (some (.t 72)) none) [0,3,1,2], h9 8 77 (.cpy 4 (.t 73) (.t 76)) [4,7,0,3,1,2,5,6]]) <| .seq (.region [m9 78 0, m9 79 1, o9 80 (.slc 4 (.t 78) (some (.t 79)) none), m9 81 2, o9 82 (.cpy 4 (.t 80) (.t 81))]
 none) <| .seq (.region [m9 83 0, m9 6 83] none) <| .ret) <| .skip) <| .seq (.region [m9 84 0, m9 85 8, o9 86 (.slc 4 (.t 84) (some (.t 85)) none), m9 87 2, o9 88 (.cpy 4 (.t 86) (.t 87))] none) <| .seq (.region [m9 89 0, m9 90 1, o9 91
 (.slc 4 (.t 89) (some (.t 90)) none), m9 92 7, o9 93 (.call 59 [.t 91, .t 92])] none) <| .seq (.region [m9 94 0, m9 6 94] none) <| .ret
abbrev n_slices_Insert__Warning : Nat := 36
theorem b_slices_Insert__Warning : bodyOf prog 36 [1000000] = some (c_slices_Insert__Warning, [.t 6], 95) := by kernel_rfl
def c_slices_Contains__Cause : ACode := .seq (.region [o9 3 (.box 2 39 (.t 1)), o9 4 (.mv (.c (.bool false)))] none) <| .seq (.region [m9 5 0, o9 6 (.load true 2 (.t 3)), o9 7 (.call 60 [.t 5, .t 6]), o9 8 (.bin .geq (.t 7) (.c (.int .i64
 0))), m9 4 8] none) <| .ret
abbrev n_slices_Contains__Cause : Nat := 37
theorem b_slices_Contains__Cause : bodyOf prog 37 [1000000] = some (c_slices_Contains__Cause, [.t 4], 9) := by kernel_rfl
def c_cause_before : ACode := .seq (.region [o9 2 (.box 2 39 (.t 0)), o9 3 (.box 2 39 (.t 1)), o9 4 (.mv (.c (.bool false)))] none) <| .seq (.hregion [⟨7, o9 14 (.fa 1 (.t 3))⟩, h9 8 15 (.load false 1 (.t 14)) [7], ⟨5, o9 12 (.fa 0 (.t
 3))⟩, h9 6 13 (.load false 1 (.t 12)) [5], h9 9 16 (.build [.int .i64 0, .int .i64 0] [(0, 1, .t 13), (1, 1, .t 15)]) [6,8,5,7], ⟨2, o9 9 (.fa 1 (.t 2))⟩, h9 3 10 (.load false 1 (.t 9)) [2], ⟨0, o9 7 (.fa 0 (.t 2))⟩, h9 1 8 (.load false 1
 (.t 7)) [0], h9 4 11 (.build [.int .i64 0, .int .i64 0] [(0, 1, .t 8), (1, 1, .t 10)]) [1,3,0,2], ⟨11, o9 6 (.alloc 2 96 (.agg [.int .i64 0, .int .i64 0]))⟩, ⟨10, o9 5 (.alloc 2 96 (.agg [.int .i64 0, .int .i64 0]))⟩, ⟨12, ⟨none, .store 2
 (.t 5) (.t 11), none, [10, 4, 0, 1, 2, 3, 11]⟩⟩, ⟨13, ⟨none, .store 2 (.t 6) (.t 16), none, [11, 9, 12, 0, 1, 2, 3, 4, 5, 6, 7, 8, 10]⟩⟩]) <| .seq (.hregion [⟨1, o9 18 (.slca 1 2 (.t 6) none none)⟩, ⟨0, o9 17 (.slca 1 2 (.t 5) none
 none)⟩, h9 2 19 (.call 61 [.t 17, .t 18]) [0,1], h9 3 20 (.bin .lss (.t 19) (.c (.int .i64 0))) [2,0,1], h9 4 4 (.mv (.t 20)) [3,2,0,1]]) <| .ret
abbrev n_cause_before : Nat := 38
theorem b_cause_before : bodyOf prog 38 [1000000] = some (c_cause_before, [.t 4], 21) := by kernel_rfl
def c_slices_Insert__Cause : ACode := .seq (.region [o9 6 (.mv (.c (.nil)))] none) <| .seq (.region [m9 10 0, m9 11 1, o9 12 (.slc 2 (.t 10) (some (.t 11)) none)] none) <| .seq (.region [m9 13 2, o9 14 (.len (.t 13)), m9 7 14] none) <|
 .seq (.seq (.region [m9 15 7, o9 16 (.bin .eql (.t 15) (.c (.int .i64 0)))] none) <| .cond (.t 16) (.seq (.region [m9 17 0, m9 6 17] none) <| .ret) <| .skip) <| .seq (.region [m9 18 0, o9 19 (.len (.t 18)), m9 8 19] none) <| .seq (.seq
 (.region [m9 20 1, m9 21 8, o9 22 (.bin .eql (.t 20) (.t 21))] none) <| .cond (.t 22) (.seq (.region [m9 23 0, m9 24 2, o9 25 (.app 2 16 39 (.t 23) (.t 24)), m9 6 25] none) <| .ret) <| .skip) <| .seq (.seq (.region [m9 26 8, m9 27 7, o9
 28 (.bin .add (.t 26) (.t 27)), m9 29 0, o9 30 (.pu .cap0 [.t 29]), o9 31 (.bin .gtr (.t 28) (.t 30))] none) <| .cond (.t 31) (.seq (.region [m9 32 0, m9 33 1, o9 34 (.slc 2 (.t 32) none (some (.t 33))), m9 35 8, m9 36 7, o9 37 (.bin .add
 (.t 35) (.t 36)), m9 38 1, o9 39 (.bin .sub (.t 37) (.t 38)), o9 40 (.appz 2 16 39 (.agg [.int .i64 0, .int .i64 0]) (.t 34) (.t 39)), m9 9 40] none) <| .seq (.region [m9 41 9, m9 42 1, o9 43 (.slc 2 (.t 41) (some (.t 42)) none), m9 44 2,
 o9 45 (.cpy 2 (.t 43) (.t 44))] none) <| .seq (.hregion [⟨6, m9 52 1⟩, ⟨5, m9 51 0⟩, h9 7 53 (.slc 2 (.t 51) (some (.t 52)) none) [5,6], ⟨2, m9 48 7⟩, ⟨1, m9 47 1⟩, h9 3 49 (.bin .add (.t 47) (.t 48)) [1,2], ⟨0, m9 46 9⟩, h9 4 50 (.slc 2
 (.t 46) (some (.t 49)) none) [0,3,1,2], h9 8 54 (.cpy 2 (.t 50) (.t 53)) [4,7,0,3,1,2,5,6]]) <| .seq (.region [m9 55 9, m9 6 55] none) <| .ret) <| .skip) <| .seq (.region [m9 56 0, m9 57 8, m9 58 7, o9 59 (.bin .add (.t 57) (.t 58)), o9
 60 (.slc 2 (.t 56) none (some (.t 59))), m9 0 60] none) <| .seq (.seq (.region [m9 61 2, m9 62 0, m9 63 1, m9 64 7, o9 65 (.bin .add (.t 63) (.t 64)), o9 66 (.slc 2 (.t 62) (some (.t 65)) none), o9 67 (.call 62 [.t 61, .t 66]), o9 68 (.un
 .not (.t 67))] none) <| .cond (.t 68) (.seq (.hregion [⟨6, m9 75 1⟩, ⟨5, m9 74 0⟩, h9 7 76 (.slc 2 (.t 74) (some (.t 75)) none) [5,6], ⟨2, m9 71 7⟩, ⟨1, m9 70 1⟩, h9 3 72 (.bin .add (.t 70) (.t 71)) [1,2], ⟨0, m9 69 0⟩, h9 4 73 (.slc 2
 (.t 69) (some (.t 72)) none) [0,3,1,2], h9 8 77 (.cpy 2 (.t 73) (.t 76)) [4,7,0,3,1,2,5,6]]) <| .seq (.region [m9 78 0, m9 79 1, o9 80 (.slc 2 (.t 78) (some (.t 79)) none), m9 81 2, o9 82 (.cpy 2 (.t 80) (.t 81))] none) <| .seq (.region
 [m9 83 0, m9 6 83] none) <| .ret) <| .skip) <| .seq (.region [m9 84 0, m9 85 8, o9 86 (.slc 2 (.t 84) (some (.t 85)) none), m9 87 2, o9 88 (.cpy 2 (.t 86) (.t 87))] none) <| .seq (.region [m9 89 0, m9 90 1, o9 91 (.slc 2 (.t 89) (some (.t
 90)) none), m9 92 7, o9 93 (.call 63 [.t 91, .t 92])] none) <| .seq (.region [m9 94 0, m9 6 94] none) <| .ret
abbrev n_slices_Insert__Cause : Nat := 39
theorem b_slices_Insert__Cause : bodyOf prog 39 [1000000] = some (c_slices_Insert__Cause, [.t 6], 95) := by kernel_rfl
def c_slices_DeleteFunc__Cause : ACode := .seq (.region [o9 4 (.mv (.c (.nil)))] none) <| .seq (.region [m9 8 0, m9 9 1, o9 10 (.call 64 [.t 8, .t 9]), m9 5 10] none) <| .seq (.seq (.region [m9 11 5, o9 12 (.bin .eql (.t 11) (.c (.int .i64
 (-1))))] none) <| .cond (.t 12) (.seq (.region [m9 13 0, m9 4 13] none) <| .ret) <| .skip) <| .seq (.seq (.region [m9 14 5, o9 15 (.bin .add (.t 14) (.c (.int .i64 1))), m9 6 15] none) <| .block 0 <| .loop <| .seq (.seq (.region [m9 16 6,
 m9 17 0, o9 18 (.len (.t 17)), o9 19 (.bin .lss (.t 16) (.t 18))] none) <| .cond (.t 19) (.skip) <| .exit 0) <| .seq (.block 1 <| .seq (.region [m9 22 0, m9 23 6, o9 24 (.ixs 2 (.t 22) (.t 23)), o9 25 (.load true 2 (.t 24)), o9 7 (.alloc
 2 39 (.agg [.int .i64 0, .int .i64 0])), ⟨none, .store 2 (.t 7) (.t 25), none, []⟩] none) <| .seq (.region [m9 26 1, o9 27 (.load true 2 (.t 7)), o9 28 (.callv (.t 26) [.t 27]), o9 29 (.un .not (.t 28))] none) <| .cond (.t 29) (.seq
 (.region [m9 30 0, m9 31 5, o9 32 (.load true 2 (.t 7)), o9 33 (.ixs 2 (.t 30) (.t 31)), ⟨none, .store 2 (.t 33) (.t 32), none, []⟩] none) <| .region [m9 34 5, o9 35 (.bin .add (.t 34) (.c (.int .i64 1))), m9 5 35] none) <| .skip) <|
 .region [m9 20 6, o9 21 (.bin .add (.t 20) (.c (.int .i64 1))), m9 6 21] none) <| .seq (.region [m9 36 0, m9 37 5, o9 38 (.slc 2 (.t 36) (some (.t 37)) none), ⟨none, .clr 2 (.agg [.int .i64 0, .int .i64 0]) (.t 38), none, []⟩] none) <|
 .seq (.region [m9 39 0, m9 40 5, o9 41 (.slc 2 (.t 39) none (some (.t 40))), m9 4 41] none) <| .ret
abbrev n_slices_DeleteFunc__Cause : Nat := 40
theorem b_slices_DeleteFunc__Cause : bodyOf prog 40 [1000000] = some (c_slices_DeleteFunc__Cause, [.t 4], 42) := by kernel_rfl
def c_cause_End_1 : ACode := .seq (.region [o9 2 (.box 2 39 (.t 0)), o9 3 (.mv (.c (.bool false)))] none) <| .seq (.region [o9 4 (.load true 2 (.t 2)), o9 5 (.load true 2 (.t 1)), o9 6 (.eqs false [0, 0] (.t 4) (.t 5)), m9 3 6] none) <|
 .ret
abbrev n_cause_End_1 : Nat := 41
theorem b_cause_End_1 : bodyOf prog 41 [1000000] = some (c_cause_End_1, [.t 3], 7) := by kernel_rfl
def c_warning_Check : ACode := .seq (.region [o9 1 (.box 3 31 (.t 0)), o9 2 (.mv (.c (.int .i64 0)))] none) <| .seq (.seq (.region [o9 3 (.load true 3 (.t 1)), o9 4 (.call 65 [.t 3]), o9 5 (.un .not (.t 4))] none) <| .cond (.t 5) (.seq
 (.region [o9 2 (.mv (.c (.int .i64 50)))] none) <| .ret) <| .skip) <| .seq (.region [o9 2 (.mv (.c (.int .i64 0)))] none) <| .ret
abbrev n_warning_Check : Nat := 42
theorem b_warning_Check : bodyOf prog 42 [1000000] = some (c_warning_Check, [.t 2], 6) := by kernel_rfl
def c_warning_Active : ACode := .seq (.region [o9 2 (.box 3 31 (.t 0)), o9 4 (.alloc 4 56 (.agg [.int .i64 0, .int .i64 0, .nil, .int .i64 0])), o9 5 (.mv (.c (.bool false)))] none) <| .seq (.seq (.region [o9 8 (.load true 3 (.t 2)), o9 9
 (.call 65 [.t 8]), o9 10 (.un .not (.t 9))] none) <| .cond (.t 10) (.seq (.region [o9 11 (.build [.int .i64 0, .int .i64 0, .nil, .int .i64 0] []), ⟨none, .store 4 (.t 4) (.t 11), none, []⟩, o9 5 (.mv (.c (.bool false)))] none) <| .ret)
 <| .skip) <| .seq (.seq (.region [o9 12 (.fa 2 (.t 2)), o9 13 (.load false 1 (.t 12)), o9 14 (.len (.t 13)), o9 15 (.mv (.c (.int .i64 0)))] none) <| .block 0 <| .loop <| .seq (.region [o9 16 (.bin .lss (.t 15) (.t 14))] none) <| .seq
 (.cond (.t 16) (.skip) <| .exit 0) <| .seq (.block 1 <| .seq (.region [o9 17 (.ixs 4 (.t 13) (.t 15)), o9 18 (.load true 4 (.t 17)), o9 7 (.alloc 4 56 (.agg [.int .i64 0, .int .i64 0, .nil, .int .i64 0])), ⟨none, .store 4 (.t 7) (.t 18),
 none, []⟩] none) <| .seq (.region [o9 19 (.fa 0 (.t 7)), o9 20 (.load false 1 (.t 19)), m9 21 1, o9 22 (.bin .eql (.t 20) (.t 21))] none) <| .cond (.t 22) (.seq (.region [o9 23 (.load true 4 (.t 7)), o9 24 (.call 66 [.t 23]), ⟨none,
 .store 4 (.t 4) (.t 24), none, []⟩, o9 5 (.mv (.c (.bool true)))] none) <| .ret) <| .skip) <| .region [o9 25 (.bin .add (.t 15) (.c (.int .i64 1))), m9 15 25] none) <| .seq (.region [o9 26 (.build [.int .i64 0, .int .i64 0, .nil, .int
 .i64 0] []), ⟨none, .store 4 (.t 4) (.t 26), none, []⟩, o9 5 (.mv (.c (.bool false)))] none) <| .ret
abbrev n_warning_Active : Nat := 43
theorem b_warning_Active : bodyOf prog 43 [1000000] = some (c_warning_Active, [.c 4 true 4, .t 5], 27) := by kernel_rfl
def c_ref36_Check : ACode := .seq (.region [o9 1 (.box 3 31 (.t 0)), o9 2 (.mv (.c (.int .i64 0)))] none) <| .seq (.seq (.region [o9 7 (.fa 0 (.t 1)), o9 8 (.load false 1 (.t 7)), o9 9 (.len (.t 8)), o9 10 (.bin .gtr (.t 9) (.c (.int .i64
 8))), m9 11 10, ⟨some 12, .fa 1 (.t 1), some (11, false), []⟩, ⟨some 13, .load false 1 (.t 12), some (11, false), []⟩, ⟨some 14, .len (.t 13), some (11, false), []⟩, ⟨some 15, .fa 0 (.t 1), some (11, false), []⟩, ⟨some 16, .load false 1
 (.t 15), some (11, false), []⟩, ⟨some 17, .len (.t 16), some (11, false), []⟩, ⟨some 18, .bin .neq (.t 14) (.t 17), some (11, false), []⟩, o9 19 (.pick (.t 11) (.c (.bool true)) (.t 18))] none) <| .cond (.t 19) (.seq (.region [o9 2 (.mv
 (.c (.int .i64 50)))] none) <| .ret) <| .skip) <| .seq (.seq (.region [o9 20 (.fa 0 (.t 1)), o9 21 (.load false 1 (.t 20)), o9 22 (.len (.t 21)), o9 23 (.mv (.c (.int .i64 0)))] none) <| .block 0 <| .loop <| .seq (.region [o9 24 (.bin
 .lss (.t 23) (.t 22))] none) <| .seq (.cond (.t 24) (.skip) <| .exit 0) <| .seq (.block 1 <| .seq (.region [m9 25 23, o9 26 (.ixs 4 (.t 21) (.t 23)), o9 27 (.load true 4 (.t 26)), o9 4 (.alloc 4 68 (.agg [.int .i64 0, .int .i64 0, .int
 .i64 0, .int .i64 0])), m9 3 25, ⟨none, .store 4 (.t 4) (.t 27), none, []⟩] none) <| .seq (.hregion [⟨0, o9 28 (.load true 4 (.t 4))⟩, h9 1 29 (.call 52 [.t 28]) [0], h9 2 30 (.un .not (.t 29)) [1,0], h9 3 31 (.mv (.t 30)) [2,1,0], ⟨10,
 ⟨some 38, .fa 1 (.t 4), some (31, false), [3, 2, 1, 0]⟩⟩, ⟨11, ⟨some 39, .load false 1 (.t 38), some (31, false), [10, 3, 2, 1, 0]⟩⟩, ⟨6, ⟨some 34, .mv (.t 3), some (31, false), [3, 2, 1, 0]⟩⟩, ⟨4, ⟨some 32, .fa 1 (.t 1), some (31,
 false), [3, 2, 1, 0]⟩⟩, ⟨5, ⟨some 33, .load false 1 (.t 32), some (31, false), [4, 3, 2, 1, 0]⟩⟩, ⟨7, ⟨some 35, .ixs 1 (.t 33) (.t 34), some (31, false), [5, 6, 3, 4, 2, 1, 0]⟩⟩, ⟨8, ⟨some 36, .load false 1 (.t 35), some (31, false), [7,
 3, 5, 6, 4, 2, 1, 0]⟩⟩, ⟨9, ⟨some 37, .len (.t 36), some (31, false), [8, 3, 7, 5, 6, 4, 2, 1, 0]⟩⟩, ⟨12, ⟨some 40, .bin .gtr (.t 37) (.t 39), some (31, false), [9, 11, 3, 8, 7, 5, 6, 4, 2, 1, 0, 10]⟩⟩, h9 13 41 (.pick (.t 31) (.c (.bool
 true)) (.t 40)) [3,12,2,1,0,9,11,8,7,5,6,4,10], h9 14 42 (.mv (.t 41)) [13,3,12,2,1,0,9,11,8,7,5,6,4,10], ⟨17, ⟨some 45, .mv (.t 3), some (42, false), [14, 13, 3, 12, 2, 1, 0, 9, 11, 8, 7, 5, 6, 4, 10]⟩⟩, ⟨15, ⟨some 43, .fa 1 (.t 1), some
 (42, false), [14, 13, 3, 12, 2, 1, 0, 9, 11, 8, 7, 5, 6, 4, 10]⟩⟩, ⟨16, ⟨some 44, .load false 1 (.t 43), some (42, false), [15, 14, 13, 3, 12, 2, 1, 0, 9, 11, 8, 7, 5, 6, 4, 10]⟩⟩, ⟨18, ⟨some 46, .ixs 1 (.t 44) (.t 45), some (42, false),
 [16, 17, 14, 15, 13, 3, 12, 2, 1, 0, 9, 11, 8, 7, 5, 6, 4, 10]⟩⟩, ⟨19, ⟨some 47, .load false 1 (.t 46), some (42, false), [18, 14, 16, 17, 15, 13, 3, 12, 2, 1, 0, 9, 11, 8, 7, 5, 6, 4, 10]⟩⟩, ⟨20, ⟨some 48, .call 53 [.t 47], some (42,
 false), [19, 14, 18, 16, 17, 15, 13, 3, 12, 2, 1, 0, 9, 11, 8, 7, 5, 6, 4, 10]⟩⟩, ⟨21, ⟨some 49, .un .not (.t 48), some (42, false), [20, 14, 19, 18, 16, 17, 15, 13, 3, 12, 2, 1, 0, 9, 11, 8, 7, 5, 6, 4, 10]⟩⟩, h9 22 50 (.pick (.t 42) (.c
 (.bool true)) (.t 49)) [14,21,13,3,12,2,1,0,9,11,8,7,5,6,4,10,20,19,18,16,17,15]]) <| .cond (.t 50) (.seq (.region [o9 2 (.mv (.c (.int .i64 50)))] none) <| .ret) <| .skip) <| .region [o9 51 (.bin .add (.t 23) (.c (.int .i64 1))), m9 23
 51] none) <| .seq (.seq (.region [o9 52 (.fa 2 (.t 1)), o9 53 (.load false 1 (.t 52)), o9 54 (.len (.t 53)), o9 55 (.mv (.c (.int .i64 0)))] none) <| .block 2 <| .loop <| .seq (.region [o9 56 (.bin .lss (.t 55) (.t 54))] none) <| .seq
 (.cond (.t 56) (.skip) <| .exit 2) <| .seq (.block 3 <| .seq (.region [m9 57 55, o9 58 (.ixs 4 (.t 53) (.t 55)), o9 59 (.load true 4 (.t 58)), o9 6 (.alloc 4 56 (.agg [.int .i64 0, .int .i64 0, .nil, .int .i64 0])), m9 5 57, ⟨none, .store
 4 (.t 6) (.t 59), none, []⟩] none) <| .seq (.hregion [⟨2, o9 62 (.fa 0 (.t 1))⟩, h9 3 63 (.load false 1 (.t 62)) [2], h9 4 64 (.len (.t 63)) [3,2], h9 5 65 (.bin .sub (.t 64) (.c (.int .i64 1))) [4,3,2], ⟨0, o9 60 (.fa 0 (.t 6))⟩, h9 1 61
 (.load false 1 (.t 60)) [0], h9 6 66 (.call 67 [.t 61, .c (.int .i64 0), .t 65]) [1,5,0,4,3,2], h9 7 67 (.un .not (.t 66)) [6,1,5,0,4,3,2], h9 8 68 (.mv (.t 67)) [7,6,1,5,0,4,3,2], ⟨9, ⟨some 69, .mv (.t 5), some (68, false), [8, 7, 6, 1,
 5, 0, 4, 3, 2]⟩⟩, ⟨10, ⟨some 70, .bin .gtr (.t 69) (.c (.int .i64 0)), some (68, false), [9, 8, 7, 6, 1, 5, 0, 4, 3, 2]⟩⟩, ⟨11, ⟨some 71, .mv (.t 70), some (68, false), [10, 8, 9, 7, 6, 1, 5, 0, 4, 3, 2]⟩⟩, ⟨16, ⟨some 76, .mv (.t 5), some
 (71, true), [11, 10, 8, 9, 7, 6, 1, 5, 0, 4, 3, 2]⟩⟩, ⟨17, ⟨some 77, .bin .sub (.t 76) (.c (.int .i64 1)), some (71, true), [16, 11, 10, 8, 9, 7, 6, 1, 5, 0, 4, 3, 2]⟩⟩, ⟨14, ⟨some 74, .fa 2 (.t 1), some (71, true), [11, 10, 8, 9, 7, 6,
 1, 5, 0, 4, 3, 2]⟩⟩, ⟨15, ⟨some 75, .load false 1 (.t 74), some (71, true), [14, 11, 10, 8, 9, 7, 6, 1, 5, 0, 4, 3, 2]⟩⟩, ⟨18, ⟨some 78, .ixs 4 (.t 75) (.t 77), some (71, true), [15, 17, 11, 14, 10, 8, 9, 7, 6, 1, 5, 0, 4, 3, 2, 16]⟩⟩,
 ⟨19, ⟨some 79, .fa 0 (.t 78), some (71, true), [18, 11, 15, 17, 14, 10, 8, 9, 7, 6, 1, 5, 0, 4, 3, 2, 16]⟩⟩, ⟨20, ⟨some 80, .load false 1 (.t 79), some (71, true), [19, 11, 18, 15, 17, 14, 10, 8, 9, 7, 6, 1, 5, 0, 4, 3, 2, 16]⟩⟩, ⟨12,
 ⟨some 72, .fa 0 (.t 6), some (71, true), [11, 10, 8, 9, 7, 6, 1, 5, 0, 4, 3, 2]⟩⟩, ⟨13, ⟨some 73, .load false 1 (.t 72), some (71, true), [12, 11, 10, 8, 9, 7, 6, 1, 5, 0, 4, 3, 2]⟩⟩, ⟨21, ⟨some 81, .bin .leq (.t 73) (.t 80), some (71,
 true), [13, 20, 11, 12, 10, 8, 9, 7, 6, 1, 5, 0, 4, 3, 2, 19, 18, 15, 17, 14, 16]⟩⟩, ⟨22, ⟨some 82, .pick (.t 71) (.t 81) (.c (.bool false)), some (68, false), [11, 21, 8, 10, 9, 7, 6, 1, 5, 0, 4, 3, 2, 13, 20, 12, 19, 18, 15, 17, 14,
 16]⟩⟩, h9 23 83 (.pick (.t 68) (.c (.bool true)) (.t 82)) [8,22,7,6,1,5,0,4,3,2,11,21,10,9,13,20,12,19,18,15,17,14,16], h9 24 84 (.mv (.t 83)) [23,11,8,22,7,6,1,5,0,4,3,2,21,10,9,13,20,12,19,18,15,17,14,16], ⟨25, ⟨some 85, .load true 4
 (.t 6), some (84, false), [24, 23, 11, 8, 22, 7, 6, 1, 5, 0, 4, 3, 2, 21, 10, 9, 13, 20, 12, 19, 18, 15, 17, 14, 16]⟩⟩, ⟨26, ⟨some 86, .call 68 [.t 85], some (84, false), [25, 24, 23, 11, 8, 22, 7, 6, 1, 5, 0, 4, 3, 2, 21, 10, 9, 13, 20,
 12, 19, 18, 15, 17, 14, 16]⟩⟩, ⟨27, ⟨some 87, .un .not (.t 86), some (84, false), [26, 24, 25, 23, 11, 8, 22, 7, 6, 1, 5, 0, 4, 3, 2, 21, 10, 9, 13, 20, 12, 19, 18, 15, 17, 14, 16]⟩⟩, h9 28 88 (.pick (.t 84) (.c (.bool true)) (.t 87))
 [24,27,23,11,8,22,7,6,1,5,0,4,3,2,21,10,9,13,20,12,19,18,15,17,14,16,26,25]]) <| .cond (.t 88) (.seq (.region [o9 2 (.mv (.c (.int .i64 50)))] none) <| .ret) <| .skip) <| .region [o9 89 (.bin .add (.t 55) (.c (.int .i64 1))), m9 55 89]
 none) <| .seq (.region [o9 2 (.mv (.c (.int .i64 0)))] none) <| .ret
abbrev n_ref36_Check : Nat := 46
theorem b_ref36_Check : bodyOf prog 46 [1000000] = some (c_ref36_Check, [.t 2], 90) := by kernel_rfl
def c_ref36_Copy : ACode := .seq (.region [o9 1 (.box 3 31 (.t 0)), o9 2 (.alloc 3 31 (.agg [.nil, .nil, .nil]))] none) <| .seq (.region [o9 8 (.fa 0 (.t 1)), o9 9 (.load false 1 (.t 8)), o9 10 (.app 4 32 68 (.c (.nil)) (.t 9)), o9 11
 (.build [.nil, .nil, .nil] [(0, 1, .t 10)]), o9 3 (.alloc 3 31 (.agg [.nil, .nil, .nil])), ⟨none, .store 3 (.t 3) (.t 11), none, []⟩] none) <| .seq (.seq (.region [o9 12 (.fa 1 (.t 1)), o9 13 (.load false 1 (.t 12)), o9 14 (.len (.t 13)),
 o9 15 (.mv (.c (.int .i64 0)))] none) <| .block 0 <| .loop <| .seq (.region [o9 16 (.bin .lss (.t 15) (.t 14))] none) <| .seq (.cond (.t 16) (.skip) <| .exit 0) <| .seq (.block 1 <| .seq (.region [o9 17 (.ixs 1 (.t 13) (.t 15)), o9 18
 (.load false 1 (.t 17)), m9 5 18] none) <| .hregion [⟨2, m9 21 5⟩, ⟨0, o9 19 (.fa 1 (.t 3))⟩, h9 1 20 (.load false 1 (.t 19)) [0], h9 3 22 (.app 1 8 3 (.c (.nil)) (.t 21)) [2], h9 4 23 (.lit true 1 22 [.t 22]) [3,2], h9 5 24 (.app 1 24 22
 (.t 20) (.t 23)) [1,4,3,0,2], h9 6 25 (.fa 1 (.t 3)) [0,1,2,3,4,5], ⟨7, ⟨none, .store 1 (.t 25) (.t 24), none, [6, 5, 0, 1, 2, 3, 4]⟩⟩]) <| .region [o9 26 (.bin .add (.t 15) (.c (.int .i64 1))), m9 15 26] none) <| .seq (.seq (.region [o9
 27 (.fa 2 (.t 1)), o9 28 (.load false 1 (.t 27)), o9 29 (.len (.t 28)), o9 30 (.mv (.c (.int .i64 0)))] none) <| .block 2 <| .loop <| .seq (.region [o9 31 (.bin .lss (.t 30) (.t 29))] none) <| .seq (.cond (.t 31) (.skip) <| .exit 2) <|
 .seq (.block 3 <| .seq (.region [o9 32 (.ixs 4 (.t 28) (.t 30)), o9 33 (.load true 4 (.t 32)), o9 7 (.alloc 4 56 (.agg [.int .i64 0, .int .i64 0, .nil, .int .i64 0])), ⟨none, .store 4 (.t 7) (.t 33), none, []⟩] none) <| .seq (.region [o9
 34 (.fa 2 (.t 7)), o9 35 (.load false 1 (.t 34)), o9 36 (.app 2 16 39 (.c (.nil)) (.t 35)), o9 37 (.fa 2 (.t 7)), ⟨none, .store 1 (.t 37) (.t 36), none, []⟩] none) <| .region [o9 38 (.fa 2 (.t 3)), o9 39 (.load false 1 (.t 38)), o9 40
 (.load true 4 (.t 7)), o9 41 (.lit true 4 56 [.t 40]), o9 42 (.app 4 48 56 (.t 39) (.t 41)), o9 43 (.fa 2 (.t 3)), ⟨none, .store 1 (.t 43) (.t 42), none, []⟩] none) <| .region [o9 44 (.bin .add (.t 30) (.c (.int .i64 1))), m9 30 44] none)
 <| .seq (.region [o9 45 (.load true 3 (.t 3)), ⟨none, .store 3 (.t 2) (.t 45), none, []⟩] none) <| .ret
abbrev n_ref36_Copy : Nat := 47
theorem b_ref36_Copy : bodyOf prog 47 [23, 41, 1000000] = some (c_ref36_Copy, [.c 2 true 3], 46) := by kernel_rfl
def c_ref36_Cause : ACode := .seq (.region [o9 1 (.box 2 39 (.t 0)), o9 2 (.mv (.c (.int .i64 0)))] none) <| .seq (.seq (.region [o9 3 (.fa 0 (.t 1)), o9 4 (.load false 1 (.t 3)), o9 5 (.call 67 [.t 4, .c (.int .i64 1), .c (.int .i64 4)]),
 o9 6 (.un .not (.t 5))] none) <| .cond (.t 6) (.seq (.region [o9 2 (.mv (.c (.int .i64 5)))] none) <| .ret) <| .skip) <| .seq (.seq (.region [o9 7 (.fa 1 (.t 1)), o9 8 (.load false 1 (.t 7)), o9 9 (.call 67 [.t 8, .c (.int .i64 0), .c
 (.int .i64 5)]), o9 10 (.un .not (.t 9))] none) <| .cond (.t 10) (.seq (.region [o9 2 (.mv (.c (.int .i64 40)))] none) <| .ret) <| .skip) <| .seq (.region [o9 2 (.mv (.c (.int .i64 0)))] none) <| .ret
abbrev n_ref36_Cause : Nat := 48
theorem b_ref36_Cause : bodyOf prog 48 [1000000] = some (c_ref36_Cause, [.t 2], 11) := by kernel_rfl
def c_ref37_place : ACode := .seq (.region [o9 2 (.box 3 31 (.t 0)), o9 4 (.mv (.c (.int .i64 0))), o9 5 (.mv (.c (.bool false)))] none) <| .seq (.seq (.region [o9 8 (.fa 2 (.t 2)), o9 9 (.load false 1 (.t 8)), o9 10 (.len (.t 9)), o9 11
 (.mv (.c (.int .i64 0)))] none) <| .block 0 <| .loop <| .seq (.region [o9 12 (.bin .lss (.t 11) (.t 10))] none) <| .seq (.cond (.t 12) (.skip) <| .exit 0) <| .seq (.block 1 <| .seq (.region [m9 13 11, o9 14 (.ixs 4 (.t 9) (.t 11)), o9 15
 (.load true 4 (.t 14)), o9 7 (.alloc 4 56 (.agg [.int .i64 0, .int .i64 0, .nil, .int .i64 0])), m9 6 13, ⟨none, .store 4 (.t 7) (.t 15), none, []⟩] none) <| .seq (.region [o9 16 (.fa 0 (.t 7)), o9 17 (.load false 1 (.t 16)), m9 18 1, o9
 19 (.bin .geq (.t 17) (.t 18))] none) <| .cond (.t 19) (.seq (.hregion [⟨3, m9 23 1⟩, ⟨1, o9 21 (.fa 0 (.t 7))⟩, h9 2 22 (.load false 1 (.t 21)) [1], h9 4 24 (.bin .eql (.t 22) (.t 23)) [2,3,1], ⟨0, m9 20 6⟩, h9 5 4 (.mv (.t 20)) [0], h9
 6 5 (.mv (.t 24)) [4,5,0,1,2,3]]) <| .ret) <| .skip) <| .region [o9 25 (.bin .add (.t 11) (.c (.int .i64 1))), m9 11 25] none) <| .seq (.region [o9 26 (.fa 2 (.t 2)), o9 27 (.load false 1 (.t 26)), o9 28 (.len (.t 27)), m9 4 28, o9 5 (.mv
 (.c (.bool false)))] none) <| .ret
abbrev n_ref37_place : Nat := 49
theorem b_ref37_place : bodyOf prog 49 [1000000] = some (c_ref37_place, [.t 4, .t 5], 29) := by kernel_rfl
def c_ref37_has : ACode := .seq (.region [o9 3 (.box 2 39 (.t 1)), o9 4 (.mv (.c (.int .i64 0))), o9 5 (.mv (.c (.bool false)))] none) <| .seq (.seq (.region [m9 8 0, o9 9 (.len (.t 8)), o9 10 (.mv (.c (.int .i64 0)))] none) <| .block 0 <|
 .loop <| .seq (.region [o9 11 (.bin .lss (.t 10) (.t 9))] none) <| .seq (.cond (.t 11) (.skip) <| .exit 0) <| .seq (.block 1 <| .seq (.region [m9 12 10, o9 13 (.ixs 2 (.t 8) (.t 10)), o9 14 (.load true 2 (.t 13)), o9 7 (.alloc 2 39 (.agg
 [.int .i64 0, .int .i64 0])), m9 6 12, ⟨none, .store 2 (.t 7) (.t 14), none, []⟩] none) <| .seq (.region [o9 15 (.load true 2 (.t 7)), o9 16 (.load true 2 (.t 3)), o9 17 (.call 69 [.t 15, .t 16]), o9 18 (.un .not (.t 17))] none) <| .cond
 (.t 18) (.seq (.hregion [⟨2, o9 21 (.load true 2 (.t 3))⟩, ⟨1, o9 20 (.load true 2 (.t 7))⟩, h9 3 22 (.eqs false [0, 0] (.t 20) (.t 21)) [1,2], ⟨0, m9 19 6⟩, h9 4 4 (.mv (.t 19)) [0], h9 5 5 (.mv (.t 22)) [3,4,0,1,2]]) <| .ret) <| .skip)
 <| .region [o9 23 (.bin .add (.t 10) (.c (.int .i64 1))), m9 10 23] none) <| .seq (.region [m9 24 0, o9 25 (.len (.t 24)), m9 4 25, o9 5 (.mv (.c (.bool false)))] none) <| .ret
abbrev n_ref37_has : Nat := 50
theorem b_ref37_has : bodyOf prog 50 [1000000] = some (c_ref37_has, [.t 4, .t 5], 26) := by kernel_rfl
def c_ref36_point : ACode := .seq (.region [o9 1 (.box 4 68 (.t 0)), o9 2 (.mv (.c (.bool false)))] none) <| .seq (.region [o9 3 (.fa 0 (.t 1)), o9 4 (.load false 1 (.t 3)), o9 5 (.call 67 [.t 4, .c (.int .i64 0), .c (.int .i64 11)]), m9 6
 5, ⟨some 7, .fa 1 (.t 1), some (6, true), []⟩, ⟨some 8, .load false 1 (.t 7), some (6, true), []⟩, ⟨some 9, .call 67 [.t 8, .c (.int .i64 1), .c (.int .i64 96)], some (6, true), []⟩, o9 10 (.pick (.t 6) (.t 9) (.c (.bool false))), m9 11
 10, ⟨some 12, .fa 3 (.t 1), some (11, true), []⟩, ⟨some 13, .load false 1 (.t 12), some (11, true), []⟩, ⟨some 14, .call 67 [.t 13, .c (.int .i64 1), .c (.int .i64 96)], some (11, true), []⟩, o9 15 (.pick (.t 11) (.t 14) (.c (.bool
 false))), m9 16 15, ⟨some 17, .fa 2 (.t 1), some (16, true), []⟩, ⟨some 18, .load false 1 (.t 17), some (16, true), []⟩, ⟨some 19, .call 67 [.t 18, .c (.int .i64 0), .c (.int .i64 1073741824)], some (16, true), []⟩, o9 20 (.pick (.t 16)
 (.t 19) (.c (.bool false))), m9 2 20] none) <| .ret
abbrev n_ref36_point : Nat := 52
theorem b_ref36_point : bodyOf prog 52 [1000000] = some (c_ref36_point, [.t 2], 21) := by kernel_rfl
def c_ref36_flows : ACode := .seq (.region [o9 2 (.mv (.c (.bool false)))] none) <| .seq (.seq (.region [m9 5 0, o9 6 (.len (.t 5)), o9 7 (.mv (.c (.int .i64 0)))] none) <| .block 0 <| .loop <| .seq (.region [o9 8 (.bin .lss (.t 7) (.t
 6))] none) <| .seq (.cond (.t 8) (.skip) <| .exit 0) <| .seq (.block 1 <| .seq (.region [o9 9 (.ixs 1 (.t 5) (.t 7)), o9 10 (.load false 1 (.t 9)), m9 4 10] none) <| .seq (.region [m9 11 4, o9 12 (.call 67 [.t 11, .c (.int .i64 0), .c
 (.int .i64 1073741824)]), o9 13 (.un .not (.t 12))] none) <| .cond (.t 13) (.seq (.region [o9 2 (.mv (.c (.bool false)))] none) <| .ret) <| .skip) <| .region [o9 14 (.bin .add (.t 7) (.c (.int .i64 1))), m9 7 14] none) <| .seq (.region
 [o9 2 (.mv (.c (.bool true)))] none) <| .ret
abbrev n_ref36_flows : Nat := 53
theorem b_ref36_flows : bodyOf prog 53 [1000000] = some (c_ref36_flows, [.t 2], 15) := by kernel_rfl
def c_ref35_Rise : ACode := .seq (.region [o9 6 (.mv (.c (.int .i64 0)))] none) <| .seq (.region [m9 10 0, m9 11 1, o9 12 (.call 70 [.t 10, .t 11]), m9 9 12, o9 13 (.ext (.t 9) 0), o9 14 (.ext (.t 9) 1), m9 7 13, m9 8 14] none) <| .seq
 (.seq (.region [m9 15 8, o9 16 (.un .not (.t 15))] none) <| .cond (.t 16) (.seq (.region [o9 6 (.mv (.c (.int .i64 0)))] none) <| .ret) <| .skip) <| .seq (.region [m9 17 2, m9 18 7, o9 19 (.bin .sub (.t 17) (.t 18)), o9 20 (.mnx true (.c
 (.int .i64 0)) [.t 19]), m9 6 20] none) <| .ret
abbrev n_ref35_Rise : Nat := 54
theorem b_ref35_Rise : bodyOf prog 54 [] = some (c_ref35_Rise, [.t 6], 21) := by kernel_rfl
def c_slices_Clone__Watch : ACode := .seq (.region [o9 2 (.newsl 4 68)] none) <| .seq (.seq (.region [m9 3 0, o9 4 (.isnil false (.t 3))] none) <| .cond (.t 4) (.seq (.region [o9 2 (.newsl 4 68)] none) <| .ret) <| .skip) <| .seq (.region
 [o9 5 (.lit true 4 68 []), m9 6 0, o9 7 (.app 4 32 68 (.t 5) (.t 6)), m9 2 7] none) <| .ret
abbrev n_slices_Clone__Watch : Nat := 55
theorem b_slices_Clone__Watch : bodyOf prog 55 [2, 5, 1000000] = some (c_slices_Clone__Watch, [.t 2], 8) := by kernel_rfl
def c_slices_Clone__int : ACode := .seq (.region [o9 2 (.newsl 1 3)] none) <| .seq (.seq (.region [m9 3 0, o9 4 (.isnil false (.t 3))] none) <| .cond (.t 4) (.seq (.region [o9 2 (.newsl 1 3)] none) <| .ret) <| .skip) <| .seq (.region [o9 5
 (.lit true 1 3 []), m9 6 0, o9 7 (.app 1 8 3 (.t 5) (.t 6)), m9 2 7] none) <| .ret
abbrev n_slices_Clone__int : Nat := 56
theorem b_slices_Clone__int : bodyOf prog 56 [2, 5] = some (c_slices_Clone__int, [.t 2], 8) := by kernel_rfl
def c_slices_Clone__Cause : ACode := .seq (.region [o9 2 (.newsl 2 39)] none) <| .seq (.seq (.region [m9 3 0, o9 4 (.isnil false (.t 3))] none) <| .cond (.t 4) (.seq (.region [o9 2 (.newsl 2 39)] none) <| .ret) <| .skip) <| .seq (.region
 [o9 5 (.lit true 2 39 []), m9 6 0, o9 7 (.app 2 16 39 (.t 5) (.t 6)), m9 2 7] none) <| .ret
abbrev n_slices_Clone__Cause : Nat := 57
theorem b_slices_Clone__Cause : bodyOf prog 57 [2, 5, 1000000] = some (c_slices_Clone__Cause, [.t 2], 8) := by kernel_rfl
def c_slices_Index__Cause : ACode := .seq (.region [o9 3 (.box 2 39 (.t 1)), o9 4 (.mv (.c (.int .i64 0)))] none) <| .seq (.seq (.region [m9 6 0, o9 7 (.len (.t 6)), o9 8 (.mv (.c (.int .i64 0)))] none) <| .block 0 <| .loop <| .seq
 (.region [o9 9 (.bin .lss (.t 8) (.t 7))] none) <| .seq (.cond (.t 9) (.skip) <| .exit 0) <| .seq (.block 1 <| .seq (.region [m9 10 8, m9 5 10] none) <| .seq (.hregion [⟨2, m9 13 5⟩, ⟨1, m9 12 0⟩, h9 3 14 (.ixs 2 (.t 12) (.t 13)) [1,2],
 h9 4 15 (.load true 2 (.t 14)) [3,1,2], ⟨0, o9 11 (.load true 2 (.t 3))⟩, h9 5 16 (.eqs false [0, 0] (.t 11) (.t 15)) [0,4,3,1,2]]) <| .cond (.t 16) (.seq (.region [m9 17 5, m9 4 17] none) <| .ret) <| .skip) <| .region [o9 18 (.bin .add
 (.t 8) (.c (.int .i64 1))), m9 8 18] none) <| .seq (.region [o9 4 (.mv (.c (.int .i64 (-1))))] none) <| .ret
abbrev n_slices_Index__Cause : Nat := 60
theorem b_slices_Index__Cause : bodyOf prog 60 [1000000] = some (c_slices_Index__Cause, [.t 4], 19) := by kernel_rfl
def c_slices_Compare__int : ACode := .seq (.region [o9 4 (.mv (.c (.int .i64 0)))] none) <| .seq (.seq (.region [m9 9 0, o9 10 (.len (.t 9)), o9 11 (.mv (.c (.int .i64 0)))] none) <| .block 0 <| .loop <| .seq (.region [o9 12 (.bin .lss (.t
 11) (.t 10))] none) <| .seq (.cond (.t 12) (.skip) <| .exit 0) <| .seq (.block 1 <| .seq (.region [m9 13 11, o9 14 (.ixs 1 (.t 9) (.t 11)), o9 15 (.load false 1 (.t 14)), m9 5 13, m9 6 15] none) <| .seq (.seq (.region [m9 16 5, m9 17 1,
 o9 18 (.len (.t 17)), o9 19 (.bin .geq (.t 16) (.t 18))] none) <| .cond (.t 19) (.seq (.region [o9 4 (.mv (.c (.int .i64 1)))] none) <| .ret) <| .skip) <| .seq (.region [m9 20 1, m9 21 5, o9 22 (.ixs 1 (.t 20) (.t 21)), o9 23 (.load false
 1 (.t 22)), m9 7 23] none) <| .seq (.region [m9 24 6, m9 25 7, o9 26 (.call 72 [.t 24, .t 25]), m9 8 26] none) <| .seq (.region [m9 27 8, o9 28 (.bin .neq (.t 27) (.c (.int .i64 0)))] none) <| .cond (.t 28) (.seq (.region [m9 29 8, m9 4
 29] none) <| .ret) <| .skip) <| .region [o9 30 (.bin .add (.t 11) (.c (.int .i64 1))), m9 11 30] none) <| .seq (.seq (.region [m9 31 0, o9 32 (.len (.t 31)), m9 33 1, o9 34 (.len (.t 33)), o9 35 (.bin .lss (.t 32) (.t 34))] none) <| .cond
 (.t 35) (.seq (.region [o9 4 (.mv (.c (.int .i64 (-1))))] none) <| .ret) <| .skip) <| .seq (.region [o9 4 (.mv (.c (.int .i64 0)))] none) <| .ret
abbrev n_slices_Compare__int : Nat := 61
theorem b_slices_Compare__int : bodyOf prog 61 [1000000] = some (c_slices_Compare__int, [.t 4], 36) := by kernel_rfl
def c_slices_IndexFunc__Cause : ACode := .seq (.region [o9 4 (.mv (.c (.int .i64 0)))] none) <| .seq (.seq (.region [m9 6 0, o9 7 (.len (.t 6)), o9 8 (.mv (.c (.int .i64 0)))] none) <| .block 0 <| .loop <| .seq (.region [o9 9 (.bin .lss
 (.t 8) (.t 7))] none) <| .seq (.cond (.t 9) (.skip) <| .exit 0) <| .seq (.block 1 <| .seq (.region [m9 10 8, m9 5 10] none) <| .seq (.region [m9 11 1, m9 12 0, m9 13 5, o9 14 (.ixs 2 (.t 12) (.t 13)), o9 15 (.load true 2 (.t 14)), o9 16
 (.callv (.t 11) [.t 15])] none) <| .cond (.t 16) (.seq (.region [m9 17 5, m9 4 17] none) <| .ret) <| .skip) <| .region [o9 18 (.bin .add (.t 8) (.c (.int .i64 1))), m9 8 18] none) <| .seq (.region [o9 4 (.mv (.c (.int .i64 (-1))))] none)
 <| .ret
abbrev n_slices_IndexFunc__Cause : Nat := 64
theorem b_slices_IndexFunc__Cause : bodyOf prog 64 [1000000] = some (c_slices_IndexFunc__Cause, [.t 4], 19) := by kernel_rfl
def c_warning_valid : ACode := .seq (.region [o9 1 (.box 3 31 (.t 0)), o9 2 (.mv (.c (.bool false)))] none) <| .seq (.seq (.region [o9 7 (.fa 0 (.t 1)), o9 8 (.load false 1 (.t 7)), o9 9 (.call 74 [.t 8]), o9 10 (.bin .neq (.t 9) (.c (.int
 .i64 0))), m9 11 10, ⟨some 12, .fa 1 (.t 1), some (11, false), []⟩, ⟨some 13, .load false 1 (.t 12), some (11, false), []⟩, ⟨some 14, .len (.t 13), some (11, false), []⟩, ⟨some 15, .fa 0 (.t 1), some (11, false), []⟩, ⟨some 16, .load
 false 1 (.t 15), some (11, false), []⟩, ⟨some 17, .len (.t 16), some (11, false), []⟩, ⟨some 18, .bin .neq (.t 14) (.t 17), some (11, false), []⟩, o9 19 (.pick (.t 11) (.c (.bool true)) (.t 18))] none) <| .cond (.t 19) (.seq (.region [o9
 2 (.mv (.c (.bool false)))] none) <| .ret) <| .skip) <| .seq (.seq (.region [o9 20 (.fa 0 (.t 1)), o9 21 (.load false 1 (.t 20)), o9 22 (.len (.t 21)), o9 23 (.mv (.c (.int .i64 0)))] none) <| .block 0 <| .loop <| .seq (.region [o9 24
 (.bin .lss (.t 23) (.t 22))] none) <| .seq (.cond (.t 24) (.skip) <| .exit 0) <| .seq (.block 1 <| .seq (.region [m9 25 23, m9 3 25] none) <| .seq (.hregion [⟨8, m9 34 3⟩, ⟨6, o9 32 (.fa 0 (.t 1))⟩, h9 7 33 (.load false 1 (.t 32)) [6], h9
 9 35 (.ixs 4 (.t 33) (.t 34)) [7,8,6], h9 10 36 (.fa 1 (.t 35)) [9,7,8,6], h9 11 37 (.load false 1 (.t 36)) [10,9,7,8,6], ⟨2, m9 28 3⟩, ⟨0, o9 26 (.fa 1 (.t 1))⟩, h9 1 27 (.load false 1 (.t 26)) [0], h9 3 29 (.ixs 1 (.t 27) (.t 28))
 [1,2,0], h9 4 30 (.load false 1 (.t 29)) [3,1,2,0], h9 5 31 (.len (.t 30)) [4,3,1,2,0], h9 12 38 (.bin .gtr (.t 31) (.t 37)) [5,11,4,3,1,2,0,10,9,7,8,6], h9 13 39 (.mv (.t 38)) [12,5,11,4,3,1,2,0,10,9,7,8,6], ⟨16, ⟨some 42, .mv (.t 3),
 some (39, false), [13, 12, 5, 11, 4, 3, 1, 2, 0, 10, 9, 7, 8, 6]⟩⟩, ⟨14, ⟨some 40, .fa 1 (.t 1), some (39, false), [13, 12, 5, 11, 4, 3, 1, 2, 0, 10, 9, 7, 8, 6]⟩⟩, ⟨15, ⟨some 41, .load false 1 (.t 40), some (39, false), [14, 13, 12, 5,
 11, 4, 3, 1, 2, 0, 10, 9, 7, 8, 6]⟩⟩, ⟨17, ⟨some 43, .ixs 1 (.t 41) (.t 42), some (39, false), [15, 16, 13, 14, 12, 5, 11, 4, 3, 1, 2, 0, 10, 9, 7, 8, 6]⟩⟩, ⟨18, ⟨some 44, .load false 1 (.t 43), some (39, false), [17, 13, 15, 16, 14, 12,
 5, 11, 4, 3, 1, 2, 0, 10, 9, 7, 8, 6]⟩⟩, ⟨19, ⟨some 45, .call 75 [.t 44, .c (.func 76 [])], some (39, false), [18, 13, 17, 15, 16, 14, 12, 5, 11, 4, 3, 1, 2, 0, 10, 9, 7, 8, 6]⟩⟩, h9 20 46 (.pick (.t 39) (.c (.bool true)) (.t 45))
 [13,19,12,5,11,4,3,1,2,0,10,9,7,8,6,18,17,15,16,14]]) <| .cond (.t 46) (.seq (.region [o9 2 (.mv (.c (.bool false)))] none) <| .ret) <| .skip) <| .region [o9 47 (.bin .add (.t 23) (.c (.int .i64 1))), m9 23 47] none) <| .seq (.region [o9
 4 (.mv (.c (.int .i64 (-1))))] none) <| .seq (.seq (.region [o9 48 (.fa 2 (.t 1)), o9 49 (.load false 1 (.t 48)), o9 50 (.len (.t 49)), o9 51 (.mv (.c (.int .i64 0)))] none) <| .block 2 <| .loop <| .seq (.region [o9 52 (.bin .lss (.t 51)
 (.t 50))] none) <| .seq (.cond (.t 52) (.skip) <| .exit 2) <| .seq (.block 3 <| .seq (.region [o9 53 (.ixs 4 (.t 49) (.t 51)), o9 54 (.load true 4 (.t 53)), o9 6 (.alloc 4 56 (.agg [.int .i64 0, .int .i64 0, .nil, .int .i64 0])), ⟨none,
 .store 4 (.t 6) (.t 54), none, []⟩] none) <| .seq (.seq (.region [o9 55 (.fa 0 (.t 6)), o9 56 (.load false 1 (.t 55)), m9 57 4, o9 58 (.bin .leq (.t 56) (.t 57)), m9 59 58, ⟨some 60, .fa 0 (.t 6), some (59, false), []⟩, ⟨some 61, .load
 false 1 (.t 60), some (59, false), []⟩, ⟨some 62, .fa 0 (.t 1), some (59, false), []⟩, ⟨some 63, .load false 1 (.t 62), some (59, false), []⟩, ⟨some 64, .len (.t 63), some (59, false), []⟩, ⟨some 65, .bin .geq (.t 61) (.t 64), some (59,
 false), []⟩, o9 66 (.pick (.t 59) (.c (.bool true)) (.t 65)), m9 67 66, ⟨some 68, .fa 1 (.t 6), some (67, false), []⟩, ⟨some 69, .load false 1 (.t 68), some (67, false), []⟩, ⟨some 70, .bin .lss (.t 69) (.c (.int .i64 0)), some (67,
 false), []⟩, o9 71 (.pick (.t 67) (.c (.bool true)) (.t 70)), m9 72 71, ⟨some 73, .fa 1 (.t 6), some (72, false), []⟩, ⟨some 74, .load false 1 (.t 73), some (72, false), []⟩, ⟨some 75, .bin .gtr (.t 74) (.c (.int .i64 16777216)), some
 (72, false), []⟩, o9 76 (.pick (.t 72) (.c (.bool true)) (.t 75)), m9 77 76, ⟨some 78, .fa 2 (.t 6), some (77, false), []⟩, ⟨some 79, .load false 1 (.t 78), some (77, false), []⟩, ⟨some 80, .call 77 [.t 79], some (77, false), []⟩, ⟨some
 81, .un .not (.t 80), some (77, false), []⟩, o9 82 (.pick (.t 77) (.c (.bool true)) (.t 81)), m9 83 82, ⟨some 84, .fa 3 (.t 6), some (83, false), []⟩, ⟨some 85, .load false 1 (.t 84), some (83, false), []⟩, ⟨some 86, .bin .lss (.t 85) (.c
 (.int .i64 0)), some (83, false), []⟩, o9 87 (.pick (.t 83) (.c (.bool true)) (.t 86)), m9 88 87, ⟨some 89, .fa 3 (.t 6), some (88, false), []⟩, ⟨some 90, .load false 1 (.t 89), some (88, false), []⟩, ⟨some 91, .bin .gtr (.t 90) (.c (.int
 .i64 96)), some (88, false), []⟩, o9 92 (.pick (.t 88) (.c (.bool true)) (.t 91)), m9 93 92, ⟨some 94, .fa 2 (.t 6), some (93, false), []⟩, ⟨some 95, .load false 1 (.t 94), some (93, false), []⟩, ⟨some 96, .len (.t 95), some (93, false),
 []⟩, ⟨some 97, .bin .gtr (.t 96) (.c (.int .i64 0)), some (93, false), []⟩, ⟨some 98, .mv (.t 97), some (93, false), []⟩, ⟨some 99, .fa 3 (.t 6), some (98, true), []⟩, ⟨some 100, .load false 1 (.t 99), some (98, true), []⟩, ⟨some 101,
 .bin .gtr (.t 100) (.c (.int .i64 0)), some (98, true), []⟩, ⟨some 102, .pick (.t 98) (.t 101) (.c (.bool false)), some (93, false), []⟩, o9 103 (.pick (.t 93) (.c (.bool true)) (.t 102))] none) <| .cond (.t 103) (.seq (.region [o9 2 (.mv
 (.c (.bool false)))] none) <| .ret) <| .skip) <| .region [o9 104 (.fa 0 (.t 6)), o9 105 (.load false 1 (.t 104)), m9 4 105] none) <| .region [o9 106 (.bin .add (.t 51) (.c (.int .i64 1))), m9 51 106] none) <| .seq (.region [o9 2 (.mv (.c
 (.bool true)))] none) <| .ret
abbrev n_warning_valid : Nat := 65
theorem b_warning_valid : bodyOf prog 65 [1000000] = some (c_warning_valid, [.t 2], 107) := by kernel_rfl
def c_warning_copied : ACode := .seq (.region [o9 1 (.box 4 56 (.t 0)), o9 2 (.alloc 4 56 (.agg [.int .i64 0, .int .i64 0, .nil, .int .i64 0]))] none) <| .seq (.region [o9 3 (.fa 2 (.t 1)), o9 4 (.load false 1 (.t 3)), o9 5 (.call 57 [.t
 4]), o9 6 (.fa 2 (.t 1)), ⟨none, .store 1 (.t 6) (.t 5), none, []⟩] none) <| .seq (.region [o9 7 (.load true 4 (.t 1)), ⟨none, .store 4 (.t 2) (.t 7), none, []⟩] none) <| .ret
abbrev n_warning_copied : Nat := 66
theorem b_warning_copied : bodyOf prog 66 [1000000] = some (c_warning_copied, [.c 2 true 4], 8) := by kernel_rfl
def c_ref36_in : ACode := .seq (.region [o9 6 (.mv (.c (.bool false)))] none) <| .seq (.region [m9 7 0, m9 8 1, o9 9 (.bin .geq (.t 7) (.t 8)), m9 10 9, ⟨some 11, .mv (.t 0), some (10, true), []⟩, ⟨some 12, .mv (.t 2), some (10, true),
 []⟩, ⟨some 13, .bin .leq (.t 11) (.t 12), some (10, true), []⟩, o9 14 (.pick (.t 10) (.t 13) (.c (.bool false))), m9 6 14] none) <| .ret
abbrev n_ref36_in : Nat := 67
theorem b_ref36_in : bodyOf prog 67 [1000000] = some (c_ref36_in, [.t 6], 15) := by kernel_rfl
def c_ref36_warning : ACode := .seq (.region [o9 1 (.box 4 56 (.t 0)), o9 2 (.mv (.c (.bool false)))] none) <| .seq (.seq (.region [o9 5 (.fa 1 (.t 1)), o9 6 (.load false 1 (.t 5)), o9 7 (.call 67 [.t 6, .c (.int .i64 0), .c (.int .i64
 16777216)]), o9 8 (.un .not (.t 7)), m9 9 8, ⟨some 10, .fa 3 (.t 1), some (9, false), []⟩, ⟨some 11, .load false 1 (.t 10), some (9, false), []⟩, ⟨some 12, .call 67 [.t 11, .c (.int .i64 0), .c (.int .i64 96)], some (9, false), []⟩, ⟨some
 13, .un .not (.t 12), some (9, false), []⟩, o9 14 (.pick (.t 9) (.c (.bool true)) (.t 13)), m9 15 14, ⟨some 16, .fa 2 (.t 1), some (15, false), []⟩, ⟨some 17, .load false 1 (.t 16), some (15, false), []⟩, ⟨some 18, .len (.t 17), some (15,
 false), []⟩, ⟨some 19, .bin .gtr (.t 18) (.c (.int .i64 0)), some (15, false), []⟩, ⟨some 20, .mv (.t 19), some (15, false), []⟩, ⟨some 21, .fa 3 (.t 1), some (20, true), []⟩, ⟨some 22, .load false 1 (.t 21), some (20, true), []⟩, ⟨some
 23, .bin .neq (.t 22) (.c (.int .i64 0)), some (20, true), []⟩, ⟨some 24, .pick (.t 20) (.t 23) (.c (.bool false)), some (15, false), []⟩, o9 25 (.pick (.t 15) (.c (.bool true)) (.t 24))] none) <| .cond (.t 25) (.seq (.region [o9 2 (.mv
 (.c (.bool false)))] none) <| .ret) <| .skip) <| .seq (.seq (.region [o9 26 (.fa 2 (.t 1)), o9 27 (.load false 1 (.t 26)), o9 28 (.len (.t 27)), o9 29 (.mv (.c (.int .i64 0)))] none) <| .block 0 <| .loop <| .seq (.region [o9 30 (.bin .lss
 (.t 29) (.t 28))] none) <| .seq (.cond (.t 30) (.skip) <| .exit 0) <| .seq (.block 1 <| .seq (.region [m9 31 29, o9 32 (.ixs 2 (.t 27) (.t 29)), o9 33 (.load true 2 (.t 32)), o9 4 (.alloc 2 39 (.agg [.int .i64 0, .int .i64 0])), m9 3 31,
 ⟨none, .store 2 (.t 4) (.t 33), none, []⟩] none) <| .seq (.hregion [⟨0, o9 34 (.load true 2 (.t 4))⟩, h9 1 35 (.call 48 [.t 34]) [0], h9 2 36 (.bin .neq (.t 35) (.c (.int .i64 0))) [1,0], h9 3 37 (.mv (.t 36)) [2,1,0], ⟨4, ⟨some 38, .mv
 (.t 3), some (37, false), [3, 2, 1, 0]⟩⟩, ⟨5, ⟨some 39, .bin .gtr (.t 38) (.c (.int .i64 0)), some (37, false), [4, 3, 2, 1, 0]⟩⟩, ⟨6, ⟨some 40, .mv (.t 39), some (37, false), [5, 3, 4, 2, 1, 0]⟩⟩, ⟨13, ⟨some 47, .load true 2 (.t 4), some
 (40, true), [6, 5, 3, 4, 2, 1, 0]⟩⟩, ⟨9, ⟨some 43, .mv (.t 3), some (40, true), [6, 5, 3, 4, 2, 1, 0]⟩⟩, ⟨10, ⟨some 44, .bin .sub (.t 43) (.c (.int .i64 1)), some (40, true), [9, 6, 5, 3, 4, 2, 1, 0]⟩⟩, ⟨7, ⟨some 41, .fa 2 (.t 1), some
 (40, true), [6, 5, 3, 4, 2, 1, 0]⟩⟩, ⟨8, ⟨some 42, .load false 1 (.t 41), some (40, true), [7, 6, 5, 3, 4, 2, 1, 0]⟩⟩, ⟨11, ⟨some 45, .ixs 2 (.t 42) (.t 44), some (40, true), [8, 10, 6, 7, 5, 3, 4, 2, 1, 0, 9]⟩⟩, ⟨12, ⟨some 46, .load true
 2 (.t 45), some (40, true), [11, 6, 8, 10, 7, 5, 3, 4, 2, 1, 0, 9]⟩⟩, ⟨14, ⟨some 48, .call 69 [.t 46, .t 47], some (40, true), [12, 13, 6, 11, 8, 10, 7, 5, 3, 4, 2, 1, 0, 9]⟩⟩, ⟨15, ⟨some 49, .un .not (.t 48), some (40, true), [14, 6, 12,
 13, 11, 8, 10, 7, 5, 3, 4, 2, 1, 0, 9]⟩⟩, ⟨16, ⟨some 50, .pick (.t 40) (.t 49) (.c (.bool false)), some (37, false), [6, 15, 3, 5, 4, 2, 1, 0, 14, 12, 13, 11, 8, 10, 7, 9]⟩⟩, h9 17 51 (.pick (.t 37) (.c (.bool true)) (.t 50))
 [3,16,2,1,0,6,15,5,4,14,12,13,11,8,10,7,9]]) <| .cond (.t 51) (.seq (.region [o9 2 (.mv (.c (.bool false)))] none) <| .ret) <| .skip) <| .region [o9 52 (.bin .add (.t 29) (.c (.int .i64 1))), m9 29 52] none) <| .seq (.region [o9 2 (.mv
 (.c (.bool true)))] none) <| .ret
abbrev n_ref36_warning : Nat := 68
theorem b_ref36_warning : bodyOf prog 68 [1000000] = some (c_ref36_warning, [.t 2], 53) := by kernel_rfl
def c_ref36_Before : ACode := .seq (.region [o9 2 (.box 2 39 (.t 0)), o9 3 (.box 2 39 (.t 1)), o9 4 (.mv (.c (.bool false)))] none) <| .seq (.region [o9 5 (.fa 0 (.t 2)), o9 6 (.load false 1 (.t 5)), o9 7 (.fa 0 (.t 3)), o9 8 (.load false
 1 (.t 7)), o9 9 (.bin .lss (.t 6) (.t 8)), m9 10 9, ⟨some 11, .fa 0 (.t 2), some (10, false), []⟩, ⟨some 12, .load false 1 (.t 11), some (10, false), []⟩, ⟨some 13, .fa 0 (.t 3), some (10, false), []⟩, ⟨some 14, .load false 1 (.t 13),
 some (10, false), []⟩, ⟨some 15, .bin .eql (.t 12) (.t 14), some (10, false), []⟩, ⟨some 16, .mv (.t 15), some (10, false), []⟩, ⟨some 17, .fa 1 (.t 2), some (16, true), []⟩, ⟨some 18, .load false 1 (.t 17), some (16, true), []⟩, ⟨some
 19, .fa 1 (.t 3), some (16, true), []⟩, ⟨some 20, .load false 1 (.t 19), some (16, true), []⟩, ⟨some 21, .bin .lss (.t 18) (.t 20), some (16, true), []⟩, ⟨some 22, .pick (.t 16) (.t 21) (.c (.bool false)), some (10, false), []⟩, o9 23
 (.pick (.t 10) (.c (.bool true)) (.t 22)), m9 4 23] none) <| .ret
abbrev n_ref36_Before : Nat := 69
theorem b_ref36_Before : bodyOf prog 69 [1000000] = some (c_ref36_Before, [.t 4], 24) := by kernel_rfl
def c_ref35_least : ACode := .seq (.region [o9 4 (.mv (.c (.int .i64 0))), o9 5 (.mv (.c (.bool false)))] none) <| .seq (.seq (.region [m9 8 1, o9 9 (.bin .lss (.t 8) (.c (.int .i64 1))), m9 10 9, ⟨some 11, .mv (.t 0), some (10, false),
 []⟩, ⟨some 12, .len (.t 11), some (10, false), []⟩, ⟨some 13, .bin .eql (.t 12) (.c (.int .i64 0)), some (10, false), []⟩, o9 14 (.pick (.t 10) (.c (.bool true)) (.t 13))] none) <| .cond (.t 14) (.seq (.region [o9 4 (.mv (.c (.int .i64
 0))), o9 5 (.mv (.c (.bool false)))] none) <| .ret) <| .skip) <| .seq (.region [m9 15 0, m9 16 0, o9 17 (.len (.t 16)), o9 18 (.bin .sub (.t 17) (.c (.int .i64 1))), o9 19 (.ixs 1 (.t 15) (.t 18)), o9 20 (.load false 1 (.t 19)), m9 6 20]
 none) <| .seq (.seq (.region [o9 7 (.mv (.c (.int .i64 1)))] none) <| .block 0 <| .loop <| .seq (.seq (.region [m9 21 7, m9 22 1, o9 23 (.bin .leq (.t 21) (.t 22)), m9 24 23, ⟨some 25, .mv (.t 7), some (24, true), []⟩, ⟨some 26, .mv (.t
 0), some (24, true), []⟩, ⟨some 27, .len (.t 26), some (24, true), []⟩, ⟨some 28, .bin .leq (.t 25) (.t 27), some (24, true), []⟩, o9 29 (.pick (.t 24) (.t 28) (.c (.bool false)))] none) <| .cond (.t 29) (.skip) <| .exit 0) <| .seq
 (.block 1 <| .region [m9 32 6, m9 33 0, m9 34 0, o9 35 (.len (.t 34)), m9 36 7, o9 37 (.bin .sub (.t 35) (.t 36)), o9 38 (.ixs 1 (.t 33) (.t 37)), o9 39 (.load false 1 (.t 38)), o9 40 (.mnx false (.t 32) [.t 39]), m9 6 40] none) <|
 .region [m9 30 7, o9 31 (.bin .add (.t 30) (.c (.int .i64 1))), m9 7 31] none) <| .seq (.region [m9 41 6, m9 4 41, o9 5 (.mv (.c (.bool true)))] none) <| .ret
abbrev n_ref35_least : Nat := 70
theorem b_ref35_least : bodyOf prog 70 [] = some (c_ref35_least, [.t 4, .t 5], 42) := by kernel_rfl
def c_cmp_Compare__int : ACode := .seq (.region [o9 4 (.mv (.c (.int .i64 0)))] none) <| .seq (.region [m9 7 0, o9 8 (.call 79 [.t 7]), m9 5 8] none) <| .seq (.region [m9 9 1, o9 10 (.call 79 [.t 9]), m9 6 10] none) <| .seq (.seq (.region
 [m9 11 5] none) <| .cond (.t 11) (.seq (.seq (.region [m9 12 6] none) <| .cond (.t 12) (.seq (.region [o9 4 (.mv (.c (.int .i64 0)))] none) <| .ret) <| .skip) <| .seq (.region [o9 4 (.mv (.c (.int .i64 (-1))))] none) <| .ret) <| .skip) <|
 .seq (.seq (.region [m9 13 6] none) <| .cond (.t 13) (.seq (.region [o9 4 (.mv (.c (.int .i64 1)))] none) <| .ret) <| .skip) <| .seq (.seq (.region [m9 14 0, m9 15 1, o9 16 (.bin .lss (.t 14) (.t 15))] none) <| .cond (.t 16) (.seq
 (.region [o9 4 (.mv (.c (.int .i64 (-1))))] none) <| .ret) <| .skip) <| .seq (.seq (.region [m9 17 0, m9 18 1, o9 19 (.bin .gtr (.t 17) (.t 18))] none) <| .cond (.t 19) (.seq (.region [o9 4 (.mv (.c (.int .i64 1)))] none) <| .ret) <|
 .skip) <| .seq (.region [o9 4 (.mv (.c (.int .i64 0)))] none) <| .ret
abbrev n_cmp_Compare__int : Nat := 72
theorem b_cmp_Compare__int : bodyOf prog 72 [1000000] = some (c_cmp_Compare__int, [.t 4], 20) := by kernel_rfl
def c_warning_watched : ACode := .seq (.region [o9 2 (.mv (.c (.int .i64 0)))] none) <| .seq (.seq (.region [m9 5 0, o9 6 (.len (.t 5)), o9 7 (.bin .gtr (.t 6) (.c (.int .i64 8)))] none) <| .cond (.t 7) (.seq (.region [o9 2 (.mv (.c (.int
 .i64 10)))] none) <| .ret) <| .skip) <| .seq (.seq (.region [m9 8 0, o9 9 (.len (.t 8)), o9 10 (.mv (.c (.int .i64 0)))] none) <| .block 0 <| .loop <| .seq (.region [o9 11 (.bin .lss (.t 10) (.t 9))] none) <| .seq (.cond (.t 11) (.skip)
 <| .exit 0) <| .seq (.block 1 <| .seq (.region [o9 12 (.ixs 4 (.t 8) (.t 10)), o9 13 (.load true 4 (.t 12)), o9 4 (.alloc 4 68 (.agg [.int .i64 0, .int .i64 0, .int .i64 0, .int .i64 0])), ⟨none, .store 4 (.t 4) (.t 13), none, []⟩] none)
 <| .seq (.region [o9 14 (.fa 0 (.t 4)), o9 15 (.load false 1 (.t 14)), o9 16 (.bin .lss (.t 15) (.c (.int .i64 0))), m9 17 16, ⟨some 18, .fa 0 (.t 4), some (17, false), []⟩, ⟨some 19, .load false 1 (.t 18), some (17, false), []⟩, ⟨some
 20, .bin .geq (.t 19) (.c (.int .i64 12)), some (17, false), []⟩, o9 21 (.pick (.t 17) (.c (.bool true)) (.t 20)), m9 22 21, ⟨some 23, .fa 1 (.t 4), some (22, false), []⟩, ⟨some 24, .load false 1 (.t 23), some (22, false), []⟩, ⟨some 25,
 .bin .lss (.t 24) (.c (.int .i64 1)), some (22, false), []⟩, o9 26 (.pick (.t 22) (.c (.bool true)) (.t 25)), m9 27 26, ⟨some 28, .fa 1 (.t 4), some (27, false), []⟩, ⟨some 29, .load false 1 (.t 28), some (27, false), []⟩, ⟨some 30, .bin
 .gtr (.t 29) (.c (.int .i64 96)), some (27, false), []⟩, o9 31 (.pick (.t 27) (.c (.bool true)) (.t 30)), m9 32 31, ⟨some 33, .fa 3 (.t 4), some (32, false), []⟩, ⟨some 34, .load false 1 (.t 33), some (32, false), []⟩, ⟨some 35, .bin .lss
 (.t 34) (.c (.int .i64 1)), some (32, false), []⟩, o9 36 (.pick (.t 32) (.c (.bool true)) (.t 35)), m9 37 36, ⟨some 38, .fa 3 (.t 4), some (37, false), []⟩, ⟨some 39, .load false 1 (.t 38), some (37, false), []⟩, ⟨some 40, .bin .gtr (.t
 39) (.c (.int .i64 96)), some (37, false), []⟩, o9 41 (.pick (.t 37) (.c (.bool true)) (.t 40)), m9 42 41, ⟨some 43, .fa 2 (.t 4), some (42, false), []⟩, ⟨some 44, .load false 1 (.t 43), some (42, false), []⟩, ⟨some 45, .call 76 [.t 44],
 some (42, false), []⟩, o9 46 (.pick (.t 42) (.c (.bool true)) (.t 45))] none) <| .cond (.t 46) (.seq (.region [o9 2 (.mv (.c (.int .i64 52)))] none) <| .ret) <| .skip) <| .region [o9 47 (.bin .add (.t 10) (.c (.int .i64 1))), m9 10 47]
 none) <| .seq (.region [o9 2 (.mv (.c (.int .i64 0)))] none) <| .ret
abbrev n_warning_watched : Nat := 74
theorem b_warning_watched : bodyOf prog 74 [1000000] = some (c_warning_watched, [.t 2], 48) := by kernel_rfl
def c_slices_ContainsFunc__int : ACode := .seq (.region [o9 4 (.mv (.c (.bool false)))] none) <| .seq (.region [m9 5 0, m9 6 1, o9 7 (.call 81 [.t 5, .t 6]), o9 8 (.bin .geq (.t 7) (.c (.int .i64 0))), m9 4 8] none) <| .ret
abbrev n_slices_ContainsFunc__int : Nat := 75
theorem b_slices_ContainsFunc__int : bodyOf prog 75 [] = some (c_slices_ContainsFunc__int, [.t 4], 9) := by kernel_rfl
def c_warning_beyond : ACode := .seq (.region [o9 2 (.mv (.c (.bool false)))] none) <| .seq (.region [m9 3 0, o9 4 (.bin .lss (.t 3) (.c (.int .i64 0))), m9 5 4, ⟨some 6, .mv (.t 0), some (5, false), []⟩, ⟨some 7, .bin .gtr (.t 6) (.c
 (.int .i64 1073741824)), some (5, false), []⟩, o9 8 (.pick (.t 5) (.c (.bool true)) (.t 7)), m9 2 8] none) <| .ret
abbrev n_warning_beyond : Nat := 76
theorem b_warning_beyond : bodyOf prog 76 [1000000] = some (c_warning_beyond, [.t 2], 9) := by kernel_rfl
def c_warning_caused : ACode := .seq (.region [o9 2 (.mv (.c (.bool false)))] none) <| .seq (.region [o9 7 (.build [.int .i64 0, .int .i64 0] []), o9 3 (.alloc 2 96 (.agg [.int .i64 0, .int .i64 0])), ⟨none, .store 2 (.t 3) (.t 7), none,
 []⟩] none) <| .seq (.seq (.region [m9 8 0, o9 9 (.len (.t 8)), o9 10 (.mv (.c (.int .i64 0)))] none) <| .block 0 <| .loop <| .seq (.region [o9 11 (.bin .lss (.t 10) (.t 9))] none) <| .seq (.cond (.t 11) (.skip) <| .exit 0) <| .seq (.block
 1 <| .seq (.region [o9 12 (.ixs 2 (.t 8) (.t 10)), o9 13 (.load true 2 (.t 12)), o9 5 (.alloc 2 39 (.agg [.int .i64 0, .int .i64 0])), ⟨none, .store 2 (.t 5) (.t 13), none, []⟩] none) <| .seq (.region [o9 14 (.fa 0 (.t 5)), o9 15 (.load
 false 1 (.t 14)), o9 16 (.fa 1 (.t 5)), o9 17 (.load false 1 (.t 16)), o9 18 (.build [.int .i64 0, .int .i64 0] [(0, 1, .t 15), (1, 1, .t 17)]), o9 6 (.alloc 2 96 (.agg [.int .i64 0, .int .i64 0])), ⟨none, .store 2 (.t 6) (.t 18), none,
 []⟩] none) <| .seq (.seq (.hregion [⟨0, o9 19 (.fa 0 (.t 5))⟩, h9 1 20 (.load false 1 (.t 19)) [0], h9 2 21 (.bin .lss (.t 20) (.c (.int .i64 1))) [1,0], h9 3 22 (.mv (.t 21)) [2,1,0], ⟨4, ⟨some 23, .fa 0 (.t 5), some (22, false), [3, 2,
 1, 0]⟩⟩, ⟨5, ⟨some 24, .load false 1 (.t 23), some (22, false), [4, 3, 2, 1, 0]⟩⟩, ⟨6, ⟨some 25, .bin .gtr (.t 24) (.c (.int .i64 4)), some (22, false), [5, 3, 4, 2, 1, 0]⟩⟩, h9 7 26 (.pick (.t 22) (.c (.bool true)) (.t 25))
 [3,6,2,1,0,5,4], h9 8 27 (.mv (.t 26)) [7,3,6,2,1,0,5,4], ⟨9, ⟨some 28, .fa 1 (.t 5), some (27, false), [8, 7, 3, 6, 2, 1, 0, 5, 4]⟩⟩, ⟨10, ⟨some 29, .load false 1 (.t 28), some (27, false), [9, 8, 7, 3, 6, 2, 1, 0, 5, 4]⟩⟩, ⟨11, ⟨some
 30, .bin .lss (.t 29) (.c (.int .i64 0)), some (27, false), [10, 8, 9, 7, 3, 6, 2, 1, 0, 5, 4]⟩⟩, h9 12 31 (.pick (.t 27) (.c (.bool true)) (.t 30)) [8,11,7,3,6,2,1,0,5,4,10,9], h9 13 32 (.mv (.t 31)) [12,8,11,7,3,6,2,1,0,5,4,10,9], ⟨14,
 ⟨some 33, .fa 1 (.t 5), some (32, false), [13, 12, 8, 11, 7, 3, 6, 2, 1, 0, 5, 4, 10, 9]⟩⟩, ⟨15, ⟨some 34, .load false 1 (.t 33), some (32, false), [14, 13, 12, 8, 11, 7, 3, 6, 2, 1, 0, 5, 4, 10, 9]⟩⟩, ⟨16, ⟨some 35, .bin .geq (.t 34) (.c
 (.int .i64 6)), some (32, false), [15, 13, 14, 12, 8, 11, 7, 3, 6, 2, 1, 0, 5, 4, 10, 9]⟩⟩, h9 17 36 (.pick (.t 32) (.c (.bool true)) (.t 35)) [13,16,12,8,11,7,3,6,2,1,0,5,4,10,9,15,14], h9 18 37 (.mv (.t 36))
 [17,13,16,12,8,11,7,3,6,2,1,0,5,4,10,9,15,14], ⟨20, ⟨some 39, .slca 1 2 (.t 3) none none, some (37, false), [18, 17, 13, 16, 12, 8, 11, 7, 3, 6, 2, 1, 0, 5, 4, 10, 9, 15, 14]⟩⟩, ⟨19, ⟨some 38, .slca 1 2 (.t 6) none none, some (37, false),
 [18, 17, 13, 16, 12, 8, 11, 7, 3, 6, 2, 1, 0, 5, 4, 10, 9, 15, 14]⟩⟩, ⟨21, ⟨some 40, .call 61 [.t 38, .t 39], some (37, false), [19, 20, 18, 17, 13, 16, 12, 8, 11, 7, 3, 6, 2, 1, 0, 5, 4, 10, 9, 15, 14]⟩⟩, ⟨22, ⟨some 41, .bin .leq (.t 40)
 (.c (.int .i64 0)), some (37, false), [21, 18, 19, 20, 17, 13, 16, 12, 8, 11, 7, 3, 6, 2, 1, 0, 5, 4, 10, 9, 15, 14]⟩⟩, h9 23 42 (.pick (.t 37) (.c (.bool true)) (.t 41)) [18,22,17,13,16,12,8,11,7,3,6,2,1,0,5,4,10,9,15,14,21,19,20]]) <|
 .cond (.t 42) (.seq (.region [o9 2 (.mv (.c (.bool false)))] none) <| .ret) <| .skip) <| .region [o9 43 (.load true 2 (.t 6)), ⟨none, .store 2 (.t 3) (.t 43), none, []⟩] none) <| .region [o9 44 (.bin .add (.t 10) (.c (.int .i64 1))), m9
 10 44] none) <| .seq (.region [o9 2 (.mv (.c (.bool true)))] none) <| .ret
abbrev n_warning_caused : Nat := 77
theorem b_warning_caused : bodyOf prog 77 [1000000] = some (c_warning_caused, [.t 2], 45) := by kernel_rfl
def c_cmp_isNaN__int : ACode := .seq (.region [o9 2 (.mv (.c (.bool false)))] none) <| .seq (.region [m9 3 0, m9 4 0, o9 5 (.bin .neq (.t 3) (.t 4)), m9 2 5] none) <| .ret
abbrev n_cmp_isNaN__int : Nat := 79
theorem b_cmp_isNaN__int : bodyOf prog 79 [1000000] = some (c_cmp_isNaN__int, [.t 2], 6) := by kernel_rfl
def c_slices_IndexFunc__int : ACode := .seq (.region [o9 4 (.mv (.c (.int .i64 0)))] none) <| .seq (.seq (.region [m9 6 0, o9 7 (.len (.t 6)), o9 8 (.mv (.c (.int .i64 0)))] none) <| .block 0 <| .loop <| .seq (.region [o9 9 (.bin .lss (.t
 8) (.t 7))] none) <| .seq (.cond (.t 9) (.skip) <| .exit 0) <| .seq (.block 1 <| .seq (.region [m9 10 8, m9 5 10] none) <| .seq (.region [m9 11 1, m9 12 0, m9 13 5, o9 14 (.ixs 1 (.t 12) (.t 13)), o9 15 (.load false 1 (.t 14)), o9 16
 (.callv (.t 11) [.t 15])] none) <| .cond (.t 16) (.seq (.region [m9 17 5, m9 4 17] none) <| .ret) <| .skip) <| .region [o9 18 (.bin .add (.t 8) (.c (.int .i64 1))), m9 8 18] none) <| .seq (.region [o9 4 (.mv (.c (.int .i64 (-1))))] none)
 <| .ret
abbrev n_slices_IndexFunc__int : Nat := 81
theorem b_slices_IndexFunc__int : bodyOf prog 81 [] = some (c_slices_IndexFunc__int, [.t 4], 19) := by kernel_rfl
end Go.Proofs.Try
