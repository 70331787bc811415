/- OWN WORK, put together by tools/asm.py, seat.py, mini.py. -/
import Derived.Test.YtcpckngdfjmbgaaGreatCode
namespace Go.Proofs.Try
open Go Go.Ab Go.Proofs.Tryz
def jl:ay:=s9 [o9 2 (.fj 1 3)]<|.seq (s9 [m9 3 0,o9 4 (.kx false (.t 3))]<|u9 4 (s9 [o9 2 (.fj 1 3)]<|.ret)<|.skip)<|s9 [o9 5 (.lit true 1 3 []),m9 6 0,o9 7 (.app 1 8 3 (.t 5) (.t 6)),m9 2 7]
 <| .ret
abbrev jg:Nat:=81
theorem jq:ar prog 81 [2,5]=some (jl,[.t 2],8):=by kernel_rfl
def oF:ay:=s9 [o9 2 (.box 2 40 (.t 0)),a9 4 2 40 (.agg [.nil,.nil]),o9 5 (.mv (k9 0))]<|.seq (s9 [q9 7 2 2,c9 8 56 [.t 7],d9 9 .neq 8 0]<|u9 9 (s9 [o9 10 (.build [.nil,.nil] []),t9 2 4 10,o9 5 (.mv (k9 50))]
 <| .ret)<|.skip)<|s9 [o9 6 (.mv (k9 0))]<|.seq (.block 0<|.loop<|.seq (s9 [m9 11 6,f9 12 1 2,l9 13 12,n9 14 13,b9 15 .lss 11 14,m9 16 15,g9 17 (.fa 1 (.t 2)) 16 true,g9 18 (.load false 1 (.t 17)) 16 true,v9 19 6 16 true,
 g9 20 (.bM 6 (.t 18) (.t 19)) 16 true,g9 21 (.fa 0 (.t 20)) 16 true,g9 22 (.load false 1 (.t 21)) 16 true,v9 23 1 16 true,g9 24 (.bin .leq (.t 22) (.t 23)) 16 true,p9 25 16 24 false]<|u9 25 (.skip)<|.exit 0)<|.block 1<|r9
 [m9 26 6,d9 27 .add 26 1,m9 6 27])<|.seq (.aC [⟨3,m9 31 6⟩,⟨1,f9 29 1 2⟩,h9 2 30 (.load false 1 (.t 29)) [1],h9 4 32 (.qH 6 (.t 30) none (some (.t 31))) [2,3,1],⟨0,q9 28 2 2⟩,h9 5 33 (.call 90 [.t 28,.t 32])
 [0,4,2,3,1],⟨6,⟨none,.store 2 (.t 4) (.t 33),none,[5,0,1,2,3,4]⟩⟩,h9 7 5 (.mv (k9 0)) [6,0,1,2,3,4,5]])<|.ret
abbrev xj:Nat:=82
theorem xF:ar prog 82 [1000000]=some (oF,[.c 4 true 2,.t 5],34):=by kernel_rfl
def gK:ay:=s9 [o9 2 (.fj 4 30)]<|.seq (s9 [m9 3 0,o9 4 (.kx false (.t 3))]<|u9 4 (s9 [o9 2 (.fj 4 30)]<|.ret)<|.skip)<|s9 [o9 5 (.lit true 4 30 []),m9 6 0,o9 7 (.app 4 32 30 (.t 5) (.t 6)),
 m9 2 7]<|.ret
abbrev gF:Nat:=83
theorem gM:ar prog 83 [2,5,1000000]=some (gK,[.t 2],8):=by kernel_rfl
def nh:ay:=s9 [o9 6 (.box 3 44 (.t 0)),o9 7 (.box 1 3 (.t 1)),o9 12 (.mv (k9 0)),a9 13 3 131 (.agg [z9,z9,z9]),o9 14 (.mv (k9 0))]<|.seq (s9 [q9 19 3 6,c9 20 92 [.t 19],o9 21 (.un .not (.t 20))]<|u9 21 (s9
 [o9 22 (.build [z9,z9,z9] []),o9 12 (.mv (k9 0)),t9 3 13 22,o9 14 (.mv (k9 50))]<|.ret)<|.skip)<|s9 [f9 23 2 6,l9 24 23,o9 25 (.Hd 131 [.t 7]),c9 26 130 [.t 24,.t 25],m9 15 26]<|.seq (s9 [m9 27 15,d9 28 .lss 27 0]<|
 u9 28 (s9 [o9 29 (.build [z9,z9,z9] []),o9 12 (.mv (k9 0)),t9 3 13 29,o9 14 (.mv (k9 9))]<|.ret)<|.skip)<|s9 [f9 30 2 6,l9 31 30,m9 32 15,x9 33 7 31 32,q9 34 7 33,a9 16 7 28 (.agg [z9,z9,z9,z9,z9,.nil,.bool false]),
 t9 7 16 34]<|.seq (s9 [f9 35 6 16,l9 36 35,m9 37 36,v9 38 5 37 false,g9 39 (.fa 3 (.t 16)) 37 false,g9 40 (.load false 1 (.t 39)) 37 false,g9 41 (.bin .gtr (.t 38) (.t 40)) 37 false,w9 42 37 true 41]<|u9 42 (s9 [o9 43 (.build
 [z9,z9,z9] []),o9 12 (.mv (k9 0)),t9 3 13 43,o9 14 (.mv (k9 44))]<|.ret)<|.skip)<|s9 [f9 45 0 6,l9 46 45,m9 47 2,c9 48 94 [.t 46,.t 47],m9 44 48,e9 49 44 0,e9 50 44 1,a9 17 3 131 (.agg [z9,z9,z9]),t9 3 17 49,m9 18
 50]<|.seq (s9 [m9 51 18,o9 52 (.un .not (.t 51))]<|u9 52 (s9 [o9 53 (.build [z9,z9,z9] []),o9 12 (.mv (k9 0)),t9 3 13 53,o9 14 (.mv (k9 11))]<|.ret)<|.skip)<|.seq (s9 [m9 54 3,f9 55 2 17,l9 56 55,m9 57 4,q9 58 7 16,c9
 59 132 [.t 56,.t 57,.t 58],b9 60 .neq 54 59]<|u9 60 (s9 [o9 61 (.build [z9,z9,z9] []),o9 12 (.mv (k9 0)),t9 3 13 61,o9 14 (.mv (k9 43))]<|.ret)<|.skip)<|.seq (.aC [⟨1,q9 63 3 17⟩,⟨0,m9 62 15⟩,h9 2 12 (.mv (.t 62))
 [0],⟨3,⟨none,.store 3 (.t 13) (.t 63),none,[1,2,0]⟩⟩,h9 4 14 (.mv (k9 0)) [3,0,1,2]])<|.ret
abbrev vD:Nat:=84
theorem wu:ar prog 84 [1000000]=some (nh,[.t 12,.c 13 true 3,.t 14],64):=by kernel_rfl
def nf:ay:=s9 [o9 1 (.box 3 44 (.t 0)),a9 2 3 44 (.agg [.nil,z9,.nil])]<|.seq (.aC [⟨3,f9 9 1 1⟩,h9 4 10 (.load false 1 (.t 9)) [3],⟨0,f9 6 0 1⟩,h9 1 7 (.load false 1 (.t 6)) [0],h9 2 8 (.call 80 [.t
 7]) [1,0],h9 5 11 (.build [.nil,z9,.nil] [(0,1,.t 8),(1,1,.t 10)]) [2,4,1,0,3],⟨6,a9 3 3 44 (.agg [.nil,z9,.nil])⟩,⟨7,⟨none,.store 3 (.t 3) (.t 11),none,[6,5,2,0,1,3,4]⟩⟩])<|.seq (s9 [f9 12 2 1,l9 13 12,n9 14
 13,o9 15 (.mv (k9 0))]<|.block 0<|.loop<|s9 [b9 16 .lss 15 14]<|.seq (u9 16 (.skip)<|.exit 0)<|.seq (.block 1<|s9 [x9 17 7 13 15,q9 18 7 17,a9 5 7 28 (.agg [z9,z9,z9,z9,z9,.nil,.bool false]),t9 7 5 18]<|.aC
 [⟨2,q9 21 7 5⟩,⟨0,f9 19 2 3⟩,h9 1 20 (.load false 1 (.t 19)) [0],h9 3 22 (.call 133 [.t 21]) [2],h9 4 23 (.lit true 7 28 [.t 22]) [3,2],h9 5 24 (.app 7 72 28 (.t 20) (.t 23)) [1,4,3,0,2],h9 6 25 (.fa 2 (.t 3)) [0,1,2,3,4,5],⟨7,
 ⟨none,.store 1 (.t 25) (.t 24),none,[6,5,0,1,2,3,4]⟩⟩])<|r9 [d9 26 .add 15 1,m9 15 26])<|s9 [q9 27 3 3,t9 3 2 27]<|.ret
abbrev vC:Nat:=85
theorem wo:ar prog 85 [23,1000000]=some (nf,[.c 2 true 3],28):=by kernel_rfl
def eC:ay:=s9 [o9 1 (.box 6 26 (.t 0)),o9 2 (.mv (.c (.bool false)))]<|s9 [f9 3 0 1,l9 4 3,d9 5 .geq 4 1,m9 6 5,g9 7 (.fa 0 (.t 1)) 6 true,g9 8 (.load false 1 (.t 7)) 6 true,g9 9 (.bin .leq (.t 8) (k9
 1073741824)) 6 true,p9 10 6 9 false,m9 2 10]<|.ret
abbrev jh:Nat:=86
theorem jr:ar prog 86 [1000000]=some (eC,[.t 2],11):=by kernel_rfl
def gl:ay:=s9 [o9 3 (.box 6 26 (.t 1)),o9 4 (.mv (k9 0))]<|.seq (s9 [f9 7 1 3,l9 8 7,d9 9 .lss 8 0,m9 10 9,g9 11 (.fa 1 (.t 3)) 10 false,g9 12 (.load false 1 (.t 11)) 10 false,v9 13 0 10 false,g9 14 (.len
 (.t 13)) 10 false,g9 15 (.bin .geq (.t 12) (.t 14)) 10 false,w9 16 10 true 15]<|u9 16 (s9 [o9 4 (.mv (k9 47))]<|.ret)<|.skip)<|.seq (s9 [f9 17 2 3,l9 18 17,d9 19 .lss 18 1,m9 20 19,g9 21 (.fa 2 (.t 3)) 20 false,g9 22 (.load
 false 1 (.t 21)) 20 false,g9 23 (.bin .gtr (.t 22) (k9 3)) 20 false,w9 24 20 true 23]<|u9 24 (s9 [o9 4 (.mv (k9 5))]<|.ret)<|.skip)<|s9 [m9 25 0,f9 26 1 3,l9 27 26,x9 28 4 25 27,q9 29 4 28,a9 5 4 88 (.agg [z9,.nil,.nil,
 .nil]),t9 4 5 29]<|s9 [f9 30 0 5,l9 31 30,f9 32 2 5,l9 33 32,n9 34 33,b9 35 .add 31 34,d9 36 .sub 35 1,m9 6 36]<|.seq (s9 [f9 37 2 3,l9 38 37,d9 39 .eql 38 1]<|u9 39 (r9 [m9 40 6,d9 41 .add 40 1,m9 6 41])<|.skip)<|
 .seq (.block 0<|s9 [f9 43 3 3,l9 44 43,f9 45 0 5,l9 46 45,b9 47 .lss 44 46,m9 48 47,g9 49 (.fa 3 (.t 3)) 48 false,g9 50 (.load false 1 (.t 49)) 48 false,v9 51 6 48 false,g9 52 (.bin .gtr (.t 50) (.t 51)) 48 false,w9 53 48 true
 52,m9 42 53]<|u9 42 (s9 [o9 4 (.mv (k9 6))]<|.ret)<|s9 [f9 55 4 3,f9 56 0 55,l9 57 56,d9 58 .lss 57 0,m9 59 58,g9 60 (.fa 4 (.t 3)) 59 false,g9 61 (.fa 1 (.t 60)) 59 false,g9 62 (.load false 1 (.t 61)) 59 false,g9 63 (.bin
 .gtr (.t 62) (k9 274877906944)) 59 false,w9 64 59 true 63,m9 54 64]<|u9 54 (s9 [o9 4 (.mv (k9 1))]<|.ret)<|s9 [f9 66 4 3,f9 67 0 66,l9 68 67,f9 69 4 3,f9 70 1 69,l9 71 70,b9 72 .gtr 68 71,m9 65 72]<|u9 65 (s9 [o9 4 (.mv
 (k9 48))]<|.ret)<|.skip)<|s9 [o9 4 (.mv (k9 0))]<|.ret
abbrev lC:Nat:=87
theorem lU:ar prog 87 [1000000]=some (gl,[.t 4],73):=by kernel_rfl
def eK:ay:=s9 [o9 4 (.box 6 26 (.t 1)),o9 5 (.box 1 145 (.t 2)),o9 6 (.mv (k9 0)),o9 7 (.mv (.c (.bool false)))]<|s9 [m9 8 0,l9 9 5,q9 10 6 4,o9 11 (.dw (.t 9) [.t 10]),o9 12 (.Hd 135 [.t 5]),c9
 13 134 [.t 8,.t 11,.t 12],e9 14 13 0,e9 15 13 1,m9 6 14,m9 7 15]<|.ret
abbrev mb:Nat:=88
theorem mm:ar prog 88 [1000000]=some (eK,[.t 6,.t 7],16):=by kernel_rfl
def lM:ay:=s9 [o9 1 (.box 6 26 (.t 0)),o9 2 (.mv (k9 0))]<|s9 [f9 3 0 1,l9 4 3,m9 2 4]<|.ret
abbrev dE:Nat:=89
theorem uF:ar prog 89 [1000000]=some (lM,[.t 2],5):=by kernel_rfl
def lL:ay:=s9 [o9 2 (.box 2 40 (.t 0)),a9 4 2 40 (.agg [.nil,.nil])]<|s9 [m9 8 1,c9 9 136 [.t 8],o9 10 (.build [.nil,.nil] [(1,1,.t 9)]),a9 5 2 40 (.agg [.nil,.nil]),t9 2 5 10]<|.seq (s9 [f9 11 0 2,l9
 12 11,n9 13 12,o9 14 (.mv (k9 0))]<|.block 0<|.loop<|s9 [b9 15 .lss 14 13]<|.seq (u9 15 (.skip)<|.exit 0)<|.seq (.block 1<|s9 [x9 16 4 12 14,q9 17 4 16,a9 7 4 88 (.agg [z9,.nil,.nil,.nil]),t9 4 7 17]<|.aC [⟨2,
 q9 20 4 7⟩,⟨0,f9 18 0 5⟩,h9 1 19 (.load false 1 (.t 18)) [0],h9 3 21 (.call 137 [.t 20]) [2],h9 4 22 (.lit false 4 88 [.t 21]) [3,2],h9 5 23 (.app 4 80 88 (.t 19) (.t 22)) [1,4,3,0,2],h9 6 24 (.fa 0 (.t 5)) [0,1,2,3,4,5],⟨7,
 ⟨none,.store 1 (.t 24) (.t 23),none,[6,5,0,1,2,3,4]⟩⟩])<|r9 [d9 25 .add 14 1,m9 14 25])<|s9 [q9 26 2 5,t9 2 4 26]<|.ret
abbrev tF:Nat:=90
theorem uE:ar prog 90 [1000000]=some (lL,[.c 4 true 2],27):=by kernel_rfl
def dI:ay:=s9 [o9 5 (.box 6 26 (.t 2)),o9 6 (.mv (.c (.nil)))]<|.seq (.aC [⟨3,q9 10 6 5⟩,h9 4 11 (.lit false 6 26 [.t 10]) [3],⟨2,m9 9 1⟩,⟨0,m9 7 0⟩,h9 1 8 (.call 136 [.t 7]) [0],h9 5 12
 (.call 138 [.t 8,.t 9,.t 11]) [1,2,4,0,3],h9 6 6 (.mv (.t 12)) [5,0,1,2,3,4]])<|.ret
abbrev jy:Nat:=91
theorem jT:ar prog 91 [1000000]=some (dI,[.t 6],13):=by kernel_rfl
def lQ:ay:=s9 [o9 1 (.box 3 44 (.t 0)),o9 2 (.mv (.c (.bool false)))]<|.seq (s9 [f9 6 0 1,l9 7 6,c9 8 139 [.t 7],o9 9 (.un .not (.t 8)),m9 10 9,g9 11 (.fa 1 (.t 1)) 10 false,g9 12 (.load false 1 (.t 11)) 10
 false,g9 13 (.bin .lss (.t 12) (k9 1)) 10 false,w9 14 10 true 13,m9 15 14,g9 16 (.fa 1 (.t 1)) 15 false,g9 17 (.load false 1 (.t 16)) 15 false,g9 18 (.bin .gtr (.t 17) (k9 1073741824)) 15 false,w9 19 15 true 18,m9 20 19,g9 21
 (.fa 2 (.t 1)) 20 false,g9 22 (.load false 1 (.t 21)) 20 false,g9 23 (.len (.t 22)) 20 false,g9 24 (.bin .gtr (.t 23) (k9 64)) 20 false,w9 25 20 true 24]<|u9 25 (s9 [o9 2 (.mv (.c (.bool false)))]<|.ret)<|.skip)<|s9 [o9 3 (.mv
 (k9 0))]<|.seq (s9 [f9 26 2 1,l9 27 26,n9 28 27,o9 29 (.mv (k9 0))]<|.block 0<|.loop<|s9 [b9 30 .lss 29 28]<|.seq (u9 30 (.skip)<|.exit 0)<|.seq (.block 1<|s9 [x9 31 7 27 29,q9 32 7 31,a9 5 7 28 (.agg [z9,z9,z9,z9,
 z9,.nil,.bool false]),t9 7 5 32]<|.seq (s9 [f9 33 0 5,l9 34 33,m9 35 3,b9 36 .leq 34 35,m9 37 36,g9 38 (.fa 0 (.t 5)) 37 false,g9 39 (.load false 1 (.t 38)) 37 false,g9 40 (.fa 1 (.t 1)) 37 false,g9 41 (.load false 1 (.t 40))
 37 false,g9 42 (.bin .geq (.t 39) (.t 41)) 37 false,w9 43 37 true 42,m9 44 43,g9 45 (.load true 7 (.t 5)) 44 false,g9 46 (.call 140 [.t 45]) 44 false,g9 47 (.un .not (.t 46)) 44 false,w9 48 44 true 47,m9 49 48,g9 50 (.fa 0 (.t
 1)) 49 false,g9 51 (.load false 1 (.t 50)) 49 false,g9 52 (.fa 5 (.t 5)) 49 false,g9 53 (.load false 1 (.t 52)) 49 false,g9 54 (.call 141 [.t 51,.t 53]) 49 false,g9 55 (.un .not (.t 54)) 49 false,w9 56 49 true 55]<|u9 56 (s9 [o9
 2 (.mv (.c (.bool false)))]<|.ret)<|.skip)<|r9 [f9 57 0 5,l9 58 57,m9 3 58])<|r9 [d9 59 .add 29 1,m9 29 59])<|s9 [o9 2 (.mv (.c (.bool true)))]<|.ret
abbrev tK:Nat:=92
theorem uJ:ar prog 92 [1000000]=some (lQ,[.t 2],60):=by kernel_rfl
def gg:ay:=s9 [o9 4 (.mv (.c (.bool false)))]<|s9 [m9 5 0,m9 6 1,c9 7 142 [.t 5,.t 6],d9 8 .geq 7 0,m9 4 8]<|.ret
abbrev nU:Nat:=93
theorem oi:ar prog 93 [1000000]=some (gg,[.t 4],9):=by kernel_rfl
def nj:ay:=s9 [a9 4 3 131 (.agg [z9,z9,z9]),o9 5 (.mv (.c (.bool false)))]<|s9 [m9 8 0,m9 9 1,o9 10 (.build [.nil,z9] [(0,1,.t 8),(1,1,.t 9)]),a9 6 2 195 (.agg [.nil,z9]),t9 2 6 10]<|s9 [m9 11 0,n9
 12 11,q9 13 2 6,o9 14 (.K0 144 [.t 13]),c9 15 143 [.t 12,.t 14],m9 7 15]<|.seq (s9 [m9 16 7,m9 17 0,n9 18 17,b9 19 .eql 16 18,m9 20 19,v9 21 0 20 false,v9 22 7 20 false,g9 23 (.bM 3 (.t 21) (.t 22)) 20 false,g9 24 (.fa 0
 (.t 23)) 20 false,g9 25 (.load false 1 (.t 24)) 20 false,v9 26 1 20 false,g9 27 (.bin .neq (.t 25) (.t 26)) 20 false,w9 28 20 true 27]<|u9 28 (s9 [o9 29 (.build [z9,z9,z9] []),t9 3 4 29,o9 5 (.mv (.c (.bool false)))]<|.ret)<|
 .skip)<|s9 [m9 30 0,m9 31 7,x9 32 3 30 31,q9 33 3 32,t9 3 4 33,o9 5 (.mv (.c (.bool true)))]<|.ret
abbrev vE:Nat:=94
theorem wv:ar prog 94 [1000000]=some (nj,[.c 4 true 3,.t 5],34):=by kernel_rfl
def qc:ay:=s9 [o9 6 (.mv (k9 0))]<|s9 [o9 7 (.mv (.c (.bool false)))]<|.seq (s9 [m9 8 0]<|.block 0<|s9 [d9 10 .eql 8 1,m9 9 10]<|u9 9 (r9 [m9 11 1,d9 12 .eql 11 0,m9 13 12,v9 14 2 13 true,g9 15 (.call 109
 [.t 14,k9 0,k9 1073741824]) 13 true,p9 16 13 15 false,m9 7 16])<|s9 [d9 18 .eql 8 2,m9 17 18]<|u9 17 (r9 [m9 19 1,c9 20 109 [.t 19,k9 0,k9 7],m9 21 20,v9 22 2 21 true,g9 23 (.bin .eql (.t 22) (k9 0)) 21 true,p9 24 21 23
 false,m9 7 24])<|s9 [d9 26 .eql 8 3,m9 25 26]<|u9 25 (r9 [m9 27 1,c9 28 109 [.t 27,k9 0,k9 5],m9 29 28,v9 30 2 29 true,g9 31 (.call 109 [.t 30,k9 0,k9 1]) 29 true,p9 32 29 31 false,m9 7 32])<|s9 [o9 6 (.mv (k9 5))]<|
 .ret)<|.seq (s9 [m9 33 7,o9 34 (.un .not (.t 33))]<|u9 34 (s9 [o9 6 (.mv (k9 1))]<|.ret)<|.skip)<|s9 [o9 6 (.mv (k9 0))]<|.ret
abbrev yR:Nat:=95
theorem zY:ar prog 95 [1000000]=some (qc,[.t 6],35):=by kernel_rfl
def dT:ay:=s9 [o9 4 (.mv (.c (.nil)))]<|s9 [m9 8 0,m9 9 1,c9 10 145 [.t 8,.t 9],m9 5 10]<|.seq (s9 [m9 11 5,o9 12 (.bin .eql (.t 11) (.c (.int .i64 (-1))))]<|u9 12 (s9 [m9 13 0,m9 4 13]<|.ret)
 <| .skip)<|.seq (s9 [m9 14 5,d9 15 .add 14 1,m9 6 15]<|.block 0<|.loop<|.seq (s9 [m9 16 6,m9 17 0,n9 18 17,b9 19 .lss 16 18]<|u9 19 (.skip)<|.exit 0)<|.seq (.block 1<|s9 [m9 22 0,m9 23 6,x9 24 4 22 23,q9 25 4 24,
 a9 7 4 30 (.agg [z9,z9,z9,z9]),t9 4 7 25]<|s9 [m9 26 1,q9 27 4 7,o9 28 (.dw (.t 26) [.t 27]),o9 29 (.un .not (.t 28))]<|u9 29 (s9 [m9 30 0,m9 31 5,q9 32 4 7,x9 33 4 30 31,t9 4 33 32]<|r9 [m9 34 5,d9 35 .add 34 1,m9 5
 35])<|.skip)<|r9 [m9 20 6,d9 21 .add 20 1,m9 6 21])<|s9 [m9 36 0,m9 37 5,o9 38 (.qH 4 (.t 36) (some (.t 37)) none),⟨none,.JV 4 (.agg [z9,z9,z9,z9]) (.t 38),none,[]⟩]<|s9 [m9 39 0,m9 40 5,o9 41 (.qH 4 (.t 39) none
 (some (.t 40))),m9 4 41]<|.ret
abbrev km:Nat:=96
theorem kN:ar prog 96 [1000000]=some (dT,[.t 4],42):=by kernel_rfl
def kI:ay:=s9 [o9 2 (.box 4 30 (.t 0)),o9 3 (.mv (.c (.bool false)))]<|s9 [f9 4 0 2,l9 5 4,l9 6 1,b9 7 .leq 5 6,m9 3 7]<|.ret
abbrev kr:Nat:=97
theorem sH:ar prog 97 [1000000]=some (kI,[.t 3],8):=by kernel_rfl
def ui:ay:=s9 [o9 2 (.box 21 32 (.t 0)),o9 3 (.box 21 32 (.t 1)),o9 4 (.mv (.c (.bool false)))]<|.seq (.aC [⟨2,f9 10 7 3⟩,h9 3 11 (.load true 7 (.t 10)) [2],⟨0,f9 8 7 2⟩,h9 1 9 (.load true 7 (.t 8)) [0],⟨5,
 a9 6 7 28 (.agg [z9,z9,z9,z9,z9,.nil,.bool false])⟩,⟨4,a9 5 7 28 (.agg [z9,z9,z9,z9,z9,.nil,.bool false])⟩,⟨6,⟨none,.store 7 (.t 5) (.t 9),none,[4,1,0,5]⟩⟩,⟨7,⟨none,.store 7 (.t 6) (.t 11),none,[5,3,6,0,1,
 2,4]⟩⟩])<|.seq (s9 [f9 12 0 5,l9 13 12,f9 14 0 6,l9 15 14,b9 16 .neq 13 15,m9 17 16,g9 18 (.fa 1 (.t 5)) 17 false,g9 19 (.load false 1 (.t 18)) 17 false,g9 20 (.fa 1 (.t 6)) 17 false,g9 21 (.load false 1 (.t 20)) 17 false,g9
 22 (.bin .neq (.t 19) (.t 21)) 17 false,w9 23 17 true 22,m9 24 23,g9 25 (.fa 2 (.t 5)) 24 false,g9 26 (.load false 1 (.t 25)) 24 false,g9 27 (.fa 2 (.t 6)) 24 false,g9 28 (.load false 1 (.t 27)) 24 false,g9 29 (.bin .neq (.t 26)
 (.t 28)) 24 false,w9 30 24 true 29,m9 31 30,g9 32 (.fa 3 (.t 5)) 31 false,g9 33 (.load false 1 (.t 32)) 31 false,g9 34 (.fa 3 (.t 6)) 31 false,g9 35 (.load false 1 (.t 34)) 31 false,g9 36 (.bin .neq (.t 33) (.t 35)) 31 false,w9 37
 31 true 36,m9 38 37,g9 39 (.fa 4 (.t 5)) 38 false,g9 40 (.load false 1 (.t 39)) 38 false,g9 41 (.fa 4 (.t 6)) 38 false,g9 42 (.load false 1 (.t 41)) 38 false,g9 43 (.bin .neq (.t 40) (.t 42)) 38 false,w9 44 38 true 43,m9 45 44,g9
 46 (.fa 6 (.t 5)) 45 false,g9 47 (.load false 1 (.t 46)) 45 false,g9 48 (.fa 6 (.t 6)) 45 false,g9 49 (.load false 1 (.t 48)) 45 false,g9 50 (.HG true (.t 47) (.t 49)) 45 false,w9 51 45 true 50,m9 52 51,g9 53 (.fa 5 (.t 5)) 52
 false,g9 54 (.load false 1 (.t 53)) 52 false,g9 55 (.len (.t 54)) 52 false,g9 56 (.fa 5 (.t 6)) 52 false,g9 57 (.load false 1 (.t 56)) 52 false,g9 58 (.len (.t 57)) 52 false,g9 59 (.bin .neq (.t 55) (.t 58)) 52 false,w9 60 52 true
 59]<|u9 60 (s9 [o9 4 (.mv (.c (.bool false)))]<|.ret)<|.skip)<|.seq (s9 [f9 61 5 5,l9 62 61,n9 63 62,o9 64 (.mv (k9 0))]<|.block 0<|.loop<|s9 [b9 65 .lss 64 63]<|.seq (u9 65 (.skip)<|.exit 0)<|.seq (.block 1<|s9
 [m9 66 64,m9 7 66]<|.seq (.aC [⟨7,m9 74 7⟩,⟨5,f9 72 5 6⟩,h9 6 73 (.load false 1 (.t 72)) [5],h9 8 75 (.bM 1 (.t 73) (.t 74)) [6,7,5],h9 9 76 (.load false 1 (.t 75)) [8,6,7,5],⟨2,m9 69 7⟩,⟨0,f9 67 5 5⟩,h9 1 68 (.load
 false 1 (.t 67)) [0],h9 3 70 (.bM 1 (.t 68) (.t 69)) [1,2,0],h9 4 71 (.load false 1 (.t 70)) [3,1,2,0],h9 10 77 (.bin .neq (.t 71) (.t 76)) [4,9,3,1,2,0,8,6,7,5]])<|u9 77 (s9 [o9 4 (.mv (.c (.bool false)))]<|.ret)<|.skip)<|r9
 [d9 78 .add 64 1,m9 64 78])<|s9 [f9 79 0 2,l9 80 79,f9 81 0 3,l9 82 81,b9 83 .eql 80 82,m9 84 83,g9 85 (.fa 1 (.t 2)) 84 true,g9 86 (.load true 6 (.t 85)) 84 true,g9 87 (.fa 1 (.t 3)) 84 true,g9 88 (.load true 6 (.t 87)) 84
 true,g9 89 (.eqs false [0,0,0,0,0,0] (.t 86) (.t 88)) 84 true,p9 90 84 89 false,m9 91 90,g9 92 (.fa 14 (.t 2)) 91 true,g9 93 (.load false 1 (.t 92)) 91 true,g9 94 (.fa 14 (.t 3)) 91 true,g9 95 (.load false 1 (.t 94)) 91 true,
 g9 96 (.bin .eql (.t 93) (.t 95)) 91 true,p9 97 91 96 false,m9 98 97,g9 99 (.fa 15 (.t 2)) 98 true,g9 100 (.load false 1 (.t 99)) 98 true,g9 101 (.fa 15 (.t 3)) 98 true,g9 102 (.load false 1 (.t 101)) 98 true,g9 103 (.bin .eql (.t
 100) (.t 102)) 98 true,p9 104 98 103 false,m9 105 104,g9 106 (.fa 16 (.t 2)) 105 true,g9 107 (.load false 1 (.t 106)) 105 true,g9 108 (.fa 16 (.t 3)) 105 true,g9 109 (.load false 1 (.t 108)) 105 true,g9 110 (.bin .eql (.t 107) (.t
 109)) 105 true,p9 111 105 110 false,m9 112 111,g9 113 (.fa 17 (.t 2)) 112 true,g9 114 (.load true 4 (.t 113)) 112 true,g9 115 (.fa 17 (.t 3)) 112 true,g9 116 (.load true 4 (.t 115)) 112 true,g9 117 (.eqs false [0,0,0,0] (.t 114)
 (.t 116)) 112 true,p9 118 112 117 false,m9 4 118]<|.ret
abbrev CI:Nat:=98
theorem Dl:ar prog 98 [1000000]=some (ui,[.t 4],119):=by kernel_rfl
def uh:ay:=s9 [a9 4 21 32 (.agg [z9,z9,z9,z9,z9,z9,z9,z9,z9,z9,z9,z9,.nil,.bool false,z9,z9,z9,z9,z9,z9,z9])]<|s9 [m9 6 0,o9 7 (.build [z9,z9,z9,z9,z9,z9,z9,z9,z9,z9,z9,z9,.nil,.bool
 false,z9,z9,z9,z9,z9,z9,z9] [(0,1,.t 6)]),a9 5 21 32 (.agg [z9,z9,z9,z9,z9,z9,z9,z9,z9,z9,z9,z9,.nil,.bool false,z9,z9,z9,z9,z9,z9,z9]),t9 21 5 7]<|.seq (s9 [m9 8 0]<|.block 0<|s9 [d9 10 .eql 8 1,m9 9
 10]<|u9 9 (.aC [⟨15,m9 26 1⟩,h9 16 27 (.bM 1 (.t 26) (k9 5)) [15],h9 17 28 (.load false 1 (.t 27)) [16,15],⟨12,m9 23 1⟩,h9 13 24 (.bM 1 (.t 23) (k9 4)) [12],h9 14 25 (.load false 1 (.t 24)) [13,12],h9 18 29 (.build [z9,
 z9] [(0,1,.t 25),(1,1,.t 28)]) [14,17,13,12,16,15],⟨9,m9 20 1⟩,h9 10 21 (.bM 1 (.t 20) (k9 3)) [9],h9 11 22 (.load false 1 (.t 21)) [10,9],⟨6,m9 17 1⟩,h9 7 18 (.bM 1 (.t 17) (k9 2)) [6],h9 8 19 (.load false 1 (.t 18))
 [7,6],⟨3,m9 14 1⟩,h9 4 15 (.bM 1 (.t 14) (k9 1)) [3],h9 5 16 (.load false 1 (.t 15)) [4,3],⟨0,m9 11 1⟩,h9 1 12 (.bM 1 (.t 11) (k9 0)) [0],h9 2 13 (.load false 1 (.t 12)) [1,0],h9 19 30 (.build [z9,z9,z9,z9,z9,z9] [(0,1,
 .t 13),(1,1,.t 16),(2,1,.t 19),(3,1,.t 22),(4,2,.t 29)]) [2,5,8,11,18,1,0,4,3,7,6,10,9,14,17,13,12,16,15],h9 20 31 (.fa 1 (.t 5)) [0,1,2,3,4,5,6,7,8,9,10,11,12,13,14,15,16,17,18,19],⟨21,⟨none,.store 6 (.t 31) (.t 30),
 none,[20,19,0,1,2,3,4,5,6,7,8,9,10,11,12,13,14,15,16,17,18]⟩⟩])<|s9 [d9 33 .eql 8 2,m9 32 33]<|u9 32 (.aC [⟨9,m9 43 1⟩,h9 10 44 (.bM 1 (.t 43) (k9 3)) [9],h9 11 45 (.load false 1 (.t 44)) [10,9],⟨6,m9
 40 1⟩,h9 7 41 (.bM 1 (.t 40) (k9 2)) [6],h9 8 42 (.load false 1 (.t 41)) [7,6],⟨3,m9 37 1⟩,h9 4 38 (.bM 1 (.t 37) (k9 1)) [3],h9 5 39 (.load false 1 (.t 38)) [4,3],⟨0,m9 34 1⟩,h9 1 35 (.bM 1 (.t 34) (k9 0)) [0],h9 2 36 (.load
 false 1 (.t 35)) [1,0],h9 12 46 (.fa 7 (.t 5)) [0,1,2],h9 13 47 (.fa 1 (.t 46)) [12,0,1,2],⟨14,⟨none,.store 1 (.t 47) (.t 36),none,[13,2,0,1,12]⟩⟩,h9 15 48 (.fa 7 (.t 5)) [0,1,2,3,4,5,12,13,14],h9 16 49 (.fa 2 (.t 48))
 [15,0,1,2,3,4,5,12,13,14],⟨17,⟨none,.store 1 (.t 49) (.t 39),none,[16,5,14,0,1,2,3,4,12,13,15]⟩⟩,h9 18 50 (.fa 7 (.t 5)) [0,1,2,3,4,5,6,7,8,12,13,14,15,16,17],h9 19 51 (.fa 3 (.t 50))
 [18,0,1,2,3,4,5,6,7,8,12,13,14,15,16,17],⟨20,⟨none,.store 1 (.t 51) (.t 42),none,[19,8,17,0,1,2,3,4,5,6,7,12,13,14,15,16,18]⟩⟩,h9 21 52 (.fa 7 (.t 5)) [0,1,2,3,4,5,6,7,8,9,10,11,12,13,14,15,16,17,18,19,20],h9 22 53
 (.fa 4 (.t 52)) [21,0,1,2,3,4,5,6,7,8,9,10,11,12,13,14,15,16,17,18,19,20],⟨23,⟨none,.store 1 (.t 53) (.t 45),none,[22,11,20,0,1,2,3,4,5,6,7,8,9,10,12,13,14,15,16,17,18,19,21]⟩⟩])<|.seq (s9 [d9 55 .eql 8 3,m9
 54 55]<|u9 54 (.skip)<|r9 [d9 56 .eql 8 4,m9 54 56])<|u9 54 (.aC [⟨9,m9 66 1⟩,h9 10 67 (.bM 1 (.t 66) (k9 3)) [9],h9 11 68 (.load false 1 (.t 67)) [10,9],⟨6,m9 63 1⟩,h9 7 64 (.bM 1 (.t 63) (k9 2)) [6],h9 8 65 (.load
 false 1 (.t 64)) [7,6],⟨3,m9 60 1⟩,h9 4 61 (.bM 1 (.t 60) (k9 1)) [3],h9 5 62 (.load false 1 (.t 61)) [4,3],⟨0,m9 57 1⟩,h9 1 58 (.bM 1 (.t 57) (k9 0)) [0],h9 2 59 (.load false 1 (.t 58)) [1,0],h9 12 69 (.fa 7 (.t 5)) [0,1,2],
 h9 13 70 (.fa 0 (.t 69)) [12,0,1,2],⟨14,⟨none,.store 1 (.t 70) (.t 59),none,[13,2,0,1,12]⟩⟩,h9 15 71 (.fa 14 (.t 5)) [0,1,2,3,4,5,12,13,14],⟨16,⟨none,.store 1 (.t 71) (.t 62),none,[15,5,14,0,1,2,3,4,12,13]⟩⟩,h9 17
 72 (.fa 15 (.t 5)) [0,1,2,3,4,5,6,7,8,12,13,14,15,16],⟨18,⟨none,.store 1 (.t 72) (.t 65),none,[17,8,16,0,1,2,3,4,5,6,7,12,13,14,15]⟩⟩,h9 19 73 (.fa 16 (.t 5)) [0,1,2,3,4,5,6,7,8,9,10,11,12,13,14,15,16,17,18],⟨20,
 ⟨none,.store 1 (.t 73) (.t 68),none,[19,11,18,0,1,2,3,4,5,6,7,8,9,10,12,13,14,15,16,17]⟩⟩])<|s9 [d9 75 .eql 8 5,m9 74 75]<|u9 74 (.aC [⟨6,m9 82 1⟩,h9 7 83 (.bM 1 (.t 82) (k9 2)) [6],h9 8 84 (.load false
 1 (.t 83)) [7,6],⟨3,m9 79 1⟩,h9 4 80 (.bM 1 (.t 79) (k9 1)) [3],h9 5 81 (.load false 1 (.t 80)) [4,3],⟨0,m9 76 1⟩,h9 1 77 (.bM 1 (.t 76) (k9 0)) [0],h9 2 78 (.load false 1 (.t 77)) [1,0],h9 9 85 (.fa 17 (.t 5)) [0,1,2],h9 10
 86 (.fa 1 (.t 85)) [9,0,1,2],⟨11,⟨none,.store 1 (.t 86) (.t 78),none,[10,2,0,1,9]⟩⟩,h9 12 87 (.fa 17 (.t 5)) [0,1,2,3,4,5,9,10,11],h9 13 88 (.fa 2 (.t 87)) [12,0,1,2,3,4,5,9,10,11],⟨14,⟨none,.store 1 (.t 88) (.t 81),none,
 [13,5,11,0,1,2,3,4,9,10,12]⟩⟩,h9 15 89 (.fa 17 (.t 5)) [0,1,2,3,4,5,6,7,8,9,10,11,12,13,14],h9 16 90 (.fa 3 (.t 89)) [15,0,1,2,3,4,5,6,7,8,9,10,11,12,13,14],⟨17,⟨none,.store 1 (.t 90) (.t 84),none,[16,8,14,0,1,2,3,
 4,5,6,7,9,10,11,12,13,15]⟩⟩])<|s9 [d9 92 .eql 8 6,m9 91 92]<|u9 91 (r9 [m9 93 1,o9 94 (.bM 1 (.t 93) (k9 0)),l9 95 94,f9 96 17 5,f9 97 0 96,t9 1 97 95])<|.skip)<|s9 [q9 98 21 5,t9 21 4 98]<|.ret
abbrev CH:Nat:=99
theorem Di:ar prog 99 [1000000]=some (uh,[.c 4 true 21],99):=by kernel_rfl
def uj:ay:=s9 [o9 3 (.box 6 26 (.t 1)),o9 4 (.mv (k9 0))]<|.seq (s9 [f9 7 0 3,l9 8 7,d9 9 .lss 8 1,m9 10 9,g9 11 (.fa 0 (.t 3)) 10 false,g9 12 (.load false 1 (.t 11)) 10 false,g9 13 (.bin .gtr (.t 12) (k9
 1073741824)) 10 false,w9 14 10 true 13]<|u9 14 (s9 [o9 4 (.mv (k9 3))]<|.ret)<|.skip)<|.seq (s9 [f9 15 1 3,l9 16 15,d9 17 .lss 16 0,m9 18 17,g9 19 (.fa 1 (.t 3)) 18 false,g9 20 (.load false 1 (.t 19)) 18 false,v9 21 0 18
 false,g9 22 (.len (.t 21)) 18 false,g9 23 (.bin .geq (.t 20) (.t 22)) 18 false,w9 24 18 true 23]<|u9 24 (s9 [o9 4 (.mv (k9 47))]<|.ret)<|.skip)<|s9 [m9 25 0,f9 26 1 3,l9 27 26,x9 28 4 25 27,q9 29 4 28,a9 5 4 88 (.agg [z9,
 .nil,.nil,.nil]),t9 4 5 29]<|s9 [f9 30 2 5,l9 31 30,n9 32 31,m9 6 32]<|.seq (s9 [f9 33 2 3,l9 34 33]<|.block 0<|s9 [d9 36 .eql 34 1,m9 35 36]<|u9 35 (r9 [m9 37 6,d9 38 .add 37 1,m9 6 38])<|.seq (s9 [d9 40 .eql 34 2,
 m9 39 40]<|u9 39 (.skip)<|r9 [d9 41 .eql 34 3,m9 39 41])<|u9 39 (.skip)<|s9 [o9 4 (.mv (k9 5))]<|.ret)<|.seq (s9 [f9 42 3 3,l9 43 42,f9 44 0 5,l9 45 44,b9 46 .lss 43 45,m9 47 46,g9 48 (.fa 3 (.t 3)) 47 false,g9 49
 (.load false 1 (.t 48)) 47 false,g9 50 (.fa 0 (.t 5)) 47 false,g9 51 (.load false 1 (.t 50)) 47 false,v9 52 6 47 false,g9 53 (.bin .add (.t 51) (.t 52)) 47 false,g9 54 (.bin .geq (.t 49) (.t 53)) 47 false,w9 55 47 true 54]<|u9 55
 (s9 [o9 4 (.mv (k9 6))]<|.ret)<|.skip)<|.seq (s9 [f9 56 4 3,f9 57 0 56,l9 58 57,d9 59 .lss 58 0,m9 60 59,g9 61 (.fa 4 (.t 3)) 60 false,g9 62 (.fa 0 (.t 61)) 60 false,g9 63 (.load false 1 (.t 62)) 60 false,g9 64 (.bin .gtr
 (.t 63) (k9 274877906944)) 60 false,w9 65 60 true 64,m9 66 65,g9 67 (.fa 4 (.t 3)) 66 false,g9 68 (.fa 1 (.t 67)) 66 false,g9 69 (.load false 1 (.t 68)) 66 false,g9 70 (.bin .lss (.t 69) (k9 0)) 66 false,w9 71 66 true 70,m9 72 71,
 g9 73 (.fa 4 (.t 3)) 72 false,g9 74 (.fa 1 (.t 73)) 72 false,g9 75 (.load false 1 (.t 74)) 72 false,g9 76 (.bin .gtr (.t 75) (k9 274877906944)) 72 false,w9 77 72 true 76]<|u9 77 (s9 [o9 4 (.mv (k9 1))]<|.ret)<|.skip)<|.seq (s9
 [f9 78 4 3,f9 79 0 78,l9 80 79,f9 81 4 3,f9 82 1 81,l9 83 82,b9 84 .gtr 80 83]<|u9 84 (s9 [o9 4 (.mv (k9 48))]<|.ret)<|.skip)<|s9 [o9 4 (.mv (k9 0))]<|.ret
abbrev CJ:Nat:=100
theorem Dm:ar prog 100 [1000000]=some (uj,[.t 4],85):=by kernel_rfl
def zR:ay:=s9 [o9 6 (.mv (.c (.bool false)))]<|s9 [m9 7 0,m9 8 1,b9 9 .geq 7 8,m9 10 9,v9 11 0 10 true,v9 12 2 10 true,g9 13 (.bin .leq (.t 11) (.t 12)) 10 true,p9 14 10 13 false,m9 6 14]<|.ret
abbrev FE:Nat:=101
theorem F3:ar prog 101 [1000000]=some (zR,[.t 6],15):=by kernel_rfl
def wR:ay:=s9 [o9 6 (.box 3 44 (.t 0)),o9 12 (.mv (k9 0)),a9 13 3 131 (.agg [z9,z9,z9]),o9 14 (.mv (k9 0))]<|.seq (s9 [q9 19 3 6,c9 20 60 [.t 19],d9 21 .neq 20 0]<|u9 21 (s9 [o9 22 (.build [z9,z9,z9] []),o9 12
 (.mv (k9 0)),t9 3 13 22,o9 14 (.mv (k9 50))]<|.ret)<|.skip)<|.seq (s9 [f9 23 2 6,l9 24 23,n9 25 24,o9 26 (.mv (k9 0))]<|.block 0<|.loop<|s9 [b9 27 .lss 26 25]<|.seq (u9 27 (.skip)<|.exit 0)<|.seq (.block 1<|s9 [m9
 28 26,x9 29 7 24 26,q9 30 7 29,a9 16 7 28 (.agg [z9,z9,z9,z9,z9,.nil,.bool false]),m9 15 28,t9 7 16 30]<|.seq (s9 [f9 31 0 16,l9 32 31,m9 33 1,b9 34 .neq 32 33]<|u9 34 (.exit 1)<|.skip)<|.seq (s9 [f9 35 6 16,l9 36
 35,m9 37 36,v9 38 4 37 false,g9 39 (.fa 3 (.t 16)) 37 false,g9 40 (.load false 1 (.t 39)) 37 false,g9 41 (.bin .gtr (.t 38) (.t 40)) 37 false,w9 42 37 true 41]<|u9 42 (s9 [o9 43 (.build [z9,z9,z9] []),o9 12 (.mv (k9 0)),t9 3
 13 43,o9 14 (.mv (k9 44))]<|.ret)<|.skip)<|s9 [q9 45 3 6,m9 46 2,c9 47 103 [.t 45,.t 46],m9 44 47,e9 48 44 0,e9 49 44 1,a9 17 3 131 (.agg [z9,z9,z9]),t9 3 17 48,m9 18 49]<|.seq (s9 [m9 50 18,o9 51 (.un .not (.t 50))]
 <| u9 51 (s9 [o9 52 (.build [z9,z9,z9] []),o9 12 (.mv (k9 0)),t9 3 13 52,o9 14 (.mv (k9 11))]<|.ret)<|.skip)<|.seq (s9 [m9 53 3,f9 54 2 17,l9 55 54,m9 56 5,q9 57 7 16,c9 58 76 [.t 55,.t 56,.t 57],b9 59 .neq 53 58]<|u9
 59 (s9 [o9 60 (.build [z9,z9,z9] []),o9 12 (.mv (k9 0)),t9 3 13 60,o9 14 (.mv (k9 43))]<|.ret)<|.skip)<|.seq (.aC [⟨1,q9 62 3 17⟩,⟨0,m9 61 15⟩,h9 2 12 (.mv (.t 61)) [0],⟨3,⟨none,.store 3 (.t 13) (.t 62),none,[1,
 2,0]⟩⟩,h9 4 14 (.mv (k9 0)) [3,0,1,2]])<|.ret)<|r9 [d9 63 .add 26 1,m9 26 63])<|s9 [o9 64 (.build [z9,z9,z9] []),o9 12 (.mv (k9 0)),t9 3 13 64,o9 14 (.mv (k9 9))]<|.ret
abbrev Ec:Nat:=102
theorem ET:ar prog 102 [1000000]=some (wR,[.t 12,.c 13 true 3,.t 14],65):=by kernel_rfl
def qa:ay:=s9 [o9 2 (.box 3 44 (.t 0)),a9 4 3 131 (.agg [z9,z9,z9]),o9 5 (.mv (.c (.bool false)))]<|.seq (s9 [f9 8 0 2,l9 9 8,n9 10 9,o9 11 (.mv (k9 0))]<|.block 0<|.loop<|s9 [b9 12 .lss 11 10]<|.seq (u9
 12 (.skip)<|.exit 0)<|.seq (.block 1<|s9 [x9 13 3 9 11,q9 14 3 13,a9 7 3 131 (.agg [z9,z9,z9]),t9 3 7 14]<|s9 [f9 15 0 7,l9 16 15,m9 17 1,b9 18 .eql 16 17]<|u9 18 (s9 [q9 19 3 7,t9 3 4 19,o9 5 (.mv (.c (.bool true)))]
 <| .ret)<|.skip)<|r9 [d9 20 .add 11 1,m9 11 20])<|s9 [o9 21 (.build [z9,z9,z9] []),t9 3 4 21,o9 5 (.mv (.c (.bool false)))]<|.ret
abbrev yP:Nat:=103
theorem zW:ar prog 103 [1000000]=some (qa,[.c 4 true 3,.t 5],22):=by kernel_rfl
def uv:ay:=s9 [o9 6 (.mv (k9 0))]<|.seq (s9 [m9 7 0]<|.block 0<|s9 [d9 9 .eql 7 1,m9 8 9]<|u9 8 (s9 [m9 10 1,d9 11 .neq 10 0,m9 12 11,v9 13 2 12 false,g9 14 (.call 113 [.t 13,k9 0,k9 1073741824]) 12 false,
 g9 15 (.un .not (.t 14)) 12 false,w9 16 12 true 15]<|u9 16 (s9 [o9 6 (.mv (k9 1))]<|.ret)<|.skip)<|s9 [d9 18 .eql 7 2,m9 17 18]<|u9 17 (s9 [m9 19 1,c9 20 113 [.t 19,k9 0,k9 7],o9 21 (.un .not (.t 20)),m9 22 21,v9 23 2 22
 false,g9 24 (.bin .neq (.t 23) (k9 0)) 22 false,w9 25 22 true 24]<|u9 25 (s9 [o9 6 (.mv (k9 1))]<|.ret)<|.skip)<|s9 [d9 27 .eql 7 3,m9 26 27]<|u9 26 (s9 [m9 28 1,c9 29 113 [.t 28,k9 0,k9 5],o9 30 (.un .not (.t 29)),m9 31
 30,v9 32 2 31 false,g9 33 (.call 113 [.t 32,k9 0,k9 1]) 31 false,g9 34 (.un .not (.t 33)) 31 false,w9 35 31 true 34]<|u9 35 (s9 [o9 6 (.mv (k9 1))]<|.ret)<|.skip)<|s9 [o9 6 (.mv (k9 5))]<|.ret)<|s9 [o9 6 (.mv (k9 0))]<|
 .ret
abbrev CO:Nat:=104
theorem Ds:ar prog 104 [1000000]=some (uv,[.t 6],36):=by kernel_rfl
def lK:ay:=s9 [o9 2 (.mv (k9 0))]<|.seq (s9 [m9 6 0,n9 7 6,d9 8 .gtr 7 16]<|u9 8 (s9 [o9 2 (.mv (k9 10))]<|.ret)<|.skip)<|.seq (s9 [m9 9 0,n9 10 9,o9 11 (.mv (k9 0))]<|.block 0<|.loop<|s9 [b9 12
 .lss 11 10]<|.seq (u9 12 (.skip)<|.exit 0)<|.seq (.block 1<|s9 [x9 13 4 9 11,q9 14 4 13,a9 4 4 88 (.agg [z9,.nil,.nil,.nil]),t9 4 4 14]<|s9 [q9 15 4 4,c9 16 147 [.t 15],m9 5 16]<|s9 [m9 17 5,d9 18 .neq 17 0]<|u9 18
 (s9 [m9 19 5,m9 2 19]<|.ret)<|.skip)<|r9 [d9 20 .add 11 1,m9 11 20])<|s9 [o9 2 (.mv (k9 0))]<|.ret
abbrev tE:Nat:=108
theorem uD:ar prog 108 [1000000]=some (lK,[.t 2],21):=by kernel_rfl
def oO:ay:=s9 [o9 6 (.mv (.c (.bool false)))]<|s9 [m9 7 0,m9 8 1,b9 9 .geq 7 8,m9 10 9,v9 11 0 10 true,v9 12 2 10 true,g9 13 (.bin .leq (.t 11) (.t 12)) 10 true,p9 14 10 13 false,m9 6 14]<|.ret
abbrev xr:Nat:=109
theorem xO:ar prog 109 [1000000]=some (oO,[.t 6],15):=by kernel_rfl
def oP:ay:=s9 [o9 1 (.box 4 30 (.t 0)),o9 2 (.mv (.c (.bool false)))]<|s9 [f9 3 0 1,l9 4 3,c9 5 109 [.t 4,k9 1,k9 1073741824],m9 6 5,g9 7 (.fa 1 (.t 1)) 6 true,g9 8 (.load false 1 (.t 7)) 6 true,g9 9 (.fa 2
 (.t 1)) 6 true,g9 10 (.load false 1 (.t 9)) 6 true,g9 11 (.fa 3 (.t 1)) 6 true,g9 12 (.load false 1 (.t 11)) 6 true,g9 13 (.call 95 [.t 8,.t 10,.t 12]) 6 true,g9 14 (.bin .eql (.t 13) (k9 0)) 6 true,p9 15 6 14 false,m9 2 15]<|
 .ret
abbrev xt:Nat:=110
theorem xP:ar prog 110 [1000000]=some (oP,[.t 2],16):=by kernel_rfl
def rI:ay:=s9 [o9 1 (.box 4 88 (.t 0)),o9 2 (.mv (k9 0))]<|.seq (s9 [q9 8 4 1,c9 9 148 [.t 8],m9 3 9]<|s9 [m9 10 3,d9 11 .neq 10 0]<|u9 11 (s9 [m9 12 3,m9 2 12]<|.ret)<|.skip)<|.seq (s9 [f9 13 1 1,l9 14
 13,f9 15 2 1,l9 16 15,f9 17 3 1,l9 18 17,o9 19 (.lit false 1 86 [.t 14,.t 16,.t 18]),n9 20 19,o9 21 (.mv (k9 0))]<|.block 0<|.loop<|s9 [b9 22 .lss 21 20]<|.seq (u9 22 (.skip)<|.exit 0)<|.seq (.block 1<|s9 [x9 23 1
 19 21,l9 24 23,m9 5 24]<|s9 [m9 25 5,n9 26 25,o9 27 (.mv (k9 0))]<|.block 2<|.loop<|s9 [b9 28 .lss 27 26]<|.seq (u9 28 (.skip)<|.exit 2)<|.seq (.block 3<|s9 [x9 29 2 25 27,q9 30 2 29,a9 7 2 24 (.agg [z9,z9]),t9 2 7
 30]<|.seq (s9 [f9 31 0 7,l9 32 31,d9 33 .lss 32 0,m9 34 33,g9 35 (.fa 1 (.t 7)) 34 false,g9 36 (.load false 1 (.t 35)) 34 false,g9 37 (.bin .gtr (.t 36) (k9 274877906944)) 34 false,w9 38 34 true 37]<|u9 38 (s9 [o9 2 (.mv (k9
 1))]<|.ret)<|.skip)<|s9 [f9 39 0 7,l9 40 39,f9 41 1 7,l9 42 41,b9 43 .gtr 40 42]<|u9 43 (s9 [o9 2 (.mv (k9 48))]<|.ret)<|.skip)<|r9 [d9 44 .add 27 1,m9 27 44])<|r9 [d9 45 .add 21 1,m9 21 45])<|s9 [o9 2 (.mv (k9
 0))]<|.ret
abbrev AG:Nat:=111
theorem A4:ar prog 111 [1000000]=some (rI,[.t 2],46):=by kernel_rfl
def rN:ay:=s9 [o9 2 (.box 3 44 (.t 0)),o9 3 (.box 7 28 (.t 1)),o9 4 (.mv (.c (.bool false)))]<|.seq (s9 [f9 10 1 3,l9 11 10,c9 12 101 [.t 11,k9 0,k9 5],o9 13 (.un .not (.t 12)),m9 14 13,g9 15 (.fa 2 (.t 3)) 14
 false,g9 16 (.load false 1 (.t 15)) 14 false,g9 17 (.bin .lss (.t 16) (k9 0)) 14 false,w9 18 14 true 17,m9 19 18,g9 20 (.fa 2 (.t 3)) 19 false,g9 21 (.load false 1 (.t 20)) 19 false,g9 22 (.fa 3 (.t 3)) 19 false,g9 23 (.load false
 1 (.t 22)) 19 false,g9 24 (.bin .gtr (.t 21) (.t 23)) 19 false,w9 25 19 true 24,m9 26 25,g9 27 (.fa 3 (.t 3)) 26 false,g9 28 (.load false 1 (.t 27)) 26 false,g9 29 (.bin .gtr (.t 28) (k9 16777216)) 26 false,w9 30 26 true 29,m9 31
 30,g9 32 (.fa 4 (.t 3)) 31 false,g9 33 (.load false 1 (.t 32)) 31 false,g9 34 (.call 101 [.t 33,k9 0,k9 1073741824]) 31 false,g9 35 (.un .not (.t 34)) 31 false,w9 36 31 true 35,m9 37 36,g9 38 (.fa 5 (.t 3)) 37 false,g9 39 (.load
 false 1 (.t 38)) 37 false,g9 40 (.len (.t 39)) 37 false,g9 41 (.bin .gtr (.t 40) (k9 2)) 37 false,w9 42 37 true 41]<|u9 42 (s9 [o9 4 (.mv (.c (.bool false)))]<|.ret)<|.skip)<|s9 [o9 5 (.mv (.c (.nil)))]<|.seq (s9 [f9 43 5 3,
 l9 44 43,n9 45 44,o9 46 (.mv (k9 0))]<|.block 0<|.loop<|s9 [b9 47 .lss 46 45]<|.seq (u9 47 (.skip)<|.exit 0)<|.seq (.block 1<|s9 [x9 48 1 44 46,l9 49 48,m9 7 49]<|s9 [q9 51 3 2,m9 52 7,c9 53 103 [.t 51,.t 52],m9 50
 53,e9 54 50 0,e9 55 50 1,a9 8 3 131 (.agg [z9,z9,z9]),t9 3 8 54,m9 9 55]<|.seq (s9 [m9 56 9,o9 57 (.un .not (.t 56))]<|u9 57 (s9 [o9 4 (.mv (.c (.bool false)))]<|.ret)<|.skip)<|r9 [m9 58 5,f9 59 1 8,l9 60 59,o9 61
 (.lit false 1 3 [.t 60]),o9 62 (.app 1 8 3 (.t 58) (.t 61)),m9 5 62])<|r9 [d9 63 .add 46 1,m9 46 63])<|.seq (.aC [⟨0,m9 64 5⟩,h9 1 65 (.len (.t 64)) [0],h9 2 66 (.bin .lss (.t 65) (k9 2)) [1,0],h9 3 67 (.mv (.t 66))
 [2,1,0],⟨7,⟨some 71,.mv (.t 5),some (67,false),[3,2,1,0]⟩⟩,⟨8,⟨some 72,.bM 1 (.t 71) (k9 1),some (67,false),[7,3,2,1,0]⟩⟩,⟨9,⟨some 73,.load false 1 (.t 72),some (67,false),[8,3,7,2,1,0]⟩⟩,⟨4,⟨some 68,.mv
 (.t 5),some (67,false),[3,2,1,0]⟩⟩,⟨5,⟨some 69,.bM 1 (.t 68) (k9 0),some (67,false),[4,3,2,1,0]⟩⟩,⟨6,⟨some 70,.load false 1 (.t 69),some (67,false),[5,3,4,2,1,0]⟩⟩,⟨10,⟨some 74,.bin .neq (.t 70) (.t 73),
 some (67,false),[6,9,3,5,4,2,1,0,8,7]⟩⟩,h9 11 75 (.pick (.t 67) (.c (.bool true)) (.t 74)) [3,10,2,1,0,6,9,5,4,8,7],h9 12 4 (.mv (.t 75)) [11,3,0,1,2,4,5,6,7,8,9,10]])<|.ret
abbrev AL:Nat:=112
theorem A9:ar prog 112 [1000000]=some (rN,[.t 4],76):=by kernel_rfl
def zQ:ay:=s9 [o9 6 (.mv (.c (.bool false)))]<|s9 [m9 7 0,m9 8 1,b9 9 .geq 7 8,m9 10 9,v9 11 0 10 true,v9 12 2 10 true,g9 13 (.bin .leq (.t 11) (.t 12)) 10 true,p9 14 10 13 false,m9 6 14]<|.ret
abbrev FD:Nat:=113
theorem F2:ar prog 113 [1000000]=some (zQ,[.t 6],15):=by kernel_rfl
def rJ:ay:=s9 [o9 1 (.box 4 30 (.t 0)),o9 2 (.mv (.c (.bool false)))]<|s9 [f9 3 0 1,l9 4 3,c9 5 113 [.t 4,k9 1,k9 1073741824],m9 6 5,g9 7 (.fa 1 (.t 1)) 6 true,g9 8 (.load false 1 (.t 7)) 6 true,g9 9 (.fa 2 (.t
 1)) 6 true,g9 10 (.load false 1 (.t 9)) 6 true,g9 11 (.fa 3 (.t 1)) 6 true,g9 12 (.load false 1 (.t 11)) 6 true,g9 13 (.call 104 [.t 8,.t 10,.t 12]) 6 true,g9 14 (.bin .eql (.t 13) (k9 0)) 6 true,p9 15 6 14 false,m9 2 15]<|.ret
abbrev AH:Nat:=114
theorem A5:ar prog 114 [1000000]=some (rJ,[.t 2],16):=by kernel_rfl
def dH:ay:=s9 [o9 6 (.mv (.c (.bool false)))]<|.seq (s9 [m9 10 0,n9 11 10,m9 12 1,n9 13 12,b9 14 .neq 11 13]<|u9 14 (s9 [o9 6 (.mv (.c (.bool false)))]<|.ret)<|.skip)<|.seq (s9 [m9 15 0,n9 16
 15,o9 17 (.mv (k9 0))]<|.block 0<|.loop<|s9 [b9 18 .lss 17 16]<|.seq (u9 18 (.skip)<|.exit 0)<|.seq (.block 1<|s9 [m9 19 17,x9 20 4 15 17,q9 21 4 20,a9 8 4 88 (.agg [z9,.nil,.nil,.nil]),m9 7 19,t9 4 8 21]<|s9 [m9
 22 1,m9 23 7,x9 24 4 22 23,q9 25 4 24,a9 9 4 88 (.agg [z9,.nil,.nil,.nil]),t9 4 9 25]<|s9 [m9 26 2,q9 27 4 8,q9 28 4 9,o9 29 (.dw (.t 26) [.t 27,.t 28]),o9 30 (.un .not (.t 29))]<|u9 30 (s9 [o9 6 (.mv (.c (.bool
 false)))]<|.ret)<|.skip)<|r9 [d9 31 .add 17 1,m9 17 31])<|s9 [o9 6 (.mv (.c (.bool true)))]<|.ret
abbrev jx:Nat:=115
theorem jS:ar prog 115 [1000000]=some (dH,[.t 6],32):=by kernel_rfl
def rR:ay:=s9 [o9 2 (.box 4 88 (.t 0)),o9 3 (.box 4 88 (.t 1)),o9 4 (.mv (.c (.bool false)))]<|s9 [f9 5 0 2,l9 6 5,f9 7 0 3,l9 8 7,b9 9 .eql 6 8,m9 10 9,g9 11 (.fa 1 (.t 2)) 10 true,g9 12 (.load false 1 (.t
 11)) 10 true,g9 13 (.fa 1 (.t 3)) 10 true,g9 14 (.load false 1 (.t 13)) 10 true,g9 15 (.call 149 [.t 12,.t 14]) 10 true,p9 16 10 15 false,m9 17 16,g9 18 (.fa 2 (.t 2)) 17 true,g9 19 (.load false 1 (.t 18)) 17 true,g9 20 (.fa 2
 (.t 3)) 17 true,g9 21 (.load false 1 (.t 20)) 17 true,g9 22 (.call 149 [.t 19,.t 21]) 17 true,p9 23 17 22 false,m9 24 23,g9 25 (.fa 3 (.t 2)) 24 true,g9 26 (.load false 1 (.t 25)) 24 true,g9 27 (.fa 3 (.t 3)) 24 true,g9 28 (.load
 false 1 (.t 27)) 24 true,g9 29 (.call 149 [.t 26,.t 28]) 24 true,p9 30 24 29 false,m9 4 30]<|.ret
abbrev rk:Nat:=116
theorem Be:ar prog 116 [1000000]=some (rR,[.t 4],31):=by kernel_rfl
def fY:ay:=s9 [o9 4 (.mv (.c (.bool false)))]<|.seq (s9 [m9 6 0,n9 7 6,m9 8 1,n9 9 8,b9 10 .neq 7 9]<|u9 10 (s9 [o9 4 (.mv (.c (.bool false)))]<|.ret)<|.skip)<|.seq (s9 [m9 11 0,n9 12 11,o9 13
 (.mv (k9 0))]<|.block 0<|.loop<|s9 [b9 14 .lss 13 12]<|.seq (u9 14 (.skip)<|.exit 0)<|.seq (.block 1<|s9 [m9 15 13,m9 5 15]<|.seq (.aC [⟨5,m9 21 5⟩,⟨4,m9 20 1⟩,h9 6 22 (.bM 6 (.t 20) (.t 21)) [4,5],h9 7 23
 (.load true 6 (.t 22)) [6,4,5],⟨1,m9 17 5⟩,⟨0,m9 16 0⟩,h9 2 18 (.bM 6 (.t 16) (.t 17)) [0,1],h9 3 19 (.load true 6 (.t 18)) [2,0,1],h9 8 24 (.eqs true [0,0,0,0,0,0] (.t 19) (.t 23)) [3,7,2,0,1,6,4,5]])<|u9 24 (s9 [o9 4 (.mv
 (.c (.bool false)))]<|.ret)<|.skip)<|r9 [d9 25 .add 13 1,m9 13 25])<|s9 [o9 4 (.mv (.c (.bool true)))]<|.ret
abbrev nR:Nat:=117
theorem oc:ar prog 117 [1000000]=some (fY,[.t 4],26):=by kernel_rfl
def fZ:ay:=s9 [o9 4 (.mv (.c (.bool false)))]<|.seq (s9 [m9 6 0,n9 7 6,m9 8 1,n9 9 8,b9 10 .neq 7 9]<|u9 10 (s9 [o9 4 (.mv (.c (.bool false)))]<|.ret)<|.skip)<|.seq (s9 [m9 11 0,n9 12 11,o9 13
 (.mv (k9 0))]<|.block 0<|.loop<|s9 [b9 14 .lss 13 12]<|.seq (u9 14 (.skip)<|.exit 0)<|.seq (.block 1<|s9 [m9 15 13,m9 5 15]<|.seq (.aC [⟨5,m9 21 5⟩,⟨4,m9 20 1⟩,h9 6 22 (.bM 3 (.t 20) (.t 21)) [4,5],h9 7 23
 (.load true 3 (.t 22)) [6,4,5],⟨1,m9 17 5⟩,⟨0,m9 16 0⟩,h9 2 18 (.bM 3 (.t 16) (.t 17)) [0,1],h9 3 19 (.load true 3 (.t 18)) [2,0,1],h9 8 24 (.eqs true [0,0,0] (.t 19) (.t 23)) [3,7,2,0,1,6,4,5]])<|u9 24 (s9 [o9 4 (.mv (.c
 (.bool false)))]<|.ret)<|.skip)<|r9 [d9 25 .add 13 1,m9 13 25])<|s9 [o9 4 (.mv (.c (.bool true)))]<|.ret
abbrev nS:Nat:=118
theorem od:ar prog 118 [1000000]=some (fZ,[.t 4],26):=by kernel_rfl
def di:ay:=s9 [o9 6 (.mv (.c (.bool false)))]<|.seq (s9 [m9 10 0,n9 11 10,m9 12 1,n9 13 12,b9 14 .neq 11 13]<|u9 14 (s9 [o9 6 (.mv (.c (.bool false)))]<|.ret)<|.skip)<|.seq (s9 [m9 15 0,n9
 16 15,o9 17 (.mv (k9 0))]<|.block 0<|.loop<|s9 [b9 18 .lss 17 16]<|.seq (u9 18 (.skip)<|.exit 0)<|.seq (.block 1<|s9 [m9 19 17,x9 20 7 15 17,q9 21 7 20,a9 8 7 28 (.agg [z9,z9,z9,z9,z9,.nil,.bool false]),m9 7 19,
 t9 7 8 21]<|s9 [m9 22 1,m9 23 7,x9 24 7 22 23,q9 25 7 24,a9 9 7 28 (.agg [z9,z9,z9,z9,z9,.nil,.bool false]),t9 7 9 25]<|s9 [m9 26 2,q9 27 7 8,q9 28 7 9,o9 29 (.dw (.t 26) [.t 27,.t 28]),o9 30 (.un .not (.t 29))]<|
 u9 30 (s9 [o9 6 (.mv (.c (.bool false)))]<|.ret)<|.skip)<|r9 [d9 31 .add 17 1,m9 17 31])<|s9 [o9 6 (.mv (.c (.bool true)))]<|.ret
abbrev iH:Nat:=119
theorem iL:ar prog 119 [1000000]=some (di,[.t 6],32):=by kernel_rfl
def ng:ay:=s9 [o9 2 (.box 7 28 (.t 0)),o9 3 (.box 7 28 (.t 1)),o9 4 (.mv (.c (.bool false)))]<|s9 [f9 5 0 2,l9 6 5,f9 7 0 3,l9 8 7,b9 9 .eql 6 8,m9 10 9,g9 11 (.fa 1 (.t 2)) 10 true,g9 12 (.load false 1 (.t
 11)) 10 true,g9 13 (.fa 1 (.t 3)) 10 true,g9 14 (.load false 1 (.t 13)) 10 true,g9 15 (.bin .eql (.t 12) (.t 14)) 10 true,p9 16 10 15 false,m9 17 16,g9 18 (.fa 2 (.t 2)) 17 true,g9 19 (.load false 1 (.t 18)) 17 true,g9 20 (.fa 2
 (.t 3)) 17 true,g9 21 (.load false 1 (.t 20)) 17 true,g9 22 (.bin .eql (.t 19) (.t 21)) 17 true,p9 23 17 22 false,m9 24 23,g9 25 (.fa 3 (.t 2)) 24 true,g9 26 (.load false 1 (.t 25)) 24 true,g9 27 (.fa 3 (.t 3)) 24 true,g9 28
 (.load false 1 (.t 27)) 24 true,g9 29 (.bin .eql (.t 26) (.t 28)) 24 true,p9 30 24 29 false,m9 31 30,g9 32 (.fa 4 (.t 2)) 31 true,g9 33 (.load false 1 (.t 32)) 31 true,g9 34 (.fa 4 (.t 3)) 31 true,g9 35 (.load false 1 (.t 34)) 31
 true,g9 36 (.bin .eql (.t 33) (.t 35)) 31 true,p9 37 31 36 false,m9 38 37,g9 39 (.fa 6 (.t 2)) 38 true,g9 40 (.load false 1 (.t 39)) 38 true,g9 41 (.fa 6 (.t 3)) 38 true,g9 42 (.load false 1 (.t 41)) 38 true,g9 43 (.HG false (.t
 40) (.t 42)) 38 true,p9 44 38 43 false,m9 45 44,g9 46 (.fa 5 (.t 2)) 45 true,g9 47 (.load false 1 (.t 46)) 45 true,g9 48 (.fa 5 (.t 3)) 45 true,g9 49 (.load false 1 (.t 48)) 45 true,g9 50 (.call 150 [.t 47,.t 49]) 45 true,p9 51
 45 50 false,m9 4 51]<|.ret
abbrev mK:Nat:=120
theorem wq:ar prog 120 [1000000]=some (ng,[.t 4],52):=by kernel_rfl
def gJ:ay:=s9 [o9 4 (.mv (.c (.bool false)))]<|.seq (s9 [m9 6 0,n9 7 6,m9 8 1,n9 9 8,b9 10 .neq 7 9]<|u9 10 (s9 [o9 4 (.mv (.c (.bool false)))]<|.ret)<|.skip)<|.seq (s9 [m9 11 0,n9 12 11,o9 13 (.mv
 (k9 0))]<|.block 0<|.loop<|s9 [b9 14 .lss 13 12]<|.seq (u9 14 (.skip)<|.exit 0)<|.seq (.block 1<|s9 [m9 15 13,m9 5 15]<|.seq (.aC [⟨5,m9 21 5⟩,⟨4,m9 20 1⟩,h9 6 22 (.bM 4 (.t 20) (.t 21)) [4,5],h9 7 23 (.load
 true 4 (.t 22)) [6,4,5],⟨1,m9 17 5⟩,⟨0,m9 16 0⟩,h9 2 18 (.bM 4 (.t 16) (.t 17)) [0,1],h9 3 19 (.load true 4 (.t 18)) [2,0,1],h9 8 24 (.eqs true [0,0,0,0] (.t 19) (.t 23)) [3,7,2,0,1,6,4,5]])<|u9 24 (s9 [o9 4 (.mv (.c (.bool
 false)))]<|.ret)<|.skip)<|r9 [d9 25 .add 13 1,m9 13 25])<|s9 [o9 4 (.mv (.c (.bool true)))]<|.ret
abbrev o7:Nat:=121
theorem pd:ar prog 121 [1000000]=some (gJ,[.t 4],26):=by kernel_rfl
def nb:ay:=s9 [a9 4 21 32 (.agg [z9,z9,z9,z9,z9,z9,z9,z9,z9,z9,z9,z9,.nil,.bool false,z9,z9,z9,z9,z9,z9,z9]),o9 5 (.mv (k9 0)),o9 6 (.mv (k9 0))]<|.seq (s9 [m9 14 1,d9 15 .lss 14 0,m9 16 15,
 v9 17 1 16 false,v9 18 0 16 false,g9 19 (.lens (.t 18)) 16 false,g9 20 (.bin .gtr (.t 17) (.t 19)) 16 false,w9 21 16 true 20]<|u9 21 (s9 [o9 22 (.build [z9,z9,z9,z9,z9,z9,z9,z9,z9,z9,z9,z9,.nil,.bool false,z9,z9,z9,
 z9,z9,z9,z9] []),t9 21 4 22,o9 5 (.mv (k9 0)),o9 6 (.mv (k9 1))]<|.ret)<|.skip)<|.seq (s9 [m9 23 1,m9 24 0,o9 25 (.lens (.t 24)),b9 26 .eql 23 25]<|u9 26 (s9 [o9 27 (.build [z9,z9,z9,z9,z9,z9,z9,z9,z9,z9,z9,z9,
 .nil,.bool false,z9,z9,z9,z9,z9,z9,z9] []),t9 21 4 27,o9 5 (.mv (k9 0)),o9 6 (.mv (k9 7))]<|.ret)<|.skip)<|s9 [m9 28 0,m9 29 1,o9 30 (.pu .DW [.t 28,.t 29]),o9 31 (.conv .i64 (.t 30)),o9 32 (.build [z9,z9,z9,z9,
 z9,z9,z9,z9,z9,z9,z9,z9,.nil,.bool false,z9,z9,z9,z9,z9,z9,z9] [(0,1,.t 31)]),a9 7 21 32 (.agg [z9,z9,z9,z9,z9,z9,z9,z9,z9,z9,z9,z9,.nil,.bool false,z9,z9,z9,z9,z9,z9,z9]),t9 21 7 32]<|.seq
 (.aC [⟨1,f9 35 0 7⟩,h9 2 36 (.load false 1 (.t 35)) [1],⟨0,c9 34 128 [.t 7]⟩,h9 3 37 (.eY true (.nil) (.t 34) (.t 36)) [0,2,1],h9 4 33 (.mv (.t 37)) [3,0,2,1],h9 6 39 (.ext (.t 33) 1) [4,3,0,2,1],h9 5 38 (.ext (.t 33) 0)
 [4,3,0,2,1],h9 7 8 (.mv (.t 38)) [5,0,1,2,3,4],h9 8 9 (.mv (.t 39)) [6,7,0,1,2,3,4,5]])<|.seq (s9 [m9 40 9,o9 41 (.un .not (.t 40))]<|u9 41 (s9 [o9 42 (.build [z9,z9,z9,z9,z9,z9,z9,z9,z9,z9,z9,z9,.nil,.bool false,z9,
 z9,z9,z9,z9,z9,z9] []),t9 21 4 42,o9 5 (.mv (k9 0)),o9 6 (.mv (k9 49))]<|.ret)<|.skip)<|s9 [m9 43 1,d9 44 .add 43 1,m9 45 8,n9 46 45,o9 47 (.bin .mul (k9 5) (.t 46)),b9 48 .add 44 47,m9 10 48]<|.seq (s9 [m9 49 0,o9
 50 (.lens (.t 49)),m9 51 10,d9 52 .add 51 4,b9 53 .lss 50 52]<|u9 53 (s9 [o9 54 (.build [z9,z9,z9,z9,z9,z9,z9,z9,z9,z9,z9,z9,.nil,.bool false,z9,z9,z9,z9,z9,z9,z9] []),t9 21 4 54,o9 5 (.mv (k9 0)),o9 6 (.mv (k9
 7))]<|.ret)<|.skip)<|.seq (.seq (.aC [⟨8,m9 63 10⟩,⟨7,m9 62 1⟩,⟨6,m9 61 0⟩,h9 9 64 (.uS (.t 61) (some (.t 62)) (some (.t 63))) [6,7,8],⟨2,m9 57 10⟩,h9 3 58 (.bin .add (.t 57) (k9 4)) [2],⟨1,m9 56 10⟩,⟨0,m9 55 0⟩,
 h9 4 59 (.uS (.t 55) (some (.t 56)) (some (.t 58))) [0,1,3,2],h9 5 60 (.call 151 [.t 59]) [4,0,1,3,2],h9 10 65 (.call 79 [.t 64]) [9,5,6,7,8,4,0,1,3,2],h9 11 66 (.bin .neq (.t 60) (.t 65)) [5,10,4,0,1,3,2,9,6,7,8]])<|u9 66 (s9 [o9
 67 (.build [z9,z9,z9,z9,z9,z9,z9,z9,z9,z9,z9,z9,.nil,.bool false,z9,z9,z9,z9,z9,z9,z9] []),t9 21 4 67,o9 5 (.mv (k9 0)),o9 6 (.mv (k9 8))]<|.ret)<|.skip)<|.seq (s9 [m9 68 8,n9 69 68,o9 70 (.mv (k9 0))]<|
 .block 0<|.loop<|s9 [b9 71 .lss 70 69]<|.seq (u9 71 (.skip)<|.exit 0)<|.seq (.block 1<|s9 [m9 72 70,x9 73 1 68 70,l9 74 73,m9 11 72,m9 12 74]<|s9 [m9 75 1,d9 76 .add 75 1,m9 77 11,o9 78 (.bin .mul (k9 5) (.t 77)),b9
 79 .add 76 78,m9 13 79]<|s9 [m9 80 12,m9 81 0,m9 82 13,m9 83 13,d9 84 .add 83 5,o9 85 (.uS (.t 81) (some (.t 82)) (some (.t 84))),c9 86 151 [.t 85],o9 87 (.aY (.t 80)),t9 1 87 86]<|s9 [m9 88 12,o9 89 (.aY (.t 88)),
 l9 90 89,d9 91 .gtr 90 274877906944]<|u9 91 (s9 [o9 92 (.build [z9,z9,z9,z9,z9,z9,z9,z9,z9,z9,z9,z9,.nil,.bool false,z9,z9,z9,z9,z9,z9,z9] []),t9 21 4 92,o9 5 (.mv (k9 0)),o9 6 (.mv (k9 49))]<|.ret)<|.skip)
 <| r9 [d9 93 .add 70 1,m9 70 93])<|s9 [q9 94 21 7,m9 95 10,d9 96 .add 95 4,t9 21 4 94,m9 5 96,o9 6 (.mv (k9 0))]<|.ret
abbrev vz:Nat:=122
theorem wk:ar prog 122 [1000000]=some (nb,[.c 4 true 21,.t 5,.t 6],97):=by kernel_rfl
def qk:ay:=s9 [o9 2 (.mv (.c (.nil))),o9 3 (.mv (.c (.nil))),o9 4 (.mv (.c (.nil)))]<|s9 [m9 12 0,c9 13 22 [.t 12,k9 40],o9 14 (.lit true 1 3 [.t 13]),m9 5 14]<|s9 [o9 6 (.mv (.c (.nil))),o9 7 (.mv (.c
 (.nil)))]<|.seq (s9 [m9 15 0,c9 16 22 [.t 15,k9 5],m9 8 16]<|.block 0<|.loop<|.seq (s9 [m9 17 8,d9 18 .geq 17 0]<|u9 18 (.skip)<|.exit 0)<|.seq (.block 1<|s9 [m9 21 0,c9 22 22 [.t 21,k9 10],m9 9 22]<|s9 [m9 23 5,
 m9 24 5,n9 25 24,d9 26 .sub 25 1,x9 27 1 23 26,l9 28 27,m9 10 28]<|s9 [m9 29 0,m9 30 10,m9 31 9,b9 32 .add 30 31,o9 33 (.Eg false (.t 32) [k9 12]),d9 34 .add 33 1,c9 35 22 [.t 29,.t 34],m9 11 35]<|r9 [m9 36 6,m9 37 9,
 o9 38 (.lit false 1 3 [.t 37]),o9 39 (.app 1 8 3 (.t 36) (.t 38)),m9 40 7,m9 41 11,o9 42 (.lit false 1 3 [.t 41]),o9 43 (.app 1 8 3 (.t 40) (.t 42)),m9 44 5,m9 45 10,m9 46 9,b9 47 .add 45 46,m9 48 11,b9 49 .sub 47 48,o9 50
 (.lit false 1 3 [.t 49]),o9 51 (.app 1 8 3 (.t 44) (.t 50)),m9 6 39,m9 7 43,m9 5 51])<|r9 [m9 19 8,d9 20 .sub 19 1,m9 8 20])<|s9 [m9 52 5,m9 53 6,m9 54 7,m9 2 52,m9 3 53,m9 4 54]<|.ret
abbrev yZ:Nat:=124
theorem Ah:ar prog 124 [14,1000000]=some (qk,[.t 2,.t 3,.t 4],55):=by kernel_rfl
def wS:ay:=s9 [o9 4 (.mv (.c (.nil)))]<|s9 [o9 5 (.mv (.c (.nil)))]<|.seq (s9 [m9 8 1,n9 9 8,o9 10 (.mv (k9 0))]<|.block 0<|.loop<|s9 [b9 11 .lss 10 9]<|.seq (u9 11 (.skip)<|.exit 0)<|.seq (.block 1<|s9
 [x9 12 1 8 10,l9 13 12,m9 7 13]<|r9 [m9 14 5,m9 15 0,m9 16 7,c9 17 75 [.t 15,.t 16],o9 18 (.lit false 2 24 [.t 17]),o9 19 (.app 2 16 24 (.t 14) (.t 18)),m9 5 19])<|r9 [d9 20 .add 10 1,m9 10 20])<|s9 [m9 21 5,m9 4 21]<|
 .ret
abbrev Ed:Nat:=125
theorem EU:ar prog 125 [1000000]=some (wS,[.t 4],22):=by kernel_rfl
def rL:ay:=s9 [o9 1 (.box 2 80 (.t 0)),o9 2 (.mv (.c (.bool false)))]<|.seq (s9 [f9 5 0 1,l9 6 5,c9 7 113 [.t 6,k9 0,k9 1073741824],o9 8 (.un .not (.t 7)),m9 9 8,g9 10 (.fa 1 (.t 1)) 9 false,g9 11 (.load false
 1 (.t 10)) 9 false,g9 12 (.len (.t 11)) 9 false,g9 13 (.bin .gtr (.t 12) (k9 64)) 9 false,w9 14 9 true 13]<|u9 14 (s9 [o9 2 (.mv (.c (.bool false)))]<|.ret)<|.skip)<|.seq (s9 [f9 15 1 1,l9 16 15,n9 17 16,o9 18 (.mv (k9 0))]
 <| .block 0<|.loop<|s9 [b9 19 .lss 18 17]<|.seq (u9 19 (.skip)<|.exit 0)<|.seq (.block 1<|s9 [m9 20 18,x9 21 4 16 18,q9 22 4 21,a9 4 4 30 (.agg [z9,z9,z9,z9]),m9 3 20,t9 4 4 22]<|.seq (.aC [⟨0,q9 23 4 4⟩,h9 1
 24 (.call 114 [.t 23]) [0],h9 2 25 (.un .not (.t 24)) [1,0],h9 3 26 (.mv (.t 25)) [2,1,0],⟨6,⟨some 29,.fa 0 (.t 1),some (26,false),[3,2,1,0]⟩⟩,⟨7,⟨some 30,.load false 1 (.t 29),some (26,false),[6,3,2,1,0]⟩⟩,⟨8,⟨some
 31,.bin .add (.t 30) (k9 1),some (26,false),[7,3,6,2,1,0]⟩⟩,⟨4,⟨some 27,.fa 0 (.t 4),some (26,false),[3,2,1,0]⟩⟩,⟨5,⟨some 28,.load false 1 (.t 27),some (26,false),[4,3,2,1,0]⟩⟩,⟨9,⟨some 32,.bin .leq (.t 28)
 (.t 31),some (26,false),[5,8,3,4,2,1,0,7,6]⟩⟩,h9 10 33 (.pick (.t 26) (.c (.bool true)) (.t 32)) [3,9,2,1,0,5,8,4,7,6],h9 11 34 (.mv (.t 33)) [10,3,9,2,1,0,5,8,4,7,6],⟨12,⟨some 35,.mv (.t 3),some (34,false),[11,10,3,
 9,2,1,0,5,8,4,7,6]⟩⟩,⟨13,⟨some 36,.bin .gtr (.t 35) (k9 0),some (34,false),[12,11,10,3,9,2,1,0,5,8,4,7,6]⟩⟩,⟨14,⟨some 37,.mv (.t 36),some (34,false),[13,11,12,10,3,9,2,1,0,5,8,4,7,6]⟩⟩,⟨19,
 ⟨some 42,.mv (.t 3),some (37,true),[14,13,11,12,10,3,9,2,1,0,5,8,4,7,6]⟩⟩,⟨20,⟨some 43,.bin .sub (.t 42) (k9 1),some (37,true),[19,14,13,11,12,10,3,9,2,1,0,5,8,4,7,6]⟩⟩,⟨17,⟨some 40,.fa 1 (.t 1),
 some (37,true),[14,13,11,12,10,3,9,2,1,0,5,8,4,7,6]⟩⟩,⟨18,⟨some 41,.load false 1 (.t 40),some (37,true),[17,14,13,11,12,10,3,9,2,1,0,5,8,4,7,6]⟩⟩,⟨21,⟨some 44,.bM 4 (.t 41) (.t 43),some (37,
 true),[18,20,14,17,13,11,12,10,3,9,2,1,0,5,8,4,7,6,19]⟩⟩,⟨22,⟨some 45,.fa 0 (.t 44),some (37,true),[21,14,18,20,17,13,11,12,10,3,9,2,1,0,5,8,4,7,6,19]⟩⟩,⟨23,⟨some 46,.load false 1 (.t 45),
 some (37,true),[22,14,21,18,20,17,13,11,12,10,3,9,2,1,0,5,8,4,7,6,19]⟩⟩,⟨15,⟨some 38,.fa 0 (.t 4),some (37,true),[14,13,11,12,10,3,9,2,1,0,5,8,4,7,6]⟩⟩,⟨16,⟨some 39,.load false 1 (.t 38),some
 (37,true),[15,14,13,11,12,10,3,9,2,1,0,5,8,4,7,6]⟩⟩,⟨24,⟨some 47,.bin .leq (.t 39) (.t 46),some (37,true),[16,23,14,15,13,11,12,10,3,9,2,1,0,5,8,4,7,6,22,21,18,20,17,19]⟩⟩,⟨25,⟨some 48,
 .pick (.t 37) (.t 47) (.c (.bool false)),some (34,false),[14,24,11,13,12,10,3,9,2,1,0,5,8,4,7,6,16,23,15,22,21,18,20,17,19]⟩⟩,h9 26 49 (.pick (.t 34) (.c (.bool true)) (.t 48))
 [11,25,10,3,9,2,1,0,5,8,4,7,6,14,24,13,12,16,23,15,22,21,18,20,17,19]])<|u9 49 (s9 [o9 2 (.mv (.c (.bool false)))]<|.ret)<|.skip)<|r9 [d9 50 .add 18 1,m9 18 50])<|s9 [o9 2 (.mv (.c (.bool true)))]<|.ret
abbrev AJ:Nat:=126
theorem A7:ar prog 126 [1000000]=some (rL,[.t 2],51):=by kernel_rfl
def uq:ay:=s9 [o9 2 (.box 2 24 (.t 0)),o9 3 (.box 2 24 (.t 1)),a9 4 2 24 (.agg [z9,z9])]<|s9 [f9 5 0 2,l9 6 5,f9 7 0 3,l9 8 7,o9 9 (.Eg true (.t 6) [.t 8]),f9 10 1 2,l9 11 10,f9 12 1 3,l9 13 12,o9 14 (.Eg
 false (.t 11) [.t 13]),o9 15 (.build [z9,z9] [(0,1,.t 9),(1,1,.t 14)]),t9 2 4 15]<|.ret
abbrev CM:Nat:=127
theorem Dq:ar prog 127 [1000000]=some (uq,[.c 4 true 2],16):=by kernel_rfl
def m8:ay:=s9 [o9 2 (.mv (.c (.kl)))]<|.seq (.region [o9 3 .mL,m9 4 0,⟨some 5,.aY (.t 4),none,[1]⟩,⟨some 6,.fa 1 (.t 5),none,[2,1]⟩,⟨some 7,.fa 0 (.t 6),none,[3,2,1]⟩,m9 8 0,⟨some 9,
 .aY (.t 8),none,[5]⟩,⟨some 10,.fa 1 (.t 9),none,[6,5]⟩,⟨some 11,.fa 1 (.t 10),none,[7,6,5]⟩,m9 12 0,⟨some 13,.aY (.t 12),none,[9]⟩,⟨some 14,.fa 1 (.t 13),none,[10,9]⟩,⟨some 15,.fa 2 (.t 14),none,[11,10,
 9]⟩,m9 16 0,⟨some 17,.aY (.t 16),none,[13]⟩,⟨some 18,.fa 1 (.t 17),none,[14,13]⟩,⟨some 19,.fa 3 (.t 18),none,[15,14,13]⟩,m9 20 0,⟨some 21,.aY (.t 20),none,[17]⟩,⟨some 22,.fa 1 (.t 21),none,[18,17]⟩,⟨some
 23,.fa 4 (.t 22),none,[19,18,17]⟩,⟨some 24,.fa 0 (.t 23),none,[20,19,18,17]⟩,m9 25 0,⟨some 26,.aY (.t 25),none,[22]⟩,⟨some 27,.fa 1 (.t 26),none,[23,22]⟩,⟨some 28,.fa 4 (.t 27),none,[24,23,22]⟩,⟨some 29,
 .fa 1 (.t 28),none,[25,24,23,22]⟩,⟨some 30,.lit true 1 183 [.t 7,.t 11,.t 15,.t 19,.t 24,.t 29],none,[4,8,12,16,21,26,3,2,1,7,6,5,11,10,9,15,14,13,20,19,18,17,25,24,23,22]⟩,⟨none,.cZ (.t 3) (k9
 1) (.t 30),none,[0,27,4,8,12,16,21,26,3,2,1,7,6,5,11,10,9,15,14,13,20,19,18,17,25,24,23,22]⟩,m9 31 0,⟨some 32,.aY (.t 31),none,[29]⟩,⟨some 33,.fa 7 (.t 32),none,[30,29]⟩,⟨some 34,.fa 1 (.t 33),
 none,[31,30,29]⟩,m9 35 0,⟨some 36,.aY (.t 35),none,[33]⟩,⟨some 37,.fa 7 (.t 36),none,[34,33]⟩,⟨some 38,.fa 2 (.t 37),none,[35,34,33]⟩,m9 39 0,⟨some 40,.aY (.t 39),none,[37]⟩,⟨some 41,.fa 7 (.t 40),none,
 [38,37]⟩,⟨some 42,.fa 3 (.t 41),none,[39,38,37]⟩,m9 43 0,⟨some 44,.aY (.t 43),none,[41]⟩,⟨some 45,.fa 7 (.t 44),none,[42,41]⟩,⟨some 46,.fa 4 (.t 45),none,[43,42,41]⟩,⟨some 47,.lit true 1 183 [.t 34,.t 38,.t
 42,.t 46],none,[32,36,40,44,31,30,29,35,34,33,39,38,37,43,42,41]⟩,⟨none,.cZ (.t 3) (k9 2) (.t 47),none,[0,45,32,36,40,44,31,30,29,35,34,33,39,38,37,43,42,41]⟩,m9 48 0,⟨some 49,.aY (.t 48),
 none,[47]⟩,⟨some 50,.fa 7 (.t 49),none,[48,47]⟩,⟨some 51,.fa 0 (.t 50),none,[49,48,47]⟩,m9 52 0,⟨some 53,.aY (.t 52),none,[51]⟩,⟨some 54,.fa 14 (.t 53),none,[52,51]⟩,m9 55 0,⟨some 56,.aY (.t 55),none,
 [54]⟩,⟨some 57,.fa 15 (.t 56),none,[55,54]⟩,m9 58 0,⟨some 59,.aY (.t 58),none,[57]⟩,⟨some 60,.fa 16 (.t 59),none,[58,57]⟩,⟨some 61,.lit true 1 183 [.t 51,.t 54,.t 57,.t 60],none,[50,53,56,59,49,48,47,52,
 51,55,54,58,57]⟩,⟨none,.cZ (.t 3) (k9 3) (.t 61),none,[0,60,50,53,56,59,49,48,47,52,51,55,54,58,57]⟩,m9 62 0,⟨some 63,.aY (.t 62),none,[62]⟩,⟨some 64,.fa 7 (.t 63),none,[63,62]⟩,⟨some 65,.fa 0 (.t
 64),none,[64,63,62]⟩,m9 66 0,⟨some 67,.aY (.t 66),none,[66]⟩,⟨some 68,.fa 14 (.t 67),none,[67,66]⟩,m9 69 0,⟨some 70,.aY (.t 69),none,[69]⟩,⟨some 71,.fa 15 (.t 70),none,[70,69]⟩,m9 72 0,⟨some 73,.aY
 (.t 72),none,[72]⟩,⟨some 74,.fa 16 (.t 73),none,[73,72]⟩,⟨some 75,.lit true 1 183 [.t 65,.t 68,.t 71,.t 74],none,[65,68,71,74,64,63,62,67,66,70,69,73,72]⟩,⟨none,.cZ (.t 3) (k9 4) (.t 75),none,[0,75,65,
 68,71,74,64,63,62,67,66,70,69,73,72]⟩,m9 76 0,⟨some 77,.aY (.t 76),none,[77]⟩,⟨some 78,.fa 17 (.t 77),none,[78,77]⟩,⟨some 79,.fa 1 (.t 78),none,[79,78,77]⟩,m9 80 0,⟨some 81,.aY (.t 80),none,[81]⟩,
 ⟨some 82,.fa 17 (.t 81),none,[82,81]⟩,⟨some 83,.fa 2 (.t 82),none,[83,82,81]⟩,m9 84 0,⟨some 85,.aY (.t 84),none,[85]⟩,⟨some 86,.fa 17 (.t 85),none,[86,85]⟩,⟨some 87,.fa 3 (.t 86),none,[87,86,85]⟩,⟨some 88,
 .lit true 1 183 [.t 79,.t 83,.t 87],none,[80,84,88,79,78,77,83,82,81,87,86,85]⟩,⟨none,.cZ (.t 3) (k9 5) (.t 88),none,[0,89,80,84,88,79,78,77,83,82,81,87,86,85]⟩,m9 89 0,⟨some 90,.aY (.t 89),
 none,[91]⟩,⟨some 91,.fa 17 (.t 90),none,[92,91]⟩,⟨some 92,.fa 0 (.t 91),none,[93,92,91]⟩,⟨some 93,.lit true 1 183 [.t 92],none,[94,93,92,91]⟩,⟨none,.cZ (.t 3) (k9 6) (.t 93),none,[0,95,94,93,92,91]⟩,⟨some
 94,.mv (.t 3),none,[0,1,2,3,4,5,6,7,8,9,10,11,12,13,14,15,16,17,18,19,20,21,22,23,24,25,26,27,28,29,30,31,32,33,34,35,36,37,38,39,40,41,42,43,44,45,46,47,48,49,50,51,52,53,54,55,
 56,57,58,59,60,61,62,63,64,65,66,67,68,69,70,71,72,73,74,75,76,77,78,79,80,81,82,83,84,85,86,87,88,89,90,91,92,93,94,95,96]⟩,⟨some 2,.mv (.t 94),none,[97,0,1,2,3,4,5,6,7,8,9,10,11,
 12,13,14,15,16,17,18,19,20,21,22,23,24,25,26,27,28,29,30,31,32,33,34,35,36,37,38,39,40,41,42,43,44,45,46,47,48,49,50,51,52,53,54,55,56,57,58,59,60,61,62,63,64,65,66,67,68,69,70,
 71,72,73,74,75,76,77,78,79,80,81,82,83,84,85,86,87,88,89,90,91,92,93,94,95,96]⟩] (some 99))<|.ret
abbrev vx:Nat:=128
theorem wi:ar prog 128 [30,47,61,75,88,93,1000000]=some (m8,[.t 2],95):=by kernel_rfl
def qi:ay:=s9 [o9 2 (.box 21 32 (.t 0)),o9 3 (.box 21 32 (.t 1)),o9 4 (.mv (.c (.bool false)))]<|.seq (.aC [⟨2,f9 9 7 3⟩,h9 3 10 (.load true 7 (.t 9)) [2],⟨0,f9 7 7 2⟩,h9 1 8 (.load true 7 (.t 7)) [0],⟨5,
 a9 6 7 28 (.agg [z9,z9,z9,z9,z9,.nil,.bool false])⟩,⟨4,a9 5 7 28 (.agg [z9,z9,z9,z9,z9,.nil,.bool false])⟩,⟨6,⟨none,.store 7 (.t 5) (.t 8),none,[4,1,0,5]⟩⟩,⟨7,⟨none,.store 7 (.t 6) (.t 10),none,[5,3,6,0,1,
 2,4]⟩⟩])<|s9 [f9 11 0 2,l9 12 11,f9 13 0 3,l9 14 13,b9 15 .eql 12 14,m9 16 15,g9 17 (.fa 1 (.t 2)) 16 true,g9 18 (.load true 6 (.t 17)) 16 true,g9 19 (.fa 1 (.t 3)) 16 true,g9 20 (.load true 6 (.t 19)) 16 true,g9 21 (.eqs
 false [0,0,0,0,0,0] (.t 18) (.t 20)) 16 true,p9 22 16 21 false,m9 23 22,g9 24 (.fa 14 (.t 2)) 23 true,g9 25 (.load false 1 (.t 24)) 23 true,g9 26 (.fa 14 (.t 3)) 23 true,g9 27 (.load false 1 (.t 26)) 23 true,g9 28 (.bin .eql
 (.t 25) (.t 27)) 23 true,p9 29 23 28 false,m9 30 29,g9 31 (.fa 15 (.t 2)) 30 true,g9 32 (.load false 1 (.t 31)) 30 true,g9 33 (.fa 15 (.t 3)) 30 true,g9 34 (.load false 1 (.t 33)) 30 true,g9 35 (.bin .eql (.t 32) (.t 34)) 30 true,
 p9 36 30 35 false,m9 37 36,g9 38 (.fa 16 (.t 2)) 37 true,g9 39 (.load false 1 (.t 38)) 37 true,g9 40 (.fa 16 (.t 3)) 37 true,g9 41 (.load false 1 (.t 40)) 37 true,g9 42 (.bin .eql (.t 39) (.t 41)) 37 true,p9 43 37 42 false,m9 44
 43,g9 45 (.fa 17 (.t 2)) 44 true,g9 46 (.load true 4 (.t 45)) 44 true,g9 47 (.fa 17 (.t 3)) 44 true,g9 48 (.load true 4 (.t 47)) 44 true,g9 49 (.eqs false [0,0,0,0] (.t 46) (.t 48)) 44 true,p9 50 44 49 false,m9 51 50,g9 52 (.fa
 0 (.t 5)) 51 true,g9 53 (.load false 1 (.t 52)) 51 true,g9 54 (.fa 0 (.t 6)) 51 true,g9 55 (.load false 1 (.t 54)) 51 true,g9 56 (.bin .eql (.t 53) (.t 55)) 51 true,p9 57 51 56 false,m9 58 57,g9 59 (.fa 1 (.t 5)) 58 true,g9 60
 (.load false 1 (.t 59)) 58 true,g9 61 (.fa 1 (.t 6)) 58 true,g9 62 (.load false 1 (.t 61)) 58 true,g9 63 (.bin .eql (.t 60) (.t 62)) 58 true,p9 64 58 63 false,m9 65 64,g9 66 (.fa 2 (.t 5)) 65 true,g9 67 (.load false 1 (.t 66)) 65
 true,g9 68 (.fa 2 (.t 6)) 65 true,g9 69 (.load false 1 (.t 68)) 65 true,g9 70 (.bin .eql (.t 67) (.t 69)) 65 true,p9 71 65 70 false,m9 72 71,g9 73 (.fa 3 (.t 5)) 72 true,g9 74 (.load false 1 (.t 73)) 72 true,g9 75 (.fa 3 (.t 6))
 72 true,g9 76 (.load false 1 (.t 75)) 72 true,g9 77 (.bin .eql (.t 74) (.t 76)) 72 true,p9 78 72 77 false,m9 79 78,g9 80 (.fa 4 (.t 5)) 79 true,g9 81 (.load false 1 (.t 80)) 79 true,g9 82 (.fa 4 (.t 6)) 79 true,g9 83 (.load false
 1 (.t 82)) 79 true,g9 84 (.bin .eql (.t 81) (.t 83)) 79 true,p9 85 79 84 false,m9 86 85,g9 87 (.fa 6 (.t 5)) 86 true,g9 88 (.load false 1 (.t 87)) 86 true,g9 89 (.fa 6 (.t 6)) 86 true,g9 90 (.load false 1 (.t 89)) 86 true,g9 91
 (.HG false (.t 88) (.t 90)) 86 true,p9 92 86 91 false,m9 93 92,g9 94 (.fa 5 (.t 5)) 93 true,g9 95 (.load false 1 (.t 94)) 93 true,g9 96 (.fa 5 (.t 6)) 93 true,g9 97 (.load false 1 (.t 96)) 93 true,g9 98 (.call 150 [.t 95,.t 97])
 93 true,p9 99 93 98 false,m9 4 99]<|.ret
abbrev yX:Nat:=129
theorem Af:ar prog 129 [1000000]=some (qi,[.t 4],100):=by kernel_rfl
def dh:ay:=s9 [o9 4 (.mv (k9 0))]<|.seq (s9 [m9 6 0,n9 7 6,o9 8 (.mv (k9 0))]<|.block 0<|.loop<|s9 [b9 9 .lss 8 7]<|.seq (u9 9 (.skip)<|.exit 0)<|.seq (.block 1<|s9 [m9 10 8,m9 5 10]<|
 s9 [m9 11 1,m9 12 0,m9 13 5,x9 14 7 12 13,q9 15 7 14,o9 16 (.dw (.t 11) [.t 15])]<|u9 16 (s9 [m9 17 5,m9 4 17]<|.ret)<|.skip)<|r9 [d9 18 .add 8 1,m9 8 18])<|s9 [o9 4 (.mv (.c (.int .i64 (-1))))]<|.ret
abbrev iG:Nat:=130
theorem iK:ar prog 130 [1000000]=some (dh,[.t 4],19):=by kernel_rfl
def kL:ay:=s9 [o9 2 (.box 7 28 (.t 0)),o9 3 (.mv (.c (.bool false)))]<|s9 [f9 4 0 2,l9 5 4,l9 6 1,b9 7 .eql 5 6,m9 3 7]<|.ret
abbrev ku:Nat:=131
theorem sL:ar prog 131 [1000000]=some (kL,[.t 3],8):=by kernel_rfl
def np:ay:=s9 [o9 5 (.box 7 28 (.t 2)),o9 6 (.mv (k9 0))]<|s9 [o9 7 (.mv (k9 7))]<|.seq (s9 [m9 10 0,m9 11 1,f9 12 0 5,l9 13 12,f9 14 1 5,l9 15 14,f9 16 2 5,l9 17 16,f9 18 3 5,l9 19 18,f9 20 4 5,l9 21
 20,o9 22 (.build [z9,z9,z9,z9,z9,z9,z9] [(0,1,.t 10),(1,1,.t 11),(2,1,.t 13),(3,1,.t 15),(4,1,.t 17),(5,1,.t 19),(6,1,.t 21)]),o9 23 (.mv (k9 0))]<|.block 0<|.loop<|s9 [d9 24 .lss 23 7]<|.seq (u9 24
 (.skip)<|.exit 0)<|.seq (.block 1<|s9 [o9 25 (.pu (.Hy false 1 7) [.t 22,.t 23]),m9 9 25]<|r9 [m9 26 7,o9 27 (.bin .mul (k9 31) (.t 26)),m9 28 9,d9 29 .rem 28 2147483647,d9 30 .add 29 2147483647,d9 31 .rem 30 2147483647,
 b9 32 .add 27 31,d9 33 .rem 32 2147483647,m9 7 33])<|r9 [d9 34 .add 23 1,m9 23 34])<|s9 [m9 35 7,m9 6 35]<|.ret
abbrev vH:Nat:=132
theorem wz:ar prog 132 [1000000]=some (np,[.t 6],36):=by kernel_rfl
def kM:ay:=s9 [o9 1 (.box 7 28 (.t 0)),a9 2 7 28 (.agg [z9,z9,z9,z9,z9,.nil,.bool false])]<|s9 [f9 3 5 1,l9 4 3,c9 5 81 [.t 4],f9 6 5 1,t9 1 6 5]<|s9 [q9 7 7 1,t9 7 2 7]<|.ret
abbrev su:Nat:=133
theorem sM:ar prog 133 [1000000]=some (kM,[.c 2 true 7],8):=by kernel_rfl
def dd:ay:=s9 [o9 6 (.mv (k9 0)),o9 7 (.mv (.c (.bool false)))]<|s9 [m9 12 0,n9 13 12,m9 8 13]<|s9 [m9 14 8,o9 9 (.mv (k9 0)),m9 10 14]<|.seq (.block 0<|.loop<|.seq (s9 [m9 15 9,m9 16 10,
 b9 17 .lss 15 16]<|u9 17 (.skip)<|.exit 0)<|.block 1<|s9 [m9 18 9,m9 19 10,b9 20 .add 18 19,o9 21 (.conv .u64 (.t 20)),o9 22 (.pu (.bit .shr) [.t 21,.c (.int .u64 1)]),o9 23 (.conv .i64 (.t 22)),m9 11 23]<|s9 [m9 24 2,m9
 25 0,m9 26 11,x9 27 6 25 26,q9 28 6 27,m9 29 1,o9 30 (.dw (.t 24) [.t 28,.t 29]),d9 31 .lss 30 0]<|u9 31 (r9 [m9 32 11,d9 33 .add 32 1,m9 9 33])<|r9 [m9 34 11,m9 10 34])<|s9 [m9 35 9,m9 36 9,m9 37 8,b9 38 .lss 36 37,
 m9 39 38,v9 40 2 39 true,v9 41 0 39 true,v9 42 9 39 true,g9 43 (.bM 6 (.t 41) (.t 42)) 39 true,g9 44 (.load true 6 (.t 43)) 39 true,v9 45 1 39 true,g9 46 (.dw (.t 40) [.t 44,.t 45]) 39 true,g9 47 (.bin .eql (.t 46) (k9 0)) 39
 true,p9 48 39 47 false,m9 6 35,m9 7 48]<|.ret
abbrev gU:Nat:=134
theorem il:ar prog 134 [1000000]=some (dd,[.t 6,.t 7],49):=by kernel_rfl
def dU:ay:=s9 [o9 3 (.box 6 26 (.t 0)),o9 5 (.mv (k9 0))]<|s9 [l9 6 2,q9 7 6 3,o9 8 (.dw (.t 6) [.t 7]),m9 9 1,b9 10 .sub 8 9,m9 5 10]<|.ret
abbrev ko:Nat:=135
theorem kO:ar prog 135 [1000000]=some (dU,[.t 5],11):=by kernel_rfl
def gh:ay:=s9 [o9 2 (.fj 6 26)]<|.seq (s9 [m9 3 0,o9 4 (.kx false (.t 3))]<|u9 4 (s9 [o9 2 (.fj 6 26)]<|.ret)<|.skip)<|s9 [o9 5 (.lit true 6 26 []),m9 6 0,o9 7 (.app 6 48 26 (.t 5) (.t 6)),
 m9 2 7]<|.ret
abbrev fK:Nat:=136
theorem gp:ar prog 136 [2,5,1000000]=some (gh,[.t 2],8):=by kernel_rfl
def oD:ay:=s9 [o9 1 (.box 4 88 (.t 0)),a9 2 4 88 (.agg [z9,.nil,.nil,.nil])]<|.seq (.aC [⟨8,f9 11 3 1⟩,h9 9 12 (.load false 1 (.t 11)) [8],⟨5,f9 8 2 1⟩,h9 6 9 (.load false 1 (.t 8)) [5],⟨2,f9 5 1 1⟩,
 h9 3 6 (.load false 1 (.t 5)) [2],⟨0,f9 3 0 1⟩,h9 1 4 (.load false 1 (.t 3)) [0],h9 4 7 (.call 153 [.t 6]) [3,2],h9 7 10 (.call 153 [.t 9]) [6,4,5,3,2],h9 10 13 (.call 153 [.t 12]) [9,7,8,6,4,5,3,2],h9 11 14 (.build [z9,.nil,
 .nil,.nil] [(0,1,.t 4),(1,1,.t 7),(2,1,.t 10),(3,1,.t 13)]) [1,4,7,10,0,3,2,6,5,9,8],⟨12,⟨none,.store 4 (.t 2) (.t 14),none,[11,10,0,1,2,3,4,5,6,7,8,9]⟩⟩])<|.ret
abbrev xh:Nat:=137
theorem xE:ar prog 137 [1000000]=some (oD,[.c 2 true 4],15):=by kernel_rfl
def dc:ay:=s9 [o9 6 (.mv (.c (.nil)))]<|s9 [m9 10 0,m9 11 1,o9 12 (.qH 6 (.t 10) (some (.t 11)) none)]<|s9 [m9 13 2,n9 14 13,m9 7 14]<|.seq (s9 [m9 15 7,d9 16 .eql 15 0]<|u9 16 (s9 [m9 17 0,m9 6
 17]<|.ret)<|.skip)<|s9 [m9 18 0,n9 19 18,m9 8 19]<|.seq (s9 [m9 20 1,m9 21 8,b9 22 .eql 20 21]<|u9 22 (s9 [m9 23 0,m9 24 2,o9 25 (.app 6 48 26 (.t 23) (.t 24)),m9 6 25]<|.ret)<|.skip)<|.seq (s9 [m9 26 8,m9 27 7,b9
 28 .add 26 27,m9 29 0,o9 30 (.pu .Dg [.t 29]),b9 31 .gtr 28 30]<|u9 31 (s9 [m9 32 0,m9 33 1,o9 34 (.qH 6 (.t 32) none (some (.t 33))),m9 35 8,m9 36 7,b9 37 .add 35 36,m9 38 1,b9 39 .sub 37 38,o9 40 (.Ak 6 48 26 (.agg
 [z9,z9,z9,z9,z9,z9]) (.t 34) (.t 39)),m9 9 40]<|s9 [m9 41 9,m9 42 1,o9 43 (.qH 6 (.t 41) (some (.t 42)) none),m9 44 2,o9 45 (.Fc 6 (.t 43) (.t 44))]<|.seq (.aC [⟨6,m9 52 1⟩,⟨5,m9 51 0⟩,h9 7 53 (.qH 6 (.t 51)
 (some (.t 52)) none) [5,6],⟨2,m9 48 7⟩,⟨1,m9 47 1⟩,h9 3 49 (.bin .add (.t 47) (.t 48)) [1,2],⟨0,m9 46 9⟩,h9 4 50 (.qH 6 (.t 46) (some (.t 49)) none) [0,3,1,2],h9 8 54 (.Fc 6 (.t 50) (.t 53)) [4,7,0,3,1,2,5,6]])<|s9 [m9 55 9,
 m9 6 55]<|.ret)<|.skip)<|s9 [m9 56 0,m9 57 8,m9 58 7,b9 59 .add 57 58,o9 60 (.qH 6 (.t 56) none (some (.t 59))),m9 0 60]<|.seq (s9 [m9 61 2,m9 62 0,m9 63 1,m9 64 7,b9 65 .add 63 64,o9 66 (.qH 6 (.t 62) (some (.t 65))
 none),c9 67 154 [.t 61,.t 66],o9 68 (.un .not (.t 67))]<|u9 68 (.seq (.aC [⟨6,m9 75 1⟩,⟨5,m9 74 0⟩,h9 7 76 (.qH 6 (.t 74) (some (.t 75)) none) [5,6],⟨2,m9 71 7⟩,⟨1,m9 70 1⟩,h9 3 72 (.bin .add (.t 70) (.t 71)) [1,2],
 ⟨0,m9 69 0⟩,h9 4 73 (.qH 6 (.t 69) (some (.t 72)) none) [0,3,1,2],h9 8 77 (.Fc 6 (.t 73) (.t 76)) [4,7,0,3,1,2,5,6]])<|s9 [m9 78 0,m9 79 1,o9 80 (.qH 6 (.t 78) (some (.t 79)) none),m9 81 2,o9 82 (.Fc 6 (.t 80) (.t 81))]<|s9
 [m9 83 0,m9 6 83]<|.ret)<|.skip)<|s9 [m9 84 0,m9 85 8,o9 86 (.qH 6 (.t 84) (some (.t 85)) none),m9 87 2,o9 88 (.Fc 6 (.t 86) (.t 87))]<|s9 [m9 89 0,m9 90 1,o9 91 (.qH 6 (.t 89) (some (.t 90)) none),m9 92 7,c9 93 155
 [.t 91,.t 92]]<|s9 [m9 94 0,m9 6 94]<|.ret
abbrev mI:Nat:=138
theorem fu:ar prog 138 [1000000]=some (dc,[.t 6],95):=by kernel_rfl
def kK:ay:=s9 [o9 2 (.mv (.c (.bool false)))]<|s9 [o9 3 (.mv (k9 0))]<|.seq (s9 [m9 6 0,n9 7 6,o9 8 (.mv (k9 0))]<|.block 0<|.loop<|s9 [b9 9 .lss 8 7]<|.seq (u9 9 (.skip)<|.exit 0)<|.seq (.block 1
 <| s9 [x9 10 3 6 8,q9 11 3 10,a9 5 3 131 (.agg [z9,z9,z9]),t9 3 5 11]<|.seq (s9 [f9 12 0 5,l9 13 12,m9 14 3,b9 15 .leq 13 14,m9 16 15,g9 17 (.fa 0 (.t 5)) 16 false,g9 18 (.load false 1 (.t 17)) 16 false,g9 19 (.bin .gtr (.t
 18) (k9 1073741824)) 16 false,w9 20 16 true 19,m9 21 20,g9 22 (.fa 1 (.t 5)) 21 false,g9 23 (.load false 1 (.t 22)) 21 false,g9 24 (.bin .lss (.t 23) (k9 1)) 21 false,w9 25 21 true 24,m9 26 25,g9 27 (.fa 1 (.t 5)) 26 false,g9 28
 (.load false 1 (.t 27)) 26 false,g9 29 (.bin .gtr (.t 28) (k9 9)) 26 false,w9 30 26 true 29,m9 31 30,g9 32 (.fa 2 (.t 5)) 31 false,g9 33 (.load false 1 (.t 32)) 31 false,g9 34 (.bin .lss (.t 33) (k9 1)) 31 false,w9 35 31 true 34,
 m9 36 35,g9 37 (.fa 2 (.t 5)) 36 false,g9 38 (.load false 1 (.t 37)) 36 false,g9 39 (.bin .gtr (.t 38) (k9 1073741824)) 36 false,w9 40 36 true 39]<|u9 40 (s9 [o9 2 (.mv (.c (.bool false)))]<|.ret)<|.skip)<|r9 [f9 41 0 5,l9 42
 41,m9 3 42])<|r9 [d9 43 .add 8 1,m9 8 43])<|s9 [m9 44 0,n9 45 44,d9 46 .leq 45 12,m9 2 46]<|.ret
abbrev ss:Nat:=139
theorem sK:ar prog 139 [1000000]=some (kK,[.t 2],47):=by kernel_rfl
def jm:ay:=s9 [o9 1 (.box 7 28 (.t 0)),o9 2 (.mv (.c (.bool false)))]<|s9 [f9 3 1 1,l9 4 3,d9 5 .geq 4 0,m9 6 5,g9 7 (.fa 1 (.t 1)) 6 true,g9 8 (.load false 1 (.t 7)) 6 true,g9 9 (.bin .lss (.t 8) (k9 6)) 6
 true,p9 10 6 9 false,m9 11 10,g9 12 (.fa 2 (.t 1)) 11 true,g9 13 (.load false 1 (.t 12)) 11 true,g9 14 (.bin .geq (.t 13) (k9 0)) 11 true,p9 15 11 14 false,m9 16 15,g9 17 (.fa 2 (.t 1)) 16 true,g9 18 (.load false 1 (.t 17)) 16
 true,g9 19 (.fa 3 (.t 1)) 16 true,g9 20 (.load false 1 (.t 19)) 16 true,g9 21 (.bin .leq (.t 18) (.t 20)) 16 true,p9 22 16 21 false,m9 23 22,g9 24 (.fa 3 (.t 1)) 23 true,g9 25 (.load false 1 (.t 24)) 23 true,g9 26 (.bin .leq (.t
 25) (k9 16777216)) 23 true,p9 27 23 26 false,m9 28 27,g9 29 (.fa 4 (.t 1)) 28 true,g9 30 (.load false 1 (.t 29)) 28 true,g9 31 (.bin .geq (.t 30) (k9 0)) 28 true,p9 32 28 31 false,m9 33 32,g9 34 (.fa 4 (.t 1)) 33 true,g9 35
 (.load false 1 (.t 34)) 33 true,g9 36 (.bin .leq (.t 35) (k9 1073741824)) 33 true,p9 37 33 36 false,m9 2 37]<|.ret
abbrev qP:Nat:=140
theorem qW:ar prog 140 [1000000]=some (jm,[.t 2],38):=by kernel_rfl
def kJ:ay:=s9 [o9 4 (.mv (.c (.bool false)))]<|.seq (s9 [m9 10 1,n9 11 10,d9 12 .gtr 11 2]<|u9 12 (s9 [o9 4 (.mv (.c (.bool false)))]<|.ret)<|.skip)<|s9 [o9 13 .mL,m9 5 13]<|.seq (s9 [m9 14 1,n9 15
 14,o9 16 (.mv (k9 0))]<|.block 0<|.loop<|s9 [b9 17 .lss 16 15]<|.seq (u9 17 (.skip)<|.exit 0)<|.seq (.block 1<|s9 [x9 18 1 14 16,l9 19 18,m9 7 19]<|s9 [m9 21 0,m9 22 7,c9 23 94 [.t 21,.t 22],m9 20 23,e9 24 20 0,e9
 25 20 1,a9 8 3 131 (.agg [z9,z9,z9]),t9 3 8 24,m9 9 25]<|.seq (s9 [m9 26 9,o9 27 (.un .not (.t 26)),m9 28 27,v9 29 5 28 false,g9 30 (.fa 1 (.t 8)) 28 false,g9 31 (.load false 1 (.t 30)) 28 false,g9 32 (.eY false (.bool
 false) (.t 29) (.t 31)) 28 false,w9 33 28 true 32]<|u9 33 (s9 [o9 4 (.mv (.c (.bool false)))]<|.ret)<|.skip)<|r9 [m9 34 5,f9 35 1 8,l9 36 35,⟨none,.cZ (.t 34) (.t 36) (.c (.bool true)),none,[]⟩])<|r9 [d9 37 .add 16 1,
 m9 16 37])<|s9 [o9 4 (.mv (.c (.bool true)))]<|.ret
abbrev sr:Nat:=141
theorem sJ:ar prog 141 [1000000]=some (kJ,[.t 4],38):=by kernel_rfl
def jj:ay:=s9 [o9 4 (.mv (k9 0))]<|.seq (s9 [m9 6 0,n9 7 6,o9 8 (.mv (k9 0))]<|.block 0<|.loop<|s9 [b9 9 .lss 8 7]<|.seq (u9 9 (.skip)<|.exit 0)<|.seq (.block 1<|s9 [m9 10 8,m9 5 10]<|s9 [m9 11
 1,m9 12 0,m9 13 5,x9 14 1 12 13,l9 15 14,b9 16 .eql 11 15]<|u9 16 (s9 [m9 17 5,m9 4 17]<|.ret)<|.skip)<|r9 [d9 18 .add 8 1,m9 8 18])<|s9 [o9 4 (.mv (.c (.int .i64 (-1))))]<|.ret
abbrev qN:Nat:=142
theorem qU:ar prog 142 [1000000]=some (jj,[.t 4],19):=by kernel_rfl
def rE:ay:=s9 [o9 4 (.mv (k9 0))]<|s9 [m9 8 0,o9 5 (.mv (k9 0)),m9 6 8]<|.seq (.block 0<|.loop<|.seq (s9 [m9 9 5,m9 10 6,b9 11 .lss 9 10]<|u9 11 (.skip)<|.exit 0)<|.block 1<|s9 [m9 12 5,m9 13 6,b9 14
 .add 12 13,o9 15 (.conv .u64 (.t 14)),o9 16 (.pu (.bit .shr) [.t 15,.c (.int .u64 1)]),o9 17 (.conv .i64 (.t 16)),m9 7 17]<|s9 [m9 18 1,m9 19 7,o9 20 (.dw (.t 18) [.t 19]),o9 21 (.un .not (.t 20))]<|u9 21 (r9 [m9 22 7,d9
 23 .add 22 1,m9 5 23])<|r9 [m9 24 7,m9 6 24])<|s9 [m9 25 5,m9 4 25]<|.ret
abbrev AB:Nat:=143
theorem AY:ar prog 143 [1000000]=some (rE,[.t 4],26):=by kernel_rfl
def fq:ay:=s9 [o9 2 (.box 2 195 (.t 0)),o9 4 (.mv (.c (.bool false)))]<|.seq (.aC [⟨6,f9 11 1 2⟩,h9 7 12 (.load false 1 (.t 11)) [6],⟨2,m9 7 1⟩,⟨0,f9 5 0 2⟩,h9 1 6 (.load false 1 (.t 5)) [0],h9 3
 8 (.bM 3 (.t 6) (.t 7)) [1,2,0],h9 4 9 (.fa 0 (.t 8)) [3,1,2,0],h9 5 10 (.load false 1 (.t 9)) [4,3,1,2,0],h9 8 13 (.bin .geq (.t 10) (.t 12)) [5,7,4,3,1,2,0,6],h9 9 4 (.mv (.t 13)) [8,0,1,2,3,4,5,6,7]])<|.ret
abbrev fk:Nat:=144
theorem nq:ar prog 144 [1000000]=some (fq,[.t 4],14):=by kernel_rfl
def et:ay:=s9 [o9 4 (.mv (k9 0))]<|.seq (s9 [m9 6 0,n9 7 6,o9 8 (.mv (k9 0))]<|.block 0<|.loop<|s9 [b9 9 .lss 8 7]<|.seq (u9 9 (.skip)<|.exit 0)<|.seq (.block 1<|s9 [m9 10 8,m9 5 10]<|s9
 [m9 11 1,m9 12 0,m9 13 5,x9 14 4 12 13,q9 15 4 14,o9 16 (.dw (.t 11) [.t 15])]<|u9 16 (s9 [m9 17 5,m9 4 17]<|.ret)<|.skip)<|r9 [d9 18 .add 8 1,m9 8 18])<|s9 [o9 4 (.mv (.c (.int .i64 (-1))))]<|.ret
abbrev lg:Nat:=145
theorem lr:ar prog 145 [1000000]=some (et,[.t 4],19):=by kernel_rfl
def qh:ay:=s9 [o9 1 (.box 4 88 (.t 0)),o9 2 (.mv (k9 0))]<|s9 [f9 8 2 1,l9 9 8,n9 10 9,m9 3 10]<|.seq (.block 0<|s9 [m9 12 3,d9 13 .eql 12 0,m9 14 13,g9 15 (.fa 3 (.t 1)) 14 false,g9 16 (.load false 1 (.t
 15)) 14 false,g9 17 (.len (.t 16)) 14 false,v9 18 3 14 false,g9 19 (.bin .neq (.t 17) (.t 18)) 14 false,w9 20 14 true 19,m9 21 20,g9 22 (.fa 1 (.t 1)) 21 false,g9 23 (.load false 1 (.t 22)) 21 false,g9 24 (.len (.t 23)) 21 false,
 v9 25 3 21 false,g9 26 (.bin .add (.t 25) (k9 1)) 21 false,g9 27 (.bin .neq (.t 24) (.t 26)) 21 false,w9 28 21 true 27,m9 11 28]<|u9 11 (s9 [o9 2 (.mv (k9 3))]<|.ret)<|s9 [m9 30 3,d9 31 .gtr 30 400,m9 29 31]<|u9 29 (s9 [o9 2
 (.mv (k9 10))]<|.ret)<|s9 [f9 33 0 1,l9 34 33,d9 35 .lss 34 0,m9 36 35,g9 37 (.fa 0 (.t 1)) 36 false,g9 38 (.load false 1 (.t 37)) 36 false,v9 39 3 36 false,g9 40 (.bin .sub (k9 16777216) (.t 39)) 36 false,g9 41 (.bin .gtr (.t
 38) (.t 40)) 36 false,w9 42 36 true 41,m9 32 42]<|u9 32 (s9 [o9 2 (.mv (k9 6))]<|.ret)<|.skip)<|.seq (s9 [c9 43 156 [.t 1],o9 44 (.mv (k9 0))]<|.block 1<|.loop<|s9 [d9 45 .lss 44 3]<|.seq (u9 45 (.skip)<|.exit 1)<|
 .seq (.block 2<|s9 [o9 46 (.pu (.Hy false 1 3) [.t 43,.t 44]),m9 5 46]<|s9 [m9 47 5,n9 48 47,o9 49 (.mv (k9 0))]<|.block 3<|.loop<|s9 [b9 50 .lss 49 48]<|.seq (u9 50 (.skip)<|.exit 3)<|.seq (.block 4<|s9 [x9 51 2
 47 49,q9 52 2 51,a9 7 2 24 (.agg [z9,z9]),t9 2 7 52]<|.seq (s9 [f9 53 0 7,l9 54 53,d9 55 .lss 54 0,m9 56 55,g9 57 (.fa 1 (.t 7)) 56 false,g9 58 (.load false 1 (.t 57)) 56 false,g9 59 (.bin .gtr (.t 58) (k9 274877906944)) 56
 false,w9 60 56 true 59]<|u9 60 (s9 [o9 2 (.mv (k9 1))]<|.ret)<|.skip)<|s9 [f9 61 0 7,l9 62 61,f9 63 1 7,l9 64 63,b9 65 .gtr 62 64]<|u9 65 (s9 [o9 2 (.mv (k9 48))]<|.ret)<|.skip)<|r9 [d9 66 .add 49 1,m9 49 66])<|r9
 [d9 67 .add 44 1,m9 44 67])<|s9 [o9 2 (.mv (k9 0))]<|.ret
abbrev yW:Nat:=147
theorem Ae:ar prog 147 [1000000]=some (qh,[.t 2],68):=by kernel_rfl
def oI:ay:=s9 [o9 1 (.box 4 88 (.t 0)),o9 2 (.mv (k9 0))]<|s9 [f9 4 2 1,l9 5 4,n9 6 5,m9 3 6]<|.seq (s9 [m9 7 3,d9 8 .lss 7 1,m9 9 8,g9 10 (.fa 3 (.t 1)) 9 false,g9 11 (.load false 1 (.t 10)) 9 false,g9 12
 (.len (.t 11)) 9 false,v9 13 3 9 false,g9 14 (.bin .neq (.t 12) (.t 13)) 9 false,w9 15 9 true 14,m9 16 15,g9 17 (.fa 1 (.t 1)) 16 false,g9 18 (.load false 1 (.t 17)) 16 false,g9 19 (.len (.t 18)) 16 false,v9 20 3 16 false,g9 21
 (.bin .add (.t 20) (k9 1)) 16 false,g9 22 (.bin .neq (.t 19) (.t 21)) 16 false,w9 23 16 true 22]<|u9 23 (s9 [o9 2 (.mv (k9 3))]<|.ret)<|.skip)<|.seq (s9 [m9 24 3,d9 25 .gtr 24 400]<|u9 25 (s9 [o9 2 (.mv (k9 10))]<|.ret)<|
 .skip)<|.seq (s9 [f9 26 0 1,l9 27 26,d9 28 .lss 27 0,m9 29 28,g9 30 (.fa 0 (.t 1)) 29 false,g9 31 (.load false 1 (.t 30)) 29 false,v9 32 3 29 false,g9 33 (.bin .sub (k9 16777216) (.t 32)) 29 false,g9 34 (.bin .gtr (.t 31) (.t
 33)) 29 false,w9 35 29 true 34]<|u9 35 (s9 [o9 2 (.mv (k9 6))]<|.ret)<|.skip)<|s9 [o9 2 (.mv (k9 0))]<|.ret
abbrev xm:Nat:=148
theorem xI:ar prog 148 [1000000]=some (oI,[.t 2],36):=by kernel_rfl
def gb:ay:=s9 [o9 4 (.mv (.c (.bool false)))]<|.seq (s9 [m9 6 0,n9 7 6,m9 8 1,n9 9 8,b9 10 .neq 7 9]<|u9 10 (s9 [o9 4 (.mv (.c (.bool false)))]<|.ret)<|.skip)<|.seq (s9 [m9 11 0,n9 12 11,o9 13
 (.mv (k9 0))]<|.block 0<|.loop<|s9 [b9 14 .lss 13 12]<|.seq (u9 14 (.skip)<|.exit 0)<|.seq (.block 1<|s9 [m9 15 13,m9 5 15]<|.seq (.aC [⟨5,m9 21 5⟩,⟨4,m9 20 1⟩,h9 6 22 (.bM 2 (.t 20) (.t 21)) [4,5],h9 7 23
 (.load true 2 (.t 22)) [6,4,5],⟨1,m9 17 5⟩,⟨0,m9 16 0⟩,h9 2 18 (.bM 2 (.t 16) (.t 17)) [0,1],h9 3 19 (.load true 2 (.t 18)) [2,0,1],h9 8 24 (.eqs true [0,0] (.t 19) (.t 23)) [3,7,2,0,1,6,4,5]])<|u9 24 (s9 [o9 4 (.mv (.c (.bool
 false)))]<|.ret)<|.skip)<|r9 [d9 25 .add 13 1,m9 13 25])<|s9 [o9 4 (.mv (.c (.bool true)))]<|.ret
abbrev nT:Nat:=149
theorem oh:ar prog 149 [1000000]=some (gb,[.t 4],26):=by kernel_rfl
def jk:ay:=s9 [o9 4 (.mv (.c (.bool false)))]<|.seq (s9 [m9 6 0,n9 7 6,m9 8 1,n9 9 8,b9 10 .neq 7 9]<|u9 10 (s9 [o9 4 (.mv (.c (.bool false)))]<|.ret)<|.skip)<|.seq (s9 [m9 11 0,n9 12 11,o9 13 (.mv
 (k9 0))]<|.block 0<|.loop<|s9 [b9 14 .lss 13 12]<|.seq (u9 14 (.skip)<|.exit 0)<|.seq (.block 1<|s9 [m9 15 13,m9 5 15]<|.seq (.aC [⟨5,m9 21 5⟩,⟨4,m9 20 1⟩,h9 6 22 (.bM 1 (.t 20) (.t 21)) [4,5],h9 7 23 (.load
 false 1 (.t 22)) [6,4,5],⟨1,m9 17 5⟩,⟨0,m9 16 0⟩,h9 2 18 (.bM 1 (.t 16) (.t 17)) [0,1],h9 3 19 (.load false 1 (.t 18)) [2,0,1],h9 8 24 (.bin .neq (.t 19) (.t 23)) [3,7,2,0,1,6,4,5]])<|u9 24 (s9 [o9 4 (.mv (.c (.bool false)))]<|
 .ret)<|.skip)<|r9 [d9 25 .add 13 1,m9 13 25])<|s9 [o9 4 (.mv (.c (.bool true)))]<|.ret
abbrev qO:Nat:=150
theorem qV:ar prog 150 [1000000]=some (jk,[.t 4],26):=by kernel_rfl
def rT:ay:=s9 [o9 2 (.mv (k9 0))]<|s9 [o9 3 (.mv (k9 0))]<|.seq (s9 [m9 5 0,o9 6 (.lens (.t 5)),d9 7 .sub 6 1,m9 4 7]<|.block 0<|.loop<|.seq (s9 [m9 8 4,d9 9 .geq 8 0]<|u9 9 (.skip)<|.exit 0)<|.seq
 (.block 1<|r9 [m9 12 3,o9 13 (.pu (.bit .shl) [.t 12,.c (.int .u64 8)]),m9 14 0,m9 15 4,o9 16 (.pu .DW [.t 14,.t 15]),o9 17 (.conv .i64 (.t 16)),o9 18 (.pu (.bit .or) [.t 13,.t 17]),m9 3 18])<|r9 [m9 10 4,d9 11 .sub 10 1,
 m9 4 11])<|s9 [m9 19 3,m9 2 19]<|.ret
abbrev rm:Nat:=151
theorem Bg:ar prog 151 [1000000]=some (rT,[.t 2],20):=by kernel_rfl
def gk:ay:=s9 [o9 2 (.fj 2 24)]<|.seq (s9 [m9 3 0,o9 4 (.kx false (.t 3))]<|u9 4 (s9 [o9 2 (.fj 2 24)]<|.ret)<|.skip)<|s9 [o9 5 (.lit true 2 24 []),m9 6 0,o9 7 (.app 2 16 24 (.t 5) (.t 6)),
 m9 2 7]<|.ret
abbrev fM:Nat:=153
theorem gr:ar prog 153 [2,5]=some (gk,[.t 2],8):=by kernel_rfl
def qg:ay:=s9 [a9 2 3 207 (.agg [.nil,.nil,.nil])]<|.seq (.aC [⟨8,m9 11 0⟩,h9 9 12 (.aY (.t 11)) [8],h9 10 13 (.fa 3 (.t 12)) [9,8],h9 11 14 (.load false 1 (.t 13)) [10,9,8],⟨4,m9 7 0⟩,h9 5 8 (.aY
 (.t 7)) [4],h9 6 9 (.fa 2 (.t 8)) [5,4],h9 7 10 (.load false 1 (.t 9)) [6,5,4],⟨0,m9 3 0⟩,h9 1 4 (.aY (.t 3)) [0],h9 2 5 (.fa 1 (.t 4)) [1,0],h9 3 6 (.load false 1 (.t 5)) [2,1,0],h9 12 15 (.build [.nil,.nil,.nil] [(0,1,.t
 6),(1,1,.t 10),(2,1,.t 14)]) [3,7,11,2,1,0,6,5,4,10,9,8],⟨13,⟨none,.store 3 (.t 2) (.t 15),none,[12,0,1,2,3,4,5,6,7,8,9,10,11]⟩⟩])<|.ret
abbrev yV:Nat:=156
theorem Ad:ar prog 156 [1000000]=some (qg,[.c 2 true 3],16):=by kernel_rfl
end Go.Proofs.Try
