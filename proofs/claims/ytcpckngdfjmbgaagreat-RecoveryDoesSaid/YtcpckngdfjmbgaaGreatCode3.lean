/- OWN WORK, put together by tools/asm.py, seat.py, mini.py. -/
import Derived.Test.YtcpckngdfjmbgaaGreatCode2
namespace Go.Proofs.Try
open Go Go.Ab Go.Proofs.Tryz
def qH:ay:=s9 [o9 1 (.box 4 88 (.t 0)),o9 2 (.mv (k9 0))]<|s9 [f9 8 2 1,l9 9 8,n9 10 9,m9 3 10]<|.seq (.block 0<|s9 [m9 12 3,d9 13 .eql 12 0,m9 14 13,g9 15 (.fa 3 (.t 1)) 14 false,g9 16 (.load false 1 (.t
 15)) 14 false,g9 17 (.len (.t 16)) 14 false,v9 18 3 14 false,g9 19 (.bin .neq (.t 17) (.t 18)) 14 false,w9 20 14 true 19,m9 21 20,g9 22 (.fa 1 (.t 1)) 21 false,g9 23 (.load false 1 (.t 22)) 21 false,g9 24 (.len (.t 23)) 21 false,
 v9 25 3 21 false,g9 26 (.bin .add (.t 25) (k9 1)) 21 false,g9 27 (.bin .neq (.t 24) (.t 26)) 21 false,w9 28 21 true 27,m9 11 28]<|u9 11 (s9 [o9 2 (.mv (k9 3))]<|.ret)<|s9 [m9 30 3,d9 31 .gtr 30 400,m9 29 31]<|u9 29 (s9 [o9 2
 (.mv (k9 10))]<|.ret)<|s9 [f9 33 0 1,l9 34 33,d9 35 .lss 34 0,m9 36 35,g9 37 (.fa 0 (.t 1)) 36 false,g9 38 (.load false 1 (.t 37)) 36 false,v9 39 3 36 false,g9 40 (.bin .sub (k9 16777216) (.t 39)) 36 false,g9 41 (.bin .gtr (.t
 38) (.t 40)) 36 false,w9 42 36 true 41,m9 32 42]<|u9 32 (s9 [o9 2 (.mv (k9 6))]<|.ret)<|.skip)<|.seq (s9 [c9 43 156 [.t 1],o9 44 (.mv (k9 0))]<|.block 1<|.loop<|s9 [d9 45 .lss 44 3]<|.seq (u9 45 (.skip)<|.exit 1)<|
 .seq (.block 2<|s9 [o9 46 (.pu (.Iw false 1 3) [.t 43,.t 44]),m9 5 46]<|s9 [m9 47 5,n9 48 47,o9 49 (.mv (k9 0))]<|.block 3<|.loop<|s9 [b9 50 .lss 49 48]<|.seq (u9 50 (.skip)<|.exit 3)<|.seq (.block 4<|s9 [x9 51 2
 47 49,q9 52 2 51,a9 7 2 24 (.agg [z9,z9]),t9 2 7 52]<|.seq (s9 [f9 53 0 7,l9 54 53,d9 55 .lss 54 0,m9 56 55,g9 57 (.fa 1 (.t 7)) 56 false,g9 58 (.load false 1 (.t 57)) 56 false,g9 59 (.bin .gtr (.t 58) (k9 274877906944)) 56
 false,w9 60 56 true 59]<|u9 60 (s9 [o9 2 (.mv (k9 1))]<|.ret)<|.skip)<|s9 [f9 61 0 7,l9 62 61,f9 63 1 7,l9 64 63,b9 65 .gtr 62 64]<|u9 65 (s9 [o9 2 (.mv (k9 48))]<|.ret)<|.skip)<|r9 [d9 66 .add 49 1,m9 49 66])<|r9
 [d9 67 .add 44 1,m9 44 67])<|s9 [o9 2 (.mv (k9 0))]<|.ret
abbrev z8:Nat:=147
theorem A4:aq prog 147 [1000000]=some (qH,[.t 2],68):=by kernel_rfl
def ph:ay:=s9 [o9 1 (.box 4 88 (.t 0)),o9 2 (.mv (k9 0))]<|s9 [f9 4 2 1,l9 5 4,n9 6 5,m9 3 6]<|.seq (s9 [m9 7 3,d9 8 .lss 7 1,m9 9 8,g9 10 (.fa 3 (.t 1)) 9 false,g9 11 (.load false 1 (.t 10)) 9 false,g9 12
 (.len (.t 11)) 9 false,v9 13 3 9 false,g9 14 (.bin .neq (.t 12) (.t 13)) 9 false,w9 15 9 true 14,m9 16 15,g9 17 (.fa 1 (.t 1)) 16 false,g9 18 (.load false 1 (.t 17)) 16 false,g9 19 (.len (.t 18)) 16 false,v9 20 3 16 false,g9 21
 (.bin .add (.t 20) (k9 1)) 16 false,g9 22 (.bin .neq (.t 19) (.t 21)) 16 false,w9 23 16 true 22]<|u9 23 (s9 [o9 2 (.mv (k9 3))]<|.ret)<|.skip)<|.seq (s9 [m9 24 3,d9 25 .gtr 24 400]<|u9 25 (s9 [o9 2 (.mv (k9 10))]<|.ret)<|
 .skip)<|.seq (s9 [f9 26 0 1,l9 27 26,d9 28 .lss 27 0,m9 29 28,g9 30 (.fa 0 (.t 1)) 29 false,g9 31 (.load false 1 (.t 30)) 29 false,v9 32 3 29 false,g9 33 (.bin .sub (k9 16777216) (.t 32)) 29 false,g9 34 (.bin .gtr (.t 31) (.t
 33)) 29 false,w9 35 29 true 34]<|u9 35 (s9 [o9 2 (.mv (k9 6))]<|.ret)<|.skip)<|s9 [o9 2 (.mv (k9 0))]<|.ret
abbrev yj:Nat:=148
theorem yF:aq prog 148 [1000000]=some (ph,[.t 2],36):=by kernel_rfl
def gj:ay:=s9 [o9 4 (.mv (.c (.bool false)))]<|.seq (s9 [m9 6 0,n9 7 6,m9 8 1,n9 9 8,b9 10 .neq 7 9]<|u9 10 (s9 [o9 4 (.mv (.c (.bool false)))]<|.ret)<|.skip)<|.seq (s9 [m9 11 0,n9 12 11,o9 13
 (.mv (k9 0))]<|.block 0<|.loop<|s9 [b9 14 .lss 13 12]<|.seq (u9 14 (.skip)<|.exit 0)<|.seq (.block 1<|s9 [m9 15 13,m9 5 15]<|.seq (.aB [⟨5,m9 21 5⟩,⟨4,m9 20 1⟩,h9 6 22 (.bE 2 (.t 20) (.t 21)) [4,5],h9 7 23
 (.load true 2 (.t 22)) [6,4,5],⟨1,m9 17 5⟩,⟨0,m9 16 0⟩,h9 2 18 (.bE 2 (.t 16) (.t 17)) [0,1],h9 3 19 (.load true 2 (.t 18)) [2,0,1],h9 8 24 (.eqs true [0,0] (.t 19) (.t 23)) [3,7,2,0,1,6,4,5]])<|u9 24 (s9 [o9 4 (.mv (.c (.bool
 false)))]<|.ret)<|.skip)<|r9 [d9 25 .add 13 1,m9 13 25])<|s9 [o9 4 (.mv (.c (.bool true)))]<|.ret
abbrev oz:Nat:=149
theorem oM:aq prog 149 [1000000]=some (gj,[.t 4],26):=by kernel_rfl
def jR:ay:=s9 [o9 4 (.mv (.c (.bool false)))]<|.seq (s9 [m9 6 0,n9 7 6,m9 8 1,n9 9 8,b9 10 .neq 7 9]<|u9 10 (s9 [o9 4 (.mv (.c (.bool false)))]<|.ret)<|.skip)<|.seq (s9 [m9 11 0,n9 12 11,o9 13 (.mv
 (k9 0))]<|.block 0<|.loop<|s9 [b9 14 .lss 13 12]<|.seq (u9 14 (.skip)<|.exit 0)<|.seq (.block 1<|s9 [m9 15 13,m9 5 15]<|.seq (.aB [⟨5,m9 21 5⟩,⟨4,m9 20 1⟩,h9 6 22 (.bE 1 (.t 20) (.t 21)) [4,5],h9 7 23 (.load
 false 1 (.t 22)) [6,4,5],⟨1,m9 17 5⟩,⟨0,m9 16 0⟩,h9 2 18 (.bE 1 (.t 16) (.t 17)) [0,1],h9 3 19 (.load false 1 (.t 18)) [2,0,1],h9 8 24 (.bin .neq (.t 19) (.t 23)) [3,7,2,0,1,6,4,5]])<|u9 24 (s9 [o9 4 (.mv (.c (.bool false)))]<|
 .ret)<|.skip)<|r9 [d9 25 .add 13 1,m9 13 25])<|s9 [o9 4 (.mv (.c (.bool true)))]<|.ret
abbrev rB:Nat:=150
theorem rH:aq prog 150 [1000000]=some (jR,[.t 4],26):=by kernel_rfl
def sJ:ay:=s9 [o9 2 (.mv (k9 0))]<|s9 [o9 3 (.mv (k9 0))]<|.seq (s9 [m9 5 0,o9 6 (.lens (.t 5)),d9 7 .sub 6 1,m9 4 7]<|.block 0<|.loop<|.seq (s9 [m9 8 4,d9 9 .geq 8 0]<|u9 9 (.skip)<|.exit 0)<|.seq
 (.block 1<|r9 [m9 12 3,o9 13 (.pu (.bit .shl) [.t 12,.c (.int .u64 8)]),m9 14 0,m9 15 4,o9 16 (.pu .EM [.t 14,.t 15]),o9 17 (.conv .i64 (.t 16)),o9 18 (.pu (.bit .or) [.t 13,.t 17]),m9 3 18])<|r9 [m9 10 4,d9 11 .sub 10 1,
 m9 4 11])<|s9 [m9 19 3,m9 2 19]<|.ret
abbrev rV:Nat:=151
theorem Ca:aq prog 151 [1000000]=some (sJ,[.t 2],20):=by kernel_rfl
def gq:ay:=s9 [o9 2 (.fA 2 24)]<|.seq (s9 [m9 3 0,o9 4 (.kW false (.t 3))]<|u9 4 (s9 [o9 2 (.fA 2 24)]<|.ret)<|.skip)<|s9 [o9 5 (.lit true 2 24 []),m9 6 0,o9 7 (.app 2 16 24 (.t 5) (.t 6)),
 m9 2 7]<|.ret
abbrev fQ:Nat:=153
theorem gC:aq prog 153 [2,5]=some (gq,[.t 2],8):=by kernel_rfl
def qG:ay:=s9 [a9 2 3 207 (.agg [.nil,.nil,.nil])]<|.seq (.aB [⟨8,m9 11 0⟩,h9 9 12 (.ba (.t 11)) [8],h9 10 13 (.fa 3 (.t 12)) [9,8],h9 11 14 (.load false 1 (.t 13)) [10,9,8],⟨4,m9 7 0⟩,h9 5 8 (.ba
 (.t 7)) [4],h9 6 9 (.fa 2 (.t 8)) [5,4],h9 7 10 (.load false 1 (.t 9)) [6,5,4],⟨0,m9 3 0⟩,h9 1 4 (.ba (.t 3)) [0],h9 2 5 (.fa 1 (.t 4)) [1,0],h9 3 6 (.load false 1 (.t 5)) [2,1,0],h9 12 15 (.build [.nil,.nil,.nil] [(0,1,.t
 6),(1,1,.t 10),(2,1,.t 14)]) [3,7,11,2,1,0,6,5,4,10,9,8],⟨13,⟨none,.store 3 (.t 2) (.t 15),none,[12,0,1,2,3,4,5,6,7,8,9,10,11]⟩⟩])<|.ret
abbrev zZ:Nat:=156
theorem A3:aq prog 156 [1000000]=some (qG,[.c 2 true 3],16):=by kernel_rfl
end Go.Proofs.Try
