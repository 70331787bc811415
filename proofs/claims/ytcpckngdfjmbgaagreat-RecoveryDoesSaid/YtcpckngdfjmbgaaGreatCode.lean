/- OWN WORK, put together by tools/asm.py, seat.py, mini.py. -/
import Derived.Test.YtcpckngdfjmbgaaGreatBaseS
import Derived.Test.YtcpckngdfjmbgaaGreatProg
import Derived.KernelRfl
namespace Go.Proofs.Try
open Go Go.Ab Go.Proofs.Tryz
abbrev o9 (d:Nat) (x:aO):aT:=⟨some d,x,none,[]⟩
@[go_sem] theorem U0 (d:Nat) (x:aO):o9 d x=⟨some d,x,none,[]⟩:=(rfl)
abbrev m9 (d s:Nat):aT:=⟨some d,.mv (.t s),none,[]⟩
@[go_sem] theorem U2 (d s:Nat):m9 d s=⟨some d,.mv (.t s),none,[]⟩:=(rfl)
abbrev h9 (p d:Nat) (x:aO) (a:List Nat):HS:=⟨p,⟨some d,x,none,a⟩⟩
@[go_sem] theorem U3 (p d:Nat) (x:aO) (a:List Nat):h9 p d x a=⟨p,⟨some d,x,none,a⟩⟩:=(rfl)
abbrev s9 (l:List aT) (k:ay):ay:=.seq (.region l none) k
abbrev r9 (l:List aT):ay:=.region l none
abbrev u9 (c:Nat) (a b:ay):ay:=.cond (.t c) a b
abbrev z9:AV:=.int .i64 0
abbrev k9 (n:Int):AX:=.c (.int .i64 n)
abbrev t9 (n p v:Nat):aT:=⟨none,.store n (.t p) (.t v),none,[]⟩
abbrev g9 (d:Nat) (x:aO) (s:Nat) (b:Bool):aT:=⟨some d,x,some (s,b),[]⟩
abbrev v9 (d x s:Nat) (b:Bool):aT:=⟨some d,.mv (.t x),some (s,b),[]⟩
abbrev l9 (d p:Nat):aT:=⟨some d,.load false 1 (.t p),none,[]⟩
abbrev q9 (d n p:Nat):aT:=⟨some d,.load true n (.t p),none,[]⟩
abbrev f9 (d k p:Nat):aT:=⟨some d,.fa k (.t p),none,[]⟩
abbrev e9 (d p k:Nat):aT:=⟨some d,.ext (.t p) k,none,[]⟩
abbrev b9 (d:Nat) (o:BinOp) (x y:Nat):aT:=⟨some d,.bin o (.t x) (.t y),none,[]⟩
abbrev d9 (d:Nat) (o:BinOp) (x:Nat) (n:Int):aT:=⟨some d,.bin o (.t x) (.c (.int .i64 n)),none,[]⟩
abbrev c9 (d f:Nat) (l:List AX):aT:=⟨some d,.call f l,none,[]⟩
abbrev x9 (d n x i:Nat):aT:=⟨some d,.bE n (.t x) (.t i),none,[]⟩
abbrev p9 (d c x:Nat) (b:Bool):aT:=⟨some d,.pick (.t c) (.t x) (.c (.bool b)),none,[]⟩
abbrev w9 (d c:Nat) (b:Bool) (x:Nat):aT:=⟨some d,.pick (.t c) (.c (.bool b)) (.t x),none,[]⟩
abbrev n9 (d x:Nat):aT:=⟨some d,.len (.t x),none,[]⟩
abbrev a9 (d n:Nat) (y:TypeId) (z:AV):aT:=⟨some d,.alloc n y z,none,[]⟩
theorem lF:Hy prog 154=some (Extern.SlicesOverlaps.overlaps #[38,38] #[4]):=by kernel_rfl
theorem kh:JQ prog 38=true:=by kernel_rfl
def jd:ay:=s9 [o9 4 (.box 21 32 (.t 1)),o9 6 (.mv (.c (.bool false)))]<|.seq (s9 [c9 21 7 [],o9 22 (.un .not (.t 21))]<|u9 22 (s9 [o9 6 (.mv (.c (.bool false)))]<|.ret)<|.skip)<|.seq (s9 [m9 23 0,c9 24
 8 [.t 23],o9 25 (.un .not (.t 24)),m9 26 25,v9 27 2 26 false,g9 28 (.lens (.t 27)) 26 false,g9 29 (.bin .gtr (.t 28) (k9 300)) 26 false,w9 30 26 true 29,m9 31 30,g9 32 (.fa 7 (.t 4)) 31 false,g9 33 (.fa 5 (.t 32)) 31 false,g9 34
 (.load false 1 (.t 33)) 31 false,g9 35 (.len (.t 34)) 31 false,g9 36 (.bin .gtr (.t 35) (k9 100)) 31 false,w9 37 31 true 36]<|u9 37 (s9 [o9 6 (.mv (.c (.bool true)))]<|.ret)<|.skip)<|s9 [m9 38 0,c9 39 9 [.t 38],m9 7 39]<|s9
 [m9 40 7,c9 41 10 [.t 40],a9 8 7 49 (.agg [.nil,.nil,.nil,z9,.nil,z9,.nil]),t9 7 8 41]<|s9 [q9 42 7 8,c9 43 11 [.t 42],a9 9 7 49 (.agg [.nil,.nil,.nil,z9,.nil,z9,.nil]),t9 7 9 43]<|s9 [f9 44 0 4,l9 45 44,c9 46 12
 [.t 45,k9 3],d9 47 .sub 46 1,f9 48 5 9,f9 49 0 48,t9 1 49 47]<|s9 [q9 50 7 8,c9 51 11 [.t 50],a9 10 7 49 (.agg [.nil,.nil,.nil,z9,.nil,z9,.nil]),t9 7 10 51]<|s9 [f9 52 2 10,f9 53 1 52,⟨none,.store 1 (.t 53) (k9 0),
 none,[]⟩]<|.seq (s9 [q9 54 7 8,q9 55 7 9,q9 56 7 10,o9 57 (.lit false 7 49 [.t 54,.t 55,.t 56]),n9 58 57,o9 59 (.mv (k9 0))]<|.block 0<|.loop<|s9 [b9 60 .lss 59 58]<|.seq (u9 60 (.skip)<|.exit 0)<|.seq (.block 1<|
 s9 [x9 61 7 57 59,q9 62 7 61,a9 12 7 49 (.agg [.nil,.nil,.nil,z9,.nil,z9,.nil]),t9 7 12 62]<|.seq (.seq (.aB [⟨9,o9 72 (.mv (k9 0))⟩,⟨5,q9 68 7 8⟩,⟨4,m9 67 7⟩,⟨2,q9 65 7 8⟩,⟨1,m9 64 7⟩,⟨0,q9 63 21 4⟩,h9 3 66
 (.call 13 [.t 64,.t 65]) [1,2],h9 6 69 (.call 13 [.t 67,.t 68]) [4,5,3,1,2],h9 7 70 (.lit false 21 32 [.t 63,.t 66,.t 69]) [0,3,6,1,2,4,5],h9 8 71 (.len (.t 70)) [7,0,3,6,1,2,4,5]])<|.block 2<|.loop<|s9 [b9 73 .lss 72 71]<|
 .seq (u9 73 (.skip)<|.exit 2)<|.seq (.block 3<|s9 [x9 74 21 70 72,q9 75 21 74,a9 14 21 32 (.agg [z9,z9,z9,z9,z9,z9,z9,z9,z9,z9,z9,z9,.nil,.bool false,z9,z9,z9,z9,z9,z9,z9]),t9 21 14 75]<|s9 [q9 77 7 12,q9
 78 21 14,c9 79 14 [.t 77,.t 78],m9 76 79,e9 80 76 0,e9 81 76 1,a9 15 7 49 (.agg [.nil,.nil,.nil,z9,.nil,z9,.nil]),t9 7 15 80,m9 16 81]<|s9 [q9 83 7 12,q9 84 21 14,c9 85 15 [.t 83,.t 84],m9 82 85,e9 86 82 0,e9 87 82
 1,a9 17 7 49 (.agg [.nil,.nil,.nil,z9,.nil,z9,.nil]),t9 7 17 86,m9 18 87]<|.seq (s9 [m9 88 16,m9 89 18,b9 90 .neq 88 89,m9 91 90,g9 92 (.load true 7 (.t 15)) 91 false,g9 93 (.load true 7 (.t 17)) 91 false,g9 94 (.call 16
 [.t 92,.t 93]) 91 false,g9 95 (.un .not (.t 94)) 91 false,w9 96 91 true 95]<|u9 96 (s9 [o9 6 (.mv (.c (.bool false)))]<|.ret)<|.skip)<|s9 [q9 98 7 12,m9 99 2,q9 100 21 14,c9 101 17 [.t 98,.t 99,.t 100],m9 97 101,e9 102
 97 0,e9 103 97 1,e9 104 97 2,t9 7 15 102,m9 19 103,m9 16 104]<|s9 [q9 106 7 12,m9 107 2,q9 108 21 14,c9 109 18 [.t 106,.t 107,.t 108],m9 105 109,e9 110 105 0,e9 111 105 1,e9 112 105 2,t9 7 17 110,m9 20 111,m9 18 112]<|
 s9 [m9 113 16,m9 114 18,b9 115 .neq 113 114,m9 116 115,v9 117 19 116 false,v9 118 20 116 false,g9 119 (.bin .neq (.t 117) (.t 118)) 116 false,w9 120 116 true 119,m9 121 120,g9 122 (.load true 7 (.t 15)) 121 false,g9 123 (.load
 true 7 (.t 17)) 121 false,g9 124 (.call 16 [.t 122,.t 123]) 121 false,g9 125 (.un .not (.t 124)) 121 false,w9 126 121 true 125]<|u9 126 (s9 [o9 6 (.mv (.c (.bool false)))]<|.ret)<|.skip)<|r9 [d9 127 .add 72 1,m9 72 127])<|
 .seq (.aB [⟨2,q9 130 7 12⟩,⟨0,q9 128 7 12⟩,h9 1 129 (.call 19 [.t 128]) [0],h9 3 131 (.call 20 [.t 130]) [2,1,0],h9 4 132 (.bin .neq (.t 129) (.t 131)) [1,3,0,2],h9 5 133 (.mv (.t 132)) [4,3,1,0,2],⟨10,⟨some 138,.load true
 7 (.t 8),some (133,false),[5,4,3,1,0,2]⟩⟩,⟨9,⟨some 137,.load true 7 (.t 12),some (133,false),[5,4,3,1,0,2]⟩⟩,⟨7,⟨some 135,.load true 7 (.t 8),some (133,false),[5,4,3,1,0,2]⟩⟩,⟨6,⟨some 134,.load true 7 (.t
 12),some (133,false),[5,4,3,1,0,2]⟩⟩,⟨8,⟨some 136,.call 21 [.t 134,.t 135],some (133,false),[6,7,5,4,3,1,0,2]⟩⟩,⟨11,⟨some 139,.call 16 [.t 137,.t 138],some (133,false),[9,10,8,5,4,3,1,0,2,6,7]⟩⟩,
 ⟨12,⟨some 140,.F9 true (.t 136) (.t 139),some (133,false),[8,11,5,6,7,4,3,1,0,2,9,10]⟩⟩,h9 13 141 (.pick (.t 133) (.c (.bool true)) (.t 140)) [5,12,4,3,1,0,2,8,11,6,7,9,10]])<|u9 141 (s9 [o9 6 (.mv (.c (.bool false)))]
 <| .ret)<|.skip)<|r9 [d9 142 .add 59 1,m9 59 142])<|s9 [o9 6 (.mv (.c (.bool true)))]<|.ret
abbrev iX:Nat:=3
theorem qN:aq prog 3 [1000000]=some (jd,[.t 6],143):=by kernel_rfl
def vr:ay:=s9 [o9 0 (.mv (.c (.bool false)))]<|s9 [o9 8 (.build [.nil,z9,.nil] [(1,1,k9 1)]),o9 9 (.build [z9,.nil] [(0,1,k9 1)]),o9 10 (.build [.nil,.nil,.nil,z9,.nil,z9,.nil] [(2,3,.t 8),(5,2,.t
 9)]),a9 1 7 49 (.agg [.nil,.nil,.nil,z9,.nil,z9,.nil]),t9 7 1 10]<|s9 [q9 12 7 1,o9 13 (.build [z9,z9,z9,z9] [(1,1,k9 1),(3,1,k9 9)]),o9 14 (.build [z9,z9,z9,z9,z9,z9,z9,z9,z9,z9,z9,z9,.nil,.bool false,
 z9,z9,z9,z9,z9,z9,z9] [(0,1,k9 5),(17,4,.t 13)]),c9 15 17 [.t 12,.c (.str ⟨#[]⟩),.t 14],m9 11 15,e9 16 11 0,e9 17 11 1,e9 18 11 2,a9 2 7 49 (.agg [.nil,.nil,.nil,z9,.nil,z9,.nil]),t9 7 2 16,m9 3 17,m9 4 18]<|
 s9 [q9 20 7 1,m9 21 3,o9 22 (.bin .add (.t 21) (.c (.str ⟨#[116,111,114,110]⟩))),c9 23 24 [.t 20,.t 22,k9 0],m9 19 23,e9 24 19 0,e9 25 19 1,e9 26 19 2,a9 5 7 49 (.agg [.nil,.nil,.nil,z9,.nil,z9,.nil]),t9 7 5 24,m9 6
 25,m9 7 26]<|s9 [m9 27 4,d9 28 .eql 27 0,m9 29 28,v9 30 7 29 true,g9 31 (.bin .eql (.t 30) (k9 0)) 29 true,p9 32 29 31 false,m9 33 32,v9 34 6 33 true,g9 35 (.bin .eql (.t 34) (k9 1)) 33 true,p9 36 33 35 false,m9 37 36,g9 38
 (.load true 7 (.t 2)) 37 true,g9 39 (.load true 7 (.t 5)) 37 true,g9 40 (.call 21 [.t 38,.t 39]) 37 true,p9 41 37 40 false,m9 42 41,g9 43 (.fa 5 (.t 5)) 42 true,g9 44 (.fa 1 (.t 43)) 42 true,g9 45 (.load false 1 (.t 44)) 42 true,
 g9 46 (.len (.t 45)) 42 true,g9 47 (.bin .eql (.t 46) (k9 1)) 42 true,p9 48 42 47 false,m9 49 48,g9 50 (.fa 5 (.t 5)) 49 true,g9 51 (.fa 1 (.t 50)) 49 true,g9 52 (.load false 1 (.t 51)) 49 true,g9 53 (.bE 4 (.t 52) (k9 0)) 49
 true,g9 54 (.fa 3 (.t 53)) 49 true,g9 55 (.load false 1 (.t 54)) 49 true,g9 56 (.bin .eql (.t 55) (k9 9)) 49 true,p9 57 49 56 false,m9 58 57,g9 59 (.load true 7 (.t 1)) 58 true,g9 60 (.call 19 [.t 59]) 58 true,g9 61 (.bin .eql (.t
 60) (k9 0)) 58 true,p9 62 58 61 false,m9 0 62]<|.ret
abbrev DJ:Nat:=7
theorem Eo:aq prog 7 [1000000]=some (vr,[.t 0],63):=by kernel_rfl
def FI:ay:=s9 [o9 2 (.mv (.c (.bool false)))]<|s9 [m9 3 0,n9 4 3,d9 5 .leq 4 500,m9 2 5]<|.ret
abbrev Jo:Nat:=8
theorem Ka:aq prog 8 [1000000]=some (FI,[.t 2],6):=by kernel_rfl
def FG:ay:=s9 [o9 2 (.mv (.c (.jo)))]<|s9 [m9 3 0,o9 4 (.build [.nil,z9] [(0,1,.t 3)]),o9 5 (.box 2 75 (.t 4)),m9 2 5]<|.ret
abbrev Jm:Nat:=9
theorem J8:aq prog 9 []=some (FG,[.t 2],6):=by kernel_rfl
def xL:ay:=s9 [a9 2 7 49 (.agg [.nil,.nil,.nil,z9,.nil,z9,.nil])]<|s9 [m9 8 0,c9 9 27 [.t 8],m9 7 9,e9 10 7 0,e9 11 7 1,a9 3 2 40 (.agg [.nil,.nil]),t9 2 3 10,m9 4 11]<|s9 [m9 13 0,c9 14 28 [.t 13],m9 12
 14,e9 15 12 0,e9 16 12 1,a9 5 2 47 (.agg [z9,.nil]),a9 6 2 80 (.agg [z9,.nil]),t9 2 5 15,t9 2 6 16]<|.seq (.aB [⟨3,q9 20 2 5⟩,⟨1,m9 18 0⟩,⟨0,q9 17 2 3⟩,h9 2 19 (.call 29 [.t 18]) [1],h9 4 21 (.build [.nil,.nil,
 .nil,z9,.nil,z9,.nil] [(0,2,.t 17),(2,3,.t 19),(5,2,.t 20)]) [0,2,3,1],⟨5,⟨none,.store 7 (.t 2) (.t 21),none,[4,2,0,1,3]⟩⟩])<|.ret
abbrev E8:Nat:=10
theorem FR:aq prog 10 [1000000]=some (xL,[.c 2 true 7],22):=by kernel_rfl
def u4:ay:=s9 [o9 1 (.box 7 49 (.t 0)),a9 2 7 49 (.agg [.nil,.nil,.nil,z9,.nil,z9,.nil])]<|.seq (.aB [⟨9,f9 12 5 1⟩,h9 10 13 (.fa 1 (.t 12)) [9],h9 11 14 (.load false 1 (.t 13)) [10,9],⟨6,f9 9 5 1⟩,h9 7
 10 (.fa 0 (.t 9)) [6],h9 8 11 (.load false 1 (.t 10)) [7,6],⟨3,f9 6 2 1⟩,h9 4 7 (.load true 3 (.t 6)) [3],⟨0,f9 3 0 1⟩,h9 1 4 (.load true 2 (.t 3)) [0],h9 2 5 (.call 30 [.t 4]) [1,0],h9 5 8 (.call 31 [.t 7]) [4,2,3,1,0],h9 12 15
 (.app 4 32 30 (.c (.nil)) (.t 14)) [11,5,10,9,4,2,3,1,0],h9 13 16 (.build [z9,.nil] [(0,1,.t 11),(1,1,.t 15)]) [8,12,7,6,11,5,10,9,4,2,3,1,0],h9 14 17 (.build [.nil,.nil,.nil,z9,.nil,z9,.nil] [(0,2,.t 5),(2,3,.t 8),(5,
 2,.t 16)]) [2,5,13,1,0,4,3,8,12,7,6,11,10,9],⟨15,⟨none,.store 7 (.t 2) (.t 17),none,[14,12,0,1,2,3,4,5,6,7,8,9,10,11,13]⟩⟩])<|.ret
abbrev Dx:Nat:=11
theorem Eb:aq prog 11 [1000000]=some (u4,[.c 2 true 7],18):=by kernel_rfl
def FH:ay:=s9 [o9 4 (.mv (k9 0))]<|s9 [m9 5 0,m9 6 1,b9 7 .rem 5 6,m9 8 1,b9 9 .add 7 8,m9 10 1,b9 11 .rem 9 10,m9 4 11]<|.ret
abbrev Jn:Nat:=12
theorem J9:aq prog 12 []=some (FH,[.t 4],12):=by kernel_rfl
def sL:ay:=s9 [o9 3 (.box 7 49 (.t 1)),a9 4 21 32 (.agg [z9,z9,z9,z9,z9,z9,z9,z9,z9,z9,z9,z9,.nil,.bool false,z9,z9,z9,z9,z9,z9,z9])]<|s9 [m9 14 0,c9 15 22 [.t 14,k9 6],o9 16 (.bin .add (k9 1)
 (.t 15)),o9 17 (.build [z9,z9,z9,z9,z9,z9,z9,z9,z9,z9,z9,z9,.nil,.bool false,z9,z9,z9,z9,z9,z9,z9] [(0,1,.t 16)]),a9 5 21 32 (.agg [z9,z9,z9,z9,z9,z9,z9,z9,z9,z9,z9,z9,.nil,.bool false,z9,z9,z9,z9,
 z9,z9,z9]),t9 21 5 17]<|.seq (s9 [f9 18 0 5,l9 19 18]<|.block 0<|s9 [d9 28 .eql 19 1,m9 27 28]<|u9 27 (s9 [f9 29 0 3,f9 30 0 29,l9 31 30,n9 32 31,d9 33 .gtr 32 0]<|u9 33 (s9 [m9 34 0,f9 35 0 3,f9 36 0 35,l9 37 36,n9
 38 37,c9 39 22 [.t 34,.t 38],m9 6 39]<|s9 [f9 40 0 3,f9 41 0 40,l9 42 41,m9 43 6,x9 44 4 42 43,q9 45 4 44,a9 7 4 88 (.agg [z9,.nil,.nil,.nil]),t9 4 7 45]<|s9 [q9 47 4 7,c9 48 32 [.t 47],m9 46 48,e9 49 46 0,e9 50 46 1,
 e9 51 46 2,e9 52 46 3,m9 8 49,m9 9 50,m9 10 51,m9 11 52]<|s9 [m9 53 11,d9 54 .eql 53 0]<|u9 54 (.aB [⟨7,m9 62 0⟩,⟨6,m9 61 6⟩,⟨4,m9 59 10⟩,⟨3,m9 58 9⟩,⟨2,m9 57 8⟩,h9 5 60 (.build [.nil,.nil,.nil] [(0,1,.t 57),
 (1,1,.t 58),(2,1,.t 59)]) [2,3,4],⟨1,q9 56 4 7⟩,⟨0,m9 55 0⟩,h9 8 63 (.call 22 [.t 62,k9 30]) [7],h9 9 64 (.bin .add (k9 1) (.t 63)) [8,7],h9 10 65 (.call 33 [.t 55,.t 56,.t 60,.t 61,.t 64]) [0,1,5,6,9,8,2,3,4,7],h9 11 66
 (.fa 1 (.t 5)) [0,1,2,3,4,5,6,7,8,9,10],⟨12,⟨none,.store 6 (.t 66) (.t 65),none,[11,10,0,1,2,3,4,5,6,7,8,9]⟩⟩])<|.skip)<|.skip)<|s9 [d9 68 .eql 19 2,m9 67 68]<|u9 67 (s9 [m9 69 0,c9 70 22 [.t 69,k9 12],m9 12
 70]<|r9 [m9 71 0,c9 72 22 [.t 71,k9 3],m9 73 12,m9 74 12,m9 75 0,c9 76 22 [.t 75,k9 12],b9 77 .add 74 76,m9 78 0,c9 79 22 [.t 78,k9 60],o9 80 (.build [z9,z9,z9,z9,z9,.nil,.bool false] [(1,1,.t 72),(2,1,.t 73),(3,
 1,.t 77),(4,1,.t 79)]),f9 81 7 5,t9 7 81 80])<|.seq (s9 [d9 83 .eql 19 3,m9 82 83]<|u9 82 (.skip)<|r9 [d9 84 .eql 19 4,m9 82 84])<|u9 82 (s9 [m9 86 0,f9 87 2 3,q9 88 3 87,c9 89 34 [.t 86,.t 88,k9 0],m9 85 89,e9 90
 85 0,e9 91 85 1,e9 92 85 2,f9 93 7 5,f9 94 0 93,t9 1 94 90,f9 95 14 5,t9 1 95 91,f9 96 15 5,t9 1 96 92]<|r9 [m9 97 0,c9 98 22 [.t 97,k9 12],f9 99 16 5,t9 1 99 98])<|s9 [d9 101 .eql 19 5,m9 100 101]<|u9 100 (s9 [m9 102
 0,c9 103 35 [.t 102,k9 1],a9 13 4 30 (.agg [z9,z9,z9,z9]),t9 4 13 103]<|r9 [f9 104 1 13,l9 105 104,f9 106 2 13,l9 107 106,f9 108 3 13,l9 109 108,o9 110 (.build [z9,z9,z9,z9] [(1,1,.t 105),(2,1,.t 107),(3,1,.t
 109)]),f9 111 17 5,t9 4 111 110])<|r9 [m9 20 0,f9 21 5 3,f9 22 0 21,l9 23 22,c9 24 22 [.t 20,.t 23],f9 25 17 5,f9 26 0 25,t9 1 26 24])<|s9 [q9 112 21 5,t9 21 4 112]<|.ret
abbrev BK:Nat:=13
theorem Cc:aq prog 13 [1000000]=some (sL,[.c 4 true 21],113):=by kernel_rfl
def sE:ay:=s9 [o9 2 (.box 7 49 (.t 0)),o9 3 (.box 21 32 (.t 1)),a9 4 7 49 (.agg [.nil,.nil,.nil,z9,.nil,z9,.nil]),o9 5 (.mv (k9 0))]<|.seq (s9 [q9 14 7 2,c9 15 19 [.t 14],m9 6 15]<|s9 [m9 16 6,d9 17 .neq
 16 0]<|u9 17 (s9 [o9 18 (.build [.nil,.nil,.nil,z9,.nil,z9,.nil] []),m9 19 6,t9 7 4 18,m9 5 19]<|.ret)<|.skip)<|.seq (s9 [q9 21 21 3,c9 22 36 [.t 21],m9 20 22,e9 23 20 0,e9 24 20 1,m9 7 23,m9 8 24]<|s9 [m9 25 8,
 d9 26 .neq 25 0]<|u9 26 (s9 [o9 27 (.build [.nil,.nil,.nil,z9,.nil,z9,.nil] []),m9 28 8,t9 7 4 27,m9 5 28]<|.ret)<|.skip)<|.seq (.aB [⟨4,f9 33 17 3⟩,h9 5 34 (.load true 4 (.t 33)) [4],⟨2,f9 31 7 3⟩,h9 3 32
 (.load true 7 (.t 31)) [2],⟨0,q9 29 7 2⟩,h9 1 30 (.call 37 [.t 29]) [0],⟨8,a9 11 4 30 (.agg [z9,z9,z9,z9])⟩,⟨7,a9 10 7 28 (.agg [z9,z9,z9,z9,z9,.nil,.bool false])⟩,⟨6,a9 9 7 49 (.agg [.nil,.nil,.nil,z9,.nil,z9,
 .nil])⟩,⟨9,⟨none,.store 7 (.t 9) (.t 30),none,[6,1,0,7,8]⟩⟩,⟨10,⟨none,.store 7 (.t 10) (.t 32),none,[7,3,9,0,1,2,6,8]⟩⟩,⟨11,⟨none,.store 4 (.t 11) (.t 34),none,[8,5,10,0,1,2,3,4,6,7,9]⟩⟩,h9 12 12 (.mv
 (k9 0)) [11,0,1,2,3,4,5,6,7,8,9,10]])<|s9 [o9 13 (.mv (.c (.func 38 [])))]<|.seq (s9 [f9 35 0 3,l9 36 35]<|.block 0<|.seq (.block 6<|.seq (.block 5<|.seq (.block 4<|.seq (.block 3<|.seq (.block 2<|.seq (.block 1<|.seq
 (.seq (s9 [d9 38 .eql 36 1,m9 37 38]<|u9 37 (.exit 1)<|.skip)<|.seq (s9 [d9 40 .eql 36 2,m9 39 40]<|u9 39 (.exit 2)<|.skip)<|.seq (s9 [d9 42 .eql 36 3,m9 41 42]<|u9 41 (.exit 3)<|.skip)<|.seq (s9 [d9 44 .eql 36 4,m9
 43 44]<|u9 43 (.exit 4)<|.skip)<|.seq (s9 [d9 46 .eql 36 5,m9 45 46]<|u9 45 (.exit 5)<|.skip)<|s9 [d9 48 .eql 36 6,m9 47 48]<|u9 47 (.exit 6)<|.skip)<|.exit 0)<|s9 [f9 50 0 2,q9 51 2 50,f9 52 1 3,q9 53 6 52,c9 54
 39 [.t 51,.t 53],m9 49 54,e9 55 49 0,e9 56 49 1,f9 57 0 9,t9 2 57 55,m9 12 56]<|.exit 0)<|s9 [f9 59 2 2,q9 60 3 59,f9 61 1 10,l9 62 61,f9 63 2 10,l9 64 63,f9 65 3 10,l9 66 65,f9 67 4 10,l9 68 67,c9 69 40 [.t 60,.t
 62,.t 64,.t 66,.t 68],m9 58 69,e9 70 58 0,e9 71 58 1,e9 72 58 2,f9 73 2 9,t9 3 73 70,m9 12 72]<|.exit 0)<|r9 [o9 13 (.mv (.c (.func 41 [])))])<|s9 [m9 75 13,f9 76 2 2,q9 77 3 76,f9 78 0 10,l9 79 78,f9 80 14 3,l9 81
 80,f9 82 15 3,l9 83 82,f9 84 16 3,l9 85 84,o9 86 (.dF (.t 75) [.t 77,.t 79,.t 81,.t 83,.t 85]),m9 74 86,e9 87 74 0,e9 88 74 1,f9 89 2 9,t9 3 89 87,m9 12 88]<|.exit 0)<|s9 [f9 91 5 2,q9 92 2 91,f9 93 1 11,l9 94 93,
 f9 95 2 11,l9 96 95,f9 97 3 11,l9 98 97,c9 99 42 [.t 92,.t 94,.t 96,.t 98],m9 90 99,e9 100 90 0,e9 101 90 1,e9 102 90 2,f9 103 5 9,t9 2 103 100,m9 12 102]<|.exit 0)<|s9 [f9 105 5 2,q9 106 2 105,f9 107 0 11,l9 108 107,
 c9 109 43 [.t 106,.t 108],m9 104 109,e9 110 104 0,e9 111 104 1,f9 112 5 9,t9 2 112 110,m9 12 111]<|.exit 0)<|.seq (s9 [m9 113 12,d9 114 .neq 113 0]<|u9 114 (s9 [o9 115 (.build [.nil,.nil,.nil,z9,.nil,z9,.nil] []),m9
 116 12,t9 7 4 115,m9 5 116]<|.ret)<|.skip)<|s9 [q9 117 7 9,t9 7 4 117,o9 5 (.mv (k9 0))]<|.ret
abbrev BH:Nat:=14
theorem B6:aq prog 14 [1000000]=some (sE,[.c 4 true 7,.t 5],118):=by kernel_rfl
def AL:ay:=s9 [o9 2 (.box 7 49 (.t 0)),o9 3 (.box 21 32 (.t 1)),a9 4 7 49 (.agg [.nil,.nil,.nil,z9,.nil,z9,.nil]),o9 5 (.mv (k9 0))]<|.seq (s9 [q9 10 7 2,c9 11 20 [.t 10],m9 6 11]<|s9 [m9 12 6,d9 13 .neq 12
 0]<|u9 13 (s9 [o9 14 (.build [.nil,.nil,.nil,z9,.nil,z9,.nil] []),m9 15 6,t9 7 4 14,m9 5 15]<|.ret)<|.skip)<|.seq (s9 [q9 16 21 3,c9 17 44 [.t 16],o9 18 (.un .not (.t 17))]<|u9 18 (s9 [o9 19 (.build [.nil,.nil,.nil,
 z9,.nil,z9,.nil] []),t9 7 4 19,o9 5 (.mv (k9 49))]<|.ret)<|.skip)<|s9 [q9 20 7 2,c9 21 11 [.t 20],a9 7 7 49 (.agg [.nil,.nil,.nil,z9,.nil,z9,.nil]),t9 7 7 21]<|s9 [o9 8 (.mv (k9 0))]<|s9 [f9 22 7 3,q9 23 7 22,a9
 9 7 28 (.agg [z9,z9,z9,z9,z9,.nil,.bool false]),t9 7 9 23]<|.seq (s9 [f9 24 0 3,l9 25 24]<|.block 0<|s9 [d9 27 .eql 25 1,m9 26 27]<|u9 26 (r9 [f9 29 0 2,q9 30 2 29,f9 31 1 3,q9 32 6 31,c9 33 45 [.t 30,.t 32],m9 28
 33,e9 34 28 0,e9 35 28 1,f9 36 0 7,t9 2 36 34,m9 8 35])<|s9 [d9 38 .eql 25 2,m9 37 38]<|u9 37 (r9 [f9 40 2 2,q9 41 3 40,f9 42 1 9,l9 43 42,f9 44 2 9,l9 45 44,f9 46 3 9,l9 47 46,f9 48 4 9,l9 49 48,c9 50 46 [.t 41,.t
 43,.t 45,.t 47,.t 49],m9 39 50,e9 51 39 0,e9 52 39 1,e9 53 39 2,f9 54 2 7,t9 3 54 51,m9 8 53])<|s9 [d9 56 .eql 25 3,m9 55 56]<|u9 55 (r9 [f9 58 2 2,q9 59 3 58,f9 60 0 9,l9 61 60,f9 62 14 3,l9 63 62,f9 64 15 3,l9 65
 64,f9 66 16 3,l9 67 66,c9 68 47 [.t 59,.t 61,.t 63,.t 65,.t 67],m9 57 68,e9 69 57 0,e9 70 57 1,f9 71 2 7,t9 3 71 69,m9 8 70])<|s9 [d9 73 .eql 25 4,m9 72 73]<|u9 72 (r9 [f9 75 2 2,q9 76 3 75,f9 77 0 9,l9 78 77,f9 79
 14 3,l9 80 79,f9 81 15 3,l9 82 81,f9 83 16 3,l9 84 83,c9 85 48 [.t 76,.t 78,.t 80,.t 82,.t 84],m9 74 85,e9 86 74 0,e9 87 74 1,f9 88 2 7,t9 3 88 86,m9 8 87])<|s9 [d9 90 .eql 25 5,m9 89 90]<|u9 89 (r9 [f9 92 5 2,q9 93
 2 92,f9 94 17 3,f9 95 1 94,l9 96 95,f9 97 17 3,f9 98 2 97,l9 99 98,f9 100 17 3,f9 101 3 100,l9 102 101,c9 103 49 [.t 93,.t 96,.t 99,.t 102],m9 91 103,e9 104 91 0,e9 105 91 1,e9 106 91 2,f9 107 5 7,t9 2 107 104,m9 8
 106])<|s9 [d9 109 .eql 25 6,m9 108 109]<|u9 108 (r9 [f9 111 5 2,q9 112 2 111,f9 113 17 3,f9 114 0 113,l9 115 114,c9 116 50 [.t 112,.t 115],m9 110 116,e9 117 110 0,e9 118 110 1,f9 119 5 7,t9 2 119 117,m9 8 118])<|.skip)
 <| .seq (s9 [m9 120 8,d9 121 .neq 120 0]<|u9 121 (s9 [o9 122 (.build [.nil,.nil,.nil,z9,.nil,z9,.nil] []),m9 123 8,t9 7 4 122,m9 5 123]<|.ret)<|.skip)<|s9 [q9 124 7 7,t9 7 4 124,o9 5 (.mv (k9 0))]<|.ret
abbrev Gu:Nat:=15
theorem GW:aq prog 15 [1000000]=some (AL,[.c 4 true 7,.t 5],125):=by kernel_rfl
def uZ:ay:=s9 [o9 2 (.box 7 49 (.t 0)),o9 3 (.box 7 49 (.t 1)),o9 4 (.mv (.c (.bool false)))]<|s9 [f9 5 0 2,q9 6 2 5,f9 7 0 3,q9 8 2 7,c9 9 51 [.t 6,.t 8],m9 10 9,g9 11 (.fa 2 (.t 2)) 10 true,g9 12 (.load true
 3 (.t 11)) 10 true,g9 13 (.fa 2 (.t 3)) 10 true,g9 14 (.load true 3 (.t 13)) 10 true,g9 15 (.call 52 [.t 12,.t 14]) 10 true,p9 16 10 15 false,m9 17 16,g9 18 (.fa 5 (.t 2)) 17 true,g9 19 (.load true 2 (.t 18)) 17 true,g9 20 (.fa 5
 (.t 3)) 17 true,g9 21 (.load true 2 (.t 20)) 17 true,g9 22 (.call 53 [.t 19,.t 21]) 17 true,p9 23 17 22 false,m9 4 23]<|.ret
abbrev Dw:Nat:=16
theorem Ea:aq prog 16 [1000000]=some (uZ,[.t 4],24):=by kernel_rfl
def qB:ay:=s9 [o9 3 (.box 7 49 (.t 0)),o9 5 (.box 21 32 (.t 2)),a9 6 7 49 (.agg [.nil,.nil,.nil,z9,.nil,z9,.nil]),o9 7 (.mv (.c (.str ⟨#[]⟩))),o9 8 (.mv (k9 0))]<|s9 [q9 12 7 3,q9 13 21 5,c9 14 14 [.t 12,
 .t 13],m9 11 14,e9 15 11 0,e9 16 11 1,a9 9 7 49 (.agg [.nil,.nil,.nil,z9,.nil,z9,.nil]),t9 7 9 15,m9 10 16]<|.seq (s9 [m9 17 10,d9 18 .neq 17 0]<|u9 18 (s9 [o9 19 (.build [.nil,.nil,.nil,z9,.nil,z9,.nil] []),m9 20
 10,t9 7 6 19,o9 7 (.mv (.c (.str ⟨#[]⟩))),m9 8 20]<|.ret)<|.skip)<|s9 [m9 22 1,q9 23 21 5,c9 24 54 [.t 22,.t 23],m9 21 24,e9 25 21 0,e9 26 21 1,m9 1 25,m9 10 26]<|.seq (s9 [m9 27 10,d9 28 .neq 27 0]<|u9 28 (s9 [o9 29
 (.build [.nil,.nil,.nil,z9,.nil,z9,.nil] []),m9 30 10,t9 7 6 29,o9 7 (.mv (.c (.str ⟨#[]⟩))),m9 8 30]<|.ret)<|.skip)<|s9 [q9 31 7 9,m9 32 1,t9 7 6 31,m9 7 32,o9 8 (.mv (k9 0))]<|.ret
abbrev zU:Nat:=17
theorem AU:aq prog 17 [1000000]=some (qB,[.c 6 true 7,.t 7,.t 8],33):=by kernel_rfl
def xG:ay:=s9 [o9 3 (.box 7 49 (.t 0)),o9 5 (.box 21 32 (.t 2)),a9 6 7 49 (.agg [.nil,.nil,.nil,z9,.nil,z9,.nil]),o9 7 (.mv (.c (.str ⟨#[]⟩))),o9 8 (.mv (k9 0))]<|s9 [q9 13 7 3,q9 14 21 5,c9 15 15 [.t 13,.t
 14],m9 12 15,e9 16 12 0,e9 17 12 1,a9 9 7 49 (.agg [.nil,.nil,.nil,z9,.nil,z9,.nil]),t9 7 9 16,m9 10 17]<|.seq (s9 [m9 18 10,d9 19 .neq 18 0]<|u9 19 (s9 [o9 20 (.build [.nil,.nil,.nil,z9,.nil,z9,.nil] []),m9 21 10,
 t9 7 6 20,o9 7 (.mv (.c (.str ⟨#[]⟩))),m9 8 21]<|.ret)<|.skip)<|s9 [m9 23 1,q9 24 21 5,c9 25 55 [.t 23,.t 24],m9 22 25,e9 26 22 0,e9 27 22 1,m9 11 26,m9 10 27]<|.seq (s9 [m9 28 10,d9 29 .neq 28 0]<|u9 29 (s9 [o9 30
 (.build [.nil,.nil,.nil,z9,.nil,z9,.nil] []),m9 31 10,t9 7 6 30,o9 7 (.mv (.c (.str ⟨#[]⟩))),m9 8 31]<|.ret)<|.skip)<|s9 [q9 32 7 9,m9 33 11,t9 7 6 32,m9 7 33,o9 8 (.mv (k9 0))]<|.ret
abbrev E4:Nat:=18
theorem FM:aq prog 18 [1000000]=some (xG,[.c 6 true 7,.t 7,.t 8],34):=by kernel_rfl
def nL:ay:=s9 [o9 1 (.box 7 49 (.t 0)),o9 2 (.mv (k9 0))]<|.seq (s9 [f9 5 0 1,q9 6 2 5,c9 7 56 [.t 6],m9 3 7]<|s9 [m9 8 3,d9 9 .neq 8 0]<|u9 9 (s9 [m9 10 3,m9 2 10]<|.ret)<|.skip)<|.seq (s9 [f9 11 2
 1,q9 12 3 11,c9 13 57 [.t 12],m9 4 13]<|s9 [m9 14 4,d9 15 .neq 14 0]<|u9 15 (s9 [m9 16 4,m9 2 16]<|.ret)<|.skip)<|.seq (s9 [f9 17 5 1,q9 18 2 17,c9 19 58 [.t 18],o9 20 (.un .not (.t 19))]<|u9 20 (s9 [o9 2 (.mv (k9
 50))]<|.ret)<|.skip)<|s9 [o9 2 (.mv (k9 0))]<|.ret
abbrev wv:Nat:=19
theorem xb:aq prog 19 [1000000]=some (nL,[.t 2],21):=by kernel_rfl
def so:ay:=s9 [o9 1 (.box 7 49 (.t 0)),o9 2 (.mv (k9 0))]<|.seq (s9 [f9 5 0 1,q9 6 2 5,c9 7 59 [.t 6],m9 3 7]<|s9 [m9 8 3,d9 9 .neq 8 0]<|u9 9 (s9 [m9 10 3,m9 2 10]<|.ret)<|.skip)<|.seq (s9 [f9 11 2 1,
 q9 12 3 11,c9 13 60 [.t 12],m9 4 13]<|s9 [m9 14 4,d9 15 .neq 14 0]<|u9 15 (s9 [m9 16 4,m9 2 16]<|.ret)<|.skip)<|.seq (s9 [f9 17 5 1,q9 18 2 17,c9 19 61 [.t 18],o9 20 (.un .not (.t 19))]<|u9 20 (s9 [o9 2 (.mv (k9 50))]
 <| .ret)<|.skip)<|s9 [o9 2 (.mv (k9 0))]<|.ret
abbrev Bw:Nat:=20
theorem BS:aq prog 20 [1000000]=some (so,[.t 2],21):=by kernel_rfl
def pt:ay:=s9 [o9 2 (.box 7 49 (.t 0)),o9 3 (.box 7 49 (.t 1)),o9 4 (.mv (.c (.bool false)))]<|s9 [f9 5 0 2,q9 6 2 5,f9 7 0 3,q9 8 2 7,c9 9 62 [.t 6,.t 8],m9 10 9,g9 11 (.fa 2 (.t 2)) 10 true,g9 12 (.load
 true 3 (.t 11)) 10 true,g9 13 (.fa 2 (.t 3)) 10 true,g9 14 (.load true 3 (.t 13)) 10 true,g9 15 (.call 63 [.t 12,.t 14]) 10 true,p9 16 10 15 false,m9 17 16,g9 18 (.fa 5 (.t 2)) 17 true,g9 19 (.load true 2 (.t 18)) 17 true,g9 20
 (.fa 5 (.t 3)) 17 true,g9 21 (.load true 2 (.t 20)) 17 true,g9 22 (.call 64 [.t 19,.t 21]) 17 true,p9 23 17 22 false,m9 4 23]<|.ret
abbrev yo:Nat:=21
theorem yK:aq prog 21 [1000000]=some (pt,[.t 4],24):=by kernel_rfl
def qF:ay:=s9 [o9 4 (.mv (k9 0))]<|.seq (.seq (.region [m9 6 1,⟨some 7,.bin .lss (.t 6) (k9 1),none,[0]⟩,⟨some 8,.mv (.t 7),none,[1,0]⟩,⟨some 9,.mv (.t 0),some (8,false),[2,1,0]⟩,⟨some 10,.ba (.t
 9),some (8,false),[3,2,1,0]⟩,⟨some 11,.fa 1 (.t 10),some (8,false),[4,2,3,1,0]⟩,⟨some 12,.load false 1 (.t 11),some (8,false),[5,2,4,3,1,0]⟩,⟨some 13,.mv (.t 0),some (8,false),[2,1,0]⟩,⟨some 14,.ba
 (.t 13),some (8,false),[7,2,1,0]⟩,⟨some 15,.fa 0 (.t 14),some (8,false),[8,2,7,1,0]⟩,⟨some 16,.load false 1 (.t 15),some (8,false),[9,2,8,7,1,0]⟩,⟨some 17,.len (.t 16),some (8,false),[10,2,9,8,7,1,0]⟩,
 ⟨some 18,.bin .geq (.t 12) (.t 17),some (8,false),[6,11,2,5,4,3,1,0,10,9,8,7]⟩,⟨some 19,.pick (.t 8) (.c (.bool true)) (.t 18),none,[2,12,1,0,6,11,5,4,3,10,9,8,7]⟩] (some 0))<|u9 19 (s9 [o9 4 (.mv (k9 0))]
 <| .ret)<|.skip)<|.seq (.region [m9 20 0,⟨some 21,.ba (.t 20),none,[0]⟩,⟨some 22,.fa 0 (.t 21),none,[1,0]⟩,⟨some 23,.load false 1 (.t 22),none,[2,1,0]⟩,m9 24 0,⟨some 25,.ba (.t 24),none,[4]⟩,⟨some 26,.fa
 1 (.t 25),none,[5,4]⟩,⟨some 27,.load false 1 (.t 26),none,[6,5,4]⟩,⟨some 28,.bE 1 (.t 23) (.t 27),none,[3,7,2,1,0,6,5,4]⟩,⟨some 29,.load false 1 (.t 28),none,[8,3,7,2,1,0,6,5,4]⟩,⟨some 5,.mv (.t 29),
 none,[9,0,1,2,3,4,5,6,7,8]⟩] (some 0))<|s9 [m9 30 0,o9 31 (.ba (.t 30)),f9 32 1 31,l9 33 32,d9 34 .add 33 1,o9 35 (.ba (.t 30)),f9 36 1 35,t9 1 36 34]<|s9 [m9 37 5,m9 38 1,c9 39 12 [.t 37,.t 38],m9 4 39]
 <| .ret
abbrev zY:Nat:=22
theorem A0:aq prog 22 []=some (qF,[.t 4],40):=by kernel_rfl
def qy:ay:=s9 [o9 1 (.box 21 32 (.t 0)),o9 2 (.mv (.c (.str ⟨#[]⟩))),o9 3 (.mv (k9 0))]<|.seq (s9 [q9 9 21 1,c9 10 44 [.t 9],o9 11 (.un .not (.t 10))]<|u9 11 (s9 [o9 2 (.mv (.c (.str ⟨#[]⟩))),o9 3 (.mv (k9 49))]
 <| .ret)<|.skip)<|s9 [q9 13 21 1,c9 14 65 [.t 13],m9 12 14,e9 15 12 0,e9 16 12 1,m9 4 15,m9 5 16]<|s9 [f9 17 0 1,l9 18 17,c9 19 66 [.c (.str ⟨#[]⟩),.t 18,k9 1],m9 6 19]<|.seq (s9 [m9 20 4,n9 21 20,o9 22 (.mv (k9 0))]
 <| .block 0<|.loop<|s9 [b9 23 .lss 22 21]<|.seq (u9 23 (.skip)<|.exit 0)<|.seq (.block 1<|s9 [x9 24 1 20 22,l9 25 24,m9 8 25]<|r9 [m9 26 6,m9 27 8,c9 28 66 [.t 26,.t 27,k9 5],m9 6 28])<|r9 [d9 29 .add 22 1,m9 22
 29])<|s9 [m9 30 6,m9 31 6,c9 32 67 [.t 31],c9 33 66 [.t 30,.t 32,k9 4],m9 2 33,o9 3 (.mv (k9 0))]<|.ret
abbrev zR:Nat:=23
theorem AR:aq prog 23 [1000000]=some (qy,[.t 2,.t 3],34):=by kernel_rfl
def mi:ay:=s9 [o9 3 (.box 7 49 (.t 0)),a9 6 7 49 (.agg [.nil,.nil,.nil,z9,.nil,z9,.nil]),o9 7 (.mv (k9 0)),o9 8 (.mv (k9 0))]<|.seq (s9 [q9 17 7 3,c9 18 19 [.t 17],m9 9 18]<|s9 [m9 19 9,d9 20 .neq 19
 0]<|u9 20 (s9 [o9 21 (.build [.nil,.nil,.nil,z9,.nil,z9,.nil] []),m9 22 9,t9 7 6 21,o9 7 (.mv (k9 0)),m9 8 22]<|.ret)<|.skip)<|s9 [m9 24 1,c9 25 68 [.t 24],m9 23 25,e9 26 23 0,e9 27 23 1,m9 10 26,m9 11 27]<|.seq
 (s9 [m9 28 2,d9 29 .lss 28 0,m9 30 29,v9 31 2 30 false,v9 32 10 30 false,g9 33 (.len (.t 32)) 30 false,g9 34 (.bin .gtr (.t 31) (.t 33)) 30 false,w9 35 30 true 34]<|u9 35 (s9 [o9 36 (.build [.nil,.nil,.nil,z9,.nil,z9,.nil]
 []),t9 7 6 36,o9 7 (.mv (k9 0)),o9 8 (.mv (k9 1))]<|.ret)<|.skip)<|s9 [q9 37 7 3,c9 38 37 [.t 37],a9 12 7 49 (.agg [.nil,.nil,.nil,z9,.nil,z9,.nil]),t9 7 12 38]<|.seq (s9 [m9 39 10,m9 40 2,o9 41 (.rm 21 (.t 39)
 (some (.t 40)) none),n9 42 41,o9 43 (.mv (k9 0))]<|.block 0<|.loop<|s9 [b9 44 .lss 43 42]<|.seq (u9 44 (.skip)<|.exit 0)<|.seq (.block 1<|s9 [x9 45 21 41 43,q9 46 21 45,a9 14 21 32 (.agg [z9,z9,z9,z9,z9,z9,z9,z9,
 z9,z9,z9,z9,.nil,.bool false,z9,z9,z9,z9,z9,z9,z9]),t9 21 14 46]<|s9 [q9 48 7 12,q9 49 21 14,c9 50 14 [.t 48,.t 49],m9 47 50,e9 51 47 0,e9 52 47 1,a9 15 7 49 (.agg [.nil,.nil,.nil,z9,.nil,z9,.nil]),t9 7 15 51,
 m9 16 52]<|s9 [m9 53 16,d9 54 .eql 53 0]<|u9 54 (r9 [q9 55 7 15,t9 7 12 55])<|.skip)<|r9 [d9 56 .add 43 1,m9 43 56])<|s9 [q9 57 7 12,m9 58 10,n9 59 58,t9 7 6 57,m9 7 59,o9 8 (.mv (k9 0))]<|.ret
abbrev uD:Nat:=24
theorem vF:aq prog 24 [1000000]=some (mi,[.c 6 true 7,.t 7,.t 8],60):=by kernel_rfl
def xN:ay:=s9 [a9 2 2 40 (.agg [.nil,.nil]),o9 3 (.mv (.c (.nil)))]<|s9 [o9 4 (.mv (.c (.nil)))]<|s9 [o9 5 (.mv (.c (.nil)))]<|.seq (s9 [m9 16 0,c9 17 22 [.t 16,k9 2],m9 6 17]<|.block 0<|.loop<|.seq (s9 [m9
 18 6,d9 19 .geq 18 0]<|u9 19 (.skip)<|.exit 0)<|.seq (.block 1<|s9 [m9 23 0,c9 24 70 [.t 23],m9 22 24,e9 25 22 0,e9 26 22 1,e9 27 22 2,e9 28 22 3,a9 7 4 88 (.agg [z9,.nil,.nil,.nil]),t9 4 7 25,m9 8 26,m9 9 27,m9 10
 28]<|r9 [m9 29 4,q9 30 4 7,o9 31 (.lit false 4 88 [.t 30]),o9 32 (.app 4 80 88 (.t 29) (.t 31)),m9 33 5,m9 34 8,m9 35 9,m9 36 10,o9 37 (.build [.nil,.nil,.nil] [(0,1,.t 34),(1,1,.t 35),(2,1,.t 36)]),o9 38 (.lit false
 3 93 [.t 37]),o9 39 (.app 3 72 93 (.t 33) (.t 38)),m9 4 32,m9 5 39])<|r9 [m9 20 6,d9 21 .sub 20 1,m9 6 21])<|s9 [m9 40 4,o9 41 (.build [.nil,.nil] [(0,1,.t 40)]),a9 11 2 40 (.agg [.nil,.nil]),t9 2 11 41]<|.seq (s9 [m9 42
 0,c9 43 22 [.t 42,k9 9],m9 12 43]<|.block 2<|.loop<|.seq (s9 [m9 44 12,d9 45 .gtr 44 0]<|u9 45 (.skip)<|.exit 2)<|.seq (.block 3<|s9 [m9 48 0,m9 49 4,n9 50 49,c9 51 22 [.t 48,.t 50],m9 13 51]<|.seq (.aB [⟨11,
 m9 64 0⟩,⟨10,m9 63 13⟩,⟨7,m9 60 13⟩,⟨6,m9 59 5⟩,h9 8 61 (.bE 3 (.t 59) (.t 60)) [6,7],h9 9 62 (.load true 3 (.t 61)) [8,6,7],⟨3,m9 56 13⟩,⟨2,m9 55 4⟩,h9 4 57 (.bE 4 (.t 55) (.t 56)) [2,3],h9 5 58 (.load true 4 (.t 57))
 [4,2,3],⟨1,m9 54 0⟩,⟨0,q9 53 2 11⟩,h9 12 65 (.call 22 [.t 64,k9 20]) [11],h9 13 66 (.bin .add (k9 1) (.t 65)) [12,11],h9 14 67 (.call 33 [.t 54,.t 58,.t 62,.t 63,.t 66]) [1,5,9,10,13,12,4,2,3,8,6,7,11],h9 15 68 (.call 45 [.t
 53,.t 67]) [0,14,1,5,9,10,13,12,4,2,3,8,6,7,11],h9 16 52 (.mv (.t 68)) [15,0,14,1,5,9,10,13,12,4,2,3,8,6,7,11],h9 18 70 (.ext (.t 52) 1) [16,15,0,14,1,5,9,10,13,12,4,2,3,8,6,7,11],h9 17 69 (.ext (.t 52) 0)
 [16,15,0,14,1,5,9,10,13,12,4,2,3,8,6,7,11],⟨19,a9 14 2 40 (.agg [.nil,.nil])⟩,⟨20,⟨none,.store 2 (.t 14) (.t 69),none,[19,17,15,0,1,2,3,4,5,6,7,8,9,10,11,12,13,14,16]⟩⟩,h9 21 15 (.mv (.t 70))
 [18,20,0,1,2,3,4,5,6,7,8,9,10,11,12,13,14,15,16,17,19]])<|s9 [m9 71 15,d9 72 .eql 71 0]<|u9 72 (r9 [q9 73 2 14,t9 2 11 73])<|.skip)<|r9 [m9 46 12,d9 47 .sub 46 1,m9 12 47])<|s9 [q9 74 2 11,m9 75 5,t9 2 2 74,m9 3 75]<|
 .ret
abbrev E9:Nat:=27
theorem FU:aq prog 27 [1000000]=some (xN,[.c 2 true 2,.t 3],76):=by kernel_rfl
def vu:ay:=s9 [a9 2 2 47 (.agg [z9,.nil]),a9 3 2 80 (.agg [z9,.nil])]<|s9 [o9 12 (.build [z9,.nil] [(0,1,k9 1)]),o9 13 (.build [z9,.nil] []),a9 4 2 47 (.agg [z9,.nil]),a9 5 2 80 (.agg [z9,.nil]),t9 2 4 12,
 t9 2 5 13]<|.seq (s9 [m9 14 0,c9 15 22 [.t 14,k9 15],m9 6 15]<|.block 0<|.loop<|.seq (s9 [m9 16 6,d9 17 .gtr 16 0]<|u9 17 (.skip)<|.exit 0)<|.seq (.block 1<|s9 [m9 20 0,c9 21 22 [.t 20,k9 4]]<|.block 2<|.seq (s9
 [d9 30 .eql 21 0,m9 29 30]<|u9 29 (.skip)<|r9 [d9 31 .eql 21 1,m9 29 31])<|u9 29 (s9 [m9 32 0,c9 33 35 [.t 32,k9 1],a9 7 4 30 (.agg [z9,z9,z9,z9]),t9 4 7 33]<|r9 [q9 35 2 4,f9 36 1 7,l9 37 36,f9 38 2 7,l9 39 38,f9 40
 3 7,l9 41 40,c9 42 49 [.t 35,.t 37,.t 39,.t 41],m9 34 42,e9 43 34 0,e9 44 34 1,e9 45 34 2,t9 2 4 43])<|s9 [d9 47 .eql 21 2,m9 46 47]<|u9 46 (s9 [f9 48 1 4,l9 49 48,n9 50 49,d9 51 .gtr 50 0]<|u9 51 (.seq (.aB [⟨4,
 f9 57 1 4⟩,h9 5 58 (.load false 1 (.t 57)) [4],h9 6 59 (.len (.t 58)) [5,4],⟨3,m9 56 0⟩,⟨1,f9 54 1 4⟩,h9 2 55 (.load false 1 (.t 54)) [1],⟨0,q9 53 2 5⟩,h9 7 60 (.call 22 [.t 56,.t 59]) [3,6,5,4],h9 8 61 (.bE 4 (.t 55) (.t
 60)) [2,7,1,3,6,5,4],h9 9 62 (.load true 4 (.t 61)) [8,2,7,1,3,6,5,4],h9 10 63 (.call 71 [.t 53,.t 62]) [0,9,7,8,2,1,3,6,5,4],h9 11 52 (.mv (.t 63)) [10,0,9,7,8,2,1,3,6,5,4],h9 15 67 (.ext (.t 52) 3) [11,10,0,9,7,8,2,1,3,6,5,4],h9
 14 66 (.ext (.t 52) 2) [11,10,0,9,7,8,2,1,3,6,5,4],h9 13 65 (.ext (.t 52) 1) [11,10,0,9,7,8,2,1,3,6,5,4],h9 12 64 (.ext (.t 52) 0) [11,10,0,9,7,8,2,1,3,6,5,4],⟨16,a9 8 2 80 (.agg [z9,.nil])⟩,⟨17,⟨none,.store 2 (.t 8) (.t 64),
 none,[16,12,10,0,1,2,3,4,5,6,7,8,9,11]⟩⟩,h9 18 9 (.mv (.t 65)) [13,17,0,1,2,3,4,5,6,7,8,9,10,11,12,16],h9 19 10 (.mv (.t 66)) [14,18,0,1,2,3,4,5,6,7,8,9,10,11,12,13,16,17],h9 20 11 (.mv (.t 67))
 [15,19,0,1,2,3,4,5,6,7,8,9,10,11,12,13,14,16,17,18]])<|s9 [m9 68 11,d9 69 .eql 68 0]<|u9 69 (r9 [q9 70 2 8,t9 2 5 70])<|.skip)<|.skip)<|r9 [q9 23 2 4,f9 24 0 5,l9 25 24,c9 26 50 [.t 23,.t 25],m9 22 26,e9 27 22 0,e9 28
 22 1,t9 2 4 27])<|r9 [m9 18 6,d9 19 .sub 18 1,m9 6 19])<|.seq (.aB [⟨1,q9 72 2 5⟩,⟨0,q9 71 2 4⟩,⟨2,⟨none,.store 2 (.t 2) (.t 71),none,[0]⟩⟩,⟨3,⟨none,.store 2 (.t 3) (.t 72),none,[1,2,0]⟩⟩])<|.ret
abbrev DK:Nat:=28
theorem Er:aq prog 28 [1000000]=some (vu,[.c 2 true 2,.c 3 true 2],73):=by kernel_rfl
def xM:ay:=s9 [a9 2 3 44 (.agg [.nil,z9,.nil])]<|s9 [m9 16 0,c9 17 72 [.t 16],o9 18 (.build [.nil,z9,.nil] [(0,1,.t 17),(1,1,k9 1)]),a9 3 3 44 (.agg [.nil,z9,.nil]),t9 3 3 18]<|.seq (s9 [m9 19 0,c9 20 22
 [.t 19,k9 12],m9 4 20]<|.block 0<|.loop<|.seq (s9 [m9 21 4,d9 22 .gtr 21 0]<|u9 22 (.skip)<|.exit 0)<|.seq (.block 1<|s9 [m9 25 0,c9 26 22 [.t 25,k9 12],m9 5 26]<|s9 [m9 27 0,c9 28 22 [.t 27,k9 4]]<|.block 2<|
 s9 [d9 50 .eql 28 0,m9 49 50]<|u9 49 (.aB [⟨8,m9 60 0⟩,⟨5,m9 57 0⟩,⟨4,m9 56 5⟩,⟨3,m9 55 5⟩,⟨1,m9 53 0⟩,⟨0,q9 52 3 3⟩,h9 2 54 (.call 22 [.t 53,k9 3]) [1],h9 6 58 (.call 22 [.t 57,k9 12]) [5,2,1],h9 7 59 (.bin .add
 (.t 56) (.t 58)) [4,6,5,2,1],h9 9 61 (.call 22 [.t 60,k9 60]) [8,6,5,2,1],h9 10 62 (.call 46 [.t 52,.t 54,.t 55,.t 59,.t 61]) [0,2,3,7,9,1,4,6,5,8],h9 11 51 (.mv (.t 62)) [10,0,2,3,7,9,1,4,6,5,8],h9 14 65 (.ext (.t 51) 2)
 [11,10,0,2,3,7,9,1,4,6,5,8],h9 13 64 (.ext (.t 51) 1) [11,10,0,2,3,7,9,1,4,6,5,8],h9 12 63 (.ext (.t 51) 0) [11,10,0,2,3,7,9,1,4,6,5,8],⟨15,⟨none,.store 3 (.t 3) (.t 63),none,[12,10,0,1,2,3,4,5,6,7,8,9,11]⟩⟩])<|.seq
 (s9 [d9 67 .eql 28 1,m9 66 67]<|u9 66 (.skip)<|r9 [d9 68 .eql 28 2,m9 66 68])<|u9 66 (s9 [m9 70 0,q9 71 3 3,m9 72 5,c9 73 34 [.t 70,.t 71,.t 72],m9 69 73,e9 74 69 0,e9 75 69 1,e9 76 69 2,m9 6 74,m9 7 75,m9 8 76]<|s9
 [q9 78 3 3,m9 79 6,m9 80 7,m9 81 8,m9 82 5,c9 83 47 [.t 78,.t 79,.t 80,.t 81,.t 82],m9 77 83,e9 84 77 0,e9 85 77 1,a9 9 3 44 (.agg [.nil,z9,.nil]),t9 3 9 84,m9 10 85]<|s9 [m9 86 10,d9 87 .eql 86 0]<|u9 87 (r9 [q9 88
 3 9,t9 3 3 88])<|.skip)<|s9 [m9 30 0,q9 31 3 3,m9 32 5,c9 33 34 [.t 30,.t 31,.t 32],m9 29 33,e9 34 29 0,e9 35 29 1,e9 36 29 2,m9 11 34,m9 12 35,m9 13 36]<|s9 [q9 38 3 3,m9 39 11,m9 40 12,m9 41 13,m9 42 5,c9 43 48
 [.t 38,.t 39,.t 40,.t 41,.t 42],m9 37 43,e9 44 37 0,e9 45 37 1,a9 14 3 44 (.agg [.nil,z9,.nil]),t9 3 14 44,m9 15 45]<|s9 [m9 46 15,d9 47 .eql 46 0]<|u9 47 (r9 [q9 48 3 14,t9 3 3 48])<|.skip)<|r9 [m9 23 4,d9 24 .sub
 23 1,m9 4 24])<|s9 [q9 89 3 3,t9 3 2 89]<|.ret
abbrev xz:Nat:=29
theorem FT:aq prog 29 [1000000]=some (xM,[.c 2 true 3],90):=by kernel_rfl
def vc:ay:=s9 [o9 1 (.box 2 40 (.t 0)),a9 2 2 40 (.agg [.nil,.nil])]<|s9 [o9 3 (.mv (.c (.nil)))]<|.seq (s9 [f9 6 0 1,l9 7 6,n9 8 7,o9 9 (.mv (k9 0))]<|.block 0<|.loop<|s9 [b9 10 .lss 9 8]<|.seq (u9 10
 (.skip)<|.exit 0)<|.seq (.block 1<|s9 [x9 11 4 7 9,q9 12 4 11,a9 5 4 88 (.agg [z9,.nil,.nil,.nil]),t9 4 5 12]<|r9 [m9 13 3,q9 14 4 5,c9 15 73 [.t 14],o9 16 (.lit false 4 88 [.t 15]),o9 17 (.app 4 80 88 (.t 13) (.t 16)),
 m9 3 17])<|r9 [d9 18 .add 9 1,m9 9 18])<|s9 [m9 19 3,f9 20 1 1,l9 21 20,o9 22 (.app 6 48 26 (.c (.nil)) (.t 21)),o9 23 (.build [.nil,.nil] [(0,1,.t 19),(1,1,.t 22)]),t9 2 2 23]<|.ret
abbrev DB:Nat:=30
theorem Ef:aq prog 30 [1000000]=some (vc,[.c 2 true 2],24):=by kernel_rfl
def vp:ay:=s9 [o9 1 (.box 3 44 (.t 0)),a9 2 3 44 (.agg [.nil,z9,.nil])]<|s9 [f9 6 0 1,l9 7 6,o9 8 (.app 3 24 131 (.c (.nil)) (.t 7)),f9 9 0 1,t9 1 9 8]<|s9 [o9 3 (.mv (.c (.nil)))]<|.seq (s9 [f9 10 2 1,l9 11
 10,n9 12 11,o9 13 (.mv (k9 0))]<|.block 0<|.loop<|s9 [b9 14 .lss 13 12]<|.seq (u9 14 (.skip)<|.exit 0)<|.seq (.block 1<|s9 [x9 15 7 11 13,q9 16 7 15,a9 5 7 28 (.agg [z9,z9,z9,z9,z9,.nil,.bool false]),t9 7 5 16]<|
 s9 [f9 17 5 5,l9 18 17,o9 19 (.app 1 8 3 (.c (.nil)) (.t 18)),f9 20 5 5,t9 1 20 19]<|r9 [m9 21 3,q9 22 7 5,o9 23 (.lit true 7 28 [.t 22]),o9 24 (.app 7 72 28 (.t 21) (.t 23)),m9 3 24])<|r9 [d9 25 .add 13 1,m9 13 25])<|s9
 [m9 26 3,f9 27 2 1,t9 1 27 26]<|s9 [q9 28 3 1,t9 3 2 28]<|.ret
abbrev uC:Nat:=31
theorem vE:aq prog 31 [23,1000000]=some (vp,[.c 2 true 3],29):=by kernel_rfl
def su:ay:=s9 [o9 1 (.box 4 88 (.t 0)),o9 2 (.mv (.c (.nil))),o9 3 (.mv (.c (.nil))),o9 4 (.mv (.c (.nil))),o9 5 (.mv (k9 0))]<|s9 [q9 15 4 1,c9 16 74 [.t 15],m9 14 16,e9 17 14 0,e9 18 14 1,a9 6 4 88 (.agg [z9,
 .nil,.nil,.nil]),t9 4 6 17,m9 7 18]<|.seq (s9 [m9 19 7,d9 20 .neq 19 0]<|u9 20 (s9 [m9 21 7,o9 2 (.mv (.c (.nil))),o9 3 (.mv (.c (.nil))),o9 4 (.mv (.c (.nil))),m9 5 21]<|.ret)<|.skip)<|s9 [f9 22 1 6,l9 23 22,o9 24
 (.bE 2 (.t 23) (k9 0)),f9 25 0 24,l9 26 25,o9 27 (.lit true 1 3 [.t 26]),m9 8 27]<|s9 [o9 9 (.mv (.c (.nil))),o9 10 (.mv (.c (.nil)))]<|.seq (s9 [f9 28 2 6,l9 29 28,n9 30 29,o9 31 (.mv (k9 0))]<|.block 0<|.loop<|s9 [b9
 32 .lss 31 30]<|.seq (u9 32 (.skip)<|.exit 0)<|.seq (.block 1<|s9 [m9 33 31,m9 11 33]<|.seq (.aB [⟨20,m9 54 11⟩,⟨18,f9 52 3 1⟩,h9 19 53 (.load false 1 (.t 52)) [18],h9 21 55 (.bE 2 (.t 53) (.t 54)) [19,20,18],h9 22
 56 (.fa 1 (.t 55)) [21,19,20,18],h9 23 57 (.load false 1 (.t 56)) [22,21,19,20,18],⟨13,m9 47 11⟩,⟨11,f9 45 2 1⟩,h9 12 46 (.load false 1 (.t 45)) [11],h9 14 48 (.bE 2 (.t 46) (.t 47)) [12,13,11],h9 15 49 (.fa 0 (.t 48))
 [14,12,13,11],h9 16 50 (.load false 1 (.t 49)) [15,14,12,13,11],⟨8,m9 42 11⟩,⟨7,m9 41 8⟩,h9 9 43 (.bE 1 (.t 41) (.t 42)) [7,8],h9 10 44 (.load false 1 (.t 43)) [9,7,8],h9 17 51 (.bin .add (.t 44) (.t 50))
 [10,16,9,7,8,15,14,12,13,11],h9 24 58 (.bin .sub (.t 51) (.t 57)) [17,23,10,16,9,7,8,15,14,12,13,11,22,21,19,20,18],⟨2,m9 36 11⟩,h9 3 37 (.bin .add (.t 36) (k9 1)) [2],⟨0,f9 34 1 6⟩,h9 1 35 (.load false 1 (.t 34)) [0],h9 4 38
 (.bE 2 (.t 35) (.t 37)) [1,3,0,2],h9 5 39 (.fa 0 (.t 38)) [4,1,3,0,2],h9 6 40 (.load false 1 (.t 39)) [5,4,1,3,0,2],h9 25 59 (.Fa true (.t 40) [.t 58]) [6,24,5,4,1,3,0,2,17,23,10,16,9,7,8,15,14,12,13,11,22,21,19,20,18],h9 26 12 (.mv
 (.t 59)) [25,0,1,2,3,4,5,6,7,8,9,10,11,12,13,14,15,16,17,18,19,20,21,22,23,24]])<|.seq (.aB [⟨14,m9 74 11⟩,⟨12,f9 72 3 1⟩,h9 13 73 (.load false 1 (.t 72)) [12],h9 15 75 (.bE 2 (.t 73) (.t 74)) [13,14,12],h9 16 76 (.fa 0 (.t
 75)) [15,13,14,12],h9 17 77 (.load false 1 (.t 76)) [16,15,13,14,12],⟨8,m9 68 11⟩,⟨7,m9 67 8⟩,h9 9 69 (.bE 1 (.t 67) (.t 68)) [7,8],h9 10 70 (.load false 1 (.t 69)) [9,7,8],⟨6,m9 66 12⟩,h9 11 71 (.bin .sub (.t 66) (.t 70))
 [6,10,9,7,8],h9 18 78 (.bin .add (.t 71) (.t 77)) [11,17,6,10,9,7,8,16,15,13,14,12],⟨2,m9 62 11⟩,⟨0,f9 60 2 1⟩,h9 1 61 (.load false 1 (.t 60)) [0],h9 3 63 (.bE 2 (.t 61) (.t 62)) [1,2,0],h9 4 64 (.fa 0 (.t 63)) [3,1,2,0],h9 5 65
 (.load false 1 (.t 64)) [4,3,1,2,0],h9 19 79 (.Fa true (.t 65) [.t 78]) [5,18,4,3,1,2,0,11,17,6,10,9,7,8,16,15,13,14,12],h9 20 13 (.mv (.t 79)) [19,0,1,2,3,4,5,6,7,8,9,10,11,12,13,14,15,16,17,18]])<|s9 [m9 80 8,m9 81 12,o9 82 (.lit
 false 1 3 [.t 81]),o9 83 (.app 1 8 3 (.t 80) (.t 82)),m9 8 83]<|.aB [⟨11,m9 95 12⟩,⟨9,m9 93 13⟩,⟨6,m9 90 11⟩,⟨5,m9 89 8⟩,h9 7 91 (.bE 1 (.t 89) (.t 90)) [5,6],h9 8 92 (.load false 1 (.t 91)) [7,5,6],h9 10 94 (.bin .add
 (.t 92) (.t 93)) [8,9,7,5,6],h9 12 96 (.bin .sub (.t 94) (.t 95)) [10,11,8,9,7,5,6],h9 13 97 (.lit false 1 3 [.t 96]) [12,10,11,8,9,7,5,6],⟨4,m9 88 10⟩,⟨1,m9 85 13⟩,h9 2 86 (.lit false 1 3 [.t 85]) [1],⟨0,m9 84 9⟩,h9 3 87 (.app
 1 8 3 (.t 84) (.t 86)) [0,2,1],h9 14 98 (.app 1 8 3 (.t 88) (.t 97)) [4,13,3,12,10,11,8,9,7,5,6,0,2,1],h9 15 9 (.mv (.t 87)) [3,14,0,1,2,4,13,12,10,11,8,9,7,5,6],h9 16 10 (.mv (.t 98)) [14,15,0,1,2,3,4,5,6,7,8,9,10,11,12,13]])<|r9
 [d9 99 .add 31 1,m9 31 99])<|s9 [m9 100 8,m9 101 9,m9 102 10,m9 2 100,m9 3 101,m9 4 102,o9 5 (.mv (k9 0))]<|.ret
abbrev Bz:Nat:=32
theorem BV:aq prog 32 [27,1000000]=some (su,[.t 2,.t 3,.t 4,.t 5],103):=by kernel_rfl
def sK:ay:=s9 [o9 6 (.box 4 88 (.t 1)),o9 7 (.box 3 93 (.t 2)),a9 10 6 26 (.agg [z9,z9,z9,z9,z9,z9])]<|s9 [m9 14 4,m9 15 3,m9 16 0,c9 17 22 [.t 16,k9 3],o9 18 (.bin .add (k9 1) (.t 17)),o9 19 (.build [z9,
 z9,z9,z9,z9,z9] [(0,1,.t 14),(1,1,.t 15),(2,1,.t 18)]),a9 11 6 26 (.agg [z9,z9,z9,z9,z9,z9]),t9 6 11 19]<|s9 [f9 20 0 7,l9 21 20,f9 22 1 7,l9 23 22,f9 24 2 7,l9 25 24,o9 26 (.lit false 1 22 [.t 21,.t 23,.t
 25]),f9 27 2 11,l9 28 27,d9 29 .sub 28 1,x9 30 1 26 29,l9 31 30,m9 12 31]<|s9 [m9 32 0,m9 33 12,n9 34 33,c9 35 22 [.t 32,.t 34],m9 13 35]<|.seq (.aB [⟨6,m9 42 13⟩,⟨5,m9 41 12⟩,h9 7 43 (.bE 1 (.t 41) (.t 42))
 [5,6],h9 8 44 (.load false 1 (.t 43)) [7,5,6],⟨4,m9 40 0⟩,⟨2,m9 38 13⟩,⟨0,f9 36 0 6⟩,h9 1 37 (.load false 1 (.t 36)) [0],h9 3 39 (.bin .add (.t 37) (.t 38)) [1,2,0],h9 10 46 (.fa 3 (.t 11)) [0,1,2,3],h9 9 45 (.call 75 [.t 40,
 .t 44]) [4,8,7,5,6],⟨11,⟨none,.store 1 (.t 46) (.t 39),none,[10,3,9,0,1,2,4,8,7,5,6]⟩⟩,h9 12 47 (.fa 4 (.t 11)) [0,1,2,3,4,5,6,7,8,9,10,11],⟨13,⟨none,.store 2 (.t 47) (.t 45),none,[12,9,11,0,1,2,3,4,5,6,7,
 8,10]⟩⟩])<|s9 [q9 48 6 11,t9 6 10 48]<|.ret
abbrev rX:Nat:=33
theorem Cb:aq prog 33 [1000000]=some (sK,[.c 10 true 6],49):=by kernel_rfl
def mR:ay:=s9 [o9 4 (.box 3 44 (.t 1)),o9 6 (.mv (k9 0)),o9 7 (.mv (k9 0)),o9 8 (.mv (k9 0))]<|.seq (s9 [f9 12 2 4,l9 13 12,n9 14 13,d9 15 .eql 14 0,m9 16 15,g9 17 (.fa 0 (.t 4)) 16 false,g9 18 (.load false 1
 (.t 17)) 16 false,g9 19 (.len (.t 18)) 16 false,g9 20 (.bin .eql (.t 19) (k9 0)) 16 false,w9 21 16 true 20]<|u9 21 (s9 [m9 22 0,c9 23 22 [.t 22,k9 3],o9 24 (.bin .add (k9 1) (.t 23)),m9 25 0,c9 26 22 [.t 25,k9 3],o9 27 (.bin
 .add (k9 1) (.t 26)),m9 28 0,c9 29 22 [.t 28,k9 100],m9 6 24,m9 7 27,m9 8 29]<|.ret)<|.skip)<|.seq (.aB [⟨3,f9 33 2 4⟩,h9 4 34 (.load false 1 (.t 33)) [3],h9 5 35 (.len (.t 34)) [4,3],⟨2,m9 32 0⟩,⟨0,f9 30 2 4⟩,h9
 1 31 (.load false 1 (.t 30)) [0],h9 6 36 (.call 22 [.t 32,.t 35]) [2,5,4,3],h9 7 37 (.bE 7 (.t 31) (.t 36)) [1,6,0,2,5,4,3],h9 8 38 (.load true 7 (.t 37)) [7,1,6,0,2,5,4,3],⟨9,a9 9 7 28 (.agg [z9,z9,z9,z9,z9,.nil,.bool
 false])⟩,⟨10,⟨none,.store 7 (.t 9) (.t 38),none,[9,8,6,0,1,2,3,4,5,7]⟩⟩])<|.seq (.aB [⟨3,f9 42 0 4⟩,h9 4 43 (.load false 1 (.t 42)) [3],h9 5 44 (.len (.t 43)) [4,3],⟨2,m9 41 0⟩,⟨0,f9 39 0 4⟩,h9 1 40 (.load
 false 1 (.t 39)) [0],h9 6 45 (.call 22 [.t 41,.t 44]) [2,5,4,3],h9 7 46 (.bE 3 (.t 40) (.t 45)) [1,6,0,2,5,4,3],h9 8 47 (.load true 3 (.t 46)) [7,1,6,0,2,5,4,3],⟨9,a9 10 3 131 (.agg [z9,z9,z9])⟩,⟨10,⟨none,.store 3 (.t 10) (.t
 47),none,[9,8,6,0,1,2,3,4,5,7]⟩⟩])<|s9 [f9 48 2 10,l9 49 48,q9 50 7 9,c9 51 76 [.t 49,k9 1,.t 50],m9 11 51]<|.seq (s9 [m9 52 0,c9 53 22 [.t 52,k9 8]]<|.block 0<|s9 [d9 55 .eql 53 6,m9 54 55]<|u9 54 (r9 [f9 56
 2 10,l9 57 56,q9 58 7 9,c9 59 76 [.t 57,k9 2,.t 58],m9 11 59])<|s9 [d9 61 .eql 53 7,m9 60 61]<|u9 60 (r9 [m9 62 11,d9 63 .add 62 1,m9 11 63])<|.skip)<|.seq (.aB [⟨4,m9 68 11⟩,⟨2,f9 66 0 10⟩,h9 3 67 (.load false 1
 (.t 66)) [2],⟨0,f9 64 0 9⟩,h9 1 65 (.load false 1 (.t 64)) [0],h9 5 6 (.mv (.t 65)) [1,0],h9 6 7 (.mv (.t 67)) [3,5,0,1,2],h9 7 8 (.mv (.t 68)) [4,6,0,1,2,3,5]])<|.ret
abbrev rW:Nat:=34
theorem sO:aq prog 34 [1000000]=some (mR,[.t 6,.t 7,.t 8],69):=by kernel_rfl
def vt:ay:=s9 [a9 4 4 30 (.agg [z9,z9,z9,z9])]<|s9 [m9 6 1,m9 7 0,c9 8 22 [.t 7,k9 3],o9 9 (.bin .add (k9 1) (.t 8)),o9 10 (.build [z9,z9,z9,z9] [(0,1,.t 6),(1,1,.t 9)]),a9 5 4 30 (.agg [z9,z9,z9,
 z9]),t9 4 5 10]<|.seq (s9 [f9 11 1 5,l9 12 11]<|.block 0<|s9 [d9 20 .eql 12 1,m9 19 20]<|u9 19 (r9 [m9 21 0,c9 22 22 [.t 21,k9 50],f9 23 3 5,t9 1 23 22])<|s9 [d9 25 .eql 12 2,m9 24 25]<|u9 24 (r9 [m9 26 0,c9 27 22 [.t
 26,k9 8],f9 28 2 5,t9 1 28 27])<|r9 [m9 13 0,c9 14 22 [.t 13,k9 6],m9 15 0,c9 16 22 [.t 15,k9 2],f9 17 2 5,t9 1 17 14,f9 18 3 5,t9 1 18 16])<|s9 [q9 29 4 5,t9 4 4 29]<|.ret
abbrev uF:Nat:=35
theorem Ep:aq prog 35 [1000000]=some (vt,[.c 4 true 4],30):=by kernel_rfl
def nO:ay:=s9 [o9 1 (.box 21 32 (.t 0)),o9 2 (.mv (.c (.str ⟨#[]⟩))),o9 3 (.mv (k9 0))]<|s9 [q9 10 21 1,c9 11 77 [.t 10],m9 9 11,e9 12 9 0,e9 13 9 1,m9 4 12,m9 5 13]<|.seq (s9 [m9 14 5,o9 15 (.un .not (.t
 14))]<|u9 15 (s9 [o9 2 (.mv (.c (.str ⟨#[]⟩))),o9 3 (.mv (k9 49))]<|.ret)<|.skip)<|s9 [f9 16 0 1,l9 17 16,o9 18 (.conv .u8 (.t 17)),o9 19 (.lit true 1 5 [.t 18]),m9 6 19]<|.seq (s9 [m9 20 4,n9 21 20,o9 22 (.mv (k9 0))]<|
 .block 0<|.loop<|s9 [b9 23 .lss 22 21]<|.seq (u9 23 (.skip)<|.exit 0)<|.seq (.block 1<|s9 [x9 24 1 20 22,l9 25 24,m9 8 25]<|r9 [m9 26 6,m9 27 8,c9 28 78 [.t 26,.t 27,k9 5],m9 6 28])<|r9 [d9 29 .add 22 1,m9 22 29])
 <| s9 [m9 30 6,m9 31 6,o9 32 (.Iu (.t 31)),c9 33 79 [.t 32],c9 34 78 [.t 30,.t 33,k9 4],o9 35 (.Iu (.t 34)),m9 2 35,o9 3 (.mv (k9 0))]<|.ret
abbrev wz:Nat:=36
theorem xe:aq prog 36 [19,1000000]=some (nO,[.t 2,.t 3],36):=by kernel_rfl
def po:ay:=s9 [o9 1 (.box 7 49 (.t 0)),a9 2 7 49 (.agg [.nil,.nil,.nil,z9,.nil,z9,.nil])]<|.seq (.aB [⟨4,f9 10 2 1⟩,h9 5 11 (.fa 1 (.t 10)) [4],h9 6 12 (.load false 1 (.t 11)) [5,4],⟨0,f9 6 2 1⟩,h9 1
 7 (.fa 0 (.t 6)) [0],h9 2 8 (.load false 1 (.t 7)) [1,0],h9 3 9 (.call 80 [.t 8]) [2,1,0],h9 7 13 (.build [.nil,z9,.nil] [(0,1,.t 9),(1,1,.t 12)]) [3,6,2,1,0,5,4],h9 8 14 (.build [.nil,.nil,.nil,z9,.nil,z9,.nil] [(2,3,
 .t 13)]) [7,3,6,2,1,0,5,4],⟨9,a9 3 7 49 (.agg [.nil,.nil,.nil,z9,.nil,z9,.nil])⟩,⟨10,⟨none,.store 7 (.t 3) (.t 14),none,[9,8,3,0,1,2,4,5,6,7]⟩⟩])<|.seq (s9 [f9 15 2 1,f9 16 2 15,l9 17 16,n9 18 17,o9 19 (.mv (k9
 0))]<|.block 0<|.loop<|s9 [b9 20 .lss 19 18]<|.seq (u9 20 (.skip)<|.exit 0)<|.seq (.block 1<|s9 [x9 21 7 17 19,q9 22 7 21,a9 5 7 28 (.agg [z9,z9,z9,z9,z9,.nil,.bool false]),t9 7 5 22]<|s9 [f9 23 5 5,l9 24 23,c9
 25 81 [.t 24],f9 26 5 5,t9 1 26 25]<|r9 [f9 27 2 3,f9 28 2 27,l9 29 28,q9 30 7 5,o9 31 (.lit false 7 28 [.t 30]),o9 32 (.app 7 72 28 (.t 29) (.t 31)),f9 33 2 3,f9 34 2 33,t9 1 34 32])<|r9 [d9 35 .add 19 1,m9 19 35])<|s9
 [f9 37 0 1,q9 38 2 37,c9 39 82 [.t 38,k9 1073741824],m9 36 39,e9 40 36 0,e9 41 36 1,f9 42 0 3,t9 2 42 40]<|.seq (.aB [⟨3,f9 46 5 1⟩,h9 4 47 (.fa 1 (.t 46)) [3],h9 5 48 (.load false 1 (.t 47)) [4,3],⟨0,f9 43 5 1⟩,h9 1
 44 (.fa 0 (.t 43)) [0],h9 2 45 (.load false 1 (.t 44)) [1,0],h9 6 49 (.call 83 [.t 48]) [5,4,3],h9 7 50 (.build [z9,.nil] [(0,1,.t 45),(1,1,.t 49)]) [2,6,1,0,5,4,3],h9 8 51 (.fa 5 (.t 3)) [0,1,2,3,4,5,6,7],⟨9,⟨none,.store 2
 (.t 51) (.t 50),none,[8,7,6,0,1,2,3,4,5]⟩⟩])<|s9 [q9 52 7 3,t9 7 2 52]<|.ret
abbrev yn:Nat:=37
theorem yJ:aq prog 37 [1000000]=some (po,[.c 2 true 7],53):=by kernel_rfl
def je:ay:=s9 [o9 5 (.box 3 44 (.t 0)),a9 10 3 44 (.agg [.nil,z9,.nil]),o9 11 (.mv (k9 0))]<|s9 [q9 17 3 5,m9 18 1,m9 19 2,m9 20 3,m9 21 4,c9 22 84 [.t 17,.t 18,.t 19,.t 20,k9 2,.t 21],m9 16 22,e9
 23 16 0,e9 24 16 1,e9 25 16 2,a9 13 3 131 (.agg [z9,z9,z9]),m9 12 23,t9 3 13 24,m9 14 25]<|.seq (s9 [m9 26 14,d9 27 .neq 26 0]<|u9 27 (s9 [o9 28 (.build [.nil,z9,.nil] []),m9 29 14,t9 3 10 28,m9 11 29]<|.ret)<|.skip)
 <| s9 [q9 30 3 5,c9 31 85 [.t 30],a9 15 3 44 (.agg [.nil,z9,.nil]),t9 3 15 31]<|s9 [f9 32 2 15,l9 33 32,m9 34 12,x9 35 7 33 34,f9 36 6 35,⟨none,.store 1 (.t 36) (.c (.bool true)),none,[]⟩]<|s9 [q9 37 3 15,t9 3 10 37,o9
 11 (.mv (k9 0))]<|.ret
abbrev qc:Nat:=38
theorem qO:aq prog 38 [1000000]=some (je,[.c 10 true 3,.t 11],38):=by kernel_rfl
def ju:ay:=s9 [o9 2 (.box 2 40 (.t 0)),o9 3 (.box 6 26 (.t 1)),a9 4 2 40 (.agg [.nil,.nil]),o9 5 (.mv (k9 0))]<|.seq (s9 [q9 9 2 2,c9 10 56 [.t 9],d9 11 .neq 10 0]<|u9 11 (s9 [o9 12 (.build [.nil,.nil] []),
 t9 2 4 12,o9 5 (.mv (k9 50))]<|.ret)<|.skip)<|.seq (s9 [q9 13 6 3,c9 14 86 [.t 13],o9 15 (.un .not (.t 14))]<|u9 15 (s9 [o9 16 (.build [.nil,.nil] []),t9 2 4 16,o9 5 (.mv (k9 3))]<|.ret)<|.skip)<|.seq (s9 [f9 17 0 2,
 l9 18 17,q9 19 6 3,c9 20 87 [.t 18,.t 19],m9 6 20]<|s9 [m9 21 6,d9 22 .neq 21 0]<|u9 22 (s9 [o9 23 (.build [.nil,.nil] []),m9 24 6,t9 2 4 23,m9 5 24]<|.ret)<|.skip)<|s9 [f9 26 1 2,l9 27 26,q9 28 6 3,c9 29 88 [.t 27,
 .t 28,.c (.func 89 [])],m9 25 29,e9 30 25 0,e9 31 25 1,m9 7 30,m9 8 31]<|.seq (.block 0<|.seq (.aB [⟨0,m9 33 8⟩,h9 1 34 (.mv (.t 33)) [0],⟨7,⟨some 40,.load true 6 (.t 3),some (34,true),[1,0]⟩⟩,⟨4,⟨some 37,.mv
 (.t 7),some (34,true),[1,0]⟩⟩,⟨2,⟨some 35,.fa 1 (.t 2),some (34,true),[1,0]⟩⟩,⟨3,⟨some 36,.load false 1 (.t 35),some (34,true),[2,1,0]⟩⟩,⟨5,⟨some 38,.bE 6 (.t 36) (.t 37),some (34,true),[3,4,1,2,0]⟩⟩,⟨6,
 ⟨some 39,.load true 6 (.t 38),some (34,true),[5,1,3,4,2,0]⟩⟩,⟨8,⟨some 41,.eqs false [0,0,0,0,0,0] (.t 39) (.t 40),some (34,true),[6,7,1,5,3,4,2,0]⟩⟩,h9 9 42 (.pick (.t 34) (.t 41) (.c (.bool false)))
 [1,8,0,6,7,5,3,4,2],h9 10 32 (.mv (.t 42)) [9,1,8,0,6,7,5,3,4,2]])<|u9 32 (s9 [q9 43 2 2,f9 44 1 2,l9 45 44,c9 46 90 [.t 43,.t 45],t9 2 4 46,o9 5 (.mv (k9 0))]<|.ret)<|s9 [m9 48 8,m9 47 48]<|u9 47 (s9 [o9 49 (.build [.nil,
 .nil] []),t9 2 4 49,o9 5 (.mv (k9 46))]<|.ret)<|s9 [f9 51 1 2,l9 52 51,n9 53 52,d9 54 .eql 53 4096,m9 50 54]<|u9 50 (s9 [o9 55 (.build [.nil,.nil] []),t9 2 4 55,o9 5 (.mv (k9 10))]<|.ret)<|.skip)<|.seq (.aB [⟨4,
 q9 60 6 3⟩,⟨3,m9 59 7⟩,⟨1,f9 57 1 2⟩,h9 2 58 (.load false 1 (.t 57)) [1],⟨0,q9 56 2 2⟩,h9 5 61 (.call 91 [.t 58,.t 59,.t 60]) [2,3,4,1],h9 6 62 (.call 90 [.t 56,.t 61]) [0,5,2,3,4,1],⟨7,⟨none,.store 2 (.t 4) (.t 62),none,
 [6,0,1,2,3,4,5]⟩⟩,h9 8 5 (.mv (k9 0)) [7,0,1,2,3,4,5,6]])<|.ret
abbrev oT:Nat:=39
theorem pA:aq prog 39 [1000000]=some (ju,[.c 4 true 2,.t 5],63):=by kernel_rfl
def jU:ay:=s9 [o9 5 (.box 3 44 (.t 0)),a9 10 3 44 (.agg [.nil,z9,.nil]),o9 11 (.mv (k9 0)),o9 12 (.mv (k9 0))]<|.seq (.block 0<|s9 [q9 15 3 5,c9 16 92 [.t 15],o9 17 (.un .not (.t 16)),m9 14 17]<|u9 14
 (s9 [o9 18 (.build [.nil,z9,.nil] []),t9 3 10 18,o9 11 (.mv (k9 0)),o9 12 (.mv (k9 50))]<|.ret)<|s9 [m9 20 1,d9 21 .lss 20 0,m9 22 21,v9 23 1 22 false,g9 24 (.bin .geq (.t 23) (k9 6)) 22 false,w9 25 22 true 24,m9 19 25]<|
 u9 19 (s9 [o9 26 (.build [.nil,z9,.nil] []),t9 3 10 26,o9 11 (.mv (k9 0)),o9 12 (.mv (k9 40))]<|.ret)<|s9 [m9 28 2,d9 29 .lss 28 0,m9 30 29,v9 31 2 30 false,v9 32 3 30 false,g9 33 (.bin .gtr (.t 31) (.t 32)) 30 false,w9 34
 30 true 33,m9 35 34,v9 36 3 35 false,g9 37 (.bin .gtr (.t 36) (k9 16777216)) 35 false,w9 38 35 true 37,m9 27 38]<|u9 27 (s9 [o9 39 (.build [.nil,z9,.nil] []),t9 3 10 39,o9 11 (.mv (k9 0)),o9 12 (.mv (k9 6))]<|.ret)<|s9 [m9
 41 4,d9 42 .lss 41 0,m9 43 42,v9 44 4 43 false,g9 45 (.bin .gtr (.t 44) (k9 1073741824)) 43 false,w9 46 43 true 45,m9 40 46]<|u9 40 (s9 [o9 47 (.build [.nil,z9,.nil] []),t9 3 10 47,o9 11 (.mv (k9 0)),o9 12 (.mv (k9 1))]<|
 .ret)<|s9 [f9 49 2 5,l9 50 49,n9 51 50,d9 52 .eql 51 64,m9 53 52,g9 54 (.fa 1 (.t 5)) 53 false,g9 55 (.load false 1 (.t 54)) 53 false,g9 56 (.bin .eql (.t 55) (k9 1073741824)) 53 false,w9 57 53 true 56,m9 48 57]<|u9 48 (s9
 [o9 58 (.build [.nil,z9,.nil] []),t9 3 10 58,o9 11 (.mv (k9 0)),o9 12 (.mv (k9 10))]<|.ret)<|.skip)<|s9 [q9 59 3 5,c9 60 85 [.t 59],a9 13 3 44 (.agg [.nil,z9,.nil]),t9 3 13 60]<|s9 [f9 61 2 13,l9 62 61,f9 63 1 5,l9 64
 63,m9 65 1,m9 66 2,m9 67 3,m9 68 4,o9 69 (.build [z9,z9,z9,z9,z9,.nil,.bool false] [(0,1,.t 64),(1,1,.t 65),(2,1,.t 66),(3,1,.t 67),(4,1,.t 68)]),o9 70 (.lit false 7 28 [.t 69]),o9 71 (.app 7 72 28 (.t 62) (.t
 70)),f9 72 2 13,t9 1 72 71]<|s9 [f9 73 1 13,l9 74 73,d9 75 .add 74 1,f9 76 1 13,t9 1 76 75]<|.seq (.aB [⟨1,f9 78 1 5⟩,h9 2 79 (.load false 1 (.t 78)) [1],⟨0,q9 77 3 13⟩,⟨3,⟨none,.store 3 (.t 10) (.t 77),none,[0]⟩⟩,
 h9 4 11 (.mv (.t 79)) [2,3,0,1],h9 5 12 (.mv (k9 0)) [4,0,1,2,3]])<|.ret
abbrev rD:Nat:=40
theorem rJ:aq prog 40 [1000000]=some (jU,[.c 10 true 3,.t 11,.t 12],80):=by kernel_rfl
def nV:ay:=s9 [o9 5 (.box 3 44 (.t 0)),a9 10 3 44 (.agg [.nil,z9,.nil]),o9 11 (.mv (k9 0))]<|s9 [q9 22 3 5,m9 23 1,m9 24 2,m9 25 3,m9 26 4,c9 27 84 [.t 22,.t 23,.t 24,.t 25,k9 1,.t 26],m9 21 27,e9 28
 21 0,e9 29 21 1,e9 30 21 2,a9 13 3 131 (.agg [z9,z9,z9]),m9 12 28,t9 3 13 29,m9 14 30]<|.seq (s9 [m9 31 14,d9 32 .neq 31 0]<|u9 32 (s9 [o9 33 (.build [.nil,z9,.nil] []),m9 34 14,t9 3 10 33,m9 11 34]<|.ret)<|.skip)<|
 s9 [f9 35 2 5,l9 36 35,m9 37 12,x9 38 7 36 37,f9 39 5 38,l9 40 39,m9 15 40]<|.seq (s9 [m9 41 15,n9 42 41,d9 43 .eql 42 2,m9 44 43,v9 45 15 44 false,v9 46 2 44 false,g9 47 (.call 93 [.t 45,.t 46]) 44 false,w9 48 44 true 47]
 <| u9 48 (s9 [o9 49 (.build [.nil,z9,.nil] []),t9 3 10 49,o9 11 (.mv (k9 46))]<|.ret)<|.skip)<|.seq (s9 [m9 50 15,n9 51 50,o9 52 (.mv (k9 0))]<|.block 0<|.loop<|s9 [b9 53 .lss 52 51]<|.seq (u9 53 (.skip)<|.exit 0)<|
 .seq (.block 1<|s9 [x9 54 1 50 52,l9 55 54,m9 17 55]<|s9 [f9 57 0 5,l9 58 57,m9 59 17,c9 60 94 [.t 58,.t 59],m9 56 60,e9 61 56 0,e9 62 56 1,a9 18 3 131 (.agg [z9,z9,z9]),t9 3 18 61,m9 19 62]<|s9 [f9 63 1 18,l9 64 63,
 f9 65 1 13,l9 66 65,b9 67 .eql 64 66]<|u9 67 (s9 [o9 68 (.build [.nil,z9,.nil] []),t9 3 10 68,o9 11 (.mv (k9 5))]<|.ret)<|.skip)<|r9 [d9 69 .add 52 1,m9 52 69])<|s9 [q9 70 3 5,c9 71 85 [.t 70],a9 20 3 44 (.agg [.nil,
 z9,.nil]),t9 3 20 71]<|.seq (.aB [⟨9,m9 81 2⟩,h9 10 82 (.lit false 1 3 [.t 81]) [9],⟨5,m9 77 12⟩,⟨3,f9 75 2 20⟩,h9 4 76 (.load false 1 (.t 75)) [3],h9 6 78 (.bE 7 (.t 76) (.t 77)) [4,5,3],h9 7 79 (.fa 5 (.t 78))
 [6,4,5,3],h9 8 80 (.load false 1 (.t 79)) [7,6,4,5,3],⟨2,m9 74 12⟩,⟨0,f9 72 2 20⟩,h9 1 73 (.load false 1 (.t 72)) [0],h9 11 83 (.app 1 8 3 (.t 80) (.t 82)) [8,10,7,6,4,5,3,9],h9 12 84 (.bE 7 (.t 73) (.t 74))
 [1,2,0,3,4,5,6,7,8,9,10,11],h9 13 85 (.fa 5 (.t 84)) [12,0,1,2,3,4,5,6,7,8,9,10,11],⟨14,⟨none,.store 1 (.t 85) (.t 83),none,[13,11,0,1,2,3,4,5,6,7,8,9,10,12]⟩⟩])<|s9 [q9 86 3 20,t9 3 10 86,o9 11 (.mv (k9 0))]<|.ret
abbrev wF:Nat:=41
theorem xm:aq prog 41 [1000000]=some (nV,[.c 10 true 3,.t 11],87):=by kernel_rfl
def qE:ay:=s9 [o9 4 (.box 2 47 (.t 0)),a9 8 2 47 (.agg [z9,.nil]),a9 9 4 30 (.agg [z9,z9,z9,z9]),o9 10 (.mv (k9 0))]<|.seq (s9 [q9 13 2 4,c9 14 58 [.t 13],o9 15 (.un .not (.t 14))]<|u9 15 (s9 [o9 16 (.build
 [z9,.nil] []),o9 17 (.build [z9,z9,z9,z9] []),t9 2 8 16,t9 4 9 17,o9 10 (.mv (k9 50))]<|.ret)<|.skip)<|.seq (s9 [m9 18 1,m9 19 2,m9 20 3,c9 21 95 [.t 18,.t 19,.t 20],m9 11 21]<|s9 [m9 22 11,d9 23 .neq 22 0]<|u9 23
 (s9 [o9 24 (.build [z9,.nil] []),o9 25 (.build [z9,z9,z9,z9] []),m9 26 11,t9 2 8 24,t9 4 9 25,m9 10 26]<|.ret)<|.skip)<|.seq (s9 [f9 27 1 4,l9 28 27,n9 29 28,d9 30 .eql 29 64,m9 31 30,g9 32 (.fa 0 (.t 4)) 31 false,g9
 33 (.load false 1 (.t 32)) 31 false,g9 34 (.bin .eql (.t 33) (k9 1073741824)) 31 false,w9 35 31 true 34]<|u9 35 (s9 [o9 36 (.build [z9,.nil] []),o9 37 (.build [z9,z9,z9,z9] []),t9 2 8 36,t9 4 9 37,o9 10 (.mv (k9 10))]<|.ret)
 <| .skip)<|s9 [f9 38 0 4,l9 39 38,m9 40 1,m9 41 2,m9 42 3,o9 43 (.build [z9,z9,z9,z9] [(0,1,.t 39),(1,1,.t 40),(2,1,.t 41),(3,1,.t 42)]),a9 12 4 30 (.agg [z9,z9,z9,z9]),t9 4 12 43]<|.seq (.aB [⟨10,q9 54 4
 12⟩,⟨6,q9 50 4 12⟩,h9 7 51 (.lit false 4 30 [.t 50]) [6],⟨3,f9 47 1 4⟩,h9 4 48 (.load false 1 (.t 47)) [3],⟨0,f9 44 0 4⟩,h9 1 45 (.load false 1 (.t 44)) [0],h9 2 46 (.bin .add (.t 45) (k9 1)) [1,0],h9 5 49 (.call 83 [.t 48])
 [4,3],h9 8 52 (.app 4 32 30 (.t 49) (.t 51)) [5,7,4,3,6],h9 9 53 (.build [z9,.nil] [(0,1,.t 46),(1,1,.t 52)]) [2,8,1,0,5,7,4,3,6],⟨11,⟨none,.store 2 (.t 8) (.t 53),none,[9,8,0,1,2,3,4,5,6,7]⟩⟩,⟨12,⟨none,.store 4
 (.t 9) (.t 54),none,[10,11,0,1,2,3,4,5,6,7,8,9]⟩⟩,h9 13 10 (.mv (k9 0)) [12,0,1,2,3,4,5,6,7,8,9,10,11]])<|.ret
abbrev zX:Nat:=42
theorem AZ:aq prog 42 [1000000]=some (qE,[.c 8 true 2,.c 9 true 4,.t 10],55):=by kernel_rfl
def nM:ay:=s9 [o9 2 (.box 2 47 (.t 0)),o9 3 (.box 1 3 (.t 1)),a9 4 2 47 (.agg [z9,.nil]),o9 5 (.mv (k9 0))]<|.seq (s9 [q9 7 2 2,c9 8 58 [.t 7],o9 9 (.un .not (.t 8))]<|u9 9 (s9 [o9 10 (.build [z9,.nil] []),
 t9 2 4 10,o9 5 (.mv (k9 50))]<|.ret)<|.skip)<|.seq (s9 [l9 11 3,d9 12 .lss 11 0,m9 13 12,g9 14 (.load false 1 (.t 3)) 13 false,g9 15 (.fa 0 (.t 2)) 13 false,g9 16 (.load false 1 (.t 15)) 13 false,g9 17 (.bin .geq (.t 14) (.t
 16)) 13 false,w9 18 13 true 17]<|u9 18 (s9 [o9 19 (.build [z9,.nil] []),t9 2 4 19,o9 5 (.mv (k9 1))]<|.ret)<|.skip)<|s9 [f9 20 1 2,l9 21 20,c9 22 83 [.t 21],m9 6 22]<|.seq (.aB [⟨3,o9 26 (.H9 97 [.t 3])⟩,⟨2,m9 25
 6⟩,⟨0,f9 23 0 2⟩,h9 1 24 (.load false 1 (.t 23)) [0],h9 4 27 (.call 96 [.t 25,.t 26]) [2,3],h9 5 28 (.build [z9,.nil] [(0,1,.t 24),(1,1,.t 27)]) [1,4,0,2,3],⟨6,⟨none,.store 2 (.t 4) (.t 28),none,[5,4,0,1,2,3]⟩⟩,h9 7
 5 (.mv (k9 0)) [6,0,1,2,3,4,5]])<|.ret
abbrev wx:Nat:=43
theorem xc:aq prog 43 [1000000]=some (nM,[.c 4 true 2,.t 5],29):=by kernel_rfl
def sr:ay:=s9 [o9 1 (.box 21 32 (.t 0)),o9 2 (.mv (.c (.bool false)))]<|s9 [q9 8 21 1,c9 9 65 [.t 8],m9 7 9,e9 10 7 0,e9 11 7 1,m9 3 10,m9 4 11]<|.seq (s9 [m9 12 4,o9 13 (.un .not (.t 12))]<|u9 13 (s9 [o9 2
 (.mv (.c (.bool false)))]<|.ret)<|.skip)<|.seq (s9 [m9 14 3,n9 15 14,o9 16 (.mv (k9 0))]<|.block 0<|.loop<|s9 [b9 17 .lss 16 15]<|.seq (u9 17 (.skip)<|.exit 0)<|.seq (.block 1<|s9 [x9 18 1 14 16,l9 19 18,m9 6 19]
 <| s9 [m9 20 6,d9 21 .lss 20 0,m9 22 21,v9 23 6 22 false,g9 24 (.bin .gtr (.t 23) (k9 274877906944)) 22 false,w9 25 22 true 24]<|u9 25 (s9 [o9 2 (.mv (.c (.bool false)))]<|.ret)<|.skip)<|r9 [d9 26 .add 16 1,m9 16 26])<|
 .seq (.aB [⟨4,q9 31 21 1⟩,⟨2,m9 29 3⟩,⟨0,f9 27 0 1⟩,h9 1 28 (.load false 1 (.t 27)) [0],h9 3 30 (.call 99 [.t 28,.t 29]) [1,2,0],h9 5 32 (.call 98 [.t 30,.t 31]) [3,4,1,2,0],h9 6 2 (.mv (.t 32)) [5,0,1,2,3,4]])<|.ret
abbrev Bx:Nat:=44
theorem BT:aq prog 44 [1000000]=some (sr,[.t 2],33):=by kernel_rfl
def oH:ay:=s9 [o9 2 (.box 2 40 (.t 0)),o9 3 (.box 6 26 (.t 1)),a9 4 2 40 (.agg [.nil,.nil]),o9 5 (.mv (k9 0))]<|.seq (s9 [q9 10 2 2,c9 11 59 [.t 10],d9 12 .neq 11 0]<|u9 12 (s9 [o9 13 (.build [.nil,.nil] []),t9
 2 4 13,o9 5 (.mv (k9 50))]<|.ret)<|.skip)<|.seq (s9 [f9 14 0 2,l9 15 14,q9 16 6 3,c9 17 100 [.t 15,.t 16],m9 6 17]<|s9 [m9 18 6,d9 19 .neq 18 0]<|u9 19 (s9 [o9 20 (.build [.nil,.nil] []),m9 21 6,t9 2 4 20,m9 5 21]<|
 .ret)<|.skip)<|s9 [q9 22 2 2,c9 23 30 [.t 22],a9 7 2 40 (.agg [.nil,.nil]),t9 2 7 23]<|s9 [o9 8 (.mv (k9 0))]<|.seq (.block 0<|.loop<|.seq (.seq (.aB [⟨1,f9 25 1 2⟩,h9 2 26 (.load false 1 (.t 25)) [1],h9 3 27 (.len
 (.t 26)) [2,1],⟨0,m9 24 8⟩,h9 4 28 (.bin .lss (.t 24) (.t 27)) [0,3,2,1],h9 5 29 (.mv (.t 28)) [4,0,3,2,1],⟨12,⟨some 36,.fa 0 (.t 3),some (29,true),[5,4,0,3,2,1]⟩⟩,⟨13,⟨some 37,.load false 1 (.t 36),some (29,true),
 [12,5,4,0,3,2,1]⟩⟩,⟨8,⟨some 32,.mv (.t 8),some (29,true),[5,4,0,3,2,1]⟩⟩,⟨6,⟨some 30,.fa 1 (.t 2),some (29,true),[5,4,0,3,2,1]⟩⟩,⟨7,⟨some 31,.load false 1 (.t 30),some (29,true),[6,5,4,0,3,2,1]⟩⟩,
 ⟨9,⟨some 33,.bE 6 (.t 31) (.t 32),some (29,true),[7,8,5,6,4,0,3,2,1]⟩⟩,⟨10,⟨some 34,.fa 0 (.t 33),some (29,true),[9,5,7,8,6,4,0,3,2,1]⟩⟩,⟨11,⟨some 35,.load false 1 (.t 34),some (29,true),[10,5,9,7,8,
 6,4,0,3,2,1]⟩⟩,⟨14,⟨some 38,.bin .lss (.t 35) (.t 37),some (29,true),[11,13,5,10,9,7,8,6,4,0,3,2,1,12]⟩⟩,h9 15 39 (.pick (.t 29) (.t 38) (.c (.bool false))) [5,14,4,0,3,2,1,11,13,10,9,7,8,6,12]])<|u9 39 (.skip)
 <| .exit 0)<|.block 1<|r9 [m9 40 8,d9 41 .add 40 1,m9 8 41])<|.seq (.seq (.aB [⟨1,f9 43 1 2⟩,h9 2 44 (.load false 1 (.t 43)) [1],h9 3 45 (.len (.t 44)) [2,1],⟨0,m9 42 8⟩,h9 4 46 (.bin .lss (.t 42) (.t 45)) [0,3,2,1],h9
 5 47 (.mv (.t 46)) [4,0,3,2,1],⟨12,⟨some 54,.fa 0 (.t 3),some (47,true),[5,4,0,3,2,1]⟩⟩,⟨13,⟨some 55,.load false 1 (.t 54),some (47,true),[12,5,4,0,3,2,1]⟩⟩,⟨8,⟨some 50,.mv (.t 8),some (47,true),[5,4,0,3,
 2,1]⟩⟩,⟨6,⟨some 48,.fa 1 (.t 2),some (47,true),[5,4,0,3,2,1]⟩⟩,⟨7,⟨some 49,.load false 1 (.t 48),some (47,true),[6,5,4,0,3,2,1]⟩⟩,⟨9,⟨some 51,.bE 6 (.t 49) (.t 50),some (47,true),[7,8,5,6,4,0,3,2,
 1]⟩⟩,⟨10,⟨some 52,.fa 0 (.t 51),some (47,true),[9,5,7,8,6,4,0,3,2,1]⟩⟩,⟨11,⟨some 53,.load false 1 (.t 52),some (47,true),[10,5,9,7,8,6,4,0,3,2,1]⟩⟩,⟨14,⟨some 56,.bin .eql (.t 53) (.t 55),some (47,true),
 [11,13,5,10,9,7,8,6,4,0,3,2,1,12]⟩⟩,h9 15 57 (.pick (.t 47) (.t 56) (.c (.bool false))) [5,14,4,0,3,2,1,11,13,10,9,7,8,6,12]])<|u9 57 (.seq (.seq (.aB [⟨5,q9 63 6 3⟩,⟨2,m9 60 8⟩,⟨0,f9 58 1 2⟩,h9 1 59 (.load
 false 1 (.t 58)) [0],h9 3 61 (.bE 6 (.t 59) (.t 60)) [1,2,0],h9 4 62 (.load true 6 (.t 61)) [3,1,2,0],h9 6 64 (.eqs true [0,0,0,0,0,0] (.t 62) (.t 63)) [4,5,3,1,2,0]])<|u9 64 (s9 [o9 65 (.build [.nil,.nil] []),t9 2 4 65,o9 5
 (.mv (k9 46))]<|.ret)<|.skip)<|s9 [q9 66 2 7,t9 2 4 66,o9 5 (.mv (k9 0))]<|.ret)<|.skip)<|.seq (s9 [f9 67 1 2,l9 68 67,n9 69 68,d9 70 .eql 69 4096]<|u9 70 (s9 [o9 71 (.build [.nil,.nil] []),t9 2 4 71,o9 5 (.mv (k9
 10))]<|.ret)<|.skip)<|s9 [o9 9 (.mv (.c (.nil)))]<|.seq (.aB [⟨11,m9 83 8⟩,⟨9,f9 81 1 2⟩,h9 10 82 (.load false 1 (.t 81)) [9],h9 12 84 (.rm 6 (.t 82) (some (.t 83)) none) [10,11,9],⟨6,q9 78 6 3⟩,h9 7 79 (.lit false 6
 26 [.t 78]) [6],⟨3,m9 75 8⟩,⟨1,f9 73 1 2⟩,h9 2 74 (.load false 1 (.t 73)) [1],h9 4 76 (.rm 6 (.t 74) none (some (.t 75))) [2,3,1],⟨0,m9 72 9⟩,h9 5 77 (.app 6 48 26 (.t 72) (.t 76)) [0,4,2,3,1],h9 8 80 (.app 6 48 26 (.t 77) (.t
 79)) [5,7,0,4,2,3,1,6],h9 13 85 (.app 6 48 26 (.t 80) (.t 84)) [8,12,5,7,0,4,2,3,1,6,10,11,9],h9 14 9 (.mv (.t 85)) [13,0,1,2,3,4,5,6,7,8,9,10,11,12]])<|s9 [m9 86 9,f9 87 1 7,t9 1 87 86]<|s9 [q9 88 2 7,t9 2 4 88,o9 5 (.mv (k9
 0))]<|.ret
abbrev uz:Nat:=45
theorem vC:aq prog 45 [1000000]=some (oH,[.c 4 true 2,.t 5],89):=by kernel_rfl
def pn:ay:=s9 [o9 5 (.box 3 44 (.t 0)),a9 10 3 44 (.agg [.nil,z9,.nil]),o9 11 (.mv (k9 0)),o9 12 (.mv (k9 0))]<|.seq (.block 0<|s9 [q9 14 3 5,c9 15 60 [.t 14],d9 16 .neq 15 0,m9 13 16]<|u9 13 (s9 [o9 17
 (.build [.nil,z9,.nil] []),t9 3 10 17,o9 11 (.mv (k9 0)),o9 12 (.mv (k9 50))]<|.ret)<|s9 [m9 19 1,c9 20 101 [.t 19,k9 0,k9 5],o9 21 (.un .not (.t 20)),m9 18 21]<|u9 18 (s9 [o9 22 (.build [.nil,z9,.nil] []),t9 3 10 22,
 o9 11 (.mv (k9 0)),o9 12 (.mv (k9 40))]<|.ret)<|s9 [m9 24 2,d9 25 .lss 24 0,m9 26 25,v9 27 2 26 false,v9 28 3 26 false,g9 29 (.bin .gtr (.t 27) (.t 28)) 26 false,w9 30 26 true 29,m9 31 30,v9 32 3 31 false,g9 33 (.bin .gtr
 (.t 32) (k9 16777216)) 31 false,w9 34 31 true 33,m9 23 34]<|u9 23 (s9 [o9 35 (.build [.nil,z9,.nil] []),t9 3 10 35,o9 11 (.mv (k9 0)),o9 12 (.mv (k9 6))]<|.ret)<|s9 [m9 37 4,c9 38 101 [.t 37,k9 0,k9 1073741824],o9 39 (.un
 .not (.t 38)),m9 36 39]<|u9 36 (s9 [o9 40 (.build [.nil,z9,.nil] []),t9 3 10 40,o9 11 (.mv (k9 0)),o9 12 (.mv (k9 1))]<|.ret)<|s9 [f9 42 2 5,l9 43 42,n9 44 43,d9 45 .eql 44 64,m9 46 45,g9 47 (.fa 1 (.t 5)) 46 false,g9 48
 (.load false 1 (.t 47)) 46 false,g9 49 (.bin .eql (.t 48) (k9 1073741824)) 46 false,w9 50 46 true 49,m9 41 50]<|u9 41 (s9 [o9 51 (.build [.nil,z9,.nil] []),t9 3 10 51,o9 11 (.mv (k9 0)),o9 12 (.mv (k9 10))]<|.ret)<|.skip)<|
 s9 [q9 52 3 5,c9 53 31 [.t 52],t9 3 5 53]<|s9 [f9 54 2 5,l9 55 54,f9 56 1 5,l9 57 56,m9 58 1,m9 59 2,m9 60 3,m9 61 4,o9 62 (.build [z9,z9,z9,z9,z9,.nil,.bool false] [(0,1,.t 57),(1,1,.t 58),(2,1,.t 59),(3,1,.t
 60),(4,1,.t 61)]),o9 63 (.lit false 7 28 [.t 62]),o9 64 (.app 7 72 28 (.t 55) (.t 63)),f9 65 2 5,t9 1 65 64]<|s9 [f9 66 1 5,l9 67 66,d9 68 .add 67 1,f9 69 1 5,t9 1 69 68]<|.seq (.aB [⟨1,f9 71 1 5⟩,h9 2 72 (.load
 false 1 (.t 71)) [1],h9 3 73 (.bin .sub (.t 72) (k9 1)) [2,1],⟨0,q9 70 3 5⟩,⟨4,⟨none,.store 3 (.t 10) (.t 70),none,[0]⟩⟩,h9 5 11 (.mv (.t 73)) [3,4,0,1,2],h9 6 12 (.mv (k9 0)) [5,0,1,2,3,4]])<|.ret
abbrev oU:Nat:=46
theorem yI:aq prog 46 [1000000]=some (pn,[.c 10 true 3,.t 11,.t 12],74):=by kernel_rfl
def vl:ay:=s9 [o9 5 (.box 3 44 (.t 0)),a9 10 3 44 (.agg [.nil,z9,.nil]),o9 11 (.mv (k9 0))]<|s9 [q9 21 3 5,m9 22 1,m9 23 2,m9 24 3,m9 25 4,c9 26 102 [.t 21,.t 22,.t 23,.t 24,.t 25,k9 1],m9 20 26,e9 27 20
 0,e9 28 20 1,e9 29 20 2,a9 13 3 131 (.agg [z9,z9,z9]),m9 12 27,t9 3 13 28,m9 14 29]<|.seq (s9 [m9 30 14,d9 31 .neq 30 0]<|u9 31 (s9 [o9 32 (.build [.nil,z9,.nil] []),m9 33 14,t9 3 10 32,m9 11 33]<|.ret)<|.skip)<|s9
 [q9 34 3 5,c9 35 31 [.t 34],t9 3 5 35]<|s9 [f9 36 2 5,l9 37 36,m9 38 12,x9 39 7 37 38,m9 15 39]<|.seq (s9 [m9 40 15,o9 41 (.ba (.t 40)),f9 42 5 41,l9 43 42,n9 44 43,d9 45 .eql 44 2]<|u9 45 (s9 [o9 46 (.build [.nil,
 z9,.nil] []),t9 3 10 46,o9 11 (.mv (k9 46))]<|.ret)<|.skip)<|.seq (s9 [m9 47 15,o9 48 (.ba (.t 47)),f9 49 5 48,l9 50 49,n9 51 50,o9 52 (.mv (k9 0))]<|.block 0<|.loop<|s9 [b9 53 .lss 52 51]<|.seq (u9 53 (.skip)<|
 .exit 0)<|.seq (.block 1<|s9 [x9 54 1 50 52,l9 55 54,m9 17 55]<|.seq (s9 [m9 56 17,m9 57 2,b9 58 .eql 56 57]<|u9 58 (s9 [o9 59 (.build [.nil,z9,.nil] []),t9 3 10 59,o9 11 (.mv (k9 46))]<|.ret)<|.skip)<|s9 [q9 61 3 5,
 m9 62 17,c9 63 103 [.t 61,.t 62],m9 60 63,e9 64 60 0,e9 65 60 1,a9 18 3 131 (.agg [z9,z9,z9]),t9 3 18 64,m9 19 65]<|s9 [f9 66 1 18,l9 67 66,f9 68 1 13,l9 69 68,b9 70 .eql 67 69]<|u9 70 (s9 [o9 71 (.build [.nil,z9,.nil]
 []),t9 3 10 71,o9 11 (.mv (k9 5))]<|.ret)<|.skip)<|r9 [d9 72 .add 52 1,m9 52 72])<|s9 [m9 73 15,m9 74 15,o9 75 (.ba (.t 74)),f9 76 5 75,l9 77 76,m9 78 2,o9 79 (.lit false 1 3 [.t 78]),o9 80 (.app 1 8 3 (.t 77) (.t
 79)),o9 81 (.ba (.t 73)),f9 82 5 81,t9 1 82 80]<|s9 [q9 83 3 5,t9 3 10 83,o9 11 (.mv (k9 0))]<|.ret
abbrev uB:Nat:=47
theorem El:aq prog 47 [1000000]=some (vl,[.c 10 true 3,.t 11],84):=by kernel_rfl
def nK:ay:=s9 [o9 5 (.box 3 44 (.t 0)),a9 10 3 44 (.agg [.nil,z9,.nil]),o9 11 (.mv (k9 0))]<|s9 [q9 16 3 5,m9 17 1,m9 18 2,m9 19 3,m9 20 4,c9 21 102 [.t 16,.t 17,.t 18,.t 19,.t 20,k9 2],m9 15 21,e9 22
 15 0,e9 23 15 1,e9 24 15 2,a9 13 3 131 (.agg [z9,z9,z9]),m9 12 22,t9 3 13 23,m9 14 24]<|.seq (s9 [m9 25 14,d9 26 .neq 25 0]<|u9 26 (s9 [o9 27 (.build [.nil,z9,.nil] []),m9 28 14,t9 3 10 27,m9 11 28]<|.ret)<|.skip)<|
 s9 [q9 29 3 5,c9 30 31 [.t 29],t9 3 5 30]<|s9 [f9 31 2 5,l9 32 31,m9 33 12,x9 34 7 32 33,f9 35 6 34,⟨none,.store 1 (.t 35) (.c (.bool true)),none,[]⟩]<|s9 [q9 36 3 5,t9 3 10 36,o9 11 (.mv (k9 0))]<|.ret
abbrev nm:Nat:=48
theorem xa:aq prog 48 [1000000]=some (nK,[.c 10 true 3,.t 11],37):=by kernel_rfl
def sB:ay:=s9 [o9 4 (.box 2 47 (.t 0)),a9 8 2 47 (.agg [z9,.nil]),a9 9 4 30 (.agg [z9,z9,z9,z9]),o9 10 (.mv (k9 0))]<|.seq (s9 [q9 13 2 4,c9 14 61 [.t 13],o9 15 (.un .not (.t 14))]<|u9 15 (s9 [o9 16 (.build
 [z9,.nil] []),o9 17 (.build [z9,z9,z9,z9] []),t9 2 8 16,t9 4 9 17,o9 10 (.mv (k9 50))]<|.ret)<|.skip)<|.seq (s9 [m9 18 1,m9 19 2,m9 20 3,c9 21 104 [.t 18,.t 19,.t 20],m9 11 21]<|s9 [m9 22 11,d9 23 .neq 22 0]<|u9
 23 (s9 [o9 24 (.build [z9,.nil] []),o9 25 (.build [z9,z9,z9,z9] []),m9 26 11,t9 2 8 24,t9 4 9 25,m9 10 26]<|.ret)<|.skip)<|.seq (s9 [f9 27 1 4,l9 28 27,n9 29 28,d9 30 .eql 29 64,m9 31 30,g9 32 (.fa 0 (.t 4)) 31 false,
 g9 33 (.load false 1 (.t 32)) 31 false,g9 34 (.bin .eql (.t 33) (k9 1073741824)) 31 false,w9 35 31 true 34]<|u9 35 (s9 [o9 36 (.build [z9,.nil] []),o9 37 (.build [z9,z9,z9,z9] []),t9 2 8 36,t9 4 9 37,o9 10 (.mv (k9 10))]<|
 .ret)<|.skip)<|s9 [f9 38 0 4,l9 39 38,m9 40 1,m9 41 2,m9 42 3,o9 43 (.build [z9,z9,z9,z9] [(0,1,.t 39),(1,1,.t 40),(2,1,.t 41),(3,1,.t 42)]),a9 12 4 30 (.agg [z9,z9,z9,z9]),t9 4 12 43]<|.seq (.aB [⟨10,
 q9 54 4 12⟩,⟨6,q9 50 4 12⟩,h9 7 51 (.lit false 4 30 [.t 50]) [6],⟨3,f9 47 1 4⟩,h9 4 48 (.load false 1 (.t 47)) [3],⟨0,f9 44 0 4⟩,h9 1 45 (.load false 1 (.t 44)) [0],h9 2 46 (.bin .add (.t 45) (k9 1)) [1,0],h9 5 49 (.app 4 32 30
 (.c (.nil)) (.t 48)) [4,3],h9 8 52 (.app 4 32 30 (.t 49) (.t 51)) [5,7,4,3,6],h9 9 53 (.build [z9,.nil] [(0,1,.t 46),(1,1,.t 52)]) [2,8,1,0,5,7,4,3,6],⟨11,⟨none,.store 2 (.t 8) (.t 53),none,[9,8,0,1,2,3,4,5,6,7]⟩⟩,
 ⟨12,⟨none,.store 4 (.t 9) (.t 54),none,[10,11,0,1,2,3,4,5,6,7,8,9]⟩⟩,h9 13 10 (.mv (k9 0)) [12,0,1,2,3,4,5,6,7,8,9,10,11]])<|.ret
abbrev BE:Nat:=49
theorem B0:aq prog 49 [1000000]=some (sB,[.c 8 true 2,.c 9 true 4,.t 10],55):=by kernel_rfl
def pk:ay:=s9 [o9 2 (.box 2 47 (.t 0)),a9 4 2 47 (.agg [z9,.nil]),o9 5 (.mv (k9 0))]<|.seq (s9 [q9 9 2 2,c9 10 61 [.t 9],o9 11 (.un .not (.t 10))]<|u9 11 (s9 [o9 12 (.build [z9,.nil] []),t9 2 4 12,o9 5 (.mv
 (k9 50))]<|.ret)<|.skip)<|.seq (s9 [m9 13 1,d9 14 .lss 13 0,m9 15 14,v9 16 1 15 false,g9 17 (.fa 0 (.t 2)) 15 false,g9 18 (.load false 1 (.t 17)) 15 false,g9 19 (.bin .geq (.t 16) (.t 18)) 15 false,w9 20 15 true 19]<|u9 20
 (s9 [o9 21 (.build [z9,.nil] []),t9 2 4 21,o9 5 (.mv (k9 1))]<|.ret)<|.skip)<|s9 [f9 22 0 2,l9 23 22,o9 24 (.build [z9,.nil] [(0,1,.t 23)]),a9 6 2 47 (.agg [z9,.nil]),t9 2 6 24]<|.seq (s9 [f9 25 1 2,l9 26 25,n9 27 26,
 o9 28 (.mv (k9 0))]<|.block 0<|.loop<|s9 [b9 29 .lss 28 27]<|.seq (u9 29 (.skip)<|.exit 0)<|.seq (.block 1<|s9 [x9 30 4 26 28,q9 31 4 30,a9 8 4 30 (.agg [z9,z9,z9,z9]),t9 4 8 31]<|s9 [f9 32 0 8,l9 33 32,m9 34 1,b9
 35 .gtr 33 34]<|u9 35 (r9 [f9 36 1 6,l9 37 36,q9 38 4 8,o9 39 (.lit false 4 30 [.t 38]),o9 40 (.app 4 32 30 (.t 37) (.t 39)),f9 41 1 6,t9 1 41 40])<|.skip)<|r9 [d9 42 .add 28 1,m9 28 42])<|s9 [q9 43 2 6,t9 2 4 43,o9 5
 (.mv (k9 0))]<|.ret
abbrev yl:Nat:=50
theorem yH:aq prog 50 [1000000]=some (pk,[.c 4 true 2,.t 5],44):=by kernel_rfl
def u7:ay:=s9 [o9 2 (.box 2 40 (.t 0)),o9 3 (.box 2 40 (.t 1)),o9 4 (.mv (.c (.bool false)))]<|.seq (s9 [f9 7 0 2,l9 8 7,n9 9 8,f9 10 0 3,l9 11 10,n9 12 11,b9 13 .neq 9 12,m9 14 13,g9 15 (.fa 1 (.t 2)) 14
 false,g9 16 (.load false 1 (.t 15)) 14 false,g9 17 (.len (.t 16)) 14 false,g9 18 (.fa 1 (.t 3)) 14 false,g9 19 (.load false 1 (.t 18)) 14 false,g9 20 (.len (.t 19)) 14 false,g9 21 (.bin .neq (.t 17) (.t 20)) 14 false,w9 22 14 true
 21]<|u9 22 (s9 [o9 4 (.mv (.c (.bool false)))]<|.ret)<|.skip)<|.seq (s9 [f9 23 0 2,l9 24 23,n9 25 24,o9 26 (.mv (k9 0))]<|.block 0<|.loop<|s9 [b9 27 .lss 26 25]<|.seq (u9 27 (.skip)<|.exit 0)<|.seq (.block 1<|s9
 [m9 28 26,m9 5 28]<|.seq (.aB [⟨7,m9 36 5⟩,⟨5,f9 34 0 3⟩,h9 6 35 (.load false 1 (.t 34)) [5],h9 8 37 (.bE 4 (.t 35) (.t 36)) [6,7,5],h9 9 38 (.load true 4 (.t 37)) [8,6,7,5],⟨2,m9 31 5⟩,⟨0,f9 29 0 2⟩,h9 1 30 (.load
 false 1 (.t 29)) [0],h9 3 32 (.bE 4 (.t 30) (.t 31)) [1,2,0],h9 4 33 (.load true 4 (.t 32)) [3,1,2,0],h9 10 39 (.call 105 [.t 33,.t 38]) [4,9,3,1,2,0,8,6,7,5],h9 11 40 (.un .not (.t 39)) [10,4,9,3,1,2,0,8,6,7,5]])<|u9 40 (s9 [o9 4
 (.mv (.c (.bool false)))]<|.ret)<|.skip)<|r9 [d9 41 .add 26 1,m9 26 41])<|.seq (s9 [f9 42 1 2,l9 43 42,n9 44 43,o9 45 (.mv (k9 0))]<|.block 2<|.loop<|s9 [b9 46 .lss 45 44]<|.seq (u9 46 (.skip)<|.exit 2)<|.seq
 (.block 3<|s9 [m9 47 45,m9 6 47]<|.seq (.aB [⟨7,m9 55 6⟩,⟨5,f9 53 1 3⟩,h9 6 54 (.load false 1 (.t 53)) [5],h9 8 56 (.bE 6 (.t 54) (.t 55)) [6,7,5],h9 9 57 (.load true 6 (.t 56)) [8,6,7,5],⟨2,m9 50 6⟩,⟨0,f9 48 1 2⟩,h9
 1 49 (.load false 1 (.t 48)) [0],h9 3 51 (.bE 6 (.t 49) (.t 50)) [1,2,0],h9 4 52 (.load true 6 (.t 51)) [3,1,2,0],h9 10 58 (.eqs true [0,0,0,0,0,0] (.t 52) (.t 57)) [4,9,3,1,2,0,8,6,7,5]])<|u9 58 (s9 [o9 4 (.mv (.c (.bool
 false)))]<|.ret)<|.skip)<|r9 [d9 59 .add 45 1,m9 45 59])<|s9 [o9 4 (.mv (.c (.bool true)))]<|.ret
abbrev DA:Nat:=51
theorem Ee:aq prog 51 [1000000]=some (u7,[.t 4],60):=by kernel_rfl
def vo:ay:=s9 [o9 2 (.box 3 44 (.t 0)),o9 3 (.box 3 44 (.t 1)),o9 4 (.mv (.c (.bool false)))]<|.seq (s9 [f9 7 1 2,l9 8 7,f9 9 1 3,l9 10 9,b9 11 .neq 8 10,m9 12 11,g9 13 (.fa 0 (.t 2)) 12 false,g9 14 (.load false
 1 (.t 13)) 12 false,g9 15 (.len (.t 14)) 12 false,g9 16 (.fa 0 (.t 3)) 12 false,g9 17 (.load false 1 (.t 16)) 12 false,g9 18 (.len (.t 17)) 12 false,g9 19 (.bin .neq (.t 15) (.t 18)) 12 false,w9 20 12 true 19,m9 21 20,g9 22 (.fa 2
 (.t 2)) 21 false,g9 23 (.load false 1 (.t 22)) 21 false,g9 24 (.len (.t 23)) 21 false,g9 25 (.fa 2 (.t 3)) 21 false,g9 26 (.load false 1 (.t 25)) 21 false,g9 27 (.len (.t 26)) 21 false,g9 28 (.bin .neq (.t 24) (.t 27)) 21 false,w9
 29 21 true 28]<|u9 29 (s9 [o9 4 (.mv (.c (.bool false)))]<|.ret)<|.skip)<|.seq (s9 [f9 30 0 2,l9 31 30,n9 32 31,o9 33 (.mv (k9 0))]<|.block 0<|.loop<|s9 [b9 34 .lss 33 32]<|.seq (u9 34 (.skip)<|.exit 0)<|.seq
 (.block 1<|s9 [m9 35 33,m9 5 35]<|.seq (.aB [⟨7,m9 43 5⟩,⟨5,f9 41 0 3⟩,h9 6 42 (.load false 1 (.t 41)) [5],h9 8 44 (.bE 3 (.t 42) (.t 43)) [6,7,5],h9 9 45 (.load true 3 (.t 44)) [8,6,7,5],⟨2,m9 38 5⟩,⟨0,f9 36 0 2⟩,h9
 1 37 (.load false 1 (.t 36)) [0],h9 3 39 (.bE 3 (.t 37) (.t 38)) [1,2,0],h9 4 40 (.load true 3 (.t 39)) [3,1,2,0],h9 10 46 (.eqs true [0,0,0] (.t 40) (.t 45)) [4,9,3,1,2,0,8,6,7,5]])<|u9 46 (s9 [o9 4 (.mv (.c (.bool false)))]<|
 .ret)<|.skip)<|r9 [d9 47 .add 33 1,m9 33 47])<|.seq (s9 [f9 48 2 2,l9 49 48,n9 50 49,o9 51 (.mv (k9 0))]<|.block 2<|.loop<|s9 [b9 52 .lss 51 50]<|.seq (u9 52 (.skip)<|.exit 2)<|.seq (.block 3<|s9 [m9 53 51,m9 6
 53]<|.seq (.aB [⟨7,m9 61 6⟩,⟨5,f9 59 2 3⟩,h9 6 60 (.load false 1 (.t 59)) [5],h9 8 62 (.bE 7 (.t 60) (.t 61)) [6,7,5],h9 9 63 (.load true 7 (.t 62)) [8,6,7,5],⟨2,m9 56 6⟩,⟨0,f9 54 2 2⟩,h9 1 55 (.load false 1 (.t 54))
 [0],h9 3 57 (.bE 7 (.t 55) (.t 56)) [1,2,0],h9 4 58 (.load true 7 (.t 57)) [3,1,2,0],h9 10 64 (.call 106 [.t 58,.t 63]) [4,9,3,1,2,0,8,6,7,5],h9 11 65 (.un .not (.t 64)) [10,4,9,3,1,2,0,8,6,7,5]])<|u9 65 (s9 [o9 4 (.mv (.c (.bool
 false)))]<|.ret)<|.skip)<|r9 [d9 66 .add 51 1,m9 51 66])<|s9 [o9 4 (.mv (.c (.bool true)))]<|.ret
abbrev DH:Nat:=52
theorem Em:aq prog 52 [1000000]=some (vo,[.t 4],67):=by kernel_rfl
def vj:ay:=s9 [o9 2 (.box 2 47 (.t 0)),o9 3 (.box 2 47 (.t 1)),o9 4 (.mv (.c (.bool false)))]<|s9 [f9 5 0 2,l9 6 5,f9 7 0 3,l9 8 7,b9 9 .eql 6 8,m9 10 9,g9 11 (.fa 1 (.t 2)) 10 true,g9 12 (.load false 1 (.t 11))
 10 true,g9 13 (.fa 1 (.t 3)) 10 true,g9 14 (.load false 1 (.t 13)) 10 true,g9 15 (.call 107 [.t 12,.t 14]) 10 true,p9 16 10 15 false,m9 4 16]<|.ret
abbrev DF:Nat:=53
theorem Ej:aq prog 53 [1000000]=some (vj,[.t 4],17):=by kernel_rfl
def nQ:ay:=s9 [o9 3 (.box 21 32 (.t 1)),o9 4 (.mv (.c (.str ⟨#[]⟩))),o9 5 (.mv (k9 0))]<|s9 [q9 9 21 3,c9 10 36 [.t 9],m9 8 10,e9 11 8 0,e9 12 8 1,m9 6 11,m9 7 12]<|.seq (s9 [m9 13 7,d9 14 .neq 13 0]<|u9
 14 (s9 [m9 15 7,o9 4 (.mv (.c (.str ⟨#[]⟩))),m9 5 15]<|.ret)<|.skip)<|s9 [m9 16 0,m9 17 6,b9 18 .add 16 17,m9 4 18,o9 5 (.mv (k9 0))]<|.ret
abbrev wB:Nat:=54
theorem xg:aq prog 54 [1000000]=some (nQ,[.t 4,.t 5],19):=by kernel_rfl
def qz:ay:=s9 [o9 3 (.box 21 32 (.t 1)),o9 4 (.mv (.c (.str ⟨#[]⟩))),o9 5 (.mv (k9 0))]<|s9 [q9 9 21 3,c9 10 23 [.t 9],m9 8 10,e9 11 8 0,e9 12 8 1,m9 6 11,m9 7 12]<|.seq (s9 [m9 13 7,d9 14 .neq 13 0]<|u9
 14 (s9 [m9 15 7,o9 4 (.mv (.c (.str ⟨#[]⟩))),m9 5 15]<|.ret)<|.skip)<|s9 [m9 16 0,m9 17 6,b9 18 .add 16 17,m9 4 18,o9 5 (.mv (k9 0))]<|.ret
abbrev zS:Nat:=55
theorem AS:aq prog 55 [1000000]=some (qz,[.t 4,.t 5],19):=by kernel_rfl
def nJ:ay:=s9 [o9 1 (.box 2 40 (.t 0)),o9 2 (.mv (k9 0))]<|.seq (s9 [f9 7 0 1,l9 8 7,c9 9 108 [.t 8],m9 3 9]<|s9 [m9 10 3,d9 11 .neq 10 0]<|u9 11 (s9 [m9 12 3,m9 2 12]<|.ret)<|.skip)<|.seq (s9 [f9 13
 1 1,l9 14 13,n9 15 14,d9 16 .gtr 15 4096]<|u9 16 (s9 [o9 2 (.mv (k9 10))]<|.ret)<|.skip)<|.seq (s9 [f9 17 1 1,l9 18 17,n9 19 18,o9 20 (.mv (k9 0))]<|.block 0<|.loop<|s9 [b9 21 .lss 20 19]<|.seq (u9 21 (.skip)<|
 .exit 0)<|.seq (.block 1<|s9 [m9 22 20,x9 23 6 18 20,q9 24 6 23,a9 5 6 26 (.agg [z9,z9,z9,z9,z9,z9]),m9 4 22,t9 6 5 24]<|.seq (s9 [q9 25 6 5,c9 26 86 [.t 25],o9 27 (.un .not (.t 26))]<|u9 27 (s9 [o9 2 (.mv (k9 3))]<|
 .ret)<|.skip)<|.seq (.seq (.aB [⟨0,m9 28 4⟩,h9 1 29 (.bin .gtr (.t 28) (k9 0)) [0],h9 2 30 (.mv (.t 29)) [1,0],⟨7,⟨some 35,.mv (.t 4),some (30,true),[2,1,0]⟩⟩,⟨8,⟨some 36,.bin .sub (.t 35) (k9 1),some (30,true),
 [7,2,1,0]⟩⟩,⟨5,⟨some 33,.fa 1 (.t 1),some (30,true),[2,1,0]⟩⟩,⟨6,⟨some 34,.load false 1 (.t 33),some (30,true),[5,2,1,0]⟩⟩,⟨9,⟨some 37,.bE 6 (.t 34) (.t 36),some (30,true),[6,8,2,5,1,0,7]⟩⟩,⟨10,⟨some 38,
 .fa 0 (.t 37),some (30,true),[9,2,6,8,5,1,0,7]⟩⟩,⟨11,⟨some 39,.load false 1 (.t 38),some (30,true),[10,2,9,6,8,5,1,0,7]⟩⟩,⟨3,⟨some 31,.fa 0 (.t 5),some (30,true),[2,1,0]⟩⟩,⟨4,⟨some 32,.load false 1 (.t
 31),some (30,true),[3,2,1,0]⟩⟩,⟨12,⟨some 40,.bin .leq (.t 32) (.t 39),some (30,true),[4,11,2,3,1,0,10,9,6,8,5,7]⟩⟩,h9 13 41 (.pick (.t 30) (.t 40) (.c (.bool false))) [2,12,1,0,4,11,3,10,9,6,8,5,7]])<|u9 41 (s9
 [o9 2 (.mv (k9 4))]<|.ret)<|.skip)<|s9 [f9 42 0 1,l9 43 42,q9 44 6 5,c9 45 87 [.t 43,.t 44],m9 6 45]<|s9 [m9 46 6,d9 47 .neq 46 0]<|u9 47 (s9 [m9 48 6,m9 2 48]<|.ret)<|.skip)<|r9 [d9 49 .add 20 1,m9 20 49])<|s9
 [o9 2 (.mv (k9 0))]<|.ret
abbrev wu:Nat:=56
theorem w8:aq prog 56 [1000000]=some (nJ,[.t 2],50):=by kernel_rfl
def mm:ay:=s9 [o9 1 (.box 3 44 (.t 0)),o9 2 (.mv (k9 0))]<|.seq (s9 [q9 3 3 1,c9 4 92 [.t 3],o9 5 (.un .not (.t 4))]<|u9 5 (s9 [o9 2 (.mv (k9 50))]<|.ret)<|.skip)<|s9 [o9 2 (.mv (k9 0))]<|.ret
abbrev uH:Nat:=57
theorem vI:aq prog 57 [1000000]=some (mm,[.t 2],6):=by kernel_rfl
def qD:ay:=s9 [o9 1 (.box 2 47 (.t 0)),o9 2 (.mv (.c (.bool false)))]<|.seq (s9 [f9 5 0 1,l9 6 5,c9 7 109 [.t 6,k9 1,k9 1073741824],o9 8 (.un .not (.t 7)),m9 9 8,g9 10 (.fa 1 (.t 1)) 9 false,g9 11 (.load false
 1 (.t 10)) 9 false,g9 12 (.len (.t 11)) 9 false,g9 13 (.bin .gtr (.t 12) (k9 64)) 9 false,w9 14 9 true 13]<|u9 14 (s9 [o9 2 (.mv (.c (.bool false)))]<|.ret)<|.skip)<|.seq (s9 [f9 15 1 1,l9 16 15,n9 17 16,o9 18 (.mv (k9 0))]
 <| .block 0<|.loop<|s9 [b9 19 .lss 18 17]<|.seq (u9 19 (.skip)<|.exit 0)<|.seq (.block 1<|s9 [m9 20 18,x9 21 4 16 18,q9 22 4 21,a9 4 4 30 (.agg [z9,z9,z9,z9]),m9 3 20,t9 4 4 22]<|s9 [q9 23 4 4,c9 24 110 [.t 23],o9
 25 (.un .not (.t 24)),m9 26 25,g9 27 (.fa 0 (.t 4)) 26 false,g9 28 (.load false 1 (.t 27)) 26 false,g9 29 (.fa 0 (.t 1)) 26 false,g9 30 (.load false 1 (.t 29)) 26 false,g9 31 (.fa 1 (.t 1)) 26 false,g9 32 (.load false 1 (.t 31)) 26
 false,g9 33 (.len (.t 32)) 26 false,g9 34 (.bin .sub (.t 30) (.t 33)) 26 false,v9 35 3 26 false,g9 36 (.bin .add (.t 34) (.t 35)) 26 false,g9 37 (.bin .neq (.t 28) (.t 36)) 26 false,w9 38 26 true 37]<|u9 38 (s9 [o9 2 (.mv (.c
 (.bool false)))]<|.ret)<|.skip)<|r9 [d9 39 .add 18 1,m9 18 39])<|s9 [o9 2 (.mv (.c (.bool true)))]<|.ret
abbrev zW:Nat:=58
theorem AY:aq prog 58 [1000000]=some (qD,[.t 2],40):=by kernel_rfl
def ss:ay:=s9 [o9 1 (.box 2 40 (.t 0)),o9 2 (.mv (k9 0))]<|.seq (s9 [f9 9 0 1,l9 10 9,n9 11 10,d9 12 .gtr 11 16]<|u9 12 (s9 [o9 2 (.mv (k9 10))]<|.ret)<|.skip)<|.seq (s9 [f9 13 0 1,l9 14 13,n9 15 14,o9 16
 (.mv (k9 0))]<|.block 0<|.loop<|s9 [b9 17 .lss 16 15]<|.seq (u9 17 (.skip)<|.exit 0)<|.seq (.block 1<|s9 [x9 18 4 14 16,q9 19 4 18,a9 4 4 88 (.agg [z9,.nil,.nil,.nil]),t9 4 4 19]<|s9 [q9 20 4 4,c9 21 111 [.t 20],m9
 5 21]<|s9 [m9 22 5,d9 23 .neq 22 0]<|u9 23 (s9 [m9 24 5,m9 2 24]<|.ret)<|.skip)<|r9 [d9 25 .add 16 1,m9 16 25])<|.seq (s9 [f9 26 1 1,l9 27 26,n9 28 27,d9 29 .gtr 28 4096]<|u9 29 (s9 [o9 2 (.mv (k9 10))]<|.ret)<|
 .skip)<|.seq (s9 [f9 30 1 1,l9 31 30,n9 32 31,o9 33 (.mv (k9 0))]<|.block 2<|.loop<|s9 [b9 34 .lss 33 32]<|.seq (u9 34 (.skip)<|.exit 2)<|.seq (.block 3<|s9 [m9 35 33,x9 36 6 31 33,q9 37 6 36,a9 7 6 26 (.agg [z9,z9,
 z9,z9,z9,z9]),m9 6 35,t9 6 7 37]<|.seq (s9 [f9 38 0 7,l9 39 38,d9 40 .lss 39 1,m9 41 40,g9 42 (.fa 0 (.t 7)) 41 false,g9 43 (.load false 1 (.t 42)) 41 false,g9 44 (.bin .gtr (.t 43) (k9 1073741824)) 41 false,w9 45 41 true
 44]<|u9 45 (s9 [o9 2 (.mv (k9 3))]<|.ret)<|.skip)<|.seq (.seq (.aB [⟨0,m9 46 6⟩,h9 1 47 (.bin .gtr (.t 46) (k9 0)) [0],h9 2 48 (.mv (.t 47)) [1,0],⟨7,⟨some 53,.mv (.t 6),some (48,true),[2,1,0]⟩⟩,⟨8,⟨some 54,.bin
 .sub (.t 53) (k9 1),some (48,true),[7,2,1,0]⟩⟩,⟨5,⟨some 51,.fa 1 (.t 1),some (48,true),[2,1,0]⟩⟩,⟨6,⟨some 52,.load false 1 (.t 51),some (48,true),[5,2,1,0]⟩⟩,⟨9,⟨some 55,.bE 6 (.t 52) (.t 54),some (48,true),
 [6,8,2,5,1,0,7]⟩⟩,⟨10,⟨some 56,.fa 0 (.t 55),some (48,true),[9,2,6,8,5,1,0,7]⟩⟩,⟨11,⟨some 57,.load false 1 (.t 56),some (48,true),[10,2,9,6,8,5,1,0,7]⟩⟩,⟨3,⟨some 49,.fa 0 (.t 7),some (48,true),[2,1,
 0]⟩⟩,⟨4,⟨some 50,.load false 1 (.t 49),some (48,true),[3,2,1,0]⟩⟩,⟨12,⟨some 58,.bin .leq (.t 50) (.t 57),some (48,true),[4,11,2,3,1,0,10,9,6,8,5,7]⟩⟩,h9 13 59 (.pick (.t 48) (.t 58) (.c (.bool false)))
 [2,12,1,0,4,11,3,10,9,6,8,5,7]])<|u9 59 (s9 [o9 2 (.mv (k9 4))]<|.ret)<|.skip)<|s9 [f9 60 0 1,l9 61 60,q9 62 6 7,c9 63 100 [.t 61,.t 62],m9 8 63]<|s9 [m9 64 8,d9 65 .neq 64 0]<|u9 65 (s9 [m9 66 8,m9 2 66]<|.ret)<|
 .skip)<|r9 [d9 67 .add 33 1,m9 33 67])<|s9 [o9 2 (.mv (k9 0))]<|.ret
abbrev By:Nat:=59
theorem BU:aq prog 59 [1000000]=some (ss,[.t 2],68):=by kernel_rfl
def sD:ay:=s9 [o9 1 (.box 3 44 (.t 0)),o9 2 (.mv (k9 0))]<|.seq (s9 [f9 7 0 1,l9 8 7,n9 9 8,d9 10 .gtr 9 12,m9 11 10,g9 12 (.fa 1 (.t 1)) 11 false,g9 13 (.load false 1 (.t 12)) 11 false,g9 14 (.call 101 [.t 13,
 k9 1,k9 1073741824]) 11 false,g9 15 (.un .not (.t 14)) 11 false,w9 16 11 true 15,m9 17 16,g9 18 (.fa 2 (.t 1)) 17 false,g9 19 (.load false 1 (.t 18)) 17 false,g9 20 (.len (.t 19)) 17 false,g9 21 (.bin .gtr (.t 20) (k9 64)) 17
 false,w9 22 17 true 21]<|u9 22 (s9 [o9 2 (.mv (k9 50))]<|.ret)<|.skip)<|.seq (s9 [f9 23 0 1,l9 24 23,n9 25 24,o9 26 (.mv (k9 0))]<|.block 0<|.loop<|s9 [b9 27 .lss 26 25]<|.seq (u9 27 (.skip)<|.exit 0)<|.seq (.block
 1<|s9 [m9 28 26,x9 29 3 24 26,q9 30 3 29,a9 4 3 131 (.agg [z9,z9,z9]),m9 3 28,t9 3 4 30]<|.seq (.aB [⟨0,f9 31 0 4⟩,h9 1 32 (.load false 1 (.t 31)) [0],h9 2 33 (.call 101 [.t 32,k9 1,k9 1073741824]) [1,0],h9 3 34 (.un
 .not (.t 33)) [2,1,0],h9 4 35 (.mv (.t 34)) [3,2,1,0],⟨5,⟨some 36,.mv (.t 3),some (35,false),[4,3,2,1,0]⟩⟩,⟨6,⟨some 37,.bin .gtr (.t 36) (k9 0),some (35,false),[5,4,3,2,1,0]⟩⟩,⟨7,⟨some 38,.mv (.t 37),some (35,
 false),[6,4,5,3,2,1,0]⟩⟩,⟨12,⟨some 43,.mv (.t 3),some (38,true),[7,6,4,5,3,2,1,0]⟩⟩,⟨13,⟨some 44,.bin .sub (.t 43) (k9 1),some (38,true),[12,7,6,4,5,3,2,1,0]⟩⟩,⟨10,⟨some 41,.fa 0 (.t 1),some (38,
 true),[7,6,4,5,3,2,1,0]⟩⟩,⟨11,⟨some 42,.load false 1 (.t 41),some (38,true),[10,7,6,4,5,3,2,1,0]⟩⟩,⟨14,⟨some 45,.bE 3 (.t 42) (.t 44),some (38,true),[11,13,7,10,6,4,5,3,2,1,0,12]⟩⟩,⟨15,⟨some 46,
 .fa 0 (.t 45),some (38,true),[14,7,11,13,10,6,4,5,3,2,1,0,12]⟩⟩,⟨16,⟨some 47,.load false 1 (.t 46),some (38,true),[15,7,14,11,13,10,6,4,5,3,2,1,0,12]⟩⟩,⟨8,⟨some 39,.fa 0 (.t 4),some (38,true),[7,6,
 4,5,3,2,1,0]⟩⟩,⟨9,⟨some 40,.load false 1 (.t 39),some (38,true),[8,7,6,4,5,3,2,1,0]⟩⟩,⟨17,⟨some 48,.bin .leq (.t 40) (.t 47),some (38,true),[9,16,7,8,6,4,5,3,2,1,0,15,14,11,13,10,12]⟩⟩,⟨18,⟨some
 49,.pick (.t 38) (.t 48) (.c (.bool false)),some (35,false),[7,17,4,6,5,3,2,1,0,9,16,8,15,14,11,13,10,12]⟩⟩,h9 19 50 (.pick (.t 35) (.c (.bool true)) (.t 49)) [4,18,3,2,1,0,7,17,6,5,9,16,8,15,14,11,13,10,12],h9 20
 51 (.mv (.t 50)) [19,7,4,18,3,2,1,0,17,6,5,9,16,8,15,14,11,13,10,12],⟨21,⟨some 52,.fa 1 (.t 4),some (51,false),[20,19,7,4,18,3,2,1,0,17,6,5,9,16,8,15,14,11,13,10,12]⟩⟩,⟨22,⟨some 53,.load false 1 (.t 52),some
 (51,false),[21,20,19,7,4,18,3,2,1,0,17,6,5,9,16,8,15,14,11,13,10,12]⟩⟩,⟨23,⟨some 54,.call 101 [.t 53,k9 1,k9 9],some (51,false),[22,20,21,19,7,4,18,3,2,1,0,17,6,5,9,16,8,15,14,11,13,10,
 12]⟩⟩,⟨24,⟨some 55,.un .not (.t 54),some (51,false),[23,20,22,21,19,7,4,18,3,2,1,0,17,6,5,9,16,8,15,14,11,13,10,12]⟩⟩,h9 25 56 (.pick (.t 51) (.c (.bool true)) (.t 55))
 [20,24,19,7,4,18,3,2,1,0,17,6,5,9,16,8,15,14,11,13,10,12,23,22,21],h9 26 57 (.mv (.t 56)) [25,23,20,24,19,7,4,18,3,2,1,0,17,6,5,9,16,8,15,14,11,13,10,12,22,21],⟨27,⟨some 58,.fa 2 (.t 4),some (57,false),[26,25,23,20,24,19,7,
 4,18,3,2,1,0,17,6,5,9,16,8,15,14,11,13,10,12,22,21]⟩⟩,⟨28,⟨some 59,.load false 1 (.t 58),some (57,false),[27,26,25,23,20,24,19,7,4,18,3,2,1,0,17,6,5,9,16,8,15,14,11,13,10,12,22,21]⟩⟩,
 ⟨29,⟨some 60,.call 101 [.t 59,k9 1,k9 1073741824],some (57,false),[28,26,27,25,23,20,24,19,7,4,18,3,2,1,0,17,6,5,9,16,8,15,14,11,13,10,12,22,21]⟩⟩,⟨30,⟨some 61,.un .not (.t 60),some (57,false),[29,
 26,28,27,25,23,20,24,19,7,4,18,3,2,1,0,17,6,5,9,16,8,15,14,11,13,10,12,22,21]⟩⟩,h9 31 62 (.pick (.t 57) (.c (.bool true)) (.t 61))
 [26,30,25,23,20,24,19,7,4,18,3,2,1,0,17,6,5,9,16,8,15,14,11,13,10,12,22,21,29,28,27]])<|u9 62 (s9 [o9 2 (.mv (k9 50))]<|.ret)<|.skip)<|r9 [d9 63 .add 26 1,m9 26 63])<|.seq (s9 [f9 64 2 1,l9 65 64,n9 66 65,o9 67 (.mv (k9 0))]
 <| .block 2<|.loop<|s9 [b9 68 .lss 67 66]<|.seq (u9 68 (.skip)<|.exit 2)<|.seq (.block 3<|s9 [m9 69 67,x9 70 7 65 67,q9 71 7 70,a9 6 7 28 (.agg [z9,z9,z9,z9,z9,.nil,.bool false]),m9 5 69,t9 7 6 71]<|.seq (.aB
 [⟨2,f9 74 1 1⟩,h9 3 75 (.load false 1 (.t 74)) [2],h9 4 76 (.bin .sub (.t 75) (k9 1)) [3,2],⟨0,f9 72 0 6⟩,h9 1 73 (.load false 1 (.t 72)) [0],h9 5 77 (.call 101 [.t 73,k9 1,.t 76]) [1,4,0,3,2],h9 6 78 (.un .not (.t 77))
 [5,1,4,0,3,2],h9 7 79 (.mv (.t 78)) [6,5,1,4,0,3,2],⟨8,⟨some 80,.mv (.t 5),some (79,false),[7,6,5,1,4,0,3,2]⟩⟩,⟨9,⟨some 81,.bin .gtr (.t 80) (k9 0),some (79,false),[8,7,6,5,1,4,0,3,2]⟩⟩,⟨10,⟨some 82,.mv (.t
 81),some (79,false),[9,7,8,6,5,1,4,0,3,2]⟩⟩,⟨15,⟨some 87,.mv (.t 5),some (82,true),[10,9,7,8,6,5,1,4,0,3,2]⟩⟩,⟨16,⟨some 88,.bin .sub (.t 87) (k9 1),some (82,true),[15,10,9,7,8,6,5,1,4,0,3,2]⟩⟩,
 ⟨13,⟨some 85,.fa 2 (.t 1),some (82,true),[10,9,7,8,6,5,1,4,0,3,2]⟩⟩,⟨14,⟨some 86,.load false 1 (.t 85),some (82,true),[13,10,9,7,8,6,5,1,4,0,3,2]⟩⟩,⟨17,⟨some 89,.bE 7 (.t 86) (.t 88),some (82,true),
 [14,16,10,13,9,7,8,6,5,1,4,0,3,2,15]⟩⟩,⟨18,⟨some 90,.fa 0 (.t 89),some (82,true),[17,10,14,16,13,9,7,8,6,5,1,4,0,3,2,15]⟩⟩,⟨19,⟨some 91,.load false 1 (.t 90),some (82,true),[18,10,17,14,16,13,
 9,7,8,6,5,1,4,0,3,2,15]⟩⟩,⟨11,⟨some 83,.fa 0 (.t 6),some (82,true),[10,9,7,8,6,5,1,4,0,3,2]⟩⟩,⟨12,⟨some 84,.load false 1 (.t 83),some (82,true),[11,10,9,7,8,6,5,1,4,0,3,2]⟩⟩,⟨20,⟨some 92,.bin
 .leq (.t 84) (.t 91),some (82,true),[12,19,10,11,9,7,8,6,5,1,4,0,3,2,18,17,14,16,13,15]⟩⟩,⟨21,⟨some 93,.pick (.t 82) (.t 92) (.c (.bool false)),some (79,false),[10,20,7,9,8,6,5,1,4,0,3,2,12,19,11,
 18,17,14,16,13,15]⟩⟩,h9 22 94 (.pick (.t 79) (.c (.bool true)) (.t 93)) [7,21,6,5,1,4,0,3,2,10,20,9,8,12,19,11,18,17,14,16,13,15],h9 23 95 (.mv (.t 94)) [22,10,7,21,6,5,1,4,0,3,2,20,9,8,12,19,11,18,17,14,16,13,15],⟨25,⟨some 97,
 .load true 7 (.t 6),some (95,false),[23,22,10,7,21,6,5,1,4,0,3,2,20,9,8,12,19,11,18,17,14,16,13,15]⟩⟩,⟨24,⟨some 96,.load true 3 (.t 1),some (95,false),[23,22,10,7,21,6,5,1,4,0,3,2,20,9,8,12,
 19,11,18,17,14,16,13,15]⟩⟩,⟨26,⟨some 98,.call 112 [.t 96,.t 97],some (95,false),[24,25,23,22,10,7,21,6,5,1,4,0,3,2,20,9,8,12,19,11,18,17,14,16,13,15]⟩⟩,⟨27,⟨some 99,.un .not (.t 98),some (95,
 false),[26,23,24,25,22,10,7,21,6,5,1,4,0,3,2,20,9,8,12,19,11,18,17,14,16,13,15]⟩⟩,h9 28 100 (.pick (.t 95) (.c (.bool true)) (.t 99))
 [23,27,22,10,7,21,6,5,1,4,0,3,2,20,9,8,12,19,11,18,17,14,16,13,15,26,24,25]])<|u9 100 (s9 [o9 2 (.mv (k9 50))]<|.ret)<|.skip)<|r9 [d9 101 .add 67 1,m9 67 101])<|s9 [o9 2 (.mv (k9 0))]<|.ret
abbrev BG:Nat:=60
theorem B5:aq prog 60 [1000000]=some (sD,[.t 2],102):=by kernel_rfl
def sy:ay:=s9 [o9 1 (.box 2 47 (.t 0)),o9 2 (.mv (.c (.bool false)))]<|.seq (s9 [f9 5 0 1,l9 6 5,c9 7 113 [.t 6,k9 1,k9 1073741824],o9 8 (.un .not (.t 7)),m9 9 8,g9 10 (.fa 1 (.t 1)) 9 false,g9 11 (.load false
 1 (.t 10)) 9 false,g9 12 (.len (.t 11)) 9 false,g9 13 (.bin .gtr (.t 12) (k9 64)) 9 false,w9 14 9 true 13]<|u9 14 (s9 [o9 2 (.mv (.c (.bool false)))]<|.ret)<|.skip)<|.seq (s9 [f9 15 1 1,l9 16 15,n9 17 16,o9 18 (.mv (k9 0))]
 <| .block 0<|.loop<|s9 [b9 19 .lss 18 17]<|.seq (u9 19 (.skip)<|.exit 0)<|.seq (.block 1<|s9 [m9 20 18,x9 21 4 16 18,q9 22 4 21,a9 4 4 30 (.agg [z9,z9,z9,z9]),m9 3 20,t9 4 4 22]<|s9 [q9 23 4 4,c9 24 114 [.t 23],o9
 25 (.un .not (.t 24)),m9 26 25,g9 27 (.fa 0 (.t 4)) 26 false,g9 28 (.load false 1 (.t 27)) 26 false,g9 29 (.fa 0 (.t 1)) 26 false,g9 30 (.load false 1 (.t 29)) 26 false,g9 31 (.fa 1 (.t 1)) 26 false,g9 32 (.load false 1 (.t 31)) 26
 false,g9 33 (.len (.t 32)) 26 false,g9 34 (.bin .sub (.t 30) (.t 33)) 26 false,v9 35 3 26 false,g9 36 (.bin .add (.t 34) (.t 35)) 26 false,g9 37 (.bin .neq (.t 28) (.t 36)) 26 false,w9 38 26 true 37]<|u9 38 (s9 [o9 2 (.mv (.c
 (.bool false)))]<|.ret)<|.skip)<|r9 [d9 39 .add 18 1,m9 18 39])<|s9 [o9 2 (.mv (.c (.bool true)))]<|.ret
abbrev BC:Nat:=61
theorem BY:aq prog 61 [1000000]=some (sy,[.t 2],40):=by kernel_rfl
def pe:ay:=s9 [o9 2 (.box 2 40 (.t 0)),o9 3 (.box 2 40 (.t 1)),o9 4 (.mv (.c (.bool false)))]<|s9 [f9 5 0 2,l9 6 5,f9 7 0 3,l9 8 7,c9 9 115 [.t 6,.t 8,.c (.func 116 [])],m9 10 9,g9 11 (.fa 1 (.t 2)) 10 true,
 g9 12 (.load false 1 (.t 11)) 10 true,g9 13 (.fa 1 (.t 3)) 10 true,g9 14 (.load false 1 (.t 13)) 10 true,g9 15 (.call 117 [.t 12,.t 14]) 10 true,p9 16 10 15 false,m9 4 16]<|.ret
abbrev yg:Nat:=62
theorem yD:aq prog 62 [1000000]=some (pe,[.t 4],17):=by kernel_rfl
def nW:ay:=s9 [o9 2 (.box 3 44 (.t 0)),o9 3 (.box 3 44 (.t 1)),o9 4 (.mv (.c (.bool false)))]<|s9 [f9 5 1 2,l9 6 5,f9 7 1 3,l9 8 7,b9 9 .eql 6 8,m9 10 9,g9 11 (.fa 0 (.t 2)) 10 true,g9 12 (.load false 1 (.t
 11)) 10 true,g9 13 (.fa 0 (.t 3)) 10 true,g9 14 (.load false 1 (.t 13)) 10 true,g9 15 (.call 118 [.t 12,.t 14]) 10 true,p9 16 10 15 false,m9 17 16,g9 18 (.fa 2 (.t 2)) 17 true,g9 19 (.load false 1 (.t 18)) 17 true,g9 20 (.fa 2
 (.t 3)) 17 true,g9 21 (.load false 1 (.t 20)) 17 true,⟨some 22,.call 119 [.t 19,.t 21,.c (.func 120 [])],some (17,true),[]⟩,p9 23 17 22 false,m9 4 23]<|.ret
abbrev wG:Nat:=63
theorem xn:aq prog 63 [1000000]=some (nW,[.t 4],24):=by kernel_rfl
def sF:ay:=s9 [o9 2 (.box 2 47 (.t 0)),o9 3 (.box 2 47 (.t 1)),o9 4 (.mv (.c (.bool false)))]<|s9 [f9 5 0 2,l9 6 5,f9 7 0 3,l9 8 7,b9 9 .eql 6 8,m9 10 9,g9 11 (.fa 1 (.t 2)) 10 true,g9 12 (.load false 1 (.t
 11)) 10 true,g9 13 (.fa 1 (.t 3)) 10 true,g9 14 (.load false 1 (.t 13)) 10 true,g9 15 (.call 121 [.t 12,.t 14]) 10 true,p9 16 10 15 false,m9 4 16]<|.ret
abbrev BI:Nat:=64
theorem B7:aq prog 64 [1000000]=some (sF,[.t 4],17):=by kernel_rfl
end Go.Proofs.Try
