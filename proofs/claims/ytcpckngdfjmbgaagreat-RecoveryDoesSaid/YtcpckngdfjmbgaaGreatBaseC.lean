/- OWN WORK, put together by tools/asm.py, seat.py, mini.py. -/
import Derived.Test.YtcpckngdfjmbgaaGreatBaseB
import Derived.RangeFuncKeeps
namespace Go.Ab
open Go.RowKit
inductive AX where
 | t (s:Nat)
 | c (v:AV)
 deriving Inhabited
def AX.ev (e:Nat→AV):AX→AV
 | .t s=>e s
 | .c v=>v
inductive Ko where
 | bit (op:BinOp)
 | EM
 | vP (ag:Bool) (sz off:Nat)
 | Iw (ag:Bool) (es n:Nat)
 | Mj (es n:Nat)
 | TE
 | D8
 | never
 deriving Inhabited
inductive aO where
 | mv (x:AX)
 | pick (c a b:AX)
 | alloc (es:Nat) (ty:TypeId) (z:AV)
 | box (es:Nat) (ty:TypeId) (x:AX)
 | build (zs:List AV) (ps:List (Nat × Nat × AX))
 | lit (mu:Bool) (es:Nat) (ty:TypeId) (xs:List AX)
 | load (ag:Bool) (sz:Nat) (x:AX)
 | store (sz:Nat) (x v:AX)
 | ba (x:AX)
 | bin (op:BinOp) (x y:AX)
 | F9 (neg:Bool) (x y:AX)
 | un (op:UnOp) (x:AX)
 | conv (k:IntKind) (x:AX)
 | H9 (f:Nat) (caps:List AX)
 | fa (off:Nat) (x:AX)
 | bE (es:Nat) (x i:AX)
 | ext (x:AX) (i:Nat)
 | len (x:AX)
 | lens (x:AX)
 | app (es bytes:Nat) (ty:TypeId) (x y:AX)
 | Fa (mx:Bool) (x:AX) (xs:List AX)
 | rm (es:Nat) (x:AX) (lo hi:Option AX)
 | vQ (x:AX) (lo hi:Option AX)
 | call (f:Nat) (args:List AX)
 | dF (x:AX) (args:List AX)
 | fA (es:Nat) (ty:TypeId)
 | eqs (neg:Bool) (ks:List Nat) (x y:AX)
 | pu (p:Ko) (xs:List AX)
 | kW (neg:Bool) (x:AX)
 | LL (mu:Bool) (es bytes:Nat) (ty:TypeId) (z:AV) (x:AX)
 | Lj (es:Nat) (x h:AX)
 | Ga (es:Nat) (x y:AX)
 | KM (es:Nat) (z:AV) (x:AX)
 | Iu (x:AX)
 | Lw (mu:Bool) (ty:TypeId) (x:AX)
 | O2 (x:AX)
 | Ba (es bytes:Nat) (ty:TypeId) (z:AV) (x y:AX)
 | Ge (es:Nat) (x lo hi mx:AX)
 | Ev (es bytes:Nat) (ty:TypeId) (y:AX)
 | Da (es n:Nat) (x:AX) (lo hi:Option AX)
 | nq
 | dd (x k v:AX)
 | ft (ok:Bool) (z:AV) (x k:AX)
 | LM (f:Nat) (fs:List AX)
 deriving Inhabited
def aO.new:aO→Bool
 | .alloc .. | .box .. | .lit .. | .app .. | .fA .. | .LL .. | .Lj .. | .Lw .. | .Ba .. | .Ev .. | .nq=>true
 | _=>false
def aO.nd:aO→Bool
 | .kW .. | .Lj .. | .Ga .. | .KM .. | .Lw .. | .Ba .. | .Ev .. | .dd .. | .ft ..=>true
 | _=>false
def AX.lk:AX→List Nat
 | .t s=>[s]
 | .c _=>[]
def KI (l:List AX):List Nat:=l.flatMap AX.lk
def OM:Option AX→List Nat
 | some x=>x.lk
 | none=>[]
def aO.looks:aO→List Nat
 | .mv x=>x.lk
 | .pick c a b=>c.lk++(a.lk++b.lk)
 | .alloc ..=>[]
 | .box _ _ x=>x.lk
 | .build _ ps=>KI (ps.map fun p=>p.2.2)
 | .lit _ _ _ xs=>KI xs
 | .load _ _ x=>x.lk
 | .store _ x v=>x.lk++v.lk
 | .ba x=>x.lk
 | .bin _ x y=>x.lk++y.lk
 | .F9 _ x y=>x.lk++y.lk
 | .un _ x=>x.lk
 | .conv _ x=>x.lk
 | .H9 _ l=>KI l
 | .fa _ x=>x.lk
 | .bE _ x i=>x.lk++i.lk
 | .ext x _=>x.lk
 | .len x=>x.lk
 | .lens x=>x.lk
 | .app _ _ _ x y=>x.lk++y.lk
 | .Fa _ x l=>x.lk++KI l
 | .rm _ x lo hi=>x.lk++(OM lo++OM hi)
 | .vQ x lo hi=>x.lk++(OM lo++OM hi)
 | .call _ l=>KI l
 | .dF x l=>x.lk++KI l
 | .fA ..=>[]
 | .eqs _ _ x y=>x.lk++y.lk
 | .pu _ l=>KI l
 | .kW _ x=>x.lk
 | .LL _ _ _ _ _ x=>x.lk
 | .Lj _ x h=>x.lk++h.lk
 | .Ga _ x y=>x.lk++y.lk
 | .KM _ _ x=>x.lk
 | .Iu x=>x.lk
 | .Lw _ _ x=>x.lk
 | .O2 x=>x.lk
 | .Ba _ _ _ _ x y=>x.lk++y.lk
 | .Ge _ x l h m=>x.lk++(l.lk++(h.lk++m.lk))
 | .Ev _ _ _ y=>y.lk
 | .Da _ _ x lo hi=>x.lk++(OM lo++OM hi)
 | .nq=>[]
 | .dd x k v=>x.lk++(k.lk++v.lk)
 | .ft _ _ x k=>x.lk++k.lk
 | .LM _ l=>KI l
def AV.kK:AV→List Nat
 | .sl id ..=>[id]
 | .fH id ..=>[id]
 | .zq id ..=>[id]
 | .ptr id ..=>[id]
 | _=>[]
def aO.dM (e:Nat→AV):aO→List Nat
 | .load _ _ x=>(x.ev e).kK
 | .store _ x _=>(x.ev e).kK
 | .bE _ x _=>(x.ev e).kK
 | .rm _ x _ _=>(x.ev e).kK
 | .app _ _ _ x y=>(x.ev e).kK++(y.ev e).kK
 | .Iu x=>(x.ev e).kK
 | _=>[]
def Mi (id:Nat):AV→List Nat
 | .nil=>[id]
 | v=>v.kK
def aO.lU (e:Nat→AV) (id:Nat):aO→List Nat
 | .store _ x _=>(x.ev e).kK
 | .app _ _ _ x _=>Mi id (x.ev e)
 | .alloc .. | .box .. | .lit .. | .fA .. | .nq=>[id]
 | .LL true ..=>[id]
 | _=>[]
structure aT where
 d:Option Nat
 op:aO
 gd:Option (Nat × Bool)
 af:List Nat
 deriving Inhabited
def aO.lt:aO→Bool
 | .store .. | .call .. | .dF ..=>false
 | .lit false ..=>true
 | op=>!op.new&&!op.nd
def aO.al:aO→Bool
 | .alloc ..=>true
 | _=>false
structure HS where
 p:Nat
 o:aT
 deriving Inhabited
def EO:AV→Option Value
 | .bool b=>some (.bool b)
 | .int k n=>some (.int k n)
 | .str s=>some (.string s)
 | _=>none
def zh (ps:List Addr) (xs:List AV) (w:World):Prop:=ps.length=xs.length∧∀ (i:Nat) (p:Addr) (x:AV),ps[i]?=some p→xs[i]?=some x→p.spot=none∧∃ v,EO x=some v∧w.cell? p=some v
def Vi (P:Program) (f:Nat) (xs:List AV) (vs:List Int):Prop:=
 (∀ args w,(callFunc f args).run P w=.ok (.enter f args) w)∧∀ (k:Nat) (w:World) (ps:List Addr),zh ps xs w→
  SeqStopsK (α:={x:Int // x∈vs}) Fence.wide k P f (ps.map fun p=>Value.pointer (some p)).toArray (fun x=>#[.int .i64 x.1]) (fun A B=>zh ps xs A→zh ps xs B)
   (fun l=>l.map (·.1)=vs) (fun l=>l.map (·.1) <+: vs) vs.length w
def UR (S:Nat→Prop) (w:World) (as:List AV) (vs:Array Value):Prop:=vs.size=as.length∧∀ (j:Nat) (y:AV) (v:Value),as[j]?=some y→vs[j]?=some v→VP S w y v
def Vh (P:Program) (f:Nat) (caps:List AV) (vs:List (List AV)):Prop:=
 (∀ args w,(callFunc f args).run P w=.ok (.enter f args) w)∧∀ (k:Nat) (S:Nat→Prop) (w:World) (cs:Array Value),(∀ b,S b→b<w.heap.size)→UR S w caps cs→
  ∃ us:Nat→Array Value,(∀ i v,vs[i]?=some v→UR S w v (us i))∧
   SeqStopsK (α:={i:Nat // i<vs.length}) Fence.wide k P f cs (fun x=>us x.1) (fun A B=>∀ b,S b→B.heap[b]?=A.heap[b]?)
    (fun l=>l.map (·.1)=List.range vs.length) (fun l=>l.map (·.1) <+: List.range vs.length) vs.length w
inductive ay where
 | skip
 | region (ops:List aT) (dr:Option Nat)
 | seq (a b:ay)
 | cond (c:AX) (a b:ay)
 | block (id:Nat) (a:ay)
 | loop (a:ay)
 | exit (id:Nat)
 | ret
 | aB (l:List HS)
 deriving Inhabited
inductive EX where
 | lJ | ret | exit (id:Nat)
def sub (ag:Bool) (sz off:Nat) (y:AV):AV:=if ag then .agg ((y.cells.drop off).take sz) else y.cells.getD off .bC
def gH (off:Nat) (v y:AV):AV:=match y with
 | .agg cs=>.agg (cs.take off++v.cells++cs.drop (off+v.cells.length))
 | _=>v
def AV.eo:AV→Bool
 | .sl .. | .fH .. | .zq .. | .ptr .. | .jq .. | .bC | .agg _ | .tuple _ | .func ..=>false
 | _=>true
def AV.cL:AV→Bool
 | .agg cs=>cs.all AV.eo
 | .tuple cs=>cs.all fun | .agg ds=>ds.all AV.eo | a=>a.eo
 | .func _ cs=>cs.all AV.eo
 | a=>a.eo
def AD (cs:List AV):List (Nat × AV)→List AV
 | []=>cs
 | (off,v) :: r=>AD (cs.take off++v.cells++cs.drop (off+v.cells.length)) r
def bY (σ:St) (x:AV) (K:List AV→Prop):Prop:=match x with
 | .nil=>K []
 | .list _ l=>K l
 | .sl id g es off n=>∃ o,σ.ob id=some o∧o.g=g∧o.es=es∧off+n≤o.l.length∧K ((o.l.drop off).take n)
 | .fH id g es off n _=>∃ o,σ.ob id=some o∧o.g=g∧o.es=es∧off+n≤o.l.length∧K ((o.l.drop off).take n)
 | _=>False
def pL (op:BinOp) (x y:AV) (K:AV→Prop):Prop:=match x,y with
 | .int k a,.int k' b=>
  (match op with
  | .add=>k=k'∧K (.int k (k.wrap (a+b)))
  | .sub=>k=k'∧K (.int k (k.wrap (a-b)))
  | .mul=>k=k'∧K (.int k (k.wrap (a * b)))
  | .quo=>k=k'∧b≠0∧K (.int k (k.wrap (a.tdiv b)))
  | .rem=>k=k'∧b≠0∧K (.int k (a.tmod b))
  | .eql=>k=k'∧K (.bool (decide (a=b)))
  | .neq=>k=k'∧K (.bool (!decide (a=b)))
  | .lss=>k=k'∧K (.bool (decide (a<b)))
  | .leq=>k=k'∧K (.bool (decide (a≤b)))
  | .gtr=>k=k'∧K (.bool (decide (b<a)))
  | .geq=>k=k'∧K (.bool (decide (b≤a)))
  | _=>False)
 | .str a,.str b=>
  (match op with
  | .add=>a.size+b.size≤9223372036854775807∧K (.str (a++b))
  | .eql=>K (.bool (decide (a=b)))
  | .neq=>K (.bool (!decide (a=b)))
  | _=>False)
 | _,_=>False
def oJ (n:Nat) (lo hi:Option AV) (K:Nat→Nat→Prop):Prop:=match lo,hi with
 | none,none=>K 0 n
 | some (.int _ l),none=>0≤l∧l≤n∧K l.toNat n
 | none,some (.int _ h)=>0≤h∧h≤n∧K 0 h.toNat
 | some (.int _ l),some (.int _ h)=>0≤l∧l≤h∧h≤n∧K l.toNat h.toNat
 | _,_=>False
def w7 (n c:Nat) (lo hi:Option AV) (K:Nat→Nat→Prop):Prop:=match lo,hi with
 | none,none=>K 0 n
 | some (.int _ l),none=>0≤l∧l≤n∧K l.toNat n
 | none,some (.int _ h)=>0≤h∧h≤c∧K 0 h.toNat
 | some (.int _ l),some (.int _ h)=>0≤l∧l≤h∧h≤c∧K l.toNat h.toNat
 | _,_=>False
def eK (es:Nat) (σ:St) (x:AV) (lo hi:Option AV) (K:AV→Prop):Prop:=match x with
 | .nil=>oJ 0 lo hi fun _ _=>K .nil
 | .list es' ls=>es'=es∧oJ ls.length lo hi fun l h=>K (.list es ((ls.take h).drop l))
 | .sl id g es' off n=>es'=es∧(∃ o,σ.ob id=some o∧o.g=g)∧oJ n lo hi fun l h=>(l=h→K (.list es []))∧(l<h→K (.sl id g es (off+l) (h-l)))
 | .fH id g es' off n c=>es'=es∧off+n≤c∧w7 n (c-off) lo hi fun l h=>(l=c-off→K (.list es []))∧(l<c-off→K (.fH id g es (off+l) (h-l) c))
 | _=>False
def tM (x:AV) (lo hi:Option AV) (K:AV→Prop):Prop:=match x with
 | .str s=>oJ s.size lo hi fun l h=>K (.str (s.extract l h))
 | _=>False
def fb (mx:Bool):AV→List AV→(AV→Prop)→Prop
 | a,[],K=>K a
 | .int k a,.int k' b :: r,K=>k=k'∧fb mx (.int k (if mx then max a b else min a b)) r K
 | _,_,_=>False
abbrev eJ:=Nat→List AV→St→(AV→St→Prop)→Prop
def pS (c a b:AV) (σ:St) (K:AV→St→Prop):Prop:=match c with
 | .bool t=>(t=true→K a σ)∧(t=false→K b σ)
 | _=>False
def O7 (es:Nat) (ty:TypeId) (v:AV) (σ:St) (K:AV→St→Prop):Prop:=v.flat=true∧v.cells.length=es∧K (.ptr σ.n σ.c es 0 0) (σ.push es ty [v])
def AP (zs:List AV) (ps:List (Nat × Nat × AV)) (σ:St) (K:AV→St→Prop):Prop:=
 (∀ p∈ps,p.2.2.flat=true∧p.2.2.cells.length=p.2.1∧p.1+p.2.1≤zs.length)∧K (.agg (AD zs (ps.map fun p=>(p.1,p.2.2)))) σ
def Gy (mu:Bool) (es:Nat) (ty:TypeId) (vs:List AV) (σ:St) (K:AV→St→Prop):Prop:=
 (∀ v∈vs,v.flat=true∧v.cells.length=es∧(mu=false→v.cL=true))∧(if mu then K (.sl σ.n σ.c es 0 vs.length) (σ.push es ty vs) else K (.list es vs) σ)
def uM (ag:Bool) (sz:Nat) (x:AV) (σ:St) (K:AV→St→Prop):Prop:=match x with
 | .ptr id g es i off=>∃ o,σ.ob id=some o∧o.g=g∧o.es=es∧off+sz≤es∧∃ y,o.l[i]?=some y∧K (sub ag sz off y) σ
 | .eQ es l i off=>off+sz≤es∧∃ y,l[i]?=some y∧K (sub ag sz off y) σ
 | _=>False
def sQ (sz:Nat) (x v:AV) (σ:St) (K:AV→St→Prop):Prop:=match x with
 | .ptr id g es i off=>∃ o,σ.ob id=some o∧o.g=g∧o.es=es∧o.ro=false∧v.flat=true∧v.cells.length=sz∧off+sz≤es∧
   ∃ y,o.l[i]?=some y∧K .bC (σ.put id o (o.l.set i (gH off v y)))
 | _=>False
def iL (x:AV) (σ:St) (K:AV→St→Prop):Prop:=match x with
 | .ptr .. | .eQ .. | .func .. | .qe ..=>K x σ
 | _=>False
def Fp (neg:Bool) (x y:AV) (σ:St) (K:AV→St→Prop):Prop:=match x,y with
 | .bool a,.bool b=>K (.bool (if neg then !decide (a=b) else decide (a=b))) σ
 | _,_=>False
def yZ:List Nat→List AV→List AV→Option Bool
 | [],[],[]=>some true
 | 0 :: ks,.int k a :: r,.int k' b :: s=>if k=k' then (yZ ks r s).map fun t=>decide (a=b)&&t else none
 | 1 :: ks,.bool a :: r,.bool b :: s=>(yZ ks r s).map fun t=>decide (a=b)&&t
 | 2 :: ks,.str a :: r,.str b :: s=>(yZ ks r s).map fun t=>decide (a=b)&&t
 | _,_,_=>none
def BO (neg:Bool) (ks:List Nat) (x y:AV) (σ:St) (K:AV→St→Prop):Prop:=match x,y with
 | .agg cs,.agg ds=>∃ b,yZ ks cs ds=some b∧K (.bool (if neg then !b else b)) σ
 | _,_=>False
def BQ (op:BinOp) (k:IntKind) (a:Int) (k':IntKind) (b:Int):Option AV:=match op with
 | .and=>if k=k' then some (.int k (k.wrap (BitVec.ofInt k.bits a &&& BitVec.ofInt k.bits b).toNat)) else none
 | .or=>if k=k' then some (.int k (k.wrap (BitVec.ofInt k.bits a ||| BitVec.ofInt k.bits b).toNat)) else none
 | .shl=>if 0≤b then some (.int k (k.wrap (a * 2 ^ min b.toNat k.bits))) else none
 | .shr=>if 0≤b then some (.int k (a.fdiv (2 ^ min b.toNat k.bits))) else none
 | _=>none
def Jd:Ko→List AV→Option AV
 | .bit op,[.int k a,.int k' b]=>BQ op k a k' b
 | .EM,[.str s,.int _ i]=>if 0≤i then (s[i.toNat]?).map fun b=>.int .u8 b.toNat else none
 | .vP ag sz off,[.agg cs]=>if off+sz≤cs.length then some (sub ag sz off (.agg cs)) else none
 | .Iw ag es n,[.agg cs,.int _ i]=>if 0≤i∧i<n∧(i.toNat+1) * es≤cs.length then some (sub ag es (i.toNat * es) (.agg cs)) else none
 | .Mj es n,[.ptr id g es' i o,.int _ x]=>if 0≤x∧x<n then some (.ptr id g es' i (o+x.toNat * es)) else none
 | .Mj es n,[.eQ es' l i o,.int _ x]=>if 0≤x∧x<n then some (.eQ es' l i (o+x.toNat * es)) else none
 | .TE,[_]=>some .bC
 | .D8,[.nil]=>some (.int .i64 0)
 | .D8,[.fH _ _ _ off _ c]=>some (.int .i64 ((c-off:Nat):Int))
 | _,_=>none
def M8 (p:Ko) (xs:List AV) (σ:St) (K:AV→St→Prop):Prop:=∃ v,Jd p xs=some v∧K v σ
def Ao (neg:Bool) (x:AV) (σ:St) (K:AV→St→Prop):Prop:=match x with
 | .nil=>K (.bool (!neg)) σ
 | .list _ []=>K (.bool true) σ∧K (.bool false) σ
 | .list _ (_ :: _)=>K (.bool neg) σ
 | .sl _ _ _ _ n=>(n=0→K (.bool true) σ∧K (.bool false) σ)∧(0<n→K (.bool neg) σ)
 | _=>False
def H8 (mu:Bool) (es bytes:Nat) (ty:TypeId) (z x:AV) (σ:St) (K:AV→St→Prop):Prop:=match x with
 | .int _ n=>0≤n∧n≤9223372036854775807∧bytes * n.toNat≤281474976710656∧
   (if mu then K (.sl σ.n σ.c es 0 n.toNat) (σ.push es ty (List.replicate n.toNat z)) else K (.list es (List.replicate n.toNat z)) σ)
 | _=>False
def Of (es:Nat) (x h:AV) (σ:St) (K:AV→St→Prop):Prop:=match x,h with
 | .sl id g es' off n,.int _ hi=>es'=es∧off=0∧0≤hi∧hi≤n∧∃ o,σ.ob id=some o∧o.g=g∧o.es=es∧o.ro=false∧n≤o.l.length∧
   K (.sl id σ.c es 0 hi.toNat) (σ.renew id o (o.l.take hi.toNat))
 | _,_=>False
def JY (es:Nat) (x y:AV) (σ:St) (K:AV→St→Prop):Prop:=match x,y with
 | .fH id g e1 off n _,.fH id2 g2 e2 off2 n2 _=>e1=es∧e2=es∧0<min n2 n∧∃ o2,σ.ob id2=some o2∧o2.g=g2∧o2.es=es∧off2+min n2 n≤o2.l.length∧
   ∃ o,σ.ob id=some o∧o.g=g∧o.es=es∧o.ro=false∧off≤o.l.length∧K (.int .i64 (min n2 n:Nat)) (σ.put id o (o.l.take off++(o2.l.drop off2).take (min n2 n)++o.l.drop (off+min n2 n)))
 | _,_=>False
def D6 (es:Nat) (x y:AV) (σ:St) (K:AV→St→Prop):Prop:=JY es x y σ K∨
 ((∀ es' l,y=.list es' l→es'=es)∧(∀ id g es' off n,(y=.sl id g es' off n∨∃ c,y=.fH id g es' off n c)→es'=es)∧bY σ y fun l=>
   (match x with
   | .nil=>K (.int .i64 0) σ
   | .list _ []=>K (.int .i64 0) σ
   | .sl id g es' off n=>es'=es∧∃ o,σ.ob id=some o∧o.g=g∧o.es=es∧o.ro=false∧off+n≤o.l.length∧
     K (.int .i64 (min l.length n:Nat)) (σ.put id o (o.l.take off++l.take n++o.l.drop (off+min l.length n)))
   | .fH id g es' off n _=>es'=es∧0<min l.length n∧∃ o,σ.ob id=some o∧o.g=g∧o.es=es∧o.ro=false∧off≤o.l.length∧
     K (.int .i64 (min l.length n:Nat)) (σ.put id o (o.l.take off++l.take n++o.l.drop (off+min l.length n)))
   | _=>False))
def Im (es:Nat) (z x:AV) (σ:St) (K:AV→St→Prop):Prop:=match x with
 | .nil=>K (.tuple []) σ
 | .list _ []=>K (.tuple []) σ
 | .sl id g es' off n=>es'=es∧∃ o,σ.ob id=some o∧o.g=g∧o.es=es∧o.ro=false∧off+n≤o.l.length∧
   K (.tuple []) (σ.put id o (o.l.take off++List.replicate n z++o.l.drop (off+n)))
 | .fH id g es' off n _=>es'=es∧∃ o,σ.ob id=some o∧o.g=g∧o.es=es∧o.ro=false∧off+n≤o.l.length∧
   K (.tuple []) (σ.put id o (o.l.take off++List.replicate n z++o.l.drop (off+n)))
 | _=>False
def oI:List AV→Option (List UInt8)
 | []=>some []
 | .int .u8 n :: r=>(oI r).map (UInt8.ofNat n.toNat :: ·)
 | _=>none
def yN (x:AV) (σ:St) (K:AV→St→Prop):Prop:=
 (∀ es' l,x=.list es' l→es'=1)∧(∀ id g es' off n,(x=.sl id g es' off n∨∃ c,x=.fH id g es' off n c)→es'=1)∧bY σ x fun l=>∃ s,oI l=some s∧K (.str ⟨s.toArray⟩) σ
def FZ (es bytes:Nat) (ty:TypeId) (z x y:AV) (σ:St) (K:AV→St→Prop):Prop:=match x,y with
 | .nil,.int _ n=>0<n∧n≤9223372036854775807∧n.toNat * bytes≤140737488355328∧K (.sl σ.n σ.c es 0 n.toNat) (σ.push es ty (List.replicate n.toNat z))
 | .fH id g es' off n0 c,.int _ n=>es'=es∧0<n∧c-off<n0+n.toNat∧n0+n.toNat≤9223372036854775807∧(n0+n.toNat) * bytes≤140737488355328∧
   ∃ o,σ.ob id=some o∧o.g=g∧o.es=es∧off+n0≤o.l.length∧K (.sl σ.n σ.c es 0 (n0+n.toNat)) (σ.push es ty ((o.l.drop off).take n0++List.replicate n.toNat z))
 | _,_=>False
def zn (es:Nat) (x l h m:AV) (σ:St) (K:AV→St→Prop):Prop:=match x,l,h,m with
 | .sl _ _ es' _ n,.int _ a,.int _ b,.int _ c=>es'=es∧0≤a∧a≤b∧b≤c∧c≤n∧K .bC σ
 | .list es' ls,.int _ a,.int _ b,.int _ c=>es'=es∧0≤a∧a≤b∧b≤c∧c≤ls.length∧K .bC σ
 | .fH _ _ es' _ n _,.int _ a,.int _ b,.int _ c=>es'=es∧0≤a∧a≤b∧b≤c∧c≤n∧K .bC σ
 | _,_,_,_=>False
def Ng (es bytes:Nat) (ty:TypeId) (y:AV) (σ:St) (K:AV→St→Prop):Prop:=
 (∀ es' l,y=.list es' l→es'=es)∧(∀ id g es' off n,(y=.sl id g es' off n∨∃ c,y=.fH id g es' off n c)→es'=es)∧bY σ y fun l=>
  l.length≤maxLen∧l.length * bytes≤140737488355328∧K (.sl σ.n σ.c es 0 l.length) (σ.push es ty l)
def pC (s:ByteArray):List AV:=s.data.toList.map fun b=>.int .u8 b.toNat
def Oy (mu:Bool) (ty:TypeId) (x:AV) (σ:St) (K:AV→St→Prop):Prop:=match x with
 | .str s=>s.size≤140737488355328∧(if mu then K (.sl σ.n σ.c 1 0 s.size) ⟨bd σ.ob σ.n (some ⟨σ.c,1,ty,false,false,pC s⟩),σ.n+1,σ.c+1⟩ else K (.list 1 (pC s)) σ)
 | _=>False
def MX (op:UnOp) (x:AV) (σ:St) (K:AV→St→Prop):Prop:=match op,x with
 | .not,.bool b=>K (.bool (!b)) σ
 | .neg,.int k n=>K (.int k (k.wrap (0-n))) σ
 | _,_=>False
def AI (k:IntKind) (x:AV) (σ:St) (K:AV→St→Prop):Prop:=match x with
 | .int _ n=>K (.int k (k.wrap n)) σ
 | _=>False
def L4 (off:Nat) (x:AV) (σ:St) (K:AV→St→Prop):Prop:=match x with
 | .ptr id g es i o=>K (.ptr id g es i (o+off)) σ
 | .eQ es l i o=>K (.eQ es l i (o+off)) σ
 | _=>False
def wJ (es:Nat) (x i:AV) (σ:St) (K:AV→St→Prop):Prop:=match x,i with
 | .sl id g es' off n,.int _ ix=>es'=es∧(∃ o,σ.ob id=some o∧o.g=g)∧0≤ix∧ix<n∧K (.ptr id g es (off+ix.toNat) 0) σ
 | .list es' l,.int _ ix=>es'=es∧0≤ix∧ix<l.length∧K (.eQ es l ix.toNat 0) σ
 | .zq id g es' i off ee n,.int _ ix=>ee=es∧0≤ix∧ix<n∧K (.ptr id g es' i (off+ix.toNat * ee)) σ
 | .fH id g es' off n _,.int _ ix=>es'=es∧0≤ix∧ix<n∧K (.ptr id g es (off+ix.toNat) 0) σ
 | _,_=>False
def uS (x:AV) (i:Nat) (σ:St) (K:AV→St→Prop):Prop:=match x with
 | .tuple vs=>∃ v,vs[i]?=some v∧K v σ
 | _=>False
def ik (x:AV) (σ:St) (K:AV→St→Prop):Prop:=match x with
 | .nil=>K (.int .i64 0) σ
 | .list _ l=>K (.int .i64 l.length) σ
 | .sl _ _ _ _ n=>K (.int .i64 n) σ
 | .fH _ _ _ _ n _=>K (.int .i64 n) σ
 | .zq _ _ _ _ _ _ n=>K (.int .i64 n) σ
 | _=>False
def Ai (x:AV) (σ:St) (K:AV→St→Prop):Prop:=match x with
 | .str s=>K (.int .i64 s.size) σ
 | _=>False
def mT (es bytes:Nat) (ty:TypeId) (x y:AV) (σ:St) (K:AV→St→Prop):Prop:=
 (∀ es' l,y=.list es' l→es'=es)∧(∀ id g es' off n,(y=.sl id g es' off n∨∃ c,y=.fH id g es' off n c)→es'=es)∧bY σ y fun l=>
   (match x with
   | .nil=>l.length≤maxLen∧l.length * bytes≤140737488355328∧(l=[]→K .nil σ)∧(l≠[]→K (.sl σ.n σ.c es 0 l.length) (σ.push es ty l))
   | .sl id g es' off n=>es'=es∧off=0∧∃ o,σ.ob id=some o∧o.g=g∧o.es=es∧o.ty=ty∧o.ro=false∧o.ap=true∧o.l.length=n∧
     n+l.length≤maxLen∧(n+l.length) * bytes≤140737488355328∧K (.sl id σ.c es 0 (n+l.length)) (σ.renew id o (o.l++l))
   | .fH id g es' off n c=>es'=es∧(l=[]→K (.fH id g es off n c) σ)∧(l≠[]→∃ o,σ.ob id=some o∧o.g=g∧o.es=es∧o.ro=false∧off+(n+l.length)≤o.l.length∧off+(n+l.length)≤c∧
     K (.fH id g es off (n+l.length) c) (σ.put id o (o.l.take (off+n)++l++o.l.drop (off+n+l.length))))
   | .fl es' l0=>es'=es∧(∀ z∈l0++l,z.cL=true)∧l0.length+l.length≤maxLen∧(l0.length+l.length) * bytes≤140737488355328∧K (.list es (l0++l)) σ
   | _=>False)
def keyOf:AV→Int
 | .agg (.int _ a :: _)=>a
 | _=>0
def valOf:AV→AV
 | .agg [_,x]=>x
 | _=>.bC
def xB (kk:IntKind):AV→Bool
 | .agg [.int k' _,_]=>decide (k'=kk)
 | _=>false
def cP (kk:IntKind) (l:List AV):Bool:=l.all (xB kk)
def mK (n:Int):List AV→Option AV
 | []=>none
 | y :: r=>if n=keyOf y then some (valOf y) else mK n r
def ew (kk:IntKind) (n:Int) (x:AV):List AV→List AV
 | []=>[.agg [.int kk n,x]]
 | y :: r=>if n=keyOf y then .agg [.int kk n,x] :: r else if n<keyOf y then .agg [.int kk n,x] :: y :: r else y :: ew kk n x r
def qW (x k v:AV) (σ:St) (K:AV→St→Prop):Prop:=match x,k with
 | .jq id g,.int kk n=>v.one=true∧∃ o,σ.ob id=some o∧o.g=g∧o.ro=false∧cP kk o.l=true∧K .bC (σ.put id o (ew kk n v o.l))
 | _,_=>False
def uK (ok:Bool) (z:AV) (r:Option AV):AV:=if ok then .tuple [r.getD z,.bool r.isSome] else r.getD z
def uL (ok:Bool) (z x k:AV) (σ:St) (K:AV→St→Prop):Prop:=match x,k with
 | .jq id g,.int kk n=>∃ o,σ.ob id=some o∧o.g=g∧cP kk o.l=true∧K (uK ok z (mK n o.l)) σ
 | .kN,.int _ _=>K (uK ok z none) σ
 | _,_=>False
def zk (es n:Nat) (x:AV) (lo hi:Option AV) (σ:St) (K:AV→St→Prop):Prop:=match x with
 | .ptr id g es' i off=>oJ n lo hi fun l h=>(l=n→K (.list es []) σ)∧(l<n→K (.zq id g es' i (off+l * es) es (h-l)) σ)
 | _=>False
def iD (op:BinOp) (x y:AV) (σ:St) (K:AV→St→Prop):Prop:=pL op x y fun v=>K v σ
def DL (mx:Bool) (x:AV) (xs:List AV) (σ:St) (K:AV→St→Prop):Prop:=fb mx x xs fun v=>K v σ
def ji (es:Nat) (x:AV) (lo hi:Option AV) (σ:St) (K:AV→St→Prop):Prop:=eK es σ x lo hi fun v=>K v σ
def tN (x:AV) (lo hi:Option AV) (σ:St) (K:AV→St→Prop):Prop:=tM x lo hi fun v=>K v σ
def mQ (H:eJ) (x:AV) (args:List AV) (σ:St) (K:AV→St→Prop):Prop:=match x with
 | .func f caps=>H f (args++caps) σ K
 | .qe f fs=>H f (fs++args) σ K
 | _=>False
def qp (e:Nat→AV) (l:List AX):List AV:=l.map fun x=>x.ev e
def DV (e:Nat→AV) (x:Option AX):Option AV:=x.map fun y=>y.ev e
def KL (e:Nat→AV) (ps:List (Nat × Nat × AX)):List (Nat × Nat × AV):=ps.map fun p=>(p.1,p.2.1,p.2.2.ev e)
def ar (H:eJ) (op:aO) (e:Nat→AV) (σ:St) (K:AV→St→Prop):Prop:=match op with
 | .mv x=>K (x.ev e) σ
 | .pick c a b=>pS (c.ev e) (a.ev e) (b.ev e) σ K
 | .alloc es ty z=>K (.ptr σ.n σ.c es 0 0) (σ.push es ty [z])
 | .box es ty x=>O7 es ty (x.ev e) σ K
 | .build zs ps=>AP zs (KL e ps) σ K
 | .lit mu es ty xs=>Gy mu es ty (qp e xs) σ K
 | .load ag sz x=>uM ag sz (x.ev e) σ K
 | .store sz x v=>sQ sz (x.ev e) (v.ev e) σ K
 | .ba x=>iL (x.ev e) σ K
 | .bin op x y=>iD op (x.ev e) (y.ev e) σ K
 | .F9 neg x y=>Fp neg (x.ev e) (y.ev e) σ K
 | .un op x=>MX op (x.ev e) σ K
 | .conv k x=>AI k (x.ev e) σ K
 | .H9 f caps=>K (.func f (qp e caps)) σ
 | .fa off x=>L4 off (x.ev e) σ K
 | .bE es x i=>wJ es (x.ev e) (i.ev e) σ K
 | .ext x i=>uS (x.ev e) i σ K
 | .len x=>ik (x.ev e) σ K
 | .lens x=>Ai (x.ev e) σ K
 | .app es bytes ty x y=>mT es bytes ty (x.ev e) (y.ev e) σ K
 | .Fa mx x xs=>DL mx (x.ev e) (qp e xs) σ K
 | .rm es x lo hi=>ji es (x.ev e) (DV e lo) (DV e hi) σ K
 | .vQ x lo hi=>tN (x.ev e) (DV e lo) (DV e hi) σ K
 | .call f args=>H f (qp e args) σ K
 | .dF x args=>mQ H (x.ev e) (qp e args) σ K
 | .fA es ty=>K (.sl σ.n σ.c es 0 0) (σ.push es ty [])
 | .eqs neg ks x y=>BO neg ks (x.ev e) (y.ev e) σ K
 | .pu p xs=>M8 p (qp e xs) σ K
 | .kW neg x=>Ao neg (x.ev e) σ K
 | .LL mu es bytes ty z x=>H8 mu es bytes ty z (x.ev e) σ K
 | .Lj es x h=>Of es (x.ev e) (h.ev e) σ K
 | .Ga es x y=>D6 es (x.ev e) (y.ev e) σ K
 | .KM es z x=>Im es z (x.ev e) σ K
 | .Iu x=>yN (x.ev e) σ K
 | .Lw mu ty x=>Oy mu ty (x.ev e) σ K
 | .O2 x=>∃ s,x.ev e=.str s∧K (.str s) σ
 | .Ba es b ty z x y=>FZ es b ty z (x.ev e) (y.ev e) σ K
 | .Ge es x l h m=>zn es (x.ev e) (l.ev e) (h.ev e) (m.ev e) σ K
 | .Ev es b ty y=>Ng es b ty (y.ev e) σ K
 | .Da es n x lo hi=>zk es n (x.ev e) (DV e lo) (DV e hi) σ K
 | .nq=>K (.jq σ.n σ.c) ⟨bd σ.ob σ.n (some ⟨σ.c,2,rZ,false,false,[]⟩),σ.n+1,σ.c+1⟩
 | .dd x k v=>qW (x.ev e) (k.ev e) (v.ev e) σ K
 | .ft ok z x k=>uL ok z (x.ev e) (k.ev e) σ K
 | .LM f fs=>(∀ z∈qp e fs,z.cL=true)∧K (.qe f (qp e fs)) σ
def bL (e:Nat→AV) (d:Option Nat) (v:AV):Nat→AV:=match d with
 | some i=>bd e i v
 | none=>e
def G5 (k:(Nat→AV)→St→Prop) (e:Nat→AV) (d:Option Nat) (v:AV) (σ:St):Prop:=k (bL e d v) σ
def G4 (H:eJ) (op:aO) (d:Option Nat) (k:(Nat→AV)→St→Prop) (e:Nat→AV) (σ:St):Prop:=ar H op e σ (G5 k e d)
def tF (d:Option Nat) (k:(Nat→AV)→St→Prop) (e:Nat→AV) (σ:St):Prop:=k (bL e d (.tuple [])) σ
def tg (_s:Nat) (w:Bool) (A B:(Nat→AV)→St→Prop) (g:AV) (e:Nat→AV) (σ:St):Prop:=match g with
 | .tuple []=>B e σ
 | .bool b=>(b=w→A e σ)∧(b=!w→B e σ)
 | _=>False
def runs (H:eJ):List aT→((Nat→AV)→St→Prop)→(Nat→AV)→St→Prop
 | [],K,e,σ=>K e σ
 | o :: r,K,e,σ=>match o.gd with
  | none=>ar H o.op e σ (G5 (runs H r K) e o.d)
  | some (s,w)=>tg s w (G4 H o.op o.d (runs H r K)) (tF o.d (runs H r K)) (e s) e σ
def tag (p:Nat) (ids:List Nat):List (Nat × Nat):=ids.map fun i=>(p,i)
def bz (af:List Nat) (xs:List (Nat × Nat)) (ids:List Nat):Prop:=∀ x∈xs,af.contains x.1=true∨∀ i∈ids,x.2≠i
def aO.cg (e:Nat→AV):aO→Option (Nat × List AV)
 | .call f l=>some (f,qp e l)
 | .dF x l=>match x.ev e with
  | .func f caps=>some (f,qp e l++caps)
  | .qe f fs=>some (f,fs++qp e l)
  | _=>none
 | _=>none
def Nk (H:eJ) (f:Nat) (args:List AV) (ob:Nat→Option aU) (r:AV) (rd:List Nat) (wr:Option (Nat × aU)):Prop:=
 r.cL=true∧match wr with
 | none=>∀ ob' n c,(∀ i∈rd,ob' i=ob i)→H f args ⟨ob',n,c⟩ fun v τ=>v=r∧τ=⟨ob',n,c⟩
 | some (id,o')=>(∃ o,ob id=some o∧o.g=o'.g∧o.ro=o'.ro)∧(∀ x∈o'.l,x.cL=true)∧id∈rd∧∀ ob' n c,(∀ i∈rd,ob' i=ob i)→H f args ⟨ob',n,c⟩ fun v τ=>v=r∧τ=⟨bd ob' id (some o'),n,c⟩
def eO (ob:Nat→Option aU):Option (Nat × aU)→Nat→Option aU
 | none=>ob
 | some (i,o)=>bd ob i (some o)
def dW:Option (Nat × aU)→List Nat
 | none=>[]
 | some (i,_)=>[i]
def RG (H:eJ) (f:Nat) (args:List AV) (af:List Nat) (rs ws:List (Nat × Nat)) (p n c:Nat) (kk:List (Nat × Nat)→List (Nat × Nat)→AV→St→Prop) (ob:Nat→Option aU):Prop:=
 ∃ r rd wr,Nk H f args ob r rd wr∧bz af ws (rd++dW wr)∧bz af rs (dW wr)∧kk (rs++tag p rd) (ws++tag p (dW wr)) r ⟨eO ob wr,n,c⟩
def qs (H:eJ) (op:aO) (af:List Nat) (rs ws:List (Nat × Nat)) (p n c:Nat) (kk:List (Nat × Nat)→List (Nat × Nat)→AV→St→Prop) (e:Nat→AV) (ob:Nat→Option aU):Prop:=
 op.nd=false∧bz af ws (op.dM e++op.lU e n)∧bz af rs (op.lU e n)∧ar H op e ⟨ob,n,c⟩ (kk (rs++tag p (op.dM e)) (ws++tag p (op.lU e n)))
abbrev yr:Nat:=1000000007
def cw (af:List Nat) (xs:List (Nat × Nat)) (id:Nat):Prop:=∀ x∈xs,af.contains x.1=true∨x.2≠id∨yr≤x.1
def dmap (x k v:AV) (af:List Nat) (rs ws:List (Nat × Nat)) (p n c:Nat) (kk:List (Nat × Nat)→List (Nat × Nat)→AV→St→Prop) (ob:Nat→Option aU):Prop:=match x,k with
 | .jq id g,.int kq q=>v.one=true∧cw af ws id∧cw af rs id∧∃ o,ob id=some o∧o.g=g∧o.ro=false∧cP kq o.l=true∧mK q o.l=none∧
   kk rs (ws++[(yr+p,id)]) .bC ⟨bd ob id (some { o with l:=ew kq q v o.l }),n,c⟩
 | _,_=>False
def aO.pB:aO→Option (AX × AX × AX)
 | .dd x k v=>some (x,k,v)
 | _=>none
def tG (H:eJ) (op:aO) (af:List Nat) (rs ws:List (Nat × Nat)) (p n c:Nat) (kk:List (Nat × Nat)→List (Nat × Nat)→AV→St→Prop) (e:Nat→AV) (ob:Nat→Option aU):Prop:=
 match op.pB with
 | some (x,k,v)=>dmap (x.ev e) (k.ev e) (v.ev e) af rs ws p n c kk ob
 | none=>match op.cg e with
  | some (f,args)=>RG H f args af rs ws p n c kk ob
  | none=>qs H op af rs ws p n c kk e ob
def C3 (k:List (Nat × Nat)→List (Nat × Nat)→(Nat→AV)→St→Prop) (e:Nat→AV) (d:Option Nat) (rs ws:List (Nat × Nat)) (v:AV) (σ:St):Prop:=k rs ws (bL e d v) σ
def EA (H:eJ) (op:aO) (d:Option Nat) (af:List Nat) (rs ws:List (Nat × Nat)) (p n c:Nat) (k:List (Nat × Nat)→List (Nat × Nat)→(Nat→AV)→St→Prop) (e:Nat→AV) (σ:St):Prop:=
 tG H op af rs ws p n c (C3 k e d) e σ.ob
def fY (H:eJ) (n0 c0 k0:Nat):List aT→Nat→((Nat→AV)→St→Prop)→List (Nat × Nat)→List (Nat × Nat)→(Nat→AV)→St→Prop
 | [],_,K,_,_,e,σ=>K e ⟨σ.ob,n0+k0,c0+k0⟩
 | o :: r,p,K,rs,ws,e,σ=>match o.gd with
  | none=>tG H o.op o.af rs ws p (n0+p) (c0+p) (C3 (fY H n0 c0 k0 r (p+1) K) e o.d) e σ.ob
  | some (s,w)=>tg s w (EA H o.op o.d o.af rs ws p (n0+p) (c0+p) (fY H n0 c0 k0 r (p+1) K)) (tF o.d (fY H n0 c0 k0 r (p+1) K rs ws)) (e s) e σ
def OD (H:eJ) (ops:List aT) (dr:Option Nat) (K:(Nat→AV)→St→Prop) (e:Nat→AV) (σ:St):Prop:=
 (dr=none→runs H ops K e σ)∧∀ k,dr=some k→fY H σ.n σ.c k ops 0 K [] [] e σ
def cD (p:Nat) (l:List Nat):List (Nat × Nat):=l.map fun i=>(p,i)
def nB (af:List Nat) (R:List (Nat × Nat)) (ob ob':Nat→Option aU):Prop:=∀ x∈R,x.1∈af∨ob' x.2=ob x.2
def Bf (k:List (Nat × Nat)→(Nat→AV)→St→Prop) (R:List (Nat × Nat)) (e:Nat→AV) (d:Option Nat) (σ:St) (v:AV) (_τ:St):Prop:=k R (bL e d v) σ
def Ku (k:List (Nat × Nat)→(Nat→AV)→St→Prop) (af:List Nat) (R:List (Nat × Nat)) (e:Nat→AV) (d:Option Nat) (ob:Nat→Option aU) (v:AV) (τ:St):Prop:=nB af R ob τ.ob∧k R (bL e d v) τ
def bm (H:eJ) (p:Nat) (op:aO) (d:Option Nat) (af:List Nat) (k:List (Nat × Nat)→(Nat→AV)→St→Prop) (R:List (Nat × Nat)) (e:Nat→AV) (σ:St):Prop:=
 if op.lt then ar H op e σ (Bf k (R++cD p (op.dM e)) e d σ) else ar H op e σ (Ku k af R e d σ.ob)
def Kq (H:eJ) (p:Nat) (op:aO) (d:Option Nat) (af:List Nat) (k:List (Nat × Nat)→(Nat→AV)→St→Prop) (R:List (Nat × Nat)) (e:Nat→AV) (σ:St):Prop:=bm H p op d af k R e σ
def Ks (d:Option Nat) (k:List (Nat × Nat)→(Nat→AV)→St→Prop) (R:List (Nat × Nat)) (e:Nat→AV) (σ:St):Prop:=k R (bL e d (.tuple [])) σ
def eH (H:eJ) (s:HS) (R:List (Nat × Nat)) (k:List (Nat × Nat)→(Nat→AV)→St→Prop) (e:Nat→AV) (σ:St):Prop:=
 match s.o.gd with
 | none=>bm H s.p s.o.op s.o.d s.o.af k R e σ
 | some (g,w)=>tg g w (Kq H s.p s.o.op s.o.d s.o.af k R) (Ks s.o.d k R) (e g) e σ
def dR (H:eJ):List HS→((Nat→AV)→St→Prop)→List (Nat × Nat)→(Nat→AV)→St→Prop
 | [],K,_,e,σ=>K e σ
 | s :: L,K,R,e,σ=>eH H s R (dR H L K) e σ
def lQ:=EX→(Nat→AV)→St→Prop
def Ci (k:(Nat→AV)→St→Prop) (Q:lQ):lQ:=fun x e σ=>match x with
 | .lJ=>k e σ
 | x=>Q x e σ
def jx (id:Nat) (Q:lQ):lQ:=fun x e σ=>match x with
 | .exit i=>if i=id then Q .lJ e σ else Q (.exit i) e σ
 | x=>Q x e σ
def sP (n k:Nat) (I:Nat→(Nat→AV)→St→Prop) (Q:lQ):lQ:=fun x e σ=>match x with
 | .lJ=>∃ k',k' < k∧∃ nt,n≤nt∧I k' e (σ.aD nt)
 | x=>Q x e σ
def qu (c:AV) (a b:(Nat→AV)→St→Prop) (e:Nat→AV) (σ:St):Prop:=match c with
 | .bool t=>(t=true→a e σ)∧(t=false→b e σ)
 | _=>False
def RR (σ:St) (caps xs:List AV):Prop:=caps.length=xs.length∧∀ (i:Nat) (c x:AV),caps[i]?=some c→xs[i]?=some x→
 (∃ v,EO x=some v)∧∃ id g o,c=.ptr id g 1 0 0∧σ.ob id=some o∧o.g=g∧o.es=1∧o.l=[x]
def xQ (σ σ1:St):Prop:=∀ k o,σ1.ob k=some o→o.ty=rZ→∃ k' o',σ.ob k'=some o'∧o'.g=o.g
def Pd (n:Nat) (I:List Int→St→Prop) (Ix:EX→List Int→St→Prop) (pre:List Int):lQ:=fun x _ σ=>match x with
 | .lJ=>∃ nt,n≤nt∧I pre (σ.aD nt)
 | x=>∃ nt,n≤nt∧Ix x pre (σ.aD nt)
def Ty (It:Nat→List AV→List Int→Prop) (g:AV) (B:lQ→(Nat→AV)→St→Prop) (t d:Nat) (Q:lQ) (e:Nat→AV) (σ:St):Prop:=match g with
 | .func f caps=>∃ xs vs,It f xs vs∧∃ (I:List Int→St→Prop) (Ix:EX→List Int→St→Prop),I [] σ∧(∀ pre σ1,I pre σ1→RR σ1 caps xs∧xQ σ σ1)∧(∀ x pre σ1,x≠.lJ→Ix x pre σ1→xQ σ σ1)∧
   (∀ pre i σ1,i∈vs→pre.length<vs.length→I pre σ1→B (Pd σ.n I Ix (pre++[i])) (bd (bd e t (.int .i64 i)) d (.int .i64 i)) σ1)∧
   (∀ σ1,I vs σ1→Q .lJ e σ1)∧∀ x pre σ1,x≠.lJ→pre <+: vs→Ix x pre σ1→Q x e σ1
 | _=>False
def Oc (e:Nat→AV):List Nat→List AV→Nat→AV
 | t :: ts,v :: vs=>Oc (bd e t v) ts vs
 | _,_=>e
def Mo (n:Nat) (Ip:List Nat→Prop) (Is:St→Prop) (Ix:EX→List Nat→St→Prop) (pre:List Nat):lQ:=fun x _ σ=>match x with
 | .lJ=>Ip pre∧∃ nt,n≤nt∧Is (σ.aD nt)
 | x=>∃ nt,n≤nt∧Ix x pre (σ.aD nt)
def Mq (σ0:St) (Ip:List Nat→Prop) (Is:St→Prop) (N:Nat) (B:List Nat→(Nat→AV)→St→Prop) (e:Nat→AV) (σ:St):Prop:=
 (∃ nt,σ0.n≤nt∧Is (σ.aD nt))∧xQ σ0 σ∧∀ pre,Ip pre→pre.length<N→B pre e σ
def SL (It:Nat→List AV→List (List AV)→Prop) (g:AV) (A:((Nat→AV)→St→Prop)→(Nat→AV)→St→Prop) (B:lQ→(Nat→AV)→St→Prop) (ts:List Nat) (Q:lQ) (e:Nat→AV) (σ:St):Prop:=match g with
 | .func f caps=>(AV.func f caps).cL=true∧∃ vs,It f caps vs∧(∀ v∈vs,v.length=ts.length)∧∃ (Ip:List Nat→Prop) (Is:St→Prop) (Ix:EX→List Nat→St→Prop),Ip []∧Is σ∧(∀ σ1,Is σ1→xQ σ σ1)∧(∀ x pre σ1,x≠.lJ→Ix x pre σ1→xQ σ σ1)∧
   (∀ i v σ1,vs[i]?=some v→Is σ1→A (Mq σ Ip Is vs.length fun pre=>B (Mo σ.n Ip Is Ix (pre++[i]))) (Oc e ts v) σ1)∧
   (Ip (List.range vs.length)→∀ σ1,Is σ1→Q .lJ e σ1)∧∀ x pre σ1,x≠.lJ→pre <+: List.range vs.length→Ix x pre σ1→Q x e σ1
 | _=>False
def n6 (H:eJ):ay→lQ→(Nat→AV)→St→Prop
 | .skip,Q,e,σ=>Q .lJ e σ
 | .region ops dr,Q,e,σ=>OD H ops dr (Q .lJ) e σ
 | .seq a b,Q,e,σ=>n6 H a (Ci (n6 H b Q) Q) e σ
 | .cond c a b,Q,e,σ=>qu (c.ev e) (n6 H a Q) (n6 H b Q) e σ
 | .block id a,Q,e,σ=>n6 H a (jx id Q) e σ
 | .loop a,Q,e,σ=>∃ (I:Nat→(Nat→AV)→St→Prop),(∃ k,I k e σ)∧∀ k e1 σ1,I k e1 σ1→n6 H a (sP σ.n k I Q) e1 σ1
 | .exit id,Q,e,σ=>Q (.exit id) e σ
 | .ret,Q,e,σ=>Q .ret e σ
 | .aB l,Q,e,σ=>dR H l (Q .lJ) [] e σ
def PZ:Value→Option AV
 | .bool b=>some (.bool b)
 | .int k n=>some (.int k n)
 | .string s=>some (.str s)
 | .slice none 0 0=>some .nil
 | .pointer none=>some .jo
 | .nilFunc=>some .fN
 | .map none=>some .kN
 | _=>none
def Mf:List Value→Option (List AV)
 | []=>some []
 | v :: r=>match PZ v,Mf r with
  | some a,some as=>some (a :: as)
  | _,_=>none
def av:Value→Option AV
 | .agg cs=>(Mf cs.toList).map .agg
 | v=>PZ v
def ax:Operand→Option AX
 | .tmp t=>some (.t t)
 | .const v=>(av v).map .c
 | .func f=>some (.c (.func f []))
 | .global _=>none
def Cf:List Operand→Option (List AX)
 | []=>some []
 | x :: r=>match ax x,Cf r with
  | some a,some as=>some (a :: as)
  | _,_=>none
def CU:Option Operand→Option (Option AX)
 | none=>some none
 | some x=>(ax x).map some
def AB (P:Program) (F:TypeId→Option (List Nat)):Nat→List Field→Option (List Nat)
 | _,[]=>some []
 | i, f :: fs => if f.offset == i && !(f.name == "_") then match F f.type with
  | some k=>if (P.info? f.type).map (·.size) == some k.length then (AB P F (i+k.length) fs).map (k++·) else none
  | none=>none
  else none
def nF (P:Program):Nat→TypeId→Option (List Nat)
 | 0,_=>none
 | d+1,t=>match P.underlying t with
  | some (.int _)=>some [0]
  | some .bool=>some [1]
  | some .string=>some [2]
  | some (.struct fs)=>if P.stoodInHeld t then none else AB P (nF P d) 0 fs.toList
  | _=>none
def bK:TypeDesc→Bool
 | .struct _ | .array _ _=>true
 | _=>false
def partsOf (P:Program) (fields:Array Field):List (Nat × Operand)→Option (List (Nat × Nat × AX))
 | []=>some []
 | (k,x) :: r=>match fields[k]?,ax x,partsOf P fields r with
  | some f,some a,some as=>match P.info? f.type with
   | some i=>some ((f.offset,i.size,a) :: as)
   | none=>none
  | _,_,_=>none
def vY (n sz:Nat):List (Nat × Operand)→Option (List (Nat × Nat × AX))
 | []=>some []
 | (k,x) :: r=>match ax x,vY n sz r with
  | some a,some as=>if k<n then some ((k * sz,sz,a) :: as) else none
  | _,_=>none
def okF (P:Program) (f:Nat):Bool:=match P.funcs[f]? with
 | some fn => fn.body.isSome && !(fn.name == "runtime.NumGoroutine")
 | none=>false
def PX (P:Program) (f:Nat):Bool:=match P.funcs[f]? with
 | some fn => !(fn.name == "runtime.NumGoroutine")
 | none=>false
theorem sX {P:Program} {f:Nat} (h:okF P f=true):PX P f=true:=by
 unfold okF at h
 unfold PX
 split at h
 ·rename_i fn hf
  simp only [Bool.and_eq_true] at h
  simpa [hf] using h.2
 ·cases h
def HG (P:Program) (ty:TypeId) (x:Operand):Option aO:=match x with
 | .const (.slice none 0 0)=>match P.underlying ty with
  | some (.slice e)=>match P.info? e with
   | some i=>if 0<i.size then some (.fA i.size e) else none
   | none=>none
  | _=>none
 | _=>none
def GQ (P:Program) (mu:Bool) (ty:TypeId) (x:Operand):Option aO:=match mu,HG P ty x with
 | true,some op=>some op
 | _,_=>(ax x).map .mv
def Ib (P:Program) (e:TypeId):Bool:=match P.underlying e with
 | some (.int .u8)=>match P.info? e with
  | some i=>i.size == 1&&i.bytes == 1
  | none=>false
 | _=>false
def isIface:TypeDesc→Bool
 | .interface _=>true
 | _=>false
def I1:AX→AX→Bool
 | .t a,.t b=>a == b
 | .c (.int _ a),.c (.int _ b)=>a == b
 | _,_=>false
def DP:AX→Bool
 | .c .nil=>true
 | _=>false
def Jt (P:Program) (t:TypeId):Option AV:=match P.underlying t with
 | some (.map k e)=>match P.underlying k,P.info? e with
  | some (.int _),some i=>match i.zero.bind av with
   | some z=>if z.one&&z.cL then some z else none
   | none=>none
  | _,_=>none
 | _=>none
def GF:Option Operand→Bool
 | none=>true
 | some (.const (.int _ _))=>true
 | _=>false
def cU (P:Program) (mu:Bool) (ty:TypeId):Op→Option aO
 | .move x | .assign x=>GQ P mu ty x
 | .pick c a b=>match ax c,ax a,ax b with
  | some c,some a,some b=>some (.pick c a b)
  | _,_,_=>none
 | .alloc t=>match P.info? t with
  | some i=>match i.zero.bind av with
   | some z=>if z.flat&&z.cells.length == i.size&&0<i.size then some (.alloc i.size t z) else none
   | none=>none
  | none=>none
 | .box t x=>match P.info? t,ax x with
  | some i,some a=>if 0<i.size then some (.box i.size t a) else none
  | _,_=>none
 | .build t parts=>match P.underlying t,(P.info? t).bind fun i=>i.zero.bind av with
  | some (.struct fields),some (.agg zs)=>if fields.all fun f=>(P.info? f.type).isSome then (partsOf P fields parts.toList).map (.build zs) else none
  | some (.array n el),some (.agg zs)=>match P.info? el with
   | some ei=>(vY n ei.size parts.toList).map (.build zs)
   | none=>none
  | _,_=>none
 | .buildSlice t len parts=>match P.underlying t with
  | some (.slice e)=>match P.info? e,Cf (parts.toList.map (·.2)) with
   | some i,some xs=>if parts.toList.map (·.1) == List.range len&&len * i.size≤16777216&&0<i.size&&(i.zero.any fun z=>z.cells.size == i.size) then some (.lit mu i.size e xs) else none
   | _,_=>none
  | _=>none
 | .load t x=>match P.underlying t,P.info? t,ax x with
  | some d,some i,some a=>if bK d then some (.load true i.size a) else some (.load false 1 a)
  | _,_,_=>none
 | .store t x v=>match P.info? t,ax x,ax v with
  | some i,some a,some b=>if 0<i.size then some (.store i.size a b) else none
  | _,_,_=>none
 | .nilCheck x=>(ax x).map .ba
 | .binOp op t x y _=>match P.underlying t,ax x,ax y with
  | some (.int _),some a,some b=>(match op with
   | .and | .or | .shl | .shr=>some (.pu (.bit op) [a,b])
   | _=>some (.bin op a b))
  | some .string,some a,some b=>some (.bin op a b)
  | some .bool,some a,some b=>(match op with
   | .eql=>some (.F9 false a b)
   | .neq=>some (.F9 true a b)
   | _=>none)
  | some (.struct _),some a,some b=>if !P.eqGuardType P.depth t then (match op,nF P 5 t with
   | .eql,some ks=>some (.eqs false ks a b)
   | .neq,some ks=>some (.eqs true ks a b)
   | _,_=>none) else none
  | some (.slice _),some a,some b=>(match op,y with
   | .eql,.const (.slice none 0 0)=>some (.kW false a)
   | .neq,.const (.slice none 0 0)=>some (.kW true a)
   | _,_=>none)
  | _,_,_=>none
 | .unOp op _ x=>(ax x).map (.un op)
 | .convert s t x=>match P.underlying s,P.underlying t,ax x with
  | some (.int _),some (.int k),some a=>some (.conv k a)
  | some .string,some .string,some a=>some (.O2 a)
  | some .string,some (.slice e),some a=>if Ib P e then some (.Lw mu e a) else none
  | some (.slice e),some .string,some a=>if Ib P e then some (.Iu a) else none
  | _,_,_=>none
 | .makeInterface t x=>match P.underlying t,ax x with
  | some d,some a=>if isIface d then none else some (.pu .TE [a])
  | _,_=>none
 | .field t x i=>match P.underlying t,ax x with
  | some (.struct fields),some a=>match fields[i]? with
   | some f=>match P.underlying f.type,P.info? f.type with
    | some d,some fi=>some (.pu (.vP (bK d) (if bK d then fi.size else 1) f.offset) [a])
    | _,_=>none
   | none=>none
  | _,_=>none
 | .index t x i=>match P.underlying t,ax x,ax i with
  | some (.array n el),some a,some b=>match P.underlying el,P.info? el with
   | some d,some ei=>if 0<ei.size then some (.pu (.Iw (bK d) ei.size n) [a,b]) else none
   | _,_=>none
  | some .string,some a,some b=>some (.pu .EM [a,b])
  | _,_,_=>none
 | .makeSlice t l c=>match P.underlying t,ax l,ax c with
  | some (.slice el),some a,some b=>match P.info? el with
   | some i=>match i.zero.bind av with
    | some z=>if z.flat&&z.cells.length == i.size&&0<i.size&&I1 a b then some (.LL mu i.size i.bytes el z a) else none
    | none=>none
   | none=>none
  | _,_,_=>none
 | .panic _=>some (.pu .never [])
 | .makeMap t r=>if (Jt P t).isSome&&GF r then some .nq else none
 | .mapUpdate t m k x | .insert t m k x=>match Jt P t,ax m,ax k,ax x with
  | some _,some a,some b,some c=>some (.dd a b c)
  | _,_,_,_=>none
 | .lookup t x k ok=>match Jt P t,ax x,ax k with
  | some z,some a,some b=>some (.ft ok z a b)
  | _,_,_=>none
 | .makeFunc (.func f) first caps=>if first.isEmpty then (Cf caps.toList).map (.H9 f) else if caps.isEmpty then (Cf first.toList).map (.LM f) else none
 | .fieldAddr t x f=>match P.underlying t,ax x with
  | some (.struct fields),some a=>match fields[f]? with
   | some fl=>match P.info? fl.type with
    | some i=>if 0<i.size then some (.fa fl.offset a) else none
    | none=>none
   | none=>none
  | _,_=>none
 | .indexAddr t x i=>match P.underlying t,ax x,ax i with
  | some (.slice e),some a,some b=>match P.info? e with
   | some ei=>some (.bE ei.size a b)
   | none=>none
  | some (.array n e),some a,some b=>match P.info? e with
   | some ei=>some (.pu (.Mj ei.size n) [a,b])
   | none=>none
  | _,_,_=>none
 | .extract x i=>(ax x).map fun a=>.ext a i
 | .slice t x lo hi none=>match P.underlying t,ax x,CU lo,CU hi with
  | some (.slice e),some a,some l,some h=>match P.info? e with
   | some ei=>(match mu,l,h with
    | true,none,some h=>if 0<ei.size then some (.Lj ei.size a h) else none
    | _,_,_=>some (.rm ei.size a l h))
   | none=>none
  | some .string,some a,some l,some h=>some (.vQ a l h)
  | some (.pointer arr),some a,some l,some h=>match P.underlying arr with
   | some (.array n el)=>(match P.info? el with
    | some ei=>if 0<ei.size then some (.Da ei.size n a l h) else none
    | none=>none)
   | _=>none
  | some (.array n el),some a,some l,some h=>(match P.info? el with
   | some ei=>if 0<ei.size then some (.Da ei.size n a l h) else none
   | none=>none)
  | _,_,_,_=>none
 | .slice t x (some lo) (some hi) (some mx)=>match P.underlying t,ax x,ax lo,ax hi,ax mx with
  | some (.slice e),some a,some l,some h,some m=>match P.info? e with
   | some ei=>some (.Ge ei.size a l h m)
   | none=>none
  | _,_,_,_,_=>none
 | .call c=>match c.callee,Cf c.args.toList with
  | .builtin .len,some [x]=>(match c.argTypes.toList with
   | [t]=>(match P.underlying t with
    | some (.slice _)=>some (.len x)
    | some .string=>some (.lens x)
    | _=>none)
   | _=>none)
  | .builtin .append,some [x,y]=>(match c.argTypes.toList with
   | [s,t]=>if s == t then (match P.underlying s with
    | some (.slice e)=>(match P.info? e with
     | some i=>if 0<i.size&&(i.zero.any fun z=>z.cells.size == i.size) then some (if mu&&DP x then .Ev i.size i.bytes e y else .app i.size i.bytes e x y) else none
     | none=>none)
    | _=>none) else (match P.underlying s,P.underlying t with
    | some (.slice e),some (.int _)=>(match P.info? e with
     | some i=>(match i.zero.bind av with
      | some z=>if z.flat&&z.cells.length == i.size&&0<i.size then some (.Ba i.size i.bytes e z x y) else none
      | none=>none)
     | none=>none)
    | _,_=>none)
   | _=>none)
  | .builtin .cap,some [x]=>(match c.argTypes.toList with
   | [t]=>(match P.underlying t with
    | some (.slice _)=>some (.pu .D8 [x])
    | _=>none)
   | _=>none)
  | .builtin .copy,some [x,y]=>(match c.argTypes.toList with
   | [s,t]=>(match P.underlying s,P.underlying t with
    | some (.slice e),some (.slice _)=>(match P.info? e with
     | some i=>if 0<i.size then some (.Ga i.size x y) else none
     | none=>none)
    | _,_=>none)
   | _=>none)
  | .builtin .clear,some [x]=>(match c.argTypes.toList with
   | [t]=>(match P.underlying t with
    | some (.slice e)=>(match P.info? e with
     | some i=>(match i.zero.bind av with
      | some z=>if z.flat&&z.cells.length == i.size&&0<i.size then some (.KM i.size z x) else none
      | none=>none)
     | none=>none)
    | _=>none)
   | _=>none)
  | .builtin .panic,_=>some (.pu .never [])
  | .builtin .min,some (x :: xs)=>some (.Fa false x xs)
  | .builtin .max,some (x :: xs)=>some (.Fa true x xs)
  | .value (.func f),some as=>if PX P f then some (.call f as) else none
  | .value (.tmp s),some as=>some (.dF (.t s) as)
  | _,_=>none
 | _=>none
def tl (P:Program) (ms:Bool × Bool) (ty:TypeId) (o:Op):Option aO:=cU P ms.1 ty o
def Nb (n:Nat):Option Nat→Bool
 | some d=>decide (d<n)
 | none=>true
def TD (mt:List Nat):Option Nat→Bool × Bool
 | some d=>(mt.contains d,mt.contains (2000000+d))
 | none=>(false,false)
def direct (o:Oper):List Nat:=(o.after.toList.filter fun e=>Region.binds .any e).map (·.on)
def closure (ops:List Oper):List (List Nat):=
 ops.foldl (fun cs o=>cs++[((direct o)++(direct o).flatMap fun u=>cs.getD u []).eraseDups]) []
def cS (P:Program) (mt:List Nat) (n:Nat) (ops:Array Oper) (af:List Nat) (o:Oper):Option aT:=
 match tl P (TD mt o.dst) o.type o.op with
 | none=>none
 | some op=>
  if Nb n o.dst then
   match o.guard with
   | none=>some ⟨o.dst,op,none,af⟩
   | some (j,w)=>match (ops[j]?).bind (·.dst) with
    | some s=>if s<n then some ⟨o.dst,op,some (s,w),af⟩ else none
    | none=>none
  else none
def br (P:Program) (mt:List Nat) (n:Nat) (ops:Array Oper):List (List Nat)→List Oper→Option (List aT)
 | _,[]=>some []
 | cs,o :: r=>match cS P mt n ops (cs.headD []) o,br P mt n ops cs.tail r with
  | some a,some as=>some (a :: as)
  | _,_=>none
def aT.lk (o:aT):List Nat:=match o.gd with
 | some (s,_)=>s :: o.op.looks
 | none=>o.op.looks
def L9 (d:Option Nat) (l:List Nat):Bool:=match d with
 | some i=>!l.contains i
 | none=>true
def UP:Option Nat→Option Nat→Bool
 | some i,some j=>!(i == j)
 | _,_=>true
def tD (x y:aT):Bool:=L9 x.d y.lk&&L9 y.d x.lk&&UP x.d y.d
def vK:Nat→List aT→Bool
 | _,[]=>true
 | i,o :: r=>r.all (fun q=>q.af.contains i||tD o q)&&vK (i+1) r
def qx (l:List aT) (i:Nat) (o:Oper) (r:aT):Bool:=
 (direct o).all (fun u=>decide (u<i))&&r.af.all fun x=>(direct o).contains x||(direct o).any fun u=>match l[u]? with
  | some q=>q.af.contains x
  | none=>false
def kg (l:List aT):Nat→List Oper→List aT→Bool
 | i,o :: os,r :: rs=>qx l i o r&&kg l (i+1) os rs
 | _,_,_=>true
def GI (ops:List Oper) (l:List aT) (k:Nat):Bool:=(k == l.length||l.all fun o=>!o.op.new)&&vK 0 l&&kg l 0 ops l&&decide (l.length≤yr)
def yt (s:HS):List HS→List HS
 | []=>[s]
 | a :: L=>if s.o.af.contains a.p||L.any (fun b=>s.o.af.contains b.p) then a :: yt s L else s :: a :: L
def hoist:List HS→List HS→List HS
 | acc,[]=>acc
 | acc,s :: L=>hoist (if s.o.op.lt then yt s acc else acc++[s]) L
def qa (l:List aT):List HS:=(l.zipIdx).map fun x=>⟨x.2,x.1⟩
def xC (s:HS):List HS→List HS
 | []=>[s]
 | a :: L=>if a.o.af.contains s.p then s :: a :: L else a :: xC s L
def jY:List HS→List HS
 | []=>[]
 | s :: L=>if s.o.op.al then xC s (jY L) else s :: jY L
def uR (l:List aT):List HS:=jY (hoist [] (qa l))
def JD (ops:List Oper) (a s:HS):Bool:=decide (a.p≠s.p)&&(match ops[a.p]? with | some o=>!(direct o).contains s.p | none=>true)&&(s.o.af.contains a.p||(a.o.op.lt&&tD a.o s.o)||s.o.op.al)
 && (!s.o.op.al||(s.o.gd.isNone&&s.o.d.isSome&&tD a.o s.o))
def yW (ops:List Oper):List HS→Bool
 | []=>true
 | a :: L=>L.all (JD ops a)&&yW ops L
def DR (ops:List Oper) (l:List aT):Bool:=yW ops (uR l)&&(uR l).all (fun s=>!s.o.op.al||(s.o.gd.isNone&&s.o.d.isSome))&&kg l 0 ops l
def Hf (l:List aT):Nat:=if l.any fun o=>o.op.new then l.length else 0
def HF (P:Program) (mt:List Nat) (n:Nat) (ops:Array Oper) (draw:Bool):Option ay:=
 if draw then match br P mt n ops (closure ops.toList) ops.toList with
  | some l=>if mt.contains 1000000&&P.follows .mixedOrders&&DR ops.toList l then some (.aB (uR l)) else
   if P.follows .mixedOrders&&GI ops.toList l (Hf l) then some (.region l (some (Hf l))) else none
  | none=>none
 else (br P mt n ops [] ops.toList).map fun l=>.region l none
def RJ:Code→Option (Nat × Nat)
 | .region _ ops false=>match ops.toList with
  | [o]=>match o.dst,o.op,o.guard with
   | some d,.assign (.tmp t),none=>some (t,d)
   | _,_,_=>none
  | _=>none
 | _=>none
def UQ:Code→Option (Array Oper)
 | .region _ ops false=>some ops
 | _=>none
def fM:Code→Bool
 | .seq a b=>fM a&&fM b
 | .cond _ a b=>fM a&&fM b
 | .block _ a=>fM a
 | .loop a=>fM a
 | .rangeFunc ..=>false
 | _=>true
def comp (P:Program) (mt:List Nat) (n:Nat):Code→Option ay
 | .skip=>some .skip
 | .region _ ops draw=>HF P mt n ops draw
 | .seq a b=>match comp P mt n a,comp P mt n b with
  | some a,some b=>some (.seq a b)
  | _,_=>none
 | .cond c a b=>match ax c,comp P mt n a,comp P mt n b with
  | some c,some a,some b=>some (.cond c a b)
  | _,_,_=>none
 | .block id a=>(comp P mt n a).map (.block id)
 | .loop a=>(comp P mt n a).map .loop
 | .exit id=>some (.exit id)
 | .ret=>some .ret
 | _=>none
end Go.Ab
