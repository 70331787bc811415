/- OWN WORK, put together by tools/asm.py, seat.py, mini.py. -/
import Derived.Test.YtcpckngdfjmbgaaGreatBaseB
import Derived.RangeFuncKeeps
namespace Go.Ab
open Go.RowKit
inductive AX where
 | t (s:Nat)
 | c (v:AV)
 deriving Inhabited
def AX.ev (e:Nat→AV):AX→AV
 | .t s=>e s
 | .c v=>v
inductive JA where
 | bit (op:BinOp)
 | DW
 | vM (ag:Bool) (sz off:Nat)
 | Hy (ag:Bool) (es n:Nat)
 | Lv (es n:Nat)
 | SC
 | Dg
 | never
 deriving Inhabited
inductive aO where
 | mv (x:AX)
 | pick (c a b:AX)
 | alloc (es:Nat) (ty:TypeId) (z:AV)
 | box (es:Nat) (ty:TypeId) (x:AX)
 | build (zs:List AV) (ps:List (Nat × Nat × AX))
 | lit (mu:Bool) (es:Nat) (ty:TypeId) (xs:List AX)
 | load (ag:Bool) (sz:Nat) (x:AX)
 | store (sz:Nat) (x v:AX)
 | aY (x:AX)
 | bin (op:BinOp) (x y:AX)
 | HG (neg:Bool) (x y:AX)
 | un (op:UnOp) (x:AX)
 | conv (k:IntKind) (x:AX)
 | Hd (f:Nat) (caps:List AX)
 | fa (off:Nat) (x:AX)
 | bM (es:Nat) (x i:AX)
 | ext (x:AX) (i:Nat)
 | len (x:AX)
 | lens (x:AX)
 | app (es bytes:Nat) (ty:TypeId) (x y:AX)
 | Eg (mx:Bool) (x:AX) (xs:List AX)
 | qH (es:Nat) (x:AX) (lo hi:Option AX)
 | uS (x:AX) (lo hi:Option AX)
 | call (f:Nat) (args:List AX)
 | dw (x:AX) (args:List AX)
 | fj (es:Nat) (ty:TypeId)
 | eqs (neg:Bool) (ks:List Nat) (x y:AX)
 | pu (p:JA) (xs:List AX)
 | kx (neg:Bool) (x:AX)
 | KZ (mu:Bool) (es bytes:Nat) (ty:TypeId) (z:AV) (x:AX)
 | Kx (es:Nat) (x h:AX)
 | Fc (es:Nat) (x y:AX)
 | JV (es:Nat) (z:AV) (x:AX)
 | Hv (x:AX)
 | KJ (mu:Bool) (ty:TypeId) (x:AX)
 | Of (x:AX)
 | Ak (es bytes:Nat) (ty:TypeId) (z:AV) (x y:AX)
 | Fk (es:Nat) (x lo hi mx:AX)
 | DC (es bytes:Nat) (ty:TypeId) (y:AX)
 | Cl (es n:Nat) (x:AX) (lo hi:Option AX)
 | mL
 | cZ (x k v:AX)
 | eY (ok:Bool) (z:AV) (x k:AX)
 | Fj (es:Nat) (x h m:AX)
 | Mm (x:AX)
 | K0 (f:Nat) (fs:List AX)
 deriving Inhabited
def aO.new:aO→Bool
 | .alloc .. | .box .. | .lit .. | .app .. | .fj .. | .KZ .. | .Kx .. | .KJ .. | .Ak .. | .DC .. | .mL=>true
 | _=>false
def aO.nd:aO→Bool
 | .kx .. | .Kx .. | .Fc .. | .JV .. | .KJ .. | .Ak .. | .DC .. | .cZ .. | .eY .. | .Mm ..=>true
 | _=>false
def AX.lk:AX→List Nat
 | .t s=>[s]
 | .c _=>[]
def JR (l:List AX):List Nat:=l.flatMap AX.lk
def NZ:Option AX→List Nat
 | some x=>x.lk
 | none=>[]
def aO.looks:aO→List Nat
 | .mv x=>x.lk
 | .pick c a b=>c.lk++(a.lk++b.lk)
 | .alloc ..=>[]
 | .box _ _ x=>x.lk
 | .build _ ps=>JR (ps.map fun p=>p.2.2)
 | .lit _ _ _ xs=>JR xs
 | .load _ _ x=>x.lk
 | .store _ x v=>x.lk++v.lk
 | .aY x=>x.lk
 | .bin _ x y=>x.lk++y.lk
 | .HG _ x y=>x.lk++y.lk
 | .un _ x=>x.lk
 | .conv _ x=>x.lk
 | .Hd _ l=>JR l
 | .fa _ x=>x.lk
 | .bM _ x i=>x.lk++i.lk
 | .ext x _=>x.lk
 | .len x=>x.lk
 | .lens x=>x.lk
 | .app _ _ _ x y=>x.lk++y.lk
 | .Eg _ x l=>x.lk++JR l
 | .qH _ x lo hi=>x.lk++(NZ lo++NZ hi)
 | .uS x lo hi=>x.lk++(NZ lo++NZ hi)
 | .call _ l=>JR l
 | .dw x l=>x.lk++JR l
 | .fj ..=>[]
 | .eqs _ _ x y=>x.lk++y.lk
 | .pu _ l=>JR l
 | .kx _ x=>x.lk
 | .KZ _ _ _ _ _ x=>x.lk
 | .Kx _ x h=>x.lk++h.lk
 | .Fc _ x y=>x.lk++y.lk
 | .JV _ _ x=>x.lk
 | .Hv x=>x.lk
 | .KJ _ _ x=>x.lk
 | .Of x=>x.lk
 | .Ak _ _ _ _ x y=>x.lk++y.lk
 | .Fk _ x l h m=>x.lk++(l.lk++(h.lk++m.lk))
 | .DC _ _ _ y=>y.lk
 | .Cl _ _ x lo hi=>x.lk++(NZ lo++NZ hi)
 | .mL=>[]
 | .cZ x k v=>x.lk++(k.lk++v.lk)
 | .eY _ _ x k=>x.lk++k.lk
 | .Fj _ x h m=>x.lk++(h.lk++m.lk)
 | .Mm x=>x.lk
 | .K0 _ l=>JR l
def AV.kh:AV→List Nat
 | .sl id ..=>[id]
 | .fA id ..=>[id]
 | .yl id ..=>[id]
 | .ptr id ..=>[id]
 | _=>[]
def aO.dJ (e:Nat→AV):aO→List Nat
 | .load _ _ x=>(x.ev e).kh
 | .store _ x _=>(x.ev e).kh
 | .bM _ x _=>(x.ev e).kh
 | .qH _ x _ _=>(x.ev e).kh
 | .app _ _ _ x y=>(x.ev e).kh++(y.ev e).kh
 | .Hv x=>(x.ev e).kh
 | _=>[]
def Lu (id:Nat):AV→List Nat
 | .nil=>[id]
 | v=>v.kh
def aO.lu (e:Nat→AV) (id:Nat):aO→List Nat
 | .store _ x _=>(x.ev e).kh
 | .app _ _ _ x _=>Lu id (x.ev e)
 | .alloc .. | .box .. | .lit .. | .fj .. | .mL=>[id]
 | .KZ true ..=>[id]
 | _=>[]
structure aR where
 d:Option Nat
 op:aO
 gd:Option (Nat × Bool)
 af:List Nat
 deriving Inhabited
def aO.lt:aO→Bool
 | .store .. | .call .. | .dw ..=>false
 | .lit false ..=>true
 | op=>!op.new&&!op.nd
def aO.al:aO→Bool
 | .alloc ..=>true
 | _=>false
structure HS where
 p:Nat
 o:aR
 deriving Inhabited
def DY:AV→Option Value
 | .bool b=>some (.bool b)
 | .int k n=>some (.int k n)
 | .str s=>some (.string s)
 | _=>none
def uP (ps:List Addr) (xs:List AV) (w:World):Prop:=ps.length=xs.length∧∀ (i:Nat) (p:Addr) (x:AV),ps[i]?=some p→xs[i]?=some x→p.spot=none∧∃ v,DY x=some v∧w.cell? p=some v
def TW (P:Program) (f:Nat) (xs:List AV) (vs:List Int):Prop:=
 (∀ args w,(callFunc f args).run P w=.ok (.enter f args) w)∧∀ (k:Nat) (w:World) (ps:List Addr),uP ps xs w→
  SeqStopsK (α:={x:Int // x∈vs}) Fence.wide k P f (ps.map fun p=>Value.pointer (some p)).toArray (fun x=>#[.int .i64 x.1]) (fun A B=>uP ps xs A→uP ps xs B)
   (fun l=>l.map (·.1)=vs) (fun l=>l.map (·.1) <+: vs) vs.length w
def SU (S:Nat→Prop) (w:World) (as:List AV) (vs:Array Value):Prop:=vs.size=as.length∧∀ (j:Nat) (y:AV) (v:Value),as[j]?=some y→vs[j]?=some v→VP S w y v
def TV (P:Program) (f:Nat) (caps:List AV) (vs:List (List AV)):Prop:=
 (∀ args w,(callFunc f args).run P w=.ok (.enter f args) w)∧∀ (k:Nat) (S:Nat→Prop) (w:World) (cs:Array Value),(∀ b,S b→b<w.heap.size)→SU S w caps cs→
  ∃ us:Nat→Array Value,(∀ i v,vs[i]?=some v→SU S w v (us i))∧
   SeqStopsK (α:={i:Nat // i<vs.length}) Fence.wide k P f cs (fun x=>us x.1) (fun A B=>∀ b,S b→B.heap[b]?=A.heap[b]?)
    (fun l=>l.map (·.1)=List.range vs.length) (fun l=>l.map (·.1) <+: List.range vs.length) vs.length w
inductive ay where
 | skip
 | region (ops:List aR) (dr:Option Nat)
 | seq (a b:ay)
 | cond (c:AX) (a b:ay)
 | block (id:Nat) (a:ay)
 | loop (a:ay)
 | exit (id:Nat)
 | ret
 | aC (l:List HS)
 | Cu (It:Nat→List AV→List Int→Prop) (x:AX) (t d:Nat) (body:ay)
 | Ct (It:Nat→List AV→List (List AV)→Prop) (x:AX) (ts:List Nat) (asg:List aR) (body:ay)
 deriving Inhabited
inductive EX where
 | iF | ret | exit (id:Nat)
def sub (ag:Bool) (sz off:Nat) (y:AV):AV:=if ag then .agg ((y.cells.drop off).take sz) else y.cells.getD off .bC
def iB (off:Nat) (v y:AV):AV:=match y with
 | .agg cs=>.agg (cs.take off++v.cells++cs.drop (off+v.cells.length))
 | _=>v
def AV.eF:AV→Bool
 | .sl .. | .fA .. | .yl .. | .ptr .. | .iW .. | .bC | .agg _ | .tuple _ | .func ..=>false
 | _=>true
def AV.cA:AV→Bool
 | .agg cs=>cs.all AV.eF
 | .tuple cs=>cs.all fun | .agg ds=>ds.all AV.eF | a=>a.eF
 | .func _ cs=>cs.all AV.eF
 | a=>a.eF
def zG (cs:List AV):List (Nat × AV)→List AV
 | []=>cs
 | (off,v) :: r=>zG (cs.take off++v.cells++cs.drop (off+v.cells.length)) r
def bW (σ:St) (x:AV) (K:List AV→Prop):Prop:=match x with
 | .nil=>K []
 | .list _ l=>K l
 | .sl id g es off n=>∃ o,σ.ob id=some o∧o.g=g∧o.es=es∧off+n≤o.l.length∧K ((o.l.drop off).take n)
 | .fA id g es off n _=>∃ o,σ.ob id=some o∧o.g=g∧o.es=es∧off+n≤o.l.length∧K ((o.l.drop off).take n)
 | _=>False
def qn (op:BinOp) (x y:AV) (K:AV→Prop):Prop:=match x,y with
 | .int k a,.int k' b=>
  (match op with
  | .add=>k=k'∧K (.int k (k.wrap (a+b)))
  | .sub=>k=k'∧K (.int k (k.wrap (a-b)))
  | .mul=>k=k'∧K (.int k (k.wrap (a * b)))
  | .quo=>k=k'∧b≠0∧K (.int k (k.wrap (a.tdiv b)))
  | .rem=>k=k'∧b≠0∧K (.int k (a.tmod b))
  | .eql=>k=k'∧K (.bool (decide (a=b)))
  | .neq=>k=k'∧K (.bool (!decide (a=b)))
  | .lss=>k=k'∧K (.bool (decide (a<b)))
  | .leq=>k=k'∧K (.bool (decide (a≤b)))
  | .gtr=>k=k'∧K (.bool (decide (b<a)))
  | .geq=>k=k'∧K (.bool (decide (b≤a)))
  | _=>False)
 | .str a,.str b=>
  (match op with
  | .add=>a.size+b.size≤9223372036854775807∧K (.str (a++b))
  | .eql=>K (.bool (decide (a=b)))
  | .neq=>K (.bool (!decide (a=b)))
  | _=>False)
 | _,_=>False
def oa (n:Nat) (lo hi:Option AV) (K:Nat→Nat→Prop):Prop:=match lo,hi with
 | none,none=>K 0 n
 | some (.int _ l),none=>0≤l∧l≤n∧K l.toNat n
 | none,some (.int _ h)=>0≤h∧h≤n∧K 0 h.toNat
 | some (.int _ l),some (.int _ h)=>0≤l∧l≤h∧h≤n∧K l.toNat h.toNat
 | _,_=>False
def wb (n c:Nat) (lo hi:Option AV) (K:Nat→Nat→Prop):Prop:=match lo,hi with
 | none,none=>K 0 n
 | some (.int _ l),none=>0≤l∧l≤n∧K l.toNat n
 | none,some (.int _ h)=>0≤h∧h≤c∧K 0 h.toNat
 | some (.int _ l),some (.int _ h)=>0≤l∧l≤h∧h≤c∧K l.toNat h.toNat
 | _,_=>False
def ez (es:Nat) (σ:St) (x:AV) (lo hi:Option AV) (K:AV→Prop):Prop:=match x with
 | .nil=>oa 0 lo hi fun _ _=>K .nil
 | .list es' ls=>es'=es∧oa ls.length lo hi fun l h=>K (.list es ((ls.take h).drop l))
 | .sl id g es' off n=>es'=es∧(∃ o,σ.ob id=some o∧o.g=g)∧oa n lo hi fun l h=>(l=h→K (.list es []))∧(l<h→K (.sl id g es (off+l) (h-l)))
 | .fA id g es' off n c=>es'=es∧off+n≤c∧wb n (c-off) lo hi fun l h=>(l=c-off→K (.list es []))∧(l<c-off→K (.fA id g es (off+l) (h-l) c))
 | _=>False
def sX (x:AV) (lo hi:Option AV) (K:AV→Prop):Prop:=match x with
 | .str s=>oa s.size lo hi fun l h=>K (.str (s.extract l h))
 | _=>False
def eO (mx:Bool):AV→List AV→(AV→Prop)→Prop
 | a,[],K=>K a
 | .int k a,.int k' b :: r,K=>k=k'∧eO mx (.int k (if mx then max a b else min a b)) r K
 | _,_,_=>False
abbrev ew:=Nat→List AV→St→(AV→St→Prop)→Prop
def pn (c a b:AV) (σ:St) (K:AV→St→Prop):Prop:=match c with
 | .bool t=>(t=true→K a σ)∧(t=false→K b σ)
 | _=>False
def Oj (es:Nat) (ty:TypeId) (v:AV) (σ:St) (K:AV→St→Prop):Prop:=v.flat=true∧v.cells.length=es∧K (.ptr σ.n σ.c es 0 0) (σ.push es ty [v])
def zT (zs:List AV) (ps:List (Nat × Nat × AV)) (σ:St) (K:AV→St→Prop):Prop:=
 (∀ p∈ps,p.2.2.flat=true∧p.2.2.cells.length=p.2.1∧p.1+p.2.1≤zs.length)∧K (.agg (zG zs (ps.map fun p=>(p.1,p.2.2)))) σ
def FF (mu:Bool) (es:Nat) (ty:TypeId) (vs:List AV) (σ:St) (K:AV→St→Prop):Prop:=
 (∀ v∈vs,v.flat=true∧v.cells.length=es∧(mu=false→v.cA=true))∧(if mu then K (.sl σ.n σ.c es 0 vs.length) (σ.push es ty vs) else K (.list es vs) σ)
def tQ (ag:Bool) (sz:Nat) (x:AV) (σ:St) (K:AV→St→Prop):Prop:=match x with
 | .ptr id g es i off=>∃ o,σ.ob id=some o∧o.g=g∧o.es=es∧off+sz≤es∧∃ y,o.l[i]?=some y∧K (sub ag sz off y) σ
 | .eD es l i off=>off+sz≤es∧∃ y,l[i]?=some y∧K (sub ag sz off y) σ
 | _=>False
def sd (sz:Nat) (x v:AV) (σ:St) (K:AV→St→Prop):Prop:=match x with
 | .ptr id g es i off=>∃ o,σ.ob id=some o∧o.g=g∧o.es=es∧o.ro=false∧v.flat=true∧v.cells.length=sz∧off+sz≤es∧
   ∃ y,o.l[i]?=some y∧K .bC (σ.put id o (o.l.set i (iB off v y)))
 | _=>False
def iu (x:AV) (σ:St) (K:AV→St→Prop):Prop:=match x with
 | .ptr .. | .eD .. | .func .. | .pL ..=>K x σ
 | _=>False
def Ev (neg:Bool) (x y:AV) (σ:St) (K:AV→St→Prop):Prop:=match x,y with
 | .bool a,.bool b=>K (.bool (if neg then !decide (a=b) else decide (a=b))) σ
 | _,_=>False
def x6:List Nat→List AV→List AV→Option Bool
 | [],[],[]=>some true
 | 0 :: ks,.int k a :: r,.int k' b :: s=>if k=k' then (x6 ks r s).map fun t=>decide (a=b)&&t else none
 | 1 :: ks,.bool a :: r,.bool b :: s=>(x6 ks r s).map fun t=>decide (a=b)&&t
 | 2 :: ks,.str a :: r,.str b :: s=>(x6 ks r s).map fun t=>decide (a=b)&&t
 | _,_,_=>none
def AT (neg:Bool) (ks:List Nat) (x y:AV) (σ:St) (K:AV→St→Prop):Prop:=match x,y with
 | .agg cs,.agg ds=>∃ b,x6 ks cs ds=some b∧K (.bool (if neg then !b else b)) σ
 | _,_=>False
def AW (op:BinOp) (k:IntKind) (a:Int) (k':IntKind) (b:Int):Option AV:=match op with
 | .and=>if k=k' then some (.int k (k.wrap (BitVec.ofInt k.bits a &&& BitVec.ofInt k.bits b).toNat)) else none
 | .or=>if k=k' then some (.int k (k.wrap (BitVec.ofInt k.bits a ||| BitVec.ofInt k.bits b).toNat)) else none
 | .shl=>if 0≤b then some (.int k (k.wrap (a * 2 ^ min b.toNat k.bits))) else none
 | .shr=>if 0≤b then some (.int k (a.fdiv (2 ^ min b.toNat k.bits))) else none
 | _=>none
def Ih:JA→List AV→Option AV
 | .bit op,[.int k a,.int k' b]=>AW op k a k' b
 | .DW,[.str s,.int _ i]=>if 0≤i then (s[i.toNat]?).map fun b=>.int .u8 b.toNat else none
 | .vM ag sz off,[.agg cs]=>if off+sz≤cs.length then some (sub ag sz off (.agg cs)) else none
 | .Hy ag es n,[.agg cs,.int _ i]=>if 0≤i∧i<n∧(i.toNat+1) * es≤cs.length then some (sub ag es (i.toNat * es) (.agg cs)) else none
 | .Lv es n,[.ptr id g es' i o,.int _ x]=>if 0≤x∧x<n then some (.ptr id g es' i (o+x.toNat * es)) else none
 | .Lv es n,[.eD es' l i o,.int _ x]=>if 0≤x∧x<n then some (.eD es' l i (o+x.toNat * es)) else none
 | .SC,[_]=>some .bC
 | .Dg,[.nil]=>some (.int .i64 0)
 | .Dg,[.fA _ _ _ off _ c]=>some (.int .i64 ((c-off:Nat):Int))
 | _,_=>none
def Ml (p:JA) (xs:List AV) (σ:St) (K:AV→St→Prop):Prop:=∃ v,Ih p xs=some v∧K v σ
def zk (neg:Bool) (x:AV) (σ:St) (K:AV→St→Prop):Prop:=match x with
 | .nil=>K (.bool (!neg)) σ
 | .list _ []=>K (.bool true) σ∧K (.bool false) σ
 | .list _ (_ :: _)=>K (.bool neg) σ
 | .sl _ _ _ _ n=>(n=0→K (.bool true) σ∧K (.bool false) σ)∧(0<n→K (.bool neg) σ)
 | _=>False
def Hc (mu:Bool) (es bytes:Nat) (ty:TypeId) (z x:AV) (σ:St) (K:AV→St→Prop):Prop:=match x with
 | .int _ n=>0≤n∧n≤9223372036854775807∧bytes * n.toNat≤281474976710656∧
   (if mu then K (.sl σ.n σ.c es 0 n.toNat) (σ.push es ty (List.replicate n.toNat z)) else K (.list es (List.replicate n.toNat z)) σ)
 | _=>False
def Nr (es:Nat) (x h:AV) (σ:St) (K:AV→St→Prop):Prop:=match x,h with
 | .sl id g es' off n,.int _ hi=>es'=es∧off=0∧0≤hi∧hi≤n∧∃ o,σ.ob id=some o∧o.g=g∧o.es=es∧o.ro=false∧n≤o.l.length∧
   K (.sl id σ.c es 0 hi.toNat) (σ.renew id o (o.l.take hi.toNat))
 | _,_=>False
def I9 (es:Nat) (x y:AV) (σ:St) (K:AV→St→Prop):Prop:=match x,y with
 | .fA id g e1 off n _,.fA id2 g2 e2 off2 n2 _=>e1=es∧e2=es∧0<min n2 n∧∃ o2,σ.ob id2=some o2∧o2.g=g2∧o2.es=es∧off2+min n2 n≤o2.l.length∧
   ∃ o,σ.ob id=some o∧o.g=g∧o.es=es∧o.ro=false∧off≤o.l.length∧K (.int .i64 (min n2 n:Nat)) (σ.put id o (o.l.take off++(o2.l.drop off2).take (min n2 n)++o.l.drop (off+min n2 n)))
 | _,_=>False
def Dd (es:Nat) (x y:AV) (σ:St) (K:AV→St→Prop):Prop:=I9 es x y σ K∨
 ((∀ es' l,y=.list es' l→es'=es)∧(∀ id g es' off n,(y=.sl id g es' off n∨∃ c,y=.fA id g es' off n c)→es'=es)∧bW σ y fun l=>
   (match x with
   | .nil=>K (.int .i64 0) σ
   | .list _ []=>K (.int .i64 0) σ
   | .sl id g es' off n=>es'=es∧∃ o,σ.ob id=some o∧o.g=g∧o.es=es∧o.ro=false∧off+n≤o.l.length∧
     K (.int .i64 (min l.length n:Nat)) (σ.put id o (o.l.take off++l.take n++o.l.drop (off+min l.length n)))
   | .fA id g es' off n _=>es'=es∧0<min l.length n∧∃ o,σ.ob id=some o∧o.g=g∧o.es=es∧o.ro=false∧off≤o.l.length∧
     K (.int .i64 (min l.length n:Nat)) (σ.put id o (o.l.take off++l.take n++o.l.drop (off+min l.length n)))
   | _=>False))
def Hr (es:Nat) (z x:AV) (σ:St) (K:AV→St→Prop):Prop:=match x with
 | .nil=>K (.tuple []) σ
 | .list _ []=>K (.tuple []) σ
 | .sl id g es' off n=>es'=es∧∃ o,σ.ob id=some o∧o.g=g∧o.es=es∧o.ro=false∧off+n≤o.l.length∧
   K (.tuple []) (σ.put id o (o.l.take off++List.replicate n z++o.l.drop (off+n)))
 | .fA id g es' off n _=>es'=es∧∃ o,σ.ob id=some o∧o.g=g∧o.es=es∧o.ro=false∧off+n≤o.l.length∧
   K (.tuple []) (σ.put id o (o.l.take off++List.replicate n z++o.l.drop (off+n)))
 | _=>False
def n8:List AV→Option (List UInt8)
 | []=>some []
 | .int .u8 n :: r=>(n8 r).map (UInt8.ofNat n.toNat :: ·)
 | _=>none
def xQ (x:AV) (σ:St) (K:AV→St→Prop):Prop:=
 (∀ es' l,x=.list es' l→es'=1)∧(∀ id g es' off n,(x=.sl id g es' off n∨∃ c,x=.fA id g es' off n c)→es'=1)∧bW σ x fun l=>∃ s,n8 l=some s∧K (.str ⟨s.toArray⟩) σ
def E4 (es bytes:Nat) (ty:TypeId) (z x y:AV) (σ:St) (K:AV→St→Prop):Prop:=match x,y with
 | .nil,.int _ n=>0<n∧n≤9223372036854775807∧n.toNat * bytes≤140737488355328∧K (.sl σ.n σ.c es 0 n.toNat) (σ.push es ty (List.replicate n.toNat z))
 | .fA id g es' off n0 c,.int _ n=>es'=es∧0<n∧c-off<n0+n.toNat∧n0+n.toNat≤9223372036854775807∧(n0+n.toNat) * bytes≤140737488355328∧
   ∃ o,σ.ob id=some o∧o.g=g∧o.es=es∧off+n0≤o.l.length∧K (.sl σ.n σ.c es 0 (n0+n.toNat)) (σ.push es ty ((o.l.drop off).take n0++List.replicate n.toNat z))
 | _,_=>False
def yk (es:Nat) (x l h m:AV) (σ:St) (K:AV→St→Prop):Prop:=match x,l,h,m with
 | .sl _ _ es' _ n,.int _ a,.int _ b,.int _ c=>es'=es∧0≤a∧a≤b∧b≤c∧c≤n∧K .bC σ
 | .list es' ls,.int _ a,.int _ b,.int _ c=>es'=es∧0≤a∧a≤b∧b≤c∧c≤ls.length∧K .bC σ
 | .fA _ _ es' _ n _,.int _ a,.int _ b,.int _ c=>es'=es∧0≤a∧a≤b∧b≤c∧c≤n∧K .bC σ
 | _,_,_,_=>False
def Ms (es bytes:Nat) (ty:TypeId) (y:AV) (σ:St) (K:AV→St→Prop):Prop:=
 (∀ es' l,y=.list es' l→es'=es)∧(∀ id g es' off n,(y=.sl id g es' off n∨∃ c,y=.fA id g es' off n c)→es'=es)∧bW σ y fun l=>
  l.length≤maxLen∧l.length * bytes≤140737488355328∧K (.sl σ.n σ.c es 0 l.length) (σ.push es ty l)
def oS (s:ByteArray):List AV:=s.data.toList.map fun b=>.int .u8 b.toNat
def NJ (mu:Bool) (ty:TypeId) (x:AV) (σ:St) (K:AV→St→Prop):Prop:=match x with
 | .str s=>s.size≤140737488355328∧(if mu then K (.sl σ.n σ.c 1 0 s.size) ⟨aZ σ.ob σ.n (some ⟨σ.c,1,ty,false,false,oS s⟩),σ.n+1,σ.c+1⟩ else K (.list 1 (oS s)) σ)
 | _=>False
def L9 (op:UnOp) (x:AV) (σ:St) (K:AV→St→Prop):Prop:=match op,x with
 | .not,.bool b=>K (.bool (!b)) σ
 | .neg,.int k n=>K (.int k (k.wrap (0-n))) σ
 | _,_=>False
def zM (k:IntKind) (x:AV) (σ:St) (K:AV→St→Prop):Prop:=match x with
 | .int _ n=>K (.int k (k.wrap n)) σ
 | _=>False
def Ld (off:Nat) (x:AV) (σ:St) (K:AV→St→Prop):Prop:=match x with
 | .ptr id g es i o=>K (.ptr id g es i (o+off)) σ
 | .eD es l i o=>K (.eD es l i (o+off)) σ
 | _=>False
def vI (es:Nat) (x i:AV) (σ:St) (K:AV→St→Prop):Prop:=match x,i with
 | .sl id g es' off n,.int _ ix=>es'=es∧(∃ o,σ.ob id=some o∧o.g=g)∧0≤ix∧ix<n∧K (.ptr id g es (off+ix.toNat) 0) σ
 | .list es' l,.int _ ix=>es'=es∧0≤ix∧ix<l.length∧K (.eD es l ix.toNat 0) σ
 | .yl id g es' i off ee n,.int _ ix=>ee=es∧0≤ix∧ix<n∧K (.ptr id g es' i (off+ix.toNat * ee)) σ
 | .fA id g es' off n _,.int _ ix=>es'=es∧0≤ix∧ix<n∧K (.ptr id g es (off+ix.toNat) 0) σ
 | _,_=>False
def ub (x:AV) (i:Nat) (σ:St) (K:AV→St→Prop):Prop:=match x with
 | .tuple vs=>∃ v,vs[i]?=some v∧K v σ
 | _=>False
def gW (x:AV) (σ:St) (K:AV→St→Prop):Prop:=match x with
 | .nil=>K (.int .i64 0) σ
 | .list _ l=>K (.int .i64 l.length) σ
 | .sl _ _ _ _ n=>K (.int .i64 n) σ
 | .fA _ _ _ _ n _=>K (.int .i64 n) σ
 | .yl _ _ _ _ _ _ n=>K (.int .i64 n) σ
 | _=>False
def ze (x:AV) (σ:St) (K:AV→St→Prop):Prop:=match x with
 | .str s=>K (.int .i64 s.size) σ
 | _=>False
def mn (es bytes:Nat) (ty:TypeId) (x y:AV) (σ:St) (K:AV→St→Prop):Prop:=
 (∀ es' l,y=.list es' l→es'=es)∧(∀ id g es' off n,(y=.sl id g es' off n∨∃ c,y=.fA id g es' off n c)→es'=es)∧bW σ y fun l=>
   (match x with
   | .nil=>l.length≤maxLen∧l.length * bytes≤140737488355328∧(l=[]→K .nil σ)∧(l≠[]→K (.sl σ.n σ.c es 0 l.length) (σ.push es ty l))
   | .sl id g es' off n=>es'=es∧off=0∧∃ o,σ.ob id=some o∧o.g=g∧o.es=es∧o.ty=ty∧o.ro=false∧o.ap=true∧o.l.length=n∧
     n+l.length≤maxLen∧(n+l.length) * bytes≤140737488355328∧K (.sl id σ.c es 0 (n+l.length)) (σ.renew id o (o.l++l))
   | .fA id g es' off n c=>es'=es∧(l=[]→K (.fA id g es off n c) σ)∧(l≠[]→∃ o,σ.ob id=some o∧o.g=g∧o.es=es∧o.ro=false∧off+(n+l.length)≤o.l.length∧off+(n+l.length)≤c∧
     K (.fA id g es off (n+l.length) c) (σ.put id o (o.l.take (off+n)++l++o.l.drop (off+n+l.length))))
   | .fl es' l0=>es'=es∧(∀ z∈l0++l,z.cA=true)∧l0.length+l.length≤maxLen∧(l0.length+l.length) * bytes≤140737488355328∧K (.list es (l0++l)) σ
   | _=>False)
def DV (es:Nat) (x h m:AV) (σ:St) (K:AV→St→Prop):Prop:=match x,h,m with
 | .list es' ls,.int _ b,.int _ c=>es'=es∧0≤b∧b=c∧c≤ls.length∧K (.fl es (ls.take b.toNat)) σ
 | _,_,_=>False
def NX (x:AV) (σ:St) (K:AV→St→Prop):Prop:=match x with
 | .sl id g es off n=>∃ o,σ.ob id=some o∧o.g=g∧o.es=es∧off+n≤o.l.length∧(∀ z∈(o.l.drop off).take n,z.cA=true)∧K (.list es ((o.l.drop off).take n)) ⟨aZ σ.ob id none,σ.n,σ.c⟩
 | v=>K v σ
def keyOf:AV→Int
 | .agg (.int _ a :: _)=>a
 | _=>0
def valOf:AV→AV
 | .agg [_,x]=>x
 | _=>.bC
def wJ (kk:IntKind):AV→Bool
 | .agg [.int k' _,_]=>decide (k'=kk)
 | _=>false
def cL (kk:IntKind) (l:List AV):Bool:=l.all (wJ kk)
def mc (n:Int):List AV→Option AV
 | []=>none
 | y :: r=>if n=keyOf y then some (valOf y) else mc n r
def dZ (kk:IntKind) (n:Int) (x:AV):List AV→List AV
 | []=>[.agg [.int kk n,x]]
 | y :: r=>if n=keyOf y then .agg [.int kk n,x] :: r else if n<keyOf y then .agg [.int kk n,x] :: y :: r else y :: dZ kk n x r
def qw (x k v:AV) (σ:St) (K:AV→St→Prop):Prop:=match x,k with
 | .iW id g,.int kk n=>v.one=true∧∃ o,σ.ob id=some o∧o.g=g∧o.ro=false∧cL kk o.l=true∧K .bC (σ.put id o (dZ kk n v o.l))
 | _,_=>False
def tO (ok:Bool) (z:AV) (r:Option AV):AV:=if ok then .tuple [r.getD z,.bool r.isSome] else r.getD z
def tP (ok:Bool) (z x k:AV) (σ:St) (K:AV→St→Prop):Prop:=match x,k with
 | .iW id g,.int kk n=>∃ o,σ.ob id=some o∧o.g=g∧cL kk o.l=true∧K (tO ok z (mc n o.l)) σ
 | .kl,.int _ _=>K (tO ok z none) σ
 | _,_=>False
def yj (es n:Nat) (x:AV) (lo hi:Option AV) (σ:St) (K:AV→St→Prop):Prop:=match x with
 | .ptr id g es' i off=>oa n lo hi fun l h=>(l=n→K (.list es []) σ)∧(l<n→K (.yl id g es' i (off+l * es) es (h-l)) σ)
 | _=>False
def jb (op:BinOp) (x y:AV) (σ:St) (K:AV→St→Prop):Prop:=qn op x y fun v=>K v σ
def CT (mx:Bool) (x:AV) (xs:List AV) (σ:St) (K:AV→St→Prop):Prop:=eO mx x xs fun v=>K v σ
def iP (es:Nat) (x:AV) (lo hi:Option AV) (σ:St) (K:AV→St→Prop):Prop:=ez es σ x lo hi fun v=>K v σ
def sY (x:AV) (lo hi:Option AV) (σ:St) (K:AV→St→Prop):Prop:=sX x lo hi fun v=>K v σ
def mj (H:ew) (x:AV) (args:List AV) (σ:St) (K:AV→St→Prop):Prop:=match x with
 | .func f caps=>H f (args++caps) σ K
 | .pL f fs=>H f (fs++args) σ K
 | _=>False
def pU (e:Nat→AV) (l:List AX):List AV:=l.map fun x=>x.ev e
def C4 (e:Nat→AV) (x:Option AX):Option AV:=x.map fun y=>y.ev e
def JT (e:Nat→AV) (ps:List (Nat × Nat × AX)):List (Nat × Nat × AV):=ps.map fun p=>(p.1,p.2.1,p.2.2.ev e)
def ak (H:ew) (op:aO) (e:Nat→AV) (σ:St) (K:AV→St→Prop):Prop:=match op with
 | .mv x=>K (x.ev e) σ
 | .pick c a b=>pn (c.ev e) (a.ev e) (b.ev e) σ K
 | .alloc es ty z=>K (.ptr σ.n σ.c es 0 0) (σ.push es ty [z])
 | .box es ty x=>Oj es ty (x.ev e) σ K
 | .build zs ps=>zT zs (JT e ps) σ K
 | .lit mu es ty xs=>FF mu es ty (pU e xs) σ K
 | .load ag sz x=>tQ ag sz (x.ev e) σ K
 | .store sz x v=>sd sz (x.ev e) (v.ev e) σ K
 | .aY x=>iu (x.ev e) σ K
 | .bin op x y=>jb op (x.ev e) (y.ev e) σ K
 | .HG neg x y=>Ev neg (x.ev e) (y.ev e) σ K
 | .un op x=>L9 op (x.ev e) σ K
 | .conv k x=>zM k (x.ev e) σ K
 | .Hd f caps=>K (.func f (pU e caps)) σ
 | .fa off x=>Ld off (x.ev e) σ K
 | .bM es x i=>vI es (x.ev e) (i.ev e) σ K
 | .ext x i=>ub (x.ev e) i σ K
 | .len x=>gW (x.ev e) σ K
 | .lens x=>ze (x.ev e) σ K
 | .app es bytes ty x y=>mn es bytes ty (x.ev e) (y.ev e) σ K
 | .Eg mx x xs=>CT mx (x.ev e) (pU e xs) σ K
 | .qH es x lo hi=>iP es (x.ev e) (C4 e lo) (C4 e hi) σ K
 | .uS x lo hi=>sY (x.ev e) (C4 e lo) (C4 e hi) σ K
 | .call f args=>H f (pU e args) σ K
 | .dw x args=>mj H (x.ev e) (pU e args) σ K
 | .fj es ty=>K (.sl σ.n σ.c es 0 0) (σ.push es ty [])
 | .eqs neg ks x y=>AT neg ks (x.ev e) (y.ev e) σ K
 | .pu p xs=>Ml p (pU e xs) σ K
 | .kx neg x=>zk neg (x.ev e) σ K
 | .KZ mu es bytes ty z x=>Hc mu es bytes ty z (x.ev e) σ K
 | .Kx es x h=>Nr es (x.ev e) (h.ev e) σ K
 | .Fc es x y=>Dd es (x.ev e) (y.ev e) σ K
 | .JV es z x=>Hr es z (x.ev e) σ K
 | .Hv x=>xQ (x.ev e) σ K
 | .KJ mu ty x=>NJ mu ty (x.ev e) σ K
 | .Of x=>∃ s,x.ev e=.str s∧K (.str s) σ
 | .Ak es b ty z x y=>E4 es b ty z (x.ev e) (y.ev e) σ K
 | .Fk es x l h m=>yk es (x.ev e) (l.ev e) (h.ev e) (m.ev e) σ K
 | .DC es b ty y=>Ms es b ty (y.ev e) σ K
 | .Cl es n x lo hi=>yj es n (x.ev e) (C4 e lo) (C4 e hi) σ K
 | .mL=>K (.iW σ.n σ.c) ⟨aZ σ.ob σ.n (some ⟨σ.c,2,ru,false,false,[]⟩),σ.n+1,σ.c+1⟩
 | .cZ x k v=>qw (x.ev e) (k.ev e) (v.ev e) σ K
 | .eY ok z x k=>tP ok z (x.ev e) (k.ev e) σ K
 | .Fj es x h m=>DV es (x.ev e) (h.ev e) (m.ev e) σ K
 | .Mm x=>NX (x.ev e) σ K
 | .K0 f fs=>(∀ z∈pU e fs,z.cA=true)∧K (.pL f (pU e fs)) σ
def bK (e:Nat→AV) (d:Option Nat) (v:AV):Nat→AV:=match d with
 | some i=>aZ e i v
 | none=>e
def Gb (k:(Nat→AV)→St→Prop) (e:Nat→AV) (d:Option Nat) (v:AV) (σ:St):Prop:=k (bK e d v) σ
def Ga (H:ew) (op:aO) (d:Option Nat) (k:(Nat→AV)→St→Prop) (e:Nat→AV) (σ:St):Prop:=ak H op e σ (Gb k e d)
def sP (d:Option Nat) (k:(Nat→AV)→St→Prop) (e:Nat→AV) (σ:St):Prop:=k (bK e d (.tuple [])) σ
def sD (_s:Nat) (w:Bool) (A B:(Nat→AV)→St→Prop) (g:AV) (e:Nat→AV) (σ:St):Prop:=match g with
 | .tuple []=>B e σ
 | .bool b=>(b=w→A e σ)∧(b=!w→B e σ)
 | _=>False
def runs (H:ew):List aR→((Nat→AV)→St→Prop)→(Nat→AV)→St→Prop
 | [],K,e,σ=>K e σ
 | o :: r,K,e,σ=>match o.gd with
  | none=>ak H o.op e σ (Gb (runs H r K) e o.d)
  | some (s,w)=>sD s w (Ga H o.op o.d (runs H r K)) (sP o.d (runs H r K)) (e s) e σ
def tag (p:Nat) (ids:List Nat):List (Nat × Nat):=ids.map fun i=>(p,i)
def bz (af:List Nat) (xs:List (Nat × Nat)) (ids:List Nat):Prop:=∀ x∈xs,af.contains x.1=true∨∀ i∈ids,x.2≠i
def aO.bX (e:Nat→AV):aO→Option (Nat × List AV)
 | .call f l=>some (f,pU e l)
 | .dw x l=>match x.ev e with
  | .func f caps=>some (f,pU e l++caps)
  | .pL f fs=>some (f,fs++pU e l)
  | _=>none
 | _=>none
def Mu (H:ew) (f:Nat) (args:List AV) (ob:Nat→Option aS) (r:AV) (rd:List Nat) (wr:Option (Nat × aS)):Prop:=
 r.cA=true∧match wr with
 | none=>∀ ob' n c,(∀ i∈rd,ob' i=ob i)→H f args ⟨ob',n,c⟩ fun v τ=>v=r∧τ=⟨ob',n,c⟩
 | some (id,o')=>(∃ o,ob id=some o∧o.g=o'.g∧o.ro=o'.ro)∧(∀ x∈o'.l,x.cA=true)∧id∈rd∧∀ ob' n c,(∀ i∈rd,ob' i=ob i)→H f args ⟨ob',n,c⟩ fun v τ=>v=r∧τ=⟨aZ ob' id (some o'),n,c⟩
def eB (ob:Nat→Option aS):Option (Nat × aS)→Nat→Option aS
 | none=>ob
 | some (i,o)=>aZ ob i (some o)
def dL:Option (Nat × aS)→List Nat
 | none=>[]
 | some (i,_)=>[i]
def QN (H:ew) (f:Nat) (args:List AV) (af:List Nat) (rs ws:List (Nat × Nat)) (p n c:Nat) (kk:List (Nat × Nat)→List (Nat × Nat)→AV→St→Prop) (ob:Nat→Option aS):Prop:=
 ∃ r rd wr,Mu H f args ob r rd wr∧bz af ws (rd++dL wr)∧bz af rs (dL wr)∧kk (rs++tag p rd) (ws++tag p (dL wr)) r ⟨eB ob wr,n,c⟩
def pW (H:ew) (op:aO) (af:List Nat) (rs ws:List (Nat × Nat)) (p n c:Nat) (kk:List (Nat × Nat)→List (Nat × Nat)→AV→St→Prop) (e:Nat→AV) (ob:Nat→Option aS):Prop:=
 op.nd=false∧bz af ws (op.dJ e++op.lu e n)∧bz af rs (op.lu e n)∧ak H op e ⟨ob,n,c⟩ (kk (rs++tag p (op.dJ e)) (ws++tag p (op.lu e n)))
abbrev xu:Nat:=1000000007
def cn (af:List Nat) (xs:List (Nat × Nat)) (id:Nat):Prop:=∀ x∈xs,af.contains x.1=true∨x.2≠id∨xu≤x.1
def dmap (x k v:AV) (af:List Nat) (rs ws:List (Nat × Nat)) (p n c:Nat) (kk:List (Nat × Nat)→List (Nat × Nat)→AV→St→Prop) (ob:Nat→Option aS):Prop:=match x,k with
 | .iW id g,.int kq q=>v.one=true∧cn af ws id∧cn af rs id∧∃ o,ob id=some o∧o.g=g∧o.ro=false∧cL kq o.l=true∧mc q o.l=none∧
   kk rs (ws++[(xu+p,id)]) .bC ⟨aZ ob id (some { o with l:=dZ kq q v o.l }),n,c⟩
 | _,_=>False
def aO.oR:aO→Option (AX × AX × AX)
 | .cZ x k v=>some (x,k,v)
 | _=>none
def sR (H:ew) (op:aO) (af:List Nat) (rs ws:List (Nat × Nat)) (p n c:Nat) (kk:List (Nat × Nat)→List (Nat × Nat)→AV→St→Prop) (e:Nat→AV) (ob:Nat→Option aS):Prop:=
 match op.oR with
 | some (x,k,v)=>dmap (x.ev e) (k.ev e) (v.ev e) af rs ws p n c kk ob
 | none=>match op.bX e with
  | some (f,args)=>QN H f args af rs ws p n c kk ob
  | none=>pW H op af rs ws p n c kk e ob
def Ce (k:List (Nat × Nat)→List (Nat × Nat)→(Nat→AV)→St→Prop) (e:Nat→AV) (d:Option Nat) (rs ws:List (Nat × Nat)) (v:AV) (σ:St):Prop:=k rs ws (bK e d v) σ
def DH (H:ew) (op:aO) (d:Option Nat) (af:List Nat) (rs ws:List (Nat × Nat)) (p n c:Nat) (k:List (Nat × Nat)→List (Nat × Nat)→(Nat→AV)→St→Prop) (e:Nat→AV) (σ:St):Prop:=
 sR H op af rs ws p n c (Ce k e d) e σ.ob
def fV (H:ew) (n0 c0 k0:Nat):List aR→Nat→((Nat→AV)→St→Prop)→List (Nat × Nat)→List (Nat × Nat)→(Nat→AV)→St→Prop
 | [],_,K,_,_,e,σ=>K e ⟨σ.ob,n0+k0,c0+k0⟩
 | o :: r,p,K,rs,ws,e,σ=>match o.gd with
  | none=>sR H o.op o.af rs ws p (n0+p) (c0+p) (Ce (fV H n0 c0 k0 r (p+1) K) e o.d) e σ.ob
  | some (s,w)=>sD s w (DH H o.op o.d o.af rs ws p (n0+p) (c0+p) (fV H n0 c0 k0 r (p+1) K)) (sP o.d (fV H n0 c0 k0 r (p+1) K rs ws)) (e s) e σ
def NP (H:ew) (ops:List aR) (dr:Option Nat) (K:(Nat→AV)→St→Prop) (e:Nat→AV) (σ:St):Prop:=
 (dr=none→runs H ops K e σ)∧∀ k,dr=some k→fV H σ.n σ.c k ops 0 K [] [] e σ
def cE (p:Nat) (l:List Nat):List (Nat × Nat):=l.map fun i=>(p,i)
def dP (af:List Nat) (R:List (Nat × Nat)) (ob ob':Nat→Option aS):Prop:=∀ x∈R,x.1∈af∨ob' x.2=ob x.2
def Bs (k:List (Nat × Nat)→(Nat→AV)→St→Prop) (R:List (Nat × Nat)) (e:Nat→AV) (d:Option Nat) (σ:St) (v:AV) (_τ:St):Prop:=k R (bK e d v) σ
def JD (k:List (Nat × Nat)→(Nat→AV)→St→Prop) (af:List Nat) (R:List (Nat × Nat)) (e:Nat→AV) (d:Option Nat) (ob:Nat→Option aS) (v:AV) (τ:St):Prop:=dP af R ob τ.ob∧k R (bK e d v) τ
def bp (H:ew) (p:Nat) (op:aO) (d:Option Nat) (af:List Nat) (k:List (Nat × Nat)→(Nat→AV)→St→Prop) (R:List (Nat × Nat)) (e:Nat→AV) (σ:St):Prop:=
 if op.lt then ak H op e σ (Bs k (R++cE p (op.dJ e)) e d σ) else ak H op e σ (JD k af R e d σ.ob)
def JB (H:ew) (p:Nat) (op:aO) (d:Option Nat) (af:List Nat) (k:List (Nat × Nat)→(Nat→AV)→St→Prop) (R:List (Nat × Nat)) (e:Nat→AV) (σ:St):Prop:=bp H p op d af k R e σ
def JC (d:Option Nat) (k:List (Nat × Nat)→(Nat→AV)→St→Prop) (R:List (Nat × Nat)) (e:Nat→AV) (σ:St):Prop:=k R (bK e d (.tuple [])) σ
def ep (H:ew) (s:HS) (R:List (Nat × Nat)) (k:List (Nat × Nat)→(Nat→AV)→St→Prop) (e:Nat→AV) (σ:St):Prop:=
 match s.o.gd with
 | none=>bp H s.p s.o.op s.o.d s.o.af k R e σ
 | some (g,w)=>sD g w (JB H s.p s.o.op s.o.d s.o.af k R) (JC s.o.d k R) (e g) e σ
def dG (H:ew):List HS→((Nat→AV)→St→Prop)→List (Nat × Nat)→(Nat→AV)→St→Prop
 | [],K,_,e,σ=>K e σ
 | s :: L,K,R,e,σ=>ep H s R (dG H L K) e σ
def iM:=EX→(Nat→AV)→St→Prop
def Bo (k:(Nat→AV)→St→Prop) (Q:iM):iM:=fun x e σ=>match x with
 | .iF=>k e σ
 | x=>Q x e σ
def je (id:Nat) (Q:iM):iM:=fun x e σ=>match x with
 | .exit i=>if i=id then Q .iF e σ else Q (.exit i) e σ
 | x=>Q x e σ
def rZ (n k:Nat) (I:Nat→(Nat→AV)→St→Prop) (Q:iM):iM:=fun x e σ=>match x with
 | .iF=>∃ k',k' < k∧∃ nt,n≤nt∧I k' e (σ.aD nt)
 | x=>Q x e σ
def pX (c:AV) (a b:(Nat→AV)→St→Prop) (e:Nat→AV) (σ:St):Prop:=match c with
 | .bool t=>(t=true→a e σ)∧(t=false→b e σ)
 | _=>False
def Oz (σ:St) (caps xs:List AV):Prop:=caps.length=xs.length∧∀ (i:Nat) (c x:AV),caps[i]?=some c→xs[i]?=some x→
 (∃ v,DY x=some v)∧∃ id g o,c=.ptr id g 1 0 0∧σ.ob id=some o∧o.g=g∧o.es=1∧o.l=[x]
def nw (σ σ1:St):Prop:=∀ k o,σ1.ob k=some o→o.ty=ru→∃ k' o',σ.ob k'=some o'∧o'.g=o.g
def Oo (n:Nat) (I:List Int→St→Prop) (Ix:EX→List Int→St→Prop) (pre:List Int):iM:=fun x _ σ=>match x with
 | .iF=>∃ nt,n≤nt∧I pre (σ.aD nt)
 | x=>∃ nt,n≤nt∧Ix x pre (σ.aD nt)
def Cq (It:Nat→List AV→List Int→Prop) (g:AV) (B:iM→(Nat→AV)→St→Prop) (t d:Nat) (Q:iM) (e:Nat→AV) (σ:St):Prop:=match g with
 | .func f caps=>∃ xs vs,It f xs vs∧∃ (I:List Int→St→Prop) (Ix:EX→List Int→St→Prop),I [] σ∧(∀ pre σ1,I pre σ1→Oz σ1 caps xs∧nw σ σ1)∧(∀ x pre σ1,x≠.iF→Ix x pre σ1→nw σ σ1)∧
   (∀ pre i σ1,i∈vs→pre.length<vs.length→I pre σ1→B (Oo σ.n I Ix (pre++[i])) (aZ (aZ e t (.int .i64 i)) d (.int .i64 i)) σ1)∧
   (∀ σ1,I vs σ1→Q .iF e σ1)∧∀ x pre σ1,x≠.iF→pre <+: vs→Ix x pre σ1→Q x e σ1
 | _=>False
def Np (e:Nat→AV):List Nat→List AV→Nat→AV
 | t :: ts,v :: vs=>Np (aZ e t v) ts vs
 | _,_=>e
def yf (n:Nat) (Ip:List Nat→Prop) (Is:St→Prop) (Ix:EX→List Nat→St→Prop) (pre:List Nat):iM:=fun x _ σ=>match x with
 | .iF=>Ip pre∧∃ nt,n≤nt∧Is (σ.aD nt)
 | x=>∃ nt,n≤nt∧Ix x pre (σ.aD nt)
def GU (σ0:St) (Ip:List Nat→Prop) (Is:St→Prop) (N:Nat) (B:List Nat→(Nat→AV)→St→Prop) (e:Nat→AV) (σ:St):Prop:=
 (∃ nt,σ0.n≤nt∧Is (σ.aD nt))∧nw σ0 σ∧∀ pre,Ip pre→pre.length<N→B pre e σ
def xV (It:Nat→List AV→List (List AV)→Prop) (g:AV) (A:((Nat→AV)→St→Prop)→(Nat→AV)→St→Prop) (B:iM→(Nat→AV)→St→Prop) (ts:List Nat) (Q:iM) (e:Nat→AV) (σ:St):Prop:=match g with
 | .func f caps=>(AV.func f caps).cA=true∧∃ vs,It f caps vs∧(∀ v∈vs,v.length=ts.length)∧∃ (Ip:List Nat→Prop) (Is:St→Prop) (Ix:EX→List Nat→St→Prop),Ip []∧Is σ∧(∀ σ1,Is σ1→nw σ σ1)∧(∀ x pre σ1,x≠.iF→Ix x pre σ1→nw σ σ1)∧
   (∀ i v σ1,vs[i]?=some v→Is σ1→A (GU σ Ip Is vs.length fun pre=>B (yf σ.n Ip Is Ix (pre++[i]))) (Np e ts v) σ1)∧
   (Ip (List.range vs.length)→∀ σ1,Is σ1→Q .iF e σ1)∧∀ x pre σ1,x≠.iF→pre <+: List.range vs.length→Ix x pre σ1→Q x e σ1
 | _=>False
def jc (H:ew):ay→iM→(Nat→AV)→St→Prop
 | .skip,Q,e,σ=>Q .iF e σ
 | .region ops dr,Q,e,σ=>NP H ops dr (Q .iF) e σ
 | .seq a b,Q,e,σ=>jc H a (Bo (jc H b Q) Q) e σ
 | .cond c a b,Q,e,σ=>pX (c.ev e) (jc H a Q) (jc H b Q) e σ
 | .block id a,Q,e,σ=>jc H a (je id Q) e σ
 | .loop a,Q,e,σ=>∃ (I:Nat→(Nat→AV)→St→Prop),(∃ k,I k e σ)∧∀ k e1 σ1,I k e1 σ1→jc H a (rZ σ.n k I Q) e1 σ1
 | .exit id,Q,e,σ=>Q (.exit id) e σ
 | .ret,Q,e,σ=>Q .ret e σ
 | .aC l,Q,e,σ=>dG H l (Q .iF) [] e σ
 | .Cu It x t d a,Q,e,σ=>Cq It (x.ev e) (jc H a) t d Q e σ
 | .Ct It x ts l a,Q,e,σ=>xV It (x.ev e) (runs H l) (jc H a) ts Q e σ
def O9:Value→Option AV
 | .bool b=>some (.bool b)
 | .int k n=>some (.int k n)
 | .string s=>some (.str s)
 | .slice none 0 0=>some .nil
 | .pointer none=>some .iV
 | .nilFunc=>some .fJ
 | .map none=>some .kl
 | _=>none
def Lo:List Value→Option (List AV)
 | []=>some []
 | v :: r=>match O9 v,Lo r with
  | some a,some as=>some (a :: as)
  | _,_=>none
def av:Value→Option AV
 | .agg cs=>(Lo cs.toList).map .agg
 | v=>O9 v
def ax:Operand→Option AX
 | .tmp t=>some (.t t)
 | .const v=>(av v).map .c
 | .func f=>some (.c (.func f []))
 | .global _=>none
def Bm:List Operand→Option (List AX)
 | []=>some []
 | x :: r=>match ax x,Bm r with
  | some a,some as=>some (a :: as)
  | _,_=>none
def B5:Option Operand→Option (Option AX)
 | none=>some none
 | some x=>(ax x).map some
def zF (P:Program) (F:TypeId→Option (List Nat)):Nat→List Field→Option (List Nat)
 | _,[]=>some []
 | i, f :: fs => if f.offset == i && !(f.name == "_") then match F f.type with
  | some k=>if (P.info? f.type).map (·.size) == some k.length then (zF P F (i+k.length) fs).map (k++·) else none
  | none=>none
  else none
def mS (P:Program):Nat→TypeId→Option (List Nat)
 | 0,_=>none
 | d+1,t=>match P.underlying t with
  | some (.int _)=>some [0]
  | some .bool=>some [1]
  | some .string=>some [2]
  | some (.struct fs)=>if P.stoodInHeld t then none else zF P (mS P d) 0 fs.toList
  | _=>none
def bJ:TypeDesc→Bool
 | .struct _ | .array _ _=>true
 | _=>false
def partsOf (P:Program) (fields:Array Field):List (Nat × Operand)→Option (List (Nat × Nat × AX))
 | []=>some []
 | (k,x) :: r=>match fields[k]?,ax x,partsOf P fields r with
  | some f,some a,some as=>match P.info? f.type with
   | some i=>some ((f.offset,i.size,a) :: as)
   | none=>none
  | _,_,_=>none
def u6 (n sz:Nat):List (Nat × Operand)→Option (List (Nat × Nat × AX))
 | []=>some []
 | (k,x) :: r=>match ax x,u6 n sz r with
  | some a,some as=>if k<n then some ((k * sz,sz,a) :: as) else none
  | _,_=>none
def okF (P:Program) (f:Nat):Bool:=match P.funcs[f]? with
 | some fn => fn.body.isSome && !(fn.name == "runtime.NumGoroutine")
 | none=>false
def O7 (P:Program) (f:Nat):Bool:=match P.funcs[f]? with
 | some fn => !(fn.name == "runtime.NumGoroutine")
 | none=>false
theorem sm {P:Program} {f:Nat} (h:okF P f=true):O7 P f=true:=by
 unfold okF at h
 unfold O7
 split at h
 ·rename_i fn hf
  simp only [Bool.and_eq_true] at h
  simpa [hf] using h.2
 ·cases h
def GK (P:Program) (ty:TypeId) (x:Operand):Option aO:=match x with
 | .const (.slice none 0 0)=>match P.underlying ty with
  | some (.slice e)=>match P.info? e with
   | some i=>if 0<i.size then some (.fj i.size e) else none
   | none=>none
  | _=>none
 | _=>none
def FW (P:Program) (mu:Bool) (ty:TypeId) (x:Operand):Option aO:=match mu,GK P ty x with
 | true,some op=>some op
 | _,_=>(ax x).map .mv
def Hg (P:Program) (e:TypeId):Bool:=match P.underlying e with
 | some (.int .u8)=>match P.info? e with
  | some i=>i.size == 1&&i.bytes == 1
  | none=>false
 | _=>false
def isIface:TypeDesc→Bool
 | .interface _=>true
 | _=>false
def H2:AX→AX→Bool
 | .t a,.t b=>a == b
 | .c (.int _ a),.c (.int _ b)=>a == b
 | _,_=>false
def CY:AX→Bool
 | .c .nil=>true
 | _=>false
def IA (P:Program) (t:TypeId):Option AV:=match P.underlying t with
 | some (.map k e)=>match P.underlying k,P.info? e with
  | some (.int _),some i=>match i.zero.bind av with
   | some z=>if z.one&&z.cA then some z else none
   | none=>none
  | _,_=>none
 | _=>none
def FL:Option Operand→Bool
 | none=>true
 | some (.const (.int _ _))=>true
 | _=>false
def cR (P:Program) (mu:Bool) (ty:TypeId):Op→Option aO
 | .move x | .assign x=>FW P mu ty x
 | .pick c a b=>match ax c,ax a,ax b with
  | some c,some a,some b=>some (.pick c a b)
  | _,_,_=>none
 | .alloc t=>match P.info? t with
  | some i=>match i.zero.bind av with
   | some z=>if z.flat&&z.cells.length == i.size&&0<i.size then some (.alloc i.size t z) else none
   | none=>none
  | none=>none
 | .box t x=>match P.info? t,ax x with
  | some i,some a=>if 0<i.size then some (.box i.size t a) else none
  | _,_=>none
 | .build t parts=>match P.underlying t,(P.info? t).bind fun i=>i.zero.bind av with
  | some (.struct fields),some (.agg zs)=>if fields.all fun f=>(P.info? f.type).isSome then (partsOf P fields parts.toList).map (.build zs) else none
  | some (.array n el),some (.agg zs)=>match P.info? el with
   | some ei=>(u6 n ei.size parts.toList).map (.build zs)
   | none=>none
  | _,_=>none
 | .buildSlice t len parts=>match P.underlying t with
  | some (.slice e)=>match P.info? e,Bm (parts.toList.map (·.2)) with
   | some i,some xs=>if parts.toList.map (·.1) == List.range len&&len * i.size≤16777216&&0<i.size&&(i.zero.any fun z=>z.cells.size == i.size) then some (.lit mu i.size e xs) else none
   | _,_=>none
  | _=>none
 | .load t x=>match P.underlying t,P.info? t,ax x with
  | some d,some i,some a=>if bJ d then some (.load true i.size a) else some (.load false 1 a)
  | _,_,_=>none
 | .store t x v=>match P.info? t,ax x,ax v with
  | some i,some a,some b=>if 0<i.size then some (.store i.size a b) else none
  | _,_,_=>none
 | .nilCheck x=>(ax x).map .aY
 | .binOp op t x y _=>match P.underlying t,ax x,ax y with
  | some (.int _),some a,some b=>(match op with
   | .and | .or | .shl | .shr=>some (.pu (.bit op) [a,b])
   | _=>some (.bin op a b))
  | some .string,some a,some b=>some (.bin op a b)
  | some .bool,some a,some b=>(match op with
   | .eql=>some (.HG false a b)
   | .neq=>some (.HG true a b)
   | _=>none)
  | some (.struct _),some a,some b=>if !P.eqGuardType P.depth t then (match op,mS P 5 t with
   | .eql,some ks=>some (.eqs false ks a b)
   | .neq,some ks=>some (.eqs true ks a b)
   | _,_=>none) else none
  | some (.slice _),some a,some b=>(match op,y with
   | .eql,.const (.slice none 0 0)=>some (.kx false a)
   | .neq,.const (.slice none 0 0)=>some (.kx true a)
   | _,_=>none)
  | _,_,_=>none
 | .unOp op _ x=>(ax x).map (.un op)
 | .convert s t x=>match P.underlying s,P.underlying t,ax x with
  | some (.int _),some (.int k),some a=>some (.conv k a)
  | some .string,some .string,some a=>some (.Of a)
  | some .string,some (.slice e),some a=>if Hg P e then some (.KJ mu e a) else none
  | some (.slice e),some .string,some a=>if Hg P e then some (.Hv a) else none
  | _,_,_=>none
 | .makeInterface t x=>match P.underlying t,ax x with
  | some d,some a=>if isIface d then none else some (.pu .SC [a])
  | _,_=>none
 | .field t x i=>match P.underlying t,ax x with
  | some (.struct fields),some a=>match fields[i]? with
   | some f=>match P.underlying f.type,P.info? f.type with
    | some d,some fi=>some (.pu (.vM (bJ d) (if bJ d then fi.size else 1) f.offset) [a])
    | _,_=>none
   | none=>none
  | _,_=>none
 | .index t x i=>match P.underlying t,ax x,ax i with
  | some (.array n el),some a,some b=>match P.underlying el,P.info? el with
   | some d,some ei=>if 0<ei.size then some (.pu (.Hy (bJ d) ei.size n) [a,b]) else none
   | _,_=>none
  | some .string,some a,some b=>some (.pu .DW [a,b])
  | _,_,_=>none
 | .makeSlice t l c=>match P.underlying t,ax l,ax c with
  | some (.slice el),some a,some b=>match P.info? el with
   | some i=>match i.zero.bind av with
    | some z=>if z.flat&&z.cells.length == i.size&&0<i.size&&H2 a b then some (.KZ mu i.size i.bytes el z a) else none
    | none=>none
   | none=>none
  | _,_,_=>none
 | .panic _=>some (.pu .never [])
 | .makeMap t r=>if (IA P t).isSome&&FL r then some .mL else none
 | .mapUpdate t m k x | .insert t m k x=>match IA P t,ax m,ax k,ax x with
  | some _,some a,some b,some c=>some (.cZ a b c)
  | _,_,_,_=>none
 | .lookup t x k ok=>match IA P t,ax x,ax k with
  | some z,some a,some b=>some (.eY ok z a b)
  | _,_,_=>none
 | .makeFunc (.func f) first caps=>if first.isEmpty then (Bm caps.toList).map (.Hd f) else if caps.isEmpty then (Bm first.toList).map (.K0 f) else none
 | .fieldAddr t x f=>match P.underlying t,ax x with
  | some (.struct fields),some a=>match fields[f]? with
   | some fl=>match P.info? fl.type with
    | some i=>if 0<i.size then some (.fa fl.offset a) else none
    | none=>none
   | none=>none
  | _,_=>none
 | .indexAddr t x i=>match P.underlying t,ax x,ax i with
  | some (.slice e),some a,some b=>match P.info? e with
   | some ei=>some (.bM ei.size a b)
   | none=>none
  | some (.array n e),some a,some b=>match P.info? e with
   | some ei=>some (.pu (.Lv ei.size n) [a,b])
   | none=>none
  | _,_,_=>none
 | .extract x i=>(ax x).map fun a=>.ext a i
 | .slice t x lo hi none=>match P.underlying t,ax x,B5 lo,B5 hi with
  | some (.slice e),some a,some l,some h=>match P.info? e with
   | some ei=>(match mu,l,h with
    | true,none,some h=>if 0<ei.size then some (.Kx ei.size a h) else none
    | _,_,_=>some (.qH ei.size a l h))
   | none=>none
  | some .string,some a,some l,some h=>some (.uS a l h)
  | some (.pointer arr),some a,some l,some h=>match P.underlying arr with
   | some (.array n el)=>(match P.info? el with
    | some ei=>if 0<ei.size then some (.Cl ei.size n a l h) else none
    | none=>none)
   | _=>none
  | some (.array n el),some a,some l,some h=>(match P.info? el with
   | some ei=>if 0<ei.size then some (.Cl ei.size n a l h) else none
   | none=>none)
  | _,_,_,_=>none
 | .slice t x (some lo) (some hi) (some mx)=>match P.underlying t,ax x,ax lo,ax hi,ax mx with
  | some (.slice e),some a,some l,some h,some m=>match P.info? e with
   | some ei=>some (.Fk ei.size a l h m)
   | none=>none
  | _,_,_,_,_=>none
 | .slice t x none (some hi) (some mx)=>match P.underlying t,ax x,ax hi,ax mx with
  | some (.slice e),some a,some h,some m=>match P.info? e with
   | some ei=>some (.Fj ei.size a h m)
   | none=>none
  | _,_,_,_=>none
 | .call c=>match c.callee,Bm c.args.toList with
  | .builtin .len,some [x]=>(match c.argTypes.toList with
   | [t]=>(match P.underlying t with
    | some (.slice _)=>some (.len x)
    | some .string=>some (.lens x)
    | _=>none)
   | _=>none)
  | .builtin .append,some [x,y]=>(match c.argTypes.toList with
   | [s,t]=>if s == t then (match P.underlying s with
    | some (.slice e)=>(match P.info? e with
     | some i=>if 0<i.size&&(i.zero.any fun z=>z.cells.size == i.size) then some (if mu&&CY x then .DC i.size i.bytes e y else .app i.size i.bytes e x y) else none
     | none=>none)
    | _=>none) else (match P.underlying s,P.underlying t with
    | some (.slice e),some (.int _)=>(match P.info? e with
     | some i=>(match i.zero.bind av with
      | some z=>if z.flat&&z.cells.length == i.size&&0<i.size then some (.Ak i.size i.bytes e z x y) else none
      | none=>none)
     | none=>none)
    | _,_=>none)
   | _=>none)
  | .builtin .cap,some [x]=>(match c.argTypes.toList with
   | [t]=>(match P.underlying t with
    | some (.slice _)=>some (.pu .Dg [x])
    | _=>none)
   | _=>none)
  | .builtin .copy,some [x,y]=>(match c.argTypes.toList with
   | [s,t]=>(match P.underlying s,P.underlying t with
    | some (.slice e),some (.slice _)=>(match P.info? e with
     | some i=>if 0<i.size then some (.Fc i.size x y) else none
     | none=>none)
    | _,_=>none)
   | _=>none)
  | .builtin .clear,some [x]=>(match c.argTypes.toList with
   | [t]=>(match P.underlying t with
    | some (.slice e)=>(match P.info? e with
     | some i=>(match i.zero.bind av with
      | some z=>if z.flat&&z.cells.length == i.size&&0<i.size then some (.JV i.size z x) else none
      | none=>none)
     | none=>none)
    | _=>none)
   | _=>none)
  | .builtin .panic,_=>some (.pu .never [])
  | .builtin .min,some (x :: xs)=>some (.Eg false x xs)
  | .builtin .max,some (x :: xs)=>some (.Eg true x xs)
  | .value (.func f),some as=>if O7 P f then some (.call f as) else none
  | .value (.tmp s),some as=>some (.dw (.t s) as)
  | _,_=>none
 | _=>none
def RK (sv:Bool):aO→aO
 | .mv x=>if sv then .Mm x else .mv x
 | op=>op
def sG (P:Program) (ms:Bool × Bool) (ty:TypeId) (o:Op):Option aO:=(cR P ms.1 ty o).map (RK ms.2)
def Mq (n:Nat):Option Nat→Bool
 | some d=>decide (d<n)
 | none=>true
def SB (mt:List Nat):Option Nat→Bool × Bool
 | some d=>(mt.contains d,mt.contains (2000000+d))
 | none=>(false,false)
def direct (o:Oper):List Nat:=(o.after.toList.filter fun e=>Region.binds .any e).map (·.on)
def closure (ops:List Oper):List (List Nat):=
 ops.foldl (fun cs o=>cs++[((direct o)++(direct o).flatMap fun u=>cs.getD u []).eraseDups]) []
def cP (P:Program) (mt:List Nat) (n:Nat) (ops:Array Oper) (af:List Nat) (o:Oper):Option aR:=
 match sG P (SB mt o.dst) o.type o.op with
 | none=>none
 | some op=>
  if Mq n o.dst then
   match o.guard with
   | none=>some ⟨o.dst,op,none,af⟩
   | some (j,w)=>match (ops[j]?).bind (·.dst) with
    | some s=>if s<n then some ⟨o.dst,op,some (s,w),af⟩ else none
    | none=>none
  else none
def br (P:Program) (mt:List Nat) (n:Nat) (ops:Array Oper):List (List Nat)→List Oper→Option (List aR)
 | _,[]=>some []
 | cs,o :: r=>match cP P mt n ops (cs.headD []) o,br P mt n ops cs.tail r with
  | some a,some as=>some (a :: as)
  | _,_=>none
def aR.lk (o:aR):List Nat:=match o.gd with
 | some (s,_)=>s :: o.op.looks
 | none=>o.op.looks
def Lj (d:Option Nat) (l:List Nat):Bool:=match d with
 | some i=>!l.contains i
 | none=>true
def TT:Option Nat→Option Nat→Bool
 | some i,some j=>!(i == j)
 | _,_=>true
def sN (x y:aR):Bool:=Lj x.d y.lk&&Lj y.d x.lk&&TT x.d y.d
def uM:Nat→List aR→Bool
 | _,[]=>true
 | i,o :: r=>r.all (fun q=>q.af.contains i||sN o q)&&uM (i+1) r
def pZ (l:List aR) (i:Nat) (o:Oper) (r:aR):Bool:=
 (direct o).all (fun u=>decide (u<i))&&r.af.all fun x=>(direct o).contains x||(direct o).any fun u=>match l[u]? with
  | some q=>q.af.contains x
  | none=>false
def jV (l:List aR):Nat→List Oper→List aR→Bool
 | i,o :: os,r :: rs=>pZ l i o r&&jV l (i+1) os rs
 | _,_,_=>true
def FO (ops:List Oper) (l:List aR) (k:Nat):Bool:=(k == l.length||l.all fun o=>!o.op.new)&&uM 0 l&&jV l 0 ops l&&decide (l.length≤xu)
def xw (s:HS):List HS→List HS
 | []=>[s]
 | a :: L=>if s.o.af.contains a.p||L.any (fun b=>s.o.af.contains b.p) then a :: xw s L else s :: a :: L
def hoist:List HS→List HS→List HS
 | acc,[]=>acc
 | acc,s :: L=>hoist (if s.o.op.lt then xw s acc else acc++[s]) L
def pH (l:List aR):List HS:=(l.zipIdx).map fun x=>⟨x.2,x.1⟩
def wK (s:HS):List HS→List HS
 | []=>[s]
 | a :: L=>if a.o.af.contains s.p then s :: a :: L else a :: wK s L
def jt:List HS→List HS
 | []=>[]
 | s :: L=>if s.o.op.al then wK s (jt L) else s :: jt L
def tX (l:List aR):List HS:=jt (hoist [] (pH l))
def IK (ops:List Oper) (a s:HS):Bool:=decide (a.p≠s.p)&&(match ops[a.p]? with | some o=>!(direct o).contains s.p | none=>true)&&(s.o.af.contains a.p||(a.o.op.lt&&sN a.o s.o)||s.o.op.al)
 && (!s.o.op.al||(s.o.gd.isNone&&s.o.d.isSome&&sN a.o s.o))
def xZ (ops:List Oper):List HS→Bool
 | []=>true
 | a :: L=>L.all (IK ops a)&&xZ ops L
def C0 (ops:List Oper) (l:List aR):Bool:=xZ ops (tX l)&&(tX l).all (fun s=>!s.o.op.al||(s.o.gd.isNone&&s.o.d.isSome))&&jV l 0 ops l
def Gk (l:List aR):Nat:=if l.any fun o=>o.op.new then l.length else 0
def GJ (P:Program) (mt:List Nat) (n:Nat) (ops:Array Oper) (draw:Bool):Option ay:=
 if draw then match br P mt n ops (closure ops.toList) ops.toList with
  | some l=>if mt.contains 1000000&&P.follows .mixedOrders&&C0 ops.toList l then some (.aC (tX l)) else
   if P.follows .mixedOrders&&FO ops.toList l (Gk l) then some (.region l (some (Gk l))) else none
  | none=>none
 else (br P mt n ops [] ops.toList).map fun l=>.region l none
def Lt:Code→Option (Nat × Nat)
 | .region _ ops false=>match ops.toList with
  | [o]=>match o.dst,o.op,o.guard with
   | some d,.assign (.tmp t),none=>some (t,d)
   | _,_,_=>none
  | _=>none
 | _=>none
def Jv:Code→Option (Array Oper)
 | .region _ ops false=>some ops
 | _=>none
def dq:Code→Bool
 | .seq a b=>dq a&&dq b
 | .cond _ a b=>dq a&&dq b
 | .block _ a=>dq a
 | .loop a=>dq a
 | .rangeFunc ..=>false
 | _=>true
def comp (P:Program) (mt:List Nat) (n:Nat):Code→Option ay
 | .skip=>some .skip
 | .region _ ops draw=>GJ P mt n ops draw
 | .seq a b=>match comp P mt n a,comp P mt n b with
  | some a,some b=>some (.seq a b)
  | _,_=>none
 | .cond c a b=>match ax c,comp P mt n a,comp P mt n b with
  | some c,some a,some b=>some (.cond c a b)
  | _,_,_=>none
 | .block id a=>(comp P mt n a).map (.block id)
 | .loop a=>(comp P mt n a).map .loop
 | .exit id=>some (.exit id)
 | .ret=>some .ret
 | .rangeFunc g ps assign body=>match ax g,ps.toList,Lt assign,comp P mt n body with
  | some x,[t],some (t',d),some b=>if t'=t∧t<n∧d<n∧dq body=true then some (.Cu (TW P) x t d b) else none
  | some x,t1 :: t2 :: ts,_,some b=>(match Jv assign with
   | some ops=>(match br P mt n ops [] ops.toList with
    | some l=>if (t1 :: t2 :: ts).all (fun t=>decide (t<n))=true∧dq body=true then some (.Ct (TV P) x (t1 :: t2 :: ts) l b) else none
    | none=>none)
   | none=>none)
  | _,_,_,_=>none
 | _=>none
end Go.Ab
