/- OWN WORK, put together by tools/asm.py, seat.py, mini.py. -/
import Derived.Test.YtcpckngdfjmbgaaGreatBaseB
import Derived.RangeFuncKeeps
namespace Go.Ab
open Go.RowKit
inductive AX where
 | t (s:Nat)
 | c (v:AV)
 deriving Inhabited
def AX.ev (e:Nat→AV):AX→AV
 | .t s=>e s
 | .c v=>v
inductive Jz where
 | bit (op:BinOp)
 | Fb
 | wQ (ag:Bool) (sz off:Nat)
 | Hr (ag:Bool) (es n:Nat)
 | Lv (es n:Nat)
 | Sx
 | Df
 | never
 deriving Inhabited
inductive aN where
 | mv (x:AX)
 | pick (c a b:AX)
 | alloc (es:Nat) (ty:TypeId) (z:AV)
 | box (es:Nat) (ty:TypeId) (x:AX)
 | build (zs:List AV) (ps:List (Nat × Nat × AX))
 | lit (mu:Bool) (es:Nat) (ty:TypeId) (xs:List AX)
 | load (ag:Bool) (sz:Nat) (x:AX)
 | store (sz:Nat) (x v:AX)
 | aY (x:AX)
 | bin (op:BinOp) (x y:AX)
 | Hx (neg:Bool) (x y:AX)
 | un (op:UnOp) (x:AX)
 | conv (k:IntKind) (x:AX)
 | G7 (f:Nat) (caps:List AX)
 | fa (off:Nat) (x:AX)
 | cg (es:Nat) (x i:AX)
 | ext (x:AX) (i:Nat)
 | len (x:AX)
 | lens (x:AX)
 | app (es bytes:Nat) (ty:TypeId) (x y:AX)
 | AQ (mx:Bool) (x:AX) (xs:List AX)
 | qI (es:Nat) (x:AX) (lo hi:Option AX)
 | te (x:AX) (lo hi:Option AX)
 | call (f:Nat) (args:List AX)
 | dz (x:AX) (args:List AX)
 | fp (es:Nat) (ty:TypeId)
 | eqs (neg:Bool) (ks:List Nat) (x y:AX)
 | pu (p:Jz) (xs:List AX)
 | kK (neg:Bool) (x:AX)
 | KY (mu:Bool) (es bytes:Nat) (ty:TypeId) (z:AV) (x:AX)
 | Kw (es:Nat) (x h:AX)
 | E5 (es:Nat) (x y:AX)
 | JV (es:Nat) (z:AV) (x:AX)
 | Hy (x:AX)
 | KI (mu:Bool) (ty:TypeId) (x:AX)
 | Of (x:AX)
 | Aj (es bytes:Nat) (ty:TypeId) (z:AV) (x y:AX)
 | Fa (es:Nat) (x lo hi mx:AX)
 | DA (es bytes:Nat) (ty:TypeId) (y:AX)
 | Cl (es n:Nat) (x:AX) (lo hi:Option AX)
 | mV
 | cZ (x k v:AX)
 | fj (ok:Bool) (z:AV) (x k:AX)
 | E9 (es:Nat) (x h m:AX)
 | Mm (x:AX)
 | KZ (f:Nat) (fs:List AX)
 deriving Inhabited
def aN.new:aN→Bool
 | .alloc .. | .box .. | .lit .. | .app .. | .fp .. | .KY .. | .Kw .. | .KI .. | .Aj .. | .DA .. | .mV=>true
 | _=>false
def aN.nd:aN→Bool
 | .kK .. | .Kw .. | .E5 .. | .JV .. | .KI .. | .Aj .. | .DA .. | .cZ .. | .fj .. | .Mm ..=>true
 | _=>false
def AX.lk:AX→List Nat
 | .t s=>[s]
 | .c _=>[]
def JS (l:List AX):List Nat:=l.flatMap AX.lk
def NZ:Option AX→List Nat
 | some x=>x.lk
 | none=>[]
def aN.looks:aN→List Nat
 | .mv x=>x.lk
 | .pick c a b=>c.lk++(a.lk++b.lk)
 | .alloc ..=>[]
 | .box _ _ x=>x.lk
 | .build _ ps=>JS (ps.map fun p=>p.2.2)
 | .lit _ _ _ xs=>JS xs
 | .load _ _ x=>x.lk
 | .store _ x v=>x.lk++v.lk
 | .aY x=>x.lk
 | .bin _ x y=>x.lk++y.lk
 | .Hx _ x y=>x.lk++y.lk
 | .un _ x=>x.lk
 | .conv _ x=>x.lk
 | .G7 _ l=>JS l
 | .fa _ x=>x.lk
 | .cg _ x i=>x.lk++i.lk
 | .ext x _=>x.lk
 | .len x=>x.lk
 | .lens x=>x.lk
 | .app _ _ _ x y=>x.lk++y.lk
 | .AQ _ x l=>x.lk++JS l
 | .qI _ x lo hi=>x.lk++(NZ lo++NZ hi)
 | .te x lo hi=>x.lk++(NZ lo++NZ hi)
 | .call _ l=>JS l
 | .dz x l=>x.lk++JS l
 | .fp ..=>[]
 | .eqs _ _ x y=>x.lk++y.lk
 | .pu _ l=>JS l
 | .kK _ x=>x.lk
 | .KY _ _ _ _ _ x=>x.lk
 | .Kw _ x h=>x.lk++h.lk
 | .E5 _ x y=>x.lk++y.lk
 | .JV _ _ x=>x.lk
 | .Hy x=>x.lk
 | .KI _ _ x=>x.lk
 | .Of x=>x.lk
 | .Aj _ _ _ _ x y=>x.lk++y.lk
 | .Fa _ x l h m=>x.lk++(l.lk++(h.lk++m.lk))
 | .DA _ _ _ y=>y.lk
 | .Cl _ _ x lo hi=>x.lk++(NZ lo++NZ hi)
 | .mV=>[]
 | .cZ x k v=>x.lk++(k.lk++v.lk)
 | .fj _ _ x k=>x.lk++k.lk
 | .E9 _ x h m=>x.lk++(h.lk++m.lk)
 | .Mm x=>x.lk
 | .KZ _ l=>JS l
def AV.kx:AV→List Nat
 | .sl id ..=>[id]
 | .fG id ..=>[id]
 | .yn id ..=>[id]
 | .ptr id ..=>[id]
 | _=>[]
def aN.dM (e:Nat→AV):aN→List Nat
 | .load _ _ x=>(x.ev e).kx
 | .store _ x _=>(x.ev e).kx
 | .cg _ x _=>(x.ev e).kx
 | .qI _ x _ _=>(x.ev e).kx
 | .app _ _ _ x y=>(x.ev e).kx++(y.ev e).kx
 | .Hy x=>(x.ev e).kx
 | _=>[]
def Lu (id:Nat):AV→List Nat
 | .nil=>[id]
 | v=>v.kx
def aN.lE (e:Nat→AV) (id:Nat):aN→List Nat
 | .store _ x _=>(x.ev e).kx
 | .app _ _ _ x _=>Lu id (x.ev e)
 | .alloc .. | .box .. | .lit .. | .fp .. | .mV=>[id]
 | .KY true ..=>[id]
 | _=>[]
structure aR where
 d:Option Nat
 op:aN
 gd:Option (Nat × Bool)
 af:List Nat
 deriving Inhabited
def aN.lt:aN→Bool
 | .store .. | .call .. | .dz ..=>false
 | .lit false ..=>true
 | op=>!op.new&&!op.nd
def aN.al:aN→Bool
 | .alloc ..=>true
 | _=>false
structure HS where
 p:Nat
 o:aR
 deriving Inhabited
def DW:AV→Option Value
 | .bool b=>some (.bool b)
 | .int k n=>some (.int k n)
 | .str s=>some (.string s)
 | _=>none
def uX (ps:List Addr) (xs:List AV) (w:World):Prop:=ps.length=xs.length∧∀ (i:Nat) (p:Addr) (x:AV),ps[i]?=some p→xs[i]?=some x→p.spot=none∧∃ v,DW x=some v∧w.cell? p=some v
def TM (P:Program) (f:Nat) (xs:List AV) (vs:List Int):Prop:=
 (∀ args w,(callFunc f args).run P w=.ok (.enter f args) w)∧∀ (k:Nat) (w:World) (ps:List Addr),uX ps xs w→
  SeqStopsK (α:={x:Int // x∈vs}) Fence.wide k P f (ps.map fun p=>Value.pointer (some p)).toArray (fun x=>#[.int .i64 x.1]) (fun A B=>uX ps xs A→uX ps xs B)
   (fun l=>l.map (·.1)=vs) (fun l=>l.map (·.1) <+: vs) vs.length w
def SJ (S:Nat→Prop) (w:World) (as:List AV) (vs:Array Value):Prop:=vs.size=as.length∧∀ (j:Nat) (y:AV) (v:Value),as[j]?=some y→vs[j]?=some v→VP S w y v
def TL (P:Program) (f:Nat) (caps:List AV) (vs:List (List AV)):Prop:=
 (∀ args w,(callFunc f args).run P w=.ok (.enter f args) w)∧∀ (k:Nat) (S:Nat→Prop) (w:World) (cs:Array Value),(∀ b,S b→b<w.heap.size)→SJ S w caps cs→
  ∃ us:Nat→Array Value,(∀ i v,vs[i]?=some v→SJ S w v (us i))∧
   SeqStopsK (α:={i:Nat // i<vs.length}) Fence.wide k P f cs (fun x=>us x.1) (fun A B=>∀ b,S b→B.heap[b]?=A.heap[b]?)
    (fun l=>l.map (·.1)=List.range vs.length) (fun l=>l.map (·.1) <+: List.range vs.length) vs.length w
inductive az where
 | skip
 | region (ops:List aR) (dr:Option Nat)
 | seq (a b:az)
 | cond (c:AX) (a b:az)
 | block (id:Nat) (a:az)
 | loop (a:az)
 | exit (id:Nat)
 | ret
 | aE (l:List HS)
 | Cv (It:Nat→List AV→List Int→Prop) (x:AX) (t d:Nat) (body:az)
 | Cu (It:Nat→List AV→List (List AV)→Prop) (x:AX) (ts:List Nat) (asg:List aR) (body:az)
 deriving Inhabited
inductive EX where
 | iK | ret | exit (id:Nat)
def sub (ag:Bool) (sz off:Nat) (y:AV):AV:=if ag then .agg ((y.cells.drop off).take sz) else y.cells.getD off .bA
def iG (off:Nat) (v y:AV):AV:=match y with
 | .agg cs=>.agg (cs.take off++v.cells++cs.drop (off+v.cells.length))
 | _=>v
def AV.ec:AV→Bool
 | .sl .. | .fG .. | .yn .. | .ptr .. | .ja .. | .bA | .agg _ | .tuple _ | .func ..=>false
 | _=>true
def AV.cG:AV→Bool
 | .agg cs=>cs.all AV.ec
 | .tuple cs=>cs.all fun | .agg ds=>ds.all AV.ec | a=>a.ec
 | .func _ cs=>cs.all AV.ec
 | a=>a.ec
def zF (cs:List AV):List (Nat × AV)→List AV
 | []=>cs
 | (off,v) :: r=>zF (cs.take off++v.cells++cs.drop (off+v.cells.length)) r
def bW (σ:St) (x:AV) (K:List AV→Prop):Prop:=match x with
 | .nil=>K []
 | .list _ l=>K l
 | .sl id g es off n=>∃ o,σ.ob id=some o∧o.g=g∧o.es=es∧off+n≤o.l.length∧K ((o.l.drop off).take n)
 | .fG id g es off n _=>∃ o,σ.ob id=some o∧o.g=g∧o.es=es∧off+n≤o.l.length∧K ((o.l.drop off).take n)
 | _=>False
def qo (op:BinOp) (x y:AV) (K:AV→Prop):Prop:=match x,y with
 | .int k a,.int k' b=>
  (match op with
  | .add=>k=k'∧K (.int k (k.wrap (a+b)))
  | .sub=>k=k'∧K (.int k (k.wrap (a-b)))
  | .mul=>k=k'∧K (.int k (k.wrap (a * b)))
  | .quo=>k=k'∧b≠0∧K (.int k (k.wrap (a.tdiv b)))
  | .rem=>k=k'∧b≠0∧K (.int k (a.tmod b))
  | .eql=>k=k'∧K (.bool (decide (a=b)))
  | .neq=>k=k'∧K (.bool (!decide (a=b)))
  | .lss=>k=k'∧K (.bool (decide (a<b)))
  | .leq=>k=k'∧K (.bool (decide (a≤b)))
  | .gtr=>k=k'∧K (.bool (decide (b<a)))
  | .geq=>k=k'∧K (.bool (decide (b≤a)))
  | _=>False)
 | .str a,.str b=>
  (match op with
  | .add=>a.size+b.size≤9223372036854775807∧K (.str (a++b))
  | .eql=>K (.bool (decide (a=b)))
  | .neq=>K (.bool (!decide (a=b)))
  | _=>False)
 | _,_=>False
def od (n:Nat) (lo hi:Option AV) (K:Nat→Nat→Prop):Prop:=match lo,hi with
 | none,none=>K 0 n
 | some (.int _ l),none=>0≤l∧l≤n∧K l.toNat n
 | none,some (.int _ h)=>0≤h∧h≤n∧K 0 h.toNat
 | some (.int _ l),some (.int _ h)=>0≤l∧l≤h∧h≤n∧K l.toNat h.toNat
 | _,_=>False
def wh (n c:Nat) (lo hi:Option AV) (K:Nat→Nat→Prop):Prop:=match lo,hi with
 | none,none=>K 0 n
 | some (.int _ l),none=>0≤l∧l≤n∧K l.toNat n
 | none,some (.int _ h)=>0≤h∧h≤c∧K 0 h.toNat
 | some (.int _ l),some (.int _ h)=>0≤l∧l≤h∧h≤c∧K l.toNat h.toNat
 | _,_=>False
def eD (es:Nat) (σ:St) (x:AV) (lo hi:Option AV) (K:AV→Prop):Prop:=match x with
 | .nil=>od 0 lo hi fun _ _=>K .nil
 | .list es' ls=>es'=es∧od ls.length lo hi fun l h=>K (.list es ((ls.take h).drop l))
 | .sl id g es' off n=>es'=es∧(∃ o,σ.ob id=some o∧o.g=g)∧od n lo hi fun l h=>(l=h→K (.list es []))∧(l<h→K (.sl id g es (off+l) (h-l)))
 | .fG id g es' off n c=>es'=es∧off+n≤c∧wh n (c-off) lo hi fun l h=>(l=c-off→K (.list es []))∧(l<c-off→K (.fG id g es (off+l) (h-l) c))
 | _=>False
def tc (x:AV) (lo hi:Option AV) (K:AV→Prop):Prop:=match x with
 | .str s=>od s.size lo hi fun l h=>K (.str (s.extract l h))
 | _=>False
def eQ (mx:Bool):AV→List AV→(AV→Prop)→Prop
 | a,[],K=>K a
 | .int k a,.int k' b :: r,K=>k=k'∧eQ mx (.int k (if mx then max a b else min a b)) r K
 | _,_,_=>False
abbrev eC:=Nat→List AV→St→(AV→St→Prop)→Prop
def pw (c a b:AV) (σ:St) (K:AV→St→Prop):Prop:=match c with
 | .bool t=>(t=true→K a σ)∧(t=false→K b σ)
 | _=>False
def Oi (es:Nat) (ty:TypeId) (v:AV) (σ:St) (K:AV→St→Prop):Prop:=v.flat=true∧v.cells.length=es∧K (.ptr σ.n σ.c es 0 0) (σ.push es ty [v])
def zT (zs:List AV) (ps:List (Nat × Nat × AV)) (σ:St) (K:AV→St→Prop):Prop:=
 (∀ p∈ps,p.2.2.flat=true∧p.2.2.cells.length=p.2.1∧p.1+p.2.1≤zs.length)∧K (.agg (zF zs (ps.map fun p=>(p.1,p.2.2)))) σ
def FA (mu:Bool) (es:Nat) (ty:TypeId) (vs:List AV) (σ:St) (K:AV→St→Prop):Prop:=
 (∀ v∈vs,v.flat=true∧v.cells.length=es∧(mu=false→v.cG=true))∧(if mu then K (.sl σ.n σ.c es 0 vs.length) (σ.push es ty vs) else K (.list es vs) σ)
def uc (ag:Bool) (sz:Nat) (x:AV) (σ:St) (K:AV→St→Prop):Prop:=match x with
 | .ptr id g es i off=>∃ o,σ.ob id=some o∧o.g=g∧o.es=es∧off+sz≤es∧∃ y,o.l[i]?=some y∧K (sub ag sz off y) σ
 | .eG es l i off=>off+sz≤es∧∃ y,l[i]?=some y∧K (sub ag sz off y) σ
 | _=>False
def si (sz:Nat) (x v:AV) (σ:St) (K:AV→St→Prop):Prop:=match x with
 | .ptr id g es i off=>∃ o,σ.ob id=some o∧o.g=g∧o.es=es∧o.ro=false∧v.flat=true∧v.cells.length=sz∧off+sz≤es∧
   ∃ y,o.l[i]?=some y∧K .bA (σ.put id o (o.l.set i (iG off v y)))
 | _=>False
def iz (x:AV) (σ:St) (K:AV→St→Prop):Prop:=match x with
 | .ptr .. | .eG .. | .func .. | .pN ..=>K x σ
 | _=>False
def Er (neg:Bool) (x y:AV) (σ:St) (K:AV→St→Prop):Prop:=match x,y with
 | .bool a,.bool b=>K (.bool (if neg then !decide (a=b) else decide (a=b))) σ
 | _,_=>False
def x6:List Nat→List AV→List AV→Option Bool
 | [],[],[]=>some true
 | 0 :: ks,.int k a :: r,.int k' b :: s=>if k=k' then (x6 ks r s).map fun t=>decide (a=b)&&t else none
 | 1 :: ks,.bool a :: r,.bool b :: s=>(x6 ks r s).map fun t=>decide (a=b)&&t
 | 2 :: ks,.str a :: r,.str b :: s=>(x6 ks r s).map fun t=>decide (a=b)&&t
 | _,_,_=>none
def AT (neg:Bool) (ks:List Nat) (x y:AV) (σ:St) (K:AV→St→Prop):Prop:=match x,y with
 | .agg cs,.agg ds=>∃ b,x6 ks cs ds=some b∧K (.bool (if neg then !b else b)) σ
 | _,_=>False
def AU (op:BinOp) (k:IntKind) (a:Int) (k':IntKind) (b:Int):Option AV:=match op with
 | .and=>if k=k' then some (.int k (k.wrap (BitVec.ofInt k.bits a &&& BitVec.ofInt k.bits b).toNat)) else none
 | .or=>if k=k' then some (.int k (k.wrap (BitVec.ofInt k.bits a ||| BitVec.ofInt k.bits b).toNat)) else none
 | .shl=>if 0≤b then some (.int k (k.wrap (a * 2 ^ min b.toNat k.bits))) else none
 | .shr=>if 0≤b then some (.int k (a.fdiv (2 ^ min b.toNat k.bits))) else none
 | _=>none
def Ie:Jz→List AV→Option AV
 | .bit op,[.int k a,.int k' b]=>AU op k a k' b
 | .Fb,[.str s,.int _ i]=>if 0≤i then (s[i.toNat]?).map fun b=>.int .u8 b.toNat else none
 | .wQ ag sz off,[.agg cs]=>if off+sz≤cs.length then some (sub ag sz off (.agg cs)) else none
 | .Hr ag es n,[.agg cs,.int _ i]=>if 0≤i∧i<n∧(i.toNat+1) * es≤cs.length then some (sub ag es (i.toNat * es) (.agg cs)) else none
 | .Lv es n,[.ptr id g es' i o,.int _ x]=>if 0≤x∧x<n then some (.ptr id g es' i (o+x.toNat * es)) else none
 | .Lv es n,[.eG es' l i o,.int _ x]=>if 0≤x∧x<n then some (.eG es' l i (o+x.toNat * es)) else none
 | .Sx,[_]=>some .bA
 | .Df,[.nil]=>some (.int .i64 0)
 | .Df,[.fG _ _ _ off _ c]=>some (.int .i64 ((c-off:Nat):Int))
 | _,_=>none
def Ml (p:Jz) (xs:List AV) (σ:St) (K:AV→St→Prop):Prop:=∃ v,Ie p xs=some v∧K v σ
def zj (neg:Bool) (x:AV) (σ:St) (K:AV→St→Prop):Prop:=match x with
 | .nil=>K (.bool (!neg)) σ
 | .list _ []=>K (.bool true) σ∧K (.bool false) σ
 | .list _ (_ :: _)=>K (.bool neg) σ
 | .sl _ _ _ _ n=>(n=0→K (.bool true) σ∧K (.bool false) σ)∧(0<n→K (.bool neg) σ)
 | _=>False
def G6 (mu:Bool) (es bytes:Nat) (ty:TypeId) (z x:AV) (σ:St) (K:AV→St→Prop):Prop:=match x with
 | .int _ n=>0≤n∧n≤9223372036854775807∧bytes * n.toNat≤281474976710656∧
   (if mu then K (.sl σ.n σ.c es 0 n.toNat) (σ.push es ty (List.replicate n.toNat z)) else K (.list es (List.replicate n.toNat z)) σ)
 | _=>False
def Nr (es:Nat) (x h:AV) (σ:St) (K:AV→St→Prop):Prop:=match x,h with
 | .sl id g es' off n,.int _ hi=>es'=es∧off=0∧0≤hi∧hi≤n∧∃ o,σ.ob id=some o∧o.g=g∧o.es=es∧o.ro=false∧n≤o.l.length∧
   K (.sl id σ.c es 0 hi.toNat) (σ.renew id o (o.l.take hi.toNat))
 | _,_=>False
def I9 (es:Nat) (x y:AV) (σ:St) (K:AV→St→Prop):Prop:=match x,y with
 | .fG id g e1 off n _,.fG id2 g2 e2 off2 n2 _=>e1=es∧e2=es∧0<min n2 n∧∃ o2,σ.ob id2=some o2∧o2.g=g2∧o2.es=es∧off2+min n2 n≤o2.l.length∧
   ∃ o,σ.ob id=some o∧o.g=g∧o.es=es∧o.ro=false∧off≤o.l.length∧K (.int .i64 (min n2 n:Nat)) (σ.put id o (o.l.take off++(o2.l.drop off2).take (min n2 n)++o.l.drop (off+min n2 n)))
 | _,_=>False
def Dc (es:Nat) (x y:AV) (σ:St) (K:AV→St→Prop):Prop:=I9 es x y σ K∨
 ((∀ es' l,y=.list es' l→es'=es)∧(∀ id g es' off n,(y=.sl id g es' off n∨∃ c,y=.fG id g es' off n c)→es'=es)∧bW σ y fun l=>
   (match x with
   | .nil=>K (.int .i64 0) σ
   | .list _ []=>K (.int .i64 0) σ
   | .sl id g es' off n=>es'=es∧∃ o,σ.ob id=some o∧o.g=g∧o.es=es∧o.ro=false∧off+n≤o.l.length∧
     K (.int .i64 (min l.length n:Nat)) (σ.put id o (o.l.take off++l.take n++o.l.drop (off+min l.length n)))
   | .fG id g es' off n _=>es'=es∧0<min l.length n∧∃ o,σ.ob id=some o∧o.g=g∧o.es=es∧o.ro=false∧off≤o.l.length∧
     K (.int .i64 (min l.length n:Nat)) (σ.put id o (o.l.take off++l.take n++o.l.drop (off+min l.length n)))
   | _=>False))
def Hl (es:Nat) (z x:AV) (σ:St) (K:AV→St→Prop):Prop:=match x with
 | .nil=>K (.tuple []) σ
 | .list _ []=>K (.tuple []) σ
 | .sl id g es' off n=>es'=es∧∃ o,σ.ob id=some o∧o.g=g∧o.es=es∧o.ro=false∧off+n≤o.l.length∧
   K (.tuple []) (σ.put id o (o.l.take off++List.replicate n z++o.l.drop (off+n)))
 | .fG id g es' off n _=>es'=es∧∃ o,σ.ob id=some o∧o.g=g∧o.es=es∧o.ro=false∧off+n≤o.l.length∧
   K (.tuple []) (σ.put id o (o.l.take off++List.replicate n z++o.l.drop (off+n)))
 | _=>False
def oc:List AV→Option (List UInt8)
 | []=>some []
 | .int .u8 n :: r=>(oc r).map (UInt8.ofNat n.toNat :: ·)
 | _=>none
def xN (x:AV) (σ:St) (K:AV→St→Prop):Prop:=
 (∀ es' l,x=.list es' l→es'=1)∧(∀ id g es' off n,(x=.sl id g es' off n∨∃ c,x=.fG id g es' off n c)→es'=1)∧bW σ x fun l=>∃ s,oc l=some s∧K (.str ⟨s.toArray⟩) σ
def EV (es bytes:Nat) (ty:TypeId) (z x y:AV) (σ:St) (K:AV→St→Prop):Prop:=match x,y with
 | .nil,.int _ n=>0<n∧n≤9223372036854775807∧n.toNat * bytes≤140737488355328∧K (.sl σ.n σ.c es 0 n.toNat) (σ.push es ty (List.replicate n.toNat z))
 | .fG id g es' off n0 c,.int _ n=>es'=es∧0<n∧c-off<n0+n.toNat∧n0+n.toNat≤9223372036854775807∧(n0+n.toNat) * bytes≤140737488355328∧
   ∃ o,σ.ob id=some o∧o.g=g∧o.es=es∧off+n0≤o.l.length∧K (.sl σ.n σ.c es 0 (n0+n.toNat)) (σ.push es ty ((o.l.drop off).take n0++List.replicate n.toNat z))
 | _,_=>False
def yl (es:Nat) (x l h m:AV) (σ:St) (K:AV→St→Prop):Prop:=match x,l,h,m with
 | .sl _ _ es' _ n,.int _ a,.int _ b,.int _ c=>es'=es∧0≤a∧a≤b∧b≤c∧c≤n∧K .bA σ
 | .list es' ls,.int _ a,.int _ b,.int _ c=>es'=es∧0≤a∧a≤b∧b≤c∧c≤ls.length∧K .bA σ
 | .fG _ _ es' _ n _,.int _ a,.int _ b,.int _ c=>es'=es∧0≤a∧a≤b∧b≤c∧c≤n∧K .bA σ
 | _,_,_,_=>False
def Ms (es bytes:Nat) (ty:TypeId) (y:AV) (σ:St) (K:AV→St→Prop):Prop:=
 (∀ es' l,y=.list es' l→es'=es)∧(∀ id g es' off n,(y=.sl id g es' off n∨∃ c,y=.fG id g es' off n c)→es'=es)∧bW σ y fun l=>
  l.length≤maxLen∧l.length * bytes≤140737488355328∧K (.sl σ.n σ.c es 0 l.length) (σ.push es ty l)
def oS (s:ByteArray):List AV:=s.data.toList.map fun b=>.int .u8 b.toNat
def NJ (mu:Bool) (ty:TypeId) (x:AV) (σ:St) (K:AV→St→Prop):Prop:=match x with
 | .str s=>s.size≤140737488355328∧(if mu then K (.sl σ.n σ.c 1 0 s.size) ⟨aZ σ.ob σ.n (some ⟨σ.c,1,ty,false,false,oS s⟩),σ.n+1,σ.c+1⟩ else K (.list 1 (oS s)) σ)
 | _=>False
def L8 (op:UnOp) (x:AV) (σ:St) (K:AV→St→Prop):Prop:=match op,x with
 | .not,.bool b=>K (.bool (!b)) σ
 | .neg,.int k n=>K (.int k (k.wrap (0-n))) σ
 | _,_=>False
def zM (k:IntKind) (x:AV) (σ:St) (K:AV→St→Prop):Prop:=match x with
 | .int _ n=>K (.int k (k.wrap n)) σ
 | _=>False
def Ld (off:Nat) (x:AV) (σ:St) (K:AV→St→Prop):Prop:=match x with
 | .ptr id g es i o=>K (.ptr id g es i (o+off)) σ
 | .eG es l i o=>K (.eG es l i (o+off)) σ
 | _=>False
def vP (es:Nat) (x i:AV) (σ:St) (K:AV→St→Prop):Prop:=match x,i with
 | .sl id g es' off n,.int _ ix=>es'=es∧(∃ o,σ.ob id=some o∧o.g=g)∧0≤ix∧ix<n∧K (.ptr id g es (off+ix.toNat) 0) σ
 | .list es' l,.int _ ix=>es'=es∧0≤ix∧ix<l.length∧K (.eG es l ix.toNat 0) σ
 | .yn id g es' i off ee n,.int _ ix=>ee=es∧0≤ix∧ix<n∧K (.ptr id g es' i (off+ix.toNat * ee)) σ
 | .fG id g es' off n _,.int _ ix=>es'=es∧0≤ix∧ix<n∧K (.ptr id g es (off+ix.toNat) 0) σ
 | _,_=>False
def uo (x:AV) (i:Nat) (σ:St) (K:AV→St→Prop):Prop:=match x with
 | .tuple vs=>∃ v,vs[i]?=some v∧K v σ
 | _=>False
def gE (x:AV) (σ:St) (K:AV→St→Prop):Prop:=match x with
 | .nil=>K (.int .i64 0) σ
 | .list _ l=>K (.int .i64 l.length) σ
 | .sl _ _ _ _ n=>K (.int .i64 n) σ
 | .fG _ _ _ _ n _=>K (.int .i64 n) σ
 | .yn _ _ _ _ _ _ n=>K (.int .i64 n) σ
 | _=>False
def yZ (x:AV) (σ:St) (K:AV→St→Prop):Prop:=match x with
 | .str s=>K (.int .i64 s.size) σ
 | _=>False
def mE (es bytes:Nat) (ty:TypeId) (x y:AV) (σ:St) (K:AV→St→Prop):Prop:=
 (∀ es' l,y=.list es' l→es'=es)∧(∀ id g es' off n,(y=.sl id g es' off n∨∃ c,y=.fG id g es' off n c)→es'=es)∧bW σ y fun l=>
   (match x with
   | .nil=>l.length≤maxLen∧l.length * bytes≤140737488355328∧(l=[]→K .nil σ)∧(l≠[]→K (.sl σ.n σ.c es 0 l.length) (σ.push es ty l))
   | .sl id g es' off n=>es'=es∧off=0∧∃ o,σ.ob id=some o∧o.g=g∧o.es=es∧o.ty=ty∧o.ro=false∧o.ap=true∧o.l.length=n∧
     n+l.length≤maxLen∧(n+l.length) * bytes≤140737488355328∧K (.sl id σ.c es 0 (n+l.length)) (σ.renew id o (o.l++l))
   | .fG id g es' off n c=>es'=es∧(l=[]→K (.fG id g es off n c) σ)∧(l≠[]→∃ o,σ.ob id=some o∧o.g=g∧o.es=es∧o.ro=false∧off+(n+l.length)≤o.l.length∧off+(n+l.length)≤c∧
     K (.fG id g es off (n+l.length) c) (σ.put id o (o.l.take (off+n)++l++o.l.drop (off+n+l.length))))
   | .fl es' l0=>es'=es∧(∀ z∈l0++l,z.cG=true)∧l0.length+l.length≤maxLen∧(l0.length+l.length) * bytes≤140737488355328∧K (.list es (l0++l)) σ
   | _=>False)
def DU (es:Nat) (x h m:AV) (σ:St) (K:AV→St→Prop):Prop:=match x,h,m with
 | .list es' ls,.int _ b,.int _ c=>es'=es∧0≤b∧b=c∧c≤ls.length∧K (.fl es (ls.take b.toNat)) σ
 | _,_,_=>False
def NX (x:AV) (σ:St) (K:AV→St→Prop):Prop:=match x with
 | .sl id g es off n=>∃ o,σ.ob id=some o∧o.g=g∧o.es=es∧off+n≤o.l.length∧(∀ z∈(o.l.drop off).take n,z.cG=true)∧K (.list es ((o.l.drop off).take n)) ⟨aZ σ.ob id none,σ.n,σ.c⟩
 | v=>K v σ
def keyOf:AV→Int
 | .agg (.int _ a :: _)=>a
 | _=>0
def valOf:AV→AV
 | .agg [_,x]=>x
 | _=>.bA
def wM (kk:IntKind):AV→Bool
 | .agg [.int k' _,_]=>decide (k'=kk)
 | _=>false
def cK (kk:IntKind) (l:List AV):Bool:=l.all (wM kk)
def mq (n:Int):List AV→Option AV
 | []=>none
 | y :: r=>if n=keyOf y then some (valOf y) else mq n r
def eg (kk:IntKind) (n:Int) (x:AV):List AV→List AV
 | []=>[.agg [.int kk n,x]]
 | y :: r=>if n=keyOf y then .agg [.int kk n,x] :: r else if n<keyOf y then .agg [.int kk n,x] :: y :: r else y :: eg kk n x r
def qx (x k v:AV) (σ:St) (K:AV→St→Prop):Prop:=match x,k with
 | .ja id g,.int kk n=>v.one=true∧∃ o,σ.ob id=some o∧o.g=g∧o.ro=false∧cK kk o.l=true∧K .bA (σ.put id o (eg kk n v o.l))
 | _,_=>False
def tZ (ok:Bool) (z:AV) (r:Option AV):AV:=if ok then .tuple [r.getD z,.bool r.isSome] else r.getD z
def ub (ok:Bool) (z x k:AV) (σ:St) (K:AV→St→Prop):Prop:=match x,k with
 | .ja id g,.int kk n=>∃ o,σ.ob id=some o∧o.g=g∧cK kk o.l=true∧K (tZ ok z (mq n o.l)) σ
 | .kC,.int _ _=>K (tZ ok z none) σ
 | _,_=>False
def yk (es n:Nat) (x:AV) (lo hi:Option AV) (σ:St) (K:AV→St→Prop):Prop:=match x with
 | .ptr id g es' i off=>od n lo hi fun l h=>(l=n→K (.list es []) σ)∧(l<n→K (.yn id g es' i (off+l * es) es (h-l)) σ)
 | _=>False
def jg (op:BinOp) (x y:AV) (σ:St) (K:AV→St→Prop):Prop:=qo op x y fun v=>K v σ
def CS (mx:Bool) (x:AV) (xs:List AV) (σ:St) (K:AV→St→Prop):Prop:=eQ mx x xs fun v=>K v σ
def iT (es:Nat) (x:AV) (lo hi:Option AV) (σ:St) (K:AV→St→Prop):Prop:=eD es σ x lo hi fun v=>K v σ
def td (x:AV) (lo hi:Option AV) (σ:St) (K:AV→St→Prop):Prop:=tc x lo hi fun v=>K v σ
def mB (H:eC) (x:AV) (args:List AV) (σ:St) (K:AV→St→Prop):Prop:=match x with
 | .func f caps=>H f (args++caps) σ K
 | .pN f fs=>H f (fs++args) σ K
 | _=>False
def pW (e:Nat→AV) (l:List AX):List AV:=l.map fun x=>x.ev e
def C2 (e:Nat→AV) (x:Option AX):Option AV:=x.map fun y=>y.ev e
def JU (e:Nat→AV) (ps:List (Nat × Nat × AX)):List (Nat × Nat × AV):=ps.map fun p=>(p.1,p.2.1,p.2.2.ev e)
def ak (H:eC) (op:aN) (e:Nat→AV) (σ:St) (K:AV→St→Prop):Prop:=match op with
 | .mv x=>K (x.ev e) σ
 | .pick c a b=>pw (c.ev e) (a.ev e) (b.ev e) σ K
 | .alloc es ty z=>K (.ptr σ.n σ.c es 0 0) (σ.push es ty [z])
 | .box es ty x=>Oi es ty (x.ev e) σ K
 | .build zs ps=>zT zs (JU e ps) σ K
 | .lit mu es ty xs=>FA mu es ty (pW e xs) σ K
 | .load ag sz x=>uc ag sz (x.ev e) σ K
 | .store sz x v=>si sz (x.ev e) (v.ev e) σ K
 | .aY x=>iz (x.ev e) σ K
 | .bin op x y=>jg op (x.ev e) (y.ev e) σ K
 | .Hx neg x y=>Er neg (x.ev e) (y.ev e) σ K
 | .un op x=>L8 op (x.ev e) σ K
 | .conv k x=>zM k (x.ev e) σ K
 | .G7 f caps=>K (.func f (pW e caps)) σ
 | .fa off x=>Ld off (x.ev e) σ K
 | .cg es x i=>vP es (x.ev e) (i.ev e) σ K
 | .ext x i=>uo (x.ev e) i σ K
 | .len x=>gE (x.ev e) σ K
 | .lens x=>yZ (x.ev e) σ K
 | .app es bytes ty x y=>mE es bytes ty (x.ev e) (y.ev e) σ K
 | .AQ mx x xs=>CS mx (x.ev e) (pW e xs) σ K
 | .qI es x lo hi=>iT es (x.ev e) (C2 e lo) (C2 e hi) σ K
 | .te x lo hi=>td (x.ev e) (C2 e lo) (C2 e hi) σ K
 | .call f args=>H f (pW e args) σ K
 | .dz x args=>mB H (x.ev e) (pW e args) σ K
 | .fp es ty=>K (.sl σ.n σ.c es 0 0) (σ.push es ty [])
 | .eqs neg ks x y=>AT neg ks (x.ev e) (y.ev e) σ K
 | .pu p xs=>Ml p (pW e xs) σ K
 | .kK neg x=>zj neg (x.ev e) σ K
 | .KY mu es bytes ty z x=>G6 mu es bytes ty z (x.ev e) σ K
 | .Kw es x h=>Nr es (x.ev e) (h.ev e) σ K
 | .E5 es x y=>Dc es (x.ev e) (y.ev e) σ K
 | .JV es z x=>Hl es z (x.ev e) σ K
 | .Hy x=>xN (x.ev e) σ K
 | .KI mu ty x=>NJ mu ty (x.ev e) σ K
 | .Of x=>∃ s,x.ev e=.str s∧K (.str s) σ
 | .Aj es b ty z x y=>EV es b ty z (x.ev e) (y.ev e) σ K
 | .Fa es x l h m=>yl es (x.ev e) (l.ev e) (h.ev e) (m.ev e) σ K
 | .DA es b ty y=>Ms es b ty (y.ev e) σ K
 | .Cl es n x lo hi=>yk es n (x.ev e) (C2 e lo) (C2 e hi) σ K
 | .mV=>K (.ja σ.n σ.c) ⟨aZ σ.ob σ.n (some ⟨σ.c,2,rA,false,false,[]⟩),σ.n+1,σ.c+1⟩
 | .cZ x k v=>qx (x.ev e) (k.ev e) (v.ev e) σ K
 | .fj ok z x k=>ub ok z (x.ev e) (k.ev e) σ K
 | .E9 es x h m=>DU es (x.ev e) (h.ev e) (m.ev e) σ K
 | .Mm x=>NX (x.ev e) σ K
 | .KZ f fs=>(∀ z∈pW e fs,z.cG=true)∧K (.pN f (pW e fs)) σ
def bG (e:Nat→AV) (d:Option Nat) (v:AV):Nat→AV:=match d with
 | some i=>aZ e i v
 | none=>e
def F5 (k:(Nat→AV)→St→Prop) (e:Nat→AV) (d:Option Nat) (v:AV) (σ:St):Prop:=k (bG e d v) σ
def F3 (H:eC) (op:aN) (d:Option Nat) (k:(Nat→AV)→St→Prop) (e:Nat→AV) (σ:St):Prop:=ak H op e σ (F5 k e d)
def sY (d:Option Nat) (k:(Nat→AV)→St→Prop) (e:Nat→AV) (σ:St):Prop:=k (bG e d (.tuple [])) σ
def sK (_s:Nat) (w:Bool) (A B:(Nat→AV)→St→Prop) (g:AV) (e:Nat→AV) (σ:St):Prop:=match g with
 | .tuple []=>B e σ
 | .bool b=>(b=w→A e σ)∧(b=!w→B e σ)
 | _=>False
def runs (H:eC):List aR→((Nat→AV)→St→Prop)→(Nat→AV)→St→Prop
 | [],K,e,σ=>K e σ
 | o :: r,K,e,σ=>match o.gd with
  | none=>ak H o.op e σ (F5 (runs H r K) e o.d)
  | some (s,w)=>sK s w (F3 H o.op o.d (runs H r K)) (sY o.d (runs H r K)) (e s) e σ
def tag (p:Nat) (ids:List Nat):List (Nat × Nat):=ids.map fun i=>(p,i)
def bu (af:List Nat) (xs:List (Nat × Nat)) (ids:List Nat):Prop:=∀ x∈xs,af.contains x.1=true∨∀ i∈ids,x.2≠i
def aN.bX (e:Nat→AV):aN→Option (Nat × List AV)
 | .call f l=>some (f,pW e l)
 | .dz x l=>match x.ev e with
  | .func f caps=>some (f,pW e l++caps)
  | .pN f fs=>some (f,fs++pW e l)
  | _=>none
 | _=>none
def Mv (H:eC) (f:Nat) (args:List AV) (ob:Nat→Option aS) (r:AV) (rd:List Nat) (wr:Option (Nat × aS)):Prop:=
 r.cG=true∧match wr with
 | none=>∀ ob' n c,(∀ i∈rd,ob' i=ob i)→H f args ⟨ob',n,c⟩ fun v τ=>v=r∧τ=⟨ob',n,c⟩
 | some (id,o')=>(∃ o,ob id=some o∧o.g=o'.g∧o.ro=o'.ro)∧(∀ x∈o'.l,x.cG=true)∧id∈rd∧∀ ob' n c,(∀ i∈rd,ob' i=ob i)→H f args ⟨ob',n,c⟩ fun v τ=>v=r∧τ=⟨aZ ob' id (some o'),n,c⟩
def eE (ob:Nat→Option aS):Option (Nat × aS)→Nat→Option aS
 | none=>ob
 | some (i,o)=>aZ ob i (some o)
def dO:Option (Nat × aS)→List Nat
 | none=>[]
 | some (i,_)=>[i]
def QK (H:eC) (f:Nat) (args:List AV) (af:List Nat) (rs ws:List (Nat × Nat)) (p n c:Nat) (kk:List (Nat × Nat)→List (Nat × Nat)→AV→St→Prop) (ob:Nat→Option aS):Prop:=
 ∃ r rd wr,Mv H f args ob r rd wr∧bu af ws (rd++dO wr)∧bu af rs (dO wr)∧kk (rs++tag p rd) (ws++tag p (dO wr)) r ⟨eE ob wr,n,c⟩
def pY (H:eC) (op:aN) (af:List Nat) (rs ws:List (Nat × Nat)) (p n c:Nat) (kk:List (Nat × Nat)→List (Nat × Nat)→AV→St→Prop) (e:Nat→AV) (ob:Nat→Option aS):Prop:=
 op.nd=false∧bu af ws (op.dM e++op.lE e n)∧bu af rs (op.lE e n)∧ak H op e ⟨ob,n,c⟩ (kk (rs++tag p (op.dM e)) (ws++tag p (op.lE e n)))
abbrev xt:Nat:=1000000007
def cn (af:List Nat) (xs:List (Nat × Nat)) (id:Nat):Prop:=∀ x∈xs,af.contains x.1=true∨x.2≠id∨xt≤x.1
def dmap (x k v:AV) (af:List Nat) (rs ws:List (Nat × Nat)) (p n c:Nat) (kk:List (Nat × Nat)→List (Nat × Nat)→AV→St→Prop) (ob:Nat→Option aS):Prop:=match x,k with
 | .ja id g,.int kq q=>v.one=true∧cn af ws id∧cn af rs id∧∃ o,ob id=some o∧o.g=g∧o.ro=false∧cK kq o.l=true∧mq q o.l=none∧
   kk rs (ws++[(xt+p,id)]) .bA ⟨aZ ob id (some { o with l:=eg kq q v o.l }),n,c⟩
 | _,_=>False
def aN.oR:aN→Option (AX × AX × AX)
 | .cZ x k v=>some (x,k,v)
 | _=>none
def sZ (H:eC) (op:aN) (af:List Nat) (rs ws:List (Nat × Nat)) (p n c:Nat) (kk:List (Nat × Nat)→List (Nat × Nat)→AV→St→Prop) (e:Nat→AV) (ob:Nat→Option aS):Prop:=
 match op.oR with
 | some (x,k,v)=>dmap (x.ev e) (k.ev e) (v.ev e) af rs ws p n c kk ob
 | none=>match op.bX e with
  | some (f,args)=>QK H f args af rs ws p n c kk ob
  | none=>pY H op af rs ws p n c kk e ob
def Cd (k:List (Nat × Nat)→List (Nat × Nat)→(Nat→AV)→St→Prop) (e:Nat→AV) (d:Option Nat) (rs ws:List (Nat × Nat)) (v:AV) (σ:St):Prop:=k rs ws (bG e d v) σ
def DG (H:eC) (op:aN) (d:Option Nat) (af:List Nat) (rs ws:List (Nat × Nat)) (p n c:Nat) (k:List (Nat × Nat)→List (Nat × Nat)→(Nat→AV)→St→Prop) (e:Nat→AV) (σ:St):Prop:=
 sZ H op af rs ws p n c (Cd k e d) e σ.ob
def fY (H:eC) (n0 c0 k0:Nat):List aR→Nat→((Nat→AV)→St→Prop)→List (Nat × Nat)→List (Nat × Nat)→(Nat→AV)→St→Prop
 | [],_,K,_,_,e,σ=>K e ⟨σ.ob,n0+k0,c0+k0⟩
 | o :: r,p,K,rs,ws,e,σ=>match o.gd with
  | none=>sZ H o.op o.af rs ws p (n0+p) (c0+p) (Cd (fY H n0 c0 k0 r (p+1) K) e o.d) e σ.ob
  | some (s,w)=>sK s w (DG H o.op o.d o.af rs ws p (n0+p) (c0+p) (fY H n0 c0 k0 r (p+1) K)) (sY o.d (fY H n0 c0 k0 r (p+1) K rs ws)) (e s) e σ
def NP (H:eC) (ops:List aR) (dr:Option Nat) (K:(Nat→AV)→St→Prop) (e:Nat→AV) (σ:St):Prop:=
 (dr=none→runs H ops K e σ)∧∀ k,dr=some k→fY H σ.n σ.c k ops 0 K [] [] e σ
def cD (p:Nat) (l:List Nat):List (Nat × Nat):=l.map fun i=>(p,i)
def dS (af:List Nat) (R:List (Nat × Nat)) (ob ob':Nat→Option aS):Prop:=∀ x∈R,x.1∈af∨ob' x.2=ob x.2
def Bq (k:List (Nat × Nat)→(Nat→AV)→St→Prop) (R:List (Nat × Nat)) (e:Nat→AV) (d:Option Nat) (σ:St) (v:AV) (_τ:St):Prop:=k R (bG e d v) σ
def JC (k:List (Nat × Nat)→(Nat→AV)→St→Prop) (af:List Nat) (R:List (Nat × Nat)) (e:Nat→AV) (d:Option Nat) (ob:Nat→Option aS) (v:AV) (τ:St):Prop:=dS af R ob τ.ob∧k R (bG e d v) τ
def bm (H:eC) (p:Nat) (op:aN) (d:Option Nat) (af:List Nat) (k:List (Nat × Nat)→(Nat→AV)→St→Prop) (R:List (Nat × Nat)) (e:Nat→AV) (σ:St):Prop:=
 if op.lt then ak H op e σ (Bq k (R++cD p (op.dM e)) e d σ) else ak H op e σ (JC k af R e d σ.ob)
def JA (H:eC) (p:Nat) (op:aN) (d:Option Nat) (af:List Nat) (k:List (Nat × Nat)→(Nat→AV)→St→Prop) (R:List (Nat × Nat)) (e:Nat→AV) (σ:St):Prop:=bm H p op d af k R e σ
def JB (d:Option Nat) (k:List (Nat × Nat)→(Nat→AV)→St→Prop) (R:List (Nat × Nat)) (e:Nat→AV) (σ:St):Prop:=k R (bG e d (.tuple [])) σ
def ez (H:eC) (s:HS) (R:List (Nat × Nat)) (k:List (Nat × Nat)→(Nat→AV)→St→Prop) (e:Nat→AV) (σ:St):Prop:=
 match s.o.gd with
 | none=>bm H s.p s.o.op s.o.d s.o.af k R e σ
 | some (g,w)=>sK g w (JA H s.p s.o.op s.o.d s.o.af k R) (JB s.o.d k R) (e g) e σ
def dI (H:eC):List HS→((Nat→AV)→St→Prop)→List (Nat × Nat)→(Nat→AV)→St→Prop
 | [],K,_,e,σ=>K e σ
 | s :: L,K,R,e,σ=>ez H s R (dI H L K) e σ
def iR:=EX→(Nat→AV)→St→Prop
def Bn (k:(Nat→AV)→St→Prop) (Q:iR):iR:=fun x e σ=>match x with
 | .iK=>k e σ
 | x=>Q x e σ
def jj (id:Nat) (Q:iR):iR:=fun x e σ=>match x with
 | .exit i=>if i=id then Q .iK e σ else Q (.exit i) e σ
 | x=>Q x e σ
def sh (n k:Nat) (I:Nat→(Nat→AV)→St→Prop) (Q:iR):iR:=fun x e σ=>match x with
 | .iK=>∃ k',k' < k∧∃ nt,n≤nt∧I k' e (σ.aC nt)
 | x=>Q x e σ
def pZ (c:AV) (a b:(Nat→AV)→St→Prop) (e:Nat→AV) (σ:St):Prop:=match c with
 | .bool t=>(t=true→a e σ)∧(t=false→b e σ)
 | _=>False
def Ox (σ:St) (caps xs:List AV):Prop:=caps.length=xs.length∧∀ (i:Nat) (c x:AV),caps[i]?=some c→xs[i]?=some x→
 (∃ v,DW x=some v)∧∃ id g o,c=.ptr id g 1 0 0∧σ.ob id=some o∧o.g=g∧o.es=1∧o.l=[x]
def nH (σ σ1:St):Prop:=∀ k o,σ1.ob k=some o→o.ty=rA→∃ k' o',σ.ob k'=some o'∧o'.g=o.g
def Om (n:Nat) (I:List Int→St→Prop) (Ix:EX→List Int→St→Prop) (pre:List Int):iR:=fun x _ σ=>match x with
 | .iK=>∃ nt,n≤nt∧I pre (σ.aC nt)
 | x=>∃ nt,n≤nt∧Ix x pre (σ.aC nt)
def Cr (It:Nat→List AV→List Int→Prop) (g:AV) (B:iR→(Nat→AV)→St→Prop) (t d:Nat) (Q:iR) (e:Nat→AV) (σ:St):Prop:=match g with
 | .func f caps=>∃ xs vs,It f xs vs∧∃ (I:List Int→St→Prop) (Ix:EX→List Int→St→Prop),I [] σ∧(∀ pre σ1,I pre σ1→Ox σ1 caps xs∧nH σ σ1)∧(∀ x pre σ1,x≠.iK→Ix x pre σ1→nH σ σ1)∧
   (∀ pre i σ1,i∈vs→pre.length<vs.length→I pre σ1→B (Om σ.n I Ix (pre++[i])) (aZ (aZ e t (.int .i64 i)) d (.int .i64 i)) σ1)∧
   (∀ σ1,I vs σ1→Q .iK e σ1)∧∀ x pre σ1,x≠.iK→pre <+: vs→Ix x pre σ1→Q x e σ1
 | _=>False
def Np (e:Nat→AV):List Nat→List AV→Nat→AV
 | t :: ts,v :: vs=>Np (aZ e t v) ts vs
 | _,_=>e
def yf (n:Nat) (Ip:List Nat→Prop) (Is:St→Prop) (Ix:EX→List Nat→St→Prop) (pre:List Nat):iR:=fun x _ σ=>match x with
 | .iK=>Ip pre∧∃ nt,n≤nt∧Is (σ.aC nt)
 | x=>∃ nt,n≤nt∧Ix x pre (σ.aC nt)
def GN (σ0:St) (Ip:List Nat→Prop) (Is:St→Prop) (N:Nat) (B:List Nat→(Nat→AV)→St→Prop) (e:Nat→AV) (σ:St):Prop:=
 (∃ nt,σ0.n≤nt∧Is (σ.aC nt))∧nH σ0 σ∧∀ pre,Ip pre→pre.length<N→B pre e σ
def xU (It:Nat→List AV→List (List AV)→Prop) (g:AV) (A:((Nat→AV)→St→Prop)→(Nat→AV)→St→Prop) (B:iR→(Nat→AV)→St→Prop) (ts:List Nat) (Q:iR) (e:Nat→AV) (σ:St):Prop:=match g with
 | .func f caps=>(AV.func f caps).cG=true∧∃ vs,It f caps vs∧(∀ v∈vs,v.length=ts.length)∧∃ (Ip:List Nat→Prop) (Is:St→Prop) (Ix:EX→List Nat→St→Prop),Ip []∧Is σ∧(∀ σ1,Is σ1→nH σ σ1)∧(∀ x pre σ1,x≠.iK→Ix x pre σ1→nH σ σ1)∧
   (∀ i v σ1,vs[i]?=some v→Is σ1→A (GN σ Ip Is vs.length fun pre=>B (yf σ.n Ip Is Ix (pre++[i]))) (Np e ts v) σ1)∧
   (Ip (List.range vs.length)→∀ σ1,Is σ1→Q .iK e σ1)∧∀ x pre σ1,x≠.iK→pre <+: List.range vs.length→Ix x pre σ1→Q x e σ1
 | _=>False
def jh (H:eC):az→iR→(Nat→AV)→St→Prop
 | .skip,Q,e,σ=>Q .iK e σ
 | .region ops dr,Q,e,σ=>NP H ops dr (Q .iK) e σ
 | .seq a b,Q,e,σ=>jh H a (Bn (jh H b Q) Q) e σ
 | .cond c a b,Q,e,σ=>pZ (c.ev e) (jh H a Q) (jh H b Q) e σ
 | .block id a,Q,e,σ=>jh H a (jj id Q) e σ
 | .loop a,Q,e,σ=>∃ (I:Nat→(Nat→AV)→St→Prop),(∃ k,I k e σ)∧∀ k e1 σ1,I k e1 σ1→jh H a (sh σ.n k I Q) e1 σ1
 | .exit id,Q,e,σ=>Q (.exit id) e σ
 | .ret,Q,e,σ=>Q .ret e σ
 | .aE l,Q,e,σ=>dI H l (Q .iK) [] e σ
 | .Cv It x t d a,Q,e,σ=>Cr It (x.ev e) (jh H a) t d Q e σ
 | .Cu It x ts l a,Q,e,σ=>xU It (x.ev e) (runs H l) (jh H a) ts Q e σ
def O7:Value→Option AV
 | .bool b=>some (.bool b)
 | .int k n=>some (.int k n)
 | .string s=>some (.str s)
 | .slice none 0 0=>some .nil
 | .pointer none=>some .iZ
 | .nilFunc=>some .fN
 | .map none=>some .kC
 | _=>none
def Lo:List Value→Option (List AV)
 | []=>some []
 | v :: r=>match O7 v,Lo r with
  | some a,some as=>some (a :: as)
  | _,_=>none
def av:Value→Option AV
 | .agg cs=>(Lo cs.toList).map .agg
 | v=>O7 v
def ax:Operand→Option AX
 | .tmp t=>some (.t t)
 | .const v=>(av v).map .c
 | .func f=>some (.c (.func f []))
 | .global _=>none
def Bl:List Operand→Option (List AX)
 | []=>some []
 | x :: r=>match ax x,Bl r with
  | some a,some as=>some (a :: as)
  | _,_=>none
def B4:Option Operand→Option (Option AX)
 | none=>some none
 | some x=>(ax x).map some
def zE (P:Program) (F:TypeId→Option (List Nat)):Nat→List Field→Option (List Nat)
 | _,[]=>some []
 | i, f :: fs => if f.offset == i && !(f.name == "_") then match F f.type with
  | some k=>if (P.info? f.type).map (·.size) == some k.length then (zE P F (i+k.length) fs).map (k++·) else none
  | none=>none
  else none
def m8 (P:Program):Nat→TypeId→Option (List Nat)
 | 0,_=>none
 | d+1,t=>match P.underlying t with
  | some (.int _)=>some [0]
  | some .bool=>some [1]
  | some .string=>some [2]
  | some (.struct fs)=>if P.stoodInHeld t then none else zE P (m8 P d) 0 fs.toList
  | _=>none
def bF:TypeDesc→Bool
 | .struct _ | .array _ _=>true
 | _=>false
def partsOf (P:Program) (fields:Array Field):List (Nat × Operand)→Option (List (Nat × Nat × AX))
 | []=>some []
 | (k,x) :: r=>match fields[k]?,ax x,partsOf P fields r with
  | some f,some a,some as=>match P.info? f.type with
   | some i=>some ((f.offset,i.size,a) :: as)
   | none=>none
  | _,_,_=>none
def vj (n sz:Nat):List (Nat × Operand)→Option (List (Nat × Nat × AX))
 | []=>some []
 | (k,x) :: r=>match ax x,vj n sz r with
  | some a,some as=>if k<n then some ((k * sz,sz,a) :: as) else none
  | _,_=>none
def okF (P:Program) (f:Nat):Bool:=match P.funcs[f]? with
 | some fn => fn.body.isSome && !(fn.name == "runtime.NumGoroutine")
 | none=>false
def O5 (P:Program) (f:Nat):Bool:=match P.funcs[f]? with
 | some fn => !(fn.name == "runtime.NumGoroutine")
 | none=>false
theorem sx {P:Program} {f:Nat} (h:okF P f=true):O5 P f=true:=by
 unfold okF at h
 unfold O5
 split at h
 ·rename_i fn hf
  simp only [Bool.and_eq_true] at h
  simpa [hf] using h.2
 ·cases h
def GF (P:Program) (ty:TypeId) (x:Operand):Option aN:=match x with
 | .const (.slice none 0 0)=>match P.underlying ty with
  | some (.slice e)=>match P.info? e with
   | some i=>if 0<i.size then some (.fp i.size e) else none
   | none=>none
  | _=>none
 | _=>none
def FQ (P:Program) (mu:Bool) (ty:TypeId) (x:Operand):Option aN:=match mu,GF P ty x with
 | true,some op=>some op
 | _,_=>(ax x).map .mv
def G9 (P:Program) (e:TypeId):Bool:=match P.underlying e with
 | some (.int .u8)=>match P.info? e with
  | some i=>i.size == 1&&i.bytes == 1
  | none=>false
 | _=>false
def isIface:TypeDesc→Bool
 | .interface _=>true
 | _=>false
def HZ:AX→AX→Bool
 | .t a,.t b=>a == b
 | .c (.int _ a),.c (.int _ b)=>a == b
 | _,_=>false
def CW:AX→Bool
 | .c .nil=>true
 | _=>false
def Iy (P:Program) (t:TypeId):Option AV:=match P.underlying t with
 | some (.map k e)=>match P.underlying k,P.info? e with
  | some (.int _),some i=>match i.zero.bind av with
   | some z=>if z.one&&z.cG then some z else none
   | none=>none
  | _,_=>none
 | _=>none
def FF:Option Operand→Bool
 | none=>true
 | some (.const (.int _ _))=>true
 | _=>false
def cP (P:Program) (mu:Bool) (ty:TypeId):Op→Option aN
 | .move x | .assign x=>FQ P mu ty x
 | .pick c a b=>match ax c,ax a,ax b with
  | some c,some a,some b=>some (.pick c a b)
  | _,_,_=>none
 | .alloc t=>match P.info? t with
  | some i=>match i.zero.bind av with
   | some z=>if z.flat&&z.cells.length == i.size&&0<i.size then some (.alloc i.size t z) else none
   | none=>none
  | none=>none
 | .box t x=>match P.info? t,ax x with
  | some i,some a=>if 0<i.size then some (.box i.size t a) else none
  | _,_=>none
 | .build t parts=>match P.underlying t,(P.info? t).bind fun i=>i.zero.bind av with
  | some (.struct fields),some (.agg zs)=>if fields.all fun f=>(P.info? f.type).isSome then (partsOf P fields parts.toList).map (.build zs) else none
  | some (.array n el),some (.agg zs)=>match P.info? el with
   | some ei=>(vj n ei.size parts.toList).map (.build zs)
   | none=>none
  | _,_=>none
 | .buildSlice t len parts=>match P.underlying t with
  | some (.slice e)=>match P.info? e,Bl (parts.toList.map (·.2)) with
   | some i,some xs=>if parts.toList.map (·.1) == List.range len&&len * i.size≤16777216&&0<i.size&&(i.zero.any fun z=>z.cells.size == i.size) then some (.lit mu i.size e xs) else none
   | _,_=>none
  | _=>none
 | .load t x=>match P.underlying t,P.info? t,ax x with
  | some d,some i,some a=>if bF d then some (.load true i.size a) else some (.load false 1 a)
  | _,_,_=>none
 | .store t x v=>match P.info? t,ax x,ax v with
  | some i,some a,some b=>if 0<i.size then some (.store i.size a b) else none
  | _,_,_=>none
 | .nilCheck x=>(ax x).map .aY
 | .binOp op t x y _=>match P.underlying t,ax x,ax y with
  | some (.int _),some a,some b=>(match op with
   | .and | .or | .shl | .shr=>some (.pu (.bit op) [a,b])
   | _=>some (.bin op a b))
  | some .string,some a,some b=>some (.bin op a b)
  | some .bool,some a,some b=>(match op with
   | .eql=>some (.Hx false a b)
   | .neq=>some (.Hx true a b)
   | _=>none)
  | some (.struct _),some a,some b=>if !P.eqGuardType P.depth t then (match op,m8 P 5 t with
   | .eql,some ks=>some (.eqs false ks a b)
   | .neq,some ks=>some (.eqs true ks a b)
   | _,_=>none) else none
  | some (.slice _),some a,some b=>(match op,y with
   | .eql,.const (.slice none 0 0)=>some (.kK false a)
   | .neq,.const (.slice none 0 0)=>some (.kK true a)
   | _,_=>none)
  | _,_,_=>none
 | .unOp op _ x=>(ax x).map (.un op)
 | .convert s t x=>match P.underlying s,P.underlying t,ax x with
  | some (.int _),some (.int k),some a=>some (.conv k a)
  | some .string,some .string,some a=>some (.Of a)
  | some .string,some (.slice e),some a=>if G9 P e then some (.KI mu e a) else none
  | some (.slice e),some .string,some a=>if G9 P e then some (.Hy a) else none
  | _,_,_=>none
 | .makeInterface t x=>match P.underlying t,ax x with
  | some d,some a=>if isIface d then none else some (.pu .Sx [a])
  | _,_=>none
 | .field t x i=>match P.underlying t,ax x with
  | some (.struct fields),some a=>match fields[i]? with
   | some f=>match P.underlying f.type,P.info? f.type with
    | some d,some fi=>some (.pu (.wQ (bF d) (if bF d then fi.size else 1) f.offset) [a])
    | _,_=>none
   | none=>none
  | _,_=>none
 | .index t x i=>match P.underlying t,ax x,ax i with
  | some (.array n el),some a,some b=>match P.underlying el,P.info? el with
   | some d,some ei=>if 0<ei.size then some (.pu (.Hr (bF d) ei.size n) [a,b]) else none
   | _,_=>none
  | some .string,some a,some b=>some (.pu .Fb [a,b])
  | _,_,_=>none
 | .makeSlice t l c=>match P.underlying t,ax l,ax c with
  | some (.slice el),some a,some b=>match P.info? el with
   | some i=>match i.zero.bind av with
    | some z=>if z.flat&&z.cells.length == i.size&&0<i.size&&HZ a b then some (.KY mu i.size i.bytes el z a) else none
    | none=>none
   | none=>none
  | _,_,_=>none
 | .panic _=>some (.pu .never [])
 | .makeMap t r=>if (Iy P t).isSome&&FF r then some .mV else none
 | .mapUpdate t m k x | .insert t m k x=>match Iy P t,ax m,ax k,ax x with
  | some _,some a,some b,some c=>some (.cZ a b c)
  | _,_,_,_=>none
 | .lookup t x k ok=>match Iy P t,ax x,ax k with
  | some z,some a,some b=>some (.fj ok z a b)
  | _,_,_=>none
 | .makeFunc (.func f) first caps=>if first.isEmpty then (Bl caps.toList).map (.G7 f) else if caps.isEmpty then (Bl first.toList).map (.KZ f) else none
 | .fieldAddr t x f=>match P.underlying t,ax x with
  | some (.struct fields),some a=>match fields[f]? with
   | some fl=>match P.info? fl.type with
    | some i=>if 0<i.size then some (.fa fl.offset a) else none
    | none=>none
   | none=>none
  | _,_=>none
 | .indexAddr t x i=>match P.underlying t,ax x,ax i with
  | some (.slice e),some a,some b=>match P.info? e with
   | some ei=>some (.cg ei.size a b)
   | none=>none
  | some (.array n e),some a,some b=>match P.info? e with
   | some ei=>some (.pu (.Lv ei.size n) [a,b])
   | none=>none
  | _,_,_=>none
 | .extract x i=>(ax x).map fun a=>.ext a i
 | .slice t x lo hi none=>match P.underlying t,ax x,B4 lo,B4 hi with
  | some (.slice e),some a,some l,some h=>match P.info? e with
   | some ei=>(match mu,l,h with
    | true,none,some h=>if 0<ei.size then some (.Kw ei.size a h) else none
    | _,_,_=>some (.qI ei.size a l h))
   | none=>none
  | some .string,some a,some l,some h=>some (.te a l h)
  | some (.pointer arr),some a,some l,some h=>match P.underlying arr with
   | some (.array n el)=>(match P.info? el with
    | some ei=>if 0<ei.size then some (.Cl ei.size n a l h) else none
    | none=>none)
   | _=>none
  | some (.array n el),some a,some l,some h=>(match P.info? el with
   | some ei=>if 0<ei.size then some (.Cl ei.size n a l h) else none
   | none=>none)
  | _,_,_,_=>none
 | .slice t x (some lo) (some hi) (some mx)=>match P.underlying t,ax x,ax lo,ax hi,ax mx with
  | some (.slice e),some a,some l,some h,some m=>match P.info? e with
   | some ei=>some (.Fa ei.size a l h m)
   | none=>none
  | _,_,_,_,_=>none
 | .slice t x none (some hi) (some mx)=>match P.underlying t,ax x,ax hi,ax mx with
  | some (.slice e),some a,some h,some m=>match P.info? e with
   | some ei=>some (.E9 ei.size a h m)
   | none=>none
  | _,_,_,_=>none
 | .call c=>match c.callee,Bl c.args.toList with
  | .builtin .len,some [x]=>(match c.argTypes.toList with
   | [t]=>(match P.underlying t with
    | some (.slice _)=>some (.len x)
    | some .string=>some (.lens x)
    | _=>none)
   | _=>none)
  | .builtin .append,some [x,y]=>(match c.argTypes.toList with
   | [s,t]=>if s == t then (match P.underlying s with
    | some (.slice e)=>(match P.info? e with
     | some i=>if 0<i.size&&(i.zero.any fun z=>z.cells.size == i.size) then some (if mu&&CW x then .DA i.size i.bytes e y else .app i.size i.bytes e x y) else none
     | none=>none)
    | _=>none) else (match P.underlying s,P.underlying t with
    | some (.slice e),some (.int _)=>(match P.info? e with
     | some i=>(match i.zero.bind av with
      | some z=>if z.flat&&z.cells.length == i.size&&0<i.size then some (.Aj i.size i.bytes e z x y) else none
      | none=>none)
     | none=>none)
    | _,_=>none)
   | _=>none)
  | .builtin .cap,some [x]=>(match c.argTypes.toList with
   | [t]=>(match P.underlying t with
    | some (.slice _)=>some (.pu .Df [x])
    | _=>none)
   | _=>none)
  | .builtin .copy,some [x,y]=>(match c.argTypes.toList with
   | [s,t]=>(match P.underlying s,P.underlying t with
    | some (.slice e),some (.slice _)=>(match P.info? e with
     | some i=>if 0<i.size then some (.E5 i.size x y) else none
     | none=>none)
    | _,_=>none)
   | _=>none)
  | .builtin .clear,some [x]=>(match c.argTypes.toList with
   | [t]=>(match P.underlying t with
    | some (.slice e)=>(match P.info? e with
     | some i=>(match i.zero.bind av with
      | some z=>if z.flat&&z.cells.length == i.size&&0<i.size then some (.JV i.size z x) else none
      | none=>none)
     | none=>none)
    | _=>none)
   | _=>none)
  | .builtin .panic,_=>some (.pu .never [])
  | .builtin .min,some (x :: xs)=>some (.AQ false x xs)
  | .builtin .max,some (x :: xs)=>some (.AQ true x xs)
  | .value (.func f),some as=>if O5 P f then some (.call f as) else none
  | .value (.tmp s),some as=>some (.dz (.t s) as)
  | _,_=>none
 | _=>none
def RG (sv:Bool):aN→aN
 | .mv x=>if sv then .Mm x else .mv x
 | op=>op
def sQ (P:Program) (ms:Bool × Bool) (ty:TypeId) (o:Op):Option aN:=(cP P ms.1 ty o).map (RG ms.2)
def Mq (n:Nat):Option Nat→Bool
 | some d=>decide (d<n)
 | none=>true
def Sw (mt:List Nat):Option Nat→Bool × Bool
 | some d=>(mt.contains d,mt.contains (2000000+d))
 | none=>(false,false)
def direct (o:Oper):List Nat:=(o.after.toList.filter fun e=>Region.binds .any e).map (·.on)
def closure (ops:List Oper):List (List Nat):=
 ops.foldl (fun cs o=>cs++[((direct o)++(direct o).flatMap fun u=>cs.getD u []).eraseDups]) []
def cO (P:Program) (mt:List Nat) (n:Nat) (ops:Array Oper) (af:List Nat) (o:Oper):Option aR:=
 match sQ P (Sw mt o.dst) o.type o.op with
 | none=>none
 | some op=>
  if Mq n o.dst then
   match o.guard with
   | none=>some ⟨o.dst,op,none,af⟩
   | some (j,w)=>match (ops[j]?).bind (·.dst) with
    | some s=>if s<n then some ⟨o.dst,op,some (s,w),af⟩ else none
    | none=>none
  else none
def bp (P:Program) (mt:List Nat) (n:Nat) (ops:Array Oper):List (List Nat)→List Oper→Option (List aR)
 | _,[]=>some []
 | cs,o :: r=>match cO P mt n ops (cs.headD []) o,bp P mt n ops cs.tail r with
  | some a,some as=>some (a :: as)
  | _,_=>none
def aR.lk (o:aR):List Nat:=match o.gd with
 | some (s,_)=>s :: o.op.looks
 | none=>o.op.looks
def Li (d:Option Nat) (l:List Nat):Bool:=match d with
 | some i=>!l.contains i
 | none=>true
def TJ:Option Nat→Option Nat→Bool
 | some i,some j=>!(i == j)
 | _,_=>true
def sW (x y:aR):Bool:=Li x.d y.lk&&Li y.d x.lk&&TJ x.d y.d
def uU:Nat→List aR→Bool
 | _,[]=>true
 | i,o :: r=>r.all (fun q=>q.af.contains i||sW o q)&&uU (i+1) r
def p8 (l:List aR) (i:Nat) (o:Oper) (r:aR):Bool:=
 (direct o).all (fun u=>decide (u<i))&&r.af.all fun x=>(direct o).contains x||(direct o).any fun u=>match l[u]? with
  | some q=>q.af.contains x
  | none=>false
def j8 (l:List aR):Nat→List Oper→List aR→Bool
 | i,o :: os,r :: rs=>p8 l i o r&&j8 l (i+1) os rs
 | _,_,_=>true
def FI (ops:List Oper) (l:List aR) (k:Nat):Bool:=(k == l.length||l.all fun o=>!o.op.new)&&uU 0 l&&j8 l 0 ops l&&decide (l.length≤xt)
def xu (s:HS):List HS→List HS
 | []=>[s]
 | a :: L=>if s.o.af.contains a.p||L.any (fun b=>s.o.af.contains b.p) then a :: xu s L else s :: a :: L
def hoist:List HS→List HS→List HS
 | acc,[]=>acc
 | acc,s :: L=>hoist (if s.o.op.lt then xu s acc else acc++[s]) L
def pJ (l:List aR):List HS:=(l.zipIdx).map fun x=>⟨x.2,x.1⟩
def wN (s:HS):List HS→List HS
 | []=>[s]
 | a :: L=>if a.o.af.contains s.p then s :: a :: L else a :: wN s L
def jz:List HS→List HS
 | []=>[]
 | s :: L=>if s.o.op.al then wN s (jz L) else s :: jz L
def ui (l:List aR):List HS:=jz (hoist [] (pJ l))
def IJ (ops:List Oper) (a s:HS):Bool:=decide (a.p≠s.p)&&(match ops[a.p]? with | some o=>!(direct o).contains s.p | none=>true)&&(s.o.af.contains a.p||(a.o.op.lt&&sW a.o s.o)||s.o.op.al)
 && (!s.o.op.al||(s.o.gd.isNone&&s.o.d.isSome&&sW a.o s.o))
def xZ (ops:List Oper):List HS→Bool
 | []=>true
 | a :: L=>L.all (IJ ops a)&&xZ ops L
def CY (ops:List Oper) (l:List aR):Bool:=xZ ops (ui l)&&(ui l).all (fun s=>!s.o.op.al||(s.o.gd.isNone&&s.o.d.isSome))&&j8 l 0 ops l
def Ge (l:List aR):Nat:=if l.any fun o=>o.op.new then l.length else 0
def GD (P:Program) (mt:List Nat) (n:Nat) (ops:Array Oper) (draw:Bool):Option az:=
 if draw then match bp P mt n ops (closure ops.toList) ops.toList with
  | some l=>if mt.contains 1000000&&P.follows .mixedOrders&&CY ops.toList l then some (.aE (ui l)) else
   if P.follows .mixedOrders&&FI ops.toList l (Ge l) then some (.region l (some (Ge l))) else none
  | none=>none
 else (bp P mt n ops [] ops.toList).map fun l=>.region l none
def Lt:Code→Option (Nat × Nat)
 | .region _ ops false=>match ops.toList with
  | [o]=>match o.dst,o.op,o.guard with
   | some d,.assign (.tmp t),none=>some (t,d)
   | _,_,_=>none
  | _=>none
 | _=>none
def Jv:Code→Option (Array Oper)
 | .region _ ops false=>some ops
 | _=>none
def dw:Code→Bool
 | .seq a b=>dw a&&dw b
 | .cond _ a b=>dw a&&dw b
 | .block _ a=>dw a
 | .loop a=>dw a
 | .rangeFunc ..=>false
 | _=>true
def comp (P:Program) (mt:List Nat) (n:Nat):Code→Option az
 | .skip=>some .skip
 | .region _ ops draw=>GD P mt n ops draw
 | .seq a b=>match comp P mt n a,comp P mt n b with
  | some a,some b=>some (.seq a b)
  | _,_=>none
 | .cond c a b=>match ax c,comp P mt n a,comp P mt n b with
  | some c,some a,some b=>some (.cond c a b)
  | _,_,_=>none
 | .block id a=>(comp P mt n a).map (.block id)
 | .loop a=>(comp P mt n a).map .loop
 | .exit id=>some (.exit id)
 | .ret=>some .ret
 | .rangeFunc g ps assign body=>match ax g,ps.toList,Lt assign,comp P mt n body with
  | some x,[t],some (t',d),some b=>if t'=t∧t<n∧d<n∧dw body=true then some (.Cv (TM P) x t d b) else none
  | some x,t1 :: t2 :: ts,_,some b=>(match Jv assign with
   | some ops=>(match bp P mt n ops [] ops.toList with
    | some l=>if (t1 :: t2 :: ts).all (fun t=>decide (t<n))=true∧dw body=true then some (.Cu (TL P) x (t1 :: t2 :: ts) l b) else none
    | none=>none)
   | none=>none)
  | _,_,_,_=>none
 | _=>none
end Go.Ab
