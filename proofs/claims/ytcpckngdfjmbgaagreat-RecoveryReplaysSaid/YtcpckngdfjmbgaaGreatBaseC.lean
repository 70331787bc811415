/- OWN WORK, put together by tools/asm.py, seat.py, mini.py. -/
import Derived.Test.YtcpckngdfjmbgaaGreatBaseB
import Derived.RangeFuncKeeps
namespace Go.Ab
open Go.RowKit
inductive AX where
 | t (s:Nat)
 | c (v:AV)
 deriving Inhabited
def AX.ev (e:Nat→AV):AX→AV
 | .t s=>e s
 | .c v=>v
inductive Ky where
 | bit (op:BinOp)
 | Bb
 | vI (ag:Bool) (sz off:Nat)
 | IB (ag:Bool) (es n:Nat)
 | Ml (es n:Nat)
 | Ty
 | D6
 | never
 deriving Inhabited
inductive aO where
 | mv (x:AX)
 | pick (c a b:AX)
 | alloc (es:Nat) (ty:TypeId) (z:AV)
 | box (es:Nat) (ty:TypeId) (x:AX)
 | build (zs:List AV) (ps:List (Nat × Nat × AX))
 | lit (mu:Bool) (es:Nat) (ty:TypeId) (xs:List AX)
 | load (ag:Bool) (sz:Nat) (x:AX)
 | store (sz:Nat) (x v:AX)
 | bc (x:AX)
 | bin (op:BinOp) (x y:AX)
 | Ij (neg:Bool) (x y:AX)
 | un (op:UnOp) (x:AX)
 | conv (k:IntKind) (x:AX)
 | H9 (f:Nat) (caps:List AX)
 | fa (off:Nat) (x:AX)
 | bG (es:Nat) (x i:AX)
 | ext (x:AX) (i:Nat)
 | len (x:AX)
 | lens (x:AX)
 | app (es bytes:Nat) (ty:TypeId) (x y:AX)
 | Fa (mx:Bool) (x:AX) (xs:List AX)
 | qP (es:Nat) (x:AX) (lo hi:Option AX)
 | tF (x:AX) (lo hi:Option AX)
 | call (f:Nat) (args:List AX)
 | dI (x:AX) (args:List AX)
 | fu (es:Nat) (ty:TypeId)
 | eqs (neg:Bool) (ks:List Nat) (x y:AX)
 | pu (p:Ky) (xs:List AX)
 | lf (neg:Bool) (x:AX)
 | LQ (mu:Bool) (es bytes:Nat) (ty:TypeId) (z:AV) (x:AX)
 | Lr (es:Nat) (x h:AX)
 | F9 (es:Nat) (x y:AX)
 | KT (es:Nat) (z:AV) (x:AX)
 | Iz (x:AX)
 | LD (mu:Bool) (ty:TypeId) (x:AX)
 | O2 (x:AX)
 | A3 (es bytes:Nat) (ty:TypeId) (z:AV) (x y:AX)
 | Ge (es:Nat) (x lo hi mx:AX)
 | Eu (es bytes:Nat) (ty:TypeId) (y:AX)
 | C6 (es n:Nat) (x:AX) (lo hi:Option AX)
 | nC
 | dm (x k v:AX)
 | fm (ok:Bool) (z:AV) (x k:AX)
 | LR (f:Nat) (fs:List AX)
 deriving Inhabited
def aO.new:aO→Bool
 | .alloc .. | .box .. | .lit .. | .app .. | .fu .. | .LQ .. | .Lr .. | .LD .. | .A3 .. | .Eu .. | .nC=>true
 | _=>false
def aO.nd:aO→Bool
 | .lf .. | .Lr .. | .F9 .. | .KT .. | .LD .. | .A3 .. | .Eu .. | .dm .. | .fm ..=>true
 | _=>false
def AX.lk:AX→List Nat
 | .t s=>[s]
 | .c _=>[]
def KQ (l:List AX):List Nat:=l.flatMap AX.lk
def OO:Option AX→List Nat
 | some x=>x.lk
 | none=>[]
def aO.looks:aO→List Nat
 | .mv x=>x.lk
 | .pick c a b=>c.lk++(a.lk++b.lk)
 | .alloc ..=>[]
 | .box _ _ x=>x.lk
 | .build _ ps=>KQ (ps.map fun p=>p.2.2)
 | .lit _ _ _ xs=>KQ xs
 | .load _ _ x=>x.lk
 | .store _ x v=>x.lk++v.lk
 | .bc x=>x.lk
 | .bin _ x y=>x.lk++y.lk
 | .Ij _ x y=>x.lk++y.lk
 | .un _ x=>x.lk
 | .conv _ x=>x.lk
 | .H9 _ l=>KQ l
 | .fa _ x=>x.lk
 | .bG _ x i=>x.lk++i.lk
 | .ext x _=>x.lk
 | .len x=>x.lk
 | .lens x=>x.lk
 | .app _ _ _ x y=>x.lk++y.lk
 | .Fa _ x l=>x.lk++KQ l
 | .qP _ x lo hi=>x.lk++(OO lo++OO hi)
 | .tF x lo hi=>x.lk++(OO lo++OO hi)
 | .call _ l=>KQ l
 | .dI x l=>x.lk++KQ l
 | .fu ..=>[]
 | .eqs _ _ x y=>x.lk++y.lk
 | .pu _ l=>KQ l
 | .lf _ x=>x.lk
 | .LQ _ _ _ _ _ x=>x.lk
 | .Lr _ x h=>x.lk++h.lk
 | .F9 _ x y=>x.lk++y.lk
 | .KT _ _ x=>x.lk
 | .Iz x=>x.lk
 | .LD _ _ x=>x.lk
 | .O2 x=>x.lk
 | .A3 _ _ _ _ x y=>x.lk++y.lk
 | .Ge _ x l h m=>x.lk++(l.lk++(h.lk++m.lk))
 | .Eu _ _ _ y=>y.lk
 | .C6 _ _ x lo hi=>x.lk++(OO lo++OO hi)
 | .nC=>[]
 | .dm x k v=>x.lk++(k.lk++v.lk)
 | .fm _ _ x k=>x.lk++k.lk
 | .LR _ l=>KQ l
def AV.kR:AV→List Nat
 | .sl id ..=>[id]
 | .fG id ..=>[id]
 | .za id ..=>[id]
 | .ptr id ..=>[id]
 | _=>[]
def aO.dY (e:Nat→AV):aO→List Nat
 | .load _ _ x=>(x.ev e).kR
 | .store _ x _=>(x.ev e).kR
 | .bG _ x _=>(x.ev e).kR
 | .qP _ x _ _=>(x.ev e).kR
 | .app _ _ _ x y=>(x.ev e).kR++(y.ev e).kR
 | .Iz x=>(x.ev e).kR
 | _=>[]
def Mk (id:Nat):AV→List Nat
 | .nil=>[id]
 | v=>v.kR
def aO.lY (e:Nat→AV) (id:Nat):aO→List Nat
 | .store _ x _=>(x.ev e).kR
 | .app _ _ _ x _=>Mk id (x.ev e)
 | .alloc .. | .box .. | .lit .. | .fu .. | .nC=>[id]
 | .LQ true ..=>[id]
 | _=>[]
structure aU where
 d:Option Nat
 op:aO
 gd:Option (Nat × Bool)
 af:List Nat
 deriving Inhabited
def aO.lt:aO→Bool
 | .store .. | .call .. | .dI ..=>false
 | .lit false ..=>true
 | op=>!op.new&&!op.nd
def aO.al:aO→Bool
 | .alloc ..=>true
 | _=>false
structure HS where
 p:Nat
 o:aU
 deriving Inhabited
def EO:AV→Option Value
 | .bool b=>some (.bool b)
 | .int k n=>some (.int k n)
 | .str s=>some (.string s)
 | _=>none
def yX (ps:List Addr) (xs:List AV) (w:World):Prop:=ps.length=xs.length∧∀ (i:Nat) (p:Addr) (x:AV),ps[i]?=some p→xs[i]?=some x→p.spot=none∧∃ v,EO x=some v∧w.cell? p=some v
def Vc (P:Program) (f:Nat) (xs:List AV) (vs:List Int):Prop:=
 (∀ args w,(callFunc f args).run P w=.ok (.enter f args) w)∧∀ (k:Nat) (w:World) (ps:List Addr),yX ps xs w→
  SeqStopsK (α:={x:Int // x∈vs}) Fence.wide k P f (ps.map fun p=>Value.pointer (some p)).toArray (fun x=>#[.int .i64 x.1]) (fun A B=>yX ps xs A→yX ps xs B)
   (fun l=>l.map (·.1)=vs) (fun l=>l.map (·.1) <+: vs) vs.length w
def UM (S:Nat→Prop) (w:World) (as:List AV) (vs:Array Value):Prop:=vs.size=as.length∧∀ (j:Nat) (y:AV) (v:Value),as[j]?=some y→vs[j]?=some v→VP S w y v
def Vb (P:Program) (f:Nat) (caps:List AV) (vs:List (List AV)):Prop:=
 (∀ args w,(callFunc f args).run P w=.ok (.enter f args) w)∧∀ (k:Nat) (S:Nat→Prop) (w:World) (cs:Array Value),(∀ b,S b→b<w.heap.size)→UM S w caps cs→
  ∃ us:Nat→Array Value,(∀ i v,vs[i]?=some v→UM S w v (us i))∧
   SeqStopsK (α:={i:Nat // i<vs.length}) Fence.wide k P f cs (fun x=>us x.1) (fun A B=>∀ b,S b→B.heap[b]?=A.heap[b]?)
    (fun l=>l.map (·.1)=List.range vs.length) (fun l=>l.map (·.1) <+: List.range vs.length) vs.length w
inductive ay where
 | skip
 | region (ops:List aU) (dr:Option Nat)
 | seq (a b:ay)
 | cond (c:AX) (a b:ay)
 | block (id:Nat) (a:ay)
 | loop (a:ay)
 | exit (id:Nat)
 | ret
 | aB (l:List HS)
 deriving Inhabited
inductive EX where
 | lN | ret | exit (id:Nat)
def sub (ag:Bool) (sz off:Nat) (y:AV):AV:=if ag then .agg ((y.cells.drop off).take sz) else y.cells.getD off .bF
def fI (off:Nat) (v y:AV):AV:=match y with
 | .agg cs=>.agg (cs.take off++v.cells++cs.drop (off+v.cells.length))
 | _=>v
def AV.eK:AV→Bool
 | .sl .. | .fG .. | .za .. | .ptr .. | .jr .. | .bF | .agg _ | .tuple _ | .func ..=>false
 | _=>true
def AV.cQ:AV→Bool
 | .agg cs=>cs.all AV.eK
 | .tuple cs=>cs.all fun | .agg ds=>ds.all AV.eK | a=>a.eK
 | .func _ cs=>cs.all AV.eK
 | a=>a.eK
def As (cs:List AV):List (Nat × AV)→List AV
 | []=>cs
 | (off,v) :: r=>As (cs.take off++v.cells++cs.drop (off+v.cells.length)) r
def cg (σ:St) (x:AV) (K:List AV→Prop):Prop:=match x with
 | .nil=>K []
 | .list _ l=>K l
 | .sl id g es off n=>∃ o,σ.ob id=some o∧o.g=g∧o.es=es∧off+n≤o.l.length∧K ((o.l.drop off).take n)
 | .fG id g es off n _=>∃ o,σ.ob id=some o∧o.g=g∧o.es=es∧off+n≤o.l.length∧K ((o.l.drop off).take n)
 | _=>False
def qK (op:BinOp) (x y:AV) (K:AV→Prop):Prop:=match x,y with
 | .int k a,.int k' b=>
  (match op with
  | .add=>k=k'∧K (.int k (k.wrap (a+b)))
  | .sub=>k=k'∧K (.int k (k.wrap (a-b)))
  | .mul=>k=k'∧K (.int k (k.wrap (a * b)))
  | .quo=>k=k'∧b≠0∧K (.int k (k.wrap (a.tdiv b)))
  | .rem=>k=k'∧b≠0∧K (.int k (a.tmod b))
  | .eql=>k=k'∧K (.bool (decide (a=b)))
  | .neq=>k=k'∧K (.bool (!decide (a=b)))
  | .lss=>k=k'∧K (.bool (decide (a<b)))
  | .leq=>k=k'∧K (.bool (decide (a≤b)))
  | .gtr=>k=k'∧K (.bool (decide (b<a)))
  | .geq=>k=k'∧K (.bool (decide (b≤a)))
  | _=>False)
 | .str a,.str b=>
  (match op with
  | .add=>a.size+b.size≤9223372036854775807∧K (.str (a++b))
  | .eql=>K (.bool (decide (a=b)))
  | .neq=>K (.bool (!decide (a=b)))
  | _=>False)
 | _,_=>False
def oL (n:Nat) (lo hi:Option AV) (K:Nat→Nat→Prop):Prop:=match lo,hi with
 | none,none=>K 0 n
 | some (.int _ l),none=>0≤l∧l≤n∧K l.toNat n
 | none,some (.int _ h)=>0≤h∧h≤n∧K 0 h.toNat
 | some (.int _ l),some (.int _ h)=>0≤l∧l≤h∧h≤n∧K l.toNat h.toNat
 | _,_=>False
def wS (n c:Nat) (lo hi:Option AV) (K:Nat→Nat→Prop):Prop:=match lo,hi with
 | none,none=>K 0 n
 | some (.int _ l),none=>0≤l∧l≤n∧K l.toNat n
 | none,some (.int _ h)=>0≤h∧h≤c∧K 0 h.toNat
 | some (.int _ l),some (.int _ h)=>0≤l∧l≤h∧h≤c∧K l.toNat h.toNat
 | _,_=>False
def eI (es:Nat) (σ:St) (x:AV) (lo hi:Option AV) (K:AV→Prop):Prop:=match x with
 | .nil=>oL 0 lo hi fun _ _=>K .nil
 | .list es' ls=>es'=es∧oL ls.length lo hi fun l h=>K (.list es ((ls.take h).drop l))
 | .sl id g es' off n=>es'=es∧(∃ o,σ.ob id=some o∧o.g=g)∧oL n lo hi fun l h=>(l=h→K (.list es []))∧(l<h→K (.sl id g es (off+l) (h-l)))
 | .fG id g es' off n c=>es'=es∧off+n≤c∧wS n (c-off) lo hi fun l h=>(l=c-off→K (.list es []))∧(l<c-off→K (.fG id g es (off+l) (h-l) c))
 | _=>False
def tD (x:AV) (lo hi:Option AV) (K:AV→Prop):Prop:=match x with
 | .str s=>oL s.size lo hi fun l h=>K (.str (s.extract l h))
 | _=>False
def eX (mx:Bool):AV→List AV→(AV→Prop)→Prop
 | a,[],K=>K a
 | .int k a,.int k' b :: r,K=>k=k'∧eX mx (.int k (if mx then max a b else min a b)) r K
 | _,_,_=>False
abbrev eH:=Nat→List AV→St→(AV→St→Prop)→Prop
def pO (c a b:AV) (σ:St) (K:AV→St→Prop):Prop:=match c with
 | .bool t=>(t=true→K a σ)∧(t=false→K b σ)
 | _=>False
def O7 (es:Nat) (ty:TypeId) (v:AV) (σ:St) (K:AV→St→Prop):Prop:=v.flat=true∧v.cells.length=es∧K (.ptr σ.n σ.c es 0 0) (σ.push es ty [v])
def AH (zs:List AV) (ps:List (Nat × Nat × AV)) (σ:St) (K:AV→St→Prop):Prop:=
 (∀ p∈ps,p.2.2.flat=true∧p.2.2.cells.length=p.2.1∧p.1+p.2.1≤zs.length)∧K (.agg (As zs (ps.map fun p=>(p.1,p.2.2)))) σ
def Gx (mu:Bool) (es:Nat) (ty:TypeId) (vs:List AV) (σ:St) (K:AV→St→Prop):Prop:=
 (∀ v∈vs,v.flat=true∧v.cells.length=es∧(mu=false→v.cQ=true))∧(if mu then K (.sl σ.n σ.c es 0 vs.length) (σ.push es ty vs) else K (.list es vs) σ)
def uD (ag:Bool) (sz:Nat) (x:AV) (σ:St) (K:AV→St→Prop):Prop:=match x with
 | .ptr id g es i off=>∃ o,σ.ob id=some o∧o.g=g∧o.es=es∧off+sz≤es∧∃ y,o.l[i]?=some y∧K (sub ag sz off y) σ
 | .eO es l i off=>off+sz≤es∧∃ y,l[i]?=some y∧K (sub ag sz off y) σ
 | _=>False
def sM (sz:Nat) (x v:AV) (σ:St) (K:AV→St→Prop):Prop:=match x with
 | .ptr id g es i off=>∃ o,σ.ob id=some o∧o.g=g∧o.es=es∧o.ro=false∧v.flat=true∧v.cells.length=sz∧off+sz≤es∧
   ∃ y,o.l[i]?=some y∧K .bF (σ.put id o (o.l.set i (fI off v y)))
 | _=>False
def iM (x:AV) (σ:St) (K:AV→St→Prop):Prop:=match x with
 | .ptr .. | .eO .. | .func .. | .qd ..=>K x σ
 | _=>False
def Fo (neg:Bool) (x y:AV) (σ:St) (K:AV→St→Prop):Prop:=match x,y with
 | .bool a,.bool b=>K (.bool (if neg then !decide (a=b) else decide (a=b))) σ
 | _,_=>False
def yR:List Nat→List AV→List AV→Option Bool
 | [],[],[]=>some true
 | 0 :: ks,.int k a :: r,.int k' b :: s=>if k=k' then (yR ks r s).map fun t=>decide (a=b)&&t else none
 | 1 :: ks,.bool a :: r,.bool b :: s=>(yR ks r s).map fun t=>decide (a=b)&&t
 | 2 :: ks,.str a :: r,.str b :: s=>(yR ks r s).map fun t=>decide (a=b)&&t
 | _,_,_=>none
def BK (neg:Bool) (ks:List Nat) (x y:AV) (σ:St) (K:AV→St→Prop):Prop:=match x,y with
 | .agg cs,.agg ds=>∃ b,yR ks cs ds=some b∧K (.bool (if neg then !b else b)) σ
 | _,_=>False
def BM (op:BinOp) (k:IntKind) (a:Int) (k':IntKind) (b:Int):Option AV:=match op with
 | .and=>if k=k' then some (.int k (k.wrap (BitVec.ofInt k.bits a &&& BitVec.ofInt k.bits b).toNat)) else none
 | .or=>if k=k' then some (.int k (k.wrap (BitVec.ofInt k.bits a ||| BitVec.ofInt k.bits b).toNat)) else none
 | .shl=>if 0≤b then some (.int k (k.wrap (a * 2 ^ min b.toNat k.bits))) else none
 | .shr=>if 0≤b then some (.int k (a.fdiv (2 ^ min b.toNat k.bits))) else none
 | _=>none
def Jh:Ky→List AV→Option AV
 | .bit op,[.int k a,.int k' b]=>BM op k a k' b
 | .Bb,[.str s,.int _ i]=>if 0≤i then (s[i.toNat]?).map fun b=>.int .u8 b.toNat else none
 | .vI ag sz off,[.agg cs]=>if off+sz≤cs.length then some (sub ag sz off (.agg cs)) else none
 | .IB ag es n,[.agg cs,.int _ i]=>if 0≤i∧i<n∧(i.toNat+1) * es≤cs.length then some (sub ag es (i.toNat * es) (.agg cs)) else none
 | .Ml es n,[.ptr id g es' i o,.int _ x]=>if 0≤x∧x<n then some (.ptr id g es' i (o+x.toNat * es)) else none
 | .Ml es n,[.eO es' l i o,.int _ x]=>if 0≤x∧x<n then some (.eO es' l i (o+x.toNat * es)) else none
 | .Ty,[_]=>some .bF
 | .D6,[.nil]=>some (.int .i64 0)
 | .D6,[.fG _ _ _ off _ c]=>some (.int .i64 ((c-off:Nat):Int))
 | _,_=>none
def Nf (p:Ky) (xs:List AV) (σ:St) (K:AV→St→Prop):Prop:=∃ v,Jh p xs=some v∧K v σ
def Af (neg:Bool) (x:AV) (σ:St) (K:AV→St→Prop):Prop:=match x with
 | .nil=>K (.bool (!neg)) σ
 | .list _ []=>K (.bool true) σ∧K (.bool false) σ
 | .list _ (_ :: _)=>K (.bool neg) σ
 | .sl _ _ _ _ n=>(n=0→K (.bool true) σ∧K (.bool false) σ)∧(0<n→K (.bool neg) σ)
 | _=>False
def H8 (mu:Bool) (es bytes:Nat) (ty:TypeId) (z x:AV) (σ:St) (K:AV→St→Prop):Prop:=match x with
 | .int _ n=>0≤n∧n≤9223372036854775807∧bytes * n.toNat≤281474976710656∧
   (if mu then K (.sl σ.n σ.c es 0 n.toNat) (σ.push es ty (List.replicate n.toNat z)) else K (.list es (List.replicate n.toNat z)) σ)
 | _=>False
def Oj (es:Nat) (x h:AV) (σ:St) (K:AV→St→Prop):Prop:=match x,h with
 | .sl id g es' off n,.int _ hi=>es'=es∧off=0∧0≤hi∧hi≤n∧∃ o,σ.ob id=some o∧o.g=g∧o.es=es∧o.ro=false∧n≤o.l.length∧
   K (.sl id σ.c es 0 hi.toNat) (σ.renew id o (o.l.take hi.toNat))
 | _,_=>False
def J5 (es:Nat) (x y:AV) (σ:St) (K:AV→St→Prop):Prop:=match x,y with
 | .fG id g e1 off n _,.fG id2 g2 e2 off2 n2 _=>e1=es∧e2=es∧0<min n2 n∧∃ o2,σ.ob id2=some o2∧o2.g=g2∧o2.es=es∧off2+min n2 n≤o2.l.length∧
   ∃ o,σ.ob id=some o∧o.g=g∧o.es=es∧o.ro=false∧off≤o.l.length∧K (.int .i64 (min n2 n:Nat)) (σ.put id o (o.l.take off++(o2.l.drop off2).take (min n2 n)++o.l.drop (off+min n2 n)))
 | _,_=>False
def D4 (es:Nat) (x y:AV) (σ:St) (K:AV→St→Prop):Prop:=J5 es x y σ K∨
 ((∀ es' l,y=.list es' l→es'=es)∧(∀ id g es' off n,(y=.sl id g es' off n∨∃ c,y=.fG id g es' off n c)→es'=es)∧cg σ y fun l=>
   (match x with
   | .nil=>K (.int .i64 0) σ
   | .list _ []=>K (.int .i64 0) σ
   | .sl id g es' off n=>es'=es∧∃ o,σ.ob id=some o∧o.g=g∧o.es=es∧o.ro=false∧off+n≤o.l.length∧
     K (.int .i64 (min l.length n:Nat)) (σ.put id o (o.l.take off++l.take n++o.l.drop (off+min l.length n)))
   | .fG id g es' off n _=>es'=es∧0<min l.length n∧∃ o,σ.ob id=some o∧o.g=g∧o.es=es∧o.ro=false∧off≤o.l.length∧
     K (.int .i64 (min l.length n:Nat)) (σ.put id o (o.l.take off++l.take n++o.l.drop (off+min l.length n)))
   | _=>False))
def Iu (es:Nat) (z x:AV) (σ:St) (K:AV→St→Prop):Prop:=match x with
 | .nil=>K (.tuple []) σ
 | .list _ []=>K (.tuple []) σ
 | .sl id g es' off n=>es'=es∧∃ o,σ.ob id=some o∧o.g=g∧o.es=es∧o.ro=false∧off+n≤o.l.length∧
   K (.tuple []) (σ.put id o (o.l.take off++List.replicate n z++o.l.drop (off+n)))
 | .fG id g es' off n _=>es'=es∧∃ o,σ.ob id=some o∧o.g=g∧o.es=es∧o.ro=false∧off+n≤o.l.length∧
   K (.tuple []) (σ.put id o (o.l.take off++List.replicate n z++o.l.drop (off+n)))
 | _=>False
def oK:List AV→Option (List UInt8)
 | []=>some []
 | .int .u8 n :: r=>(oK r).map (UInt8.ofNat n.toNat :: ·)
 | _=>none
def yE (x:AV) (σ:St) (K:AV→St→Prop):Prop:=
 (∀ es' l,x=.list es' l→es'=1)∧(∀ id g es' off n,(x=.sl id g es' off n∨∃ c,x=.fG id g es' off n c)→es'=1)∧cg σ x fun l=>∃ s,oK l=some s∧K (.str ⟨s.toArray⟩) σ
def F0 (es bytes:Nat) (ty:TypeId) (z x y:AV) (σ:St) (K:AV→St→Prop):Prop:=match x,y with
 | .nil,.int _ n=>0<n∧n≤9223372036854775807∧n.toNat * bytes≤140737488355328∧K (.sl σ.n σ.c es 0 n.toNat) (σ.push es ty (List.replicate n.toNat z))
 | .fG id g es' off n0 c,.int _ n=>es'=es∧0<n∧c-off<n0+n.toNat∧n0+n.toNat≤9223372036854775807∧(n0+n.toNat) * bytes≤140737488355328∧
   ∃ o,σ.ob id=some o∧o.g=g∧o.es=es∧off+n0≤o.l.length∧K (.sl σ.n σ.c es 0 (n0+n.toNat)) (σ.push es ty ((o.l.drop off).take n0++List.replicate n.toNat z))
 | _,_=>False
def y9 (es:Nat) (x l h m:AV) (σ:St) (K:AV→St→Prop):Prop:=match x,l,h,m with
 | .sl _ _ es' _ n,.int _ a,.int _ b,.int _ c=>es'=es∧0≤a∧a≤b∧b≤c∧c≤n∧K .bF σ
 | .list es' ls,.int _ a,.int _ b,.int _ c=>es'=es∧0≤a∧a≤b∧b≤c∧c≤ls.length∧K .bF σ
 | .fG _ _ es' _ n _,.int _ a,.int _ b,.int _ c=>es'=es∧0≤a∧a≤b∧b≤c∧c≤n∧K .bF σ
 | _,_,_,_=>False
def Nl (es bytes:Nat) (ty:TypeId) (y:AV) (σ:St) (K:AV→St→Prop):Prop:=
 (∀ es' l,y=.list es' l→es'=es)∧(∀ id g es' off n,(y=.sl id g es' off n∨∃ c,y=.fG id g es' off n c)→es'=es)∧cg σ y fun l=>
  l.length≤maxLen∧l.length * bytes≤140737488355328∧K (.sl σ.n σ.c es 0 l.length) (σ.push es ty l)
def pA (s:ByteArray):List AV:=s.data.toList.map fun b=>.int .u8 b.toNat
def OC (mu:Bool) (ty:TypeId) (x:AV) (σ:St) (K:AV→St→Prop):Prop:=match x with
 | .str s=>s.size≤140737488355328∧(if mu then K (.sl σ.n σ.c 1 0 s.size) ⟨bd σ.ob σ.n (some ⟨σ.c,1,ty,false,false,pA s⟩),σ.n+1,σ.c+1⟩ else K (.list 1 (pA s)) σ)
 | _=>False
def M3 (op:UnOp) (x:AV) (σ:St) (K:AV→St→Prop):Prop:=match op,x with
 | .not,.bool b=>K (.bool (!b)) σ
 | .neg,.int k n=>K (.int k (k.wrap (0-n))) σ
 | _,_=>False
def Az (k:IntKind) (x:AV) (σ:St) (K:AV→St→Prop):Prop:=match x with
 | .int _ n=>K (.int k (k.wrap n)) σ
 | _=>False
def L6 (off:Nat) (x:AV) (σ:St) (K:AV→St→Prop):Prop:=match x with
 | .ptr id g es i o=>K (.ptr id g es i (o+off)) σ
 | .eO es l i o=>K (.eO es l i (o+off)) σ
 | _=>False
def wB (es:Nat) (x i:AV) (σ:St) (K:AV→St→Prop):Prop:=match x,i with
 | .sl id g es' off n,.int _ ix=>es'=es∧(∃ o,σ.ob id=some o∧o.g=g)∧0≤ix∧ix<n∧K (.ptr id g es (off+ix.toNat) 0) σ
 | .list es' l,.int _ ix=>es'=es∧0≤ix∧ix<l.length∧K (.eO es l ix.toNat 0) σ
 | .za id g es' i off ee n,.int _ ix=>ee=es∧0≤ix∧ix<n∧K (.ptr id g es' i (off+ix.toNat * ee)) σ
 | .fG id g es' off n _,.int _ ix=>es'=es∧0≤ix∧ix<n∧K (.ptr id g es (off+ix.toNat) 0) σ
 | _,_=>False
def uK (x:AV) (i:Nat) (σ:St) (K:AV→St→Prop):Prop:=match x with
 | .tuple vs=>∃ v,vs[i]?=some v∧K v σ
 | _=>False
def im (x:AV) (σ:St) (K:AV→St→Prop):Prop:=match x with
 | .nil=>K (.int .i64 0) σ
 | .list _ l=>K (.int .i64 l.length) σ
 | .sl _ _ _ _ n=>K (.int .i64 n) σ
 | .fG _ _ _ _ n _=>K (.int .i64 n) σ
 | .za _ _ _ _ _ _ n=>K (.int .i64 n) σ
 | _=>False
def zY (x:AV) (σ:St) (K:AV→St→Prop):Prop:=match x with
 | .str s=>K (.int .i64 s.size) σ
 | _=>False
def m0 (es bytes:Nat) (ty:TypeId) (x y:AV) (σ:St) (K:AV→St→Prop):Prop:=
 (∀ es' l,y=.list es' l→es'=es)∧(∀ id g es' off n,(y=.sl id g es' off n∨∃ c,y=.fG id g es' off n c)→es'=es)∧cg σ y fun l=>
   (match x with
   | .nil=>l.length≤maxLen∧l.length * bytes≤140737488355328∧(l=[]→K .nil σ)∧(l≠[]→K (.sl σ.n σ.c es 0 l.length) (σ.push es ty l))
   | .sl id g es' off n=>es'=es∧off=0∧∃ o,σ.ob id=some o∧o.g=g∧o.es=es∧o.ty=ty∧o.ro=false∧o.ap=true∧o.l.length=n∧
     n+l.length≤maxLen∧(n+l.length) * bytes≤140737488355328∧K (.sl id σ.c es 0 (n+l.length)) (σ.renew id o (o.l++l))
   | .fG id g es' off n c=>es'=es∧(l=[]→K (.fG id g es off n c) σ)∧(l≠[]→∃ o,σ.ob id=some o∧o.g=g∧o.es=es∧o.ro=false∧off+(n+l.length)≤o.l.length∧off+(n+l.length)≤c∧
     K (.fG id g es off (n+l.length) c) (σ.put id o (o.l.take (off+n)++l++o.l.drop (off+n+l.length))))
   | .fl es' l0=>es'=es∧(∀ z∈l0++l,z.cQ=true)∧l0.length+l.length≤maxLen∧(l0.length+l.length) * bytes≤140737488355328∧K (.list es (l0++l)) σ
   | _=>False)
def keyOf:AV→Int
 | .agg (.int _ a :: _)=>a
 | _=>0
def valOf:AV→AV
 | .agg [_,x]=>x
 | _=>.bF
def xo (kk:IntKind):AV→Bool
 | .agg [.int k' _,_]=>decide (k'=kk)
 | _=>false
def cS (kk:IntKind) (l:List AV):Bool:=l.all (xo kk)
def mR (n:Int):List AV→Option AV
 | []=>none
 | y :: r=>if n=keyOf y then some (valOf y) else mR n r
def et (kk:IntKind) (n:Int) (x:AV):List AV→List AV
 | []=>[.agg [.int kk n,x]]
 | y :: r=>if n=keyOf y then .agg [.int kk n,x] :: r else if n<keyOf y then .agg [.int kk n,x] :: y :: r else y :: et kk n x r
def qT (x k v:AV) (σ:St) (K:AV→St→Prop):Prop:=match x,k with
 | .jr id g,.int kk n=>v.one=true∧∃ o,σ.ob id=some o∧o.g=g∧o.ro=false∧cS kk o.l=true∧K .bF (σ.put id o (et kk n v o.l))
 | _,_=>False
def uB (ok:Bool) (z:AV) (r:Option AV):AV:=if ok then .tuple [r.getD z,.bool r.isSome] else r.getD z
def uC (ok:Bool) (z x k:AV) (σ:St) (K:AV→St→Prop):Prop:=match x,k with
 | .jr id g,.int kk n=>∃ o,σ.ob id=some o∧o.g=g∧cS kk o.l=true∧K (uB ok z (mR n o.l)) σ
 | .kV,.int _ _=>K (uB ok z none) σ
 | _,_=>False
def y8 (es n:Nat) (x:AV) (lo hi:Option AV) (σ:St) (K:AV→St→Prop):Prop:=match x with
 | .ptr id g es' i off=>oL n lo hi fun l h=>(l=n→K (.list es []) σ)∧(l<n→K (.za id g es' i (off+l * es) es (h-l)) σ)
 | _=>False
def jy (op:BinOp) (x y:AV) (σ:St) (K:AV→St→Prop):Prop:=qK op x y fun v=>K v σ
def DJ (mx:Bool) (x:AV) (xs:List AV) (σ:St) (K:AV→St→Prop):Prop:=eX mx x xs fun v=>K v σ
def ji (es:Nat) (x:AV) (lo hi:Option AV) (σ:St) (K:AV→St→Prop):Prop:=eI es σ x lo hi fun v=>K v σ
def tE (x:AV) (lo hi:Option AV) (σ:St) (K:AV→St→Prop):Prop:=tD x lo hi fun v=>K v σ
def mX (H:eH) (x:AV) (args:List AV) (σ:St) (K:AV→St→Prop):Prop:=match x with
 | .func f caps=>H f (args++caps) σ K
 | .qd f fs=>H f (fs++args) σ K
 | _=>False
def qn (e:Nat→AV) (l:List AX):List AV:=l.map fun x=>x.ev e
def DS (e:Nat→AV) (x:Option AX):Option AV:=x.map fun y=>y.ev e
def KS (e:Nat→AV) (ps:List (Nat × Nat × AX)):List (Nat × Nat × AV):=ps.map fun p=>(p.1,p.2.1,p.2.2.ev e)
def ar (H:eH) (op:aO) (e:Nat→AV) (σ:St) (K:AV→St→Prop):Prop:=match op with
 | .mv x=>K (x.ev e) σ
 | .pick c a b=>pO (c.ev e) (a.ev e) (b.ev e) σ K
 | .alloc es ty z=>K (.ptr σ.n σ.c es 0 0) (σ.push es ty [z])
 | .box es ty x=>O7 es ty (x.ev e) σ K
 | .build zs ps=>AH zs (KS e ps) σ K
 | .lit mu es ty xs=>Gx mu es ty (qn e xs) σ K
 | .load ag sz x=>uD ag sz (x.ev e) σ K
 | .store sz x v=>sM sz (x.ev e) (v.ev e) σ K
 | .bc x=>iM (x.ev e) σ K
 | .bin op x y=>jy op (x.ev e) (y.ev e) σ K
 | .Ij neg x y=>Fo neg (x.ev e) (y.ev e) σ K
 | .un op x=>M3 op (x.ev e) σ K
 | .conv k x=>Az k (x.ev e) σ K
 | .H9 f caps=>K (.func f (qn e caps)) σ
 | .fa off x=>L6 off (x.ev e) σ K
 | .bG es x i=>wB es (x.ev e) (i.ev e) σ K
 | .ext x i=>uK (x.ev e) i σ K
 | .len x=>im (x.ev e) σ K
 | .lens x=>zY (x.ev e) σ K
 | .app es bytes ty x y=>m0 es bytes ty (x.ev e) (y.ev e) σ K
 | .Fa mx x xs=>DJ mx (x.ev e) (qn e xs) σ K
 | .qP es x lo hi=>ji es (x.ev e) (DS e lo) (DS e hi) σ K
 | .tF x lo hi=>tE (x.ev e) (DS e lo) (DS e hi) σ K
 | .call f args=>H f (qn e args) σ K
 | .dI x args=>mX H (x.ev e) (qn e args) σ K
 | .fu es ty=>K (.sl σ.n σ.c es 0 0) (σ.push es ty [])
 | .eqs neg ks x y=>BK neg ks (x.ev e) (y.ev e) σ K
 | .pu p xs=>Nf p (qn e xs) σ K
 | .lf neg x=>Af neg (x.ev e) σ K
 | .LQ mu es bytes ty z x=>H8 mu es bytes ty z (x.ev e) σ K
 | .Lr es x h=>Oj es (x.ev e) (h.ev e) σ K
 | .F9 es x y=>D4 es (x.ev e) (y.ev e) σ K
 | .KT es z x=>Iu es z (x.ev e) σ K
 | .Iz x=>yE (x.ev e) σ K
 | .LD mu ty x=>OC mu ty (x.ev e) σ K
 | .O2 x=>∃ s,x.ev e=.str s∧K (.str s) σ
 | .A3 es b ty z x y=>F0 es b ty z (x.ev e) (y.ev e) σ K
 | .Ge es x l h m=>y9 es (x.ev e) (l.ev e) (h.ev e) (m.ev e) σ K
 | .Eu es b ty y=>Nl es b ty (y.ev e) σ K
 | .C6 es n x lo hi=>y8 es n (x.ev e) (DS e lo) (DS e hi) σ K
 | .nC=>K (.jr σ.n σ.c) ⟨bd σ.ob σ.n (some ⟨σ.c,2,rW,false,false,[]⟩),σ.n+1,σ.c+1⟩
 | .dm x k v=>qT (x.ev e) (k.ev e) (v.ev e) σ K
 | .fm ok z x k=>uC ok z (x.ev e) (k.ev e) σ K
 | .LR f fs=>(∀ z∈qn e fs,z.cQ=true)∧K (.qd f (qn e fs)) σ
def bM (e:Nat→AV) (d:Option Nat) (v:AV):Nat→AV:=match d with
 | some i=>bd e i v
 | none=>e
def G0 (k:(Nat→AV)→St→Prop) (e:Nat→AV) (d:Option Nat) (v:AV) (σ:St):Prop:=k (bM e d v) σ
def GZ (H:eH) (op:aO) (d:Option Nat) (k:(Nat→AV)→St→Prop) (e:Nat→AV) (σ:St):Prop:=ar H op e σ (G0 k e d)
def tq (d:Option Nat) (k:(Nat→AV)→St→Prop) (e:Nat→AV) (σ:St):Prop:=k (bM e d (.tuple [])) σ
def s8 (_s:Nat) (w:Bool) (A B:(Nat→AV)→St→Prop) (g:AV) (e:Nat→AV) (σ:St):Prop:=match g with
 | .tuple []=>B e σ
 | .bool b=>(b=w→A e σ)∧(b=!w→B e σ)
 | _=>False
def runs (H:eH):List aU→((Nat→AV)→St→Prop)→(Nat→AV)→St→Prop
 | [],K,e,σ=>K e σ
 | o :: r,K,e,σ=>match o.gd with
  | none=>ar H o.op e σ (G0 (runs H r K) e o.d)
  | some (s,w)=>s8 s w (GZ H o.op o.d (runs H r K)) (tq o.d (runs H r K)) (e s) e σ
def tag (p:Nat) (ids:List Nat):List (Nat × Nat):=ids.map fun i=>(p,i)
def bz (af:List Nat) (xs:List (Nat × Nat)) (ids:List Nat):Prop:=∀ x∈xs,af.contains x.1=true∨∀ i∈ids,x.2≠i
def aO.cq (e:Nat→AV):aO→Option (Nat × List AV)
 | .call f l=>some (f,qn e l)
 | .dI x l=>match x.ev e with
  | .func f caps=>some (f,qn e l++caps)
  | .qd f fs=>some (f,fs++qn e l)
  | _=>none
 | _=>none
def No (H:eH) (f:Nat) (args:List AV) (ob:Nat→Option aV) (r:AV) (rd:List Nat) (wr:Option (Nat × aV)):Prop:=
 r.cQ=true∧match wr with
 | none=>∀ ob' n c,(∀ i∈rd,ob' i=ob i)→H f args ⟨ob',n,c⟩ fun v τ=>v=r∧τ=⟨ob',n,c⟩
 | some (id,o')=>(∃ o,ob id=some o∧o.g=o'.g∧o.ro=o'.ro)∧(∀ x∈o'.l,x.cQ=true)∧id∈rd∧∀ ob' n c,(∀ i∈rd,ob' i=ob i)→H f args ⟨ob',n,c⟩ fun v τ=>v=r∧τ=⟨bd ob' id (some o'),n,c⟩
def eM (ob:Nat→Option aV):Option (Nat × aV)→Nat→Option aV
 | none=>ob
 | some (i,o)=>bd ob i (some o)
def dZ:Option (Nat × aV)→List Nat
 | none=>[]
 | some (i,_)=>[i]
def RA (H:eH) (f:Nat) (args:List AV) (af:List Nat) (rs ws:List (Nat × Nat)) (p n c:Nat) (kk:List (Nat × Nat)→List (Nat × Nat)→AV→St→Prop) (ob:Nat→Option aV):Prop:=
 ∃ r rd wr,No H f args ob r rd wr∧bz af ws (rd++dZ wr)∧bz af rs (dZ wr)∧kk (rs++tag p rd) (ws++tag p (dZ wr)) r ⟨eM ob wr,n,c⟩
def qp (H:eH) (op:aO) (af:List Nat) (rs ws:List (Nat × Nat)) (p n c:Nat) (kk:List (Nat × Nat)→List (Nat × Nat)→AV→St→Prop) (e:Nat→AV) (ob:Nat→Option aV):Prop:=
 op.nd=false∧bz af ws (op.dY e++op.lY e n)∧bz af rs (op.lY e n)∧ar H op e ⟨ob,n,c⟩ (kk (rs++tag p (op.dY e)) (ws++tag p (op.lY e n)))
abbrev yg:Nat:=1000000007
def cC (af:List Nat) (xs:List (Nat × Nat)) (id:Nat):Prop:=∀ x∈xs,af.contains x.1=true∨x.2≠id∨yg≤x.1
def dmap (x k v:AV) (af:List Nat) (rs ws:List (Nat × Nat)) (p n c:Nat) (kk:List (Nat × Nat)→List (Nat × Nat)→AV→St→Prop) (ob:Nat→Option aV):Prop:=match x,k with
 | .jr id g,.int kq q=>v.one=true∧cC af ws id∧cC af rs id∧∃ o,ob id=some o∧o.g=g∧o.ro=false∧cS kq o.l=true∧mR q o.l=none∧
   kk rs (ws++[(yg+p,id)]) .bF ⟨bd ob id (some { o with l:=et kq q v o.l }),n,c⟩
 | _,_=>False
def aO.pz:aO→Option (AX × AX × AX)
 | .dm x k v=>some (x,k,v)
 | _=>none
def tt (H:eH) (op:aO) (af:List Nat) (rs ws:List (Nat × Nat)) (p n c:Nat) (kk:List (Nat × Nat)→List (Nat × Nat)→AV→St→Prop) (e:Nat→AV) (ob:Nat→Option aV):Prop:=
 match op.pz with
 | some (x,k,v)=>dmap (x.ev e) (k.ev e) (v.ev e) af rs ws p n c kk ob
 | none=>match op.cq e with
  | some (f,args)=>RA H f args af rs ws p n c kk ob
  | none=>qp H op af rs ws p n c kk e ob
def CZ (k:List (Nat × Nat)→List (Nat × Nat)→(Nat→AV)→St→Prop) (e:Nat→AV) (d:Option Nat) (rs ws:List (Nat × Nat)) (v:AV) (σ:St):Prop:=k rs ws (bM e d v) σ
def Ez (H:eH) (op:aO) (d:Option Nat) (af:List Nat) (rs ws:List (Nat × Nat)) (p n c:Nat) (k:List (Nat × Nat)→List (Nat × Nat)→(Nat→AV)→St→Prop) (e:Nat→AV) (σ:St):Prop:=
 tt H op af rs ws p n c (CZ k e d) e σ.ob
def gf (H:eH) (n0 c0 k0:Nat):List aU→Nat→((Nat→AV)→St→Prop)→List (Nat × Nat)→List (Nat × Nat)→(Nat→AV)→St→Prop
 | [],_,K,_,_,e,σ=>K e ⟨σ.ob,n0+k0,c0+k0⟩
 | o :: r,p,K,rs,ws,e,σ=>match o.gd with
  | none=>tt H o.op o.af rs ws p (n0+p) (c0+p) (CZ (gf H n0 c0 k0 r (p+1) K) e o.d) e σ.ob
  | some (s,w)=>s8 s w (Ez H o.op o.d o.af rs ws p (n0+p) (c0+p) (gf H n0 c0 k0 r (p+1) K)) (tq o.d (gf H n0 c0 k0 r (p+1) K rs ws)) (e s) e σ
def OI (H:eH) (ops:List aU) (dr:Option Nat) (K:(Nat→AV)→St→Prop) (e:Nat→AV) (σ:St):Prop:=
 (dr=none→runs H ops K e σ)∧∀ k,dr=some k→gf H σ.n σ.c k ops 0 K [] [] e σ
def cN (p:Nat) (l:List Nat):List (Nat × Nat):=l.map fun i=>(p,i)
def nH (af:List Nat) (R:List (Nat × Nat)) (ob ob':Nat→Option aV):Prop:=∀ x∈R,x.1∈af∨ob' x.2=ob x.2
def Ch (k:List (Nat × Nat)→(Nat→AV)→St→Prop) (R:List (Nat × Nat)) (e:Nat→AV) (d:Option Nat) (σ:St) (v:AV) (_τ:St):Prop:=k R (bM e d v) σ
def KB (k:List (Nat × Nat)→(Nat→AV)→St→Prop) (af:List Nat) (R:List (Nat × Nat)) (e:Nat→AV) (d:Option Nat) (ob:Nat→Option aV) (v:AV) (τ:St):Prop:=nH af R ob τ.ob∧k R (bM e d v) τ
def bp (H:eH) (p:Nat) (op:aO) (d:Option Nat) (af:List Nat) (k:List (Nat × Nat)→(Nat→AV)→St→Prop) (R:List (Nat × Nat)) (e:Nat→AV) (σ:St):Prop:=
 if op.lt then ar H op e σ (Ch k (R++cN p (op.dY e)) e d σ) else ar H op e σ (KB k af R e d σ.ob)
def Kz (H:eH) (p:Nat) (op:aO) (d:Option Nat) (af:List Nat) (k:List (Nat × Nat)→(Nat→AV)→St→Prop) (R:List (Nat × Nat)) (e:Nat→AV) (σ:St):Prop:=bp H p op d af k R e σ
def KA (d:Option Nat) (k:List (Nat × Nat)→(Nat→AV)→St→Prop) (R:List (Nat × Nat)) (e:Nat→AV) (σ:St):Prop:=k R (bM e d (.tuple [])) σ
def eF (H:eH) (s:HS) (R:List (Nat × Nat)) (k:List (Nat × Nat)→(Nat→AV)→St→Prop) (e:Nat→AV) (σ:St):Prop:=
 match s.o.gd with
 | none=>bp H s.p s.o.op s.o.d s.o.af k R e σ
 | some (g,w)=>s8 g w (Kz H s.p s.o.op s.o.d s.o.af k R) (KA s.o.d k R) (e g) e σ
def dT (H:eH):List HS→((Nat→AV)→St→Prop)→List (Nat × Nat)→(Nat→AV)→St→Prop
 | [],K,_,e,σ=>K e σ
 | s :: L,K,R,e,σ=>eF H s R (dT H L K) e σ
def lV:=EX→(Nat→AV)→St→Prop
def Cd (k:(Nat→AV)→St→Prop) (Q:lV):lV:=fun x e σ=>match x with
 | .lN=>k e σ
 | x=>Q x e σ
def jQ (id:Nat) (Q:lV):lV:=fun x e σ=>match x with
 | .exit i=>if i=id then Q .lN e σ else Q (.exit i) e σ
 | x=>Q x e σ
def sL (n k:Nat) (I:Nat→(Nat→AV)→St→Prop) (Q:lV):lV:=fun x e σ=>match x with
 | .lN=>∃ k',k' < k∧∃ nt,n≤nt∧I k' e (σ.aE nt)
 | x=>Q x e σ
def qq (c:AV) (a b:(Nat→AV)→St→Prop) (e:Nat→AV) (σ:St):Prop:=match c with
 | .bool t=>(t=true→a e σ)∧(t=false→b e σ)
 | _=>False
def RM (σ:St) (caps xs:List AV):Prop:=caps.length=xs.length∧∀ (i:Nat) (c x:AV),caps[i]?=some c→xs[i]?=some x→
 (∃ v,EO x=some v)∧∃ id g o,c=.ptr id g 1 0 0∧σ.ob id=some o∧o.g=g∧o.es=1∧o.l=[x]
def xF (σ σ1:St):Prop:=∀ k o,σ1.ob k=some o→o.ty=rW→∃ k' o',σ.ob k'=some o'∧o'.g=o.g
def Pd (n:Nat) (I:List Int→St→Prop) (Ix:EX→List Int→St→Prop) (pre:List Int):lV:=fun x _ σ=>match x with
 | .lN=>∃ nt,n≤nt∧I pre (σ.aE nt)
 | x=>∃ nt,n≤nt∧Ix x pre (σ.aE nt)
def Ts (It:Nat→List AV→List Int→Prop) (g:AV) (B:lV→(Nat→AV)→St→Prop) (t d:Nat) (Q:lV) (e:Nat→AV) (σ:St):Prop:=match g with
 | .func f caps=>∃ xs vs,It f xs vs∧∃ (I:List Int→St→Prop) (Ix:EX→List Int→St→Prop),I [] σ∧(∀ pre σ1,I pre σ1→RM σ1 caps xs∧xF σ σ1)∧(∀ x pre σ1,x≠.lN→Ix x pre σ1→xF σ σ1)∧
   (∀ pre i σ1,i∈vs→pre.length<vs.length→I pre σ1→B (Pd σ.n I Ix (pre++[i])) (bd (bd e t (.int .i64 i)) d (.int .i64 i)) σ1)∧
   (∀ σ1,I vs σ1→Q .lN e σ1)∧∀ x pre σ1,x≠.lN→pre <+: vs→Ix x pre σ1→Q x e σ1
 | _=>False
def Oh (e:Nat→AV):List Nat→List AV→Nat→AV
 | t :: ts,v :: vs=>Oh (bd e t v) ts vs
 | _,_=>e
def Ms (n:Nat) (Ip:List Nat→Prop) (Is:St→Prop) (Ix:EX→List Nat→St→Prop) (pre:List Nat):lV:=fun x _ σ=>match x with
 | .lN=>Ip pre∧∃ nt,n≤nt∧Is (σ.aE nt)
 | x=>∃ nt,n≤nt∧Ix x pre (σ.aE nt)
def Mt (σ0:St) (Ip:List Nat→Prop) (Is:St→Prop) (N:Nat) (B:List Nat→(Nat→AV)→St→Prop) (e:Nat→AV) (σ:St):Prop:=
 (∃ nt,σ0.n≤nt∧Is (σ.aE nt))∧xF σ0 σ∧∀ pre,Ip pre→pre.length<N→B pre e σ
def SH (It:Nat→List AV→List (List AV)→Prop) (g:AV) (A:((Nat→AV)→St→Prop)→(Nat→AV)→St→Prop) (B:lV→(Nat→AV)→St→Prop) (ts:List Nat) (Q:lV) (e:Nat→AV) (σ:St):Prop:=match g with
 | .func f caps=>(AV.func f caps).cQ=true∧∃ vs,It f caps vs∧(∀ v∈vs,v.length=ts.length)∧∃ (Ip:List Nat→Prop) (Is:St→Prop) (Ix:EX→List Nat→St→Prop),Ip []∧Is σ∧(∀ σ1,Is σ1→xF σ σ1)∧(∀ x pre σ1,x≠.lN→Ix x pre σ1→xF σ σ1)∧
   (∀ i v σ1,vs[i]?=some v→Is σ1→A (Mt σ Ip Is vs.length fun pre=>B (Ms σ.n Ip Is Ix (pre++[i]))) (Oh e ts v) σ1)∧
   (Ip (List.range vs.length)→∀ σ1,Is σ1→Q .lN e σ1)∧∀ x pre σ1,x≠.lN→pre <+: List.range vs.length→Ix x pre σ1→Q x e σ1
 | _=>False
def oc (H:eH):ay→lV→(Nat→AV)→St→Prop
 | .skip,Q,e,σ=>Q .lN e σ
 | .region ops dr,Q,e,σ=>OI H ops dr (Q .lN) e σ
 | .seq a b,Q,e,σ=>oc H a (Cd (oc H b Q) Q) e σ
 | .cond c a b,Q,e,σ=>qq (c.ev e) (oc H a Q) (oc H b Q) e σ
 | .block id a,Q,e,σ=>oc H a (jQ id Q) e σ
 | .loop a,Q,e,σ=>∃ (I:Nat→(Nat→AV)→St→Prop),(∃ k,I k e σ)∧∀ k e1 σ1,I k e1 σ1→oc H a (sL σ.n k I Q) e1 σ1
 | .exit id,Q,e,σ=>Q (.exit id) e σ
 | .ret,Q,e,σ=>Q .ret e σ
 | .aB l,Q,e,σ=>dT H l (Q .lN) [] e σ
def PY:Value→Option AV
 | .bool b=>some (.bool b)
 | .int k n=>some (.int k n)
 | .string s=>some (.str s)
 | .slice none 0 0=>some .nil
 | .pointer none=>some .jq
 | .nilFunc=>some .fP
 | .map none=>some .kV
 | _=>none
def Mh:List Value→Option (List AV)
 | []=>some []
 | v :: r=>match PY v,Mh r with
  | some a,some as=>some (a :: as)
  | _,_=>none
def av:Value→Option AV
 | .agg cs=>(Mh cs.toList).map .agg
 | v=>PY v
def ax:Operand→Option AX
 | .tmp t=>some (.t t)
 | .const v=>(av v).map .c
 | .func f=>some (.c (.func f []))
 | .global _=>none
def Cb:List Operand→Option (List AX)
 | []=>some []
 | x :: r=>match ax x,Cb r with
  | some a,some as=>some (a :: as)
  | _,_=>none
def CQ:Option Operand→Option (Option AX)
 | none=>some none
 | some x=>(ax x).map some
def Ar (P:Program) (F:TypeId→Option (List Nat)):Nat→List Field→Option (List Nat)
 | _,[]=>some []
 | i, f :: fs => if f.offset == i && !(f.name == "_") then match F f.type with
  | some k=>if (P.info? f.type).map (·.size) == some k.length then (Ar P F (i+k.length) fs).map (k++·) else none
  | none=>none
  else none
def nJ (P:Program):Nat→TypeId→Option (List Nat)
 | 0,_=>none
 | d+1,t=>match P.underlying t with
  | some (.int _)=>some [0]
  | some .bool=>some [1]
  | some .string=>some [2]
  | some (.struct fs)=>if P.stoodInHeld t then none else Ar P (nJ P d) 0 fs.toList
  | _=>none
def bL:TypeDesc→Bool
 | .struct _ | .array _ _=>true
 | _=>false
def partsOf (P:Program) (fields:Array Field):List (Nat × Operand)→Option (List (Nat × Nat × AX))
 | []=>some []
 | (k,x) :: r=>match fields[k]?,ax x,partsOf P fields r with
  | some f,some a,some as=>match P.info? f.type with
   | some i=>some ((f.offset,i.size,a) :: as)
   | none=>none
  | _,_,_=>none
def vQ (n sz:Nat):List (Nat × Operand)→Option (List (Nat × Nat × AX))
 | []=>some []
 | (k,x) :: r=>match ax x,vQ n sz r with
  | some a,some as=>if k<n then some ((k * sz,sz,a) :: as) else none
  | _,_=>none
def okF (P:Program) (f:Nat):Bool:=match P.funcs[f]? with
 | some fn => fn.body.isSome && !(fn.name == "runtime.NumGoroutine")
 | none=>false
def PW (P:Program) (f:Nat):Bool:=match P.funcs[f]? with
 | some fn => !(fn.name == "runtime.NumGoroutine")
 | none=>false
theorem sS {P:Program} {f:Nat} (h:okF P f=true):PW P f=true:=by
 unfold okF at h
 unfold PW
 split at h
 ·rename_i fn hf
  simp only [Bool.and_eq_true] at h
  simpa [hf] using h.2
 ·cases h
def HF (P:Program) (ty:TypeId) (x:Operand):Option aO:=match x with
 | .const (.slice none 0 0)=>match P.underlying ty with
  | some (.slice e)=>match P.info? e with
   | some i=>if 0<i.size then some (.fu i.size e) else none
   | none=>none
  | _=>none
 | _=>none
def GM (P:Program) (mu:Bool) (ty:TypeId) (x:Operand):Option aO:=match mu,HF P ty x with
 | true,some op=>some op
 | _,_=>(ax x).map .mv
def Ib (P:Program) (e:TypeId):Bool:=match P.underlying e with
 | some (.int .u8)=>match P.info? e with
  | some i=>i.size == 1&&i.bytes == 1
  | none=>false
 | _=>false
def isIface:TypeDesc→Bool
 | .interface _=>true
 | _=>false
def I3:AX→AX→Bool
 | .t a,.t b=>a == b
 | .c (.int _ a),.c (.int _ b)=>a == b
 | _,_=>false
def DN:AX→Bool
 | .c .nil=>true
 | _=>false
def Jz (P:Program) (t:TypeId):Option AV:=match P.underlying t with
 | some (.map k e)=>match P.underlying k,P.info? e with
  | some (.int _),some i=>match i.zero.bind av with
   | some z=>if z.one&&z.cQ then some z else none
   | none=>none
  | _,_=>none
 | _=>none
def GC:Option Operand→Bool
 | none=>true
 | some (.const (.int _ _))=>true
 | _=>false
def da (P:Program) (mu:Bool) (ty:TypeId):Op→Option aO
 | .move x | .assign x=>GM P mu ty x
 | .pick c a b=>match ax c,ax a,ax b with
  | some c,some a,some b=>some (.pick c a b)
  | _,_,_=>none
 | .alloc t=>match P.info? t with
  | some i=>match i.zero.bind av with
   | some z=>if z.flat&&z.cells.length == i.size&&0<i.size then some (.alloc i.size t z) else none
   | none=>none
  | none=>none
 | .box t x=>match P.info? t,ax x with
  | some i,some a=>if 0<i.size then some (.box i.size t a) else none
  | _,_=>none
 | .build t parts=>match P.underlying t,(P.info? t).bind fun i=>i.zero.bind av with
  | some (.struct fields),some (.agg zs)=>if fields.all fun f=>(P.info? f.type).isSome then (partsOf P fields parts.toList).map (.build zs) else none
  | some (.array n el),some (.agg zs)=>match P.info? el with
   | some ei=>(vQ n ei.size parts.toList).map (.build zs)
   | none=>none
  | _,_=>none
 | .buildSlice t len parts=>match P.underlying t with
  | some (.slice e)=>match P.info? e,Cb (parts.toList.map (·.2)) with
   | some i,some xs=>if parts.toList.map (·.1) == List.range len&&len * i.size≤16777216&&0<i.size&&(i.zero.any fun z=>z.cells.size == i.size) then some (.lit mu i.size e xs) else none
   | _,_=>none
  | _=>none
 | .load t x=>match P.underlying t,P.info? t,ax x with
  | some d,some i,some a=>if bL d then some (.load true i.size a) else some (.load false 1 a)
  | _,_,_=>none
 | .store t x v=>match P.info? t,ax x,ax v with
  | some i,some a,some b=>if 0<i.size then some (.store i.size a b) else none
  | _,_,_=>none
 | .nilCheck x=>(ax x).map .bc
 | .binOp op t x y _=>match P.underlying t,ax x,ax y with
  | some (.int _),some a,some b=>(match op with
   | .and | .or | .shl | .shr=>some (.pu (.bit op) [a,b])
   | _=>some (.bin op a b))
  | some .string,some a,some b=>some (.bin op a b)
  | some .bool,some a,some b=>(match op with
   | .eql=>some (.Ij false a b)
   | .neq=>some (.Ij true a b)
   | _=>none)
  | some (.struct _),some a,some b=>if !P.eqGuardType P.depth t then (match op,nJ P 5 t with
   | .eql,some ks=>some (.eqs false ks a b)
   | .neq,some ks=>some (.eqs true ks a b)
   | _,_=>none) else none
  | some (.slice _),some a,some b=>(match op,y with
   | .eql,.const (.slice none 0 0)=>some (.lf false a)
   | .neq,.const (.slice none 0 0)=>some (.lf true a)
   | _,_=>none)
  | _,_,_=>none
 | .unOp op _ x=>(ax x).map (.un op)
 | .convert s t x=>match P.underlying s,P.underlying t,ax x with
  | some (.int _),some (.int k),some a=>some (.conv k a)
  | some .string,some .string,some a=>some (.O2 a)
  | some .string,some (.slice e),some a=>if Ib P e then some (.LD mu e a) else none
  | some (.slice e),some .string,some a=>if Ib P e then some (.Iz a) else none
  | _,_,_=>none
 | .makeInterface t x=>match P.underlying t,ax x with
  | some d,some a=>if isIface d then none else some (.pu .Ty [a])
  | _,_=>none
 | .field t x i=>match P.underlying t,ax x with
  | some (.struct fields),some a=>match fields[i]? with
   | some f=>match P.underlying f.type,P.info? f.type with
    | some d,some fi=>some (.pu (.vI (bL d) (if bL d then fi.size else 1) f.offset) [a])
    | _,_=>none
   | none=>none
  | _,_=>none
 | .index t x i=>match P.underlying t,ax x,ax i with
  | some (.array n el),some a,some b=>match P.underlying el,P.info? el with
   | some d,some ei=>if 0<ei.size then some (.pu (.IB (bL d) ei.size n) [a,b]) else none
   | _,_=>none
  | some .string,some a,some b=>some (.pu .Bb [a,b])
  | _,_,_=>none
 | .makeSlice t l c=>match P.underlying t,ax l,ax c with
  | some (.slice el),some a,some b=>match P.info? el with
   | some i=>match i.zero.bind av with
    | some z=>if z.flat&&z.cells.length == i.size&&0<i.size&&I3 a b then some (.LQ mu i.size i.bytes el z a) else none
    | none=>none
   | none=>none
  | _,_,_=>none
 | .panic _=>some (.pu .never [])
 | .makeMap t r=>if (Jz P t).isSome&&GC r then some .nC else none
 | .mapUpdate t m k x | .insert t m k x=>match Jz P t,ax m,ax k,ax x with
  | some _,some a,some b,some c=>some (.dm a b c)
  | _,_,_,_=>none
 | .lookup t x k ok=>match Jz P t,ax x,ax k with
  | some z,some a,some b=>some (.fm ok z a b)
  | _,_,_=>none
 | .makeFunc (.func f) first caps=>if first.isEmpty then (Cb caps.toList).map (.H9 f) else if caps.isEmpty then (Cb first.toList).map (.LR f) else none
 | .fieldAddr t x f=>match P.underlying t,ax x with
  | some (.struct fields),some a=>match fields[f]? with
   | some fl=>match P.info? fl.type with
    | some i=>if 0<i.size then some (.fa fl.offset a) else none
    | none=>none
   | none=>none
  | _,_=>none
 | .indexAddr t x i=>match P.underlying t,ax x,ax i with
  | some (.slice e),some a,some b=>match P.info? e with
   | some ei=>some (.bG ei.size a b)
   | none=>none
  | some (.array n e),some a,some b=>match P.info? e with
   | some ei=>some (.pu (.Ml ei.size n) [a,b])
   | none=>none
  | _,_,_=>none
 | .extract x i=>(ax x).map fun a=>.ext a i
 | .slice t x lo hi none=>match P.underlying t,ax x,CQ lo,CQ hi with
  | some (.slice e),some a,some l,some h=>match P.info? e with
   | some ei=>(match mu,l,h with
    | true,none,some h=>if 0<ei.size then some (.Lr ei.size a h) else none
    | _,_,_=>some (.qP ei.size a l h))
   | none=>none
  | some .string,some a,some l,some h=>some (.tF a l h)
  | some (.pointer arr),some a,some l,some h=>match P.underlying arr with
   | some (.array n el)=>(match P.info? el with
    | some ei=>if 0<ei.size then some (.C6 ei.size n a l h) else none
    | none=>none)
   | _=>none
  | some (.array n el),some a,some l,some h=>(match P.info? el with
   | some ei=>if 0<ei.size then some (.C6 ei.size n a l h) else none
   | none=>none)
  | _,_,_,_=>none
 | .slice t x (some lo) (some hi) (some mx)=>match P.underlying t,ax x,ax lo,ax hi,ax mx with
  | some (.slice e),some a,some l,some h,some m=>match P.info? e with
   | some ei=>some (.Ge ei.size a l h m)
   | none=>none
  | _,_,_,_,_=>none
 | .call c=>match c.callee,Cb c.args.toList with
  | .builtin .len,some [x]=>(match c.argTypes.toList with
   | [t]=>(match P.underlying t with
    | some (.slice _)=>some (.len x)
    | some .string=>some (.lens x)
    | _=>none)
   | _=>none)
  | .builtin .append,some [x,y]=>(match c.argTypes.toList with
   | [s,t]=>if s == t then (match P.underlying s with
    | some (.slice e)=>(match P.info? e with
     | some i=>if 0<i.size&&(i.zero.any fun z=>z.cells.size == i.size) then some (if mu&&DN x then .Eu i.size i.bytes e y else .app i.size i.bytes e x y) else none
     | none=>none)
    | _=>none) else (match P.underlying s,P.underlying t with
    | some (.slice e),some (.int _)=>(match P.info? e with
     | some i=>(match i.zero.bind av with
      | some z=>if z.flat&&z.cells.length == i.size&&0<i.size then some (.A3 i.size i.bytes e z x y) else none
      | none=>none)
     | none=>none)
    | _,_=>none)
   | _=>none)
  | .builtin .cap,some [x]=>(match c.argTypes.toList with
   | [t]=>(match P.underlying t with
    | some (.slice _)=>some (.pu .D6 [x])
    | _=>none)
   | _=>none)
  | .builtin .copy,some [x,y]=>(match c.argTypes.toList with
   | [s,t]=>(match P.underlying s,P.underlying t with
    | some (.slice e),some (.slice _)=>(match P.info? e with
     | some i=>if 0<i.size then some (.F9 i.size x y) else none
     | none=>none)
    | _,_=>none)
   | _=>none)
  | .builtin .clear,some [x]=>(match c.argTypes.toList with
   | [t]=>(match P.underlying t with
    | some (.slice e)=>(match P.info? e with
     | some i=>(match i.zero.bind av with
      | some z=>if z.flat&&z.cells.length == i.size&&0<i.size then some (.KT i.size z x) else none
      | none=>none)
     | none=>none)
    | _=>none)
   | _=>none)
  | .builtin .panic,_=>some (.pu .never [])
  | .builtin .min,some (x :: xs)=>some (.Fa false x xs)
  | .builtin .max,some (x :: xs)=>some (.Fa true x xs)
  | .value (.func f),some as=>if PW P f then some (.call f as) else none
  | .value (.tmp s),some as=>some (.dI (.t s) as)
  | _,_=>none
 | _=>none
def td (P:Program) (ms:Bool × Bool) (ty:TypeId) (o:Op):Option aO:=da P ms.1 ty o
def Ni (n:Nat):Option Nat→Bool
 | some d=>decide (d<n)
 | none=>true
def Tx (mt:List Nat):Option Nat→Bool × Bool
 | some d=>(mt.contains d,mt.contains (2000000+d))
 | none=>(false,false)
def direct (o:Oper):List Nat:=(o.after.toList.filter fun e=>Region.binds .any e).map (·.on)
def closure (ops:List Oper):List (List Nat):=
 ops.foldl (fun cs o=>cs++[((direct o)++(direct o).flatMap fun u=>cs.getD u []).eraseDups]) []
def cV (P:Program) (mt:List Nat) (n:Nat) (ops:Array Oper) (af:List Nat) (o:Oper):Option aU:=
 match td P (Tx mt o.dst) o.type o.op with
 | none=>none
 | some op=>
  if Ni n o.dst then
   match o.guard with
   | none=>some ⟨o.dst,op,none,af⟩
   | some (j,w)=>match (ops[j]?).bind (·.dst) with
    | some s=>if s<n then some ⟨o.dst,op,some (s,w),af⟩ else none
    | none=>none
  else none
def bt (P:Program) (mt:List Nat) (n:Nat) (ops:Array Oper):List (List Nat)→List Oper→Option (List aU)
 | _,[]=>some []
 | cs,o :: r=>match cV P mt n ops (cs.headD []) o,bt P mt n ops cs.tail r with
  | some a,some as=>some (a :: as)
  | _,_=>none
def aU.lk (o:aU):List Nat:=match o.gd with
 | some (s,_)=>s :: o.op.looks
 | none=>o.op.looks
def Mc (d:Option Nat) (l:List Nat):Bool:=match d with
 | some i=>!l.contains i
 | none=>true
def UK:Option Nat→Option Nat→Bool
 | some i,some j=>!(i == j)
 | _,_=>true
def tn (x y:aU):Bool:=Mc x.d y.lk&&Mc y.d x.lk&&UK x.d y.d
def vD:Nat→List aU→Bool
 | _,[]=>true
 | i,o :: r=>r.all (fun q=>q.af.contains i||tn o q)&&vD (i+1) r
def qt (l:List aU) (i:Nat) (o:Oper) (r:aU):Bool:=
 (direct o).all (fun u=>decide (u<i))&&r.af.all fun x=>(direct o).contains x||(direct o).any fun u=>match l[u]? with
  | some q=>q.af.contains x
  | none=>false
def ko (l:List aU):Nat→List Oper→List aU→Bool
 | i,o :: os,r :: rs=>qt l i o r&&ko l (i+1) os rs
 | _,_,_=>true
def GG (ops:List Oper) (l:List aU) (k:Nat):Bool:=(k == l.length||l.all fun o=>!o.op.new)&&vD 0 l&&ko l 0 ops l&&decide (l.length≤yg)
def yh (s:HS):List HS→List HS
 | []=>[s]
 | a :: L=>if s.o.af.contains a.p||L.any (fun b=>s.o.af.contains b.p) then a :: yh s L else s :: a :: L
def hoist:List HS→List HS→List HS
 | acc,[]=>acc
 | acc,s :: L=>hoist (if s.o.op.lt then yh s acc else acc++[s]) L
def p7 (l:List aU):List HS:=(l.zipIdx).map fun x=>⟨x.2,x.1⟩
def xp (s:HS):List HS→List HS
 | []=>[s]
 | a :: L=>if a.o.af.contains s.p then s :: a :: L else a :: xp s L
def j9:List HS→List HS
 | []=>[]
 | s :: L=>if s.o.op.al then xp s (j9 L) else s :: j9 L
def uI (l:List aU):List HS:=j9 (hoist [] (p7 l))
def JJ (ops:List Oper) (a s:HS):Bool:=decide (a.p≠s.p)&&(match ops[a.p]? with | some o=>!(direct o).contains s.p | none=>true)&&(s.o.af.contains a.p||(a.o.op.lt&&tn a.o s.o)||s.o.op.al)
 && (!s.o.op.al||(s.o.gd.isNone&&s.o.d.isSome&&tn a.o s.o))
def yN (ops:List Oper):List HS→Bool
 | []=>true
 | a :: L=>L.all (JJ ops a)&&yN ops L
def DP (ops:List Oper) (l:List aU):Bool:=yN ops (uI l)&&(uI l).all (fun s=>!s.o.op.al||(s.o.gd.isNone&&s.o.d.isSome))&&ko l 0 ops l
def Ha (l:List aU):Nat:=if l.any fun o=>o.op.new then l.length else 0
def HE (P:Program) (mt:List Nat) (n:Nat) (ops:Array Oper) (draw:Bool):Option ay:=
 if draw then match bt P mt n ops (closure ops.toList) ops.toList with
  | some l=>if mt.contains 1000000&&P.follows .mixedOrders&&DP ops.toList l then some (.aB (uI l)) else
   if P.follows .mixedOrders&&GG ops.toList l (Ha l) then some (.region l (some (Ha l))) else none
  | none=>none
 else (bt P mt n ops [] ops.toList).map fun l=>.region l none
def RD:Code→Option (Nat × Nat)
 | .region _ ops false=>match ops.toList with
  | [o]=>match o.dst,o.op,o.guard with
   | some d,.assign (.tmp t),none=>some (t,d)
   | _,_,_=>none
  | _=>none
 | _=>none
def UL:Code→Option (Array Oper)
 | .region _ ops false=>some ops
 | _=>none
def fO:Code→Bool
 | .seq a b=>fO a&&fO b
 | .cond _ a b=>fO a&&fO b
 | .block _ a=>fO a
 | .loop a=>fO a
 | .rangeFunc ..=>false
 | _=>true
def comp (P:Program) (mt:List Nat) (n:Nat):Code→Option ay
 | .skip=>some .skip
 | .region _ ops draw=>HE P mt n ops draw
 | .seq a b=>match comp P mt n a,comp P mt n b with
  | some a,some b=>some (.seq a b)
  | _,_=>none
 | .cond c a b=>match ax c,comp P mt n a,comp P mt n b with
  | some c,some a,some b=>some (.cond c a b)
  | _,_,_=>none
 | .block id a=>(comp P mt n a).map (.block id)
 | .loop a=>(comp P mt n a).map .loop
 | .exit id=>some (.exit id)
 | .ret=>some .ret
 | _=>none
end Go.Ab
