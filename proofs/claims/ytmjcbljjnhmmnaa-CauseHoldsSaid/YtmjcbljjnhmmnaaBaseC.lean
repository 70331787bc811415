/- OWN WORK, put together by tools/asm.py, seat.py, mini.py. -/
import Derived.Test.YtmjcbljjnhmmnaaBaseB
import Derived.RangeFuncKeeps
namespace Go.Ab
open Go.RowKit
inductive AX where
 | t (s : Nat)
 | c (v : AV)
 deriving Inhabited
def AX.ev (e : Nat → AV) : AX → AV
 | .t s => e s
 | .c v => v
inductive PuOp where
 | bit (op : BinOp)
 | sidx
 | fld (ag : Bool) (sz off : Nat)
 | aidx (ag : Bool) (es n : Nat)
 | aixs (es n : Nat)
 | mki
 | cap0
 | never
 deriving Inhabited
inductive MpOp where
 | set2
 | get2 (ok : Bool) (z : AV)
 | del2
 | mlen
 | ent2 (z : AV)
 | sto2
 deriving Inhabited
inductive AOp where
 | mv (x : AX)
 | pick (c a b : AX)
 | alloc (es : Nat) (ty : TypeId) (z : AV)
 | box (es : Nat) (ty : TypeId) (x : AX)
 | build (zs : List AV) (ps : List (Nat × Nat × AX))
 | lit (mu : Bool) (es : Nat) (ty : TypeId) (xs : List AX)
 | load (ag : Bool) (sz : Nat) (x : AX)
 | store (sz : Nat) (x v : AX)
 | nilchk (x : AX)
 | bin (op : BinOp) (x y : AX)
 | eqb (neg : Bool) (x y : AX)
 | un (op : UnOp) (x : AX)
 | conv (k : IntKind) (x : AX)
 | mkf (f : Nat) (caps : List AX)
 | fa (off : Nat) (x : AX)
 | ixs (es : Nat) (x i : AX)
 | ext (x : AX) (i : Nat)
 | len (x : AX)
 | lens (x : AX)
 | app (es bytes : Nat) (ty : TypeId) (x y : AX)
 | mnx (mx : Bool) (x : AX) (xs : List AX)
 | slc (es : Nat) (x : AX) (lo hi : Option AX)
 | slcs (x : AX) (lo hi : Option AX)
 | call (f : Nat) (args : List AX)
 | callv (x : AX) (args : List AX)
 | newsl (es : Nat) (ty : TypeId)
 | eqs (neg : Bool) (ks : List Nat) (x y : AX)
 | pu (p : PuOp) (xs : List AX)
 | isnil (neg : Bool) (x : AX)
 | mks (mu : Bool) (es bytes : Nat) (ty : TypeId) (z : AV) (x : AX)
 | trn (es : Nat) (x h : AX)
 | cpy (es : Nat) (x y : AX)
 | clr (es : Nat) (z : AV) (x : AX)
 | b2s (x : AX)
 | s2b (mu : Bool) (ty : TypeId) (x : AX)
 | cvs (x : AX)
 | appz (es bytes : Nat) (ty : TypeId) (z : AV) (x y : AX)
 | slc3 (es : Nat) (x lo hi mx : AX)
 | appn (es bytes : Nat) (ty : TypeId) (y : AX)
 | slca (es n : Nat) (x : AX) (lo hi : Option AX)
 | mkmap
 | mapset (x k v : AX)
 | mapget (ok : Bool) (z : AV) (x k : AX)
 | slcf (es : Nat) (x h m : AX)
 | mvs (x : AX)
 | mkm (f : Nat) (fs : List AX)
 | mp (q : MpOp) (x : AX) (l : List AX)
 deriving Inhabited
def AOp.new : AOp → Bool
 | .alloc .. | .box .. | .lit .. | .app .. | .newsl .. | .mks .. | .trn .. | .s2b .. | .appz .. | .appn .. | .mkmap => true
 | _ => false
def AOp.nd : AOp → Bool
 | .isnil .. | .trn .. | .cpy .. | .clr .. | .s2b .. | .appz .. | .appn .. | .mapset .. | .mapget .. | .mvs .. | .mp .. => true
 | _ => false
def AX.lk : AX → List Nat
 | .t s => [s]
 | .c _ => []
def lks (l : List AX) : List Nat := l.flatMap AX.lk
def lko : Option AX → List Nat
 | some x => x.lk
 | none => []
def AOp.looks : AOp → List Nat
 | .mv x => x.lk
 | .pick c a b => c.lk ++ (a.lk ++ b.lk)
 | .alloc .. => []
 | .box _ _ x => x.lk
 | .build _ ps => lks (ps.map fun p => p.2.2)
 | .lit _ _ _ xs => lks xs
 | .load _ _ x => x.lk
 | .store _ x v => x.lk ++ v.lk
 | .nilchk x => x.lk
 | .bin _ x y => x.lk ++ y.lk
 | .eqb _ x y => x.lk ++ y.lk
 | .un _ x => x.lk
 | .conv _ x => x.lk
 | .mkf _ l => lks l
 | .fa _ x => x.lk
 | .ixs _ x i => x.lk ++ i.lk
 | .ext x _ => x.lk
 | .len x => x.lk
 | .lens x => x.lk
 | .app _ _ _ x y => x.lk ++ y.lk
 | .mnx _ x l => x.lk ++ lks l
 | .slc _ x lo hi => x.lk ++ (lko lo ++ lko hi)
 | .slcs x lo hi => x.lk ++ (lko lo ++ lko hi)
 | .call _ l => lks l
 | .callv x l => x.lk ++ lks l
 | .newsl .. => []
 | .eqs _ _ x y => x.lk ++ y.lk
 | .pu _ l => lks l
 | .isnil _ x => x.lk
 | .mks _ _ _ _ _ x => x.lk
 | .trn _ x h => x.lk ++ h.lk
 | .cpy _ x y => x.lk ++ y.lk
 | .clr _ _ x => x.lk
 | .b2s x => x.lk
 | .s2b _ _ x => x.lk
 | .cvs x => x.lk
 | .appz _ _ _ _ x y => x.lk ++ y.lk
 | .slc3 _ x l h m => x.lk ++ (l.lk ++ (h.lk ++ m.lk))
 | .appn _ _ _ y => y.lk
 | .slca _ _ x lo hi => x.lk ++ (lko lo ++ lko hi)
 | .mkmap => []
 | .mapset x k v => x.lk ++ (k.lk ++ v.lk)
 | .mapget _ _ x k => x.lk ++ k.lk
 | .slcf _ x h m => x.lk ++ (h.lk ++ m.lk)
 | .mvs x => x.lk
 | .mkm _ l => lks l
 | .mp _ x l => x.lk ++ lks l
def AV.oid : AV → List Nat
 | .sl id .. => [id]
 | .slk id .. => [id]
 | .sla id .. => [id]
 | .ptr id .. => [id]
 | _ => []
def AOp.rds (e : Nat → AV) : AOp → List Nat
 | .load _ _ x => (x.ev e).oid
 | .store _ x _ => (x.ev e).oid
 | .ixs _ x _ => (x.ev e).oid
 | .slc _ x _ _ => (x.ev e).oid
 | .app _ _ _ x y => (x.ev e).oid ++ (y.ev e).oid
 | .b2s x => (x.ev e).oid
 | _ => []
def appW (id : Nat) : AV → List Nat
 | .nil => [id]
 | v => v.oid
def AOp.wrs (e : Nat → AV) (id : Nat) : AOp → List Nat
 | .store _ x _ => (x.ev e).oid
 | .app _ _ _ x _ => appW id (x.ev e)
 | .alloc .. | .box .. | .lit .. | .newsl .. | .mkmap => [id]
 | .mks true .. => [id]
 | _ => []
structure AOper where
 d : Option Nat
 op : AOp
 gd : Option (Nat × Bool)
 af : List Nat
 deriving Inhabited
def AOp.lt : AOp → Bool
 | .store .. | .call .. | .callv .. => false
 | .lit false .. => true
 | op => !op.new && !op.nd
def AOp.al : AOp → Bool
 | .alloc .. => true
 | _ => false
structure HS where
 p : Nat
 o : AOper
 deriving Inhabited
def scalV : AV → Option Value
 | .bool b => some (.bool b)
 | .int k n => some (.int k n)
 | .str s => some (.string s)
 | _ => none
def CellsAt (ps : List Addr) (xs : List AV) (w : World) : Prop := ps.length = xs.length ∧ ∀ (i : Nat) (p : Addr) (x : AV), ps[i]? = some p → xs[i]? = some x → p.spot = none ∧ ∃ v, scalV x = some v ∧ w.cell? p = some v
def ItC (P : Program) (f : Nat) (xs : List AV) (vs : List Int) : Prop :=
 (∀ args w, (callFunc f args).run P w = .ok (.enter f args) w) ∧ ∀ (k : Nat) (w : World) (ps : List Addr), CellsAt ps xs w →
  SeqStopsK (α := {x : Int // x ∈ vs}) Fence.wide k P f (ps.map fun p => Value.pointer (some p)).toArray (fun x => #[.int .i64 x.1]) (fun A B => CellsAt ps xs A → CellsAt ps xs B)
   (fun l => l.map (·.1) = vs) (fun l => l.map (·.1) <+: vs) vs.length w
def VPL (S : Nat → Prop) (w : World) (as : List AV) (vs : Array Value) : Prop := vs.size = as.length ∧ ∀ (j : Nat) (y : AV) (v : Value), as[j]? = some y → vs[j]? = some v → VP S w y v
def ItG (P : Program) (f : Nat) (caps : List AV) (vs : List (List AV)) : Prop :=
 (∀ args w, (callFunc f args).run P w = .ok (.enter f args) w) ∧ ∀ (k : Nat) (S : Nat → Prop) (w : World) (cs : Array Value), (∀ b, S b → b < w.heap.size) → VPL S w caps cs →
  ∃ us : Nat → Array Value, (∀ i v, vs[i]? = some v → VPL S w v (us i)) ∧
   SeqStopsK (α := {i : Nat // i < vs.length}) Fence.wide k P f cs (fun x => us x.1) (fun A B => ∀ b, S b → B.heap[b]? = A.heap[b]?)
    (fun l => l.map (·.1) = List.range vs.length) (fun l => l.map (·.1) <+: List.range vs.length) vs.length w
inductive ACode where
 | skip
 | region (ops : List AOper) (dr : Option Nat)
 | seq (a b : ACode)
 | cond (c : AX) (a b : ACode)
 | block (id : Nat) (a : ACode)
 | loop (a : ACode)
 | exit (id : Nat)
 | ret
 | hregion (l : List HS)
 | rangeF (It : Nat → List AV → List Int → Prop) (x : AX) (t d : Nat) (body : ACode)
 | rangeG (It : Nat → List AV → List (List AV) → Prop) (x : AX) (ts : List Nat) (asg : List AOper) (body : ACode)
 deriving Inhabited
inductive EX where
 | nrm | ret | exit (id : Nat)
def sub (ag : Bool) (sz off : Nat) (y : AV) : AV := if ag then .agg ((y.cells.drop off).take sz) else y.cells.getD off .junk
def setc (off : Nat) (v y : AV) : AV := match y with
 | .agg cs => .agg (cs.take off ++ v.cells ++ cs.drop (off + v.cells.length))
 | _ => v
def AV.pur1 : AV → Bool
 | .sl .. | .slk .. | .sla .. | .ptr .. | .mapo .. | .junk | .agg _ | .tuple _ | .func .. => false
 | _ => true
def AV.pur : AV → Bool
 | .agg cs => cs.all AV.pur1
 | .tuple cs => cs.all fun | .agg ds => ds.all AV.pur1 | a => a.pur1
 | .func _ cs => cs.all AV.pur1
 | a => a.pur1
def fillA (cs : List AV) : List (Nat × AV) → List AV
 | [] => cs
 | (off, v) :: r => fillA (cs.take off ++ v.cells ++ cs.drop (off + v.cells.length)) r
def elemsK (σ : St) (x : AV) (K : List AV → Prop) : Prop := match x with
 | .nil => K []
 | .list _ l => K l
 | .sl id g es off n => ∃ o, σ.ob id = some o ∧ o.g = g ∧ o.es = es ∧ off + n ≤ o.l.length ∧ K ((o.l.drop off).take n)
 | .slk id g es off n _ => ∃ o, σ.ob id = some o ∧ o.g = g ∧ o.es = es ∧ off + n ≤ o.l.length ∧ K ((o.l.drop off).take n)
 | _ => False
def binK (op : BinOp) (x y : AV) (K : AV → Prop) : Prop := match x, y with
 | .int k a, .int k' b =>
  (match op with
  | .add => k = k' ∧ K (.int k (k.wrap (a + b)))
  | .sub => k = k' ∧ K (.int k (k.wrap (a - b)))
  | .mul => k = k' ∧ K (.int k (k.wrap (a * b)))
  | .quo => k = k' ∧ b ≠ 0 ∧ K (.int k (k.wrap (a.tdiv b)))
  | .rem => k = k' ∧ b ≠ 0 ∧ K (.int k (a.tmod b))
  | .eql => k = k' ∧ K (.bool (decide (a = b)))
  | .neq => k = k' ∧ K (.bool (!decide (a = b)))
  | .lss => k = k' ∧ K (.bool (decide (a < b)))
  | .leq => k = k' ∧ K (.bool (decide (a ≤ b)))
  | .gtr => k = k' ∧ K (.bool (decide (b < a)))
  | .geq => k = k' ∧ K (.bool (decide (b ≤ a)))
  | _ => False)
 | .str a, .str b =>
  (match op with
  | .add => a.size + b.size ≤ 9223372036854775807 ∧ K (.str (a ++ b))
  | .eql => K (.bool (decide (a = b)))
  | .neq => K (.bool (!decide (a = b)))
  | _ => False)
 | _, _ => False
def bdsK (n : Nat) (lo hi : Option AV) (K : Nat → Nat → Prop) : Prop := match lo, hi with
 | none, none => K 0 n
 | some (.int _ l), none => 0 ≤ l ∧ l ≤ n ∧ K l.toNat n
 | none, some (.int _ h) => 0 ≤ h ∧ h ≤ n ∧ K 0 h.toNat
 | some (.int _ l), some (.int _ h) => 0 ≤ l ∧ l ≤ h ∧ h ≤ n ∧ K l.toNat h.toNat
 | _, _ => False
def bdsX (n c : Nat) (lo hi : Option AV) (K : Nat → Nat → Prop) : Prop := match lo, hi with
 | none, none => K 0 n
 | some (.int _ l), none => 0 ≤ l ∧ l ≤ n ∧ K l.toNat n
 | none, some (.int _ h) => 0 ≤ h ∧ h ≤ c ∧ K 0 h.toNat
 | some (.int _ l), some (.int _ h) => 0 ≤ l ∧ l ≤ h ∧ h ≤ c ∧ K l.toNat h.toNat
 | _, _ => False
def sliceK (es : Nat) (σ : St) (x : AV) (lo hi : Option AV) (K : AV → Prop) : Prop := match x with
 | .nil => bdsK 0 lo hi fun _ _ => K .nil
 | .list es' ls => es' = es ∧ bdsK ls.length lo hi fun l h => K (.list es ((ls.take h).drop l))
 | .sl id g es' off n => es' = es ∧ (∃ o, σ.ob id = some o ∧ o.g = g) ∧ bdsK n lo hi fun l h => (l = h → K (.list es [])) ∧ (l < h → K (.sl id g es (off + l) (h - l)))
 | .slk id g es' off n c => es' = es ∧ off + n ≤ c ∧ bdsX n (c - off) lo hi fun l h => (l = c - off → K (.list es [])) ∧ (l < c - off → K (.slk id g es (off + l) (h - l) c))
 | _ => False
def sliceSK (x : AV) (lo hi : Option AV) (K : AV → Prop) : Prop := match x with
 | .str s => bdsK s.size lo hi fun l h => K (.str (s.extract l h))
 | _ => False
def minmaxK (mx : Bool) : AV → List AV → (AV → Prop) → Prop
 | a, [], K => K a
 | .int k a, .int k' b :: r, K => k = k' ∧ minmaxK mx (.int k (if mx then max a b else min a b)) r K
 | _, _, _ => False
abbrev Hcall := Nat → List AV → St → (AV → St → Prop) → Prop
def pickC (c a b : AV) (σ : St) (K : AV → St → Prop) : Prop := match c with
 | .bool t => (t = true → K a σ) ∧ (t = false → K b σ)
 | _ => False
def boxC (es : Nat) (ty : TypeId) (v : AV) (σ : St) (K : AV → St → Prop) : Prop := v.flat = true ∧ v.cells.length = es ∧ K (.ptr σ.n σ.c es 0 0) (σ.push es ty [v])
def buildC (zs : List AV) (ps : List (Nat × Nat × AV)) (σ : St) (K : AV → St → Prop) : Prop :=
 (∀ p ∈ ps, p.2.2.flat = true ∧ p.2.2.cells.length = p.2.1 ∧ p.1 + p.2.1 ≤ zs.length) ∧ K (.agg (fillA zs (ps.map fun p => (p.1, p.2.2)))) σ
def litC (mu : Bool) (es : Nat) (ty : TypeId) (vs : List AV) (σ : St) (K : AV → St → Prop) : Prop :=
 (∀ v ∈ vs, v.flat = true ∧ v.cells.length = es ∧ (mu = false → v.pur = true)) ∧ (if mu then K (.sl σ.n σ.c es 0 vs.length) (σ.push es ty vs) else K (.list es vs) σ)
def loadC (ag : Bool) (sz : Nat) (x : AV) (σ : St) (K : AV → St → Prop) : Prop := match x with
 | .ptr id g es i off => ∃ o, σ.ob id = some o ∧ o.g = g ∧ o.es = es ∧ off + sz ≤ es ∧ ∃ y, o.l[i]? = some y ∧ K (sub ag sz off y) σ
 | .rptr es l i off => off + sz ≤ es ∧ ∃ y, l[i]? = some y ∧ K (sub ag sz off y) σ
 | _ => False
def storeC (sz : Nat) (x v : AV) (σ : St) (K : AV → St → Prop) : Prop := match x with
 | .ptr id g es i off => ∃ o, σ.ob id = some o ∧ o.g = g ∧ o.es = es ∧ o.ro = false ∧ v.flat = true ∧ v.cells.length = sz ∧ off + sz ≤ es ∧
   ∃ y, o.l[i]? = some y ∧ K .junk (σ.put id o (o.l.set i (setc off v y)))
 | _ => False
def nilchkC (x : AV) (σ : St) (K : AV → St → Prop) : Prop := match x with
 | .ptr .. | .rptr .. | .func .. | .meth .. => K x σ
 | _ => False
def eqbC (neg : Bool) (x y : AV) (σ : St) (K : AV → St → Prop) : Prop := match x, y with
 | .bool a, .bool b => K (.bool (if neg then !decide (a = b) else decide (a = b))) σ
 | _, _ => False
def eqA : List Nat → List AV → List AV → Option Bool
 | [], [], [] => some true
 | 0 :: ks, .int k a :: r, .int k' b :: s => if k = k' then (eqA ks r s).map fun t => decide (a = b) && t else none
 | 1 :: ks, .bool a :: r, .bool b :: s => (eqA ks r s).map fun t => decide (a = b) && t
 | 2 :: ks, .str a :: r, .str b :: s => (eqA ks r s).map fun t => decide (a = b) && t
 | _, _, _ => none
def eqsC (neg : Bool) (ks : List Nat) (x y : AV) (σ : St) (K : AV → St → Prop) : Prop := match x, y with
 | .agg cs, .agg ds => ∃ b, eqA ks cs ds = some b ∧ K (.bool (if neg then !b else b)) σ
 | _, _ => False
def bitD (op : BinOp) (k : IntKind) (a : Int) (k' : IntKind) (b : Int) : Option AV := match op with
 | .and => if k = k' then some (.int k (k.wrap (BitVec.ofInt k.bits a &&& BitVec.ofInt k.bits b).toNat)) else none
 | .or => if k = k' then some (.int k (k.wrap (BitVec.ofInt k.bits a ||| BitVec.ofInt k.bits b).toNat)) else none
 | .shl => if 0 ≤ b then some (.int k (k.wrap (a * 2 ^ min b.toNat k.bits))) else none
 | .shr => if 0 ≤ b then some (.int k (a.fdiv (2 ^ min b.toNat k.bits))) else none
 | _ => none
def puD : PuOp → List AV → Option AV
 | .bit op, [.int k a, .int k' b] => bitD op k a k' b
 | .sidx, [.str s, .int _ i] => if 0 ≤ i then (s[i.toNat]?).map fun b => .int .u8 b.toNat else none
 | .fld ag sz off, [.agg cs] => if off + sz ≤ cs.length then some (sub ag sz off (.agg cs)) else none
 | .aidx ag es n, [.agg cs, .int _ i] => if 0 ≤ i ∧ i < n ∧ (i.toNat + 1) * es ≤ cs.length then some (sub ag es (i.toNat * es) (.agg cs)) else none
 | .aixs es n, [.ptr id g es' i o, .int _ x] => if 0 ≤ x ∧ x < n then some (.ptr id g es' i (o + x.toNat * es)) else none
 | .aixs es n, [.rptr es' l i o, .int _ x] => if 0 ≤ x ∧ x < n then some (.rptr es' l i (o + x.toNat * es)) else none
 | .mki, [_] => some .junk
 | .cap0, [.nil] => some (.int .i64 0)
 | .cap0, [.slk _ _ _ off _ c] => some (.int .i64 ((c - off : Nat) : Int))
 | _, _ => none
def puC (p : PuOp) (xs : List AV) (σ : St) (K : AV → St → Prop) : Prop := ∃ v, puD p xs = some v ∧ K v σ
def isnilC (neg : Bool) (x : AV) (σ : St) (K : AV → St → Prop) : Prop := match x with
 | .nil => K (.bool (!neg)) σ
 | .list _ [] => K (.bool true) σ ∧ K (.bool false) σ
 | .list _ (_ :: _) => K (.bool neg) σ
 | .sl _ _ _ _ n => (n = 0 → K (.bool true) σ ∧ K (.bool false) σ) ∧ (0 < n → K (.bool neg) σ)
 | _ => False
def mksC (mu : Bool) (es bytes : Nat) (ty : TypeId) (z x : AV) (σ : St) (K : AV → St → Prop) : Prop := match x with
 | .int _ n => 0 ≤ n ∧ n ≤ 9223372036854775807 ∧ bytes * n.toNat ≤ 281474976710656 ∧
   (if mu then K (.sl σ.n σ.c es 0 n.toNat) (σ.push es ty (List.replicate n.toNat z)) else K (.list es (List.replicate n.toNat z)) σ)
 | _ => False
def trnC (es : Nat) (x h : AV) (σ : St) (K : AV → St → Prop) : Prop := match x, h with
 | .sl id g es' off n, .int _ hi => es' = es ∧ off = 0 ∧ 0 ≤ hi ∧ hi ≤ n ∧ ∃ o, σ.ob id = some o ∧ o.g = g ∧ o.es = es ∧ o.ro = false ∧ n ≤ o.l.length ∧
   K (.sl id σ.c es 0 hi.toNat) (σ.renew id o (o.l.take hi.toNat))
 | _, _ => False
def cpyK (es : Nat) (x y : AV) (σ : St) (K : AV → St → Prop) : Prop := match x, y with
 | .slk id g e1 off n _, .slk id2 g2 e2 off2 n2 _ => e1 = es ∧ e2 = es ∧ 0 < min n2 n ∧ ∃ o2, σ.ob id2 = some o2 ∧ o2.g = g2 ∧ o2.es = es ∧ off2 + min n2 n ≤ o2.l.length ∧
   ∃ o, σ.ob id = some o ∧ o.g = g ∧ o.es = es ∧ o.ro = false ∧ off ≤ o.l.length ∧ K (.int .i64 (min n2 n : Nat)) (σ.put id o (o.l.take off ++ (o2.l.drop off2).take (min n2 n) ++ o.l.drop (off + min n2 n)))
 | _, _ => False
def cpyC (es : Nat) (x y : AV) (σ : St) (K : AV → St → Prop) : Prop := cpyK es x y σ K ∨
 ((∀ es' l, y = .list es' l → es' = es) ∧ (∀ id g es' off n, (y = .sl id g es' off n ∨ ∃ c, y = .slk id g es' off n c) → es' = es) ∧ elemsK σ y fun l =>
   (match x with
   | .nil => K (.int .i64 0) σ
   | .list _ [] => K (.int .i64 0) σ
   | .sl id g es' off n => es' = es ∧ ∃ o, σ.ob id = some o ∧ o.g = g ∧ o.es = es ∧ o.ro = false ∧ off + n ≤ o.l.length ∧
     K (.int .i64 (min l.length n : Nat)) (σ.put id o (o.l.take off ++ l.take n ++ o.l.drop (off + min l.length n)))
   | .slk id g es' off n _ => es' = es ∧ 0 < min l.length n ∧ ∃ o, σ.ob id = some o ∧ o.g = g ∧ o.es = es ∧ o.ro = false ∧ off ≤ o.l.length ∧
     K (.int .i64 (min l.length n : Nat)) (σ.put id o (o.l.take off ++ l.take n ++ o.l.drop (off + min l.length n)))
   | _ => False))
def clrC (es : Nat) (z x : AV) (σ : St) (K : AV → St → Prop) : Prop := match x with
 | .nil => K (.tuple []) σ
 | .list _ [] => K (.tuple []) σ
 | .sl id g es' off n => es' = es ∧ ∃ o, σ.ob id = some o ∧ o.g = g ∧ o.es = es ∧ o.ro = false ∧ off + n ≤ o.l.length ∧
   K (.tuple []) (σ.put id o (o.l.take off ++ List.replicate n z ++ o.l.drop (off + n)))
 | .slk id g es' off n _ => es' = es ∧ ∃ o, σ.ob id = some o ∧ o.g = g ∧ o.es = es ∧ o.ro = false ∧ off + n ≤ o.l.length ∧
   K (.tuple []) (σ.put id o (o.l.take off ++ List.replicate n z ++ o.l.drop (off + n)))
 | _ => False
def bytesL : List AV → Option (List UInt8)
 | [] => some []
 | .int .u8 n :: r => (bytesL r).map (UInt8.ofNat n.toNat :: ·)
 | _ => none
def b2sC (x : AV) (σ : St) (K : AV → St → Prop) : Prop :=
 (∀ es' l, x = .list es' l → es' = 1) ∧ (∀ id g es' off n, (x = .sl id g es' off n ∨ ∃ c, x = .slk id g es' off n c) → es' = 1) ∧ elemsK σ x fun l => ∃ s, bytesL l = some s ∧ K (.str ⟨s.toArray⟩) σ
def appzC (es bytes : Nat) (ty : TypeId) (z x y : AV) (σ : St) (K : AV → St → Prop) : Prop := match x, y with
 | .nil, .int _ n => 0 < n ∧ n ≤ 9223372036854775807 ∧ n.toNat * bytes ≤ 140737488355328 ∧ K (.sl σ.n σ.c es 0 n.toNat) (σ.push es ty (List.replicate n.toNat z))
 | .slk id g es' off n0 c, .int _ n => es' = es ∧ 0 < n ∧ c - off < n0 + n.toNat ∧ n0 + n.toNat ≤ 9223372036854775807 ∧ (n0 + n.toNat) * bytes ≤ 140737488355328 ∧
   ∃ o, σ.ob id = some o ∧ o.g = g ∧ o.es = es ∧ off + n0 ≤ o.l.length ∧ K (.sl σ.n σ.c es 0 (n0 + n.toNat)) (σ.push es ty ((o.l.drop off).take n0 ++ List.replicate n.toNat z))
 | _, _ => False
def slc3C (es : Nat) (x l h m : AV) (σ : St) (K : AV → St → Prop) : Prop := match x, l, h, m with
 | .sl _ _ es' _ n, .int _ a, .int _ b, .int _ c => es' = es ∧ 0 ≤ a ∧ a ≤ b ∧ b ≤ c ∧ c ≤ n ∧ K .junk σ
 | .list es' ls, .int _ a, .int _ b, .int _ c => es' = es ∧ 0 ≤ a ∧ a ≤ b ∧ b ≤ c ∧ c ≤ ls.length ∧ K .junk σ
 | .slk _ _ es' _ n _, .int _ a, .int _ b, .int _ c => es' = es ∧ 0 ≤ a ∧ a ≤ b ∧ b ≤ c ∧ c ≤ n ∧ K .junk σ
 | _, _, _, _ => False
def appnC (es bytes : Nat) (ty : TypeId) (y : AV) (σ : St) (K : AV → St → Prop) : Prop :=
 (∀ es' l, y = .list es' l → es' = es) ∧ (∀ id g es' off n, (y = .sl id g es' off n ∨ ∃ c, y = .slk id g es' off n c) → es' = es) ∧ elemsK σ y fun l =>
  l.length ≤ maxLen ∧ l.length * bytes ≤ 140737488355328 ∧ K (.sl σ.n σ.c es 0 l.length) (σ.push es ty l)
def strL (s : ByteArray) : List AV := s.data.toList.map fun b => .int .u8 b.toNat
def s2bC (mu : Bool) (ty : TypeId) (x : AV) (σ : St) (K : AV → St → Prop) : Prop := match x with
 | .str s => s.size ≤ 140737488355328 ∧ (if mu then K (.sl σ.n σ.c 1 0 s.size) ⟨upd σ.ob σ.n (some ⟨σ.c, 1, ty, false, false, strL s⟩), σ.n + 1, σ.c + 1⟩ else K (.list 1 (strL s)) σ)
 | _ => False
def unC (op : UnOp) (x : AV) (σ : St) (K : AV → St → Prop) : Prop := match op, x with
 | .not, .bool b => K (.bool (!b)) σ
 | .neg, .int k n => K (.int k (k.wrap (0 - n))) σ
 | _, _ => False
def convC (k : IntKind) (x : AV) (σ : St) (K : AV → St → Prop) : Prop := match x with
 | .int _ n => K (.int k (k.wrap n)) σ
 | _ => False
def faC (off : Nat) (x : AV) (σ : St) (K : AV → St → Prop) : Prop := match x with
 | .ptr id g es i o => K (.ptr id g es i (o + off)) σ
 | .rptr es l i o => K (.rptr es l i (o + off)) σ
 | _ => False
def ixsC (es : Nat) (x i : AV) (σ : St) (K : AV → St → Prop) : Prop := match x, i with
 | .sl id g es' off n, .int _ ix => es' = es ∧ (∃ o, σ.ob id = some o ∧ o.g = g) ∧ 0 ≤ ix ∧ ix < n ∧ K (.ptr id g es (off + ix.toNat) 0) σ
 | .list es' l, .int _ ix => es' = es ∧ 0 ≤ ix ∧ ix < l.length ∧ K (.rptr es l ix.toNat 0) σ
 | .sla id g es' i off ee n, .int _ ix => ee = es ∧ 0 ≤ ix ∧ ix < n ∧ K (.ptr id g es' i (off + ix.toNat * ee)) σ
 | .slk id g es' off n _, .int _ ix => es' = es ∧ 0 ≤ ix ∧ ix < n ∧ K (.ptr id g es (off + ix.toNat) 0) σ
 | _, _ => False
def extC (x : AV) (i : Nat) (σ : St) (K : AV → St → Prop) : Prop := match x with
 | .tuple vs => ∃ v, vs[i]? = some v ∧ K v σ
 | _ => False
def lenC (x : AV) (σ : St) (K : AV → St → Prop) : Prop := match x with
 | .nil => K (.int .i64 0) σ
 | .list _ l => K (.int .i64 l.length) σ
 | .sl _ _ _ _ n => K (.int .i64 n) σ
 | .slk _ _ _ _ n _ => K (.int .i64 n) σ
 | .sla _ _ _ _ _ _ n => K (.int .i64 n) σ
 | _ => False
def lensC (x : AV) (σ : St) (K : AV → St → Prop) : Prop := match x with
 | .str s => K (.int .i64 s.size) σ
 | _ => False
def appC (es bytes : Nat) (ty : TypeId) (x y : AV) (σ : St) (K : AV → St → Prop) : Prop :=
 (∀ es' l, y = .list es' l → es' = es) ∧ (∀ id g es' off n, (y = .sl id g es' off n ∨ ∃ c, y = .slk id g es' off n c) → es' = es) ∧ elemsK σ y fun l =>
   (match x with
   | .nil => l.length ≤ maxLen ∧ l.length * bytes ≤ 140737488355328 ∧ (l = [] → K .nil σ) ∧ (l ≠ [] → K (.sl σ.n σ.c es 0 l.length) (σ.push es ty l))
   | .sl id g es' off n => es' = es ∧ off = 0 ∧ ∃ o, σ.ob id = some o ∧ o.g = g ∧ o.es = es ∧ o.ty = ty ∧ o.ro = false ∧ o.ap = true ∧ o.l.length = n ∧
     n + l.length ≤ maxLen ∧ (n + l.length) * bytes ≤ 140737488355328 ∧ K (.sl id σ.c es 0 (n + l.length)) (σ.renew id o (o.l ++ l))
   | .slk id g es' off n c => es' = es ∧ (l = [] → K (.slk id g es off n c) σ) ∧ (l ≠ [] → ∃ o, σ.ob id = some o ∧ o.g = g ∧ o.es = es ∧ o.ro = false ∧ off + (n + l.length) ≤ o.l.length ∧ off + (n + l.length) ≤ c ∧
     K (.slk id g es off (n + l.length) c) (σ.put id o (o.l.take (off + n) ++ l ++ o.l.drop (off + n + l.length))))
   | .fl es' l0 => es' = es ∧ (∀ z ∈ l0 ++ l, z.pur = true) ∧ l0.length + l.length ≤ maxLen ∧ (l0.length + l.length) * bytes ≤ 140737488355328 ∧ K (.list es (l0 ++ l)) σ
   | _ => False)
def slcfC (es : Nat) (x h m : AV) (σ : St) (K : AV → St → Prop) : Prop := match x, h, m with
 | .list es' ls, .int _ b, .int _ c => es' = es ∧ 0 ≤ b ∧ b = c ∧ c ≤ ls.length ∧ K (.fl es (ls.take b.toNat)) σ
 | _, _, _ => False
def mvsC (x : AV) (σ : St) (K : AV → St → Prop) : Prop := match x with
 | .sl id g es off n => ∃ o, σ.ob id = some o ∧ o.g = g ∧ o.es = es ∧ off + n ≤ o.l.length ∧ (∀ z ∈ (o.l.drop off).take n, z.pur = true) ∧ K (.list es ((o.l.drop off).take n)) ⟨upd σ.ob id none, σ.n, σ.c⟩
 | v => K v σ
def keyOf : AV → Int
 | .agg (.int _ a :: _) => a
 | _ => 0
def valOf : AV → AV
 | .agg [_, x] => x
 | _ => .junk
def keyOk (kk : IntKind) : AV → Bool
 | .agg [.int k' _, _] => decide (k' = kk)
 | _ => false
def keysOk (kk : IntKind) (l : List AV) : Bool := l.all (keyOk kk)
def mget (n : Int) : List AV → Option AV
 | [] => none
 | y :: r => if n = keyOf y then some (valOf y) else mget n r
def mset (kk : IntKind) (n : Int) (x : AV) : List AV → List AV
 | [] => [.agg [.int kk n, x]]
 | y :: r => if n = keyOf y then .agg [.int kk n, x] :: r else if n < keyOf y then .agg [.int kk n, x] :: y :: r else y :: mset kk n x r
def kOk : IntKind → Bool
 | .u8 | .u16 => false
 | _ => true
def mdel (n : Int) : List AV → List AV
 | [] => []
 | y :: r => if n = keyOf y then r else y :: mdel n r
def mins (n : Int) (c : AV) : List AV → List AV
 | [] => [c]
 | y :: r => if n = keyOf y then c :: r else if n < keyOf y then c :: y :: r else y :: mins n c r
def mapsetC (x k v : AV) (σ : St) (K : AV → St → Prop) : Prop := match x, k with
 | .mapo id g, .int kk n => v.one = true ∧ kOk kk = true ∧ ∃ o, σ.ob id = some o ∧ o.g = g ∧ o.ro = false ∧ keysOk kk o.l = true ∧ K .junk (σ.put id o (mset kk n v o.l))
 | _, _ => False
def mgetR (ok : Bool) (z : AV) (r : Option AV) : AV := if ok then .tuple [r.getD z, .bool r.isSome] else r.getD z
def mapgetC (ok : Bool) (z x k : AV) (σ : St) (K : AV → St → Prop) : Prop := match x, k with
 | .mapo id g, .int kk n => kOk kk = true ∧ ∃ o, σ.ob id = some o ∧ o.g = g ∧ keysOk kk o.l = true ∧ K (mgetR ok z (mget n o.l)) σ
 | .nilmap, .int _ _ => K (mgetR ok z none) σ
 | _, _ => False
def mset2C (x k v : AV) (σ : St) (K : AV → St → Prop) : Prop := match x, k with
 | .mapo id g, .agg [.int .i64 a, .int .i64 b] => v.one = true ∧ ∃ o, σ.ob id = some o ∧ o.g = g ∧ o.ro = false ∧ keysOk .u8 o.l = true ∧ K .junk (σ.put id o (mset .u8 (pr a b) v o.l))
 | _, _ => False
def mget2C (ok : Bool) (z x k : AV) (σ : St) (K : AV → St → Prop) : Prop := match x, k with
 | .mapo id g, .agg [.int .i64 a, .int .i64 b] => ∃ o, σ.ob id = some o ∧ o.g = g ∧ keysOk .u8 o.l = true ∧ K (mgetR ok z (mget (pr a b) o.l)) σ
 | .nilmap, .agg [.int .i64 _, .int .i64 _] => K (mgetR ok z none) σ
 | _, _ => False
def mdel2C (x k : AV) (σ : St) (K : AV → St → Prop) : Prop := match x, k with
 | .mapo id g, .agg [.int .i64 a, .int .i64 b] => ∃ o, σ.ob id = some o ∧ o.g = g ∧ o.ro = false ∧ keysOk .u8 o.l = true ∧ K (.tuple []) (σ.put id o (mdel (pr a b) o.l))
 | _, _ => False
def mlenC (x : AV) (σ : St) (K : AV → St → Prop) : Prop := match x with
 | .mapo id g => ∃ o, σ.ob id = some o ∧ o.g = g ∧ K (.int .i64 (o.l.length : Int)) σ
 | .nilmap => K (.int .i64 0) σ
 | _ => False
def ment2C (z x k : AV) (σ : St) (K : AV → St → Prop) : Prop := match x, k with
 | .mapo id g, .agg [.int .i64 a, .int .i64 b] => ∃ o, σ.ob id = some o ∧ o.g = g ∧ o.ro = false ∧ keysOk .u8 o.l = true ∧ z.one = true ∧ (∀ y, mget (pr a b) o.l = some y → y.one = true) ∧
   ∀ s : Nat, K (.tuple [(mget (pr a b) o.l).getD z, .int .i64 (s : Int)]) (σ.put id o (mins (pr a b) (.agg [.int .u16 (pr (pr a b) s), (mget (pr a b) o.l).getD z]) o.l))
 | _, _ => False
def msto2C (x s v : AV) (σ : St) (K : AV → St → Prop) : Prop := match x, s with
 | .mapo id g, .int .i64 t => v.one = true ∧ ∃ o, σ.ob id = some o ∧ o.g = g ∧ o.ro = false ∧ ∃ n old l, o.l = mins n (.agg [.int .u16 (pr n t), old]) l ∧ keysOk .u8 l = true ∧ K .junk (σ.put id o (mset .u8 n v l))
 | _, _ => False
def mpC (q : MpOp) (x : AV) (l : List AV) (σ : St) (K : AV → St → Prop) : Prop := match q, l with
 | .set2, [k, v] => mset2C x k v σ K
 | .get2 ok z, [k] => mget2C ok z x k σ K
 | .del2, [k] => mdel2C x k σ K
 | .mlen, [] => mlenC x σ K
 | .ent2 z, [k] => ment2C z x k σ K
 | .sto2, [s, v] => msto2C x s v σ K
 | _, _ => False
def slcaC (es n : Nat) (x : AV) (lo hi : Option AV) (σ : St) (K : AV → St → Prop) : Prop := match x with
 | .ptr id g es' i off => bdsK n lo hi fun l h => (l = n → K (.list es []) σ) ∧ (l < n → K (.sla id g es' i (off + l * es) es (h - l)) σ)
 | _ => False
def binC (op : BinOp) (x y : AV) (σ : St) (K : AV → St → Prop) : Prop := binK op x y fun v => K v σ
def mnxC (mx : Bool) (x : AV) (xs : List AV) (σ : St) (K : AV → St → Prop) : Prop := minmaxK mx x xs fun v => K v σ
def slcC (es : Nat) (x : AV) (lo hi : Option AV) (σ : St) (K : AV → St → Prop) : Prop := sliceK es σ x lo hi fun v => K v σ
def slcsC (x : AV) (lo hi : Option AV) (σ : St) (K : AV → St → Prop) : Prop := sliceSK x lo hi fun v => K v σ
def callvC (H : Hcall) (x : AV) (args : List AV) (σ : St) (K : AV → St → Prop) : Prop := match x with
 | .func f caps => H f (args ++ caps) σ K
 | .meth f fs => H f (fs ++ args) σ K
 | _ => False
def evs (e : Nat → AV) (l : List AX) : List AV := l.map fun x => x.ev e
def evo (e : Nat → AV) (x : Option AX) : Option AV := x.map fun y => y.ev e
def evp (e : Nat → AV) (ps : List (Nat × Nat × AX)) : List (Nat × Nat × AV) := ps.map fun p => (p.1, p.2.1, p.2.2.ev e)
def run1 (H : Hcall) (op : AOp) (e : Nat → AV) (σ : St) (K : AV → St → Prop) : Prop := match op with
 | .mv x => K (x.ev e) σ
 | .pick c a b => pickC (c.ev e) (a.ev e) (b.ev e) σ K
 | .alloc es ty z => K (.ptr σ.n σ.c es 0 0) (σ.push es ty [z])
 | .box es ty x => boxC es ty (x.ev e) σ K
 | .build zs ps => buildC zs (evp e ps) σ K
 | .lit mu es ty xs => litC mu es ty (evs e xs) σ K
 | .load ag sz x => loadC ag sz (x.ev e) σ K
 | .store sz x v => storeC sz (x.ev e) (v.ev e) σ K
 | .nilchk x => nilchkC (x.ev e) σ K
 | .bin op x y => binC op (x.ev e) (y.ev e) σ K
 | .eqb neg x y => eqbC neg (x.ev e) (y.ev e) σ K
 | .un op x => unC op (x.ev e) σ K
 | .conv k x => convC k (x.ev e) σ K
 | .mkf f caps => K (.func f (evs e caps)) σ
 | .fa off x => faC off (x.ev e) σ K
 | .ixs es x i => ixsC es (x.ev e) (i.ev e) σ K
 | .ext x i => extC (x.ev e) i σ K
 | .len x => lenC (x.ev e) σ K
 | .lens x => lensC (x.ev e) σ K
 | .app es bytes ty x y => appC es bytes ty (x.ev e) (y.ev e) σ K
 | .mnx mx x xs => mnxC mx (x.ev e) (evs e xs) σ K
 | .slc es x lo hi => slcC es (x.ev e) (evo e lo) (evo e hi) σ K
 | .slcs x lo hi => slcsC (x.ev e) (evo e lo) (evo e hi) σ K
 | .call f args => H f (evs e args) σ K
 | .callv x args => callvC H (x.ev e) (evs e args) σ K
 | .newsl es ty => K (.sl σ.n σ.c es 0 0) (σ.push es ty [])
 | .eqs neg ks x y => eqsC neg ks (x.ev e) (y.ev e) σ K
 | .pu p xs => puC p (evs e xs) σ K
 | .isnil neg x => isnilC neg (x.ev e) σ K
 | .mks mu es bytes ty z x => mksC mu es bytes ty z (x.ev e) σ K
 | .trn es x h => trnC es (x.ev e) (h.ev e) σ K
 | .cpy es x y => cpyC es (x.ev e) (y.ev e) σ K
 | .clr es z x => clrC es z (x.ev e) σ K
 | .b2s x => b2sC (x.ev e) σ K
 | .s2b mu ty x => s2bC mu ty (x.ev e) σ K
 | .cvs x => ∃ s, x.ev e = .str s ∧ K (.str s) σ
 | .appz es b ty z x y => appzC es b ty z (x.ev e) (y.ev e) σ K
 | .slc3 es x l h m => slc3C es (x.ev e) (l.ev e) (h.ev e) (m.ev e) σ K
 | .appn es b ty y => appnC es b ty (y.ev e) σ K
 | .slca es n x lo hi => slcaC es n (x.ev e) (evo e lo) (evo e hi) σ K
 | .mkmap => K (.mapo σ.n σ.c) ⟨upd σ.ob σ.n (some ⟨σ.c, 2, mapTy, false, false, []⟩), σ.n + 1, σ.c + 1⟩
 | .mapset x k v => mapsetC (x.ev e) (k.ev e) (v.ev e) σ K
 | .mapget ok z x k => mapgetC ok z (x.ev e) (k.ev e) σ K
 | .slcf es x h m => slcfC es (x.ev e) (h.ev e) (m.ev e) σ K
 | .mvs x => mvsC (x.ev e) σ K
 | .mkm f fs => (∀ z ∈ evs e fs, z.pur = true) ∧ K (.meth f (evs e fs)) σ
 | .mp q x l => mpC q (x.ev e) (evs e l) σ K
def puts (e : Nat → AV) (d : Option Nat) (v : AV) : Nat → AV := match d with
 | some i => upd e i v
 | none => e
def Cont (k : (Nat → AV) → St → Prop) (e : Nat → AV) (d : Option Nat) (v : AV) (σ : St) : Prop := k (puts e d v) σ
def GuardA (H : Hcall) (op : AOp) (d : Option Nat) (k : (Nat → AV) → St → Prop) (e : Nat → AV) (σ : St) : Prop := run1 H op e σ (Cont k e d)
def GuardB (d : Option Nat) (k : (Nat → AV) → St → Prop) (e : Nat → AV) (σ : St) : Prop := k (puts e d (.tuple [])) σ
def gdK (_s : Nat) (w : Bool) (A B : (Nat → AV) → St → Prop) (g : AV) (e : Nat → AV) (σ : St) : Prop := match g with
 | .tuple [] => B e σ
 | .bool b => (b = w → A e σ) ∧ (b = !w → B e σ)
 | _ => False
def runs (H : Hcall) : List AOper → ((Nat → AV) → St → Prop) → (Nat → AV) → St → Prop
 | [], K, e, σ => K e σ
 | o :: r, K, e, σ => match o.gd with
  | none => run1 H o.op e σ (Cont (runs H r K) e o.d)
  | some (s, w) => gdK s w (GuardA H o.op o.d (runs H r K)) (GuardB o.d (runs H r K)) (e s) e σ
def tag (p : Nat) (ids : List Nat) : List (Nat × Nat) := ids.map fun i => (p, i)
def noMeet (af : List Nat) (xs : List (Nat × Nat)) (ids : List Nat) : Prop := ∀ x ∈ xs, af.contains x.1 = true ∨ ∀ i ∈ ids, x.2 ≠ i
def AOp.asCall (e : Nat → AV) : AOp → Option (Nat × List AV)
 | .call f l => some (f, evs e l)
 | .callv x l => match x.ev e with
  | .func f caps => some (f, evs e l ++ caps)
  | .meth f fs => some (f, fs ++ evs e l)
  | _ => none
 | _ => none
def CallD (H : Hcall) (f : Nat) (args : List AV) (ob : Nat → Option AObj) (r : AV) (rd : List Nat) (wr : Option (Nat × AObj)) : Prop :=
 r.pur = true ∧ match wr with
 | none => ∀ ob' n c, (∀ i ∈ rd, ob' i = ob i) → H f args ⟨ob', n, c⟩ fun v τ => v = r ∧ τ = ⟨ob', n, c⟩
 | some (id, o') => (∃ o, ob id = some o ∧ o.g = o'.g ∧ o.ro = o'.ro) ∧ (∀ x ∈ o'.l, x.pur = true) ∧ id ∈ rd ∧ ∀ ob' n c, (∀ i ∈ rd, ob' i = ob i) → H f args ⟨ob', n, c⟩ fun v τ => v = r ∧ τ = ⟨upd ob' id (some o'), n, c⟩
def layO (ob : Nat → Option AObj) : Option (Nat × AObj) → Nat → Option AObj
 | none => ob
 | some (i, o) => upd ob i (some o)
def wrO : Option (Nat × AObj) → List Nat
 | none => []
 | some (i, _) => [i]
def dcall (H : Hcall) (f : Nat) (args : List AV) (af : List Nat) (rs ws : List (Nat × Nat)) (p n c : Nat) (kk : List (Nat × Nat) → List (Nat × Nat) → AV → St → Prop) (ob : Nat → Option AObj) : Prop :=
 ∃ r rd wr, CallD H f args ob r rd wr ∧ noMeet af ws (rd ++ wrO wr) ∧ noMeet af rs (wrO wr) ∧ kk (rs ++ tag p rd) (ws ++ tag p (wrO wr)) r ⟨layO ob wr, n, c⟩
def dstep (H : Hcall) (op : AOp) (af : List Nat) (rs ws : List (Nat × Nat)) (p n c : Nat) (kk : List (Nat × Nat) → List (Nat × Nat) → AV → St → Prop) (e : Nat → AV) (ob : Nat → Option AObj) : Prop :=
 op.nd = false ∧ noMeet af ws (op.rds e ++ op.wrs e n) ∧ noMeet af rs (op.wrs e n) ∧ run1 H op e ⟨ob, n, c⟩ (kk (rs ++ tag p (op.rds e)) (ws ++ tag p (op.wrs e n)))
abbrev mapK : Nat := 1000000007
def noMeetK (af : List Nat) (xs : List (Nat × Nat)) (id : Nat) : Prop := ∀ x ∈ xs, af.contains x.1 = true ∨ x.2 ≠ id ∨ mapK ≤ x.1
def dmap (x k v : AV) (af : List Nat) (rs ws : List (Nat × Nat)) (p n c : Nat) (kk : List (Nat × Nat) → List (Nat × Nat) → AV → St → Prop) (ob : Nat → Option AObj) : Prop := match x, k with
 | .mapo id g, .int kq q => v.one = true ∧ kOk kq = true ∧ noMeetK af ws id ∧ noMeetK af rs id ∧ ∃ o, ob id = some o ∧ o.g = g ∧ o.ro = false ∧ keysOk kq o.l = true ∧ mget q o.l = none ∧
   kk rs (ws ++ [(mapK + p, id)]) .junk ⟨upd ob id (some { o with l := mset kq q v o.l }), n, c⟩
 | _, _ => False
def AOp.asMap : AOp → Option (AX × AX × AX)
 | .mapset x k v => some (x, k, v)
 | _ => none
def dop (H : Hcall) (op : AOp) (af : List Nat) (rs ws : List (Nat × Nat)) (p n c : Nat) (kk : List (Nat × Nat) → List (Nat × Nat) → AV → St → Prop) (e : Nat → AV) (ob : Nat → Option AObj) : Prop :=
 match op.asMap with
 | some (x, k, v) => dmap (x.ev e) (k.ev e) (v.ev e) af rs ws p n c kk ob
 | none => match op.asCall e with
  | some (f, args) => dcall H f args af rs ws p n c kk ob
  | none => dstep H op af rs ws p n c kk e ob
def DCont (k : List (Nat × Nat) → List (Nat × Nat) → (Nat → AV) → St → Prop) (e : Nat → AV) (d : Option Nat) (rs ws : List (Nat × Nat)) (v : AV) (σ : St) : Prop := k rs ws (puts e d v) σ
def DGuardA (H : Hcall) (op : AOp) (d : Option Nat) (af : List Nat) (rs ws : List (Nat × Nat)) (p n c : Nat) (k : List (Nat × Nat) → List (Nat × Nat) → (Nat → AV) → St → Prop) (e : Nat → AV) (σ : St) : Prop :=
 dop H op af rs ws p n c (DCont k e d) e σ.ob
def druns (H : Hcall) (n0 c0 k0 : Nat) : List AOper → Nat → ((Nat → AV) → St → Prop) → List (Nat × Nat) → List (Nat × Nat) → (Nat → AV) → St → Prop
 | [], _, K, _, _, e, σ => K e ⟨σ.ob, n0 + k0, c0 + k0⟩
 | o :: r, p, K, rs, ws, e, σ => match o.gd with
  | none => dop H o.op o.af rs ws p (n0 + p) (c0 + p) (DCont (druns H n0 c0 k0 r (p + 1) K) e o.d) e σ.ob
  | some (s, w) => gdK s w (DGuardA H o.op o.d o.af rs ws p (n0 + p) (c0 + p) (druns H n0 c0 k0 r (p + 1) K)) (GuardB o.d (druns H n0 c0 k0 r (p + 1) K rs ws)) (e s) e σ
def regK (H : Hcall) (ops : List AOper) (dr : Option Nat) (K : (Nat → AV) → St → Prop) (e : Nat → AV) (σ : St) : Prop :=
 (dr = none → runs H ops K e σ) ∧ ∀ k, dr = some k → druns H σ.n σ.c k ops 0 K [] [] e σ
def tagR (p : Nat) (l : List Nat) : List (Nat × Nat) := l.map fun i => (p, i)
def hkeep (af : List Nat) (R : List (Nat × Nat)) (ob ob' : Nat → Option AObj) : Prop := ∀ x ∈ R, x.1 ∈ af ∨ ob' x.2 = ob x.2
def HLt (k : List (Nat × Nat) → (Nat → AV) → St → Prop) (R : List (Nat × Nat)) (e : Nat → AV) (d : Option Nat) (σ : St) (v : AV) (_τ : St) : Prop := k R (puts e d v) σ
def HHv (k : List (Nat × Nat) → (Nat → AV) → St → Prop) (af : List Nat) (R : List (Nat × Nat)) (e : Nat → AV) (d : Option Nat) (ob : Nat → Option AObj) (v : AV) (τ : St) : Prop := hkeep af R ob τ.ob ∧ k R (puts e d v) τ
def hone (H : Hcall) (p : Nat) (op : AOp) (d : Option Nat) (af : List Nat) (k : List (Nat × Nat) → (Nat → AV) → St → Prop) (R : List (Nat × Nat)) (e : Nat → AV) (σ : St) : Prop :=
 if op.lt then run1 H op e σ (HLt k (R ++ tagR p (op.rds e)) e d σ) else run1 H op e σ (HHv k af R e d σ.ob)
def HoneG (H : Hcall) (p : Nat) (op : AOp) (d : Option Nat) (af : List Nat) (k : List (Nat × Nat) → (Nat → AV) → St → Prop) (R : List (Nat × Nat)) (e : Nat → AV) (σ : St) : Prop := hone H p op d af k R e σ
def HoffG (d : Option Nat) (k : List (Nat × Nat) → (Nat → AV) → St → Prop) (R : List (Nat × Nat)) (e : Nat → AV) (σ : St) : Prop := k R (puts e d (.tuple [])) σ
def hstep (H : Hcall) (s : HS) (R : List (Nat × Nat)) (k : List (Nat × Nat) → (Nat → AV) → St → Prop) (e : Nat → AV) (σ : St) : Prop :=
 match s.o.gd with
 | none => hone H s.p s.o.op s.o.d s.o.af k R e σ
 | some (g, w) => gdK g w (HoneG H s.p s.o.op s.o.d s.o.af k R) (HoffG s.o.d k R) (e g) e σ
def hruns (H : Hcall) : List HS → ((Nat → AV) → St → Prop) → List (Nat × Nat) → (Nat → AV) → St → Prop
 | [], K, _, e, σ => K e σ
 | s :: L, K, R, e, σ => hstep H s R (hruns H L K) e σ
def awpK := EX → (Nat → AV) → St → Prop
def SeqQ (k : (Nat → AV) → St → Prop) (Q : awpK) : awpK := fun x e σ => match x with
 | .nrm => k e σ
 | x => Q x e σ
def BlockQ (id : Nat) (Q : awpK) : awpK := fun x e σ => match x with
 | .exit i => if i = id then Q .nrm e σ else Q (.exit i) e σ
 | x => Q x e σ
def LoopQ (n k : Nat) (I : Nat → (Nat → AV) → St → Prop) (Q : awpK) : awpK := fun x e σ => match x with
 | .nrm => ∃ k', k' < k ∧ ∃ nt, n ≤ nt ∧ I k' e (σ.trunc nt)
 | x => Q x e σ
def condK (c : AV) (a b : (Nat → AV) → St → Prop) (e : Nat → AV) (σ : St) : Prop := match c with
 | .bool t => (t = true → a e σ) ∧ (t = false → b e σ)
 | _ => False
def Caps (σ : St) (caps xs : List AV) : Prop := caps.length = xs.length ∧ ∀ (i : Nat) (c x : AV), caps[i]? = some c → xs[i]? = some x →
 (∃ v, scalV x = some v) ∧ ∃ id g o, c = .ptr id g 1 0 0 ∧ σ.ob id = some o ∧ o.g = g ∧ o.es = 1 ∧ o.l = [x]
def NoMap (σ σ1 : St) : Prop := ∀ k o, σ1.ob k = some o → o.ty = mapTy → ∃ k' o', σ.ob k' = some o' ∧ o'.g = o.g
def RangeQ (n : Nat) (I : List Int → St → Prop) (Ix : EX → List Int → St → Prop) (pre : List Int) : awpK := fun x _ σ => match x with
 | .nrm => ∃ nt, n ≤ nt ∧ I pre (σ.trunc nt)
 | x => ∃ nt, n ≤ nt ∧ Ix x pre (σ.trunc nt)
def rangeK (It : Nat → List AV → List Int → Prop) (g : AV) (B : awpK → (Nat → AV) → St → Prop) (t d : Nat) (Q : awpK) (e : Nat → AV) (σ : St) : Prop := match g with
 | .func f caps => ∃ xs vs, It f xs vs ∧ ∃ (I : List Int → St → Prop) (Ix : EX → List Int → St → Prop), I [] σ ∧ (∀ pre σ1, I pre σ1 → Caps σ1 caps xs ∧ NoMap σ σ1) ∧ (∀ x pre σ1, x ≠ .nrm → Ix x pre σ1 → NoMap σ σ1) ∧
   (∀ pre i σ1, i ∈ vs → pre.length < vs.length → I pre σ1 → B (RangeQ σ.n I Ix (pre ++ [i])) (upd (upd e t (.int .i64 i)) d (.int .i64 i)) σ1) ∧
   (∀ σ1, I vs σ1 → Q .nrm e σ1) ∧ ∀ x pre σ1, x ≠ .nrm → pre <+: vs → Ix x pre σ1 → Q x e σ1
 | _ => False
def updl (e : Nat → AV) : List Nat → List AV → Nat → AV
 | t :: ts, v :: vs => updl (upd e t v) ts vs
 | _, _ => e
def RangeGQ (n : Nat) (Ip : List Nat → Prop) (Is : St → Prop) (Ix : EX → List Nat → St → Prop) (pre : List Nat) : awpK := fun x _ σ => match x with
 | .nrm => Ip pre ∧ ∃ nt, n ≤ nt ∧ Is (σ.trunc nt)
 | x => ∃ nt, n ≤ nt ∧ Ix x pre (σ.trunc nt)
def RangeGA (σ0 : St) (Ip : List Nat → Prop) (Is : St → Prop) (N : Nat) (B : List Nat → (Nat → AV) → St → Prop) (e : Nat → AV) (σ : St) : Prop :=
 (∃ nt, σ0.n ≤ nt ∧ Is (σ.trunc nt)) ∧ NoMap σ0 σ ∧ ∀ pre, Ip pre → pre.length < N → B pre e σ
def rangeGK (It : Nat → List AV → List (List AV) → Prop) (g : AV) (A : ((Nat → AV) → St → Prop) → (Nat → AV) → St → Prop) (B : awpK → (Nat → AV) → St → Prop) (ts : List Nat) (Q : awpK) (e : Nat → AV) (σ : St) : Prop := match g with
 | .func f caps => (AV.func f caps).pur = true ∧ ∃ vs, It f caps vs ∧ (∀ v ∈ vs, v.length = ts.length) ∧ ∃ (Ip : List Nat → Prop) (Is : St → Prop) (Ix : EX → List Nat → St → Prop), Ip [] ∧ Is σ ∧ (∀ σ1, Is σ1 → NoMap σ σ1) ∧ (∀ x pre σ1, x ≠ .nrm → Ix x pre σ1 → NoMap σ σ1) ∧
   (∀ i v σ1, vs[i]? = some v → Is σ1 → A (RangeGA σ Ip Is vs.length fun pre => B (RangeGQ σ.n Ip Is Ix (pre ++ [i]))) (updl e ts v) σ1) ∧
   (Ip (List.range vs.length) → ∀ σ1, Is σ1 → Q .nrm e σ1) ∧ ∀ x pre σ1, x ≠ .nrm → pre <+: List.range vs.length → Ix x pre σ1 → Q x e σ1
 | _ => False
def awp (H : Hcall) : ACode → awpK → (Nat → AV) → St → Prop
 | .skip, Q, e, σ => Q .nrm e σ
 | .region ops dr, Q, e, σ => regK H ops dr (Q .nrm) e σ
 | .seq a b, Q, e, σ => awp H a (SeqQ (awp H b Q) Q) e σ
 | .cond c a b, Q, e, σ => condK (c.ev e) (awp H a Q) (awp H b Q) e σ
 | .block id a, Q, e, σ => awp H a (BlockQ id Q) e σ
 | .loop a, Q, e, σ => ∃ (I : Nat → (Nat → AV) → St → Prop), (∃ k, I k e σ) ∧ ∀ k e1 σ1, I k e1 σ1 → awp H a (LoopQ σ.n k I Q) e1 σ1
 | .exit id, Q, e, σ => Q (.exit id) e σ
 | .ret, Q, e, σ => Q .ret e σ
 | .hregion l, Q, e, σ => hruns H l (Q .nrm) [] e σ
 | .rangeF It x t d a, Q, e, σ => rangeK It (x.ev e) (awp H a) t d Q e σ
 | .rangeG It x ts l a, Q, e, σ => rangeGK It (x.ev e) (runs H l) (awp H a) ts Q e σ
def av1 : Value → Option AV
 | .bool b => some (.bool b)
 | .int k n => some (.int k n)
 | .string s => some (.str s)
 | .slice none 0 0 => some .nil
 | .pointer none => some .nilptr
 | .nilFunc => some .nilfunc
 | .map none => some .nilmap
 | _ => none
def avs : List Value → Option (List AV)
 | [] => some []
 | v :: r => match av1 v, avs r with
  | some a, some as => some (a :: as)
  | _, _ => none
def av : Value → Option AV
 | .agg cs => (avs cs.toList).map .agg
 | v => av1 v
def ax : Operand → Option AX
 | .tmp t => some (.t t)
 | .const v => (av v).map .c
 | .func f => some (.c (.func f []))
 | .global _ => none
def axs : List Operand → Option (List AX)
 | [] => some []
 | x :: r => match ax x, axs r with
  | some a, some as => some (a :: as)
  | _, _ => none
def axo : Option Operand → Option (Option AX)
 | none => some none
 | some x => (ax x).map some
def flatFs (P : Program) (F : TypeId → Option (List Nat)) : Nat → List Field → Option (List Nat)
 | _, [] => some []
 | i, f :: fs => if f.offset == i && !(f.name == "_") then match F f.type with
  | some k => if (P.info? f.type).map (·.size) == some k.length then (flatFs P F (i + k.length) fs).map (k ++ ·) else none
  | none => none
  else none
def flatK (P : Program) : Nat → TypeId → Option (List Nat)
 | 0, _ => none
 | d + 1, t => match P.underlying t with
  | some (.int _) => some [0]
  | some .bool => some [1]
  | some .string => some [2]
  | some (.struct fs) => if P.stoodInHeld t then none else flatFs P (flatK P d) 0 fs.toList
  | _ => none
def isAggD : TypeDesc → Bool
 | .struct _ | .array _ _ => true
 | _ => false
def partsOf (P : Program) (fields : Array Field) : List (Nat × Operand) → Option (List (Nat × Nat × AX))
 | [] => some []
 | (k, x) :: r => match fields[k]?, ax x, partsOf P fields r with
  | some f, some a, some as => match P.info? f.type with
   | some i => some ((f.offset, i.size, a) :: as)
   | none => none
  | _, _, _ => none
def partsA (n sz : Nat) : List (Nat × Operand) → Option (List (Nat × Nat × AX))
 | [] => some []
 | (k, x) :: r => match ax x, partsA n sz r with
  | some a, some as => if k < n then some ((k * sz, sz, a) :: as) else none
  | _, _ => none
def okF (P : Program) (f : Nat) : Bool := match P.funcs[f]? with
 | some fn => fn.body.isSome && !(fn.name == "runtime.NumGoroutine")
 | none => false
def okX (P : Program) (f : Nat) : Bool := match P.funcs[f]? with
 | some fn => !(fn.name == "runtime.NumGoroutine")
 | none => false
theorem okX_of_okF {P : Program} {f : Nat} (h : okF P f = true) : okX P f = true := by
 unfold okF at h
 unfold okX
 split at h
 ·rename_i fn hf
  simp only [Bool.and_eq_true] at h
  simpa [hf] using h.2
 ·cases h
def compNew (P : Program) (ty : TypeId) (x : Operand) : Option AOp := match x with
 | .const (.slice none 0 0) => match P.underlying ty with
  | some (.slice e) => match P.info? e with
   | some i => if 0 < i.size then some (.newsl i.size e) else none
   | none => none
  | _ => none
 | _ => none
def compMv (P : Program) (mu : Bool) (ty : TypeId) (x : Operand) : Option AOp := match mu, compNew P ty x with
 | true, some op => some op
 | _, _ => (ax x).map .mv
def isU8 (P : Program) (e : TypeId) : Bool := match P.underlying e with
 | some (.int .u8) => match P.info? e with
  | some i => i.size == 1 && i.bytes == 1
  | none => false
 | _ => false
def isIface : TypeDesc → Bool
 | .interface _ => true
 | _ => false
def sameX : AX → AX → Bool
 | .t a, .t b => a == b
 | .c (.int _ a), .c (.int _ b) => a == b
 | _, _ => false
def isNilX : AX → Bool
 | .c .nil => true
 | _ => false
def mapZ (P : Program) (t : TypeId) : Option AV := match P.underlying t with
 | some (.map k e) => match P.underlying k, P.info? e with
  | some (.int _), some i => match i.zero.bind av with
   | some z => if z.one && z.pur then some z else none
   | none => none
  | _, _ => none
 | _ => none
def pairT (P : Program) (k : TypeId) : Bool := match P.underlying k with
 | some (.struct fs) => flatK P 5 k == some [0, 0] && fs.toList.all fun f => match P.underlying f.type with
  | some (.int _) => true
  | _ => false
 | _ => false
def mapZ2 (P : Program) (t : TypeId) : Option AV := match P.underlying t with
 | some (.map k e) => if pairT P k then (match P.info? e with
  | some i => match i.zero.bind av with
   | some z => if z.one && z.pur then some z else none
   | none => none
  | none => none) else none
 | _ => none
def hintOk : Option Operand → Bool
 | none => true
 | some (.const (.int _ _)) => true
 | _ => false
def compOp0 (P : Program) (mu : Bool) (ty : TypeId) : Op → Option AOp
 | .move x | .assign x => compMv P mu ty x
 | .pick c a b => match ax c, ax a, ax b with
  | some c, some a, some b => some (.pick c a b)
  | _, _, _ => none
 | .alloc t => match P.info? t with
  | some i => match i.zero.bind av with
   | some z => if z.flat && z.cells.length == i.size && 0 < i.size then some (.alloc i.size t z) else none
   | none => none
  | none => none
 | .box t x => match P.info? t, ax x with
  | some i, some a => if 0 < i.size then some (.box i.size t a) else none
  | _, _ => none
 | .build t parts => match P.underlying t, (P.info? t).bind fun i => i.zero.bind av with
  | some (.struct fields), some (.agg zs) => if fields.all fun f => (P.info? f.type).isSome then (partsOf P fields parts.toList).map (.build zs) else none
  | some (.array n el), some (.agg zs) => match P.info? el with
   | some ei => (partsA n ei.size parts.toList).map (.build zs)
   | none => none
  | _, _ => none
 | .buildSlice t len parts => match P.underlying t with
  | some (.slice e) => match P.info? e, axs (parts.toList.map (·.2)) with
   | some i, some xs => if parts.toList.map (·.1) == List.range len && len * i.size ≤ 16777216 && 0 < i.size && (i.zero.any fun z => z.cells.size == i.size) then some (.lit mu i.size e xs) else none
   | _, _ => none
  | _ => none
 | .load t x => match P.underlying t, P.info? t, ax x with
  | some d, some i, some a => if isAggD d then some (.load true i.size a) else some (.load false 1 a)
  | _, _, _ => none
 | .store t x v => match P.info? t, ax x, ax v with
  | some i, some a, some b => if 0 < i.size then some (.store i.size a b) else none
  | _, _, _ => none
 | .nilCheck x => (ax x).map .nilchk
 | .binOp op t x y _ => match P.underlying t, ax x, ax y with
  | some (.int _), some a, some b => (match op with
   | .and | .or | .shl | .shr => some (.pu (.bit op) [a, b])
   | _ => some (.bin op a b))
  | some .string, some a, some b => some (.bin op a b)
  | some .bool, some a, some b => (match op with
   | .eql => some (.eqb false a b)
   | .neq => some (.eqb true a b)
   | _ => none)
  | some (.struct _), some a, some b => if !P.eqGuardType P.depth t then (match op, flatK P 5 t with
   | .eql, some ks => some (.eqs false ks a b)
   | .neq, some ks => some (.eqs true ks a b)
   | _, _ => none) else none
  | some (.slice _), some a, some b => (match op, y with
   | .eql, .const (.slice none 0 0) => some (.isnil false a)
   | .neq, .const (.slice none 0 0) => some (.isnil true a)
   | _, _ => none)
  | _, _, _ => none
 | .unOp op _ x => (ax x).map (.un op)
 | .convert s t x => match P.underlying s, P.underlying t, ax x with
  | some (.int _), some (.int k), some a => some (.conv k a)
  | some .string, some .string, some a => some (.cvs a)
  | some .string, some (.slice e), some a => if isU8 P e then some (.s2b mu e a) else none
  | some (.slice e), some .string, some a => if isU8 P e then some (.b2s a) else none
  | _, _, _ => none
 | .makeInterface t x => match P.underlying t, ax x with
  | some d, some a => if isIface d then none else some (.pu .mki [a])
  | _, _ => none
 | .field t x i => match P.underlying t, ax x with
  | some (.struct fields), some a => match fields[i]? with
   | some f => match P.underlying f.type, P.info? f.type with
    | some d, some fi => some (.pu (.fld (isAggD d) (if isAggD d then fi.size else 1) f.offset) [a])
    | _, _ => none
   | none => none
  | _, _ => none
 | .index t x i => match P.underlying t, ax x, ax i with
  | some (.array n el), some a, some b => match P.underlying el, P.info? el with
   | some d, some ei => if 0 < ei.size then some (.pu (.aidx (isAggD d) ei.size n) [a, b]) else none
   | _, _ => none
  | some .string, some a, some b => some (.pu .sidx [a, b])
  | _, _, _ => none
 | .makeSlice t l c => match P.underlying t, ax l, ax c with
  | some (.slice el), some a, some b => match P.info? el with
   | some i => match i.zero.bind av with
    | some z => if z.flat && z.cells.length == i.size && 0 < i.size && sameX a b then some (.mks mu i.size i.bytes el z a) else none
    | none => none
   | none => none
  | _, _, _ => none
 | .panic _ => some (.pu .never [])
 | .makeMap t r => if ((mapZ P t).isSome || (mapZ2 P t).isSome) && hintOk r then some .mkmap else none
 | .mapUpdate t m k x | .insert t m k x => match mapZ P t, ax m, ax k, ax x with
  | some _, some a, some b, some c => some (.mapset a b c)
  | none, some a, some b, some c => if (mapZ2 P t).isSome then some (.mp .set2 a [b, c]) else none
  | _, _, _, _ => none
 | .mapEntry t m k => match mapZ2 P t, ax m, ax k with
  | some z, some a, some b => some (.mp (.ent2 z) a [b])
  | _, _, _ => none
 | .entryStore t m k x => match mapZ2 P t, ax m, ax k, ax x with
  | some _, some a, some b, some c => some (.mp .sto2 a [b, c])
  | _, _, _, _ => none
 | .lookup t x k ok => match mapZ P t, ax x, ax k with
  | some z, some a, some b => some (.mapget ok z a b)
  | none, some a, some b => (mapZ2 P t).map fun z => .mp (.get2 ok z) a [b]
  | _, _, _ => none
 | .makeFunc (.func f) first caps => if first.isEmpty then (axs caps.toList).map (.mkf f) else if caps.isEmpty then (axs first.toList).map (.mkm f) else none
 | .fieldAddr t x f => match P.underlying t, ax x with
  | some (.struct fields), some a => match fields[f]? with
   | some fl => match P.info? fl.type with
    | some i => if 0 < i.size then some (.fa fl.offset a) else none
    | none => none
   | none => none
  | _, _ => none
 | .indexAddr t x i => match P.underlying t, ax x, ax i with
  | some (.slice e), some a, some b => match P.info? e with
   | some ei => some (.ixs ei.size a b)
   | none => none
  | some (.array n e), some a, some b => match P.info? e with
   | some ei => some (.pu (.aixs ei.size n) [a, b])
   | none => none
  | _, _, _ => none
 | .extract x i => (ax x).map fun a => .ext a i
 | .slice t x lo hi none => match P.underlying t, ax x, axo lo, axo hi with
  | some (.slice e), some a, some l, some h => match P.info? e with
   | some ei => (match mu, l, h with
    | true, none, some h => if 0 < ei.size then some (.trn ei.size a h) else none
    | _, _, _ => some (.slc ei.size a l h))
   | none => none
  | some .string, some a, some l, some h => some (.slcs a l h)
  | some (.pointer arr), some a, some l, some h => match P.underlying arr with
   | some (.array n el) => (match P.info? el with
    | some ei => if 0 < ei.size then some (.slca ei.size n a l h) else none
    | none => none)
   | _ => none
  | some (.array n el), some a, some l, some h => (match P.info? el with
   | some ei => if 0 < ei.size then some (.slca ei.size n a l h) else none
   | none => none)
  | _, _, _, _ => none
 | .slice t x (some lo) (some hi) (some mx) => match P.underlying t, ax x, ax lo, ax hi, ax mx with
  | some (.slice e), some a, some l, some h, some m => match P.info? e with
   | some ei => some (.slc3 ei.size a l h m)
   | none => none
  | _, _, _, _, _ => none
 | .slice t x none (some hi) (some mx) => match P.underlying t, ax x, ax hi, ax mx with
  | some (.slice e), some a, some h, some m => match P.info? e with
   | some ei => some (.slcf ei.size a h m)
   | none => none
  | _, _, _, _ => none
 | .call c => match c.callee, axs c.args.toList with
  | .builtin .len, some [x] => (match c.argTypes.toList with
   | [t] => (match P.underlying t with
    | some (.slice _) => some (.len x)
    | some .string => some (.lens x)
    | some (.map _ _) => some (.mp .mlen x [])
    | _ => none)
   | _ => none)
  | .builtin .append, some [x, y] => (match c.argTypes.toList with
   | [s, t] => if s == t then (match P.underlying s with
    | some (.slice e) => (match P.info? e with
     | some i => if 0 < i.size && (i.zero.any fun z => z.cells.size == i.size) then some (if mu && isNilX x then .appn i.size i.bytes e y else .app i.size i.bytes e x y) else none
     | none => none)
    | _ => none) else (match P.underlying s, P.underlying t with
    | some (.slice e), some (.int _) => (match P.info? e with
     | some i => (match i.zero.bind av with
      | some z => if z.flat && z.cells.length == i.size && 0 < i.size then some (.appz i.size i.bytes e z x y) else none
      | none => none)
     | none => none)
    | _, _ => none)
   | _ => none)
  | .builtin .cap, some [x] => (match c.argTypes.toList with
   | [t] => (match P.underlying t with
    | some (.slice _) => some (.pu .cap0 [x])
    | _ => none)
   | _ => none)
  | .builtin .copy, some [x, y] => (match c.argTypes.toList with
   | [s, t] => (match P.underlying s, P.underlying t with
    | some (.slice e), some (.slice _) => (match P.info? e with
     | some i => if 0 < i.size then some (.cpy i.size x y) else none
     | none => none)
    | _, _ => none)
   | _ => none)
  | .builtin .clear, some [x] => (match c.argTypes.toList with
   | [t] => (match P.underlying t with
    | some (.slice e) => (match P.info? e with
     | some i => (match i.zero.bind av with
      | some z => if z.flat && z.cells.length == i.size && 0 < i.size then some (.clr i.size z x) else none
      | none => none)
     | none => none)
    | _ => none)
   | _ => none)
  | .builtin .delete, some [x, y] => (match c.argTypes.toList with
   | t :: _ => if (mapZ2 P t).isSome then some (.mp .del2 x [y]) else none
   | _ => none)
  | .builtin .panic, _ => some (.pu .never [])
  | .builtin .min, some (x :: xs) => some (.mnx false x xs)
  | .builtin .max, some (x :: xs) => some (.mnx true x xs)
  | .value (.func f), some as => if okX P f then some (.call f as) else none
  | .value (.tmp s), some as => some (.callv (.t s) as)
  | _, _ => none
 | _ => none
def svO (sv : Bool) : AOp → AOp
 | .mv x => if sv then .mvs x else .mv x
 | op => op
def compOp (P : Program) (ms : Bool × Bool) (ty : TypeId) (o : Op) : Option AOp := (compOp0 P ms.1 ty o).map (svO ms.2)
def dstOk (n : Nat) : Option Nat → Bool
 | some d => decide (d < n)
 | none => true
def muOf (mt : List Nat) : Option Nat → Bool × Bool
 | some d => (mt.contains d, mt.contains (2000000 + d))
 | none => (false, false)
def direct (o : Oper) : List Nat := (o.after.toList.filter fun e => Region.binds .any e).map (·.on)
def closure (ops : List Oper) : List (List Nat) :=
 ops.foldl (fun cs o => cs ++ [((direct o) ++ (direct o).flatMap fun u => cs.getD u []).eraseDups]) []
def compOper (P : Program) (mt : List Nat) (n : Nat) (ops : Array Oper) (af : List Nat) (o : Oper) : Option AOper :=
 match compOp P (muOf mt o.dst) o.type o.op with
 | none => none
 | some op =>
  if dstOk n o.dst then
   match o.guard with
   | none => some ⟨o.dst, op, none, af⟩
   | some (j, w) => match (ops[j]?).bind (·.dst) with
    | some s => if s < n then some ⟨o.dst, op, some (s, w), af⟩ else none
    | none => none
  else none
def compOpers (P : Program) (mt : List Nat) (n : Nat) (ops : Array Oper) : List (List Nat) → List Oper → Option (List AOper)
 | _, [] => some []
 | cs, o :: r => match compOper P mt n ops (cs.headD []) o, compOpers P mt n ops cs.tail r with
  | some a, some as => some (a :: as)
  | _, _ => none
def AOper.lk (o : AOper) : List Nat := match o.gd with
 | some (s, _) => s :: o.op.looks
 | none => o.op.looks
def dOff (d : Option Nat) (l : List Nat) : Bool := match d with
 | some i => !l.contains i
 | none => true
def dNe : Option Nat → Option Nat → Bool
 | some i, some j => !(i == j)
 | _, _ => true
def apartA (x y : AOper) : Bool := dOff x.d y.lk && dOff y.d x.lk && dNe x.d y.d
def apartAll : Nat → List AOper → Bool
 | _, [] => true
 | i, o :: r => r.all (fun q => q.af.contains i || apartA o q) && apartAll (i + 1) r
def closedAt (l : List AOper) (i : Nat) (o : Oper) (r : AOper) : Bool :=
 (direct o).all (fun u => decide (u < i)) && r.af.all fun x => (direct o).contains x || (direct o).any fun u => match l[u]? with
  | some q => q.af.contains x
  | none => false
def closedAll (l : List AOper) : Nat → List Oper → List AOper → Bool
 | i, o :: os, r :: rs => closedAt l i o r && closedAll l (i + 1) os rs
 | _, _, _ => true
def drawOk (ops : List Oper) (l : List AOper) (k : Nat) : Bool := (k == l.length || l.all fun o => !o.op.new) && apartAll 0 l && closedAll l 0 ops l && decide (l.length ≤ mapK)
def hput (s : HS) : List HS → List HS
 | [] => [s]
 | a :: L => if s.o.af.contains a.p || L.any (fun b => s.o.af.contains b.p) then a :: hput s L else s :: a :: L
def hoist : List HS → List HS → List HS
 | acc, [] => acc
 | acc, s :: L => hoist (if s.o.op.lt then hput s acc else acc ++ [s]) L
def numbered (l : List AOper) : List HS := (l.zipIdx).map fun x => ⟨x.2, x.1⟩
def hsink (s : HS) : List HS → List HS
 | [] => [s]
 | a :: L => if a.o.af.contains s.p then s :: a :: L else a :: hsink s L
def sinkAll : List HS → List HS
 | [] => []
 | s :: L => if s.o.op.al then hsink s (sinkAll L) else s :: sinkAll L
def hlist (l : List AOper) : List HS := sinkAll (hoist [] (numbered l))
def hrelB (ops : List Oper) (a s : HS) : Bool := decide (a.p ≠ s.p) && (match ops[a.p]? with | some o => !(direct o).contains s.p | none => true) && (s.o.af.contains a.p || (a.o.op.lt && apartA a.o s.o) || s.o.op.al)
 && (!s.o.op.al || (s.o.gd.isNone && s.o.d.isSome && apartA a.o s.o))
def hrelAll (ops : List Oper) : List HS → Bool
 | [] => true
 | a :: L => L.all (hrelB ops a) && hrelAll ops L
def heavyOk (ops : List Oper) (l : List AOper) : Bool := hrelAll ops (hlist l) && (hlist l).all (fun s => !s.o.op.al || (s.o.gd.isNone && s.o.d.isSome)) && closedAll l 0 ops l
def reserve (l : List AOper) : Nat := if l.any fun o => o.op.new then l.length else 0
def compReg (P : Program) (mt : List Nat) (n : Nat) (ops : Array Oper) (draw : Bool) : Option ACode :=
 if draw then match compOpers P mt n ops (closure ops.toList) ops.toList with
  | some l => if mt.contains 1000000 && P.follows .mixedOrders && heavyOk ops.toList l then some (.hregion (hlist l)) else
   if P.follows .mixedOrders && drawOk ops.toList l (reserve l) then some (.region l (some (reserve l))) else none
  | none => none
 else (compOpers P mt n ops [] ops.toList).map fun l => .region l none
def asgn : Code → Option (Nat × Nat)
 | .region _ ops false => match ops.toList with
  | [o] => match o.dst, o.op, o.guard with
   | some d, .assign (.tmp t), none => some (t, d)
   | _, _, _ => none
  | _ => none
 | _ => none
def asgnG : Code → Option (Array Oper)
 | .region _ ops false => some ops
 | _ => none
def noRange : Code → Bool
 | .seq a b => noRange a && noRange b
 | .cond _ a b => noRange a && noRange b
 | .block _ a => noRange a
 | .loop a => noRange a
 | .rangeFunc .. => false
 | _ => true
def comp (P : Program) (mt : List Nat) (n : Nat) : Code → Option ACode
 | .skip => some .skip
 | .region _ ops draw => compReg P mt n ops draw
 | .seq a b => match comp P mt n a, comp P mt n b with
  | some a, some b => some (.seq a b)
  | _, _ => none
 | .cond c a b => match ax c, comp P mt n a, comp P mt n b with
  | some c, some a, some b => some (.cond c a b)
  | _, _, _ => none
 | .block id a => (comp P mt n a).map (.block id)
 | .loop a => (comp P mt n a).map .loop
 | .exit id => some (.exit id)
 | .ret => some .ret
 | .rangeFunc g ps assign body => match ax g, ps.toList, asgn assign, comp P mt n body with
  | some x, [t], some (t', d), some b => if t' = t ∧ t < n ∧ d < n ∧ noRange body = true then some (.rangeF (ItC P) x t d b) else none
  | some x, t1 :: t2 :: ts, _, some b => (match asgnG assign with
   | some ops => (match compOpers P mt n ops [] ops.toList with
    | some l => if (t1 :: t2 :: ts).all (fun t => decide (t < n)) = true ∧ noRange body = true then some (.rangeG (ItG P) x (t1 :: t2 :: ts) l b) else none
    | none => none)
   | none => none)
  | _, _, _, _ => none
 | _ => none
end Go.Ab
