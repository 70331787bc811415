/- OWN WORK, put together by tools/asm.py, seat.py, mini.py. -/
import Derived.WalkKit
import Derived.Orders
import Derived.Laws.AppendOwn
import Derived.Laws.MakeOwn
import Derived.Below
namespace Go.Ab
open Go.RowKit
inductive AV where
 | bool (b:Bool)
 | int (k:IntKind) (n:Int)
 | str (s:ByteArray)
 | nil
 | list (es:Nat) (l:List AV)
 | sl (id g es off n:Nat)
 | fH (id g es off n cap:Nat)
 | zq (id g es i off ee n:Nat)
 | ptr (id g es i off:Nat)
 | eQ (es:Nat) (l:List AV) (i off:Nat)
 | jo
 | agg (cs:List AV)
 | tuple (vs:List AV)
 | func (f:Nat) (caps:List AV)
 | fN
 | kN
 | jq (id g:Nat)
 | fl (es:Nat) (l:List AV)
 | qe (f:Nat) (fs:List AV)
 | bC
 deriving Inhabited
def AV.cells:AV→List AV
 | .agg cs=>cs
 | v=>[v]
def AV.one:AV→Bool
 | .agg _ | .tuple _ | .bC=>false
 | _=>true
def AV.flat:AV→Bool
 | .agg cs=>cs.all AV.one
 | a=>a.one
def mF (es:Nat) (x:AV):Prop:=x.flat=true∧x.cells.length=es
def nv (w:World) (b:Nat):Prop:=∃ c t f,w.heap[b]?=some (.cells c t f)
theorem nv.new (w:World) (cs:Array Value) (t:TypeId) (fr:Nat × Nat):nv (w.alloc (.cells cs t fr)) w.heap.size:=⟨cs,t,fr,Array.getElem?_push_size⟩
theorem nv.same {w w':World} {b:Nat} (h:nv w b) (e:w'.heap[b]?=w.heap[b]?):nv w' b:=by
 obtain ⟨c,t,f,h⟩:=h
 exact ⟨c,t,f,e.trans h⟩
theorem nv.LD {w:World} {b:Nat} {j:Nat} {v:Value} (h:w.cell? ⟨b,j,none⟩=some v):nv w b:=by
 simp only [World.cell?] at h
 split at h
 ·rename_i cc _ _ hb
  exact ⟨_,_,_,hb⟩
 ·cases h
inductive VP (S:Nat→Prop) (w:World):AV→Value→Prop
 | bool (b:Bool):VP S w (.bool b) (.bool b)
 | int (k:IntKind) (n:Int):VP S w (.int k n) (.int k n)
 | str (s:ByteArray):VP S w (.str s) (.string s)
 | nil:VP S w .nil (.slice none 0 0)
 | bP (es:Nat) (a:Option Addr) (c:Nat):VP S w (.list es []) (.slice a 0 c)
 | list {es:Nat} {l:List AV} {b o cap:Nat} (f:Nat→Nat→Value) (hl:l≠[]) (hcap:l.length≤cap) (hS:S b∧nv w b)
   (hc:∀ (i:Nat) (x:AV),l[i]?=some x→mF es x)
   (hw:∀ i j,i<l.length→j<es→w.cell? ⟨b,o+i * es+j,none⟩=some (f i j))
   (hv:∀ (i:Nat) (x:AV) (j:Nat) (y:AV),l[i]?=some x→x.cells[j]?=some y→VP S w y (f i j)) :
   VP S w (.list es l) (.slice (some ⟨b,o,none⟩) l.length cap)
 | eQ {es:Nat} {l:List AV} {i off b o:Nat} (f:Nat→Nat→Value) (hS:S b∧nv w b)
   (hc:∀ (i:Nat) (x:AV),l[i]?=some x→mF es x)
   (hw:∀ i j,i<l.length→j<es→w.cell? ⟨b,o+i * es+j,none⟩=some (f i j))
   (hv:∀ (i:Nat) (x:AV) (j:Nat) (y:AV),l[i]?=some x→x.cells[j]?=some y→VP S w y (f i j)) :
   VP S w (.eQ es l i off) (.pointer (some ⟨b,o+i * es+off,none⟩))
 | jo:VP S w .jo (.pointer none)
 | agg {cs:List AV} {vs:Array Value} (hl:vs.size=cs.length)
   (h:∀ (j:Nat) (y:AV) (v:Value),cs[j]?=some y→vs[j]?=some v→VP S w y v):VP S w (.agg cs) (.agg vs)
 | tuple {cs:List AV} {vs:Array Value} (hl:vs.size=cs.length)
   (h:∀ (j:Nat) (y:AV) (v:Value),cs[j]?=some y→vs[j]?=some v→VP S w y v):VP S w (.tuple cs) (.tuple vs)
 | func {f:Nat} {cs:List AV} {vs:Array Value} (hl:vs.size=cs.length)
   (h:∀ (j:Nat) (y:AV) (v:Value),cs[j]?=some y→vs[j]?=some v→VP S w y v):VP S w (.func f cs) (.func (.func f) #[] vs)
 | fN:VP S w .fN .nilFunc
 | kN:VP S w .kN (.map none)
 | fl {es:Nat} {l:List AV} {a:Option Addr} (h:VP S w (.list es l) (.slice a l.length l.length)):VP S w (.fl es l) (.slice a l.length l.length)
 | qe {f:Nat} {fs:List AV} {vs:Array Value} (hl:vs.size=fs.length)
   (h:∀ (j:Nat) (y:AV) (v:Value),fs[j]?=some y→vs[j]?=some v→VP S w y v):VP S w (.qe f fs) (.func (.func f) vs #[])
theorem VP.bG {S S':Nat→Prop} {w w':World} (hS:∀ b,S b→S' b) (hb:∀ b,S b→w'.heap[b]?=w.heap[b]?) {a:AV} {v:Value} (h:VP S w a v):VP S' w' a v:=by
 induction h with
 | bool b=>exact .bool b
 | int k n=>exact .int k n
 | str s=>exact .str s
 | nil=>exact .nil
 | bP es a c=>exact .bP es a c
 | list f hl hcap hs hc hw _ ih=>
  exact .list f hl hcap ⟨hS _ hs.1,hs.2.same (hb _ hs.1)⟩ hc (fun i j hi hj=>by rw [World.cell?_of_block (w:=w) (hb _ hs.1)]; exact hw i j hi hj) ih
 | eQ f hs hc hw _ ih=>
  exact .eQ f ⟨hS _ hs.1,hs.2.same (hb _ hs.1)⟩ hc (fun i j hi hj=>by rw [World.cell?_of_block (w:=w) (hb _ hs.1)]; exact hw i j hi hj) ih
 | jo=>exact .jo
 | agg hl _ ih=>exact .agg hl ih
 | tuple hl _ ih=>exact .tuple hl ih
 | func hl _ ih=>exact .func hl ih
 | fN=>exact .fN
 | kN=>exact .kN
 | fl _ ih=>exact .fl ih
 | qe hl _ ih=>exact .qe hl ih
theorem VP.Ht {S S':Nat→Prop} {w w':World} (hb:∀ b,S b→nv w b→S' b∧w'.heap[b]?=w.heap[b]?) {a:AV} {v:Value} (h:VP S w a v):VP S' w' a v:=by
 induction h with
 | bool b=>exact .bool b
 | int k n=>exact .int k n
 | str s=>exact .str s
 | nil=>exact .nil
 | bP es a c=>exact .bP es a c
 | list f hl hcap hs hc hw _ ih=>
  exact .list f hl hcap ⟨(hb _ hs.1 hs.2).1,hs.2.same (hb _ hs.1 hs.2).2⟩ hc (fun i j hi hj=>by rw [World.cell?_of_block (w:=w) (hb _ hs.1 hs.2).2]; exact hw i j hi hj) ih
 | eQ f hs hc hw _ ih=>
  exact .eQ f ⟨(hb _ hs.1 hs.2).1,hs.2.same (hb _ hs.1 hs.2).2⟩ hc (fun i j hi hj=>by rw [World.cell?_of_block (w:=w) (hb _ hs.1 hs.2).2]; exact hw i j hi hj) ih
 | jo=>exact .jo
 | agg hl _ ih=>exact .agg hl ih
 | tuple hl _ ih=>exact .tuple hl ih
 | func hl _ ih=>exact .func hl ih
 | fN=>exact .fN
 | kN=>exact .kN
 | fl _ ih=>exact .fl ih
 | qe hl _ ih=>exact .qe hl ih
def bZ (v:Value) (es off n:Nat):Value:=
 match v with
 | .slice (some a) _ cap=>.slice (some ⟨a.block,off * es,none⟩) n (cap-off)
 | _=>.slice none 0 0
def bN:Value→Nat
 | .slice (some _) _ cap=>cap
 | _=>0
def fI:Value→Bool
 | .slice (some ⟨_,_,some _⟩) _ _=>false
 | _=>true
abbrev Mp:=Nat→Option Value
inductive VR (m:Mp) (S:Nat→Prop) (w:World):AV→Value→Prop
 | pure {a:AV} {v:Value} (h:VP S w a v):VR m S w a v
 | sl {id g es off n:Nat} {v:Value} (h:m g=some v) (hn:off+n≤bN v) (hs:fI v=true):VR m S w (.sl id g es off n) (bZ v es off n)
 | jq {id g b:Nat} (h:m g=some (.slice (some ⟨b,0,some 0⟩) 0 0)):VR m S w (.jq id g) (.map (some b))
 | fH {id g es off n b len cap:Nat} (h:m g=some (.slice (some ⟨b,0,none⟩) len cap)) (hn:off+n≤cap) :
   VR m S w (.fH id g es off n cap) (.slice (some ⟨b,off * es,none⟩) n (cap-off))
 | zq {id g es i off ee n b len cap k:Nat} (h:m g=some (.slice (some ⟨b,0,none⟩) len cap)) (hn:n≤k) :
   VR m S w (.zq id g es i off ee n) (.slice (some ⟨b,i * es+off,none⟩) n k)
 | ptr {id g es i off b len cap:Nat} (h:m g=some (.slice (some ⟨b,0,none⟩) len cap)) :
   VR m S w (.ptr id g es i off) (.pointer (some ⟨b,i * es+off,none⟩))
 | agg {cs:List AV} {vs:Array Value} (hl:vs.size=cs.length)
   (h:∀ (j:Nat) (y:AV) (v:Value),cs[j]?=some y→vs[j]?=some v→VR m S w y v):VR m S w (.agg cs) (.agg vs)
 | tuple {cs:List AV} {vs:Array Value} (hl:vs.size=cs.length)
   (h:∀ (j:Nat) (y:AV) (v:Value),cs[j]?=some y→vs[j]?=some v→VR m S w y v):VR m S w (.tuple cs) (.tuple vs)
 | func {f:Nat} {cs:List AV} {vs:Array Value} (hl:vs.size=cs.length)
   (h:∀ (j:Nat) (y:AV) (v:Value),cs[j]?=some y→vs[j]?=some v→VR m S w y v):VR m S w (.func f cs) (.func (.func f) #[] vs)
 | bC (v:Value):VR m S w .bC v
def Mp.le (m m':Mp):Prop:=∀ g v,m g=some v→m' g=some v
theorem Mp.le_refl (m:Mp):m.le m:=fun _ _ h=>h
theorem Mp.le_trans {a b c:Mp} (h:a.le b) (k:b.le c):a.le c:=fun g v x=>k g v (h g v x)
theorem VR.bG {m m':Mp} {S S':Nat→Prop} {w w':World} (hm:m.le m') (hS:∀ b,S b→S' b) (hb:∀ b,S b→w'.heap[b]?=w.heap[b]?) {a:AV} {v:Value} (h:VR m S w a v):VR m' S' w' a v:=by
 induction h with
 | pure h=>exact .pure (h.bG hS hb)
 | sl h hn hs=>exact .sl (hm _ _ h) hn hs
 | jq h=>exact .jq (hm _ _ h)
 | fH h hn=>exact .fH (hm _ _ h) hn
 | zq h hn=>exact .zq (hm _ _ h) hn
 | ptr h=>exact .ptr (hm _ _ h)
 | agg hl _ ih=>exact .agg hl ih
 | tuple hl _ ih=>exact .tuple hl ih
 | func hl _ ih=>exact .func hl ih
 | bC v=>exact .bC v
theorem VR.Ht {m m':Mp} {S S':Nat→Prop} {w w':World} (hm:m.le m') (hb:∀ b,S b→nv w b→S' b∧w'.heap[b]?=w.heap[b]?) {a:AV} {v:Value} (h:VR m S w a v):VR m' S' w' a v:=by
 induction h with
 | pure h=>exact .pure (h.Ht hb)
 | sl h hn hs=>exact .sl (hm _ _ h) hn hs
 | jq h=>exact .jq (hm _ _ h)
 | fH h hn=>exact .fH (hm _ _ h) hn
 | zq h hn=>exact .zq (hm _ _ h) hn
 | ptr h=>exact .ptr (hm _ _ h)
 | agg hl _ ih=>exact .agg hl ih
 | tuple hl _ ih=>exact .tuple hl ih
 | func hl _ ih=>exact .func hl ih
 | bC v=>exact .bC v
def bR (m:Mp) (S:Nat→Prop) (w:World) (as:List AV) (vs:List Value):Prop:=
 vs.length=as.length∧∀ (j:Nat) (y:AV) (u:Value),as[j]?=some y→vs[j]?=some u→VR m S w y u
theorem bR.bG {m m':Mp} {S S':Nat→Prop} {w w':World} (hm:m.le m') (hS:∀ b,S b→S' b) (hb:∀ b,S b→w'.heap[b]?=w.heap[b]?) {as:List AV} {vs:List Value} (h:bR m S w as vs):bR m' S' w' as vs:=
 ⟨h.1,fun j y u a b=>(h.2 j y u a b).bG hm hS hb⟩
theorem bR.nil {m:Mp} {S:Nat→Prop} {w:World}:bR m S w [] []:=⟨rfl,fun j y u a=>by simp at a⟩
theorem bR.cons {m:Mp} {S:Nat→Prop} {w:World} {a:AV} {v:Value} {as:List AV} {vs:List Value} (h:VR m S w a v) (k:bR m S w as vs):bR m S w (a :: as) (v :: vs):=by
 refine ⟨by simp [k.1],fun j y u hy hu=>?_⟩
 cases j with
 | zero=>simp at hy hu; subst hy; subst hu; exact h
 | succ j=>exact k.2 j y u (by simpa using hy) (by simpa using hu)
theorem bR.append {m:Mp} {S:Nat→Prop} {w:World} {as bs:List AV} {vs us:List Value} (h:bR m S w as vs) (k:bR m S w bs us):bR m S w (as++bs) (vs++us):=by
 refine ⟨by simp [h.1,k.1],fun j y u hy hu=>?_⟩
 rw [List.getElem?_append] at hy hu
 by_cases hj:j<as.length
 ·rw [if_pos hj] at hy; rw [if_pos (by rw [h.1]; exact hj)] at hu; exact h.2 j y u hy hu
 ·rw [if_neg hj] at hy; rw [if_neg (by rw [h.1]; exact hj)] at hu; rw [h.1] at hu; exact k.2 _ y u hy hu
theorem bR.take {m:Mp} {S:Nat→Prop} {w:World} {as:List AV} {vs:List Value} (h:bR m S w as vs) (n:Nat):bR m S w (as.take n) (vs.take n):=by
 refine ⟨by simp [h.1],fun j y u hy hu=>?_⟩
 rw [List.getElem?_take] at hy hu
 split at hy
 ·rename_i hj; rw [if_pos hj] at hu; exact h.2 j y u hy hu
 ·cases hy
theorem bR.drop {m:Mp} {S:Nat→Prop} {w:World} {as:List AV} {vs:List Value} (h:bR m S w as vs) (n:Nat):bR m S w (as.drop n) (vs.drop n):=by
 refine ⟨by simp [h.1],fun j y u hy hu=>?_⟩
 rw [List.getElem?_drop] at hy hu
 exact h.2 _ y u hy hu
theorem bR.get {m:Mp} {S:Nat→Prop} {w:World} {as:List AV} {vs:List Value} (h:bR m S w as vs) {j:Nat} {y:AV} (hy:as[j]?=some y):∃ u,vs[j]?=some u∧VR m S w y u:=by
 have hj:j<vs.length:=by rw [h.1]; exact (List.getElem?_eq_some_iff.1 hy).1
 exact ⟨vs[j],List.getElem?_eq_getElem hj,h.2 j y _ hy (List.getElem?_eq_getElem hj)⟩
theorem VR.ov {m:Mp} {S:Nat→Prop} {w:World} {cs:List AV} {v:Value} (h:VR m S w (.agg cs) v):∃ vs:Array Value,v=.agg vs∧bR m S w cs vs.toList:=by
 cases h with
 | pure h=>cases h with
  | agg hl h=>exact ⟨_,rfl,by simpa using hl,fun j y u a b=>.pure (h j y u a (by simpa using b))⟩
 | agg hl h=>exact ⟨_,rfl,by simpa using hl,fun j y u a b=>h j y u a (by simpa using b)⟩
theorem VR.p8 {m:Mp} {S:Nat→Prop} {w:World} {cs:List AV} {v:Value} (h:VR m S w (.tuple cs) v):∃ vs:Array Value,v=.tuple vs∧bR m S w cs vs.toList:=by
 cases h with
 | pure h=>cases h with
  | tuple hl h=>exact ⟨_,rfl,by simpa using hl,fun j y u a b=>.pure (h j y u a (by simpa using b))⟩
 | tuple hl h=>exact ⟨_,rfl,by simpa using hl,fun j y u a b=>h j y u a (by simpa using b)⟩
theorem VR.yT {m:Mp} {S:Nat→Prop} {w:World} {f:Nat} {cs:List AV} {v:Value} (h:VR m S w (.func f cs) v):∃ vs:Array Value,v=.func (.func f) #[] vs∧bR m S w cs vs.toList:=by
 cases h with
 | pure h=>cases h with
  | func hl h=>exact ⟨_,rfl,by simpa using hl,fun j y u a b=>.pure (h j y u a (by simpa using b))⟩
 | func hl h=>exact ⟨_,rfl,by simpa using hl,fun j y u a b=>h j y u a (by simpa using b)⟩
theorem VR.Hp {m:Mp} {S:Nat→Prop} {w:World} {f:Nat} {cs:List AV} {v:Value} (h:VR m S w (.qe f cs) v):∃ vs:Array Value,v=.func (.func f) vs #[]∧bR m S w cs vs.toList:=by
 cases h with
 | pure h=>cases h with
  | qe hl h=>exact ⟨_,rfl,by simpa using hl,fun j y u a b=>.pure (h j y u a (by simpa using b))⟩
theorem VR.Rq {m:Mp} {S:Nat→Prop} {w:World} {es:Nat} {l:List AV} {v:Value} (h:VR m S w (.fl es l) v):∃ a,v=.slice a l.length l.length∧VP S w (.list es l) v:=by
 cases h with
 | pure h=>cases h with
  | fl h=>exact ⟨_,rfl,h⟩
theorem VR.Af {m:Mp} {S:Nat→Prop} {w:World} {cs:List AV} {vs:Array Value} (h:bR m S w cs vs.toList):VR m S w (.agg cs) (.agg vs):=
 .agg (by simpa using h.1) fun j y u a b=>h.2 j y u a (by simpa using b)
theorem VR.nr {m:Mp} {S:Nat→Prop} {w:World} {cs:List AV} {vs:Array Value} (h:bR m S w cs vs.toList):VR m S w (.tuple cs) (.tuple vs):=
 .tuple (by simpa using h.1) fun j y u a b=>h.2 j y u a (by simpa using b)
theorem VR.LN {m:Mp} {S:Nat→Prop} {w:World} {f:Nat} {cs:List AV} {vs:Array Value} (h:bR m S w cs vs.toList):VR m S w (.func f cs) (.func (.func f) #[] vs):=
 .func (by simpa using h.1) fun j y u a b=>h.2 j y u a (by simpa using b)
theorem VR.of_int {m:Mp} {S:Nat→Prop} {w:World} {k:IntKind} {n:Int} {v:Value} (h:VR m S w (.int k n) v):v=.int k n:=by
 cases h with | pure h=>cases h; rfl
theorem VR.of_bool {m:Mp} {S:Nat→Prop} {w:World} {b:Bool} {v:Value} (h:VR m S w (.bool b) v):v=.bool b:=by
 cases h with | pure h=>cases h; rfl
theorem VR.mH {m:Mp} {S:Nat→Prop} {w:World} {s:ByteArray} {v:Value} (h:VR m S w (.str s) v):v=.string s:=by
 cases h with | pure h=>cases h; rfl
theorem VR.of_nil {m:Mp} {S:Nat→Prop} {w:World} {v:Value} (h:VR m S w .nil v):v=.slice none 0 0:=by
 cases h with | pure h=>cases h; rfl
theorem VR.one {m:Mp} {S:Nat→Prop} {w:World} {a:AV} {v:Value} (h:VR m S w a v) (ha:a.one=true):a.cells=[a]∧v.cells=#[v]∧v.oneCell'=true:=by
 cases h with
 | pure h=>cases h <;> simp [AV.cells,AV.one,Value.cells,Value.oneCell'] at *
 | jq h=>simp [AV.cells,Value.cells,Value.oneCell']
 | sl h hn hs=>
  rename_i v
  refine ⟨rfl,?_⟩
  unfold bZ
  split <;> simp [Value.cells,Value.oneCell']
 | ptr h=>simp [AV.cells,Value.cells,Value.oneCell']
 | fH h hn=>simp [AV.cells,Value.cells,Value.oneCell']
 | zq h hn=>simp [AV.cells,Value.cells,Value.oneCell']
 | agg hl h=>simp [AV.one] at ha
 | tuple hl h=>simp [AV.one] at ha
 | func hl h=>simp [AV.cells,Value.cells,Value.oneCell']
 | bC v=>simp [AV.one] at ha
theorem VR.cells {m:Mp} {S:Nat→Prop} {w:World} {a:AV} {v:Value} (h:VR m S w a v) (ha:a.flat=true) :
  bR m S w a.cells v.cells.toList∧∀ u∈v.cells.toList,u.oneCell'=true:=by
 by_cases h1:a.one=true
 ·obtain ⟨e1,e2,e3⟩:=h.one h1
  rw [e1,e2]
  exact ⟨bR.nil.cons h,by simpa using e3⟩
 ·cases a with
  | agg cs=>
   obtain ⟨vs,rfl,hv⟩:=h.ov
   refine ⟨by simpa [AV.cells,Value.cells] using hv,fun u hu=>?_⟩
   obtain ⟨j,hj⟩:=List.getElem?_of_mem hu
   have hj':vs.toList[j]?=some u:=by simpa [Value.cells] using hj
   have hlt:j<cs.length:=by rw [←hv.1]; exact (List.getElem?_eq_some_iff.1 hj').1
   have hc:=hv.2 j _ u (List.getElem?_eq_getElem hlt) hj'
   exact (hc.one (List.all_eq_true.1 ha _ (List.getElem_mem hlt))).2.2
  | _=>simp_all [AV.flat,AV.one]
end Go.Ab
