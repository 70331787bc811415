/- OWN WORK, put together by tools/asm.py, seat.py, mini.py. -/
import Derived.ChangeArms
import Derived.DataReads
import Derived.WideShapes
import Derived.OpenShut
import Derived.ChangeShapes
import Derived.Test.YtcpckngdfjmbgaaGreatBaseQ
namespace Go.Ab
inductive Sh where
 | int (k:IntKind)
 | bool
 | str
 | f0
 | fc (a b:Sh)
 | struct (s:Sh)
 | slice (es:Nat) (s:Sh)
def Sh.one:Sh→Bool
 | .f0 | .fc _ _ | .struct _=>false
 | _=>true
def Sh.vP:Sh→Bool
 | .f0 | .fc _ _=>true
 | _=>false
def Sh.Gx (s:Sh) (cs:List AV):AV:=if s.one then cs.getD 0 .bC else .agg cs
def Sh.R:Sh→List AV→Prop
 | .int k,l=>∃ n,l=[.int k n]∧(Lit.int k n).wf=true
 | .bool,l=>∃ b,l=[.bool b]
 | .str,l=>∃ s:ByteArray,l=[.str s]∧s.size≤9223372036854775807
 | .f0,l=>l=[]
 | .fc a b,l=>∃ x y,l=x++y∧a.R x∧b.R y
 | .struct s,l=>s.R l
 | .slice es s,l=>∃ xs:List AV,l=[.list es xs]∧xs.length≤9223372036854775807∧∀ x∈xs,∃ cs,s.R cs∧cs.length=es∧x=s.Gx cs
def Sh.ok (P:Program):Sh→TypeId→List Field→Nat→Nat→Bool
 | .int k,t,_,_,_=>match P.underlying t with | some (.int k')=>decide (k'=k) | _=>false
 | .bool,t,_,_,_=>match P.underlying t with | some .bool=>true | _=>false
 | .str,t,_,_,_=>match P.underlying t with | some .string=>true | _=>false
 | .f0,_,fl,off,tot=>fl.isEmpty&&decide (off=tot)
 | .fc a b,_,fl,off,tot=>match fl with
  | f :: r=>!a.vP&&decide (f.offset=off)&&decide (off+P.cellsOf f.type≤tot)&&a.ok P f.type [] 0 0&&b.ok P 0 r (off+P.cellsOf f.type) tot&&b.vP
  | []=>false
 | .struct s,t,_,_,_=>match P.underlying t with | some (.struct fs)=>s.vP&&s.ok P 0 fs.toList 0 (P.cellsOf t) | _=>false
 | .slice es s,t,_,_,_=>match P.underlying t with | some (.slice e)=>!s.vP&&decide (P.cellsOf e=es)&&decide (0<es)&&s.ok P e [] 0 0 | _=>false
def Cells (w:World) (l:List AV) (cs:List Value):Prop:=l.length=cs.length∧(∀ y∈l,y.one=true)∧∀ (j:Nat) (y:AV) (v:Value),l[j]?=some y→cs[j]?=some v→VP (fun b=>b<w.heap.size) w y v
theorem Cells.one {w:World} {y:AV} {v:Value} (h1:y.one=true) (h:VP (fun b=>b<w.heap.size) w y v):Cells w [y] [v]:=by
 refine ⟨rfl,by simpa using h1,fun j y' v' hy hv=>?_⟩
 cases j with
 | zero=>simp at hy hv; subst hy; subst hv; exact h
 | succ j=>simp at hy
theorem Cells.append {w:World} {l1 l2:List AV} {c1 c2:List Value} (h1:Cells w l1 c1) (h2:Cells w l2 c2):Cells w (l1++l2) (c1++c2):=by
 refine ⟨by simp [h1.1,h2.1],fun y hy=>?_,fun j y v hy hv=>?_⟩
 ·rcases List.mem_append.1 hy with h | h
  ·exact h1.2.1 y h
  ·exact h2.2.1 y h
 ·by_cases hj:j<l1.length
  ·rw [List.getElem?_append_left hj] at hy
   rw [List.getElem?_append_left (by rw [←h1.1]; exact hj)] at hv
   exact h1.2.2 j y v hy hv
  ·rw [List.getElem?_append_right (by omega)] at hy
   rw [List.getElem?_append_right (by rw [←h1.1]; omega),←h1.1] at hv
   exact h2.2.2 _ y v hy hv
theorem Sh.Hn {s:Sh} (h1:s.one=true) {l:List AV} (h:s.R l):∃ y,l=[y]:=by
 cases s with
 | int k=>obtain ⟨n,rfl,_⟩:=h; exact ⟨_,rfl⟩
 | bool=>obtain ⟨n,rfl⟩:=h; exact ⟨_,rfl⟩
 | str=>obtain ⟨n,rfl,_⟩:=h; exact ⟨_,rfl⟩
 | slice es s=>obtain ⟨n,rfl,_⟩:=h; exact ⟨_,rfl⟩
 | f0=>cases h1
 | fc a b=>cases h1
 | struct s=>cases h1
section
variable {H : Type} {enc : TypeId × Value → H} {P : Program} {w : World} {base : Nat} {spare : Nat → Bool} {held : Bool}
theorem Sh.opens:∀ (s:Sh) (t:TypeId) (fl:List Field) (off tot:Nat),s.ok P t fl off tot=true→
  (s.vP=false→∀ (fuel:Nat) (cs:List Value) (x:DataW H × List MemPlace),DataW.trod enc P w base spare held fuel t cs=some x→∃ l,s.R l∧Cells w l cs)∧
  (s.vP=true→∀ (cs:List Value),cs.length=tot→(∀ f∈fl,∃ (fuel:Nat) (x:DataW H × List MemPlace),DataW.trod enc P w base spare held fuel f.type ((cs.drop f.offset).take (P.cellsOf f.type))=some x)→∃ l,s.R l∧Cells w l (cs.drop off))
 | .int k,t,fl,off,tot,hok=>by
  refine ⟨fun _ fuel cs x h=>?_,fun h=>by simp [Sh.vP] at h⟩
  simp only [Sh.ok] at hok
  split at hok
  ·rename_i k' ht
   have:=of_decide_eq_true hok
   subst this
   obtain ⟨n,rfl,_,hw⟩:=DataW.trod_int ht h
   exact ⟨_,⟨n,rfl,hw⟩,Cells.one rfl (.int _ _)⟩
  ·cases hok
 | .bool,t,fl,off,tot,hok=>by
  refine ⟨fun _ fuel cs x h=>?_,fun h=>by simp [Sh.vP] at h⟩
  simp only [Sh.ok] at hok
  split at hok
  ·rename_i ht
   obtain ⟨n,rfl,_⟩:=DataW.trod_bool ht h
   exact ⟨_,⟨n,rfl⟩,Cells.one rfl (.bool _)⟩
  ·cases hok
 | .str,t,fl,off,tot,hok=>by
  refine ⟨fun _ fuel cs x h=>?_,fun h=>by simp [Sh.vP] at h⟩
  simp only [Sh.ok] at hok
  split at hok
  ·rename_i ht
   obtain ⟨n,rfl,_,hs⟩:=DataW.trod_string ht h
   exact ⟨_,⟨n,rfl,by simpa [maxLen] using hs⟩,Cells.one rfl (.str _)⟩
  ·cases hok
 | .f0,t,fl,off,tot,hok=>by
  refine ⟨fun h=>by simp [Sh.vP] at h,fun _ cs hcs _=>?_⟩
  simp only [Sh.ok,Bool.and_eq_true,decide_eq_true_eq] at hok
  refine ⟨[],rfl,?_⟩
  rw [List.drop_of_length_le (by omega)]
  exact ⟨rfl,by simp,by simp⟩
 | .fc a b,t,fl,off,tot,hok=>by
  refine ⟨fun h=>by simp [Sh.vP] at h,fun _ cs hcs hfl=>?_⟩
  simp only [Sh.ok] at hok
  split at hok
  ·rename_i f r
   simp only [Bool.and_eq_true,decide_eq_true_eq,Bool.not_eq_true'] at hok
   obtain ⟨⟨⟨⟨⟨hna,hoff⟩,hle⟩,ha⟩,hb⟩,hfb⟩:=hok
   obtain ⟨fuel,x,hx⟩:=hfl f (by simp)
   obtain ⟨l1,r1,c1⟩:=(Sh.opens a f.type [] 0 0 ha).1 hna fuel _ x hx
   obtain ⟨l2,r2,c2⟩:=(Sh.opens b 0 r _ tot hb).2 hfb cs hcs (fun g hg=>hfl g (by simp [hg]))
   refine ⟨l1++l2,⟨l1,l2,rfl,r1,r2⟩,?_⟩
   have e:cs.drop off=(cs.drop f.offset).take (P.cellsOf f.type)++cs.drop (off+P.cellsOf f.type):=by
    rw [hoff,←List.drop_drop,List.take_append_drop]
   rw [e]
   exact c1.append c2
  ·cases hok
 | .struct s,t,fl,off,tot,hok=>by
  refine ⟨fun _ fuel cs x h=>?_,fun h=>by simp [Sh.vP] at h⟩
  simp only [Sh.ok] at hok
  split at hok
  ·rename_i fs ht
   simp only [Bool.and_eq_true] at hok
   obtain ⟨xs,n,_,_,hlen,hxs,hf⟩:=DataW.trod_struct ht h
   obtain ⟨l,r,c⟩:=(Sh.opens s 0 fs.toList 0 _ hok.2).2 hok.1 cs hlen (fun f hfm=>by
    obtain ⟨i,hi,rfl⟩:=List.getElem_of_mem hfm
    have hi':i<fs.size:=by simpa using hi
    have h1:=hf i fs[i] (Array.getElem?_eq_getElem hi')
    refine ⟨n,xs[i]'(by omega),?_⟩
    rw [Array.getElem_toList,h1,List.getElem?_eq_getElem])
   exact ⟨l,r,by simpa using c⟩
  ·cases hok
 | .slice es s,t,fl,off,tot,hok=>by
  refine ⟨fun _ fuel cs x h=>?_,fun h=>by simp [Sh.vP] at h⟩
  simp only [Sh.ok] at hok
  split at hok
  ·rename_i e ht
   simp only [Bool.and_eq_true,decide_eq_true_eq,Bool.not_eq_true'] at hok
   obtain ⟨⟨⟨hns,hes⟩,hpos⟩,hs⟩:=hok
   rcases DataW.trod_slice ht h with ⟨rfl,_⟩ | ⟨a,len,cap,elems,rest,n,_,rfl,_,_,hl,hm,hel,hg,_⟩
   ·exact ⟨[.list es []],⟨[],rfl,by simp,by simp⟩,Cells.one rfl (.bP _ _ _)⟩
   have hm':len≤9223372036854775807:=by simp only [maxLen] at hm; omega
   by_cases h0:len=0
   ·subst h0
    exact ⟨[.list es []],⟨[],rfl,by simp,by simp⟩,Cells.one rfl (.bP _ _ _)⟩
   have each:∀ i:Nat,∃ q:List AV × List Value,i<len→s.R q.1∧Cells w q.1 q.2∧q.2.length=es∧∀ j,j<es→w.cell? ((a.add (i * es)).add j)=q.2[j]?:=by
    intro i
    by_cases hi:i<len
    ·have h1:=hg i hi
     rw [List.getElem?_eq_getElem (by omega),Option.bind_eq_some_iff,hes] at h1
     obtain ⟨c,hc,ht'⟩:=h1
     obtain ⟨_,c2,c3⟩:=World.cells?_some hc
     obtain ⟨l,r,cc⟩:=(Sh.opens s e [] 0 0 hs).1 hns n c _ ht'
     exact ⟨(l,c),fun _=>⟨r,cc,c2,c3⟩⟩
    ·exact ⟨([],[]),fun h=>absurd h hi⟩
   obtain ⟨q,hq⟩:=Classical.axiomOfChoice each
   obtain ⟨bk,o,sp⟩:=a
   have hfirst:=(hq 0 (by omega)).2.2.2 0 hpos
   obtain ⟨hsp,hbk⟩:sp=none∧bk<w.heap.size∧nv w bk:=by
    have hlen:=(hq 0 (by omega)).2.2.1
    rw [List.getElem?_eq_getElem (by omega)] at hfirst
    simp only [Nat.zero_mul,Addr.add,if_true,World.cell?] at hfirst
    split at hfirst
    ·rename_i cc _ _ hb
     refine ⟨?_,(Array.getElem?_eq_some_iff.1 hb).1,_,_,_,hb⟩
     cases sp with
     | none=>rfl
     | some s=>simp at hfirst
    ·cases hfirst
   subst hsp
   have hmk:∀ i,i<len→(s.Gx (q i).1).flat=true∧(s.Gx (q i).1).cells=(q i).1:=by
    intro i hi
    obtain ⟨r,cc,_⟩:=hq i hi
    unfold Sh.Gx
    split
    ·rename_i h1
     obtain ⟨y,hy⟩:=Sh.Hn h1 r
     have hy1:=cc.2.1 y (by rw [hy]; simp)
     rw [hy]
     cases y <;> simp_all [AV.one,AV.flat,AV.cells]
    ·exact ⟨by simp only [AV.flat,List.all_eq_true]; exact cc.2.1,rfl⟩
   have hxl:((List.range len).map fun i=>s.Gx (q i).1).length=len:=by simp
   refine ⟨[.list es ((List.range len).map fun i=>s.Gx (q i).1)],⟨_,rfl,by rw [hxl]; exact hm',fun x hx=>?_⟩,Cells.one rfl ?_⟩
   ·obtain ⟨i,hi,rfl⟩:=List.mem_map.1 hx
    obtain ⟨r,cc,c2,_⟩:=hq i (List.mem_range.1 hi)
    exact ⟨_,r,by rw [cc.1,c2],rfl⟩
   ·have:=VP.list (S:=fun b=>b<w.heap.size) (w:=w) (es:=es) (l:=(List.range len).map fun i=>s.Gx (q i).1) (b:=bk) (o:=o) (cap:=cap) (fun i j=>((q i).2)[j]?.getD undef)
     (by intro hh; have:=congrArg List.length hh; simp at this; exact h0 this) (by rw [hxl]; exact hl) hbk
     (fun i x hx=>by
      rw [List.getElem?_map] at hx
      obtain ⟨i',hi',rfl⟩:=Option.map_eq_some_iff.1 hx
      obtain ⟨hlt,rfl⟩:=List.getElem?_eq_some_iff.1 hi'
      simp only [List.length_range] at hlt
      rw [List.getElem_range]
      obtain ⟨m1,m2⟩:=hmk i hlt
      obtain ⟨r,cc,c2,_⟩:=hq i hlt
      exact ⟨m1,by rw [m2,cc.1,c2]⟩)
     (fun i j hi hj=>by
      rw [hxl] at hi
      obtain ⟨_,_,c2,c3⟩:=hq i hi
      have:=c3 j hj
      rw [Addr.add_lit,Addr.add_lit,List.getElem?_eq_getElem (by omega)] at this
      rw [this,List.getElem?_eq_getElem (by omega)]
      rfl)
     (fun i x j y hx hy=>by
      rw [List.getElem?_map] at hx
      obtain ⟨i',hi',rfl⟩:=Option.map_eq_some_iff.1 hx
      obtain ⟨hlt,rfl⟩:=List.getElem?_eq_some_iff.1 hi'
      simp only [List.length_range] at hlt
      rw [List.getElem_range] at hy
      obtain ⟨m1,m2⟩:=hmk i hlt
      obtain ⟨r,cc,c2,_⟩:=hq i hlt
      rw [m2] at hy
      have hj:j<(q i).2.length:=by rw [←cc.1]; exact (List.getElem?_eq_some_iff.1 hy).1
      rw [List.getElem?_eq_getElem hj]
      exact cc.2.2 j y _ hy (List.getElem?_eq_getElem hj))
    rw [hxl] at this
    exact this
  ·cases hok
theorem Sh.arg {s:Sh} {t:TypeId} {r:Reach} {b0:Nat} {v:Value} {d:DataW H} {ps:List MemPlace} (hok:s.ok P t [] 0 0=true) (hs:s.vP=false) (hval:Value.okWide P w r b0 t v) (hd:DataW.Trod enc P w base spare held t v d ps) :
  ∃ cs,s.R cs∧VP (fun b=>b<w.heap.size) w (s.Gx cs) v:=by
 obtain ⟨fuel,hf⟩:=hd
 obtain ⟨l,r,c⟩:=(Sh.opens s t [] 0 0 hok).1 hs fuel _ _ hf
 refine ⟨l,r,?_⟩
 have one:s.one=true→v.cells=#[v]→VP (fun b=>b<w.heap.size) w (s.Gx l) v:=by
  intro h1 hv
  obtain ⟨y,rfl⟩:=Sh.Hn h1 r
  unfold Sh.Gx
  rw [if_pos h1]
  exact c.2.2 0 y v rfl (by rw [hv]; rfl)
 cases s with
 | int k=>
  simp only [Sh.ok] at hok
  split at hok
  ·rename_i ht; obtain ⟨n,rfl⟩:=WideShapes.okWide_int ht hval; exact one rfl rfl
  ·cases hok
 | bool=>
  simp only [Sh.ok] at hok
  split at hok
  ·rename_i ht; obtain ⟨n,rfl⟩:=WideShapes.okWide_bool ht hval; exact one rfl rfl
  ·cases hok
 | str=>
  simp only [Sh.ok] at hok
  split at hok
  ·rename_i ht; obtain ⟨n,rfl⟩:=WideShapes.okWide_string ht hval; exact one rfl rfl
  ·cases hok
 | f0=>simp [Sh.vP] at hs
 | fc a b=>simp [Sh.vP] at hs
 | struct s=>
  simp only [Sh.ok] at hok
  split at hok
  ·rename_i ht
   obtain ⟨cs,rfl,_⟩:=WideShapes.okWide_struct ht hval
   unfold Sh.Gx
   rw [if_neg (by simp [Sh.one])]
   refine .agg (by have:=c.1; simp [Value.cells] at this; omega) fun j y v hy hv=>c.2.2 j y v hy ?_
   simpa [Value.cells] using hv
  ·cases hok
 | slice es s=>
  simp only [Sh.ok] at hok
  split at hok
  ·rename_i ht; obtain ⟨a,len,cap,rfl⟩:=WideShapes.okWide_slice ht hval; exact one rfl rfl
  ·cases hok
end
theorem GH {β:Type} {xs:List AV} {f:β→AV} {Q:β→Prop} (h:∀ x∈xs,∃ b,Q b∧x=f b):∃ L:List β,xs=L.map f∧∀ b∈L,Q b:=by
 induction xs with
 | nil=>exact ⟨[],rfl,by simp⟩
 | cons x xs ih=>
  obtain ⟨b,hb,rfl⟩:=h x (by simp)
  obtain ⟨L,rfl,hL⟩:=ih fun y hy=>h y (by simp [hy])
  exact ⟨b :: L,rfl,by simpa using ⟨hb,hL⟩⟩
end Go.Ab
