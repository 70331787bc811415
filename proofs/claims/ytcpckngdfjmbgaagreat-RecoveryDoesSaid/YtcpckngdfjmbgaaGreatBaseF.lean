/- OWN WORK, put together by tools/asm.py, seat.py, mini.py. -/
import Derived.Test.YtcpckngdfjmbgaaGreatBaseE
namespace Go.Ab
open Go.RowKit
section
variable {P : Program} {W : World} {O S0 : Nat → Prop} {m : Mp} {S : Nat → Prop} {σ : St} {w : World} {e : Nat → AV} {a : Act} {o : Oper} {K : AV → St → Prop} {Q : Exit → Act → World → Prop} {g0 : Nat}
theorem Q6 {x:Operand} {y:AX} (hI:Inv W O S0 m S σ w) (hE:bq m S w e a.tmps) (ho:o.op=.move x∨o.op=.assign x) (hc:ax x=some y) (h:ar (HC P) (.mv y) e σ K) :
  o.wp P a w (Good W O S0 m S w g0 o a K) Q:=
 aj (v:=a.eval x) hI (by rcases ho with ho | ho <;> simp [execOp,ho]) h (aC hE hc)
theorem Om {c x y:Operand} {c' x' y':AX} (hI:Inv W O S0 m S σ w) (hE:bq m S w e a.tmps) (ho:o.op=.pick c x y) (h1:ax c=some c') (h2:ax x=some x') (h3:ax y=some y')
  (h:ar (HC P) (.pick c' x' y') e σ K):o.wp P a w (Good W O S0 m S w g0 o a K) Q:=by
 have hv:=aC hE h1
 simp only [ar] at h
 generalize ht:c'.ev e=g at h
 unfold pS at h
 split at h
 ·rename_i t
  rw [ht] at hv
  have hv:=hv.of_bool
  cases t with
  | true=>exact aj (v:=a.eval x) hI (by simp [execOp,ho,hv,asBool]) (h.1 rfl) (aC hE h2)
  | false=>exact aj (v:=a.eval y) hI (by simp [execOp,ho,hv,asBool]) (h.2 rfl) (aC hE h3)
 ·exact h.elim
section
variable {ob : Nat → Option aU} {N C : Nat → Nat} {id : Nat}
theorem Lv {t:TypeId} {i:TypeInfo} {z:Value} {zv:AV} (hI:Inv W O S0 m S ⟨ob,N id,C g0⟩ w) (hg0:m g0=none) (hc':∀ g v,m g=some v→g<C (g0+1)) (hgc:g0<C (g0+1)) (ho:o.op=.alloc t) (hi:P.info? t=some i) (hz:i.zero=some z) (hzv:av z=some zv)
  (hf:zv.flat=true) (hl:zv.cells.length=i.size) (hp:0<i.size) (h:ar (HC P) (.alloc i.size t zv) e ⟨ob,id,g0⟩ (fun v τ=>K v ⟨τ.ob,N τ.n,C τ.c⟩)):o.wp P a w (Good W O S0 m S w g0 o a K) Q:=by
 obtain ⟨hv,_⟩:=(VR.pure (m:=m) (eh (S:=S) (w:=w) hzv)).cells hf
 obtain ⟨h1,h2⟩:=hI.Hm (id:=id) (n':=N (id+1)) hg0 hc' hgc (ty:=t) hp (Ay ⟨hf,hl⟩) (by rw [wN]; exact hv) (by simp [maxLen])
 refine bg (v:=.pointer (some ⟨w.heap.size,0,none⟩)) ?_ h h1 h2 (VR.Du id) (fun g hg=>aa _ _ _ _ hg)
 simp [execOp,ho,Instr.alloc,zeroValue,typeInfo,hi,hz,newVar,newRow]
theorem Rk {t:TypeId} {x:Operand} {y:AX} {i:TypeInfo} (hI:Inv W O S0 m S ⟨ob,N id,C g0⟩ w) (hg0:m g0=none) (hc':∀ g v,m g=some v→g<C (g0+1)) (hgc:g0<C (g0+1)) (hE:bq m S w e a.tmps) (ho:o.op=.box t x) (hc:ax x=some y) (hp:0<i.size)
  (h:ar (HC P) (.box i.size t y) e ⟨ob,id,g0⟩ (fun v τ=>K v ⟨τ.ob,N τ.n,C τ.c⟩)):o.wp P a w (Good W O S0 m S w g0 o a K) Q:=by
 obtain ⟨hf,hl,h⟩:=h
 obtain ⟨hv,_⟩:=(aC hE hc).cells hf
 obtain ⟨h1,h2⟩:=hI.Hm (id:=id) (n':=N (id+1)) hg0 hc' hgc (ty:=t) hp (Ay ⟨hf,hl⟩) (by rw [wN]; exact hv) (by simp [maxLen])
 refine bg (v:=.pointer (some ⟨w.heap.size,0,none⟩)) ?_ h h1 h2 (VR.Du id) (fun g hg=>aa _ _ _ _ hg)
 simp [execOp,ho,Instr.box,newVar,newRow]
theorem Hc {es:Nat} {ty:TypeId} (hI:Inv W O S0 m S ⟨ob,N id,C g0⟩ w) (hg0:m g0=none) (hc':∀ g v,m g=some v→g<C (g0+1)) (hgc:g0<C (g0+1)) (ho:o.op=.move (.const (.slice none 0 0))∨o.op=.assign (.const (.slice none 0 0))) (hp:0<es)
  (h:ar (HC P) (.fA es ty) e ⟨ob,id,g0⟩ (fun v τ=>K v ⟨τ.ob,N τ.n,C τ.c⟩)):o.wp P a w (Good W O S0 m S w g0 o a K) Q:=by
 have hX:Ext m S w (bd m g0 (some (.slice none 0 0))) S w:=⟨ez hg0 _,fun _ h=>h,fun _ _=>rfl⟩
 have hI':=hI.k8 (row:=none) (xs:=[]) id es ty true [] (.slice none 0 0) (N (id+1)) g0 (C (g0+1)) hg0 hc' hgc ⟨rfl,rfl,rfl,Nat.le_refl _,fun _ _ _=>rfl⟩ hp (fun x hx=>by simp at hx) ⟨by simp,.inl ⟨rfl,rfl⟩⟩ bR.nil (fun b hb=>by cases hb) (fun b hb=>by simp [Value.ownBlock] at hb)
 refine bg (v:=.slice none 0 0) (by rcases ho with ho | ho <;> simp [execOp,ho,Act.eval]) h hI' hX ?_ (fun g hg=>aa _ _ _ _ hg)
 have:=VR.sl (m:=bd m g0 (some (Value.slice none 0 0))) (S:=S) (w:=w) (id:=id) (es:=es) (off:=0) (n:=0) (az m g0 _) (by simp [bN]) rfl
 simpa [bZ] using this
end
theorem CM (cells:Array Value) (off:Nat):∀ (vs:List Value) (k:Nat),off+k+vs.length≤cells.size→
  (vs.zipIdx k).foldl (fun cs (p:Value × Nat)=>cs.setIfInBounds (off+p.2) p.1) cells=(cells.toList.take (off+k)++vs++cells.toList.drop (off+k+vs.length)).toArray
 | [],k,h=>by simp
 | v :: r,k,h=>by
  simp only [List.zipIdx_cons,List.foldl_cons]
  have hl:off+k+(r.length+1)≤cells.toList.length:=by simpa using h
  rw [CM (cells.setIfInBounds (off+k) v) off r (k+1) (by simp at h ⊢; omega)]
  have e1:=list_seg_step cells.toList (off+k) v r hl
  congr 1
  rw [Array.toList_setIfInBounds]
  simpa [Nat.add_assoc] using e1
theorem Ax (cells:Array Value) (off:Nat) (vs:Array Value) (h:off+vs.size≤cells.size) :
  vs.zipIdx.foldl (fun cs (p:Value × Nat)=>cs.setIfInBounds (off+p.2) p.1) cells=(cells.toList.take off++vs.toList++cells.toList.drop (off+vs.size)).toArray:=by
 have:=CM cells off vs.toList 0 (by simpa using h)
 rw [←Array.foldl_toList,Array.toList_zipIdx]
 simpa using this
theorem tj (place:Nat→Option (Nat × Nat)):∀ (parts:List (Nat × Value)) (ps:List (Nat × AV)) (cells:Array Value) (zs:List AV),
  parts.length=ps.length→(∀ (j k:Nat) (u:Value) (off:Nat) (v:AV),parts[j]?=some (k,u)→ps[j]?=some (off,v)→place k=some (off,v.cells.length)∧off+v.cells.length≤zs.length∧bR m S w v.cells u.cells.toList)→
  bR m S w zs cells.toList→∃ cells',Instr.fill place cells parts=some cells'∧bR m S w (AD zs ps) cells'.toList
 | [],ps,cells,zs,hl,_,hz=>by
  cases ps with
  | nil=>exact ⟨cells,rfl,hz⟩
  | cons p r=>simp at hl
 | (k,u) :: parts,ps,cells,zs,hl,hp,hz=>by
  cases ps with
  | nil=>simp at hl
  | cons p r=>
   obtain ⟨off,v⟩:=p
   obtain ⟨h1,h2,h3⟩:=hp 0 k u off v rfl rfl
   have hu:u.cells.size=v.cells.length:=by simpa using h3.1
   have hcl:cells.size=zs.length:=by simpa using hz.1
   have yt:=Ax cells off u.cells (by omega)
   have hz':bR m S w (zs.take off++v.cells++zs.drop (off+v.cells.length)) (cells.toList.take off++u.cells.toList++cells.toList.drop (off+u.cells.size)):=by
    rw [hu]; exact ((hz.take off).append h3).append (hz.drop _)
   have hlen:(zs.take off++v.cells++zs.drop (off+v.cells.length)).length=zs.length:=by simp; omega
   obtain ⟨cells',h4,h5⟩:=tj place parts r ((cells.toList.take off++u.cells.toList++cells.toList.drop (off+u.cells.size)).toArray) _ (by simpa using hl)
    (fun j k' u' off' v' hj hj'=>by
     have:=hp (j+1) k' u' off' v' (by simpa using hj) (by simpa using hj')
     rwa [hlen]) (by simpa using hz')
   refine ⟨cells',?_,h5⟩
   have hcond:(decide (u.cells.size≠v.cells.length)||decide (off+u.cells.size > cells.size))=false:=by simp; omega
   simp only [Instr.fill,h1]
   rw [if_neg (by simp; omega)]
   rw [yt]
   exact h4
theorem rN {fields:Array Field} (hE:bq m S w e a.tmps):∀ {parts:List (Nat × Operand)} {ps:List (Nat × Nat × AX)},partsOf P fields parts=some ps→
  parts.length=ps.length∧∀ (j:Nat) (k:Nat) (x:Operand) (off sz:Nat) (y:AX),parts[j]?=some (k,x)→ps[j]?=some (off,sz,y)→
   (∃ f i,fields[k]?=some f∧P.info? f.type=some i∧f.offset=off∧i.size=sz)∧VR m S w (y.ev e) (a.eval x)
 | [],ps,h=>by simp only [partsOf,Option.some.injEq] at h; subst h; exact ⟨rfl,fun j k x off sz y a=>by simp at a⟩
 | (k0,x0) :: r,ps,h=>by
  simp only [partsOf] at h
  split at h
  ·rename_i f0 a0 as0 h1 h2 h3
   split at h
   ·rename_i i0 h4
    simp only [Option.some.injEq] at h; subst h
    obtain ⟨hl,hh⟩:=rN hE h3
    refine ⟨by simp [hl],fun j k x off sz y hj hj'=>?_⟩
    cases j with
    | zero=>
     simp at hj hj'
     obtain ⟨rfl,rfl⟩:=hj
     obtain ⟨rfl,rfl,rfl⟩:=hj'
     exact ⟨⟨f0,i0,h1,h4,rfl,rfl⟩,aC hE h2⟩
    | succ j=>exact hh j k x off sz y (by simpa using hj) (by simpa using hj')
   ·cases h
  ·cases h
theorem run_places {fields:Array Field} (h:∀ f∈fields.toList,(P.info? f.type).isSome=true) :
  (fields.mapM fun f=>do pure (f.offset,←sizeOf f.type):Sem (Array (Nat × Nat))).run P w=.ok (fields.map fun f=>(f.offset,((P.info? f.type).map (·.size)).getD 0)) w:=by
 have key:∀ l:List Field,(∀ f∈l,(P.info? f.type).isSome=true)→
   (l.mapM fun f=>do pure (f.offset,←sizeOf f.type):Sem (List (Nat × Nat))).run P w=.ok (l.map fun f=>(f.offset,((P.info? f.type).map (·.size)).getD 0)) w:=by
  intro l
  induction l with
  | nil=>intro _; simp
  | cons f r ih=>
   intro hl
   obtain ⟨i,hi⟩:=Option.isSome_iff_exists.1 (hl f (by simp))
   have h1:=ih fun x hx=>hl x (by simp [hx])
   simp only [List.mapM_cons,Sem.run_bind,aP hi,Result.andThen_ok,Sem.run_pure,h1,List.map_cons,hi,Option.map_some,Option.getD_some]
 rw [Array.mapM_eq_mapM_toList]
 simp only [Sem.run_map,key fields.toList h,Result.andThen_ok]
 congr 1
 apply Array.ext'
 simp
theorem Lu {t:TypeId} {parts:Array (Nat × Operand)} {fields:Array Field} {i:TypeInfo} {z:Value} {zs:List AV} {ps:List (Nat × Nat × AX)} (hI:Inv W O S0 m S σ w) (hE:bq m S w e a.tmps)
  (ho:o.op=.build t parts) (hu:P.underlying t=some (.struct fields)) (hi:P.info? t=some i) (hz:i.zero=some z) (hzv:av z=some (.agg zs))
  (hall:∀ f∈fields.toList,(P.info? f.type).isSome=true) (hps:partsOf P fields parts.toList=some ps) (h:ar (HC P) (.build zs ps) e σ K):o.wp P a w (Good W O S0 m S w g0 o a K) Q:=by
 simp only [ar,AP,KL,List.map_map,Function.comp_def,List.forall_mem_map] at h
 obtain ⟨hp,h⟩:=h
 obtain ⟨zc,rfl,hzc⟩:=(VR.pure (m:=m) (eh (S:=S) (w:=w) hzv)).ov
 obtain ⟨hl,hh⟩:=rN hE hps
 obtain ⟨cells',h1,h2⟩:=tj (m:=m) (S:=S) (w:=w) ((fields.map fun f=>(f.offset,((P.info? f.type).map (·.size)).getD 0))[·]?) (parts.toList.map fun p=>(p.1,a.eval p.2)) (ps.map fun p=>(p.1,p.2.2.ev e)) zc zs (by simpa using hl)
  (fun j k u off v hj hj'=>by
   simp only [List.getElem?_map,Option.map_eq_some_iff,Prod.mk.injEq] at hj hj'
   obtain ⟨⟨k0,x0⟩,hj,rfl,rfl⟩:=hj
   obtain ⟨⟨off0,sz0,y0⟩,hj',rfl,rfl⟩:=hj'
   obtain ⟨⟨f,fi,h3,h4,h5,h6⟩,h7⟩:=hh j _ _ _ _ _ hj hj'
   obtain ⟨h8,h9,h10⟩:=hp _ (List.mem_of_getElem? hj')
   simp only at h8 h9 h10
   obtain ⟨h11,_⟩:=h7.cells h8
   refine ⟨?_,by rw [h9]; exact h10,h11⟩
   simp [h3,h4,h5,h6,h9]) hzc
 refine aj (v:=.agg cells') hI ?_ h (VR.Af h2)
 have e1:(Array.map (fun x:Nat × Operand=>(x.1,a.eval x.2)) parts).toList=parts.toList.map fun p=>(p.1,a.eval p.2):=by simp
 simp only [execOp,ho,Instr.build,zeroValue,typeInfo,Sem.run_bind,run_program,Result.andThen_ok,hi,hz,Sem.run_pure,run_underlying hu,run_places hall,Value.cells]
 rw [e1,h1]
 simp
theorem CP {es:Nat}:∀ (us:List Value) (xs:List AV) (k:Nat) (cells:Array Value) (zs:List AV),us.length=xs.length→
  (∀ (j:Nat) (u:Value) (x:AV),us[j]?=some u→xs[j]?=some x→x.cells.length=es∧bR m S w x.cells u.cells.toList)→cells.size=(k+xs.length) * es→bR m S w zs (cells.toList.take (k * es))→
  ∃ cells',Instr.fill (fun i=>some (i * es,es)) cells (us.zipIdx k |>.map fun p=>(p.2,p.1))=some cells'∧bR m S w (zs++aK xs) cells'.toList
 | [],xs,k,cells,zs,hl,_,hc,hz=>by
  cases xs with
  | nil=>
   refine ⟨cells,rfl,?_⟩
   rw [List.take_of_length_le (by simp at hc ⊢; omega)] at hz
   simpa [aK] using hz
  | cons p r=>simp at hl
 | u :: us,xs,k,cells,zs,hl,hp,hc,hz=>by
  cases xs with
  | nil=>simp at hl
  | cons x r=>
   obtain ⟨h1,h2⟩:=hp 0 u x rfl rfl
   have hu:u.cells.size=es:=by have:=h2.1; simp at this; omega
   have hc':cells.size=k * es+es+r.length * es:=by
    rw [hc]; simp only [List.length_cons]
    rw [show k+(r.length+1)=k+1+r.length by omega,Nat.add_mul,Nat.add_mul]; omega
   have yt:=Ax cells (k * es) u.cells (by omega)
   have htake:(cells.toList.take (k * es)).length=k * es:=by simp; omega
   have hul:u.cells.toList.length=es:=by simpa using hu
   obtain ⟨cells',h4,h5⟩:=CP us r (k+1) ((cells.toList.take (k * es)++u.cells.toList++cells.toList.drop (k * es+u.cells.size)).toArray) (zs++x.cells) (by simpa using hl)
    (fun j u' x' hj hj'=>hp (j+1) u' x' (by simpa using hj) (by simpa using hj'))
    (by simp only [List.size_toArray,List.length_append,List.length_drop,htake,hul,Array.length_toList]; rw [Nat.add_mul,Nat.add_mul]; omega)
    (by
     have e1:(k+1) * es=k * es+es:=by rw [Nat.add_mul]; omega
     rw [e1]
     simp only []
     rw [List.take_append_of_le_length (by simp only [List.length_append,htake,hul]; omega),List.take_of_length_le (by simp only [List.length_append,htake,hul]; omega)]
     exact hz.append h2)
   refine ⟨cells',?_,by simpa [aK] using h5⟩
   simp only [List.zipIdx_cons,List.map_cons,Instr.fill]
   rw [if_neg (by simp; omega)]
   rw [yt]
   exact h4
theorem Rb {ob:Nat→Option aU} {N C:Nat→Nat} {id:Nat} {t el:TypeId} {len:Nat} {mu:Bool} {parts:Array (Nat × Operand)} {i:TypeInfo} {z:Value} {xs:List AX} (hI:Inv W O S0 m S ⟨ob,N id,C g0⟩ w) (hg0:m g0=none) (hc':∀ g v,m g=some v→g<C (g0+1)) (hgc:g0<C (g0+1)) (hE:bq m S w e a.tmps)
  (ho:o.op=.buildSlice t len parts) (hu:P.underlying t=some (.slice el)) (hi:P.info? el=some i) (hz:i.zero=some z) (hp:0<i.size)
  (hxs:Cf (parts.toList.map (·.2))=some xs) (hix:parts.toList.map (·.1)=List.range len) (hlen:len * i.size≤16777216) (h:ar (HC P) (.lit mu i.size el xs) e ⟨ob,id,g0⟩ (fun v τ=>K v ⟨τ.ob,N τ.n,C τ.c⟩)) :
  o.wp P a w (Good W O S0 m S w g0 o a K) Q:=by
 simp only [ar,Gy,qp,List.forall_mem_map,List.length_map] at h
 obtain ⟨hx,h⟩:=h
 have hv:=iF hE hxs
 have hxl:xs.length=len:=by
  have h1:=hv.1
  have h2:parts.toList.length=len:=by have:=congrArg List.length hix; simpa using this
  simp at h1 h2; omega
 have hok:mE i.size (xs.map fun x=>x.ev e):=fun y hy=>by
  obtain ⟨x,hx',rfl⟩:=List.mem_map.1 hy
  exact ⟨(hx x hx').1,(hx x hx').2.1⟩
 have hparts:parts.toList.map (fun p=>(p.1,a.eval p.2))=((parts.toList.map (·.2)).map a.eval).zipIdx.map fun p=>(p.2,p.1):=by
  apply List.ext_getElem?
  intro j
  have hj:=congrArg (·[j]?) hix
  simp only [List.getElem?_map] at hj ⊢
  cases hp:parts.toList[j]? with
  | none=>simp [hp]
  | some p=>
   simp only [hp,Option.map_some] at hj
   have hjl:j<len:=by
    rcases Nat.lt_or_ge j len with h | h
    ·exact h
    ·rw [List.getElem?_eq_none (by simpa using h)] at hj; cases hj
   rw [List.getElem?_range hjl] at hj
   have hj:=Option.some.inj hj
   simp [List.getElem?_zipIdx,hp,hj]
 have hcells:∀ n:Nat,((Array.range (len * i.size)).map (z.cells[· % z.cells.size]!)).size=len * i.size:=fun _=>by simp
 obtain ⟨cells',h4,h5⟩:=CP (m:=m) (S:=S) (w:=w) (es:=i.size) ((parts.toList.map (·.2)).map a.eval) (xs.map fun x=>x.ev e) 0 ((Array.range (len * i.size)).map (z.cells[· % z.cells.size]!)) [] hv.1.symm.symm
  (fun j u x hj hj'=>by
   obtain ⟨y,hy,rfl⟩:∃ y,y∈xs∧y.ev e=x:=by
    obtain ⟨y,hy,hyx⟩:=List.mem_map.1 (List.mem_of_getElem? hj')
    exact ⟨y,hy,hyx⟩
   obtain ⟨h6,h7,_⟩:=hx y hy
   exact ⟨h7,(VR.cells (hv.2 j _ u hj' hj) h6).1⟩) (by simp [hxl]) (by simpa using bR.nil)
 rw [←hparts] at h4
 simp only [List.nil_append] at h5
 have hrun:(execOp a.eval o).run P w=.ok (.value (.slice (some ⟨w.heap.size,0,none⟩) len len)) (w.alloc (.cells cells' el)):=by
  have e1:(Array.map (fun x:Nat × Operand=>(x.1,a.eval x.2)) parts).toList=parts.toList.map fun p=>(p.1,a.eval p.2):=by simp
  have e2:¬(2:Nat) ^ 24<len * i.size:=by simp; omega
  by_cases h0:len * i.size=0
  ·have h00:len=0:=by rcases Nat.mul_eq_zero.1 h0 with h | h; exact h; omega
   subst h00
   have hnil:parts.toList=[]:=by simpa using hix
   have hc':cells'=#[]:=by
    rw [hnil] at h4
    simpa [Instr.fill,show Array.range 0=#[] from rfl] using h4.symm
   simp only [execOp,ho,Instr.buildSlice,Sem.run_bind,run_underlying hu,Result.andThen_ok,aP hi,newRow]
   rw [e1,hnil,hc']
   simp [Instr.fill,show Array.range 0=#[] from rfl]
  ·simp only [execOp,ho,Instr.buildSlice,Sem.run_bind,run_underlying hu,Result.andThen_ok,aP hi,newRow]
   rw [e1]
   simp only [gt_iff_lt,if_neg e2,if_neg h0,Sem.run_bind,zeroValue,typeInfo,run_program,Result.andThen_ok,hi,hz,Sem.run_pure,h4]
   simp
 cases mu with
 | true=>
  simp only [if_true] at h
  obtain ⟨h1,h2⟩:=hI.Hm (id:=id) (n':=N (id+1)) hg0 hc' hgc (ty:=el) hp hok h5 (by simp [hxl,maxLen]; have:len≤len * i.size:=Nat.le_mul_of_pos_right _ hp; omega)
  simp only [List.length_map,hxl,Array.toArray_toList] at h1 h2 h
  exact bg hrun h h1 h2 (VR.Jl id) (fun g hg=>aa _ _ _ _ hg)
 | false=>
  simp only [Bool.false_eq_true,if_false] at h
  have h1:=(hI.alloc (.cells cells' el)).yS w.heap.size hI.fr.size (by simp) (fun k ob v hk hm hb=>by
   obtain ⟨v',h8,h9,_⟩:=hI.bu.obj k ob hk
   rw [hm] at h8; obtain rfl:=Option.some.inj h8
   have:=bt h9 hb
   omega)
  have hX:Ext m S w m (fun x=>S x∨x=w.heap.size) (w.alloc (.cells cells' el)):=(nH hI.bu.lt _).trans (iZ m S _ _)
  refine bg hrun h h1 hX ?_ (fun _ _=>rfl)
  by_cases h0:len=0
  ·subst h0
   have:xs=[]:=List.eq_nil_of_length_eq_zero hxl
   subst this
   exact .pure (.bP _ _ _)
  ·have hl0:(xs.map fun x=>x.ev e)≠[]:=fun hh=>h0 (by rw [←hxl]; simpa using congrArg List.length hh)
   have hlen':(xs.map fun x=>x.ev e).length=len:=by simpa using hxl
   have hcl:cells'.toList.length=len * i.size:=by rw [h5.1,bp hok,hlen']
   have key:VP (fun x=>S x∨x=w.heap.size) (w.alloc (.cells cells' el)) (.list i.size (xs.map fun x=>x.ev e)) (.slice (some ⟨w.heap.size,0,none⟩) (xs.map fun x=>x.ev e).length len):=by
    refine .list (fun i' j=>cells'.toList.getD (i' * i.size+j) undef) hl0 (Nat.le_of_eq hlen') ⟨.inr rfl,nv.new _ _ _ _⟩ (fun k x hx'=>hok x (List.mem_of_getElem? hx')) (fun k j hk hj=>?_) (fun k x j y hx' hy=>?_)
    ·have hb:k * i.size+j<cells'.toList.length:=by
      rw [hcl]
      have:(k+1) * i.size≤len * i.size:=Nat.mul_le_mul_right _ (by omega)
      rw [Nat.add_mul] at this; omega
     rw [Nat.zero_add,World.cell?_alloc_new,List.getD_eq_getElem?_getD,List.getElem?_eq_getElem hb,Option.getD_some,←Array.getElem?_toList,List.getElem?_eq_getElem hb]
    ·have hj:j<i.size:=by have:=(hok x (List.mem_of_getElem? hx')).2; have:=(List.getElem?_eq_some_iff.1 hy).1; omega
     have hcell:=iy hok hx' hj
     rw [hy] at hcell
     obtain ⟨u,hu1,hu2⟩:=h5.get hcell
     rw [List.getD_eq_getElem?_getD,hu1,Option.getD_some]
     obtain ⟨x0,hx0,rfl⟩:=List.mem_map.1 (List.mem_of_getElem? hx')
     have hpur:=(hx x0 hx0).2.2 rfl
     have hp1:VP S w y u:=by
      cases hxe:x0.ev e with
      | agg cs=>
       rw [hxe] at hy hpur
       simp only [AV.cL,List.all_eq_true] at hpur
       exact hu2.eo (hpur y (List.mem_of_getElem? hy))
      | tuple cs=>have:=(hx x0 hx0).1; rw [hxe] at this; simp [AV.flat,AV.one] at this
      | _=>
       rw [hxe] at hy hpur
       simp only [AV.cells] at hy
       obtain ⟨hj0,hy0⟩:=List.getElem?_eq_some_iff.1 hy
       simp at hj0
       subst hj0
       simp at hy0
       subst hy0
       exact hu2.cL hpur
     exact hp1.bG (fun b hb=>.inl hb) (fun b hb=>Below.heap_alloc w _ b (hI.bu.lt b hb))
   rw [hlen'] at key
   exact .pure key
end
end Go.Ab
