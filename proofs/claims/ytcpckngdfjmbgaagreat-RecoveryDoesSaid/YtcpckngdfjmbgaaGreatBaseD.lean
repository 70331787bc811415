/- OWN WORK, put together by tools/asm.py, seat.py, mini.py. -/
import Derived.Test.YtcpckngdfjmbgaaGreatBaseC
import Derived.Laws.Entries
import Derived.Laws.CopyRow
namespace Go.Ab
open Go.RowKit
section
variable {P : Program} {W : World} {O S0 : Nat → Prop} {m : Mp} {S : Nat → Prop} {σ : St} {w : World}
def bq (m:Mp) (S:Nat→Prop) (w:World) (e:Nat→AV) (tmps:Array Value):Prop:=∀ i,VR m S w (e i) (tmps.getD i undef)
theorem bq.ext {m':Mp} {S':Nat→Prop} {w':World} {e:Nat→AV} {tmps:Array Value} (x:Ext m S w m' S' w') (h:bq m S w e tmps):bq m' S' w' e tmps:=fun i=>(h i).ext x
theorem CW {v:Value} {a:AV} (h:PZ v=some a):VP S w a v:=by
 unfold PZ at h
 split at h <;> simp only [Option.some.injEq,reduceCtorEq] at h <;> subst h
 ·exact .bool _
 ·exact .int _ _
 ·exact .str _
 ·exact .nil
 ·exact .jo
 ·exact .fN
 ·exact .kN
theorem CV:∀ {vs:List Value} {as:List AV},Mf vs=some as→vs.length=as.length∧∀ (j:Nat) (y:AV) (u:Value),as[j]?=some y→vs[j]?=some u→VP S w y u
 | [],as,h=>by simp only [Mf,Option.some.injEq] at h; subst h; exact ⟨rfl,fun j y u a=>by simp at a⟩
 | v :: r,as,h=>by
  simp only [Mf] at h
  split at h
  ·rename_i a as' h1 h2
   simp only [Option.some.injEq] at h; subst h
   obtain ⟨hl,hh⟩:=CV h2
   refine ⟨by simp [hl],fun j y u hy hu=>?_⟩
   cases j with
   | zero=>simp at hy hu; subst hy; subst hu; exact CW h1
   | succ j=>exact hh j y u (by simpa using hy) (by simpa using hu)
  ·cases h
theorem eh {v:Value} {a:AV} (h:av v=some a):VP S w a v:=by
 unfold av at h
 split at h
 ·rename_i cs
  cases h1:Mf cs.toList with
  | none=>simp [h1] at h
  | some as=>
   simp only [h1,Option.map_some,Option.some.injEq] at h; subst h
   obtain ⟨hl,hh⟩:=CV (S:=S) (w:=w) h1
   exact .agg (by simpa using hl) fun j y u a b=>hh j y u a (by simpa using b)
 ·exact CW h
theorem aC {e:Nat→AV} {a:Act} (hE:bq m S w e a.tmps) {x:Operand} {y:AX} (h:ax x=some y):VR m S w (y.ev e) (a.eval x):=by
 unfold ax at h
 split at h
 ·simp only [Option.some.injEq] at h; subst h; exact hE _
 ·rename_i v
  cases h1:av v with
  | none=>simp [h1] at h
  | some c=>simp only [h1,Option.map_some,Option.some.injEq] at h; subst h; exact .pure (eh h1)
 ·simp only [Option.some.injEq] at h; subst h
  exact .func (by simp) fun j y v a=>by simp at a
 ·cases h
theorem iF {e:Nat→AV} {a:Act} (hE:bq m S w e a.tmps):∀ {xs:List Operand} {ys:List AX},Cf xs=some ys→bR m S w (ys.map fun y=>y.ev e) (xs.map a.eval)
 | [],ys,h=>by simp only [Cf,Option.some.injEq] at h; subst h; exact .nil
 | x :: r,ys,h=>by
  simp only [Cf] at h
  split at h
  ·rename_i y ys' h1 h2
   simp only [Option.some.injEq] at h; subst h
   exact bR.cons (aC hE h1) (iF hE h2)
  ·cases h
theorem VR.eo {a:AV} {v:Value} (h:VR m S w a v) (ha:a.eo=true):VP S w a v:=by
 cases h with
 | pure h=>exact h
 | _=>simp [AV.eo] at ha
theorem VR.cL {a:AV} {v:Value} (h:VR m S w a v) (ha:a.cL=true):VP S w a v:=by
 cases h with
 | pure h=>exact h
 | sl h hn=>simp [AV.cL,AV.eo] at ha
 | jq h=>simp [AV.cL,AV.eo] at ha
 | fH h hn=>simp [AV.cL,AV.eo] at ha
 | zq h hn=>simp [AV.cL,AV.eo] at ha
 | ptr h=>simp [AV.cL,AV.eo] at ha
 | agg hl h=>
  simp only [AV.cL,List.all_eq_true] at ha
  exact .agg hl fun j y u a b=>(h j y u a b).eo (ha y (List.mem_of_getElem? a))
 | tuple hl h=>
  simp only [AV.cL,List.all_eq_true] at ha
  refine .tuple hl fun j y u a b=>?_
  have h1:=h j y u a b
  have h2:=ha y (List.mem_of_getElem? a)
  cases h1 with
  | pure h=>exact h
  | agg hl h=>
   simp only [List.all_eq_true] at h2
   exact .agg hl fun j y u a b=>(h j y u a b).eo (h2 y (List.mem_of_getElem? a))
  | _=>simp [AV.eo] at h2
 | func hl h=>
  simp only [AV.cL,List.all_eq_true] at ha
  exact .func hl fun j y u a b=>(h j y u a b).eo (ha y (List.mem_of_getElem? a))
 | bC v=>simp [AV.cL,AV.eo] at ha
theorem E0 {a:AV} (h:a.eo=true):a.cL=true:=by cases a <;> simp_all [AV.eo,AV.cL]
theorem wW {x:AV} (h:x.cL=true):∀ y∈x.cells,y.cL=true:=by
 intro y hy
 cases x with
 | agg cs=>exact E0 (List.all_eq_true.1 h y hy)
 | _=>simp only [AV.cells,List.mem_singleton] at hy; subst hy; exact h
theorem Ji (h:Be m S σ w) {id:Nat} {o:aU} {v:Value} (ho:σ.ob id=some o) (hm:m o.g=some v) (hs:fI v=true) {i:Nat} {y:AV} (hy:o.l[i]?=some y) :
  ∃ b len cap,v=.slice (some ⟨b,0,none⟩) len cap∧y.cells.length=o.es∧∃ us:List Value,us.length=o.es∧bR m S w y.cells us∧∀ j u,us[j]?=some u→w.cell? ⟨b,i * o.es+j,none⟩=some u:=by
 obtain ⟨v',h1,⟨hok,hes,xs,hown,hxs⟩,_⟩:=h.obj id o ho
 rw [hm] at h1; obtain rfl:=Option.some.inj h1
 replace hown:=hown.own hs
 have hi:=(List.getElem?_eq_some_iff.1 hy).1
 rcases hown.2 with ⟨rfl,hn⟩ | ⟨g,len,cap,cur,fr,rfl,hg,hnc,hcm,hcs,htake,_⟩
 ·omega
 ·have hyl:=(hok y (List.mem_of_getElem? hy)).2
  have hlen:xs.length=o.l.length * o.es:=hown.1
  have hle:(i+1) * o.es≤o.l.length * o.es:=Nat.mul_le_mul_right _ hi
  rw [Nat.add_mul] at hle
  refine ⟨g,len,cap,rfl,hyl,(xs.drop (i * o.es)).take o.es,by simp; omega,?_,fun j u hu=>?_⟩
  ·have h2:((aK o.l).drop (i * o.es)).take o.es=y.cells:=by
    rw [cq i hok,List.drop_eq_getElem_cons hi,(List.getElem?_eq_some_iff.1 hy).2]
    simp only [aK,List.flatMap_cons]
    rw [List.take_append_of_le_length (by omega),List.take_of_length_le (by omega)]
   have h3:=(hxs.drop (i * o.es)).take o.es
   rwa [h2] at h3
  ·rw [List.getElem?_take] at hu
   split at hu
   ·rw [List.getElem?_drop,←htake,List.getElem?_take] at hu
    split at hu
    ·simp only [World.cell?,hg]; simpa using hu
    ·cases hu
   ·cases hu
theorem qQ {ag:Bool} {sz off es:Nat} {y:AV} {us:List Value} (hl:y.cells.length=es) (hus:us.length=es) (hv:bR m S w y.cells us) (hsz:off+sz≤es) :
  (ag=true→VR m S w (sub ag sz off y) (.agg ((us.drop off).take sz).toArray))∧(ag=false→sz=1→∃ u,us[off]?=some u∧VR m S w (sub ag sz off y) u):=by
 refine ⟨fun h=>?_,fun h h1=>?_⟩
 ·subst h
  exact .Af (by simpa [sub] using (hv.drop off).take sz)
 ·subst h; subst h1
  have hlt:off<us.length:=by omega
  have hlt':off<y.cells.length:=by omega
  refine ⟨us[off],List.getElem?_eq_getElem hlt,?_⟩
  simp only [sub,List.getD_eq_getElem?_getD,List.getElem?_eq_getElem hlt',Option.getD_some,Bool.false_eq_true,if_false]
  exact hv.2 off _ _ (List.getElem?_eq_getElem hlt') (List.getElem?_eq_getElem hlt)
theorem fw {t:TypeId} {d:TypeDesc} (h:P.underlying t=some d) (w:World):(isAgg t).run P w=.ok (bK d) w:=by
 simp only [isAgg,Sem.run_bind,run_underlying h,Result.andThen_ok,bK]
 cases d <;> rfl
theorem aP {t:TypeId} {i:TypeInfo} (h:P.info? t=some i) (w:World):(sizeOf t).run P w=.ok i.size w:=by
 simp [sizeOf,typeInfo,h]
theorem mZ {t:TypeId} {d:TypeDesc} {i:TypeInfo} (hd:P.underlying t=some d) (hi:P.info? t=some i) (b o:Nat) (us:List Value) (hl:us.length=i.size)
  (hag:bK d=true) (hu:∀ j u,us[j]?=some u→w.cell? ⟨b,o+j,none⟩=some u) :
  (Instr.loadAt t (.pointer (some ⟨b,o,none⟩))).run P w=.ok (.agg us.toArray) w:=by
 have h:=run_loadCells_list (P:=P) w ⟨b,o,none⟩ us (fun j v hj=>by rw [Addr.add_lit]; exact hu j v hj)
 rw [hl] at h
 simp [Instr.loadAt,Instr.sureAddr,loadVar,fw hd,hag,aP hi,h]
theorem pP {t:TypeId} {d:TypeDesc} (hd:P.underlying t=some d) (b o:Nat) (u:Value) (hag:bK d=false) (hu:w.cell? ⟨b,o,none⟩=some u) :
  (Instr.loadAt t (.pointer (some ⟨b,o,none⟩))).run P w=.ok u w:=by
 simp [Instr.loadAt,Instr.sureAddr,loadVar,fw hd,hag,hu]
theorem HX {es i off:Nat} {l:List AV} {v:Value} (h:VR m S w (.eQ es l i off) v) {y:AV} (hy:l[i]?=some y) :
  ∃ b o,v=.pointer (some ⟨b,o+off,none⟩)∧y.cells.length=es∧∃ us:List Value,us.length=es∧bR m S w y.cells us∧∀ j u,us[j]?=some u→w.cell? ⟨b,o+j,none⟩=some u:=by
 cases h with
 | pure h=>
  cases h with
  | eQ f hS hc hw hv=>
   rename_i b o
   have hi:=(List.getElem?_eq_some_iff.1 hy).1
   refine ⟨b,o+i * es,rfl,(hc i y hy).2,(List.range es).map (f i),by simp,⟨by simp [(hc i y hy).2],fun j z u hz hu=>?_⟩,fun j u hu=>?_⟩
   ·simp only [List.getElem?_map,Option.map_eq_some_iff] at hu
    obtain ⟨k,hk,rfl⟩:=hu
    have:=List.getElem?_eq_some_iff.1 hk
    obtain ⟨h1,h2⟩:=this
    simp at h1 h2; subst h2
    exact .pure (hv i y _ z hy hz)
   ·simp only [List.getElem?_map,Option.map_eq_some_iff] at hu
    obtain ⟨k,hk,rfl⟩:=hu
    obtain ⟨h1,h2⟩:=List.getElem?_eq_some_iff.1 hk
    simp at h1 h2; subst h2
    exact hw i _ hi h1
theorem Di (h:Be m S σ w) {id g es i off:Nat} {v:Value} (hv:VR m S w (.ptr id g es i off) v) {o:aU} (ho:σ.ob id=some o) (hg:o.g=g) (hes:o.es=es) {y:AV} (hy:o.l[i]?=some y) :
  ∃ b,v=.pointer (some ⟨b,i * es+off,none⟩)∧y.cells.length=es∧∃ us:List Value,us.length=es∧bR m S w y.cells us∧∀ j u,us[j]?=some u→w.cell? ⟨b,i * es+j,none⟩=some u:=by
 cases hv with
 | pure h=>cases h
 | ptr hm=>
  subst hg; subst hes
  obtain ⟨b',len',cap',e,h1,us,h2,h3,h4⟩:=Ji h ho hm rfl hy
  cases e
  exact ⟨_,rfl,h1,us,h2,h3,h4⟩
end
end Go.Ab
