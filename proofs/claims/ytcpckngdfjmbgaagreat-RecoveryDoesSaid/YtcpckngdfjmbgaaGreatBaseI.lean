/- OWN WORK, put together by tools/asm.py, seat.py, mini.py. -/
import Derived.Test.YtcpckngdfjmbgaaGreatBaseH
namespace Go.Ab
open Go.RowKit
section
variable {P : Program} {W : World} {O S0 : Nat → Prop} {m : Mp} {S : Nat → Prop} {σ : St} {w : World} {e : Nat → AV} {a : Act} {o : Oper} {K : AV → St → Prop} {Q : Exit → Act → World → Prop} {g0 : Nat}
theorem zu (h:Be m S σ w) {id g es off n:Nat} {v:Value} (hv:VR m S w (.sl id g es off n) v) {ob:aU} (ho:σ.ob id=some ob) (hg:ob.g=g) :
  ∃ u,m g=some u∧RP m S w ob u∧v=bZ u es off n∧off+n≤bN u∧(u=.slice none 0 0∨∃ b len cap,u=.slice (some ⟨b,0,none⟩) len cap):=by
 cases hv with
 | pure h=>cases h
 | sl hm hn hs=>
  obtain ⟨u,h1,h2,_⟩:=h.obj id ob ho
  rw [hg] at h1
  rw [hm] at h1
  obtain rfl:=Option.some.inj h1
  replace h2:=h2.cells hs
  refine ⟨_,hm,h2,rfl,hn,?_⟩
  obtain ⟨_,_,xs,⟨_,h3⟩,_⟩:=h2
  rcases h3 with ⟨h,_⟩ | ⟨b,len,cap,cur,fr,h,_⟩
  ·exact .inl h
  ·exact .inr ⟨b,len,cap,h⟩
theorem VR.fq {id g es off n c:Nat} {v:Value} (h:VR m S w (.fH id g es off n c) v):∃ b len,m g=some (.slice (some ⟨b,0,none⟩) len c)∧v=.slice (some ⟨b,off * es,none⟩) n (c-off)∧off+n≤c:=by
 cases h with
 | pure h=>cases h
 | fH h hn=>exact ⟨_,_,h,rfl,hn⟩
theorem VR.Gr {id g es i off ee n:Nat} {v:Value} (h:VR m S w (.zq id g es i off ee n) v):∃ b len cap k,m g=some (.slice (some ⟨b,0,none⟩) len cap)∧v=.slice (some ⟨b,i * es+off,none⟩) n k∧n≤k:=by
 cases h with
 | pure h=>cases h
 | zq h hn=>exact ⟨_,_,_,_,h,rfl,hn⟩
theorem VR.iK {es:Nat} {l:List AV} {v:Value} (h:VR m S w (.list es l) v):∃ ad cap,v=.slice ad l.length cap∧
  l.length≤cap∧(l≠[]→∃ b q,ad=some ⟨b,q,none⟩∧∃ f:Nat→Nat→Value,(S b∧nv w b)∧(∀ (i:Nat) (x:AV),l[i]?=some x→mF es x)∧
   (∀ i j,i<l.length→j<es→w.cell? ⟨b,q+i * es+j,none⟩=some (f i j))∧∀ (i:Nat) (x:AV) (j:Nat) (y:AV),l[i]?=some x→x.cells[j]?=some y→VP S w y (f i j)):=by
 cases h with
 | pure h=>
  cases h with
  | bP es a c=>exact ⟨_,_,rfl,Nat.zero_le _,fun h=>absurd rfl h⟩
  | list f hl hcap hS hc hw hv=>exact ⟨_,_,rfl,hcap,fun _=>⟨_,_,rfl,f,hS,hc,hw,hv⟩⟩
theorem Re {t el:TypeId} {x ix:Operand} {y z:AX} {ei:TypeInfo} (hI:Inv W O S0 m S σ w) (hE:bq m S w e a.tmps) (ho:o.op=.indexAddr t x ix) (hu:P.underlying t=some (.slice el)) (hi:P.info? el=some ei)
  (h1:ax x=some y) (h2:ax ix=some z) (h:ar (HC P) (.bE ei.size y z) e σ K):o.wp P a w (Good W O S0 m S w g0 o a K) Q:=by
 have hx:=aC hE h1
 have hz:=aC hE h2
 simp only [ar] at h
 generalize g0_:y.ev e=G0_ at h
 generalize g1_:z.ev e=G1_ at h
 unfold wJ at h
 split at h
 ·rename_i id g es off n k q
  have e1:=g0_
  have e2:=g1_
  rw [e1] at hx; rw [e2] at hz
  have hz:=hz.of_int
  obtain ⟨rfl,⟨ob,hob,hg⟩,h0,hn,hK⟩:=h
  obtain ⟨u,hm,_,e3,hcap,hcase⟩:=zu hI.bu hx hob hg
  rcases hcase with rfl | ⟨b,len,cap,rfl⟩
  ·simp [bN] at hcap; omega
  ·simp only [bZ] at e3
   refine aj (v:=.pointer (some ⟨b,(off+q.toNat) * ei.size+0,none⟩)) hI ?_ hK (VR.ptr hm)
   have hq:0≤q∧q<(n:Int):=⟨h0,hn⟩
   simp [execOp,ho,e3,hz,Instr.indexAt,asIntOf,run_underlying hu,aP hi,hq,Addr.add_lit,Nat.add_mul]
 ·rename_i es l k q
  have e1:=g0_
  have e2:=g1_
  rw [e1] at hx; rw [e2] at hz
  have hz:=hz.of_int
  obtain ⟨rfl,h0,hn,hK⟩:=h
  obtain ⟨ad,cap,e3,_,hh⟩:=hx.iK
  have hl0:l≠[]:=fun hh=>by subst hh; simp at hn; omega
  obtain ⟨b,off,rfl,f,hS,hc,hw,hv⟩:=hh hl0
  refine aj (v:=.pointer (some ⟨b,off+q.toNat * ei.size+0,none⟩)) hI ?_ hK (.pure (.eQ f hS hc hw hv))
  have hq:0≤q∧q<(l.length:Int):=⟨h0,hn⟩
  simp [execOp,ho,e3,hz,Instr.indexAt,asIntOf,run_underlying hu,aP hi,hq,Addr.add_lit]
 ·rename_i id g es i0 off ee n k q
  rw [g0_] at hx; rw [g1_] at hz
  have hz:=hz.of_int
  obtain ⟨rfl,h0,hn,hK⟩:=h
  obtain ⟨b,len,cap,k2,hm,e3,_⟩:=hx.Gr
  refine aj (v:=.pointer (some ⟨b,i0 * es+(off+q.toNat * ei.size),none⟩)) hI ?_ hK (VR.ptr hm)
  have hq:0≤q∧q<(n:Int):=⟨h0,hn⟩
  simp [execOp,ho,e3,hz,Instr.indexAt,asIntOf,run_underlying hu,aP hi,hq,Addr.add_lit,Nat.add_assoc]
 ·rename_i id g es off n c k q
  rw [g0_] at hx; rw [g1_] at hz
  have hz:=hz.of_int
  obtain ⟨rfl,h0,hn,hK⟩:=h
  obtain ⟨b,len,hm,e3,_⟩:=hx.fq
  refine aj (v:=.pointer (some ⟨b,(off+q.toNat) * ei.size+0,none⟩)) hI ?_ hK (VR.ptr hm)
  have hq:0≤q∧q<(n:Int):=⟨h0,hn⟩
  simp [execOp,ho,e3,hz,Instr.indexAt,asIntOf,run_underlying hu,aP hi,hq,Addr.add_lit,Nat.add_mul]
 ·exact h.elim
theorem VR.dv {id g es off n:Nat} {v:Value} (h:VR m S w (.sl id g es off n) v):∃ u,m g=some u∧v=bZ u es off n∧off+n≤bN u:=by
 cases h with
 | pure h=>cases h
 | sl hm hn hs=>exact ⟨_,hm,rfl,hn⟩
theorem VR.Jg {id g es off n:Nat} {v:Value} (h:VR m S w (.sl id g es off n) v):∃ u,m g=some u∧v=bZ u es off n∧off+n≤bN u∧fI u=true:=by
 cases h with
 | pure h=>cases h
 | sl hm hn hs=>exact ⟨_,hm,rfl,hn,hs⟩
theorem nI {u:Value} {es off n:Nat} (h:off+n≤bN u):∃ ad cap,bZ u es off n=.slice ad n cap:=by
 unfold bZ
 split
 ·exact ⟨_,_,rfl⟩
 ·rename_i hne
  have:bN u=0:=by
   unfold bN; split
   ·rename_i a' b' c'; exact absurd rfl (hne a' b' c')
   ·rfl
  exact ⟨none,0,by congr 1; omega⟩
theorem Rd {t el:TypeId} {x:Operand} {y:AX} (hI:Inv W O S0 m S σ w) (hE:bq m S w e a.tmps) {c:Call} (ho:o.op=.call c) (hcc:c.callee=.builtin .len) (hca:c.args.toList=[x]) (hct:c.argTypes.toList=[t])
  (hu:P.underlying t=some (.slice el)) (h1:ax x=some y) (h:ar (HC P) (.len y) e σ K):o.wp P a w (Good W O S0 m S w g0 o a K) Q:=by
 have hx:=aC hE h1
 obtain ⟨cal,args,tys⟩:=c
 simp only at hcc hca hct
 obtain rfl:args=#[x]:=by cases args; simp_all
 obtain rfl:tys=#[t]:=by cases tys; simp_all
 subst hcc
 have hb:∀ {v:Value},(Builtin.len_ #[t] o.type #[a.eval x]).run P w=.ok v w→(execOp a.eval o).run P w=.ok (.value v) w:=fun {v} hv=>by
  simp [execOp,ho,resolve,invoke,builtin,hv]
 simp only [ar] at h
 generalize g0_:y.ev e=G0_ at h
 unfold ik at h
 split at h
 ·have e1:=g0_
  rw [e1] at hx
  have hx:=hx.of_nil
  exact aj (hI:=hI) (hb (by simp [Builtin.len_,run_underlying hu,hx,goInt])) h (.pure (.int _ _))
 ·rename_i l
  have e1:=g0_
  rw [e1] at hx
  obtain ⟨ad,cap,e3,_,_⟩:=hx.iK
  exact aj (hI:=hI) (hb (by simp [Builtin.len_,run_underlying hu,e3,goInt])) h (.pure (.int _ _))
 ·rename_i id g es off n
  have e1:=g0_
  rw [e1] at hx
  obtain ⟨u,_,e3,hcap⟩:=hx.dv
  obtain ⟨ad,cap,e4⟩:=nI (es:=es) hcap
  rw [e4] at e3
  exact aj (hI:=hI) (hb (by simp [Builtin.len_,run_underlying hu,e3,goInt])) h (.pure (.int _ _))
 ·rename_i id g es off n c
  rw [g0_] at hx
  obtain ⟨b,len,_,e3,_⟩:=hx.fq
  exact aj (hI:=hI) (hb (by simp [Builtin.len_,run_underlying hu,e3,goInt])) h (.pure (.int _ _))
 ·rename_i id g es i0 off ee n
  rw [g0_] at hx
  obtain ⟨b,len,cap,k,_,e3,_⟩:=hx.Gr
  exact aj (hI:=hI) (hb (by simp [Builtin.len_,run_underlying hu,e3,goInt])) h (.pure (.int _ _))
 ·exact h.elim
theorem On {t:TypeId} {x:Operand} {y:AX} (hI:Inv W O S0 m S σ w) (hE:bq m S w e a.tmps) {c:Call} (ho:o.op=.call c) (hcc:c.callee=.builtin .len) (hca:c.args.toList=[x]) (hct:c.argTypes.toList=[t])
  (hu:P.underlying t=some .string) (h1:ax x=some y) (h:ar (HC P) (.lens y) e σ K):o.wp P a w (Good W O S0 m S w g0 o a K) Q:=by
 have hx:=aC hE h1
 obtain ⟨cal,args,tys⟩:=c
 simp only at hcc hca hct
 obtain rfl:args=#[x]:=by cases args; simp_all
 obtain rfl:tys=#[t]:=by cases tys; simp_all
 subst hcc
 have hb:∀ {v:Value},(Builtin.len_ #[t] o.type #[a.eval x]).run P w=.ok v w→(execOp a.eval o).run P w=.ok (.value v) w:=fun {v} hv=>by
  simp [execOp,ho,resolve,invoke,builtin,hv]
 simp only [ar] at h
 generalize g0_:y.ev e=G0_ at h
 unfold Ai at h
 split at h
 ·rename_i s
  have e1:=g0_
  rw [e1] at hx
  have hx:=hx.mH
  exact aj (hI:=hI) (hb (by simp [Builtin.len_,run_underlying hu,hx,goInt])) h (.pure (.int _ _))
 ·exact h.elim
theorem zy {mx:Bool}:∀ (vs:List Value) (x:AV) (v:Value) (xs:List AV) (K:AV→Prop),VR m S w x v→bR m S w xs vs→fb mx x xs K→
  ∃ u y,(vs.foldlM (if mx then Builtin.max2 else Builtin.min2) v:Sem Value).run P w=.ok u w∧K y∧VR m S w y u
 | [],x,v,xs,K,hx,hxs,h=>by
  cases xs with
  | nil=>exact ⟨v,x,by simp,h,hx⟩
  | cons a r=>have:=hxs.1; simp at this
 | u :: vs,x,v,xs,K,hx,hxs,h=>by
  cases xs with
  | nil=>have:=hxs.1; simp at this
  | cons y r=>
   have hy:VR m S w y u:=hxs.2 0 y u rfl rfl
   have hr:bR m S w r vs:=by simpa using hxs.drop 1
   unfold fb at h
   split at h
   ·rename_i h1; cases h1
   ·rename_i k p k' q r' e1
    simp only [List.cons.injEq] at e1
    obtain ⟨rfl,rfl⟩:=e1
    obtain ⟨rfl,h⟩:=h
    have hx:=hx.of_int
    have hy:=hy.of_int
    subst hx; subst hy
    obtain ⟨u',y',h1,h2,h3⟩:=zy vs (.int k (if mx then max p q else min p q)) (.int k (if mx then max p q else min p q)) _ _ (.pure (.int _ _)) hr h
    refine ⟨u',y',?_,h2,h3⟩
    cases mx with
    | true=>
     have e2:(if q > p then q else p)=max p q:=by omega
     simp only [if_true] at h1 ⊢
     simpa [List.foldlM,Builtin.max2,e2] using h1
    | false=>
     have e2:(if q<p then q else p)=min p q:=by omega
     simp only [Bool.false_eq_true,if_false] at h1 ⊢
     simpa [List.foldlM,Builtin.min2,e2] using h1
   ·exact h.elim
theorem MY {mx:Bool} {x:AX} {xs:List AX} (hI:Inv W O S0 m S σ w) (hE:bq m S w e a.tmps) {c:Call} (ho:o.op=.call c) (hcc:c.callee=.builtin (if mx then .max else .min)) (hca:Cf c.args.toList=some (x :: xs))
  (h:ar (HC P) (.Fa mx x xs) e σ K):o.wp P a w (Good W O S0 m S w g0 o a K) Q:=by
 have hv:=iF hE hca
 obtain ⟨cal,args,tys⟩:=c
 simp only at hcc hca hv
 subst hcc
 cases hl:args.toList with
 | nil=>rw [hl] at hv; have:=hv.1; simp at this
 | cons z zs=>
  rw [hl] at hv
  have h1:VR m S w (x.ev e) (a.eval z):=hv.2 0 _ _ rfl rfl
  have h2:bR m S w (xs.map fun y=>y.ev e) (zs.map a.eval):=by simpa using hv.drop 1
  obtain ⟨u,y,h3,h4,h5⟩:=zy (P:=P) (zs.map a.eval) _ _ _ _ h1 h2 h
  have hm:(args.map a.eval).toList=a.eval z :: zs.map a.eval:=by simp [hl]
  refine aj (v:=u) hI ?_ h4 h5
  cases mx with
  | true=>
   simp only [if_true] at h3 ho
   simp only [execOp,ho,resolve,invoke,builtin,Builtin.max_,Sem.run_bind,Sem.run_pure,Result.andThen_ok,hm,h3]
  | false=>
   simp only [Bool.false_eq_true,if_false] at h3 ho
   simp only [execOp,ho,resolve,invoke,builtin,Builtin.min_,Sem.run_bind,Sem.run_pure,Result.andThen_ok,hm,h3]
theorem Ot {f:Nat} {as:List AX} (hI:Inv W O S0 m S σ w) (hE:bq m S w e a.tmps) {c:Call} (ho:o.op=.call c) (hcc:c.callee=.value (.func f)) (hca:Cf c.args.toList=some as)
  (h:ar (HC P) (.call f as) e σ K):o.wp P a w (Good W O S0 m S w g0 o a K) Q:=by
 have hv:=iF hE hca
 obtain ⟨cal,args,tys⟩:=c
 simp only at hcc hca hv
 subst hcc
 refine wK hI ?_ h hv (by simp [cl,ho])
 simp only [execOp,ho,resolve,Sem.run_bind,Act.eval,Deferred.ofValue,Sem.run_pure,Result.andThen_ok,invoke,Array.append_empty]
 congr 2
 apply Array.ext'
 simp
theorem Lt {s:Nat} {as:List AX} (hI:Inv W O S0 m S σ w) (hE:bq m S w e a.tmps) {c:Call} (ho:o.op=.call c) (hcc:c.callee=.value (.tmp s)) (hca:Cf c.args.toList=some as)
  (h:ar (HC P) (.dF (.t s) as) e σ K):o.wp P a w (Good W O S0 m S w g0 o a K) Q:=by
 have hv:=iF hE hca
 obtain ⟨cal,args,tys⟩:=c
 simp only at hcc hca hv
 subst hcc
 have hs:=hE s
 simp only [ar,AX.ev] at h
 generalize g0_:e s=G0_ at h
 unfold mQ at h
 split at h
 ·rename_i f caps
  have e1:=g0_
  rw [e1] at hs
  obtain ⟨us,e2,hus⟩:=hs.yT
  refine wK hI ?_ h (hv.append hus) (by simp [cl,ho])
  have e3:a.eval (.tmp s)=.func (.func f) #[] us:=e2
  simp only [execOp,ho,resolve,Sem.run_bind,e3,Deferred.ofValue,Sem.run_pure,Result.andThen_ok,invoke]
  congr 2
  apply Array.ext'
  simp
 ·rename_i f fs
  have e1:=g0_
  rw [e1] at hs
  obtain ⟨us,e2,hus⟩:=hs.Hp
  refine wK hI ?_ h (hus.append hv) (by simp [cl,ho])
  have e3:a.eval (.tmp s)=.func (.func f) us #[]:=e2
  simp only [execOp,ho,resolve,Sem.run_bind,e3,Deferred.ofValue,Sem.run_pure,Result.andThen_ok,invoke,Array.append_empty]
  congr 2
  apply Array.ext'
  simp
 ·exact h.elim
end
end Go.Ab
