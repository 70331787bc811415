/- OWN WORK, put together by tools/asm.py, seat.py, mini.py. -/
import Derived.Test.YtcpckngdfjmbgaaGreatBaseF
namespace Go.Ab
open Go.RowKit
section
variable {P : Program} {W : World} {O S0 : Nat → Prop} {m : Mp} {S : Nat → Prop} {σ : St} {w : World} {e : Nat → AV} {a : Act} {o : Oper} {K : AV → St → Prop} {Q : Exit → Act → World → Prop} {g0 : Nat}
theorem CF {t:TypeId} {x:Operand} {d:TypeDesc} {i:TypeInfo} {es off b q:Nat} {y:AV} {us:List Value} (hI:Inv W O S0 m S σ w)
  (ho:o.op=.load t x) (hd:P.underlying t=some d) (hi:P.info? t=some i) (hx:a.eval x=.pointer (some ⟨b,q+off,none⟩))
  (hl:y.cells.length=es) (hus:us.length=es) (hv:bR m S w y.cells us) (hc:∀ j u,us[j]?=some u→w.cell? ⟨b,q+j,none⟩=some u)
  (hsz:off+(if bK d then i.size else 1)≤es) (hK:K (sub (bK d) (if bK d then i.size else 1) off y) σ):o.wp P a w (Good W O S0 m S w g0 o a K) Q:=by
 cases hag:bK d with
 | true=>
  simp only [hag,if_true] at hsz hK
  have h1:=(qQ (ag:=true) hl hus hv hsz).1 rfl
  have hlen:((us.drop off).take i.size).length=i.size:=by simp; omega
  have hr:=mZ (w:=w) hd hi b (q+off) ((us.drop off).take i.size) hlen hag (fun j u hj=>by
   rw [List.getElem?_take] at hj
   split at hj
   ·rw [List.getElem?_drop] at hj
    rw [Nat.add_assoc]; exact hc _ u hj
   ·cases hj)
  exact aj hI (by simp [execOp,ho,hx,hr]) hK h1
 | false=>
  simp only [hag,Bool.false_eq_true,if_false] at hsz hK
  obtain ⟨u,hu,h1⟩:=(qQ (ag:=false) (sz:=1) hl hus hv hsz).2 rfl rfl
  have hr:=pP (w:=w) hd b (q+off) u hag (hc off u hu)
  exact aj hI (by simp [execOp,ho,hx,hr]) hK h1
theorem I4 {t:TypeId} {x:Operand} {y:AX} {d:TypeDesc} {i:TypeInfo} (hI:Inv W O S0 m S σ w) (hE:bq m S w e a.tmps)
  (ho:o.op=.load t x) (hd:P.underlying t=some d) (hi:P.info? t=some i) (hc:ax x=some y)
  (h:ar (HC P) (.load (bK d) (if bK d then i.size else 1) y) e σ K):o.wp P a w (Good W O S0 m S w g0 o a K) Q:=by
 have hv:=aC hE hc
 simp only [ar] at h
 generalize g0_:y.ev e=G0_ at h
 unfold uM at h
 split at h
 ·rename_i id g es ix off
  have hxe:=g0_
  rw [hxe] at hv
  obtain ⟨ob,hob,hg,hes,hsz,z,hz,hK⟩:=h
  obtain ⟨b,hx,hl,us,hus,hvs,hcs⟩:=Di hI.bu hv hob hg hes hz
  exact CF hI ho hd hi hx hl hus hvs hcs hsz hK
 ·rename_i es l ix off
  have hxe:=g0_
  rw [hxe] at hv
  obtain ⟨hsz,z,hz,hK⟩:=h
  obtain ⟨b,q,hx,hl,us,hus,hvs,hcs⟩:=HX hv hz
  exact CF hI ho hd hi hx hl hus hvs hcs hsz hK
 ·exact h.elim
theorem fj (g o:Nat) (t:TypeId) (fr:Nat × Nat):∀ (vs:List Value) (i:Nat) (cur:Array Value) (w:World),w.heap[g]?=some (.cells cur t fr)→o+i+vs.length≤cur.size→
  (∀ k,k<cur.size→¬(fr.1≤k∧k<fr.2))→(∀ v∈vs,v.oneCell'=true)→
  (storeCells ⟨g,o,none⟩ vs i).run P w=.ok () (w.setRow g (cur.toList.take (o+i)++vs++cur.toList.drop (o+i+vs.length)).toArray)
 | [],i,cur,w,hg,_,_,_=>by
  simp only [storeCells,List.append_nil,List.length_nil,Nat.add_zero,List.take_append_drop,Array.toArray_toList]
  rw [setRow_self w g cur t fr hg]
  rfl
 | v :: rest,i,cur,w,hg,hl,hf,h1=>by
  have hi:o+i<cur.size:=by simp at hl; omega
  have hadd:(⟨g,o,none⟩:Addr).add i=⟨g,o+i,none⟩:=by unfold Addr.add; split <;> simp_all
  have hcell:w.cell? ⟨g,o+i,none⟩=some cur[o+i]:=by simp [World.cell?,hg,hi]
  have hfro:w.frozen? ⟨g,o+i,none⟩=false:=by
   have:=hf (o+i) hi
   simp only [World.frozen?,hg,Bool.and_eq_false_iff,decide_eq_false_iff_not]
   omega
  have hst:(store ((⟨g,o,none⟩:Addr).add i) v).run P w=.ok () (w.setRow g (cur.setIfInBounds (o+i) v)):=by
   rw [hadd,run_store P w _ v _ (h1 v (by simp)),hcell]
   simp [hfro,setCell_eq_setRow w g (o+i) cur t fr v hg]
  have ih:=fj g o t fr rest (i+1) (cur.setIfInBounds (o+i) v) (w.setRow g (cur.setIfInBounds (o+i) v)) (setRow_heap w g cur _ t _ hg) (by simp at hl ⊢; omega) (by simpa using hf) (fun x hx=>h1 x (by simp [hx]))
  simp only [storeCells,Sem.run_bind,hst,Result.andThen_ok,ih,setRow_setRow]
  congr 3
  have e:=list_seg_step cur.toList (o+i) v rest (by simp at hl ⊢; omega)
  simpa [Array.toList_setIfInBounds,Nat.add_assoc] using e
theorem zw {off es sz:Nat} {v y:AV} (hy:y.cells.length=es) (hv:v.cells.length=sz) (h0:0<sz) (hsz:off+sz≤es) :
  (gH off v y).cells=y.cells.take off++v.cells++y.cells.drop (off+sz):=by
 by_cases h:∃ cs,y=.agg cs
 ·obtain ⟨cs,rfl⟩:=h
  simp only [gH,hv]
  rfl
 ·have h1:y.cells=[y]:=by cases y <;> first | rfl | exact absurd ⟨_,rfl⟩ h
  have h2:gH off v y=v:=by cases y <;> first | rfl | exact absurd ⟨_,rfl⟩ h
  rw [h1] at hy ⊢
  simp at hy
  obtain rfl:off=0:=by omega
  obtain rfl:sz=1:=by omega
  rw [h2]
  simp
theorem Az {a:AV} (h:a.flat=true):∀ x∈a.cells,x.one=true:=by
 cases a <;> simp_all [AV.flat,AV.cells]
theorem HW {off:Nat} {v y:AV} (hy:y.flat=true) (hv:v.flat=true):(gH off v y).flat=true:=by
 by_cases h:∃ cs,y=.agg cs
 ·obtain ⟨cs,rfl⟩:=h
  simp only [gH,AV.flat,List.all_eq_true,List.mem_append]
  have hy':∀ x∈cs,x.one=true:=by simpa [AV.flat] using hy
  rintro x ((hx | hx) | hx)
  ·exact hy' x (List.mem_of_mem_take hx)
  ·exact Az hv x hx
  ·exact hy' x (List.mem_of_mem_drop hx)
 ·have h2:gH off v y=v:=by cases y <;> first | rfl | exact absurd ⟨_,rfl⟩ h
  rw [h2]; exact hv
theorem Ie {es:Nat} {l:List AV} (h:mE es l) {i:Nat} {x:AV} (hi:i<l.length):aK (l.set i x)=(aK l).take (i * es)++x.cells++(aK l).drop ((i+1) * es):=by
 rw [cR i h,cq (i+1) h]
 have:l.set i x=l.take i++x :: l.drop (i+1):=by rw [List.set_eq_take_append_cons_drop,if_pos hi]
 rw [this]
 simp [aK]
theorem JK {es sz off i:Nat} {l:List AV} {v y:AV} (hok:mE es l) (hy:l[i]?=some y) (hv:v.cells.length=sz) (h0:0<sz) (hsz:off+sz≤es) :
  aK (l.set i (gH off v y))=(aK l).take (i * es+off)++v.cells++(aK l).drop (i * es+off+sz):=by
 have hi:=(List.getElem?_eq_some_iff.1 hy).1
 have hyl:=(hok y (List.mem_of_getElem? hy)).2
 have hfl:=bp hok
 have hle:(i+1) * es≤l.length * es:=Nat.mul_le_mul_right _ hi
 have e1:(i+1) * es=i * es+es:=by rw [Nat.add_mul]; omega
 have hcell:y.cells=((aK l).drop (i * es)).take es:=by
  rw [cq i hok,List.drop_eq_getElem_cons hi,(List.getElem?_eq_some_iff.1 hy).2]
  simp only [aK,List.flatMap_cons]
  rw [List.take_append_of_le_length (by omega),List.take_of_length_le (by omega)]
 rw [Ie hok hi,zw hyl hv h0 hsz,hcell,e1]
 have e2:(((aK l).drop (i * es)).take es).take off=((aK l).drop (i * es)).take off:=by rw [List.take_take,Nat.min_eq_left (by omega)]
 have e3:(((aK l).drop (i * es)).take es).drop (off+sz)=((aK l).drop (i * es+off+sz)).take (es-(off+sz)):=by
  rw [List.drop_take,List.drop_drop,Nat.add_assoc]
 have e4:(aK l).take (i * es)++((aK l).drop (i * es)).take off=(aK l).take (i * es+off):=by rw [←List.take_add]
 have e5:((aK l).drop (i * es+off+sz)).take (es-(off+sz))++(aK l).drop (i * es+es)=(aK l).drop (i * es+off+sz):=by
  have:(aK l).drop (i * es+es)=((aK l).drop (i * es+off+sz)).drop (es-(off+sz)):=by rw [List.drop_drop]; congr 1; omega
  rw [this,List.take_append_drop]
 rw [e2,e3]
 simp only [List.append_assoc]
 rw [e5,←List.append_assoc,e4]
theorem EJ (cur B:List Value) (p n sz:Nat) (hB:B.length=sz) (h:p+sz≤n) (hn:n≤cur.length) :
  (cur.take p++B++cur.drop (p+sz)).take n=(cur.take n).take p++B++(cur.take n).drop (p+sz):=by
 have h1:(cur.take p++B).length=p+sz:=by simp; omega
 rw [List.take_append,List.take_of_length_le (by omega),h1,List.take_take,Nat.min_eq_left (by omega),List.drop_take]
theorem Lp {t:TypeId} {x z:Operand} {y v:AX} {i:TypeInfo} (hI:Inv W O S0 m S σ w) (hE:bq m S w e a.tmps)
  (ho:o.op=.store t x z) (hi:P.info? t=some i) (hp:0<i.size) (hc:ax x=some y) (hcz:ax z=some v)
  (h:ar (HC P) (.store i.size y v) e σ K):o.wp P a w (Good W O S0 m S w g0 o a K) Q:=by
 have hv:=aC hE hc
 have hz:=aC hE hcz
 simp only [ar] at h
 generalize g0_:y.ev e=G0_ at h
 unfold sQ at h
 split at h
 ·rename_i id g es ix off
  have hxe:=g0_
  rw [hxe] at hv
  obtain ⟨ob,hob,hg,hes,hro,hf,hl,hsz,y0,hy0,hK⟩:=h
  obtain ⟨hvs,bm⟩:=hz.cells hf
  obtain ⟨vv,hm,⟨hok,hes0,xs,hown,hxs⟩,hblk⟩:=hI.bu.obj id ob hob
  obtain ⟨b,hx,_,_,_,_,_⟩:=Di hI.bu hv hob hg hes hy0
  subst hg; subst hes
  rw [hx] at hv
  cases hv with
  | pure h=>cases h
  | ptr hm'=>
   rename_i len0 D8
   rw [hm] at hm'
   obtain rfl:=Option.some.inj hm'
   have hix:=(List.getElem?_eq_some_iff.1 hy0).1
   obtain ⟨hxl,hown⟩:=hown.own rfl
   rcases hown with ⟨h,_⟩ | ⟨b',len',cap',cur,fr,e1,hgb,hnc,hcm,hcs,htake,hfr,hap⟩
   ·cases h
   ·cases e1
    have hle:(ix+1) * ob.es≤ob.l.length * ob.es:=Nat.mul_le_mul_right _ hix
    have hle2:ob.l.length * ob.es≤D8 * ob.es:=Nat.mul_le_mul_right _ hnc
    have e2:(ix+1) * ob.es=ix * ob.es+ob.es:=by rw [Nat.add_mul]; omega
    have hvl:(a.eval z).cells.size=i.size:=by have:=hvs.1; simp at this; omega
    have hst:=fj (P:=P) b (ix * ob.es+off) ob.ty fr (a.eval z).cells.toList 0 cur w hgb (by simp [hvl]; omega) hfr bm
    simp only [Nat.add_zero,Array.length_toList,hvl] at hst
    have hrun:(execOp a.eval o).run P w=.ok .skip (w.setRow b (cur.toList.take (ix * ob.es+off)++(a.eval z).cells.toList++cur.toList.drop (ix * ob.es+off+i.size)).toArray):=by
     simp [execOp,ho,Instr.storeAt,hx,Instr.sureAddr,storeVar,aP hi,hvl,hst]
    unfold Oper.wp
    rw [hrun,Oper.upon_skip]
    have hb:∀ k,k≠b→(w.setRow b (cur.toList.take (ix * ob.es+off)++(a.eval z).cells.toList++cur.toList.drop (ix * ob.es+off+i.size)).toArray).heap[k]?=w.heap[k]?:=fun k hk=>setRow_other w b k _ hk
    have hSb:¬S b:=(hblk b rfl).2 hro
    have hX:Ext m S w m S (w.setRow b (cur.toList.take (ix * ob.es+off)++(a.eval z).cells.toList++cur.toList.drop (ix * ob.es+off+i.size)).toArray):=
     ⟨Mp.le_refl m,fun _ h=>h,fun k hk=>hb k (fun e=>hSb (e ▸ hk))⟩
    refine ⟨.bC,_,m,S,undef,rfl,hK,⟨⟨hI.bu.fresh,?_,?_,?_⟩,⟨hI.fr.os,hI.fr.tape,hI.fr.output,by simpa using hI.fr.size,?_,?_,hI.fr.sub⟩⟩,hX,.bC _,.inl fun _ _=>rfl⟩
    ·intro k o' ho'
     by_cases e:k=id
     ·subst e
      simp only [St.put,az,Option.some.injEq] at ho'
      subst ho'
      refine ⟨_,hm,⟨?_,hes0,(xs.take (ix * ob.es+off)++(a.eval z).cells.toList++xs.drop (ix * ob.es+off+i.size)),?_,?_⟩,hblk⟩
      ·intro x' hx'
       simp only at hx' ⊢
       rcases List.mem_or_eq_of_mem_set hx' with h | h
       ·exact hok x' h
       ·have h0:=(hok y0 (List.mem_of_getElem? hy0))
        refine ⟨by rw [h]; exact HW h0.1 hf,?_⟩
        rw [h,zw h0.2 hl hp hsz]
        simp [hl,h0.2]; omega
      ·refine .inl ⟨by simp only [List.length_append,List.length_take,List.length_drop,List.length_set,Array.length_toList,hvl,hxl]; omega,.inr ⟨b,len0,D8,_,fr,by simp,setRow_heap w b cur _ ob.ty fr hgb,by simpa using hnc,hcm,?_,?_,?_,hap⟩⟩
       ·simp only [List.size_toArray,List.length_append,List.length_take,List.length_drop,Array.length_toList,hvl,hcs]; omega
       ·simp only [List.length_set]
        rw [←htake]
        exact EJ cur.toList _ _ _ _ (by simpa using hvl) (by omega) (by simp; omega)
       ·intro k hk; refine hfr k ?_
        simp only [List.size_toArray,List.length_append,List.length_take,List.length_drop,Array.length_toList,hvl] at hk
        omega
      ·simp only
       rw [JK hok hy0 hl hp hsz]
       exact (((hxs.take _).append hvs).append (hxs.drop _)).ext hX
     ·simp only [St.put,aa _ _ _ _ e] at ho'
      obtain ⟨v',h1,h2,h3⟩:=hI.bu.obj k o' ho'
      refine ⟨v',h1,h2.ext hX fun k' hk'=>hb k' fun e'=>?_,h3⟩
      subst e'
      exact hI.bu.iB k id o' ob v' _ _ ho' hob e h1 hm hk' rfl
    ·intro k k' o1 o2 v1 v2 b2 h1 h2 hne h3 h4 h5
     have key:∀ k o1,(σ.put id ob (ob.l.set ix (gH off (v.ev e) y0))).ob k=some o1→∃ o1',σ.ob k=some o1'∧o1'.g=o1.g:=by
      intro k o1 h
      by_cases e:k=id
      ·subst e; simp only [St.put,az,Option.some.injEq] at h; subst h; exact ⟨ob,hob,rfl⟩
      ·simp only [St.put,aa _ _ _ _ e] at h; exact ⟨o1,h,rfl⟩
     obtain ⟨o1',h1',hg1⟩:=key k o1 h1
     obtain ⟨o2',h2',hg2⟩:=key k' o2 h2
     exact hI.bu.iB k k' o1' o2' v1 v2 b2 h1' h2' hne (by rw [hg1]; exact h3) (by rw [hg2]; exact h4) h5
    ·intro k hk; simpa using hI.bu.lt k hk
    ·intro k hk hO
     by_cases e:k=b
     ·subst e
      rcases hI.fr.own id ob _ _ hob hro hm rfl with h | h
      ·exact absurd h hO
      ·have h':W.heap.size≤k:=h
       omega
     ·rw [hb k e]; exact hI.fr.block k hk hO
    ·intro k o1 v1 b1 h1 h2 h3 h4
     by_cases e:k=id
     ·subst e; simp only [St.put,az,Option.some.injEq] at h1; subst h1; exact hI.fr.own k ob v1 b1 hob hro h3 h4
     ·simp only [St.put,aa _ _ _ _ e] at h1; exact hI.fr.own k o1 v1 b1 h1 h2 h3 h4
 ·exact h.elim
end
end Go.Ab
