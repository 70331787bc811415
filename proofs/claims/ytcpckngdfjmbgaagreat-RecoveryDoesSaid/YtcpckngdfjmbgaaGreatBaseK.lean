/- OWN WORK, put together by tools/asm.py, seat.py, mini.py. -/
import Derived.Test.YtcpckngdfjmbgaaGreatBaseJ
namespace Go.Ab
open Go.RowKit
section
variable {P : Program} {W : World} {O S0 : Nat → Prop} {m : Mp} {S : Nat → Prop} {σ : St} {w : World} {e : Nat → AV} {a : Act} {o : Oper} {K : AV → St → Prop} {Q : Exit → Act → World → Prop} {g0 : Nat}
theorem bR.one {as:List AV} {vs:List Value} (h:bR m S w as vs) (h1:∀ x∈as,x.one=true):∀ u∈vs,u.oneCell'=true:=by
 intro u hu
 obtain ⟨j,hj⟩:=List.getElem?_of_mem hu
 have hlt:j<as.length:=by rw [←h.1]; exact (List.getElem?_eq_some_iff.1 hj).1
 exact ((h.2 j _ u (List.getElem?_eq_getElem hlt) hj).one (h1 _ (List.getElem_mem hlt))).2.2
theorem sh {es:Nat} {l:List AV} (h:mE es l):∀ x∈aK l,x.one=true:=by
 intro x hx
 simp only [aK,List.mem_flatMap] at hx
 obtain ⟨y,hy,hx⟩:=hx
 exact Az (h y hy).1 x hx
theorem jb {es:Nat} (hS:Be m S σ w) {x:AV} {v:Value} (hv:VR m S w x v) {Kl:List AV→Prop} (hes:∀ id g es' off n,(x=.sl id g es' off n∨∃ c,x=.fH id g es' off n c)→es'=es) (hesl:∀ es' l,x=.list es' l→es'=es) (h:bY σ x Kl) :
  ∃ l ad n c news,Kl l∧mE es l∧v=.slice ad n c∧n=l.length∧bR m S w (aK l) news∧(l≠[]→∃ b q,ad=some ⟨b,q,none⟩∧∀ j u,news[j]?=some u→w.cell? ⟨b,q+j,none⟩=some u):=by
 unfold bY at h
 split at h
 ·have hv:=hv.of_nil
  exact ⟨[],none,0,0,[],h,fun x hx=>by simp at hx,hv,rfl,by simpa [aK] using bR.nil,fun h=>absurd rfl h⟩
 ·rename_i es' l
  obtain rfl:=hesl es' l rfl
  obtain ⟨ad,cap,e3,_,hh⟩:=hv.iK
  by_cases hl:l=[]
  ·subst hl
   exact ⟨[],ad,0,cap,[],h,fun x hx=>by simp at hx,e3,rfl,by simpa [aK] using bR.nil,fun h=>absurd rfl h⟩
  ·obtain ⟨b,q,rfl,f,hSb,hc,hw,hvv⟩:=hh hl
   have hok:mE es' l:=fun x hx=>by
    obtain ⟨i,hi⟩:=List.getElem?_of_mem hx
    exact hc i x hi
   have hfl:=bp hok
   refine ⟨l,_,_,cap,(List.range (l.length * es')).map (fun t=>f (t / es') (t % es')),h,hok,e3,rfl,⟨by simp [hfl],fun j y u hy hu=>?_⟩,fun _=>⟨b,q,rfl,fun j u hu=>?_⟩⟩
   ·have hj:j<l.length * es':=by rw [←hfl]; exact (List.getElem?_eq_some_iff.1 hy).1
    have hpos:0<es':=Nat.pos_of_ne_zero fun e=>by subst e; simp at hj
    have hd:j / es' < l.length:=Nat.div_lt_of_lt_mul (by rw [Nat.mul_comm]; exact hj)
    have hm:=Nat.mod_lt j hpos
    have hdm:j / es' * es'+j % es'=j:=by rw [Nat.mul_comm]; exact Nat.div_add_mod j es'
    have hx:=List.getElem?_eq_getElem hd
    have hcell:=iy hok hx hm
    rw [hdm,hy] at hcell
    simp only [List.getElem?_map,List.getElem?_range hj,Option.map_some,Option.some.injEq] at hu
    subst hu
    exact .pure (hvv _ _ _ _ hx hcell.symm)
   ·simp only [List.getElem?_map,Option.map_eq_some_iff] at hu
    obtain ⟨t,ht,rfl⟩:=hu
    obtain ⟨h1,h2⟩:=List.getElem?_eq_some_iff.1 ht
    simp at h1 h2; subst h2
    have hpos:0<es':=Nat.pos_of_ne_zero fun e=>by subst e; simp at h1
    have hd:j / es' < l.length:=Nat.div_lt_of_lt_mul (by rw [Nat.mul_comm]; exact h1)
    have hm:=Nat.mod_lt j hpos
    have hdm:j / es' * es'+j % es'=j:=by rw [Nat.mul_comm]; exact Nat.div_add_mod j es'
    rw [←hw _ _ hd hm,Nat.add_assoc,hdm]
 ·rename_i id g es' off n
  obtain rfl:=hes id g es' off n (.inl rfl)
  obtain ⟨ob,hob,hg,hes',hlen,hK⟩:=h
  obtain ⟨u,hm,⟨hok,hes0,xs,hown,hxs⟩,e3,hcap,_⟩:=zu hS hv hob hg
  subst hes'
  have hl:((ob.l.drop off).take n).length=n:=by simp; omega
  have hok':mE ob.es ((ob.l.drop off).take n):=fun x hx=>hok x (List.mem_of_mem_drop (List.mem_of_mem_take hx))
  have hxs':bR m S w (aK ((ob.l.drop off).take n)) ((xs.drop (off * ob.es)).take (n * ob.es)):=by
   have:=(hxs.drop (off * ob.es)).take (n * ob.es)
   rwa [cq off hok,cR n (fun x hx=>hok x (List.mem_of_mem_drop hx))] at this
  rcases hown.2 with ⟨rfl,hn0⟩ | ⟨b,len,cap,cur,fr,rfl,hgb,hnc,hcm,hcs,htake,_⟩
  ·simp only [bN] at hcap
   obtain rfl:n=0:=by omega
   exact ⟨_,none,0,0,_,hK,hok',e3,by simp,hxs',fun h=>absurd (by simp) h⟩
  ·simp only [bZ] at e3
   refine ⟨_,_,n,_,_,hK,hok',e3,hl.symm,hxs',fun _=>⟨b,_,rfl,fun j u hu=>?_⟩⟩
   rw [List.getElem?_take] at hu
   split at hu
   ·rw [List.getElem?_drop,←htake,List.getElem?_take] at hu
    split at hu
    ·simp only [World.cell?,hgb]; simpa using hu
    ·cases hu
   ·cases hu
 ·rename_i id g es' off n c
  obtain rfl:=hes id g es' off n (.inr ⟨c,rfl⟩)
  obtain ⟨ob,hob,hg,hes',hlen,hK⟩:=h
  obtain ⟨b,len,hm,e3,hcap⟩:=hv.fq
  obtain ⟨u,hm',⟨hok,hes0,xs,hown,hxs⟩,_⟩:=hS.obj id ob hob
  rw [hg,hm] at hm'
  obtain rfl:=Option.some.inj hm'
  subst hes'
  have hl:((ob.l.drop off).take n).length=n:=by simp; omega
  have hok':mE ob.es ((ob.l.drop off).take n):=fun x hx=>hok x (List.mem_of_mem_drop (List.mem_of_mem_take hx))
  have hxs':bR m S w (aK ((ob.l.drop off).take n)) ((xs.drop (off * ob.es)).take (n * ob.es)):=by
   have:=(hxs.drop (off * ob.es)).take (n * ob.es)
   rwa [cq off hok,cR n (fun x hx=>hok x (List.mem_of_mem_drop hx))] at this
  rcases (hown.own rfl).2 with ⟨h,_⟩ | ⟨b',len',cap,cur,fr,h,hgb,hnc,hcm,hcs,htake,_⟩
  ·cases h
  ·cases h
   refine ⟨_,_,n,_,_,hK,hok',e3,hl.symm,hxs',fun _=>⟨b,_,rfl,fun j u hu=>?_⟩⟩
   rw [List.getElem?_take] at hu
   split at hu
   ·rw [List.getElem?_drop,←htake,List.getElem?_take] at hu
    split at hu
    ·simp only [World.cell?,hgb]; simpa using hu
    ·cases hu
   ·cases hu
 ·exact h.elim
theorem cE {t ty el:TypeId} {i:TypeInfo} (ht:P.underlying t=some (.slice el)) (hi:P.info? el=some i) (w:World) (b:Option Addr) (n cap:Nat) (hn:n≤cap) (v:Value) {ad:Option Addr} {c:Nat} (hv:v=.slice ad 0 c)
  (hb:b=none→True):(Builtin.append_ #[t,t] ty #[.slice b n cap,v]).run P w=.ok (.slice b n cap) w:=by
 subst hv
 have hfc:(Builtin.firstCells i.size 0 (.slice ad 0 c)).run P w=.ok #[] w:=by
  cases ad <;> simp [Builtin.firstCells,loadCells,loadCellsFrom]
 cases b with
 | none=>simp [Builtin.append_,run_underlying ht,aP hi,Builtin.lenOf,hn,hfc]
 | some ad'=>simp [Builtin.append_,run_underlying ht,aP hi,Builtin.lenOf,hn,hfc,storeCells]
theorem CQ {τ:St} {x:AV} {Kl:List AV→Prop} (h:bY τ x Kl) (hob:σ.ob=τ.ob):bY σ x Kl:=by
 unfold bY at h ⊢
 rw [hob]
 exact h
theorem Inv.TA (hI:Inv W O S0 m S σ w) {id:Nat} {ob:aU} {b len cap:Nat} (hob:σ.ob id=some ob) (hro:ob.ro=false) (hm:m ob.g=some (.slice (some ⟨b,0,none⟩) len cap)) {cur':Array Value} {l':List AV} {xs':List Value}
  (hok:mE ob.es l') (hes0:0<ob.es) (hown:jw (w.setRow b cur') ob.ty ob.es ob.ap (.slice (some ⟨b,0,none⟩) len cap) l'.length xs') (hxs:bR m S w (aK l') xs') :
  Inv W O S0 m S (σ.put id ob l') (w.setRow b cur')∧Ext m S w m S (w.setRow b cur'):=by
 obtain ⟨vv,hm',_,hblk⟩:=hI.bu.obj id ob hob
 rw [hm] at hm'; obtain rfl:=Option.some.inj hm'
 have hb:∀ k,k≠b→(w.setRow b cur').heap[k]?=w.heap[k]?:=fun k hk=>setRow_other w b k _ hk
 have hSb:¬S b:=(hblk b rfl).2 hro
 have hX:Ext m S w m S (w.setRow b cur'):=⟨Mp.le_refl m,fun _ h=>h,fun k hk=>hb k (fun e=>hSb (e ▸ hk))⟩
 have hsz:(w.setRow b cur').heap.size=w.heap.size:=by simp [World.setRow]
 refine ⟨⟨⟨hI.bu.fresh,?_,?_,?_⟩,⟨hI.fr.os,hI.fr.tape,hI.fr.output,by rw [hsz]; exact hI.fr.size,?_,?_,hI.fr.sub⟩⟩,hX⟩
 ·intro k o' ho'
  by_cases e:k=id
  ·subst e
   simp only [St.put,az,Option.some.injEq] at ho'
   subst ho'
   exact ⟨_,hm,⟨hok,hes0,xs',.inl hown,hxs.ext hX⟩,hblk⟩
  ·simp only [St.put,aa _ _ _ _ e] at ho'
   obtain ⟨v',h1,h2,h3⟩:=hI.bu.obj k o' ho'
   refine ⟨v',h1,h2.ext hX fun k' hk'=>hb k' fun e'=>?_,h3⟩
   subst e'
   exact hI.bu.iB k id o' ob v' _ _ ho' hob e h1 hm hk' rfl
 ·intro k k' o1 o2 v1 v2 b2 h1 h2 hne h3 h4 h5
  have key:∀ k o1,(σ.put id ob l').ob k=some o1→∃ o1',σ.ob k=some o1'∧o1'.g=o1.g:=by
   intro k o1 h
   by_cases e:k=id
   ·subst e; simp only [St.put,az,Option.some.injEq] at h; subst h; exact ⟨ob,hob,rfl⟩
   ·simp only [St.put,aa _ _ _ _ e] at h; exact ⟨o1,h,rfl⟩
  obtain ⟨o1',h1',hg1⟩:=key k o1 h1
  obtain ⟨o2',h2',hg2⟩:=key k' o2 h2
  exact hI.bu.iB k k' o1' o2' v1 v2 b2 h1' h2' hne (by rw [hg1]; exact h3) (by rw [hg2]; exact h4) h5
 ·intro k hk; rw [hsz]; exact hI.bu.lt k hk
 ·intro k hk hO
  by_cases e:k=b
  ·subst e
   rcases hI.fr.own id ob _ _ hob hro hm rfl with h | h
   ·exact absurd h hO
   ·have h':W.heap.size≤k:=h
    omega
  ·rw [hb k e]; exact hI.fr.block k hk hO
 ·intro k o1 v1 b1 h1 h2 h3 h4
  by_cases e:k=id
  ·subst e; simp only [St.put,az,Option.some.injEq] at h1; subst h1; exact hI.fr.own k ob v1 b1 hob hro h3 h4
  ·simp only [St.put,aa _ _ _ _ e] at h1; exact hI.fr.own k o1 v1 b1 h1 h2 h3 h4
theorem zE {id:Nat} {ob:aU} (h:σ.ob id=some ob):σ.put id ob ob.l=σ:=by
 obtain ⟨f,n,c⟩:=σ
 simp only [St.put,St.mk.injEq,and_true]
 funext j
 by_cases e:j=id
 ·subst e; rw [az]; exact h.symm
 ·rw [aa _ _ _ _ e]
theorem vW (hI:Inv W O S0 m S σ w) {id:Nat} {ob:aU} {b len cap off:Nat} (hob:σ.ob id=some ob) (hro:ob.ro=false) (hm:m ob.g=some (.slice (some ⟨b,0,none⟩) len cap)) {l:List AV} {vs:List Value}
  (hok:mE ob.es l) (hv:bR m S w (aK l) vs) (hoff:off≤ob.l.length) (hfit:off+l.length≤cap) :
  ∃ w',(storeCells ⟨b,off * ob.es,none⟩ vs).run P w=.ok () w'∧Inv W O S0 m S (σ.put id ob (ob.l.take off++l++ob.l.drop (off+l.length))) w'∧Ext m S w m S w':=by
 obtain ⟨vv,hm',⟨hokb,hes0,xs,hown,hxs⟩,hblk⟩:=hI.bu.obj id ob hob
 rw [hm] at hm'; obtain rfl:=Option.some.inj hm'
 obtain ⟨hxl,hown⟩:=hown.own rfl
 rcases hown with ⟨h,_⟩ | ⟨b',len',cap',cur,fr,e1,hgb,hnc,hcm,hcs,htake,hfr,hap⟩
 ·cases h
 ·cases e1
  have hvl:vs.length=l.length * ob.es:=by rw [hv.1,bp hok]
  have bm:∀ u∈vs,u.oneCell'=true:=hv.one (sh hok)
  have hle0:off * ob.es≤ob.l.length * ob.es:=Nat.mul_le_mul_right _ hoff
  have hle:(off+l.length) * ob.es≤cap * ob.es:=Nat.mul_le_mul_right _ hfit
  have hle2:ob.l.length * ob.es≤cap * ob.es:=Nat.mul_le_mul_right _ hnc
  rw [Nat.add_mul] at hle
  have hst:=fj (P:=P) b (off * ob.es) ob.ty fr vs 0 cur w hgb (by omega) hfr bm
  simp only [Nat.add_zero] at hst
  refine ⟨_,hst,?_⟩
  have hl':(ob.l.take off++l++ob.l.drop (off+l.length)).length=max ob.l.length (off+l.length):=by simp; omega
  have hmx:max ob.l.length (off+l.length) * ob.es=max (ob.l.length * ob.es) (off * ob.es+l.length * ob.es):=by
   rw [←Nat.add_mul]
   rcases Nat.le_total ob.l.length (off+l.length) with h | h
   ·rw [Nat.max_eq_right h,Nat.max_eq_right (Nat.mul_le_mul_right _ h)]
   ·rw [Nat.max_eq_left h,Nat.max_eq_left (Nat.mul_le_mul_right _ h)]
  refine hI.TA hob hro hm (fun x hx=>?_) hes0 (xs':=xs.take (off * ob.es)++vs++xs.drop (off * ob.es+vs.length)) ⟨?_,.inr ⟨b,len,cap,_,fr,rfl,setRow_heap w b cur _ ob.ty fr hgb,by rw [hl']; omega,hcm,?_,?_,?_,hap⟩⟩ ?_
  ·rcases List.mem_append.1 hx with hx | hx
   ·rcases List.mem_append.1 hx with hx | hx
    ·exact hokb x (List.mem_of_mem_take hx)
    ·exact hok x hx
   ·exact hokb x (List.mem_of_mem_drop hx)
  ·rw [hl',hmx]; simp only [List.length_append,List.length_take,List.length_drop,hxl,hvl]; omega
  ·simp only [List.size_toArray,List.length_append,List.length_take,List.length_drop,Array.length_toList,hcs,hvl]; omega
  ·rw [hl',hmx,←htake]
   have hcl:cur.toList.length=cap * ob.es:=by simpa using hcs
   rcases Nat.le_total (off * ob.es+l.length * ob.es) (ob.l.length * ob.es) with h | h
   ·rw [Nat.max_eq_left h]
    exact EJ cur.toList vs _ _ _ rfl (by omega) (by omega)
   ·rw [Nat.max_eq_right h,List.drop_of_length_le (l:=cur.toList.take _) (by rw [List.length_take]; omega),List.append_nil,List.take_take,Nat.min_eq_left hle0,
     List.take_append_of_le_length (by simp only [List.length_append,List.length_take]; omega),List.take_of_length_le (by simp only [List.length_append,List.length_take]; omega)]
  ·intro k hk; refine hfr k ?_
   simp only [List.size_toArray,List.length_append,List.length_take,List.length_drop,Array.length_toList,hvl] at hk
   omega
  ·rw [fX,fX,←cR _ hokb,←cq _ hokb,Nat.add_mul,←hvl]
   exact ((hxs.take _).append hv).append (hxs.drop _)
theorem BM {S':Nat→Prop} {w':World} {es b q cap:Nat} {l:List AV} {xs:List Value} (hl:l≠[]) (hok:mE es l) (hx:bR m S w (aK l) xs) (hp:∀ z∈l,z.cL=true) (hcap:l.length≤cap) (hSb:S' b∧nv w' b)
  (nB:∀ {a:AV} {v:Value},VP S w a v→VP S' w' a v) (hcell:∀ j u,xs[j]?=some u→w'.cell? ⟨b,q+j,none⟩=some u):VP S' w' (.list es l) (.slice (some ⟨b,q,none⟩) l.length cap):=by
 have hxl:xs.length=l.length * es:=by rw [hx.1,bp hok]
 refine .list (fun i j=>xs.getD (i * es+j) undef) hl hcap hSb (fun i x hx=>hok x (List.mem_of_getElem? hx)) (fun i j hi hj=>?_) (fun i x j y hx' hy=>?_)
 ·have hlt:i * es+j<xs.length:=by
   have:(i+1) * es≤l.length * es:=Nat.mul_le_mul_right _ (by omega)
   rw [Nat.add_mul] at this; omega
  rw [Nat.add_assoc,List.getD_eq_getElem?_getD,List.getElem?_eq_getElem hlt]
  exact hcell _ _ (List.getElem?_eq_getElem hlt)
 ·have hj:j<es:=by have:=(hok x (List.mem_of_getElem? hx')).2; have:=(List.getElem?_eq_some_iff.1 hy).1; omega
  have hc:=iy hok hx' hj
  rw [hy] at hc
  obtain ⟨u,hu1,hu2⟩:=hx.get hc
  rw [List.getD_eq_getElem?_getD,hu1,Option.getD_some]
  exact nB (hu2.cL (wW (hp x (List.mem_of_getElem? hx')) y (List.mem_of_getElem? hy)))
theorem Jv {es:Nat} {l:List AV} {xs:List Value} {zs:Array Value} {ty:TypeId} {cap:Nat} (hI:Inv W O S0 m S σ w) (hl:l≠[]) (hok:mE es l) (hx:bR m S w (aK l) xs) (hp:∀ z∈l,z.cL=true) (hcap:l.length≤cap) :
  Inv W O S0 m (fun x=>S x∨x=w.heap.size) σ (w.drew.alloc (.cells (xs.toArray++zs) ty))∧Ext m S w m (fun x=>S x∨x=w.heap.size) (w.drew.alloc (.cells (xs.toArray++zs) ty))∧
   VP (fun x=>S x∨x=w.heap.size) (w.drew.alloc (.cells (xs.toArray++zs) ty)) (.list es l) (.slice (some ⟨w.heap.size,0,none⟩) l.length cap):=by
 have h1:=(hI.drew.alloc (.cells (xs.toArray++zs) ty)).yS w.heap.size hI.fr.size (by simp) (fun k ob v hk hm hb=>by
  obtain ⟨v',h8,h9,_⟩:=hI.bu.obj k ob hk
  rw [hm] at h8; obtain rfl:=Option.some.inj h8
  have:=bt h9 hb
  omega)
 have hX:Ext m S w m (fun x=>S x∨x=w.heap.size) (w.drew.alloc (.cells (xs.toArray++zs) ty)):=(Ext.drew m S w).trans ((nH (w:=w.drew) hI.bu.lt _).trans (iZ m S _ _))
 refine ⟨h1,hX,BM hl hok hx hp hcap ⟨.inr rfl,nv.new w.drew _ _ _⟩ (fun h=>h.bG hX.sub hX.bG) fun j u hj=>?_⟩
 have hlt:=(List.getElem?_eq_some_iff.1 hj).1
 have h2:(w.drew.alloc (.cells (xs.toArray++zs) ty)).cell? ⟨w.drew.heap.size,0+j,none⟩=(xs.toArray++zs)[0+j]?:=World.cell?_alloc_new ..
 refine (show _=_ from h2).trans ?_
 rw [Nat.zero_add,Array.getElem?_append_left (by simpa using hlt)]
 simpa using hj
theorem M3 {obs:Nat→Option aU} {N C:Nat→Nat} {ni:Nat} {t el:TypeId} {i:TypeInfo} {z:Value} {x y:Operand} {x' y':AX} (hI:Inv W O S0 m S ⟨obs,N ni,C g0⟩ w) (hg0:m g0=none) (hc':∀ g v,m g=some v→g<C (g0+1)) (hgc:g0<C (g0+1)) (hE:bq m S w e a.tmps) {c:Call} (ho:o.op=.call c) (hcc:c.callee=.builtin .append)
  (hca:c.args.toList=[x,y]) (hct:c.argTypes.toList=[t,t]) (hu:P.underlying t=some (.slice el)) (hi:P.info? el=some i) (hz:i.zero=some z) (hzs:z.cells.size=i.size) (hp:0<i.size)
  (h1:ax x=some x') (h2:ax y=some y') (h:ar (HC P) (.app i.size i.bytes el x' y') e ⟨obs,ni,g0⟩ (fun v τ=>K v ⟨τ.ob,N τ.n,C τ.c⟩)):o.wp P a w (Good W O S0 m S w g0 o a K) Q:=by
 have hx:=aC hE h1
 have hy:=aC hE h2
 obtain ⟨cal,args,tys⟩:=c
 simp only at hcc hca hct
 obtain rfl:args=#[x,y]:=by cases args; simp_all
 obtain rfl:tys=#[t,t]:=by cases tys; simp_all
 subst hcc
 have hb:∀ {v:Value} {w':World},(Builtin.append_ #[t,t] o.type #[a.eval x,a.eval y]).run P w=.ok v w'→(execOp a.eval o).run P w=.ok (.value v) w':=fun {v w'} hv=>by
  simp [execOp,ho,resolve,invoke,builtin,hv]
 simp only [ar,mT] at h
 obtain ⟨hesl,hes,h⟩:=h
 obtain ⟨l,ad,n,cp,news,hK,hok,ey,rfl,hnews,had⟩:=jb hI.bu hy hes hesl (CQ (σ:=⟨obs,N ni,C g0⟩) h rfl)
 have hnl:news.length=l.length * i.size:=by rw [hnews.1,bp hok]
 have hn1:∀ u∈news,u.oneCell'=true:=hnews.one (sh hok)
 split at hK
 ·rename_i e1
  rw [e1] at hx
  have hx:=hx.of_nil
  obtain ⟨hmx,hby,hK0,hK1⟩:=hK
  by_cases hl:l=[]
  ·subst hl
   exact aj (hI:=hI) (hb (by rw [hx]; exact cE hu hi w none 0 0 (Nat.le_refl 0) _ ey (fun _=>trivial))) (hK0 rfl) (.pure .nil)
  ·obtain ⟨b,q,rfl,hcell⟩:=had hl
   obtain ⟨v',w',hr,hown,hgr,hnil⟩:=run_append_own (P:=P) w w.heap.size t o.type el i z i.size i.bytes hu hi hz rfl rfl hzs hp (.slice none 0 0) 0 [] (World.ownsRow_nil _ _ _ _)
    ⟨b,q,none⟩ l.length cp news hnl (fun j u hj=>by rw [Addr.add_lit]; exact hcell j u hj) hn1 (by omega) (by simpa using hby) (Nat.le_refl _)
   rw [←hx,←ey] at hr
   simp only [Nat.zero_add,List.nil_append] at hown
   have hlp:0<l.length:=List.length_pos_iff.2 hl
   have hown':jw w' el i.size true v' l.length news:=.zP hown
   have hX:Ext m S w (bd m g0 (some v')) S w':=⟨ez hg0 _,fun _ h=>h,fun k hk=>hgr.block k (hI.bu.lt k hk) (by simp [Value.ownBlock])⟩
   have hI':=hI.k8 (row:=none) (xs:=news) ni i.size el true l v' (N (ni+1)) g0 (C (g0+1)) hg0 hc' hgc hgr hp hok hown' (hnews.ext hX) (fun b hb=>by cases hb) (fun b hb=>.inr (hown.lt b hb).1)
   refine bg (hb hr) (hK1 hl) hI' hX ?_ (fun g hg=>aa _ _ _ _ hg)
   rcases hown.2 with ⟨_,h0⟩ | ⟨g,cap,cur,rfl,_,_,hnc,_⟩
   ·omega
   ·have:=VR.sl (m:=bd m g0 (some (Value.slice (some ⟨g,0,none⟩) l.length cap))) (S:=S) (w:=w') (id:=ni) (es:=i.size) (off:=0) (n:=l.length) (az m g0 _) (by simpa [bN] using hnc) rfl
    simpa [bZ] using this
 ·rename_i id g es' off n e1
  rw [e1] at hx
  obtain ⟨rfl,rfl,ob,hob,hg,hes',hty,hro,hap,hlen,hmx,hby,hK⟩:=hK
  subst hg; subst hlen; subst hty
  obtain ⟨u,hm,⟨hokb,_,xs,hownb,hxs⟩,e3,hcap,hcase⟩:=zu hI.bu hx hob rfl
  rw [hap,hes'] at hownb
  have hownb':=hownb.Gd (e0:=i.size)
  have hown2:=hownb.bZ (e0:=i.size)
  have hb2:(bZ u i.size 0 ob.l.length).ownBlock=u.ownBlock:=by
   rcases hcase with rfl | ⟨b,len,cap,rfl⟩
   ·rfl
   ·simp [bZ,Value.ownBlock]
  have hcc:bZ (bZ u i.size 0 ob.l.length) i.size 0 ob.l.length=bZ u i.size 0 ob.l.length∧0+ob.l.length≤bN (bZ u i.size 0 ob.l.length):=by
   rcases hcase with rfl | ⟨b,len,cap,rfl⟩
   ·exact ⟨rfl,by simpa [bN,bZ] using hcap⟩
   ·exact ⟨by simp [bZ],by simpa [bN,bZ] using hcap⟩
  have eu:a.eval x=bZ u i.size 0 ob.l.length:=e3
  obtain ⟨v',hm',⟨_,_,_,_,_⟩,hblk⟩:=hI.bu.obj id ob hob
  rw [hm] at hm'; obtain rfl:=Option.some.inj hm'
  have hokn:mE i.size (ob.l++l):=fun x hx=>by
   rcases List.mem_append.1 hx with hx | hx
   ·rw [←hes']; exact hokb x hx
   ·exact hok x hx
  by_cases hl:l=[]
  ·subst hl
   have hr:(Builtin.append_ #[t,t] o.type #[a.eval x,a.eval y]).run P w=.ok (bZ u i.size 0 ob.l.length) w:=by
    rw [eu]
    rcases hcase with rfl | ⟨b,len,cap,rfl⟩
    ·exact cE hu hi w none 0 0 (Nat.le_refl 0) _ ey (fun _=>trivial)
    ·exact cE hu hi w _ _ _ (by simpa [bN] using hcap) _ ey (fun _=>trivial)
   generalize hu2:bZ u i.size 0 ob.l.length=u2 at *
   have hX:Ext m S w (bd m g0 (some u2)) S w:=⟨ez hg0 _,fun _ h=>h,fun _ _=>rfl⟩
   have hI':=hI.k8 (row:=u2.ownBlock) (xs:=xs) id i.size ob.ty true (ob.l++[]) u2 (N ni) g0 (C (g0+1)) hg0 hc' hgc ⟨rfl,rfl,rfl,Nat.le_refl _,fun _ _ _=>rfl⟩ hp hokn (by simpa using hown2) (by simpa using hxs.ext hX)
    (fun b hb=>by rw [hb2] at hb; exact ⟨(hblk b hb).2 hro,hI.fr.own id ob u b hob hro hm hb,fun k o' u' hk ho' hm' hb'=>hI.bu.iB k id o' ob u' u b ho' hob hk hm' hm hb' hb⟩) (fun b hb=>.inl hb)
   refine bg (hb hr) hK ?_ hX ?_ (fun g hg=>aa _ _ _ _ hg)
   ·simp only [St.renew]; rw [hes',hro,hap]; exact hI'
   ·have:=VR.sl (m:=bd m g0 (some u2)) (S:=S) (w:=w) (id:=id) (es:=i.size) (off:=0) (n:=ob.l.length) (az m g0 _) hcc.2 (hu2 ▸ rM _ _ _ _)
    rw [hcc.1] at this
    simpa using this
  ·obtain ⟨b,q,rfl,hcell⟩:=had hl
   obtain ⟨v',w',hr,hown,hgr,hnil⟩:=run_append_own (P:=P) w 0 t o.type ob.ty i z i.size i.bytes hu hi hz rfl rfl hzs hp (bZ u i.size 0 ob.l.length) ob.l.length xs hownb'
    ⟨b,q,none⟩ l.length cp news hnl (fun j u hj=>by rw [Addr.add_lit]; exact hcell j u hj) hn1 hmx hby (Nat.zero_le _)
   rw [hb2] at hgr
   rw [←eu,←ey] at hr
   have hlp:0<l.length:=List.length_pos_iff.2 hl
   have hown':jw w' ob.ty i.size true v' (ob.l++l).length (xs++news):=by rw [List.length_append]; exact .zP hown
   have hX:Ext m S w (bd m g0 (some v')) S w':=⟨ez hg0 _,fun _ h=>h,fun k hk=>hgr.block k (hI.bu.lt k hk) (fun e=>(hblk k e.symm).2 hro hk)⟩
   have hvb:∀ b,v'.ownBlock=some b→u.ownBlock=some b∨w.heap.size≤b:=by
    intro b' hb'
    rw [eu,ey] at hr
    rcases hownb.2 with ⟨rfl,h0⟩ | ⟨g,len,cap,cur,fr,rfl,hg,hnc,hcm,hcs,htake,hfr,hfr0⟩
    ·rw [show bZ (.slice none 0 0) i.size 0 ob.l.length=Value.slice none 0 0 from rfl] at hr
     rw [h0,Nat.zero_add] at hby hmx
     have hr2:=run_append_nil (P:=P) w t o.type ob.ty i z hu hi hz ⟨b,q,none⟩ l.length cp news hnl (fun j u hj=>by rw [Addr.add_lit]; exact hcell j u hj) hlp (by simp only [maxLen] at hmx; omega) (by omega)
     rw [hr2] at hr
     cases hr
     simp [Value.ownBlock] at hb'; omega
    ·obtain rfl:=hfr0 rfl
     rw [show bZ (.slice (some ⟨g,0,none⟩) len cap) i.size 0 ob.l.length=Value.slice (some ⟨g,0,none⟩) ob.l.length cap by simp [bZ]] at hr hownb'
     by_cases hroom:ob.l.length+l.length≤cap
     ·have hfit:ob.l.length * i.size+news.length≤cur.size:=by rw [hnl,hcs,←Nat.add_mul]; exact Nat.mul_le_mul_right _ hroom
      have hr2:=run_append_room (P:=P) w t o.type ob.ty i hu hi g ob.l.length cap cur hg ⟨b,q,none⟩ l.length cp news hnl (fun j u hj=>by rw [Addr.add_lit]; exact hcell j u hj) hn1 hroom hfit
      rw [hr2] at hr
      cases hr
      exact .inl hb'
     ·have hr2:=run_append_grow (P:=P) w t o.type ob.ty i z hu hi hz ⟨g,0,none⟩ ob.l.length cap xs hownb.1 (hownb'.cells (g:=g) rfl) ⟨b,q,none⟩ l.length cp news hnl (fun j u hj=>by rw [Addr.add_lit]; exact hcell j u hj)
       (by omega) (by simp only [maxLen] at hmx; omega) (growslice_fits (by omega) hby)
      rw [hr2] at hr
      cases hr
      simp [Value.ownBlock] at hb'; omega
   have hI':=hI.k8 (row:=u.ownBlock) (xs:=xs++news) id i.size ob.ty true (ob.l++l) v' (N ni) g0 (C (g0+1)) hg0 hc' hgc hgr hp hokn hown' (by rw [fX]; exact (hxs.append hnews).ext hX)
    (fun b hb=>⟨(hblk b hb).2 hro,hI.fr.own id ob u b hob hro hm hb,fun k o' u' hk ho' hm' hb'=>hI.bu.iB k id o' ob u' u b ho' hob hk hm' hm hb' hb⟩) hvb
   refine bg (hb hr) hK ?_ hX ?_ (fun g hg=>aa _ _ _ _ hg)
   ·simp only [St.renew]; rw [hes',hro,hap]; exact hI'
   ·rcases hown.2 with ⟨_,h0⟩ | ⟨g,cap,cur,rfl,_,_,hnc,_⟩
    ·omega
    ·have:=VR.sl (m:=bd m g0 (some (Value.slice (some ⟨g,0,none⟩) (ob.l.length+l.length) cap))) (S:=S) (w:=w') (id:=id) (es:=i.size) (off:=0) (n:=ob.l.length+l.length) (az m g0 _) (by simpa [bN] using hnc) rfl
     simpa [bZ] using this
 ·rename_i id g es' off n c e1
  rw [e1] at hx
  obtain ⟨rfl,hK0,hK1⟩:=hK
  obtain ⟨b,len,hm,e3,hc0⟩:=hx.fq
  by_cases hl:l=[]
  ·subst hl
   refine aj (hI:=hI) (hb ?_) (hK0 rfl) (.fH hm hc0)
   rw [e3]
   exact cE hu hi w _ _ _ (by omega) _ ey (fun _=>trivial)
  obtain ⟨ob,hob,hg,hes',hro,hlen,hcap,hK⟩:=hK1 hl
  subst hg
  obtain ⟨b2,q,rfl,hcell⟩:=had hl
  obtain ⟨w',hst,hI',hX⟩:=vW (P:=P) hI (off:=off+n) hob hro hm (by rw [hes']; exact hok) hnews (by omega) (by omega)
  have hfc:=run_firstCells_some (P:=P) w i.size l.length ⟨b2,q,none⟩ l.length cp news (by omega) (fun j v hj=>by rw [Addr.add_lit]; exact hcell j v hj)
  rw [hes',Nat.add_mul] at hst
  have hroom:n+l.length≤c-off:=by omega
  refine bg (v:=.slice (some ⟨b,off * i.size,none⟩) (n+l.length) (c-off)) (hb ?_) hK hI' hX (.fH hm hcap) (fun _ _=>rfl)
  rw [e3,ey]
  simp [Builtin.append_,run_underlying hu,aP hi,Builtin.lenOf,hroom,hfc,Addr.add_lit,hst]
 ·rename_i es' l0 e1
  rw [e1] at hx
  obtain ⟨rfl,hpz,hmx,hby,hK⟩:=hK
  obtain ⟨ad0,e3,hvp⟩:=hx.Rq
  rw [e3] at hvp
  by_cases hl:l=[]
  ·subst hl
   refine aj (hI:=hI) (hb ?_) hK (.pure (by rw [List.append_nil]; exact hvp))
   rw [e3]
   exact cE hu hi w _ _ _ (Nat.le_refl _) _ ey (fun _=>trivial)
  obtain ⟨b2,q,rfl,hcell⟩:=had hl
  have hlp:0<l.length:=List.length_pos_iff.2 hl
  obtain ⟨l0',ad1,n1,cp1,olds,hl0,hok0,ey0,hn1',holds,had0⟩:=jb (x:=.list i.size l0) (es:=i.size) (Kl:=fun z=>z=l0) hI.bu (.pure hvp)
   (fun id' g' es' off' n' h=>by rcases h with h | ⟨c,h⟩ <;> cases h) (fun es' z h=>by cases h; rfl) rfl
  subst hl0
  have hlen0:olds.length=l0'.length * i.size:=by rw [holds.1,bp hok0]
  have hok2:mE i.size (l0'++l):=fun x hx=>by
   rcases List.mem_append.1 hx with hx | hx
   ·exact hok0 x hx
   ·exact hok x hx
  have hne:l0'++l≠[]:=fun hh=>hl (List.append_eq_nil_iff.1 hh).2
  have hvs:bR m S w (aK (l0'++l)) (olds++news):=by rw [fX]; exact holds.append hnews
  have fin:∀ {cap:Nat} {zs:Array Value},(Builtin.append_ #[t,t] o.type #[a.eval x,a.eval y]).run P w=.ok (.slice (some ⟨w.heap.size,0,none⟩) (l0'++l).length cap) (w.drew.alloc (.cells ((olds++news).toArray++zs) el))→(l0'++l).length≤cap→o.wp P a w (Good W O S0 m S w g0 o a K) Q:=fun {cap zs} hr hcap=>by
   obtain ⟨q1,q2,q3⟩:=Jv (zs:=zs) (ty:=el) hI hne hok2 hvs hpz hcap
   exact bg (hb hr) hK q1 q2 (.pure q3) (fun _ _=>rfl)
  have hml:((l0'.length+l.length:Nat):Int)≤9223372036854775807:=by simp only [maxLen] at hmx; omega
  injection ey0 with i1 i2 i3
  subst i1
  by_cases hl0:l0'=[]
  ·subst hl0
   obtain rfl:olds=[]:=List.eq_nil_of_length_eq_zero (by simpa using hlen0)
   simp only [List.length_nil,Nat.zero_add,List.nil_append] at e3 hmx hby hml hK fin
   cases ad0 with
   | none=>
    have hr:=run_append_nil (P:=P) w t o.type el i z hu hi hz ⟨b2,q,none⟩ l.length cp news hnl (fun j u hj=>by rw [Addr.add_lit]; exact hcell j u hj) hlp hml (by omega)
    rw [←ey,←e3] at hr
    exact fin hr (grownCap_ge _ _ _ _)
   | some ad=>
    have hr:=run_append_grow (P:=P) w t o.type el i z hu hi hz ad 0 0 [] (by simp) (fun j v hj=>by simp at hj) ⟨b2,q,none⟩ l.length cp news hnl (fun j u hj=>by rw [Addr.add_lit]; exact hcell j u hj)
     (by omega) (by rw [Nat.zero_add]; exact hml) (growslice_fits (by omega) (by rw [Nat.zero_add]; exact hby))
    simp only [Nat.zero_add] at hr
    rw [←ey,←e3] at hr
    exact fin (by simpa using hr) (grownCap_ge _ _ _ _)
  ·obtain ⟨b0,q0,rfl,hcell0⟩:=had0 hl0
   have hr:=run_append_grow (P:=P) w t o.type el i z hu hi hz ⟨b0,q0,none⟩ l0'.length l0'.length olds hlen0 (fun j v hj=>by rw [Addr.add_lit]; exact hcell0 j v hj) ⟨b2,q,none⟩ l.length cp news hnl (fun j u hj=>by rw [Addr.add_lit]; exact hcell j u hj)
    (by omega) hml (growslice_fits (by omega) hby)
   rw [←ey,←e3,show olds.toArray++news.toArray=(olds++news).toArray by simp,←List.length_append] at hr
   exact fin hr (grownCap_ge _ _ _ _)
 ·exact hK.elim
end
end Go.Ab
