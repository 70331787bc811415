/- OWN WORK, put together by tools/asm.py, seat.py, mini.py. -/
import Derived.Test.YtcpckngdfjmbgaaGreatBaseP
namespace Go.Ab
open Go.RowKit
def lM (args:List AV):Nat→AV:=fun i=>args.getD i .bC
inductive RS where
 | t (s:Nat)
 | c (s:Nat) (ag:Bool) (sz:Nat)
def Hg (ag:Bool) (sz:Nat) (σ:St) (K:AV→Prop) (x:AV):Prop:=match x with
 | .ptr id g es i off=>∃ o,σ.ob id=some o∧o.g=g∧o.es=es∧off+sz≤es∧∃ y,o.l[i]?=some y∧K (sub ag sz off y)
 | _=>False
def vT (e:Nat→AV) (σ:St) (x:RS) (K:AV→Prop):Prop:=match x with
 | .t s=>K (e s)
 | .c s ag sz=>Hg ag sz σ K (e s)
def H0 (e:Nat→AV) (σ:St):List RS→(List AV→Prop)→Prop
 | [],K=>K []
 | x :: r,K=>vT e σ x fun a=>H0 e σ r fun l=>K (a :: l)
def CC:List AV→AV
 | [a]=>a
 | l=>.tuple l
def sS (e:Nat→AV) (σ:St) (rs:List RS) (K:AV→Prop):Prop:=H0 e σ rs fun l=>K (CC l)
def bW (P:Program):List ResultVar→Option (List RS)
 | []=>some []
 | .tmp t :: r=>(bW P r).map (.t t :: ·)
 | .cell a t :: r=>match P.underlying t,P.info? t with
  | some d,some i=>(bW P r).map (.c a (bK d) (if bK d then i.size else 1) :: ·)
  | _,_=>none
section
variable {P : Program} {m : Mp} {S : Nat → Prop} {σ : St} {w : World}
def HZ (tmps:Array Value) (x:ResultVar):Sem Value:=match x with
 | .tmp t=>pure (tmps.getD t undef)
 | .cell a t=>do loadVar t (←asAddr (tmps.getD a undef))
theorem Gj (fn:Func) (tmps:Array Value):results fn tmps=(fn.results.mapM (HZ tmps) >>= fun vs=>pure (if h:vs.size=1 then vs[0] else .tuple vs)):=by
 unfold results
 rfl
theorem Gl {e:Nat→AV} {tmps:Array Value} (hS:Be m S σ w) (hE:bq m S w e tmps) {x:ResultVar} {r:RS} (hx:bW P [x]=some [r]) {K:AV→Prop} (h:vT e σ r K) :
  ∃ a v,(HZ tmps x).run P w=.ok v w∧K a∧VR m S w a v:=by
 cases x with
 | tmp t=>
  simp only [bW,Option.map_some,Option.some.injEq,List.cons.injEq,and_true] at hx
  subst hx
  exact ⟨_,_,by simp only [HZ,Sem.run_pure],h,hE t⟩
 | cell c t=>
  simp only [bW] at hx
  split at hx
  ·rename_i d i hd hi
   simp only [Option.map_some,Option.some.injEq,List.cons.injEq,and_true] at hx
   subst hx
   simp only [vT] at h
   generalize he:e c=G_ at h
   unfold Hg at h
   split at h
   ·rename_i id g es ix off
    obtain ⟨o,ho,hg,hes,hsz,y,hy,hK⟩:=h
    have hv:=hE c
    rw [he] at hv
    obtain ⟨b,e1,hl,us,hus,hvs,hcs⟩:=Di hS hv ho hg hes hy
    cases hag:bK d with
    | true=>
     simp only [hag,if_true] at hsz hK
     have h1:=(qQ (ag:=true) hl hus hvs hsz).1 rfl
     have hlen:((us.drop off).take i.size).length=i.size:=by simp; omega
     have hr:=mZ (w:=w) hd hi b (ix * es+off) ((us.drop off).take i.size) hlen hag (fun j u hj=>by
      rw [List.getElem?_take] at hj
      split at hj
      ·rw [List.getElem?_drop] at hj
       rw [Nat.add_assoc]; exact hcs _ u hj
      ·cases hj)
     simp only [Instr.loadAt,Instr.sureAddr,Sem.run_bind,Sem.run_pure,Result.andThen_ok] at hr
     exact ⟨_,_,by simp only [HZ,e1,asAddr,Sem.run_bind,Sem.run_pure,Result.andThen_ok,hr],hK,h1⟩
    | false=>
     simp only [hag,Bool.false_eq_true,if_false] at hsz hK
     obtain ⟨u,hu,h1⟩:=(qQ (ag:=false) (sz:=1) hl hus hvs hsz).2 rfl rfl
     have hr:=pP (w:=w) hd b (ix * es+off) u hag (hcs off u hu)
     simp only [Instr.loadAt,Instr.sureAddr,Sem.run_bind,Sem.run_pure,Result.andThen_ok] at hr
     exact ⟨_,_,by simp only [HZ,e1,asAddr,Sem.run_bind,Sem.run_pure,Result.andThen_ok,hr],hK,h1⟩
   ·exact h.elim
  ·cases hx
theorem Bi {x:ResultVar} {l:List ResultVar} {rs:List RS} (h:bW P (x :: l)=some rs):∃ r rs',rs=r :: rs'∧bW P [x]=some [r]∧bW P l=some rs':=by
 cases x with
 | tmp t=>
  simp only [bW] at h
  obtain ⟨rs',h1,rfl⟩:=Option.map_eq_some_iff.1 h
  exact ⟨_,_,rfl,rfl,h1⟩
 | cell c t=>
  simp only [bW] at h
  split at h
  ·rename_i d i hd hi
   obtain ⟨rs',h1,rfl⟩:=Option.map_eq_some_iff.1 h
   exact ⟨_,_,rfl,by simp [bW,hd,hi],h1⟩
  ·cases h
theorem zD {e:Nat→AV} {tmps:Array Value} (hS:Be m S σ w) (hE:bq m S w e tmps):∀ (l:List ResultVar) (rs:List RS) (K:List AV→Prop),bW P l=some rs→H0 e σ rs K→
  ∃ as vs,(l.mapM (HZ tmps)).run P w=.ok vs w∧K as∧bR m S w as vs
 | [],rs,K,hl,h=>by
  simp only [bW,Option.some.injEq] at hl; subst hl
  exact ⟨[],[],by simp,h,bR.nil⟩
 | x :: l,rs,K,hl,h=>by
  obtain ⟨r,rs',rfl,h1,h2⟩:=Bi hl
  obtain ⟨a,v,h3,h4,h5⟩:=Gl hS hE h1 h
  obtain ⟨as,vs,h6,h7,h8⟩:=zD hS hE l rs' _ h2 h4
  exact ⟨a :: as,v :: vs,by simp only [List.mapM_cons,Sem.run_bind,h3,Result.andThen_ok,h6,Sem.run_pure],h7,bR.cons h5 h8⟩
theorem Gk {fn:Func} {rs:List RS} {e:Nat→AV} {tmps:Array Value} (hS:Be m S σ w) (hE:bq m S w e tmps) (hl:bW P fn.results.toList=some rs) {K:AV→Prop} (h:sS e σ rs K) :
  ∃ a v,(results fn tmps).run P w=.ok v w∧K a∧VR m S w a v:=by
 obtain ⟨as,vs,h1,h2,h3⟩:=zD hS hE _ _ _ hl h
 refine ⟨CC as,if h:vs.toArray.size=1 then vs.toArray[0] else .tuple vs.toArray,?_,h2,?_⟩
 ·rw [Gj,Array.mapM_eq_mapM_toList]
  simp only [Sem.run_bind,Sem.run_map,h1,Result.andThen_ok,Sem.run_pure]
 ·have hlen:=h3.1
  match as,vs with
  | [],[]=>exact VR.nr (by simpa using h3)
  | [a],[v]=>exact h3.2 0 a v rfl rfl
  | a :: a' :: as,v :: v' :: vs=>exact VR.nr (by simpa using h3)
  | [],v :: vs=>simp at hlen
  | [a],[]=>simp at hlen
  | [a],v :: v' :: vs=>simp at hlen
  | a :: a' :: as,[]=>simp at hlen
  | a :: a' :: as,[v]=>simp at hlen
def Mn (rs:List RS) (R:AV→St→Prop):lQ:=fun x e σ=>match x with
 | .exit _=>False
 | _=>sS e σ rs fun r=>R r σ
theorem oB {fn:Func} {rs:List RS} {n:Nat} {O:Nat→Prop} {e:Nat→AV} {tmps:Array Value} {R:AV→St→Prop} {m':Mp} {σ':St} (hS:∀ b,S b→b<w.heap.size) (hr:bW P fn.results.toList=some rs) (hR:sS e σ' rs fun r=>R r σ') :
  ∀ (ds:List Deferred) (S':Nat→Prop) (w':World),Marks w.heap.size S' w' ds→Inv w O S m' S' σ' w'→bq m' S' w' e tmps→Ext m S w m' S' w'→
   LeavesInM Fence.wide n P fn tmps (fun x w'=>∃ r σ' m' S' v,x=.returned v∧R r σ'∧Inv w O S m' S' σ' w'∧Ext m S w m' S' w'∧VR m' S' w' r v) ds .returning w'
 | [],S',w',hM,hI,hE,hX=>by
  obtain ⟨r,v,hres,hR,hv'⟩:=Gk hI.bu hE hr hR
  exact ⟨_,hres,_,_,m',S',_,rfl,hR,hI,hX,hv'⟩
 | d :: ds,S',w',hM,hI,hE,hX=>by
  obtain ⟨D,rfl,h0,h1,h2⟩:=hM.2 d (by simp)
  refine ⟨by simp,.inl ⟨D,_,rfl,run_takeDeferred h2,?_⟩⟩
  have hnc:¬nv w' D:=Hs h2 rfl
  have hoth:∀ b,b≠D→(w'.putObj D (.deferred none)).heap[b]?=w'.heap[b]?:=fun b hb=>World.putObj_heap_other hb
  have hmp:∀ k o v b,σ'.ob k=some o→m' o.g=some v→v.ownBlock=some b→¬nv w' b→(w'.putObj D (.deferred none)).heap[b]?=w'.heap[b]?∧(S' b→S' b∧b≠D)∧(S' b∧b≠D→S' b):=fun k o v b ho hm hb hn=>by
   have hne:b≠D:=fun e=>by
    obtain ⟨v',hm',hob,_⟩:=hI.bu.obj k o ho
    rw [hm] at hm'; obtain rfl:=Option.some.inj hm'
    rcases hob.nv hb with h | ⟨_,_,_,h⟩
    ·exact hn h
    ·rw [e,h2] at h; cases h
   exact ⟨hoth b hne,fun h=>⟨h,hne⟩,fun h=>h.1⟩
  refine oB hS hr hR ds (fun b=>S' b∧b≠D) _ ⟨(List.pairwise_cons.1 hM.1).2,fun d hd=>?_⟩ (hI.Lf rfl rfl rfl (by simp) (fun b hb=>hoth b fun e=>hnc (e ▸ hb)) (fun b hb=>hoth b (by omega)) (fun b h hc=>⟨h,fun e=>hnc (e ▸ hc)⟩) (fun b h=>.inl h.1) hmp)
   (fun i=>(hE i).Ht (Mp.le_refl _) fun b h hc=>⟨⟨h,fun e=>hnc (e ▸ hc)⟩,hoth b fun e=>hnc (e ▸ hc)⟩) ⟨hX.le,fun b h=>⟨hX.sub b h,?_⟩,fun b h=>?_⟩
  ·obtain ⟨D',h3,h4,h5,h6⟩:=hM.2 d (List.mem_cons_of_mem _ hd)
   have hne:D'≠D:=fun e=>by
    have:=(List.pairwise_cons.1 hM.1).1 d hd
    rw [h3,e] at this
    exact this rfl
   exact ⟨D',h3,h4,⟨h5,hne⟩,(hoth D' hne).trans h6⟩
  ·have:=hS b h; omega
  ·have:=hS b h
   exact (hoth b (by omega)).trans (hX.bG b h)
theorem IB {f:Nat} {fn:Func} {c:Code} {ac:ay} {mt:List Nat} {ts:List RS} {args:List AV} {R:AV→St→Prop} (hf:P.funcs[f]?=some fn) (hb:fn.body=some c) (hok:okF P f=true)
  (hc:comp P mt fn.ntmps c=some ac) (hr:bW P fn.results.toList=some ts) (hn:args.length≤fn.ntmps)
  (h:n6 (HC P) ac (Mn ts R) (lM args) σ):HC P f args σ R:=by
 refine ⟨sX hok,fun m S w vs hS hv=>.inl ⟨hok,?_⟩⟩
 refine (callsIn_wide (n:=1)).1 (callsIn_of_wp_marks hf hb trivial ?_)
 have hE:bq m S w (lM args) (vs.toArray++Array.replicate (fn.ntmps-vs.toArray.size) undef):=by
  intro i
  have hl:vs.length=args.length:=hv.1
  by_cases hi:i<args.length
  ·have h1:(vs.toArray++Array.replicate (fn.ntmps-vs.toArray.size) undef).getD i undef=vs[i]'(by omega):=by
    simp [Array.getD_eq_getD_getElem?,Array.getElem?_append,hl,hi]
   rw [h1]
   have h2:lM args i=args[i]:=by simp [lM,List.getD_eq_getElem?_getD,hi]
   rw [h2]
   exact hv.2 i _ _ (List.getElem?_eq_getElem hi) (List.getElem?_eq_getElem (by omega))
  ·have h2:lM args i=.bC:=by simp [lM,List.getD_eq_getElem?_getD,List.getElem?_eq_none (Nat.le_of_not_lt hi)]
   rw [h2]; exact .bC _
 have hInv:Inv w (xW m σ) S m S σ w:=
  ⟨hS,⟨rfl,rfl,rfl,Nat.le_refl _,fun _ _ _=>rfl,fun k o v b ho hro hm hb=>.inl ⟨k,o,v,ho,hro,hm,hb⟩,fun b hb=>.inl hb⟩⟩
 have hsz:(vs.toArray++Array.replicate (fn.ntmps-vs.toArray.size) undef).size=fn.ntmps:=by
  have:=hv.1; simp; omega
 refine Iv (n:=fn.ntmps) c ac hc (ro:=none) (.inl rfl) (.inl (Nat.le_refl _)) ⟨hInv,hE,hsz,Marks.nil _ _ _⟩ h ?_
 intro x m' S' σ' w' e' a' ⟨h1,h2,h3,h4⟩ hX hR
 cases x with
 | exit id=>exact hR.elim
 | lJ=>
  change sS e' σ' ts (fun r=>R r σ') at hR
  exact oB hS.lt hr hR _ _ _ h4 h1 h2 hX
 | ret=>
  change sS e' σ' ts (fun r=>R r σ') at hR
  exact oB hS.lt hr hR _ _ _ h4 h1 h2 hX
def aq (P:Program) (f:Nat) (mt:List Nat):Option (ay × List RS × Nat):=match P.funcs[f]? with
 | none=>none
 | some fn=>match fn.body with
  | none=>none
  | some c=>match comp P mt fn.ntmps c,bW P fn.results.toList with
   | some ac,some ts=>if okF P f then some (ac,ts,fn.ntmps) else none
   | _,_=>none
theorem aL {f:Nat} {mt:List Nat} {ac:ay} {ts:List RS} {n:Nat} {args:List AV} {R:AV→St→Prop} (hb:aq P f mt=some (ac,ts,n)) (hn:args.length≤n)
  (h:n6 (HC P) ac (Mn ts R) (lM args) σ):HC P f args σ R:=by
 unfold aq at hb
 split at hb
 ·cases hb
 ·rename_i fn hf
  split at hb
  ·cases hb
  ·rename_i c hc
   split at hb
   ·rename_i ac' ts' h1 h2
    split at hb
    ·rename_i hok
     cases hb
     exact IB hf hc hok h1 h2 hn h
    ·cases hb
   ·cases hb
theorem HC.aD {f:Nat} {args:List AV} {R:AV→St→Prop} (k:Nat) (h:HC P f args σ fun r σ'=>R r (σ'.aD k)):HC P f args σ R:=
 ⟨h.1,fun m S w vs hS hv=>(h.2 m S w vs hS hv).mono fun _ _ ⟨r,σ',m',S',v,h1,h2,h3,h4⟩=>⟨r,σ'.aD k,m',S',v,h1,h2,h3.aD k,h4⟩⟩
def Ml (S:Nat→Prop) (w:World) (as:List AV) (vs:List Value):Prop:=vs.length=as.length∧∀ (j:Nat) (y:AV) (u:Value),as[j]?=some y→vs[j]?=some u→VP S w y u
theorem Ml.U5 {as:List AV} {vs:List Value} (h:Ml S w as vs):bR m S w as vs:=⟨h.1,fun j y u a b=>.pure (h.2 j y u a b)⟩
def PC (P:Program) (f:Nat) (args:List AV) (r:AV):Prop:=
 okF P f=true∧∀ (S:Nat→Prop) (w:World) (vs:List Value),(∀ b,S b→b<w.heap.size)→Ml S w args vs→
  Calls P f vs.toArray w fun x w'=>∃ v S',x=.returned v∧Below w.heap.size w w'∧(∀ b,S' b→S b∨w.heap.size≤b)∧(∀ b,S' b→b<w'.heap.size)∧VP S' w' r v
inductive aw (σ:St):AV→AV→Prop
 | pure {a:AV} (h:a.cL=true):aw σ a a
 | nl (es:Nat):aw σ .nil (.list es [])
 | sl {id g es off n:Nat} {o:aU} {l:List AV} (h1:σ.ob id=some o) (h2:o.g=g) (h3:o.es=es) (h4:off+n≤o.l.length) (h5:((o.l.drop off).take n).length=l.length)
   (h6:∀ (i:Nat) (x y:AV),((o.l.drop off).take n)[i]?=some x→l[i]?=some y→aw σ x y) (h7:∀ x∈l,mF es x):aw σ (.sl id g es off n) (.list es l)
 | zq {id g es i off ee n:Nat} {o:aU} {y:AV} {l:List AV} (h1:σ.ob id=some o) (h2:o.g=g) (h3:o.es=es) (hy:o.l[i]?=some y) (h4:off+n * ee≤es) (h5:l.length=n)
   (h6:aK l=(y.cells.drop off).take (n * ee)) (h7:∀ x∈l,mF ee x) (h8:∀ x∈l,x.cL=true):aw σ (.zq id g es i off ee n) (.list ee l)
 | ptr {id g es i off:Nat} {o:aU} {l:List AV} (h1:σ.ob id=some o) (h2:o.g=g) (h3:o.es=es) (h5:o.l.length=l.length) (hl:l≠[])
   (h6:∀ (i:Nat) (x y:AV),o.l[i]?=some x→l[i]?=some y→aw σ x y) (h7:∀ x∈l,mF es x):aw σ (.ptr id g es i off) (.eQ es l i off)
 | agg {cs ds:List AV} (h5:cs.length=ds.length) (h6:∀ (i:Nat) (x y:AV),cs[i]?=some x→ds[i]?=some y→aw σ x y):aw σ (.agg cs) (.agg ds)
 | tuple {cs ds:List AV} (h5:cs.length=ds.length) (h6:∀ (i:Nat) (x y:AV),cs[i]?=some x→ds[i]?=some y→aw σ x y):aw σ (.tuple cs) (.tuple ds)
 | func {f:Nat} {cs ds:List AV} (h5:cs.length=ds.length) (h6:∀ (i:Nat) (x y:AV),cs[i]?=some x→ds[i]?=some y→aw σ x y):aw σ (.func f cs) (.func f ds)
def GZ (m:Mp) (σ:St) (b:Nat):Prop:=∃ k o v,σ.ob k=some o∧m o.g=some v∧v.ownBlock=some b
theorem wq (h:Be m S σ w) {k:Nat} {o:aU} (ho:σ.ob k=some o) (hs:∀ v,m o.g=some v→fI v=true):∃ v,m o.g=some v∧mE o.es o.l∧(v=.slice none 0 0∧o.l=[]∨∃ b len cap,v=.slice (some ⟨b,0,none⟩) len cap∧o.l.length≤cap∧nv w b∧
  ∃ us:List Value,bR m S w (aK o.l) us∧∀ j u,us[j]?=some u→w.cell? ⟨b,j,none⟩=some u):=by
 obtain ⟨v,h1,⟨hok,hes,xs,hown,hxs⟩,_⟩:=h.obj k o ho
 refine ⟨v,h1,hok,?_⟩
 rcases (hown.own (hs v h1)).2 with ⟨rfl,hn⟩ | ⟨g,len,cap,cur,fr,rfl,hg,hnc,hcm,hcs,htake,_⟩
 ·exact .inl ⟨rfl,List.eq_nil_of_length_eq_zero hn⟩
 ·refine .inr ⟨g,len,cap,rfl,hnc,⟨_,_,_,hg⟩,xs,hxs,fun j u hu=>?_⟩
  rw [←htake,List.getElem?_take] at hu
  split at hu
  ·simp only [World.cell?,hg]; simpa using hu
  ·cases hu
theorem VR.mU (h:Be m S σ w) {S':Nat→Prop} (hS:∀ b,S b→S' b) (hS':∀ b,GZ m σ b→S' b) {a a':AV} (hp:aw σ a a'):∀ {v:Value},VR m S w a v→VP S' w a' v:=by
 have pcell:∀ {x y:AV} {us:List Value},aw σ x y→bR m S w x.cells us→x.flat=true→y.flat=true→x.cells.length=y.cells.length→
   (∀ {v:Value},VR m S w x v→VP S' w y v)→∀ (j:Nat) (c:AV) (u:Value),y.cells[j]?=some c→us[j]?=some u→VP S' w c u:=by
  intro x y us hxy hv hx hy hl ih j c u hc hu
  by_cases bm:x.one=true
  ·have e1:x.cells=[x]:=by cases x <;> simp_all [AV.one,AV.cells]
   rw [e1] at hv hl
   have e2:y.cells=[c]∧j=0:=by
    have hl':y.cells.length=1:=by simpa using hl.symm
    obtain ⟨c',hc'⟩:=List.length_eq_one_iff.1 hl'
    rw [hc'] at hc
    cases j with
    | zero=>simp at hc; subst hc; exact ⟨hc',rfl⟩
    | succ j=>simp at hc
   obtain ⟨e2,rfl⟩:=e2
   have h3:=hv.2 0 x u rfl hu
   have h4:=ih h3
   cases y with
   | agg ds=>
    simp only [AV.cells] at e2
    subst e2
    cases hxy with
    | pure h=>simp [AV.one] at bm
    | agg h5 h6=>simp [AV.one] at bm
   | tuple ds=>simp [AV.flat,AV.one] at hy
   | _=>simp only [AV.cells,List.cons.injEq,and_true] at e2; subst e2; exact h4
  ·cases x with
   | agg cs=>
    simp only [AV.cells] at hv hl
    have hvv:VR m S w (.agg cs) (.agg us.toArray):=VR.Af (by simpa using hv)
    have h4:=ih hvv
    cases hxy with
    | pure h=>
     cases h4 with
     | agg _ h5=>exact h5 j c u (by simpa [AV.cells] using hc) (by simpa using hu)
    | agg h5 h6=>
     cases h4 with
     | agg _ h7=>exact h7 j c u (by simpa [AV.cells] using hc) (by simpa using hu)
   | _=>simp_all [AV.flat,AV.one]
 induction hp with
 | pure h=>intro v hv; exact (hv.cL h).bG hS (fun _ _=>rfl)
 | nl es=>intro v hv; rw [hv.of_nil]; exact .bP _ _ _
 | agg h5 h6 ih=>
  intro v hv
  obtain ⟨vs,rfl,hvs⟩:=hv.ov
  refine .agg (by have:=hvs.1; simp at this; omega) fun j y u hy hu=>?_
  have hj:=(List.getElem?_eq_some_iff.1 hy).1
  exact ih j _ y (List.getElem?_eq_getElem (by omega)) hy (hvs.2 j _ u (List.getElem?_eq_getElem (by omega)) (by simpa using hu))
 | tuple h5 h6 ih=>
  intro v hv
  obtain ⟨vs,rfl,hvs⟩:=hv.p8
  refine .tuple (by have:=hvs.1; simp at this; omega) fun j y u hy hu=>?_
  have hj:=(List.getElem?_eq_some_iff.1 hy).1
  exact ih j _ y (List.getElem?_eq_getElem (by omega)) hy (hvs.2 j _ u (List.getElem?_eq_getElem (by omega)) (by simpa using hu))
 | func h5 h6 ih=>
  intro v hv
  obtain ⟨vs,rfl,hvs⟩:=hv.yT
  refine .func (by have:=hvs.1; simp at this; omega) fun j y u hy hu=>?_
  have hj:=(List.getElem?_eq_some_iff.1 hy).1
  exact ih j _ y (List.getElem?_eq_getElem (by omega)) hy (hvs.2 j _ u (List.getElem?_eq_getElem (by omega)) (by simpa using hu))
 | sl h1 h2 h3 h4 h5 h6 h7 ih=>
  rename_i id g es off n o l
  intro v hv
  obtain ⟨u,hm,e1,hcap,hsp⟩:=hv.Jg
  subst h2; subst h3
  obtain ⟨u',hm',hok,hcase⟩:=wq h h1 (fun v hv=>by rw [hm] at hv; obtain rfl:=Option.some.inj hv; exact hsp)
  rw [hm] at hm'; obtain rfl:=Option.some.inj hm'
  have hnl:l.length=n:=by rw [←h5]; simp; omega
  rcases hcase with ⟨rfl,hl⟩ | ⟨b,len,cap,rfl,hlc,hisc,us,hus,hcell⟩
  ·simp only [bN] at hcap
   have:l=[]:=List.eq_nil_of_length_eq_zero (by omega)
   subst this
   rw [e1]
   exact .bP _ _ _
  ·simp only [bZ] at e1
   rw [e1]
   by_cases hl0:l=[]
   ·subst hl0
    simp at hnl; subst hnl
    exact .bP _ _ _
   ·have hfl:=bp hok
    have key:VP S' w (.list o.es l) (.slice (some ⟨b,off * o.es,none⟩) l.length (cap-off)):=by
     refine .list (fun i j=>us.getD ((off+i) * o.es+j) undef) hl0 (by simp only [bN] at hcap; omega) ⟨hS' b ⟨id,o,_,h1,hm,rfl⟩,hisc⟩ (fun i x hx=>h7 x (List.mem_of_getElem? hx)) (fun i j hi hj=>?_) (fun i y j c hy hc=>?_)
     ·have hlt:(off+i) * o.es+j<us.length:=by
       rw [hus.1,hfl]
       have:(off+i+1) * o.es≤o.l.length * o.es:=Nat.mul_le_mul_right _ (by omega)
       rw [Nat.add_mul (off+i) 1] at this; omega
      rw [←Nat.add_mul]
      rw [hcell _ us[(off+i) * o.es+j] (List.getElem?_eq_getElem hlt)]
      simp [List.getD_eq_getElem?_getD,hlt]
     ·have hi:=(List.getElem?_eq_some_iff.1 hy).1
      have hx:((o.l.drop off).take n)[i]?=some (((o.l.drop off).take n)[i]'(by omega)):=List.getElem?_eq_getElem (by omega)
      have hx':o.l[off+i]?=some (((o.l.drop off).take n)[i]'(by omega)):=by
       rw [←hx,List.getElem?_take,if_pos (by omega),List.getElem?_drop]
      have hxo:=hok _ (List.mem_of_getElem? hx')
      have hyo:=h7 y (List.mem_of_getElem? hy)
      have hjl:j<o.es:=by rw [←hyo.2]; exact (List.getElem?_eq_some_iff.1 hc).1
      have hvx:bR m S w (((o.l.drop off).take n)[i]'(by omega)).cells ((us.drop ((off+i) * o.es)).take o.es):=by
       have:=(hus.drop ((off+i) * o.es)).take o.es
       have hlt:off+i<o.l.length:=by omega
       rw [cq _ hok,List.drop_eq_getElem_cons hlt] at this
       have e3:o.l[off+i]=((o.l.drop off).take n)[i]'(by omega):=by
        have:=(List.getElem?_eq_some_iff.1 hx').2; exact this
       rw [e3] at this
       simp only [aK,List.flatMap_cons] at this
       rwa [List.take_append_of_le_length (by rw [hxo.2]; exact Nat.le_refl _),List.take_of_length_le (by rw [hxo.2]; exact Nat.le_refl _)] at this
      refine pcell (h6 i _ y hx hy) hvx hxo.1 hyo.1 (by rw [hxo.2,hyo.2]) (fun hv=>ih i _ y hx hy hv) j c _ hc ?_
      rw [List.getElem?_take,if_pos hjl,List.getElem?_drop,List.getD_eq_getElem?_getD]
      have hlt:(off+i) * o.es+j<us.length:=by
       rw [hus.1,hfl]
       have:(off+i+1) * o.es≤o.l.length * o.es:=Nat.mul_le_mul_right _ (by omega)
       rw [Nat.add_mul (off+i) 1] at this; omega
      rw [List.getElem?_eq_getElem hlt]
      rfl
    rw [hnl] at key
    exact key
 | zq h1 h2 h3 hy h4 h5 h6 h7 h8=>
  rename_i id g es i0 off ee n o y l
  intro v hv
  obtain ⟨b,len,cap,k,hm,e1,hk⟩:=hv.Gr
  subst h2; subst h3
  obtain ⟨u',hm',hok,hcase⟩:=wq h h1 (fun v hv=>by rw [hm] at hv; obtain rfl:=Option.some.inj hv; rfl)
  rw [hm] at hm'; obtain rfl:=Option.some.inj hm'
  rcases hcase with ⟨hh,_⟩ | ⟨b',len',cap',hh,hlc,hisc,us,hus,hcell⟩
  ·cases hh
  ·cases hh
   rw [e1]
   have hnl:l.length=n:=h5
   by_cases hl0:l=[]
   ·subst hl0
    simp at hnl; subst hnl
    exact .bP _ _ _
   ·have hfl:=bp hok
    have hi0:=(List.getElem?_eq_some_iff.1 hy).1
    have hyl:=(hok y (List.mem_of_getElem? hy)).2
    have hle:(i0+1) * o.es≤o.l.length * o.es:=Nat.mul_le_mul_right _ (by omega)
    rw [Nat.add_mul i0 1] at hle
    have hpos:∀ i j,i<l.length→j<ee→i * ee+j<n * ee:=fun i j hi hj=>by
     have:(i+1) * ee≤n * ee:=Nat.mul_le_mul_right _ (by omega)
     rw [Nat.add_mul i 1] at this; omega
    have key:VP S' w (.list ee l) (.slice (some ⟨b,i0 * o.es+off,none⟩) l.length k):=by
     refine .list (fun i j=>us.getD (i0 * o.es+off+i * ee+j) undef) hl0 (by omega) ⟨hS' b ⟨id,o,_,h1,hm,rfl⟩,hisc⟩ (fun i x hx=>h7 x (List.mem_of_getElem? hx)) (fun i j hi hj=>?_) (fun i z j c hz hc=>?_)
     ·have:=hpos i j hi hj
      have hlt:i0 * o.es+off+i * ee+j<us.length:=by rw [hus.1,hfl]; omega
      rw [hcell _ us[i0 * o.es+off+i * ee+j] (List.getElem?_eq_getElem hlt)]
      simp [List.getD_eq_getElem?_getD,hlt]
     ·have hi:=(List.getElem?_eq_some_iff.1 hz).1
      have hj:j<ee:=by rw [←(h7 z (List.mem_of_getElem? hz)).2]; exact (List.getElem?_eq_some_iff.1 hc).1
      have:=hpos i j hi hj
      have hlt:i0 * o.es+off+i * ee+j<us.length:=by rw [hus.1,hfl]; omega
      have hcell1:=iy (es:=ee) h7 hz hj
      rw [hc,h6,List.getElem?_take,if_pos this,List.getElem?_drop] at hcell1
      have hcell2:=iy hok hy (show off+(i * ee+j)<o.es by omega)
      rw [hcell1] at hcell2
      have hvr:=hus.2 (i0 * o.es+(off+(i * ee+j))) c _ hcell2 (List.getElem?_eq_getElem (by omega))
      simp only [List.getD_eq_getElem?_getD]
      rw [show i0 * o.es+off+i * ee+j=i0 * o.es+(off+(i * ee+j)) by omega,List.getElem?_eq_getElem (by omega)]
      exact (hvr.cL (wW (h8 z (List.mem_of_getElem? hz)) c (List.mem_of_getElem? hc))).bG hS (fun _ _=>rfl)
    rw [hnl] at key
    exact key
 | ptr h1 h2 h3 h5 hl h6 h7 ih=>
  rename_i id g es i0 off o l
  intro v hv
  obtain ⟨b,len,cap,hm,e1⟩:=hv.wo
  subst h2; subst h3
  obtain ⟨u',hm',hok,hcase⟩:=wq h h1 (fun v hv=>by rw [hm] at hv; obtain rfl:=Option.some.inj hv; rfl)
  rw [hm] at hm'; obtain rfl:=Option.some.inj hm'
  rcases hcase with ⟨hh,_⟩ | ⟨b',len',cap',hh,hlc,hisc,us,hus,hcell⟩
  ·cases hh
  ·cases hh
   rw [e1]
   have hfl:=bp hok
   have key:VP S' w (.eQ o.es l i0 off) (.pointer (some ⟨b,0+i0 * o.es+off,none⟩)):=by
    refine .eQ (fun i j=>us.getD (i * o.es+j) undef) ⟨hS' b ⟨id,o,_,h1,hm,rfl⟩,hisc⟩ (fun i x hx=>h7 x (List.mem_of_getElem? hx)) (fun i j hi hj=>?_) (fun i y j c hy hc=>?_)
    ·have hlt:i * o.es+j<us.length:=by
      rw [hus.1,hfl]
      have:(i+1) * o.es≤o.l.length * o.es:=Nat.mul_le_mul_right _ (by omega)
      rw [Nat.add_mul i 1] at this; omega
     rw [Nat.zero_add,hcell _ us[i * o.es+j] (List.getElem?_eq_getElem hlt)]
     simp [List.getD_eq_getElem?_getD,hlt]
    ·have hi:=(List.getElem?_eq_some_iff.1 hy).1
     have hx:o.l[i]?=some (o.l[i]'(by omega)):=List.getElem?_eq_getElem (by omega)
     have hxo:=hok _ (List.mem_of_getElem? hx)
     have hyo:=h7 y (List.mem_of_getElem? hy)
     have hjl:j<o.es:=by rw [←hyo.2]; exact (List.getElem?_eq_some_iff.1 hc).1
     have hvx:bR m S w (o.l[i]'(by omega)).cells ((us.drop (i * o.es)).take o.es):=by
      have:=(hus.drop (i * o.es)).take o.es
      have hlt:i<o.l.length:=by omega
      rw [cq _ hok,List.drop_eq_getElem_cons hlt] at this
      simp only [aK,List.flatMap_cons] at this
      rwa [List.take_append_of_le_length (by rw [hxo.2]; exact Nat.le_refl _),List.take_of_length_le (by rw [hxo.2]; exact Nat.le_refl _)] at this
     refine pcell (h6 i _ y hx hy) hvx hxo.1 hyo.1 (by rw [hxo.2,hyo.2]) (fun hv=>ih i _ y hx hy hv) j c _ hc ?_
     rw [List.getElem?_take,if_pos hjl,List.getElem?_drop,List.getD_eq_getElem?_getD]
     have hlt:i * o.es+j<us.length:=by
      rw [hus.1,hfl]
      have:(i+1) * o.es≤o.l.length * o.es:=Nat.mul_le_mul_right _ (by omega)
      rw [Nat.add_mul i 1] at this; omega
     rw [List.getElem?_eq_getElem hlt]
     rfl
   simpa using key
theorem Be.empty (S:Nat→Prop) (w:World) (h:∀ b,S b→b<w.heap.size):Be (fun _=>none) S St.empty w:=
 ⟨fun g v h=>by simp at h,fun k o h=>by simp [St.empty] at h,fun k k' o o' v v' b h=>by simp [St.empty] at h,h⟩
theorem E1 {f:Nat} {mt:List Nat} {ac:ay} {ts:List RS} {n:Nat} (hb:aq P f mt=some (ac,ts,n)):okF P f=true:=by
 unfold aq at hb
 split at hb
 ·cases hb
 ·split at hb
  ·cases hb
  ·split at hb
   ·split at hb
    ·assumption
    ·cases hb
   ·cases hb
theorem jh {f:Nat} {mt:List Nat} {ac:ay} {ts:List RS} {n:Nat} {args:List AV} {r:AV} (hb:aq P f mt=some (ac,ts,n)) (h:HC P f args St.empty fun r' σ'=>aw σ' r' r):PC P f args r:=by
 have hok:=E1 hb
 refine ⟨hok,fun S w vs hS hv=>?_⟩
 rcases h.2 _ S w vs (Be.empty S w hS) hv.U5 with ⟨_,h⟩ | ⟨v,w',h1,_⟩
 case inr=>rw [tT hok] at h1; cases h1
 refine h.mono ?_
 rintro x w' ⟨r',σ',m',S',v,rfl,hR,hI,hX,hV⟩
 have hno:∀ b,¬xW (fun _=>none) St.empty b:=fun b ⟨k,o,v,ho,_⟩=>by cases ho
 have hall:∀ b,GZ m' σ' b→S' b∨w.heap.size≤b:=fun b ⟨k,o,v,ho,hm,hb⟩=>by
  cases hro:o.ro with
  | true=>
   obtain ⟨v',h1,_,h3⟩:=hI.bu.obj k o ho
   rw [hm] at h1; obtain rfl:=Option.some.inj h1
   exact .inl ((h3 b hb).1 hro)
  | false=>
   rcases hI.fr.own k o v b ho hro hm hb with h | h
   ·exact absurd h (hno b)
   ·exact .inr h
 refine ⟨v,fun b=>S' b∨GZ m' σ' b,rfl,⟨hI.fr.os,hI.fr.tape,hI.fr.output,hI.fr.size,fun k hk=>hI.fr.block k hk (hno k)⟩,fun b hb=>?_,fun b hb=>?_,hV.mU hI.bu (fun b hb=>.inl hb) (fun b hb=>.inr hb) hR⟩
 ·have key:S' b→S b∨w.heap.size≤b:=fun hb=>by
   rcases hI.fr.sub b hb with h | h | h
   ·exact .inl h
   ·exact absurd h (hno b)
   ·exact .inr h
  rcases hb with hb | hb
  ·exact key hb
  ·rcases hall b hb with h | h
   ·exact key h
   ·exact .inr h
 ·rcases hb with hb | ⟨k,o,v,ho,hm,hb⟩
  ·exact hI.bu.lt b hb
  ·obtain ⟨v',h1,h2,_⟩:=hI.bu.obj k o ho
   rw [hm] at h1; obtain rfl:=Option.some.inj h1
   exact bt h2 hb
def AV.oP:AV→Bool
 | .bool _ | .int .. | .str _ | .nil | .jo | .fN=>true
 | _=>false
def AV.Dc:AV→Bool
 | .agg cs=>cs.all AV.oP
 | .tuple cs=>cs.all fun | .agg ds=>ds.all AV.oP | a=>a.oP
 | a=>a.oP
theorem VP.oP {S':Nat→Prop} {w':World} {a:AV} {v:Value} (h:VP S w a v) (ha:a.oP=true):VP S' w' a v:=by
 cases h <;> simp [AV.oP] at ha <;> constructor
theorem VP.Dc {S':Nat→Prop} {w':World} {a:AV} {v:Value} (h:VP S w a v) (ha:a.Dc=true):VP S' w' a v:=by
 cases h with
 | agg hl h=>
  simp only [AV.Dc,List.all_eq_true] at ha
  exact .agg hl fun j y u a b=>(h j y u a b).oP (ha y (List.mem_of_getElem? a))
 | tuple hl h=>
  simp only [AV.Dc,List.all_eq_true] at ha
  refine .tuple hl fun j y u a b=>?_
  have h1:=h j y u a b
  have h2:=ha y (List.mem_of_getElem? a)
  cases h1 with
  | agg hl h=>
   simp only [List.all_eq_true] at h2
   exact .agg hl fun j y u a b=>(h j y u a b).oP (h2 y (List.mem_of_getElem? a))
  | _=>first | exact .bool _ | exact .int _ _ | exact .str _ | exact .nil | exact .jo | exact .fN | (simp [AV.oP] at h2)
 | _=>first | exact .bool _ | exact .int _ _ | exact .str _ | exact .nil | exact .jo | exact .fN | (simp [AV.Dc,AV.oP] at ha)
theorem Inv.below (hS:Be m S σ w) {w':World} (hb:Below w.heap.size w w') {S':Nat→Prop} (hsub:∀ b,S' b→S b∨w.heap.size≤b) (hlt:∀ b,S' b→b<w'.heap.size) :
  Inv w (xW m σ) S m (fun b=>S b∨S' b) σ w'∧Ext m S w m (fun b=>S b∨S' b) w':=by
 have hX:Ext m S w m (fun b=>S b∨S' b) w':=⟨Mp.le_refl m,fun b h=>.inl h,fun b h=>hb.block b (hS.lt b h)⟩
 refine ⟨⟨⟨hS.fresh,fun k o ho=>?_,hS.iB,fun b h=>?_⟩,⟨hb.os,hb.tape,hb.output,hb.size,fun b h _=>hb.block b h,fun k o v b ho hro hm hb=>.inl ⟨k,o,v,ho,hro,hm,hb⟩,fun b h=>?_⟩⟩,hX⟩
 ·obtain ⟨v,h1,h2,h3⟩:=hS.obj k o ho
  refine ⟨v,h1,h2.ext hX (fun b h=>hb.block b (bt h2 h)),fun b h=>⟨fun hr=>.inl ((h3 b h).1 hr),fun hr=>?_⟩⟩
  rintro (hs | hs)
  ·exact (h3 b h).2 hr hs
  ·rcases hsub b hs with h' | h'
   ·exact (h3 b h).2 hr h'
   ·have:=bt h2 h; omega
 ·rcases h with h | h
  ·have:=hS.lt b h; have:=hb.size; omega
  ·exact hlt b h
 ·rcases h with h | h
  ·exact .inl h
  ·rcases hsub b h with h | h
   ·exact .inl h
   ·exact .inr (.inr h)
theorem Kw {f:Nat} {args:List AV} {r:AV} (h:PC P f args r) (ha:∀ a∈args,a.cL=true):HC P f args σ fun r' σ'=>r'=r∧σ'=σ:=by
 refine ⟨sX h.1,fun m S w vs hS hv=>.inl ⟨h.1,?_⟩⟩
 refine (h.2 S w vs hS.lt ⟨hv.1,fun j y u a b=>(hv.2 j y u a b).cL (ha y (List.mem_of_getElem? a))⟩).mono ?_
 rintro x w' ⟨v,S',rfl,hb,hsub,hlt,hV⟩
 obtain ⟨h1,h2⟩:=Inv.below hS hb hsub hlt
 exact ⟨r,σ,m,_,v,rfl,⟨rfl,rfl⟩,h1,h2,.pure (hV.bG (fun b h=>.inr h) (fun _ _=>rfl))⟩
theorem Cm {f:Nat} {args args':List AV} {r:AV} (h:PC P f args' r) (hp:args.length=args'.length∧∀ (i:Nat) (x y:AV),args[i]?=some x→args'[i]?=some y→aw σ x y) (hs:r.Dc=true) :
  HC P f args σ fun r' σ'=>r'=r∧σ'=σ:=by
 refine ⟨sX h.1,fun m S w vs hS hv=>.inl ⟨h.1,?_⟩⟩
 have hlt0:∀ b,S b∨GZ m σ b→b<w.heap.size:=fun b hb=>by
  rcases hb with hb | ⟨k,o,v,ho,hm,hb⟩
  ·exact hS.lt b hb
  ·obtain ⟨v',h1,h2,_⟩:=hS.obj k o ho
   rw [hm] at h1; obtain rfl:=Option.some.inj h1
   exact bt h2 hb
 refine (h.2 (fun b=>S b∨GZ m σ b) w vs hlt0 ⟨by rw [hv.1]; exact hp.1,fun j y u a b=>?_⟩).mono ?_
 ·have hj:j<args.length:=by rw [hp.1]; exact (List.getElem?_eq_some_iff.1 a).1
  exact (hv.2 j _ u (List.getElem?_eq_getElem hj) b).mU hS (fun b hb=>.inl hb) (fun b hb=>.inr hb) (hp.2 j _ y (List.getElem?_eq_getElem hj) a)
 ·rintro x w' ⟨v,S',rfl,hb,hsub,hlt,hV⟩
  obtain ⟨h1,h2⟩:=Inv.below hS hb (S':=fun _=>False) (fun _ h=>h.elim) (fun _ h=>h.elim)
  exact ⟨r,σ,m,_,v,rfl,⟨rfl,rfl⟩,h1,h2,.pure (hV.Dc hs)⟩
theorem ae {f:Nat} {mt:List Nat} {ac:ay} {ts:List RS} {n:Nat} {args:List AV} {r:AV} (hb:aq P f mt=some (ac,ts,n)) (hn:args.length≤n)
  (h:n6 (HC P) ac (Mn ts fun r' σ'=>aw σ' r' r) (lM args) St.empty):PC P f args r:=by
 exact jh hb (aL hb hn h)
end
end Go.Ab
