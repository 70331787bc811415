/- OWN WORK, put together by tools/asm.py, seat.py, mini.py. -/
import Derived.Test.YtcpckngdfjmbgaaGreatBaseR
import Derived.MapKept
namespace Go.Ab
open Go.RowKit
open Go.MapKept (run_findKey)
section
variable {P : Program} {W : World} {O S0 : Nat → Prop} {m : Mp} {S : Nat → Prop} {σ : St} {w : World} {e : Nat → AV} {a : Act} {o : Oper} {K : AV → St → Prop} {Q : Exit → Act → World → Prop} {g0 : Nat}
 {ob:Nat→Option aU} {N C:Nat→Nat} {id:Nat}
theorem Inv.Tz (hI:Inv W O S0 m S σ w) {id:Nat} {ob:aU} {b:Nat} {v:Value} (hob:σ.ob id=some ob) (hro:ob.ro=false) (hm:m ob.g=some v) (hvb:v.ownBlock=some b) {w':World}
  (h1:w'.os=w.os) (h2:w'.tape=w.tape) (h3:w'.output=w.output) (hsz:w'.heap.size=w.heap.size) (hb:∀ k,k≠b→w'.heap[k]?=w.heap[k]?) {l':List AV} {xs':List Value}
  (hok:mE ob.es l') (hes0:0<ob.es) (hown:Cj w' ob.ty ob.es ob.ap v l'.length xs') (hxs:bR m S w (aK l') xs') :
  Inv W O S0 m S (σ.put id ob l') w'∧Ext m S w m S w':=by
 obtain ⟨vv,hm',_,hblk⟩:=hI.bu.obj id ob hob
 rw [hm] at hm'; obtain rfl:=Option.some.inj hm'
 have hSb:¬S b:=(hblk b hvb).2 hro
 have hX:Ext m S w m S w':=⟨Mp.le_refl m,fun _ h=>h,fun k hk=>hb k (fun e=>hSb (e ▸ hk))⟩
 refine ⟨⟨⟨hI.bu.fresh,?_,?_,?_⟩,⟨h1.trans hI.fr.os,h2.trans hI.fr.tape,h3.trans hI.fr.output,by rw [hsz]; exact hI.fr.size,?_,?_,hI.fr.sub⟩⟩,hX⟩
 ·intro k o' ho'
  by_cases e:k=id
  ·subst e
   simp only [St.put,az,Option.some.injEq] at ho'
   subst ho'
   exact ⟨_,hm,⟨hok,hes0,xs',hown,hxs.ext hX⟩,hblk⟩
  ·simp only [St.put,aa _ _ _ _ e] at ho'
   obtain ⟨v',h1,h2,h3⟩:=hI.bu.obj k o' ho'
   refine ⟨v',h1,h2.ext hX fun k' hk'=>hb k' fun e'=>?_,h3⟩
   subst e'
   exact hI.bu.iB k id o' ob v' _ _ ho' hob e h1 hm hk' hvb
 ·intro k k' o1 o2 v1 v2 b2 h1 h2 hne h3 h4 h5
  have key:∀ k o1,(σ.put id ob l').ob k=some o1→∃ o1',σ.ob k=some o1'∧o1'.g=o1.g:=by
   intro k o1 h
   by_cases e:k=id
   ·subst e; simp only [St.put,az,Option.some.injEq] at h; subst h; exact ⟨ob,hob,rfl⟩
   ·simp only [St.put,aa _ _ _ _ e] at h; exact ⟨o1,h,rfl⟩
  obtain ⟨o1',h1',hg1⟩:=key k o1 h1
  obtain ⟨o2',h2',hg2⟩:=key k' o2 h2
  exact hI.bu.iB k k' o1' o2' v1 v2 b2 h1' h2' hne (by rw [hg1]; exact h3) (by rw [hg2]; exact h4) h5
 ·intro k hk; rw [hsz]; exact hI.bu.lt k hk
 ·intro k hk hO
  by_cases e:k=b
  ·subst e
   rcases hI.fr.own id ob _ _ hob hro hm hvb with h | h
   ·exact absurd h hO
   ·have h':W.heap.size≤k:=h
    omega
  ·rw [hb k e]; exact hI.fr.block k hk hO
 ·intro k o1 v1 b1 h1 h2 h3 h4
  by_cases e:k=id
  ·subst e; simp only [St.put,az,Option.some.injEq] at h1; subst h1; exact hI.fr.own k ob v1 b1 hob hro h3 h4
  ·simp only [St.put,aa _ _ _ _ e] at h1; exact hI.fr.own k o1 v1 b1 h1 h2 h3 h4
theorem Lr {t k el:TypeId} {r:Option Operand} (hI:Inv W O S0 m S ⟨ob,N id,C g0⟩ w) (hg0:m g0=none) (hc':∀ g v,m g=some v→g<C (g0+1)) (hgc:g0<C (g0+1)) (ho:o.op=.makeMap t r)
  (hu:P.underlying t=some (.map k el)) (hr:GF r=true) (h:ar (HC P) .nq e ⟨ob,id,g0⟩ (fun v τ=>K v ⟨τ.ob,N τ.n,C τ.c⟩)):o.wp P a w (Good W O S0 m S w g0 o a K) Q:=by
 have hI':=hI.JJ (row:=none) (xs:=[]) id 2 rZ false [] (.slice (some ⟨w.heap.size,0,some 0⟩) 0 0) (N (id+1)) g0 (C (g0+1)) hg0 hc' hgc (World.grownBy_alloc w (.map #[] 0) none) (by omega) (fun x hx=>by simp at hx)
  (.inr ⟨rfl,rfl,rfl,w.heap.size,#[],0,rfl,heap_alloc_new w _,[],List.Perm.refl _,rfl,rfl,.nil⟩) bR.nil (fun b hb=>by cases hb) (fun b hb=>.inr (by simp [Value.ownBlock] at hb; omega))
 have hX:Ext m S w (bd m g0 (some (.slice (some ⟨w.heap.size,0,some 0⟩) 0 0))) S (w.alloc (.map #[] 0)):=⟨ez hg0 _,fun _ h=>h,fun b hb=>Below.heap_alloc w _ b (hI.bu.lt b hb)⟩
 refine bg (v:=.map (some w.heap.size)) ?_ h hI' hX (.jq (az _ _ _)) (fun g hg=>aa _ _ _ _ hg)
 unfold GF at hr
 split at hr
 ·simp [execOp,ho,Instr.makeMap]
 ·simp [execOp,ho,Instr.makeMap,run_underlying hu,Act.eval,asInt,asIntOf]
 ·cases hr
theorem findNow_spec {K kk:IntKind} {n:Int}:∀ (es:List MapEntry) (i:Nat),(∀ e∈es,∃ a,e.key=.int kk a)→
  (Instr.findNow (.int K) (.int kk n) es i=some none∧∀ e∈es,e.key≠.int kk n)∨∃ j e,Instr.findNow (.int K) (.int kk n) es i=some (some (i+j,e.val))∧es[j]?=some e∧e.key=.int kk n
 | [],i,_=>.inl ⟨rfl,fun e h=>by simp at h⟩
 | e1 :: es,i,h=>by
  obtain ⟨a,ha⟩:=h e1 (by simp)
  have hs:Instr.findNow (.int K) (.int kk n) (e1 :: es) i=if n=a then some (some (i,e1.val)) else Instr.findNow (.int K) (.int kk n) es (i+1):=by
   simp only [Instr.findNow,ha,Instr.sameNow,if_true]
   by_cases h:n=a
   ·simp [h]
   ·have h2:(n == a)=false:=by simpa using h
    simp [h,h2]
  rw [hs]
  by_cases hn:n=a
  ·rw [if_pos hn]
   exact .inr ⟨0,e1,rfl,rfl,by rw [ha,hn]⟩
  ·rw [if_neg hn]
   rcases findNow_spec es (i+1) (fun e he=>h e (by simp [he])) with ⟨h1,h2⟩ | ⟨j,e,h1,h2,h3⟩
   ·refine .inl ⟨h1,fun e he=>?_⟩
    rcases List.mem_cons.1 he with rfl | he
    ·rw [ha]; intro hh; cases hh; exact hn rfl
    ·exact h2 e he
   ·exact .inr ⟨j+1,e,by rw [h1,Nat.add_assoc,Nat.add_comm 1 j],h2,h3⟩
theorem td {kk:IntKind} {y:AV} (h:xB kk y=true):∃ a x,y=.agg [.int kk a,x]:=by
 unfold xB at h
 split at h
 ·rename_i k' a x
  have:k'=kk:=by simpa using h
  subst this
  exact ⟨a,x,rfl⟩
 ·cases h
theorem Jp {kk:IntKind} {n a:Int} {x:AV} {l:List AV} (h:n=a):mK n (.agg [.int kk a,x] :: l)=some x:=by simp [mK,keyOf,valOf,h]
theorem Jq {kk:IntKind} {n a:Int} {x:AV} {l:List AV} (h:¬n=a):mK n (.agg [.int kk a,x] :: l)=mK n l:=by simp [mK,keyOf,h]
theorem LK {k kk:IntKind} {n a:Int} {x v:AV} {l:List AV} (h:n=a):ew k n v (.agg [.int kk a,x] :: l)=.agg [.int k n,v] :: l:=by simp [ew,keyOf,h]
theorem LI {k kk:IntKind} {n a:Int} {x v:AV} {l:List AV} (h:n<a):ew k n v (.agg [.int kk a,x] :: l)=.agg [.int k n,v] :: .agg [.int kk a,x] :: l:=by
 have:¬n=a:=by omega
 simp [ew,keyOf,h,this]
theorem LJ {k kk:IntKind} {n a:Int} {x v:AV} {l:List AV} (h:¬n=a) (h2:¬n<a):ew k n v (.agg [.int kk a,x] :: l)=.agg [.int kk a,x] :: ew k n v l:=by simp [ew,keyOf,h,h2]
theorem wO {k':IntKind} {b:Int} {x:AV} {l:List AV} {es:List MapEntry} (hv:bR m S w (aK (.agg [.int k' b,x] :: l)) (es.flatMap ED)) :
  ∃ e1 es',es=e1 :: es'∧e1.key=.int k' b∧VR m S w x e1.val∧bR m S w (aK l) (es'.flatMap ED):=by
 cases es with
 | nil=>have:=hv.1; simp [aK,AV.cells] at this
 | cons e1 es'=>
  simp only [aK,List.flatMap_cons,AV.cells,ED,List.cons_append,List.nil_append] at hv
  refine ⟨e1,es',rfl,(hv.2 0 _ _ rfl rfl).of_int,hv.2 1 _ _ rfl rfl,?_⟩
  have:=hv.drop 2
  simpa [aK,ED] using this
theorem AF {es:List MapEntry} (hv:bR m S w (aK []) (es.flatMap ED)):es=[]:=by
 cases es with
 | nil=>rfl
 | cons e1 es'=>have:=hv.1; simp [aK,ED] at this
theorem GC {kk:IntKind}:∀ {l:List AV} {E:List MapEntry},cP kk l=true→bR m S w (aK l) (E.flatMap ED)→∀ e∈E,∃ a,e.key=.int kk a:=by
 intro l
 induction l with
 | nil=>
  intro E _ hv e he
  rw [AF hv] at he
  cases he
 | cons y l ih=>
  intro E hk hv e he
  simp only [cP,List.all_cons,Bool.and_eq_true] at hk
  obtain ⟨a,x,rfl⟩:=td hk.1
  obtain ⟨e1,E',rfl,h1,h2,h3⟩:=wO hv
  rcases List.mem_cons.1 he with rfl | he
  ·exact ⟨a,h1⟩
  ·exact ih hk.2 h3 e he
theorem Jr {kk:IntKind} {n:Int}:∀ {l:List AV} {E:List MapEntry},cP kk l=true→bR m S w (aK l) (E.flatMap ED)→
  (mK n l=none∧∀ e∈E,e.key≠.int kk n)∨∃ x e,mK n l=some x∧e∈E∧e.key=.int kk n∧VR m S w x e.val:=by
 intro l
 induction l with
 | nil=>
  intro E _ hv
  rw [AF hv]
  exact .inl ⟨rfl,fun e he=>by cases he⟩
 | cons y l ih=>
  intro E hk hv
  simp only [cP,List.all_cons,Bool.and_eq_true] at hk
  obtain ⟨a,x,rfl⟩:=td hk.1
  obtain ⟨e1,E',rfl,h1,h2,h3⟩:=wO hv
  by_cases hn:n=a
  ·rw [Jp hn]
   exact .inr ⟨x,e1,rfl,by simp,by rw [h1,hn],h2⟩
  ·rw [Jq hn]
   rcases ih hk.2 h3 with ⟨p,q⟩ | ⟨x',e,p,q,r⟩
   ·refine .inl ⟨p,fun e he=>?_⟩
    rcases List.mem_cons.1 he with rfl | he
    ·rw [h1]; intro hh; cases hh; exact hn rfl
    ·exact q e he
   ·exact .inr ⟨x',e,p,List.mem_cons_of_mem _ q,r⟩
theorem cn:∀ E:List MapEntry,(E.flatMap ED).length=E.length * 2
 | []=>rfl
 | e :: E=>by simp only [List.flatMap_cons,List.length_append,cn E,ED,List.length_cons,List.length_nil]; omega
theorem OK {kk:IntKind} {n:Int} {v:AV} {e':MapEntry} (hek:e'.key=.int kk n) (hev:VR m S w v e'.val) (bm:v.one=true):∀ {l:List AV} {E:List MapEntry},cP kk l=true→mE 2 l→bR m S w (aK l) (E.flatMap ED)→F0 E→
  ∃ E',bR m S w (aK (ew kk n v l)) (E'.flatMap ED)∧F0 E'∧mE 2 (ew kk n v l)∧(ew kk n v l).length=E'.length∧(∀ x∈E',x.key=.int kk n∨∃ y∈E,y.key=x.key)∧
   ((∃ A B e,E=A++e :: B∧e.key=.int kk n∧E'=A++e' :: B)∨((∀ e∈E,e.key≠.int kk n)∧∃ A B,E=A++B∧E'=A++e' :: B)):=by
 have hokn:mF 2 (.agg [.int kk n,v]):=⟨by simp [AV.flat,AV.one]; exact bm,rfl⟩
 have hkn:Al e'=n:=by simp [Al,hek]
 have hcons:∀ {l:List AV} {E:List MapEntry},bR m S w (aK l) (E.flatMap ED)→bR m S w (aK (.agg [.int kk n,v] :: l)) ((e' :: E).flatMap ED):=fun h=>by
  simp only [aK,List.flatMap_cons,AV.cells,ED,List.cons_append,List.nil_append,hek]
  exact (h.cons hev).cons (.pure (.int kk n))
 intro l
 induction l with
 | nil=>
  intro E _ _ hv _
  obtain rfl:=AF hv
  refine ⟨[e'],hcons hv,List.pairwise_singleton _ _,fun y hy=>?_,rfl,fun x hx=>.inl ?_,.inr ⟨fun e he=>(by cases he),[],[],rfl,rfl⟩⟩
  ·simp only [ew,List.mem_singleton] at hy; rw [hy]; exact hokn
  ·rw [List.mem_singleton] at hx; rw [hx]; exact hek
 | cons y l ih=>
  intro E hk hok hv hs
  simp only [cP,List.all_cons,Bool.and_eq_true] at hk
  obtain ⟨a,x,rfl⟩:=td hk.1
  obtain ⟨e1,E',rfl,h1,h2,h3⟩:=wO hv
  have hk1:Al e1=a:=by simp [Al,h1]
  have hs2:=List.pairwise_cons.1 hs
  have hall:=GC hk.2 h3
  by_cases hn:n=a
  ·rw [LK hn]
   refine ⟨e' :: E',hcons h3,List.pairwise_cons.2 ⟨fun b hb=>?_,hs2.2⟩,fun y hy=>?_,?_,fun z hz=>?_,.inl ⟨[],E',e1,rfl,by rw [h1,hn],rfl⟩⟩
   ·rw [hkn,hn,←hk1]; exact hs2.1 b hb
   ·rcases List.mem_cons.1 hy with rfl | hy
    ·exact hokn
    ·exact hok y (List.mem_cons_of_mem _ hy)
   ·have q1:=h3.1
    have q2:=bp (fun y hy=>hok y (List.mem_cons_of_mem _ hy):mE 2 l)
    rw [cn] at q1
    simp only [List.length_cons]; omega
   ·rcases List.mem_cons.1 hz with rfl | hz
    ·exact .inl hek
    ·exact .inr ⟨z,List.mem_cons_of_mem _ hz,rfl⟩
  ·have q1:=h3.1
   rw [cn] at q1
   have q2:=bp (fun y hy=>hok y (List.mem_cons_of_mem _ hy):mE 2 l)
   by_cases hlt:n<a
   ·rw [LI hlt]
    refine ⟨e' :: e1 :: E',hcons hv,List.pairwise_cons.2 ⟨fun b hb=>?_,hs⟩,fun y hy=>?_,by simp only [List.length_cons]; omega,fun z hz=>?_,.inr ⟨fun b hb=>?_,[],_,rfl,rfl⟩⟩
    ·rcases List.mem_cons.1 hb with rfl | hb
     ·rw [hkn,hk1]; exact hlt
     ·have:=hs2.1 b hb; rw [hkn]; rw [hk1] at this; omega
    ·rcases List.mem_cons.1 hy with rfl | hy
     ·exact hokn
     ·exact hok y hy
    ·rcases List.mem_cons.1 hz with rfl | hz
     ·exact .inl hek
     ·exact .inr ⟨z,hz,rfl⟩
    ·intro hb2
     rcases List.mem_cons.1 hb with rfl | hb
     ·rw [h1] at hb2; cases hb2; exact hn rfl
     ·have:=hs2.1 b hb
      simp only [Al,hb2,h1] at this
      omega
   ·rw [LJ hn hlt]
    obtain ⟨E2,p1,p2,p3,p4,p5,p6⟩:=ih hk.2 (fun y hy=>hok y (List.mem_cons_of_mem _ hy)) h3 hs2.2
    refine ⟨e1 :: E2,?_,List.pairwise_cons.2 ⟨fun b hb=>?_,p2⟩,fun y hy=>?_,by simp only [List.length_cons]; omega,fun z hz=>?_,?_⟩
    ·simp only [aK,List.flatMap_cons,AV.cells,ED,List.cons_append,List.nil_append,h1]
     exact (bR.cons (.pure (.int kk a)) (bR.cons h2 p1))
    ·rcases p5 b hb with h | ⟨b',hb',h⟩
     ·simp only [Al,h,h1]; omega
     ·have:=hs2.1 b' hb'
      simp only [Al,h] at this ⊢
      exact this
    ·rcases List.mem_cons.1 hy with rfl | hy
     ·exact hok _ (List.mem_cons_self ..)
     ·exact p3 y hy
    ·rcases List.mem_cons.1 hz with rfl | hz
     ·exact .inr ⟨z,List.mem_cons_self ..,rfl⟩
     ·rcases p5 z hz with h | ⟨b',hb',h⟩
      ·exact .inl h
      ·exact .inr ⟨b',List.mem_cons_of_mem _ hb',h⟩
    ·rcases p6 with ⟨A,B,e,rfl,q,rfl⟩ | ⟨q,A,B,rfl,rfl⟩
     ·exact .inl ⟨e1 :: A,B,e,rfl,q,rfl⟩
     ·refine .inr ⟨fun b hb=>?_,e1 :: A,B,rfl,rfl⟩
      rcases List.mem_cons.1 hb with rfl | hb
      ·rw [h1]; intro hh; cases hh; exact hn rfl
      ·exact q b hb
theorem Js (hS:Be m S σ w) {id g:Nat} {v:Value} (hv:VR m S w (.jq id g) v) {ob:aU} (ho:σ.ob id=some ob) (hg:ob.g=g) :
  ∃ b ents clock E,v=.map (some b)∧m ob.g=some (.slice (some ⟨b,0,some 0⟩) 0 0)∧w.heap[b]?=some (.map ents clock)∧List.Perm E ents.toList∧F0 E∧bR m S w (aK ob.l) (E.flatMap ED)∧mE 2 ob.l∧ob.es=2∧ob.ty=rZ∧ob.ap=false:=by
 cases hv with
 | pure h=>cases h
 | jq hm=>
  obtain ⟨u,h1,⟨hok,hes,xs,hown,hxs⟩,_⟩:=hS.obj id ob ho
  rw [hg,hm] at h1
  obtain rfl:=Option.some.inj h1
  rcases hown with hown | ⟨e1,e2,e3,g1,ents,clock,e4,hh,E,hp,hl,rfl,hs⟩
  ·rcases hown.2 with ⟨h,_⟩ | ⟨_,_,_,_,_,h,_⟩ <;> cases h
  ·cases e4
   exact ⟨_,ents,clock,E,rfl,by rw [hg]; exact hm,hh,hp,hs,hxs,by rw [←e2]; exact hok,e2,e1,e3⟩
theorem tc {kk:IntKind} {n:Int}:∀ {E:List MapEntry},F0 E→∀ {a b:MapEntry},a∈E→b∈E→a.key=.int kk n→b.key=.int kk n→a=b
 | [],_,_,_,ha,_,_,_=>by cases ha
 | e :: E,hs,a,b,ha,hb,h1,h2=>by
  have h:=List.pairwise_cons.1 hs
  rcases List.mem_cons.1 ha with ha2 | ha2
  ·rcases List.mem_cons.1 hb with hb2 | hb2
   ·rw [ha2,hb2]
   ·have:=h.1 b hb2; rw [←ha2] at this; simp [Al,h1,h2] at this
  ·rcases List.mem_cons.1 hb with hb2 | hb2
   ·have:=h.1 a ha2; rw [←hb2] at this; simp [Al,h1,h2] at this
   ·exact tc h.2 ha2 hb2 h1 h2
theorem DT {b:Nat} {es:Array MapEntry} {clock:Nat} (hb:w.heap[b]?=some (.map es clock)):(getObj b).run P w=.ok (.map es clock) w:=by
 simp [getObj,Sem.run,hb]
theorem IY {b:Nat} {es:Array MapEntry} {clock:Nat} {o:Obj} (hb:w.heap[b]?=some (.map es clock)):(setObj b o).run P w=.ok () { w with heap:=w.heap.setIfInBounds b o }:=by
 simp [setObj,Sem.run,hb]
theorem oh {kt:TypeId} {kq kk:IntKind} {n:Int} (hd:P.underlying kt=some (.int kq)) (em:Bool) (w:World):(Instr.checkKey em 10000 kt (.int kk n)).run P w=.ok () w:=by
 unfold Instr.checkKey
 simp only [Sem.run_bind,run_underlying hd,Result.andThen]
 rfl
theorem VR.H6 {v:Value} (h:VR m S w .kN v):v=.map none:=by
 cases h with | pure h=>cases h; rfl
theorem ES {t:TypeId} {i:TypeInfo} {z:Value} (hi:P.info? t=some i) (hz:i.zero=some z) (w:World):(zeroValue t).run P w=.ok z w:=by
 simp [zeroValue,typeInfo,hi,hz]
theorem I3 {t k el:TypeId} {kq:IntKind} {i:TypeInfo} {z0:Value} {z:AV} {ok:Bool} {x ix:Operand} {y q:AX} (hI:Inv W O S0 m S σ w) (hE:bq m S w e a.tmps) (ho:o.op=.lookup t x ix ok)
  (hu:P.underlying t=some (.map k el)) (huk:P.underlying k=some (.int kq)) (hi:P.info? el=some i) (hz0:i.zero=some z0) (hz:av z0=some z) (h1:ax x=some y) (h2:ax ix=some q)
  (h:ar (HC P) (.ft ok z y q) e σ K):o.wp P a w (Good W O S0 m S w g0 o a K) Q:=by
 have hx:=aC hE h1
 have hq:=aC hE h2
 have hzv:VP S w z z0:=eh hz
 simp only [ar] at h
 generalize g0_:y.ev e=G0_ at h
 generalize g1_:q.ev e=G1_ at h
 unfold uL at h
 have res:∀ (u:Value) (bb:Bool) (r:Option AV),r.isSome=bb→VR m S w (r.getD z) u→VR m S w (uK ok z r) (if ok then .tuple #[u,.bool bb] else u):=by
  intro u bb r hr hu
  subst hr
  unfold uK
  cases ok
  ·exact hu
  ·exact .nr (bR.nil.cons (.pure (.bool _)) |>.cons hu)
 split at h
 ·rename_i id g kk n
  rw [g0_] at hx; rw [g1_] at hq
  have hq:=hq.of_int
  obtain ⟨ob,hob,hg,hko,hK⟩:=h
  obtain ⟨b,ents,clock,E,e1,hm,hh,hp,hs,hvs,_⟩:=Js hI.bu hx hob hg
  have hck:∀ em,(Instr.checkKey em 10000 k (.int kk n)).run P w=.ok () w:=fun em=>oh huk em w
  have hkeys:=GC hko hvs
  rcases findNow_spec (K:=kq) (kk:=kk) (n:=n) ents.toList 0 (fun e he=>hkeys e (hp.mem_iff.2 he)) with ⟨hf,hno⟩ | ⟨j,e',hf,hj,hk⟩
  ·have hr:mK n ob.l=none:=by
    rcases Jr (n:=n) hko hvs with ⟨h,_⟩ | ⟨x',e',_,h2,h3,_⟩
    ·exact h
    ·exact absurd h3 (hno e' (hp.mem_iff.1 h2))
   rw [hr] at hK
   refine aj hI ?_ hK (res z0 false none rfl (.pure hzv))
   have hfk:=run_findKey (w:=w) huk hf
   simp [execOp,ho,Instr.lookup,run_underlying hu,e1,hq,DT hh,hck,hfk,ES hi hz0]
  ·have he':e'∈E:=hp.mem_iff.2 (List.mem_of_getElem? hj)
   obtain ⟨x1,hr,hxu⟩:∃ x1,mK n ob.l=some x1∧VR m S w x1 e'.val:=by
    rcases Jr (n:=n) hko hvs with ⟨_,h⟩ | ⟨x',e2,h1,h2,h3,h4⟩
    ·exact absurd hk (h e' he')
    ·have:=tc hs he' h2 hk h3
     subst this
     exact ⟨x',h1,h4⟩
   rw [hr] at hK
   refine aj hI ?_ hK (res e'.val true (some x1) rfl hxu)
   have hfk:=run_findKey (w:=w) huk hf
   simp [execOp,ho,Instr.lookup,run_underlying hu,e1,hq,DT hh,hck,hfk]
 ·rename_i kk n
  rw [g0_] at hx; rw [g1_] at hq
  have hq:=hq.of_int
  have e1:a.eval x=.map none:=hx.H6
  have hck:∀ em,(Instr.checkKey em 10000 k (.int kk n)).run P w=.ok () w:=fun em=>oh huk em w
  have hfk:=run_findKey (w:=w) (l:=[]) (k:=.int kk n) (a:=none) huk rfl
  refine aj hI ?_ h (res z0 false none rfl (.pure hzv))
  simp [execOp,ho,Instr.lookup,run_underlying hu,e1,hq,hck,hfk,ES hi hz0]
 ·exact h.elim
theorem EP {t k el:TypeId} {kq:IntKind} {mo ix x:Operand} {y q v:AX} (hI:Inv W O S0 m S σ w) (hE:bq m S w e a.tmps) (ho:o.op=.mapUpdate t mo ix x∨o.op=.insert t mo ix x)
  (hu:P.underlying t=some (.map k el)) (huk:P.underlying k=some (.int kq)) (h1:ax mo=some y) (h2:ax ix=some q) (h3:ax x=some v)
  (h:ar (HC P) (.dd y q v) e σ K):o.wp P a w (Good W O S0 m S w g0 o a K) Q:=by
 have hx:=aC hE h1
 have hq:=aC hE h2
 have hv:=aC hE h3
 simp only [ar] at h
 generalize g0_:y.ev e=G0_ at h
 generalize g1_:q.ev e=G1_ at h
 unfold qW at h
 split at h
 ·rename_i id g kk n
  rw [g0_] at hx; rw [g1_] at hq
  have hq':=hq.of_int
  obtain ⟨bm,ob,hob,hg,hro,hko,hK⟩:=h
  obtain ⟨b,ents,clock,E,e1,hm,hh,hp,hs,hvs,hok,hes,hty,hap⟩:=Js hI.bu hx hob hg
  have hck:∀ em,(Instr.checkKey em 10000 k (.int kk n)).run P w=.ok () w:=fun em=>oh huk em w
  have hkeys:=GC hko hvs
  have hb:b<w.heap.size:=(Array.getElem?_eq_some_iff.1 hh).1
  have fin:∀ (e':MapEntry) (ents':Array MapEntry) (clock':Nat),e'.key=.int kk n→e'.val=a.eval x→(Instr.mapUpdate t (.map (some b)) (.int kk n) (a.eval x)).run P w=.ok () { w with heap:=w.heap.setIfInBounds b (.map ents' clock') }→
    (∀ E',((∃ A B e,E=A++e :: B∧e.key=.int kk n∧E'=A++e' :: B)∨((∀ e∈E,e.key≠.int kk n)∧∃ A B,E=A++B∧E'=A++e' :: B))→List.Perm E' ents'.toList)→o.wp P a w (Good W O S0 m S w g0 o a K) Q:=by
   intro e' ents' clock' hek hev hrun hperm
   obtain ⟨E',p1,p2,p3,p4,_,p6⟩:=OK (v:=v.ev e) hek (by rw [hev]; exact hv) bm hko hok hvs hs
   obtain ⟨q1,q2⟩:=hI.Tz hob hro hm rfl (w':={ w with heap:=w.heap.setIfInBounds b (.map ents' clock') }) rfl rfl rfl (by simp) (fun k hk=>by simp [Array.getElem?_setIfInBounds,Ne.symm hk]) (by rw [hes]; exact p3) (by omega)
    (.inr ⟨hty,hes,hap,b,ents',clock',rfl,by simp [hb],E',hperm E' p6,p4.symm,rfl,p2⟩) p1
   have hrun2:(execOp a.eval o).run P w=.ok .skip { w with heap:=w.heap.setIfInBounds b (.map ents' clock') }:=by
    rcases ho with ho | ho <;> simp [execOp,ho,e1,hq',hrun]
   unfold Oper.wp
   rw [hrun2,Oper.upon_skip]
   exact ⟨.bC,_,m,S,undef,rfl,hK,q1,q2,.bC _,.inl fun _ _=>rfl⟩
  rcases findNow_spec (K:=kq) (kk:=kk) (n:=n) ents.toList 0 (fun e he=>hkeys e (hp.mem_iff.2 he)) with ⟨hf,hno⟩ | ⟨j,e2,hf,hj,hk⟩
  ·have hfk:=run_findKey (w:=w) huk hf
   refine fin { key:=.int kk n,val:=a.eval x,born:=clock } (ents.push { key:=.int kk n,val:=a.eval x,born:=clock }) (clock+1) rfl rfl ?_ fun E' h=>?_
   ·simp [Instr.mapUpdate,run_underlying hu,DT hh,hck,hfk,IY hh]
   ·rcases h with ⟨A,B,e',rfl,hk,rfl⟩ | ⟨_,A,B,rfl,rfl⟩
    ·exact absurd hk (hno e' (hp.mem_iff.1 (by simp)))
    ·rw [Array.toList_push]
     exact (List.perm_middle.trans (List.Perm.cons _ hp)).trans (List.perm_append_comm (l₁:=[_]))
  ·have hfk:=run_findKey (w:=w) huk hf
   rw [Nat.zero_add] at hfk
   have hjs:j<ents.toList.length:=(List.getElem?_eq_some_iff.1 hj).1
   have hj2:ents[j]?=some e2:=by rw [←Array.getElem?_toList]; exact hj
   have he2:e2∈E:=hp.mem_iff.2 (List.mem_of_getElem? hj)
   refine fin { e2 with key:=.int kk n,val:=a.eval x } (ents.modify j fun e=>{ e with key:=.int kk n,val:=a.eval x }) clock rfl rfl ?_ fun E' h=>?_
   ·have hsb:Instr.sameBits 10000 (.int kk n) (.int kk n)=true:=by simp [Instr.sameBits]
    simp [Instr.mapUpdate,run_underlying hu,DT hh,hck,hfk,hj2,hk,Instr.keyThatStays,hsb,IY hh]
   ·rcases h with ⟨A,B,e',rfl,hk',rfl⟩ | ⟨h,_⟩
    ·have:=tc hs he2 (show e'∈A++e' :: B by simp) hk hk'
     subst this
     have h1:ents.toList=ents.toList.take j++e2 :: ents.toList.drop (j+1):=by
      rw [←(List.getElem?_eq_some_iff.1 hj).2,List.getElem_cons_drop,List.take_append_drop]
     have h2:(ents.modify j fun e=>{ e with key:=.int kk n,val:=a.eval x }).toList=ents.toList.take j++{ e2 with key:=.int kk n,val:=a.eval x } :: ents.toList.drop (j+1):=by
      rw [Array.toList_modify,List.modify_eq_take_cons_drop hjs,(List.getElem?_eq_some_iff.1 hj).2]
     rw [h2]
     rw [h1] at hp
     have h3:List.Perm (A++B) (ents.toList.take j++ents.toList.drop (j+1)):=List.Perm.cons_inv ((List.perm_middle.symm.trans hp).trans List.perm_middle)
     exact (List.perm_middle.trans (List.Perm.cons _ h3)).trans List.perm_middle.symm
    ·exact absurd hk (h e2 he2)
 ·exact h.elim
end
end Go.Ab
