/- OWN WORK, put together by tools/asm.py, seat.py, mini.py. -/
import Derived.Test.YtcpckngdfjmbgaaGreatBaseA
namespace Go.Ab
open Go.RowKit
structure aU where
 g:Nat
 es:Nat
 ty:TypeId
 ro:Bool
 ap:Bool
 l:List AV
structure St where
 ob:Nat→Option aU
 n:Nat
 c:Nat
def bd {α:Type} (f:Nat→α) (i:Nat) (x:α):Nat→α:=fun j=>if j=i then x else f j
theorem az {α:Type} (f:Nat→α) (i:Nat) (x:α):bd f i x i=x:=by simp [bd]
theorem aa {α:Type} (f:Nat→α) (i j:Nat) (x:α) (h:j≠i):bd f i x j=f j:=by simp [bd,h]
def St.empty:St:=⟨fun _=>none,0,0⟩
def St.push (σ:St) (es:Nat) (ty:TypeId) (l:List AV):St:=⟨bd σ.ob σ.n (some ⟨σ.c,es,ty,false,true,l⟩),σ.n+1,σ.c+1⟩
def St.put (σ:St) (id:Nat) (o:aU) (l:List AV):St:={ σ with ob:=bd σ.ob id (some { o with l:=l }) }
def St.renew (σ:St) (id:Nat) (o:aU) (l:List AV):St:=⟨bd σ.ob id (some { o with g:=σ.c,l:=l }),σ.n,σ.c+1⟩
def St.aD (σ:St) (n:Nat):St:=⟨fun k=>if k<n then σ.ob k else none,n,σ.c⟩
def aK (l:List AV):List AV:=l.flatMap AV.cells
def mE (es:Nat) (l:List AV):Prop:=∀ x∈l,mF es x
theorem bp {es:Nat} {l:List AV} (h:mE es l):(aK l).length=l.length * es:=by
 induction l with
 | nil=>simp [aK]
 | cons a l ih=>
  have h1:=(h a (by simp)).2
  have h2:=ih fun x hx=>h x (by simp [hx])
  simp only [aK,List.flatMap_cons,List.length_append,List.length_cons] at *
  rw [h1,h2,Nat.add_mul]; omega
theorem cR {es:Nat}:∀ {l:List AV} (n:Nat),mE es l→(aK l).take (n * es)=aK (l.take n)
 | [],n,_=>by simp [aK]
 | a :: l,0,_=>by simp [aK]
 | a :: l,n+1,h=>by
  have h1:=(h a (by simp)).2
  have h2:=cR (l:=l) n fun x hx=>h x (by simp [hx])
  simp only [aK,List.flatMap_cons,List.take_succ_cons] at *
  rw [List.take_append,h1,List.take_of_length_le (by rw [h1,Nat.add_mul]; omega),show (n+1) * es-es=n * es by rw [Nat.add_mul]; omega,h2]
theorem cq {es:Nat}:∀ {l:List AV} (n:Nat),mE es l→(aK l).drop (n * es)=aK (l.drop n)
 | [],n,_=>by simp [aK]
 | a :: l,0,_=>by simp [aK]
 | a :: l,n+1,h=>by
  have h1:=(h a (by simp)).2
  have h2:=cq (l:=l) n fun x hx=>h x (by simp [hx])
  simp only [aK,List.flatMap_cons,List.drop_succ_cons] at *
  rw [List.drop_append,h1,List.drop_of_length_le (by rw [h1,Nat.add_mul]; omega),show (n+1) * es-es=n * es by rw [Nat.add_mul]; omega,h2]
  rfl
theorem fX (l r:List AV):aK (l++r)=aK l++aK r:=by simp [aK]
theorem iy {es:Nat} {l:List AV} (h:mE es l) {i j:Nat} {x:AV} (hx:l[i]?=some x) (hj:j<es):(aK l)[i * es+j]?=x.cells[j]?:=by
 have h1:(aK l)[i * es+j]?=((aK l).drop (i * es))[j]?:=by rw [List.getElem?_drop]
 have hi:=(List.getElem?_eq_some_iff.1 hx).1
 have h2:l.drop i=x :: l.drop (i+1):=by rw [List.drop_eq_getElem_cons hi]; congr 1; exact (List.getElem?_eq_some_iff.1 hx).2
 rw [h1,cq i h,h2]
 simp only [aK,List.flatMap_cons]
 rw [List.getElem?_append_left (by rw [(h x (List.mem_of_getElem? hx)).2]; exact hj)]
def jw (w:World) (ty:TypeId) (es:Nat) (ap:Bool) (v:Value) (n:Nat) (xs:List Value):Prop:=
 xs.length=n * es∧
 ((v=.slice none 0 0∧n=0)∨
 ∃ g len cap cur fr,v=.slice (some ⟨g,0,none⟩) len cap∧w.heap[g]?=some (.cells cur ty fr)∧n≤cap∧cap≤maxLen∧cur.size=cap * es∧cur.toList.take (n * es)=xs∧
  (∀ i,i<cur.size→¬(fr.1≤i∧i<fr.2))∧(ap=true→fr=(0,0)))
theorem jw.zP {w:World} {base:Nat} {ty:TypeId} {es:Nat} {ap:Bool} {v:Value} {n:Nat} {xs:List Value} (h:w.ownsRow base ty es v n xs):jw w ty es ap v n xs:=by
 refine ⟨h.1,?_⟩
 rcases h.2 with h | ⟨g,cap,cur,e,_,hg,h1,h2,h3,h4⟩
 ·exact .inl h
 ·exact .inr ⟨g,n,cap,cur,(0,0),e,hg,h1,h2,h3,h4,fun i _ h=>by simp at h,fun _=>rfl⟩
theorem jw.Gd {w:World} {ty:TypeId} {es e0:Nat} {v:Value} {n:Nat} {xs:List Value} (h:jw w ty es true v n xs):w.ownsRow 0 ty es (bZ v e0 0 n) n xs:=by
 refine ⟨h.1,?_⟩
 rcases h.2 with ⟨rfl,rfl⟩ | ⟨g,len,cap,cur,fr,rfl,hg,h1,h2,h3,h4,_,h5⟩
 ·exact .inl ⟨rfl,rfl⟩
 ·obtain rfl:=h5 rfl
  exact .inr ⟨g,cap,cur,by simp [bZ],Nat.zero_le _,hg,h1,h2,h3,h4⟩
theorem jw.bZ {w:World} {ty:TypeId} {es e0:Nat} {ap:Bool} {v:Value} {n:Nat} {xs:List Value} (h:jw w ty es ap v n xs):jw w ty es ap (bZ v e0 0 n) n xs:=by
 refine ⟨h.1,?_⟩
 rcases h.2 with ⟨rfl,rfl⟩ | ⟨g,len,cap,cur,fr,rfl,r⟩
 ·exact .inl ⟨rfl,rfl⟩
 ·exact .inr ⟨g,n,cap,cur,fr,by simp [Go.Ab.bZ],r⟩
theorem jw.lt {w:World} {ty:TypeId} {es:Nat} {ap:Bool} {v:Value} {n:Nat} {xs:List Value} (h:jw w ty es ap v n xs):∀ k,v.ownBlock=some k→k<w.heap.size:=by
 intro k hk
 rcases h.2 with ⟨rfl,_⟩ | ⟨g,len,cap,cur,fr,rfl,hg,_⟩
 ·simp [Value.ownBlock] at hk
 ·simp [Value.ownBlock] at hk
  subst hk
  exact (Array.getElem?_eq_some_iff.1 hg).1
abbrev rZ:TypeId:=1000000007
def ED (e:MapEntry):List Value:=[e.key,e.val]
def Al (e:MapEntry):Int:=match e.key with
 | .int _ a=>a
 | _=>0
def F0 (E:List MapEntry):Prop:=E.Pairwise fun a b=>Al a<Al b
def TZ (w:World) (ty:TypeId) (es:Nat) (ap:Bool) (v:Value) (n:Nat) (xs:List Value):Prop:=
 ty=rZ∧es=2∧ap=false∧∃ g ents clock,v=.slice (some ⟨g,0,some 0⟩) 0 0∧w.heap[g]?=some (.map ents clock)∧∃ E:List MapEntry,E.Perm ents.toList∧E.length=n∧xs=E.flatMap ED∧F0 E
def Cj (w:World) (ty:TypeId) (es:Nat) (ap:Bool) (v:Value) (n:Nat) (xs:List Value):Prop:=jw w ty es ap v n xs∨TZ w ty es ap v n xs
theorem Cj.own {w:World} {ty:TypeId} {es:Nat} {ap:Bool} {v:Value} {n:Nat} {xs:List Value} (h:Cj w ty es ap v n xs) (hs:fI v=true):jw w ty es ap v n xs:=by
 rcases h with h | ⟨_,_,_,g,ents,clock,rfl,_⟩
 ·exact h
 ·simp [fI] at hs
theorem Cj.lt {w:World} {ty:TypeId} {es:Nat} {ap:Bool} {v:Value} {n:Nat} {xs:List Value} (h:Cj w ty es ap v n xs):∀ k,v.ownBlock=some k→k<w.heap.size:=by
 rcases h with h | ⟨_,_,_,g,ents,clock,rfl,hg,_⟩
 ·exact h.lt
 ·intro k hk
  simp [Value.ownBlock] at hk
  subst hk
  exact (Array.getElem?_eq_some_iff.1 hg).1
theorem Cj.bG {w w':World} {ty:TypeId} {es:Nat} {ap:Bool} {v:Value} {n:Nat} {xs:List Value} (h:Cj w ty es ap v n xs) (hb:∀ b,v.ownBlock=some b→w'.heap[b]?=w.heap[b]?):Cj w' ty es ap v n xs:=by
 rcases h with h | ⟨h1,h2,h3,g,ents,clock,rfl,hg,r⟩
 ·refine .inl ⟨h.1,?_⟩
  rcases h.2 with h | ⟨g,len,cap,cur,fr,rfl,hg,r⟩
  ·exact .inl h
  ·exact .inr ⟨g,len,cap,cur,fr,rfl,by rw [hb g rfl]; exact hg,r⟩
 ·exact .inr ⟨h1,h2,h3,g,ents,clock,rfl,by rw [hb g rfl]; exact hg,r⟩
def qP (m:Mp) (S:Nat→Prop) (w:World) (o:aU) (v:Value):Prop:=
 mE o.es o.l∧0<o.es∧∃ xs,Cj w o.ty o.es o.ap v o.l.length xs∧bR m S w (aK o.l) xs
def RP (m:Mp) (S:Nat→Prop) (w:World) (o:aU) (v:Value):Prop:=
 mE o.es o.l∧0<o.es∧∃ xs,jw w o.ty o.es o.ap v o.l.length xs∧bR m S w (aK o.l) xs
theorem qP.cells {m:Mp} {S:Nat→Prop} {w:World} {o:aU} {v:Value} (h:qP m S w o v) (hs:fI v=true):RP m S w o v:=by
 obtain ⟨h1,h2,xs,h3,h4⟩:=h
 exact ⟨h1,h2,xs,h3.own hs,h4⟩
theorem rM (v:Value) (es off n:Nat):fI (bZ v es off n)=true:=by
 unfold bZ
 split <;> rfl
structure Be (m:Mp) (S:Nat→Prop) (σ:St) (w:World):Prop where
 fresh:∀ g v,m g=some v→g<σ.c
 obj:∀ k o,σ.ob k=some o→∃ v,m o.g=some v∧qP m S w o v∧∀ b,v.ownBlock=some b→(o.ro=true→S b)∧(o.ro=false→¬S b)
 iB:∀ k k' o o' v v' b,σ.ob k=some o→σ.ob k'=some o'→k≠k'→m o.g=some v→m o'.g=some v'→v.ownBlock=some b→v'.ownBlock≠some b
 lt:∀ b,S b→b<w.heap.size
structure Fr (W:World) (O S0:Nat→Prop) (m:Mp) (S:Nat→Prop) (σ:St) (w:World):Prop where
 os:w.os=W.os
 tape:w.tape=W.tape
 output:w.output=W.output
 size:W.heap.size≤w.heap.size
 block:∀ b,b<W.heap.size→¬O b→w.heap[b]?=W.heap[b]?
 own:∀ k o v b,σ.ob k=some o→o.ro=false→m o.g=some v→v.ownBlock=some b→O b∨W.heap.size≤b
 sub:∀ b,S b→S0 b∨O b∨W.heap.size≤b
structure Ext (m:Mp) (S:Nat→Prop) (w:World) (m':Mp) (S':Nat→Prop) (w':World):Prop where
 le:m.le m'
 sub:∀ b,S b→S' b
 bG:∀ b,S b→w'.heap[b]?=w.heap[b]?
theorem Ext.refl (m:Mp) (S:Nat→Prop) (w:World):Ext m S w m S w:=⟨Mp.le_refl m,fun _ h=>h,fun _ _=>rfl⟩
theorem Ext.trans {m m1 m2:Mp} {S S1 S2:Nat→Prop} {w w1 w2:World} (h:Ext m S w m1 S1 w1) (k:Ext m1 S1 w1 m2 S2 w2):Ext m S w m2 S2 w2:=
 ⟨Mp.le_trans h.le k.le,fun b x=>k.sub b (h.sub b x),fun b x=>(k.bG b (h.sub b x)).trans (h.bG b x)⟩
theorem VR.ext {m m':Mp} {S S':Nat→Prop} {w w':World} (x:Ext m S w m' S' w') {a:AV} {v:Value} (h:VR m S w a v):VR m' S' w' a v:=h.bG x.le x.sub x.bG
theorem bR.ext {m m':Mp} {S S':Nat→Prop} {w w':World} (x:Ext m S w m' S' w') {a:List AV} {v:List Value} (h:bR m S w a v):bR m' S' w' a v:=h.bG x.le x.sub x.bG
structure Inv (W:World) (O S0:Nat→Prop) (m:Mp) (S:Nat→Prop) (σ:St) (w:World):Prop where
 bu:Be m S σ w
 fr:Fr W O S0 m S σ w
section
variable {W : World} {O S0 : Nat → Prop} {m : Mp} {S : Nat → Prop} {σ : St} {w : World}
theorem qP.ext {m':Mp} {S':Nat→Prop} {w':World} {o:aU} {v:Value} (x:Ext m S w m' S' w') (h:qP m S w o v) (hb:∀ b,v.ownBlock=some b→w'.heap[b]?=w.heap[b]?):qP m' S' w' o v:=by
 obtain ⟨h1,h2,xs,h3,h4⟩:=h
 exact ⟨h1,h2,xs,h3.bG hb,h4.ext x⟩
theorem Ext.drew (m:Mp) (S:Nat→Prop) (w:World):Ext m S w m S w.drew:=⟨Mp.le_refl m,fun _ h=>h,fun _ _=>rfl⟩
theorem Inv.drew (h:Inv W O S0 m S σ w):Inv W O S0 m S σ w.drew:=by
 refine ⟨⟨h.bu.fresh,fun k o ho=>?_,h.bu.iB,h.bu.lt⟩,⟨h.fr.os,h.fr.tape,h.fr.output,h.fr.size,h.fr.block,h.fr.own,h.fr.sub⟩⟩
 obtain ⟨v,h1,h2,h3⟩:=h.bu.obj k o ho
 exact ⟨v,h1,h2.ext (Ext.drew m S w) (fun _ _=>rfl),h3⟩
theorem nH (hl:∀ b,S b→b<w.heap.size) (o:Obj):Ext m S w m S (w.alloc o):=
 ⟨Mp.le_refl m,fun _ h=>h,fun b hb=>Below.heap_alloc w o b (hl b hb)⟩
theorem bt {v:Value} {o:aU} (h:qP m S w o v) {b:Nat} (hb:v.ownBlock=some b):b<w.heap.size:=by
 obtain ⟨_,_,xs,h3,_⟩:=h
 exact h3.lt b hb
theorem Inv.alloc (h:Inv W O S0 m S σ w) (o:Obj):Inv W O S0 m S σ (w.alloc o):=by
 refine ⟨⟨h.bu.fresh,fun k ob ho=>?_,h.bu.iB,fun b hb=>by have:=h.bu.lt b hb; simp; omega⟩,⟨h.fr.os,h.fr.tape,h.fr.output,by have:=h.fr.size; simp; omega,fun b hb hO=>?_,h.fr.own,h.fr.sub⟩⟩
 ·obtain ⟨v,h1,h2,h3⟩:=h.bu.obj k ob ho
  exact ⟨v,h1,h2.ext (nH h.bu.lt o) (fun b hb=>Below.heap_alloc w o b (bt h2 hb)),h3⟩
 ·have:=h.fr.size
  rw [Below.heap_alloc w o b (by omega)]; exact h.fr.block b hb hO
theorem iZ (m:Mp) (S:Nat→Prop) (w:World) (b:Nat):Ext m S w m (fun x=>S x∨x=b) w:=⟨Mp.le_refl m,fun _ h=>.inl h,fun _ _=>rfl⟩
theorem Inv.yS (h:Inv W O S0 m S σ w) (b:Nat) (hb:W.heap.size≤b) (hlt:b<w.heap.size) (hno:∀ k o v,σ.ob k=some o→m o.g=some v→v.ownBlock≠some b) :
  Inv W O S0 m (fun x=>S x∨x=b) σ w:=by
 refine ⟨⟨h.bu.fresh,fun k ob ho=>?_,h.bu.iB,fun x hx=>by rcases hx with hx | rfl; exact h.bu.lt x hx; exact hlt⟩,⟨h.fr.os,h.fr.tape,h.fr.output,h.fr.size,h.fr.block,h.fr.own,fun x hx=>?_⟩⟩
 ·obtain ⟨v,h1,h2,h3⟩:=h.bu.obj k ob ho
  refine ⟨v,h1,h2.ext (iZ m S w b) (fun _ _=>rfl),fun x hx=>⟨fun hr=>.inl ((h3 x hx).1 hr),fun hr=>?_⟩⟩
  rintro (hs | rfl)
  ·exact (h3 x hx).2 hr hs
  ·exact hno k ob v ho h1 hx
 ·rcases hx with hx | rfl
  ·exact h.fr.sub x hx
  ·exact .inr (.inr hb)
theorem ez {g0:Nat} (hf:m g0=none) (v:Value):m.le (bd m g0 (some v)):=by
 intro g u hg
 rw [aa _ _ _ _ (fun e=>by subst e; rw [hf] at hg; cases hg)]; exact hg
theorem cZ (hf:∀ g v,m g=some v→g<σ.c):m σ.c=none:=by
 cases h:m σ.c with
 | none=>rfl
 | some v=>exact absurd (hf _ _ h) (Nat.lt_irrefl _)
theorem OO (hf:∀ g v,m g=some v→g<σ.c) (v:Value):m.le (bd m σ.c (some v)):=ez (cZ hf) v
theorem Inv.JJ {w':World} {row:Option Nat} (h:Inv W O S0 m S σ w) (id:Nat) (es:Nat) (ty:TypeId) (ap:Bool) (l:List AV) (v:Value) (n' g0 c':Nat) (hg0:m g0=none) (hc':∀ g v,m g=some v→g<c') (hgc:g0<c')
  (hg:w.grownBy w' row) (hes:0<es) (hl:mE es l) {xs:List Value} (hown:Cj w' ty es ap v l.length xs) (hxs:bR (bd m g0 (some v)) S w' (aK l) xs)
  (hrow:∀ b,row=some b→¬S b∧(O b∨W.heap.size≤b)∧∀ k o u,k≠id→σ.ob k=some o→m o.g=some u→u.ownBlock≠some b)
  (hv:∀ b,v.ownBlock=some b→row=some b∨w.heap.size≤b) :
  Inv W O S0 (bd m g0 (some v)) S ⟨bd σ.ob id (some ⟨g0,es,ty,false,ap,l⟩),n',c'⟩ w':=by
 have hle:=ez hg0 v
 have hS:∀ b,S b→w'.heap[b]?=w.heap[b]?:=fun b hb=>hg.block b (h.bu.lt b hb) fun e=>(hrow b e.symm).1 hb
 have hext:Ext m S w (bd m g0 (some v)) S w':=⟨hle,fun _ h=>h,hS⟩
 have hold:∀ k o,k≠id→σ.ob k=some o→∃ u,m o.g=some u∧(bd m g0 (some v)) o.g=some u∧qP (bd m g0 (some v)) S w' o u∧∀ b,u.ownBlock=some b→b<w.heap.size∧row≠some b:=by
  intro k o hk ho
  obtain ⟨u,h1,h2,_⟩:=h.bu.obj k o ho
  have hb:∀ b,u.ownBlock=some b→b<w.heap.size∧row≠some b:=fun b hb=>⟨bt h2 hb,fun e=>(hrow b e).2.2 k o u hk ho h1 hb⟩
  exact ⟨u,h1,hle _ _ h1,h2.ext hext fun b hbb=>hg.block b (hb b hbb).1 fun e=>(hb b hbb).2 e.symm,hb⟩
 refine ⟨⟨?_,?_,?_,?_⟩,⟨hg.os.trans h.fr.os,hg.tape.trans h.fr.tape,hg.output.trans h.fr.output,Nat.le_trans h.fr.size hg.size,?_,?_,h.fr.sub⟩⟩
 ·intro g u hu
  by_cases e:g=g0
  ·subst e; exact hgc
  ·rw [aa _ _ _ _ e] at hu; exact hc' g u hu
 ·intro k o ho
  by_cases e:k=id
  ·subst e
   simp only [az,Option.some.injEq] at ho
   subst ho
   refine ⟨v,az _ _ _,⟨hl,hes,xs,hown,hxs⟩,fun b hb=>⟨fun hr=>by simp at hr,fun _ hs=>?_⟩⟩
   rcases hv b hb with e | e
   ·exact (hrow b e).1 hs
   ·have:=h.bu.lt b hs; omega
  ·simp only [aa _ _ _ _ e] at ho
   obtain ⟨u,h1,h2,h3,_⟩:=hold k o e ho
   obtain ⟨u',h1',_,h4⟩:=h.bu.obj k o ho
   rw [h1] at h1'; obtain rfl:=Option.some.inj h1'
   exact ⟨u,h2,h3,h4⟩
 ·intro k k' o o' u u' b ho ho' hne hu hu' hb hb'
  by_cases e:k=id
  ·subst e
   simp only [az,Option.some.injEq] at ho
   simp only [aa _ _ _ _ (Ne.symm hne)] at ho'
   subst ho
   simp only [az,Option.some.injEq] at hu
   subst hu
   obtain ⟨u2,h1,h2,_,h5⟩:=hold k' o' (Ne.symm hne) ho'
   rw [h2] at hu'; obtain rfl:=Option.some.inj hu'
   have:=h5 b hb'
   rcases hv b hb with e | e
   ·exact this.2 e
   ·omega
  ·simp only [aa _ _ _ _ e] at ho
   by_cases e':k'=id
   ·subst e'
    simp only [az,Option.some.injEq] at ho'
    subst ho'
    simp only [az,Option.some.injEq] at hu'
    subst hu'
    obtain ⟨u2,h1,h2,_,h5⟩:=hold k o e ho
    rw [h2] at hu; obtain rfl:=Option.some.inj hu
    have:=h5 b hb
    rcases hv b hb' with e | e
    ·exact this.2 e
    ·omega
   ·simp only [aa _ _ _ _ e'] at ho'
    obtain ⟨u2,h1,h2,_,_⟩:=hold k o e ho
    obtain ⟨u3,h1',h2',_,_⟩:=hold k' o' e' ho'
    rw [h2] at hu; obtain rfl:=Option.some.inj hu
    rw [h2'] at hu'; obtain rfl:=Option.some.inj hu'
    exact h.bu.iB k k' o o' _ _ b ho ho' hne h1 h1' hb hb'
 ·intro b hb; have:=h.bu.lt b hb; have:=hg.size; omega
 ·intro b hb hO
  have:=h.fr.size
  rw [hg.block b (by omega) fun e=>by rcases (hrow b e.symm).2.1 with x | x; exact hO x; omega]
  exact h.fr.block b hb hO
 ·intro k o u b ho hro hu hb
  by_cases e:k=id
  ·subst e
   simp only [az,Option.some.injEq] at ho
   subst ho
   simp only [az,Option.some.injEq] at hu
   subst hu
   rcases hv b hb with e | e
   ·exact (hrow b e).2.1
   ·exact .inr (by have:=h.fr.size; omega)
  ·simp only [aa _ _ _ _ e] at ho
   obtain ⟨u2,h1,h2,_,_⟩:=hold k o e ho
   rw [h2] at hu; obtain rfl:=Option.some.inj hu
   exact h.fr.own k o _ b ho hro h1 hb
theorem Inv.k8 {w':World} {row:Option Nat} (h:Inv W O S0 m S σ w) (id:Nat) (es:Nat) (ty:TypeId) (ap:Bool) (l:List AV) (v:Value) (n' g0 c':Nat) (hg0:m g0=none) (hc':∀ g v,m g=some v→g<c') (hgc:g0<c')
  (hg:w.grownBy w' row) (hes:0<es) (hl:mE es l) {xs:List Value} (hown:jw w' ty es ap v l.length xs) (hxs:bR (bd m g0 (some v)) S w' (aK l) xs)
  (hrow:∀ b,row=some b→¬S b∧(O b∨W.heap.size≤b)∧∀ k o u,k≠id→σ.ob k=some o→m o.g=some u→u.ownBlock≠some b)
  (hv:∀ b,v.ownBlock=some b→row=some b∨w.heap.size≤b) :
  Inv W O S0 (bd m g0 (some v)) S ⟨bd σ.ob id (some ⟨g0,es,ty,false,ap,l⟩),n',c'⟩ w':=
 h.JJ id es ty ap l v n' g0 c' hg0 hc' hgc hg hes hl (.inl hown) hxs hrow hv
theorem Inv.fresh {w':World} {row:Option Nat} (h:Inv W O S0 m S σ w) (id:Nat) (es:Nat) (ty:TypeId) (ap:Bool) (l:List AV) (v:Value) (n':Nat)
  (hg:w.grownBy w' row) (hes:0<es) (hl:mE es l) {xs:List Value} (hown:jw w' ty es ap v l.length xs) (hxs:bR (bd m σ.c (some v)) S w' (aK l) xs)
  (hrow:∀ b,row=some b→¬S b∧(O b∨W.heap.size≤b)∧∀ k o u,k≠id→σ.ob k=some o→m o.g=some u→u.ownBlock≠some b)
  (hv:∀ b,v.ownBlock=some b→row=some b∨w.heap.size≤b) :
  Inv W O S0 (bd m σ.c (some v)) S ⟨bd σ.ob id (some ⟨σ.c,es,ty,false,ap,l⟩),n',σ.c+1⟩ w':=
 h.k8 id es ty ap l v n' σ.c (σ.c+1) (cZ h.bu.fresh) (fun g v hm=>Nat.lt_succ_of_lt (h.bu.fresh g v hm)) (Nat.lt_succ_self _) hg hes hl hown hxs hrow hv
theorem Inv.aD (h:Inv W O S0 m S σ w) (n:Nat):Inv W O S0 m S (σ.aD n) w:=by
 have hs:∀ k o,(σ.aD n).ob k=some o→σ.ob k=some o:=fun k o ho=>by
  simp only [St.aD] at ho; split at ho
  ·exact ho
  ·cases ho
 exact ⟨⟨h.bu.fresh,fun k o ho=>h.bu.obj k o (hs k o ho),fun k k' o o' v v' b ho ho'=>h.bu.iB k k' o o' v v' b (hs k o ho) (hs k' o' ho'),h.bu.lt⟩,
  ⟨h.fr.os,h.fr.tape,h.fr.output,h.fr.size,h.fr.block,fun k o v b ho=>h.fr.own k o v b (hs k o ho),h.fr.sub⟩⟩
end
end Go.Ab
