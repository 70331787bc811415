/- OWN WORK, put together by tools/asm.py, seat.py, mini.py. -/
import Derived.Test.YtcpckngdfjmbgaaGreatBaseD
namespace Go.Ab
open Go.RowKit
def EB (P:Program) (f:Nat) (args:Array Value) (w:World) (R:Ending→World→Prop):Prop:=
 (okF P f=true∧Calls P f args w R)∨∃ v w',(callFunc f args).run P w=.ok (.value v) w'∧R (.returned v) w'
theorem EB.mono {P:Program} {f:Nat} {args:Array Value} {w:World} {R R':Ending→World→Prop} (h:EB P f args w R) (hr:∀ e w',R e w'→R' e w'):EB P f args w R':=by
 rcases h with ⟨h1,h2⟩ | ⟨v,w',h1,h2⟩
 ·exact .inl ⟨h1,h2.mono hr⟩
 ·exact .inr ⟨v,w',h1,hr _ _ h2⟩
def xW (m:Mp) (σ:St) (b:Nat):Prop:=∃ k o v,σ.ob k=some o∧o.ro=false∧m o.g=some v∧v.ownBlock=some b
def HC (P:Program) (f:Nat) (args:List AV) (σ:St) (R:AV→St→Prop):Prop:=
 PX P f=true∧∀ (m:Mp) (S:Nat→Prop) (w:World) (vs:List Value),Be m S σ w→bR m S w args vs→
  EB P f vs.toArray w fun x w'=>∃ r σ' m' S' v,x=.returned v∧R r σ'∧Inv w (xW m σ) S m' S' σ' w'∧Ext m S w m' S' w'∧VR m' S' w' r v
section
variable {P : Program} {W : World} {O S0 : Nat → Prop} {m : Mp} {S : Nat → Prop} {σ : St} {w : World}
def cl (o:Oper):Bool:=match o.op with
 | .call c=>(match c.callee with
  | .builtin _=>false
  | _=>true)
 | _=>false
def Good (W:World) (O S0:Nat→Prop) (m:Mp) (S:Nat→Prop) (w:World) (g0:Nat) (o:Oper) (a:Act) (K:AV→St→Prop) (a':Act) (w':World):Prop:=
 ∃ x σ' m' S' v,a'=a.put o.dst v∧K x σ'∧Inv W O S0 m' S' σ' w'∧Ext m S w m' S' w'∧VR m' S' w' x v∧((∀ g,g≠g0→m' g=m g)∨cl o=true)
theorem bg {g0:Nat} {o:Oper} {a:Act} {K:AV→St→Prop} {Q:Exit→Act→World→Prop} {v:Value} {w':World} {x:AV} {σ':St} {m':Mp} {S':Nat→Prop}
  (hr:(execOp a.eval o).run P w=.ok (.value v) w') (hK:K x σ') (hI:Inv W O S0 m' S' σ' w') (hX:Ext m S w m' S' w') (hV:VR m' S' w' x v) (hm:∀ g,g≠g0→m' g=m g) :
  o.wp P a w (Good W O S0 m S w g0 o a K) Q:=by
 unfold Oper.wp
 rw [hr]
 exact ⟨x,σ',m',S',v,rfl,hK,hI,hX,hV,.inl hm⟩
theorem aj {g0:Nat} {o:Oper} {a:Act} {K:AV→St→Prop} {Q:Exit→Act→World→Prop} {v:Value} {x:AV}
  (hI:Inv W O S0 m S σ w) (hr:(execOp a.eval o).run P w=.ok (.value v) w) (hK:K x σ) (hV:VR m S w x v) :
  o.wp P a w (Good W O S0 m S w g0 o a K) Q:=bg hr hK hI (Ext.refl m S w) hV fun _ _=>rfl
theorem Inv.call {m':Mp} {S':Nat→Prop} {σ':St} {w':World} (h:Inv W O S0 m S σ w) (k:Inv w (xW m σ) S m' S' σ' w'):Inv W O S0 m' S' σ' w':=by
 refine ⟨k.bu,⟨k.fr.os.trans h.fr.os,k.fr.tape.trans h.fr.tape,k.fr.output.trans h.fr.output,Nat.le_trans h.fr.size k.fr.size,fun b hb hO=>?_,fun i o v b ho hro hm hb=>?_,fun b hb=>?_⟩⟩
 ·have:=h.fr.size
  rw [k.fr.block b (by omega) ?_]
  ·exact h.fr.block b hb hO
  ·rintro ⟨i,o,v,ho,hro,hm,hv⟩
   rcases h.fr.own i o v b ho hro hm hv with x | x
   ·exact hO x
   ·omega
 ·rcases k.fr.own i o v b ho hro hm hb with ⟨i',o',v',ho',hro',hm',hv'⟩ | x
  ·exact h.fr.own i' o' v' b ho' hro' hm' hv'
  ·have:=h.fr.size; exact .inr (by omega)
 ·rcases k.fr.sub b hb with x | ⟨i',o',v',ho',hro',hm',hv'⟩ | x
  ·exact h.fr.sub b x
  ·exact .inr (h.fr.own i' o' v' b ho' hro' hm' hv')
  ·have:=h.fr.size; exact .inr (.inr (by omega))
theorem tT {f:Nat} (h:okF P f=true) (args:Array Value) (w:World):(callFunc f args).run P w=.ok (.enter f args) w:=by
 unfold okF at h
 split at h
 ·rename_i fn hf
  simp only [Bool.and_eq_true,Bool.not_eq_true'] at h
  obtain ⟨h1,h2⟩:=h
  have h3:¬fn.body=none:=by cases hb:fn.body <;> simp_all
  have h4 : ¬ fn.name = "runtime.NumGoroutine" := by simpa using h2
  simp [callFunc,hf,h3,h4]
 ·cases h
theorem wK {g0:Nat} {o:Oper} {a:Act} {K:AV→St→Prop} {Q:Exit→Act→World→Prop} {f:Nat} {args:List AV} {vs:List Value}
  (hI:Inv W O S0 m S σ w) (hr:(execOp a.eval o).run P w=(callFunc f vs.toArray).run P w) (hH:HC P f args σ K) (hV:bR m S w args vs) (hcl:cl o=true) :
  o.wp P a w (Good W O S0 m S w g0 o a K) Q:=by
 obtain ⟨hok,h⟩:=hH
 unfold Oper.wp
 rw [hr]
 rcases h m S w vs hI.bu hV with ⟨hok,h⟩ | ⟨v,w',h1,r,σ',m',S',v',h2,hR,hI',hX,hv⟩
 ·rw [tT hok,Oper.upon_enter]
  refine h.mono fun x w' hx=>?_
  obtain ⟨r,σ',m',S',v,rfl,hR,hI',hX,hv⟩:=hx
  exact ⟨r,σ',m',S',v,rfl,hR,hI.call hI',hX,hv,.inr hcl⟩
 ·cases h2
  rw [h1,Oper.upon_value]
  exact ⟨r,σ',m',S',v,rfl,hR,hI.call hI',hX,hv,.inr hcl⟩
theorem Inv.Hm (h:Inv W O S0 m S σ w) {id g0 n' c':Nat} (hg0:m g0=none) (hc':∀ g v,m g=some v→g<c') (hgc:g0<c') {es:Nat} {ty:TypeId} {l:List AV} {xs:List Value} (hes:0<es) (hl:mE es l) (hx:bR m S w (aK l) xs) (hlen:l.length≤maxLen) :
  Inv W O S0 (bd m g0 (some (.slice (some ⟨w.heap.size,0,none⟩) l.length l.length))) S ⟨bd σ.ob id (some ⟨g0,es,ty,false,true,l⟩),n',c'⟩ (w.alloc (.cells xs.toArray ty))∧
  Ext m S w (bd m g0 (some (.slice (some ⟨w.heap.size,0,none⟩) l.length l.length))) S (w.alloc (.cells xs.toArray ty)):=by
 have hX:Ext m S w (bd m g0 (some (.slice (some ⟨w.heap.size,0,none⟩) l.length l.length))) S (w.alloc (.cells xs.toArray ty)):=
  ⟨ez hg0 _,fun _ h=>h,fun b hb=>Below.heap_alloc w _ b (h.bu.lt b hb)⟩
 refine ⟨h.k8 (row:=none) (xs:=xs) id es ty true l _ n' g0 c' hg0 hc' hgc (World.grownBy_alloc w _ none) hes hl ?_ (hx.ext hX) (fun b hb=>by cases hb) (fun b hb=>.inr (by simp [Value.ownBlock] at hb; omega)),hX⟩
 have hxl:xs.length=l.length * es:=by rw [hx.1,bp hl]
 refine ⟨hxl,.inr ⟨w.heap.size,l.length,l.length,xs.toArray,(0,0),rfl,?_,Nat.le_refl _,hlen,by simpa using hxl,?_,fun i _ h=>by simp at h,fun _=>rfl⟩⟩
 ·show (w.heap.push _)[w.heap.size]?=_
  simp
 ·simp only []
  rw [List.take_of_length_le (by omega)]
theorem VR.Du {es:Nat} {g b n:Nat} (id:Nat) {w:World}:VR (bd m g (some (.slice (some ⟨b,0,none⟩) n n))) S w (.ptr id g es 0 0) (.pointer (some ⟨b,0,none⟩)):=by
 have:=VR.ptr (m:=bd m g (some (.slice (some ⟨b,0,none⟩) n n))) (S:=S) (w:=w) (id:=id) (es:=es) (i:=0) (off:=0) (az m g _)
 simpa using this
theorem VR.Jl {es:Nat} {g b n:Nat} (id:Nat) {w:World}:VR (bd m g (some (.slice (some ⟨b,0,none⟩) n n))) S w (.sl id g es 0 n) (.slice (some ⟨b,0,none⟩) n n):=by
 have:=VR.sl (m:=bd m g (some (.slice (some ⟨b,0,none⟩) n n))) (S:=S) (w:=w) (id:=id) (es:=es) (off:=0) (n:=n) (az m g _) (by simp [bN]) rfl
 simpa [bZ] using this
theorem Ay {a:AV} {es:Nat} (h:mF es a):mE es [a]:=fun x hx=>by simp at hx; subst hx; exact h
theorem wN (a:AV):aK [a]=a.cells:=by simp [aK]
end
end Go.Ab
