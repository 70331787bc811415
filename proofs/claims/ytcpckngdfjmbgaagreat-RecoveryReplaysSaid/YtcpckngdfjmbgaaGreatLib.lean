/- OWN WORK, put together by tools/asm.py, seat.py, mini.py. -/
import Derived.Test.YtcpckngdfjmbgaaGreatCode3
set_option linter.unusedSimpArgs false
set_option linter.unusedVariables false
set_option maxRecDepth 100000
set_option maxHeartbeats 1000000
namespace Go.Proofs.Try
open Go.Ab Go Go.Proofs.Tryz
open Int renaming reduceEq → jA, reduceLT → jB, reduceLE → jC, reduceToNat → jD
open Go.Ab renaming iP → jM, iQ → jN, lZ → jO, iR → jP
open Nat renaming reduceLT → jE, reduceEqDiff → jF, reduceAdd → jG, reduceLeDiff → jH, reduceSub → jI, reduceMul → jJ, sub_zero → jK, sub_self → jL
theorem IU (n k:Int) (hk:0<k):(n.tmod k+k).tmod k=n % k:=by
 have h2:=Int.tmod_eq_emod (a:=n) (b:=k)
 have h3:=Int.emod_nonneg n (show k≠0 by omega)
 have h4:=Int.emod_lt_of_pos n hk
 have h5:0≤n.tmod k+k:=by rw [h2]; split <;> omega
 rw [Int.tmod_eq_emod_of_nonneg h5,Int.add_emod_right,h2]
 split
 ·simp
 ·rw [show ((k.natAbs:Nat):Int)=k by omega,Int.sub_emod_right]; exact Int.emod_emod_of_dvd n (Int.dvd_refl k)
theorem Lt (n k:Int) (hk:0<k):-k<n.tmod k∧n.tmod k<k:=by
 have h2:=Int.tmod_eq_emod (a:=n) (b:=k)
 have h3:=Int.emod_nonneg n (show k≠0 by omega)
 have h4:=Int.emod_lt_of_pos n hk
 by_cases h:0≤n∨k∣n
 ·rw [if_pos h] at h2; omega
 ·rw [if_neg h] at h2
  have:n % k≠0:=fun h0=>h (.inr (Int.dvd_of_emod_eq_zero h0))
  omega
def ints (l:List Int):List AV:=l.map (.int .i64)
theorem au (l:List Int):(ints l).length=l.length:=by simp [ints]
theorem bA (l:List Int) (i:Nat):(ints l)[i]?=(l[i]?).map (AV.int .i64):=by simp [ints]
theorem dp (l:List Int):∀ x∈ints l,x.cQ=true:=by simp [ints,go_sem]
theorem fU (l:List Int):∀ x∈ints l,mM 1 x:=by simp [ints,mM,go_sem]
structure Bd where
 lo:Int
 hi:Int
 deriving DecidableEq,Inhabited
def pw (b:Bd):AV:=.agg [.int .i64 b.lo,.int .i64 b.hi]
def cA (l:List Bd):List AV:=l.map pw
theorem aJ (l:List Bd):(cA l).length=l.length:=by simp [cA]
theorem dX (l:List Bd) (i:Nat):(cA l)[i]?=(l[i]?).map pw:=by simp [cA]
theorem mC (l:List Bd):∀ x∈cA l,x.cQ=true:=by simp [cA,pw,go_sem]
theorem qL (l:List Bd):∀ x∈cA l,mM 2 x:=by simp [cA,pw,mM,go_sem]
def Tk {α:Type} (f:α→α) (b:α):Nat→α
 | 0=>b
 | k+1=>f (Tk f b k)
theorem Cv (n k:Int) (hk:0<k) (hk2:k≤4611686018427387904):PC prog Jt [.int .i64 n,.int .i64 k] (.int .i64 (n % k)):=by
 have h1:=Lt n k hk
 refine ae Ke (by simp) ?_
 simp (disch:=omega) only [FH,go_sem,jF,↓reduceIte,reduceCtorEq,jO]
 exact ⟨by omega,by omega,aw.of_eq (by rw [IU n k hk]) rfl⟩
def bC (l:List Int) (at':Nat):AV:=.agg [.list 1 (ints l),.int .i64 at']
def bf (l:List Int) (at':Nat) (n:Int):Int × Nat:=if n<1∨l.length≤at' then (0,at') else (l.getD at' 0 % n,at'+1)
theorem aI (l:List Int) (at':Nat) (n:Int):0≤(bf l at' n).1∧((bf l at' n).1=0∨(bf l at' n).1<n):=by
 unfold bf
 split
 ·simp
 ·have h1:=Int.emod_nonneg (l.getD at' 0) (show n≠0 by omega)
  have h2:=Int.emod_lt_of_pos (l.getD at' 0) (show 0<n by omega)
  exact ⟨h1,.inr h2⟩
theorem IS {α:Type} (f:Nat→α) (i:Nat) (x:α) (h:f i=x):bd f i x=f:=by
 funext j; by_cases e:j=i
 ·subst e; rw [az,h]
 ·rw [aa _ _ _ _ e]
abbrev aA:TypeId:=75
theorem H4 (σ:St) (l:List Int):HC prog Js [.list 1 (ints l)] σ (fun r σ'=>r=.ptr σ.n σ.c 2 0 0∧σ'=σ.push 2 aA [bC l 0]):=by
 refine aM Kd (by simp) ?_
 simp only [FG,go_sem,jG,jH,↓reduceIte,reduceCtorEq]
 simp [bC]
theorem ai (σ:St) (id g:Nat) (ty:TypeId) (ap:Bool) (l:List Int) (at':Nat) (n:Int) (hob:σ.ob id=some ⟨g,2,ty,false,ap,[bC l at']⟩) (hn:n≤4611686018427387904) (hl:l.length≤9223372036854775807) :
  HC prog zP [.ptr id g 2 0 0,.int .i64 n] σ (fun r σ'=>r=.int .i64 (bf l at' n).1∧σ'=⟨bd σ.ob id (some ⟨g,2,ty,false,ap,[bC l (bf l at' n).2]⟩),σ.n,σ.c⟩):=by
 obtain ⟨ob,nn,cc⟩:=σ
 simp only at hob
 refine aM AR (by simp) ?_
 simp only [qD,go_sem,jF,jG,↓reduceIte,reduceCtorEq,bC]
 have no:(n<1∨l.length≤at')→AV.int IntKind.i64 0=AV.int IntKind.i64 (bf l at' n).fst∧St.mk ob nn cc=St.mk (bd ob id (some ⟨g,2,ty,false,ap,[.agg [.list 1 (ints l),.int .i64 (bf l at' n).2]]⟩)) nn cc:=by
  intro h
  rw [show bf l at' n=(0,at') by unfold bf; rw [if_pos h]]
  exact ⟨rfl,by have h1:=IS ob id _ hob; simp only [bC] at h1 ⊢; rw [h1]⟩
 refine bH rfl (fun h=>?_) (fun h=>?_) <;> simp (maxSteps:=1000000) only [go_sem,jF,jG,jH,↓reduceIte,reduceCtorEq,hob,bC,au]
 ·exact no (.inl h)
 refine ah (fun h2=>?_) (fun h2=>?_) <;> simp (maxSteps:=1000000) only [go_sem,jF,jG,jH,↓reduceIte,reduceCtorEq,hob,bC,au,bA]
 ·exact no (.inr (by omega))
 have hat:at' < l.length:=by omega
 have hg:l[at']?=some l[at']:=List.getElem?_eq_getElem hat
 have hd:bf l at' n=(l[at'] % n,at'+1):=by unfold bf; rw [if_neg (by omega)]; simp [List.getD_eq_getElem?_getD,hg]
 simp (maxSteps:=1000000) (disch:=omega) only [go_sem,hg,jO]
 refine ⟨by omega,by omega,ab (Cv _ n (by omega) (by omega)) (by simp [go_sem]) ?_⟩
 simp (maxSteps:=1000000) only [go_sem,↓reduceIte,hd]
 simp
def CY (σ:St) (id g:Nat) (t:List Int) (W:AV→Prop) (r:AV) (σ':St):Prop:=∃ r2 at2,aw ⟨fun i=>if i<σ.n then none else σ'.ob i,σ'.n,σ'.c⟩ r r2∧W r2∧σ'.ob id=some ⟨g,2,aA,false,true,[bC t at2]⟩∧∀ i,i<σ.n→i≠id→σ'.ob i=σ.ob i
def ek (σ:St) (id g:Nat) (t:List Int) (W:AV→Prop) (r:AV) (σ':St):Prop:=∃ at2 c,W r∧σ'=⟨bd (fun i=>if i<σ.n then σ.ob i else none) id (some ⟨g,2,aA,false,true,[bC t at2]⟩),σ.n,c⟩
theorem HC.wL {f:Nat} {args:List AV} {σ:St} {id g:Nat} {t:List Int} {W:AV→Prop} (hid:id<σ.n) (h:HC prog f args σ (CY σ id g t W)):HC prog f args σ (ek σ id g t W):=by
 refine HC.aE σ.n (HC.Tg (fun i=>decide (i<σ.n)) h ?_)
 rintro r σ' ⟨r2,at2,h1,h2,h3,h4⟩
 refine ⟨r2,by simpa using h1,at2,σ'.c,h2,?_⟩
 simp only [St.aE]
 congr 1
 funext i
 simp only [bd]
 by_cases e:i=id
 ·subst e; simp [hid,h3]
 ·rw [if_neg e]
  by_cases hi:i<σ.n
  ·simp [hi,h4 i hi e]
  ·simp [hi]
theorem ek.use {σ σ':St} {id g:Nat} {t:List Int} {W:AV→Prop} {r:AV} (h:ek σ id g t W r σ') (hid:id<σ.n) :
  W r∧σ'.n=σ.n∧(∃ at2,σ'.ob id=some ⟨g,2,aA,false,true,[bC t at2]⟩)∧∀ i,i<σ.n→i≠id→σ'.ob i=σ.ob i:=by
 obtain ⟨at2,c,h1,rfl⟩:=h
 exact ⟨h1,rfl,⟨at2,by simp [bd]⟩,fun i hi h2=>by simp [bd,h2,hi]⟩
theorem l6 {α:Type} (f:Nat→α) (i:Nat) (x y:α):bd (bd f i x) i y=bd f i y:=by funext j; by_cases e:j=i <;> simp [bd,e]
def RJ (σ:St) (es:Nat) (ty:TypeId) (l:List AV) (r:AV) (σ':St):Prop:=∃ g c,r=.sl (σ.n+1) g es 0 l.length∧σ'=⟨bd (bd σ.ob σ.n none) (σ.n+1) (some ⟨g,es,ty,false,true,l⟩),σ.n+2,c⟩
def Pf (σ:St) (es:Nat) (ty:TypeId) (l:List AV) (r:AV) (σ':St):Prop:=∃ g c o,r=.sl (σ.n+1) g es 0 l.length∧σ'=⟨bd (bd σ.ob σ.n (some o)) (σ.n+1) (some ⟨g,es,ty,false,true,l⟩),σ.n+2,c⟩
theorem HC.new {f:Nat} {args:List AV} {σ:St} {es:Nat} {ty:TypeId} {l:List AV} (h:HC prog f args σ (Pf σ es ty l)):HC prog f args σ (RJ σ es ty l):=by
 refine h.sub ?_
 rintro r σ' ⟨g,c,o,rfl,rfl⟩
 refine ⟨_,?_,g,c,rfl,rfl⟩
 intro i o' h
 simp only [bd] at h ⊢
 split at h
 ·rename_i hi; rw [if_pos hi]; exact h
 ·rename_i hi
  rw [if_neg hi]
  split at h
  ·cases h
  ·rename_i h2; rw [if_neg h2]; exact h
theorem Rs {L:List AV} {x z:AV} {i k m:Nat} (hi:i<L.length) (hk:k=L.length+1-i) (hm:m=1):(L.take i++List.replicate (L.length+1-i) z).take i++[x].take k++(L.take i++List.replicate (L.length+1-i) z).drop (i+m)=L.take i++x :: List.replicate (L.length-i) z:=by
 subst hk; subst hm
 have h1:(L.take i).length=i:=by simp; omega
 rw [List.take_left' h1,List.take_of_length_le (l:=[x]) (by simp; omega),List.drop_append,List.drop_of_length_le (l:=L.take i) (by omega),h1,Nat.add_sub_cancel_left,List.drop_replicate,show L.length+1-i-1=L.length-i by omega]
 simp
theorem Rr {L:List AV} {x z:AV} {i k l m:Nat} (hi:i<L.length) (hk:k=L.length-i) (hl:l=L.length-i) (hm:m=L.length-i):(L.take i++x :: List.replicate (L.length-i) z).take (i+1)++((L.drop i).take k).take l++(L.take i++x :: List.replicate (L.length-i) z).drop (i+1+m)=L.take i++x :: L.drop i:=by
 subst hk; subst hl; subst hm
 have h1:(L.take i++[x]).length=i+1:=by simp; omega
 rw [show L.take i++x :: List.replicate (L.length-i) z=(L.take i++[x])++List.replicate (L.length-i) z by simp,List.take_left' h1,List.take_of_length_le (l:=L.drop i) (by simp),List.take_of_length_le (l:=L.drop i) (by simp),List.drop_of_length_le (l:=(L.take i++[x])++List.replicate (L.length-i) z) (by rw [List.length_append,h1,List.length_replicate]; omega)]
 simp
theorem Rq {L:List AV} {i k m:Nat} (hi:i<L.length) (hk:k=L.length-i) (hm:m=L.length-i):L.take (i+1)++(L.drop i).take k++L.drop (i+1+m)=L.take (i+1)++L.drop i:=by
 subst hk; subst hm
 rw [List.take_of_length_le (l:=L.drop i) (by simp),List.drop_of_length_le (l:=L) (i:=i+1+(L.length-i)) (by omega),List.append_nil]
theorem Ro {L:List AV} {x:AV} {i k m:Nat} (hi:i<L.length) (hk:1≤k) (hm:m=1):(L.take (i+1)++L.drop i).take i++[x].take k++(L.take (i+1)++L.drop i).drop (i+m)=L.take i++x :: L.drop i:=by
 subst hm
 have h1:(L.take (i+1)).length=i+1:=by simp; omega
 rw [List.take_append_of_le_length (by omega),List.take_take,List.take_of_length_le (l:=[x]) (by simpa using hk),List.drop_left' h1,show min i (i+1)=i by omega]
 simp
def TX (σ:St) (id es:Nat) (ty:TypeId) (L:List AV) (r:AV) (τ:St):Prop:=
 ∃ id' g',r=.sl id' g' es 0 L.length∧(id'=id∨σ.n≤id')∧id' < τ.n∧σ.n≤τ.n∧τ.ob id'=some ⟨g',es,ty,false,true,L⟩∧∀ k,k<σ.n→k≠id→τ.ob k=σ.ob k
def GX (σ:St) (es:Nat) (ty:TypeId) (L:List AV) (r:AV) (τ:St):Prop:=∃ id g,r=.sl id g es 0 L.length∧σ.n≤id∧id<τ.n∧τ.ob id=some ⟨g,es,ty,false,true,L⟩∧∀ i,i<σ.n→τ.ob i=σ.ob i
def aZ (X:AV) (i:Nat):Prop:=∀ g es o n,X≠.sl i g es o n
def cw (es:Nat) (ty:TypeId) (σ:St) (L:List AV) (X:AV):Prop:=(X=.nil∧L=[])∨∃ id g,X=.sl id g es 0 L.length∧id<σ.n∧σ.ob id=some ⟨g,es,ty,false,true,L⟩
theorem aZ.em {X:AV} {i:Nat} (h:¬ ¬aZ X i):aZ X i:=Classical.byContradiction h
theorem aZ.nil (i:Nat):aZ .nil i:=fun _ _ _ _ h=>by cases h
theorem aZ.ne {id g es o n i:Nat} (h:aZ (.sl id g es o n) i):¬id=i:=fun e=>h _ _ _ _ (by rw [e])
theorem aZ.sl {id g es o n i:Nat} (h:¬id=i):aZ (.sl id g es o n) i:=fun _ _ _ _ hh=>by cases hh; exact h rfl
def Kp (σ:St) (X:AV) (τ:St) (X':AV):Prop:=σ.n≤τ.n∧(∀ i,i<σ.n→aZ X i→τ.ob i=σ.ob i)∧∀ i,i<σ.n→aZ X i→aZ X' i
theorem Kp.trans {σ τ ρ:St} {X Y Z:AV} (h:Kp σ X τ Y) (k:Kp τ Y ρ Z):Kp σ X ρ Z:=
 ⟨Nat.le_trans h.1 k.1,fun i hi hx=>(k.2.1 i (Nat.lt_of_lt_of_le hi h.1) (h.2.2 i hi hx)).trans (h.2.1 i hi hx),fun i hi hx=>k.2.2 i (Nat.lt_of_lt_of_le hi h.1) (h.2.2 i hi hx)⟩
section
variable {es : Nat} {ty : TypeId} {σ τ : St} {L : List AV} {X : AV}
theorem cw.nil:cw es ty σ [] .nil:=.inl ⟨rfl,rfl⟩
theorem cw.one (h:cw es ty σ L X):X.one=true:=by rcases h with ⟨rfl,_⟩ | ⟨id,g,rfl,_⟩ <;> rfl
theorem cw.flat (h:cw es ty σ L X):X.flat=true:=by rcases h with ⟨rfl,_⟩ | ⟨id,g,rfl,_⟩ <;> rfl
theorem cw.cells (h:cw es ty σ L X):X.cells=[X]:=by rcases h with ⟨rfl,_⟩ | ⟨id,g,rfl,_⟩ <;> rfl
theorem cw.move (h:cw es ty σ L X) (hn:σ.n≤τ.n) (ho:∀ i,i<σ.n→¬aZ X i→τ.ob i=σ.ob i):cw es ty τ L X:=by
 rcases h with h | ⟨id,g,rfl,h2,h3⟩
 ·exact .inl h
 ·exact .inr ⟨id,g,rfl,Nat.lt_of_lt_of_le h2 hn,by rw [ho id h2 (fun h=>h _ _ _ _ rfl)]; exact h3⟩
theorem cw.H2 (h:cw es ty σ L X) {i:Nat} (hi:σ.n≤i):aZ X i:=by
 rcases h with ⟨rfl,_⟩ | ⟨id,g,rfl,h2,_⟩
 ·exact aZ.nil i
 ·exact aZ.sl (by omega)
theorem cw.mF (h:cw es ty σ L X) (ho:∀ i,i<σ.n→¬aZ X i→τ.ob i=σ.ob i) (hp:∀ x∈L,x.cQ=true) (hk:∀ x∈L,mM es x):aw τ X (.list es L):=by
 rcases h with ⟨rfl,rfl⟩ | ⟨id,g,rfl,h2,h3⟩
 ·exact .nl es
 ·exact aw.dk (by rw [ho id h2 (fun h=>h _ _ _ _ rfl)]; exact h3) rfl hp hk
theorem bE {b:Nat} {a:AV} {K:AV→St→Prop} (h:cw es ty σ L X) (hm:L.length+1≤9223372036854775807) (hb:(L.length+1) * b≤140737488355328)
  (k:∀ X' τ,cw es ty τ (L++[a]) X'→Kp σ X τ X'→K X' τ):m0 es b ty X (.list es [a]) σ K:=by
 rcases h with ⟨rfl,rfl⟩ | ⟨id,g,rfl,h2,h3⟩
 ·rw [jP]
  simp only [List.length_nil,Nat.zero_add] at hb
  refine ⟨by simp [maxLen],by simpa using hb,fun h=>by simp at h,fun _=>k _ _ (.inr ⟨σ.n,σ.c,rfl,Nat.lt_succ_self _,by simp [St.push,bd]⟩) ⟨Nat.le_succ _,fun i hi _=>?_,fun i hi _=>aZ.sl (by omega)⟩⟩
  simp only [St.push]; rw [aa _ _ _ _ (by omega)]
 ·rw [EG]
  refine ⟨_,h3,rfl,rfl,rfl,rfl,rfl,rfl,by rw [nB]; simpa using hm,by simpa using hb,k _ _ (.inr ⟨id,σ.c,by simp,h2,by simp [St.renew,bd]⟩) ⟨Nat.le_refl _,fun i hi hx=>?_,fun i hi hx=>aZ.sl hx.ne⟩⟩
  simp only [St.renew]
  rw [aa _ _ _ _ (fun e=>hx.ne e.symm)]
theorem db {b:Nat} {M:List AV} {K:AV→St→Prop} (h:cw es ty σ L X) (hm:L.length+M.length≤9223372036854775807) (hb:(L.length+M.length) * b≤140737488355328)
  (k:∀ X' τ,cw es ty τ (L++M) X'→Kp σ X τ X'→K X' τ):m0 es b ty X (.list es M) σ K:=by
 rcases h with ⟨rfl,rfl⟩ | ⟨id,g,rfl,h2,h3⟩
 ·rw [jP]
  simp only [List.length_nil,Nat.zero_add] at hm hb
  refine ⟨by rw [nB]; omega,hb,fun h=>k _ _ (.inl ⟨rfl,by rw [h]; rfl⟩) ⟨Nat.le_refl _,fun _ _ _=>rfl,fun _ _ h=>h⟩,fun _=>k _ _ (.inr ⟨σ.n,σ.c,rfl,Nat.lt_succ_self _,by simp [St.push,bd]⟩) ⟨Nat.le_succ _,fun i hi _=>?_,fun i hi _=>aZ.sl (by omega)⟩⟩
  simp only [St.push]; rw [aa _ _ _ _ (by omega)]
 ·rw [EG]
  refine ⟨_,h3,rfl,rfl,rfl,rfl,rfl,rfl,by rw [nB]; exact hm,hb,k _ _ (.inr ⟨id,σ.c,by simp,h2,by simp [St.renew,bd]⟩) ⟨Nat.le_refl _,fun i hi hx=>?_,fun i hi hx=>aZ.sl hx.ne⟩⟩
  simp only [St.renew]
  rw [aa _ _ _ _ (fun e=>hx.ne e.symm)]
end
theorem GX.UF {σ:St} {es:Nat} {ty:TypeId} {L:List AV} {r:AV} {τ:St} (h:GX σ es ty L r τ):cw es ty τ L r∧σ.n≤τ.n∧(∀ i,i<σ.n→τ.ob i=σ.ob i)∧∀ i,i<σ.n→aZ r i:=by
 obtain ⟨id,g,rfl,h1,h2,h3,h4⟩:=h
 exact ⟨.inr ⟨id,g,rfl,h2,h3⟩,by omega,h4,fun i hi=>aZ.sl (by omega)⟩
inductive GW (σ:St):List AV→List AV→Prop
 | nil:GW σ [] []
 | cons {a b:AV} {l r:List AV} (h:aw σ a b) (k:GW σ l r):GW σ (a :: l) (b :: r)
theorem GW.get {σ:St} {l r:List AV} (h:GW σ l r):l.length=r.length∧∀ (i:Nat) (x y:AV),l[i]?=some x→r[i]?=some y→aw σ x y:=by
 induction h with
 | nil=>exact ⟨rfl,fun i x y h=>by simp at h⟩
 | cons h k ih=>
  refine ⟨by simp [ih.1],fun i x y hx hy=>?_⟩
  cases i with
  | zero=>simp at hx hy; subst hx; subst hy; exact h
  | succ i=>exact ih.2 i x y (by simpa using hx) (by simpa using hy)
theorem aw.ag {σ:St} {l r:List AV} (h:GW σ l r):aw σ (.agg l) (.agg r):=.agg h.get.1 h.get.2
theorem aw.tu {σ:St} {l r:List AV} (h:GW σ l r):aw σ (.tuple l) (.tuple r):=.tuple h.get.1 h.get.2
theorem aw.e {σ:St} {a:AV} (h:a.cQ=true):aw σ a a:=.pure h
def HP (a b:AV):Prop:=∀ (S:Nat→Prop) (w:World) (v:Value),VP S w a v→VP S w b v
theorem HP.rfl {a:AV}:HP a a:=fun _ _ _ h=>h
theorem HP.nil (es:Nat):HP .nil (.list es []):=fun S w v h=>by cases h; exact .bT _ _ _
inductive oQ:List AV→List AV→Prop
 | nil:oQ [] []
 | cons {a b:AV} {l r:List AV} (h:HP a b) (k:oQ l r):oQ (a :: l) (b :: r)
theorem oQ.get {l r:List AV} (h:oQ l r):l.length=r.length∧∀ (j:Nat) (y:AV),r[j]?=some y→∃ x,l[j]?=some x∧HP x y:=by
 induction h with
 | nil=>exact ⟨Eq.refl _,fun j y h=>by simp at h⟩
 | cons h k ih=>
  refine ⟨by simp [ih.1],fun j y hy=>?_⟩
  cases j with
  | zero=>simp at hy; subst hy; exact ⟨_,Eq.refl _,h⟩
  | succ j=>exact ih.2 j y (by simpa using hy)
theorem oQ.refl:∀ (l:List AV),oQ l l
 | []=>.nil
 | _ :: l=>.cons .rfl (oQ.refl l)
theorem HP.agg {l r:List AV} (h:oQ l r):HP (.agg l) (.agg r):=fun S w v hv=>by
 cases hv with
 | agg hl hh=>
  refine .agg (by rw [hl,h.get.1]) fun j y u hy hu=>?_
  obtain ⟨x,hx,hxy⟩:=h.get.2 j y hy
  exact hxy S w u (hh j x u hx hu)
theorem oS {P:Program} {f:Nat} {args args':List AV} {r:AV} (h:PC P f args' r) (k:oQ args args'):PC P f args r:=
 ⟨h.1,fun S w vs hlt hv=>h.2 S w vs hlt ⟨by rw [hv.1,k.get.1],fun j y u hy hu=>by obtain ⟨x,hx,hxy⟩:=k.get.2 j y hy; exact hxy S w u (hv.2 j x u hx hu)⟩⟩
def ER (es:Nat) (σ:St) (L:List AV) (E:AV):Prop:=
 (E=.nil∧L=[])∨E=.list es L∨∃ id g off o,E=.sl id g es off L.length∧id<σ.n∧σ.ob id=some o∧o.g=g∧o.es=es∧off+L.length≤o.l.length∧(o.l.drop off).take L.length=L
theorem nG {af:List Nat} {R:List (Nat × Nat)} {ob ob':Nat→Option aV} {n:Nat} (h:∀ x∈R,x.2<n) (k:∀ i,i<n→ob' i=ob i):nH af R ob ob':=fun x hx=>.inr (k _ (h x hx))
theorem yG {p n:Nat} {l:List Nat} (h:∀ i∈l,i<n):∀ x∈cN p l,x.2<n:=fun x hx=>by
 obtain ⟨i,hi,rfl⟩:=List.mem_map.1 hx
 exact h i hi
theorem Ev {n:Nat} {R S:List (Nat × Nat)} (h:∀ x∈R,x.2<n) (k:∀ x∈S,x.2<n):∀ x∈R++S,x.2<n:=fun x hx=>(List.mem_append.1 hx).elim (h x) (k x)
section
variable {es : Nat} {σ τ : St} {L : List AV} {E : AV}
theorem ER.OM {ty:TypeId} (h:cw es ty σ L E):ER es σ L E:=by
 rcases h with h | ⟨id,g,rfl,h2,h3⟩
 ·exact .inl h
 ·exact .inr (.inr ⟨id,g,0,_,rfl,h2,h3,rfl,rfl,by simp,by simp⟩)
theorem ER.dk {id g:Nat} {ty:TypeId} {ro ap:Bool} (h:σ.ob id=some ⟨g,es,ty,ro,ap,L⟩) (hn:id<σ.n):ER es σ L (.sl id g es 0 L.length):=.inr (.inr ⟨id,g,0,_,rfl,hn,h,rfl,rfl,by simp,by simp⟩)
theorem ER.list (es:Nat) (σ:St) (L:List AV):ER es σ L (.list es L):=.inr (.inl rfl)
theorem ER.one (h:ER es σ L E):E.one=true:=by rcases h with ⟨rfl,_⟩ | rfl | ⟨_,_,_,_,rfl,_⟩ <;> rfl
theorem ER.flat (h:ER es σ L E):E.flat=true:=by rcases h with ⟨rfl,_⟩ | rfl | ⟨_,_,_,_,rfl,_⟩ <;> rfl
theorem ER.cells (h:ER es σ L E):E.cells=[E]:=by rcases h with ⟨rfl,_⟩ | rfl | ⟨_,_,_,_,rfl,_⟩ <;> rfl
theorem ER.kR (h:ER es σ L E):∀ i∈E.kR,i<σ.n:=by
 rcases h with ⟨rfl,_⟩ | rfl | ⟨id,_,_,_,rfl,h,_⟩ <;> intro i hi
 ·cases hi
 ·cases hi
 ·obtain rfl:i=id:=by simpa [AV.kR] using hi
  exact h
theorem ER.move (h:ER es σ L E) (hn:σ.n≤τ.n) (ho:∀ i,i<σ.n→¬aZ E i→∀ o,σ.ob i=some o→∃ b,τ.ob i=some { o with ro:=b }):ER es τ L E:=by
 rcases h with h | h | ⟨id,g,off,o,rfl,h1,h2,h3,h4,h5,h6⟩
 ·exact .inl h
 ·exact .inr (.inl h)
 ·obtain ⟨b,hb⟩:=ho id h1 (fun h=>h _ _ _ _ rfl) o h2
  exact .inr (.inr ⟨id,g,off,_,rfl,Nat.lt_of_lt_of_le h1 hn,hb,h3,h4,h5,h6⟩)
theorem ER.bJ (h:ER es σ L E) (hn:σ.n≤τ.n) (ho:∀ i,i<σ.n→¬aZ E i→τ.ob i=σ.ob i):ER es τ L E:=
 h.move hn fun i hi h2 o h3=>⟨o.ro,by rw [ho i hi h2]; exact h3⟩
theorem ER.mF (h:ER es σ L E) (hp:∀ x∈L,x.cQ=true) (hk:∀ x∈L,mM es x) (ho:∀ i,i<σ.n→¬aZ E i→∀ o,σ.ob i=some o→∃ b,τ.ob i=some { o with ro:=b }):aw τ E (.list es L):=by
 rcases h with ⟨rfl,rfl⟩ | rfl | ⟨id,g,off,o,rfl,h1,h2,h3,h4,h5,h6⟩
 ·exact .nl es
 ·exact .pure rfl
 ·obtain ⟨b,hb⟩:=ho id h1 (fun h=>h _ _ _ _ rfl) o h2
  refine .sl hb h3 h4 h5 (by simp only []; rw [h6]) (fun i x y hx hy=>?_) hk
  simp only [] at hx
  rw [h6,hy] at hx
  obtain rfl:=Option.some.inj hx
  exact .pure (hp _ (List.mem_of_getElem? hy))
theorem ER.len (h:ER es σ L E) {K:AV→St→Prop} (k:K (.int .i64 L.length) σ):im E σ K:=by
 rcases h with ⟨rfl,rfl⟩ | rfl | ⟨id,g,off,o,rfl,_⟩
 ·simpa [im] using k
 ·simpa [im] using k
 ·simpa [im] using k
theorem ER.drop {K:AV→St→Prop} {kd:IntKind} {lo:Int} {k:Nat} (h:ER es σ L E) (hlo:lo=k) (hk:k≤L.length) (f:∀ E',ER es σ (L.drop k) E'→(∀ i,aZ E i→aZ E' i)→K E' σ):ji es E (some (.int kd lo)) none σ K:=by
 subst hlo
 rcases h with ⟨rfl,rfl⟩ | rfl | ⟨id,g,off,o,rfl,h1,h2,h3,h4,h5,h6⟩
 ·obtain rfl:k=0:=by simpa using hk
  exact ⟨by simp,by simp,f _ (.inl ⟨rfl,rfl⟩) fun _ h=>h⟩
 ·refine ⟨rfl,by omega,by simpa using hk,?_⟩
  show K (.list es ((L.take L.length).drop (k:Int).toNat)) σ
  rw [List.take_length,Int.toNat_natCast]
  exact f _ (.inr (.inl rfl)) fun _ _ _ _ _ _ h=>(by cases h)
 ·refine ⟨rfl,⟨_,h2,h3⟩,by omega,by simpa using hk,?_⟩
  show ((k:Int).toNat=L.length→K (.list es []) σ)∧((k:Int).toNat<L.length→K (.sl id g es (off+(k:Int).toNat) (L.length-(k:Int).toNat)) σ)
  rw [Int.toNat_natCast]
  refine ⟨fun h=>f _ (.inr (.inl ?_)) fun _ _ _ _ _ _ h=>(by cases h),fun h=>f _ (.inr (.inr ⟨id,g,off+k,o,by simp,h1,h2,h3,h4,by simp; omega,?_⟩)) fun i hi=>aZ.sl (aZ.ne hi)⟩
  ·rw [h,List.drop_length]
  ·have:=congrArg (List.drop k) h6
   rw [←this]
   simp [List.drop_take,Nat.min_eq_left (show L.length-k≤o.l.length-(off+k) by omega)]
theorem ER.take {K:AV→St→Prop} {kd:IntKind} {hi:Int} {k:Nat} (h:ER es σ L E) (hhi:hi=k) (hk:k≤L.length) (f:∀ E',ER es σ (L.take k) E'→(∀ i,aZ E i→aZ E' i)→K E' σ):ji es E none (some (.int kd hi)) σ K:=by
 subst hhi
 rcases h with ⟨rfl,rfl⟩ | rfl | ⟨id,g,off,o,rfl,h1,h2,h3,h4,h5,h6⟩
 ·obtain rfl:k=0:=by simpa using hk
  exact ⟨by simp,by simp,f _ (.inl ⟨rfl,rfl⟩) fun _ h=>h⟩
 ·refine ⟨rfl,by omega,by simpa using hk,?_⟩
  show K (.list es ((L.take (k:Int).toNat).drop 0)) σ
  rw [List.drop_zero,Int.toNat_natCast]
  exact f _ (.inr (.inl rfl)) fun _ _ _ _ _ _ h=>(by cases h)
 ·refine ⟨rfl,⟨_,h2,h3⟩,by omega,by simpa using hk,?_⟩
  show (0=(k:Int).toNat→K (.list es []) σ)∧(0<(k:Int).toNat→K (.sl id g es off (k:Int).toNat) σ)
  rw [Int.toNat_natCast]
  refine ⟨fun h=>f _ (.inr (.inl ?_)) fun _ _ _ _ _ _ h=>(by cases h),fun h=>f _ (.inr (.inr ⟨id,g,off,o,by simp [Nat.min_eq_left hk],h1,h2,h3,h4,by simp; omega,?_⟩)) fun i hi=>aZ.sl (aZ.ne hi)⟩
  ·rw [←h]; simp
  ·have:=congrArg (List.take k) h6
   rw [←this]
   simp [List.take_take,Nat.min_eq_left (show min k L.length≤o.l.length-off by omega)]
theorem ER.at (h:ER es σ L E) {k:Nat} (hk:k<L.length):E=.list es L∨∃ id g off o,E=.sl id g es off L.length∧id<σ.n∧σ.ob id=some o∧o.g=g∧o.es=es∧off+L.length≤o.l.length∧o.l[off+k]?=L[k]?:=by
 rcases h with ⟨rfl,rfl⟩ | rfl | ⟨id,g,off,o,rfl,h1,h2,h3,h4,h5,h6⟩
 ·simp at hk
 ·exact .inl rfl
 ·refine .inr ⟨id,g,off,o,rfl,h1,h2,h3,h4,h5,?_⟩
  have:=congrArg (fun z=>z[k]?) h6
  simp only [List.getElem?_take,if_pos hk,List.getElem?_drop] at this
  exact this
theorem xf {b:Nat} {ty:TypeId} {X:AV} {K:AV→St→Prop} (h:ER es σ L E) (k:m0 es b ty X (.list es L) σ K):m0 es b ty X E σ K:=by
 rcases h with ⟨rfl,rfl⟩ | rfl | ⟨id,g,off,o,rfl,h1,h2,h3,h4,h5,h6⟩
 ·obtain ⟨_,_,k⟩:=k
  exact ⟨fun _ _ h=>(by cases h),fun _ _ _ _ _ h=>(by rcases h with h | ⟨_,h⟩ <;> cases h),k⟩
 ·exact k
 ·obtain ⟨_,_,k⟩:=k
  refine ⟨fun _ _ h=>(by cases h),fun _ _ _ _ _ h=>(by rcases h with h | ⟨_,h⟩ <;> cases h; rfl),o,h2,h3,h4,h5,?_⟩
  rw [h6]
  exact k
end
def O0 (t:List Int):Bool:=decide ((t.length:Int)≤500)
theorem H5 (t:List Int):PC prog Ju [.list 1 (ints t)] (.bool (O0 t)):=by
 refine ae Kf (by simp) ?_
 simp only [FI,go_sem,↓reduceIte,reduceCtorEq,au]
 exact aw.of_eq rfl rfl
theorem bW {α:Type} {a b:List α} (hl:a.length=b.length) (h:∀ j,j<a.length→a[j]?=b[j]?):a=b:=by
 apply List.ext_getElem? ; intro j
 by_cases hj:j<a.length
 ·exact h j hj
 ·rw [List.getElem?_eq_none (by omega),List.getElem?_eq_none (by omega)]
theorem Ol {c:List AV} (h:(Sh.slice 1 (.int .i64)).R c):∃ L:List Int,c=[.list 1 (ints L)]∧L.length≤9223372036854775807∧∀ n∈L,(Lit.int .i64 n).wf=true:=by
 obtain ⟨xs,rfl,hl,h⟩:=h
 obtain ⟨L,rfl,hL⟩:=GF (f:=AV.int .i64) (Q:=fun n=>(Lit.int .i64 n).wf=true) fun x hx=>by
  obtain ⟨cs,hr,_,rfl⟩:=h x hx
  obtain ⟨a,rfl,ha⟩:=hr
  exact ⟨a,ha,rfl⟩
 exact ⟨L,rfl,by simpa using hl,hL⟩
theorem wf_u8 {n:Int} (h:(Lit.int .u8 n).wf=true):0≤n∧n≤255:=by
 simp [Lit.wf,IntKind.min,IntKind.max,IntKind.signed,IntKind.bits] at h; omega
def sb (s:ByteArray):List Int:=s.data.toList.map fun b=>(b.toNat:Int)
theorem bQ (s:ByteArray):(sb s).length=s.size:=by simp [sb]
theorem G6 (s:ByteArray):∀ x∈sb s,0≤x∧x≤255:=by
 intro x hx
 obtain ⟨b,_,rfl⟩:=List.mem_map.1 hx
 have:=b.toNat_lt
 omega
theorem gY (s:ByteArray) (i:Nat):0≤(sb s).getD i 0∧(sb s).getD i 0≤255:=by
 rw [List.getD_eq_getElem?_getD]
 by_cases h:i<(sb s).length
 ·rw [List.getElem?_eq_getElem h]; exact G6 s _ (List.getElem_mem h)
 ·rw [List.getElem?_eq_none (by omega)]; simp
theorem G4 (s:ByteArray) (a:Int) (h0:0≤a) (h1:a<s.size):(if 0≤a then (s[a.toNat]?).map fun b=>AV.int .u8 b.toNat else none)=some (.int .u8 ((sb s).getD a.toNat 0)):=by
 rw [if_pos h0]
 have h:a.toNat<s.size:=by omega
 rw [getElem?_pos s a.toNat h]
 simp only [Option.map_some,Option.some.injEq,AV.int.injEq,true_and]
 rw [List.getD_eq_getElem?_getD,List.getElem?_eq_getElem (by rw [bQ]; exact h)]
 simp [sb]
 rfl
theorem EM (s:ByteArray) (k:Nat) (h1:k<s.size):(if 0≤(k:Int) then Option.map (fun b=>AV.int .u8 ↑b.toNat) s[k]? else none)=some (.int .u8 ((sb s).getD k 0)):=by
 have:=G4 s k (by omega) (by omega)
 simpa using this
theorem FK (x:Int) (h0:0≤x) (h1:x≤1125899906842624):BM .shl .i64 x .u64 8=some (.int .i64 (x * 256)):=by
 simp only [BM,IntKind.bits]
 rw [if_pos (by omega)]
 have:(2:Int) ^ min (8:Int).toNat 64=256:=by decide
 rw [this,jO (by omega) (by omega)]
theorem FJ (x:Int):BM .shr .i64 x .u64 8=some (.int .i64 (x / 256)):=by
 simp only [BM,IntKind.bits]
 rw [if_pos (by omega)]
 have:(2:Int) ^ min (8:Int).toNat 64=256:=by decide
 rw [this,Int.fdiv_eq_ediv_of_nonneg _ (by omega)]
theorem HJ (x b:Int) (h0:0≤x) (h1:x≤1125899906842624) (h2:0≤b) (h3:b≤255):BM .or .i64 (x * 256) .i64 b=some (.int .i64 (x * 256+b)):=by
 show some (AV.int .i64 (IntKind.i64.wrap ((BitVec.ofInt 64 (x * 256) ||| BitVec.ofInt 64 b:BitVec 64).toNat)))=_
 have e1:(BitVec.ofInt 64 (x * 256)).toNat=2 ^ 8 * x.toNat:=by rw [BitVec.toNat_ofInt]; omega
 have e2:(BitVec.ofInt 64 b).toNat=b.toNat:=by rw [BitVec.toNat_ofInt]; omega
 rw [BitVec.toNat_or,e1,e2,←Nat.two_pow_add_eq_or_of_lt (by omega:b.toNat<2 ^ 8)]
 rw [jO (by omega) (by omega)]
 congr 2
 omega
theorem wrap_u8 (n:Int):IntKind.u8.wrap n=n % 256:=by simp [IntKind.wrap,IntKind.bits,IntKind.signed]
def gM:List Int→Int→Int→Int × Int
 | [],a,b=>(a,b)
 | x :: r,a,b=>gM r ((a+x) % 65521) ((b+(a+x) % 65521) % 65521)
def pK (s:ByteArray):Int:=65536 * (gM (sb s) 1 0).2+(gM (sb s) 1 0).1
theorem qZ (l:List Int) (k:Nat) (h:k<l.length):l.drop k=l.getD k 0 :: l.drop (k+1):=by
 rw [List.drop_eq_getElem_cons h,List.getD_eq_getElem?_getD,List.getElem?_eq_getElem h]; rfl
theorem nk (s:ByteArray) (hs:s.size≤9223372036854775807):PC prog xW [.str s] (.int .i64 (pK s)):=by
 refine ae yo (by simp) ?_
 simp only [pc,go_sem,↓reduceIte,reduceCtorEq]
 refine bq [3,4,5,8,9,10,11,12,13,14,15,16,17,18,19,20,21,22] (by kernel_rfl) s.size (fun k e _=>∃ a b,e 8=.int .i64 k∧e 3=.int .i64 a∧e 4=.int .i64 b∧0≤a∧a<65521∧0≤b∧b<65521∧gM (sb s) 1 0=gM ((sb s).drop k) a b) ?_ ?_
 ·exact ⟨1,0,(by first | rfl | (simp (disch:=omega) only [go_sem,jA,jB,jC,jD,jE,jF,jG,jH,jI,jJ,↓reduceIte,reduceCtorEq,jP,jO,jM,jN]; try rfl)),(by first | rfl | (simp (disch:=omega) only [go_sem,jA,jB,jC,jD,jE,jF,jG,jH,jI,jJ,↓reduceIte,reduceCtorEq,jP,jO,jM,jN]; try rfl)),(by first | rfl | (simp (disch:=omega) only [go_sem,jA,jB,jC,jD,jE,jF,jG,jH,jI,jJ,↓reduceIte,reduceCtorEq,jP,jO,jM,jN]; try rfl)),by omega,by omega,by omega,by omega,by simp⟩
 ·rintro k fe ob c hk ⟨a,b,h8,h3,h4,a0,a1,b0,b1,hgo⟩
  simp (maxSteps:=1000000) only [go_sem,jF,↓reduceIte] at h8 h3 h4
  simp (maxSteps:=1000000) only [go_sem,jF,↓reduceIte,h8]
  refine ah (fun hlt=>?_) (fun hge=>?_)
  ·have hks:k<s.size:=by omega
   rw [qZ _ _ (by rw [bQ]; exact hks),gM] at hgo
   have hx:=gY s k
   simp (maxSteps:=1000000) (disch:=omega) only [go_sem,jF,↓reduceIte,reduceCtorEq,h3,h4]
   refine ⟨_,EM s k hks,?_⟩
   generalize (sb s).getD k 0=x at *
   simp (maxSteps:=1000000) (disch:=omega) only [go_sem,jA,jF,↓reduceIte,jO]
   repeat (refine And.intro (by first | omega | (rw [nB]; omega) | (simp [maxLen]; done) | (simp [maxLen]; omega)) ?_)
   rw [Int.tmod_eq_emod_of_nonneg (by omega:0≤a+x)]
   generalize hp:(a+x) % 65521=p at *
   have hp0:0≤p:=by omega
   simp (maxSteps:=1000000) (disch:=omega) only [go_sem,jO]
   repeat (refine And.intro (by first | omega | (rw [nB]; omega) | (simp [maxLen]; done) | (simp [maxLen]; omega)) ?_)
   rw [Int.tmod_eq_emod_of_nonneg (by omega:0≤b+p)]
   try simp (maxSteps:=1000000) (disch:=omega) only [go_sem,jA,jB,jC,jD,jE,jF,jG,jH,jI,jJ,↓reduceIte,reduceCtorEq,jP,jO,h8]
   refine bj hks ⟨p,(b+p) % 65521,(by first | rfl | (simp (disch:=omega) only [go_sem,jA,jB,jC,jD,jE,jF,jG,jH,jI,jJ,↓reduceIte,reduceCtorEq,jP,jO,jM,jN]; try rfl)),(by first | rfl | (simp (disch:=omega) only [go_sem,jA,jB,jC,jD,jE,jF,jG,jH,jI,jJ,↓reduceIte,reduceCtorEq,jP,jO,jM,jN]; try rfl)),(by first | rfl | (simp (disch:=omega) only [go_sem,jA,jB,jC,jD,jE,jF,jG,jH,jI,jJ,↓reduceIte,reduceCtorEq,jP,jO,jM,jN]; try rfl)),by omega,by omega,by omega,by omega,hgo⟩
  ·rw [List.drop_of_length_le (by rw [bQ]; omega),gM] at hgo
   simp (maxSteps:=1000000) (disch:=omega) only [go_sem,jF,↓reduceIte,jO,h3,h4]
   exact aw.of_eq (by rw [pK,hgo]) rfl
theorem tV (s:ByteArray) (hs:s.size≤9223372036854775807):PC prog E5 [.str s] (.int .i64 (pK s)):=by
 refine ae FN (by simp) ?_
 simp only [xu,go_sem]
 refine bq [3,4,5,6,7,8,9,10,11,12,13,14,15,16,17,18,19,20,21,22] (by kernel_rfl) s.size (fun k e _=>∃ a b,e 5=.int .i64 k∧e 3=.int .i64 a∧e 4=.int .i64 b∧0≤a∧a<65521∧0≤b∧b<65521∧gM (sb s) 1 0=gM ((sb s).drop k) a b) ?_ ?_
 ·exact ⟨1,0,(by first | rfl | (simp (disch:=omega) only [go_sem,jA,jB,jC,jD,jE,jF,jG,jH,jI,jJ,↓reduceIte,reduceCtorEq,jP,jO,jM,jN]; try rfl)),(by first | rfl | (simp (disch:=omega) only [go_sem,jA,jB,jC,jD,jE,jF,jG,jH,jI,jJ,↓reduceIte,reduceCtorEq,jP,jO,jM,jN]; try rfl)),(by first | rfl | (simp (disch:=omega) only [go_sem,jA,jB,jC,jD,jE,jF,jG,jH,jI,jJ,↓reduceIte,reduceCtorEq,jP,jO,jM,jN]; try rfl)),by omega,by omega,by omega,by omega,by simp⟩
 ·rintro k fe ob c hk ⟨a,b,h5,h3,h4,a0,a1,b0,b1,hgo⟩
  simp (maxSteps:=1000000) only [go_sem,jF,↓reduceIte] at h5 h3 h4
  simp (maxSteps:=1000000) only [go_sem,jF,↓reduceIte,reduceCtorEq,h5]
  refine ah (fun hlt=>?_) (fun hge=>?_)
  ·have hks:k<s.size:=by omega
   rw [qZ _ _ (by rw [bQ]; exact hks),gM] at hgo
   have hx:=gY s k
   simp (maxSteps:=1000000) (disch:=omega) only [go_sem,jF,↓reduceIte,reduceCtorEq,h3,h4]
   refine ⟨_,EM s k hks,?_⟩
   generalize (sb s).getD k 0=x at *
   simp (maxSteps:=1000000) (disch:=omega) only [go_sem,jA,jF,↓reduceIte,jO]
   repeat (refine And.intro (by first | omega | (rw [nB]; omega) | (simp [maxLen]; done) | (simp [maxLen]; omega)) ?_)
   rw [Int.tmod_eq_emod_of_nonneg (by omega:0≤a+x)]
   generalize hp:(a+x) % 65521=p at *
   have hp0:0≤p:=by omega
   simp (maxSteps:=1000000) (disch:=omega) only [go_sem,jO]
   repeat (refine And.intro (by first | omega | (rw [nB]; omega) | (simp [maxLen]; done) | (simp [maxLen]; omega)) ?_)
   rw [Int.tmod_eq_emod_of_nonneg (by omega:0≤b+p)]
   try simp (maxSteps:=1000000) (disch:=omega) only [go_sem,jA,jB,jC,jD,jE,jF,jG,jH,jI,jJ,↓reduceIte,reduceCtorEq,jP,jO,h5]
   refine bj hks ⟨p,(b+p) % 65521,(by first | rfl | (simp (disch:=omega) only [go_sem,jA,jB,jC,jD,jE,jF,jG,jH,jI,jJ,↓reduceIte,reduceCtorEq,jP,jO,jM,jN]; try rfl)),(by first | rfl | (simp (disch:=omega) only [go_sem,jA,jB,jC,jD,jE,jF,jG,jH,jI,jJ,↓reduceIte,reduceCtorEq,jP,jO,jM,jN]; try rfl)),(by first | rfl | (simp (disch:=omega) only [go_sem,jA,jB,jC,jD,jE,jF,jG,jH,jI,jJ,↓reduceIte,reduceCtorEq,jP,jO,jM,jN]; try rfl)),by omega,by omega,by omega,by omega,hgo⟩
  ·rw [List.drop_of_length_le (by rw [bQ]; omega),gM] at hgo
   simp (maxSteps:=1000000) (disch:=omega) only [go_sem,jF,↓reduceIte,jO,h3,h4]
   exact aw.of_eq (by rw [pK,hgo]) rfl
def iY:List Int→Int
 | []=>0
 | x :: r=>x+256 * iY r
theorem yO:∀ (l:List Int),(∀ x∈l,0≤x∧x≤255)→0≤iY l∧iY l<256 ^ l.length
 | [],_=>by simp [iY]
 | x :: r,h=>by
  have h1:=h x (by simp)
  obtain ⟨h2,h3⟩:=yO r fun y hy=>h y (by simp [hy])
  simp only [iY,List.length_cons,Int.pow_succ]
  omega
theorem Ji (n:Nat) (h:n≤4):(256:Int) ^ n≤4294967296:=by
 have:n=0∨n=1∨n=2∨n=3∨n=4:=by omega
 rcases this with rfl | rfl | rfl | rfl | rfl <;> decide
theorem Dm (s:ByteArray) (at' size:Nat) (hs:s.size≤4611686018427387904) (h:at'+size≤s.size) (h5:size≤5):PC prog xl [.str s,.int .i64 at',.int .i64 size] (.int .i64 (iY (((sb s).drop at').take size))):=by
 refine ae FP (by simp) ?_
 simp (disch:=omega) only [xx,go_sem,jF,↓reduceIte,reduceCtorEq,jO]
 refine bq [7,8,11,12,13,14,15,16,17,18,19,20,21,22,23] (by kernel_rfl) size (fun r e _=>e 8=.int .i64 ((size:Int)-1-r)∧e 7=.int .i64 (iY ((((sb s).drop at').take size).drop (size-r)))) ?_ ?_
 ·refine ⟨by simp [go_sem],?_⟩
  try simp (maxSteps:=1000000) only [go_sem,jF,↓reduceIte]
  rw [List.drop_of_length_le (by simp; omega)]; rfl
 ·rintro r fe ob c hr ⟨h8,h7⟩
  simp (maxSteps:=1000000) only [go_sem,jF,↓reduceIte] at h8 h7
  simp (maxSteps:=1000000) only [go_sem,jF,↓reduceIte,h8]
  refine ah (fun hlt=>?_) (fun hge=>?_)
  ·have hrs:r<size:=by omega
   generalize hi:size-1-r=i at *
   have hi2:size-r=i+1:=by omega
   have hii:(size:Int)-1-r=(i:Int):=by omega
   have hnx:iY ((((sb s).drop at').take size).drop (size-(r+1)))=(sb s).getD (at'+i) 0+256 * iY ((((sb s).drop at').take size).drop (i+1)):=by
    rw [show size-(r+1)=i by omega,qZ _ _ (by simp [bQ]; omega),iY]
    congr 1
    rw [List.getD_eq_getElem?_getD,List.getD_eq_getElem?_getD,List.getElem?_take,if_pos (by omega),List.getElem?_drop]
   have hb:=yO ((((sb s).drop at').take size).drop (i+1)) (fun x hx=>G6 s x (List.mem_of_mem_drop (List.mem_of_mem_take (List.mem_of_mem_drop hx))))
   have hlen:((((sb s).drop at').take size).drop (i+1)).length≤4:=by simp [bQ]; omega
   have hb2:=Ji _ hlen
   rw [hi2] at h7
   generalize iY ((((sb s).drop at').take size).drop (i+1))=y at *
   have hx:=gY s (at'+i)
   simp only [hii] at h8 ⊢
   simp (maxSteps:=1000000) (disch:=omega) only [go_sem,jF,↓reduceIte,reduceCtorEq,jO,h7,FK,Option.some.injEq,exists_eq_left']
   have hsi:=G4 s ((at':Int)+(i:Int)) (by omega) (by omega)
   rw [show ((at':Int)+(i:Int)).toNat=at'+i by omega] at hsi
   simp only [show ((at':Int)+(i:Int)).toNat=at'+i by omega]
   refine ⟨_,hsi,?_⟩
   generalize (sb s).getD (at'+i) 0=x at *
   simp (maxSteps:=1000000) (disch:=omega) only [go_sem,jF,↓reduceIte,jO,HJ,Option.some.injEq,exists_eq_left']
   repeat (refine And.intro (by first | omega | (rw [nB]; omega) | (simp [maxLen]; done) | (simp [maxLen]; omega)) ?_)
   refine bj hrs ⟨?_,?_⟩
   ·(try simp (maxSteps:=1000000) only [go_sem,↓reduceIte]); congr 1; omega
   ·simp (maxSteps:=1000000) only [go_sem,jF,↓reduceIte,hnx]
    congr 1; omega
  ·simp (maxSteps:=1000000) only [go_sem,jF,↓reduceIte,h7]
   rw [show size-r=0 by omega]
   exact aw.of_eq rfl rfl
def bs (l:List Int):ByteArray:=⟨(l.map fun n=>UInt8.ofNat n.toNat).toArray⟩
def cP (n:Int):Nat→List Int
 | 0=>[]
 | k+1=>(n % 256) :: cP (n / 256) k
theorem vP:∀ (k:Nat) (n:Int),cP n (k+1)=cP n k++[(n / 256 ^ k) % 256]
 | 0,n=>by simp [cP]
 | k+1,n=>by
  rw [cP,vP k (n / 256)]
  simp only [cP,List.cons_append]
  rw [Int.ediv_ediv_of_nonneg (by omega:(0:Int)≤256),Int.pow_succ,Int.mul_comm]
theorem bx:∀ (k:Nat) (n:Int),(cP n k).length=k
 | 0,n=>rfl
 | k+1,n=>by simp [cP,bx k]
theorem tO:∀ (k:Nat) (n:Int),∀ x∈cP n k,0≤x∧x≤255
 | 0,n,x,h=>by simp [cP] at h
 | k+1,n,x,h=>by
  simp only [cP,List.mem_cons] at h
  rcases h with rfl | h
  ·omega
  ·exact tO k _ x h
theorem CP (a b:List Int):bs (a++b)=bs a++bs b:=by
 simp only [bs,List.map_append]
 apply ByteArray.ext
 simp
theorem I2 (l:List Int) (h:∀ x∈l,0≤x∧x≤255):sb (bs l)=l:=by
 simp only [sb,bs,List.map_map]
 rw [List.map_congr_left (g:=id) fun x hx=>?_,List.map_id]
 have:=h x hx
 simp only [Function.comp,id,UInt8.toNat_ofNat']
 omega
theorem qQ (a b:ByteArray):sb (a++b)=sb a++sb b:=by
 simp [sb]
theorem Dl (s:ByteArray) (n:Int) (k:Nat) (hs:s.size≤1000000) (hk:k≤5):PC prog xk [.str s,.int .i64 n,.int .i64 k] (.str (s++bs (cP n k))):=by
 refine ae FO (by simp) ?_
 simp only [xw,go_sem]
 refine bq [0,1,2,7,8,9,10,11,12,13,14,15,16,17,18] (by kernel_rfl) k (fun r e _=>e 2=.int .i64 ((k:Int)-r)∧e 1=.int .i64 (n / 256 ^ r)∧e 0=.str (s++bs (cP n r))) ?_ ?_
 ·refine ⟨by simp [go_sem],by simp [go_sem],?_⟩
  try simp (maxSteps:=1000000) only [go_sem,↓reduceIte,reduceCtorEq]
  congr 1
  apply ByteArray.ext
  simp [bs,cP]
 ·rintro r fe ob c hr ⟨h2,h1,h0⟩
  simp (maxSteps:=1000000) only [go_sem,jF,↓reduceIte,reduceCtorEq] at h2 h1 h0
  simp (maxSteps:=1000000) only [go_sem,jF,↓reduceIte,reduceCtorEq,h2]
  refine ah (fun hlt=>?_) (fun hge=>?_)
  ·have hrk:r<k:=by omega
   simp (maxSteps:=1000000) (disch:=omega) only [go_sem,jF,↓reduceIte,reduceCtorEq,jO,h1,h0,FJ,Option.some.injEq,exists_eq_left']
   refine ⟨[UInt8.ofNat (IntKind.u8.wrap (n / 256 ^ r)).toNat],rfl,?_,bj hrk ⟨?_,?_,?_⟩⟩
   ·have:(bs (cP n r)).size=r:=by rw [←bQ,I2 _ (tO _ _),bx]
    rw [this]; simp; omega
   ·(try simp (maxSteps:=1000000) only [go_sem,↓reduceIte]); congr 1; omega
   ·(try simp (maxSteps:=1000000) only [go_sem,jF,↓reduceIte]); rw [Int.ediv_ediv_of_nonneg (Int.pow_nonneg (by omega)),Int.pow_succ]
   ·try simp (maxSteps:=1000000) only [go_sem,↓reduceIte,reduceCtorEq]
    rw [vP,CP,←ByteArray.append_assoc,wrap_u8]
    rfl
  ·have:r=k:=by omega
   subst this
   simp (maxSteps:=1000000) only [go_sem,↓reduceIte,reduceCtorEq,h0]
   exact aw.of_eq rfl rfl
def At (e:Nat→AV) (i:Nat) (X:AV):Prop:=e i=X
theorem aW {ob:Nat→Option aV} {n c i:Nat} (h:i<n):((⟨ob,n,c⟩:St).aE n).ob i=ob i:=by simp only [St.aE,if_pos h]
theorem cw.tr {es:Nat} {ty:TypeId} {ob:Nat→Option aV} {n c:Nat} {L:List AV} {X:AV} (h:cw es ty ⟨ob,n,c⟩ L X):cw es ty ((⟨ob,n,c⟩:St).aE n) L X:=
 h.move (by simp only [St.aE]; omega) fun i hi _=>by simp only at hi; simp only [St.aE,if_pos hi]
theorem PC.nl {P:Program} {f:Nat} {args:List AV} {r r':AV} (h:PC P f args r) (k:HP r r'):PC P f args r':=
 ⟨h.1,fun S w vs hS hv=>(h.2 S w vs hS hv).mono fun x w' ⟨v,S',h1,h2,h3,h4,h5⟩=>⟨v,S',h1,h2,h3,h4,k S' w' v h5⟩⟩
theorem dD {α:Type} (l:List α) (k:Nat) (h:k<l.length):l.take (k+1)=l.take k++[l[k]]:=by
 rw [List.take_add_one,List.getElem?_eq_getElem h]; rfl
def F3 (l:List Int):List AV:=l.map (.int .u8)
theorem kx (l:List Int):(F3 l).length=l.length:=by simp [F3]
theorem IT (l:List Int) (n:Int):F3 l++[.int .u8 n]=F3 (l++[n]):=by simp [F3]
theorem wO:∀ (l:List Int),oK (F3 l)=some (l.map fun n=>UInt8.ofNat n.toNat)
 | []=>rfl
 | x :: l=>by simp only [F3,List.map_cons,oK]; rw [show List.map (AV.int .u8) l=F3 l from rfl,wO l]; rfl
structure Rc where
 k:Int
 num:Int
 acc:Int
 vI:Int
 tm:Int
 lo:Int
 hi:Int
 yT:Int
 site:Int
 fr:Int
 to:Int
 rel:Int
 sg:List Int
 wd:Bool
 Be:Int
 code:Int
 time:Int
 xM:Int
 nj:Int
 wb:Int
 vR:Int
 deriving DecidableEq
def ib (k:Int):Rc:=⟨k,0,0,0,0,0,0,0,0,0,0,0,[],false,0,0,0,0,0,0,0⟩
def eJ (E:AV) (r:Rc):List AV:=[.int .i64 r.k,.int .i64 r.num,.int .i64 r.acc,.int .i64 r.vI,.int .i64 r.tm,.int .i64 r.lo,.int .i64 r.hi,.int .i64 r.yT,.int .i64 r.site,.int .i64 r.fr,.int .i64 r.to,.int .i64 r.rel,
 E,.bool r.wd,.int .i64 r.Be,.int .i64 r.code,.int .i64 r.time,.int .i64 r.xM,.int .i64 r.nj,.int .i64 r.wb,.int .i64 r.vR]
def fJ (E:AV) (r:Rc):AV:=.agg (eJ E r)
def dc (r:Rc):AV:=fJ (.list 1 (ints r.sg)) r
def yI (l:List Rc):List AV:=l.map dc
def cI (r:Rc):Nat→Int
 | 1=>r.num | 2=>r.acc | 3=>r.vI | 4=>r.tm | 5=>r.lo | 6=>r.hi | 7=>r.yT | 8=>r.site | 9=>r.fr | 10=>r.to | 11=>r.rel
 | 14=>r.Be | 15=>r.code | 16=>r.time | 17=>r.xM | 18=>r.nj | 19=>r.wb | 20=>r.vR | _=>r.k
def sI (r:Rc) (o:Nat) (v:Int):Rc:=match o with
 | 1=>{ r with num:=v } | 2=>{ r with acc:=v } | 3=>{ r with vI:=v } | 4=>{ r with tm:=v } | 5=>{ r with lo:=v } | 6=>{ r with hi:=v } | 7=>{ r with yT:=v }
 | 8=>{ r with site:=v } | 9=>{ r with fr:=v } | 10=>{ r with to:=v } | 11=>{ r with rel:=v } | 14=>{ r with Be:=v } | 15=>{ r with code:=v } | 16=>{ r with time:=v }
 | 17=>{ r with xM:=v } | 18=>{ r with nj:=v } | 19=>{ r with wb:=v } | 20=>{ r with vR:=v } | _=>{ r with k:=v }
def aH (k:Int):List Nat:=if k=1 then [1,2,3,4,5,6] else if k=2 then [8,9,10,11] else if k=3 then [7,14,15,16] else if k=4 then [7,14,15,16] else if k=5 then [18,19,20] else if k=6 then [17] else []
def Cw (o:Nat):Prop:=(1≤o∧o≤11)∨(14≤o∧o≤20)
theorem qR {o:Nat} (h:Cw o):o=1∨o=2∨o=3∨o=4∨o=5∨o=6∨o=7∨o=8∨o=9∨o=10∨o=11∨o=14∨o=15∨o=16∨o=17∨o=18∨o=19∨o=20:=by
 unfold Cw at h; omega
theorem kU (k:Int):aH k=[]∨(k=1∧aH k=[1,2,3,4,5,6])∨(k=2∧aH k=[8,9,10,11])∨((k=3∨k=4)∧aH k=[7,14,15,16])∨(k=5∧aH k=[18,19,20])∨(k=6∧aH k=[17]):=by
 unfold aH
 split
 ·rename_i h; exact .inr (.inl ⟨h,rfl⟩)
 split
 ·rename_i h; exact .inr (.inr (.inl ⟨h,rfl⟩))
 split
 ·rename_i h; exact .inr (.inr (.inr (.inl ⟨.inl h,rfl⟩)))
 split
 ·rename_i h; exact .inr (.inr (.inr (.inl ⟨.inr h,rfl⟩)))
 split
 ·rename_i h; exact .inr (.inr (.inr (.inr (.inl ⟨h,rfl⟩))))
 split
 ·rename_i h; exact .inr (.inr (.inr (.inr (.inr ⟨h,rfl⟩))))
 ·exact .inl rfl
theorem ox {k:Int} {o:Nat} (h:o∈aH k):Cw o:=by
 unfold Cw
 rcases kU k with e | ⟨_,e⟩ | ⟨_,e⟩ | ⟨_,e⟩ | ⟨_,e⟩ | ⟨_,e⟩ <;> rw [e] at h <;> simp at h <;> omega
theorem iU (k:Int):(aH k).length≤6:=by
 rcases kU k with e | ⟨_,e⟩ | ⟨_,e⟩ | ⟨_,e⟩ | ⟨_,e⟩ | ⟨_,e⟩ <;> rw [e] <;> simp
theorem wc {k:Int} (h:aH k≠[]):1≤k∧k≤6:=by
 rcases kU k with e | ⟨_,e⟩ | ⟨_,e⟩ | ⟨_,e⟩ | ⟨_,e⟩ | ⟨_,e⟩ <;> first | exact absurd e h | omega
theorem LG (E:AV) (r:Rc) {o:Nat} (h:Cw o):(eJ E r)[o]?=some (.int .i64 (cI r o)):=by
 rcases qR h with rfl | rfl | rfl | rfl | rfl | rfl | rfl | rfl | rfl | rfl | rfl | rfl | rfl | rfl | rfl | rfl | rfl | rfl <;> rfl
theorem Hg (E:AV) (r:Rc) {o:Nat} (h:Cw o) (v:Int):fI o (.int .i64 v) (fJ E r)=fJ E (sI r o v):=by
 rcases qR h with rfl | rfl | rfl | rfl | rfl | rfl | rfl | rfl | rfl | rfl | rfl | rfl | rfl | rfl | rfl | rfl | rfl | rfl <;> rfl
theorem vM (E:AV) (r:Rc) {o:Nat} (h:Cw o):(fJ E r).cells.getD o .bF=.int .i64 (cI r o):=by
 simp only [fJ,AV.cells,List.getD_eq_getElem?_getD,LG E r h,Option.getD_some]
theorem ou (E:AV) (r:Rc):(fJ E r).cells.getD 0 .bF=.int .i64 r.k:=rfl
theorem Tn (E:AV) (r:Rc):AV.agg (((fJ E r).cells.drop 0).take 21)=fJ E r:=rfl
theorem cW (E:AV) (r:Rc):AV.agg ((fJ E r).cells.take 21)=fJ E r:=rfl
theorem br (E:AV) (r:Rc):(fJ E r).cells.length=21:=rfl
theorem eP {E:AV} (r:Rc) (h:E.one=true):(fJ E r).flat=true:=by simp [fJ,eJ,AV.flat,AV.one]; exact h
theorem df (E F:AV) (r q:Rc):fI 0 (fJ E r) (fJ F q)=fJ E r:=rfl
theorem ng (k:Int):AV.agg [AV.int IntKind.i64 k,AV.int IntKind.i64 0,AV.int IntKind.i64 0,AV.int IntKind.i64 0,AV.int IntKind.i64 0,AV.int IntKind.i64 0,AV.int IntKind.i64 0,AV.int IntKind.i64 0,AV.int IntKind.i64 0,AV.int IntKind.i64 0,AV.int IntKind.i64 0,AV.int IntKind.i64 0,AV.nil,AV.bool false,AV.int IntKind.i64 0,AV.int IntKind.i64 0,AV.int IntKind.i64 0,AV.int IntKind.i64 0,AV.int IntKind.i64 0,AV.int IntKind.i64 0,AV.int IntKind.i64 0]=fJ .nil (ib k):=rfl
def vB (n:Int):Bool:=decide (0≤n)&&decide (n≤274877906944)
def ba (r:Rc):List Int:=(aH r.k).map (cI r)
def fD (r:Rc) (l:List Nat):Rc:=l.foldl (fun b o=>sI b o (cI r o)) (ib r.k)
def xJ (b:Rc):List Nat→List Int→Rc
 | o :: os,v :: vs=>xJ (sI b o v) os vs
 | _,_=>b
def oZ (k:Int) (l:List Int):Rc:=xJ (ib k) (aH k) l
theorem EZ (r:Rc):∀ (l:List Nat) (b:Rc),xJ b l (l.map (cI r))=l.foldl (fun b o=>sI b o (cI r o)) b
 | [],b=>rfl
 | o :: l,b=>EZ r l _
theorem zX (r:Rc):oZ r.k (ba r)=fD r (aH r.k):=EZ r _ _
theorem M9 (r:Rc) {o:Nat} (h:Cw o) (v:Int):(sI r o v).sg=r.sg:=by
 rcases qR h with rfl | rfl | rfl | rfl | rfl | rfl | rfl | rfl | rfl | rfl | rfl | rfl | rfl | rfl | rfl | rfl | rfl | rfl <;> rfl
def bg (r:Rc):Bool:=decide (aH r.k≠[])&&(ba r).all vB&&decide (fD r (aH r.k)=r)
def c8 (r:Rc):List Int:=cP r.k 1++(ba r).flatMap fun n=>cP n 5
def rA (r:Rc):ByteArray:=bs (c8 r++cP (pK (bs (c8 r))) 4)
def lq (r:Rc):ByteArray × Int:=if bg r then (rA r,0) else (⟨#[]⟩,49)
def Kv (s:ByteArray) (r:Rc):ByteArray × Int:=if bg r then (s++rA r,0) else (⟨#[]⟩,49)
def mV (s:ByteArray) (at' k:Nat):Int:=iY (((sb s).drop at').take k)
def bD (s:ByteArray) (at' n:Nat):List Int:=(List.range n).map fun i=>mV s (at'+1+5 * i) 5
def Ay (s:ByteArray) (a:Nat):Rc × Int × Int:=
 let k:=(sb s).getD a 0
 let n:=(aH k).length
 if aH k=[] then (ib 0,0,49) else if s.size<a+1+5 * n+4 then (ib 0,0,7) else
 if mV s (a+1+5 * n) 4≠pK (s.extract a (a+1+5 * n)) then (ib 0,0,8) else
 if (bD s a n).all vB then (oZ k (bD s a n),a+1+5 * n+4,0) else (ib 0,0,49)
def bX (s:ByteArray) (a:Int):Rc × Int × Int:=if a<0∨(s.size:Int)<a then (ib 0,0,1) else if a=s.size then (ib 0,0,7) else Ay s a.toNat
def Iq (s:ByteArray) (a:Int):AV:=.tuple [dc (bX s a).1,.int .i64 (bX s a).2.1,.int .i64 (bX s a).2.2]
theorem bN (l:List Rc):(yI l).length=l.length:=by simp [yI]
theorem Hf (l:List Rc) (i:Nat):(yI l)[i]?=(l[i]?).map dc:=by simp [yI]
theorem iI (r:Rc):(dc r).cQ=true:=rfl
theorem Hh (r:Rc):(fJ .nil r).cQ=true:=rfl
theorem He (l:List Rc):∀ x∈yI l,x.cQ=true:=by simp [yI,iI]
theorem OJ (r:Rc):mM 21 (dc r):=⟨rfl,rfl⟩
theorem Jf (l:List Rc):∀ x∈yI l,mM 21 x:=by simp [yI]; intro a _; exact OJ a
theorem Jg {r:Rc} (h:r.sg=[]):HP (fJ .nil r) (dc r):=by
 rw [dc,fJ,fJ,eJ,eJ,h]
 exact .agg (.cons .rfl (.cons .rfl (.cons .rfl (.cons .rfl (.cons .rfl (.cons .rfl (.cons .rfl (.cons .rfl (.cons .rfl (.cons .rfl (.cons .rfl (.cons .rfl (.cons (.nil 1) (oQ.refl _))))))))))))))
theorem fK {σ:St} {r:Rc} (h:r.sg=[]):aw σ (fJ .nil r) (dc r):=by
 rw [dc,fJ,fJ,eJ,eJ,h]
 exact aw.ag (.cons (aw.e rfl) (.cons (aw.e rfl) (.cons (aw.e rfl) (.cons (aw.e rfl) (.cons (aw.e rfl) (.cons (aw.e rfl) (.cons (aw.e rfl) (.cons (aw.e rfl) (.cons (aw.e rfl) (.cons (aw.e rfl) (.cons (aw.e rfl) (.cons (aw.e rfl) (.cons (.nl 1)
  (.cons (aw.e rfl) (.cons (aw.e rfl) (.cons (aw.e rfl) (.cons (aw.e rfl) (.cons (aw.e rfl) (.cons (aw.e rfl) (.cons (aw.e rfl) (.cons (aw.e rfl) .nil)))))))))))))))))))))
def zH (r:Rc):List Int × Bool:=if aH r.k=[] then ([],false) else if (ba r).all vB then (ba r,decide (fD r (aH r.k)=r)) else ([],false)
theorem GQ (r:Rc) (l:List Nat) (o:Nat):fD r (l++[o])=sI (fD r l) o (cI r o):=by simp [fD,List.foldl_append]
theorem Fi (r:Rc):∀ (l:List Nat) (b:Rc),b.sg=[]→(∀ o∈l,Cw o)→(l.foldl (fun b o=>sI b o (cI r o)) b).sg=[]
 | [],b,h,_=>h
 | o :: l,b,h,hl=>Fi r l _ (by rw [M9 _ (hl o (by simp))]; exact h) fun x hx=>hl x (by simp [hx])
theorem Kc (r:Rc) (l:List Nat) (h:∀ o∈l,Cw o):(fD r l).sg=[]:=Fi r l _ rfl h
abbrev SF:TypeId:=183
def TZ (σ:St) (id g:Nat) (r:AV) (τ:St):Prop:=∃ M gm L,r=.jr M gm∧σ.n≤τ.n∧(∀ i,i<σ.n→τ.ob i=σ.ob i)∧τ.ob M=some ⟨gm,2,rW,false,false,L⟩∧cS .i64 L=true∧
 ∀ k:Int,(mR k L=none∧aH k=[])∨∃ i gi,mR k L=some (.sl i gi 1 0 (aH k).length)∧aH k≠[]∧σ.n≤i∧i<τ.n∧τ.ob i=some ⟨gi,1,SF,false,true,(aH k).map fun o=>.ptr id g 21 0 o⟩
theorem fV (σ:St) (id g:Nat):HC prog wk [.ptr id g 21 0 0] σ (TZ σ id g):=by
 obtain ⟨dL,n0,c0⟩:=σ
 refine aM wX (by simp) ?_
 simp only [nR]
 try simp (disch:=omega) only [go_sem,jA,jB,jF,jG,↓reduceIte,reduceCtorEq,jM]
 repeat' (refine And.intro ?_ ?_)
 all_goals try omega
 refine ⟨n0,c0,_,rfl,by simp only; omega,fun i hi=>?_,az _ _ _,by simp [cS,xo],fun k=>?_⟩
 ·simp only at hi ⊢
  simp (disch:=omega) only [aa]
 have e1:(aH 1).map (fun o=>AV.ptr id g 21 0 o)=[.ptr id g 21 0 1,.ptr id g 21 0 2,.ptr id g 21 0 3,.ptr id g 21 0 4,.ptr id g 21 0 5,.ptr id g 21 0 6]:=rfl
 rcases kU k with e | ⟨rfl,e⟩ | ⟨rfl,e⟩ | ⟨rfl | rfl,e⟩ | ⟨rfl,e⟩ | ⟨rfl,e⟩
 ·refine .inl ⟨?_,e⟩
  have h1:¬k=1:=fun h=>by rw [h] at e; simp [aH] at e
  have h2:¬k=2:=fun h=>by rw [h] at e; simp [aH] at e
  have h3:¬k=3:=fun h=>by rw [h] at e; simp [aH] at e
  have h4:¬k=4:=fun h=>by rw [h] at e; simp [aH] at e
  have h5:¬k=5:=fun h=>by rw [h] at e; simp [aH] at e
  have h6:¬k=6:=fun h=>by rw [h] at e; simp [aH] at e
  try simp (disch:=omega) only [go_sem,↓reduceIte,h1,h2,h3,h4,h5,h6]
 ·refine .inr ⟨n0+27,c0+27,rfl,by simp [aH],by simp only; omega,by simp only; omega,?_⟩
  simp (disch:=omega) only [aa,az]; rfl
 ·refine .inr ⟨n0+45,c0+45,rfl,by simp [aH],by simp only; omega,by simp only; omega,?_⟩
  simp (disch:=omega) only [aa,az]; rfl
 ·refine .inr ⟨n0+60,c0+60,rfl,by simp [aH],by simp only; omega,by simp only; omega,?_⟩
  simp (disch:=omega) only [aa,az]; rfl
 ·refine .inr ⟨n0+75,c0+75,rfl,by simp [aH],by simp only; omega,by simp only; omega,?_⟩
  simp (disch:=omega) only [aa,az]; rfl
 ·refine .inr ⟨n0+89,c0+89,rfl,by simp [aH],by simp only; omega,by simp only; omega,?_⟩
  simp (disch:=omega) only [aa,az]; rfl
 ·refine .inr ⟨n0+95,c0+95,rfl,by simp [aH],by simp only; omega,by simp only; omega,?_⟩
  simp (disch:=omega) only [aa,az]; rfl
theorem iS (a b:List Int) (ha:a.length≤9223372036854775807):PC prog ru [.list 1 (ints a),.list 1 (ints b)] (.bool (decide (a=b))):=by
 refine ae rD (by simp) ?_
 simp only [jW,go_sem,jF,↓reduceIte,reduceCtorEq,au]
 refine aY (fun h=>?_) (fun h=>?_) <;> try simp (disch:=omega) only [go_sem,↓reduceIte,reduceCtorEq]
 ·exact aw.of_eq (by congr 1; simp; intro hab; exact h (by rw [hab])) rfl
 have hl:a.length=b.length:=by omega
 refine bq [4,5,13,14,15,16,17,18,19,20,21,22,23,24,25] (by kernel_rfl) a.length (fun k e _=>e 13=.int .i64 k∧∀ j,j<k→a[j]?=b[j]?) ?_ ?_
 ·exact ⟨(by first | rfl | (simp (disch:=omega) only [go_sem,jA,jB,jC,jD,jE,jF,jG,jH,jI,jJ,↓reduceIte,reduceCtorEq,jP,jO,jM,jN]; try rfl)),fun j hj=>by omega⟩
 ·rintro k fe ob c hk ⟨h13,hj⟩
  simp (maxSteps:=1000000) only [go_sem,jF,↓reduceIte] at h13
  try simp (disch:=omega) only [go_sem,jF,↓reduceIte,h13,au]
  refine ah (fun hlt=>?_) (fun hge=>?_)
  ·have hka:k<a.length:=by omega
   have hga:a[k]?=some a[k]:=List.getElem?_eq_getElem hka
   have hgb:b[k]?=some b[k]:=List.getElem?_eq_getElem (by omega)
   try simp (disch:=omega) only [go_sem,jF,jH,↓reduceIte,reduceCtorEq,au,bA,hga,hgb,Option.map_some]
   repeat (refine And.intro (by first | omega | (rw [nB]; omega) | (simp [maxLen]; done) | (simp [maxLen]; omega)) ?_)
   refine aY (fun hne=>?_) (fun heq=>?_)
   ·try simp (disch:=omega) only [go_sem,↓reduceIte]
    exact aw.of_eq (by congr 1; simp; intro hab; subst hab; exact hne rfl) rfl
   ·try simp (disch:=omega) only [go_sem,jF,↓reduceIte,jO]
    refine bj hka ⟨(by first | rfl | (simp (disch:=omega) only [go_sem,jA,jB,jC,jD,jE,jF,jG,jH,jI,jJ,↓reduceIte,reduceCtorEq,jP,jO,jM,jN]; try rfl)),fun j hj'=>?_⟩
    by_cases e:j=k
    ·have he:a[k]=b[k]:=heq
     subst e; rw [hga,hgb,he]
    ·exact hj j (by omega)
  ·try simp (disch:=omega) only [go_sem,↓reduceIte]
   exact aw.of_eq (by congr 1; simp; exact bW hl fun j hj'=>hj j (by omega)) rfl
theorem eE {a b:Rc} {α:Type} (f:Rc→α) (h:¬f a=f b):decide (a=b)=false:=by
 rw [decide_eq_false_iff_not]
 exact fun e=>h (by rw [e])
theorem Gm {a b:Rc} {x:Bool} (h:x=false) (hx:a=b→x=true):decide (a=b)=false:=by
 rw [decide_eq_false_iff_not]
 exact fun e=>by rw [hx e] at h; cases h
theorem xT (a b:Rc) (ha:a.sg.length≤9223372036854775807):PC prog zS [dc a,dc b] (.bool (decide (a=b))):=by
 have hE:=iS a.sg b.sg ha
 refine ae AU (by simp) ?_
 simp only [qG,dc,fJ,eJ]
 try simp (disch:=omega) only [go_sem,jF,jG,jH,↓reduceIte,reduceCtorEq]
 refine bB rfl (fun h0=>?_) (fun h0=>?_) <;> try simp (disch:=omega) only [go_sem,jF,jG,jH,↓reduceIte,reduceCtorEq]
 rotate_left
 ·exact aw.of_eq (by rw [eE Rc.k h0]) rfl
 refine LZ rfl (fun h1=>?_) (fun h1=>?_) <;> try simp (disch:=omega) only [go_sem,jF,jG,jH,↓reduceIte,reduceCtorEq]
 rotate_left
 ·exact aw.of_eq (by rw [Gm h1 fun e=>by subst e; simp]) rfl
 refine bB rfl (fun h2=>?_) (fun h2=>?_) <;> try simp (disch:=omega) only [go_sem,jF,jG,jH,↓reduceIte,reduceCtorEq]
 rotate_left
 ·exact aw.of_eq (by rw [eE Rc.Be h2]) rfl
 refine bB rfl (fun h3=>?_) (fun h3=>?_) <;> try simp (disch:=omega) only [go_sem,jF,jG,jH,↓reduceIte,reduceCtorEq]
 rotate_left
 ·exact aw.of_eq (by rw [eE Rc.code h3]) rfl
 refine bB rfl (fun h4=>?_) (fun h4=>?_) <;> try simp (disch:=omega) only [go_sem,jF,jG,jH,↓reduceIte,reduceCtorEq]
 rotate_left
 ·exact aw.of_eq (by rw [eE Rc.time h4]) rfl
 refine LZ rfl (fun h5=>?_) (fun h5=>?_) <;> try simp (disch:=omega) only [go_sem,jF,jH,↓reduceIte]
 rotate_left
 ·exact aw.of_eq (by rw [Gm h5 fun e=>by subst e; simp]) rfl
 refine bB rfl (fun h6=>?_) (fun h6=>?_) <;> try simp (disch:=omega) only [go_sem,jF,jG,jH,↓reduceIte]
 rotate_left
 ·exact aw.of_eq (by rw [eE Rc.yT h6]) rfl
 refine bB rfl (fun h7=>?_) (fun h7=>?_) <;> try simp (disch:=omega) only [go_sem,jF,jG,jH,↓reduceIte]
 rotate_left
 ·exact aw.of_eq (by rw [eE Rc.site h7]) rfl
 refine bB rfl (fun h8=>?_) (fun h8=>?_) <;> try simp (disch:=omega) only [go_sem,jF,jG,jH,↓reduceIte]
 rotate_left
 ·exact aw.of_eq (by rw [eE Rc.fr h8]) rfl
 refine bB rfl (fun h9=>?_) (fun h9=>?_) <;> try simp (disch:=omega) only [go_sem,jF,jG,jH,↓reduceIte]
 rotate_left
 ·exact aw.of_eq (by rw [eE Rc.to h9]) rfl
 refine bB rfl (fun h10=>?_) (fun h10=>?_) <;> try simp (disch:=omega) only [go_sem,jF,jG,jH,↓reduceIte]
 rotate_left
 ·exact aw.of_eq (by rw [eE Rc.rel h10]) rfl
 refine bB rfl (fun h11=>?_) (fun h11=>?_) <;> try simp (disch:=omega) only [go_sem,jF,jG,jH,↓reduceIte]
 rotate_left
 ·exact aw.of_eq (by rw [eE Rc.wd h11]) rfl
 refine ab hE (by simp [go_sem]) ?_
 try simp (disch:=omega) only [go_sem,jF,↓reduceIte]
 refine aw.of_eq ?_ rfl
 congr 1
 rw [Bool.eq_iff_iff,decide_eq_true_eq,decide_eq_true_eq]
 simp only [Bool.and_eq_true,decide_eq_true_eq] at h1 h5
 obtain ⟨⟩:=a
 obtain ⟨⟩:=b
 simp only at *
 simp_all
theorem sQ (r:Rc) (hr:r.sg.length≤9223372036854775807):PC prog uv [dc r] (.tuple [.list 1 (ints (zH r).1),.bool (zH r).2]):=by
 have hfl:=eP (E:=.list 1 (ints r.sg)) r rfl
 have hfn:=eP (E:=.nil) (ib r.k) rfl
 have hSm:=xT r (fD r (aH r.k)) hr
 refine ae vy (by simp) ?_
 simp only [mz,dc]
 try simp (disch:=omega) only [go_sem,jF,jH,↓reduceIte,hfl,br]
 refine (fV _ 0 0).mono ?_
 rintro r1 ⟨ob1,n1,c1⟩ ⟨M,gm,L,rfl,hn1,ho1,hM,hKo,hF⟩
 have u0:=ho1 0 (by simp only; omega)
 simp only at hn1 ho1 hM
 try simp (disch:=omega) only [go_sem,↓reduceIte] at u0
 try simp (disch:=omega) only [go_sem,jF,↓reduceIte,hM,u0,ou,hKo]
 rcases hF r.k with ⟨hg,he⟩ | ⟨i1,g1,hg,hne,hi1,hi1',hi1o⟩
 ·try simp (disch:=omega) only [go_sem,jF,↓reduceIte,hg]
  rw [zH,if_pos he]
  exact aw.tu (.cons (.nl 1) (.cons (aw.e rfl) .nil))
 simp only at hi1 hi1' hi1o
 try simp (disch:=omega) only [go_sem,jF,jG,jH,↓reduceIte,jM,hg,u0,ou]
 refine (fV _ n1 c1).mono ?_
 rintro r2 ⟨ob2,n2,c2⟩ ⟨M2,gm2,L2,rfl,hn2,ho2,hM2,hKo2,hF2⟩
 rcases hF2 r.k with ⟨_,he⟩ | ⟨i2,g2,hg2,_,hi2,hi2',hi2o⟩
 ·exact absurd he hne
 simp only at hn2 hM2 hi2 hi2' hi2o
 have v0:=(ho2 0 (by simp only; omega)).trans ((aa _ _ _ _ (by omega)).trans ((aa _ _ _ _ (by omega)).trans u0))
 have v1:=(ho2 i1 (by simp only; omega)).trans ((aa _ _ _ _ (by omega)).trans ((aa _ _ _ _ (by omega)).trans hi1o))
 have vb:=(ho2 n1 (by simp only; omega)).trans (az _ _ _)
 simp only at v0 v1 vb
 have hbk:=ng r.k
 rw [hbk] at vb
 clear hF hF2 hM hKo hg ho1 ho2 hi1o
 have h6:=iU r.k
 have hofl:((aH r.k).map fun o=>AV.ptr 0 0 21 0 o).length=(aH r.k).length:=List.length_map ..
 have hofl2:((aH r.k).map fun o=>AV.ptr n1 c1 21 0 o).length=(aH r.k).length:=List.length_map ..
 try simp (disch:=omega) only [go_sem,jF,↓reduceIte,jM,hM2,v0,hKo2,hg2]
 refine ⟨u0.symm,?_⟩
 clear u0
 refine aT [2,3,8,9,10,29,30,31,32,33,34,35,36,37,38,39,40,41,42,43,44,45,46,47,48,49,50,51,52,53,54,55,56,57,58] (by kernel_rfl) (aH r.k).length (fun i e σ=>e 29=.int .i64 i∧n2≤σ.n∧σ.ob 0=some ⟨0,21,32,false,true,[fJ (.list 1 (ints r.sg)) r]⟩∧σ.ob i1=some ⟨g1,1,SF,false,true,(aH r.k).map fun o=>.ptr 0 0 21 0 o⟩∧
  σ.ob i2=some ⟨g2,1,SF,false,true,(aH r.k).map fun o=>.ptr n1 c1 21 0 o⟩∧σ.ob n1=some ⟨c1,21,32,false,true,[fJ .nil (fD r ((aH r.k).take i))]⟩∧
  (((aH r.k).take i).map (cI r)).all vB=true∧∃ X,At e 8 X∧cw 1 3 σ (ints (((aH r.k).take i).map (cI r))) X∧∀ j,¬aZ X j→n2≤j) ?_ ?_
 ·refine ⟨(by first | rfl | (simp (disch:=omega) only [go_sem,jA,jB,jC,jD,jE,jF,jG,jH,jI,jJ,↓reduceIte,reduceCtorEq,jP,jO,jM,jN]; try rfl)),Nat.le_refl _,v0,v1,hi2o,vb,rfl,.nil,(by simp only [At]; try simp (disch:=omega) only [go_sem,jF,↓reduceIte]),cw.nil,fun j hj=>absurd (aZ.nil j) hj⟩
 clear v0 v1 hi2o vb
 rintro i fe ob m c hi hm ⟨hii,hm1,v0,v1,v2,vb,hall,X,h8,hX,hXn⟩
 simp (maxSteps:=1000000) only [go_sem,jF,↓reduceIte,At] at hii hm hm1 v0 v1 v2 vb h8
 try simp (disch:=omega) only [go_sem,jF,↓reduceIte,hii]
 refine ah (fun hlt=>?_) (fun hge=>?_)
 ·have hil:i<(aH r.k).length:=by omega
  have hgo:(aH r.k)[i]?=some (aH r.k)[i]:=List.getElem?_eq_getElem hil
  have hok:Cw (aH r.k)[i]:=ox (List.getElem_mem hil)
  have htk:(aH r.k).take (i+1)=(aH r.k).take i++[(aH r.k)[i]]:=dD _ _ hil
  generalize (aH r.k)[i]=o at *
  have q1:((aH r.k).map fun o=>AV.ptr 0 0 21 0 o)[i]?=some (.ptr 0 0 21 0 o):=by rw [List.getElem?_map,hgo]; rfl
  have q2:((aH r.k).map fun o=>AV.ptr n1 c1 21 0 o)[i]?=some (.ptr n1 c1 21 0 o):=by rw [List.getElem?_map,hgo]; rfl
  have hgd:=vM (.list 1 (ints r.sg)) r hok
  have ho21:o+1≤21:=by unfold Cw at hok; omega
  have hst:=Hg .nil (fD r ((aH r.k).take i)) hok (cI r o)
  have hbad:vB (cI r o)=false→∀ σ:St,aw σ (.tuple [.nil,.bool false]) (.tuple [.list 1 (ints (zH r).1),.bool (zH r).2]):=fun hb σ=>by
   have:(ba r).all vB=false:=by
    rw [List.all_eq_false]
    exact ⟨cI r o,List.mem_map.2 ⟨o,List.mem_of_getElem? hgo,rfl⟩,by simp [hb]⟩
   rw [zH,if_neg hne,this,if_neg (by simp)]
   exact aw.tu (.cons (.nl 1) (.cons (aw.e rfl) .nil))
  try simp (disch:=omega) only [go_sem,jF,jH,↓reduceIte,v1,q1,v0,hgd]
  refine ⟨by omega,by omega,by omega,?_⟩
  refine bH rfl (fun hb=>?_) (fun hb=>?_) <;> try simp (disch:=omega) only [go_sem,jF,jH,↓reduceIte,v0,hgd]
  ·exact hbad (by simp [vB]; omega) _
  refine ⟨by omega,?_⟩
  refine ah (fun hb2=>?_) (fun hb2=>?_) <;> try simp (disch:=omega) only [go_sem,jF,jH,↓reduceIte]
  ·exact hbad (by simp [vB]; omega) _
  have zb:¬n1=0:=by omega
  have zb0:¬0=n1:=by omega
  try simp (disch:=omega) only [go_sem,jF,jH,↓reduceIte,reduceCtorEq,v0,v2,q2,hgd,vb,hst,zb0]
  refine ⟨by omega,by omega,by omega,by omega,by omega,?_⟩
  rw [h8]
  have ll:(ints (((aH r.k).take i).map (cI r))).length≤6:=by rw [au,List.length_map,List.length_take]; omega
  have hvb:vB (cI r o)=true:=by simp [vB]; omega
  refine bE (b:=8) (hX.move (Nat.le_refl _) fun j hj hh=>aa _ _ _ _ fun e=>by have:=hXn j hh; omega) (by omega) (by omega) fun Y τ hY kY=>?_
  obtain ⟨ob5,m5,c5⟩:=τ
  have p1:m≤m5:=kY.1
  have oX:∀ j,j<n2→aZ X j:=fun j hj=>aZ.em fun h=>by have:=hXn j h; omega
  have p2:∀ j,j<n2→ob5 j=bd ob n1 (some ⟨c1,21,32,false,true,[fJ .nil (sI (fD r ((aH r.k).take i)) o (cI r o))]⟩) j:=fun j hj=>kY.2.1 j (by simp only; omega) (oX j hj)
  try simp (disch:=omega) only [go_sem,jF,↓reduceIte,jO]
  refine aD m5 hil (by omega) ⟨(by first | rfl | (simp (disch:=omega) only [go_sem,jA,jB,jC,jD,jE,jF,jG,jH,jI,jJ,↓reduceIte,reduceCtorEq,jP,jO,jM,jN]; try rfl)),by simp only [St.aE]; omega,?_,?_,?_,?_,?_,Y,(by simp only [At]; try simp (disch:=omega) only [go_sem,jF,↓reduceIte]),?_,fun j hj=>Nat.le_of_not_lt fun hh=>hj (kY.2.2 j (by simp only; omega) (oX j hh))⟩
  ·rw [aW (by omega),p2 _ (by omega),aa _ _ _ _ (by omega)]; exact v0
  ·rw [aW (by omega),p2 _ (by omega),aa _ _ _ _ (by omega)]; exact v1
  ·rw [aW (by omega),p2 _ (by omega),aa _ _ _ _ (by omega)]; exact v2
  ·rw [aW (by omega),p2 _ (by omega),az,htk,GQ]
  ·rw [htk,List.map_append,List.all_append,hall]; simp [hvb]
  ·rw [htk,List.map_append,show ints (((aH r.k).take i).map (cI r)++[o].map (cI r))=ints (((aH r.k).take i).map (cI r))++[.int .i64 (cI r o)] by simp [ints]]
   exact hY.tr
 obtain rfl:i=(aH r.k).length:=by omega
 rw [List.take_length] at vb hall hX
 clear hge hii
 have zb0:¬0=n1:=by omega
 have e1:zH r=(ba r,decide (r=fD r (aH r.k))):=by
  rw [zH,if_neg hne,if_pos (show (ba r).all vB=true from hall)]
  simp [eq_comm]
 try simp (disch:=omega) only [go_sem,jF,jH,↓reduceIte,v0,vb,h8,cW]
 refine ab (oS hSm (.cons .rfl (.cons (Jg (Kc r _ fun o ho=>ox ho)) .nil))) (by simp [Hh]; exact iI r) ?_
 try simp (disch:=omega) only [go_sem,jF,↓reduceIte]
 rw [e1]
 exact aw.tu (.cons (hX.mF (fun _ _ _=>rfl) (dp _) (fU _)) (.cons (aw.e rfl) .nil))
abbrev SG:TypeId:=5
def TR (σ:St) (id:Nat) (L:List Int) (r:AV) (τ:St):Prop:=∃ g',r=.sl id g' 1 0 L.length∧τ.n=σ.n∧τ.ob id=some ⟨g',1,SG,false,true,F3 L⟩∧∀ i,i<σ.n→i≠id→τ.ob i=σ.ob i
theorem qj (σ:St) (id g:Nat) (L:List Int) (x:Int) (k:Nat) (hL:L.length≤1000000) (hk:k≤5) (hid:id<σ.n) (hob:σ.ob id=some ⟨g,1,SG,false,true,F3 L⟩) :
  HC prog BF [.sl id g 1 0 L.length,.int .i64 x,.int .i64 k] σ (TR σ id (L++cP x k)):=by
 obtain ⟨dL,n0,c0⟩:=σ
 simp only at hob hid
 refine aM B5 (by simp) ?_
 simp only [sD]
 try simp (disch:=omega) only [go_sem,jF,↓reduceIte,reduceCtorEq]
 refine aT [0,1,8,9,10,11,12,13,14,15,16,17] (by kernel_rfl) k (fun i e σ=>e 8=.int .i64 i∧σ.n=n0∧(∃ g',e 0=.sl id g' 1 0 (L.length+i)∧σ.ob id=some ⟨g',1,SG,false,true,F3 (L++cP x i)⟩)∧e 1=.int .i64 (x / 256 ^ i)∧∀ j,j<n0→j≠id→σ.ob j=dL j) ?_ ?_
 ·refine ⟨(by first | rfl | (simp (disch:=omega) only [go_sem,jA,jB,jC,jD,jE,jF,jG,jH,jI,jJ,↓reduceIte,reduceCtorEq,jP,jO,jM,jN]; try rfl)),rfl,⟨g,(by first | rfl | (simp (disch:=omega) only [go_sem,jA,jB,jC,jD,jE,jF,jG,jH,jI,jJ,↓reduceIte,reduceCtorEq,jP,jO,jM,jN]; try rfl)),by simp [cP]; exact hob⟩,?_,fun j _ _=>rfl⟩
  simp [bd]
 rintro i fe ob m c hi hm ⟨h8,rfl,⟨g',h0,ho⟩,h1,hf⟩
 simp (maxSteps:=1000000) only [go_sem,jF,↓reduceIte,reduceCtorEq] at h8 h0 ho h1 hf
 have hpl:=bx i x
 have hul:(F3 (L++cP x i)).length=L.length+i:=by rw [kx,List.length_append,hpl]
 try simp (disch:=omega) only [go_sem,jF,↓reduceIte,reduceCtorEq,h8]
 refine ah (fun hlt=>?_) (fun hge=>?_)
 ·have hik:i<k:=by omega
  have hsh:=FJ (x / 256 ^ i)
  try simp (disch:=omega) only [go_sem,jF,jH,↓reduceIte,reduceCtorEq,jO,h0,h1,ho,hul,wrap_u8,hsh,nB]
  refine ⟨by omega,by omega,?_⟩
  refine aD m hik (by omega) ⟨(by first | rfl | (simp (disch:=omega) only [go_sem,jA,jB,jC,jD,jE,jF,jG,jH,jI,jJ,↓reduceIte,reduceCtorEq,jP,jO,jM,jN]; try rfl)),rfl,⟨c,?_,?_⟩,?_,fun j hj hne=>?_⟩
  ·simp [bd]; omega
  ·rw [aW (by omega),az,IT,List.append_assoc,←vP]
  ·simp only [bd,↓reduceIte]
   simp [bd]
   rw [Int.ediv_ediv_of_nonneg (by exact Int.pow_nonneg (by omega)),Int.pow_succ]
  ·rw [aW (by omega),aa _ _ _ _ hne]; exact hf j hj hne
 obtain rfl:i=k:=by omega
 try simp (disch:=omega) only [go_sem,↓reduceIte,reduceCtorEq,h0]
 exact ⟨g',by rw [List.length_append,hpl],rfl,ho,hf⟩
theorem zF (s:ByteArray) (h5:s.size≤5):PC prog rS [.str s] (.int .i64 (iY (sb s))):=by
 refine ae B6 (by simp) ?_
 simp only [sE]
 try simp (disch:=omega) only [go_sem,↓reduceIte,reduceCtorEq,jO]
 refine bq [3,4,8,9,10,11,12,13,14,15,16,17,18] (by kernel_rfl) s.size (fun r e _=>e 4=.int .i64 ((s.size:Int)-1-r)∧e 3=.int .i64 (iY ((sb s).drop (s.size-r)))) ?_ ?_
 ·refine ⟨by simp [go_sem],?_⟩
  try simp (maxSteps:=1000000) only [go_sem,jF,↓reduceIte]
  rw [List.drop_of_length_le (by rw [bQ]; omega)]; rfl
 rintro r fe ob c hr ⟨h4,h3⟩
 simp (maxSteps:=1000000) only [go_sem,jF,↓reduceIte] at h4 h3
 try simp (disch:=omega) only [go_sem,jF,↓reduceIte,h4]
 refine ah (fun hlt=>?_) (fun hge=>?_)
 ·have hrs:r<s.size:=by omega
  generalize hi:s.size-1-r=i at *
  have hi2:s.size-r=i+1:=by omega
  have hii:(s.size:Int)-1-r=(i:Int):=by omega
  have hnx:iY ((sb s).drop (s.size-(r+1)))=(sb s).getD i 0+256 * iY ((sb s).drop (i+1)):=by
   rw [show s.size-(r+1)=i by omega,qZ _ _ (by rw [bQ]; omega),iY]
  have hb:=yO ((sb s).drop (i+1)) (fun x hx=>G6 s x (List.mem_of_mem_drop hx))
  have hlen:((sb s).drop (i+1)).length≤4:=by rw [List.length_drop,bQ]; omega
  have hb2:=Ji _ hlen
  rw [hi2] at h3
  generalize iY ((sb s).drop (i+1))=y at *
  have hx:=gY s i
  simp only [hii] at h4 ⊢
  have hsi:=EM s i (by omega)
  try simp (disch:=omega) only [go_sem,jF,↓reduceIte,reduceCtorEq,jO,h3,FK,Option.some.injEq,exists_eq_left',Int.toNat_natCast,hsi]
  generalize (sb s).getD i 0=x at *
  try simp (disch:=omega) only [go_sem,HJ,Option.some.injEq,exists_eq_left']
  refine bj hrs ⟨?_,?_⟩
  ·try simp (disch:=omega) only [go_sem,↓reduceIte]; congr 1; omega
  ·try simp (disch:=omega) only [go_sem,jF,↓reduceIte,hnx]
   congr 1; omega
 ·try simp (disch:=omega) only [go_sem,jF,↓reduceIte,h3]
  rw [show s.size-r=0 by omega]
  exact aw.of_eq rfl rfl
theorem JV (r:Rc):(c8 r).length≤31:=by
 have h:=iU r.k
 have h2:∀ l:List Int,(l.flatMap fun n=>cP n 5).length=5 * l.length:=fun l=>by
  induction l with
  | nil=>rfl
  | cons a l ih=>rw [List.flatMap_cons,List.length_append,bx,ih,List.length_cons]; omega
 rw [c8,List.length_append,bx,h2,ba,List.length_map]
 omega
def tc (r:Rc) (i:Nat):List Int:=cP r.k 1++((ba r).take i).flatMap fun n=>cP n 5
theorem Fq (r:Rc) (i:Nat):(tc r i).length≤31:=by
 have h:=iU r.k
 have h2:∀ l:List Int,(l.flatMap fun n=>cP n 5).length=5 * l.length:=fun l=>by
  induction l with
  | nil=>rfl
  | cons a l ih=>rw [List.flatMap_cons,List.length_append,bx,ih,List.length_cons]; omega
 rw [tc,List.length_append,bx,h2,List.length_take,ba,List.length_map]
 omega
theorem Ft (r:Rc):tc r (ba r).length=c8 r:=by rw [tc,List.take_length]; rfl
theorem wI (r:Rc) (i:Nat) (h:i<(ba r).length):tc r (i+1)=tc r i++cP (ba r)[i] 5:=by
 rw [tc,tc,dD _ _ h,List.flatMap_append,List.append_assoc]; rw [List.flatMap_cons,List.flatMap_nil,List.append_nil]
theorem Nj (l:List Int):(⟨(l.map fun n=>UInt8.ofNat n.toNat).toArray⟩:ByteArray)=bs l:=rfl
theorem CM (r:Rc):(rA r).size≤35:=by
 have:=JV r
 rw [rA,show (bs (c8 r++cP (pK (bs (c8 r))) 4)).size=(c8 r++cP (pK (bs (c8 r))) 4).length by simp [bs,ByteArray.size],List.length_append,bx]
 omega
theorem l7 (r:Rc) (hr:r.sg.length≤9223372036854775807):PC prog wm [dc r] (.tuple [.str (lq r).1,.int .i64 (lq r).2]):=by
 have hfl:=eP (E:=.list 1 (ints r.sg)) r rfl
 have hN:=sQ r hr
 have hpr:(fJ (.list 1 (ints r.sg)) r).cQ=true:=rfl
 refine ae wY (by simp) ?_
 simp only [nS,dc] at hN ⊢
 try simp (disch:=omega) only [go_sem,jF,jH,↓reduceIte,hfl,br,cW]
 refine ab hN (by simp [hpr]) ?_
 have hbad:bg r=false→∀ σ:St,aw σ (.tuple [.str ⟨#[]⟩,.int .i64 49]) (.tuple [.str (lq r).1,.int .i64 (lq r).2]):=fun h σ=>by
  rw [lq,if_neg (by simp [h])]; exact aw.pure rfl
 by_cases hne:aH r.k=[]
 ·rw [zH,if_pos hne]
  try simp (disch:=omega) only [go_sem,jF,↓reduceIte]
  exact hbad (by simp [bg,hne]) _
 by_cases hall:(ba r).all vB=true
 ·rw [zH,if_neg hne,if_pos hall]
  simp only
  cases hv:decide (fD r (aH r.k)=r)
  ·try simp (disch:=omega) only [go_sem,jF,↓reduceIte]
   exact hbad (by simp only [bg,hv,Bool.and_false]) _
  have hva:bg r=true:=by simp only [bg,hv,hall,Bool.and_true,decide_eq_true_eq]; exact hne
  have hkd:=wc hne
  try simp (disch:=omega) only [go_sem,jF,jG,jH,↓reduceIte,ou,wrap_u8]
  have hoff:=iU r.k
  have hnl:(ba r).length=(aH r.k).length:=by rw [ba,List.length_map]
  have hpk:cP r.k 1=[r.k % 256]:=by simp [cP]
  refine aT [6,8,22,23,24,25,26,27,28,29] (by kernel_rfl) (ba r).length (fun i e σ=>e 22=.int .i64 i∧σ.n=2∧∃ g',e 6=.sl 1 g' 1 0 (tc r i).length∧σ.ob 1=some ⟨g',1,SG,false,true,F3 (tc r i)⟩) ?_ ?_
  ·refine ⟨(by first | rfl | (simp (disch:=omega) only [go_sem,jA,jB,jC,jD,jE,jF,jG,jH,jI,jJ,↓reduceIte,reduceCtorEq,jP,jO,jM,jN]; try rfl)),rfl,1,?_,?_⟩
   ·simp [bd,tc,hpk]
   ·simp only [bd,↓reduceIte,tc,hpk,List.take_zero,List.flatMap_nil,List.append_nil]; rfl
  rintro i fe ob m c hi hm ⟨h22,rfl,g',h6,ho⟩
  simp (maxSteps:=1000000) only [go_sem,jF,↓reduceIte] at h22 h6 ho
  have hil:=Fq r i
  try simp (disch:=omega) only [go_sem,jF,↓reduceIte,h22,au]
  refine ah (fun hlt=>?_) (fun hge=>?_)
  ·have hik:i<(ba r).length:=by omega
   have hgi:=bA (ba r) i
   try simp (disch:=omega) only [go_sem,jF,jH,↓reduceIte,h6,au,hgi,List.getElem?_eq_getElem hik]
   refine ⟨by omega,by omega,HC.mono (qj ⟨ob,2,c⟩ 1 g' (tc r i) (ba r)[i] 5 (by omega) (by omega) (by simp) ho) ?_⟩
   rintro r' ⟨ob',n',c'⟩ ⟨g2,rfl,hn',ho',hf'⟩
   simp only at hn' ho' hf'
   subst hn'
   try simp (disch:=omega) only [go_sem,jF,↓reduceIte,jO]
   refine aD _ hik (Nat.le_refl _) ⟨by simp [go_sem],rfl,g2,?_,?_⟩
   ·rw [wI r i hik]; simp [bd]
   ·rw [wI r i hik,aW (by omega)]; exact ho'
  obtain rfl:i=(ba r).length:=by omega
  rw [Ft] at h6 ho hil
  have htk:List.take (c8 r).length (F3 (c8 r))=F3 (c8 r):=List.take_of_length_le (by rw [kx]; omega)
  have hul:(F3 (c8 r)).length=(c8 r).length:=kx _
  have hby:=wO (c8 r)
  try simp (disch:=omega) only [go_sem,jF,↓reduceIte,h6,ho,htk,hby,hul,Option.some.injEq,exists_eq_left',Nj]
  have hsz:(bs (c8 r)).size=(c8 r).length:=by simp [bs,ByteArray.size]
  refine ⟨Nat.le_refl _,?_⟩
  refine ab (nk (bs (c8 r)) (by omega)) (by simp [go_sem]) ?_
  try simp (disch:=omega) only [go_sem,jF,↓reduceIte]
  refine HC.mono (qj ⟨ob,2,c⟩ 1 g' (c8 r) (pK (bs (c8 r))) 4 (by omega) (by omega) (by simp) ho) ?_
  rintro r' ⟨ob',n',c'⟩ ⟨g2,rfl,hn',ho',hf'⟩
  simp only at hn' ho' hf'
  subst hn'
  try simp (disch:=omega) only [go_sem,jF,↓reduceIte,ho']
  rw [List.take_of_length_le (by rw [kx]; omega)]
  refine ⟨by rw [kx]; omega,_,wO _,?_⟩
  rw [Nj,lq,if_pos hva]
  exact aw.pure rfl
 ·rw [zH,if_neg hne,if_neg hall]
  try simp (disch:=omega) only [go_sem,jF,↓reduceIte]
  exact hbad (by simp [bg,hall]) _
theorem EL (s:ByteArray) (a:Int) (h0:0≤a) (h1:a<s.size):∃ n:Nat,a=n∧n<s.size:=⟨a.toNat,by omega,by omega⟩
theorem Cq:∀ (l:List Nat) (vs:List Int) (b:Rc) (o:Nat) (v:Int),l.length=vs.length→xJ b (l++[o]) (vs++[v])=sI (xJ b l vs) o v
 | [],[],b,o,v,_=>rfl
 | p :: l,w :: vs,b,o,v,h=>Cq l vs _ o v (by simpa using h)
 | [],_ :: _,_,_,_,h=>by simp at h
 | _ :: _,[],_,_,_,h=>by simp at h
theorem tN:∀ (l:List Nat) (vs:List Int) (b:Rc),b.sg=[]→(∀ o∈l,Cw o)→(xJ b l vs).sg=[]
 | [],_,b,h,_=>by simpa [xJ] using h
 | _ :: _,[],b,h,_=>by simpa [xJ] using h
 | o :: l,v :: vs,b,h,hl=>tN l vs _ (by rw [M9 _ (hl o (by simp))]; exact h) fun x hx=>hl x (by simp [hx])
theorem mb (s:ByteArray) (a k:Nat):bD s a (k+1)=bD s a k++[mV s (a+1+5 * k) 5]:=by simp [bD,List.range_succ]
theorem dJ (s:ByteArray) (a k:Nat):(bD s a k).length=k:=by simp [bD]
theorem zh (s:ByteArray) (a b:Nat):sb (s.extract a b)=((sb s).drop a).take (b-a):=by
 simp [sb,List.map_take,List.map_drop]
theorem RB (r:Rc) {o:Nat} (h:Cw o) (v:Int):cI (sI r o v) o=v:=by
 rcases qR h with rfl | rfl | rfl | rfl | rfl | rfl | rfl | rfl | rfl | rfl | rfl | rfl | rfl | rfl | rfl | rfl | rfl | rfl <;> rfl
theorem Rm (s:ByteArray) (a k:Nat) (h:a+k≤s.size) (h5:k≤5):PC prog rS [.str (s.extract a (a+k))] (.int .i64 (mV s a k)):=by
 have:=zF (s.extract a (a+k)) (by simp; omega)
 rwa [zh,show a+k-a=k by omega] at this
theorem Hv (s:ByteArray) (a k:Nat) (h:k≤5):0≤mV s a k∧mV s a k<1099511627776:=by
 have h1:=yO (((sb s).drop a).take k) fun x hx=>G6 s x (List.mem_of_mem_drop (List.mem_of_mem_take hx))
 have h2:(((sb s).drop a).take k).length≤5:=by rw [List.length_take]; omega
 have h3:∀ q:Nat,q≤5→(256:Int) ^ q≤1099511627776:=by decide
 exact ⟨h1.1,Int.lt_of_lt_of_le h1.2 (h3 _ h2)⟩
theorem tZ (s:ByteArray) (a:Int) (hs:s.size≤4611686018427387904):PC prog wo [.str s,.int .i64 a] (Iq s a):=by
 refine ae wZ (by simp) ?_
 simp only [nT,Iq]
 have hbk:=ng
 have bad:∀ (σ:St) (e:Int),bX s a=(ib 0,0,e)→aw σ (.tuple [fJ .nil (ib 0),.int .i64 0,.int .i64 e]) (.tuple [dc (bX s a).1,.int .i64 (bX s a).2.1,.int .i64 (bX s a).2.2]):=fun σ e h=>by
  rw [h]; exact aw.tu (.cons (fK rfl) (.cons (aw.e rfl) (.cons (aw.e rfl) .nil)))
 have hfl:∀ q,(fJ .nil q).flat=true:=fun q=>eP q rfl
 try simp (disch:=omega) only [go_sem,jF,↓reduceIte,reduceCtorEq]
 refine bH rfl (fun h1=>?_) (fun h1=>?_) <;> try simp (disch:=omega) only [go_sem,jF,jG,jH,↓reduceIte,reduceCtorEq,hbk,hfl,br,df,cW]
 ·refine bad _ 1 (by rw [bX,if_pos (.inl h1)])
 refine ah (fun h2=>?_) (fun h2=>?_) <;> try simp (disch:=omega) only [go_sem,jF,jG,jH,↓reduceIte,reduceCtorEq,hbk,hfl,br,df,cW]
 ·refine bad _ 1 (by rw [bX,if_pos (.inr h2)])
 refine ah (fun h3=>?_) (fun h3=>?_) <;> try simp (disch:=omega) only [go_sem,jF,jG,jH,↓reduceIte,reduceCtorEq,hbk,hfl,br,df,cW]
 ·refine bad _ 7 (by rw [bX,if_neg (by omega),if_pos h3])
 obtain ⟨n,rfl,hn⟩:=EL s a (by omega) (by omega)
 have hD:bX s n=Ay s n:=by rw [bX,if_neg (by omega),if_neg (by omega)]; rfl
 rw [hD] at bad ⊢
 have hsi:=EM s n hn
 have hkb:=gY s n
 try simp (disch:=omega) only [go_sem,jF,jG,jH,↓reduceIte,jO,hsi,Option.some.injEq,exists_eq_left',Int.toNat_natCast,hbk,hfl,br,df,ou]
 generalize hk:(sb s).getD n 0=k at *
 refine (fV _ 1 1).mono ?_
 rintro r1 ⟨ob1,n1,c1⟩ ⟨M,gm,L,rfl,hn1,ho1,hM,hKo,hF⟩
 have u0:=ho1 0 (by simp only; omega)
 have u1:=ho1 1 (by simp only; omega)
 simp only at hn1 ho1 hM
 try simp (disch:=omega) only [go_sem,↓reduceIte,reduceCtorEq] at u0
 try simp (disch:=omega) only [go_sem,↓reduceIte] at u1
 try simp (disch:=omega) only [go_sem,jF,↓reduceIte,hM,u1,hKo]
 have hkk:(ib k).k=k:=rfl
 rw [hkk]
 have hdN:Ay s n=if aH k=[] then (ib 0,0,49) else if s.size<n+1+5 * (aH k).length+4 then (ib 0,0,7) else
   if mV s (n+1+5 * (aH k).length) 4≠pK (s.extract n (n+1+5 * (aH k).length)) then (ib 0,0,8) else
   if (bD s n (aH k).length).all vB then (oZ k (bD s n (aH k).length),((n+1+5 * (aH k).length+4:Nat):Int),0) else (ib 0,0,49):=by
  simp only [Ay,hk]; rfl
 rcases hF k with ⟨hg,he⟩ | ⟨i1,g1,hg,hne,hi1,hi1',hi1o⟩
 ·try simp (disch:=omega) only [go_sem,jF,jG,jH,↓reduceIte,hg,u0,hbk,hfl,br,df,cW]
  refine bad _ 49 (by rw [hdN,if_pos he])
 rw [if_neg hne] at hdN
 have h6:=iU k
 have hofl:((aH k).map fun o=>AV.ptr 1 1 21 0 o).length=(aH k).length:=List.length_map ..
 simp only at hi1 hi1' hi1o
 clear ho1 hF hsi
 try simp (disch:=omega) only [go_sem,jF,↓reduceIte,reduceCtorEq,jO,hg]
 obtain ⟨p,hp⟩:∃ p:Nat,p=n+1+5 * (aH k).length:=⟨_,rfl⟩
 have hpi:(n:Int)+1+5 * (aH k).length=p:=by omega
 rw [←hp] at hdN
 simp only [hpi]
 refine ah (fun h4=>?_) (fun h4=>?_) <;> try simp (disch:=omega) only [go_sem,jF,jG,jH,↓reduceIte,reduceCtorEq,jO,u0,hbk,hfl,br,df,cW]
 ·refine bad _ 7 (by rw [hdN,if_pos (by omega)])
 rw [if_neg (by omega)] at hdN
 have hn1':p+4≤s.size:=by omega
 have e1:((p:Int)+4).toNat=p+4:=by omega
 have e2:(p:Int).toNat=p:=by omega
 have e3:(n:Int).toNat=n:=by omega
 try simp (disch:=omega) only [go_sem,e1]
 refine ⟨by omega,by omega,by omega,by omega,by omega,by omega,ab (Rm s p 4 hn1' (by omega)) (by simp [go_sem]) ?_⟩
 try simp (disch:=omega) only [go_sem,jF,↓reduceIte]
 refine ab (nk (s.extract n p) (by simp; omega)) (by simp [go_sem]) ?_
 try simp (disch:=omega) only [go_sem,jF,↓reduceIte]
 refine aY (fun h5=>?_) (fun h5=>?_) <;> try simp (disch:=omega) only [go_sem,jF,jG,jH,↓reduceIte,u0,hbk,hfl,br,df,cW]
 ·refine bad _ 8 (by rw [hdN,if_pos h5])
 rw [if_neg (by omega)] at hdN
 have h20:@At=@At:=rfl
 refine aT [5,6,11,12,13,70,71,72,73,74,75,76,77,78,79,80,81,82,83,84,85,86,87,88,89,90,91,92,93] (by kernel_rfl) (aH k).length (fun i e σ=>e 70=.int .i64 i∧σ.n=n1∧σ.ob 0=some ⟨0,21,32,false,true,[fJ .nil (ib 0)]⟩∧σ.ob i1=some ⟨g1,1,SF,false,true,(aH k).map fun o=>.ptr 1 1 21 0 o⟩∧
  σ.ob 1=some ⟨1,21,32,false,true,[fJ .nil (xJ (ib k) ((aH k).take i) (bD s n i))]⟩∧(bD s n i).all vB=true) ?_ ?_
 ·exact ⟨(by first | rfl | (simp (disch:=omega) only [go_sem,jA,jB,jC,jD,jE,jF,jG,jH,jI,jJ,↓reduceIte,reduceCtorEq,jP,jO,jM,jN]; try rfl)),rfl,u0,hi1o,u1,rfl⟩
 clear u0 u1 hi1o
 rintro i fe ob m c hi hm ⟨h70,rfl,v0,v1,v2,hall⟩
 simp (maxSteps:=1000000) only [go_sem,jF,↓reduceIte] at h70 v0 v1 v2
 try simp (disch:=omega) only [go_sem,jF,↓reduceIte,h70]
 refine ah (fun hlt=>?_) (fun hge=>?_)
 ·have hil:i<(aH k).length:=by omega
  have hgo:(aH k)[i]?=some (aH k)[i]:=List.getElem?_eq_getElem hil
  have hok:Cw (aH k)[i]:=ox (List.getElem_mem hil)
  have htk:(aH k).take (i+1)=(aH k).take i++[(aH k)[i]]:=dD _ _ hil
  generalize (aH k)[i]=o at *
  have q1:((aH k).map fun o=>AV.ptr 1 1 21 0 o)[i]?=some (.ptr 1 1 21 0 o):=by rw [List.getElem?_map,hgo]; rfl
  have ho21:o+1≤21:=by unfold Cw at hok; omega
  have hst:=Hg .nil (xJ (ib k) ((aH k).take i) (bD s n i)) hok (mV s (n+1+5 * i) 5)
  obtain ⟨j,hj⟩:∃ j:Nat,j=n+1+5 * i:=⟨_,rfl⟩
  have hji:(n:Int)+1+5 * i=j:=by omega
  have e4:((j:Int)+5).toNat=j+5:=by omega
  have e5:(j:Int).toNat=j:=by omega
  rw [←hj] at hst
  try simp (disch:=omega) only [go_sem,jF,jH,↓reduceIte,reduceCtorEq,jO,v1,q1,hji,e4,e5]
  refine ⟨by omega,by omega,by omega,by omega,by omega,ab (Rm s j 5 (by omega) (by omega)) (by simp [go_sem]) ?_⟩
  have hgd:=vM .nil (sI (xJ (ib k) ((aH k).take i) (bD s n i)) o (mV s j 5)) hok
  have hci:cI (sI (xJ (ib k) ((aH k).take i) (bD s n i)) o (mV s j 5)) o=mV s j 5:=RB _ hok _
  have hb5:=Hv s j 5 (by omega)
  try simp (disch:=omega) only [go_sem,jF,jH,↓reduceIte,v2,hst,hgd,hci]
  refine ⟨by omega,by omega,?_⟩
  refine ah (fun h7=>?_) (fun h7=>?_) <;> try simp (disch:=omega) only [go_sem,jF,jG,jH,↓reduceIte,reduceCtorEq,jO,v0,hbk,hfl,br,df,cW]
  ·have hbadv:(bD s n (aH k).length).all vB=false:=by
    rw [List.all_eq_false]
    refine ⟨mV s j 5,List.mem_map.2 ⟨i,List.mem_range.2 hil,by rw [hj]⟩,?_⟩
    simp [vB]; omega
   refine bad _ 49 (by rw [hdN,hbadv,if_neg (by simp)])
  try simp (disch:=omega) only [go_sem,jA,jB,jC,jD,jE,jF,jG,jH,jI,jJ,↓reduceIte,reduceCtorEq,jO,jM,jN,jK,jL,h70]
  simp only at hi1' hn1
  refine aD m hil (Nat.le_refl _) ⟨(by first | rfl | (simp (disch:=omega) only [go_sem,jA,jB,jC,jD,jE,jF,jG,jH,jI,jJ,↓reduceIte,reduceCtorEq,jP,jO,jM,jN]; try rfl)),rfl,?_,?_,?_,?_⟩
  ·rw [aW (show 0<m by omega),aa _ _ _ _ (by omega)]; exact v0
  ·rw [aW (show i1<m by omega),aa _ _ _ _ (by omega)]; exact v1
  ·rw [aW (show 1<m by omega),az,htk,mb,Cq _ _ _ _ _ (by rw [dJ,List.length_take]; omega),←hj]
  ·rw [mb,List.all_append,hall,←hj]; simp [vB]; omega
 obtain rfl:i=(aH k).length:=by omega
 rw [List.take_length] at v2
 rw [if_pos hall] at hdN
 try simp (disch:=omega) only [go_sem,jF,jH,↓reduceIte,jO,v0,v2,cW,df]
 refine ⟨rfl,rfl,?_⟩
 rw [hdN]
 have e9:(p:Int)+4=(p+4:Nat):=by omega
 rw [e9]
 exact aw.tu (.cons (fK (tN _ _ _ rfl fun o ho=>ox ho)) (.cons (aw.e rfl) (.cons (aw.e rfl) .nil)))
theorem ub (s:ByteArray) (r:Rc) (hs:s.size≤4611686018427387904) (hr:r.sg.length≤9223372036854775807):PC prog wq [.str s,dc r] (.tuple [.str (Kv s r).1,.int .i64 (Kv s r).2]):=by
 have hE:=l7 r hr
 have hfl:=eP (E:=.list 1 (ints r.sg)) r rfl
 have hpr:(fJ (.list 1 (ints r.sg)) r).cQ=true:=rfl
 have hsz:=CM r
 refine ae w3 (by simp) ?_
 simp only [nU,dc] at hE ⊢
 try simp (disch:=omega) only [go_sem,jF,jH,↓reduceIte,reduceCtorEq,hfl,br,cW]
 refine ab hE (by simp [hpr]) ?_
 cases hv:bg r
 ·rw [lq,Kv,hv]
  try simp (disch:=omega) only [go_sem,jA,jF,↓reduceIte,reduceCtorEq]
  exact aw.pure rfl
 ·rw [lq,Kv,hv]
  try simp (disch:=omega) only [go_sem,jF,↓reduceIte,reduceCtorEq]
  refine ⟨by omega,aw.pure rfl⟩
def O3 (s:ByteArray) (k:Int):ByteArray:=s.extract 0 (min (max k 0) s.size).toNat
def TJ (s:ByteArray) (k m:Int):ByteArray:=O3 s k++O3 (s.extract (O3 s k).size s.size) m
def cE (s:ByteArray):Nat→Int→List Rc × Int
 | 0,a=>([],a)
 | f+1,a=>if (bX s a).2.2≠0 then ([],a) else ((bX s a).1 :: (cE s f (bX s a).2.1).1,(cE s f (bX s a).2.1).2)
def cr (s:ByteArray):List Rc × Int:=cE s s.size 0
theorem D2 (s:ByteArray) (a:Int) (h:(bX s a).2.2=0):0≤a∧a+5≤(bX s a).2.1∧(bX s a).2.1≤s.size:=by
 unfold bX at h ⊢
 split
 ·rename_i h1; rw [if_pos h1] at h; simp at h
 ·rename_i h1
  rw [if_neg h1] at h
  split
  ·rename_i h2; rw [if_pos h2] at h; simp at h
  ·rename_i h2
   rw [if_neg h2] at h
   unfold Ay at h ⊢
   simp only at h ⊢
   generalize hk:(sb s).getD a.toNat 0=k at h ⊢
   by_cases c1:aH k=[]
   ·rw [if_pos c1] at h; simp at h
   rw [if_neg c1] at h ⊢
   by_cases c2:s.size<a.toNat+1+5 * (aH k).length+4
   ·rw [if_pos c2] at h; simp at h
   rw [if_neg c2] at h ⊢
   by_cases c3:mV s (a.toNat+1+5 * (aH k).length) 4≠pK (s.extract a.toNat (a.toNat+1+5 * (aH k).length))
   ·rw [if_pos c3] at h; simp at h
   rw [if_neg c3] at h ⊢
   by_cases c4:(bD s a.toNat (aH k).length).all vB=true
   ·rw [if_pos c4]; simp only; omega
   ·rw [if_neg c4] at h; simp at h
theorem pP (s:ByteArray):∀ (f:Nat) (a:Int),0≤a→a≤s.size→(cE s f a).1.length≤s.size-a.toNat
 | 0,a,_,_=>by simp [cE]
 | f+1,a,h0,h1=>by
  rw [cE]
  split
  ·simp
  ·rename_i h
   have hd:=D2 s a (by simpa using h)
   have:=pP s f (bX s a).2.1 (by omega) hd.2.2
   simp only [List.length_cons]; omega
theorem xU (s:ByteArray) (hs:s.size≤100000000000):PC prog zT [.str s] (.tuple [.list 21 (yI (cr s).1),.int .i64 (cr s).2]):=by
 refine ae AW (by simp) ?_
 simp only [qH]
 try simp (disch:=omega) only [go_sem]
 have hb:=pP s s.size 0 (by omega) (by omega)
 refine aT [2,3,4,5,6,7,8,9,10,11,12,13,14,15,16,17,18,19,20,21,22,23,24] (by kernel_rfl) (cr s).1.length (fun i e σ=>∃ l f a,l.length=i∧cr s=(l++(cE s f a).1,(cE s f a).2)∧0≤a∧a≤s.size∧(s.size:Int)-a≤f∧e 5=.int .i64 a∧∃ X,At e 4 X∧cw 21 32 σ (yI l) X) ?_ ?_
 ·exact ⟨[],s.size,0,rfl,rfl,by omega,by omega,by omega,(by first | rfl | (simp (disch:=omega) only [go_sem,jA,jB,jC,jD,jE,jF,jG,jH,jI,jJ,↓reduceIte,reduceCtorEq,jP,jO,jM,jN]; try rfl)),.nil,(by simp only [At]; try simp (disch:=omega) only [go_sem,jF,↓reduceIte]),cw.nil⟩
 rintro i fe ob m c hi hm ⟨l,f,a,rfl,hO,h0,h1,hf,h5,X,h4,hX⟩
 simp (maxSteps:=1000000) only [go_sem,jF,↓reduceIte,At] at h5 h4
 try simp (disch:=omega) only [go_sem,jF,↓reduceIte,reduceCtorEq,h5]
 refine ab (tZ s a (by omega)) (by simp [go_sem]) ?_
 rw [Iq]
 have hbk:=ng
 have hrep:∀ q p,fI 0 (dc q) (fJ .nil p)=dc q:=fun _ _=>rfl
 have htk:∀ q,AV.agg ((dc q).cells.take 21)=dc q:=fun _=>rfl
 have htc:∀ q,(dc q).cells.take 21=(dc q).cells:=fun _=>rfl
 have htl:∀ q,(dc q).cells.length=21:=fun _=>rfl
 have htf:∀ q,(dc q).flat=true:=fun _=>rfl
 have hac:∀ q,AV.agg (dc q).cells=dc q:=fun _=>rfl
 have hfr:∀ v j,j<m→bd ob m v j=ob j:=fun v j h=>aa _ _ _ _ (by omega)
 have hto:∀ q,(dc q).cells.all AV.one=true:=fun _=>rfl
 have htp:∀ q,(dc q).cells.all AV.eK=true:=fun _=>rfl
 try simp (disch:=omega) only [go_sem,jF,jH,↓reduceIte,hbk,hrep,htf,htl]
 refine aY (fun h7=>?_) (fun h7=>?_) <;> try simp (disch:=omega) only [go_sem,jF,jH,↓reduceIte,h4,htc,htl,hto,htp,hac,l6]
 ·have he:cE s f a=([],a):=by
   cases f with
   | zero=>rfl
   | succ f=>rw [cE,if_pos h7]
  rw [hO,he,List.append_nil]
  exact aw.tu (.cons (hX.mF (fun j hj _=>hfr _ j hj) (He _) (fun x hx=>Jf _ x hx)) (.cons (aw.e rfl) .nil))
 have h7':(bX s a).2.2=0:=by simpa using h7
 have hd:=D2 s a h7'
 obtain ⟨f,rfl⟩:∃ f',f=f'+1:=⟨f-1,by omega⟩
 rw [cE,if_neg (by simp [h7'])] at hO
 have hbd:=pP s f (bX s a).2.1 (by omega) hd.2.2
 have hll:l.length+((cE s f (bX s a).2.1).1.length+1)=(cr s).1.length:=by rw [hO]; simp
 have hle:(cr s).1.length≤s.size:=by have:cr s=cE s s.size 0:=rfl; rw [this]; simp at hb; omega
 refine bE (b:=184) (hX.move (Nat.le_succ _) fun j hj _=>hfr _ j hj) (by rw [bN]; omega) (by rw [bN]; omega) fun Y τ hY kY=>?_
 obtain ⟨ob5,m5,c5⟩:=τ
 try simp (disch:=omega) only [go_sem,jF,↓reduceIte]
 refine aD m5 (by omega) (Nat.zero_le _) ⟨l++[(bX s a).1],f,(bX s a).2.1,by simp,?_,by omega,hd.2.2,by omega,(by first | rfl | (simp (disch:=omega) only [go_sem,jA,jB,jC,jD,jE,jF,jG,jH,jI,jJ,↓reduceIte,reduceCtorEq,jP,jO,jM,jN]; try rfl)),Y,(by simp only [At]; try simp (disch:=omega) only [go_sem,jF,↓reduceIte]),?_⟩
 ·rw [hO,List.append_assoc]; rfl
 ·rw [show yI (l++[(bX s a).1])=yI l++[dc (bX s a).1] by simp [yI]]
  exact hY.tr
abbrev SE:TypeId:=3
def TT (σ:St) (r:Rc) (x:AV) (τ:St):Prop:=σ.n≤τ.n∧(∀ i,i<σ.n→τ.ob i=σ.ob i)∧((aH r.k=[]∧x=.tuple [.nil,.bool false])∨(aH r.k≠[]∧∃ id g,x=.tuple [.sl id g 1 0 (aH r.k).length,.bool true]∧σ.n≤id∧id<τ.n∧τ.ob id=some ⟨g,1,SE,false,true,ints (ba r)⟩))
theorem iy (σ:St) (E:AV) (r:Rc) (hE:E.one=true):HC prog x5 [fJ E r] σ (TT σ r):=by
 obtain ⟨dL,n0,c0⟩:=σ
 have hfl:=eP r hE
 refine aM yt (by simp) ?_
 simp only [pg]
 have c1:List.take 7 (List.drop 7 (fJ E r).cells)=[.int .i64 r.yT,.int .i64 r.site,.int .i64 r.fr,.int .i64 r.to,.int .i64 r.rel,E,.bool r.wd]:=rfl
 have c2:List.take 4 (List.drop 17 (fJ E r).cells)=[.int .i64 r.xM,.int .i64 r.nj,.int .i64 r.wb,.int .i64 r.vR]:=rfl
 have c3:List.take 6 (List.drop 1 (fJ E r).cells)=[.int .i64 r.num,.int .i64 r.acc,.int .i64 r.vI,.int .i64 r.tm,.int .i64 r.lo,.int .i64 r.hi]:=rfl
 try simp (disch:=omega) only [go_sem,jF,jG,jH,↓reduceIte,reduceCtorEq,jM,hfl,br,ou,c1,c2,c3,List.all_cons,List.all_nil,hE]
 have rd7:=vM E r (o:=7) (by unfold Cw; omega)
 have rd14:=vM E r (o:=14) (by unfold Cw; omega)
 have rd15:=vM E r (o:=15) (by unfold Cw; omega)
 have rd16:=vM E r (o:=16) (by unfold Cw; omega)
 refine ah (fun h1=>?_) (fun h1=>?_) <;> try simp (disch:=omega) only [go_sem,jF,jG,jH,↓reduceIte]
 ·have e:aH r.k=[1,2,3,4,5,6]:=by rw [h1]; rfl
  refine ⟨by simp only; omega,fun i hi=>by simp only at hi; simp (disch:=omega) only [aa],.inr ⟨by rw [e]; simp,n0+1+1+1+1,_,by rw [e]; rfl,by simp only; omega,by simp only; omega,(az _ _ _).trans (by rw [ba,e]; rfl)⟩⟩
 refine ah (fun h2=>?_) (fun h2=>?_) <;> try simp (disch:=omega) only [go_sem,jF,jG,jH,↓reduceIte,jM]
 ·have e:aH r.k=[8,9,10,11]:=by rw [h2]; rfl
  refine ⟨by simp only; omega,fun i hi=>by simp only at hi; simp (disch:=omega) only [aa],.inr ⟨by rw [e]; simp,n0+1+1+1+1,_,by rw [e]; rfl,by simp only; omega,by simp only; omega,(az _ _ _).trans (by rw [ba,e]; rfl)⟩⟩
 refine ah (fun h3=>?_) (fun h3=>?_)
 ·try simp (disch:=omega) only [go_sem,jF,jG,jH,↓reduceIte,jM,rd14,rd15,rd16,decide_eq_true h3]
  have e:aH r.k=[7,14,15,16]:=by rw [h3]; rfl
  refine ⟨by simp only; omega,fun i hi=>by simp only at hi; simp (disch:=omega) only [aa],.inr ⟨by rw [e]; simp,n0+1+1+1+1,_,by rw [e]; rfl,by simp only; omega,by simp only; omega,(az _ _ _).trans (by rw [ba,e]; rfl)⟩⟩
 try simp (disch:=omega) only [go_sem,jF,↓reduceIte]
 refine ah (fun h4=>?_) (fun h4=>?_) <;> try simp (disch:=omega) only [go_sem,jF,jG,jH,↓reduceIte,jM,rd14,rd15,rd16]
 ·have e:aH r.k=[7,14,15,16]:=by rw [h4]; rfl
  refine ⟨by simp only; omega,fun i hi=>by simp only at hi; simp (disch:=omega) only [aa],.inr ⟨by rw [e]; simp,n0+1+1+1+1,_,by rw [e]; rfl,by simp only; omega,by simp only; omega,(az _ _ _).trans (by rw [ba,e]; rfl)⟩⟩
 refine ah (fun h5=>?_) (fun h5=>?_) <;> try simp (disch:=omega) only [go_sem,jF,jG,jH,↓reduceIte,jM]
 ·have e:aH r.k=[18,19,20]:=by rw [h5]; rfl
  refine ⟨by simp only; omega,fun i hi=>by simp only at hi; simp (disch:=omega) only [aa],.inr ⟨by rw [e]; simp,n0+1+1+1+1,_,by rw [e]; rfl,by simp only; omega,by simp only; omega,(az _ _ _).trans (by rw [ba,e]; rfl)⟩⟩
 refine ah (fun h6=>?_) (fun h6=>?_) <;> try simp (disch:=omega) only [go_sem,jF,jH,↓reduceIte,jM]
 ·have e:aH r.k=[17]:=by rw [h6]; rfl
  refine ⟨by simp only; omega,fun i hi=>by simp only at hi; simp (disch:=omega) only [aa],.inr ⟨by rw [e]; simp,n0+1+1+1+1,_,by rw [e]; rfl,by simp only; omega,by simp only; omega,(az _ _ _).trans (by rw [ba,e]; rfl)⟩⟩
 have e:aH r.k=[]:=by simp [aH,h1,h2,h3,h4,h5,h6]
 refine ⟨by simp only; omega,fun i hi=>by simp only at hi; simp (disch:=omega) only [aa],.inl ⟨e,rfl⟩⟩
theorem Bi (a b:Rc) (ha:a.sg.length≤9223372036854775807):PC prog Dw [dc a,dc b] (.bool (decide (a=b))):=by
 refine ae Eb (by simp) ?_
 simp only [uU,dc,fJ,eJ]
 try simp (disch:=omega) only [go_sem,jF,jG,jH,↓reduceIte,reduceCtorEq]
 refine iZ rfl (fun h0=>?_) (fun h0=>?_) <;> try simp (disch:=omega) only [go_sem,jF,jG,jH,↓reduceIte]
 ·exact aw.of_eq (by rw [eE Rc.yT h0]) rfl
 refine iZ rfl (fun h1=>?_) (fun h1=>?_) <;> try simp (disch:=omega) only [go_sem,jF,jG,jH,↓reduceIte]
 ·exact aw.of_eq (by rw [eE Rc.site h1]) rfl
 refine iZ rfl (fun h2=>?_) (fun h2=>?_) <;> try simp (disch:=omega) only [go_sem,jF,jG,jH,↓reduceIte]
 ·exact aw.of_eq (by rw [eE Rc.fr h2]) rfl
 refine iZ rfl (fun h3=>?_) (fun h3=>?_) <;> try simp (disch:=omega) only [go_sem,jF,jG,jH,↓reduceIte]
 ·exact aw.of_eq (by rw [eE Rc.to h3]) rfl
 refine iZ rfl (fun h4=>?_) (fun h4=>?_) <;> try simp (disch:=omega) only [go_sem,jF,jG,jH,↓reduceIte]
 ·exact aw.of_eq (by rw [eE Rc.rel h4]) rfl
 refine iZ rfl (fun h5=>?_) (fun h5=>?_) <;> try simp (disch:=omega) only [go_sem,jF,jG,jH,↓reduceIte]
 ·exact aw.of_eq (by rw [eE Rc.wd h5]) rfl
 try simp (disch:=omega) only [go_sem,au]
 refine aY (fun h6=>?_) (fun h6=>?_) <;> try simp (disch:=omega) only [go_sem,jF,jG,jH,↓reduceIte,au]
 ·exact aw.of_eq (by rw [eE (fun r=>r.sg.length) (fun e=>h6 (by rw [e]))]) rfl
 have hl:a.sg.length=b.sg.length:=by omega
 refine aT [4,7,64,65,66,67,68,69,70,71,72,73,74,75,76,77,78] (by kernel_rfl) a.sg.length (fun k e σ=>e 64=.int .i64 k∧4≤σ.n∧(∀ j,j<k→a.sg[j]?=b.sg[j]?)∧σ.ob 0=some ⟨0,21,32,false,true,[dc a]⟩∧σ.ob 1=some ⟨1,21,32,false,true,[dc b]⟩∧
  σ.ob 3=some ⟨3,7,28,false,true,[.agg [.int .i64 a.yT,.int .i64 a.site,.int .i64 a.fr,.int .i64 a.to,.int .i64 a.rel,.list 1 (ints a.sg),.bool a.wd]]⟩∧
  σ.ob 2=some ⟨2,7,28,false,true,[.agg [.int .i64 b.yT,.int .i64 b.site,.int .i64 b.fr,.int .i64 b.to,.int .i64 b.rel,.list 1 (ints b.sg),.bool b.wd]]⟩) ?_ ?_
 ·exact ⟨(by first | rfl | (simp (disch:=omega) only [go_sem,jA,jB,jC,jD,jE,jF,jG,jH,jI,jJ,↓reduceIte,reduceCtorEq,jP,jO,jM,jN]; try rfl)),Nat.le_refl _,fun j hj=>by omega,(by first | rfl | (simp (disch:=omega) only [go_sem,jA,jB,jC,jD,jE,jF,jG,jH,jI,jJ,↓reduceIte,reduceCtorEq,jP,jO,jM,jN]; try rfl)),(by first | rfl | (simp (disch:=omega) only [go_sem,jA,jB,jC,jD,jE,jF,jG,jH,jI,jJ,↓reduceIte,reduceCtorEq,jP,jO,jM,jN]; try rfl)),(by first | rfl | (simp (disch:=omega) only [go_sem,jA,jB,jC,jD,jE,jF,jG,jH,jI,jJ,↓reduceIte,reduceCtorEq,jP,jO,jM,jN]; try rfl)),(by first | rfl | (simp (disch:=omega) only [go_sem,jA,jB,jC,jD,jE,jF,jG,jH,jI,jJ,↓reduceIte,reduceCtorEq,jP,jO,jM,jN]; try rfl))⟩
 rintro k fe ob m c hk hm ⟨hki,hm4,hj,u0,u1,u3,u2⟩
 simp (maxSteps:=1000000) only [go_sem,jF,↓reduceIte,dc,fJ,eJ] at hki hm hm4 u0 u1 u2 u3
 try simp (disch:=omega) only [go_sem,jF,↓reduceIte,hki]
 refine ah (fun hlt=>?_) (fun hge=>?_)
 ·have hka:k<a.sg.length:=by omega
  have hga:a.sg[k]?=some a.sg[k]:=List.getElem?_eq_getElem hka
  have hgb:b.sg[k]?=some b.sg[k]:=List.getElem?_eq_getElem (by omega)
  try simp (disch:=omega) only [go_sem,jF,jG,jH,↓reduceIte,u2,u3,au,bA,hga,hgb,Option.map_some]
  refine ⟨by omega,by omega,by omega,by omega,?_⟩
  refine aY (fun hne=>?_) (fun heq=>?_) <;> try simp (disch:=omega) only [go_sem,jF,↓reduceIte,jO]
  ·exact aw.of_eq (by rw [eE (fun r=>r.sg[k]?) (fun e=>hne (by simpa [hga,hgb] using e))]) rfl
  ·refine aD m hka (by omega) ⟨(by first | rfl | (simp (disch:=omega) only [go_sem,jA,jB,jC,jD,jE,jF,jG,jH,jI,jJ,↓reduceIte,reduceCtorEq,jP,jO,jM,jN]; try rfl)),by simp only [St.aE]; omega,fun j hj'=>?_,?_,?_,?_,?_⟩
   ·by_cases e:j=k
    ·subst e; rw [hga,hgb]; exact congrArg some heq
    ·exact hj j (by omega)
   ·simp only [St.aE,dc,fJ,eJ]; rw [if_pos (by omega)]; exact u0
   ·simp only [St.aE,dc,fJ,eJ]; rw [if_pos (by omega)]; exact u1
   ·simp only [St.aE]; rw [if_pos (by omega)]; exact u3
   ·simp only [St.aE]; rw [if_pos (by omega)]; exact u2
 obtain rfl:k=a.sg.length:=by omega
 have hsg:a.sg=b.sg:=bW hl fun j hj'=>hj j (by omega)
 clear hge hj hki u2 u3
 try simp (disch:=omega) only [go_sem,jF,jH,↓reduceIte,u0,u1]
 refine bB rfl (fun h10=>?_) (fun h10=>?_) <;> try simp (disch:=omega) only [go_sem,jF,jG,jH,↓reduceIte,u0,u1]
 rotate_left
 ·exact aw.of_eq (by rw [eE Rc.k h10]) rfl
 refine LZ rfl (fun h11=>?_) (fun h11=>?_) <;> try simp (disch:=omega) only [go_sem,jF,jG,jH,↓reduceIte,u0,u1]
 rotate_left
 ·exact aw.of_eq (by rw [Gm h11 fun e=>by subst e; simp]) rfl
 refine bB rfl (fun h12=>?_) (fun h12=>?_) <;> try simp (disch:=omega) only [go_sem,jF,jG,jH,↓reduceIte,u0,u1]
 rotate_left
 ·exact aw.of_eq (by rw [eE Rc.Be h12]) rfl
 refine bB rfl (fun h13=>?_) (fun h13=>?_) <;> try simp (disch:=omega) only [go_sem,jF,jG,jH,↓reduceIte,u0,u1]
 rotate_left
 ·exact aw.of_eq (by rw [eE Rc.code h13]) rfl
 refine bB rfl (fun h14=>?_) (fun h14=>?_) <;> try simp (disch:=omega) only [go_sem,jF,jG,jH,↓reduceIte,u0,u1]
 rotate_left
 ·exact aw.of_eq (by rw [eE Rc.time h14]) rfl
 refine aw.of_eq ?_ rfl
 congr 1
 rw [Bool.eq_iff_iff,decide_eq_true_eq]
 simp only [Bool.and_eq_true,decide_eq_true_eq] at h11 ⊢
 clear u0 u1
 obtain ⟨⟩:=a
 obtain ⟨⟩:=b
 simp only at *
 simp_all
theorem FF {P:Program} {σ:St} {f:Nat} {args args':List AV} {r:AV} {K:AV→St→Prop} (d:Nat) (o:aV) (ho:σ.ob d=some o) (h:PC P f args' r) (hp:Cg ⟨fun i=>if decide (i≠d) then none else σ.ob i,σ.n,σ.c⟩ args args') (ha:∀ a∈args',a.cQ=true)
  (hK:∀ ob',(∀ j,j≠d→ob' j=σ.ob j)→ob' d=some { o with ro:=true }→K r ⟨ob',σ.n,σ.c⟩):HC P f args σ K:=
 HI (fun i=>decide (i≠d)) h hp ha (hK _ (fun j hj=>by simp [hj]) (by simp [ho]))
theorem TB {α:Type} {l:List α} (h:l.length=1):∃ a,l=[a]:=by match l,h with | [a],_=>exact ⟨a,rfl⟩
theorem TA {α:Type} {l:List α} (h:l.length=3):∃ a b c,l=[a,b,c]:=by match l,h with | [a,b,c],_=>exact ⟨a,b,c,rfl⟩
theorem OP {α:Type} {l:List α} (h:l.length=4):∃ a b c d,l=[a,b,c,d]:=by match l,h with | [a,b,c,d],_=>exact ⟨a,b,c,d,rfl⟩
theorem Tz {α:Type} {l:List α} (h:l.length=6):∃ a b c d e f,l=[a,b,c,d,e,f]:=by match l,h with | [a,b,c,d,e,f],_=>exact ⟨a,b,c,d,e,f,rfl⟩
theorem rL (k:Int) (l:List Int) (hl:l.length=(aH k).length):PC prog Du [.int .i64 k,.list 1 (ints l)] (dc (oZ k l)):=by
 refine ae Ea (by simp) ?_
 simp only [uT]
 try simp (disch:=omega) only [go_sem,jF,jG,jH,↓reduceIte,reduceCtorEq]
 have hsg:(oZ k l).sg=[]:=tN _ _ _ rfl fun o ho=>ox ho
 refine ah (fun h1=>?_) (fun h1=>?_)
 ·obtain rfl:=h1
  obtain ⟨a,b,c,d,e,f,rfl⟩:=Tz (l:=l) (by rw [hl]; rfl)
  try simp (disch:=omega) only [go_sem,jB,jC,jD,jF,jG,jH,↓reduceIte,reduceCtorEq,ints,List.map_cons,List.map_nil]
  exact fK hsg
 try simp (disch:=omega) only [go_sem,jF,↓reduceIte]
 refine ah (fun h2=>?_) (fun h2=>?_)
 ·obtain rfl:=h2
  obtain ⟨a,b,c,d,rfl⟩:=OP (l:=l) (by rw [hl]; rfl)
  try simp (disch:=omega) only [go_sem,jA,jB,jC,jD,jF,jG,jH,↓reduceIte,reduceCtorEq,ints,List.map_cons,List.map_nil]
  exact fK hsg
 try simp (disch:=omega) only [go_sem,jF,↓reduceIte]
 refine ah (fun h3=>?_) (fun h3=>?_)
 ·try simp (disch:=omega) only [go_sem,jC,jD,jF,jG,jH,↓reduceIte,reduceCtorEq,decide_eq_true h3]
  obtain rfl:=h3
  obtain ⟨a,b,c,d,rfl⟩:=OP (l:=l) (by rw [hl]; rfl)
  try simp (disch:=omega) only [go_sem,jB,jF,jG,ints,List.map_cons,List.map_nil]
  exact fK hsg
 try simp (disch:=omega) only [go_sem,jF,↓reduceIte]
 refine ah (fun h4=>?_) (fun h4=>?_)
 ·obtain rfl:=h4
  obtain ⟨a,b,c,d,rfl⟩:=OP (l:=l) (by rw [hl]; rfl)
  try simp (disch:=omega) only [go_sem,jA,jB,jC,jD,jF,jG,jH,↓reduceIte,reduceCtorEq,ints,List.map_cons,List.map_nil]
  exact fK hsg
 try simp (disch:=omega) only [go_sem,jF,↓reduceIte]
 refine ah (fun h5=>?_) (fun h5=>?_)
 ·obtain rfl:=h5
  obtain ⟨a,b,c,rfl⟩:=TA (l:=l) (by rw [hl]; rfl)
  try simp (disch:=omega) only [go_sem,jA,jB,jC,jD,jF,jG,jH,↓reduceIte,reduceCtorEq,ints,List.map_cons,List.map_nil]
  exact fK hsg
 try simp (disch:=omega) only [go_sem,jF,↓reduceIte]
 refine ah (fun h6=>?_) (fun h6=>?_)
 ·obtain rfl:=h6
  obtain ⟨a,rfl⟩:=TB (l:=l) (by rw [hl]; rfl)
  try simp (disch:=omega) only [go_sem,jA,jB,jC,jF,jG,jH,↓reduceIte,reduceCtorEq,ints,List.map_cons,List.map_nil]
  exact fK hsg
 try simp (disch:=omega) only [go_sem,jF,jG,jH,↓reduceIte,reduceCtorEq]
 have e:aH k=[]:=by simp [aH,h1,h2,h3,h4,h5,h6]
 rw [e] at hl
 obtain rfl:l=[]:=List.length_eq_zero_iff.1 hl
 have em:oZ k []=ib k:=by rw [oZ,e]; rfl
 rw [em]
 exact fK (r:=ib k) rfl
theorem pR (r:Rc) (hr:r.sg.length≤9223372036854775807):PC prog Bt [dc r] (.bool (bg r)):=by
 have hfl:=eP (E:=.list 1 (ints r.sg)) r rfl
 refine ae BP (by simp) ?_
 simp only [sk,dc]
 try simp (disch:=omega) only [go_sem,jF,jH,↓reduceIte,hfl,br,cW]
 refine (iy _ _ r rfl).mono ?_
 rintro x ⟨ob1,n1,c1⟩ ⟨hn,ho,⟨he,rfl⟩ | ⟨hne,id,g,rfl,hi1,hi2,hob⟩⟩
 ·try simp (disch:=omega) only [go_sem,jF,↓reduceIte]
  have:bg r=false:=by simp [bg,he]
  rw [this]; exact aw.pure rfl
 simp only at hn ho hi1 hi2 hob
 have u0:=ho 0 (by omega)
 try simp (disch:=omega) only [go_sem,↓reduceIte] at u0
 try simp (disch:=omega) only [go_sem,jF,↓reduceIte]
 have h6:=iU r.k
 have hnl:(ba r).length=(aH r.k).length:=by rw [ba,List.length_map]
 refine bq [2,6,16,17,18,19,20,21,22,23,24,25,26] (by kernel_rfl) (aH r.k).length (fun i e σ=>e 16=.int .i64 i∧((ba r).take i).all vB=true∧σ.ob 0=some ⟨0,21,32,false,true,[fJ (.list 1 (ints r.sg)) r]⟩∧σ.ob id=some ⟨g,1,SE,false,true,ints (ba r)⟩) ?_ ?_
 ·exact ⟨(by first | rfl | (simp (disch:=omega) only [go_sem,jA,jB,jC,jD,jE,jF,jG,jH,jI,jJ,↓reduceIte,reduceCtorEq,jP,jO,jM,jN]; try rfl)),rfl,u0,hob⟩
 clear u0 hob ho
 rintro i fe ob c hi ⟨h16,hall,u0,hob⟩
 simp (maxSteps:=1000000) only [go_sem,jF,↓reduceIte] at h16 u0 hob
 try simp (disch:=omega) only [go_sem,jF,↓reduceIte,h16]
 refine ah (fun hlt=>?_) (fun hge=>?_)
 ·have hil:i<(ba r).length:=by omega
  have hgi:=bA (ba r) i
  have htk:=dD _ _ hil
  have hmem:(ba r)[i]∈ba r:=List.getElem_mem hil
  rw [List.getElem?_eq_getElem hil] at hgi
  generalize (ba r)[i]=v at *
  try simp (disch:=omega) only [go_sem,jF,jH,↓reduceIte,hob,hgi,Option.map_some]
  have hbad:vB v=false→∀ σ:St,aw σ (.bool false) (.bool (bg r)):=fun hv σ=>by
   have h8:(ba r).all vB=false:=by
    rw [List.all_eq_false]; exact ⟨v,hmem,by simp [hv]⟩
   have:bg r=false:=by simp only [bg,h8,Bool.and_false,Bool.false_and]
   rw [this]; exact aw.pure rfl
  refine ⟨by omega,by omega,?_⟩
  refine bH rfl (fun hb=>?_) (fun hb=>?_) <;> try simp (disch:=omega) only [go_sem,jF,↓reduceIte]
  ·exact hbad (by simp [vB]; omega) _
  refine ah (fun hb2=>?_) (fun hb2=>?_) <;> try simp (disch:=omega) only [go_sem,jF,↓reduceIte,jO]
  ·exact hbad (by simp [vB]; omega) _
  try simp (disch:=omega) only [go_sem,jA,jB,jC,jD,jE,jF,jG,jH,jI,jJ,↓reduceIte,reduceCtorEq,jO,jM,jN,jK,jL,h16]
  refine bj (by omega) ⟨(by first | rfl | (simp (disch:=omega) only [go_sem,jA,jB,jC,jD,jE,jF,jG,jH,jI,jJ,↓reduceIte,reduceCtorEq,jP,jO,jM,jN]; try rfl)),?_,(aW (show 0<n1 by omega)).trans u0,(aW hi2).trans hob⟩
  rw [htk,List.all_append,hall]; simp [vB]; omega
 obtain rfl:i=(aH r.k).length:=by omega
 rw [List.take_of_length_le (by omega)] at hall
 try simp (disch:=omega) only [go_sem,jF,jH,↓reduceIte,u0,ou,cW]
 refine FF id _ hob (rL r.k (ba r) hnl) (.cons (.pure rfl) (.cons (aw.dk (by simp only; rw [if_neg (by simp)]; exact hob) (by rw [au,hnl]) (dp _) (fU _)) .nil)) (by simp [go_sem]) fun ob4 hne4 hxi4=>?_
 try simp (disch:=omega) only [go_sem,jF,↓reduceIte,reduceCtorEq]
 refine ⟨hne4 0 (by omega),?_⟩
 have hS:=Bi (oZ r.k (ba r)) r (by rw [oZ,tN _ _ (ib r.k) rfl fun o ho=>ox ho]; simp)
 refine ab hS (by simp [iI]; exact iI r) ?_
 try simp (disch:=omega) only [go_sem,↓reduceIte]
 have:bg r=decide (oZ r.k (ba r)=r):=by
  rw [zX]; simp only [bg,hall,Bool.and_true]; rw [decide_eq_true hne]; rfl
 rw [this]; exact aw.pure rfl
theorem I9 (L:List Int) (n:Int) (k:Nat) (hs:L.length≤1000000) (hk:k≤5):PC prog xk [.str (bs L),.int .i64 n,.int .i64 k] (.str (bs (L++cP n k))):=by
 rw [CP]; exact Dl (bs L) n k (by simp [bs,ByteArray.size]; omega) hk
theorem xO (r:Rc) (hr:r.sg.length≤9223372036854775807):PC prog zI [dc r] (.tuple [.str (lq r).1,.int .i64 (lq r).2]):=by
 have hfl:=eP (E:=.list 1 (ints r.sg)) r rfl
 have hV:=pR r hr
 have hpr:(fJ (.list 1 (ints r.sg)) r).cQ=true:=rfl
 refine ae AK (by simp) ?_
 simp only [qw,dc] at hV ⊢
 try simp (disch:=omega) only [go_sem,jF,jH,↓reduceIte,hfl,br,cW]
 refine ab hV (by simp [hpr]) ?_
 cases hva:bg r
 ·try simp (disch:=omega) only [go_sem,jF,↓reduceIte]
  rw [lq,if_neg (by simp [hva])]; exact aw.pure rfl
 try simp (disch:=omega) only [go_sem,jF,jH,↓reduceIte,cW]
 refine (iy _ _ r rfl).mono ?_
 have hne:aH r.k≠[]:=fun h=>by simp [bg,h] at hva
 rintro x ⟨ob1,n1,c1⟩ ⟨hn,ho,⟨he,rfl⟩ | ⟨_,id,g,rfl,hi1,hi2,hob⟩⟩
 ·exact absurd he hne
 simp only at hn ho hi1 hi2 hob
 have u0:=ho 0 (by omega)
 try simp (disch:=omega) only [go_sem,↓reduceIte] at u0
 try simp (disch:=omega) only [go_sem,jF,jH,↓reduceIte,u0,ou]
 have hp0:=I9 [] r.k 1 (by simp) (by omega)
 refine ab hp0 (by simp [go_sem]) ?_
 try simp (disch:=omega) only [go_sem,jF,↓reduceIte]
 have h6:=iU r.k
 have hnl:(ba r).length=(aH r.k).length:=by rw [ba,List.length_map]
 refine bq [6,8,22,23,24,25,26,27,28,29] (by kernel_rfl) (aH r.k).length (fun i e σ=>e 22=.int .i64 i∧e 6=.str (bs (tc r i))∧σ.ob id=some ⟨g,1,SE,false,true,ints (ba r)⟩) ?_ ?_
 ·refine ⟨(by first | rfl | (simp (disch:=omega) only [go_sem,jA,jB,jC,jD,jE,jF,jG,jH,jI,jJ,↓reduceIte,reduceCtorEq,jP,jO,jM,jN]; try rfl)),?_,hob⟩
  try simp (disch:=omega) only [go_sem,jF,↓reduceIte]; rfl
 clear u0 hob ho
 rintro i fe ob c hi ⟨h22,h6',hob⟩
 simp (maxSteps:=1000000) only [go_sem,jF,↓reduceIte] at h22 h6' hob
 have hil':=Fq r i
 try simp (disch:=omega) only [go_sem,jF,↓reduceIte,h22]
 refine ah (fun hlt=>?_) (fun hge=>?_)
 ·have hil:i<(ba r).length:=by omega
  have hgi:=bA (ba r) i
  rw [List.getElem?_eq_getElem hil] at hgi
  try simp (disch:=omega) only [go_sem,jF,jH,↓reduceIte,h6',hob,hgi,Option.map_some]
  refine ⟨by omega,by omega,ab (I9 (tc r i) (ba r)[i] 5 (by omega) (by omega)) (by simp [go_sem]) ?_⟩
  try simp (disch:=omega) only [go_sem,jF,↓reduceIte,jO]
  refine bj (by omega) ⟨(by first | rfl | (simp (disch:=omega) only [go_sem,jA,jB,jC,jD,jE,jF,jG,jH,jI,jJ,↓reduceIte,reduceCtorEq,jP,jO,jM,jN]; try rfl)),?_,(aW hi2).trans hob⟩
  try simp (disch:=omega) only [go_sem,jF,↓reduceIte]; rw [wI r i hil]
 obtain rfl:i=(aH r.k).length:=by omega
 rw [←hnl,Ft] at h6' hil'
 have hsz:(bs (c8 r)).size=(c8 r).length:=by simp [bs,ByteArray.size]
 try simp (disch:=omega) only [go_sem,jF,↓reduceIte,h6']
 refine ab (tV (bs (c8 r)) (by omega)) (by simp [go_sem]) ?_
 try simp (disch:=omega) only [go_sem,jF,↓reduceIte]
 refine ab (I9 (c8 r) (pK (bs (c8 r))) 4 (by omega) (by omega)) (by simp [go_sem]) ?_
 try simp (disch:=omega) only [go_sem,jF,↓reduceIte]
 rw [lq,if_pos hva]
 exact aw.pure rfl
theorem Na (s:ByteArray) (a k:Nat) (hs:s.size≤4611686018427387904) (h:a+k≤s.size) (h5:k≤5):PC prog xl [.str s,.int .i64 a,.int .i64 k] (.int .i64 (mV s a k)):=Dm s a k hs h h5
theorem ints_set (l:List Int) (i:Nat) (v:Int):(ints l).set i (.int .i64 v)=ints (l.set i v):=by simp [ints]
theorem Jo (s:ByteArray) (n i:Nat) (l:List Int) (h:i<l.length):(bD s n i++l.drop i).set i (mV s (n+1+5 * i) 5)=bD s n (i+1)++l.drop (i+1):=by
 rw [List.set_append_right _ _ (by rw [dJ]; omega),dJ,Nat.sub_self,mb,List.append_assoc,List.drop_eq_getElem_cons h]
 rfl
theorem xP (s:ByteArray) (a:Int) (hs:s.size≤4611686018427387904):PC prog zJ [.str s,.int .i64 a] (Iq s a):=by
 refine ae AL (by simp) ?_
 simp only [qx,Iq]
 have hbk:=ng
 have bad:∀ (σ:St) (e:Int),bX s a=(ib 0,0,e)→aw σ (.tuple [fJ .nil (ib 0),.int .i64 0,.int .i64 e]) (.tuple [dc (bX s a).1,.int .i64 (bX s a).2.1,.int .i64 (bX s a).2.2]):=fun σ e h=>by
  rw [h]; exact aw.tu (.cons (fK rfl) (.cons (aw.e rfl) (.cons (aw.e rfl) .nil)))
 have hfl:∀ q,(fJ .nil q).flat=true:=fun q=>eP q rfl
 try simp (disch:=omega) only [go_sem,jF,↓reduceIte,reduceCtorEq]
 refine bH rfl (fun h1=>?_) (fun h1=>?_) <;> try simp (disch:=omega) only [go_sem,jF,jG,jH,↓reduceIte,reduceCtorEq,hbk,hfl,br,df,cW]
 ·refine bad _ 1 (by rw [bX,if_pos (.inl h1)])
 refine ah (fun h2=>?_) (fun h2=>?_) <;> try simp (disch:=omega) only [go_sem,jF,jG,jH,↓reduceIte,reduceCtorEq,hbk,hfl,br,df,cW]
 ·refine bad _ 1 (by rw [bX,if_pos (.inr h2)])
 refine ah (fun h3=>?_) (fun h3=>?_) <;> try simp (disch:=omega) only [go_sem,jF,jG,jH,↓reduceIte,reduceCtorEq,hbk,hfl,br,df,cW]
 ·refine bad _ 7 (by rw [bX,if_neg (by omega),if_pos h3])
 obtain ⟨n,rfl,hn⟩:=EL s a (by omega) (by omega)
 have hD:bX s n=Ay s n:=by rw [bX,if_neg (by omega),if_neg (by omega)]; rfl
 rw [hD] at bad ⊢
 have hsi:=EM s n hn
 have hkb:=gY s n
 try simp (disch:=omega) only [go_sem,jG,jH,↓reduceIte,jO,hsi,Option.some.injEq,exists_eq_left',Int.toNat_natCast,hbk]
 generalize hk:(sb s).getD n 0=k at *
 refine (iy _ .nil (ib k) rfl).mono ?_
 have hdN:Ay s n=if aH k=[] then (ib 0,0,49) else if s.size<n+1+5 * (aH k).length+4 then (ib 0,0,7) else
   if mV s (n+1+5 * (aH k).length) 4≠pK (s.extract n (n+1+5 * (aH k).length)) then (ib 0,0,8) else
   if (bD s n (aH k).length).all vB then (oZ k (bD s n (aH k).length),((n+1+5 * (aH k).length+4:Nat):Int),0) else (ib 0,0,49):=by
  simp only [Ay,hk]; rfl
 have hkk:(ib k).k=k:=rfl
 rintro x ⟨ob1,n1,c1⟩ ⟨hn1,ho,⟨he,rfl⟩ | ⟨hne,id,g,rfl,hi1,hi2,hob⟩⟩
 ·have u0:=ho 0 (by simp only; omega)
  simp only at u0
  try simp (disch:=omega) only [go_sem,↓reduceIte] at u0
  try simp (disch:=omega) only [go_sem,jF,jG,jH,↓reduceIte,u0,hbk,hfl,br,df,cW]
  refine bad _ 49 (by rw [hdN,if_pos (hkk ▸ he)])
 rw [hkk] at hne
 simp only at hn1 ho hi1 hi2 hob
 have u0:=ho 0 (by omega)
 try simp (disch:=omega) only [go_sem,↓reduceIte] at u0
 rw [if_neg hne] at hdN
 have h6:=iU k
 have hnl:(ba (ib k)).length=(aH k).length:=by rw [ba,List.length_map,hkk]
 clear ho hsi
 try simp (disch:=omega) only [go_sem,jF,↓reduceIte,reduceCtorEq,jO,hkk]
 obtain ⟨p,hp⟩:∃ p:Nat,p=n+1+5 * (aH k).length:=⟨_,rfl⟩
 have hpi:(n:Int)+1+5 * (aH k).length=p:=by omega
 rw [←hp] at hdN
 simp only [hpi]
 refine ah (fun h4=>?_) (fun h4=>?_) <;> try simp (disch:=omega) only [go_sem,jF,jG,jH,↓reduceIte,reduceCtorEq,u0,hbk,hfl,br,df,cW]
 ·refine bad _ 7 (by rw [hdN,if_pos (by omega)])
 rw [if_neg (by omega)] at hdN
 have hn1':p+4≤s.size:=by omega
 have e2:(p:Int).toNat=p:=by omega
 have e3:(n:Int).toNat=n:=by omega
 try simp (disch:=omega) only [go_sem,jA,jB,jC,jD,jE,jF,jG,jH,jI,jJ,↓reduceIte,reduceCtorEq,jO,jM,jN,jK,jL,e2,e3]
 refine ⟨by omega,by omega,by omega,ab (Na s p 4 hs hn1' (by omega)) (by simp [go_sem]) ?_⟩
 try simp (disch:=omega) only [go_sem,jF,↓reduceIte]
 refine ab (tV (s.extract n p) (by simp; omega)) (by simp [go_sem]) ?_
 try simp (disch:=omega) only [go_sem,jF,↓reduceIte]
 refine aY (fun h5=>?_) (fun h5=>?_) <;> try simp (disch:=omega) only [go_sem,jF,jG,jH,↓reduceIte,u0,hbk,hfl,br,df,cW]
 ·refine bad _ 8 (by rw [hdN,if_pos h5])
 rw [if_neg (by omega)] at hdN
 refine bq [5,6,11,63,64,65,66,67,68,69,70,71,72,73,74,75,76,77,78,79,80,81,82] (by kernel_rfl) (aH k).length (fun i e σ=>e 63=.int .i64 i∧σ.ob 0=some ⟨0,21,32,false,true,[fJ .nil (ib 0)]⟩∧σ.ob id=some ⟨g,1,SE,false,true,ints (bD s n i++(ba (ib k)).drop i)⟩∧(bD s n i).all vB=true) ?_ ?_
 ·exact ⟨(by first | rfl | (simp (disch:=omega) only [go_sem,jA,jB,jC,jD,jE,jF,jG,jH,jI,jJ,↓reduceIte,reduceCtorEq,jP,jO,jM,jN]; try rfl)),u0,hob,rfl⟩
 clear u0 hob
 rintro i fe ob c hi ⟨h63,v0,v1,hall⟩
 simp (maxSteps:=1000000) only [go_sem,jF,↓reduceIte] at h63 v0 v1
 try simp (disch:=omega) only [go_sem,jF,↓reduceIte,h63]
 have hLl:(ints (bD s n i++(ba (ib k)).drop i)).length=(aH k).length:=by rw [au,List.length_append,dJ,List.length_drop]; omega
 refine ah (fun hlt=>?_) (fun hge=>?_)
 ·have hil:i<(aH k).length:=by omega
  obtain ⟨j,hj⟩:∃ j:Nat,j=n+1+5 * i:=⟨_,rfl⟩
  have hji:(n:Int)+1+5 * i=j:=by omega
  try simp (disch:=omega) only [go_sem,jF,↓reduceIte,reduceCtorEq,jO,hji]
  refine ab (Na s j 5 hs (by omega) (by omega)) (by simp [go_sem]) ?_
  have hb5:=Hv s j 5 (by omega)
  obtain ⟨w,hq⟩:∃ w,(ints (bD s n i++(ba (ib k)).drop i))[i]?=some (.int .i64 w):=by
   rw [bA,List.getElem?_eq_getElem (by rw [List.length_append,dJ,List.length_drop]; omega)]; exact ⟨_,rfl⟩
  have hset:=Jo s n i (ba (ib k)) (by omega)
  rw [←hj] at hset
  have hset2:(ints (bD s n i++(ba (ib k)).drop i)).set i (.int .i64 (mV s j 5))=ints (bD s n (i+1)++(ba (ib k)).drop (i+1)):=by rw [ints_set,hset]
  have hq2:(ints (bD s n (i+1)++(ba (ib k)).drop (i+1)))[i]?=some (.int .i64 (mV s j 5)):=by
   rw [←hset2,List.getElem?_set_self (by rw [hLl]; exact hil)]
  have hLl2:(ints (bD s n (i+1)++(ba (ib k)).drop (i+1))).length=(aH k).length:=by rw [←hset2,List.length_set]; exact hLl
  have zid:¬0=id:=by omega
  try simp (disch:=omega) only [go_sem,jF,jH,↓reduceIte,v1,hq,hset2,hq2]
  refine ⟨by omega,by omega,by omega,by omega,?_⟩
  refine ah (fun h7=>?_) (fun h7=>?_) <;> try simp (disch:=omega) only [go_sem,jF,jG,jH,↓reduceIte,jO,v0,hbk,hfl,br,df,cW,zid]
  ·have hbadv:(bD s n (aH k).length).all vB=false:=by
    rw [List.all_eq_false]
    refine ⟨mV s j 5,List.mem_map.2 ⟨i,List.mem_range.2 hil,by rw [hj]⟩,?_⟩
    simp [vB]; omega
   refine bad _ 49 (by rw [hdN,hbadv,if_neg (by simp)])
  try simp (disch:=omega) only [go_sem,jA,jB,jC,jD,jE,jF,jG,jH,jI,jJ,↓reduceIte,reduceCtorEq,jO,jM,jN,jK,jL,h63]
  refine bj hil ⟨(by first | rfl | (simp (disch:=omega) only [go_sem,jA,jB,jC,jD,jE,jF,jG,jH,jI,jJ,↓reduceIte,reduceCtorEq,jP,jO,jM,jN]; try rfl)),?_,?_,?_⟩
  ·rw [aW (show 0<n1 by omega),aa _ _ _ _ (by omega)]; exact v0
  ·rw [aW hi2,az]
  ·rw [mb,List.all_append,hall,←hj]; simp [vB]; omega
 obtain rfl:i=(aH k).length:=by omega
 rw [List.drop_of_length_le (by omega),List.append_nil] at v1
 rw [if_pos hall] at hdN
 try simp (disch:=omega) only [go_sem,jF,↓reduceIte]
 have hnal:(bD s n (aH k).length).length=(aH k).length:=dJ ..
 refine FF id _ v1 (rL k (bD s n (aH k).length) hnal) (.cons (.pure rfl) (.cons (aw.dk (by simp only; rw [if_neg (by simp)]; exact v1) (by rw [au,hnal]) (dp _) (fU _)) .nil)) (by simp [go_sem]) fun ob4 hne4 hxi4=>?_
 have u4:=(hne4 0 (by omega)).trans v0
 have htk:∀ q,AV.agg ((dc q).cells.take 21)=dc q:=fun _=>rfl
 have hrep:∀ q p,fI 0 (dc q) (fJ .nil p)=dc q:=fun _ _=>rfl
 have htf:∀ q,(dc q).flat=true:=fun _=>rfl
 have htl:∀ q,(dc q).cells.length=21:=fun _=>rfl
 try simp (disch:=omega) only [go_sem,jF,jH,↓reduceIte,jO,u4,htk,hrep,htf,htl]
 rw [hdN]
 have e9:(p:Int)+4=(p+4:Nat):=by omega
 rw [e9]
 exact aw.pure rfl
theorem Bj (s:ByteArray) (hs:s.size≤100000000000):PC prog Dx [.str s] (.tuple [.list 21 (yI (cr s).1),.int .i64 (cr s).2]):=by
 refine ae Ec (by simp) ?_
 simp only [uV]
 try simp (disch:=omega) only [go_sem]
 have hb:=pP s s.size 0 (by omega) (by omega)
 refine aT [2,3,4,5,6,7,8,9,10,11,12,13,14,15,16,17,18,19,20,21,22,23,24] (by kernel_rfl) (cr s).1.length (fun i e σ=>∃ l f a,l.length=i∧cr s=(l++(cE s f a).1,(cE s f a).2)∧0≤a∧a≤s.size∧(s.size:Int)-a≤f∧e 5=.int .i64 a∧∃ X,At e 4 X∧cw 21 32 σ (yI l) X) ?_ ?_
 ·exact ⟨[],s.size,0,rfl,rfl,by omega,by omega,by omega,(by first | rfl | (simp (disch:=omega) only [go_sem,jA,jB,jC,jD,jE,jF,jG,jH,jI,jJ,↓reduceIte,reduceCtorEq,jP,jO,jM,jN]; try rfl)),.nil,(by simp only [At]; try simp (disch:=omega) only [go_sem,jF,↓reduceIte]),cw.nil⟩
 rintro i fe ob m c hi hm ⟨l,f,a,rfl,hO,h0,h1,hf,h5,X,h4,hX⟩
 simp (maxSteps:=1000000) only [go_sem,jF,↓reduceIte,At] at h5 h4
 try simp (disch:=omega) only [go_sem,jF,↓reduceIte,reduceCtorEq,h5]
 refine ab (xP s a (by omega)) (by simp [go_sem]) ?_
 rw [Iq]
 have hbk:=ng
 have hrep:∀ q p,fI 0 (dc q) (fJ .nil p)=dc q:=fun _ _=>rfl
 have htk:∀ q,AV.agg ((dc q).cells.take 21)=dc q:=fun _=>rfl
 have htc:∀ q,(dc q).cells.take 21=(dc q).cells:=fun _=>rfl
 have htl:∀ q,(dc q).cells.length=21:=fun _=>rfl
 have htf:∀ q,(dc q).flat=true:=fun _=>rfl
 have hac:∀ q,AV.agg (dc q).cells=dc q:=fun _=>rfl
 have hfr:∀ v j,j<m→bd ob m v j=ob j:=fun v j h=>aa _ _ _ _ (by omega)
 have hto:∀ q,(dc q).cells.all AV.one=true:=fun _=>rfl
 have htp:∀ q,(dc q).cells.all AV.eK=true:=fun _=>rfl
 try simp (disch:=omega) only [go_sem,jF,jH,↓reduceIte,hbk,hrep,htf,htl]
 refine aY (fun h7=>?_) (fun h7=>?_) <;> try simp (disch:=omega) only [go_sem,jF,jH,↓reduceIte,h4,htc,htl,hto,htp,hac,l6]
 ·have he:cE s f a=([],a):=by
   cases f with
   | zero=>rfl
   | succ f=>rw [cE,if_pos h7]
  rw [hO,he,List.append_nil]
  exact aw.tu (.cons (hX.mF (fun j hj _=>hfr _ j hj) (He _) (fun x hx=>Jf _ x hx)) (.cons (aw.e rfl) .nil))
 have h7':(bX s a).2.2=0:=by simpa using h7
 have hd:=D2 s a h7'
 obtain ⟨f,rfl⟩:∃ f',f=f'+1:=⟨f-1,by omega⟩
 rw [cE,if_neg (by simp [h7'])] at hO
 have hbd:=pP s f (bX s a).2.1 (by omega) hd.2.2
 have hll:l.length+((cE s f (bX s a).2.1).1.length+1)=(cr s).1.length:=by rw [hO]; simp
 have hle:(cr s).1.length≤s.size:=by have:cr s=cE s s.size 0:=rfl; rw [this]; simp at hb; omega
 refine bE (b:=184) (hX.move (Nat.le_succ _) fun j hj _=>hfr _ j hj) (by rw [bN]; omega) (by rw [bN]; omega) fun Y τ hY kY=>?_
 obtain ⟨ob5,m5,c5⟩:=τ
 try simp (disch:=omega) only [go_sem,jF,↓reduceIte]
 refine aD m5 (by omega) (Nat.zero_le _) ⟨l++[(bX s a).1],f,(bX s a).2.1,by simp,?_,by omega,hd.2.2,by omega,(by first | rfl | (simp (disch:=omega) only [go_sem,jA,jB,jC,jD,jE,jF,jG,jH,jI,jJ,↓reduceIte,reduceCtorEq,jP,jO,jM,jN]; try rfl)),Y,(by simp only [At]; try simp (disch:=omega) only [go_sem,jF,↓reduceIte]),?_⟩
 ·rw [hO,List.append_assoc]; rfl
 ·rw [show yI (l++[(bX s a).1])=yI l++[dc (bX s a).1] by simp [yI]]
  exact hY.tr
end Go.Proofs.Try
