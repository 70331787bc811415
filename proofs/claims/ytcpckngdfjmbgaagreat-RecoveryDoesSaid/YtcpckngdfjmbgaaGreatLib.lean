/- OWN WORK, put together by tools/asm.py, seat.py, mini.py. -/
import Derived.Test.YtcpckngdfjmbgaaGreatCode3
set_option linter.unusedSimpArgs false
set_option linter.unusedVariables false
set_option maxRecDepth 100000
set_option maxHeartbeats 1000000
namespace Go.Proofs.Try
open Go.Ab Go Go.Proofs.Tryz
open Int renaming reduceEq → jA, reduceLT → jB, reduceLE → jC, reduceToNat → jD
open Go.Ab renaming iP → jM, iQ → jN, lV → jO, iR → jP
open Nat renaming reduceLT → jE, reduceEqDiff → jF, reduceAdd → jG, reduceLeDiff → jH, reduceSub → jI, reduceMul → jJ, sub_zero → jK, sub_self → jL
theorem IN (n k:Int) (hk:0<k):(n.tmod k+k).tmod k=n % k:=by
 have h2:=Int.tmod_eq_emod (a:=n) (b:=k)
 have h3:=Int.emod_nonneg n (show k≠0 by omega)
 have h4:=Int.emod_lt_of_pos n hk
 have h5:0≤n.tmod k+k:=by rw [h2]; split <;> omega
 rw [Int.tmod_eq_emod_of_nonneg h5,Int.add_emod_right,h2]
 split
 ·simp
 ·rw [show ((k.natAbs:Nat):Int)=k by omega,Int.sub_emod_right]; exact Int.emod_emod_of_dvd n (Int.dvd_refl k)
theorem Lk (n k:Int) (hk:0<k):-k<n.tmod k∧n.tmod k<k:=by
 have h2:=Int.tmod_eq_emod (a:=n) (b:=k)
 have h3:=Int.emod_nonneg n (show k≠0 by omega)
 have h4:=Int.emod_lt_of_pos n hk
 by_cases h:0≤n∨k∣n
 ·rw [if_pos h] at h2; omega
 ·rw [if_neg h] at h2
  have:n % k≠0:=fun h0=>h (.inr (Int.dvd_of_emod_eq_zero h0))
  omega
def ints (l:List Int):List AV:=l.map (.int .i64)
theorem au (l:List Int):(ints l).length=l.length:=by simp [ints]
theorem bD (l:List Int) (i:Nat):(ints l)[i]?=(l[i]?).map (AV.int .i64):=by simp [ints]
theorem dC (l:List Int):∀ x∈ints l,x.cL=true:=by simp [ints,go_sem]
theorem iN (l:List Int):∀ x∈ints l,mF 1 x:=by simp [ints,mF,go_sem]
structure Bd where
 lo:Int
 hi:Int
 deriving DecidableEq,Inhabited
def pz (b:Bd):AV:=.agg [.int .i64 b.lo,.int .i64 b.hi]
def cr (l:List Bd):List AV:=l.map pz
theorem aH (l:List Bd):(cr l).length=l.length:=by simp [cr]
theorem dV (l:List Bd) (i:Nat):(cr l)[i]?=(l[i]?).map pz:=by simp [cr]
theorem mn (l:List Bd):∀ x∈cr l,x.cL=true:=by simp [cr,pz,go_sem]
theorem qM (l:List Bd):∀ x∈cr l,mF 2 x:=by simp [cr,pz,mF,go_sem]
def Tq {α:Type} (f:α→α) (b:α):Nat→α
 | 0=>b
 | k+1=>f (Tq f b k)
theorem Cz (n k:Int) (hk:0<k) (hk2:k≤4611686018427387904):PC prog Jn [.int .i64 n,.int .i64 k] (.int .i64 (n % k)):=by
 have h1:=Lk n k hk
 refine ae J9 (by simp) ?_
 simp (disch:=omega) only [FH,go_sem,jF,↓reduceIte,reduceCtorEq,jO]
 exact ⟨by omega,by omega,aw.of_eq (by rw [IN n k hk]) rfl⟩
def bA (l:List Int) (at':Nat):AV:=.agg [.list 1 (ints l),.int .i64 at']
def bf (l:List Int) (at':Nat) (n:Int):Int × Nat:=if n<1∨l.length≤at' then (0,at') else (l.getD at' 0 % n,at'+1)
theorem aI (l:List Int) (at':Nat) (n:Int):0≤(bf l at' n).1∧((bf l at' n).1=0∨(bf l at' n).1<n):=by
 unfold bf
 split
 ·simp
 ·have h1:=Int.emod_nonneg (l.getD at' 0) (show n≠0 by omega)
  have h2:=Int.emod_lt_of_pos (l.getD at' 0) (show 0<n by omega)
  exact ⟨h1,.inr h2⟩
theorem IL {α:Type} (f:Nat→α) (i:Nat) (x:α) (h:f i=x):bd f i x=f:=by
 funext j; by_cases e:j=i
 ·subst e; rw [az,h]
 ·rw [aa _ _ _ _ e]
abbrev aA:TypeId:=75
theorem H4 (σ:St) (l:List Int):HC prog Jm [.list 1 (ints l)] σ (fun r σ'=>r=.ptr σ.n σ.c 2 0 0∧σ'=σ.push 2 aA [bA l 0]):=by
 refine aL J8 (by simp) ?_
 simp only [FG,go_sem,jG,jH,↓reduceIte,reduceCtorEq]
 simp [bA]
theorem ai (σ:St) (id g:Nat) (ty:TypeId) (ap:Bool) (l:List Int) (at':Nat) (n:Int) (hob:σ.ob id=some ⟨g,2,ty,false,ap,[bA l at']⟩) (hn:n≤4611686018427387904) (hl:l.length≤9223372036854775807) :
  HC prog zY [.ptr id g 2 0 0,.int .i64 n] σ (fun r σ'=>r=.int .i64 (bf l at' n).1∧σ'=⟨bd σ.ob id (some ⟨g,2,ty,false,ap,[bA l (bf l at' n).2]⟩),σ.n,σ.c⟩):=by
 obtain ⟨ob,nn,cc⟩:=σ
 simp only at hob
 refine aL A0 (by simp) ?_
 simp only [qF,go_sem,jF,jG,↓reduceIte,reduceCtorEq,bA]
 have no:(n<1∨l.length≤at')→AV.int IntKind.i64 0=AV.int IntKind.i64 (bf l at' n).fst∧St.mk ob nn cc=St.mk (bd ob id (some ⟨g,2,ty,false,ap,[.agg [.list 1 (ints l),.int .i64 (bf l at' n).2]]⟩)) nn cc:=by
  intro h
  rw [show bf l at' n=(0,at') by unfold bf; rw [if_pos h]]
  exact ⟨rfl,by have h1:=IL ob id _ hob; simp only [bA] at h1 ⊢; rw [h1]⟩
 refine bF rfl (fun h=>?_) (fun h=>?_) <;> simp (maxSteps:=1000000) only [go_sem,jF,jG,jH,↓reduceIte,reduceCtorEq,hob,bA,au]
 ·exact no (.inl h)
 refine ah (fun h2=>?_) (fun h2=>?_) <;> simp (maxSteps:=1000000) only [go_sem,jF,jG,jH,↓reduceIte,reduceCtorEq,hob,bA,au,bD]
 ·exact no (.inr (by omega))
 have hat:at' < l.length:=by omega
 have hg:l[at']?=some l[at']:=List.getElem?_eq_getElem hat
 have hd:bf l at' n=(l[at'] % n,at'+1):=by unfold bf; rw [if_neg (by omega)]; simp [List.getD_eq_getElem?_getD,hg]
 simp (maxSteps:=1000000) (disch:=omega) only [go_sem,hg,jO]
 refine ⟨by omega,by omega,ab (Cz _ n (by omega) (by omega)) (by simp [go_sem]) ?_⟩
 simp (maxSteps:=1000000) only [go_sem,↓reduceIte,hd]
 simp
def C2 (σ:St) (id g:Nat) (t:List Int) (W:AV→Prop) (r:AV) (σ':St):Prop:=∃ r2 at2,aw ⟨fun i=>if i<σ.n then none else σ'.ob i,σ'.n,σ'.c⟩ r r2∧W r2∧σ'.ob id=some ⟨g,2,aA,false,true,[bA t at2]⟩∧∀ i,i<σ.n→i≠id→σ'.ob i=σ.ob i
def ej (σ:St) (id g:Nat) (t:List Int) (W:AV→Prop) (r:AV) (σ':St):Prop:=∃ at2 c,W r∧σ'=⟨bd (fun i=>if i<σ.n then σ.ob i else none) id (some ⟨g,2,aA,false,true,[bA t at2]⟩),σ.n,c⟩
theorem HC.wU {f:Nat} {args:List AV} {σ:St} {id g:Nat} {t:List Int} {W:AV→Prop} (hid:id<σ.n) (h:HC prog f args σ (C2 σ id g t W)):HC prog f args σ (ej σ id g t W):=by
 refine HC.aD σ.n (HC.Tm (fun i=>decide (i<σ.n)) h ?_)
 rintro r σ' ⟨r2,at2,h1,h2,h3,h4⟩
 refine ⟨r2,by simpa using h1,at2,σ'.c,h2,?_⟩
 simp only [St.aD]
 congr 1
 funext i
 simp only [bd]
 by_cases e:i=id
 ·subst e; simp [hid,h3]
 ·rw [if_neg e]
  by_cases hi:i<σ.n
  ·simp [hi,h4 i hi e]
  ·simp [hi]
theorem ej.use {σ σ':St} {id g:Nat} {t:List Int} {W:AV→Prop} {r:AV} (h:ej σ id g t W r σ') (hid:id<σ.n) :
  W r∧σ'.n=σ.n∧(∃ at2,σ'.ob id=some ⟨g,2,aA,false,true,[bA t at2]⟩)∧∀ i,i<σ.n→i≠id→σ'.ob i=σ.ob i:=by
 obtain ⟨at2,c,h1,rfl⟩:=h
 exact ⟨h1,rfl,⟨at2,by simp [bd]⟩,fun i hi h2=>by simp [bd,h2,hi]⟩
theorem n8 {α:Type} (f:Nat→α) (i:Nat) (x y:α):bd (bd f i x) i y=bd f i y:=by funext j; by_cases e:j=i <;> simp [bd,e]
def RQ (σ:St) (es:Nat) (ty:TypeId) (l:List AV) (r:AV) (σ':St):Prop:=∃ g c,r=.sl (σ.n+1) g es 0 l.length∧σ'=⟨bd (bd σ.ob σ.n none) (σ.n+1) (some ⟨g,es,ty,false,true,l⟩),σ.n+2,c⟩
def Pf (σ:St) (es:Nat) (ty:TypeId) (l:List AV) (r:AV) (σ':St):Prop:=∃ g c o,r=.sl (σ.n+1) g es 0 l.length∧σ'=⟨bd (bd σ.ob σ.n (some o)) (σ.n+1) (some ⟨g,es,ty,false,true,l⟩),σ.n+2,c⟩
theorem HC.new {f:Nat} {args:List AV} {σ:St} {es:Nat} {ty:TypeId} {l:List AV} (h:HC prog f args σ (Pf σ es ty l)):HC prog f args σ (RQ σ es ty l):=by
 refine h.sub ?_
 rintro r σ' ⟨g,c,o,rfl,rfl⟩
 refine ⟨_,?_,g,c,rfl,rfl⟩
 intro i o' h
 simp only [bd] at h ⊢
 split at h
 ·rename_i hi; rw [if_pos hi]; exact h
 ·rename_i hi
  rw [if_neg hi]
  split at h
  ·cases h
  ·rename_i h2; rw [if_neg h2]; exact h
theorem Ry {L:List AV} {x z:AV} {i k m:Nat} (hi:i<L.length) (hk:k=L.length+1-i) (hm:m=1):(L.take i++List.replicate (L.length+1-i) z).take i++[x].take k++(L.take i++List.replicate (L.length+1-i) z).drop (i+m)=L.take i++x :: List.replicate (L.length-i) z:=by
 subst hk; subst hm
 have h1:(L.take i).length=i:=by simp; omega
 rw [List.take_left' h1,List.take_of_length_le (l:=[x]) (by simp; omega),List.drop_append,List.drop_of_length_le (l:=L.take i) (by omega),h1,Nat.add_sub_cancel_left,List.drop_replicate,show L.length+1-i-1=L.length-i by omega]
 simp
theorem Rx {L:List AV} {x z:AV} {i k l m:Nat} (hi:i<L.length) (hk:k=L.length-i) (hl:l=L.length-i) (hm:m=L.length-i):(L.take i++x :: List.replicate (L.length-i) z).take (i+1)++((L.drop i).take k).take l++(L.take i++x :: List.replicate (L.length-i) z).drop (i+1+m)=L.take i++x :: L.drop i:=by
 subst hk; subst hl; subst hm
 have h1:(L.take i++[x]).length=i+1:=by simp; omega
 rw [show L.take i++x :: List.replicate (L.length-i) z=(L.take i++[x])++List.replicate (L.length-i) z by simp,List.take_left' h1,List.take_of_length_le (l:=L.drop i) (by simp),List.take_of_length_le (l:=L.drop i) (by simp),List.drop_of_length_le (l:=(L.take i++[x])++List.replicate (L.length-i) z) (by rw [List.length_append,h1,List.length_replicate]; omega)]
 simp
theorem Rw {L:List AV} {i k m:Nat} (hi:i<L.length) (hk:k=L.length-i) (hm:m=L.length-i):L.take (i+1)++(L.drop i).take k++L.drop (i+1+m)=L.take (i+1)++L.drop i:=by
 subst hk; subst hm
 rw [List.take_of_length_le (l:=L.drop i) (by simp),List.drop_of_length_le (l:=L) (i:=i+1+(L.length-i)) (by omega),List.append_nil]
theorem Rv {L:List AV} {x:AV} {i k m:Nat} (hi:i<L.length) (hk:1≤k) (hm:m=1):(L.take (i+1)++L.drop i).take i++[x].take k++(L.take (i+1)++L.drop i).drop (i+m)=L.take i++x :: L.drop i:=by
 subst hm
 have h1:(L.take (i+1)).length=i+1:=by simp; omega
 rw [List.take_append_of_le_length (by omega),List.take_take,List.take_of_length_le (l:=[x]) (by simpa using hk),List.drop_left' h1,show min i (i+1)=i by omega]
 simp
def T2 (σ:St) (id es:Nat) (ty:TypeId) (L:List AV) (r:AV) (τ:St):Prop:=
 ∃ id' g',r=.sl id' g' es 0 L.length∧(id'=id∨σ.n≤id')∧id' < τ.n∧σ.n≤τ.n∧τ.ob id'=some ⟨g',es,ty,false,true,L⟩∧∀ k,k<σ.n→k≠id→τ.ob k=σ.ob k
def G1 (σ:St) (es:Nat) (ty:TypeId) (L:List AV) (r:AV) (τ:St):Prop:=∃ id g,r=.sl id g es 0 L.length∧σ.n≤id∧id<τ.n∧τ.ob id=some ⟨g,es,ty,false,true,L⟩∧∀ i,i<σ.n→τ.ob i=σ.ob i
def aY (X:AV) (i:Nat):Prop:=∀ g es o n,X≠.sl i g es o n
def cu (es:Nat) (ty:TypeId) (σ:St) (L:List AV) (X:AV):Prop:=(X=.nil∧L=[])∨∃ id g,X=.sl id g es 0 L.length∧id<σ.n∧σ.ob id=some ⟨g,es,ty,false,true,L⟩
theorem aY.em {X:AV} {i:Nat} (h:¬ ¬aY X i):aY X i:=Classical.byContradiction h
theorem aY.nil (i:Nat):aY .nil i:=fun _ _ _ _ h=>by cases h
theorem aY.ne {id g es o n i:Nat} (h:aY (.sl id g es o n) i):¬id=i:=fun e=>h _ _ _ _ (by rw [e])
theorem aY.sl {id g es o n i:Nat} (h:¬id=i):aY (.sl id g es o n) i:=fun _ _ _ _ hh=>by cases hh; exact h rfl
def Kp (σ:St) (X:AV) (τ:St) (X':AV):Prop:=σ.n≤τ.n∧(∀ i,i<σ.n→aY X i→τ.ob i=σ.ob i)∧∀ i,i<σ.n→aY X i→aY X' i
theorem Kp.trans {σ τ ρ:St} {X Y Z:AV} (h:Kp σ X τ Y) (k:Kp τ Y ρ Z):Kp σ X ρ Z:=
 ⟨Nat.le_trans h.1 k.1,fun i hi hx=>(k.2.1 i (Nat.lt_of_lt_of_le hi h.1) (h.2.2 i hi hx)).trans (h.2.1 i hi hx),fun i hi hx=>k.2.2 i (Nat.lt_of_lt_of_le hi h.1) (h.2.2 i hi hx)⟩
section
variable {es : Nat} {ty : TypeId} {σ τ : St} {L : List AV} {X : AV}
theorem cu.nil:cu es ty σ [] .nil:=.inl ⟨rfl,rfl⟩
theorem cu.one (h:cu es ty σ L X):X.one=true:=by rcases h with ⟨rfl,_⟩ | ⟨id,g,rfl,_⟩ <;> rfl
theorem cu.flat (h:cu es ty σ L X):X.flat=true:=by rcases h with ⟨rfl,_⟩ | ⟨id,g,rfl,_⟩ <;> rfl
theorem cu.cells (h:cu es ty σ L X):X.cells=[X]:=by rcases h with ⟨rfl,_⟩ | ⟨id,g,rfl,_⟩ <;> rfl
theorem cu.move (h:cu es ty σ L X) (hn:σ.n≤τ.n) (ho:∀ i,i<σ.n→¬aY X i→τ.ob i=σ.ob i):cu es ty τ L X:=by
 rcases h with h | ⟨id,g,rfl,h2,h3⟩
 ·exact .inl h
 ·exact .inr ⟨id,g,rfl,Nat.lt_of_lt_of_le h2 hn,by rw [ho id h2 (fun h=>h _ _ _ _ rfl)]; exact h3⟩
theorem cu.H2 (h:cu es ty σ L X) {i:Nat} (hi:σ.n≤i):aY X i:=by
 rcases h with ⟨rfl,_⟩ | ⟨id,g,rfl,h2,_⟩
 ·exact aY.nil i
 ·exact aY.sl (by omega)
theorem cu.mU (h:cu es ty σ L X) (ho:∀ i,i<σ.n→¬aY X i→τ.ob i=σ.ob i) (hp:∀ x∈L,x.cL=true) (hk:∀ x∈L,mF es x):aw τ X (.list es L):=by
 rcases h with ⟨rfl,rfl⟩ | ⟨id,g,rfl,h2,h3⟩
 ·exact .nl es
 ·exact aw.dv (by rw [ho id h2 (fun h=>h _ _ _ _ rfl)]; exact h3) rfl hp hk
theorem bH {b:Nat} {a:AV} {K:AV→St→Prop} (h:cu es ty σ L X) (hm:L.length+1≤9223372036854775807) (hb:(L.length+1) * b≤140737488355328)
  (k:∀ X' τ,cu es ty τ (L++[a]) X'→Kp σ X τ X'→K X' τ):mT es b ty X (.list es [a]) σ K:=by
 rcases h with ⟨rfl,rfl⟩ | ⟨id,g,rfl,h2,h3⟩
 ·rw [jP]
  simp only [List.length_nil,Nat.zero_add] at hb
  refine ⟨by simp [maxLen],by simpa using hb,fun h=>by simp at h,fun _=>k _ _ (.inr ⟨σ.n,σ.c,rfl,Nat.lt_succ_self _,by simp [St.push,bd]⟩) ⟨Nat.le_succ _,fun i hi _=>?_,fun i hi _=>aY.sl (by omega)⟩⟩
  simp only [St.push]; rw [aa _ _ _ _ (by omega)]
 ·rw [EH]
  refine ⟨_,h3,rfl,rfl,rfl,rfl,rfl,rfl,by rw [n4]; simpa using hm,by simpa using hb,k _ _ (.inr ⟨id,σ.c,by simp,h2,by simp [St.renew,bd]⟩) ⟨Nat.le_refl _,fun i hi hx=>?_,fun i hi hx=>aY.sl hx.ne⟩⟩
  simp only [St.renew]
  rw [aa _ _ _ _ (fun e=>hx.ne e.symm)]
theorem cV {b:Nat} {M:List AV} {K:AV→St→Prop} (h:cu es ty σ L X) (hm:L.length+M.length≤9223372036854775807) (hb:(L.length+M.length) * b≤140737488355328)
  (k:∀ X' τ,cu es ty τ (L++M) X'→Kp σ X τ X'→K X' τ):mT es b ty X (.list es M) σ K:=by
 rcases h with ⟨rfl,rfl⟩ | ⟨id,g,rfl,h2,h3⟩
 ·rw [jP]
  simp only [List.length_nil,Nat.zero_add] at hm hb
  refine ⟨by rw [n4]; omega,hb,fun h=>k _ _ (.inl ⟨rfl,by rw [h]; rfl⟩) ⟨Nat.le_refl _,fun _ _ _=>rfl,fun _ _ h=>h⟩,fun _=>k _ _ (.inr ⟨σ.n,σ.c,rfl,Nat.lt_succ_self _,by simp [St.push,bd]⟩) ⟨Nat.le_succ _,fun i hi _=>?_,fun i hi _=>aY.sl (by omega)⟩⟩
  simp only [St.push]; rw [aa _ _ _ _ (by omega)]
 ·rw [EH]
  refine ⟨_,h3,rfl,rfl,rfl,rfl,rfl,rfl,by rw [n4]; exact hm,hb,k _ _ (.inr ⟨id,σ.c,by simp,h2,by simp [St.renew,bd]⟩) ⟨Nat.le_refl _,fun i hi hx=>?_,fun i hi hx=>aY.sl hx.ne⟩⟩
  simp only [St.renew]
  rw [aa _ _ _ _ (fun e=>hx.ne e.symm)]
end
theorem G1.UK {σ:St} {es:Nat} {ty:TypeId} {L:List AV} {r:AV} {τ:St} (h:G1 σ es ty L r τ):cu es ty τ L r∧σ.n≤τ.n∧(∀ i,i<σ.n→τ.ob i=σ.ob i)∧∀ i,i<σ.n→aY r i:=by
 obtain ⟨id,g,rfl,h1,h2,h3,h4⟩:=h
 exact ⟨.inr ⟨id,g,rfl,h2,h3⟩,by omega,h4,fun i hi=>aY.sl (by omega)⟩
inductive G0 (σ:St):List AV→List AV→Prop
 | nil:G0 σ [] []
 | cons {a b:AV} {l r:List AV} (h:aw σ a b) (k:G0 σ l r):G0 σ (a :: l) (b :: r)
theorem G0.get {σ:St} {l r:List AV} (h:G0 σ l r):l.length=r.length∧∀ (i:Nat) (x y:AV),l[i]?=some x→r[i]?=some y→aw σ x y:=by
 induction h with
 | nil=>exact ⟨rfl,fun i x y h=>by simp at h⟩
 | cons h k ih=>
  refine ⟨by simp [ih.1],fun i x y hx hy=>?_⟩
  cases i with
  | zero=>simp at hx hy; subst hx; subst hy; exact h
  | succ i=>exact ih.2 i x y (by simpa using hx) (by simpa using hy)
theorem aw.ag {σ:St} {l r:List AV} (h:G0 σ l r):aw σ (.agg l) (.agg r):=.agg h.get.1 h.get.2
theorem aw.tu {σ:St} {l r:List AV} (h:G0 σ l r):aw σ (.tuple l) (.tuple r):=.tuple h.get.1 h.get.2
theorem aw.e {σ:St} {a:AV} (h:a.cL=true):aw σ a a:=.pure h
def HP (a b:AV):Prop:=∀ (S:Nat→Prop) (w:World) (v:Value),VP S w a v→VP S w b v
theorem HP.rfl {a:AV}:HP a a:=fun _ _ _ h=>h
theorem HP.nil (es:Nat):HP .nil (.list es []):=fun S w v h=>by cases h; exact .bP _ _ _
inductive oO:List AV→List AV→Prop
 | nil:oO [] []
 | cons {a b:AV} {l r:List AV} (h:HP a b) (k:oO l r):oO (a :: l) (b :: r)
theorem oO.get {l r:List AV} (h:oO l r):l.length=r.length∧∀ (j:Nat) (y:AV),r[j]?=some y→∃ x,l[j]?=some x∧HP x y:=by
 induction h with
 | nil=>exact ⟨Eq.refl _,fun j y h=>by simp at h⟩
 | cons h k ih=>
  refine ⟨by simp [ih.1],fun j y hy=>?_⟩
  cases j with
  | zero=>simp at hy; subst hy; exact ⟨_,Eq.refl _,h⟩
  | succ j=>exact ih.2 j y (by simpa using hy)
theorem oO.refl:∀ (l:List AV),oO l l
 | []=>.nil
 | _ :: l=>.cons .rfl (oO.refl l)
theorem HP.agg {l r:List AV} (h:oO l r):HP (.agg l) (.agg r):=fun S w v hv=>by
 cases hv with
 | agg hl hh=>
  refine .agg (by rw [hl,h.get.1]) fun j y u hy hu=>?_
  obtain ⟨x,hx,hxy⟩:=h.get.2 j y hy
  exact hxy S w u (hh j x u hx hu)
theorem oQ {P:Program} {f:Nat} {args args':List AV} {r:AV} (h:PC P f args' r) (k:oO args args'):PC P f args r:=
 ⟨h.1,fun S w vs hlt hv=>h.2 S w vs hlt ⟨by rw [hv.1,k.get.1],fun j y u hy hu=>by obtain ⟨x,hx,hxy⟩:=k.get.2 j y hy; exact hxy S w u (hv.2 j x u hx hu)⟩⟩
def ER (es:Nat) (σ:St) (L:List AV) (E:AV):Prop:=
 (E=.nil∧L=[])∨E=.list es L∨∃ id g off o,E=.sl id g es off L.length∧id<σ.n∧σ.ob id=some o∧o.g=g∧o.es=es∧off+L.length≤o.l.length∧(o.l.drop off).take L.length=L
theorem nA {af:List Nat} {R:List (Nat × Nat)} {ob ob':Nat→Option aU} {n:Nat} (h:∀ x∈R,x.2<n) (k:∀ i,i<n→ob' i=ob i):nB af R ob ob':=fun x hx=>.inr (k _ (h x hx))
theorem yP {p n:Nat} {l:List Nat} (h:∀ i∈l,i<n):∀ x∈cD p l,x.2<n:=fun x hx=>by
 obtain ⟨i,hi,rfl⟩:=List.mem_map.1 hx
 exact h i hi
theorem Ew {n:Nat} {R S:List (Nat × Nat)} (h:∀ x∈R,x.2<n) (k:∀ x∈S,x.2<n):∀ x∈R++S,x.2<n:=fun x hx=>(List.mem_append.1 hx).elim (h x) (k x)
section
variable {es : Nat} {σ τ : St} {L : List AV} {E : AV}
theorem ER.OJ {ty:TypeId} (h:cu es ty σ L E):ER es σ L E:=by
 rcases h with h | ⟨id,g,rfl,h2,h3⟩
 ·exact .inl h
 ·exact .inr (.inr ⟨id,g,0,_,rfl,h2,h3,rfl,rfl,by simp,by simp⟩)
theorem ER.dv {id g:Nat} {ty:TypeId} {ro ap:Bool} (h:σ.ob id=some ⟨g,es,ty,ro,ap,L⟩) (hn:id<σ.n):ER es σ L (.sl id g es 0 L.length):=.inr (.inr ⟨id,g,0,_,rfl,hn,h,rfl,rfl,by simp,by simp⟩)
theorem ER.list (es:Nat) (σ:St) (L:List AV):ER es σ L (.list es L):=.inr (.inl rfl)
theorem ER.one (h:ER es σ L E):E.one=true:=by rcases h with ⟨rfl,_⟩ | rfl | ⟨_,_,_,_,rfl,_⟩ <;> rfl
theorem ER.flat (h:ER es σ L E):E.flat=true:=by rcases h with ⟨rfl,_⟩ | rfl | ⟨_,_,_,_,rfl,_⟩ <;> rfl
theorem ER.cells (h:ER es σ L E):E.cells=[E]:=by rcases h with ⟨rfl,_⟩ | rfl | ⟨_,_,_,_,rfl,_⟩ <;> rfl
theorem ER.kK (h:ER es σ L E):∀ i∈E.kK,i<σ.n:=by
 rcases h with ⟨rfl,_⟩ | rfl | ⟨id,_,_,_,rfl,h,_⟩ <;> intro i hi
 ·cases hi
 ·cases hi
 ·obtain rfl:i=id:=by simpa [AV.kK] using hi
  exact h
theorem ER.move (h:ER es σ L E) (hn:σ.n≤τ.n) (ho:∀ i,i<σ.n→¬aY E i→∀ o,σ.ob i=some o→∃ b,τ.ob i=some { o with ro:=b }):ER es τ L E:=by
 rcases h with h | h | ⟨id,g,off,o,rfl,h1,h2,h3,h4,h5,h6⟩
 ·exact .inl h
 ·exact .inr (.inl h)
 ·obtain ⟨b,hb⟩:=ho id h1 (fun h=>h _ _ _ _ rfl) o h2
  exact .inr (.inr ⟨id,g,off,_,rfl,Nat.lt_of_lt_of_le h1 hn,hb,h3,h4,h5,h6⟩)
theorem ER.bG (h:ER es σ L E) (hn:σ.n≤τ.n) (ho:∀ i,i<σ.n→¬aY E i→τ.ob i=σ.ob i):ER es τ L E:=
 h.move hn fun i hi h2 o h3=>⟨o.ro,by rw [ho i hi h2]; exact h3⟩
theorem ER.mU (h:ER es σ L E) (hp:∀ x∈L,x.cL=true) (hk:∀ x∈L,mF es x) (ho:∀ i,i<σ.n→¬aY E i→∀ o,σ.ob i=some o→∃ b,τ.ob i=some { o with ro:=b }):aw τ E (.list es L):=by
 rcases h with ⟨rfl,rfl⟩ | rfl | ⟨id,g,off,o,rfl,h1,h2,h3,h4,h5,h6⟩
 ·exact .nl es
 ·exact .pure rfl
 ·obtain ⟨b,hb⟩:=ho id h1 (fun h=>h _ _ _ _ rfl) o h2
  refine .sl hb h3 h4 h5 (by simp only []; rw [h6]) (fun i x y hx hy=>?_) hk
  simp only [] at hx
  rw [h6,hy] at hx
  obtain rfl:=Option.some.inj hx
  exact .pure (hp _ (List.mem_of_getElem? hy))
theorem ER.len (h:ER es σ L E) {K:AV→St→Prop} (k:K (.int .i64 L.length) σ):ik E σ K:=by
 rcases h with ⟨rfl,rfl⟩ | rfl | ⟨id,g,off,o,rfl,_⟩
 ·simpa [ik] using k
 ·simpa [ik] using k
 ·simpa [ik] using k
theorem ER.drop {K:AV→St→Prop} {kd:IntKind} {lo:Int} {k:Nat} (h:ER es σ L E) (hlo:lo=k) (hk:k≤L.length) (f:∀ E',ER es σ (L.drop k) E'→(∀ i,aY E i→aY E' i)→K E' σ):ji es E (some (.int kd lo)) none σ K:=by
 subst hlo
 rcases h with ⟨rfl,rfl⟩ | rfl | ⟨id,g,off,o,rfl,h1,h2,h3,h4,h5,h6⟩
 ·obtain rfl:k=0:=by simpa using hk
  exact ⟨by simp,by simp,f _ (.inl ⟨rfl,rfl⟩) fun _ h=>h⟩
 ·refine ⟨rfl,by omega,by simpa using hk,?_⟩
  show K (.list es ((L.take L.length).drop (k:Int).toNat)) σ
  rw [List.take_length,Int.toNat_natCast]
  exact f _ (.inr (.inl rfl)) fun _ _ _ _ _ _ h=>(by cases h)
 ·refine ⟨rfl,⟨_,h2,h3⟩,by omega,by simpa using hk,?_⟩
  show ((k:Int).toNat=L.length→K (.list es []) σ)∧((k:Int).toNat<L.length→K (.sl id g es (off+(k:Int).toNat) (L.length-(k:Int).toNat)) σ)
  rw [Int.toNat_natCast]
  refine ⟨fun h=>f _ (.inr (.inl ?_)) fun _ _ _ _ _ _ h=>(by cases h),fun h=>f _ (.inr (.inr ⟨id,g,off+k,o,by simp,h1,h2,h3,h4,by simp; omega,?_⟩)) fun i hi=>aY.sl (aY.ne hi)⟩
  ·rw [h,List.drop_length]
  ·have:=congrArg (List.drop k) h6
   rw [←this]
   simp [List.drop_take,Nat.min_eq_left (show L.length-k≤o.l.length-(off+k) by omega)]
theorem ER.take {K:AV→St→Prop} {kd:IntKind} {hi:Int} {k:Nat} (h:ER es σ L E) (hhi:hi=k) (hk:k≤L.length) (f:∀ E',ER es σ (L.take k) E'→(∀ i,aY E i→aY E' i)→K E' σ):ji es E none (some (.int kd hi)) σ K:=by
 subst hhi
 rcases h with ⟨rfl,rfl⟩ | rfl | ⟨id,g,off,o,rfl,h1,h2,h3,h4,h5,h6⟩
 ·obtain rfl:k=0:=by simpa using hk
  exact ⟨by simp,by simp,f _ (.inl ⟨rfl,rfl⟩) fun _ h=>h⟩
 ·refine ⟨rfl,by omega,by simpa using hk,?_⟩
  show K (.list es ((L.take (k:Int).toNat).drop 0)) σ
  rw [List.drop_zero,Int.toNat_natCast]
  exact f _ (.inr (.inl rfl)) fun _ _ _ _ _ _ h=>(by cases h)
 ·refine ⟨rfl,⟨_,h2,h3⟩,by omega,by simpa using hk,?_⟩
  show (0=(k:Int).toNat→K (.list es []) σ)∧(0<(k:Int).toNat→K (.sl id g es off (k:Int).toNat) σ)
  rw [Int.toNat_natCast]
  refine ⟨fun h=>f _ (.inr (.inl ?_)) fun _ _ _ _ _ _ h=>(by cases h),fun h=>f _ (.inr (.inr ⟨id,g,off,o,by simp [Nat.min_eq_left hk],h1,h2,h3,h4,by simp; omega,?_⟩)) fun i hi=>aY.sl (aY.ne hi)⟩
  ·rw [←h]; simp
  ·have:=congrArg (List.take k) h6
   rw [←this]
   simp [List.take_take,Nat.min_eq_left (show min k L.length≤o.l.length-off by omega)]
theorem ER.at (h:ER es σ L E) {k:Nat} (hk:k<L.length):E=.list es L∨∃ id g off o,E=.sl id g es off L.length∧id<σ.n∧σ.ob id=some o∧o.g=g∧o.es=es∧off+L.length≤o.l.length∧o.l[off+k]?=L[k]?:=by
 rcases h with ⟨rfl,rfl⟩ | rfl | ⟨id,g,off,o,rfl,h1,h2,h3,h4,h5,h6⟩
 ·simp at hk
 ·exact .inl rfl
 ·refine .inr ⟨id,g,off,o,rfl,h1,h2,h3,h4,h5,?_⟩
  have:=congrArg (fun z=>z[k]?) h6
  simp only [List.getElem?_take,if_pos hk,List.getElem?_drop] at this
  exact this
theorem xq {b:Nat} {ty:TypeId} {X:AV} {K:AV→St→Prop} (h:ER es σ L E) (k:mT es b ty X (.list es L) σ K):mT es b ty X E σ K:=by
 rcases h with ⟨rfl,rfl⟩ | rfl | ⟨id,g,off,o,rfl,h1,h2,h3,h4,h5,h6⟩
 ·obtain ⟨_,_,k⟩:=k
  exact ⟨fun _ _ h=>(by cases h),fun _ _ _ _ _ h=>(by rcases h with h | ⟨_,h⟩ <;> cases h),k⟩
 ·exact k
 ·obtain ⟨_,_,k⟩:=k
  refine ⟨fun _ _ h=>(by cases h),fun _ _ _ _ _ h=>(by rcases h with h | ⟨_,h⟩ <;> cases h; rfl),o,h2,h3,h4,h5,?_⟩
  rw [h6]
  exact k
end
def OY (t:List Int):Bool:=decide ((t.length:Int)≤500)
theorem H5 (t:List Int):PC prog Jo [.list 1 (ints t)] (.bool (OY t)):=by
 refine ae Ka (by simp) ?_
 simp only [FI,go_sem,↓reduceIte,reduceCtorEq,au]
 exact aw.of_eq rfl rfl
theorem bU {α:Type} {a b:List α} (hl:a.length=b.length) (h:∀ j,j<a.length→a[j]?=b[j]?):a=b:=by
 apply List.ext_getElem? ; intro j
 by_cases hj:j<a.length
 ·exact h j hj
 ·rw [List.getElem?_eq_none (by omega),List.getElem?_eq_none (by omega)]
theorem IU {c:List AV} (h:(Sh.slice 1 (.int .i64)).R c):∃ L:List Int,c=[.list 1 (ints L)]∧L.length≤9223372036854775807∧∀ n∈L,(Lit.int .i64 n).wf=true:=by
 obtain ⟨xs,rfl,hl,h⟩:=h
 obtain ⟨L,rfl,hL⟩:=GH (f:=AV.int .i64) (Q:=fun n=>(Lit.int .i64 n).wf=true) fun x hx=>by
  obtain ⟨cs,hr,_,rfl⟩:=h x hx
  obtain ⟨a,rfl,ha⟩:=hr
  exact ⟨a,ha,rfl⟩
 exact ⟨L,rfl,by simpa using hl,hL⟩
theorem wf_u8 {n:Int} (h:(Lit.int .u8 n).wf=true):0≤n∧n≤255:=by
 simp [Lit.wf,IntKind.min,IntKind.max,IntKind.signed,IntKind.bits] at h; omega
def sb (s:ByteArray):List Int:=s.data.toList.map fun b=>(b.toNat:Int)
theorem cj (s:ByteArray):(sb s).length=s.size:=by simp [sb]
theorem I0 (s:ByteArray):∀ x∈sb s,0≤x∧x≤255:=by
 intro x hx
 obtain ⟨b,_,rfl⟩:=List.mem_map.1 hx
 have:=b.toNat_lt
 omega
theorem od (s:ByteArray) (i:Nat):0≤(sb s).getD i 0∧(sb s).getD i 0≤255:=by
 rw [List.getD_eq_getElem?_getD]
 by_cases h:i<(sb s).length
 ·rw [List.getElem?_eq_getElem h]; exact I0 s _ (List.getElem_mem h)
 ·rw [List.getElem?_eq_none (by omega)]; simp
theorem Ln (s:ByteArray) (a:Int) (h0:0≤a) (h1:a<s.size):(if 0≤a then (s[a.toNat]?).map fun b=>AV.int .u8 b.toNat else none)=some (.int .u8 ((sb s).getD a.toNat 0)):=by
 rw [if_pos h0]
 have h:a.toNat<s.size:=by omega
 rw [getElem?_pos s a.toNat h]
 simp only [Option.map_some,Option.some.injEq,AV.int.injEq,true_and]
 rw [List.getD_eq_getElem?_getD,List.getElem?_eq_getElem (by rw [cj]; exact h)]
 simp [sb]
 rfl
theorem G9 (s:ByteArray) (k:Nat) (h1:k<s.size):(if 0≤(k:Int) then Option.map (fun b=>AV.int .u8 ↑b.toNat) s[k]? else none)=some (.int .u8 ((sb s).getD k 0)):=by
 have:=Ln s k (by omega) (by omega)
 simpa using this
theorem J4 (x:Int) (h0:0≤x) (h1:x≤1125899906842624):BQ .shl .i64 x .u64 8=some (.int .i64 (x * 256)):=by
 simp only [BQ,IntKind.bits]
 rw [if_pos (by omega)]
 have:(2:Int) ^ min (8:Int).toNat 64=256:=by decide
 rw [this,jO (by omega) (by omega)]
theorem FJ (x:Int):BQ .shr .i64 x .u64 8=some (.int .i64 (x / 256)):=by
 simp only [BQ,IntKind.bits]
 rw [if_pos (by omega)]
 have:(2:Int) ^ min (8:Int).toNat 64=256:=by decide
 rw [this,Int.fdiv_eq_ediv_of_nonneg _ (by omega)]
theorem Me (x b:Int) (h0:0≤x) (h1:x≤1125899906842624) (h2:0≤b) (h3:b≤255):BQ .or .i64 (x * 256) .i64 b=some (.int .i64 (x * 256+b)):=by
 show some (AV.int .i64 (IntKind.i64.wrap ((BitVec.ofInt 64 (x * 256) ||| BitVec.ofInt 64 b:BitVec 64).toNat)))=_
 have e1:(BitVec.ofInt 64 (x * 256)).toNat=2 ^ 8 * x.toNat:=by rw [BitVec.toNat_ofInt]; omega
 have e2:(BitVec.ofInt 64 b).toNat=b.toNat:=by rw [BitVec.toNat_ofInt]; omega
 rw [BitVec.toNat_or,e1,e2,←Nat.two_pow_add_eq_or_of_lt (by omega:b.toNat<2 ^ 8)]
 rw [jO (by omega) (by omega)]
 congr 2
 omega
theorem wrap_u8 (n:Int):IntKind.u8.wrap n=n % 256:=by simp [IntKind.wrap,IntKind.bits,IntKind.signed]
def gL:List Int→Int→Int→Int × Int
 | [],a,b=>(a,b)
 | x :: r,a,b=>gL r ((a+x) % 65521) ((b+(a+x) % 65521) % 65521)
def rk (s:ByteArray):Int:=65536 * (gL (sb s) 1 0).2+(gL (sb s) 1 0).1
theorem wT (l:List Int) (k:Nat) (h:k<l.length):l.drop k=l.getD k 0 :: l.drop (k+1):=by
 rw [List.drop_eq_getElem_cons h,List.getD_eq_getElem?_getD,List.getElem?_eq_getElem h]; rfl
theorem nb (s:ByteArray) (hs:s.size≤9223372036854775807):PC prog yd [.str s] (.int .i64 (rk s)):=by
 refine ae yA (by simp) ?_
 simp only [o7,go_sem,↓reduceIte,reduceCtorEq]
 refine bw [3,4,5,8,9,10,11,12,13,14,15,16,17,18,19,20,21,22] (by kernel_rfl) s.size (fun k e _=>∃ a b,e 8=.int .i64 k∧e 3=.int .i64 a∧e 4=.int .i64 b∧0≤a∧a<65521∧0≤b∧b<65521∧gL (sb s) 1 0=gL ((sb s).drop k) a b) ?_ ?_
 ·exact ⟨1,0,(by first | rfl | (simp (disch:=omega) only [go_sem,jA,jB,jC,jD,jE,jF,jG,jH,jI,jJ,↓reduceIte,reduceCtorEq,jP,jO,jM,jN]; try rfl)),(by first | rfl | (simp (disch:=omega) only [go_sem,jA,jB,jC,jD,jE,jF,jG,jH,jI,jJ,↓reduceIte,reduceCtorEq,jP,jO,jM,jN]; try rfl)),(by first | rfl | (simp (disch:=omega) only [go_sem,jA,jB,jC,jD,jE,jF,jG,jH,jI,jJ,↓reduceIte,reduceCtorEq,jP,jO,jM,jN]; try rfl)),by omega,by omega,by omega,by omega,by simp⟩
 ·rintro k fe ob c hk ⟨a,b,h8,h3,h4,a0,a1,b0,b1,hgo⟩
  simp (maxSteps:=1000000) only [go_sem,jF,↓reduceIte] at h8 h3 h4
  simp (maxSteps:=1000000) only [go_sem,jF,↓reduceIte,h8]
  refine ah (fun hlt=>?_) (fun hge=>?_)
  ·have hks:k<s.size:=by omega
   rw [wT _ _ (by rw [cj]; exact hks),gL] at hgo
   have hx:=od s k
   simp (maxSteps:=1000000) (disch:=omega) only [go_sem,jF,↓reduceIte,reduceCtorEq,h3,h4]
   refine ⟨_,G9 s k hks,?_⟩
   generalize (sb s).getD k 0=x at *
   simp (maxSteps:=1000000) (disch:=omega) only [go_sem,jA,jF,↓reduceIte,jO]
   repeat (refine And.intro (by first | omega | (rw [n4]; omega) | (simp [maxLen]; done) | (simp [maxLen]; omega)) ?_)
   rw [Int.tmod_eq_emod_of_nonneg (by omega:0≤a+x)]
   generalize hp:(a+x) % 65521=p at *
   have hp0:0≤p:=by omega
   simp (maxSteps:=1000000) (disch:=omega) only [go_sem,jO]
   repeat (refine And.intro (by first | omega | (rw [n4]; omega) | (simp [maxLen]; done) | (simp [maxLen]; omega)) ?_)
   rw [Int.tmod_eq_emod_of_nonneg (by omega:0≤b+p)]
   try simp (maxSteps:=1000000) (disch:=omega) only [go_sem,jA,jB,jC,jD,jE,jF,jG,jH,jI,jJ,↓reduceIte,reduceCtorEq,jP,jO,h8]
   refine bl hks ⟨p,(b+p) % 65521,(by first | rfl | (simp (disch:=omega) only [go_sem,jA,jB,jC,jD,jE,jF,jG,jH,jI,jJ,↓reduceIte,reduceCtorEq,jP,jO,jM,jN]; try rfl)),(by first | rfl | (simp (disch:=omega) only [go_sem,jA,jB,jC,jD,jE,jF,jG,jH,jI,jJ,↓reduceIte,reduceCtorEq,jP,jO,jM,jN]; try rfl)),(by first | rfl | (simp (disch:=omega) only [go_sem,jA,jB,jC,jD,jE,jF,jG,jH,jI,jJ,↓reduceIte,reduceCtorEq,jP,jO,jM,jN]; try rfl)),by omega,by omega,by omega,by omega,hgo⟩
  ·rw [List.drop_of_length_le (by rw [cj]; omega),gL] at hgo
   simp (maxSteps:=1000000) (disch:=omega) only [go_sem,jF,↓reduceIte,jO,h3,h4]
   exact aw.of_eq (by rw [rk,hgo]) rfl
theorem Dp (s:ByteArray) (hs:s.size≤9223372036854775807):PC prog E5 [.str s] (.int .i64 (rk s)):=by
 refine ae FN (by simp) ?_
 simp only [xH,go_sem]
 refine bw [3,4,5,6,7,8,9,10,11,12,13,14,15,16,17,18,19,20,21,22] (by kernel_rfl) s.size (fun k e _=>∃ a b,e 5=.int .i64 k∧e 3=.int .i64 a∧e 4=.int .i64 b∧0≤a∧a<65521∧0≤b∧b<65521∧gL (sb s) 1 0=gL ((sb s).drop k) a b) ?_ ?_
 ·exact ⟨1,0,(by first | rfl | (simp (disch:=omega) only [go_sem,jA,jB,jC,jD,jE,jF,jG,jH,jI,jJ,↓reduceIte,reduceCtorEq,jP,jO,jM,jN]; try rfl)),(by first | rfl | (simp (disch:=omega) only [go_sem,jA,jB,jC,jD,jE,jF,jG,jH,jI,jJ,↓reduceIte,reduceCtorEq,jP,jO,jM,jN]; try rfl)),(by first | rfl | (simp (disch:=omega) only [go_sem,jA,jB,jC,jD,jE,jF,jG,jH,jI,jJ,↓reduceIte,reduceCtorEq,jP,jO,jM,jN]; try rfl)),by omega,by omega,by omega,by omega,by simp⟩
 ·rintro k fe ob c hk ⟨a,b,h5,h3,h4,a0,a1,b0,b1,hgo⟩
  simp (maxSteps:=1000000) only [go_sem,jF,↓reduceIte] at h5 h3 h4
  simp (maxSteps:=1000000) only [go_sem,jF,↓reduceIte,reduceCtorEq,h5]
  refine ah (fun hlt=>?_) (fun hge=>?_)
  ·have hks:k<s.size:=by omega
   rw [wT _ _ (by rw [cj]; exact hks),gL] at hgo
   have hx:=od s k
   simp (maxSteps:=1000000) (disch:=omega) only [go_sem,jF,↓reduceIte,reduceCtorEq,h3,h4]
   refine ⟨_,G9 s k hks,?_⟩
   generalize (sb s).getD k 0=x at *
   simp (maxSteps:=1000000) (disch:=omega) only [go_sem,jA,jF,↓reduceIte,jO]
   repeat (refine And.intro (by first | omega | (rw [n4]; omega) | (simp [maxLen]; done) | (simp [maxLen]; omega)) ?_)
   rw [Int.tmod_eq_emod_of_nonneg (by omega:0≤a+x)]
   generalize hp:(a+x) % 65521=p at *
   have hp0:0≤p:=by omega
   simp (maxSteps:=1000000) (disch:=omega) only [go_sem,jO]
   repeat (refine And.intro (by first | omega | (rw [n4]; omega) | (simp [maxLen]; done) | (simp [maxLen]; omega)) ?_)
   rw [Int.tmod_eq_emod_of_nonneg (by omega:0≤b+p)]
   try simp (maxSteps:=1000000) (disch:=omega) only [go_sem,jA,jB,jC,jD,jE,jF,jG,jH,jI,jJ,↓reduceIte,reduceCtorEq,jP,jO,h5]
   refine bl hks ⟨p,(b+p) % 65521,(by first | rfl | (simp (disch:=omega) only [go_sem,jA,jB,jC,jD,jE,jF,jG,jH,jI,jJ,↓reduceIte,reduceCtorEq,jP,jO,jM,jN]; try rfl)),(by first | rfl | (simp (disch:=omega) only [go_sem,jA,jB,jC,jD,jE,jF,jG,jH,jI,jJ,↓reduceIte,reduceCtorEq,jP,jO,jM,jN]; try rfl)),(by first | rfl | (simp (disch:=omega) only [go_sem,jA,jB,jC,jD,jE,jF,jG,jH,jI,jJ,↓reduceIte,reduceCtorEq,jP,jO,jM,jN]; try rfl)),by omega,by omega,by omega,by omega,hgo⟩
  ·rw [List.drop_of_length_le (by rw [cj]; omega),gL] at hgo
   simp (maxSteps:=1000000) (disch:=omega) only [go_sem,jF,↓reduceIte,jO,h3,h4]
   exact aw.of_eq (by rw [rk,hgo]) rfl
def nE:List Int→Int
 | []=>0
 | x :: r=>x+256 * nE r
theorem DU:∀ (l:List Int),(∀ x∈l,0≤x∧x≤255)→0≤nE l∧nE l<256 ^ l.length
 | [],_=>by simp [nE]
 | x :: r,h=>by
  have h1:=h x (by simp)
  obtain ⟨h2,h3⟩:=DU r fun y hy=>h y (by simp [hy])
  simp only [nE,List.length_cons,Int.pow_succ]
  omega
theorem OH (n:Nat) (h:n≤4):(256:Int) ^ n≤4294967296:=by
 have:n=0∨n=1∨n=2∨n=3∨n=4:=by omega
 rcases this with rfl | rfl | rfl | rfl | rfl <;> decide
def bs (l:List Int):ByteArray:=⟨(l.map fun n=>UInt8.ofNat n.toNat).toArray⟩
def cN (n:Int):Nat→List Int
 | 0=>[]
 | k+1=>(n % 256) :: cN (n / 256) k
theorem vX:∀ (k:Nat) (n:Int),cN n (k+1)=cN n k++[(n / 256 ^ k) % 256]
 | 0,n=>by simp [cN]
 | k+1,n=>by
  rw [cN,vX k (n / 256)]
  simp only [cN,List.cons_append]
  rw [Int.ediv_ediv_of_nonneg (by omega:(0:Int)≤256),Int.pow_succ,Int.mul_comm]
theorem bx:∀ (k:Nat) (n:Int),(cN n k).length=k
 | 0,n=>rfl
 | k+1,n=>by simp [cN,bx k]
theorem tZ:∀ (k:Nat) (n:Int),∀ x∈cN n k,0≤x∧x≤255
 | 0,n,x,h=>by simp [cN] at h
 | k+1,n,x,h=>by
  simp only [cN,List.mem_cons] at h
  rcases h with rfl | h
  ·omega
  ·exact tZ k _ x h
theorem CT (a b:List Int):bs (a++b)=bs a++bs b:=by
 simp only [bs,List.map_append]
 apply ByteArray.ext
 simp
theorem IZ (l:List Int) (h:∀ x∈l,0≤x∧x≤255):sb (bs l)=l:=by
 simp only [sb,bs,List.map_map]
 rw [List.map_congr_left (g:=id) fun x hx=>?_,List.map_id]
 have:=h x hx
 simp only [Function.comp,id,UInt8.toNat_ofNat']
 omega
theorem qR (a b:ByteArray):sb (a++b)=sb a++sb b:=by
 simp [sb]
theorem Dq (s:ByteArray) (n:Int) (k:Nat) (hs:s.size≤1000000) (hk:k≤5):PC prog xy [.str s,.int .i64 n,.int .i64 k] (.str (s++bs (cN n k))):=by
 refine ae FO (by simp) ?_
 simp only [xI,go_sem]
 refine bw [0,1,2,7,8,9,10,11,12,13,14,15,16,17,18] (by kernel_rfl) k (fun r e _=>e 2=.int .i64 ((k:Int)-r)∧e 1=.int .i64 (n / 256 ^ r)∧e 0=.str (s++bs (cN n r))) ?_ ?_
 ·refine ⟨by simp [go_sem],by simp [go_sem],?_⟩
  try simp (maxSteps:=1000000) only [go_sem,↓reduceIte,reduceCtorEq]
  congr 1
  apply ByteArray.ext
  simp [bs,cN]
 ·rintro r fe ob c hr ⟨h2,h1,h0⟩
  simp (maxSteps:=1000000) only [go_sem,jF,↓reduceIte,reduceCtorEq] at h2 h1 h0
  simp (maxSteps:=1000000) only [go_sem,jF,↓reduceIte,reduceCtorEq,h2]
  refine ah (fun hlt=>?_) (fun hge=>?_)
  ·have hrk:r<k:=by omega
   simp (maxSteps:=1000000) (disch:=omega) only [go_sem,jF,↓reduceIte,reduceCtorEq,jO,h1,h0,FJ,Option.some.injEq,exists_eq_left']
   refine ⟨[UInt8.ofNat (IntKind.u8.wrap (n / 256 ^ r)).toNat],rfl,?_,bl hrk ⟨?_,?_,?_⟩⟩
   ·have:(bs (cN n r)).size=r:=by rw [←cj,IZ _ (tZ _ _),bx]
    rw [this]; simp; omega
   ·(try simp (maxSteps:=1000000) only [go_sem,↓reduceIte]); congr 1; omega
   ·(try simp (maxSteps:=1000000) only [go_sem,jF,↓reduceIte]); rw [Int.ediv_ediv_of_nonneg (Int.pow_nonneg (by omega)),Int.pow_succ]
   ·try simp (maxSteps:=1000000) only [go_sem,↓reduceIte,reduceCtorEq]
    rw [vX,CT,←ByteArray.append_assoc,wrap_u8]
    rfl
  ·have:r=k:=by omega
   subst this
   simp (maxSteps:=1000000) only [go_sem,↓reduceIte,reduceCtorEq,h0]
   exact aw.of_eq rfl rfl
def At (e:Nat→AV) (i:Nat) (X:AV):Prop:=e i=X
theorem aX {ob:Nat→Option aU} {n c i:Nat} (h:i<n):((⟨ob,n,c⟩:St).aD n).ob i=ob i:=by simp only [St.aD,if_pos h]
theorem cu.tr {es:Nat} {ty:TypeId} {ob:Nat→Option aU} {n c:Nat} {L:List AV} {X:AV} (h:cu es ty ⟨ob,n,c⟩ L X):cu es ty ((⟨ob,n,c⟩:St).aD n) L X:=
 h.move (by simp only [St.aD]; omega) fun i hi _=>by simp only at hi; simp only [St.aD,if_pos hi]
theorem PC.nl {P:Program} {f:Nat} {args:List AV} {r r':AV} (h:PC P f args r) (k:HP r r'):PC P f args r':=
 ⟨h.1,fun S w vs hS hv=>(h.2 S w vs hS hv).mono fun x w' ⟨v,S',h1,h2,h3,h4,h5⟩=>⟨v,S',h1,h2,h3,h4,k S' w' v h5⟩⟩
theorem dX {α:Type} (l:List α) (k:Nat) (h:k<l.length):l.take (k+1)=l.take k++[l[k]]:=by
 rw [List.take_add_one,List.getElem?_eq_getElem h]; rfl
def F2 (l:List Int):List AV:=l.map (.int .u8)
theorem kj (l:List Int):(F2 l).length=l.length:=by simp [F2]
theorem IM (l:List Int) (n:Int):F2 l++[.int .u8 n]=F2 (l++[n]):=by simp [F2]
theorem wX:∀ (l:List Int),oI (F2 l)=some (l.map fun n=>UInt8.ofNat n.toNat)
 | []=>rfl
 | x :: l=>by simp only [F2,List.map_cons,oI]; rw [show List.map (AV.int .u8) l=F2 l from rfl,wX l]; rfl
structure Rc where
 k:Int
 num:Int
 acc:Int
 vP:Int
 tm:Int
 lo:Int
 hi:Int
 y9:Int
 site:Int
 fr:Int
 to:Int
 rel:Int
 sg:List Int
 wd:Bool
 zF:Int
 code:Int
 time:Int
 xX:Int
 na:Int
 wk:Int
 vZ:Int
 deriving DecidableEq
def pD (k:Int):Rc:=⟨k,0,0,0,0,0,0,0,0,0,0,0,[],false,0,0,0,0,0,0,0⟩
def eL (E:AV) (r:Rc):List AV:=[.int .i64 r.k,.int .i64 r.num,.int .i64 r.acc,.int .i64 r.vP,.int .i64 r.tm,.int .i64 r.lo,.int .i64 r.hi,.int .i64 r.y9,.int .i64 r.site,.int .i64 r.fr,.int .i64 r.to,.int .i64 r.rel,
 E,.bool r.wd,.int .i64 r.zF,.int .i64 r.code,.int .i64 r.time,.int .i64 r.xX,.int .i64 r.na,.int .i64 r.wk,.int .i64 r.vZ]
def gY (E:AV) (r:Rc):AV:=.agg (eL E r)
def dn (r:Rc):AV:=gY (.list 1 (ints r.sg)) r
def F5 (l:List Rc):List AV:=l.map dn
def cI (r:Rc):Nat→Int
 | 1=>r.num | 2=>r.acc | 3=>r.vP | 4=>r.tm | 5=>r.lo | 6=>r.hi | 7=>r.y9 | 8=>r.site | 9=>r.fr | 10=>r.to | 11=>r.rel
 | 14=>r.zF | 15=>r.code | 16=>r.time | 17=>r.xX | 18=>r.na | 19=>r.wk | 20=>r.vZ | _=>r.k
def sI (r:Rc) (o:Nat) (v:Int):Rc:=match o with
 | 1=>{ r with num:=v } | 2=>{ r with acc:=v } | 3=>{ r with vP:=v } | 4=>{ r with tm:=v } | 5=>{ r with lo:=v } | 6=>{ r with hi:=v } | 7=>{ r with y9:=v }
 | 8=>{ r with site:=v } | 9=>{ r with fr:=v } | 10=>{ r with to:=v } | 11=>{ r with rel:=v } | 14=>{ r with zF:=v } | 15=>{ r with code:=v } | 16=>{ r with time:=v }
 | 17=>{ r with xX:=v } | 18=>{ r with na:=v } | 19=>{ r with wk:=v } | 20=>{ r with vZ:=v } | _=>{ r with k:=v }
def aJ (k:Int):List Nat:=if k=1 then [1,2,3,4,5,6] else if k=2 then [8,9,10,11] else if k=3 then [7,14,15,16] else if k=4 then [7,14,15,16] else if k=5 then [18,19,20] else if k=6 then [17] else []
def CA (o:Nat):Prop:=(1≤o∧o≤11)∨(14≤o∧o≤20)
theorem qU {o:Nat} (h:CA o):o=1∨o=2∨o=3∨o=4∨o=5∨o=6∨o=7∨o=8∨o=9∨o=10∨o=11∨o=14∨o=15∨o=16∨o=17∨o=18∨o=19∨o=20:=by
 unfold CA at h; omega
theorem kM (k:Int):aJ k=[]∨(k=1∧aJ k=[1,2,3,4,5,6])∨(k=2∧aJ k=[8,9,10,11])∨((k=3∨k=4)∧aJ k=[7,14,15,16])∨(k=5∧aJ k=[18,19,20])∨(k=6∧aJ k=[17]):=by
 unfold aJ
 split
 ·rename_i h; exact .inr (.inl ⟨h,rfl⟩)
 split
 ·rename_i h; exact .inr (.inr (.inl ⟨h,rfl⟩))
 split
 ·rename_i h; exact .inr (.inr (.inr (.inl ⟨.inl h,rfl⟩)))
 split
 ·rename_i h; exact .inr (.inr (.inr (.inl ⟨.inr h,rfl⟩)))
 split
 ·rename_i h; exact .inr (.inr (.inr (.inr (.inl ⟨h,rfl⟩))))
 split
 ·rename_i h; exact .inr (.inr (.inr (.inr (.inr ⟨h,rfl⟩))))
 ·exact .inl rfl
theorem qV {k:Int} {o:Nat} (h:o∈aJ k):CA o:=by
 unfold CA
 rcases kM k with e | ⟨_,e⟩ | ⟨_,e⟩ | ⟨_,e⟩ | ⟨_,e⟩ | ⟨_,e⟩ <;> rw [e] at h <;> simp at h <;> omega
theorem kL (k:Int):(aJ k).length≤6:=by
 rcases kM k with e | ⟨_,e⟩ | ⟨_,e⟩ | ⟨_,e⟩ | ⟨_,e⟩ | ⟨_,e⟩ <;> rw [e] <;> simp
theorem wm {k:Int} (h:aJ k≠[]):1≤k∧k≤6:=by
 rcases kM k with e | ⟨_,e⟩ | ⟨_,e⟩ | ⟨_,e⟩ | ⟨_,e⟩ | ⟨_,e⟩ <;> first | exact absurd e h | omega
theorem LA (E:AV) (r:Rc) {o:Nat} (h:CA o):(eL E r)[o]?=some (.int .i64 (cI r o)):=by
 rcases qU h with rfl | rfl | rfl | rfl | rfl | rfl | rfl | rfl | rfl | rfl | rfl | rfl | rfl | rfl | rfl | rfl | rfl | rfl <;> rfl
theorem Hk (E:AV) (r:Rc) {o:Nat} (h:CA o) (v:Int):gH o (.int .i64 v) (gY E r)=gY E (sI r o v):=by
 rcases qU h with rfl | rfl | rfl | rfl | rfl | rfl | rfl | rfl | rfl | rfl | rfl | rfl | rfl | rfl | rfl | rfl | rfl | rfl <;> rfl
theorem vU (E:AV) (r:Rc) {o:Nat} (h:CA o):(gY E r).cells.getD o .bC=.int .i64 (cI r o):=by
 simp only [gY,AV.cells,List.getD_eq_getElem?_getD,LA E r h,Option.getD_some]
theorem oq (E:AV) (r:Rc):(gY E r).cells.getD 0 .bC=.int .i64 r.k:=rfl
theorem Tu (E:AV) (r:Rc):AV.agg (((gY E r).cells.drop 0).take 21)=gY E r:=rfl
theorem eM (E:AV) (r:Rc):AV.agg ((gY E r).cells.take 21)=gY E r:=rfl
theorem bT (E:AV) (r:Rc):(gY E r).cells.length=21:=rfl
theorem eR {E:AV} (r:Rc) (h:E.one=true):(gY E r).flat=true:=by simp [gY,eL,AV.flat,AV.one]; exact h
theorem j6 (E F:AV) (r q:Rc):gH 0 (gY E r) (gY F q)=gY E r:=rfl
theorem tW (k:Int):AV.agg [AV.int IntKind.i64 k,AV.int IntKind.i64 0,AV.int IntKind.i64 0,AV.int IntKind.i64 0,AV.int IntKind.i64 0,AV.int IntKind.i64 0,AV.int IntKind.i64 0,AV.int IntKind.i64 0,AV.int IntKind.i64 0,AV.int IntKind.i64 0,AV.int IntKind.i64 0,AV.int IntKind.i64 0,AV.nil,AV.bool false,AV.int IntKind.i64 0,AV.int IntKind.i64 0,AV.int IntKind.i64 0,AV.int IntKind.i64 0,AV.int IntKind.i64 0,AV.int IntKind.i64 0,AV.int IntKind.i64 0]=gY .nil (pD k):=rfl
def vB (n:Int):Bool:=decide (0≤n)&&decide (n≤274877906944)
def bh (r:Rc):List Int:=(aJ r.k).map (cI r)
def fE (r:Rc) (l:List Nat):Rc:=l.foldl (fun b o=>sI b o (cI r o)) (pD r.k)
def xU (b:Rc):List Nat→List Int→Rc
 | o :: os,v :: vs=>xU (sI b o v) os vs
 | _,_=>b
def qg (k:Int) (l:List Int):Rc:=xU (pD k) (aJ k) l
theorem EZ (r:Rc):∀ (l:List Nat) (b:Rc),xU b l (l.map (cI r))=l.foldl (fun b o=>sI b o (cI r o)) b
 | [],b=>rfl
 | o :: l,b=>EZ r l _
theorem Ah (r:Rc):qg r.k (bh r)=fE r (aJ r.k):=EZ r _ _
theorem M4 (r:Rc) {o:Nat} (h:CA o) (v:Int):(sI r o v).sg=r.sg:=by
 rcases qU h with rfl | rfl | rfl | rfl | rfl | rfl | rfl | rfl | rfl | rfl | rfl | rfl | rfl | rfl | rfl | rfl | rfl | rfl <;> rfl
def bc (r:Rc):Bool:=decide (aJ r.k≠[])&&(bh r).all vB&&decide (fE r (aJ r.k)=r)
def cT (r:Rc):List Int:=cN r.k 1++(bh r).flatMap fun n=>cN n 5
def uT (r:Rc):ByteArray:=bs (cT r++cN (rk (bs (cT r))) 4)
def lf (r:Rc):ByteArray × Int:=if bc r then (uT r,0) else (⟨#[]⟩,49)
def Ch (s:ByteArray) (r:Rc):ByteArray × Int:=if bc r then (s++uT r,0) else (⟨#[]⟩,49)
def tf (s:ByteArray) (at' k:Nat):Int:=nE (((sb s).drop at').take k)
def dA (s:ByteArray) (at' n:Nat):List Int:=(List.range n).map fun i=>tf s (at'+1+5 * i) 5
def GN (s:ByteArray) (a:Nat):Rc × Int × Int:=
 let k:=(sb s).getD a 0
 let n:=(aJ k).length
 if aJ k=[] then (pD 0,0,49) else if s.size<a+1+5 * n+4 then (pD 0,0,7) else
 if tf s (a+1+5 * n) 4≠rk (s.extract a (a+1+5 * n)) then (pD 0,0,8) else
 if (dA s a n).all vB then (qg k (dA s a n),a+1+5 * n+4,0) else (pD 0,0,49)
def ec (s:ByteArray) (a:Int):Rc × Int × Int:=if a<0∨(s.size:Int)<a then (pD 0,0,1) else if a=s.size then (pD 0,0,7) else GN s a.toNat
def O1 (s:ByteArray) (a:Int):AV:=.tuple [dn (ec s a).1,.int .i64 (ec s a).2.1,.int .i64 (ec s a).2.2]
theorem fm (l:List Rc):(F5 l).length=l.length:=by simp [F5]
theorem Lz (l:List Rc) (i:Nat):(F5 l)[i]?=(l[i]?).map dn:=by simp [F5]
theorem en (r:Rc):(dn r).cL=true:=rfl
theorem Hl (r:Rc):(gY .nil r).cL=true:=rfl
theorem Ly (l:List Rc):∀ x∈F5 l,x.cL=true:=by simp [F5,en]
theorem OE (r:Rc):mF 21 (dn r):=⟨rfl,rfl⟩
theorem OF (l:List Rc):∀ x∈F5 l,mF 21 x:=by simp [F5]; intro a _; exact OE a
theorem Jc {r:Rc} (h:r.sg=[]):HP (gY .nil r) (dn r):=by
 rw [dn,gY,gY,eL,eL,h]
 exact .agg (.cons .rfl (.cons .rfl (.cons .rfl (.cons .rfl (.cons .rfl (.cons .rfl (.cons .rfl (.cons .rfl (.cons .rfl (.cons .rfl (.cons .rfl (.cons .rfl (.cons (.nil 1) (oO.refl _))))))))))))))
theorem iH {σ:St} {r:Rc} (h:r.sg=[]):aw σ (gY .nil r) (dn r):=by
 rw [dn,gY,gY,eL,eL,h]
 exact aw.ag (.cons (aw.e rfl) (.cons (aw.e rfl) (.cons (aw.e rfl) (.cons (aw.e rfl) (.cons (aw.e rfl) (.cons (aw.e rfl) (.cons (aw.e rfl) (.cons (aw.e rfl) (.cons (aw.e rfl) (.cons (aw.e rfl) (.cons (aw.e rfl) (.cons (aw.e rfl) (.cons (.nl 1)
  (.cons (aw.e rfl) (.cons (aw.e rfl) (.cons (aw.e rfl) (.cons (aw.e rfl) (.cons (aw.e rfl) (.cons (aw.e rfl) (.cons (aw.e rfl) (.cons (aw.e rfl) .nil)))))))))))))))))))))
def zQ (r:Rc):List Int × Bool:=if aJ r.k=[] then ([],false) else if (bh r).all vB then (bh r,decide (fE r (aJ r.k)=r)) else ([],false)
theorem GV (r:Rc) (l:List Nat) (o:Nat):fE r (l++[o])=sI (fE r l) o (cI r o):=by simp [fE,List.foldl_append]
theorem Fj (r:Rc):∀ (l:List Nat) (b:Rc),b.sg=[]→(∀ o∈l,CA o)→(l.foldl (fun b o=>sI b o (cI r o)) b).sg=[]
 | [],b,h,_=>h
 | o :: l,b,h,hl=>Fj r l _ (by rw [M4 _ (hl o (by simp))]; exact h) fun x hx=>hl x (by simp [hx])
theorem J7 (r:Rc) (l:List Nat) (h:∀ o∈l,CA o):(fE r l).sg=[]:=Fj r l _ rfl h
abbrev SJ:TypeId:=183
def T4 (σ:St) (id g:Nat) (r:AV) (τ:St):Prop:=∃ M gm L,r=.jq M gm∧σ.n≤τ.n∧(∀ i,i<σ.n→τ.ob i=σ.ob i)∧τ.ob M=some ⟨gm,2,rZ,false,false,L⟩∧cP .i64 L=true∧
 ∀ k:Int,(mK k L=none∧aJ k=[])∨∃ i gi,mK k L=some (.sl i gi 1 0 (aJ k).length)∧aJ k≠[]∧σ.n≤i∧i<τ.n∧τ.ob i=some ⟨gi,1,SJ,false,true,(aJ k).map fun o=>.ptr id g 21 0 o⟩
theorem fR (σ:St) (id g:Nat):HC prog wy [.ptr id g 21 0 0] σ (T4 σ id g):=by
 obtain ⟨dH,n0,c0⟩:=σ
 refine aL xd (by simp) ?_
 simp only [nN]
 try simp (disch:=omega) only [go_sem,jA,jB,jF,jG,↓reduceIte,reduceCtorEq,jM]
 repeat' (refine And.intro ?_ ?_)
 all_goals try omega
 refine ⟨n0,c0,_,rfl,by simp only; omega,fun i hi=>?_,az _ _ _,by simp [cP,xB],fun k=>?_⟩
 ·simp only at hi ⊢
  simp (disch:=omega) only [aa]
 have e1:(aJ 1).map (fun o=>AV.ptr id g 21 0 o)=[.ptr id g 21 0 1,.ptr id g 21 0 2,.ptr id g 21 0 3,.ptr id g 21 0 4,.ptr id g 21 0 5,.ptr id g 21 0 6]:=rfl
 rcases kM k with e | ⟨rfl,e⟩ | ⟨rfl,e⟩ | ⟨rfl | rfl,e⟩ | ⟨rfl,e⟩ | ⟨rfl,e⟩
 ·refine .inl ⟨?_,e⟩
  have h1:¬k=1:=fun h=>by rw [h] at e; simp [aJ] at e
  have h2:¬k=2:=fun h=>by rw [h] at e; simp [aJ] at e
  have h3:¬k=3:=fun h=>by rw [h] at e; simp [aJ] at e
  have h4:¬k=4:=fun h=>by rw [h] at e; simp [aJ] at e
  have h5:¬k=5:=fun h=>by rw [h] at e; simp [aJ] at e
  have h6:¬k=6:=fun h=>by rw [h] at e; simp [aJ] at e
  try simp (disch:=omega) only [go_sem,↓reduceIte,h1,h2,h3,h4,h5,h6]
 ·refine .inr ⟨n0+27,c0+27,rfl,by simp [aJ],by simp only; omega,by simp only; omega,?_⟩
  simp (disch:=omega) only [aa,az]; rfl
 ·refine .inr ⟨n0+45,c0+45,rfl,by simp [aJ],by simp only; omega,by simp only; omega,?_⟩
  simp (disch:=omega) only [aa,az]; rfl
 ·refine .inr ⟨n0+60,c0+60,rfl,by simp [aJ],by simp only; omega,by simp only; omega,?_⟩
  simp (disch:=omega) only [aa,az]; rfl
 ·refine .inr ⟨n0+75,c0+75,rfl,by simp [aJ],by simp only; omega,by simp only; omega,?_⟩
  simp (disch:=omega) only [aa,az]; rfl
 ·refine .inr ⟨n0+89,c0+89,rfl,by simp [aJ],by simp only; omega,by simp only; omega,?_⟩
  simp (disch:=omega) only [aa,az]; rfl
 ·refine .inr ⟨n0+95,c0+95,rfl,by simp [aJ],by simp only; omega,by simp only; omega,?_⟩
  simp (disch:=omega) only [aa,az]; rfl
theorem iS (a b:List Int) (ha:a.length≤9223372036854775807):PC prog rB [.list 1 (ints a),.list 1 (ints b)] (.bool (decide (a=b))):=by
 refine ae rH (by simp) ?_
 simp only [jR,go_sem,jF,↓reduceIte,reduceCtorEq,au]
 refine aZ (fun h=>?_) (fun h=>?_) <;> try simp (disch:=omega) only [go_sem,↓reduceIte,reduceCtorEq]
 ·exact aw.of_eq (by congr 1; simp; intro hab; exact h (by rw [hab])) rfl
 have hl:a.length=b.length:=by omega
 refine bw [4,5,13,14,15,16,17,18,19,20,21,22,23,24,25] (by kernel_rfl) a.length (fun k e _=>e 13=.int .i64 k∧∀ j,j<k→a[j]?=b[j]?) ?_ ?_
 ·exact ⟨(by first | rfl | (simp (disch:=omega) only [go_sem,jA,jB,jC,jD,jE,jF,jG,jH,jI,jJ,↓reduceIte,reduceCtorEq,jP,jO,jM,jN]; try rfl)),fun j hj=>by omega⟩
 ·rintro k fe ob c hk ⟨h13,hj⟩
  simp (maxSteps:=1000000) only [go_sem,jF,↓reduceIte] at h13
  try simp (disch:=omega) only [go_sem,jF,↓reduceIte,h13,au]
  refine ah (fun hlt=>?_) (fun hge=>?_)
  ·have hka:k<a.length:=by omega
   have hga:a[k]?=some a[k]:=List.getElem?_eq_getElem hka
   have hgb:b[k]?=some b[k]:=List.getElem?_eq_getElem (by omega)
   try simp (disch:=omega) only [go_sem,jF,jH,↓reduceIte,reduceCtorEq,au,bD,hga,hgb,Option.map_some]
   repeat (refine And.intro (by first | omega | (rw [n4]; omega) | (simp [maxLen]; done) | (simp [maxLen]; omega)) ?_)
   refine aZ (fun hne=>?_) (fun heq=>?_)
   ·try simp (disch:=omega) only [go_sem,↓reduceIte]
    exact aw.of_eq (by congr 1; simp; intro hab; subst hab; exact hne rfl) rfl
   ·try simp (disch:=omega) only [go_sem,jF,↓reduceIte,jO]
    refine bl hka ⟨(by first | rfl | (simp (disch:=omega) only [go_sem,jA,jB,jC,jD,jE,jF,jG,jH,jI,jJ,↓reduceIte,reduceCtorEq,jP,jO,jM,jN]; try rfl)),fun j hj'=>?_⟩
    by_cases e:j=k
    ·have he:a[k]=b[k]:=heq
     subst e; rw [hga,hgb,he]
    ·exact hj j (by omega)
  ·try simp (disch:=omega) only [go_sem,↓reduceIte]
   exact aw.of_eq (by congr 1; simp; exact bU hl fun j hj'=>hj j (by omega)) rfl
theorem eE {a b:Rc} {α:Type} (f:Rc→α) (h:¬f a=f b):decide (a=b)=false:=by
 rw [decide_eq_false_iff_not]
 exact fun e=>h (by rw [e])
theorem Gm {a b:Rc} {x:Bool} (h:x=false) (hx:a=b→x=true):decide (a=b)=false:=by
 rw [decide_eq_false_iff_not]
 exact fun e=>by rw [hx e] at h; cases h
theorem ya (a b:Rc) (ha:a.sg.length≤9223372036854775807):PC prog Aa [dn a,dn b] (.bool (decide (a=b))):=by
 have hE:=iS a.sg b.sg ha
 refine ae A5 (by simp) ?_
 simp only [qI,dn,gY,eL]
 try simp (disch:=omega) only [go_sem,jF,jG,jH,↓reduceIte,reduceCtorEq]
 refine bB rfl (fun h0=>?_) (fun h0=>?_) <;> try simp (disch:=omega) only [go_sem,jF,jG,jH,↓reduceIte,reduceCtorEq]
 rotate_left
 ·exact aw.of_eq (by rw [eE Rc.k h0]) rfl
 refine LX rfl (fun h1=>?_) (fun h1=>?_) <;> try simp (disch:=omega) only [go_sem,jF,jG,jH,↓reduceIte,reduceCtorEq]
 rotate_left
 ·exact aw.of_eq (by rw [Gm h1 fun e=>by subst e; simp]) rfl
 refine bB rfl (fun h2=>?_) (fun h2=>?_) <;> try simp (disch:=omega) only [go_sem,jF,jG,jH,↓reduceIte,reduceCtorEq]
 rotate_left
 ·exact aw.of_eq (by rw [eE Rc.zF h2]) rfl
 refine bB rfl (fun h3=>?_) (fun h3=>?_) <;> try simp (disch:=omega) only [go_sem,jF,jG,jH,↓reduceIte,reduceCtorEq]
 rotate_left
 ·exact aw.of_eq (by rw [eE Rc.code h3]) rfl
 refine bB rfl (fun h4=>?_) (fun h4=>?_) <;> try simp (disch:=omega) only [go_sem,jF,jG,jH,↓reduceIte,reduceCtorEq]
 rotate_left
 ·exact aw.of_eq (by rw [eE Rc.time h4]) rfl
 refine LX rfl (fun h5=>?_) (fun h5=>?_) <;> try simp (disch:=omega) only [go_sem,jF,jH,↓reduceIte]
 rotate_left
 ·exact aw.of_eq (by rw [Gm h5 fun e=>by subst e; simp]) rfl
 refine bB rfl (fun h6=>?_) (fun h6=>?_) <;> try simp (disch:=omega) only [go_sem,jF,jG,jH,↓reduceIte]
 rotate_left
 ·exact aw.of_eq (by rw [eE Rc.y9 h6]) rfl
 refine bB rfl (fun h7=>?_) (fun h7=>?_) <;> try simp (disch:=omega) only [go_sem,jF,jG,jH,↓reduceIte]
 rotate_left
 ·exact aw.of_eq (by rw [eE Rc.site h7]) rfl
 refine bB rfl (fun h8=>?_) (fun h8=>?_) <;> try simp (disch:=omega) only [go_sem,jF,jG,jH,↓reduceIte]
 rotate_left
 ·exact aw.of_eq (by rw [eE Rc.fr h8]) rfl
 refine bB rfl (fun h9=>?_) (fun h9=>?_) <;> try simp (disch:=omega) only [go_sem,jF,jG,jH,↓reduceIte]
 rotate_left
 ·exact aw.of_eq (by rw [eE Rc.to h9]) rfl
 refine bB rfl (fun h10=>?_) (fun h10=>?_) <;> try simp (disch:=omega) only [go_sem,jF,jG,jH,↓reduceIte]
 rotate_left
 ·exact aw.of_eq (by rw [eE Rc.rel h10]) rfl
 refine bB rfl (fun h11=>?_) (fun h11=>?_) <;> try simp (disch:=omega) only [go_sem,jF,jG,jH,↓reduceIte]
 rotate_left
 ·exact aw.of_eq (by rw [eE Rc.wd h11]) rfl
 refine ab hE (by simp [go_sem]) ?_
 try simp (disch:=omega) only [go_sem,jF,↓reduceIte]
 refine aw.of_eq ?_ rfl
 congr 1
 rw [Bool.eq_iff_iff,decide_eq_true_eq,decide_eq_true_eq]
 simp only [Bool.and_eq_true,decide_eq_true_eq] at h1 h5
 obtain ⟨⟩:=a
 obtain ⟨⟩:=b
 simp only at *
 simp_all
theorem sV (r:Rc) (hr:r.sg.length≤9223372036854775807):PC prog uE [dn r] (.tuple [.list 1 (ints (zQ r).1),.bool (zQ r).2]):=by
 have hfl:=eR (E:=.list 1 (ints r.sg)) r rfl
 have hfn:=eR (E:=.nil) (pD r.k) rfl
 have hSm:=ya r (fE r (aJ r.k)) hr
 refine ae vG (by simp) ?_
 simp only [mj,dn]
 try simp (disch:=omega) only [go_sem,jF,jH,↓reduceIte,hfl,bT]
 refine (fR _ 0 0).mono ?_
 rintro r1 ⟨ob1,n1,c1⟩ ⟨M,gm,L,rfl,hn1,ho1,hM,hKo,hF⟩
 have u0:=ho1 0 (by simp only; omega)
 simp only at hn1 ho1 hM
 try simp (disch:=omega) only [go_sem,↓reduceIte] at u0
 try simp (disch:=omega) only [go_sem,jF,↓reduceIte,hM,u0,oq,hKo]
 rcases hF r.k with ⟨hg,he⟩ | ⟨i1,g1,hg,hne,hi1,hi1',hi1o⟩
 ·try simp (disch:=omega) only [go_sem,jF,↓reduceIte,hg]
  rw [zQ,if_pos he]
  exact aw.tu (.cons (.nl 1) (.cons (aw.e rfl) .nil))
 simp only at hi1 hi1' hi1o
 try simp (disch:=omega) only [go_sem,jF,jG,jH,↓reduceIte,jM,hg,u0,oq]
 refine (fR _ n1 c1).mono ?_
 rintro r2 ⟨ob2,n2,c2⟩ ⟨M2,gm2,L2,rfl,hn2,ho2,hM2,hKo2,hF2⟩
 rcases hF2 r.k with ⟨_,he⟩ | ⟨i2,g2,hg2,_,hi2,hi2',hi2o⟩
 ·exact absurd he hne
 simp only at hn2 hM2 hi2 hi2' hi2o
 have v0:=(ho2 0 (by simp only; omega)).trans ((aa _ _ _ _ (by omega)).trans ((aa _ _ _ _ (by omega)).trans u0))
 have v1:=(ho2 i1 (by simp only; omega)).trans ((aa _ _ _ _ (by omega)).trans ((aa _ _ _ _ (by omega)).trans hi1o))
 have vb:=(ho2 n1 (by simp only; omega)).trans (az _ _ _)
 simp only at v0 v1 vb
 have hbk:=tW r.k
 rw [hbk] at vb
 clear hF hF2 hM hKo hg ho1 ho2 hi1o
 have h6:=kL r.k
 have hofl:((aJ r.k).map fun o=>AV.ptr 0 0 21 0 o).length=(aJ r.k).length:=List.length_map ..
 have hofl2:((aJ r.k).map fun o=>AV.ptr n1 c1 21 0 o).length=(aJ r.k).length:=List.length_map ..
 try simp (disch:=omega) only [go_sem,jF,↓reduceIte,jM,hM2,v0,hKo2,hg2]
 refine ⟨u0.symm,?_⟩
 clear u0
 refine aW [2,3,8,9,10,29,30,31,32,33,34,35,36,37,38,39,40,41,42,43,44,45,46,47,48,49,50,51,52,53,54,55,56,57,58] (by kernel_rfl) (aJ r.k).length (fun i e σ=>e 29=.int .i64 i∧n2≤σ.n∧σ.ob 0=some ⟨0,21,32,false,true,[gY (.list 1 (ints r.sg)) r]⟩∧σ.ob i1=some ⟨g1,1,SJ,false,true,(aJ r.k).map fun o=>.ptr 0 0 21 0 o⟩∧
  σ.ob i2=some ⟨g2,1,SJ,false,true,(aJ r.k).map fun o=>.ptr n1 c1 21 0 o⟩∧σ.ob n1=some ⟨c1,21,32,false,true,[gY .nil (fE r ((aJ r.k).take i))]⟩∧
  (((aJ r.k).take i).map (cI r)).all vB=true∧∃ X,At e 8 X∧cu 1 3 σ (ints (((aJ r.k).take i).map (cI r))) X∧∀ j,¬aY X j→n2≤j) ?_ ?_
 ·refine ⟨(by first | rfl | (simp (disch:=omega) only [go_sem,jA,jB,jC,jD,jE,jF,jG,jH,jI,jJ,↓reduceIte,reduceCtorEq,jP,jO,jM,jN]; try rfl)),Nat.le_refl _,v0,v1,hi2o,vb,rfl,.nil,(by simp only [At]; try simp (disch:=omega) only [go_sem,jF,↓reduceIte]),cu.nil,fun j hj=>absurd (aY.nil j) hj⟩
 clear v0 v1 hi2o vb
 rintro i fe ob m c hi hm ⟨hii,hm1,v0,v1,v2,vb,hall,X,h8,hX,hXn⟩
 simp (maxSteps:=1000000) only [go_sem,jF,↓reduceIte,At] at hii hm hm1 v0 v1 v2 vb h8
 try simp (disch:=omega) only [go_sem,jF,↓reduceIte,hii]
 refine ah (fun hlt=>?_) (fun hge=>?_)
 ·have hil:i<(aJ r.k).length:=by omega
  have hgo:(aJ r.k)[i]?=some (aJ r.k)[i]:=List.getElem?_eq_getElem hil
  have hok:CA (aJ r.k)[i]:=qV (List.getElem_mem hil)
  have htk:(aJ r.k).take (i+1)=(aJ r.k).take i++[(aJ r.k)[i]]:=dX _ _ hil
  generalize (aJ r.k)[i]=o at *
  have q1:((aJ r.k).map fun o=>AV.ptr 0 0 21 0 o)[i]?=some (.ptr 0 0 21 0 o):=by rw [List.getElem?_map,hgo]; rfl
  have q2:((aJ r.k).map fun o=>AV.ptr n1 c1 21 0 o)[i]?=some (.ptr n1 c1 21 0 o):=by rw [List.getElem?_map,hgo]; rfl
  have hgd:=vU (.list 1 (ints r.sg)) r hok
  have ho21:o+1≤21:=by unfold CA at hok; omega
  have hst:=Hk .nil (fE r ((aJ r.k).take i)) hok (cI r o)
  have hbad:vB (cI r o)=false→∀ σ:St,aw σ (.tuple [.nil,.bool false]) (.tuple [.list 1 (ints (zQ r).1),.bool (zQ r).2]):=fun hb σ=>by
   have:(bh r).all vB=false:=by
    rw [List.all_eq_false]
    exact ⟨cI r o,List.mem_map.2 ⟨o,List.mem_of_getElem? hgo,rfl⟩,by simp [hb]⟩
   rw [zQ,if_neg hne,this,if_neg (by simp)]
   exact aw.tu (.cons (.nl 1) (.cons (aw.e rfl) .nil))
  try simp (disch:=omega) only [go_sem,jF,jH,↓reduceIte,v1,q1,v0,hgd]
  refine ⟨by omega,by omega,by omega,?_⟩
  refine bF rfl (fun hb=>?_) (fun hb=>?_) <;> try simp (disch:=omega) only [go_sem,jF,jH,↓reduceIte,v0,hgd]
  ·exact hbad (by simp [vB]; omega) _
  refine ⟨by omega,?_⟩
  refine ah (fun hb2=>?_) (fun hb2=>?_) <;> try simp (disch:=omega) only [go_sem,jF,jH,↓reduceIte]
  ·exact hbad (by simp [vB]; omega) _
  have zb:¬n1=0:=by omega
  have zb0:¬0=n1:=by omega
  try simp (disch:=omega) only [go_sem,jF,jH,↓reduceIte,reduceCtorEq,v0,v2,q2,hgd,vb,hst,zb0]
  refine ⟨by omega,by omega,by omega,by omega,by omega,?_⟩
  rw [h8]
  have ll:(ints (((aJ r.k).take i).map (cI r))).length≤6:=by rw [au,List.length_map,List.length_take]; omega
  have hvb:vB (cI r o)=true:=by simp [vB]; omega
  refine bH (b:=8) (hX.move (Nat.le_refl _) fun j hj hh=>aa _ _ _ _ fun e=>by have:=hXn j hh; omega) (by omega) (by omega) fun Y τ hY kY=>?_
  obtain ⟨ob5,m5,c5⟩:=τ
  have p1:m≤m5:=kY.1
  have oX:∀ j,j<n2→aY X j:=fun j hj=>aY.em fun h=>by have:=hXn j h; omega
  have p2:∀ j,j<n2→ob5 j=bd ob n1 (some ⟨c1,21,32,false,true,[gY .nil (sI (fE r ((aJ r.k).take i)) o (cI r o))]⟩) j:=fun j hj=>kY.2.1 j (by simp only; omega) (oX j hj)
  try simp (disch:=omega) only [go_sem,jF,↓reduceIte,jO]
  refine aG m5 hil (by omega) ⟨(by first | rfl | (simp (disch:=omega) only [go_sem,jA,jB,jC,jD,jE,jF,jG,jH,jI,jJ,↓reduceIte,reduceCtorEq,jP,jO,jM,jN]; try rfl)),by simp only [St.aD]; omega,?_,?_,?_,?_,?_,Y,(by simp only [At]; try simp (disch:=omega) only [go_sem,jF,↓reduceIte]),?_,fun j hj=>Nat.le_of_not_lt fun hh=>hj (kY.2.2 j (by simp only; omega) (oX j hh))⟩
  ·rw [aX (by omega),p2 _ (by omega),aa _ _ _ _ (by omega)]; exact v0
  ·rw [aX (by omega),p2 _ (by omega),aa _ _ _ _ (by omega)]; exact v1
  ·rw [aX (by omega),p2 _ (by omega),aa _ _ _ _ (by omega)]; exact v2
  ·rw [aX (by omega),p2 _ (by omega),az,htk,GV]
  ·rw [htk,List.map_append,List.all_append,hall]; simp [hvb]
  ·rw [htk,List.map_append,show ints (((aJ r.k).take i).map (cI r)++[o].map (cI r))=ints (((aJ r.k).take i).map (cI r))++[.int .i64 (cI r o)] by simp [ints]]
   exact hY.tr
 obtain rfl:i=(aJ r.k).length:=by omega
 rw [List.take_length] at vb hall hX
 clear hge hii
 have zb0:¬0=n1:=by omega
 have e1:zQ r=(bh r,decide (r=fE r (aJ r.k))):=by
  rw [zQ,if_neg hne,if_pos (show (bh r).all vB=true from hall)]
  simp [eq_comm]
 try simp (disch:=omega) only [go_sem,jF,jH,↓reduceIte,v0,vb,h8,eM]
 refine ab (oQ hSm (.cons .rfl (.cons (Jc (J7 r _ fun o ho=>qV ho)) .nil))) (by simp [Hl]; exact en r) ?_
 try simp (disch:=omega) only [go_sem,jF,↓reduceIte]
 rw [e1]
 exact aw.tu (.cons (hX.mU (fun _ _ _=>rfl) (dC _) (iN _)) (.cons (aw.e rfl) .nil))
abbrev SK:TypeId:=5
def TW (σ:St) (id:Nat) (L:List Int) (r:AV) (τ:St):Prop:=∃ g',r=.sl id g' 1 0 L.length∧τ.n=σ.n∧τ.ob id=some ⟨g',1,SK,false,true,F2 L⟩∧∀ i,i<σ.n→i≠id→τ.ob i=σ.ob i
theorem ql (σ:St) (id g:Nat) (L:List Int) (x:Int) (k:Nat) (hL:L.length≤1000000) (hk:k≤5) (hid:id<σ.n) (hob:σ.ob id=some ⟨g,1,SK,false,true,F2 L⟩) :
  HC prog BJ [.sl id g 1 0 L.length,.int .i64 x,.int .i64 k] σ (TW σ id (L++cN x k)):=by
 obtain ⟨dH,n0,c0⟩:=σ
 simp only at hob hid
 refine aL B9 (by simp) ?_
 simp only [sH]
 try simp (disch:=omega) only [go_sem,jF,↓reduceIte,reduceCtorEq]
 refine aW [0,1,8,9,10,11,12,13,14,15,16,17] (by kernel_rfl) k (fun i e σ=>e 8=.int .i64 i∧σ.n=n0∧(∃ g',e 0=.sl id g' 1 0 (L.length+i)∧σ.ob id=some ⟨g',1,SK,false,true,F2 (L++cN x i)⟩)∧e 1=.int .i64 (x / 256 ^ i)∧∀ j,j<n0→j≠id→σ.ob j=dH j) ?_ ?_
 ·refine ⟨(by first | rfl | (simp (disch:=omega) only [go_sem,jA,jB,jC,jD,jE,jF,jG,jH,jI,jJ,↓reduceIte,reduceCtorEq,jP,jO,jM,jN]; try rfl)),rfl,⟨g,(by first | rfl | (simp (disch:=omega) only [go_sem,jA,jB,jC,jD,jE,jF,jG,jH,jI,jJ,↓reduceIte,reduceCtorEq,jP,jO,jM,jN]; try rfl)),by simp [cN]; exact hob⟩,?_,fun j _ _=>rfl⟩
  simp [bd]
 rintro i fe ob m c hi hm ⟨h8,rfl,⟨g',h0,ho⟩,h1,hf⟩
 simp (maxSteps:=1000000) only [go_sem,jF,↓reduceIte,reduceCtorEq] at h8 h0 ho h1 hf
 have hpl:=bx i x
 have hul:(F2 (L++cN x i)).length=L.length+i:=by rw [kj,List.length_append,hpl]
 try simp (disch:=omega) only [go_sem,jF,↓reduceIte,reduceCtorEq,h8]
 refine ah (fun hlt=>?_) (fun hge=>?_)
 ·have hik:i<k:=by omega
  have hsh:=FJ (x / 256 ^ i)
  try simp (disch:=omega) only [go_sem,jF,jH,↓reduceIte,reduceCtorEq,jO,h0,h1,ho,hul,wrap_u8,hsh,n4]
  refine ⟨by omega,by omega,?_⟩
  refine aG m hik (by omega) ⟨(by first | rfl | (simp (disch:=omega) only [go_sem,jA,jB,jC,jD,jE,jF,jG,jH,jI,jJ,↓reduceIte,reduceCtorEq,jP,jO,jM,jN]; try rfl)),rfl,⟨c,?_,?_⟩,?_,fun j hj hne=>?_⟩
  ·simp [bd]; omega
  ·rw [aX (by omega),az,IM,List.append_assoc,←vX]
  ·simp only [bd,↓reduceIte]
   simp [bd]
   rw [Int.ediv_ediv_of_nonneg (by exact Int.pow_nonneg (by omega)),Int.pow_succ]
  ·rw [aX (by omega),aa _ _ _ _ hne]; exact hf j hj hne
 obtain rfl:i=k:=by omega
 try simp (disch:=omega) only [go_sem,↓reduceIte,reduceCtorEq,h0]
 exact ⟨g',by rw [List.length_append,hpl],rfl,ho,hf⟩
theorem zO (s:ByteArray) (h5:s.size≤5):PC prog rV [.str s] (.int .i64 (nE (sb s))):=by
 refine ae Ca (by simp) ?_
 simp only [sJ]
 try simp (disch:=omega) only [go_sem,↓reduceIte,reduceCtorEq,jO]
 refine bw [3,4,8,9,10,11,12,13,14,15,16,17,18] (by kernel_rfl) s.size (fun r e _=>e 4=.int .i64 ((s.size:Int)-1-r)∧e 3=.int .i64 (nE ((sb s).drop (s.size-r)))) ?_ ?_
 ·refine ⟨by simp [go_sem],?_⟩
  try simp (maxSteps:=1000000) only [go_sem,jF,↓reduceIte]
  rw [List.drop_of_length_le (by rw [cj]; omega)]; rfl
 rintro r fe ob c hr ⟨h4,h3⟩
 simp (maxSteps:=1000000) only [go_sem,jF,↓reduceIte] at h4 h3
 try simp (disch:=omega) only [go_sem,jF,↓reduceIte,h4]
 refine ah (fun hlt=>?_) (fun hge=>?_)
 ·have hrs:r<s.size:=by omega
  generalize hi:s.size-1-r=i at *
  have hi2:s.size-r=i+1:=by omega
  have hii:(s.size:Int)-1-r=(i:Int):=by omega
  have hnx:nE ((sb s).drop (s.size-(r+1)))=(sb s).getD i 0+256 * nE ((sb s).drop (i+1)):=by
   rw [show s.size-(r+1)=i by omega,wT _ _ (by rw [cj]; omega),nE]
  have hb:=DU ((sb s).drop (i+1)) (fun x hx=>I0 s x (List.mem_of_mem_drop hx))
  have hlen:((sb s).drop (i+1)).length≤4:=by rw [List.length_drop,cj]; omega
  have hb2:=OH _ hlen
  rw [hi2] at h3
  generalize nE ((sb s).drop (i+1))=y at *
  have hx:=od s i
  simp only [hii] at h4 ⊢
  have hsi:=G9 s i (by omega)
  try simp (disch:=omega) only [go_sem,jF,↓reduceIte,reduceCtorEq,jO,h3,J4,Option.some.injEq,exists_eq_left',Int.toNat_natCast,hsi]
  generalize (sb s).getD i 0=x at *
  try simp (disch:=omega) only [go_sem,Me,Option.some.injEq,exists_eq_left']
  refine bl hrs ⟨?_,?_⟩
  ·try simp (disch:=omega) only [go_sem,↓reduceIte]; congr 1; omega
  ·try simp (disch:=omega) only [go_sem,jF,↓reduceIte,hnx]
   congr 1; omega
 ·try simp (disch:=omega) only [go_sem,jF,↓reduceIte,h3]
  rw [show s.size-r=0 by omega]
  exact aw.of_eq rfl rfl
theorem JP (r:Rc):(cT r).length≤31:=by
 have h:=kL r.k
 have h2:∀ l:List Int,(l.flatMap fun n=>cN n 5).length=5 * l.length:=fun l=>by
  induction l with
  | nil=>rfl
  | cons a l ih=>rw [List.flatMap_cons,List.length_append,bx,ih,List.length_cons]; omega
 rw [cT,List.length_append,bx,h2,bh,List.length_map]
 omega
def tk (r:Rc) (i:Nat):List Int:=cN r.k 1++((bh r).take i).flatMap fun n=>cN n 5
theorem Ft (r:Rc) (i:Nat):(tk r i).length≤31:=by
 have h:=kL r.k
 have h2:∀ l:List Int,(l.flatMap fun n=>cN n 5).length=5 * l.length:=fun l=>by
  induction l with
  | nil=>rfl
  | cons a l ih=>rw [List.flatMap_cons,List.length_append,bx,ih,List.length_cons]; omega
 rw [tk,List.length_append,bx,h2,List.length_take,bh,List.length_map]
 omega
theorem Fu (r:Rc):tk r (bh r).length=cT r:=by rw [tk,List.take_length]; rfl
theorem wQ (r:Rc) (i:Nat) (h:i<(bh r).length):tk r (i+1)=tk r i++cN (bh r)[i] 5:=by
 rw [tk,tk,dX _ _ h,List.flatMap_append,List.append_assoc]; rw [List.flatMap_cons,List.flatMap_nil,List.append_nil]
theorem Nd (l:List Int):(⟨(l.map fun n=>UInt8.ofNat n.toNat).toArray⟩:ByteArray)=bs l:=rfl
theorem wP (r:Rc):(uT r).size≤35:=by
 have:=JP r
 rw [uT,show (bs (cT r++cN (rk (bs (cT r))) 4)).size=(cT r++cN (rk (bs (cT r))) 4).length by simp [bs,ByteArray.size],List.length_append,bx]
 omega
theorem lW (r:Rc) (hr:r.sg.length≤9223372036854775807):PC prog wz [dn r] (.tuple [.str (lf r).1,.int .i64 (lf r).2]):=by
 have hfl:=eR (E:=.list 1 (ints r.sg)) r rfl
 have hN:=sV r hr
 have hpr:(gY (.list 1 (ints r.sg)) r).cL=true:=rfl
 refine ae xe (by simp) ?_
 simp only [nO,dn] at hN ⊢
 try simp (disch:=omega) only [go_sem,jF,jH,↓reduceIte,hfl,bT,eM]
 refine ab hN (by simp [hpr]) ?_
 have hbad:bc r=false→∀ σ:St,aw σ (.tuple [.str ⟨#[]⟩,.int .i64 49]) (.tuple [.str (lf r).1,.int .i64 (lf r).2]):=fun h σ=>by
  rw [lf,if_neg (by simp [h])]; exact aw.pure rfl
 by_cases hne:aJ r.k=[]
 ·rw [zQ,if_pos hne]
  try simp (disch:=omega) only [go_sem,jF,↓reduceIte]
  exact hbad (by simp [bc,hne]) _
 by_cases hall:(bh r).all vB=true
 ·rw [zQ,if_neg hne,if_pos hall]
  simp only
  cases hv:decide (fE r (aJ r.k)=r)
  ·try simp (disch:=omega) only [go_sem,jF,↓reduceIte]
   exact hbad (by simp only [bc,hv,Bool.and_false]) _
  have hva:bc r=true:=by simp only [bc,hv,hall,Bool.and_true,decide_eq_true_eq]; exact hne
  have hkd:=wm hne
  try simp (disch:=omega) only [go_sem,jF,jG,jH,↓reduceIte,oq,wrap_u8]
  have hoff:=kL r.k
  have hnl:(bh r).length=(aJ r.k).length:=by rw [bh,List.length_map]
  have hpk:cN r.k 1=[r.k % 256]:=by simp [cN]
  refine aW [6,8,22,23,24,25,26,27,28,29] (by kernel_rfl) (bh r).length (fun i e σ=>e 22=.int .i64 i∧σ.n=2∧∃ g',e 6=.sl 1 g' 1 0 (tk r i).length∧σ.ob 1=some ⟨g',1,SK,false,true,F2 (tk r i)⟩) ?_ ?_
  ·refine ⟨(by first | rfl | (simp (disch:=omega) only [go_sem,jA,jB,jC,jD,jE,jF,jG,jH,jI,jJ,↓reduceIte,reduceCtorEq,jP,jO,jM,jN]; try rfl)),rfl,1,?_,?_⟩
   ·simp [bd,tk,hpk]
   ·simp only [bd,↓reduceIte,tk,hpk,List.take_zero,List.flatMap_nil,List.append_nil]; rfl
  rintro i fe ob m c hi hm ⟨h22,rfl,g',h6,ho⟩
  simp (maxSteps:=1000000) only [go_sem,jF,↓reduceIte] at h22 h6 ho
  have hil:=Ft r i
  try simp (disch:=omega) only [go_sem,jF,↓reduceIte,h22,au]
  refine ah (fun hlt=>?_) (fun hge=>?_)
  ·have hik:i<(bh r).length:=by omega
   have hgi:=bD (bh r) i
   try simp (disch:=omega) only [go_sem,jF,jH,↓reduceIte,h6,au,hgi,List.getElem?_eq_getElem hik]
   refine ⟨by omega,by omega,HC.mono (ql ⟨ob,2,c⟩ 1 g' (tk r i) (bh r)[i] 5 (by omega) (by omega) (by simp) ho) ?_⟩
   rintro r' ⟨ob',n',c'⟩ ⟨g2,rfl,hn',ho',hf'⟩
   simp only at hn' ho' hf'
   subst hn'
   try simp (disch:=omega) only [go_sem,jF,↓reduceIte,jO]
   refine aG _ hik (Nat.le_refl _) ⟨by simp [go_sem],rfl,g2,?_,?_⟩
   ·rw [wQ r i hik]; simp [bd]
   ·rw [wQ r i hik,aX (by omega)]; exact ho'
  obtain rfl:i=(bh r).length:=by omega
  rw [Fu] at h6 ho hil
  have htk:List.take (cT r).length (F2 (cT r))=F2 (cT r):=List.take_of_length_le (by rw [kj]; omega)
  have hul:(F2 (cT r)).length=(cT r).length:=kj _
  have hby:=wX (cT r)
  try simp (disch:=omega) only [go_sem,jF,↓reduceIte,h6,ho,htk,hby,hul,Option.some.injEq,exists_eq_left',Nd]
  have hsz:(bs (cT r)).size=(cT r).length:=by simp [bs,ByteArray.size]
  refine ⟨Nat.le_refl _,?_⟩
  refine ab (nb (bs (cT r)) (by omega)) (by simp [go_sem]) ?_
  try simp (disch:=omega) only [go_sem,jF,↓reduceIte]
  refine HC.mono (ql ⟨ob,2,c⟩ 1 g' (cT r) (rk (bs (cT r))) 4 (by omega) (by omega) (by simp) ho) ?_
  rintro r' ⟨ob',n',c'⟩ ⟨g2,rfl,hn',ho',hf'⟩
  simp only at hn' ho' hf'
  subst hn'
  try simp (disch:=omega) only [go_sem,jF,↓reduceIte,ho']
  rw [List.take_of_length_le (by rw [kj]; omega)]
  refine ⟨by rw [kj]; omega,_,wX _,?_⟩
  rw [Nd,lf,if_pos hva]
  exact aw.pure rfl
 ·rw [zQ,if_neg hne,if_neg hall]
  try simp (disch:=omega) only [go_sem,jF,↓reduceIte]
  exact hbad (by simp [bc,hall]) _
theorem IT (s:ByteArray) (a:Int) (h0:0≤a) (h1:a<s.size):∃ n:Nat,a=n∧n<s.size:=⟨a.toNat,by omega,by omega⟩
theorem Cv:∀ (l:List Nat) (vs:List Int) (b:Rc) (o:Nat) (v:Int),l.length=vs.length→xU b (l++[o]) (vs++[v])=sI (xU b l vs) o v
 | [],[],b,o,v,_=>rfl
 | p :: l,w :: vs,b,o,v,h=>Cv l vs _ o v (by simpa using h)
 | [],_ :: _,_,_,_,h=>by simp at h
 | _ :: _,[],_,_,_,h=>by simp at h
theorem yR:∀ (l:List Nat) (vs:List Int) (b:Rc),b.sg=[]→(∀ o∈l,CA o)→(xU b l vs).sg=[]
 | [],_,b,h,_=>by simpa [xU] using h
 | _ :: _,[],b,h,_=>by simpa [xU] using h
 | o :: l,v :: vs,b,h,hl=>yR l vs _ (by rw [M4 _ (hl o (by simp))]; exact h) fun x hx=>hl x (by simp [hx])
theorem xx (s:ByteArray) (a k:Nat):dA s a (k+1)=dA s a k++[tf s (a+1+5 * k) 5]:=by simp [dA,List.range_succ]
theorem Bu (s:ByteArray) (a k:Nat):(dA s a k).length=k:=by simp [dA]
theorem zx (s:ByteArray) (a b:Nat):sb (s.extract a b)=((sb s).drop a).take (b-a):=by
 simp [sb,List.map_take,List.map_drop]
theorem RH (r:Rc) {o:Nat} (h:CA o) (v:Int):cI (sI r o v) o=v:=by
 rcases qU h with rfl | rfl | rfl | rfl | rfl | rfl | rfl | rfl | rfl | rfl | rfl | rfl | rfl | rfl | rfl | rfl | rfl | rfl <;> rfl
theorem Rt (s:ByteArray) (a k:Nat) (h:a+k≤s.size) (h5:k≤5):PC prog rV [.str (s.extract a (a+k))] (.int .i64 (tf s a k)):=by
 have:=zO (s.extract a (a+k)) (by simp; omega)
 rwa [zx,show a+k-a=k by omega] at this
theorem LW (s:ByteArray) (a k:Nat) (h:k≤5):0≤tf s a k∧tf s a k<1099511627776:=by
 have h1:=DU (((sb s).drop a).take k) fun x hx=>I0 s x (List.mem_of_mem_drop (List.mem_of_mem_take hx))
 have h2:(((sb s).drop a).take k).length≤5:=by rw [List.length_take]; omega
 have h3:∀ q:Nat,q≤5→(256:Int) ^ q≤1099511627776:=by decide
 exact ⟨h1.1,Int.lt_of_lt_of_le h1.2 (h3 _ h2)⟩
theorem uj (s:ByteArray) (a:Int) (hs:s.size≤4611686018427387904):PC prog wA [.str s,.int .i64 a] (O1 s a):=by
 refine ae xf (by simp) ?_
 simp only [nP,O1]
 have hbk:=tW
 have bad:∀ (σ:St) (e:Int),ec s a=(pD 0,0,e)→aw σ (.tuple [gY .nil (pD 0),.int .i64 0,.int .i64 e]) (.tuple [dn (ec s a).1,.int .i64 (ec s a).2.1,.int .i64 (ec s a).2.2]):=fun σ e h=>by
  rw [h]; exact aw.tu (.cons (iH rfl) (.cons (aw.e rfl) (.cons (aw.e rfl) .nil)))
 have hfl:∀ q,(gY .nil q).flat=true:=fun q=>eR q rfl
 try simp (disch:=omega) only [go_sem,jF,↓reduceIte,reduceCtorEq]
 refine bF rfl (fun h1=>?_) (fun h1=>?_) <;> try simp (disch:=omega) only [go_sem,jF,jG,jH,↓reduceIte,reduceCtorEq,hbk,hfl,bT,j6,eM]
 ·refine bad _ 1 (by rw [ec,if_pos (.inl h1)])
 refine ah (fun h2=>?_) (fun h2=>?_) <;> try simp (disch:=omega) only [go_sem,jF,jG,jH,↓reduceIte,reduceCtorEq,hbk,hfl,bT,j6,eM]
 ·refine bad _ 1 (by rw [ec,if_pos (.inr h2)])
 refine ah (fun h3=>?_) (fun h3=>?_) <;> try simp (disch:=omega) only [go_sem,jF,jG,jH,↓reduceIte,reduceCtorEq,hbk,hfl,bT,j6,eM]
 ·refine bad _ 7 (by rw [ec,if_neg (by omega),if_pos h3])
 obtain ⟨n,rfl,hn⟩:=IT s a (by omega) (by omega)
 have hD:ec s n=GN s n:=by rw [ec,if_neg (by omega),if_neg (by omega)]; rfl
 rw [hD] at bad ⊢
 have hsi:=G9 s n hn
 have hkb:=od s n
 try simp (disch:=omega) only [go_sem,jF,jG,jH,↓reduceIte,jO,hsi,Option.some.injEq,exists_eq_left',Int.toNat_natCast,hbk,hfl,bT,j6,oq]
 generalize hk:(sb s).getD n 0=k at *
 refine (fR _ 1 1).mono ?_
 rintro r1 ⟨ob1,n1,c1⟩ ⟨M,gm,L,rfl,hn1,ho1,hM,hKo,hF⟩
 have u0:=ho1 0 (by simp only; omega)
 have u1:=ho1 1 (by simp only; omega)
 simp only at hn1 ho1 hM
 try simp (disch:=omega) only [go_sem,↓reduceIte,reduceCtorEq] at u0
 try simp (disch:=omega) only [go_sem,↓reduceIte] at u1
 try simp (disch:=omega) only [go_sem,jF,↓reduceIte,hM,u1,hKo]
 have hkk:(pD k).k=k:=rfl
 rw [hkk]
 have hdN:GN s n=if aJ k=[] then (pD 0,0,49) else if s.size<n+1+5 * (aJ k).length+4 then (pD 0,0,7) else
   if tf s (n+1+5 * (aJ k).length) 4≠rk (s.extract n (n+1+5 * (aJ k).length)) then (pD 0,0,8) else
   if (dA s n (aJ k).length).all vB then (qg k (dA s n (aJ k).length),((n+1+5 * (aJ k).length+4:Nat):Int),0) else (pD 0,0,49):=by
  simp only [GN,hk]; rfl
 rcases hF k with ⟨hg,he⟩ | ⟨i1,g1,hg,hne,hi1,hi1',hi1o⟩
 ·try simp (disch:=omega) only [go_sem,jF,jG,jH,↓reduceIte,hg,u0,hbk,hfl,bT,j6,eM]
  refine bad _ 49 (by rw [hdN,if_pos he])
 rw [if_neg hne] at hdN
 have h6:=kL k
 have hofl:((aJ k).map fun o=>AV.ptr 1 1 21 0 o).length=(aJ k).length:=List.length_map ..
 simp only at hi1 hi1' hi1o
 clear ho1 hF hsi
 try simp (disch:=omega) only [go_sem,jF,↓reduceIte,reduceCtorEq,jO,hg]
 obtain ⟨p,hp⟩:∃ p:Nat,p=n+1+5 * (aJ k).length:=⟨_,rfl⟩
 have hpi:(n:Int)+1+5 * (aJ k).length=p:=by omega
 rw [←hp] at hdN
 simp only [hpi]
 refine ah (fun h4=>?_) (fun h4=>?_) <;> try simp (disch:=omega) only [go_sem,jF,jG,jH,↓reduceIte,reduceCtorEq,jO,u0,hbk,hfl,bT,j6,eM]
 ·refine bad _ 7 (by rw [hdN,if_pos (by omega)])
 rw [if_neg (by omega)] at hdN
 have hn1':p+4≤s.size:=by omega
 have e1:((p:Int)+4).toNat=p+4:=by omega
 have e2:(p:Int).toNat=p:=by omega
 have e3:(n:Int).toNat=n:=by omega
 try simp (disch:=omega) only [go_sem,e1]
 refine ⟨by omega,by omega,by omega,by omega,by omega,by omega,ab (Rt s p 4 hn1' (by omega)) (by simp [go_sem]) ?_⟩
 try simp (disch:=omega) only [go_sem,jF,↓reduceIte]
 refine ab (nb (s.extract n p) (by simp; omega)) (by simp [go_sem]) ?_
 try simp (disch:=omega) only [go_sem,jF,↓reduceIte]
 refine aZ (fun h5=>?_) (fun h5=>?_) <;> try simp (disch:=omega) only [go_sem,jF,jG,jH,↓reduceIte,u0,hbk,hfl,bT,j6,eM]
 ·refine bad _ 8 (by rw [hdN,if_pos h5])
 rw [if_neg (by omega)] at hdN
 have h20:@At=@At:=rfl
 refine aW [5,6,11,12,13,70,71,72,73,74,75,76,77,78,79,80,81,82,83,84,85,86,87,88,89,90,91,92,93] (by kernel_rfl) (aJ k).length (fun i e σ=>e 70=.int .i64 i∧σ.n=n1∧σ.ob 0=some ⟨0,21,32,false,true,[gY .nil (pD 0)]⟩∧σ.ob i1=some ⟨g1,1,SJ,false,true,(aJ k).map fun o=>.ptr 1 1 21 0 o⟩∧
  σ.ob 1=some ⟨1,21,32,false,true,[gY .nil (xU (pD k) ((aJ k).take i) (dA s n i))]⟩∧(dA s n i).all vB=true) ?_ ?_
 ·exact ⟨(by first | rfl | (simp (disch:=omega) only [go_sem,jA,jB,jC,jD,jE,jF,jG,jH,jI,jJ,↓reduceIte,reduceCtorEq,jP,jO,jM,jN]; try rfl)),rfl,u0,hi1o,u1,rfl⟩
 clear u0 u1 hi1o
 rintro i fe ob m c hi hm ⟨h70,rfl,v0,v1,v2,hall⟩
 simp (maxSteps:=1000000) only [go_sem,jF,↓reduceIte] at h70 v0 v1 v2
 try simp (disch:=omega) only [go_sem,jF,↓reduceIte,h70]
 refine ah (fun hlt=>?_) (fun hge=>?_)
 ·have hil:i<(aJ k).length:=by omega
  have hgo:(aJ k)[i]?=some (aJ k)[i]:=List.getElem?_eq_getElem hil
  have hok:CA (aJ k)[i]:=qV (List.getElem_mem hil)
  have htk:(aJ k).take (i+1)=(aJ k).take i++[(aJ k)[i]]:=dX _ _ hil
  generalize (aJ k)[i]=o at *
  have q1:((aJ k).map fun o=>AV.ptr 1 1 21 0 o)[i]?=some (.ptr 1 1 21 0 o):=by rw [List.getElem?_map,hgo]; rfl
  have ho21:o+1≤21:=by unfold CA at hok; omega
  have hst:=Hk .nil (xU (pD k) ((aJ k).take i) (dA s n i)) hok (tf s (n+1+5 * i) 5)
  obtain ⟨j,hj⟩:∃ j:Nat,j=n+1+5 * i:=⟨_,rfl⟩
  have hji:(n:Int)+1+5 * i=j:=by omega
  have e4:((j:Int)+5).toNat=j+5:=by omega
  have e5:(j:Int).toNat=j:=by omega
  rw [←hj] at hst
  try simp (disch:=omega) only [go_sem,jF,jH,↓reduceIte,reduceCtorEq,jO,v1,q1,hji,e4,e5]
  refine ⟨by omega,by omega,by omega,by omega,by omega,ab (Rt s j 5 (by omega) (by omega)) (by simp [go_sem]) ?_⟩
  have hgd:=vU .nil (sI (xU (pD k) ((aJ k).take i) (dA s n i)) o (tf s j 5)) hok
  have hci:cI (sI (xU (pD k) ((aJ k).take i) (dA s n i)) o (tf s j 5)) o=tf s j 5:=RH _ hok _
  have hb5:=LW s j 5 (by omega)
  try simp (disch:=omega) only [go_sem,jF,jH,↓reduceIte,v2,hst,hgd,hci]
  refine ⟨by omega,by omega,?_⟩
  refine ah (fun h7=>?_) (fun h7=>?_) <;> try simp (disch:=omega) only [go_sem,jF,jG,jH,↓reduceIte,reduceCtorEq,jO,v0,hbk,hfl,bT,j6,eM]
  ·have hbadv:(dA s n (aJ k).length).all vB=false:=by
    rw [List.all_eq_false]
    refine ⟨tf s j 5,List.mem_map.2 ⟨i,List.mem_range.2 hil,by rw [hj]⟩,?_⟩
    simp [vB]; omega
   refine bad _ 49 (by rw [hdN,hbadv,if_neg (by simp)])
  try simp (disch:=omega) only [go_sem,jA,jB,jC,jD,jE,jF,jG,jH,jI,jJ,↓reduceIte,reduceCtorEq,jO,jM,jN,jK,jL,h70]
  simp only at hi1' hn1
  refine aG m hil (Nat.le_refl _) ⟨(by first | rfl | (simp (disch:=omega) only [go_sem,jA,jB,jC,jD,jE,jF,jG,jH,jI,jJ,↓reduceIte,reduceCtorEq,jP,jO,jM,jN]; try rfl)),rfl,?_,?_,?_,?_⟩
  ·rw [aX (show 0<m by omega),aa _ _ _ _ (by omega)]; exact v0
  ·rw [aX (show i1<m by omega),aa _ _ _ _ (by omega)]; exact v1
  ·rw [aX (show 1<m by omega),az,htk,xx,Cv _ _ _ _ _ (by rw [Bu,List.length_take]; omega),←hj]
  ·rw [xx,List.all_append,hall,←hj]; simp [vB]; omega
 obtain rfl:i=(aJ k).length:=by omega
 rw [List.take_length] at v2
 rw [if_pos hall] at hdN
 try simp (disch:=omega) only [go_sem,jF,jH,↓reduceIte,jO,v0,v2,eM,j6]
 refine ⟨rfl,rfl,?_⟩
 rw [hdN]
 have e9:(p:Int)+4=(p+4:Nat):=by omega
 rw [e9]
 exact aw.tu (.cons (iH (yR _ _ _ rfl fun o ho=>qV ho)) (.cons (aw.e rfl) (.cons (aw.e rfl) .nil)))
theorem uk (s:ByteArray) (r:Rc) (hs:s.size≤4611686018427387904) (hr:r.sg.length≤9223372036854775807):PC prog wB [.str s,dn r] (.tuple [.str (Ch s r).1,.int .i64 (Ch s r).2]):=by
 have hE:=lW r hr
 have hfl:=eR (E:=.list 1 (ints r.sg)) r rfl
 have hpr:(gY (.list 1 (ints r.sg)) r).cL=true:=rfl
 have hsz:=wP r
 refine ae xg (by simp) ?_
 simp only [nQ,dn] at hE ⊢
 try simp (disch:=omega) only [go_sem,jF,jH,↓reduceIte,reduceCtorEq,hfl,bT,eM]
 refine ab hE (by simp [hpr]) ?_
 cases hv:bc r
 ·rw [lf,Ch,hv]
  try simp (disch:=omega) only [go_sem,jA,jF,↓reduceIte,reduceCtorEq]
  exact aw.pure rfl
 ·rw [lf,Ch,hv]
  try simp (disch:=omega) only [go_sem,jF,↓reduceIte,reduceCtorEq]
  refine ⟨by omega,aw.pure rfl⟩
def O3 (s:ByteArray) (k:Int):ByteArray:=s.extract 0 (min (max k 0) s.size).toNat
def TO (s:ByteArray) (k m:Int):ByteArray:=O3 s k++O3 (s.extract (O3 s k).size s.size) m
def eS (s:ByteArray):Nat→Int→List Rc × Int
 | 0,a=>([],a)
 | f+1,a=>if (ec s a).2.2≠0 then ([],a) else ((ec s a).1 :: (eS s f (ec s a).2.1).1,(eS s f (ec s a).2.1).2)
def fK (s:ByteArray):List Rc × Int:=eS s s.size 0
theorem HE (s:ByteArray) (a:Int) (h:(ec s a).2.2=0):0≤a∧a+5≤(ec s a).2.1∧(ec s a).2.1≤s.size:=by
 unfold ec at h ⊢
 split
 ·rename_i h1; rw [if_pos h1] at h; simp at h
 ·rename_i h1
  rw [if_neg h1] at h
  split
  ·rename_i h2; rw [if_pos h2] at h; simp at h
  ·rename_i h2
   rw [if_neg h2] at h
   unfold GN at h ⊢
   simp only at h ⊢
   generalize hk:(sb s).getD a.toNat 0=k at h ⊢
   by_cases c1:aJ k=[]
   ·rw [if_pos c1] at h; simp at h
   rw [if_neg c1] at h ⊢
   by_cases c2:s.size<a.toNat+1+5 * (aJ k).length+4
   ·rw [if_pos c2] at h; simp at h
   rw [if_neg c2] at h ⊢
   by_cases c3:tf s (a.toNat+1+5 * (aJ k).length) 4≠rk (s.extract a.toNat (a.toNat+1+5 * (aJ k).length))
   ·rw [if_pos c3] at h; simp at h
   rw [if_neg c3] at h ⊢
   by_cases c4:(dA s a.toNat (aJ k).length).all vB=true
   ·rw [if_pos c4]; simp only; omega
   ·rw [if_neg c4] at h; simp at h
theorem zG (s:ByteArray):∀ (f:Nat) (a:Int),0≤a→a≤s.size→(eS s f a).1.length≤s.size-a.toNat
 | 0,a,_,_=>by simp [eS]
 | f+1,a,h0,h1=>by
  rw [eS]
  split
  ·simp
  ·rename_i h
   have hd:=HE s a (by simpa using h)
   have:=zG s f (ec s a).2.1 (by omega) hd.2.2
   simp only [List.length_cons]; omega
theorem yb (s:ByteArray) (hs:s.size≤100000000000):PC prog Ad [.str s] (.tuple [.list 21 (F5 (fK s).1),.int .i64 (fK s).2]):=by
 refine ae A6 (by simp) ?_
 simp only [qJ]
 try simp (disch:=omega) only [go_sem]
 have hb:=zG s s.size 0 (by omega) (by omega)
 refine aW [2,3,4,5,6,7,8,9,10,11,12,13,14,15,16,17,18,19,20,21,22,23,24] (by kernel_rfl) (fK s).1.length (fun i e σ=>∃ l f a,l.length=i∧fK s=(l++(eS s f a).1,(eS s f a).2)∧0≤a∧a≤s.size∧(s.size:Int)-a≤f∧e 5=.int .i64 a∧∃ X,At e 4 X∧cu 21 32 σ (F5 l) X) ?_ ?_
 ·exact ⟨[],s.size,0,rfl,rfl,by omega,by omega,by omega,(by first | rfl | (simp (disch:=omega) only [go_sem,jA,jB,jC,jD,jE,jF,jG,jH,jI,jJ,↓reduceIte,reduceCtorEq,jP,jO,jM,jN]; try rfl)),.nil,(by simp only [At]; try simp (disch:=omega) only [go_sem,jF,↓reduceIte]),cu.nil⟩
 rintro i fe ob m c hi hm ⟨l,f,a,rfl,hO,h0,h1,hf,h5,X,h4,hX⟩
 simp (maxSteps:=1000000) only [go_sem,jF,↓reduceIte,At] at h5 h4
 try simp (disch:=omega) only [go_sem,jF,↓reduceIte,reduceCtorEq,h5]
 refine ab (uj s a (by omega)) (by simp [go_sem]) ?_
 rw [O1]
 have hbk:=tW
 have hrep:∀ q p,gH 0 (dn q) (gY .nil p)=dn q:=fun _ _=>rfl
 have htk:∀ q,AV.agg ((dn q).cells.take 21)=dn q:=fun _=>rfl
 have htc:∀ q,(dn q).cells.take 21=(dn q).cells:=fun _=>rfl
 have htl:∀ q,(dn q).cells.length=21:=fun _=>rfl
 have htf:∀ q,(dn q).flat=true:=fun _=>rfl
 have hac:∀ q,AV.agg (dn q).cells=dn q:=fun _=>rfl
 have hfr:∀ v j,j<m→bd ob m v j=ob j:=fun v j h=>aa _ _ _ _ (by omega)
 have hto:∀ q,(dn q).cells.all AV.one=true:=fun _=>rfl
 have htp:∀ q,(dn q).cells.all AV.eo=true:=fun _=>rfl
 try simp (disch:=omega) only [go_sem,jF,jH,↓reduceIte,hbk,hrep,htf,htl]
 refine aZ (fun h7=>?_) (fun h7=>?_) <;> try simp (disch:=omega) only [go_sem,jF,jH,↓reduceIte,h4,htc,htl,hto,htp,hac,n8]
 ·have he:eS s f a=([],a):=by
   cases f with
   | zero=>rfl
   | succ f=>rw [eS,if_pos h7]
  rw [hO,he,List.append_nil]
  exact aw.tu (.cons (hX.mU (fun j hj _=>hfr _ j hj) (Ly _) (fun x hx=>OF _ x hx)) (.cons (aw.e rfl) .nil))
 have h7':(ec s a).2.2=0:=by simpa using h7
 have hd:=HE s a h7'
 obtain ⟨f,rfl⟩:∃ f',f=f'+1:=⟨f-1,by omega⟩
 rw [eS,if_neg (by simp [h7'])] at hO
 have hbd:=zG s f (ec s a).2.1 (by omega) hd.2.2
 have hll:l.length+((eS s f (ec s a).2.1).1.length+1)=(fK s).1.length:=by rw [hO]; simp
 have hle:(fK s).1.length≤s.size:=by have:fK s=eS s s.size 0:=rfl; rw [this]; simp at hb; omega
 refine bH (b:=184) (hX.move (Nat.le_succ _) fun j hj _=>hfr _ j hj) (by rw [fm]; omega) (by rw [fm]; omega) fun Y τ hY kY=>?_
 obtain ⟨ob5,m5,c5⟩:=τ
 try simp (disch:=omega) only [go_sem,jF,↓reduceIte]
 refine aG m5 (by omega) (Nat.zero_le _) ⟨l++[(ec s a).1],f,(ec s a).2.1,by simp,?_,by omega,hd.2.2,by omega,(by first | rfl | (simp (disch:=omega) only [go_sem,jA,jB,jC,jD,jE,jF,jG,jH,jI,jJ,↓reduceIte,reduceCtorEq,jP,jO,jM,jN]; try rfl)),Y,(by simp only [At]; try simp (disch:=omega) only [go_sem,jF,↓reduceIte]),?_⟩
 ·rw [hO,List.append_assoc]; rfl
 ·rw [show F5 (l++[(ec s a).1])=F5 l++[dn (ec s a).1] by simp [F5]]
  exact hY.tr
abbrev Tk:TypeId:=3
def TY (σ:St) (r:Rc) (x:AV) (τ:St):Prop:=σ.n≤τ.n∧(∀ i,i<σ.n→τ.ob i=σ.ob i)∧((aJ r.k=[]∧x=.tuple [.nil,.bool false])∨(aJ r.k≠[]∧∃ id g,x=.tuple [.sl id g 1 0 (aJ r.k).length,.bool true]∧σ.n≤id∧id<τ.n∧τ.ob id=some ⟨g,1,Tk,false,true,ints (bh r)⟩))
theorem nC (σ:St) (E:AV) (r:Rc) (hE:E.one=true):HC prog yh [gY E r] σ (TY σ r):=by
 obtain ⟨dH,n0,c0⟩:=σ
 have hfl:=eR r hE
 refine aL yE (by simp) ?_
 simp only [pf]
 have c1:List.take 7 (List.drop 7 (gY E r).cells)=[.int .i64 r.y9,.int .i64 r.site,.int .i64 r.fr,.int .i64 r.to,.int .i64 r.rel,E,.bool r.wd]:=rfl
 have c2:List.take 4 (List.drop 17 (gY E r).cells)=[.int .i64 r.xX,.int .i64 r.na,.int .i64 r.wk,.int .i64 r.vZ]:=rfl
 have c3:List.take 6 (List.drop 1 (gY E r).cells)=[.int .i64 r.num,.int .i64 r.acc,.int .i64 r.vP,.int .i64 r.tm,.int .i64 r.lo,.int .i64 r.hi]:=rfl
 try simp (disch:=omega) only [go_sem,jF,jG,jH,↓reduceIte,reduceCtorEq,jM,hfl,bT,oq,c1,c2,c3,List.all_cons,List.all_nil,hE]
 have rd7:=vU E r (o:=7) (by unfold CA; omega)
 have rd14:=vU E r (o:=14) (by unfold CA; omega)
 have rd15:=vU E r (o:=15) (by unfold CA; omega)
 have rd16:=vU E r (o:=16) (by unfold CA; omega)
 refine ah (fun h1=>?_) (fun h1=>?_) <;> try simp (disch:=omega) only [go_sem,jF,jG,jH,↓reduceIte]
 ·have e:aJ r.k=[1,2,3,4,5,6]:=by rw [h1]; rfl
  refine ⟨by simp only; omega,fun i hi=>by simp only at hi; simp (disch:=omega) only [aa],.inr ⟨by rw [e]; simp,n0+1+1+1+1,_,by rw [e]; rfl,by simp only; omega,by simp only; omega,(az _ _ _).trans (by rw [bh,e]; rfl)⟩⟩
 refine ah (fun h2=>?_) (fun h2=>?_) <;> try simp (disch:=omega) only [go_sem,jF,jG,jH,↓reduceIte,jM]
 ·have e:aJ r.k=[8,9,10,11]:=by rw [h2]; rfl
  refine ⟨by simp only; omega,fun i hi=>by simp only at hi; simp (disch:=omega) only [aa],.inr ⟨by rw [e]; simp,n0+1+1+1+1,_,by rw [e]; rfl,by simp only; omega,by simp only; omega,(az _ _ _).trans (by rw [bh,e]; rfl)⟩⟩
 refine ah (fun h3=>?_) (fun h3=>?_)
 ·try simp (disch:=omega) only [go_sem,jF,jG,jH,↓reduceIte,jM,rd14,rd15,rd16,decide_eq_true h3]
  have e:aJ r.k=[7,14,15,16]:=by rw [h3]; rfl
  refine ⟨by simp only; omega,fun i hi=>by simp only at hi; simp (disch:=omega) only [aa],.inr ⟨by rw [e]; simp,n0+1+1+1+1,_,by rw [e]; rfl,by simp only; omega,by simp only; omega,(az _ _ _).trans (by rw [bh,e]; rfl)⟩⟩
 try simp (disch:=omega) only [go_sem,jF,↓reduceIte]
 refine ah (fun h4=>?_) (fun h4=>?_) <;> try simp (disch:=omega) only [go_sem,jF,jG,jH,↓reduceIte,jM,rd14,rd15,rd16]
 ·have e:aJ r.k=[7,14,15,16]:=by rw [h4]; rfl
  refine ⟨by simp only; omega,fun i hi=>by simp only at hi; simp (disch:=omega) only [aa],.inr ⟨by rw [e]; simp,n0+1+1+1+1,_,by rw [e]; rfl,by simp only; omega,by simp only; omega,(az _ _ _).trans (by rw [bh,e]; rfl)⟩⟩
 refine ah (fun h5=>?_) (fun h5=>?_) <;> try simp (disch:=omega) only [go_sem,jF,jG,jH,↓reduceIte,jM]
 ·have e:aJ r.k=[18,19,20]:=by rw [h5]; rfl
  refine ⟨by simp only; omega,fun i hi=>by simp only at hi; simp (disch:=omega) only [aa],.inr ⟨by rw [e]; simp,n0+1+1+1+1,_,by rw [e]; rfl,by simp only; omega,by simp only; omega,(az _ _ _).trans (by rw [bh,e]; rfl)⟩⟩
 refine ah (fun h6=>?_) (fun h6=>?_) <;> try simp (disch:=omega) only [go_sem,jF,jH,↓reduceIte,jM]
 ·have e:aJ r.k=[17]:=by rw [h6]; rfl
  refine ⟨by simp only; omega,fun i hi=>by simp only at hi; simp (disch:=omega) only [aa],.inr ⟨by rw [e]; simp,n0+1+1+1+1,_,by rw [e]; rfl,by simp only; omega,by simp only; omega,(az _ _ _).trans (by rw [bh,e]; rfl)⟩⟩
 have e:aJ r.k=[]:=by simp [aJ,h1,h2,h3,h4,h5,h6]
 refine ⟨by simp only; omega,fun i hi=>by simp only at hi; simp (disch:=omega) only [aa],.inl ⟨e,rfl⟩⟩
theorem Bn (a b:Rc) (ha:a.sg.length≤9223372036854775807):PC prog Dz [dn a,dn b] (.bool (decide (a=b))):=by
 refine ae Ed (by simp) ?_
 simp only [u6,dn,gY,eL]
 try simp (disch:=omega) only [go_sem,jF,jG,jH,↓reduceIte,reduceCtorEq]
 refine iY rfl (fun h0=>?_) (fun h0=>?_) <;> try simp (disch:=omega) only [go_sem,jF,jG,jH,↓reduceIte]
 ·exact aw.of_eq (by rw [eE Rc.y9 h0]) rfl
 refine iY rfl (fun h1=>?_) (fun h1=>?_) <;> try simp (disch:=omega) only [go_sem,jF,jG,jH,↓reduceIte]
 ·exact aw.of_eq (by rw [eE Rc.site h1]) rfl
 refine iY rfl (fun h2=>?_) (fun h2=>?_) <;> try simp (disch:=omega) only [go_sem,jF,jG,jH,↓reduceIte]
 ·exact aw.of_eq (by rw [eE Rc.fr h2]) rfl
 refine iY rfl (fun h3=>?_) (fun h3=>?_) <;> try simp (disch:=omega) only [go_sem,jF,jG,jH,↓reduceIte]
 ·exact aw.of_eq (by rw [eE Rc.to h3]) rfl
 refine iY rfl (fun h4=>?_) (fun h4=>?_) <;> try simp (disch:=omega) only [go_sem,jF,jG,jH,↓reduceIte]
 ·exact aw.of_eq (by rw [eE Rc.rel h4]) rfl
 refine iY rfl (fun h5=>?_) (fun h5=>?_) <;> try simp (disch:=omega) only [go_sem,jF,jG,jH,↓reduceIte]
 ·exact aw.of_eq (by rw [eE Rc.wd h5]) rfl
 try simp (disch:=omega) only [go_sem,au]
 refine aZ (fun h6=>?_) (fun h6=>?_) <;> try simp (disch:=omega) only [go_sem,jF,jG,jH,↓reduceIte,au]
 ·exact aw.of_eq (by rw [eE (fun r=>r.sg.length) (fun e=>h6 (by rw [e]))]) rfl
 have hl:a.sg.length=b.sg.length:=by omega
 refine aW [4,7,64,65,66,67,68,69,70,71,72,73,74,75,76,77,78] (by kernel_rfl) a.sg.length (fun k e σ=>e 64=.int .i64 k∧4≤σ.n∧(∀ j,j<k→a.sg[j]?=b.sg[j]?)∧σ.ob 0=some ⟨0,21,32,false,true,[dn a]⟩∧σ.ob 1=some ⟨1,21,32,false,true,[dn b]⟩∧
  σ.ob 3=some ⟨3,7,28,false,true,[.agg [.int .i64 a.y9,.int .i64 a.site,.int .i64 a.fr,.int .i64 a.to,.int .i64 a.rel,.list 1 (ints a.sg),.bool a.wd]]⟩∧
  σ.ob 2=some ⟨2,7,28,false,true,[.agg [.int .i64 b.y9,.int .i64 b.site,.int .i64 b.fr,.int .i64 b.to,.int .i64 b.rel,.list 1 (ints b.sg),.bool b.wd]]⟩) ?_ ?_
 ·exact ⟨(by first | rfl | (simp (disch:=omega) only [go_sem,jA,jB,jC,jD,jE,jF,jG,jH,jI,jJ,↓reduceIte,reduceCtorEq,jP,jO,jM,jN]; try rfl)),Nat.le_refl _,fun j hj=>by omega,(by first | rfl | (simp (disch:=omega) only [go_sem,jA,jB,jC,jD,jE,jF,jG,jH,jI,jJ,↓reduceIte,reduceCtorEq,jP,jO,jM,jN]; try rfl)),(by first | rfl | (simp (disch:=omega) only [go_sem,jA,jB,jC,jD,jE,jF,jG,jH,jI,jJ,↓reduceIte,reduceCtorEq,jP,jO,jM,jN]; try rfl)),(by first | rfl | (simp (disch:=omega) only [go_sem,jA,jB,jC,jD,jE,jF,jG,jH,jI,jJ,↓reduceIte,reduceCtorEq,jP,jO,jM,jN]; try rfl)),(by first | rfl | (simp (disch:=omega) only [go_sem,jA,jB,jC,jD,jE,jF,jG,jH,jI,jJ,↓reduceIte,reduceCtorEq,jP,jO,jM,jN]; try rfl))⟩
 rintro k fe ob m c hk hm ⟨hki,hm4,hj,u0,u1,u3,u2⟩
 simp (maxSteps:=1000000) only [go_sem,jF,↓reduceIte,dn,gY,eL] at hki hm hm4 u0 u1 u2 u3
 try simp (disch:=omega) only [go_sem,jF,↓reduceIte,hki]
 refine ah (fun hlt=>?_) (fun hge=>?_)
 ·have hka:k<a.sg.length:=by omega
  have hga:a.sg[k]?=some a.sg[k]:=List.getElem?_eq_getElem hka
  have hgb:b.sg[k]?=some b.sg[k]:=List.getElem?_eq_getElem (by omega)
  try simp (disch:=omega) only [go_sem,jF,jG,jH,↓reduceIte,u2,u3,au,bD,hga,hgb,Option.map_some]
  refine ⟨by omega,by omega,by omega,by omega,?_⟩
  refine aZ (fun hne=>?_) (fun heq=>?_) <;> try simp (disch:=omega) only [go_sem,jF,↓reduceIte,jO]
  ·exact aw.of_eq (by rw [eE (fun r=>r.sg[k]?) (fun e=>hne (by simpa [hga,hgb] using e))]) rfl
  ·refine aG m hka (by omega) ⟨(by first | rfl | (simp (disch:=omega) only [go_sem,jA,jB,jC,jD,jE,jF,jG,jH,jI,jJ,↓reduceIte,reduceCtorEq,jP,jO,jM,jN]; try rfl)),by simp only [St.aD]; omega,fun j hj'=>?_,?_,?_,?_,?_⟩
   ·by_cases e:j=k
    ·subst e; rw [hga,hgb]; exact congrArg some heq
    ·exact hj j (by omega)
   ·simp only [St.aD,dn,gY,eL]; rw [if_pos (by omega)]; exact u0
   ·simp only [St.aD,dn,gY,eL]; rw [if_pos (by omega)]; exact u1
   ·simp only [St.aD]; rw [if_pos (by omega)]; exact u3
   ·simp only [St.aD]; rw [if_pos (by omega)]; exact u2
 obtain rfl:k=a.sg.length:=by omega
 have hsg:a.sg=b.sg:=bU hl fun j hj'=>hj j (by omega)
 clear hge hj hki u2 u3
 try simp (disch:=omega) only [go_sem,jF,jH,↓reduceIte,u0,u1]
 refine bB rfl (fun h10=>?_) (fun h10=>?_) <;> try simp (disch:=omega) only [go_sem,jF,jG,jH,↓reduceIte,u0,u1]
 rotate_left
 ·exact aw.of_eq (by rw [eE Rc.k h10]) rfl
 refine LX rfl (fun h11=>?_) (fun h11=>?_) <;> try simp (disch:=omega) only [go_sem,jF,jG,jH,↓reduceIte,u0,u1]
 rotate_left
 ·exact aw.of_eq (by rw [Gm h11 fun e=>by subst e; simp]) rfl
 refine bB rfl (fun h12=>?_) (fun h12=>?_) <;> try simp (disch:=omega) only [go_sem,jF,jG,jH,↓reduceIte,u0,u1]
 rotate_left
 ·exact aw.of_eq (by rw [eE Rc.zF h12]) rfl
 refine bB rfl (fun h13=>?_) (fun h13=>?_) <;> try simp (disch:=omega) only [go_sem,jF,jG,jH,↓reduceIte,u0,u1]
 rotate_left
 ·exact aw.of_eq (by rw [eE Rc.code h13]) rfl
 refine bB rfl (fun h14=>?_) (fun h14=>?_) <;> try simp (disch:=omega) only [go_sem,jF,jG,jH,↓reduceIte,u0,u1]
 rotate_left
 ·exact aw.of_eq (by rw [eE Rc.time h14]) rfl
 refine aw.of_eq ?_ rfl
 congr 1
 rw [Bool.eq_iff_iff,decide_eq_true_eq]
 simp only [Bool.and_eq_true,decide_eq_true_eq] at h11 ⊢
 clear u0 u1
 obtain ⟨⟩:=a
 obtain ⟨⟩:=b
 simp only at *
 simp_all
theorem J2 {P:Program} {σ:St} {f:Nat} {args args':List AV} {r:AV} {K:AV→St→Prop} (d:Nat) (o:aU) (ho:σ.ob d=some o) (h:PC P f args' r) (hp:Cl ⟨fun i=>if decide (i≠d) then none else σ.ob i,σ.n,σ.c⟩ args args') (ha:∀ a∈args',a.cL=true)
  (hK:∀ ob',(∀ j,j≠d→ob' j=σ.ob j)→ob' d=some { o with ro:=true }→K r ⟨ob',σ.n,σ.c⟩):HC P f args σ K:=
 HJ (fun i=>decide (i≠d)) h hp ha (hK _ (fun j hj=>by simp [hj]) (by simp [ho]))
theorem TH {α:Type} {l:List α} (h:l.length=1):∃ a,l=[a]:=by match l,h with | [a],_=>exact ⟨a,rfl⟩
theorem TG {α:Type} {l:List α} (h:l.length=3):∃ a b c,l=[a,b,c]:=by match l,h with | [a,b,c],_=>exact ⟨a,b,c,rfl⟩
theorem ON {α:Type} {l:List α} (h:l.length=4):∃ a b c d,l=[a,b,c,d]:=by match l,h with | [a,b,c,d],_=>exact ⟨a,b,c,d,rfl⟩
theorem TF {α:Type} {l:List α} (h:l.length=6):∃ a b c d e f,l=[a,b,c,d,e,f]:=by match l,h with | [a,b,c,d,e,f],_=>exact ⟨a,b,c,d,e,f,rfl⟩
theorem Bm (k:Int) (l:List Int) (hl:l.length=(aJ k).length):PC prog Dy [.int .i64 k,.list 1 (ints l)] (dn (qg k l)):=by
 refine ae Ec (by simp) ?_
 simp only [u5]
 try simp (disch:=omega) only [go_sem,jF,jG,jH,↓reduceIte,reduceCtorEq]
 have hsg:(qg k l).sg=[]:=yR _ _ _ rfl fun o ho=>qV ho
 refine ah (fun h1=>?_) (fun h1=>?_)
 ·obtain rfl:=h1
  obtain ⟨a,b,c,d,e,f,rfl⟩:=TF (l:=l) (by rw [hl]; rfl)
  try simp (disch:=omega) only [go_sem,jB,jC,jD,jF,jG,jH,↓reduceIte,reduceCtorEq,ints,List.map_cons,List.map_nil]
  exact iH hsg
 try simp (disch:=omega) only [go_sem,jF,↓reduceIte]
 refine ah (fun h2=>?_) (fun h2=>?_)
 ·obtain rfl:=h2
  obtain ⟨a,b,c,d,rfl⟩:=ON (l:=l) (by rw [hl]; rfl)
  try simp (disch:=omega) only [go_sem,jA,jB,jC,jD,jF,jG,jH,↓reduceIte,reduceCtorEq,ints,List.map_cons,List.map_nil]
  exact iH hsg
 try simp (disch:=omega) only [go_sem,jF,↓reduceIte]
 refine ah (fun h3=>?_) (fun h3=>?_)
 ·try simp (disch:=omega) only [go_sem,jC,jD,jF,jG,jH,↓reduceIte,reduceCtorEq,decide_eq_true h3]
  obtain rfl:=h3
  obtain ⟨a,b,c,d,rfl⟩:=ON (l:=l) (by rw [hl]; rfl)
  try simp (disch:=omega) only [go_sem,jB,jF,jG,ints,List.map_cons,List.map_nil]
  exact iH hsg
 try simp (disch:=omega) only [go_sem,jF,↓reduceIte]
 refine ah (fun h4=>?_) (fun h4=>?_)
 ·obtain rfl:=h4
  obtain ⟨a,b,c,d,rfl⟩:=ON (l:=l) (by rw [hl]; rfl)
  try simp (disch:=omega) only [go_sem,jA,jB,jC,jD,jF,jG,jH,↓reduceIte,reduceCtorEq,ints,List.map_cons,List.map_nil]
  exact iH hsg
 try simp (disch:=omega) only [go_sem,jF,↓reduceIte]
 refine ah (fun h5=>?_) (fun h5=>?_)
 ·obtain rfl:=h5
  obtain ⟨a,b,c,rfl⟩:=TG (l:=l) (by rw [hl]; rfl)
  try simp (disch:=omega) only [go_sem,jA,jB,jC,jD,jF,jG,jH,↓reduceIte,reduceCtorEq,ints,List.map_cons,List.map_nil]
  exact iH hsg
 try simp (disch:=omega) only [go_sem,jF,↓reduceIte]
 refine ah (fun h6=>?_) (fun h6=>?_)
 ·obtain rfl:=h6
  obtain ⟨a,rfl⟩:=TH (l:=l) (by rw [hl]; rfl)
  try simp (disch:=omega) only [go_sem,jA,jB,jC,jF,jG,jH,↓reduceIte,reduceCtorEq,ints,List.map_cons,List.map_nil]
  exact iH hsg
 try simp (disch:=omega) only [go_sem,jF,jG,jH,↓reduceIte,reduceCtorEq]
 have e:aJ k=[]:=by simp [aJ,h1,h2,h3,h4,h5,h6]
 rw [e] at hl
 obtain rfl:l=[]:=List.length_eq_zero_iff.1 hl
 have em:qg k []=pD k:=by rw [qg,e]; rfl
 rw [em]
 exact iH (r:=pD k) rfl
theorem pU (r:Rc) (hr:r.sg.length≤9223372036854775807):PC prog Bx [dn r] (.bool (bc r)):=by
 have hfl:=eR (E:=.list 1 (ints r.sg)) r rfl
 refine ae BT (by simp) ?_
 simp only [sr,dn]
 try simp (disch:=omega) only [go_sem,jF,jH,↓reduceIte,hfl,bT,eM]
 refine (nC _ _ r rfl).mono ?_
 rintro x ⟨ob1,n1,c1⟩ ⟨hn,ho,⟨he,rfl⟩ | ⟨hne,id,g,rfl,hi1,hi2,hob⟩⟩
 ·try simp (disch:=omega) only [go_sem,jF,↓reduceIte]
  have:bc r=false:=by simp [bc,he]
  rw [this]; exact aw.pure rfl
 simp only at hn ho hi1 hi2 hob
 have u0:=ho 0 (by omega)
 try simp (disch:=omega) only [go_sem,↓reduceIte] at u0
 try simp (disch:=omega) only [go_sem,jF,↓reduceIte]
 have h6:=kL r.k
 have hnl:(bh r).length=(aJ r.k).length:=by rw [bh,List.length_map]
 refine bw [2,6,16,17,18,19,20,21,22,23,24,25,26] (by kernel_rfl) (aJ r.k).length (fun i e σ=>e 16=.int .i64 i∧((bh r).take i).all vB=true∧σ.ob 0=some ⟨0,21,32,false,true,[gY (.list 1 (ints r.sg)) r]⟩∧σ.ob id=some ⟨g,1,Tk,false,true,ints (bh r)⟩) ?_ ?_
 ·exact ⟨(by first | rfl | (simp (disch:=omega) only [go_sem,jA,jB,jC,jD,jE,jF,jG,jH,jI,jJ,↓reduceIte,reduceCtorEq,jP,jO,jM,jN]; try rfl)),rfl,u0,hob⟩
 clear u0 hob ho
 rintro i fe ob c hi ⟨h16,hall,u0,hob⟩
 simp (maxSteps:=1000000) only [go_sem,jF,↓reduceIte] at h16 u0 hob
 try simp (disch:=omega) only [go_sem,jF,↓reduceIte,h16]
 refine ah (fun hlt=>?_) (fun hge=>?_)
 ·have hil:i<(bh r).length:=by omega
  have hgi:=bD (bh r) i
  have htk:=dX _ _ hil
  have hmem:(bh r)[i]∈bh r:=List.getElem_mem hil
  rw [List.getElem?_eq_getElem hil] at hgi
  generalize (bh r)[i]=v at *
  try simp (disch:=omega) only [go_sem,jF,jH,↓reduceIte,hob,hgi,Option.map_some]
  have hbad:vB v=false→∀ σ:St,aw σ (.bool false) (.bool (bc r)):=fun hv σ=>by
   have h8:(bh r).all vB=false:=by
    rw [List.all_eq_false]; exact ⟨v,hmem,by simp [hv]⟩
   have:bc r=false:=by simp only [bc,h8,Bool.and_false,Bool.false_and]
   rw [this]; exact aw.pure rfl
  refine ⟨by omega,by omega,?_⟩
  refine bF rfl (fun hb=>?_) (fun hb=>?_) <;> try simp (disch:=omega) only [go_sem,jF,↓reduceIte]
  ·exact hbad (by simp [vB]; omega) _
  refine ah (fun hb2=>?_) (fun hb2=>?_) <;> try simp (disch:=omega) only [go_sem,jF,↓reduceIte,jO]
  ·exact hbad (by simp [vB]; omega) _
  try simp (disch:=omega) only [go_sem,jA,jB,jC,jD,jE,jF,jG,jH,jI,jJ,↓reduceIte,reduceCtorEq,jO,jM,jN,jK,jL,h16]
  refine bl (by omega) ⟨(by first | rfl | (simp (disch:=omega) only [go_sem,jA,jB,jC,jD,jE,jF,jG,jH,jI,jJ,↓reduceIte,reduceCtorEq,jP,jO,jM,jN]; try rfl)),?_,(aX (show 0<n1 by omega)).trans u0,(aX hi2).trans hob⟩
  rw [htk,List.all_append,hall]; simp [vB]; omega
 obtain rfl:i=(aJ r.k).length:=by omega
 rw [List.take_of_length_le (by omega)] at hall
 try simp (disch:=omega) only [go_sem,jF,jH,↓reduceIte,u0,oq,eM]
 refine J2 id _ hob (Bm r.k (bh r) hnl) (.cons (.pure rfl) (.cons (aw.dv (by simp only; rw [if_neg (by simp)]; exact hob) (by rw [au,hnl]) (dC _) (iN _)) .nil)) (by simp [go_sem]) fun ob4 hne4 hxi4=>?_
 try simp (disch:=omega) only [go_sem,jF,↓reduceIte,reduceCtorEq]
 refine ⟨hne4 0 (by omega),?_⟩
 have hS:=Bn (qg r.k (bh r)) r (by rw [qg,yR _ _ (pD r.k) rfl fun o ho=>qV ho]; simp)
 refine ab hS (by simp [en]; exact en r) ?_
 try simp (disch:=omega) only [go_sem,↓reduceIte]
 have:bc r=decide (qg r.k (bh r)=r):=by
  rw [Ah]; simp only [bc,hall,Bool.and_true]; rw [decide_eq_true hne]; rfl
 rw [this]; exact aw.pure rfl
theorem I7 (L:List Int) (n:Int) (k:Nat) (hs:L.length≤1000000) (hk:k≤5):PC prog xy [.str (bs L),.int .i64 n,.int .i64 k] (.str (bs (L++cN n k))):=by
 rw [CT]; exact Dq (bs L) n k (by simp [bs,ByteArray.size]; omega) hk
theorem xY (r:Rc) (hr:r.sg.length≤9223372036854775807):PC prog zR [dn r] (.tuple [.str (lf r).1,.int .i64 (lf r).2]):=by
 have hfl:=eR (E:=.list 1 (ints r.sg)) r rfl
 have hV:=pU r hr
 have hpr:(gY (.list 1 (ints r.sg)) r).cL=true:=rfl
 refine ae AR (by simp) ?_
 simp only [qy,dn] at hV ⊢
 try simp (disch:=omega) only [go_sem,jF,jH,↓reduceIte,hfl,bT,eM]
 refine ab hV (by simp [hpr]) ?_
 cases hva:bc r
 ·try simp (disch:=omega) only [go_sem,jF,↓reduceIte]
  rw [lf,if_neg (by simp [hva])]; exact aw.pure rfl
 try simp (disch:=omega) only [go_sem,jF,jH,↓reduceIte,eM]
 refine (nC _ _ r rfl).mono ?_
 have hne:aJ r.k≠[]:=fun h=>by simp [bc,h] at hva
 rintro x ⟨ob1,n1,c1⟩ ⟨hn,ho,⟨he,rfl⟩ | ⟨_,id,g,rfl,hi1,hi2,hob⟩⟩
 ·exact absurd he hne
 simp only at hn ho hi1 hi2 hob
 have u0:=ho 0 (by omega)
 try simp (disch:=omega) only [go_sem,↓reduceIte] at u0
 try simp (disch:=omega) only [go_sem,jF,jH,↓reduceIte,u0,oq]
 have hp0:=I7 [] r.k 1 (by simp) (by omega)
 refine ab hp0 (by simp [go_sem]) ?_
 try simp (disch:=omega) only [go_sem,jF,↓reduceIte]
 have h6:=kL r.k
 have hnl:(bh r).length=(aJ r.k).length:=by rw [bh,List.length_map]
 refine bw [6,8,22,23,24,25,26,27,28,29] (by kernel_rfl) (aJ r.k).length (fun i e σ=>e 22=.int .i64 i∧e 6=.str (bs (tk r i))∧σ.ob id=some ⟨g,1,Tk,false,true,ints (bh r)⟩) ?_ ?_
 ·refine ⟨(by first | rfl | (simp (disch:=omega) only [go_sem,jA,jB,jC,jD,jE,jF,jG,jH,jI,jJ,↓reduceIte,reduceCtorEq,jP,jO,jM,jN]; try rfl)),?_,hob⟩
  try simp (disch:=omega) only [go_sem,jF,↓reduceIte]; rfl
 clear u0 hob ho
 rintro i fe ob c hi ⟨h22,h6',hob⟩
 simp (maxSteps:=1000000) only [go_sem,jF,↓reduceIte] at h22 h6' hob
 have hil':=Ft r i
 try simp (disch:=omega) only [go_sem,jF,↓reduceIte,h22]
 refine ah (fun hlt=>?_) (fun hge=>?_)
 ·have hil:i<(bh r).length:=by omega
  have hgi:=bD (bh r) i
  rw [List.getElem?_eq_getElem hil] at hgi
  try simp (disch:=omega) only [go_sem,jF,jH,↓reduceIte,h6',hob,hgi,Option.map_some]
  refine ⟨by omega,by omega,ab (I7 (tk r i) (bh r)[i] 5 (by omega) (by omega)) (by simp [go_sem]) ?_⟩
  try simp (disch:=omega) only [go_sem,jF,↓reduceIte,jO]
  refine bl (by omega) ⟨(by first | rfl | (simp (disch:=omega) only [go_sem,jA,jB,jC,jD,jE,jF,jG,jH,jI,jJ,↓reduceIte,reduceCtorEq,jP,jO,jM,jN]; try rfl)),?_,(aX hi2).trans hob⟩
  try simp (disch:=omega) only [go_sem,jF,↓reduceIte]; rw [wQ r i hil]
 obtain rfl:i=(aJ r.k).length:=by omega
 rw [←hnl,Fu] at h6' hil'
 have hsz:(bs (cT r)).size=(cT r).length:=by simp [bs,ByteArray.size]
 try simp (disch:=omega) only [go_sem,jF,↓reduceIte,h6']
 refine ab (Dp (bs (cT r)) (by omega)) (by simp [go_sem]) ?_
 try simp (disch:=omega) only [go_sem,jF,↓reduceIte]
 refine ab (I7 (cT r) (rk (bs (cT r))) 4 (by omega) (by omega)) (by simp [go_sem]) ?_
 try simp (disch:=omega) only [go_sem,jF,↓reduceIte]
 rw [lf,if_pos hva]
 exact aw.pure rfl
theorem xZ (s:ByteArray) (r:Rc) (hs:s.size≤4611686018427387904) (hr:r.sg.length≤9223372036854775807):PC prog zS [.str s,dn r] (.tuple [.str (Ch s r).1,.int .i64 (Ch s r).2]):=by
 have hE:=xY r hr
 have hfl:=eR (E:=.list 1 (ints r.sg)) r rfl
 have hpr:(gY (.list 1 (ints r.sg)) r).cL=true:=rfl
 have hsz:=wP r
 refine ae AS (by simp) ?_
 simp only [qz,dn] at hE ⊢
 try simp (disch:=omega) only [go_sem,jF,jH,↓reduceIte,reduceCtorEq,hfl,bT,eM]
 refine ab hE (by simp [hpr]) ?_
 cases hv:bc r
 ·rw [lf,Ch,hv]
  try simp (disch:=omega) only [go_sem,jA,jF,↓reduceIte,reduceCtorEq]
  exact aw.pure rfl
 ·rw [lf,Ch,hv]
  try simp (disch:=omega) only [go_sem,jF,↓reduceIte,reduceCtorEq]
  refine ⟨by omega,aw.pure rfl⟩
end Go.Proofs.Try
