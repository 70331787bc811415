/- OWN WORK, put together by tools/asm.py, seat.py, mini.py. -/
import Derived.Test.YtcpckngdfjmbgaaGreatCode3
set_option linter.unusedSimpArgs false
set_option linter.unusedVariables false
set_option maxRecDepth 100000
set_option maxHeartbeats 1000000
namespace Go.Proofs.Try
open Go.Ab Go Go.Proofs.Tryz
open Int renaming reduceEq → jA, reduceLT → jB, reduceLE → jC, reduceToNat → jD
open Go.Ab renaming iD → jM, iE → jN, lF → jO, iF → jP
open Nat renaming reduceLT → jE, reduceEqDiff → jF, reduceAdd → jG, reduceLeDiff → jH, reduceSub → jI, reduceMul → jJ, sub_zero → jK, sub_self → jL
theorem HK (n k:Int) (hk:0<k):(n.tmod k+k).tmod k=n % k:=by
 have h2:=Int.tmod_eq_emod (a:=n) (b:=k)
 have h3:=Int.emod_nonneg n (show k≠0 by omega)
 have h4:=Int.emod_lt_of_pos n hk
 have h5:0≤n.tmod k+k:=by rw [h2]; split <;> omega
 rw [Int.tmod_eq_emod_of_nonneg h5,Int.add_emod_right,h2]
 split
 ·simp
 ·rw [show ((k.natAbs:Nat):Int)=k by omega,Int.sub_emod_right]; exact Int.emod_emod_of_dvd n (Int.dvd_refl k)
theorem Kx (n k:Int) (hk:0<k):-k<n.tmod k∧n.tmod k<k:=by
 have h2:=Int.tmod_eq_emod (a:=n) (b:=k)
 have h3:=Int.emod_nonneg n (show k≠0 by omega)
 have h4:=Int.emod_lt_of_pos n hk
 by_cases h:0≤n∨k∣n
 ·rw [if_pos h] at h2; omega
 ·rw [if_neg h] at h2
  have:n % k≠0:=fun h0=>h (.inr (Int.dvd_of_emod_eq_zero h0))
  omega
def ints (l:List Int):List AV:=l.map (.int .i64)
theorem aw (l:List Int):(ints l).length=l.length:=by simp [ints]
theorem bH (l:List Int) (i:Nat):(ints l)[i]?=(l[i]?).map (AV.int .i64):=by simp [ints]
theorem eJ (l:List Int):∀ x∈ints l,x.cG=true:=by simp [ints,go_sem]
theorem jW (l:List Int):∀ x∈ints l,mi 1 x:=by simp [ints,mi,go_sem]
structure Bd where
 lo:Int
 hi:Int
 deriving DecidableEq,Inhabited
def pe (b:Bd):AV:=.agg [.int .i64 b.lo,.int .i64 b.hi]
def cr (l:List Bd):List AV:=l.map pe
theorem aI (l:List Bd):(cr l).length=l.length:=by simp [cr]
theorem eo (l:List Bd) (i:Nat):(cr l)[i]?=(l[i]?).map pe:=by simp [cr]
theorem l8 (l:List Bd):∀ x∈cr l,x.cG=true:=by simp [cr,pe,go_sem]
theorem qp (l:List Bd):∀ x∈cr l,mi 2 x:=by simp [cr,pe,mi,go_sem]
def Sj {α:Type} (f:α→α) (b:α):Nat→α
 | 0=>b
 | k+1=>f (Sj f b k)
theorem G3 (n k:Int) (hk:0<k) (hk2:k≤4611686018427387904):PC prog Io [.int .i64 n,.int .i64 k] (.int .i64 (n % k)):=by
 have h1:=Kx n k hk
 refine ae Jk (by simp) ?_
 simp (disch:=omega) only [EG,go_sem,jF,↓reduceIte,reduceCtorEq,jO]
 exact ⟨by omega,by omega,aA.of_eq (by rw [HK n k hk]) rfl⟩
def bw (l:List Int) (at':Nat):AV:=.agg [.list 1 (ints l),.int .i64 at']
def bc (l:List Int) (at':Nat) (n:Int):Int × Nat:=if n<1∨l.length≤at' then (0,at') else (l.getD at' 0 % n,at'+1)
theorem aH (l:List Int) (at':Nat) (n:Int):0≤(bc l at' n).1∧((bc l at' n).1=0∨(bc l at' n).1<n):=by
 unfold bc
 split
 ·simp
 ·have h1:=Int.emod_nonneg (l.getD at' 0) (show n≠0 by omega)
  have h2:=Int.emod_lt_of_pos (l.getD at' 0) (show 0<n by omega)
  exact ⟨h1,.inr h2⟩
theorem HI {α:Type} (f:Nat→α) (i:Nat) (x:α) (h:f i=x):aZ f i x=f:=by
 funext j; by_cases e:j=i
 ·subst e; rw [ay,h]
 ·rw [aa _ _ _ _ e]
abbrev au:TypeId:=75
theorem G2 (σ:St) (l:List Int):HC prog Im [.list 1 (ints l)] σ (fun r σ'=>r=.ptr σ.n σ.c 2 0 0∧σ'=σ.push 2 au [bw l 0]):=by
 refine aM Jj (by simp) ?_
 simp only [EF,go_sem,jG,jH,↓reduceIte,reduceCtorEq]
 simp [bw]
theorem ah (σ:St) (id g:Nat) (ty:TypeId) (ap:Bool) (l:List Int) (at':Nat) (n:Int) (hob:σ.ob id=some ⟨g,2,ty,false,ap,[bw l at']⟩) (hn:n≤4611686018427387904) (hl:l.length≤9223372036854775807) :
  HC prog yR [.ptr id g 2 0 0,.int .i64 n] σ (fun r σ'=>r=.int .i64 (bc l at' n).1∧σ'=⟨aZ σ.ob id (some ⟨g,2,ty,false,ap,[bw l (bc l at' n).2]⟩),σ.n,σ.c⟩):=by
 obtain ⟨ob,nn,cc⟩:=σ
 simp only at hob
 refine aM z8 (by simp) ?_
 simp only [qg,go_sem,jF,jG,↓reduceIte,reduceCtorEq,bw]
 have no:(n<1∨l.length≤at')→AV.int IntKind.i64 0=AV.int IntKind.i64 (bc l at' n).fst∧St.mk ob nn cc=St.mk (aZ ob id (some ⟨g,2,ty,false,ap,[.agg [.list 1 (ints l),.int .i64 (bc l at' n).2]]⟩)) nn cc:=by
  intro h
  rw [show bc l at' n=(0,at') by unfold bc; rw [if_pos h]]
  exact ⟨rfl,by have h1:=HI ob id _ hob; simp only [bw] at h1 ⊢; rw [h1]⟩
 refine bC rfl (fun h=>?_) (fun h=>?_) <;> simp (maxSteps:=1000000) only [go_sem,jF,jG,jH,↓reduceIte,reduceCtorEq,hob,bw,aw]
 ·exact no (.inl h)
 refine aj (fun h2=>?_) (fun h2=>?_) <;> simp (maxSteps:=1000000) only [go_sem,jF,jG,jH,↓reduceIte,reduceCtorEq,hob,bw,aw,bH]
 ·exact no (.inr (by omega))
 have hat:at' < l.length:=by omega
 have hg:l[at']?=some l[at']:=List.getElem?_eq_getElem hat
 have hd:bc l at' n=(l[at'] % n,at'+1):=by unfold bc; rw [if_neg (by omega)]; simp [List.getD_eq_getElem?_getD,hg]
 simp (maxSteps:=1000000) (disch:=omega) only [go_sem,hg,jO]
 refine ⟨by omega,by omega,ab (G3 _ n (by omega) (by omega)) (by simp [go_sem]) ?_⟩
 simp (maxSteps:=1000000) only [go_sem,↓reduceIte,hd]
 simp
def Cc (σ:St) (id g:Nat) (t:List Int) (W:AV→Prop) (r:AV) (σ':St):Prop:=∃ r2 at2,aA ⟨fun i=>if i<σ.n then none else σ'.ob i,σ'.n,σ'.c⟩ r r2∧W r2∧σ'.ob id=some ⟨g,2,au,false,true,[bw t at2]⟩∧∀ i,i<σ.n→i≠id→σ'.ob i=σ.ob i
def dL (σ:St) (id g:Nat) (t:List Int) (W:AV→Prop) (r:AV) (σ':St):Prop:=∃ at2 c,W r∧σ'=⟨aZ (fun i=>if i<σ.n then σ.ob i else none) id (some ⟨g,2,au,false,true,[bw t at2]⟩),σ.n,c⟩
theorem HC.vY {f:Nat} {args:List AV} {σ:St} {id g:Nat} {t:List Int} {W:AV→Prop} (hid:id<σ.n) (h:HC prog f args σ (Cc σ id g t W)):HC prog f args σ (dL σ id g t W):=by
 refine HC.aC σ.n (HC.Sf (fun i=>decide (i<σ.n)) h ?_)
 rintro r σ' ⟨r2,at2,h1,h2,h3,h4⟩
 refine ⟨r2,by simpa using h1,at2,σ'.c,h2,?_⟩
 simp only [St.aC]
 congr 1
 funext i
 simp only [aZ]
 by_cases e:i=id
 ·subst e; simp [hid,h3]
 ·rw [if_neg e]
  by_cases hi:i<σ.n
  ·simp [hi,h4 i hi e]
  ·simp [hi]
theorem dL.use {σ σ':St} {id g:Nat} {t:List Int} {W:AV→Prop} {r:AV} (h:dL σ id g t W r σ') (hid:id<σ.n) :
  W r∧σ'.n=σ.n∧(∃ at2,σ'.ob id=some ⟨g,2,au,false,true,[bw t at2]⟩)∧∀ i,i<σ.n→i≠id→σ'.ob i=σ.ob i:=by
 obtain ⟨at2,c,h1,rfl⟩:=h
 exact ⟨h1,rfl,⟨at2,by simp [aZ]⟩,fun i hi h2=>by simp [aZ,h2,hi]⟩
theorem nJ {α:Type} (f:Nat→α) (i:Nat) (x y:α):aZ (aZ f i x) i y=aZ f i y:=by funext j; by_cases e:j=i <;> simp [aZ,e]
def QS (σ:St) (es:Nat) (ty:TypeId) (l:List AV) (r:AV) (σ':St):Prop:=∃ g c,r=.sl (σ.n+1) g es 0 l.length∧σ'=⟨aZ (aZ σ.ob σ.n none) (σ.n+1) (some ⟨g,es,ty,false,true,l⟩),σ.n+2,c⟩
def Oo (σ:St) (es:Nat) (ty:TypeId) (l:List AV) (r:AV) (σ':St):Prop:=∃ g c o,r=.sl (σ.n+1) g es 0 l.length∧σ'=⟨aZ (aZ σ.ob σ.n (some o)) (σ.n+1) (some ⟨g,es,ty,false,true,l⟩),σ.n+2,c⟩
theorem HC.new {f:Nat} {args:List AV} {σ:St} {es:Nat} {ty:TypeId} {l:List AV} (h:HC prog f args σ (Oo σ es ty l)):HC prog f args σ (QS σ es ty l):=by
 refine h.sub ?_
 rintro r σ' ⟨g,c,o,rfl,rfl⟩
 refine ⟨_,?_,g,c,rfl,rfl⟩
 intro i o' h
 simp only [aZ] at h ⊢
 split at h
 ·rename_i hi; rw [if_pos hi]; exact h
 ·rename_i hi
  rw [if_neg hi]
  split at h
  ·cases h
  ·rename_i h2; rw [if_neg h2]; exact h
theorem QC {L:List AV} {x z:AV} {i k m:Nat} (hi:i<L.length) (hk:k=L.length+1-i) (hm:m=1):(L.take i++List.replicate (L.length+1-i) z).take i++[x].take k++(L.take i++List.replicate (L.length+1-i) z).drop (i+m)=L.take i++x :: List.replicate (L.length-i) z:=by
 subst hk; subst hm
 have h1:(L.take i).length=i:=by simp; omega
 rw [List.take_left' h1,List.take_of_length_le (l:=[x]) (by simp; omega),List.drop_append,List.drop_of_length_le (l:=L.take i) (by omega),h1,Nat.add_sub_cancel_left,List.drop_replicate,show L.length+1-i-1=L.length-i by omega]
 simp
theorem QB {L:List AV} {x z:AV} {i k l m:Nat} (hi:i<L.length) (hk:k=L.length-i) (hl:l=L.length-i) (hm:m=L.length-i):(L.take i++x :: List.replicate (L.length-i) z).take (i+1)++((L.drop i).take k).take l++(L.take i++x :: List.replicate (L.length-i) z).drop (i+1+m)=L.take i++x :: L.drop i:=by
 subst hk; subst hl; subst hm
 have h1:(L.take i++[x]).length=i+1:=by simp; omega
 rw [show L.take i++x :: List.replicate (L.length-i) z=(L.take i++[x])++List.replicate (L.length-i) z by simp,List.take_left' h1,List.take_of_length_le (l:=L.drop i) (by simp),List.take_of_length_le (l:=L.drop i) (by simp),List.drop_of_length_le (l:=(L.take i++[x])++List.replicate (L.length-i) z) (by rw [List.length_append,h1,List.length_replicate]; omega)]
 simp
theorem QA {L:List AV} {i k m:Nat} (hi:i<L.length) (hk:k=L.length-i) (hm:m=L.length-i):L.take (i+1)++(L.drop i).take k++L.drop (i+1+m)=L.take (i+1)++L.drop i:=by
 subst hk; subst hm
 rw [List.take_of_length_le (l:=L.drop i) (by simp),List.drop_of_length_le (l:=L) (i:=i+1+(L.length-i)) (by omega),List.append_nil]
theorem Qz {L:List AV} {x:AV} {i k m:Nat} (hi:i<L.length) (hk:1≤k) (hm:m=1):(L.take (i+1)++L.drop i).take i++[x].take k++(L.take (i+1)++L.drop i).drop (i+m)=L.take i++x :: L.drop i:=by
 subst hm
 have h1:(L.take (i+1)).length=i+1:=by simp; omega
 rw [List.take_append_of_le_length (by omega),List.take_take,List.take_of_length_le (l:=[x]) (by simpa using hk),List.drop_left' h1,show min i (i+1)=i by omega]
 simp
def SU (σ:St) (id es:Nat) (ty:TypeId) (L:List AV) (r:AV) (τ:St):Prop:=
 ∃ id' g',r=.sl id' g' es 0 L.length∧(id'=id∨σ.n≤id')∧id' < τ.n∧σ.n≤τ.n∧τ.ob id'=some ⟨g',es,ty,false,true,L⟩∧∀ k,k<σ.n→k≠id→τ.ob k=σ.ob k
def F1 (σ:St) (es:Nat) (ty:TypeId) (L:List AV) (r:AV) (τ:St):Prop:=∃ id g,r=.sl id g es 0 L.length∧σ.n≤id∧id<τ.n∧τ.ob id=some ⟨g,es,ty,false,true,L⟩∧∀ i,i<σ.n→τ.ob i=σ.ob i
def aU (X:AV) (i:Nat):Prop:=∀ g es o n,X≠.sl i g es o n
def cd (es:Nat) (ty:TypeId) (σ:St) (L:List AV) (X:AV):Prop:=(X=.nil∧L=[])∨∃ id g,X=.sl id g es 0 L.length∧id<σ.n∧σ.ob id=some ⟨g,es,ty,false,true,L⟩
theorem aU.em {X:AV} {i:Nat} (h:¬ ¬aU X i):aU X i:=Classical.byContradiction h
theorem aU.nil (i:Nat):aU .nil i:=fun _ _ _ _ h=>by cases h
theorem aU.ne {id g es o n i:Nat} (h:aU (.sl id g es o n) i):¬id=i:=fun e=>h _ _ _ _ (by rw [e])
theorem aU.sl {id g es o n i:Nat} (h:¬id=i):aU (.sl id g es o n) i:=fun _ _ _ _ hh=>by cases hh; exact h rfl
def Kp (σ:St) (X:AV) (τ:St) (X':AV):Prop:=σ.n≤τ.n∧(∀ i,i<σ.n→aU X i→τ.ob i=σ.ob i)∧∀ i,i<σ.n→aU X i→aU X' i
theorem Kp.trans {σ τ ρ:St} {X Y Z:AV} (h:Kp σ X τ Y) (k:Kp τ Y ρ Z):Kp σ X ρ Z:=
 ⟨Nat.le_trans h.1 k.1,fun i hi hx=>(k.2.1 i (Nat.lt_of_lt_of_le hi h.1) (h.2.2 i hi hx)).trans (h.2.1 i hi hx),fun i hi hx=>k.2.2 i (Nat.lt_of_lt_of_le hi h.1) (h.2.2 i hi hx)⟩
section
variable {es : Nat} {ty : TypeId} {σ τ : St} {L : List AV} {X : AV}
theorem cd.nil:cd es ty σ [] .nil:=.inl ⟨rfl,rfl⟩
theorem cd.one (h:cd es ty σ L X):X.one=true:=by rcases h with ⟨rfl,_⟩ | ⟨id,g,rfl,_⟩ <;> rfl
theorem cd.flat (h:cd es ty σ L X):X.flat=true:=by rcases h with ⟨rfl,_⟩ | ⟨id,g,rfl,_⟩ <;> rfl
theorem cd.cells (h:cd es ty σ L X):X.cells=[X]:=by rcases h with ⟨rfl,_⟩ | ⟨id,g,rfl,_⟩ <;> rfl
theorem cd.move (h:cd es ty σ L X) (hn:σ.n≤τ.n) (ho:∀ i,i<σ.n→¬aU X i→τ.ob i=σ.ob i):cd es ty τ L X:=by
 rcases h with h | ⟨id,g,rfl,h2,h3⟩
 ·exact .inl h
 ·exact .inr ⟨id,g,rfl,Nat.lt_of_lt_of_le h2 hn,by rw [ho id h2 (fun h=>h _ _ _ _ rfl)]; exact h3⟩
theorem cd.G0 (h:cd es ty σ L X) {i:Nat} (hi:σ.n≤i):aU X i:=by
 rcases h with ⟨rfl,_⟩ | ⟨id,g,rfl,h2,_⟩
 ·exact aU.nil i
 ·exact aU.sl (by omega)
theorem cd.mL (h:cd es ty σ L X) (ho:∀ i,i<σ.n→¬aU X i→τ.ob i=σ.ob i) (hp:∀ x∈L,x.cG=true) (hk:∀ x∈L,mi es x):aA τ X (.list es L):=by
 rcases h with ⟨rfl,rfl⟩ | ⟨id,g,rfl,h2,h3⟩
 ·exact .nl es
 ·exact aA.cW (by rw [ho id h2 (fun h=>h _ _ _ _ rfl)]; exact h3) rfl hp hk
theorem bz {b:Nat} {a:AV} {K:AV→St→Prop} (h:cd es ty σ L X) (hm:L.length+1≤9223372036854775807) (hb:(L.length+1) * b≤140737488355328)
  (k:∀ X' τ,cd es ty τ (L++[a]) X'→Kp σ X τ X'→K X' τ):mE es b ty X (.list es [a]) σ K:=by
 rcases h with ⟨rfl,rfl⟩ | ⟨id,g,rfl,h2,h3⟩
 ·rw [jP]
  simp only [List.length_nil,Nat.zero_add] at hb
  refine ⟨by simp [maxLen],by simpa using hb,fun h=>by simp at h,fun _=>k _ _ (.inr ⟨σ.n,σ.c,rfl,Nat.lt_succ_self _,by simp [St.push,aZ]⟩) ⟨Nat.le_succ _,fun i hi _=>?_,fun i hi _=>aU.sl (by omega)⟩⟩
  simp only [St.push]; rw [aa _ _ _ _ (by omega)]
 ·rw [DN]
  refine ⟨_,h3,rfl,rfl,rfl,rfl,rfl,rfl,by rw [o7]; simpa using hm,by simpa using hb,k _ _ (.inr ⟨id,σ.c,by simp,h2,by simp [St.renew,aZ]⟩) ⟨Nat.le_refl _,fun i hi hx=>?_,fun i hi hx=>aU.sl hx.ne⟩⟩
  simp only [St.renew]
  rw [aa _ _ _ _ (fun e=>hx.ne e.symm)]
theorem df {b:Nat} {M:List AV} {K:AV→St→Prop} (h:cd es ty σ L X) (hm:L.length+M.length≤9223372036854775807) (hb:(L.length+M.length) * b≤140737488355328)
  (k:∀ X' τ,cd es ty τ (L++M) X'→Kp σ X τ X'→K X' τ):mE es b ty X (.list es M) σ K:=by
 rcases h with ⟨rfl,rfl⟩ | ⟨id,g,rfl,h2,h3⟩
 ·rw [jP]
  simp only [List.length_nil,Nat.zero_add] at hm hb
  refine ⟨by rw [o7]; omega,hb,fun h=>k _ _ (.inl ⟨rfl,by rw [h]; rfl⟩) ⟨Nat.le_refl _,fun _ _ _=>rfl,fun _ _ h=>h⟩,fun _=>k _ _ (.inr ⟨σ.n,σ.c,rfl,Nat.lt_succ_self _,by simp [St.push,aZ]⟩) ⟨Nat.le_succ _,fun i hi _=>?_,fun i hi _=>aU.sl (by omega)⟩⟩
  simp only [St.push]; rw [aa _ _ _ _ (by omega)]
 ·rw [DN]
  refine ⟨_,h3,rfl,rfl,rfl,rfl,rfl,rfl,by rw [o7]; exact hm,hb,k _ _ (.inr ⟨id,σ.c,by simp,h2,by simp [St.renew,aZ]⟩) ⟨Nat.le_refl _,fun i hi hx=>?_,fun i hi hx=>aU.sl hx.ne⟩⟩
  simp only [St.renew]
  rw [aa _ _ _ _ (fun e=>hx.ne e.symm)]
end
theorem F1.TF {σ:St} {es:Nat} {ty:TypeId} {L:List AV} {r:AV} {τ:St} (h:F1 σ es ty L r τ):cd es ty τ L r∧σ.n≤τ.n∧(∀ i,i<σ.n→τ.ob i=σ.ob i)∧∀ i,i<σ.n→aU r i:=by
 obtain ⟨id,g,rfl,h1,h2,h3,h4⟩:=h
 exact ⟨.inr ⟨id,g,rfl,h2,h3⟩,by omega,h4,fun i hi=>aU.sl (by omega)⟩
inductive F0 (σ:St):List AV→List AV→Prop
 | nil:F0 σ [] []
 | cons {a b:AV} {l r:List AV} (h:aA σ a b) (k:F0 σ l r):F0 σ (a :: l) (b :: r)
theorem F0.get {σ:St} {l r:List AV} (h:F0 σ l r):l.length=r.length∧∀ (i:Nat) (x y:AV),l[i]?=some x→r[i]?=some y→aA σ x y:=by
 induction h with
 | nil=>exact ⟨rfl,fun i x y h=>by simp at h⟩
 | cons h k ih=>
  refine ⟨by simp [ih.1],fun i x y hx hy=>?_⟩
  cases i with
  | zero=>simp at hx hy; subst hx; subst hy; exact h
  | succ i=>exact ih.2 i x y (by simpa using hx) (by simpa using hy)
theorem aA.ag {σ:St} {l r:List AV} (h:F0 σ l r):aA σ (.agg l) (.agg r):=.agg h.get.1 h.get.2
theorem aA.tu {σ:St} {l r:List AV} (h:F0 σ l r):aA σ (.tuple l) (.tuple r):=.tuple h.get.1 h.get.2
theorem aA.e {σ:St} {a:AV} (h:a.cG=true):aA σ a a:=.pure h
def GO (a b:AV):Prop:=∀ (S:Nat→Prop) (w:World) (v:Value),VP S w a v→VP S w b v
theorem GO.rfl {a:AV}:GO a a:=fun _ _ _ h=>h
theorem GO.nil (es:Nat):GO .nil (.list es []):=fun S w v h=>by cases h; exact .bE _ _ _
inductive oq:List AV→List AV→Prop
 | nil:oq [] []
 | cons {a b:AV} {l r:List AV} (h:GO a b) (k:oq l r):oq (a :: l) (b :: r)
theorem oq.get {l r:List AV} (h:oq l r):l.length=r.length∧∀ (j:Nat) (y:AV),r[j]?=some y→∃ x,l[j]?=some x∧GO x y:=by
 induction h with
 | nil=>exact ⟨Eq.refl _,fun j y h=>by simp at h⟩
 | cons h k ih=>
  refine ⟨by simp [ih.1],fun j y hy=>?_⟩
  cases j with
  | zero=>simp at hy; subst hy; exact ⟨_,Eq.refl _,h⟩
  | succ j=>exact ih.2 j y (by simpa using hy)
theorem oq.refl:∀ (l:List AV),oq l l
 | []=>.nil
 | _ :: l=>.cons .rfl (oq.refl l)
theorem GO.agg {l r:List AV} (h:oq l r):GO (.agg l) (.agg r):=fun S w v hv=>by
 cases hv with
 | agg hl hh=>
  refine .agg (by rw [hl,h.get.1]) fun j y u hy hu=>?_
  obtain ⟨x,hx,hxy⟩:=h.get.2 j y hy
  exact hxy S w u (hh j x u hx hu)
theorem ou {P:Program} {f:Nat} {args args':List AV} {r:AV} (h:PC P f args' r) (k:oq args args'):PC P f args r:=
 ⟨h.1,fun S w vs hlt hv=>h.2 S w vs hlt ⟨by rw [hv.1,k.get.1],fun j y u hy hu=>by obtain ⟨x,hx,hxy⟩:=k.get.2 j y hy; exact hxy S w u (hv.2 j x u hx hu)⟩⟩
def ER (es:Nat) (σ:St) (L:List AV) (E:AV):Prop:=
 (E=.nil∧L=[])∨E=.list es L∨∃ id g off o,E=.sl id g es off L.length∧id<σ.n∧σ.ob id=some o∧o.g=g∧o.es=es∧off+L.length≤o.l.length∧(o.l.drop off).take L.length=L
theorem mY {af:List Nat} {R:List (Nat × Nat)} {ob ob':Nat→Option aS} {n:Nat} (h:∀ x∈R,x.2<n) (k:∀ i,i<n→ob' i=ob i):dS af R ob ob':=fun x hx=>.inr (k _ (h x hx))
theorem xR {p n:Nat} {l:List Nat} (h:∀ i∈l,i<n):∀ x∈cD p l,x.2<n:=fun x hx=>by
 obtain ⟨i,hi,rfl⟩:=List.mem_map.1 hx
 exact h i hi
theorem DB {n:Nat} {R S:List (Nat × Nat)} (h:∀ x∈R,x.2<n) (k:∀ x∈S,x.2<n):∀ x∈R++S,x.2<n:=fun x hx=>(List.mem_append.1 hx).elim (h x) (k x)
section
variable {es : Nat} {σ τ : St} {L : List AV} {E : AV}
theorem ER.NW {ty:TypeId} (h:cd es ty σ L E):ER es σ L E:=by
 rcases h with h | ⟨id,g,rfl,h2,h3⟩
 ·exact .inl h
 ·exact .inr (.inr ⟨id,g,0,_,rfl,h2,h3,rfl,rfl,by simp,by simp⟩)
theorem ER.cW {id g:Nat} {ty:TypeId} {ro ap:Bool} (h:σ.ob id=some ⟨g,es,ty,ro,ap,L⟩) (hn:id<σ.n):ER es σ L (.sl id g es 0 L.length):=.inr (.inr ⟨id,g,0,_,rfl,hn,h,rfl,rfl,by simp,by simp⟩)
theorem ER.list (es:Nat) (σ:St) (L:List AV):ER es σ L (.list es L):=.inr (.inl rfl)
theorem ER.one (h:ER es σ L E):E.one=true:=by rcases h with ⟨rfl,_⟩ | rfl | ⟨_,_,_,_,rfl,_⟩ <;> rfl
theorem ER.flat (h:ER es σ L E):E.flat=true:=by rcases h with ⟨rfl,_⟩ | rfl | ⟨_,_,_,_,rfl,_⟩ <;> rfl
theorem ER.cells (h:ER es σ L E):E.cells=[E]:=by rcases h with ⟨rfl,_⟩ | rfl | ⟨_,_,_,_,rfl,_⟩ <;> rfl
theorem ER.kx (h:ER es σ L E):∀ i∈E.kx,i<σ.n:=by
 rcases h with ⟨rfl,_⟩ | rfl | ⟨id,_,_,_,rfl,h,_⟩ <;> intro i hi
 ·cases hi
 ·cases hi
 ·obtain rfl:i=id:=by simpa [AV.kx] using hi
  exact h
theorem ER.move (h:ER es σ L E) (hn:σ.n≤τ.n) (ho:∀ i,i<σ.n→¬aU E i→∀ o,σ.ob i=some o→∃ b,τ.ob i=some { o with ro:=b }):ER es τ L E:=by
 rcases h with h | h | ⟨id,g,off,o,rfl,h1,h2,h3,h4,h5,h6⟩
 ·exact .inl h
 ·exact .inr (.inl h)
 ·obtain ⟨b,hb⟩:=ho id h1 (fun h=>h _ _ _ _ rfl) o h2
  exact .inr (.inr ⟨id,g,off,_,rfl,Nat.lt_of_lt_of_le h1 hn,hb,h3,h4,h5,h6⟩)
theorem ER.br (h:ER es σ L E) (hn:σ.n≤τ.n) (ho:∀ i,i<σ.n→¬aU E i→τ.ob i=σ.ob i):ER es τ L E:=
 h.move hn fun i hi h2 o h3=>⟨o.ro,by rw [ho i hi h2]; exact h3⟩
theorem ER.mL (h:ER es σ L E) (hp:∀ x∈L,x.cG=true) (hk:∀ x∈L,mi es x) (ho:∀ i,i<σ.n→¬aU E i→∀ o,σ.ob i=some o→∃ b,τ.ob i=some { o with ro:=b }):aA τ E (.list es L):=by
 rcases h with ⟨rfl,rfl⟩ | rfl | ⟨id,g,off,o,rfl,h1,h2,h3,h4,h5,h6⟩
 ·exact .nl es
 ·exact .pure rfl
 ·obtain ⟨b,hb⟩:=ho id h1 (fun h=>h _ _ _ _ rfl) o h2
  refine .sl hb h3 h4 h5 (by simp only []; rw [h6]) (fun i x y hx hy=>?_) hk
  simp only [] at hx
  rw [h6,hy] at hx
  obtain rfl:=Option.some.inj hx
  exact .pure (hp _ (List.mem_of_getElem? hy))
theorem ER.len (h:ER es σ L E) {K:AV→St→Prop} (k:K (.int .i64 L.length) σ):gE E σ K:=by
 rcases h with ⟨rfl,rfl⟩ | rfl | ⟨id,g,off,o,rfl,_⟩
 ·simpa [gE] using k
 ·simpa [gE] using k
 ·simpa [gE] using k
theorem ER.drop {K:AV→St→Prop} {kd:IntKind} {lo:Int} {k:Nat} (h:ER es σ L E) (hlo:lo=k) (hk:k≤L.length) (f:∀ E',ER es σ (L.drop k) E'→(∀ i,aU E i→aU E' i)→K E' σ):iT es E (some (.int kd lo)) none σ K:=by
 subst hlo
 rcases h with ⟨rfl,rfl⟩ | rfl | ⟨id,g,off,o,rfl,h1,h2,h3,h4,h5,h6⟩
 ·obtain rfl:k=0:=by simpa using hk
  exact ⟨by simp,by simp,f _ (.inl ⟨rfl,rfl⟩) fun _ h=>h⟩
 ·refine ⟨rfl,by omega,by simpa using hk,?_⟩
  show K (.list es ((L.take L.length).drop (k:Int).toNat)) σ
  rw [List.take_length,Int.toNat_natCast]
  exact f _ (.inr (.inl rfl)) fun _ _ _ _ _ _ h=>(by cases h)
 ·refine ⟨rfl,⟨_,h2,h3⟩,by omega,by simpa using hk,?_⟩
  show ((k:Int).toNat=L.length→K (.list es []) σ)∧((k:Int).toNat<L.length→K (.sl id g es (off+(k:Int).toNat) (L.length-(k:Int).toNat)) σ)
  rw [Int.toNat_natCast]
  refine ⟨fun h=>f _ (.inr (.inl ?_)) fun _ _ _ _ _ _ h=>(by cases h),fun h=>f _ (.inr (.inr ⟨id,g,off+k,o,by simp,h1,h2,h3,h4,by simp; omega,?_⟩)) fun i hi=>aU.sl (aU.ne hi)⟩
  ·rw [h,List.drop_length]
  ·have:=congrArg (List.drop k) h6
   rw [←this]
   simp [List.drop_take,Nat.min_eq_left (show L.length-k≤o.l.length-(off+k) by omega)]
theorem ER.take {K:AV→St→Prop} {kd:IntKind} {hi:Int} {k:Nat} (h:ER es σ L E) (hhi:hi=k) (hk:k≤L.length) (f:∀ E',ER es σ (L.take k) E'→(∀ i,aU E i→aU E' i)→K E' σ):iT es E none (some (.int kd hi)) σ K:=by
 subst hhi
 rcases h with ⟨rfl,rfl⟩ | rfl | ⟨id,g,off,o,rfl,h1,h2,h3,h4,h5,h6⟩
 ·obtain rfl:k=0:=by simpa using hk
  exact ⟨by simp,by simp,f _ (.inl ⟨rfl,rfl⟩) fun _ h=>h⟩
 ·refine ⟨rfl,by omega,by simpa using hk,?_⟩
  show K (.list es ((L.take (k:Int).toNat).drop 0)) σ
  rw [List.drop_zero,Int.toNat_natCast]
  exact f _ (.inr (.inl rfl)) fun _ _ _ _ _ _ h=>(by cases h)
 ·refine ⟨rfl,⟨_,h2,h3⟩,by omega,by simpa using hk,?_⟩
  show (0=(k:Int).toNat→K (.list es []) σ)∧(0<(k:Int).toNat→K (.sl id g es off (k:Int).toNat) σ)
  rw [Int.toNat_natCast]
  refine ⟨fun h=>f _ (.inr (.inl ?_)) fun _ _ _ _ _ _ h=>(by cases h),fun h=>f _ (.inr (.inr ⟨id,g,off,o,by simp [Nat.min_eq_left hk],h1,h2,h3,h4,by simp; omega,?_⟩)) fun i hi=>aU.sl (aU.ne hi)⟩
  ·rw [←h]; simp
  ·have:=congrArg (List.take k) h6
   rw [←this]
   simp [List.take_take,Nat.min_eq_left (show min k L.length≤o.l.length-off by omega)]
theorem ER.at (h:ER es σ L E) {k:Nat} (hk:k<L.length):E=.list es L∨∃ id g off o,E=.sl id g es off L.length∧id<σ.n∧σ.ob id=some o∧o.g=g∧o.es=es∧off+L.length≤o.l.length∧o.l[off+k]?=L[k]?:=by
 rcases h with ⟨rfl,rfl⟩ | rfl | ⟨id,g,off,o,rfl,h1,h2,h3,h4,h5,h6⟩
 ·simp at hk
 ·exact .inl rfl
 ·refine .inr ⟨id,g,off,o,rfl,h1,h2,h3,h4,h5,?_⟩
  have:=congrArg (fun z=>z[k]?) h6
  simp only [List.getElem?_take,if_pos hk,List.getElem?_drop] at this
  exact this
theorem wF {b:Nat} {ty:TypeId} {X:AV} {K:AV→St→Prop} (h:ER es σ L E) (k:mE es b ty X (.list es L) σ K):mE es b ty X E σ K:=by
 rcases h with ⟨rfl,rfl⟩ | rfl | ⟨id,g,off,o,rfl,h1,h2,h3,h4,h5,h6⟩
 ·obtain ⟨_,_,k⟩:=k
  exact ⟨fun _ _ h=>(by cases h),fun _ _ _ _ _ h=>(by rcases h with h | ⟨_,h⟩ <;> cases h),k⟩
 ·exact k
 ·obtain ⟨_,_,k⟩:=k
  refine ⟨fun _ _ h=>(by cases h),fun _ _ _ _ _ h=>(by rcases h with h | ⟨_,h⟩ <;> cases h; rfl),o,h2,h3,h4,h5,?_⟩
  rw [h6]
  exact k
end
def Ob (t:List Int):Bool:=decide ((t.length:Int)≤500)
theorem G4 (t:List Int):PC prog Iq [.list 1 (ints t)] (.bool (Ob t)):=by
 refine ae Jl (by simp) ?_
 simp only [EH,go_sem,↓reduceIte,reduceCtorEq,aw]
 exact aA.of_eq rfl rfl
theorem ft {α:Type} {a b:List α} (hl:a.length=b.length) (h:∀ j,j<a.length→a[j]?=b[j]?):a=b:=by
 apply List.ext_getElem? ; intro j
 by_cases hj:j<a.length
 ·exact h j hj
 ·rw [List.getElem?_eq_none (by omega),List.getElem?_eq_none (by omega)]
theorem Nt {c:List AV} (h:(Sh.slice 1 (.int .i64)).R c):∃ L:List Int,c=[.list 1 (ints L)]∧L.length≤9223372036854775807∧∀ n∈L,(Lit.int .i64 n).wf=true:=by
 obtain ⟨xs,rfl,hl,h⟩:=h
 obtain ⟨L,rfl,hL⟩:=FH (f:=AV.int .i64) (Q:=fun n=>(Lit.int .i64 n).wf=true) fun x hx=>by
  obtain ⟨cs,hr,_,rfl⟩:=h x hx
  obtain ⟨a,rfl,ha⟩:=hr
  exact ⟨a,ha,rfl⟩
 exact ⟨L,rfl,by simpa using hl,hL⟩
theorem wf_u8 {n:Int} (h:(Lit.int .u8 n).wf=true):0≤n∧n≤255:=by
 simp [Lit.wf,IntKind.min,IntKind.max,IntKind.signed,IntKind.bits] at h; omega
def sb (s:ByteArray):List Int:=s.data.toList.map fun b=>(b.toNat:Int)
theorem bL (s:ByteArray):(sb s).length=s.size:=by simp [sb]
theorem HY (s:ByteArray):∀ x∈sb s,0≤x∧x≤255:=by
 intro x hx
 obtain ⟨b,_,rfl⟩:=List.mem_map.1 hx
 have:=b.toNat_lt
 omega
theorem sj (s:ByteArray) (i:Nat):0≤(sb s).getD i 0∧(sb s).getD i 0≤255:=by
 rw [List.getD_eq_getElem?_getD]
 by_cases h:i<(sb s).length
 ·rw [List.getElem?_eq_getElem h]; exact HY s _ (List.getElem_mem h)
 ·rw [List.getElem?_eq_none (by omega)]; simp
theorem KA (s:ByteArray) (a:Int) (h0:0≤a) (h1:a<s.size):(if 0≤a then (s[a.toNat]?).map fun b=>AV.int .u8 b.toNat else none)=some (.int .u8 ((sb s).getD a.toNat 0)):=by
 rw [if_pos h0]
 have h:a.toNat<s.size:=by omega
 rw [getElem?_pos s a.toNat h]
 simp only [Option.map_some,Option.some.injEq,AV.int.injEq,true_and]
 rw [List.getD_eq_getElem?_getD,List.getElem?_eq_getElem (by rw [bL]; exact h)]
 simp [sb]
 rfl
theorem HR (s:ByteArray) (k:Nat) (h1:k<s.size):(if 0≤(k:Int) then Option.map (fun b=>AV.int .u8 ↑b.toNat) s[k]? else none)=some (.int .u8 ((sb s).getD k 0)):=by
 have:=KA s k (by omega) (by omega)
 simpa using this
theorem Jf (x:Int) (h0:0≤x) (h1:x≤1125899906842624):AU .shl .i64 x .u64 8=some (.int .i64 (x * 256)):=by
 simp only [AU,IntKind.bits]
 rw [if_pos (by omega)]
 have:(2:Int) ^ min (8:Int).toNat 64=256:=by decide
 rw [this,jO (by omega) (by omega)]
theorem Je (x:Int):AU .shr .i64 x .u64 8=some (.int .i64 (x / 256)):=by
 simp only [AU,IntKind.bits]
 rw [if_pos (by omega)]
 have:(2:Int) ^ min (8:Int).toNat 64=256:=by decide
 rw [this,Int.fdiv_eq_ediv_of_nonneg _ (by omega)]
theorem Ln (x b:Int) (h0:0≤x) (h1:x≤1125899906842624) (h2:0≤b) (h3:b≤255):AU .or .i64 (x * 256) .i64 b=some (.int .i64 (x * 256+b)):=by
 show some (AV.int .i64 (IntKind.i64.wrap ((BitVec.ofInt 64 (x * 256) ||| BitVec.ofInt 64 b:BitVec 64).toNat)))=_
 have e1:(BitVec.ofInt 64 (x * 256)).toNat=2 ^ 8 * x.toNat:=by rw [BitVec.toNat_ofInt]; omega
 have e2:(BitVec.ofInt 64 b).toNat=b.toNat:=by rw [BitVec.toNat_ofInt]; omega
 rw [BitVec.toNat_or,e1,e2,←Nat.two_pow_add_eq_or_of_lt (by omega:b.toNat<2 ^ 8)]
 rw [jO (by omega) (by omega)]
 congr 2
 omega
theorem wrap_u8 (n:Int):IntKind.u8.wrap n=n % 256:=by simp [IntKind.wrap,IntKind.bits,IntKind.signed]
def lG:List Int→Int→Int→Int × Int
 | [],a,b=>(a,b)
 | x :: r,a,b=>lG r ((a+x) % 65521) ((b+(a+x) % 65521) % 65521)
def u4 (s:ByteArray):Int:=65536 * (lG (sb s) 1 0).2+(lG (sb s) 1 0).1
theorem BZ (l:List Int) (k:Nat) (h:k<l.length):l.drop k=l.getD k 0 :: l.drop (k+1):=by
 rw [List.drop_eq_getElem_cons h,List.getD_eq_getElem?_getD,List.getElem?_eq_getElem h]; rfl
theorem mN (s:ByteArray) (hs:s.size≤9223372036854775807):PC prog xg [.str s] (.int .i64 (u4 s)):=by
 refine ae xB (by simp) ?_
 simp only [oD,go_sem,↓reduceIte,reduceCtorEq]
 refine bK [3,4,5,8,9,10,11,12,13,14,15,16,17,18,19,20,21,22] (by kernel_rfl) s.size (fun k e _=>∃ a b,e 8=.int .i64 k∧e 3=.int .i64 a∧e 4=.int .i64 b∧0≤a∧a<65521∧0≤b∧b<65521∧lG (sb s) 1 0=lG ((sb s).drop k) a b) ?_ ?_
 ·exact ⟨1,0,(by first | rfl | (simp (disch:=omega) only [go_sem,jA,jB,jC,jD,jE,jF,jG,jH,jI,jJ,↓reduceIte,reduceCtorEq,jP,jO,jM,jN]; try rfl)),(by first | rfl | (simp (disch:=omega) only [go_sem,jA,jB,jC,jD,jE,jF,jG,jH,jI,jJ,↓reduceIte,reduceCtorEq,jP,jO,jM,jN]; try rfl)),(by first | rfl | (simp (disch:=omega) only [go_sem,jA,jB,jC,jD,jE,jF,jG,jH,jI,jJ,↓reduceIte,reduceCtorEq,jP,jO,jM,jN]; try rfl)),by omega,by omega,by omega,by omega,by simp⟩
 ·rintro k fe ob c hk ⟨a,b,h8,h3,h4,a0,a1,b0,b1,hgo⟩
  simp (maxSteps:=1000000) only [go_sem,jF,↓reduceIte] at h8 h3 h4
  simp (maxSteps:=1000000) only [go_sem,jF,↓reduceIte,h8]
  refine aj (fun hlt=>?_) (fun hge=>?_)
  ·have hks:k<s.size:=by omega
   rw [BZ _ _ (by rw [bL]; exact hks),lG] at hgo
   have hx:=sj s k
   simp (maxSteps:=1000000) (disch:=omega) only [go_sem,jF,↓reduceIte,reduceCtorEq,h3,h4]
   refine ⟨_,HR s k hks,?_⟩
   generalize (sb s).getD k 0=x at *
   simp (maxSteps:=1000000) (disch:=omega) only [go_sem,jA,jF,↓reduceIte,jO]
   repeat (refine And.intro (by first | omega | (rw [o7]; omega) | (simp [maxLen]; done) | (simp [maxLen]; omega)) ?_)
   rw [Int.tmod_eq_emod_of_nonneg (by omega:0≤a+x)]
   generalize hp:(a+x) % 65521=p at *
   have hp0:0≤p:=by omega
   simp (maxSteps:=1000000) (disch:=omega) only [go_sem,jO]
   repeat (refine And.intro (by first | omega | (rw [o7]; omega) | (simp [maxLen]; done) | (simp [maxLen]; omega)) ?_)
   rw [Int.tmod_eq_emod_of_nonneg (by omega:0≤b+p)]
   try simp (maxSteps:=1000000) (disch:=omega) only [go_sem,jA,jB,jC,jD,jE,jF,jG,jH,jI,jJ,↓reduceIte,reduceCtorEq,jP,jO,h8]
   refine bt hks ⟨p,(b+p) % 65521,(by first | rfl | (simp (disch:=omega) only [go_sem,jA,jB,jC,jD,jE,jF,jG,jH,jI,jJ,↓reduceIte,reduceCtorEq,jP,jO,jM,jN]; try rfl)),(by first | rfl | (simp (disch:=omega) only [go_sem,jA,jB,jC,jD,jE,jF,jG,jH,jI,jJ,↓reduceIte,reduceCtorEq,jP,jO,jM,jN]; try rfl)),(by first | rfl | (simp (disch:=omega) only [go_sem,jA,jB,jC,jD,jE,jF,jG,jH,jI,jJ,↓reduceIte,reduceCtorEq,jP,jO,jM,jN]; try rfl)),by omega,by omega,by omega,by omega,hgo⟩
  ·rw [List.drop_of_length_le (by rw [bL]; omega),lG] at hgo
   simp (maxSteps:=1000000) (disch:=omega) only [go_sem,jF,↓reduceIte,jO,h3,h4]
   exact aA.of_eq (by rw [u4,hgo]) rfl
def m0:List Int→Int
 | []=>0
 | x :: r=>x+256 * m0 r
theorem C1:∀ (l:List Int),(∀ x∈l,0≤x∧x≤255)→0≤m0 l∧m0 l<256 ^ l.length
 | [],_=>by simp [m0]
 | x :: r,h=>by
  have h1:=h x (by simp)
  obtain ⟨h2,h3⟩:=C1 r fun y hy=>h y (by simp [hy])
  simp only [m0,List.length_cons,Int.pow_succ]
  omega
theorem NT (n:Nat) (h:n≤4):(256:Int) ^ n≤4294967296:=by
 have:n=0∨n=1∨n=2∨n=3∨n=4:=by omega
 rcases this with rfl | rfl | rfl | rfl | rfl <;> decide
def bs (l:List Int):ByteArray:=⟨(l.map fun n=>UInt8.ofNat n.toNat).toArray⟩
def cQ (n:Int):Nat→List Int
 | 0=>[]
 | k+1=>(n % 256) :: cQ (n / 256) k
theorem BA:∀ (k:Nat) (n:Int),cQ n (k+1)=cQ n k++[(n / 256 ^ k) % 256]
 | 0,n=>by simp [cQ]
 | k+1,n=>by
  rw [cQ,BA k (n / 256)]
  simp only [cQ,List.cons_append]
  rw [Int.ediv_ediv_of_nonneg (by omega:(0:Int)≤256),Int.pow_succ,Int.mul_comm]
theorem bx:∀ (k:Nat) (n:Int),(cQ n k).length=k
 | 0,n=>rfl
 | k+1,n=>by simp [cQ,bx k]
theorem xV:∀ (k:Nat) (n:Int),∀ x∈cQ n k,0≤x∧x≤255
 | 0,n,x,h=>by simp [cQ] at h
 | k+1,n,x,h=>by
  simp only [cQ,List.mem_cons] at h
  rcases h with rfl | h
  ·omega
  ·exact xV k _ x h
theorem L9 (l:List Int) (h:∀ x∈l,0≤x∧x≤255):sb (bs l)=l:=by
 simp only [sb,bs,List.map_map]
 rw [List.map_congr_left (g:=id) fun x hx=>?_,List.map_id]
 have:=h x hx
 simp only [Function.comp,id,UInt8.toNat_ofNat']
 omega
theorem mH (a b:ByteArray):sb (a++b)=sb a++sb b:=by
 simp [sb]
def At (e:Nat→AV) (i:Nat) (X:AV):Prop:=e i=X
theorem aX {ob:Nat→Option aS} {n c i:Nat} (h:i<n):((⟨ob,n,c⟩:St).aC n).ob i=ob i:=by simp only [St.aC,if_pos h]
theorem cd.tr {es:Nat} {ty:TypeId} {ob:Nat→Option aS} {n c:Nat} {L:List AV} {X:AV} (h:cd es ty ⟨ob,n,c⟩ L X):cd es ty ((⟨ob,n,c⟩:St).aC n) L X:=
 h.move (by simp only [St.aC]; omega) fun i hi _=>by simp only at hi; simp only [St.aC,if_pos hi]
theorem PC.nl {P:Program} {f:Nat} {args:List AV} {r r':AV} (h:PC P f args r) (k:GO r r'):PC P f args r':=
 ⟨h.1,fun S w vs hS hv=>(h.2 S w vs hS hv).mono fun x w' ⟨v,S',h1,h2,h3,h4,h5⟩=>⟨v,S',h1,h2,h3,h4,k S' w' v h5⟩⟩
theorem eS {α:Type} (l:List α) (k:Nat) (h:k<l.length):l.take (k+1)=l.take k++[l[k]]:=by
 rw [List.take_add_one,List.getElem?_eq_getElem h]; rfl
def EY (l:List Int):List AV:=l.map (.int .u8)
theorem kc (l:List Int):(EY l).length=l.length:=by simp [EY]
theorem HJ (l:List Int) (n:Int):EY l++[.int .u8 n]=EY (l++[n]):=by simp [EY]
theorem wb:∀ (l:List Int),oc (EY l)=some (l.map fun n=>UInt8.ofNat n.toNat)
 | []=>rfl
 | x :: l=>by simp only [EY,List.map_cons,oc]; rw [show List.map (AV.int .u8) l=EY l from rfl,wb l]; rfl
structure Rc where
 k:Int
 num:Int
 acc:Int
 wQ:Int
 tm:Int
 lo:Int
 hi:Int
 Da:Int
 site:Int
 fr:Int
 to:Int
 rel:Int
 sg:List Int
 wd:Bool
 D5:Int
 code:Int
 time:Int
 CB:Int
 rj:Int
 Ay:Int
 As:Int
 deriving DecidableEq
def qu (k:Int):Rc:=⟨k,0,0,0,0,0,0,0,0,0,0,0,[],false,0,0,0,0,0,0,0⟩
def fI (E:AV) (r:Rc):List AV:=[.int .i64 r.k,.int .i64 r.num,.int .i64 r.acc,.int .i64 r.wQ,.int .i64 r.tm,.int .i64 r.lo,.int .i64 r.hi,.int .i64 r.Da,.int .i64 r.site,.int .i64 r.fr,.int .i64 r.to,.int .i64 r.rel,
 E,.bool r.wd,.int .i64 r.D5,.int .i64 r.code,.int .i64 r.time,.int .i64 r.CB,.int .i64 r.rj,.int .i64 r.Ay,.int .i64 r.As]
def lj (E:AV) (r:Rc):AV:=.agg (fI E r)
def fD (r:Rc):AV:=lj (.list 1 (ints r.sg)) r
def E0 (l:List Rc):List AV:=l.map fD
def cI (r:Rc):Nat→Int
 | 1=>r.num | 2=>r.acc | 3=>r.wQ | 4=>r.tm | 5=>r.lo | 6=>r.hi | 7=>r.Da | 8=>r.site | 9=>r.fr | 10=>r.to | 11=>r.rel
 | 14=>r.D5 | 15=>r.code | 16=>r.time | 17=>r.CB | 18=>r.rj | 19=>r.Ay | 20=>r.As | _=>r.k
def sI (r:Rc) (o:Nat) (v:Int):Rc:=match o with
 | 1=>{ r with num:=v } | 2=>{ r with acc:=v } | 3=>{ r with wQ:=v } | 4=>{ r with tm:=v } | 5=>{ r with lo:=v } | 6=>{ r with hi:=v } | 7=>{ r with Da:=v }
 | 8=>{ r with site:=v } | 9=>{ r with fr:=v } | 10=>{ r with to:=v } | 11=>{ r with rel:=v } | 14=>{ r with D5:=v } | 15=>{ r with code:=v } | 16=>{ r with time:=v }
 | 17=>{ r with CB:=v } | 18=>{ r with rj:=v } | 19=>{ r with Ay:=v } | 20=>{ r with As:=v } | _=>{ r with k:=v }
def aP (k:Int):List Nat:=if k=1 then [1,2,3,4,5,6] else if k=2 then [8,9,10,11] else if k=3 then [7,14,15,16] else if k=4 then [7,14,15,16] else if k=5 then [18,19,20] else if k=6 then [17] else []
def E1 (o:Nat):Prop:=(1≤o∧o≤11)∨(14≤o∧o≤20)
theorem qw {o:Nat} (h:E1 o):o=1∨o=2∨o=3∨o=4∨o=5∨o=6∨o=7∨o=8∨o=9∨o=10∨o=11∨o=14∨o=15∨o=16∨o=17∨o=18∨o=19∨o=20:=by
 unfold E1 at h; omega
theorem ky (k:Int):aP k=[]∨(k=1∧aP k=[1,2,3,4,5,6])∨(k=2∧aP k=[8,9,10,11])∨((k=3∨k=4)∧aP k=[7,14,15,16])∨(k=5∧aP k=[18,19,20])∨(k=6∧aP k=[17]):=by
 unfold aP
 split
 ·rename_i h; exact .inr (.inl ⟨h,rfl⟩)
 split
 ·rename_i h; exact .inr (.inr (.inl ⟨h,rfl⟩))
 split
 ·rename_i h; exact .inr (.inr (.inr (.inl ⟨.inl h,rfl⟩)))
 split
 ·rename_i h; exact .inr (.inr (.inr (.inl ⟨.inr h,rfl⟩)))
 split
 ·rename_i h; exact .inr (.inr (.inr (.inr (.inl ⟨h,rfl⟩))))
 split
 ·rename_i h; exact .inr (.inr (.inr (.inr (.inr ⟨h,rfl⟩))))
 ·exact .inl rfl
theorem xX {k:Int} {o:Nat} (h:o∈aP k):E1 o:=by
 unfold E1
 rcases ky k with e | ⟨_,e⟩ | ⟨_,e⟩ | ⟨_,e⟩ | ⟨_,e⟩ | ⟨_,e⟩ <;> rw [e] at h <;> simp at h <;> omega
theorem pH (k:Int):(aP k).length≤6:=by
 rcases ky k with e | ⟨_,e⟩ | ⟨_,e⟩ | ⟨_,e⟩ | ⟨_,e⟩ | ⟨_,e⟩ <;> rw [e] <;> simp
theorem vy {k:Int} (h:aP k≠[]):1≤k∧k≤6:=by
 rcases ky k with e | ⟨_,e⟩ | ⟨_,e⟩ | ⟨_,e⟩ | ⟨_,e⟩ | ⟨_,e⟩ <;> first | exact absurd e h | omega
theorem KP (E:AV) (r:Rc) {o:Nat} (h:E1 o):(fI E r)[o]?=some (.int .i64 (cI r o)):=by
 rcases qw h with rfl | rfl | rfl | rfl | rfl | rfl | rfl | rfl | rfl | rfl | rfl | rfl | rfl | rfl | rfl | rfl | rfl | rfl <;> rfl
theorem Gh (E:AV) (r:Rc) {o:Nat} (h:E1 o) (v:Int):iG o (.int .i64 v) (lj E r)=lj E (sI r o v):=by
 rcases qw h with rfl | rfl | rfl | rfl | rfl | rfl | rfl | rfl | rfl | rfl | rfl | rfl | rfl | rfl | rfl | rfl | rfl | rfl <;> rfl
theorem Ib (E:AV) (r:Rc) {o:Nat} (h:E1 o):(lj E r).cells.getD o .bA=.int .i64 (cI r o):=by
 simp only [lj,AV.cells,List.getD_eq_getElem?_getD,KP E r h,Option.getD_some]
theorem xT (E:AV) (r:Rc):(lj E r).cells.getD 0 .bA=.int .i64 r.k:=rfl
theorem Sm (E:AV) (r:Rc):AV.agg (((lj E r).cells.drop 0).take 21)=lj E r:=rfl
theorem kl (E:AV) (r:Rc):AV.agg ((lj E r).cells.take 21)=lj E r:=rfl
theorem cU (E:AV) (r:Rc):(lj E r).cells.length=21:=rfl
theorem mK {E:AV} (r:Rc) (h:E.one=true):(lj E r).flat=true:=by simp [lj,fI,AV.flat,AV.one]; exact h
theorem jQ (E F:AV) (r q:Rc):iG 0 (lj E r) (lj F q)=lj E r:=rfl
theorem tn (k:Int):AV.agg [AV.int IntKind.i64 k,AV.int IntKind.i64 0,AV.int IntKind.i64 0,AV.int IntKind.i64 0,AV.int IntKind.i64 0,AV.int IntKind.i64 0,AV.int IntKind.i64 0,AV.int IntKind.i64 0,AV.int IntKind.i64 0,AV.int IntKind.i64 0,AV.int IntKind.i64 0,AV.int IntKind.i64 0,AV.nil,AV.bool false,AV.int IntKind.i64 0,AV.int IntKind.i64 0,AV.int IntKind.i64 0,AV.int IntKind.i64 0,AV.int IntKind.i64 0,AV.int IntKind.i64 0,AV.int IntKind.i64 0]=lj .nil (qu k):=rfl
def vB (n:Int):Bool:=decide (0≤n)&&decide (n≤274877906944)
def bQ (r:Rc):List Int:=(aP r.k).map (cI r)
def fB (r:Rc) (l:List Nat):Rc:=l.foldl (fun b o=>sI b o (cI r o)) (qu r.k)
def w8 (b:Rc):List Nat→List Int→Rc
 | o :: os,v :: vs=>w8 (sI b o v) os vs
 | _,_=>b
def Gr (k:Int) (l:List Int):Rc:=w8 (qu k) (aP k) l
theorem D3 (r:Rc):∀ (l:List Nat) (b:Rc),w8 b l (l.map (cI r))=l.foldl (fun b o=>sI b o (cI r o)) b
 | [],b=>rfl
 | o :: l,b=>D3 r l _
theorem Fz (r:Rc):Gr r.k (bQ r)=fB r (aP r.k):=D3 r _ _
theorem Mf (r:Rc) {o:Nat} (h:E1 o) (v:Int):(sI r o v).sg=r.sg:=by
 rcases qw h with rfl | rfl | rfl | rfl | rfl | rfl | rfl | rfl | rfl | rfl | rfl | rfl | rfl | rfl | rfl | rfl | rfl | rfl <;> rfl
def bl (r:Rc):Bool:=decide (aP r.k≠[])&&(bQ r).all vB&&decide (fB r (aP r.k)=r)
def dg (r:Rc):List Int:=cQ r.k 1++(bQ r).flatMap fun n=>cQ n 5
def qU (r:Rc):ByteArray:=bs (dg r++cQ (u4 (bs (dg r))) 4)
def oa (r:Rc):ByteArray × Int:=if bl r then (qU r,0) else (⟨#[]⟩,49)
def Jx (s:ByteArray) (r:Rc):ByteArray × Int:=if bl r then (s++qU r,0) else (⟨#[]⟩,49)
def sJ (s:ByteArray) (at' k:Nat):Int:=m0 (((sb s).drop at').take k)
def dv (s:ByteArray) (at' n:Nat):List Int:=(List.range n).map fun i=>sJ s (at'+1+5 * i) 5
def FM (s:ByteArray) (a:Nat):Rc × Int × Int:=
 let k:=(sb s).getD a 0
 let n:=(aP k).length
 if aP k=[] then (qu 0,0,49) else if s.size<a+1+5 * n+4 then (qu 0,0,7) else
 if sJ s (a+1+5 * n) 4≠u4 (s.extract a (a+1+5 * n)) then (qu 0,0,8) else
 if (dv s a n).all vB then (Gr k (dv s a n),a+1+5 * n+4,0) else (qu 0,0,49)
def dW (s:ByteArray) (a:Int):Rc × Int × Int:=if a<0∨(s.size:Int)<a then (qu 0,0,1) else if a=s.size then (qu 0,0,7) else FM s a.toNat
def Oe (s:ByteArray) (a:Int):AV:=.tuple [fD (dW s a).1,.int .i64 (dW s a).2.1,.int .i64 (dW s a).2.2]
theorem eY (l:List Rc):(E0 l).length=l.length:=by simp [E0]
theorem KO (l:List Rc) (i:Nat):(E0 l)[i]?=(l[i]?).map fD:=by simp [E0]
theorem nQ (r:Rc):(fD r).cG=true:=rfl
theorem Gi (r:Rc):(lj .nil r).cG=true:=rfl
theorem KN (l:List Rc):∀ x∈E0 l,x.cG=true:=by simp [E0,nQ]
theorem NQ (r:Rc):mi 21 (fD r):=⟨rfl,rfl⟩
theorem NR (l:List Rc):∀ x∈E0 l,mi 21 x:=by simp [E0]; intro a _; exact NQ a
theorem Ic {r:Rc} (h:r.sg=[]):GO (lj .nil r) (fD r):=by
 rw [fD,lj,lj,fI,fI,h]
 exact .agg (.cons .rfl (.cons .rfl (.cons .rfl (.cons .rfl (.cons .rfl (.cons .rfl (.cons .rfl (.cons .rfl (.cons .rfl (.cons .rfl (.cons .rfl (.cons .rfl (.cons (.nil 1) (oq.refl _))))))))))))))
theorem Cq {σ:St} {r:Rc} (h:r.sg=[]):aA σ (lj .nil r) (fD r):=by
 rw [fD,lj,lj,fI,fI,h]
 exact aA.ag (.cons (aA.e rfl) (.cons (aA.e rfl) (.cons (aA.e rfl) (.cons (aA.e rfl) (.cons (aA.e rfl) (.cons (aA.e rfl) (.cons (aA.e rfl) (.cons (aA.e rfl) (.cons (aA.e rfl) (.cons (aA.e rfl) (.cons (aA.e rfl) (.cons (aA.e rfl) (.cons (.nl 1)
  (.cons (aA.e rfl) (.cons (aA.e rfl) (.cons (aA.e rfl) (.cons (aA.e rfl) (.cons (aA.e rfl) (.cons (aA.e rfl) (.cons (aA.e rfl) (.cons (aA.e rfl) .nil)))))))))))))))))))))
def yL (r:Rc):List Int × Bool:=if aP r.k=[] then ([],false) else if (bQ r).all vB then (bQ r,decide (fB r (aP r.k)=r)) else ([],false)
theorem FW (r:Rc) (l:List Nat) (o:Nat):fB r (l++[o])=sI (fB r l) o (cI r o):=by simp [fB,List.foldl_append]
theorem Em (r:Rc):∀ (l:List Nat) (b:Rc),b.sg=[]→(∀ o∈l,E1 o)→(l.foldl (fun b o=>sI b o (cI r o)) b).sg=[]
 | [],b,h,_=>h
 | o :: l,b,h,hl=>Em r l _ (by rw [Mf _ (hl o (by simp))]; exact h) fun x hx=>hl x (by simp [hx])
theorem Ji (r:Rc) (l:List Nat) (h:∀ o∈l,E1 o):(fB r l).sg=[]:=Em r l _ rfl h
abbrev RE:TypeId:=183
def SW (σ:St) (id g:Nat) (r:AV) (τ:St):Prop:=∃ M gm L,r=.ja M gm∧σ.n≤τ.n∧(∀ i,i<σ.n→τ.ob i=σ.ob i)∧τ.ob M=some ⟨gm,2,rA,false,false,L⟩∧cK .i64 L=true∧
 ∀ k:Int,(mq k L=none∧aP k=[])∨∃ i gi,mq k L=some (.sl i gi 1 0 (aP k).length)∧aP k≠[]∧σ.n≤i∧i<τ.n∧τ.ob i=some ⟨gi,1,RE,false,true,(aP k).map fun o=>.ptr id g 21 0 o⟩
theorem fR (σ:St) (id g:Nat):HC prog vF [.ptr id g 21 0 0] σ (SW σ id g):=by
 obtain ⟨dF,n0,c0⟩:=σ
 refine aM wo (by simp) ?_
 simp only [nk]
 try simp (disch:=omega) only [go_sem,jA,jB,jF,jG,↓reduceIte,reduceCtorEq,jM]
 repeat' (refine And.intro ?_ ?_)
 all_goals try omega
 refine ⟨n0,c0,_,rfl,by simp only; omega,fun i hi=>?_,ay _ _ _,by simp [cK,wM],fun k=>?_⟩
 ·simp only at hi ⊢
  simp (disch:=omega) only [aa]
 have e1:(aP 1).map (fun o=>AV.ptr id g 21 0 o)=[.ptr id g 21 0 1,.ptr id g 21 0 2,.ptr id g 21 0 3,.ptr id g 21 0 4,.ptr id g 21 0 5,.ptr id g 21 0 6]:=rfl
 rcases ky k with e | ⟨rfl,e⟩ | ⟨rfl,e⟩ | ⟨rfl | rfl,e⟩ | ⟨rfl,e⟩ | ⟨rfl,e⟩
 ·refine .inl ⟨?_,e⟩
  have h1:¬k=1:=fun h=>by rw [h] at e; simp [aP] at e
  have h2:¬k=2:=fun h=>by rw [h] at e; simp [aP] at e
  have h3:¬k=3:=fun h=>by rw [h] at e; simp [aP] at e
  have h4:¬k=4:=fun h=>by rw [h] at e; simp [aP] at e
  have h5:¬k=5:=fun h=>by rw [h] at e; simp [aP] at e
  have h6:¬k=6:=fun h=>by rw [h] at e; simp [aP] at e
  try simp (disch:=omega) only [go_sem,↓reduceIte,h1,h2,h3,h4,h5,h6]
 ·refine .inr ⟨n0+27,c0+27,rfl,by simp [aP],by simp only; omega,by simp only; omega,?_⟩
  simp (disch:=omega) only [aa,ay]; rfl
 ·refine .inr ⟨n0+45,c0+45,rfl,by simp [aP],by simp only; omega,by simp only; omega,?_⟩
  simp (disch:=omega) only [aa,ay]; rfl
 ·refine .inr ⟨n0+60,c0+60,rfl,by simp [aP],by simp only; omega,by simp only; omega,?_⟩
  simp (disch:=omega) only [aa,ay]; rfl
 ·refine .inr ⟨n0+75,c0+75,rfl,by simp [aP],by simp only; omega,by simp only; omega,?_⟩
  simp (disch:=omega) only [aa,ay]; rfl
 ·refine .inr ⟨n0+89,c0+89,rfl,by simp [aP],by simp only; omega,by simp only; omega,?_⟩
  simp (disch:=omega) only [aa,ay]; rfl
 ·refine .inr ⟨n0+95,c0+95,rfl,by simp [aP],by simp only; omega,by simp only; omega,?_⟩
  simp (disch:=omega) only [aa,ay]; rfl
theorem iH (a b:List Int) (ha:a.length≤9223372036854775807):PC prog qP [.list 1 (ints a),.list 1 (ints b)] (.bool (decide (a=b))):=by
 refine ae qX (by simp) ?_
 simp only [jr,go_sem,jF,↓reduceIte,reduceCtorEq,aw]
 refine bn (fun h=>?_) (fun h=>?_) <;> try simp (disch:=omega) only [go_sem,↓reduceIte,reduceCtorEq]
 ·exact aA.of_eq (by congr 1; simp; intro hab; exact h (by rw [hab])) rfl
 have hl:a.length=b.length:=by omega
 refine bK [4,5,13,14,15,16,17,18,19,20,21,22,23,24,25] (by kernel_rfl) a.length (fun k e _=>e 13=.int .i64 k∧∀ j,j<k→a[j]?=b[j]?) ?_ ?_
 ·exact ⟨(by first | rfl | (simp (disch:=omega) only [go_sem,jA,jB,jC,jD,jE,jF,jG,jH,jI,jJ,↓reduceIte,reduceCtorEq,jP,jO,jM,jN]; try rfl)),fun j hj=>by omega⟩
 ·rintro k fe ob c hk ⟨h13,hj⟩
  simp (maxSteps:=1000000) only [go_sem,jF,↓reduceIte] at h13
  try simp (disch:=omega) only [go_sem,jF,↓reduceIte,h13,aw]
  refine aj (fun hlt=>?_) (fun hge=>?_)
  ·have hka:k<a.length:=by omega
   have hga:a[k]?=some a[k]:=List.getElem?_eq_getElem hka
   have hgb:b[k]?=some b[k]:=List.getElem?_eq_getElem (by omega)
   try simp (disch:=omega) only [go_sem,jF,jH,↓reduceIte,reduceCtorEq,aw,bH,hga,hgb,Option.map_some]
   repeat (refine And.intro (by first | omega | (rw [o7]; omega) | (simp [maxLen]; done) | (simp [maxLen]; omega)) ?_)
   refine bn (fun hne=>?_) (fun heq=>?_)
   ·try simp (disch:=omega) only [go_sem,↓reduceIte]
    exact aA.of_eq (by congr 1; simp; intro hab; subst hab; exact hne rfl) rfl
   ·try simp (disch:=omega) only [go_sem,jF,↓reduceIte,jO]
    refine bt hka ⟨(by first | rfl | (simp (disch:=omega) only [go_sem,jA,jB,jC,jD,jE,jF,jG,jH,jI,jJ,↓reduceIte,reduceCtorEq,jP,jO,jM,jN]; try rfl)),fun j hj'=>?_⟩
    by_cases e:j=k
    ·have he:a[k]=b[k]:=heq
     subst e; rw [hga,hgb,he]
    ·exact hj j (by omega)
  ·try simp (disch:=omega) only [go_sem,↓reduceIte]
   exact aA.of_eq (by congr 1; simp; exact ft hl fun j hj'=>hj j (by omega)) rfl
theorem ew {a b:Rc} {α:Type} (f:Rc→α) (h:¬f a=f b):decide (a=b)=false:=by
 rw [decide_eq_false_iff_not]
 exact fun e=>h (by rw [e])
theorem Fk {a b:Rc} {x:Bool} (h:x=false) (hx:a=b→x=true):decide (a=b)=false:=by
 rw [decide_eq_false_iff_not]
 exact fun e=>by rw [hx e] at h; cases h
theorem xd (a b:Rc) (ha:a.sg.length≤9223372036854775807):PC prog yU [fD a,fD b] (.bool (decide (a=b))):=by
 have hE:=iH a.sg b.sg ha
 refine ae Ae (by simp) ?_
 simp only [qj,fD,lj,fI]
 try simp (disch:=omega) only [go_sem,jF,jG,jH,↓reduceIte,reduceCtorEq]
 refine bB rfl (fun h0=>?_) (fun h0=>?_) <;> try simp (disch:=omega) only [go_sem,jF,jG,jH,↓reduceIte,reduceCtorEq]
 rotate_left
 ·exact aA.of_eq (by rw [ew Rc.k h0]) rfl
 refine K8 rfl (fun h1=>?_) (fun h1=>?_) <;> try simp (disch:=omega) only [go_sem,jF,jG,jH,↓reduceIte,reduceCtorEq]
 rotate_left
 ·exact aA.of_eq (by rw [Fk h1 fun e=>by subst e; simp]) rfl
 refine bB rfl (fun h2=>?_) (fun h2=>?_) <;> try simp (disch:=omega) only [go_sem,jF,jG,jH,↓reduceIte,reduceCtorEq]
 rotate_left
 ·exact aA.of_eq (by rw [ew Rc.D5 h2]) rfl
 refine bB rfl (fun h3=>?_) (fun h3=>?_) <;> try simp (disch:=omega) only [go_sem,jF,jG,jH,↓reduceIte,reduceCtorEq]
 rotate_left
 ·exact aA.of_eq (by rw [ew Rc.code h3]) rfl
 refine bB rfl (fun h4=>?_) (fun h4=>?_) <;> try simp (disch:=omega) only [go_sem,jF,jG,jH,↓reduceIte,reduceCtorEq]
 rotate_left
 ·exact aA.of_eq (by rw [ew Rc.time h4]) rfl
 refine K8 rfl (fun h5=>?_) (fun h5=>?_) <;> try simp (disch:=omega) only [go_sem,jF,jH,↓reduceIte]
 rotate_left
 ·exact aA.of_eq (by rw [Fk h5 fun e=>by subst e; simp]) rfl
 refine bB rfl (fun h6=>?_) (fun h6=>?_) <;> try simp (disch:=omega) only [go_sem,jF,jG,jH,↓reduceIte]
 rotate_left
 ·exact aA.of_eq (by rw [ew Rc.Da h6]) rfl
 refine bB rfl (fun h7=>?_) (fun h7=>?_) <;> try simp (disch:=omega) only [go_sem,jF,jG,jH,↓reduceIte]
 rotate_left
 ·exact aA.of_eq (by rw [ew Rc.site h7]) rfl
 refine bB rfl (fun h8=>?_) (fun h8=>?_) <;> try simp (disch:=omega) only [go_sem,jF,jG,jH,↓reduceIte]
 rotate_left
 ·exact aA.of_eq (by rw [ew Rc.fr h8]) rfl
 refine bB rfl (fun h9=>?_) (fun h9=>?_) <;> try simp (disch:=omega) only [go_sem,jF,jG,jH,↓reduceIte]
 rotate_left
 ·exact aA.of_eq (by rw [ew Rc.to h9]) rfl
 refine bB rfl (fun h10=>?_) (fun h10=>?_) <;> try simp (disch:=omega) only [go_sem,jF,jG,jH,↓reduceIte]
 rotate_left
 ·exact aA.of_eq (by rw [ew Rc.rel h10]) rfl
 refine bB rfl (fun h11=>?_) (fun h11=>?_) <;> try simp (disch:=omega) only [go_sem,jF,jG,jH,↓reduceIte]
 rotate_left
 ·exact aA.of_eq (by rw [ew Rc.wd h11]) rfl
 refine ab hE (by simp [go_sem]) ?_
 try simp (disch:=omega) only [go_sem,jF,↓reduceIte]
 refine aA.of_eq ?_ rfl
 congr 1
 rw [Bool.eq_iff_iff,decide_eq_true_eq,decide_eq_true_eq]
 simp only [Bool.and_eq_true,decide_eq_true_eq] at h1 h5
 obtain ⟨⟩:=a
 obtain ⟨⟩:=b
 simp only at *
 simp_all
theorem ss (r:Rc) (hr:r.sg.length≤9223372036854775807):PC prog tT [fD r] (.tuple [.list 1 (ints (yL r).1),.bool (yL r).2]):=by
 have hfl:=mK (E:=.list 1 (ints r.sg)) r rfl
 have hfn:=mK (E:=.nil) (qu r.k) rfl
 have hSm:=xd r (fB r (aP r.k)) hr
 refine ae uQ (by simp) ?_
 simp only [lZ,fD]
 try simp (disch:=omega) only [go_sem,jF,jH,↓reduceIte,hfl,cU]
 refine (fR _ 0 0).mono ?_
 rintro r1 ⟨ob1,n1,c1⟩ ⟨M,gm,L,rfl,hn1,ho1,hM,hKo,hF⟩
 have u0:=ho1 0 (by simp only; omega)
 simp only at hn1 ho1 hM
 try simp (disch:=omega) only [go_sem,↓reduceIte] at u0
 try simp (disch:=omega) only [go_sem,jF,↓reduceIte,hM,u0,xT,hKo]
 rcases hF r.k with ⟨hg,he⟩ | ⟨i1,g1,hg,hne,hi1,hi1',hi1o⟩
 ·try simp (disch:=omega) only [go_sem,jF,↓reduceIte,hg]
  rw [yL,if_pos he]
  exact aA.tu (.cons (.nl 1) (.cons (aA.e rfl) .nil))
 simp only at hi1 hi1' hi1o
 try simp (disch:=omega) only [go_sem,jF,jG,jH,↓reduceIte,jM,hg,u0,xT]
 refine (fR _ n1 c1).mono ?_
 rintro r2 ⟨ob2,n2,c2⟩ ⟨M2,gm2,L2,rfl,hn2,ho2,hM2,hKo2,hF2⟩
 rcases hF2 r.k with ⟨_,he⟩ | ⟨i2,g2,hg2,_,hi2,hi2',hi2o⟩
 ·exact absurd he hne
 simp only at hn2 hM2 hi2 hi2' hi2o
 have v0:=(ho2 0 (by simp only; omega)).trans ((aa _ _ _ _ (by omega)).trans ((aa _ _ _ _ (by omega)).trans u0))
 have v1:=(ho2 i1 (by simp only; omega)).trans ((aa _ _ _ _ (by omega)).trans ((aa _ _ _ _ (by omega)).trans hi1o))
 have vb:=(ho2 n1 (by simp only; omega)).trans (ay _ _ _)
 simp only at v0 v1 vb
 have hbk:=tn r.k
 rw [hbk] at vb
 clear hF hF2 hM hKo hg ho1 ho2 hi1o
 have h6:=pH r.k
 have hofl:((aP r.k).map fun o=>AV.ptr 0 0 21 0 o).length=(aP r.k).length:=List.length_map ..
 have hofl2:((aP r.k).map fun o=>AV.ptr n1 c1 21 0 o).length=(aP r.k).length:=List.length_map ..
 try simp (disch:=omega) only [go_sem,jF,↓reduceIte,jM,hM2,v0,hKo2,hg2]
 refine ⟨u0.symm,?_⟩
 clear u0
 refine bd [2,3,8,9,10,29,30,31,32,33,34,35,36,37,38,39,40,41,42,43,44,45,46,47,48,49,50,51,52,53,54,55,56,57,58] (by kernel_rfl) (aP r.k).length (fun i e σ=>e 29=.int .i64 i∧n2≤σ.n∧σ.ob 0=some ⟨0,21,32,false,true,[lj (.list 1 (ints r.sg)) r]⟩∧σ.ob i1=some ⟨g1,1,RE,false,true,(aP r.k).map fun o=>.ptr 0 0 21 0 o⟩∧
  σ.ob i2=some ⟨g2,1,RE,false,true,(aP r.k).map fun o=>.ptr n1 c1 21 0 o⟩∧σ.ob n1=some ⟨c1,21,32,false,true,[lj .nil (fB r ((aP r.k).take i))]⟩∧
  (((aP r.k).take i).map (cI r)).all vB=true∧∃ X,At e 8 X∧cd 1 3 σ (ints (((aP r.k).take i).map (cI r))) X∧∀ j,¬aU X j→n2≤j) ?_ ?_
 ·refine ⟨(by first | rfl | (simp (disch:=omega) only [go_sem,jA,jB,jC,jD,jE,jF,jG,jH,jI,jJ,↓reduceIte,reduceCtorEq,jP,jO,jM,jN]; try rfl)),Nat.le_refl _,v0,v1,hi2o,vb,rfl,.nil,(by simp only [At]; try simp (disch:=omega) only [go_sem,jF,↓reduceIte]),cd.nil,fun j hj=>absurd (aU.nil j) hj⟩
 clear v0 v1 hi2o vb
 rintro i fe ob m c hi hm ⟨hii,hm1,v0,v1,v2,vb,hall,X,h8,hX,hXn⟩
 simp (maxSteps:=1000000) only [go_sem,jF,↓reduceIte,At] at hii hm hm1 v0 v1 v2 vb h8
 try simp (disch:=omega) only [go_sem,jF,↓reduceIte,hii]
 refine aj (fun hlt=>?_) (fun hge=>?_)
 ·have hil:i<(aP r.k).length:=by omega
  have hgo:(aP r.k)[i]?=some (aP r.k)[i]:=List.getElem?_eq_getElem hil
  have hok:E1 (aP r.k)[i]:=xX (List.getElem_mem hil)
  have htk:(aP r.k).take (i+1)=(aP r.k).take i++[(aP r.k)[i]]:=eS _ _ hil
  generalize (aP r.k)[i]=o at *
  have q1:((aP r.k).map fun o=>AV.ptr 0 0 21 0 o)[i]?=some (.ptr 0 0 21 0 o):=by rw [List.getElem?_map,hgo]; rfl
  have q2:((aP r.k).map fun o=>AV.ptr n1 c1 21 0 o)[i]?=some (.ptr n1 c1 21 0 o):=by rw [List.getElem?_map,hgo]; rfl
  have hgd:=Ib (.list 1 (ints r.sg)) r hok
  have ho21:o+1≤21:=by unfold E1 at hok; omega
  have hst:=Gh .nil (fB r ((aP r.k).take i)) hok (cI r o)
  have hbad:vB (cI r o)=false→∀ σ:St,aA σ (.tuple [.nil,.bool false]) (.tuple [.list 1 (ints (yL r).1),.bool (yL r).2]):=fun hb σ=>by
   have:(bQ r).all vB=false:=by
    rw [List.all_eq_false]
    exact ⟨cI r o,List.mem_map.2 ⟨o,List.mem_of_getElem? hgo,rfl⟩,by simp [hb]⟩
   rw [yL,if_neg hne,this,if_neg (by simp)]
   exact aA.tu (.cons (.nl 1) (.cons (aA.e rfl) .nil))
  try simp (disch:=omega) only [go_sem,jF,jH,↓reduceIte,v1,q1,v0,hgd]
  refine ⟨by omega,by omega,by omega,?_⟩
  refine bC rfl (fun hb=>?_) (fun hb=>?_) <;> try simp (disch:=omega) only [go_sem,jF,jH,↓reduceIte,v0,hgd]
  ·exact hbad (by simp [vB]; omega) _
  refine ⟨by omega,?_⟩
  refine aj (fun hb2=>?_) (fun hb2=>?_) <;> try simp (disch:=omega) only [go_sem,jF,jH,↓reduceIte]
  ·exact hbad (by simp [vB]; omega) _
  have zb:¬n1=0:=by omega
  have zb0:¬0=n1:=by omega
  try simp (disch:=omega) only [go_sem,jF,jH,↓reduceIte,reduceCtorEq,v0,v2,q2,hgd,vb,hst,zb0]
  refine ⟨by omega,by omega,by omega,by omega,by omega,?_⟩
  rw [h8]
  have ll:(ints (((aP r.k).take i).map (cI r))).length≤6:=by rw [aw,List.length_map,List.length_take]; omega
  have hvb:vB (cI r o)=true:=by simp [vB]; omega
  refine bz (b:=8) (hX.move (Nat.le_refl _) fun j hj hh=>aa _ _ _ _ fun e=>by have:=hXn j hh; omega) (by omega) (by omega) fun Y τ hY kY=>?_
  obtain ⟨ob5,m5,c5⟩:=τ
  have p1:m≤m5:=kY.1
  have oX:∀ j,j<n2→aU X j:=fun j hj=>aU.em fun h=>by have:=hXn j h; omega
  have p2:∀ j,j<n2→ob5 j=aZ ob n1 (some ⟨c1,21,32,false,true,[lj .nil (sI (fB r ((aP r.k).take i)) o (cI r o))]⟩) j:=fun j hj=>kY.2.1 j (by simp only; omega) (oX j hj)
  try simp (disch:=omega) only [go_sem,jF,↓reduceIte,jO]
  refine aF m5 hil (by omega) ⟨(by first | rfl | (simp (disch:=omega) only [go_sem,jA,jB,jC,jD,jE,jF,jG,jH,jI,jJ,↓reduceIte,reduceCtorEq,jP,jO,jM,jN]; try rfl)),by simp only [St.aC]; omega,?_,?_,?_,?_,?_,Y,(by simp only [At]; try simp (disch:=omega) only [go_sem,jF,↓reduceIte]),?_,fun j hj=>Nat.le_of_not_lt fun hh=>hj (kY.2.2 j (by simp only; omega) (oX j hh))⟩
  ·rw [aX (by omega),p2 _ (by omega),aa _ _ _ _ (by omega)]; exact v0
  ·rw [aX (by omega),p2 _ (by omega),aa _ _ _ _ (by omega)]; exact v1
  ·rw [aX (by omega),p2 _ (by omega),aa _ _ _ _ (by omega)]; exact v2
  ·rw [aX (by omega),p2 _ (by omega),ay,htk,FW]
  ·rw [htk,List.map_append,List.all_append,hall]; simp [hvb]
  ·rw [htk,List.map_append,show ints (((aP r.k).take i).map (cI r)++[o].map (cI r))=ints (((aP r.k).take i).map (cI r))++[.int .i64 (cI r o)] by simp [ints]]
   exact hY.tr
 obtain rfl:i=(aP r.k).length:=by omega
 rw [List.take_length] at vb hall hX
 clear hge hii
 have zb0:¬0=n1:=by omega
 have e1:yL r=(bQ r,decide (r=fB r (aP r.k))):=by
  rw [yL,if_neg hne,if_pos (show (bQ r).all vB=true from hall)]
  simp [eq_comm]
 try simp (disch:=omega) only [go_sem,jF,jH,↓reduceIte,v0,vb,h8,kl]
 refine ab (ou hSm (.cons .rfl (.cons (Ic (Ji r _ fun o ho=>xX ho)) .nil))) (by simp [Gi]; exact nQ r) ?_
 try simp (disch:=omega) only [go_sem,jF,↓reduceIte]
 rw [e1]
 exact aA.tu (.cons (hX.mL (fun _ _ _=>rfl) (eJ _) (jW _)) (.cons (aA.e rfl) .nil))
abbrev RF:TypeId:=5
def SN (σ:St) (id:Nat) (L:List Int) (r:AV) (τ:St):Prop:=∃ g',r=.sl id g' 1 0 L.length∧τ.n=σ.n∧τ.ob id=some ⟨g',1,RF,false,true,EY L⟩∧∀ i,i<σ.n→i≠id→τ.ob i=σ.ob i
theorem pT (σ:St) (id g:Nat) (L:List Int) (x:Int) (k:Nat) (hL:L.length≤1000000) (hk:k≤5) (hid:id<σ.n) (hob:σ.ob id=some ⟨g,1,RF,false,true,EY L⟩) :
  HC prog AO [.sl id g 1 0 L.length,.int .i64 x,.int .i64 k] σ (SN σ id (L++cQ x k)):=by
 obtain ⟨dF,n0,c0⟩:=σ
 simp only at hob hid
 refine aM Be (by simp) ?_
 simp only [rW]
 try simp (disch:=omega) only [go_sem,jF,↓reduceIte,reduceCtorEq]
 refine bd [0,1,8,9,10,11,12,13,14,15,16,17] (by kernel_rfl) k (fun i e σ=>e 8=.int .i64 i∧σ.n=n0∧(∃ g',e 0=.sl id g' 1 0 (L.length+i)∧σ.ob id=some ⟨g',1,RF,false,true,EY (L++cQ x i)⟩)∧e 1=.int .i64 (x / 256 ^ i)∧∀ j,j<n0→j≠id→σ.ob j=dF j) ?_ ?_
 ·refine ⟨(by first | rfl | (simp (disch:=omega) only [go_sem,jA,jB,jC,jD,jE,jF,jG,jH,jI,jJ,↓reduceIte,reduceCtorEq,jP,jO,jM,jN]; try rfl)),rfl,⟨g,(by first | rfl | (simp (disch:=omega) only [go_sem,jA,jB,jC,jD,jE,jF,jG,jH,jI,jJ,↓reduceIte,reduceCtorEq,jP,jO,jM,jN]; try rfl)),by simp [cQ]; exact hob⟩,?_,fun j _ _=>rfl⟩
  simp [aZ]
 rintro i fe ob m c hi hm ⟨h8,rfl,⟨g',h0,ho⟩,h1,hf⟩
 simp (maxSteps:=1000000) only [go_sem,jF,↓reduceIte,reduceCtorEq] at h8 h0 ho h1 hf
 have hpl:=bx i x
 have hul:(EY (L++cQ x i)).length=L.length+i:=by rw [kc,List.length_append,hpl]
 try simp (disch:=omega) only [go_sem,jF,↓reduceIte,reduceCtorEq,h8]
 refine aj (fun hlt=>?_) (fun hge=>?_)
 ·have hik:i<k:=by omega
  have hsh:=Je (x / 256 ^ i)
  try simp (disch:=omega) only [go_sem,jF,jH,↓reduceIte,reduceCtorEq,jO,h0,h1,ho,hul,wrap_u8,hsh,o7]
  refine ⟨by omega,by omega,?_⟩
  refine aF m hik (by omega) ⟨(by first | rfl | (simp (disch:=omega) only [go_sem,jA,jB,jC,jD,jE,jF,jG,jH,jI,jJ,↓reduceIte,reduceCtorEq,jP,jO,jM,jN]; try rfl)),rfl,⟨c,?_,?_⟩,?_,fun j hj hne=>?_⟩
  ·simp [aZ]; omega
  ·rw [aX (by omega),ay,HJ,List.append_assoc,←BA]
  ·simp only [aZ,↓reduceIte]
   simp [aZ]
   rw [Int.ediv_ediv_of_nonneg (by exact Int.pow_nonneg (by omega)),Int.pow_succ]
  ·rw [aX (by omega),aa _ _ _ _ hne]; exact hf j hj hne
 obtain rfl:i=k:=by omega
 try simp (disch:=omega) only [go_sem,↓reduceIte,reduceCtorEq,h0]
 exact ⟨g',by rw [List.length_append,hpl],rfl,ho,hf⟩
theorem yI (s:ByteArray) (h5:s.size≤5):PC prog rr [.str s] (.int .i64 (m0 (sb s))):=by
 refine ae Bf (by simp) ?_
 simp only [rX]
 try simp (disch:=omega) only [go_sem,↓reduceIte,reduceCtorEq,jO]
 refine bK [3,4,8,9,10,11,12,13,14,15,16,17,18] (by kernel_rfl) s.size (fun r e _=>e 4=.int .i64 ((s.size:Int)-1-r)∧e 3=.int .i64 (m0 ((sb s).drop (s.size-r)))) ?_ ?_
 ·refine ⟨by simp [go_sem],?_⟩
  try simp (maxSteps:=1000000) only [go_sem,jF,↓reduceIte]
  rw [List.drop_of_length_le (by rw [bL]; omega)]; rfl
 rintro r fe ob c hr ⟨h4,h3⟩
 simp (maxSteps:=1000000) only [go_sem,jF,↓reduceIte] at h4 h3
 try simp (disch:=omega) only [go_sem,jF,↓reduceIte,h4]
 refine aj (fun hlt=>?_) (fun hge=>?_)
 ·have hrs:r<s.size:=by omega
  generalize hi:s.size-1-r=i at *
  have hi2:s.size-r=i+1:=by omega
  have hii:(s.size:Int)-1-r=(i:Int):=by omega
  have hnx:m0 ((sb s).drop (s.size-(r+1)))=(sb s).getD i 0+256 * m0 ((sb s).drop (i+1)):=by
   rw [show s.size-(r+1)=i by omega,BZ _ _ (by rw [bL]; omega),m0]
  have hb:=C1 ((sb s).drop (i+1)) (fun x hx=>HY s x (List.mem_of_mem_drop hx))
  have hlen:((sb s).drop (i+1)).length≤4:=by rw [List.length_drop,bL]; omega
  have hb2:=NT _ hlen
  rw [hi2] at h3
  generalize m0 ((sb s).drop (i+1))=y at *
  have hx:=sj s i
  simp only [hii] at h4 ⊢
  have hsi:=HR s i (by omega)
  try simp (disch:=omega) only [go_sem,jF,↓reduceIte,reduceCtorEq,jO,h3,Jf,Option.some.injEq,exists_eq_left',Int.toNat_natCast,hsi]
  generalize (sb s).getD i 0=x at *
  try simp (disch:=omega) only [go_sem,Ln,Option.some.injEq,exists_eq_left']
  refine bt hrs ⟨?_,?_⟩
  ·try simp (disch:=omega) only [go_sem,↓reduceIte]; congr 1; omega
  ·try simp (disch:=omega) only [go_sem,jF,↓reduceIte,hnx]
   congr 1; omega
 ·try simp (disch:=omega) only [go_sem,jF,↓reduceIte,h3]
  rw [show s.size-r=0 by omega]
  exact aA.of_eq rfl rfl
theorem IW (r:Rc):(dg r).length≤31:=by
 have h:=pH r.k
 have h2:∀ l:List Int,(l.flatMap fun n=>cQ n 5).length=5 * l.length:=fun l=>by
  induction l with
  | nil=>rfl
  | cons a l ih=>rw [List.flatMap_cons,List.length_append,bx,ih,List.length_cons]; omega
 rw [dg,List.length_append,bx,h2,bQ,List.length_map]
 omega
def vV (r:Rc) (i:Nat):List Int:=cQ r.k 1++((bQ r).take i).flatMap fun n=>cQ n 5
theorem IY (r:Rc) (i:Nat):(vV r i).length≤31:=by
 have h:=pH r.k
 have h2:∀ l:List Int,(l.flatMap fun n=>cQ n 5).length=5 * l.length:=fun l=>by
  induction l with
  | nil=>rfl
  | cons a l ih=>rw [List.flatMap_cons,List.length_append,bx,ih,List.length_cons]; omega
 rw [vV,List.length_append,bx,h2,List.length_take,bQ,List.length_map]
 omega
theorem IZ (r:Rc):vV r (bQ r).length=dg r:=by rw [vV,List.take_length]; rfl
theorem BW (r:Rc) (i:Nat) (h:i<(bQ r).length):vV r (i+1)=vV r i++cQ (bQ r)[i] 5:=by
 rw [vV,vV,eS _ _ h,List.flatMap_append,List.append_assoc]; rw [List.flatMap_cons,List.flatMap_nil,List.append_nil]
theorem Mr (l:List Int):(⟨(l.map fun n=>UInt8.ofNat n.toNat).toArray⟩:ByteArray)=bs l:=rfl
theorem BV (r:Rc):(qU r).size≤35:=by
 have:=IW r
 rw [qU,show (bs (dg r++cQ (u4 (bs (dg r))) 4)).size=(dg r++cQ (u4 (bs (dg r))) 4).length by simp [bs,ByteArray.size],List.length_append,bx]
 omega
theorem lH (r:Rc) (hr:r.sg.length≤9223372036854775807):PC prog vG [fD r] (.tuple [.str (oa r).1,.int .i64 (oa r).2]):=by
 have hfl:=mK (E:=.list 1 (ints r.sg)) r rfl
 have hN:=ss r hr
 have hpr:(lj (.list 1 (ints r.sg)) r).cG=true:=rfl
 refine ae wq (by simp) ?_
 simp only [nm,fD] at hN ⊢
 try simp (disch:=omega) only [go_sem,jF,jH,↓reduceIte,hfl,cU,kl]
 refine ab hN (by simp [hpr]) ?_
 have hbad:bl r=false→∀ σ:St,aA σ (.tuple [.str ⟨#[]⟩,.int .i64 49]) (.tuple [.str (oa r).1,.int .i64 (oa r).2]):=fun h σ=>by
  rw [oa,if_neg (by simp [h])]; exact aA.pure rfl
 by_cases hne:aP r.k=[]
 ·rw [yL,if_pos hne]
  try simp (disch:=omega) only [go_sem,jF,↓reduceIte]
  exact hbad (by simp [bl,hne]) _
 by_cases hall:(bQ r).all vB=true
 ·rw [yL,if_neg hne,if_pos hall]
  simp only
  cases hv:decide (fB r (aP r.k)=r)
  ·try simp (disch:=omega) only [go_sem,jF,↓reduceIte]
   exact hbad (by simp only [bl,hv,Bool.and_false]) _
  have hva:bl r=true:=by simp only [bl,hv,hall,Bool.and_true,decide_eq_true_eq]; exact hne
  have hkd:=vy hne
  try simp (disch:=omega) only [go_sem,jF,jG,jH,↓reduceIte,xT,wrap_u8]
  have hoff:=pH r.k
  have hnl:(bQ r).length=(aP r.k).length:=by rw [bQ,List.length_map]
  have hpk:cQ r.k 1=[r.k % 256]:=by simp [cQ]
  refine bd [6,8,22,23,24,25,26,27,28,29] (by kernel_rfl) (bQ r).length (fun i e σ=>e 22=.int .i64 i∧σ.n=2∧∃ g',e 6=.sl 1 g' 1 0 (vV r i).length∧σ.ob 1=some ⟨g',1,RF,false,true,EY (vV r i)⟩) ?_ ?_
  ·refine ⟨(by first | rfl | (simp (disch:=omega) only [go_sem,jA,jB,jC,jD,jE,jF,jG,jH,jI,jJ,↓reduceIte,reduceCtorEq,jP,jO,jM,jN]; try rfl)),rfl,1,?_,?_⟩
   ·simp [aZ,vV,hpk]
   ·simp only [aZ,↓reduceIte,vV,hpk,List.take_zero,List.flatMap_nil,List.append_nil]; rfl
  rintro i fe ob m c hi hm ⟨h22,rfl,g',h6,ho⟩
  simp (maxSteps:=1000000) only [go_sem,jF,↓reduceIte] at h22 h6 ho
  have hil:=IY r i
  try simp (disch:=omega) only [go_sem,jF,↓reduceIte,h22,aw]
  refine aj (fun hlt=>?_) (fun hge=>?_)
  ·have hik:i<(bQ r).length:=by omega
   have hgi:=bH (bQ r) i
   try simp (disch:=omega) only [go_sem,jF,jH,↓reduceIte,h6,aw,hgi,List.getElem?_eq_getElem hik]
   refine ⟨by omega,by omega,HC.mono (pT ⟨ob,2,c⟩ 1 g' (vV r i) (bQ r)[i] 5 (by omega) (by omega) (by simp) ho) ?_⟩
   rintro r' ⟨ob',n',c'⟩ ⟨g2,rfl,hn',ho',hf'⟩
   simp only at hn' ho' hf'
   subst hn'
   try simp (disch:=omega) only [go_sem,jF,↓reduceIte,jO]
   refine aF _ hik (Nat.le_refl _) ⟨by simp [go_sem],rfl,g2,?_,?_⟩
   ·rw [BW r i hik]; simp [aZ]
   ·rw [BW r i hik,aX (by omega)]; exact ho'
  obtain rfl:i=(bQ r).length:=by omega
  rw [IZ] at h6 ho hil
  have htk:List.take (dg r).length (EY (dg r))=EY (dg r):=List.take_of_length_le (by rw [kc]; omega)
  have hul:(EY (dg r)).length=(dg r).length:=kc _
  have hby:=wb (dg r)
  try simp (disch:=omega) only [go_sem,jF,↓reduceIte,h6,ho,htk,hby,hul,Option.some.injEq,exists_eq_left',Mr]
  have hsz:(bs (dg r)).size=(dg r).length:=by simp [bs,ByteArray.size]
  refine ⟨Nat.le_refl _,?_⟩
  refine ab (mN (bs (dg r)) (by omega)) (by simp [go_sem]) ?_
  try simp (disch:=omega) only [go_sem,jF,↓reduceIte]
  refine HC.mono (pT ⟨ob,2,c⟩ 1 g' (dg r) (u4 (bs (dg r))) 4 (by omega) (by omega) (by simp) ho) ?_
  rintro r' ⟨ob',n',c'⟩ ⟨g2,rfl,hn',ho',hf'⟩
  simp only at hn' ho' hf'
  subst hn'
  try simp (disch:=omega) only [go_sem,jF,↓reduceIte,ho']
  rw [List.take_of_length_le (by rw [kc]; omega)]
  refine ⟨by rw [kc]; omega,_,wb _,?_⟩
  rw [Mr,oa,if_pos hva]
  exact aA.pure rfl
 ·rw [yL,if_neg hne,if_neg hall]
  try simp (disch:=omega) only [go_sem,jF,↓reduceIte]
  exact hbad (by simp [bl,hall]) _
theorem HQ (s:ByteArray) (a:Int) (h0:0≤a) (h1:a<s.size):∃ n:Nat,a=n∧n<s.size:=⟨a.toNat,by omega,by omega⟩
theorem Bz:∀ (l:List Nat) (vs:List Int) (b:Rc) (o:Nat) (v:Int),l.length=vs.length→w8 b (l++[o]) (vs++[v])=sI (w8 b l vs) o v
 | [],[],b,o,v,_=>rfl
 | p :: l,w :: vs,b,o,v,h=>Bz l vs _ o v (by simpa using h)
 | [],_ :: _,_,_,_,h=>by simp at h
 | _ :: _,[],_,_,_,h=>by simp at h
theorem Gj:∀ (l:List Nat) (vs:List Int) (b:Rc),b.sg=[]→(∀ o∈l,E1 o)→(w8 b l vs).sg=[]
 | [],_,b,h,_=>by simpa [w8] using h
 | _ :: _,[],b,h,_=>by simpa [w8] using h
 | o :: l,v :: vs,b,h,hl=>Gj l vs _ (by rw [Mf _ (hl o (by simp))]; exact h) fun x hx=>hl x (by simp [hx])
theorem wJ (s:ByteArray) (a k:Nat):dv s a (k+1)=dv s a k++[sJ s (a+1+5 * k) 5]:=by simp [dv,List.range_succ]
theorem Az (s:ByteArray) (a k:Nat):(dv s a k).length=k:=by simp [dv]
theorem kh (s:ByteArray) (a b:Nat):sb (s.extract a b)=((sb s).drop a).take (b-a):=by
 simp [sb,List.map_take,List.map_drop]
theorem QL (r:Rc) {o:Nat} (h:E1 o) (v:Int):cI (sI r o v) o=v:=by
 rcases qw h with rfl | rfl | rfl | rfl | rfl | rfl | rfl | rfl | rfl | rfl | rfl | rfl | rfl | rfl | rfl | rfl | rfl | rfl <;> rfl
theorem Qx (s:ByteArray) (a k:Nat) (h:a+k≤s.size) (h5:k≤5):PC prog rr [.str (s.extract a (a+k))] (.int .i64 (sJ s a k)):=by
 have:=yI (s.extract a (a+k)) (by simp; omega)
 rwa [kh,show a+k-a=k by omega] at this
theorem K7 (s:ByteArray) (a k:Nat) (h:k≤5):0≤sJ s a k∧sJ s a k<1099511627776:=by
 have h1:=C1 (((sb s).drop a).take k) fun x hx=>HY s x (List.mem_of_mem_drop (List.mem_of_mem_take hx))
 have h2:(((sb s).drop a).take k).length≤5:=by rw [List.length_take]; omega
 have h3:∀ q:Nat,q≤5→(256:Int) ^ q≤1099511627776:=by decide
 exact ⟨h1.1,Int.lt_of_lt_of_le h1.2 (h3 _ h2)⟩
theorem tD (s:ByteArray) (a:Int) (hs:s.size≤4611686018427387904):PC prog vH [.str s,.int .i64 a] (Oe s a):=by
 refine ae wu (by simp) ?_
 simp only [np,Oe]
 have hbk:=tn
 have bad:∀ (σ:St) (e:Int),dW s a=(qu 0,0,e)→aA σ (.tuple [lj .nil (qu 0),.int .i64 0,.int .i64 e]) (.tuple [fD (dW s a).1,.int .i64 (dW s a).2.1,.int .i64 (dW s a).2.2]):=fun σ e h=>by
  rw [h]; exact aA.tu (.cons (Cq rfl) (.cons (aA.e rfl) (.cons (aA.e rfl) .nil)))
 have hfl:∀ q,(lj .nil q).flat=true:=fun q=>mK q rfl
 try simp (disch:=omega) only [go_sem,jF,↓reduceIte,reduceCtorEq]
 refine bC rfl (fun h1=>?_) (fun h1=>?_) <;> try simp (disch:=omega) only [go_sem,jF,jG,jH,↓reduceIte,reduceCtorEq,hbk,hfl,cU,jQ,kl]
 ·refine bad _ 1 (by rw [dW,if_pos (.inl h1)])
 refine aj (fun h2=>?_) (fun h2=>?_) <;> try simp (disch:=omega) only [go_sem,jF,jG,jH,↓reduceIte,reduceCtorEq,hbk,hfl,cU,jQ,kl]
 ·refine bad _ 1 (by rw [dW,if_pos (.inr h2)])
 refine aj (fun h3=>?_) (fun h3=>?_) <;> try simp (disch:=omega) only [go_sem,jF,jG,jH,↓reduceIte,reduceCtorEq,hbk,hfl,cU,jQ,kl]
 ·refine bad _ 7 (by rw [dW,if_neg (by omega),if_pos h3])
 obtain ⟨n,rfl,hn⟩:=HQ s a (by omega) (by omega)
 have hD:dW s n=FM s n:=by rw [dW,if_neg (by omega),if_neg (by omega)]; rfl
 rw [hD] at bad ⊢
 have hsi:=HR s n hn
 have hkb:=sj s n
 try simp (disch:=omega) only [go_sem,jF,jG,jH,↓reduceIte,jO,hsi,Option.some.injEq,exists_eq_left',Int.toNat_natCast,hbk,hfl,cU,jQ,xT]
 generalize hk:(sb s).getD n 0=k at *
 refine (fR _ 1 1).mono ?_
 rintro r1 ⟨ob1,n1,c1⟩ ⟨M,gm,L,rfl,hn1,ho1,hM,hKo,hF⟩
 have u0:=ho1 0 (by simp only; omega)
 have u1:=ho1 1 (by simp only; omega)
 simp only at hn1 ho1 hM
 try simp (disch:=omega) only [go_sem,↓reduceIte,reduceCtorEq] at u0
 try simp (disch:=omega) only [go_sem,↓reduceIte] at u1
 try simp (disch:=omega) only [go_sem,jF,↓reduceIte,hM,u1,hKo]
 have hkk:(qu k).k=k:=rfl
 rw [hkk]
 have hdN:FM s n=if aP k=[] then (qu 0,0,49) else if s.size<n+1+5 * (aP k).length+4 then (qu 0,0,7) else
   if sJ s (n+1+5 * (aP k).length) 4≠u4 (s.extract n (n+1+5 * (aP k).length)) then (qu 0,0,8) else
   if (dv s n (aP k).length).all vB then (Gr k (dv s n (aP k).length),((n+1+5 * (aP k).length+4:Nat):Int),0) else (qu 0,0,49):=by
  simp only [FM,hk]; rfl
 rcases hF k with ⟨hg,he⟩ | ⟨i1,g1,hg,hne,hi1,hi1',hi1o⟩
 ·try simp (disch:=omega) only [go_sem,jF,jG,jH,↓reduceIte,hg,u0,hbk,hfl,cU,jQ,kl]
  refine bad _ 49 (by rw [hdN,if_pos he])
 rw [if_neg hne] at hdN
 have h6:=pH k
 have hofl:((aP k).map fun o=>AV.ptr 1 1 21 0 o).length=(aP k).length:=List.length_map ..
 simp only at hi1 hi1' hi1o
 clear ho1 hF hsi
 try simp (disch:=omega) only [go_sem,jF,↓reduceIte,reduceCtorEq,jO,hg]
 obtain ⟨p,hp⟩:∃ p:Nat,p=n+1+5 * (aP k).length:=⟨_,rfl⟩
 have hpi:(n:Int)+1+5 * (aP k).length=p:=by omega
 rw [←hp] at hdN
 simp only [hpi]
 refine aj (fun h4=>?_) (fun h4=>?_) <;> try simp (disch:=omega) only [go_sem,jF,jG,jH,↓reduceIte,reduceCtorEq,jO,u0,hbk,hfl,cU,jQ,kl]
 ·refine bad _ 7 (by rw [hdN,if_pos (by omega)])
 rw [if_neg (by omega)] at hdN
 have hn1':p+4≤s.size:=by omega
 have e1:((p:Int)+4).toNat=p+4:=by omega
 have e2:(p:Int).toNat=p:=by omega
 have e3:(n:Int).toNat=n:=by omega
 try simp (disch:=omega) only [go_sem,e1]
 refine ⟨by omega,by omega,by omega,by omega,by omega,by omega,ab (Qx s p 4 hn1' (by omega)) (by simp [go_sem]) ?_⟩
 try simp (disch:=omega) only [go_sem,jF,↓reduceIte]
 refine ab (mN (s.extract n p) (by simp; omega)) (by simp [go_sem]) ?_
 try simp (disch:=omega) only [go_sem,jF,↓reduceIte]
 refine bn (fun h5=>?_) (fun h5=>?_) <;> try simp (disch:=omega) only [go_sem,jF,jG,jH,↓reduceIte,u0,hbk,hfl,cU,jQ,kl]
 ·refine bad _ 8 (by rw [hdN,if_pos h5])
 rw [if_neg (by omega)] at hdN
 have h20:@At=@At:=rfl
 refine bd [5,6,11,12,13,70,71,72,73,74,75,76,77,78,79,80,81,82,83,84,85,86,87,88,89,90,91,92,93] (by kernel_rfl) (aP k).length (fun i e σ=>e 70=.int .i64 i∧σ.n=n1∧σ.ob 0=some ⟨0,21,32,false,true,[lj .nil (qu 0)]⟩∧σ.ob i1=some ⟨g1,1,RE,false,true,(aP k).map fun o=>.ptr 1 1 21 0 o⟩∧
  σ.ob 1=some ⟨1,21,32,false,true,[lj .nil (w8 (qu k) ((aP k).take i) (dv s n i))]⟩∧(dv s n i).all vB=true) ?_ ?_
 ·exact ⟨(by first | rfl | (simp (disch:=omega) only [go_sem,jA,jB,jC,jD,jE,jF,jG,jH,jI,jJ,↓reduceIte,reduceCtorEq,jP,jO,jM,jN]; try rfl)),rfl,u0,hi1o,u1,rfl⟩
 clear u0 u1 hi1o
 rintro i fe ob m c hi hm ⟨h70,rfl,v0,v1,v2,hall⟩
 simp (maxSteps:=1000000) only [go_sem,jF,↓reduceIte] at h70 v0 v1 v2
 try simp (disch:=omega) only [go_sem,jF,↓reduceIte,h70]
 refine aj (fun hlt=>?_) (fun hge=>?_)
 ·have hil:i<(aP k).length:=by omega
  have hgo:(aP k)[i]?=some (aP k)[i]:=List.getElem?_eq_getElem hil
  have hok:E1 (aP k)[i]:=xX (List.getElem_mem hil)
  have htk:(aP k).take (i+1)=(aP k).take i++[(aP k)[i]]:=eS _ _ hil
  generalize (aP k)[i]=o at *
  have q1:((aP k).map fun o=>AV.ptr 1 1 21 0 o)[i]?=some (.ptr 1 1 21 0 o):=by rw [List.getElem?_map,hgo]; rfl
  have ho21:o+1≤21:=by unfold E1 at hok; omega
  have hst:=Gh .nil (w8 (qu k) ((aP k).take i) (dv s n i)) hok (sJ s (n+1+5 * i) 5)
  obtain ⟨j,hj⟩:∃ j:Nat,j=n+1+5 * i:=⟨_,rfl⟩
  have hji:(n:Int)+1+5 * i=j:=by omega
  have e4:((j:Int)+5).toNat=j+5:=by omega
  have e5:(j:Int).toNat=j:=by omega
  rw [←hj] at hst
  try simp (disch:=omega) only [go_sem,jF,jH,↓reduceIte,reduceCtorEq,jO,v1,q1,hji,e4,e5]
  refine ⟨by omega,by omega,by omega,by omega,by omega,ab (Qx s j 5 (by omega) (by omega)) (by simp [go_sem]) ?_⟩
  have hgd:=Ib .nil (sI (w8 (qu k) ((aP k).take i) (dv s n i)) o (sJ s j 5)) hok
  have hci:cI (sI (w8 (qu k) ((aP k).take i) (dv s n i)) o (sJ s j 5)) o=sJ s j 5:=QL _ hok _
  have hb5:=K7 s j 5 (by omega)
  try simp (disch:=omega) only [go_sem,jF,jH,↓reduceIte,v2,hst,hgd,hci]
  refine ⟨by omega,by omega,?_⟩
  refine aj (fun h7=>?_) (fun h7=>?_) <;> try simp (disch:=omega) only [go_sem,jF,jG,jH,↓reduceIte,reduceCtorEq,jO,v0,hbk,hfl,cU,jQ,kl]
  ·have hbadv:(dv s n (aP k).length).all vB=false:=by
    rw [List.all_eq_false]
    refine ⟨sJ s j 5,List.mem_map.2 ⟨i,List.mem_range.2 hil,by rw [hj]⟩,?_⟩
    simp [vB]; omega
   refine bad _ 49 (by rw [hdN,hbadv,if_neg (by simp)])
  try simp (disch:=omega) only [go_sem,jA,jB,jC,jD,jE,jF,jG,jH,jI,jJ,↓reduceIte,reduceCtorEq,jO,jM,jN,jK,jL,h70]
  simp only at hi1' hn1
  refine aF m hil (Nat.le_refl _) ⟨(by first | rfl | (simp (disch:=omega) only [go_sem,jA,jB,jC,jD,jE,jF,jG,jH,jI,jJ,↓reduceIte,reduceCtorEq,jP,jO,jM,jN]; try rfl)),rfl,?_,?_,?_,?_⟩
  ·rw [aX (show 0<m by omega),aa _ _ _ _ (by omega)]; exact v0
  ·rw [aX (show i1<m by omega),aa _ _ _ _ (by omega)]; exact v1
  ·rw [aX (show 1<m by omega),ay,htk,wJ,Bz _ _ _ _ _ (by rw [Az,List.length_take]; omega),←hj]
  ·rw [wJ,List.all_append,hall,←hj]; simp [vB]; omega
 obtain rfl:i=(aP k).length:=by omega
 rw [List.take_length] at v2
 rw [if_pos hall] at hdN
 try simp (disch:=omega) only [go_sem,jF,jH,↓reduceIte,jO,v0,v2,kl,jQ]
 refine ⟨rfl,rfl,?_⟩
 rw [hdN]
 have e9:(p:Int)+4=(p+4:Nat):=by omega
 rw [e9]
 exact aA.tu (.cons (Cq (Gj _ _ _ rfl fun o ho=>xX ho)) (.cons (aA.e rfl) (.cons (aA.e rfl) .nil)))
theorem tE (s:ByteArray) (r:Rc) (hs:s.size≤4611686018427387904) (hr:r.sg.length≤9223372036854775807):PC prog vI [.str s,fD r] (.tuple [.str (Jx s r).1,.int .i64 (Jx s r).2]):=by
 have hE:=lH r hr
 have hfl:=mK (E:=.list 1 (ints r.sg)) r rfl
 have hpr:(lj (.list 1 (ints r.sg)) r).cG=true:=rfl
 have hsz:=BV r
 refine ae wv (by simp) ?_
 simp only [nq,fD] at hE ⊢
 try simp (disch:=omega) only [go_sem,jF,jH,↓reduceIte,reduceCtorEq,hfl,cU,kl]
 refine ab hE (by simp [hpr]) ?_
 cases hv:bl r
 ·rw [oa,Jx,hv]
  try simp (disch:=omega) only [go_sem,jA,jF,↓reduceIte,reduceCtorEq]
  exact aA.pure rfl
 ·rw [oa,Jx,hv]
  try simp (disch:=omega) only [go_sem,jF,↓reduceIte,reduceCtorEq]
  refine ⟨by omega,aA.pure rfl⟩
def zL (s:ByteArray) (k:Int):ByteArray:=s.extract 0 (min (max k 0) s.size).toNat
def sP (s:ByteArray) (k m:Int):ByteArray:=zL s k++zL (s.extract (zL s k).size s.size) m
def eH (s:ByteArray):Nat→Int→List Rc × Int
 | 0,a=>([],a)
 | f+1,a=>if (dW s a).2.2≠0 then ([],a) else ((dW s a).1 :: (eH s f (dW s a).2.1).1,(eH s f (dW s a).2.1).2)
def dP (s:ByteArray):List Rc × Int:=eH s s.size 0
theorem GC (s:ByteArray) (a:Int) (h:(dW s a).2.2=0):0≤a∧a+5≤(dW s a).2.1∧(dW s a).2.1≤s.size:=by
 unfold dW at h ⊢
 split
 ·rename_i h1; rw [if_pos h1] at h; simp at h
 ·rename_i h1
  rw [if_neg h1] at h
  split
  ·rename_i h2; rw [if_pos h2] at h; simp at h
  ·rename_i h2
   rw [if_neg h2] at h
   unfold FM at h ⊢
   simp only at h ⊢
   generalize hk:(sb s).getD a.toNat 0=k at h ⊢
   by_cases c1:aP k=[]
   ·rw [if_pos c1] at h; simp at h
   rw [if_neg c1] at h ⊢
   by_cases c2:s.size<a.toNat+1+5 * (aP k).length+4
   ·rw [if_pos c2] at h; simp at h
   rw [if_neg c2] at h ⊢
   by_cases c3:sJ s (a.toNat+1+5 * (aP k).length) 4≠u4 (s.extract a.toNat (a.toNat+1+5 * (aP k).length))
   ·rw [if_pos c3] at h; simp at h
   rw [if_neg c3] at h ⊢
   by_cases c4:(dv s a.toNat (aP k).length).all vB=true
   ·rw [if_pos c4]; simp only; omega
   ·rw [if_neg c4] at h; simp at h
theorem yA (s:ByteArray):∀ (f:Nat) (a:Int),0≤a→a≤s.size→(eH s f a).1.length≤s.size-a.toNat
 | 0,a,_,_=>by simp [eH]
 | f+1,a,h0,h1=>by
  rw [eH]
  split
  ·simp
  ·rename_i h
   have hd:=GC s a (by simpa using h)
   have:=yA s f (dW s a).2.1 (by omega) hd.2.2
   simp only [List.length_cons]; omega
theorem xe (s:ByteArray) (hs:s.size≤100000000000):PC prog yV [.str s] (.tuple [.list 21 (E0 (dP s).1),.int .i64 (dP s).2]):=by
 refine ae Af (by simp) ?_
 simp only [qk]
 try simp (disch:=omega) only [go_sem]
 have hb:=yA s s.size 0 (by omega) (by omega)
 refine bd [2,3,4,5,6,7,8,9,10,11,12,13,14,15,16,17,18,19,20,21,22,23,24] (by kernel_rfl) (dP s).1.length (fun i e σ=>∃ l f a,l.length=i∧dP s=(l++(eH s f a).1,(eH s f a).2)∧0≤a∧a≤s.size∧(s.size:Int)-a≤f∧e 5=.int .i64 a∧∃ X,At e 4 X∧cd 21 32 σ (E0 l) X) ?_ ?_
 ·exact ⟨[],s.size,0,rfl,rfl,by omega,by omega,by omega,(by first | rfl | (simp (disch:=omega) only [go_sem,jA,jB,jC,jD,jE,jF,jG,jH,jI,jJ,↓reduceIte,reduceCtorEq,jP,jO,jM,jN]; try rfl)),.nil,(by simp only [At]; try simp (disch:=omega) only [go_sem,jF,↓reduceIte]),cd.nil⟩
 rintro i fe ob m c hi hm ⟨l,f,a,rfl,hO,h0,h1,hf,h5,X,h4,hX⟩
 simp (maxSteps:=1000000) only [go_sem,jF,↓reduceIte,At] at h5 h4
 try simp (disch:=omega) only [go_sem,jF,↓reduceIte,reduceCtorEq,h5]
 refine ab (tD s a (by omega)) (by simp [go_sem]) ?_
 rw [Oe]
 have hbk:=tn
 have hrep:∀ q p,iG 0 (fD q) (lj .nil p)=fD q:=fun _ _=>rfl
 have htk:∀ q,AV.agg ((fD q).cells.take 21)=fD q:=fun _=>rfl
 have htc:∀ q,(fD q).cells.take 21=(fD q).cells:=fun _=>rfl
 have htl:∀ q,(fD q).cells.length=21:=fun _=>rfl
 have htf:∀ q,(fD q).flat=true:=fun _=>rfl
 have hac:∀ q,AV.agg (fD q).cells=fD q:=fun _=>rfl
 have hfr:∀ v j,j<m→aZ ob m v j=ob j:=fun v j h=>aa _ _ _ _ (by omega)
 have hto:∀ q,(fD q).cells.all AV.one=true:=fun _=>rfl
 have htp:∀ q,(fD q).cells.all AV.ec=true:=fun _=>rfl
 try simp (disch:=omega) only [go_sem,jF,jH,↓reduceIte,hbk,hrep,htf,htl]
 refine bn (fun h7=>?_) (fun h7=>?_) <;> try simp (disch:=omega) only [go_sem,jF,jH,↓reduceIte,h4,htc,htl,hto,htp,hac,nJ]
 ·have he:eH s f a=([],a):=by
   cases f with
   | zero=>rfl
   | succ f=>rw [eH,if_pos h7]
  rw [hO,he,List.append_nil]
  exact aA.tu (.cons (hX.mL (fun j hj _=>hfr _ j hj) (KN _) (fun x hx=>NR _ x hx)) (.cons (aA.e rfl) .nil))
 have h7':(dW s a).2.2=0:=by simpa using h7
 have hd:=GC s a h7'
 obtain ⟨f,rfl⟩:∃ f',f=f'+1:=⟨f-1,by omega⟩
 rw [eH,if_neg (by simp [h7'])] at hO
 have hbd:=yA s f (dW s a).2.1 (by omega) hd.2.2
 have hll:l.length+((eH s f (dW s a).2.1).1.length+1)=(dP s).1.length:=by rw [hO]; simp
 have hle:(dP s).1.length≤s.size:=by have:dP s=eH s s.size 0:=rfl; rw [this]; simp at hb; omega
 refine bz (b:=184) (hX.move (Nat.le_succ _) fun j hj _=>hfr _ j hj) (by rw [eY]; omega) (by rw [eY]; omega) fun Y τ hY kY=>?_
 obtain ⟨ob5,m5,c5⟩:=τ
 try simp (disch:=omega) only [go_sem,jF,↓reduceIte]
 refine aF m5 (by omega) (Nat.zero_le _) ⟨l++[(dW s a).1],f,(dW s a).2.1,by simp,?_,by omega,hd.2.2,by omega,(by first | rfl | (simp (disch:=omega) only [go_sem,jA,jB,jC,jD,jE,jF,jG,jH,jI,jJ,↓reduceIte,reduceCtorEq,jP,jO,jM,jN]; try rfl)),Y,(by simp only [At]; try simp (disch:=omega) only [go_sem,jF,↓reduceIte]),?_⟩
 ·rw [hO,List.append_assoc]; rfl
 ·rw [show E0 (l++[(dW s a).1])=E0 l++[fD (dW s a).1] by simp [E0]]
  exact hY.tr
theorem JR (a b:Rc) (ha:a.sg.length≤9223372036854775807):PC prog CH [fD a,fD b] (.bool (decide (a=b))):=by
 refine ae Dh (by simp) ?_
 simp only [uw,fD,lj,fI]
 try simp (disch:=omega) only [go_sem,jF,jG,jH,↓reduceIte,reduceCtorEq]
 refine uj rfl (fun h0=>?_) (fun h0=>?_) <;> try simp (disch:=omega) only [go_sem,jF,jG,jH,↓reduceIte]
 ·exact aA.of_eq (by rw [ew Rc.Da h0]) rfl
 refine uj rfl (fun h1=>?_) (fun h1=>?_) <;> try simp (disch:=omega) only [go_sem,jF,jG,jH,↓reduceIte]
 ·exact aA.of_eq (by rw [ew Rc.site h1]) rfl
 refine uj rfl (fun h2=>?_) (fun h2=>?_) <;> try simp (disch:=omega) only [go_sem,jF,jG,jH,↓reduceIte]
 ·exact aA.of_eq (by rw [ew Rc.fr h2]) rfl
 refine uj rfl (fun h3=>?_) (fun h3=>?_) <;> try simp (disch:=omega) only [go_sem,jF,jG,jH,↓reduceIte]
 ·exact aA.of_eq (by rw [ew Rc.to h3]) rfl
 refine uj rfl (fun h4=>?_) (fun h4=>?_) <;> try simp (disch:=omega) only [go_sem,jF,jG,jH,↓reduceIte]
 ·exact aA.of_eq (by rw [ew Rc.rel h4]) rfl
 refine uj rfl (fun h5=>?_) (fun h5=>?_) <;> try simp (disch:=omega) only [go_sem,jF,jG,jH,↓reduceIte]
 ·exact aA.of_eq (by rw [ew Rc.wd h5]) rfl
 try simp (disch:=omega) only [go_sem,aw]
 refine bn (fun h6=>?_) (fun h6=>?_) <;> try simp (disch:=omega) only [go_sem,jF,jG,jH,↓reduceIte,aw]
 ·exact aA.of_eq (by rw [ew (fun r=>r.sg.length) (fun e=>h6 (by rw [e]))]) rfl
 have hl:a.sg.length=b.sg.length:=by omega
 refine bd [4,7,64,65,66,67,68,69,70,71,72,73,74,75,76,77,78] (by kernel_rfl) a.sg.length (fun k e σ=>e 64=.int .i64 k∧4≤σ.n∧(∀ j,j<k→a.sg[j]?=b.sg[j]?)∧σ.ob 0=some ⟨0,21,32,false,true,[fD a]⟩∧σ.ob 1=some ⟨1,21,32,false,true,[fD b]⟩∧
  σ.ob 3=some ⟨3,7,28,false,true,[.agg [.int .i64 a.Da,.int .i64 a.site,.int .i64 a.fr,.int .i64 a.to,.int .i64 a.rel,.list 1 (ints a.sg),.bool a.wd]]⟩∧
  σ.ob 2=some ⟨2,7,28,false,true,[.agg [.int .i64 b.Da,.int .i64 b.site,.int .i64 b.fr,.int .i64 b.to,.int .i64 b.rel,.list 1 (ints b.sg),.bool b.wd]]⟩) ?_ ?_
 ·exact ⟨(by first | rfl | (simp (disch:=omega) only [go_sem,jA,jB,jC,jD,jE,jF,jG,jH,jI,jJ,↓reduceIte,reduceCtorEq,jP,jO,jM,jN]; try rfl)),Nat.le_refl _,fun j hj=>by omega,(by first | rfl | (simp (disch:=omega) only [go_sem,jA,jB,jC,jD,jE,jF,jG,jH,jI,jJ,↓reduceIte,reduceCtorEq,jP,jO,jM,jN]; try rfl)),(by first | rfl | (simp (disch:=omega) only [go_sem,jA,jB,jC,jD,jE,jF,jG,jH,jI,jJ,↓reduceIte,reduceCtorEq,jP,jO,jM,jN]; try rfl)),(by first | rfl | (simp (disch:=omega) only [go_sem,jA,jB,jC,jD,jE,jF,jG,jH,jI,jJ,↓reduceIte,reduceCtorEq,jP,jO,jM,jN]; try rfl)),(by first | rfl | (simp (disch:=omega) only [go_sem,jA,jB,jC,jD,jE,jF,jG,jH,jI,jJ,↓reduceIte,reduceCtorEq,jP,jO,jM,jN]; try rfl))⟩
 rintro k fe ob m c hk hm ⟨hki,hm4,hj,u0,u1,u3,u2⟩
 simp (maxSteps:=1000000) only [go_sem,jF,↓reduceIte,fD,lj,fI] at hki hm hm4 u0 u1 u2 u3
 try simp (disch:=omega) only [go_sem,jF,↓reduceIte,hki]
 refine aj (fun hlt=>?_) (fun hge=>?_)
 ·have hka:k<a.sg.length:=by omega
  have hga:a.sg[k]?=some a.sg[k]:=List.getElem?_eq_getElem hka
  have hgb:b.sg[k]?=some b.sg[k]:=List.getElem?_eq_getElem (by omega)
  try simp (disch:=omega) only [go_sem,jF,jG,jH,↓reduceIte,u2,u3,aw,bH,hga,hgb,Option.map_some]
  refine ⟨by omega,by omega,by omega,by omega,?_⟩
  refine bn (fun hne=>?_) (fun heq=>?_) <;> try simp (disch:=omega) only [go_sem,jF,↓reduceIte,jO]
  ·exact aA.of_eq (by rw [ew (fun r=>r.sg[k]?) (fun e=>hne (by simpa [hga,hgb] using e))]) rfl
  ·refine aF m hka (by omega) ⟨(by first | rfl | (simp (disch:=omega) only [go_sem,jA,jB,jC,jD,jE,jF,jG,jH,jI,jJ,↓reduceIte,reduceCtorEq,jP,jO,jM,jN]; try rfl)),by simp only [St.aC]; omega,fun j hj'=>?_,?_,?_,?_,?_⟩
   ·by_cases e:j=k
    ·subst e; rw [hga,hgb]; exact congrArg some heq
    ·exact hj j (by omega)
   ·simp only [St.aC,fD,lj,fI]; rw [if_pos (by omega)]; exact u0
   ·simp only [St.aC,fD,lj,fI]; rw [if_pos (by omega)]; exact u1
   ·simp only [St.aC]; rw [if_pos (by omega)]; exact u3
   ·simp only [St.aC]; rw [if_pos (by omega)]; exact u2
 obtain rfl:k=a.sg.length:=by omega
 have hsg:a.sg=b.sg:=ft hl fun j hj'=>hj j (by omega)
 clear hge hj hki u2 u3
 try simp (disch:=omega) only [go_sem,jF,jH,↓reduceIte,u0,u1]
 refine bB rfl (fun h10=>?_) (fun h10=>?_) <;> try simp (disch:=omega) only [go_sem,jF,jG,jH,↓reduceIte,u0,u1]
 rotate_left
 ·exact aA.of_eq (by rw [ew Rc.k h10]) rfl
 refine K8 rfl (fun h11=>?_) (fun h11=>?_) <;> try simp (disch:=omega) only [go_sem,jF,jG,jH,↓reduceIte,u0,u1]
 rotate_left
 ·exact aA.of_eq (by rw [Fk h11 fun e=>by subst e; simp]) rfl
 refine bB rfl (fun h12=>?_) (fun h12=>?_) <;> try simp (disch:=omega) only [go_sem,jF,jG,jH,↓reduceIte,u0,u1]
 rotate_left
 ·exact aA.of_eq (by rw [ew Rc.D5 h12]) rfl
 refine bB rfl (fun h13=>?_) (fun h13=>?_) <;> try simp (disch:=omega) only [go_sem,jF,jG,jH,↓reduceIte,u0,u1]
 rotate_left
 ·exact aA.of_eq (by rw [ew Rc.code h13]) rfl
 refine bB rfl (fun h14=>?_) (fun h14=>?_) <;> try simp (disch:=omega) only [go_sem,jF,jG,jH,↓reduceIte,u0,u1]
 rotate_left
 ·exact aA.of_eq (by rw [ew Rc.time h14]) rfl
 refine aA.of_eq ?_ rfl
 congr 1
 rw [Bool.eq_iff_iff,decide_eq_true_eq]
 simp only [Bool.and_eq_true,decide_eq_true_eq] at h11 ⊢
 clear u0 u1
 obtain ⟨⟩:=a
 obtain ⟨⟩:=b
 simp only at *
 simp_all
theorem Hk (s:ByteArray) (a b:Nat) (h:a+b≤s.size):s.extract 0 a++(s.extract a s.size).extract 0 b=s.extract 0 (a+b):=by
 rw [ByteArray.extract_extract,Nat.add_zero,ByteArray.extract_append_extract]
 congr 1 <;> omega
theorem yC (s:ByteArray) (k m:Int) (hs:s.size≤4611686018427387904):PC prog AB [.str s,.int .i64 k,.int .i64 m] (.str (sP s k m)):=by
 refine ae AY (by simp) ?_
 simp only [rJ]
 try simp (disch:=omega) only [go_sem,jF,↓reduceIte,reduceCtorEq,jO]
 refine ⟨by omega,by omega,?_⟩
 obtain ⟨q,hq⟩:∃ q,(zL s k).size=q:=⟨_,rfl⟩
 have hz:q=(min (max k 0) s.size).toNat:=by rw [←hq]; simp [zL]; omega
 have hc:zL s k=s.extract 0 q:=by rw [hz]; rfl
 have hz2:(s.extract q s.size).size=s.size-q:=by rw [ByteArray.size_extract]; omega
 have e:sP s k m=s.extract 0 (q+(min (max m 0) (s.size-q:Nat)).toNat):=by
  rw [←Hk s _ _ (by omega),sP,hq,hc,zL,hz2]
 rw [e,show (max 0 (min k (s.size:Int))+max 0 (min m ((s.size:Int)-max 0 (min k s.size)))).toNat=q+(min (max m 0) (s.size-q:Nat)).toNat by omega]
 exact aA.pure rfl
end Go.Proofs.Try
