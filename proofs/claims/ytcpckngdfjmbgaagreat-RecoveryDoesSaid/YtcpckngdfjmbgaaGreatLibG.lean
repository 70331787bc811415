/- OWN WORK, put together by tools/asm.py, seat.py, mini.py. -/
import Derived.Test.YtcpckngdfjmbgaaGreatLibF
set_option linter.unusedSimpArgs false
set_option linter.unusedVariables false
set_option maxRecDepth 100000
set_option maxHeartbeats 1000000
namespace Go.Proofs.Try
open Go.Ab Go Go.Proofs.Tryz
open Int renaming reduceEq → jA, reduceLT → jB, reduceLE → jC, reduceToNat → jD
open Go.Ab renaming iP → jM, iQ → jN, lV → jO, iR → jP
open Nat renaming reduceLT → jE, reduceEqDiff → jF, reduceAdd → jG, reduceLeDiff → jH, reduceSub → jI, reduceMul → jJ, sub_zero → jK, sub_self → jL
abbrev Cn:TypeId:=3
theorem gN (σ:St) (L:List AV) (hl:L.length * 8≤140737488355328):HC prog jy [.list 1 L] σ (G1 σ 1 Cn L):=by
 refine aL jV (by simp) ?_
 obtain ⟨ob,n,c⟩:=σ
 simp only [jS,go_sem,↓reduceIte,reduceCtorEq]
 refine uN (fun h=>?_) (fun h=>?_)
 ·subst h
  refine ⟨?_,?_⟩
  ·try simp (disch:=omega) only [go_sem,↓reduceIte]
   refine ⟨_,_,rfl,Nat.le_succ _,Nat.lt_succ_self _,(by first | rfl | (simp (disch:=omega) only [go_sem,↓reduceIte]; try rfl)),fun i hi=>?_⟩
   simp only at hi
   try simp (disch:=omega) only [go_sem,jM]
  ·try simp (disch:=omega) only [go_sem,jF,jH,jJ,↓reduceIte,reduceCtorEq]
   repeat (refine And.intro (by first | omega | (rw [n4]; omega) | (simp [maxLen]; done) | (simp [maxLen]; omega)) ?_)
   refine ⟨_,_,rfl,Nat.le_succ _,Nat.lt_succ_self _,(by first | rfl | (simp (disch:=omega) only [go_sem,↓reduceIte]; try rfl)),fun i hi=>?_⟩
   simp only at hi
   try simp (disch:=omega) only [go_sem,jM]
 ·try simp (disch:=omega) only [go_sem,jF,↓reduceIte,reduceCtorEq]
  repeat (refine And.intro (by first | omega | (rw [n4]; omega) | (simp [maxLen]; done) | (simp [maxLen]; omega)) ?_)
  refine ⟨_,_,rfl,Nat.le_succ _,Nat.lt_succ_self _,(by first | rfl | (simp (disch:=omega) only [go_sem,↓reduceIte]; try rfl)),fun i hi=>?_⟩
  simp only at hi
  try simp (disch:=omega) only [go_sem,jM]
theorem pE (L:List AV) (hl:L.length * 8≤140737488355328) (hp:∀ x∈L,x.cL=true) (hk:∀ x∈L,mF 1 x):PC prog jy [.list 1 L] (.list 1 L):=
 jh jV ((gN St.empty L hl).mono fun r τ ⟨id,g,h1,_,_,h2,_⟩=>by rw [h1]; exact aw.dv h2 rfl hp hk)
abbrev C7:TypeId:=131
theorem eW (σ:St) (L:List AV) (hl:L.length * 24≤140737488355328):HC prog fP [.list 3 L] σ (G1 σ 3 C7 L):=by
 refine aL gz (by simp) ?_
 obtain ⟨ob,n,c⟩:=σ
 simp only [gp,go_sem,↓reduceIte,reduceCtorEq]
 refine uN (fun h=>?_) (fun h=>?_)
 ·subst h
  refine ⟨?_,?_⟩
  ·try simp (disch:=omega) only [go_sem,↓reduceIte]
   refine ⟨_,_,rfl,Nat.le_succ _,Nat.lt_succ_self _,(by first | rfl | (simp (disch:=omega) only [go_sem,↓reduceIte]; try rfl)),fun i hi=>?_⟩
   simp only at hi
   try simp (disch:=omega) only [go_sem,jM]
  ·try simp (disch:=omega) only [go_sem,jF,jH,jJ,↓reduceIte,reduceCtorEq]
   repeat (refine And.intro (by first | omega | (rw [n4]; omega) | (simp [maxLen]; done) | (simp [maxLen]; omega)) ?_)
   refine ⟨_,_,rfl,Nat.le_succ _,Nat.lt_succ_self _,(by first | rfl | (simp (disch:=omega) only [go_sem,↓reduceIte]; try rfl)),fun i hi=>?_⟩
   simp only at hi
   try simp (disch:=omega) only [go_sem,jM]
 ·try simp (disch:=omega) only [go_sem,jF,↓reduceIte,reduceCtorEq]
  repeat (refine And.intro (by first | omega | (rw [n4]; omega) | (simp [maxLen]; done) | (simp [maxLen]; omega)) ?_)
  refine ⟨_,_,rfl,Nat.le_succ _,Nat.lt_succ_self _,(by first | rfl | (simp (disch:=omega) only [go_sem,↓reduceIte]; try rfl)),fun i hi=>?_⟩
  simp only at hi
  try simp (disch:=omega) only [go_sem,jM]
theorem mA (L:List AV) (hl:L.length * 24≤140737488355328) (hp:∀ x∈L,x.cL=true) (hk:∀ x∈L,mF 3 x):PC prog fP [.list 3 L] (.list 3 L):=
 jh gz ((eW St.empty L hl).mono fun r τ ⟨id,g,h1,_,_,h2,_⟩=>by rw [h1]; exact aw.dv h2 rfl hp hk)
theorem uu (key kind:Int) (d:Dv):PC prog wH [.int .i64 key,.int .i64 kind,gF d] (.int .i64 (sk key kind d)):=by
 refine ae xo (by simp) ?_
 simp only [nX,gF,jc]
 try simp (disch:=omega) only [go_sem,jF,jG,jH,↓reduceIte,reduceCtorEq]
 have hL:[AV.int .i64 key,.int .i64 kind,.int .i64 d.id,.int .i64 d.site,.int .i64 d.fr,.int .i64 d.to,.int .i64 d.rel]=ints (AJ key kind d):=rfl
 have h7:(AJ key kind d).length=7:=rfl
 rw [hL]
 generalize hLL:AJ key kind d=L at *
 refine bw [7,9,23,24,25,26,27,28,29,30,31,32,33,34] (by kernel_rfl) 7 (fun i e _=>e 23=.int .i64 i∧∃ c,e 7=.int .i64 c∧0≤c∧c<2147483647∧sk key kind d=qw c (L.drop i)) ?_ ?_
 ·exact ⟨(by first | rfl | (simp (disch:=omega) only [go_sem,jA,jB,jC,jD,jE,jF,jG,jH,jI,jJ,↓reduceIte,reduceCtorEq,jP,jO,jM,jN]; try rfl)),7,(by first | rfl | (simp (disch:=omega) only [go_sem,jA,jB,jC,jD,jE,jF,jG,jH,jI,jJ,↓reduceIte,reduceCtorEq,jP,jO,jM,jN]; try rfl)),by omega,by omega,by rw [sk,hLL]; rfl⟩
 rintro i fe ob c hi ⟨h24,x,hx,x0,x1,hc⟩
 simp (maxSteps:=1000000) only [go_sem,jF,↓reduceIte] at h24 hx
 try simp (disch:=omega) only [go_sem,jF,↓reduceIte,h24]
 refine ah (fun hlt=>?_) (fun hge=>?_)
 ·have hil:i<L.length:=by omega
  have hgi:=bD L i
  rw [List.getElem?_eq_getElem hil] at hgi
  rw [List.drop_eq_getElem_cons hil,qw] at hc
  generalize L[i]=n at *
  have b1:=tJ n
  generalize hy:n.tmod 2147483647=y at *
  have b2:=mW (y+2147483647) (by omega)
  generalize hz:(y+2147483647).tmod 2147483647=z at *
  have b3:=mW (31 * x+z) (by omega)
  have hsub:sub false 1 (i * 1) (.agg (ints L))=.int .i64 n:=by
   simp only [sub,AV.cells,Nat.mul_one]
   rw [List.getD_eq_getElem?_getD,hgi]; rfl
  try simp (disch:=omega) only [go_sem,jA,jF,↓reduceIte,jO,hx,au,h7,hy,hz,hsub]
  refine ⟨by omega,by omega,by omega,?_⟩
  exact bl (by omega) ⟨(by first | rfl | (simp (disch:=omega) only [go_sem,jA,jB,jC,jD,jE,jF,jG,jH,jI,jJ,↓reduceIte,reduceCtorEq,jP,jO,jM,jN]; try rfl)),_,(by first | rfl | (simp (disch:=omega) only [go_sem,jA,jB,jC,jD,jE,jF,jG,jH,jI,jJ,↓reduceIte,reduceCtorEq,jP,jO,jM,jN]; try rfl)),b3.1,b3.2,hc⟩
 obtain rfl:i=7:=by omega
 rw [List.drop_of_length_le (by omega),qw] at hc
 try simp (disch:=omega) only [go_sem,jB,jF,↓reduceIte,hx]
 rw [hc]
 exact aw.pure rfl
theorem zH (l:List Int) (x:Int) (f:Nat) (fs:List AV) (hl:l.length≤4611686018427387904) (hs:KP l)
  (hp:∀ z∈fs,z.cL=true) (hf:∀ (i:Nat) (y:Int),l[i]?=some y→PC prog f (fs++[.int .i64 i]) (.bool (decide (x≤y)))) :
  PC prog Bv [.int .i64 l.length,.qe f fs] (.int .i64 (da l x)):=by
 refine ae BR (by simp) ?_
 simp only [sm,go_sem,jF,↓reduceIte,reduceCtorEq]
 refine xp [5,6,7,9,10,11,12,13,14,15,16,17,18,19,20,21,22,23,24] (by kernel_rfl) (fun k e _=>∃ i j:Nat,e 5=.int .i64 i∧e 6=.int .i64 j∧i≤j∧j≤l.length∧k=j-i∧(∀ k,k<i→∀ y,l[k]?=some y→y<x)∧(∀ k,j≤k→∀ y,l[k]?=some y→x≤y)) l.length ?_ ?_
 ·exact ⟨0,l.length,(by first | rfl | (simp (disch:=omega) only [go_sem,jA,jB,jC,jD,jE,jF,jG,jH,jI,jJ,↓reduceIte,reduceCtorEq,jP,jO,jM,jN]; try rfl)),(by first | rfl | (simp (disch:=omega) only [go_sem,jA,jB,jC,jD,jE,jF,jG,jH,jI,jJ,↓reduceIte,reduceCtorEq,jP,jO,jM,jN]; try rfl)),by omega,by omega,by omega,fun k hk=>by omega,fun k hk y hy=>by have:=(List.getElem?_eq_some_iff.1 hy).1; omega⟩
 ·rintro r fe ob c ⟨i,j,h7,h8,hij,hjl,rfl,hlo,hhi⟩
  simp (maxSteps:=1000000) only [go_sem,jF,↓reduceIte] at h7 h8
  try simp (disch:=omega) only [go_sem,jF,↓reduceIte,h7,h8]
  refine ah (fun hlt=>?_) (fun hge=>?_)
  ·have hij2:i<j:=by omega
   try simp (disch:=omega) only [go_sem,jF,↓reduceIte,reduceCtorEq,jO,wrap_u64,FK,Option.some.injEq,exists_eq_left']
   generalize hm:(i+j) / 2=m
   have hmi:((i:Int)+j) / 2=(m:Int):=by omega
   have hg:l[m]?=some l[m]:=List.getElem?_eq_getElem (by omega)
   have hfm:=hf m _ hg
   try simp (disch:=omega) only [go_sem,hmi]
   refine ab hfm (by simp only [List.mem_append,List.mem_singleton]; rintro a (h | rfl); exact hp a h; rfl) ?_
   try simp (disch:=omega) only [go_sem,↓reduceIte]
   refine aZ (fun hlt=>?_) (fun hge=>?_)
   ·try simp (disch:=omega) only [go_sem,jF,↓reduceIte,jO]
    refine ⟨j-(m+1),by omega,_,Nat.le_refl _,rfl,m+1,j,(by first | rfl | (simp (disch:=omega) only [go_sem,jA,jB,jC,jD,jE,jF,jG,jH,jI,jJ,↓reduceIte,reduceCtorEq,jP,jO,jM,jN]; try rfl)),(by first | rfl | (simp (disch:=omega) only [go_sem,jA,jB,jC,jD,jE,jF,jG,jH,jI,jJ,↓reduceIte,reduceCtorEq,jP,jO,jM,jN]; try rfl)),by omega,by omega,by omega,fun k hk y hy=>?_,hhi⟩
    by_cases e:k=m
    ·subst e; rw [hg] at hy; obtain rfl:=Option.some.inj hy; omega
    ·have:=hs k m (by omega) y _ hy hg; omega
   ·try simp (disch:=omega) only [go_sem,jF,↓reduceIte]
    refine ⟨m-i,by omega,_,Nat.le_refl _,rfl,i,m,(by first | rfl | (simp (disch:=omega) only [go_sem,jA,jB,jC,jD,jE,jF,jG,jH,jI,jJ,↓reduceIte,reduceCtorEq,jP,jO,jM,jN]; try rfl)),(by first | rfl | (simp (disch:=omega) only [go_sem,jA,jB,jC,jD,jE,jF,jG,jH,jI,jJ,↓reduceIte,reduceCtorEq,jP,jO,jM,jN]; try rfl)),by omega,by omega,by omega,hlo,fun k hk y hy=>?_⟩
    by_cases e:k=m
    ·subst e; rw [hg] at hy; obtain rfl:=Option.some.inj hy; omega
    ·have:=hs m k (by omega) _ y hg hy; omega
  ·have hij2:i=j:=by omega
   subst hij2
   have hb:=AQ l x i hjl hlo hhi
   rw [hb]
   try simp (disch:=omega) only [go_sem,jF,↓reduceIte,jL]
   exact aw.pure rfl
theorem mD (l:List Pn) (x:Int) (i:Nat) (p:Pn) (hp:l[i]?=some p):PC prog fB [.agg [.list 3 (pR l),.int .i64 x],.int .i64 i] (.bool (decide (x≤p.id))):=by
 have hil:=(List.getElem?_eq_some_iff.1 hp).1
 refine ae nY (by simp) ?_
 simp only [fD,go_sem,jF,jG,jH,↓reduceIte,reduceCtorEq]
 try simp (disch:=omega) only [go_sem,↓reduceIte,aV,iI,hp,Option.map_some,rn]
 refine ⟨by omega,by omega,?_⟩
 try simp (disch:=omega) only [go_sem,jA,jB,jC,jD,jE,jF,jG,jH,jI,jJ,↓reduceIte,reduceCtorEq,jO,jM,jN,jK,jL]
 exact aw.pure rfl
def ids (l:List Pn):List Int:=l.map Pn.id
theorem LZ {l:List Pn} {x:Int} (hs:KP (ids l)):(∀ p,l[da (ids l) x]?=some p→p.id=x→l.find? (fun p=>decide (p.id=x))=some p)∧((∀ p,l[da (ids l) x]?=some p→p.id≠x)→l.find? (fun p=>decide (p.id=x))=none):=by
 refine ⟨fun p hp hx=>?_,fun h=>?_⟩
 ·obtain ⟨hi,rfl⟩:=List.getElem?_eq_some_iff.1 hp
  refine Fl hi ?_ (by simp [hx])
  rw [List.find?_eq_none]
  intro q hq
  obtain ⟨j,hj⟩:=List.getElem?_of_mem hq
  rw [List.getElem?_take] at hj
  split at hj
  ·rename_i hji
   have hj2:(ids l)[j]?=some q.id:=by simp [ids,hj]
   have:=List.not_of_lt_findIdx hji
   rw [List.getElem?_eq_some_iff] at hj2
   obtain ⟨_,e⟩:=hj2
   rw [e] at this
   simp at this ⊢
   omega
  ·cases hj
 ·rw [List.find?_eq_none]
  intro q hq
  obtain ⟨j,hj⟩:=List.getElem?_of_mem hq
  simp only [decide_eq_true_eq]
  intro e
  have hm:x∈ids l:=List.mem_map.2 ⟨q,hq,e⟩
  have:=(rh (ids l) x hs).2 hm
  simp only [ids,List.getElem?_map,Option.map_eq_some_iff] at this
  obtain ⟨p,hp,hx⟩:=this
  exact h p hp hx
theorem fL (K:Dk) (x:Int) (hl:K.ps.length≤4611686018427387904) (hs:KP (ids K.ps)):PC prog wE [.list 3 (pR K.ps),.int .i64 x] (.tuple [rn (cO K x).1,.bool (cO K x).2]):=by
 refine ae xl (by simp) ?_
 simp only [nU,go_sem,jF,jG,jH,↓reduceIte,reduceCtorEq]
 try simp (disch:=omega) only [go_sem,aV]
 have hS:=zH (ids K.ps) x fB [.agg [.list 3 (pR K.ps),.int .i64 x]] (by simpa [ids] using hl) hs (by simp [go_sem]) (fun i y hy=>by
  simp only [ids,List.getElem?_map,Option.map_eq_some_iff] at hy
  obtain ⟨p,hp,rfl⟩:=hy
  exact mD K.ps x i p hp)
 rw [show (ids K.ps).length=K.ps.length by simp [ids]] at hS
 have hb:=wZ (ids K.ps) x
 rw [show (ids K.ps).length=K.ps.length by simp [ids]] at hb
 obtain ⟨hf1,hf2⟩:=LZ (x:=x) hs
 generalize da (ids K.ps) x=i at *
 refine ab hS (by simp [go_sem]) ?_
 try simp (disch:=omega) only [go_sem,jF,↓reduceIte,reduceCtorEq,aV]
 refine bF rfl (fun h=>?_) (fun h=>?_)
 ·have e:K.ps.find? (fun p=>decide (p.id=x))=none:=hf2 fun p hp=>by have:=(List.getElem?_eq_some_iff.1 hp).1; omega
  try simp (disch:=omega) only [go_sem,jF,jG,jH,↓reduceIte,reduceCtorEq]
  have:cO K x=(Cw,false):=by rw [cO,e]
  rw [this]
  exact aw.pure rfl
 ·have hil:i<K.ps.length:=by omega
  have hg:K.ps[i]?=some K.ps[i]:=List.getElem?_eq_getElem hil
  generalize K.ps[i]=p at *
  try simp (disch:=omega) only [go_sem,jF,jH,↓reduceIte,reduceCtorEq,aV,iI,hg,Option.map_some,rn]
  refine ⟨by omega,by omega,?_⟩
  refine aZ (fun h2=>?_) (fun h2=>?_)
  ·have e:K.ps.find? (fun p=>decide (p.id=x))=none:=hf2 fun q hq=>by rw [hg] at hq; obtain rfl:=Option.some.inj hq; exact h2
   try simp (disch:=omega) only [go_sem,jF,jG,jH,↓reduceIte,reduceCtorEq]
   have:cO K x=(Cw,false):=by rw [cO,e]
   rw [this]
   exact aw.pure rfl
  ·have e:=hf1 p hg (by omega)
   try simp (disch:=omega) only [go_sem,jF,jG,jH,↓reduceIte,reduceCtorEq,aV,iI,hg,Option.map_some,rn]
   refine ⟨by omega,by omega,?_⟩
   try simp (disch:=omega) only [go_sem,jA,jB,jC,jD,jE,jF,jG,jH,jI,jJ,↓reduceIte,reduceCtorEq,jO,jM,jN,jK,jL]
   have:cO K x=(p,true):=by rw [cO,e]
   rw [this]
   exact aw.pure rfl
def xV (K:Dk):Bool:=decide (K.ps.length≤12)&&(List.range K.ps.length).all (F6 K)
def ub (d:Dv):Bool:=decide (0≤d.site)&&decide (d.site<6)&&decide (0≤d.fr)&&decide (d.fr≤d.to)&&decide (d.to≤16777216)&&decide (0≤d.rel)&&decide (d.rel≤1073741824)
def tO (K:Dk) (l:List Int):Bool:=decide (l.length≤2)&&l.all (fun s=>(cO K s).2)&&(decide (l.length<2)||!decide ((cM K l).getD 0 0=(cM K l).getD 1 0))
theorem OB (K:Dk) (d:Dv):gI K d=(ub d&&tO K d.sg):=by
 rw [Bool.eq_iff_iff]
 simp only [gI,ub,tO,iq,Bool.and_eq_true,Bool.or_eq_true,decide_eq_true_eq,Bool.not_eq_true',decide_eq_false_iff_not]
 constructor
 ·rintro ⟨⟨⟨⟨⟨⟨⟨h1,h2⟩,h3⟩,h4⟩,h5⟩,h6⟩,h7⟩,h8⟩
  exact ⟨⟨⟨⟨⟨⟨⟨by omega,by omega⟩,by omega⟩,by omega⟩,by omega⟩,by omega⟩,by omega⟩,⟨h6,h7⟩,h8⟩
 ·rintro ⟨⟨⟨⟨⟨⟨⟨h1,h2⟩,h3⟩,h4⟩,h5⟩,h6⟩,h7⟩,⟨h8,h9⟩,h10⟩
  exact ⟨⟨⟨⟨⟨⟨⟨⟨by omega,by omega⟩,by omega⟩,by omega⟩,by omega⟩,⟨by omega,by omega⟩⟩,h8⟩,h9⟩,h10⟩
theorem Dr (K:Dk) (i:Nat):F6 K i=true↔(1≤(gP K.ps i).id∧(gP K.ps i).id≤1073741824)∧(0<i→(gP K.ps (i-1)).id<(gP K.ps i).id)∧(1≤(gP K.ps i).role∧(gP K.ps i).role≤9)∧1≤(gP K.ps i).key∧(gP K.ps i).key≤1073741824:=by
 simp only [F6,iq,Bool.and_eq_true,decide_eq_true_eq,Bool.not_eq_true',Bool.and_eq_false_iff,decide_eq_false_iff_not]
 constructor
 ·rintro ⟨⟨⟨h1,h2⟩,h3⟩,h4⟩
  exact ⟨h1,fun h=>by rcases h2 with h2 | h2 <;> omega,h3,h4⟩
 ·rintro ⟨h1,h2,h3,h4⟩
  exact ⟨⟨⟨h1,by by_cases h:0<i; exact .inr (by have:=h2 h; omega); exact .inl h⟩,h3⟩,h4⟩
theorem Ho (K:Dk) (i:Nat):E3 K i=true↔(1≤(gD K.ds i).id∧(gD K.ds i).id<K.nx)∧(0<i→(gD K.ds (i-1)).id<(gD K.ds i).id)∧ub (gD K.ds i)=true∧tO K (gD K.ds i).sg=true:=by
 simp only [E3,OB,iq,Bool.and_eq_true,decide_eq_true_eq,Bool.not_eq_true',Bool.and_eq_false_iff,decide_eq_false_iff_not]
 constructor
 ·rintro ⟨⟨h1,h2⟩,h3⟩
  exact ⟨by omega,fun h=>by rcases h2 with h2 | h2 <;> omega,h3⟩
 ·rintro ⟨h1,h2,h3⟩
  exact ⟨⟨by omega,by by_cases h:0<i; exact .inr (by have:=h2 h; omega); exact .inl h⟩,h3⟩
theorem nZ {n:Nat} {q:Nat→Bool}:(List.range n).all q=true↔∀ i,i<n→q i=true:=by simp
theorem Dl {K:Dk} (h:xV K=true):KP (ids K.ps)∧K.ps.length≤12:=by
 simp only [xV,Bool.and_eq_true,decide_eq_true_eq,nZ] at h
 obtain ⟨h1,h2⟩:=h
 refine ⟨fun i j hij x y hx hy=>?_,h1⟩
 have hg:∀ i x,(ids K.ps)[i]?=some x→i<K.ps.length∧x=(gP K.ps i).id:=fun i x hx=>by
  simp only [ids,List.getElem?_map,Option.map_eq_some_iff] at hx
  obtain ⟨p,hp,rfl⟩:=hx
  have hl:=(List.getElem?_eq_some_iff.1 hp).1
  rw [wL hl] at hp
  exact ⟨hl,by rw [Option.some.inj hp]⟩
 obtain ⟨_,rfl⟩:=hg i x hx
 obtain ⟨hj,rfl⟩:=hg j y hy
 clear hx hy
 have:∀ d,i+d<K.ps.length→(gP K.ps i).id≤(gP K.ps (i+d)).id:=fun d=>by
  induction d with
  | zero=>intro _; exact Int.le_refl _
  | succ d ih=>
   intro hd
   have:=ih (by omega)
   have h3:=((Dr K (i+(d+1))).1 (h2 _ hd)).2.1 (by omega)
   rw [show i+(d+1)-1=i+d by omega] at h3
   omega
 have:=this (j-i) (by omega)
 rwa [show i+(j-i)=j by omega] at this
theorem J1 {K:Dk} (h:cd K=true):xV K=true:=by
 simp only [cd,Bool.and_eq_true] at h
 simp only [xV,Bool.and_eq_true]
 exact ⟨h.1.1.1.1,h.1.2⟩
theorem FF {K:Dk} (h:cd K=true):KP (ids K.ps):=(Dl (J1 h)).1
theorem rz (K:Dk) (hl:K.ps.length≤9223372036854775807):PC prog s7 [.list 3 (pR K.ps)] (.bool (xV K)):=by
 refine ae tw (by simp) ?_
 simp only [lu,go_sem,↓reduceIte,reduceCtorEq]
 try simp (disch:=omega) only [go_sem,aV]
 refine aW [2,3,5,8,9,10,11,12,13,14,15,16,17,18,19,20,21,22,23,24,25,26,27,28,29,30,31,32,33,34,35,36,37,38,39,40,41,42,43] (by kernel_rfl) K.ps.length (fun i e _=>e 8=.int .i64 i∧(∀ j,j<i→F6 K j=true)∧∃ la,e 3=.int .i64 la∧(i=0→la=0)∧(0<i→la=(gP K.ps (i-1)).id)) ?_ ?_
 ·exact ⟨(by first | rfl | (simp (disch:=omega) only [go_sem,jA,jB,jC,jD,jE,jF,jG,jH,jI,jJ,↓reduceIte,reduceCtorEq,jP,jO,jM,jN]; try rfl)),fun j hj=>by omega,0,(by first | rfl | (simp (disch:=omega) only [go_sem,jA,jB,jC,jD,jE,jF,jG,jH,jI,jJ,↓reduceIte,reduceCtorEq,jP,jO,jM,jN]; try rfl)),fun _=>rfl,fun h=>by omega⟩
 rintro i fe ob m c hi hm ⟨h8,hall,la,h3,hl0,hl1⟩
 simp (maxSteps:=1000000) only [go_sem,jF,↓reduceIte] at h8 h3 hm
 try simp (disch:=omega) only [go_sem,jF,↓reduceIte,h8]
 refine ah (fun hlt=>?_) (fun hge=>?_)
 ·have hil:i<K.ps.length:=by omega
  have hg:=wL hil
  have hok:=Dr K i
  have no:∀ {σ:St},¬F6 K i=true→aw σ (.bool false) (.bool (xV K)):=fun h=>by
   have:xV K=false:=by
    simp only [xV,Bool.and_eq_false_iff]
    right
    rw [Bool.eq_false_iff]
    exact fun h2=>h (nZ.1 h2 i hil)
   rw [this]; exact aw.pure rfl
  have hprev:0<i→1≤la:=fun h=>by
   have:=((Dr K (i-1)).1 (hall (i-1) (by omega))).1.1
   rw [hl1 h]; omega
  rw [show (0<i→(gP K.ps (i-1)).id<(gP K.ps i).id)↔(0<i→la<(gP K.ps i).id) from ⟨fun h h0=>by rw [hl1 h0]; exact h h0,fun h h0=>by rw [←hl1 h0]; exact h h0⟩] at hok
  have hsn:F6 K i=true→∀ j,j<i+1→F6 K j=true:=fun h j hj=>by
   by_cases e:j=i
   ·subst e; exact h
   ·exact hall j (by omega)
  have hpi:(gP K.ps (i+1-1)).id=(gP K.ps i).id:=rfl
  generalize gP K.ps i=p at *
  try simp (disch:=omega) only [go_sem,jF,jG,jH,↓reduceIte,h3,aV,iI,hg,Option.map_some,rn]
  refine ⟨by omega,by omega,?_⟩
  refine bF rfl (fun g1=>?_) (fun g1=>?_) <;> try simp (disch:=omega) only [go_sem,jF,jH,↓reduceIte]
  ·refine no fun h=>?_
   have:=hok.1 h
   rcases Nat.eq_zero_or_pos i with h0 | h0
   ·have:=hl0 h0; omega
   ·have:=this.2.1 h0; omega
  refine bF rfl (fun g2=>?_) (fun g2=>?_) <;> try simp (disch:=omega) only [go_sem,jF,jG,jH,↓reduceIte]
  ·exact no fun h=>by have:=hok.1 h; omega
  refine bF rfl (fun g3=>?_) (fun g3=>?_) <;> try simp (disch:=omega) only [go_sem,jF,jG,jH,↓reduceIte]
  ·exact no fun h=>by have:=hok.1 h; omega
  refine bF rfl (fun g4=>?_) (fun g4=>?_) <;> try simp (disch:=omega) only [go_sem,jF,jG,jH,↓reduceIte]
  ·exact no fun h=>by have:=hok.1 h; omega
  refine bF rfl (fun g5=>?_) (fun g5=>?_) <;> try simp (disch:=omega) only [go_sem,jF,jG,jH,↓reduceIte]
  ·exact no fun h=>by have:=hok.1 h; omega
  refine ah (fun g6=>?_) (fun g6=>?_) <;> try simp (disch:=omega) only [go_sem,jF,jH,↓reduceIte,jO]
  ·exact no fun h=>by have:=hok.1 h; omega
  have hlo:1≤p.id:=by
   rcases Nat.eq_zero_or_pos i with h0 | h0
   ·have:=hl0 h0; omega
   ·have:=hprev h0; omega
  refine aG m hil (by omega) ⟨(by first | rfl | (simp (disch:=omega) only [go_sem,jA,jB,jC,jD,jE,jF,jG,jH,jI,jJ,↓reduceIte,reduceCtorEq,jP,jO,jM,jN]; try rfl)),hsn (hok.2 ⟨⟨hlo,by omega⟩,fun _=>by omega,⟨by omega,by omega⟩,by omega,by omega⟩),p.id,(by first | rfl | (simp (disch:=omega) only [go_sem,jA,jB,jC,jD,jE,jF,jG,jH,jI,jJ,↓reduceIte,reduceCtorEq,jP,jO,jM,jN]; try rfl)),fun h=>by omega,fun _=>hpi.symm⟩
 obtain rfl:i=K.ps.length:=by omega
 try simp (disch:=omega) only [go_sem,↓reduceIte,reduceCtorEq,aV]
 refine aw.of_eq ?_ rfl
 congr 1
 rw [xV,nZ.2 hall,Bool.and_true]
 rw [decide_eq_decide]; omega
theorem pX (d:Dv):PC prog rC [gF d] (.bool (ub d)):=by
 have no:∀ {σ:St},ub d=false→aw σ (.bool false) (.bool (ub d)):=fun h=>by rw [h]; exact aw.pure rfl
 refine ae rI (by simp) ?_
 simp only [jT,gF,jc]
 try simp (disch:=omega) only [go_sem,jF,jG,jH,↓reduceIte]
 refine bB rfl (fun g1=>?_) (fun g1=>?_) <;> try simp (disch:=omega) only [go_sem,jF,jG,jH,↓reduceIte]
 case refine_2=>exact no (by simp [ub,g1])
 refine bB rfl (fun g2=>?_) (fun g2=>?_) <;> try simp (disch:=omega) only [go_sem,jF,jG,jH,↓reduceIte]
 case refine_2=>exact no (by simp [ub,g2])
 refine bB rfl (fun g3=>?_) (fun g3=>?_) <;> try simp (disch:=omega) only [go_sem,jF,jG,jH,↓reduceIte]
 case refine_2=>exact no (by simp [ub,g3])
 refine bB rfl (fun g4=>?_) (fun g4=>?_) <;> try simp (disch:=omega) only [go_sem,jF,jG,jH,↓reduceIte]
 case refine_2=>exact no (by simp [ub,g4])
 refine bB rfl (fun g5=>?_) (fun g5=>?_) <;> try simp (disch:=omega) only [go_sem,jF,jG,jH,↓reduceIte]
 case refine_2=>exact no (by simp [ub,g5])
 refine bB rfl (fun g6=>?_) (fun g6=>?_) <;> try simp (disch:=omega) only [go_sem,jF,jG,jH,↓reduceIte]
 case refine_2=>exact no (by simp [ub,g6])
 exact aw.of_eq (by simp [ub,g1,g2,g3,g4,g5,g6]) rfl
theorem ry (K:Dk) (l:List Int) (hl:K.ps.length≤4611686018427387904) (hs:KP (ids K.ps)):PC prog s6 [.list 3 (pR K.ps),.list 1 (ints l)] (.bool (tO K l)):=by
 refine ae tv (by simp) ?_
 simp only [lr,go_sem,jF,↓reduceIte,reduceCtorEq]
 try simp (disch:=omega) only [go_sem,au]
 refine ah (fun h=>?_) (fun h=>?_) <;> try simp (disch:=omega) only [go_sem,jF,↓reduceIte,reduceCtorEq]
 ·have:tO K l=false:=by simp only [tO,Bool.and_eq_false_iff]; left; left; simp; omega
  rw [this]; exact aw.pure rfl
 have hl2:l.length≤2:=by omega
 refine aW [4,7,8,9,16,17,18,19,20,21,22,23,24,25,26,27,28,29,30,31,32,33,34,35,36,37] (by kernel_rfl) l.length (fun i e σ=>e 16=.int .i64 i∧(∀ j,j<i→∀ y,l[j]?=some y→(cO K y).2=true)∧(∃ es,σ.ob 0=some ⟨0,2,rZ,false,false,es⟩∧(i=0→es=[])∧(i=1→es=[.agg [.int .i64 ((cM K l).getD 0 0),.bool true]]))∧(i=2→(cM K l).getD 0 0≠(cM K l).getD 1 0)) ?_ ?_
 ·exact ⟨(by first | rfl | (simp (disch:=omega) only [go_sem,jA,jB,jC,jD,jE,jF,jG,jH,jI,jJ,↓reduceIte,reduceCtorEq,jP,jO,jM,jN]; try rfl)),fun j hj=>by omega,⟨[],by try simp (disch:=omega) only [go_sem,↓reduceIte],fun _=>rfl,fun h=>by omega⟩,fun h=>by omega⟩
 rintro i fe ob m c hi hm ⟨h16,hall,⟨es,h0,e0,e1⟩,h2⟩
 simp (maxSteps:=1000000) only [go_sem,jF,↓reduceIte] at h16 h0 hm
 try simp (disch:=omega) only [go_sem,jF,↓reduceIte,h16,au]
 refine ah (fun hlt=>?_) (fun hge=>?_)
 ·have hil:i<l.length:=by omega
  have hgl:l[i]?=some l[i]:=List.getElem?_eq_getElem hil
  have hgi:=bD l i
  rw [hgl] at hgi
  have hro:(cM K l).getD i 0=(cO K l[i]).1.role:=by simp [cM,List.getD_eq_getElem?_getD,hgl]
  have no:∀ {σ:St},tO K l=false→aw σ (.bool false) (.bool (tO K l)):=fun h=>by rw [h]; exact aw.pure rfl
  have hF:=fL K l[i] hl hs
  have hnf:(cO K l[i]).2=false→tO K l=false:=fun h=>by
   simp only [tO,Bool.and_eq_false_iff]; left; right
   rw [Bool.eq_false_iff]; intro h2
   rw [List.all_eq_true] at h2
   rw [h2 _ (List.getElem_mem hil)] at h; cases h
  have hsn:(cO K l[i]).2=true→∀ j,j<i+1→∀ y,l[j]?=some y→(cO K y).2=true:=fun h j hj y hy=>by
   by_cases e:j=i
   ·subst e; rw [hgl] at hy; obtain rfl:=Option.some.inj hy; exact h
   ·exact hall j (by omega) y hy
  generalize l[i]=s at *
  generalize hps:cO K s=ps at *
  obtain ⟨p,ok⟩:=ps
  simp only at hro hF hnf hsn
  have z0:¬(0:Nat)=m:=by omega
  try simp (disch:=omega) only [go_sem,jF,jH,↓reduceIte,reduceCtorEq,au,hgi,Option.map_some]
  refine ⟨by omega,by omega,?_⟩
  refine ab hF (by simp [go_sem]) ?_
  cases ok
  ·try simp (disch:=omega) only [go_sem,jF,jG,jH,↓reduceIte,rn]
   exact no (hnf rfl)
  try simp (disch:=omega) only [go_sem,jF,jG,jH,↓reduceIte,rn,z0,h0]
  have hi2:i=0∨i=1:=by omega
  rcases hi2 with rfl | rfl
  ·obtain rfl:=e0 rfl
   try simp (disch:=omega) only [go_sem,jF,jG,jH,↓reduceIte,jO,jM,h0]
   refine aG m hil (by omega) ⟨(by first | rfl | (simp (disch:=omega) only [go_sem,jA,jB,jC,jD,jE,jF,jG,jH,jI,jJ,↓reduceIte,reduceCtorEq,jP,jO,jM,jN]; try rfl)),hsn rfl,⟨[.agg [.int .i64 ((cM K l).getD 0 0),.bool true]],?_,fun h=>by omega,fun _=>rfl⟩,fun h=>by omega⟩
   simp only [St.aD]; rw [if_pos (by omega),hro]
   simp [bd]
  ·obtain rfl:=e1 rfl
   have hlen2:l.length=2:=by omega
   try simp (disch:=omega) only [go_sem]
   by_cases hq:p.role=(cM K l).getD 0 0
   ·try simp (disch:=omega) only [go_sem,↓reduceIte,hq]
    refine no ?_
    simp only [tO,Bool.and_eq_false_iff,Bool.or_eq_false_iff]
    right
    refine ⟨by simp; omega,?_⟩
    rw [hro,hq]; simp
   ·try simp (disch:=omega) only [go_sem,jF,jG,jH,↓reduceIte,jO,jM,hq,h0]
    refine aG m hil (by omega) ⟨(by first | rfl | (simp (disch:=omega) only [go_sem,jA,jB,jC,jD,jE,jF,jG,jH,jI,jJ,↓reduceIte,reduceCtorEq,jP,jO,jM,jN]; try rfl)),hsn rfl,?_,fun _=>by rw [hro]; exact fun e=>hq e.symm⟩
    exact ⟨_,by simp only [St.aD]; rw [if_pos (by omega)]; simp [bd]; rfl,fun h=>by omega,fun h=>by omega⟩
 obtain rfl:i=l.length:=by omega
 try simp (disch:=omega) only [go_sem,↓reduceIte]
 have:tO K l=true:=by
  simp only [tO,Bool.and_eq_true,Bool.or_eq_true,decide_eq_true_eq,List.all_eq_true]
  refine ⟨⟨hl2,fun x hx=>?_⟩,?_⟩
  ·obtain ⟨j,hj⟩:=List.getElem?_of_mem hx
   exact hall j (List.getElem?_eq_some_iff.1 hj).1 x hj
  ·by_cases h3:l.length=2
   ·right; rw [decide_eq_false (h2 h3)]; rfl
   ·left; omega
 rw [this]
 exact aw.pure rfl
theorem fp (K:Dk) (hB:IH K):PC prog uG [bM K] (.bool (cd K)):=by
 have hlp:=hB.lp
 have hld:=hB.ld
 have no:∀ {σ:St},cd K=false→aw σ (.bool false) (.bool (cd K)):=fun h=>by rw [h]; exact aw.pure rfl
 have hce:cd K=(xV K&&iq K.nx 1 1073741824&&decide (K.ds.length≤64)&&(List.range K.ds.length).all (E3 K)):=by
  rw [Bool.eq_iff_iff]; simp only [cd,xV,Bool.and_eq_true]
  constructor
  ·rintro ⟨⟨⟨⟨h1,h2⟩,h3⟩,h4⟩,h5⟩; exact ⟨⟨⟨⟨h1,h4⟩,h2⟩,h3⟩,h5⟩
  ·rintro ⟨⟨⟨⟨h1,h4⟩,h2⟩,h3⟩,h5⟩; exact ⟨⟨⟨⟨h1,h2⟩,h3⟩,h4⟩,h5⟩
 refine ae vH (by simp) ?_
 simp only [ml,bM]
 try simp (disch:=omega) only [go_sem,jF,jG,jH,↓reduceIte]
 refine ab (rz K hlp) (by simp [go_sem]) ?_
 cases hpr:xV K
 ·try simp (disch:=omega) only [go_sem,jF,↓reduceIte]
  exact no (by rw [hce,hpr]; simp)
 try simp (disch:=omega) only [go_sem,jF,jG,jH,↓reduceIte]
 refine bF rfl (fun g1=>?_) (fun g1=>?_) <;> try simp (disch:=omega) only [go_sem,jF,jG,jH,↓reduceIte]
 ·exact no (by rw [hce]; simp [iq]; intros; omega)
 refine bF rfl (fun g2=>?_) (fun g2=>?_) <;> try simp (disch:=omega) only [go_sem,jF,jG,jH,↓reduceIte,aS]
 ·exact no (by rw [hce]; simp [iq]; intros; omega)
 refine ah (fun g3=>?_) (fun g3=>?_) <;> try simp (disch:=omega) only [go_sem,jF,jG,jH,↓reduceIte,aS]
 ·exact no (by rw [hce]; simp [iq]; intros; omega)
 have hasc:=(Dl hpr).1
 have hc1:cd K=(List.range K.ds.length).all (E3 K):=by
  rw [hce,hpr,show iq K.nx 1 1073741824=true by simp [iq]; omega,show decide (K.ds.length≤64)=true by simp; omega]; simp
 refine aW [2,3,5,29,30,31,32,33,34,35,36,37,38,39,40,41,42,43,44,45,46,47,48,49,50,51,52,53,54,55,56,57,58,59] (by kernel_rfl) K.ds.length (fun i e σ=>e 29=.int .i64 i∧σ.ob 0=some ⟨0,3,44,false,true,[.agg [.list 3 (pR K.ps),.int .i64 K.nx,.list 7 (yz K.ds)]]⟩∧(∀ j,j<i→E3 K j=true)∧∃ la,e 3=.int .i64 la∧(i=0→la=0)∧(0<i→la=(gD K.ds (i-1)).id)) ?_ ?_
 ·exact ⟨(by first | rfl | (simp (disch:=omega) only [go_sem,jA,jB,jC,jD,jE,jF,jG,jH,jI,jJ,↓reduceIte,reduceCtorEq,jP,jO,jM,jN]; try rfl)),by try simp (disch:=omega) only [go_sem,↓reduceIte],fun j hj=>by omega,0,(by first | rfl | (simp (disch:=omega) only [go_sem,jA,jB,jC,jD,jE,jF,jG,jH,jI,jJ,↓reduceIte,reduceCtorEq,jP,jO,jM,jN]; try rfl)),fun _=>rfl,fun h=>by omega⟩
 rintro i fe ob m c hi hm ⟨h8,hob,hall,la,h3,hl0,hl1⟩
 simp (maxSteps:=1000000) only [go_sem,jF,↓reduceIte] at h8 h3 hm hob
 try simp (disch:=omega) only [go_sem,jF,↓reduceIte,h8]
 refine ah (fun hlt=>?_) (fun hge=>?_)
 ·have hil:i<K.ds.length:=by omega
  have hg:=js hil
  have hok:=Ho K i
  have no:∀ {σ:St},¬E3 K i=true→aw σ (.bool false) (.bool (cd K)):=fun h=>by
   have:cd K=false:=by
    rw [hc1,Bool.eq_false_iff]
    exact fun h2=>h (nZ.1 h2 i hil)
   rw [this]; exact aw.pure rfl
  have hprev:0<i→1≤la:=fun h=>by
   have:=((Ho K (i-1)).1 (hall (i-1) (by omega))).1.1
   rw [hl1 h]; omega
  rw [show (0<i→(gD K.ds (i-1)).id<(gD K.ds i).id)↔(0<i→la<(gD K.ds i).id) from ⟨fun h h0=>by rw [hl1 h0]; exact h h0,fun h h0=>by rw [←hl1 h0]; exact h h0⟩] at hok
  have hsn:E3 K i=true→∀ j,j<i+1→E3 K j=true:=fun h j hj=>by
   by_cases e:j=i
   ·subst e; exact h
   ·exact hall j (by omega)
  have hpi:(gD K.ds (i+1-1)).id=(gD K.ds i).id:=rfl
  have hPl:=pX (gD K.ds i)
  have hSg:=ry K (gD K.ds i).sg (by have:=(Dl hpr).2; omega) hasc
  generalize gD K.ds i=d at *
  have z0:¬(0:Nat)=m:=by omega
  simp only [gF,jc] at hPl
  try simp (disch:=omega) only [go_sem,jF,jG,jH,↓reduceIte,h3,aS,dS,hg,Option.map_some,gF,jc]
  refine ⟨by omega,by omega,?_⟩
  refine bF rfl (fun g4=>?_) (fun g4=>?_) <;> try simp (disch:=omega) only [go_sem,jF,jG,jH,↓reduceIte,z0,hob]
  ·refine no fun h=>?_
   have:=hok.1 h
   rcases Nat.eq_zero_or_pos i with h0 | h0
   ·have:=hl0 h0; omega
   ·have:=this.2.1 h0; omega
  refine bF rfl (fun g5=>?_) (fun g5=>?_) <;> try simp (disch:=omega) only [go_sem,jF,jH,↓reduceIte]
  ·exact no fun h=>by have:=hok.1 h; omega
  refine ab hPl (by simp [go_sem]) ?_
  cases hp:ub d
  ·try simp (disch:=omega) only [go_sem,jF,↓reduceIte]
   exact no fun h=>by have:=(hok.1 h).2.2.1; rw [hp] at this; cases this
  try simp (disch:=omega) only [go_sem,jF,jG,jH,↓reduceIte,z0,hob]
  refine ab hSg (by simp [go_sem]) ?_
  cases hq:tO K d.sg
  ·try simp (disch:=omega) only [go_sem,jF,↓reduceIte]
   exact no fun h=>by have:=(hok.1 h).2.2.2; rw [hq] at this; cases this
  try simp (disch:=omega) only [go_sem,jF,jH,↓reduceIte,jO]
  have hlo:1≤d.id:=by
   rcases Nat.eq_zero_or_pos i with h0 | h0
   ·have:=hl0 h0; omega
   ·have:=hprev h0; omega
  refine aG m hil (by omega) ⟨(by first | rfl | (simp (disch:=omega) only [go_sem,jA,jB,jC,jD,jE,jF,jG,jH,jI,jJ,↓reduceIte,reduceCtorEq,jP,jO,jM,jN]; try rfl)),?_,hsn (hok.2 ⟨⟨hlo,by omega⟩,fun _=>by omega,hp,hq⟩),d.id,(by first | rfl | (simp (disch:=omega) only [go_sem,jA,jB,jC,jD,jE,jF,jG,jH,jI,jJ,↓reduceIte,reduceCtorEq,jP,jO,jM,jN]; try rfl)),fun h=>by omega,fun _=>hpi.symm⟩
  simp only [St.aD]; rw [if_pos (by omega)]; repeat rw [aa _ _ _ _ (by omega)]
  exact hob
 obtain rfl:i=K.ds.length:=by omega
 try simp (disch:=omega) only [go_sem,↓reduceIte]
 rw [hc1,nZ.2 hall]
 exact aw.pure rfl
theorem sW (K:Dk) (hB:IH K):PC prog uH [bM K] (.int .i64 (o6 K)):=by
 refine ae vI (by simp) ?_
 simp only [mm]
 try simp (disch:=omega) only [go_sem,jF,jH,↓reduceIte,dh,dB,iA]
 refine ab (fp K hB) (by simp [eC]) ?_
 rw [o6]
 cases cd K <;> try simp (disch:=omega) only [go_sem,↓reduceIte,reduceCtorEq] <;> exact aw.pure rfl
theorem rE (σ:St) (d:Dv) (hd:d.sg.length≤1000000):HC prog s8 [gF d] σ (fun r τ=>∃ E,r=jc d E∧cu 1 Cn τ (ints d.sg) E∧σ.n≤τ.n∧∀ i,i<σ.n→τ.ob i=σ.ob i∧aY E i):=by
 obtain ⟨dH,n0,c0⟩:=σ
 refine aL tC (by simp) ?_
 simp only [ly,gF,jc]
 try simp (disch:=omega) only [go_sem,jF,jG,jH,↓reduceIte,jM]
 refine (gN _ (ints d.sg) (by rw [au]; omega)).mono ?_
 rintro E ⟨ob1,n1,c1⟩ hN
 obtain ⟨hE,h1,h2,h3⟩:=hN.UK
 simp only at h1 h2 h3
 have u0:=h2 n0 (by omega)
 have u1:=h2 (n0+1) (by omega)
 try simp (disch:=omega) only [go_sem,↓reduceIte,jM] at u0
 try simp (disch:=omega) only [go_sem,↓reduceIte] at u1
 have z1:¬n0+1=n0:=by omega
 have z2:¬n0=n0+1:=by omega
 try simp (disch:=omega) only [go_sem,jF,jG,jH,↓reduceIte,u0,u1,hE.flat,hE.cells,hE.one,z1]
 refine ⟨E,rfl,hE.move (Nat.le_refl _) fun i hi hh=>?_,by omega,fun i hi=>⟨?_,h3 i (by omega)⟩⟩
 ·have hg:n0+1<i:=Nat.lt_of_not_le fun h=>hh (h3 i (by omega))
  simp only
  rw [aa _ _ _ _ (by omega),aa _ _ _ _ (by omega)]
 ·rw [if_neg (by omega),if_neg (by omega),h2 i (by omega)]
  repeat rw [aa _ _ _ _ (by omega)]
theorem fV (σ:St) (K:Dk) (h1:K.ps.length≤1000000) (h4:K.ds.length≤1000000) (h5:∀ d∈K.ds,d.sg.length≤1000000):HC prog wC [bM K] σ (UT σ K):=by
 obtain ⟨dH,n0,c0⟩:=σ
 refine aL xh (by simp) ?_
 simp only [nR,bM]
 try simp (disch:=omega) only [go_sem,jF,jG,jH,↓reduceIte,jM]
 refine (eW _ (pR K.ps) (by rw [aV]; omega)).mono ?_
 rintro XP ⟨ob1,n1,c1⟩ hN
 obtain ⟨hP,k1,k2,k3⟩:=hN.UK
 simp only at k1 k2 k3
 have k1':n0+2≤n1:=k1
 have u0:=k2 n0 (by omega)
 have u1:=k2 (n0+1) (by omega)
 try simp (disch:=omega) only [go_sem,↓reduceIte,jM] at u0
 try simp (disch:=omega) only [go_sem,↓reduceIte] at u1
 have w0:¬n0=n1:=by omega
 have w1:¬n0+1=n1:=by omega
 try simp (disch:=omega) only [go_sem,jF,jG,jH,↓reduceIte,reduceCtorEq,jM,u0,w0,hP.flat,hP.cells,hP.one,aS]
 refine aW [5,15,16,17,18,19,20,21,22,23,24,25,26] (by kernel_rfl) K.ds.length (fun k e σ=>e 15=.int .i64 k∧n1+1≤σ.n∧(∀ i,i<n1→σ.ob i=ob1 i)∧
  ∃ Y Fs,σ.ob n1=some ⟨c1,3,44,false,true,[.agg [XP,.int .i64 K.nx,Y]]⟩∧cu 7 HR σ (cA (K.ds.take k) Fs) Y∧IC 1 Le σ Fs (lD (K.ds.take k))∧ID σ (n1+1) Y Fs) ?_ ?_
 ·refine ⟨(by first | rfl | (simp (disch:=omega) only [go_sem,jA,jB,jC,jD,jE,jF,jG,jH,jI,jJ,↓reduceIte,reduceCtorEq,jP,jO,jM,jN]; try rfl)),Nat.le_refl _,fun i hi=>?_,.nil,[],by try simp (disch:=omega) only [go_sem,↓reduceIte],by simp [cA]; exact cu.nil,IC.nil _ _ _,ID.nil _ _⟩
  simp only
  rw [aa _ _ _ _ (by omega),aa _ _ _ _ (by omega)]
 rintro k fe ob m c hk hm ⟨h15,hm1,ho,Y,Fs,hb,hY,hJ,hH⟩
 simp (maxSteps:=1000000) only [go_sem,jF,↓reduceIte] at h15 hm hm1 ho hb
 try simp (disch:=omega) only [go_sem,jF,↓reduceIte,h15]
 refine ah (fun hlt=>?_) (fun hge=>?_)
 ·have hkl:k<K.ds.length:=by omega
  have hk2:K.ds[k]?=some K.ds[k]:=List.getElem?_eq_getElem hkl
  have hxl:=h5 _ (List.getElem_mem hkl)
  have htk:K.ds.take (k+1)=K.ds.take k++[K.ds[k]]:=dX _ _ hkl
  have hEl:Fs.length=k:=by have:=hJ.1; simp [lD] at this; omega
  have hC:=fun σ=>rE σ K.ds[k] hxl
  generalize K.ds[k]=w at *
  have z1:¬n1=m:=by omega
  have z2:¬m=n1:=by omega
  simp only [gF,jc] at hC
  try simp (disch:=omega) only [go_sem,jF,jG,jH,↓reduceIte,aS,dS,hk2,Option.map_some,gF,jc,z1,hb]
  refine ⟨by omega,by omega,?_⟩
  refine (hC _).mono ?_
  rintro r ⟨ob6,m6,c6⟩ ⟨E,rfl,hE,e1,e2⟩
  simp only at e1 e2
  have e2':∀ i,i<m→ob6 i=ob i:=fun i hi=>(e2 i (by omega)).1.trans (by rw [aa _ _ _ _ (by omega),aa _ _ _ _ (by omega)])
  have e3':∀ i,i<m+1→aY E i:=fun i hi=>(e2 i hi).2
  have z3:¬n1=m6:=by omega
  have hb6:=(e2' n1 (by omega)).trans hb
  have oY:∀ i,i<n1+1→aY Y i:=fun i hi=>aY.em fun h=>by have:=(hH.low i h).1; omega
  have oYm:∀ i,m≤i→aY Y i:=fun i hi=>hY.H2 hi
  clear e2
  try simp (disch:=omega) only [go_sem,jF,jG,↓reduceIte,jM,hE.one,z3,hb6]
  refine ⟨hb.symm,?_⟩
  refine xq (ER.dv (L:=[jc w E]) (az _ _ _) (Nat.lt_succ_self _)) ?_
  have hYl:(cA (K.ds.take k) Fs).length≤1000000:=by simp [cA]; omega
  refine bH (b:=72) (hY.move (by simp only; omega) fun i hi hh=>?_) (by omega) (by omega) fun Y' τ2 hY2 kY=>?_
  ·simp only at hi ⊢
   rw [aa _ _ _ _ (by omega),e2' i hi]
  obtain ⟨ob7,m7,c7⟩:=τ2
  have q1:m6+1≤m7:=kY.1
  have q2:∀ i,i<m→aY Y i→ob7 i=ob i:=fun i hi h=>(kY.2.1 i (by simp only; omega) h).trans (by simp only; rw [aa _ _ _ _ (by omega),e2' i hi])
  have q3:∀ i,m+1≤i→i<m6→ob7 i=ob6 i:=fun i hi hi2=>(kY.2.1 i (by simp only; omega) (oYm i (by omega))).trans (by simp only; rw [aa _ _ _ _ (by omega)])
  have hb7:=(q2 n1 (by omega) (oY n1 (by omega))).trans hb
  have hEi:∀ i,¬aY E i→m+1≤i∧i<m6:=fun i hi=>⟨Nat.le_of_not_lt fun h=>hi (e3' i h),hE.lt hi⟩
  have oY':∀ i,¬aY Y' i→i≠n1:=fun i hi e=>hi (e ▸ kY.2.2 n1 (by simp only; omega) (oY n1 (by omega)))
  try simp (disch:=omega) only [go_sem,jF,jG,jH,↓reduceIte,reduceCtorEq,jO,jM,hb7,hY2.flat,hY2.cells]
  refine aG m7 hkl (by omega) ⟨(by first | rfl | (simp (disch:=omega) only [go_sem,jA,jB,jC,jD,jE,jF,jG,jH,jI,jJ,↓reduceIte,reduceCtorEq,jP,jO,jM,jN]; try rfl)),by simp only [St.aD]; omega,fun i hi=>?_,Y',Fs++[E],?_,?_,?_,?_⟩
  ·rw [aX (by omega),aa _ _ _ _ (by omega),q2 i (by omega) (oY i (by omega))]; exact ho i hi
  ·rw [aX (by omega)]; simp [bd]
  ·rw [htk,re (by simp; omega)]
   exact hY2.move (by simp only [St.aD]; omega) fun i hi hh=>by
    simp only at hi
    rw [aX hi,aa _ _ _ _ (oY' i hh)]
  ·rw [htk,show lD (K.ds.take k++[w])=lD (K.ds.take k)++[ints w.sg] by simp [lD]]
   refine IC.snoc (hJ.move (by simp only [St.aD]; omega) fun F hF2 i hi hlt=>?_) (hE.move (by simp only [St.aD]; omega) fun i hlt hi=>?_)
   ·have hi1:=(hH.Ff F hF2 i hi).1
    simp only at hlt
    rw [aX (by omega),aa _ _ _ _ (by omega),q2 i hlt (hH.sep F hF2 i hi)]
   ·have hi1:=hEi i hi
    rw [aX (by omega),aa _ _ _ _ (by omega),q3 i hi1.1 hi1.2]
  ·exact (hH.snoc (by simp only; omega) (show m≤m6+1 by omega) (fun i hi=>⟨by have:=(hEi i hi).1; simp only; omega,by have:=(hEi i hi).2; simp only; omega⟩) kY fun i hi=>hY2.H2 hi).up (Nat.le_refl _)
 obtain rfl:k=K.ds.length:=by omega
 rw [List.take_length] at hY hJ
 have v1:ob (n0+1)=_:=(ho (n0+1) (by omega)).trans u1
 have zz:¬n0+1=n1:=by omega
 have zz2:¬n1=n0+1:=by omega
 try simp (disch:=omega) only [go_sem,jF,jG,jH,↓reduceIte,hb,v1,hY.one,hP.one]
 have k3':∀ i,¬aY XP i→n0+2≤i:=fun i hi=>Nat.le_of_not_lt fun h=>hi (k3 i h)
 refine ⟨XP,Y,Fs,n1+1,rfl,by simp only; omega,hm1,hP.move (by simp only; omega) fun i hi hh=>?_,fun i hi=>⟨by have:=k3' i hi; simp only; omega,by have:=hP.lt hi; simp only at this; omega⟩,hY.move (Nat.le_refl _) fun i hi hh=>?_,hJ.move (Nat.le_refl _) fun E hE i hi hh=>?_,hH.up (Nat.le_refl _),fun i hi=>?_⟩
 ·have h1:=k3' i hh
  simp only at hi ⊢
  rw [aa _ _ _ _ (by omega),ho i hi]
 ·have h1:=(hH.low i hh).1
  simp only
  rw [aa _ _ _ _ (by omega)]
 ·have h1:=(hH.Ff E hE i hi).1
  simp only
  rw [aa _ _ _ _ (by omega)]
 ·simp only at hi ⊢
  rw [aa _ _ _ _ (by omega),ho i (by omega),k2 i (by omega)]
  repeat rw [aa _ _ _ _ (by omega)]
def UW (σ τ:St):Prop:=σ.n≤τ.n∧∀ k,k<σ.n→τ.ob k=σ.ob k
theorem CJ {α:Type} {l:List α} {q:α→Bool} {k:Nat} {x:α} (hk:l[k]?=some x) (hj:∀ j,j<k→∀ y,l[j]?=some y→q y=false) (hq:q x=false):∀ j,j<k+1→∀ y,l[j]?=some y→q y=false:=fun j hj2 y hy=>by
 by_cases e:j=k
 ·subst e; rw [hk] at hy; obtain rfl:=Option.some.inj hy; exact hq
 ·exact hj j (by omega) y hy
def UU (σ:St) (f:Nat) (caps:List AV) (q:Dv→Bool):Prop:=
 ∀ (τ:St) (x:Dv),σ.n≤τ.n→(∀ k,k<σ.n→τ.ob k=σ.ob k)→HC prog f (gF x :: caps) τ (fun r τ'=>r=.bool (q x)∧UW τ τ')
theorem pI (l:List Int) (x:Int) (hl:l.length≤4611686018427387904):PC prog rA [.list 1 (ints l),.int .i64 x] (.int .i64 (match l.findIdx? (fun y=>decide (x=y)) with | some i=>(i:Int) | none=>-1)):=by
 refine ae rG (by simp) ?_
 simp only [jQ,go_sem,↓reduceIte,reduceCtorEq]
 try simp (disch:=omega) only [go_sem,au]
 refine bw [4,5,8,9,10,11,12,13,14,15,16,17,18] (by kernel_rfl) l.length (fun k e _=>e 8=.int .i64 k∧∀ j,j<k→∀ y,l[j]?=some y→decide (x=y)=false) ?_ ?_
 ·exact ⟨(by first | rfl | (simp (disch:=omega) only [go_sem,jA,jB,jC,jD,jE,jF,jG,jH,jI,jJ,↓reduceIte,reduceCtorEq,jP,jO,jM,jN]; try rfl)),fun j hj=>by omega⟩
 rintro k fe ob c hk ⟨hki,hj⟩
 simp (maxSteps:=1000000) only [go_sem,jF,↓reduceIte] at hki
 try simp (disch:=omega) only [go_sem,jF,↓reduceIte,hki]
 refine ah (fun hlt=>?_) (fun hge=>?_)
 ·have hkl:k<l.length:=by omega
  have hk2:l[k]?=some l[k]:=List.getElem?_eq_getElem hkl
  have hfi:decide (x=l[k])=true→l.findIdx? (fun y=>decide (x=y))=some k:=fun h=>by
   rw [List.findIdx?_eq_some_iff_getElem]
   exact ⟨hkl,h,fun j hjk=>by have:=hj j hjk l[j] (List.getElem?_eq_getElem (by omega)); simpa using this⟩
  have hnx:=CJ hk2 hj
  generalize l[k]=y at *
  try simp (disch:=omega) only [go_sem,jF,jH,↓reduceIte,reduceCtorEq,au,bD,hk2,Option.map_some]
  refine ⟨by omega,by omega,?_⟩
  refine ah (fun hq=>?_) (fun hq=>?_) <;> try simp (disch:=omega) only [go_sem,jF,↓reduceIte,jO]
  ·rw [hfi (by simpa using hq)]
   exact aw.pure rfl
  ·exact bl hkl ⟨(by first | rfl | (simp (disch:=omega) only [go_sem,jA,jB,jC,jD,jE,jF,jG,jH,jI,jJ,↓reduceIte,reduceCtorEq,jP,jO,jM,jN]; try rfl)),hnx (by simpa using hq)⟩
 ·obtain rfl:k=l.length:=by omega
  try simp (disch:=omega) only [go_sem,↓reduceIte]
  have:l.findIdx? (fun y=>decide (x=y))=none:=by
   rw [List.findIdx?_eq_none_iff]
   intro z hz
   obtain ⟨i,hi⟩:=List.getElem?_of_mem hz
   exact hj i (List.getElem?_eq_some_iff.1 hi).1 z hi
  rw [this]
  exact aw.pure rfl
theorem mG (l:List Int) (x:Int) (hl:l.length≤4611686018427387904):PC prog oA [.list 1 (ints l),.int .i64 x] (.bool (decide (x∈l))):=by
 refine ae oN (by simp) ?_
 simp only [gl,go_sem,jF,↓reduceIte,reduceCtorEq]
 refine ab (pI l x hl) (by simp [go_sem]) ?_
 cases hf:l.findIdx? (fun y=>decide (x=y)) with
 | none=>
  try simp (disch:=omega) only [go_sem,jC,↓reduceIte]
  rw [List.findIdx?_eq_none_iff] at hf
  refine aw.of_eq ?_ rfl
  have:x∉l:=fun h=>by have:=hf x h; simp at this
  simp [this]
 | some i=>
  try simp (disch:=omega) only [go_sem,↓reduceIte]
  rw [List.findIdx?_eq_some_iff_getElem] at hf
  obtain ⟨h1,h2,_⟩:=hf
  refine aw.of_eq ?_ rfl
  have:x∈l:=by have:=of_decide_eq_true h2; rw [this]; exact List.getElem_mem h1
  simp [this]
theorem iu (σ:St) (l:List Dv) (f:Nat) (caps:List AV) (q:Dv→Bool) (hl:l.length≤1000000) (hcb:UU σ f caps q) :
  HC prog iV [.list 7 (yz l),.func f caps] σ (fun r τ=>r=.int .i64 (match l.findIdx? q with | some i=>(i:Int) | none=>-1)∧UW σ τ):=by
 obtain ⟨dH,n0,c0⟩:=σ
 refine aL jf (by simp) ?_
 simp only [dw,go_sem,↓reduceIte,reduceCtorEq]
 try simp (disch:=omega) only [go_sem,aS]
 refine aW [4,5,8,9,10,11,12,13,14,15,16,17,18] (by kernel_rfl) l.length (fun k e τ=>e 8=.int .i64 k∧n0≤τ.n∧(∀ i,i<n0→τ.ob i=dH i)∧∀ j,j<k→∀ y,l[j]?=some y→q y=false) ?_ ?_
 ·exact ⟨(by first | rfl | (simp (disch:=omega) only [go_sem,jA,jB,jC,jD,jE,jF,jG,jH,jI,jJ,↓reduceIte,reduceCtorEq,jP,jO,jM,jN]; try rfl)),Nat.le_refl _,fun _ _=>rfl,fun j hj=>by omega⟩
 rintro k fe ob m c2 hk hm ⟨hki,hm1,ho,hj⟩
 simp (maxSteps:=1000000) only [go_sem,jF,↓reduceIte] at hki hm hm1 ho
 try simp (disch:=omega) only [go_sem,jF,↓reduceIte,hki]
 refine ah (fun hlt=>?_) (fun hge=>?_)
 ·have hkl:k<l.length:=by omega
  have hk2:l[k]?=some l[k]:=List.getElem?_eq_getElem hkl
  have hnx:=CJ hk2 hj
  have hfi:q l[k]=true→l.findIdx? q=some k:=fun h=>by
   rw [List.findIdx?_eq_some_iff_getElem]
   exact ⟨hkl,h,fun j hjk=>by have:=hj j hjk l[j] (List.getElem?_eq_getElem (by omega)); simpa using this⟩
  have hcx:=hcb ⟨ob,m,c2⟩ l[k] hm1 fun i hi=>ho i hi
  generalize l[k]=y at *
  simp only [gF,jc] at hcx
  try simp (disch:=omega) only [go_sem,jF,jH,↓reduceIte,reduceCtorEq,aS,dS,hk2,Option.map_some,gF,jc]
  refine ⟨by omega,by omega,hcx.mono ?_⟩
  rintro r ⟨ob2,m2,c3⟩ ⟨rfl,hA1,hA2⟩
  simp only at hA1 hA2
  try simp (disch:=omega) only [go_sem,↓reduceIte]
  refine GO (fun hq=>?_) (fun hq=>?_) <;> try simp (disch:=omega) only [go_sem,jF,↓reduceIte,jO]
  ·rw [hfi hq]
   exact ⟨rfl,by simp only; omega,fun i hi=>by simp only at hi ⊢; rw [hA2 i (by omega),ho i hi]⟩
  ·exact aG m2 hkl (by omega) ⟨(by first | rfl | (simp (disch:=omega) only [go_sem,jA,jB,jC,jD,jE,jF,jG,jH,jI,jJ,↓reduceIte,reduceCtorEq,jP,jO,jM,jN]; try rfl)),by simp only [St.aD]; omega,fun i hi=>by rw [aX (by omega),hA2 i (by omega),ho i hi],hnx hq⟩
 ·obtain rfl:k=l.length:=by omega
  try simp (disch:=omega) only [go_sem,↓reduceIte]
  have:l.findIdx? q=none:=by
   rw [List.findIdx?_eq_none_iff]
   intro x hx
   obtain ⟨i,hi⟩:=List.getElem?_of_mem hx
   exact hj i (List.getElem?_eq_some_iff.1 hi).1 x hi
  rw [this]
  exact ⟨rfl,hm1,ho⟩
theorem rF (σ:St) (b g:Nat) (ty:TypeId) (ro ap:Bool) (id:Int) (hob:σ.ob b=some ⟨g,1,ty,ro,ap,[.int .i64 id]⟩) (hb:b<σ.n):UU σ kU [.ptr b g 1 0 0] (fun d=>decide (d.id=id)):=by
 rintro ⟨ob,m,c⟩ x hn ho
 simp only at hn ho
 refine aL tz (by simp) ?_
 simp only [lx,gF,jc]
 have h1:=(ho b hb).trans hob
 have h2:¬b=m:=by omega
 try simp (disch:=omega) only [go_sem,jF,jG,jH,↓reduceIte,reduceCtorEq,h1,h2]
 refine ⟨?_,fun i hi=>?_⟩
 ·simp only; omega
 ·simp only at hi ⊢
  rw [aa _ _ _ _ (by omega)]
def RI (K:Dk) (who code now kind:Int) (d:Dv) (i:Nat):Int × Pn × Int:=
 if d.wd=true∨d.to<now then (0,Cw,44) else if (cO K who).2=false then (0,Cw,11) else
  if code≠sk (cO K who).1.key kind d then (0,Cw,43) else ((i:Int),(cO K who).1,0)
theorem CX (K:Dk) (id who code now kind:Int):∀ (l:List Dv) (i:Nat),rK K id who code now kind l i=match l.findIdx? (fun d=>decide (d.id=id)) with
  | none=>(0,Cw,9)
  | some j=>RI K who code now kind (gD l j) (i+j)
 | [],i=>rfl
 | d :: l,i=>by
  rw [rK,List.findIdx?_cons]
  by_cases h:d.id=id
  ·rw [if_neg (by simp [h])]; simp only [h,decide_true]; rfl
  ·rw [if_pos h,CX K id who code now kind l (i+1)]
   simp only [h,decide_false]
   cases l.findIdx? (fun d=>decide (d.id=id)) with
   | none=>rfl
   | some j=>simp [gD,Nat.add_assoc,Nat.add_comm 1 j]
theorem lX (K:Dk) (hB:IH K) (id who code kind now:Int):PC prog wD [bM K,.int .i64 id,.int .i64 who,.int .i64 code,.int .i64 kind,.int .i64 now]
  (.tuple [.int .i64 (bJ K id who code now kind).1,rn (bJ K id who code now kind).2.1,.int .i64 (bJ K id who code now kind).2.2]):=by
 refine ae xk (by simp) ?_
 have hV:=fp K hB
 have hp:=eC K
 simp only [nT,bM] at hV hp ⊢
 try simp (disch:=omega) only [go_sem,jF,jG,jH,↓reduceIte,reduceCtorEq]
 refine ab hV (by simp [hp]) ?_
 rw [bJ]
 cases hc:cd K
 ·try simp (disch:=omega) only [go_sem,jF,jG,jH,↓reduceIte]
  exact aw.pure rfl
 rw [if_neg (by simp),CX]
 have hnx:=gb hc
 have hasc:=FF hc
 try simp (disch:=omega) only [go_sem,jF,jG,jH,↓reduceIte,reduceCtorEq]
 refine (iu _ K.ds kU _ (fun d=>decide (d.id=id)) (by omega) (rF _ 1 1 3 false true id (by try simp (disch:=omega) only [go_sem,jF,↓reduceIte]) (by simp only; omega))).mono ?_
 rintro r ⟨ob,m,c⟩ ⟨rfl,hA1,hA2⟩
 simp only at hA1 hA2
 have u0:=hA2 0 (by omega)
 have u2:=hA2 2 (by omega)
 try simp (disch:=omega) only [go_sem,↓reduceIte,reduceCtorEq] at u0
 try simp (disch:=omega) only [go_sem,↓reduceIte] at u2
 cases hf:K.ds.findIdx? (fun d=>decide (d.id=id)) with
 | none=>
  try simp (disch:=omega) only [go_sem,jB,jF,jG,jH,↓reduceIte,u2]
  exact aw.pure rfl
 | some j=>
  rw [List.findIdx?_eq_some_iff_getElem] at hf
  obtain ⟨hj,hj2,_⟩:=hf
  have hg:=js hj
  have hF:=fL K who (by omega) hasc
  have hCo:=uu (cO K who).1.key kind (gD K.ds j)
  simp only [RI]
  generalize gD K.ds j=d at *
  have z0:¬0=m:=by omega
  have z2:¬2=m:=by omega
  simp only [gF,jc] at hCo
  try simp (disch:=omega) only [go_sem,↓reduceIte]
  refine ah (fun h1=>absurd h1 (by omega)) (fun h1=>?_)
  try simp (disch:=omega) only [go_sem,jF,jG,jH,↓reduceIte,u0,aS,dS,hg,Option.map_some,gF,jc]
  refine ⟨by omega,by omega,?_⟩
  cases hw:d.wd
  case true=>
   try simp (disch:=omega) only [go_sem,jF,jG,jH,↓reduceIte,u2,z2]
   exact aw.pure rfl
  try simp (disch:=omega) only [go_sem,jF,jG,jH,↓reduceIte,reduceCtorEq]
  refine ah (fun h3=>?_) (fun h3=>?_) <;> try simp (disch:=omega) only [go_sem,jF,jG,jH,↓reduceIte,reduceCtorEq,u0,u2,z0,z2]
  ·rw [if_pos (by first | exact h3 | exact .inr h3)]
   exact aw.pure rfl
  rw [if_neg (by simp; omega)]
  generalize cO K who=P at *
  obtain ⟨p,ok⟩:=P
  simp only at hF hCo ⊢
  have z4:¬0=m+1:=by omega
  have z5:¬2=m+1:=by omega
  have z6:¬m=m+1:=by omega
  refine ab hF (by simp [go_sem]) ?_
  try simp (disch:=omega) only [go_sem,jF,jG,jH,↓reduceIte,rn]
  cases ok
  ·try simp (disch:=omega) only [go_sem,jF,jG,jH,↓reduceIte,u2,z2,z5]
   exact aw.pure rfl
  try simp (disch:=omega) only [go_sem,jF,jG,jH,↓reduceIte,reduceCtorEq,z6]
  rw [hw] at hCo
  refine ab hCo (by simp [go_sem]) ?_
  try simp (disch:=omega) only [go_sem,jF,↓reduceIte]
  refine aZ (fun h5=>?_) (fun h5=>?_) <;> try simp (disch:=omega) only [go_sem,jF,jG,jH,↓reduceIte,reduceCtorEq,u2,z2,z5]
  ·rw [if_pos h5]
   exact aw.pure rfl
  ·rw [if_neg (by simpa using h5)]
   exact aw.pure rfl
theorem pY (K:Dk) (hB:IH K) (site fr to rel:Int):PC prog rD [bM K,.int .i64 site,.int .i64 fr,.int .i64 to,.int .i64 rel] (.tuple [bM (bQ K site fr to rel).1,.int .i64 (bQ K site fr to rel).2.1,.int .i64 (bQ K site fr to rel).2.2]):=by
 refine ae rJ (by simp) ?_
 simp only [jU]
 have hKp:=eC K
 have bad:∀ {σ:St} (e:Int),bQ K site fr to rel=(uW,0,e)→aw σ (.tuple [.agg [.nil,.int .i64 0,.nil],.int .i64 0,.int .i64 e]) (.tuple [bM (bQ K site fr to rel).1,.int .i64 (bQ K site fr to rel).2.1,.int .i64 (bQ K site fr to rel).2.2]):=fun e h=>by
  rw [h]; exact aw.tu (.cons eZ (.cons (aw.e rfl) (.cons (aw.e rfl) .nil)))
 try simp (disch:=omega) only [go_sem,jF,jG,jH,↓reduceIte,reduceCtorEq,dh,dB,iA]
 refine ab (fp K hB) (by simp [hKp]) ?_
 cases hc:cd K
 ·try simp (disch:=omega) only [go_sem,jF,jG,jH,↓reduceIte]
  exact bad 50 (by rw [bQ,if_pos hc])
 try simp (disch:=omega) only [go_sem,jF,↓reduceIte,reduceCtorEq]
 refine bF rfl (fun h2=>?_) (fun h2=>?_) <;> try simp (disch:=omega) only [go_sem,jF,jG,jH,↓reduceIte,reduceCtorEq]
 ·exact bad 40 (by rw [bQ,if_neg (by simp [hc]),if_pos (by simp [iq]; intros; omega)])
 refine ah (fun h2'=>?_) (fun h2'=>?_) <;> try simp (disch:=omega) only [go_sem,jF,jG,jH,↓reduceIte,reduceCtorEq]
 ·exact bad 40 (by rw [bQ,if_neg (by simp [hc]),if_pos (by simp [iq]; intros; omega)])
 have h2:iq site 0 5=true:=by simp [iq]; omega
 refine bF rfl (fun h3=>?_) (fun h3=>?_) <;> try simp (disch:=omega) only [go_sem,jF,jG,jH,↓reduceIte,reduceCtorEq]
 ·exact bad 6 (by rw [bQ,if_neg (by simp [hc]),if_neg (by simp [h2]),if_pos (.inl h3)])
 refine bF rfl (fun h4=>?_) (fun h4=>?_) <;> try simp (disch:=omega) only [go_sem,jF,jG,jH,↓reduceIte,reduceCtorEq]
 ·exact bad 6 (by rw [bQ,if_neg (by simp [hc]),if_neg (by simp [h2]),if_pos (.inr (.inl h4))])
 refine ah (fun h5=>?_) (fun h5=>?_) <;> try simp (disch:=omega) only [go_sem,jF,jG,jH,↓reduceIte,reduceCtorEq]
 ·exact bad 6 (by rw [bQ,if_neg (by simp [hc]),if_neg (by simp [h2]),if_pos (.inr (.inr h5))])
 refine bF rfl (fun h6=>?_) (fun h6=>?_) <;> try simp (disch:=omega) only [go_sem,jF,jG,jH,↓reduceIte,reduceCtorEq]
 ·exact bad 1 (by rw [bQ,if_neg (by simp [hc]),if_neg (by simp [h2]),if_neg (by omega),if_pos (by simp [iq]; intros; omega)])
 refine ah (fun h6'=>?_) (fun h6'=>?_) <;> try simp (disch:=omega) only [go_sem,jF,jG,jH,↓reduceIte,reduceCtorEq,Fx,aS]
 ·exact bad 1 (by rw [bQ,if_neg (by simp [hc]),if_neg (by simp [h2]),if_neg (by omega),if_pos (by simp [iq]; intros; omega)])
 have h6:iq rel 0 1073741824=true:=by simp [iq]; omega
 refine bF rfl (fun h7=>?_) (fun h7=>?_) <;> try simp (disch:=omega) only [go_sem,jF,jG,jH,↓reduceIte,reduceCtorEq,HD]
 ·exact bad 10 (by rw [bQ,if_neg (by simp [hc]),if_neg (by simp [h2]),if_neg (by omega),if_neg (by simp [h6]),if_pos (.inl (by omega))])
 refine ah (fun h8=>?_) (fun h8=>?_) <;> try simp (disch:=omega) only [go_sem,jF,jG,jH,↓reduceIte,reduceCtorEq]
 ·exact bad 10 (by rw [bQ,if_neg (by simp [hc]),if_neg (by simp [h2]),if_neg (by omega),if_neg (by simp [h6]),if_pos (.inr h8)])
 try simp (disch:=omega) only [go_sem,iA]
 have hS:bQ K site fr to rel=(⟨K.ps,K.nx+1,K.ds++[⟨K.nx,site,fr,to,rel,[],false⟩]⟩,K.nx,0):=by
  rw [bQ,if_neg (by simp [hc]),if_neg (by simp [h2]),if_neg (by omega),if_neg (by simp [h6]),if_neg (by omega)]
 have hnx:=gb hc
 refine (fV _ K (by omega) (by omega) fun d hd=>by have:=fZ hc hd; omega).mono ?_
 rintro r ⟨ob1,n1,c1⟩ ⟨XP,XA,Fs,l1,rfl,hl1,hl2,hP,hPl,hA,hI,hG,hfr⟩
 simp only at hl1 hl2 hPl hfr
 have u0:=hfr 0 (by omega)
 have u1:=hfr 1 (by omega)
 try simp (disch:=omega) only [go_sem,↓reduceIte,reduceCtorEq] at u0
 try simp (disch:=omega) only [go_sem,↓reduceIte] at u1
 have z0:¬0=n1:=by omega
 have z1:¬1=n1:=by omega
 try simp (disch:=omega) only [go_sem,jF,jG,jH,↓reduceIte,reduceCtorEq,u0,z0,hP.one,hA.one,HD]
 have hXl:(cA K.ds Fs).length≤64:=by simp [cA]; omega
 have hFl:Fs.length=K.ds.length:=by have:=hI.1; simpa [lD] using this
 refine bH (b:=72) (hA.move (by simp only; omega) fun i hi hh=>?_) (by omega) (by omega) fun X' τ2 hX2 kX=>?_
 ·simp only at hi ⊢
  rw [aa _ _ _ _ (by omega),aa _ _ _ _ (by omega)]
 obtain ⟨ob3,m3,c3⟩:=τ2
 have oX:∀ i,i<l1→aY XA i:=fun i hi=>aY.em fun h=>by have:=(hG.low i h).1; omega
 have oXm:aY XA n1:=hA.H2 (Nat.le_refl _)
 have q0:=kX.2.1 0 (by simp only; omega) (oX 0 (by omega))
 have q1:=kX.2.1 1 (by simp only; omega) (oX 1 (by omega))
 have qm:=kX.2.1 n1 (by simp only; omega) oXm
 have q2:∀ i,2≤i→i<n1→aY XA i→ob3 i=ob1 i:=fun i h2 hi ho=>(kX.2.1 i (by simp only; omega) ho).trans (by simp only; rw [aa _ _ _ _ (by omega),aa _ _ _ _ (by omega)])
 have hn3:n1+1≤m3:=kX.1
 try simp (disch:=omega) only [go_sem,↓reduceIte,u0,z0] at q0
 try simp (disch:=omega) only [go_sem,↓reduceIte,u1,z1] at q1
 try simp (disch:=omega) only [go_sem,↓reduceIte] at qm
 have y0:¬n1=0:=by omega
 have y1:¬n1=1:=by omega
 try simp (disch:=omega) only [go_sem,jF,jG,jH,↓reduceIte,reduceCtorEq,jO,q0,q1,qm,z0,z1,hP.one,hX2.flat,hX2.cells,hX2.one,HD]
 rw [hS]
 have oX2:∀ i,i<l1→aY X' i:=fun i hi=>kX.2.2 i (by simp only; omega) (oX i hi)
 have oX2m:aY X' n1:=kX.2.2 n1 (by simp only; omega) oXm
 have hX3:cu 7 HR ⟨ob3,m3,c3⟩ (cA (K.ds++[⟨K.nx,site,fr,to,rel,[],false⟩]) (Fs++[.nil])) X':=by rw [re (by omega)]; exact hX2
 refine aw.tu (.cons (pQ (hP.move (by simp only; omega) fun i hi hh=>?_) (hX3.move (Nat.le_refl _) fun i hi hh=>?_) ?_) (.cons (aw.e rfl) (.cons (aw.e rfl) .nil)))
 ·have h9:=hPl i hh
  simp only at hi ⊢
  rw [aa _ _ _ _ (by omega),aa _ _ _ _ (by omega),aa _ _ _ _ (by omega),q2 i h9.1 hi (oX i h9.2)]
 ·have h9:2≤i:=Nat.le_of_not_lt fun h=>hh (oX2 i (by omega))
  have h8:i≠n1:=fun e=>hh (e ▸ oX2m)
  simp only
  rw [aa _ _ _ _ (by omega),aa _ _ _ _ h8,aa _ _ _ _ h8]
 ·rw [show lD (K.ds++[⟨K.nx,site,fr,to,rel,[],false⟩])=lD K.ds++[ints []] by simp [lD]]
  refine IC.snoc (hI.move (by simp only; omega) fun E hE i hi hlt=>?_) cu.nil
  have h9:=(hG.Ff E hE i hi).1
  simp only at hlt ⊢
  rw [aa _ _ _ _ (by omega),aa _ _ _ _ (by omega),aa _ _ _ _ (by omega),q2 i (by omega) hlt (hG.sep E hE i hi)]
theorem pH (K:Dk) (hB:IH K) (id who code now:Int):PC prog qc [bM K,.int .i64 id,.int .i64 who,.int .i64 code,.int .i64 now] (.tuple [bM (ki K id who code now).1,.int .i64 (ki K id who code now).2]):=by
 have hKp:=eC K
 have hS0:ki K id who code now=if (bJ K id who code now 2).2.2≠0 then (uW,(bJ K id who code now 2).2.2) else (⟨K.ps,K.nx,K.ds.set (bJ K id who code now 2).1.toNat { gD K.ds (bJ K id who code now 2).1.toNat with wd:=true }⟩,0):=rfl
 refine ae qO (by simp) ?_
 simp only [je]
 try simp (disch:=omega) only [go_sem,jF,jG,jH,↓reduceIte,reduceCtorEq,dh,dB,iA]
 refine ab (lX K hB id who code 2 now) (by simp [hKp,go_sem]) ?_
 have hok:=@rj K id who code now 2
 have hck:=@lB K id who code now 2
 generalize bJ K id who code now 2=a at *
 obtain ⟨i,p,e⟩:=a
 simp only at hok hS0 hck
 try simp (disch:=omega) only [go_sem,jF,jG,jH,↓reduceIte,rn]
 refine aZ (fun h1=>?_) (fun h1=>?_)
 ·try simp (disch:=omega) only [go_sem,jF,jG,jH,↓reduceIte]
  rw [hS0,if_pos h1]
  exact aw.tu (.cons eZ (.cons (aw.e rfl) .nil))
 obtain rfl:e=0:=by simpa using h1
 rw [if_neg (by simp)] at hS0
 obtain ⟨j,rfl,hj⟩:=hok rfl
 have hc:=hck rfl
 have hnx:=gb hc
 rw [Int.toNat_natCast] at hS0
 have hg:=js hj
 generalize gD K.ds j=d at *
 try simp (disch:=omega) only [go_sem,jF,jH,↓reduceIte,reduceCtorEq,iA]
 refine (fV _ K (by omega) (by omega) fun d hd=>by have:=fZ hc hd; omega).mono ?_
 rintro r ⟨ob1,n1,c1⟩ ⟨XP,XA,Fs,l1,rfl,hl1,hl2,hP,hPl,hA,hI,hG,hfr⟩
 simp only at hl1 hl2 hPl hfr
 have u1:=hfr 1 (by omega)
 try simp (disch:=omega) only [go_sem,jF,↓reduceIte] at u1
 have hFl:Fs.length=K.ds.length:=by have:=hI.1; simpa [lD] using this
 have hFg:Fs[j]?=some Fs[j]:=List.getElem?_eq_getElem (by omega)
 generalize Fs[j]=E at *
 have hxg:=uU hg hFg
 have hXl:(cA K.ds Fs).length=K.ds.length:=by simp [cA]; omega
 rcases hA with ⟨_,h0⟩ | ⟨ia,ga,rfl,hia,hoa⟩
 ·rw [h0] at hXl; simp at hXl; omega
 simp only at hia hoa
 have hal:l1≤ia:=(hG.low ia fun h=>h _ _ _ _ rfl).1
 have z0:¬ia=n1:=by omega
 have z1:¬n1=ia:=by omega
 have z2:¬1=n1:=by omega
 have z3:¬1=ia:=by omega
 try simp (disch:=omega) only [go_sem,jF,jG,jH,↓reduceIte,u1,hP.one,hoa,hxg,hXl,z0,z1,z2,z3]
 refine ⟨by omega,by omega,?_⟩
 try simp (disch:=omega) only [go_sem,jA,jB,jC,jD,jE,jF,jG,jH,jI,jJ,↓reduceIte,reduceCtorEq,jO,jM,jN,jK,jL,u1,hP.flat,hP.cells,hP.one,hoa,hxg,hXl,z0,z1,z2,z3]
 rw [hS0]
 have hW:gH 6 (.bool true) (jc d E)=jc { d with wd:=true } E:=rfl
 have hD:(cA K.ds Fs).set j (jc { d with wd:=true } E)=cA (K.ds.set j { d with wd:=true }) Fs:=by
  rw [cA,tH jc,tP hFg]; rfl
 have hIn:lD (K.ds.set j { d with wd:=true })=lD K.ds:=by
  have h9:(lD K.ds)[j]?=some (ints d.sg):=by simp [lD,hg]
  rw [lD,List.map_set]
  exact tP h9
 have hlen:(cA (K.ds.set j { d with wd:=true }) Fs).length=K.ds.length:=by simp [cA]; omega
 rw [hW,hD]
 refine aw.tu (.cons (pQ (Fs:=Fs) (hP.move (by simp only; omega) fun i hi hh=>?_) (.inr ⟨ia,ga,by rw [hlen],by simp only; omega,?_⟩) ?_) (.cons (aw.e rfl) .nil))
 ·have h9:=hPl i hh
  simp only at hi ⊢
  repeat rw [aa _ _ _ _ (by omega)]
 ·simp only
  rw [aa _ _ _ _ (by omega),az]
 ·rw [hIn]
  refine hI.move (by simp only; omega) fun F hF i hi hlt=>?_
  have h9:=(hG.Ff F hF i hi).1
  have h8:¬i=ia:=fun h=>aY.ne (hG.sep F hF i hi) h.symm
  simp only at hlt ⊢
  rw [aa _ _ _ _ (by omega),aa _ _ _ _ h8]
  repeat rw [aa _ _ _ _ (by omega)]
theorem IW {K:Dk} {who role:Int}:∀ {l:List Int},l.length≤1→who∈l→oc K who role l=46
 | [],_,h=>by simp at h
 | [s],_,h=>by simp at h; subst h; simp [oc]
 | _ :: _ :: _,h,_=>by simp at h
theorem uq (K:Dk) (hB:IH K) (id who code now:Int):PC prog wF [bM K,.int .i64 id,.int .i64 who,.int .i64 code,.int .i64 now] (.tuple [bM (jZ K id who code now).1,.int .i64 (jZ K id who code now).2]):=by
 have hKp:=eC K
 have hS0:jZ K id who code now=if (bJ K id who code now 1).2.2≠0 then (uW,(bJ K id who code now 1).2.2) else
  if (gD K.ds (bJ K id who code now 1).1.toNat).sg.length=2 then (uW,46) else if oc K who (bJ K id who code now 1).2.1.role (gD K.ds (bJ K id who code now 1).1.toNat).sg≠0 then (uW,oc K who (bJ K id who code now 1).2.1.role (gD K.ds (bJ K id who code now 1).1.toNat).sg) else
  (⟨K.ps,K.nx,K.ds.set (bJ K id who code now 1).1.toNat { gD K.ds (bJ K id who code now 1).1.toNat with sg:=(gD K.ds (bJ K id who code now 1).1.toNat).sg++[who] }⟩,0):=rfl
 refine ae xm (by simp) ?_
 simp only [nV]
 try simp (disch:=omega) only [go_sem,jF,jG,jH,↓reduceIte,reduceCtorEq,dh,dB,iA]
 refine ab (lX K hB id who code 1 now) (by simp [hKp,go_sem]) ?_
 have hok:=@rj K id who code now 1
 have hck:=@lB K id who code now 1
 generalize bJ K id who code now 1=a at *
 obtain ⟨i,p,e⟩:=a
 simp only at hok hS0 hck
 try simp (disch:=omega) only [go_sem,jF,jG,jH,↓reduceIte,rn]
 refine aZ (fun h1=>?_) (fun h1=>?_)
 ·try simp (disch:=omega) only [go_sem,jF,jG,jH,↓reduceIte]
  rw [hS0,if_pos h1]
  exact aw.tu (.cons eZ (.cons (aw.e rfl) .nil))
 obtain rfl:e=0:=by simpa using h1
 rw [if_neg (by simp)] at hS0
 obtain ⟨j,rfl,hj⟩:=hok rfl
 have hc:=hck rfl
 have hnx:=gb hc
 have hasc:=FF hc
 rw [Int.toNat_natCast] at hS0
 have hg:=js hj
 have hgk:=fZ hc (List.mem_of_getElem? hg)
 generalize gD K.ds j=d at *
 have dv5:(gF d).cells.getD 5 .bC=.list 1 (ints d.sg):=rfl
 try simp (disch:=omega) only [go_sem,jF,jG,jH,↓reduceIte,reduceCtorEq,Fx,aS,dS,hg,Option.map_some,dv5,au]
 refine ⟨by omega,by omega,?_⟩
 refine bF rfl (fun h2=>?_) (fun h2=>?_) <;> try simp (disch:=omega) only [go_sem,jF,jG,jH,↓reduceIte,reduceCtorEq]
 ·rw [hS0,if_pos (by omega)]
  exact aw.tu (.cons eZ (.cons (aw.e rfl) .nil))
 rw [if_neg (by omega)] at hS0
 refine ab (mG d.sg who (by omega)) (by simp [go_sem]) ?_
 try simp (disch:=omega) only [go_sem,jF,↓reduceIte]
 refine ah (fun h3=>?_) (fun h3=>?_) <;> try simp (disch:=omega) only [go_sem,jF,jG,jH,↓reduceIte,au]
 ·have hs:=IW (K:=K) (role:=p.role) (by omega) h3
  rw [hS0,if_pos (by rw [hs]; omega),hs]
  exact aw.tu (.cons eZ (.cons (aw.e rfl) .nil))
 refine aW [11,17,18,19,52,53,54,55,56,57,58,59,60,61,62,63,64,65,66,67,68,69] (by kernel_rfl) d.sg.length (fun i e σ=>e 52=.int .i64 i∧σ.ob 0=some ⟨0,3,44,false,true,[bM K]⟩∧σ.ob 1=some ⟨1,3,44,false,true,[.agg [.nil,.int .i64 0,.nil]]⟩∧σ.ob 2=some ⟨2,3,131,false,true,[.agg [.int .i64 p.id,.int .i64 p.role,.int .i64 p.key]]⟩∧oc K who p.role d.sg=oc K who p.role (d.sg.drop i)) ?_ ?_
 ·exact ⟨(by first | rfl | (simp (disch:=omega) only [go_sem,jA,jB,jC,jD,jE,jF,jG,jH,jI,jJ,↓reduceIte,reduceCtorEq,jP,jO,jM,jN]; try rfl)),by try simp (disch:=omega) only [go_sem,↓reduceIte,reduceCtorEq],by try simp (disch:=omega) only [go_sem,jF,↓reduceIte],by try simp (disch:=omega) only [go_sem,↓reduceIte],rfl⟩
 rintro i fe ob m c hi hm ⟨h52,v0,v1,v2,hsg⟩
 simp (maxSteps:=1000000) only [go_sem,jF,↓reduceIte] at h52 hm v0 v1 v2
 try simp (disch:=omega) only [go_sem,jF,↓reduceIte,h52]
 refine ah (fun hlt=>?_) (fun hge=>?_)
 ·have hil:i<d.sg.length:=by omega
  rw [List.drop_eq_getElem_cons hil,oc] at hsg
  have hgi:=bD d.sg i
  rw [List.getElem?_eq_getElem hil] at hgi
  have hmem:=List.getElem_mem hil
  have hF:=fL K d.sg[i] (by omega) hasc
  generalize d.sg[i]=s at *
  rw [if_neg (fun e:s=who=>h3 (by rw [←e]; exact hmem))] at hsg
  have z4:¬0=m:=by omega
  have z5:¬1=m:=by omega
  have z6:¬2=m:=by omega
  try simp (disch:=omega) only [go_sem,jF,jH,↓reduceIte,hgi,Option.map_some,au,v0,JW]
  refine ⟨by omega,by omega,?_⟩
  refine ab hF (by simp [go_sem]) ?_
  try simp (disch:=omega) only [go_sem,jF,jG,jH,↓reduceIte,rn,v2,z6]
  refine ah (fun h4=>?_) (fun h4=>?_)
  ·try simp (disch:=omega) only [go_sem,jF,jG,jH,↓reduceIte,v1,z5]
   rw [if_pos h4] at hsg
   rw [hS0,if_pos (by rw [hsg]; omega),hsg]
   exact aw.tu (.cons eZ (.cons (aw.e rfl) .nil))
  rw [if_neg h4] at hsg
  try simp (disch:=omega) only [go_sem,jF,↓reduceIte,jO]
  refine aG m hil (by omega) ⟨(by first | rfl | (simp (disch:=omega) only [go_sem,jA,jB,jC,jD,jE,jF,jG,jH,jI,jJ,↓reduceIte,reduceCtorEq,jP,jO,jM,jN]; try rfl)),?_,?_,?_,hsg⟩
  all_goals (simp only [St.aD]; rw [if_pos (by omega),aa _ _ _ _ (by omega),aa _ _ _ _ (by omega)]; first | exact v0 | exact v1 | exact v2)
 obtain rfl:i=d.sg.length:=by omega
 rw [List.drop_length,oc] at hsg
 rw [if_neg (by simp [hsg])] at hS0
 try simp (disch:=omega) only [go_sem,jF,jH,↓reduceIte,v0,iA]
 refine (fV _ K (by omega) (by omega) fun d hd=>by have:=fZ hc hd; omega).mono ?_
 rintro r ⟨ob1,n1,c1⟩ ⟨XP,XA,Fs,l1,rfl,hl1,hl2,hP,hPl,hA,hI,hG,hfr⟩
 simp only at hl1 hl2 hPl hfr
 have u1:=(hfr 1 (by omega)).trans v1
 have hFl:Fs.length=K.ds.length:=by have:=hI.1; simpa [lD] using this
 have hjF:j<Fs.length:=by omega
 have hFg:Fs[j]?=some Fs[j]:=List.getElem?_eq_getElem hjF
 generalize hEE:Fs[j]=E at *
 have hxg:=uU hg hFg
 have hXl:(cA K.ds Fs).length=K.ds.length:=by simp [cA]; omega
 rcases hA with ⟨_,h0⟩ | ⟨ia,ga,rfl,hia,hoa⟩
 ·rw [h0] at hXl; simp at hXl; omega
 simp only at hia hoa
 have hal:l1≤ia:=(hG.low ia fun h=>h _ _ _ _ rfl).1
 have hEs:=hI.2 j E (ints d.sg) hFg (by simp [lD,hg])
 have z0:¬ia=n1:=by omega
 have z1:¬n1=ia:=by omega
 have z2:¬1=n1:=by omega
 have z3:¬1=ia:=by omega
 have d5:∀ d E,(jc d E).cells.getD 5 .bC=E:=fun _ _=>rfl
 have hEo:∀ i,¬aY E i→l1≤i∧i<n1:=fun i hi=>hG.Ff E (List.mem_of_getElem? hFg) i hi
 have hEa:aY E ia:=aY.em fun h=>aY.ne (hG.sep E (List.mem_of_getElem? hFg) ia h) rfl
 try simp (disch:=omega) only [go_sem,jF,jG,jH,↓reduceIte,reduceCtorEq,hP.one,hoa,hxg,hXl,z0,d5]
 refine ⟨by omega,by omega,?_⟩
 try simp (disch:=omega) only [go_sem,jA,jB,jC,jD,jE,jF,jG,jH,jI,jJ,↓reduceIte,reduceCtorEq,jO,jM,jN,jK,jL,u1,hP.flat,hP.cells,hP.one,hoa,hxg,hXl,z0,z1,z2,z3,d5]
 have oE:∀ i,i<l1→aY E i:=fun i hi=>aY.em fun h=>by have:=(hEo i h).1; omega
 have oEn:aY E n1:=hEs.H2 (Nat.le_refl _)
 refine bH (b:=8) (hEs.move (by simp only; omega) fun i hi hh=>?_) (by rw [au]; omega) (by rw [au]; omega) fun E' τ5 hE5 k5=>?_
 ·simp only at hi ⊢
  rw [aa _ _ _ _ (by omega),aa _ _ _ _ (by omega)]
 obtain ⟨ob5,m5,c5⟩:=τ5
 have hm5:n1+1≤m5:=k5.1
 have q5:∀ i,i<n1→aY E i→ob5 i=ob1 i:=fun i hi ho=>(k5.2.1 i (by simp only; omega) ho).trans (by simp only; rw [aa _ _ _ _ (by omega),aa _ _ _ _ (by omega)])
 have w1:=(q5 1 (by omega) (oE 1 (by omega))).trans u1
 have wa:=(q5 ia (by omega) hEa).trans hoa
 have wn:=k5.2.1 n1 (by simp only; omega) oEn
 try simp (disch:=omega) only [go_sem,↓reduceIte] at wn
 have p5:∀ y,gH 5 E' (jc d y)=jc { d with sg:=d.sg++[who] } E':=fun y=>by
  rcases hE5 with ⟨rfl,_⟩ | ⟨_,_,rfl,_⟩ <;> rfl
 have z6:¬n1=1:=by omega
 have z7:¬ia=1:=by omega
 try simp (disch:=omega) only [go_sem,jF,jG,jH,↓reduceIte,reduceCtorEq,wa,wn,hoa,hxg,w1,z0,z1,z3,hE5.flat,hE5.cells,p5,hP.one]
 refine ⟨by omega,by omega,?_⟩
 rw [hS0]
 have hD:(cA K.ds Fs).set j (jc { d with sg:=d.sg++[who] } E')=cA (K.ds.set j { d with sg:=d.sg++[who] }) (Fs.set j E'):=tH jc _ _ _ _ _
 have hlen:(cA (K.ds.set j { d with sg:=d.sg++[who] }) (Fs.set j E')).length=K.ds.length:=by simp [cA]; omega
 rw [hD]
 have oE5:∀ i,i<n1→aY E i→aY E' i:=fun i hi ho=>k5.2.2 i (by simp only; omega) ho
 have fz:∀ (x y:Option aU) i,i≠ia→i≠1→bd (bd ob5 ia x) 1 y i=ob5 i:=fun x y i h1 h2=>by rw [aa _ _ _ _ h2,aa _ _ _ _ h1]
 refine aw.tu (.cons (pQ (Fs:=Fs.set j E') (hP.move (by simp only; omega) fun i hi hh=>?_) (.inr ⟨ia,ga,by rw [hlen],by simp only; omega,?_⟩) ?_) (.cons (aw.e rfl) .nil))
 ·have h9:=hPl i hh
  simp only at hi ⊢
  rw [fz _ _ i (by omega) (by omega),q5 i (by omega) (oE i h9.2)]
 ·simp only
  rw [aa _ _ _ _ (by omega),az]
 ·rw [show lD (K.ds.set j { d with sg:=d.sg++[who] })=(lD K.ds).set j (ints (d.sg++[who])) by simp [lD,List.map_set]]
  have happ:ints (d.sg++[who])=ints d.sg++[.int .i64 who]:=by simp [ints]
  refine hI.set ?_ fun i F L hne hF hL=>?_
  ·rw [happ]
   refine hE5.move (Nat.le_refl _) fun i hi hh=>?_
   have hx1:¬i=ia:=fun h=>hh (h ▸ oE5 ia (by omega) hEa)
   have hx2:¬i=1:=fun h=>hh (h ▸ oE5 1 (by omega) (oE 1 (by omega)))
   simp only
   rw [fz _ _ i hx1 hx2]
  ·refine (hI.2 i F L hF hL).move (by simp only; omega) fun q hq hh=>?_
   simp only at hq
   have h9:=(hG.Ff F (List.mem_of_getElem? hF) q hh).1
   have hx1:¬q=ia:=fun h=>aY.ne (hG.sep F (List.mem_of_getElem? hF) q hh) h.symm
   have hx3:=hG.dj i j F E hne hF hFg q hh
   simp only
   rw [fz _ _ q hx1 (by omega),q5 q (by omega) hx3]
theorem Je (a b:Pn):(decide (a.id=b.id)&&(decide (a.role=b.role)&&decide (a.key=b.key)))=decide (a=b):=by
 obtain ⟨x,y,z⟩:=a
 obtain ⟨x',y',z'⟩:=b
 rw [Bool.eq_iff_iff]
 simp
theorem nf (a b:List Pn) (ha:a.length≤9223372036854775807):PC prog ox [.list 3 (pR a),.list 3 (pR b)] (.bool (decide (a=b))):=by
 refine ae oL (by simp) ?_
 simp only [gh,go_sem,jF,↓reduceIte,reduceCtorEq,aV]
 refine aZ (fun h=>?_) (fun h=>?_) <;> try simp (disch:=omega) only [go_sem,↓reduceIte,reduceCtorEq]
 ·exact aw.of_eq (by congr 1; simp; intro hab; exact h (by rw [hab])) rfl
 have hl:a.length=b.length:=by omega
 refine bw [4,5,13,14,15,16,17,18,19,20,21,22,23,24,25] (by kernel_rfl) a.length (fun k e _=>e 13=.int .i64 k∧∀ j,j<k→a[j]?=b[j]?) ?_ ?_
 ·exact ⟨(by first | rfl | (simp (disch:=omega) only [go_sem,jA,jB,jC,jD,jE,jF,jG,jH,jI,jJ,↓reduceIte,reduceCtorEq,jP,jO,jM,jN]; try rfl)),fun j hj=>by omega⟩
 ·rintro k fe ob c hk ⟨h13,hj⟩
  simp (maxSteps:=1000000) only [go_sem,jF,↓reduceIte] at h13
  try simp (disch:=omega) only [go_sem,jF,↓reduceIte,h13,aV]
  refine ah (fun hlt=>?_) (fun hge=>?_)
  ·have hka:k<a.length:=by omega
   have hga:a[k]?=some a[k]:=List.getElem?_eq_getElem hka
   have hgb:b[k]?=some b[k]:=List.getElem?_eq_getElem (by omega)
   have hE:=Je a[k] b[k]
   generalize a[k]=x at *
   generalize b[k]=y at *
   try simp (disch:=omega) only [go_sem,jF,jH,↓reduceIte,reduceCtorEq,aV,iI,hga,hgb,Option.map_some,rn]
   refine ⟨by omega,by omega,by omega,by omega,?_⟩
   rw [hE]
   by_cases hxy:x=y
   ·subst hxy
    try simp (disch:=omega) only [go_sem,jF,↓reduceIte,jO,decide_true,Bool.not_true]
    refine bl hka ⟨(by first | rfl | (simp (disch:=omega) only [go_sem,jA,jB,jC,jD,jE,jF,jG,jH,jI,jJ,↓reduceIte,reduceCtorEq,jP,jO,jM,jN]; try rfl)),fun j hj'=>?_⟩
    by_cases e:j=k
    ·subst e; rw [hga,hgb]
    ·exact hj j (by omega)
   ·try simp (disch:=omega) only [go_sem,↓reduceIte,decide_false,Bool.not_false,hxy]
    exact aw.of_eq (by congr 1; simp; intro hab; subst hab; rw [hga] at hgb; exact hxy (Option.some.inj hgb)) rfl
  ·try simp (disch:=omega) only [go_sem,↓reduceIte]
   exact aw.of_eq (by congr 1; simp; exact bU hl fun j hj'=>hj j (by omega)) rfl
theorem uo (a b:Dv) (ha:a.sg.length≤9223372036854775807):PC prog np [gF a,gF b] (.bool (decide (a=b))):=by
 have no:∀ {σ:St},¬a=b→aw σ (.bool false) (.bool (decide (a=b))):=fun h=>by rw [decide_eq_false h]; exact aw.pure rfl
 refine ae xj (by simp) ?_
 simp only [nS,gF,jc]
 try simp (disch:=omega) only [go_sem,jF,jG,jH,↓reduceIte,reduceCtorEq]
 refine bB rfl (fun g1=>?_) (fun g1=>?_) <;> try simp (disch:=omega) only [go_sem,jF,jG,jH,↓reduceIte,reduceCtorEq]
 case refine_2=>exact no fun e=>g1 (by rw [e])
 refine bB rfl (fun g2=>?_) (fun g2=>?_) <;> try simp (disch:=omega) only [go_sem,jF,jG,jH,↓reduceIte,reduceCtorEq]
 case refine_2=>exact no fun e=>g2 (by rw [e])
 refine bB rfl (fun g3=>?_) (fun g3=>?_) <;> try simp (disch:=omega) only [go_sem,jF,jG,jH,↓reduceIte,reduceCtorEq]
 case refine_2=>exact no fun e=>g3 (by rw [e])
 refine bB rfl (fun g4=>?_) (fun g4=>?_) <;> try simp (disch:=omega) only [go_sem,jF,jG,jH,↓reduceIte,reduceCtorEq]
 case refine_2=>exact no fun e=>g4 (by rw [e])
 refine bB rfl (fun g5=>?_) (fun g5=>?_) <;> try simp (disch:=omega) only [go_sem,jF,jG,jH,↓reduceIte,reduceCtorEq]
 case refine_2=>exact no fun e=>g5 (by rw [e])
 obtain ⟨a1,a2,a3,a4,a5,a6,a7⟩:=a
 obtain ⟨b1,b2,b3,b4,b5,b6,b7⟩:=b
 simp only at g1 g2 g3 g4 g5 ha no ⊢
 subst g1 g2 g3 g4 g5
 have hq:=iS a6 b6 ha
 have key:decide ((⟨a1,a2,a3,a4,a5,a6,a7⟩:Dv)=⟨a1,a2,a3,a4,a5,b6,b7⟩)=(decide (a7=b7)&&decide (a6=b6)):=by
  rw [Bool.eq_iff_iff]; simp [and_comm]
 rw [key]
 by_cases h7:a7=b7
 ·subst h7
  have e7:(a7 == a7)=true:=by simp
  try simp (disch:=omega) only [go_sem,jF,jG,jH,↓reduceIte,reduceCtorEq,decide_true]
  refine ab hq (by simp [go_sem]) ?_
  try simp (disch:=omega) only [go_sem,jF,↓reduceIte]
  exact aw.of_eq (by simp) rfl
 ·have e7:(a7 == b7)=false:=by simp [h7]
  try simp (disch:=omega) only [go_sem,jF,↓reduceIte,h7,decide_false]
  exact aw.of_eq (by simp) rfl
theorem gZ (a b:List Dv) (ha:a.length≤9223372036854775807) (hA:∀ x∈a,x.sg.length≤9223372036854775807) :
  PC prog iW [.list 7 (yz a),.list 7 (yz b),.func np []] (.bool (decide (a=b))):=by
 refine ae jg (by simp) ?_
 simp only [dx,go_sem,jF,↓reduceIte,reduceCtorEq,aS]
 refine aZ (fun h=>?_) (fun h=>?_) <;> try simp (disch:=omega) only [go_sem,↓reduceIte,reduceCtorEq]
 ·exact aw.of_eq (by congr 1; simp; intro hab; exact h (by rw [hab])) rfl
 have hl:a.length=b.length:=by omega
 refine aW [6,7,8,9,17,18,19,20,21,22,23,24,25,26,27,28,29,30,31] (by kernel_rfl) a.length (fun k e _=>e 17=.int .i64 k∧∀ j,j<k→a[j]?=b[j]?) ?_ ?_
 ·exact ⟨(by first | rfl | (simp (disch:=omega) only [go_sem,jA,jB,jC,jD,jE,jF,jG,jH,jI,jJ,↓reduceIte,reduceCtorEq,jP,jO,jM,jN]; try rfl)),fun j hj=>by omega⟩
 ·rintro k fe ob m c hk hm ⟨h17,hj⟩
  simp (maxSteps:=1000000) only [go_sem,jF,↓reduceIte] at h17 hm
  try simp (disch:=omega) only [go_sem,jF,↓reduceIte,h17,aS]
  refine ah (fun hlt=>?_) (fun hge=>?_)
  ·have hka:k<a.length:=by omega
   have hga:a[k]?=some a[k]:=List.getElem?_eq_getElem hka
   have hgb:b[k]?=some b[k]:=List.getElem?_eq_getElem (by omega)
   have hS:=uo a[k] b[k] (hA _ (List.getElem_mem hka))
   generalize a[k]=x at *
   generalize b[k]=y at *
   simp only [gF,jc] at hS
   try simp (disch:=omega) only [go_sem,jF,jG,jH,↓reduceIte,reduceCtorEq,jM,aS,dS,hga,hgb,Option.map_some,gF,jc]
   refine ⟨by omega,by omega,by omega,by omega,?_⟩
   refine ab hS (by simp [go_sem]) ?_
   by_cases hq:x=y
   ·subst hq
    try simp (disch:=omega) only [go_sem,jF,↓reduceIte,jO,decide_true]
    refine aG m hka (by omega) ⟨(by first | rfl | (simp (disch:=omega) only [go_sem,jA,jB,jC,jD,jE,jF,jG,jH,jI,jJ,↓reduceIte,reduceCtorEq,jP,jO,jM,jN]; try rfl)),fun j hj'=>?_⟩
    by_cases e:j=k
    ·subst e; rw [hga,hgb]
    ·exact hj j (by omega)
   ·try simp (disch:=omega) only [go_sem,↓reduceIte,hq,decide_false]
    exact aw.of_eq (by congr 1; simp; intro hab; subst hab; rw [hga] at hgb; exact hq (Option.some.inj hgb)) rfl
  ·try simp (disch:=omega) only [go_sem,↓reduceIte]
   exact aw.of_eq (by congr 1; simp; exact bU hl fun j hj'=>hj j (by omega)) rfl
structure T6 (K:Dk):Prop where
 s:IH K
 sg:∀ d∈K.ds,d.sg.length≤9223372036854775807
theorem ur (a b:Dk) (hL:T6 a):PC prog wG [bM a,bM b] (.bool (decide (a=b))):=by
 have h1:=hL.s.lp
 have h2:=hL.s.ld
 have h3:=hL.sg
 obtain ⟨p,n,l⟩:=a
 obtain ⟨p',n',l'⟩:=b
 simp only at h1 h2 h3
 have key:decide ((⟨p,n,l⟩:Dk)=⟨p',n',l'⟩)=(decide (n=n')&&(decide (p=p')&&decide (l=l'))):=by
  rw [Bool.eq_iff_iff]; simp [and_left_comm]
 rw [key]
 refine ae xn (by simp) ?_
 simp only [nW,bM]
 try simp (disch:=omega) only [go_sem,jF,jG,jH,↓reduceIte,reduceCtorEq]
 refine bB rfl (fun g1=>?_) (fun g1=>?_) <;> try simp (disch:=omega) only [go_sem,jF,jH,↓reduceIte,reduceCtorEq]
 case refine_2=>exact aw.of_eq (by simp [g1]) rfl
 refine ab (nf p p' (by omega)) (by simp [go_sem]) ?_
 by_cases g2:p=p'
 ·try simp (disch:=omega) only [go_sem,jF,jG,jH,↓reduceIte,reduceCtorEq,g2,decide_true]
  refine ab (gZ l l' (by omega) h3) (by simp [go_sem]) ?_
  try simp (disch:=omega) only [go_sem,jF,↓reduceIte]
  exact aw.of_eq (by simp [g1]) rfl
 ·try simp (disch:=omega) only [go_sem,jF,↓reduceIte,g2,decide_false]
  exact aw.of_eq (by simp [g2]) rfl
theorem ou (a b:Dv) (ha:a.sg.length≤9223372036854775807):PC prog pK [gF a,gF b] (.bool (decide (a=b))):=by
 have no:∀ {σ:St},¬a=b→aw σ (.bool false) (.bool (decide (a=b))):=fun h=>by rw [decide_eq_false h]; exact aw.pure rfl
 refine ae pN (by simp) ?_
 simp only [gU,gF,jc]
 try simp (disch:=omega) only [go_sem,jF,jG,jH,↓reduceIte,reduceCtorEq]
 refine iY rfl (fun g1=>?_) (fun g1=>?_) <;> try simp (disch:=omega) only [go_sem,jF,jG,jH,↓reduceIte,reduceCtorEq]
 ·exact no fun e=>g1 (by rw [e])
 refine iY rfl (fun g2=>?_) (fun g2=>?_) <;> try simp (disch:=omega) only [go_sem,jF,jG,jH,↓reduceIte,reduceCtorEq]
 ·exact no fun e=>g2 (by rw [e])
 refine iY rfl (fun g3=>?_) (fun g3=>?_) <;> try simp (disch:=omega) only [go_sem,jF,jG,jH,↓reduceIte,reduceCtorEq]
 ·exact no fun e=>g3 (by rw [e])
 refine iY rfl (fun g4=>?_) (fun g4=>?_) <;> try simp (disch:=omega) only [go_sem,jF,jG,jH,↓reduceIte,reduceCtorEq]
 ·exact no fun e=>g4 (by rw [e])
 refine iY rfl (fun g5=>?_) (fun g5=>?_) <;> try simp (disch:=omega) only [go_sem,jF,jG,jH,↓reduceIte,reduceCtorEq]
 ·exact no fun e=>g5 (by rw [e])
 refine iY rfl (fun g7=>?_) (fun g7=>?_) <;> try simp (disch:=omega) only [go_sem,jF,jG,jH,↓reduceIte,reduceCtorEq,au]
 ·exact no fun e=>g7 (by rw [e])
 refine aZ (fun g6=>?_) (fun g6=>?_) <;> try simp (disch:=omega) only [go_sem,jF,jG,jH,↓reduceIte,reduceCtorEq,au]
 ·exact no fun e=>g6 (by rw [e])
 have hab:∀ (h:a.sg=b.sg),a=b:=fun h=>by
  obtain ⟨a1,a2,a3,a4,a5,a6,a7⟩:=a
  obtain ⟨b1,b2,b3,b4,b5,b6,b7⟩:=b
  simp only at g1 g2 g3 g4 g5 g7 h
  subst g1 g2 g3 g4 g5 g7 h
  rfl
 have hl:a.sg.length=b.sg.length:=by omega
 refine aW [4,5,58,59,60,61,62,63,64,65,66,67,68,69,70,71,72] (by kernel_rfl) a.sg.length (fun k e σ=>e 58=.int .i64 k∧σ.ob 0=some ⟨0,7,28,false,true,[gF a]⟩∧σ.ob 1=some ⟨1,7,28,false,true,[gF b]⟩∧∀ j,j<k→a.sg[j]?=b.sg[j]?) ?_ ?_
 ·exact ⟨(by first | rfl | (simp (disch:=omega) only [go_sem,jA,jB,jC,jD,jE,jF,jG,jH,jI,jJ,↓reduceIte,reduceCtorEq,jP,jO,jM,jN]; try rfl)),by try simp (disch:=omega) only [go_sem,↓reduceIte,reduceCtorEq]; rfl,by try simp (disch:=omega) only [go_sem,↓reduceIte]; rfl,fun j hj=>by omega⟩
 rintro k fe ob m c hk hm ⟨h58,v0,v1,hj⟩
 simp (maxSteps:=1000000) only [go_sem,jF,↓reduceIte] at h58 v0 v1 hm
 simp only [gF,jc] at v0 v1
 try simp (disch:=omega) only [go_sem,jF,↓reduceIte,h58]
 refine ah (fun hlt=>?_) (fun hge=>?_)
 ·have hka:k<a.sg.length:=by omega
  have hga:a.sg[k]?=some a.sg[k]:=List.getElem?_eq_getElem hka
  have hgb:b.sg[k]?=some b.sg[k]:=List.getElem?_eq_getElem (by omega)
  generalize a.sg[k]=x at *
  generalize b.sg[k]=y at *
  try simp (disch:=omega) only [go_sem,jF,jG,jH,↓reduceIte,v0,v1,bD,au,hga,hgb,Option.map_some]
  refine ⟨by omega,by omega,by omega,by omega,?_⟩
  refine aZ (fun hq=>?_) (fun hq=>?_) <;> try simp (disch:=omega) only [go_sem,jF,↓reduceIte,jO]
  ·exact no fun e=>by subst e; rw [hga] at hgb; exact hq (Option.some.inj hgb)
  ·subst hq
   refine aG m hka (by omega) ⟨(by first | rfl | (simp (disch:=omega) only [go_sem,jA,jB,jC,jD,jE,jF,jG,jH,jI,jJ,↓reduceIte,reduceCtorEq,jP,jO,jM,jN]; try rfl)),?_,?_,fun j hj'=>?_⟩
   ·simp only [St.aD]; rw [if_pos (by omega)]; exact v0
   ·simp only [St.aD]; rw [if_pos (by omega)]; exact v1
   ·by_cases e:j=k
    ·subst e; rw [hga,hgb]
    ·exact hj j (by omega)
 ·try simp (disch:=omega) only [go_sem,↓reduceIte]
  rw [decide_eq_true (hab (bU hl fun j hj'=>hj j (by omega)))]
  exact aw.pure rfl
theorem Bs (a b:Dk) (hL:T6 a):PC prog DH [bM a,bM b] (.bool (decide (a=b))):=by
 have h1:=hL.s.lp
 have h2:=hL.s.ld
 have h3:=hL.sg
 have no:∀ {σ:St},¬a=b→aw σ (.bool false) (.bool (decide (a=b))):=fun h=>by rw [decide_eq_false h]; exact aw.pure rfl
 refine ae Em (by simp) ?_
 simp only [vo,bM]
 try simp (disch:=omega) only [go_sem,jF,jG,jH,↓reduceIte,reduceCtorEq]
 refine iY rfl (fun g1=>?_) (fun g1=>?_) <;> try simp (disch:=omega) only [go_sem,jF,jH,↓reduceIte,reduceCtorEq,aV]
 ·exact no fun e=>g1 (by rw [e])
 refine iY rfl (fun g2=>?_) (fun g2=>?_) <;> try simp (disch:=omega) only [go_sem,jF,jG,jH,↓reduceIte,reduceCtorEq,aS]
 ·exact no fun e=>g2 (by rw [e])
 refine aZ (fun g3=>?_) (fun g3=>?_) <;> try simp (disch:=omega) only [go_sem,jF,jH,↓reduceIte,reduceCtorEq,aV]
 ·exact no fun e=>g3 (by rw [e])
 have hl1:a.ps.length=b.ps.length:=by omega
 have hl2:a.ds.length=b.ds.length:=by omega
 refine aW [4,5,33,34,35,36,37,38,39,40,41,42,43,44,45,46,47] (by kernel_rfl) a.ps.length (fun k e σ=>e 33=.int .i64 k∧σ.ob 0=some ⟨0,3,44,false,true,[bM a]⟩∧σ.ob 1=some ⟨1,3,44,false,true,[bM b]⟩∧∀ j,j<k→a.ps[j]?=b.ps[j]?) ?_ ?_
 ·exact ⟨(by first | rfl | (simp (disch:=omega) only [go_sem,jA,jB,jC,jD,jE,jF,jG,jH,jI,jJ,↓reduceIte,reduceCtorEq,jP,jO,jM,jN]; try rfl)),by try simp (disch:=omega) only [go_sem,↓reduceIte,reduceCtorEq]; rfl,by try simp (disch:=omega) only [go_sem,↓reduceIte]; rfl,fun j hj=>by omega⟩
 rintro k fe ob m c hk hm ⟨h33,v0,v1,hj⟩
 simp (maxSteps:=1000000) only [go_sem,jF,↓reduceIte] at h33 v0 v1 hm
 simp only [bM] at v0 v1
 try simp (disch:=omega) only [go_sem,jF,↓reduceIte,h33]
 refine ah (fun hlt=>?_) (fun hge=>?_)
 ·have hka:k<a.ps.length:=by omega
  have hga:a.ps[k]?=some a.ps[k]:=List.getElem?_eq_getElem hka
  have hgb:b.ps[k]?=some b.ps[k]:=List.getElem?_eq_getElem (by omega)
  have hE:=Je a.ps[k] b.ps[k]
  generalize a.ps[k]=x at *
  generalize b.ps[k]=y at *
  try simp (disch:=omega) only [go_sem,jF,jH,↓reduceIte,v0,v1,iI,aV,hga,hgb,Option.map_some,rn]
  refine ⟨by omega,by omega,by omega,by omega,?_⟩
  rw [hE]
  by_cases hq:x=y
  ·subst hq
   try simp (disch:=omega) only [go_sem,jF,↓reduceIte,jO,decide_true,Bool.not_true]
   refine aG m hka (by omega) ⟨(by first | rfl | (simp (disch:=omega) only [go_sem,jA,jB,jC,jD,jE,jF,jG,jH,jI,jJ,↓reduceIte,reduceCtorEq,jP,jO,jM,jN]; try rfl)),?_,?_,fun j hj'=>?_⟩
   ·simp only [St.aD]; rw [if_pos (by omega)]; exact v0
   ·simp only [St.aD]; rw [if_pos (by omega)]; exact v1
   ·by_cases e:j=k
    ·subst e; rw [hga,hgb]
    ·exact hj j (by omega)
  ·try simp (disch:=omega) only [go_sem,↓reduceIte,decide_false,Bool.not_false,hq]
   exact no fun e=>by subst e; rw [hga] at hgb; exact hq (Option.some.inj hgb)
 have hps:=bU hl1 fun j hj'=>hj j (by omega)
 clear hge hj h33
 try simp (disch:=omega) only [go_sem,jF,jG,jH,↓reduceIte,v0,aS]
 refine aW [4,6,51,52,53,54,55,56,57,58,59,60,61,62,63,64,65,66] (by kernel_rfl) a.ds.length (fun k e σ=>e 51=.int .i64 k∧σ.ob 0=some ⟨0,3,44,false,true,[bM a]⟩∧σ.ob 1=some ⟨1,3,44,false,true,[bM b]⟩∧∀ j,j<k→a.ds[j]?=b.ds[j]?) ?_ ?_
 ·exact ⟨(by first | rfl | (simp (disch:=omega) only [go_sem,jA,jB,jC,jD,jE,jF,jG,jH,jI,jJ,↓reduceIte,reduceCtorEq,jP,jO,jM,jN]; try rfl)),v0,v1,fun j hj=>by omega⟩
 clear v0 v1
 rintro k2 fe2 ob2 m2 c2 hk2 hm2 ⟨h51,v0,v1,hj⟩
 simp (maxSteps:=1000000) only [go_sem,jF,↓reduceIte] at h51 v0 v1 hm2
 simp only [bM] at v0 v1
 try simp (disch:=omega) only [go_sem,jF,↓reduceIte,h51]
 refine ah (fun hlt=>?_) (fun hge=>?_)
 ·have hka:k2<a.ds.length:=by omega
  have hga:a.ds[k2]?=some a.ds[k2]:=List.getElem?_eq_getElem hka
  have hgb:b.ds[k2]?=some b.ds[k2]:=List.getElem?_eq_getElem (by omega)
  have hS:=ou a.ds[k2] b.ds[k2] (h3 _ (List.getElem_mem hka))
  generalize a.ds[k2]=x at *
  generalize b.ds[k2]=y at *
  simp only [gF,jc] at hS
  try simp (disch:=omega) only [go_sem,jF,jG,jH,↓reduceIte,v0,v1,dS,aS,hga,hgb,Option.map_some,gF,jc]
  refine ⟨by omega,by omega,by omega,by omega,?_⟩
  refine ab hS (by simp [go_sem]) ?_
  by_cases hq:x=y
  ·subst hq
   try simp (disch:=omega) only [go_sem,jF,↓reduceIte,jO,decide_true,Bool.not_true]
   refine aG m2 hka (by omega) ⟨(by first | rfl | (simp (disch:=omega) only [go_sem,jA,jB,jC,jD,jE,jF,jG,jH,jI,jJ,↓reduceIte,reduceCtorEq,jP,jO,jM,jN]; try rfl)),?_,?_,fun j hj'=>?_⟩
   ·simp only [St.aD]; rw [if_pos (by omega)]; exact v0
   ·simp only [St.aD]; rw [if_pos (by omega)]; exact v1
   ·by_cases e:j=k2
    ·subst e; rw [hga,hgb]
    ·exact hj j (by omega)
  ·try simp (disch:=omega) only [go_sem,↓reduceIte,decide_false,Bool.not_false,hq]
   exact no fun e=>by subst e; rw [hga] at hgb; exact hq (Option.some.inj hgb)
 ·have hds:=bU hl2 fun j hj'=>hj j (by omega)
  try simp (disch:=omega) only [go_sem,↓reduceIte]
  have:a=b:=by
   obtain ⟨p,n,l⟩:=a
   obtain ⟨p',n',l'⟩:=b
   simp only at hps hds g1
   subst hps hds g1
   rfl
  rw [decide_eq_true this]
  exact aw.pure rfl
structure Kt where
 B:Bk
 K:Dk
 s:Sd
def kv (k:Kt):AV:=Ak k.B k.K k.s
def UM:Sd:=⟨0,[]⟩
def kz:Kt:=⟨EE,uW,UM⟩
theorem mM {σ:St}:aw σ (.agg [.nil,.nil,.nil,.int .i64 0,.nil,.int .i64 0,.nil]) (kv kz):=aw.ag (.cons (.nl 4) (.cons (.nl 6) (.cons (.nl 3) (.cons (aw.e rfl) (.cons (.nl 7) (.cons (aw.e rfl) (.cons (.nl 4) .nil)))))))
structure IA (k:Kt):Prop where
 b:lT k.B
 d:IH k.K
 s:k.s.l.length≤9223372036854775807
structure G3 (k:Kt):Prop where
 b:lT k.B
 d:cd k.K=true
 s:db k.s=true
theorem G3.S {k:Kt} (h:G3 k):IA k:=by
 have h1:=gb h.d
 have h2:=fh h.s
 exact ⟨h.b,⟨by omega,by omega⟩,by omega⟩
structure Ph (k:Kt):Prop where
 n:k.B.op.length≤9223372036854775807
 a:∀ x∈k.B.op,IF x
 r:k.B.rp.length≤9223372036854775807
 d:T6 k.K
 s:k.s.l.length≤9223372036854775807
theorem G3.L {k:Kt} (h:G3 k):Ph k:=⟨by have:=h.b.n; omega,fun x hx=>(h.b.ao x hx).l,by have:=h.b.m; omega,⟨h.S.d,fun d hx=>by have:=fZ h.d hx; omega⟩,h.S.s⟩
theorem Rr:Ph kz:=⟨by simp [kz,EE],fun x h=>by simp [kz,EE] at h,by simp [kz,EE],⟨⟨by simp [kz,uW],by simp [kz,uW]⟩,fun d h=>by simp [kz,uW] at h⟩,by simp [kz,UM]⟩
def lN (k:Kt):Int:=if cd k.K=true∧db k.s=true then 0 else 50
theorem oF {k:Kt} (h:IA k):lN k=0↔G3 k:=by
 rw [lN]
 split
 ·rename_i h1; exact ⟨fun _=>⟨h.b,h1.1,h1.2⟩,fun _=>rfl⟩
 ·rename_i h1; exact ⟨fun h=>(by cases h),fun h=>absurd ⟨h.d,h.s⟩ h1⟩
def I9 (q:Rc):Rp:=⟨q.num,q.acc,q.vP,q.tm,⟨q.lo,q.hi⟩⟩
theorem Ob {n:Int}:vB n=true↔0≤n∧n≤274877906944:=by simp [vB]
theorem I8 {q:Rc} (h:bc q=true) (hk:q.k=1):Pc (I9 q):=by
 simp only [bc,Bool.and_eq_true] at h
 have h2:=h.1.2
 simp only [bh,hk,aJ,if_true,List.map_cons,List.map_nil,List.all_cons,List.all_nil,Bool.and_true,Bool.and_eq_true,cI,Ob] at h2
 exact ⟨h2.1,h2.2.1,h2.2.2.1,h2.2.2.2.1,h2.2.2.2.2.1,h2.2.2.2.2.2⟩
theorem EI {q:Rc} (h:bc q=true):1≤q.k∧q.k≤6:=by
 simp only [bc,Bool.and_eq_true,decide_eq_true_eq] at h
 exact wm h.1.1
def jt (e:Int) (k:Kt):Kt × Int:=if e=0 then (k,0) else (kz,e)
def qt (k:Kt) (q:Rc):Kt × Int:=
 if lN k≠0 then (kz,lN k) else if bc q=false then (kz,49) else
 if q.k=1 then jt (qo k.B (I9 q)).2 ⟨(qo k.B (I9 q)).1,k.K,k.s⟩ else
 if q.k=2 then jt (bQ k.K q.site q.fr q.to q.rel).2.2 ⟨k.B,(bQ k.K q.site q.fr q.to q.rel).1,k.s⟩ else
 if q.k=3 then jt (jZ k.K q.y9 q.zF q.code q.time).2 ⟨k.B,(jZ k.K q.y9 q.zF q.code q.time).1,k.s⟩ else
 if q.k=4 then jt (ki k.K q.y9 q.zF q.code q.time).2 ⟨k.B,(ki k.K q.y9 q.zF q.code q.time).1,k.s⟩ else
 if q.k=5 then jt (cK k.s q.na q.wk q.vZ).2.2 ⟨k.B,k.K,(cK k.s q.na q.wk q.vZ).1⟩ else
 jt (dK k.s q.xX).2 ⟨k.B,k.K,(dK k.s q.xX).1⟩
def mX (k:Kt) (q:Rc):Kt:=if (qt k q).2=0 then (qt k q).1 else k
def De (k:Kt) (s:ByteArray) (n:Int):Kt × Int × Int:=
 if lN k≠0 then (kz,0,lN k) else if n<0∨((fK s).1.length:Int)<n then (kz,0,1) else (((fK s).1.drop n.toNat).foldl mX k,((fK s).1.length:Int),0)
theorem th {e:Int} {k:Kt}:(jt e k).2=e:=by
 rw [jt]; split
 ·rename_i h; exact h.symm
 ·rfl
theorem qZ {e:Int} {k:Kt} (h:e=0):(jt e k).1=k:=by rw [jt,if_pos h]
theorem L0 {B:Bk} {r:Rp} (h:lT B) (hv:Pc r) (h0:(qo B r).2=0):lT (qo B r).1:=by
 rw [qo] at h0 ⊢
 split at h0
 ·rename_i h1; exact absurd h0 h1
 ·rename_i h1
  rw [if_neg h1]
  exact (Fm h (Gi h.ao hv (Decidable.byContradiction h1)) h0).1
theorem LU {s:Sd} {k i v:Int} (h:(cK s k i v).2.2=0):db (cK s k i v).1=true:=by
 unfold cK at h ⊢
 by_cases h1:db s=true
 rotate_left
 ·rw [if_neg h1] at h; cases h
 rw [if_pos h1] at h ⊢
 by_cases h2:dI k i v=0
 rotate_left
 ·rw [if_neg h2] at h; exact absurd h h2
 rw [if_pos h2] at h ⊢
 by_cases h3:s.l.length=64∨s.n=1073741824
 ·rw [if_pos h3] at h; cases h
 rw [if_neg h3]
 obtain ⟨q1,q2,q3,q4⟩:=fh h1
 refine Db (by simp only; omega) (by simp only; omega) (by simp; omega) ?_
 simp only [List.length_append,List.length_singleton]
 refine yQ fun j o ho=>?_
 rcases Nat.lt_or_ge j s.l.length with hj | hj
 ·rw [List.getElem?_append_left hj] at ho
  have:=zA q4 j o ho
  exact ⟨this.1,by rw [this.2]; omega⟩
 ·rw [List.getElem?_append_right hj] at ho
  have hj2:=(List.getElem?_eq_some_iff.1 ho).1
  simp at hj2
  have:j-s.l.length=0:=by omega
  rw [this] at ho
  simp at ho
  subst ho
  exact ⟨Hq (by simp only; omega) (by simp only; omega) h2,by simp only; omega⟩
theorem Mb {s:Sd} {n:Int} (h:(dK s n).2=0):db (dK s n).1=true:=by
 unfold dK at h ⊢
 by_cases h1:db s=true
 rotate_left
 ·rw [if_neg h1] at h; cases h
 rw [if_pos h1] at h ⊢
 by_cases h3:n<0∨s.n≤n
 ·rw [if_pos h3] at h; cases h
 rw [if_neg h3]
 obtain ⟨q1,q2,q3,q4⟩:=fh h1
 refine Db q1 q2 (Nat.le_trans (List.length_filter_le _ _) q3) ?_
 simp only
 rw [sR q4]
 refine yQ fun j o ho=>?_
 have hj:=(List.getElem?_eq_some_iff.1 ho).1
 rw [List.length_drop] at hj
 rw [List.getElem?_drop] at ho
 have:=zA q4 _ o ho
 refine ⟨this.1,?_⟩
 rw [this.2,List.length_drop]
 omega
theorem GJ {k:Kt} (h:IA k) {q:Rc} (h0:(qt k q).2=0):G3 (qt k q).1:=by
 unfold qt at h0 ⊢
 by_cases c0:lN k≠0
 ·rw [if_pos c0] at h0; exact absurd h0 c0
 rw [if_neg c0] at h0 ⊢
 have hO:=(oF h).1 (Decidable.byContradiction c0)
 by_cases c1:bc q=false
 ·rw [if_pos c1] at h0; cases h0
 rw [if_neg c1] at h0 ⊢
 by_cases k1:q.k=1
 ·rw [if_pos k1,th] at h0
  rw [if_pos k1,qZ h0]
  exact ⟨L0 hO.b (I8 (by simpa using c1) k1) h0,hO.d,hO.s⟩
 rw [if_neg k1] at h0 ⊢
 by_cases k2:q.k=2
 ·rw [if_pos k2,th] at h0
  rw [if_pos k2,qZ h0]
  exact ⟨hO.b,(EV h0).1,hO.s⟩
 rw [if_neg k2] at h0 ⊢
 by_cases k3:q.k=3
 ·rw [if_pos k3,th] at h0
  rw [if_pos k3,qZ h0]
  exact ⟨hO.b,EN h0,hO.s⟩
 rw [if_neg k3] at h0 ⊢
 by_cases k4:q.k=4
 ·rw [if_pos k4,th] at h0
  rw [if_pos k4,qZ h0]
  exact ⟨hO.b,EG h0,hO.s⟩
 rw [if_neg k4] at h0 ⊢
 by_cases k5:q.k=5
 ·rw [if_pos k5,th] at h0
  rw [if_pos k5,qZ h0]
  exact ⟨hO.b,hO.d,LU h0⟩
 rw [if_neg k5,th] at h0
 rw [if_neg k5,qZ h0]
 exact ⟨hO.b,hO.d,Mb h0⟩
theorem IQ {k:Kt} (h:G3 k) (q:Rc):G3 (mX k q):=by
 rw [mX]; split
 ·rename_i h0; exact GJ h.S h0
 ·exact h
theorem Fi:∀ {l:List Rc} {k:Kt},G3 k→G3 (l.foldl mX k)
 | [],_,h=>h
 | q :: l,_,h=>Fi (l:=l) (IQ h q)
theorem Md {B:Bk} (h:lT B):B.rp.take (da (ic B.rp) (1073741824+1))=B.rp:=by
 have:da (ic B.rp) (1073741824+1)=B.rp.length:=AQ _ _ _ (by simp) (fun j hj y hy=>by
  obtain ⟨q,hq,rfl⟩:=et.1 hy
  have:=(h.ro q (List.mem_of_getElem? hq)).n2
  omega) (fun j hj y hy=>by
  obtain ⟨q,hq,rfl⟩:=et.1 hy
  have:=(List.getElem?_eq_some_iff.1 hq).1
  omega)
 rw [this,List.take_length]
theorem dO (k:Kt) (h:IA k):PC prog wv [kv k] (.int .i64 (lN k)):=by
 obtain ⟨B,K,s⟩:=k
 have hB:=dN B h.b
 have hD:=sW K h.d
 have hS:=jm s h.s
 have hE:lN ⟨B,K,s⟩=if cd K=true∧db s=true then 0 else 50:=rfl
 rw [hE,kv,Ak]
 simp only [jv,bM,mr] at hB hD hS
 refine ae xb (by simp) ?_
 simp only [nL,go_sem,jF,jG,jH,↓reduceIte]
 refine ab hB (by simp [go_sem]) ?_
 try simp (disch:=omega) only [go_sem,jF,jG,jH,↓reduceIte]
 refine ab hD (by simp [go_sem]) ?_
 rw [o6]
 cases cd K
 ·try simp (disch:=omega) only [go_sem,jA,jF,↓reduceIte,reduceCtorEq]
  exact aw.of_eq rfl rfl
 try simp (disch:=omega) only [go_sem,jF,jG,jH,↓reduceIte]
 refine ab hS (by simp [go_sem]) ?_
 cases db s
 ·try simp (disch:=omega) only [go_sem,↓reduceIte,reduceCtorEq]
  exact aw.of_eq rfl rfl
 ·try simp (disch:=omega) only [go_sem,↓reduceIte]
  exact aw.of_eq rfl rfl
theorem nh (k:Kt) (h:G3 k):PC prog yn [kv k] (kv k):=by
 obtain ⟨B,K,s⟩:=k
 obtain ⟨d1,d2,d3,d4⟩:=gb h.d
 obtain ⟨s1,s2,s3,s4⟩:=fh h.s
 have hU:=wb B h.b 1073741824 (by omega)
 rw [Md h.b] at hU
 have hsg:∀ d∈K.ds,d.sg.length≤2:=fun d hd=>fZ h.d hd
 simp only at d3 d4 s3
 rw [kv,Ak]
 simp only [jv] at hU
 refine ae yJ (by simp) ?_
 simp only [po,go_sem,jF,jG,jH,↓reduceIte,reduceCtorEq]
 try simp (disch:=omega) only [go_sem,jA,jB,jC,jD,jE,jF,jG,jH,jI,jJ,↓reduceIte,reduceCtorEq,jO,jM,jN,jK,jL]
 refine ab (mA (pR K.ps) (by rw [aV]; omega) (Dm _) (Gn _)) (by simp [go_sem]) ?_
 try simp (disch:=omega) only [go_sem,jF,jG,jH,↓reduceIte,reduceCtorEq,aS]
 refine aW [5,19,20,21,22,23,24,25,26,27,28,29,30,31,32,33,34,35] (by kernel_rfl) K.ds.length (fun k e σ=>e 19=.int .i64 k∧σ.ob 0=some ⟨0,7,49,false,true,[.agg [.list 4 (lE B.op),.list 6 (iG B.rp),.list 3 (pR K.ps),.int .i64 K.nx,.list 7 (yz K.ds),.int .i64 s.n,.list 4 (cH s.l)]]⟩∧
   σ.ob 1=some ⟨1,7,49,false,true,[.agg [.nil,.nil,.nil,.int .i64 0,.nil,.int .i64 0,.nil]]⟩∧
   ∃ X,σ.ob 2=some ⟨2,7,49,false,true,[.agg [.nil,.nil,.list 3 (pR K.ps),.int .i64 K.nx,X,.int .i64 0,.nil]]⟩∧cu 7 28 σ (yz (K.ds.take k)) X∧aY X 0∧aY X 1∧aY X 2) ?_ ?_
 ·exact ⟨(by first | rfl | (simp (disch:=omega) only [go_sem,jA,jB,jC,jD,jE,jF,jG,jH,jI,jJ,↓reduceIte,reduceCtorEq,jP,jO,jM,jN]; try rfl)),by try simp (disch:=omega) only [go_sem,↓reduceIte,reduceCtorEq],by try simp (disch:=omega) only [go_sem,jF,↓reduceIte],.nil,by try simp (disch:=omega) only [go_sem,↓reduceIte],cu.nil,aY.nil _,aY.nil _,aY.nil _⟩
 rintro k fe ob m c hk hm ⟨h19,u0,u1,X,u2,hR,o0,o1,o2⟩
 simp (maxSteps:=1000000) only [go_sem,jF,↓reduceIte] at h19 u0 u1 u2 hR hm
 try simp (disch:=omega) only [go_sem,jF,↓reduceIte,h19]
 refine ah (fun hlt=>?_) (fun hge=>?_)
 ·have hkl:k<K.ds.length:=by omega
  have e1:=js hkl
  have ha:=hsg _ (List.mem_of_getElem? e1)
  have htk:K.ds.take (k+1)=K.ds.take k++[gD K.ds k]:=by rw [List.take_add_one,e1]; rfl
  generalize gD K.ds k=d at *
  have hC:=pE (ints d.sg) (by rw [au]; omega) (dC _) (iN _)
  have z0:¬0=m:=by omega
  have z1:¬1=m:=by omega
  have z2:¬2=m:=by omega
  have z3:¬m=2:=by omega
  try simp (disch:=omega) only [go_sem,jF,jG,jH,↓reduceIte,aS,dS,e1,Option.map_some,gF,jc]
  refine ⟨by omega,by omega,?_⟩
  refine ab hC (by simp [go_sem]) ?_
  try simp (disch:=omega) only [go_sem,jF,jG,jH,↓reduceIte,z2,u2]
  have hlen:(yz (K.ds.take k)).length≤64:=by rw [aS,List.length_take]; omega
  refine bH (b:=72) (hR.move (by simp only; omega) fun i hi _=>by
   simp only at hi ⊢
   repeat rw [aa _ _ _ _ (by omega)]) (by omega) (by omega) fun X2 τ2 hR2 hK2=>?_
  have hn2:=hK2.1
  have r0:=hK2.2.1 0 (by simp only; omega) o0
  have r1:=hK2.2.1 1 (by simp only; omega) o1
  have r2:=hK2.2.1 2 (by simp only; omega) o2
  have p0:=hK2.2.2 0 (by simp only; omega) o0
  have p1:=hK2.2.2 1 (by simp only; omega) o1
  have p2:=hK2.2.2 2 (by simp only; omega) o2
  simp only at r0 r1 r2 hn2
  try simp (disch:=omega) only [go_sem,↓reduceIte,z0,u0] at r0
  try simp (disch:=omega) only [go_sem,↓reduceIte,z1,u1] at r1
  try simp (disch:=omega) only [go_sem,↓reduceIte,z2,u2] at r2
  try simp (disch:=omega) only [go_sem,jF,jG,jH,↓reduceIte,jO,hR2.flat,hR2.cells,r2]
  refine aG τ2.n hkl (by omega) ⟨(by first | rfl | (simp (disch:=omega) only [go_sem,jA,jB,jC,jD,jE,jF,jG,jH,jI,jJ,↓reduceIte,reduceCtorEq,jP,jO,jM,jN]; try rfl)),?_,?_,X2,?_,?_,p0,p1,p2⟩
  ·simp only [St.aD,St.put]; rw [if_pos (by omega),aa _ _ _ _ (by omega)]; exact r0
  ·simp only [St.aD,St.put]; rw [if_pos (by omega),aa _ _ _ _ (by omega)]; exact r1
  ·simp only [St.aD,St.put]; rw [if_pos (by omega),az]
  ·rw [htk,show yz (K.ds.take k++[d])=yz (K.ds.take k)++[.agg [.int .i64 d.id,.int .i64 d.site,.int .i64 d.fr,.int .i64 d.to,.int .i64 d.rel,.list 1 (ints d.sg),.bool d.wd]] by simp [yz,gF,jc]]
   refine hR2.move (Nat.le_refl _) fun i hi hno=>?_
   have:¬i=2:=fun e=>hno (e ▸ p2)
   simp only [St.aD,St.put]; rw [if_pos hi,aa _ _ _ _ this]
 ·try simp (disch:=omega) only [go_sem,jF,jH,↓reduceIte,u0]
  refine ab hU (by simp [go_sem]) ?_
  try simp (disch:=omega) only [go_sem,jF,jG,jH,↓reduceIte,reduceCtorEq,u0,u2]
  refine ab (m8 (cH s.l) (by rw [ak]; omega) (ep _) (ib _)) (by simp [go_sem]) ?_
  try simp (disch:=omega) only [go_sem,jF,jG,jH,↓reduceIte,reduceCtorEq,u0,u1,hR.one]
  obtain rfl:k=K.ds.length:=by omega
  rw [List.take_length] at hR
  refine aw.ag (.cons (.pure (by simp [go_sem])) (.cons (.pure (by simp [go_sem])) (.cons (.pure (by simp [go_sem])) (.cons (aw.e rfl) (.cons (hR.mU (fun i hi hno=>?_) (L7 _) (JU _)) (.cons (aw.e rfl) (.cons (.pure (by simp [go_sem])) .nil)))))))
  have y1:¬i=1:=fun e=>hno (e ▸ o1)
  have y2:¬i=2:=fun e=>hno (e ▸ o2)
  simp only
  repeat rw [aa _ _ _ _ (by assumption)]
theorem D2 {k:Kt} {q:Rc} (h:lN k≠0):qt k q=(kz,lN k):=by rw [qt,if_pos h]
theorem D0 {k:Kt} {q:Rc} (h:lN k=0) (hv:bc q=false):qt k q=(kz,49):=by rw [qt,if_neg (by simp [h]),if_pos hv]
theorem D1 {k:Kt} {q:Rc} (h:lN k=0) (hv:bc q=true):qt k q=
 if q.k=1 then jt (qo k.B (I9 q)).2 ⟨(qo k.B (I9 q)).1,k.K,k.s⟩ else
 if q.k=2 then jt (bQ k.K q.site q.fr q.to q.rel).2.2 ⟨k.B,(bQ k.K q.site q.fr q.to q.rel).1,k.s⟩ else
 if q.k=3 then jt (jZ k.K q.y9 q.zF q.code q.time).2 ⟨k.B,(jZ k.K q.y9 q.zF q.code q.time).1,k.s⟩ else
 if q.k=4 then jt (ki k.K q.y9 q.zF q.code q.time).2 ⟨k.B,(ki k.K q.y9 q.zF q.code q.time).1,k.s⟩ else
 if q.k=5 then jt (cK k.s q.na q.wk q.vZ).2.2 ⟨k.B,k.K,(cK k.s q.na q.wk q.vZ).1⟩ else
 jt (dK k.s q.xX).2 ⟨k.B,k.K,(dK k.s q.xX).1⟩:=by rw [qt,if_neg (by simp [h]),if_neg (by simp [hv])]
theorem kV (k:Kt):gH 0 (kv k) (.agg [.nil,.nil,.nil,.int .i64 0,.nil,.int .i64 0,.nil])=kv k:=rfl
theorem il (k:Kt):(kv k).cL=true:=yV _ _ _
theorem dD {σ:St} {e:Int} {k:Kt} (h:e=0):aw σ (.tuple [kv k,.int .i64 0]) (.tuple [kv (jt e k).1,.int .i64 (jt e k).2]):=by
 rw [jt,if_pos h]
 exact aw.tu (.cons (.pure (il k)) (.cons (.pure rfl) .nil))
theorem dE {σ:St} {e:Int} {k:Kt} (h:e≠0):aw σ (.tuple [.agg [.nil,.nil,.nil,.int .i64 0,.nil,.int .i64 0,.nil],.int .i64 e]) (.tuple [kv (jt e k).1,.int .i64 (jt e k).2]):=by
 rw [jt,if_neg h]
 exact aw.tu (.cons mM (.cons (.pure rfl) .nil))
theorem kI (k:Kt) (h:IA k) (q:Rc) (hq:q.sg.length≤9223372036854775807):PC prog BH [kv k,dn q] (.tuple [kv (qt k q).1,.int .i64 (qt k q).2]):=by
 have hC:=dO k h
 have hT:=nh k
 have hE:=lW q hq
 have hpk:=yV k.B k.K k.s
 have hpq:=en q
 have hsg:=dC q.sg
 have hd0:=@D2 k q
 have hd1:=@D0 k q
 have hd2:=@D1 k q
 have hFi:=fun (hv:bc q=true) (hk:q.k=1)=>uf k.B h.b (I9 q) (I8 hv hk)
 have hRq:=pY k.K h.d q.site q.fr q.to q.rel
 have hSg:=uq k.K h.d q.y9 q.zF q.code q.time
 have hWd:=pH k.K h.d q.y9 q.zF q.code q.time
 have hIs:=x5 k.s q.na q.wk q.vZ h.s
 have hCf:=ui k.s q.xX h.s
 have hOk:=(oF h).1
 obtain ⟨B,K,s⟩:=k
 simp only [kv] at hC hT
 simp only [Ak,dn,gY,eL] at hC hT hE hpk hpq
 simp only [jv,ek,I9] at hFi
 simp only [bM] at hRq hSg hWd
 simp only [mr,gE] at hIs hCf
 simp only at hd2 hOk
 generalize hck:lN ⟨B,K,s⟩=ck at *
 generalize qt ⟨B,K,s⟩ q=D at *
 obtain ⟨P,hP⟩:∃ P,AV.tuple [kv D.1,.int .i64 D.2]=P:=⟨_,rfl⟩
 rw [hP]
 refine ae B6 (by simp) ?_
 simp only [sE,go_sem,jF,jG,jH,↓reduceIte,reduceCtorEq,kv,Ak,dn,gY,eL]
 try simp (disch:=omega) only [go_sem,jA,jB,jC,jD,jE,jF,jG,jH,jI,jJ,↓reduceIte,reduceCtorEq,jO,jM,jN,jK,jL]
 refine ab hC (by simp [go_sem]) ?_
 try simp (disch:=omega) only [go_sem,↓reduceIte]
 refine aZ (fun c0=>?_) (fun c0=>?_)
 ·try simp (disch:=omega) only [go_sem,jF,jG,jH,↓reduceIte]
  rw [←hP,hd0 c0]
  exact aw.tu (.cons mM (.cons (.pure rfl) .nil))
 subst c0
 have hO:=hOk rfl
 try simp (disch:=omega) only [go_sem,jF,jH,↓reduceIte]
 refine ab hE (by simp [go_sem]) ?_
 rw [lf]
 cases hv:bc q
 ·try simp (disch:=omega) only [go_sem,jA,jF,jG,jH,↓reduceIte,reduceCtorEq]
  rw [←hP,hd1 rfl hv]
  exact aw.tu (.cons mM (.cons (.pure rfl) .nil))
 try simp (disch:=omega) only [go_sem,jF,jG,jH,↓reduceIte,reduceCtorEq]
 refine ab (hT hO) (by simp [go_sem]) ?_
 rw [hd2 rfl hv] at hP
 clear hd0 hd1 hd2 hC hE hT
 have hk6:=EI hv
 simp only [I9] at hP
 try simp (disch:=omega) only [go_sem,jF,jG,jH,↓reduceIte,reduceCtorEq]
 refine ah (fun k1=>?_) (fun k1=>?_)
 ·rw [if_pos k1] at hP
  try simp (disch:=omega) only [go_sem,jF,jG,jH,↓reduceIte,reduceCtorEq]
  refine ab (hFi hv k1) (by simp [go_sem]) ?_
  generalize qo B ⟨q.num,q.acc,q.vP,q.tm,⟨q.lo,q.hi⟩⟩=F at *
  obtain ⟨B',e⟩:=F
  try simp (disch:=omega) only [go_sem,jF,jG,jH,↓reduceIte,reduceCtorEq]
  refine aZ (fun c=>?_) (fun c=>?_)
  ·try simp (disch:=omega) only [go_sem,jF,jG,jH,↓reduceIte]
   rw [←hP]
   exact dE c
  ·subst c
   try simp (disch:=omega) only [go_sem,jF,jG,jH,↓reduceIte]
   rw [←hP]
   exact dD (k:=⟨B',K,s⟩) rfl
 rw [if_neg k1] at hP
 try simp (disch:=omega) only [go_sem,jF,↓reduceIte]
 refine ah (fun k2=>?_) (fun k2=>?_)
 ·rw [if_pos k2] at hP
  try simp (disch:=omega) only [go_sem,jF,jG,jH,↓reduceIte,reduceCtorEq]
  refine ab hRq (by simp [go_sem]) ?_
  generalize bQ K q.site q.fr q.to q.rel=F at *
  obtain ⟨K',i',e⟩:=F
  try simp (disch:=omega) only [go_sem,jF,jG,jH,↓reduceIte,reduceCtorEq]
  refine aZ (fun c=>?_) (fun c=>?_)
  ·try simp (disch:=omega) only [go_sem,jF,jG,jH,↓reduceIte]
   rw [←hP]
   exact dE c
  ·subst c
   try simp (disch:=omega) only [go_sem,jF,jG,jH,↓reduceIte]
   rw [←hP]
   exact dD (k:=⟨B,K',s⟩) rfl
 rw [if_neg k2] at hP
 try simp (disch:=omega) only [go_sem,jF,↓reduceIte]
 refine ah (fun k3=>?_) (fun k3=>?_)
 ·rw [if_pos k3] at hP
  try simp (disch:=omega) only [go_sem,jF,jG,jH,↓reduceIte,reduceCtorEq]
  refine ab hSg (by simp [go_sem]) ?_
  generalize jZ K q.y9 q.zF q.code q.time=F at *
  obtain ⟨K',e⟩:=F
  try simp (disch:=omega) only [go_sem,jF,jG,jH,↓reduceIte,reduceCtorEq]
  refine aZ (fun c=>?_) (fun c=>?_)
  ·try simp (disch:=omega) only [go_sem,jF,jG,jH,↓reduceIte]
   rw [←hP]
   exact dE c
  ·subst c
   try simp (disch:=omega) only [go_sem,jF,jG,jH,↓reduceIte]
   rw [←hP]
   exact dD (k:=⟨B,K',s⟩) rfl
 rw [if_neg k3] at hP
 try simp (disch:=omega) only [go_sem,jF,↓reduceIte]
 refine ah (fun k4=>?_) (fun k4=>?_)
 ·rw [if_pos k4] at hP
  try simp (disch:=omega) only [go_sem,jF,jG,jH,↓reduceIte,reduceCtorEq]
  refine ab hWd (by simp [go_sem]) ?_
  generalize ki K q.y9 q.zF q.code q.time=F at *
  obtain ⟨K',e⟩:=F
  try simp (disch:=omega) only [go_sem,jF,jG,jH,↓reduceIte,reduceCtorEq]
  refine aZ (fun c=>?_) (fun c=>?_)
  ·try simp (disch:=omega) only [go_sem,jF,jG,jH,↓reduceIte]
   rw [←hP]
   exact dE c
  ·subst c
   try simp (disch:=omega) only [go_sem,jF,jG,jH,↓reduceIte]
   rw [←hP]
   exact dD (k:=⟨B,K',s⟩) rfl
 rw [if_neg k4] at hP
 try simp (disch:=omega) only [go_sem,jF,↓reduceIte]
 refine ah (fun k5=>?_) (fun k5=>?_)
 ·rw [if_pos k5] at hP
  try simp (disch:=omega) only [go_sem,jF,jG,jH,↓reduceIte,reduceCtorEq]
  refine ab hIs (by simp [go_sem]) ?_
  generalize cK s q.na q.wk q.vZ=F at *
  obtain ⟨s',o',e⟩:=F
  try simp (disch:=omega) only [go_sem,jF,jG,jH,↓reduceIte,reduceCtorEq]
  refine aZ (fun c=>?_) (fun c=>?_)
  ·try simp (disch:=omega) only [go_sem,jF,jG,jH,↓reduceIte]
   rw [←hP]
   exact dE c
  ·subst c
   try simp (disch:=omega) only [go_sem,jF,jG,jH,↓reduceIte]
   rw [←hP]
   exact dD (k:=⟨B,K,s'⟩) rfl
 rw [if_neg k5] at hP
 try simp (disch:=omega) only [go_sem,jF,↓reduceIte]
 have k6:q.k=6:=by omega
 try simp (disch:=omega) only [go_sem,jA,jF,jG,jH,↓reduceIte,reduceCtorEq,k6]
 refine ab hCf (by simp [go_sem]) ?_
 generalize dK s q.xX=F at *
 obtain ⟨s',e⟩:=F
 try simp (disch:=omega) only [go_sem,jF,jG,jH,↓reduceIte]
 refine aZ (fun c=>?_) (fun c=>?_)
 ·try simp (disch:=omega) only [go_sem,jF,jG,jH,↓reduceIte]
  rw [←hP]
  exact dE c
 ·subst c
  try simp (disch:=omega) only [go_sem,jF,jG,jH,↓reduceIte]
  rw [←hP]
  exact dD (k:=⟨B,K,s'⟩) rfl
def mL (k:Kt) (s:ByteArray) (q:Rc):Kt × ByteArray × Int:=if (qt k q).2≠0 then (kz,⟨#[]⟩,(qt k q).2) else ((qt k q).1,s++uT q,0)
theorem CS {k:Kt} {q:Rc} (h:(qt k q).2=0):bc q=true:=by
 cases hv:bc q
 ·by_cases c:lN k=0
  ·rw [D0 c hv] at h; cases h
  ·rw [D2 c] at h; exact absurd h c
 ·rfl
theorem c8 (k:Kt):(kv k).flat=true:=rfl
theorem cn (k:Kt):(kv k).cells.length=7:=rfl
theorem eF (k:Kt):(kv k).cells.take 7=(kv k).cells:=rfl
theorem eG (k:Kt):AV.agg (kv k).cells=kv k:=rfl
theorem wI (k:Kt):(kv k).cells.all AV.one=true:=rfl
theorem GA (k l:Kt):gH 0 (kv k) (kv l)=kv k:=rfl
instance:DecidableEq Kt:=fun a b=>decidable_of_iff (a.B=b.B∧a.K=b.K∧a.s=b.s) (by cases a; cases b; simp)
theorem oR (k:Kt) (h:IA k) (s:ByteArray) (hs:s.size≤4611686018427387904) (q:Rc) (hq:q.sg.length≤9223372036854775807):PC prog zU [kv k,.str s,dn q] (.tuple [kv (mL k s q).1,.str (mL k s q).2.1,.int .i64 (mL k s q).2.2]):=by
 have hD:=kI k h q hq
 have hA:=uk s q hs hq
 have hpk:=il k
 have hpq:=en q
 have hv:=@CS k q
 obtain ⟨P,hP⟩:∃ P,AV.tuple [kv (mL k s q).1,.str (mL k s q).2.1,.int .i64 (mL k s q).2.2]=P:=⟨_,rfl⟩
 rw [hP]
 rw [mL] at hP
 generalize qt k q=D at *
 obtain ⟨k',e⟩:=D
 refine ae AU (by simp) ?_
 simp only [qB,go_sem,jF,jG,jH,↓reduceIte,reduceCtorEq]
 try simp (disch:=omega) only [go_sem,c8,cn,eF,eG,tV,qT,mw,my]
 refine ab hD (by simp [hpk,hpq,go_sem]) ?_
 try simp (disch:=omega) only [go_sem,jF,jG,jH,↓reduceIte,c8,cn,kV]
 refine aZ (fun c=>?_) (fun c=>?_)
 ·try simp (disch:=omega) only [go_sem,jF,jG,jH,↓reduceIte]
  rw [←hP,if_pos c]
  exact aw.tu (.cons mM (.cons (.pure rfl) (.cons (.pure rfl) .nil)))
 ·subst c
  try simp (disch:=omega) only [go_sem,jF,jH,↓reduceIte,reduceCtorEq,mw,my]
  refine ab hA (by simp [hpq,go_sem]) ?_
  rw [Ch,if_pos (hv rfl)]
  try simp (disch:=omega) only [go_sem,jF,jH,↓reduceIte,cn,eF,eG,wI]
  rw [←hP,if_neg (by simp)]
  exact aw.tu (.cons (.pure (il k')) (.cons (.pure rfl) (.cons (.pure rfl) .nil)))
theorem nj (a b:Kt) (h:Ph a):PC prog yo [kv a,kv b] (.bool (decide (a=b))):=by
 have hB:=wc a.B b.B h.n h.a h.r
 have hD:=ur a.K b.K h.d
 have hS:=zM a.s b.s h.s
 obtain ⟨B,K,s⟩:=a
 obtain ⟨B',K',s'⟩:=b
 simp only [jv,bM,mr] at hB hD hS
 refine ae yK (by simp) ?_
 simp only [pt,go_sem,jF,jG,jH,↓reduceIte,reduceCtorEq,kv,Ak]
 try simp (disch:=omega) only [go_sem,jA,jB,jC,jD,jE,jF,jG,jH,jI,jJ,↓reduceIte,reduceCtorEq,jO,jM,jN,jK,jL]
 refine ab hB (by simp [go_sem]) ?_
 have hE:decide ((⟨B,K,s⟩:Kt)=⟨B',K',s'⟩)=(decide (B=B')&&(decide (K=K')&&decide (s=s'))):=by
  rw [Bool.eq_iff_iff]; simp
 rw [hE]
 cases decide (B=B')
 ·try simp (disch:=omega) only [go_sem,jF,↓reduceIte]
  exact aw.of_eq rfl rfl
 try simp (disch:=omega) only [go_sem,jF,jG,jH,↓reduceIte,reduceCtorEq]
 refine ab hD (by simp [go_sem]) ?_
 cases decide (K=K')
 ·try simp (disch:=omega) only [go_sem,jF,↓reduceIte]
  exact aw.of_eq rfl rfl
 try simp (disch:=omega) only [go_sem,jF,jG,jH,↓reduceIte,reduceCtorEq]
 refine ab hS (by simp [go_sem]) ?_
 cases decide (s=s') <;> try simp (disch:=omega) only [go_sem,jF,↓reduceIte] <;> exact aw.of_eq rfl rfl
theorem sU (k:Kt) (h:IA k) (s:ByteArray) (hs:s.size≤100000000000) (hsg:∀ q∈(fK s).1,q.sg.length≤9223372036854775807) (hll:(fK s).1.length≤4611686018427387904) (n:Int):PC prog uD [kv k,.str s,.int .i64 n] (.tuple [kv (De k s n).1,.int .i64 (De k s n).2.1,.int .i64 (De k s n).2.2]):=by
 have hC:=dO k h
 have hT:=nh k
 have hJ:=yb s hs
 have hpk:=il k
 have hOk:=(oF h).1
 have hS0:De k s n=if lN k≠0 then (kz,0,lN k) else if n<0∨((fK s).1.length:Int)<n then (kz,0,1) else (((fK s).1.drop n.toNat).foldl mX k,((fK s).1.length:Int),0):=rfl
 obtain ⟨P,hP⟩:∃ P,AV.tuple [kv (De k s n).1,.int .i64 (De k s n).2.1,.int .i64 (De k s n).2.2]=P:=⟨_,rfl⟩
 rw [hP]
 rw [hS0] at hP
 clear hS0
 generalize fK s=O at *
 obtain ⟨l,oe⟩:=O
 simp only at hsg hll hP
 generalize hck:lN k=ck at *
 refine ae vF (by simp) ?_
 simp only [mi,go_sem,jF,jG,jH,↓reduceIte,reduceCtorEq]
 try simp (disch:=omega) only [go_sem,c8,cn,eF,eG]
 refine ab hC (by simp [hpk,go_sem]) ?_
 try simp (disch:=omega) only [go_sem,↓reduceIte]
 refine aZ (fun c=>?_) (fun c=>?_)
 ·try simp (disch:=omega) only [go_sem,jF,jG,jH,↓reduceIte]
  rw [←hP,if_pos c]
  exact aw.tu (.cons mM (.cons (.pure rfl) (.cons (.pure rfl) .nil)))
 subst c
 rw [if_neg (by simp)] at hP
 have hO:=hOk rfl
 try simp (disch:=omega) only [go_sem,jF,↓reduceIte,reduceCtorEq]
 refine ab hJ (by simp [go_sem]) ?_
 try simp (disch:=omega) only [go_sem,jF,↓reduceIte,reduceCtorEq]
 by_cases c1:n<0
 ·rw [if_pos (.inl c1)] at hP
  try simp (disch:=omega) only [go_sem,jF,jG,jH,↓reduceIte,c1,decide_true]
  rw [←hP]
  exact aw.tu (.cons mM (.cons (.pure rfl) (.cons (.pure rfl) .nil)))
 by_cases c2:(l.length:Int)<n
 ·rw [if_pos (.inr c2)] at hP
  try simp (disch:=omega) only [go_sem,jF,jG,jH,↓reduceIte,reduceCtorEq,c1,c2,decide_true,decide_false,fm]
  rw [←hP]
  exact aw.tu (.cons mM (.cons (.pure rfl) (.cons (.pure rfl) .nil)))
 rw [if_neg (by omega)] at hP
 obtain ⟨j,rfl⟩:∃ j:Nat,n=j:=⟨n.toNat,by omega⟩
 rw [Int.toNat_natCast] at hP
 have hdr:(F5 l).drop j=F5 (l.drop j):=by simp [F5]
 have hLs:∀ q∈l.drop j,q.sg.length≤9223372036854775807:=fun q hq=>hsg q (List.mem_of_mem_drop hq)
 try simp (disch:=omega) only [go_sem,jF,jH,↓reduceIte,reduceCtorEq,c1,c2,decide_false,fm,eF,eG]
 refine ab (hT hO) (by simp [hpk,go_sem]) ?_
 try simp (disch:=omega) only [go_sem,jF,jG,jH,↓reduceIte,reduceCtorEq,fm,hdr,c8,cn,kV]
 refine ⟨by omega,by omega,?_⟩
 have hLl:(l.drop j).length≤4611686018427387904:=by rw [List.length_drop]; omega
 generalize l.drop j=L at *
 refine aW [14,15,16,43,44,45,46,47,48,49,50,51,52,53,54,55,56] (by kernel_rfl) L.length (fun i e σ=>e 43=.int .i64 i∧σ.ob 1=some ⟨1,7,49,false,true,[.agg [.nil,.nil,.nil,.int .i64 0,.nil,.int .i64 0,.nil]]⟩∧σ.ob 2=some ⟨2,7,49,false,true,[kv ((L.take i).foldl mX k)]⟩) ?_ ?_
 ·exact ⟨(by first | rfl | (simp (disch:=omega) only [go_sem,jA,jB,jC,jD,jE,jF,jG,jH,jI,jJ,↓reduceIte,reduceCtorEq,jP,jO,jM,jN]; try rfl)),by try simp (disch:=omega) only [go_sem,jF,↓reduceIte],by try simp (disch:=omega) only [go_sem,↓reduceIte,List.take_zero,List.foldl_nil]⟩
 rintro i fe ob m c hi hm ⟨h43,u1,u2⟩
 simp (maxSteps:=1000000) only [go_sem,jF,↓reduceIte] at h43 u1 u2 hm
 try simp (disch:=omega) only [go_sem,jF,↓reduceIte,h43]
 refine ah (fun hlt=>?_) (fun hge=>?_)
 ·have hil:i<L.length:=by omega
  have g1:L[i]?=some L[i]:=List.getElem?_eq_getElem hil
  have t1:=dX L i hil
  have hqs:=hLs _ (List.getElem_mem hil)
  have hK:=Fi (l:=L.take i) hO
  have hI:(L.take (i+1)).foldl mX k=mX ((L.take i).foldl mX k) L[i]:=by rw [t1,List.foldl_append]; rfl
  clear t1
  generalize L[i]=q at *
  generalize (L.take i).foldl mX k=kk at *
  have hD:=kI kk hK.S q hqs
  have hst:mX kk q=if (qt kk q).2=0 then (qt kk q).1 else kk:=rfl
  have hpkk:=il kk
  have hpq:=en q
  rw [hst] at hI
  clear hst
  generalize qt kk q=D at *
  obtain ⟨k2,e⟩:=D
  have z1:¬1=m:=by omega
  have z2:¬2=m:=by omega
  have y1:¬1=m+1:=by omega
  have y2:¬2=m+1:=by omega
  have x2:¬m=2:=by omega
  have x3:¬m+1=2:=by omega
  try simp (disch:=omega) only [go_sem,jF,jH,↓reduceIte,fm,Lz,g1,Option.map_some,u2,EY,z2,eF,eG,qT,mw,my,Hj,Hh]
  refine ⟨by omega,by omega,?_⟩
  refine ab hD (by simp [hpkk,hpq,go_sem]) ?_
  try simp (disch:=omega) only [go_sem,jF,jH,↓reduceIte,c8,cn,kV]
  refine ah (fun c=>?_) (fun c=>?_)
  ·rw [if_pos c] at hI
   try simp (disch:=omega) only [go_sem,jF,jH,↓reduceIte,jO,u2,z2,y2,cn,eF,eG,wI,GA]
   refine aG (m+1+1) hil (by omega) ⟨(by first | rfl | (simp (disch:=omega) only [go_sem,jA,jB,jC,jD,jE,jF,jG,jH,jI,jJ,↓reduceIte,reduceCtorEq,jP,jO,jM,jN]; try rfl)),?_,?_⟩
   ·rw [aX (by omega)]; try simp (disch:=omega) only [go_sem,jF,↓reduceIte,z1,y1,u1]
   ·rw [aX (by omega),hI]; try simp (disch:=omega) only [go_sem,↓reduceIte]
  ·rw [if_neg c] at hI
   try simp (disch:=omega) only [go_sem,jF,↓reduceIte,jO]
   refine aG (m+1+1) hil (by omega) ⟨(by first | rfl | (simp (disch:=omega) only [go_sem,jA,jB,jC,jD,jE,jF,jG,jH,jI,jJ,↓reduceIte,reduceCtorEq,jP,jO,jM,jN]; try rfl)),?_,?_⟩
   ·rw [aX (by omega)]; try simp (disch:=omega) only [go_sem,↓reduceIte,z1,y1,u1]
   ·rw [aX (by omega),hI]; try simp (disch:=omega) only [go_sem,↓reduceIte,z2,y2,u2]
 ·obtain rfl:i=L.length:=by omega
  rw [List.take_length] at u2
  try simp (disch:=omega) only [go_sem,jF,jH,↓reduceIte,u1,u2,fm,cn,eF,eG,wI]
  rw [←hP]
  exact aw.tu (.cons (.pure (il _)) (.cons (.pure rfl) (.cons (.pure rfl) .nil)))
def qS:Rc:=⟨5,0,0,0,0,0,0,0,0,0,0,0,[],false,0,0,0,0,1,0,9⟩
def kS:Kt:=⟨EE,⟨[],1,[]⟩,⟨1,[]⟩⟩
def kT:Kt:=⟨EE,⟨[],1,[]⟩,⟨2,[⟨1,1,0,9⟩]⟩⟩
theorem LB:AV.agg [AV.int IntKind.i64 5,AV.int IntKind.i64 0,AV.int IntKind.i64 0,AV.int IntKind.i64 0,AV.int IntKind.i64 0,AV.int IntKind.i64 0,AV.int IntKind.i64 0,AV.int IntKind.i64 0,AV.int IntKind.i64 0,AV.int IntKind.i64 0,AV.int IntKind.i64 0,AV.int IntKind.i64 0,AV.nil,AV.bool false,AV.int IntKind.i64 0,AV.int IntKind.i64 0,AV.int IntKind.i64 0,AV.int IntKind.i64 0,AV.int IntKind.i64 1,AV.int IntKind.i64 0,AV.int IntKind.i64 9]=gY .nil qS:=rfl
theorem Ro:bc qS=true:=by simp [bc,qS,aJ,bh,cI,fE,sI,pD,vB]
theorem O8:lT EE:=⟨by simp [EE],fun a h=>by simp [EE] at h,by simp [EE],.nil,fun r h=>by simp [EE] at h⟩
theorem qk:G3 kS:=⟨O8,by simp [kS,cd,iq],by simp [kS,db,mN,fk]⟩
theorem Hu:qt kS qS=(kT,0):=by
 rw [D1 ((oF qk.S).2 qk) Ro,if_neg (by simp [qS]),if_neg (by simp [qS]),if_neg (by simp [qS]),if_neg (by simp [qS]),if_pos (show qS.k=5 from rfl)]
 have e:cK kS.s qS.na qS.wk qS.vZ=(⟨2,[⟨1,1,0,9⟩]⟩,⟨1,1,0,9⟩,0):=by
  rw [cK,if_pos qk.s,if_pos (by simp [dI,qS,mN]),if_neg (by simp [kS])]; rfl
 rw [e]; rfl
theorem Rs:G3 kT:=by
 have:=GJ qk.S (q:=qS) (by rw [Hu])
 rwa [Hu] at this
theorem JB:HP (.agg [.nil,.nil,.nil,.int .i64 1,.nil,.int .i64 1,.nil]) (kv kS):=.agg (.cons (.nil 4) (.cons (.nil 6) (.cons (.nil 3) (.cons .rfl (.cons (.nil 7) (.cons .rfl (.cons (.nil 4) .nil)))))))
theorem Gp:fK ((⟨#[]⟩:ByteArray)++uT qS++⟨#[116,111,114,110]⟩)=([qS],((yY [qS]).length:Int)):=
 Jf (l:=[qS]) (Q:=[116,111,114,110]) (by simp [Ro]) (by rw [qR,qR,Dd]; simp [yY,sb]) (.inr (Il (by omega) [111,114,110]))
theorem TI:(kv kT).cells.getD 6 .bC=.list 4 (cH [⟨1,1,0,9⟩]):=rfl
theorem Bt:PC prog DJ [] (.bool true):=by
 have hz:((⟨#[]⟩:ByteArray)++uT qS).size≤1000:=by
  rw [←cj,qR,Dd,List.length_append,ja]; decide
 have ht:((⟨#[]⟩:ByteArray)++uT qS++⟨#[116,111,114,110]⟩).size≤1004:=by
  rw [ByteArray.size_append]
  have:(⟨#[116,111,114,110]⟩:ByteArray).size=4:=rfl
  omega
 have hL:=oQ (oR kS qk.S ⟨#[]⟩ (by decide) qS (by simp [qS])) (.cons JB (.cons .rfl (.cons (Jc (r:=qS) rfl) .nil)))
 have hl:mL kS ⟨#[]⟩ qS=(kT,⟨#[]⟩++uT qS,0):=by rw [mL,Hu,if_neg (by simp)]
 have hR:=oQ (sU kS qk.S ((⟨#[]⟩:ByteArray)++uT qS++⟨#[116,111,114,110]⟩) (by omega) (by rw [Gp]; simp [qS]) (by rw [Gp]; simp) 0) (.cons JB (.cons .rfl (.cons .rfl .nil)))
 have hr:De kS ((⟨#[]⟩:ByteArray)++uT qS++⟨#[116,111,114,110]⟩) 0=(kT,1,0):=by
  rw [De,if_neg (by simp [(oF qk.S).2 qk]),Gp,if_neg (by simp)]
  have:mX kS qS=kT:=by rw [mX,Hu,if_pos rfl]
  simp [this]
 have hS:=nj kT kT Rs.L
 rw [decide_eq_true rfl] at hS
 have hC:=oQ (dO kS qk.S) (.cons JB .nil)
 rw [(oF qk.S).2 qk] at hC
 rw [hl] at hL
 rw [hr] at hR
 generalize (⟨#[]⟩:ByteArray)++uT qS=S at *
 refine ae Eo (by simp) ?_
 simp only [vr,go_sem,jF,jG,jH,↓reduceIte]
 try simp (disch:=omega) only [go_sem,jA,jB,jC,jD,jE,jF,jG,jH,jI,jJ,↓reduceIte,reduceCtorEq,jO,jM,jN,jK,jL]
 rw [LB]
 refine ab hL (by simp [Hl,go_sem]) ?_
 try simp (disch:=omega) only [go_sem,jF,jG,jH,↓reduceIte,reduceCtorEq,c8,cn,kV]
 have h4:(#[116,111,114,110]:Array UInt8).size=4:=rfl
 refine ⟨by rw [h4]; omega,?_⟩
 refine ab hR (by simp [go_sem]) ?_
 try simp (disch:=omega) only [go_sem,jF,jG,jH,↓reduceIte,c8,cn,eF,eG,kV]
 refine ab hS (by simp [il,go_sem]) ?_
 have hl1:(cH [⟨1,1,0,9⟩]).length=1:=rfl
 have hg1:(cH [⟨1,1,0,9⟩])[0]?=some (.agg [.int .i64 1,.int .i64 1,.int .i64 0,.int .i64 9]):=rfl
 try simp (disch:=omega) only [go_sem,jB,jC,jF,jG,jH,↓reduceIte,reduceCtorEq,TI,hl1,hg1]
 refine ab hC (by simp [go_sem]) ?_
 try simp (disch:=omega) only [go_sem,jF,↓reduceIte]
 exact aw.of_eq rfl rfl
end Go.Proofs.Try
