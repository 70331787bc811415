/- OWN WORK, put together by tools/asm.py, seat.py, mini.py. -/
import Derived.Test.YtcpckngdfjmbgaaGreatLibF
set_option linter.unusedSimpArgs false
set_option linter.unusedVariables false
set_option maxRecDepth 100000
set_option maxHeartbeats 1000000
namespace Go.Proofs.Try
open Go.Ab Go Go.Proofs.Tryz
open Int renaming reduceEq → jA, reduceLT → jB, reduceLE → jC, reduceToNat → jD
open Go.Ab renaming iP → jM, iQ → jN, lZ → jO, iR → jP
open Nat renaming reduceLT → jE, reduceEqDiff → jF, reduceAdd → jG, reduceLeDiff → jH, reduceSub → jI, reduceMul → jJ, sub_zero → jK, sub_self → jL
abbrev Cj:TypeId:=3
theorem gO (σ:St) (L:List AV) (hl:L.length * 8≤140737488355328):HC prog jR [.list 1 L] σ (GX σ 1 Cj L):=by
 refine aM j6 (by simp) ?_
 obtain ⟨ob,n,c⟩:=σ
 simp only [jX,go_sem,↓reduceIte,reduceCtorEq]
 refine uE (fun h=>?_) (fun h=>?_)
 ·subst h
  refine ⟨?_,?_⟩
  ·try simp (disch:=omega) only [go_sem,↓reduceIte]
   refine ⟨_,_,rfl,Nat.le_succ _,Nat.lt_succ_self _,(by first | rfl | (simp (disch:=omega) only [go_sem,↓reduceIte]; try rfl)),fun i hi=>?_⟩
   simp only at hi
   try simp (disch:=omega) only [go_sem,jM]
  ·try simp (disch:=omega) only [go_sem,jF,jH,jJ,↓reduceIte,reduceCtorEq]
   repeat (refine And.intro (by first | omega | (rw [nB]; omega) | (simp [maxLen]; done) | (simp [maxLen]; omega)) ?_)
   refine ⟨_,_,rfl,Nat.le_succ _,Nat.lt_succ_self _,(by first | rfl | (simp (disch:=omega) only [go_sem,↓reduceIte]; try rfl)),fun i hi=>?_⟩
   simp only at hi
   try simp (disch:=omega) only [go_sem,jM]
 ·try simp (disch:=omega) only [go_sem,jF,↓reduceIte,reduceCtorEq]
  repeat (refine And.intro (by first | omega | (rw [nB]; omega) | (simp [maxLen]; done) | (simp [maxLen]; omega)) ?_)
  refine ⟨_,_,rfl,Nat.le_succ _,Nat.lt_succ_self _,(by first | rfl | (simp (disch:=omega) only [go_sem,↓reduceIte]; try rfl)),fun i hi=>?_⟩
  simp only at hi
  try simp (disch:=omega) only [go_sem,jM]
theorem pB (L:List AV) (hl:L.length * 8≤140737488355328) (hp:∀ x∈L,x.cQ=true) (hk:∀ x∈L,mM 1 x):PC prog jR [.list 1 L] (.list 1 L):=
 jh j6 ((gO St.empty L hl).mono fun r τ ⟨id,g,h1,_,_,h2,_⟩=>by rw [h1]; exact aw.dk h2 rfl hp hk)
abbrev C3:TypeId:=131
theorem eS (σ:St) (L:List AV) (hl:L.length * 24≤140737488355328):HC prog fR [.list 3 L] σ (GX σ 3 C3 L):=by
 refine aM gE (by simp) ?_
 obtain ⟨ob,n,c⟩:=σ
 simp only [gr,go_sem,↓reduceIte,reduceCtorEq]
 refine uE (fun h=>?_) (fun h=>?_)
 ·subst h
  refine ⟨?_,?_⟩
  ·try simp (disch:=omega) only [go_sem,↓reduceIte]
   refine ⟨_,_,rfl,Nat.le_succ _,Nat.lt_succ_self _,(by first | rfl | (simp (disch:=omega) only [go_sem,↓reduceIte]; try rfl)),fun i hi=>?_⟩
   simp only at hi
   try simp (disch:=omega) only [go_sem,jM]
  ·try simp (disch:=omega) only [go_sem,jF,jH,jJ,↓reduceIte,reduceCtorEq]
   repeat (refine And.intro (by first | omega | (rw [nB]; omega) | (simp [maxLen]; done) | (simp [maxLen]; omega)) ?_)
   refine ⟨_,_,rfl,Nat.le_succ _,Nat.lt_succ_self _,(by first | rfl | (simp (disch:=omega) only [go_sem,↓reduceIte]; try rfl)),fun i hi=>?_⟩
   simp only at hi
   try simp (disch:=omega) only [go_sem,jM]
 ·try simp (disch:=omega) only [go_sem,jF,↓reduceIte,reduceCtorEq]
  repeat (refine And.intro (by first | omega | (rw [nB]; omega) | (simp [maxLen]; done) | (simp [maxLen]; omega)) ?_)
  refine ⟨_,_,rfl,Nat.le_succ _,Nat.lt_succ_self _,(by first | rfl | (simp (disch:=omega) only [go_sem,↓reduceIte]; try rfl)),fun i hi=>?_⟩
  simp only at hi
  try simp (disch:=omega) only [go_sem,jM]
theorem mH (L:List AV) (hl:L.length * 24≤140737488355328) (hp:∀ x∈L,x.cQ=true) (hk:∀ x∈L,mM 3 x):PC prog fR [.list 3 L] (.list 3 L):=
 jh gE ((eS St.empty L hl).mono fun r τ ⟨id,g,h1,_,_,h2,_⟩=>by rw [h1]; exact aw.dk h2 rfl hp hk)
theorem ug (key kind:Int) (d:Dv):PC prog wA [.int .i64 key,.int .i64 kind,gH d] (.int .i64 (sh key kind d)):=by
 refine ae xd (by simp) ?_
 simp only [n6,gH,jd]
 try simp (disch:=omega) only [go_sem,jF,jG,jH,↓reduceIte,reduceCtorEq]
 have hL:[AV.int .i64 key,.int .i64 kind,.int .i64 d.id,.int .i64 d.site,.int .i64 d.fr,.int .i64 d.to,.int .i64 d.rel]=ints (AA key kind d):=rfl
 have h7:(AA key kind d).length=7:=rfl
 rw [hL]
 generalize hLL:AA key kind d=L at *
 refine bq [7,9,23,24,25,26,27,28,29,30,31,32,33,34] (by kernel_rfl) 7 (fun i e _=>e 23=.int .i64 i∧∃ c,e 7=.int .i64 c∧0≤c∧c<2147483647∧sh key kind d=qs c (L.drop i)) ?_ ?_
 ·exact ⟨(by first | rfl | (simp (disch:=omega) only [go_sem,jA,jB,jC,jD,jE,jF,jG,jH,jI,jJ,↓reduceIte,reduceCtorEq,jP,jO,jM,jN]; try rfl)),7,(by first | rfl | (simp (disch:=omega) only [go_sem,jA,jB,jC,jD,jE,jF,jG,jH,jI,jJ,↓reduceIte,reduceCtorEq,jP,jO,jM,jN]; try rfl)),by omega,by omega,by rw [sh,hLL]; rfl⟩
 rintro i fe ob c hi ⟨h24,x,hx,x0,x1,hc⟩
 simp (maxSteps:=1000000) only [go_sem,jF,↓reduceIte] at h24 hx
 try simp (disch:=omega) only [go_sem,jF,↓reduceIte,h24]
 refine ah (fun hlt=>?_) (fun hge=>?_)
 ·have hil:i<L.length:=by omega
  have hgi:=bA L i
  rw [List.getElem?_eq_getElem hil] at hgi
  rw [List.drop_eq_getElem_cons hil,qs] at hc
  generalize L[i]=n at *
  have b1:=tx n
  generalize hy:n.tmod 2147483647=y at *
  have b2:=na (y+2147483647) (by omega)
  generalize hz:(y+2147483647).tmod 2147483647=z at *
  have b3:=na (31 * x+z) (by omega)
  have hsub:sub false 1 (i * 1) (.agg (ints L))=.int .i64 n:=by
   simp only [sub,AV.cells,Nat.mul_one]
   rw [List.getD_eq_getElem?_getD,hgi]; rfl
  try simp (disch:=omega) only [go_sem,jA,jF,↓reduceIte,jO,hx,au,h7,hy,hz,hsub]
  refine ⟨by omega,by omega,by omega,?_⟩
  exact bj (by omega) ⟨(by first | rfl | (simp (disch:=omega) only [go_sem,jA,jB,jC,jD,jE,jF,jG,jH,jI,jJ,↓reduceIte,reduceCtorEq,jP,jO,jM,jN]; try rfl)),_,(by first | rfl | (simp (disch:=omega) only [go_sem,jA,jB,jC,jD,jE,jF,jG,jH,jI,jJ,↓reduceIte,reduceCtorEq,jP,jO,jM,jN]; try rfl)),b3.1,b3.2,hc⟩
 obtain rfl:i=7:=by omega
 rw [List.drop_of_length_le (by omega),qs] at hc
 try simp (disch:=omega) only [go_sem,jB,jF,↓reduceIte,hx]
 rw [hc]
 exact aw.pure rfl
theorem zx (l:List Int) (x:Int) (f:Nat) (fs:List AV) (hl:l.length≤4611686018427387904) (hs:KX l)
  (hp:∀ z∈fs,z.cQ=true) (hf:∀ (i:Nat) (y:Int),l[i]?=some y→PC prog f (fs++[.int .i64 i]) (.bool (decide (x≤y)))) :
  PC prog Br [.int .i64 l.length,.qd f fs] (.int .i64 (dg l x)):=by
 refine ae BN (by simp) ?_
 simp only [si,go_sem,jF,↓reduceIte,reduceCtorEq]
 refine xe [5,6,7,9,10,11,12,13,14,15,16,17,18,19,20,21,22,23,24] (by kernel_rfl) (fun k e _=>∃ i j:Nat,e 5=.int .i64 i∧e 6=.int .i64 j∧i≤j∧j≤l.length∧k=j-i∧(∀ k,k<i→∀ y,l[k]?=some y→y<x)∧(∀ k,j≤k→∀ y,l[k]?=some y→x≤y)) l.length ?_ ?_
 ·exact ⟨0,l.length,(by first | rfl | (simp (disch:=omega) only [go_sem,jA,jB,jC,jD,jE,jF,jG,jH,jI,jJ,↓reduceIte,reduceCtorEq,jP,jO,jM,jN]; try rfl)),(by first | rfl | (simp (disch:=omega) only [go_sem,jA,jB,jC,jD,jE,jF,jG,jH,jI,jJ,↓reduceIte,reduceCtorEq,jP,jO,jM,jN]; try rfl)),by omega,by omega,by omega,fun k hk=>by omega,fun k hk y hy=>by have:=(List.getElem?_eq_some_iff.1 hy).1; omega⟩
 ·rintro r fe ob c ⟨i,j,h7,h8,hij,hjl,rfl,hlo,hhi⟩
  simp (maxSteps:=1000000) only [go_sem,jF,↓reduceIte] at h7 h8
  try simp (disch:=omega) only [go_sem,jF,↓reduceIte,h7,h8]
  refine ah (fun hlt=>?_) (fun hge=>?_)
  ·have hij2:i<j:=by omega
   try simp (disch:=omega) only [go_sem,jF,↓reduceIte,reduceCtorEq,jO,wrap_u64,FL,Option.some.injEq,exists_eq_left']
   generalize hm:(i+j) / 2=m
   have hmi:((i:Int)+j) / 2=(m:Int):=by omega
   have hg:l[m]?=some l[m]:=List.getElem?_eq_getElem (by omega)
   have hfm:=hf m _ hg
   try simp (disch:=omega) only [go_sem,hmi]
   refine ab hfm (by simp only [List.mem_append,List.mem_singleton]; rintro a (h | rfl); exact hp a h; rfl) ?_
   try simp (disch:=omega) only [go_sem,↓reduceIte]
   refine aY (fun hlt=>?_) (fun hge=>?_)
   ·try simp (disch:=omega) only [go_sem,jF,↓reduceIte,jO]
    refine ⟨j-(m+1),by omega,_,Nat.le_refl _,rfl,m+1,j,(by first | rfl | (simp (disch:=omega) only [go_sem,jA,jB,jC,jD,jE,jF,jG,jH,jI,jJ,↓reduceIte,reduceCtorEq,jP,jO,jM,jN]; try rfl)),(by first | rfl | (simp (disch:=omega) only [go_sem,jA,jB,jC,jD,jE,jF,jG,jH,jI,jJ,↓reduceIte,reduceCtorEq,jP,jO,jM,jN]; try rfl)),by omega,by omega,by omega,fun k hk y hy=>?_,hhi⟩
    by_cases e:k=m
    ·subst e; rw [hg] at hy; obtain rfl:=Option.some.inj hy; omega
    ·have:=hs k m (by omega) y _ hy hg; omega
   ·try simp (disch:=omega) only [go_sem,jF,↓reduceIte]
    refine ⟨m-i,by omega,_,Nat.le_refl _,rfl,i,m,(by first | rfl | (simp (disch:=omega) only [go_sem,jA,jB,jC,jD,jE,jF,jG,jH,jI,jJ,↓reduceIte,reduceCtorEq,jP,jO,jM,jN]; try rfl)),(by first | rfl | (simp (disch:=omega) only [go_sem,jA,jB,jC,jD,jE,jF,jG,jH,jI,jJ,↓reduceIte,reduceCtorEq,jP,jO,jM,jN]; try rfl)),by omega,by omega,by omega,hlo,fun k hk y hy=>?_⟩
    by_cases e:k=m
    ·subst e; rw [hg] at hy; obtain rfl:=Option.some.inj hy; omega
    ·have:=hs m k (by omega) _ y hg hy; omega
  ·have hij2:i=j:=by omega
   subst hij2
   have hb:=AI l x i hjl hlo hhi
   rw [hb]
   try simp (disch:=omega) only [go_sem,jF,↓reduceIte,jL]
   exact aw.pure rfl
theorem mK (l:List Pn) (x:Int) (i:Nat) (p:Pn) (hp:l[i]?=some p):PC prog fw [.agg [.list 3 (pN l),.int .i64 x],.int .i64 i] (.bool (decide (x≤p.id))):=by
 have hil:=(List.getElem?_eq_some_iff.1 hp).1
 refine ae n8 (by simp) ?_
 simp only [fC,go_sem,jF,jG,jH,↓reduceIte,reduceCtorEq]
 try simp (disch:=omega) only [go_sem,↓reduceIte,aX,iJ,hp,Option.map_some,ri]
 refine ⟨by omega,by omega,?_⟩
 try simp (disch:=omega) only [go_sem,jA,jB,jC,jD,jE,jF,jG,jH,jI,jJ,↓reduceIte,reduceCtorEq,jO,jM,jN,jK,jL]
 exact aw.pure rfl
def ids (l:List Pn):List Int:=l.map Pn.id
theorem L4 {l:List Pn} {x:Int} (hs:KX (ids l)):(∀ p,l[dg (ids l) x]?=some p→p.id=x→l.find? (fun p=>decide (p.id=x))=some p)∧((∀ p,l[dg (ids l) x]?=some p→p.id≠x)→l.find? (fun p=>decide (p.id=x))=none):=by
 refine ⟨fun p hp hx=>?_,fun h=>?_⟩
 ·obtain ⟨hi,rfl⟩:=List.getElem?_eq_some_iff.1 hp
  refine Fk hi ?_ (by simp [hx])
  rw [List.find?_eq_none]
  intro q hq
  obtain ⟨j,hj⟩:=List.getElem?_of_mem hq
  rw [List.getElem?_take] at hj
  split at hj
  ·rename_i hji
   have hj2:(ids l)[j]?=some q.id:=by simp [ids,hj]
   have:=List.not_of_lt_findIdx hji
   rw [List.getElem?_eq_some_iff] at hj2
   obtain ⟨_,e⟩:=hj2
   rw [e] at this
   simp at this ⊢
   omega
  ·cases hj
 ·rw [List.find?_eq_none]
  intro q hq
  obtain ⟨j,hj⟩:=List.getElem?_of_mem hq
  simp only [decide_eq_true_eq]
  intro e
  have hm:x∈ids l:=List.mem_map.2 ⟨q,hq,e⟩
  have:=(re (ids l) x hs).2 hm
  simp only [ids,List.getElem?_map,Option.map_eq_some_iff] at this
  obtain ⟨p,hp,hx⟩:=this
  exact h p hp hx
theorem fN (K:Dk) (x:Int) (hl:K.ps.length≤4611686018427387904) (hs:KX (ids K.ps)):PC prog wx [.list 3 (pN K.ps),.int .i64 x] (.tuple [ri (cR K x).1,.bool (cR K x).2]):=by
 refine ae xa (by simp) ?_
 simp only [nY,go_sem,jF,jG,jH,↓reduceIte,reduceCtorEq]
 try simp (disch:=omega) only [go_sem,aX]
 have hS:=zx (ids K.ps) x fw [.agg [.list 3 (pN K.ps),.int .i64 x]] (by simpa [ids] using hl) hs (by simp [go_sem]) (fun i y hy=>by
  simp only [ids,List.getElem?_map,Option.map_eq_some_iff] at hy
  obtain ⟨p,hp,rfl⟩:=hy
  exact mK K.ps x i p hp)
 rw [show (ids K.ps).length=K.ps.length by simp [ids]] at hS
 have hb:=wQ (ids K.ps) x
 rw [show (ids K.ps).length=K.ps.length by simp [ids]] at hb
 obtain ⟨hf1,hf2⟩:=L4 (x:=x) hs
 generalize dg (ids K.ps) x=i at *
 refine ab hS (by simp [go_sem]) ?_
 try simp (disch:=omega) only [go_sem,jF,↓reduceIte,reduceCtorEq,aX]
 refine bH rfl (fun h=>?_) (fun h=>?_)
 ·have e:K.ps.find? (fun p=>decide (p.id=x))=none:=hf2 fun p hp=>by have:=(List.getElem?_eq_some_iff.1 hp).1; omega
  try simp (disch:=omega) only [go_sem,jF,jG,jH,↓reduceIte,reduceCtorEq]
  have:cR K x=(Cr,false):=by rw [cR,e]
  rw [this]
  exact aw.pure rfl
 ·have hil:i<K.ps.length:=by omega
  have hg:K.ps[i]?=some K.ps[i]:=List.getElem?_eq_getElem hil
  generalize K.ps[i]=p at *
  try simp (disch:=omega) only [go_sem,jF,jH,↓reduceIte,reduceCtorEq,aX,iJ,hg,Option.map_some,ri]
  refine ⟨by omega,by omega,?_⟩
  refine aY (fun h2=>?_) (fun h2=>?_)
  ·have e:K.ps.find? (fun p=>decide (p.id=x))=none:=hf2 fun q hq=>by rw [hg] at hq; obtain rfl:=Option.some.inj hq; exact h2
   try simp (disch:=omega) only [go_sem,jF,jG,jH,↓reduceIte,reduceCtorEq]
   have:cR K x=(Cr,false):=by rw [cR,e]
   rw [this]
   exact aw.pure rfl
  ·have e:=hf1 p hg (by omega)
   try simp (disch:=omega) only [go_sem,jF,jG,jH,↓reduceIte,reduceCtorEq,aX,iJ,hg,Option.map_some,ri]
   refine ⟨by omega,by omega,?_⟩
   try simp (disch:=omega) only [go_sem,jA,jB,jC,jD,jE,jF,jG,jH,jI,jJ,↓reduceIte,reduceCtorEq,jO,jM,jN,jK,jL]
   have:cR K x=(p,true):=by rw [cR,e]
   rw [this]
   exact aw.pure rfl
def xK (K:Dk):Bool:=decide (K.ps.length≤12)&&(List.range K.ps.length).all (F6 K)
def tP (d:Dv):Bool:=decide (0≤d.site)&&decide (d.site<6)&&decide (0≤d.fr)&&decide (d.fr≤d.to)&&decide (d.to≤16777216)&&decide (0≤d.rel)&&decide (d.rel≤1073741824)
def tG (K:Dk) (l:List Int):Bool:=decide (l.length≤2)&&l.all (fun s=>(cR K s).2)&&(decide (l.length<2)||!decide ((cO K l).getD 0 0=(cO K l).getD 1 0))
theorem OF (K:Dk) (d:Dv):gJ K d=(tP d&&tG K d.sg):=by
 rw [Bool.eq_iff_iff]
 simp only [gJ,tP,tG,ir,Bool.and_eq_true,Bool.or_eq_true,decide_eq_true_eq,Bool.not_eq_true',decide_eq_false_iff_not]
 constructor
 ·rintro ⟨⟨⟨⟨⟨⟨⟨h1,h2⟩,h3⟩,h4⟩,h5⟩,h6⟩,h7⟩,h8⟩
  exact ⟨⟨⟨⟨⟨⟨⟨by omega,by omega⟩,by omega⟩,by omega⟩,by omega⟩,by omega⟩,by omega⟩,⟨h6,h7⟩,h8⟩
 ·rintro ⟨⟨⟨⟨⟨⟨⟨h1,h2⟩,h3⟩,h4⟩,h5⟩,h6⟩,h7⟩,⟨h8,h9⟩,h10⟩
  exact ⟨⟨⟨⟨⟨⟨⟨⟨by omega,by omega⟩,by omega⟩,by omega⟩,by omega⟩,⟨by omega,by omega⟩⟩,h8⟩,h9⟩,h10⟩
theorem Dn (K:Dk) (i:Nat):F6 K i=true↔(1≤(gP K.ps i).id∧(gP K.ps i).id≤1073741824)∧(0<i→(gP K.ps (i-1)).id<(gP K.ps i).id)∧(1≤(gP K.ps i).role∧(gP K.ps i).role≤9)∧1≤(gP K.ps i).key∧(gP K.ps i).key≤1073741824:=by
 simp only [F6,ir,Bool.and_eq_true,decide_eq_true_eq,Bool.not_eq_true',Bool.and_eq_false_iff,decide_eq_false_iff_not]
 constructor
 ·rintro ⟨⟨⟨h1,h2⟩,h3⟩,h4⟩
  exact ⟨h1,fun h=>by rcases h2 with h2 | h2 <;> omega,h3,h4⟩
 ·rintro ⟨h1,h2,h3,h4⟩
  exact ⟨⟨⟨h1,by by_cases h:0<i; exact .inr (by have:=h2 h; omega); exact .inl h⟩,h3⟩,h4⟩
theorem Hl (K:Dk) (i:Nat):E4 K i=true↔(1≤(gD K.ds i).id∧(gD K.ds i).id<K.nx)∧(0<i→(gD K.ds (i-1)).id<(gD K.ds i).id)∧tP (gD K.ds i)=true∧tG K (gD K.ds i).sg=true:=by
 simp only [E4,OF,ir,Bool.and_eq_true,decide_eq_true_eq,Bool.not_eq_true',Bool.and_eq_false_iff,decide_eq_false_iff_not]
 constructor
 ·rintro ⟨⟨h1,h2⟩,h3⟩
  exact ⟨by omega,fun h=>by rcases h2 with h2 | h2 <;> omega,h3⟩
 ·rintro ⟨h1,h2,h3⟩
  exact ⟨⟨by omega,by by_cases h:0<i; exact .inr (by have:=h2 h; omega); exact .inl h⟩,h3⟩
theorem oa {n:Nat} {q:Nat→Bool}:(List.range n).all q=true↔∀ i,i<n→q i=true:=by simp
theorem Dh {K:Dk} (h:xK K=true):KX (ids K.ps)∧K.ps.length≤12:=by
 simp only [xK,Bool.and_eq_true,decide_eq_true_eq,oa] at h
 obtain ⟨h1,h2⟩:=h
 refine ⟨fun i j hij x y hx hy=>?_,h1⟩
 have hg:∀ i x,(ids K.ps)[i]?=some x→i<K.ps.length∧x=(gP K.ps i).id:=fun i x hx=>by
  simp only [ids,List.getElem?_map,Option.map_eq_some_iff] at hx
  obtain ⟨p,hp,rfl⟩:=hx
  have hl:=(List.getElem?_eq_some_iff.1 hp).1
  rw [wD hl] at hp
  exact ⟨hl,by rw [Option.some.inj hp]⟩
 obtain ⟨_,rfl⟩:=hg i x hx
 obtain ⟨hj,rfl⟩:=hg j y hy
 clear hx hy
 have:∀ d,i+d<K.ps.length→(gP K.ps i).id≤(gP K.ps (i+d)).id:=fun d=>by
  induction d with
  | zero=>intro _; exact Int.le_refl _
  | succ d ih=>
   intro hd
   have:=ih (by omega)
   have h3:=((Dn K (i+(d+1))).1 (h2 _ hd)).2.1 (by omega)
   rw [show i+(d+1)-1=i+d by omega] at h3
   omega
 have:=this (j-i) (by omega)
 rwa [show i+(j-i)=j by omega] at this
theorem J8 {K:Dk} (h:cn K=true):xK K=true:=by
 simp only [cn,Bool.and_eq_true] at h
 simp only [xK,Bool.and_eq_true]
 exact ⟨h.1.1.1.1,h.1.2⟩
theorem FE {K:Dk} (h:cn K=true):KX (ids K.ps):=(Dh (J8 h)).1
theorem rq (K:Dk) (hl:K.ps.length≤9223372036854775807):PC prog sX [.list 3 (pN K.ps)] (.bool (xK K)):=by
 refine ae tj (by simp) ?_
 simp only [lA,go_sem,↓reduceIte,reduceCtorEq]
 try simp (disch:=omega) only [go_sem,aX]
 refine aT [2,3,5,8,9,10,11,12,13,14,15,16,17,18,19,20,21,22,23,24,25,26,27,28,29,30,31,32,33,34,35,36,37,38,39,40,41,42,43] (by kernel_rfl) K.ps.length (fun i e _=>e 8=.int .i64 i∧(∀ j,j<i→F6 K j=true)∧∃ la,e 3=.int .i64 la∧(i=0→la=0)∧(0<i→la=(gP K.ps (i-1)).id)) ?_ ?_
 ·exact ⟨(by first | rfl | (simp (disch:=omega) only [go_sem,jA,jB,jC,jD,jE,jF,jG,jH,jI,jJ,↓reduceIte,reduceCtorEq,jP,jO,jM,jN]; try rfl)),fun j hj=>by omega,0,(by first | rfl | (simp (disch:=omega) only [go_sem,jA,jB,jC,jD,jE,jF,jG,jH,jI,jJ,↓reduceIte,reduceCtorEq,jP,jO,jM,jN]; try rfl)),fun _=>rfl,fun h=>by omega⟩
 rintro i fe ob m c hi hm ⟨h8,hall,la,h3,hl0,hl1⟩
 simp (maxSteps:=1000000) only [go_sem,jF,↓reduceIte] at h8 h3 hm
 try simp (disch:=omega) only [go_sem,jF,↓reduceIte,h8]
 refine ah (fun hlt=>?_) (fun hge=>?_)
 ·have hil:i<K.ps.length:=by omega
  have hg:=wD hil
  have hok:=Dn K i
  have no:∀ {σ:St},¬F6 K i=true→aw σ (.bool false) (.bool (xK K)):=fun h=>by
   have:xK K=false:=by
    simp only [xK,Bool.and_eq_false_iff]
    right
    rw [Bool.eq_false_iff]
    exact fun h2=>h (oa.1 h2 i hil)
   rw [this]; exact aw.pure rfl
  have hprev:0<i→1≤la:=fun h=>by
   have:=((Dn K (i-1)).1 (hall (i-1) (by omega))).1.1
   rw [hl1 h]; omega
  rw [show (0<i→(gP K.ps (i-1)).id<(gP K.ps i).id)↔(0<i→la<(gP K.ps i).id) from ⟨fun h h0=>by rw [hl1 h0]; exact h h0,fun h h0=>by rw [←hl1 h0]; exact h h0⟩] at hok
  have hsn:F6 K i=true→∀ j,j<i+1→F6 K j=true:=fun h j hj=>by
   by_cases e:j=i
   ·subst e; exact h
   ·exact hall j (by omega)
  have hpi:(gP K.ps (i+1-1)).id=(gP K.ps i).id:=rfl
  generalize gP K.ps i=p at *
  try simp (disch:=omega) only [go_sem,jF,jG,jH,↓reduceIte,h3,aX,iJ,hg,Option.map_some,ri]
  refine ⟨by omega,by omega,?_⟩
  refine bH rfl (fun g1=>?_) (fun g1=>?_) <;> try simp (disch:=omega) only [go_sem,jF,jH,↓reduceIte]
  ·refine no fun h=>?_
   have:=hok.1 h
   rcases Nat.eq_zero_or_pos i with h0 | h0
   ·have:=hl0 h0; omega
   ·have:=this.2.1 h0; omega
  refine bH rfl (fun g2=>?_) (fun g2=>?_) <;> try simp (disch:=omega) only [go_sem,jF,jG,jH,↓reduceIte]
  ·exact no fun h=>by have:=hok.1 h; omega
  refine bH rfl (fun g3=>?_) (fun g3=>?_) <;> try simp (disch:=omega) only [go_sem,jF,jG,jH,↓reduceIte]
  ·exact no fun h=>by have:=hok.1 h; omega
  refine bH rfl (fun g4=>?_) (fun g4=>?_) <;> try simp (disch:=omega) only [go_sem,jF,jG,jH,↓reduceIte]
  ·exact no fun h=>by have:=hok.1 h; omega
  refine bH rfl (fun g5=>?_) (fun g5=>?_) <;> try simp (disch:=omega) only [go_sem,jF,jG,jH,↓reduceIte]
  ·exact no fun h=>by have:=hok.1 h; omega
  refine ah (fun g6=>?_) (fun g6=>?_) <;> try simp (disch:=omega) only [go_sem,jF,jH,↓reduceIte,jO]
  ·exact no fun h=>by have:=hok.1 h; omega
  have hlo:1≤p.id:=by
   rcases Nat.eq_zero_or_pos i with h0 | h0
   ·have:=hl0 h0; omega
   ·have:=hprev h0; omega
  refine aD m hil (by omega) ⟨(by first | rfl | (simp (disch:=omega) only [go_sem,jA,jB,jC,jD,jE,jF,jG,jH,jI,jJ,↓reduceIte,reduceCtorEq,jP,jO,jM,jN]; try rfl)),hsn (hok.2 ⟨⟨hlo,by omega⟩,fun _=>by omega,⟨by omega,by omega⟩,by omega,by omega⟩),p.id,(by first | rfl | (simp (disch:=omega) only [go_sem,jA,jB,jC,jD,jE,jF,jG,jH,jI,jJ,↓reduceIte,reduceCtorEq,jP,jO,jM,jN]; try rfl)),fun h=>by omega,fun _=>hpi.symm⟩
 obtain rfl:i=K.ps.length:=by omega
 try simp (disch:=omega) only [go_sem,↓reduceIte,reduceCtorEq,aX]
 refine aw.of_eq ?_ rfl
 congr 1
 rw [xK,oa.2 hall,Bool.and_true]
 rw [decide_eq_decide]; omega
theorem pV (d:Dv):PC prog rv [gH d] (.bool (tP d)):=by
 have no:∀ {σ:St},tP d=false→aw σ (.bool false) (.bool (tP d)):=fun h=>by rw [h]; exact aw.pure rfl
 refine ae rE (by simp) ?_
 simp only [jY,gH,jd]
 try simp (disch:=omega) only [go_sem,jF,jG,jH,↓reduceIte]
 refine bB rfl (fun g1=>?_) (fun g1=>?_) <;> try simp (disch:=omega) only [go_sem,jF,jG,jH,↓reduceIte]
 case refine_2=>exact no (by simp [tP,g1])
 refine bB rfl (fun g2=>?_) (fun g2=>?_) <;> try simp (disch:=omega) only [go_sem,jF,jG,jH,↓reduceIte]
 case refine_2=>exact no (by simp [tP,g2])
 refine bB rfl (fun g3=>?_) (fun g3=>?_) <;> try simp (disch:=omega) only [go_sem,jF,jG,jH,↓reduceIte]
 case refine_2=>exact no (by simp [tP,g3])
 refine bB rfl (fun g4=>?_) (fun g4=>?_) <;> try simp (disch:=omega) only [go_sem,jF,jG,jH,↓reduceIte]
 case refine_2=>exact no (by simp [tP,g4])
 refine bB rfl (fun g5=>?_) (fun g5=>?_) <;> try simp (disch:=omega) only [go_sem,jF,jG,jH,↓reduceIte]
 case refine_2=>exact no (by simp [tP,g5])
 refine bB rfl (fun g6=>?_) (fun g6=>?_) <;> try simp (disch:=omega) only [go_sem,jF,jG,jH,↓reduceIte]
 case refine_2=>exact no (by simp [tP,g6])
 exact aw.of_eq (by simp [tP,g1,g2,g3,g4,g5,g6]) rfl
theorem rn (K:Dk) (l:List Int) (hl:K.ps.length≤4611686018427387904) (hs:KX (ids K.ps)):PC prog sW [.list 3 (pN K.ps),.list 1 (ints l)] (.bool (tG K l)):=by
 refine ae th (by simp) ?_
 simp only [lz,go_sem,jF,↓reduceIte,reduceCtorEq]
 try simp (disch:=omega) only [go_sem,au]
 refine ah (fun h=>?_) (fun h=>?_) <;> try simp (disch:=omega) only [go_sem,jF,↓reduceIte,reduceCtorEq]
 ·have:tG K l=false:=by simp only [tG,Bool.and_eq_false_iff]; left; left; simp; omega
  rw [this]; exact aw.pure rfl
 have hl2:l.length≤2:=by omega
 refine aT [4,7,8,9,16,17,18,19,20,21,22,23,24,25,26,27,28,29,30,31,32,33,34,35,36,37] (by kernel_rfl) l.length (fun i e σ=>e 16=.int .i64 i∧(∀ j,j<i→∀ y,l[j]?=some y→(cR K y).2=true)∧(∃ es,σ.ob 0=some ⟨0,2,rW,false,false,es⟩∧(i=0→es=[])∧(i=1→es=[.agg [.int .i64 ((cO K l).getD 0 0),.bool true]]))∧(i=2→(cO K l).getD 0 0≠(cO K l).getD 1 0)) ?_ ?_
 ·exact ⟨(by first | rfl | (simp (disch:=omega) only [go_sem,jA,jB,jC,jD,jE,jF,jG,jH,jI,jJ,↓reduceIte,reduceCtorEq,jP,jO,jM,jN]; try rfl)),fun j hj=>by omega,⟨[],by try simp (disch:=omega) only [go_sem,↓reduceIte],fun _=>rfl,fun h=>by omega⟩,fun h=>by omega⟩
 rintro i fe ob m c hi hm ⟨h16,hall,⟨es,h0,e0,e1⟩,h2⟩
 simp (maxSteps:=1000000) only [go_sem,jF,↓reduceIte] at h16 h0 hm
 try simp (disch:=omega) only [go_sem,jF,↓reduceIte,h16,au]
 refine ah (fun hlt=>?_) (fun hge=>?_)
 ·have hil:i<l.length:=by omega
  have hgl:l[i]?=some l[i]:=List.getElem?_eq_getElem hil
  have hgi:=bA l i
  rw [hgl] at hgi
  have hro:(cO K l).getD i 0=(cR K l[i]).1.role:=by simp [cO,List.getD_eq_getElem?_getD,hgl]
  have no:∀ {σ:St},tG K l=false→aw σ (.bool false) (.bool (tG K l)):=fun h=>by rw [h]; exact aw.pure rfl
  have hF:=fN K l[i] hl hs
  have hnf:(cR K l[i]).2=false→tG K l=false:=fun h=>by
   simp only [tG,Bool.and_eq_false_iff]; left; right
   rw [Bool.eq_false_iff]; intro h2
   rw [List.all_eq_true] at h2
   rw [h2 _ (List.getElem_mem hil)] at h; cases h
  have hsn:(cR K l[i]).2=true→∀ j,j<i+1→∀ y,l[j]?=some y→(cR K y).2=true:=fun h j hj y hy=>by
   by_cases e:j=i
   ·subst e; rw [hgl] at hy; obtain rfl:=Option.some.inj hy; exact h
   ·exact hall j (by omega) y hy
  generalize l[i]=s at *
  generalize hps:cR K s=ps at *
  obtain ⟨p,ok⟩:=ps
  simp only at hro hF hnf hsn
  have z0:¬(0:Nat)=m:=by omega
  try simp (disch:=omega) only [go_sem,jF,jH,↓reduceIte,reduceCtorEq,au,hgi,Option.map_some]
  refine ⟨by omega,by omega,?_⟩
  refine ab hF (by simp [go_sem]) ?_
  cases ok
  ·try simp (disch:=omega) only [go_sem,jF,jG,jH,↓reduceIte,ri]
   exact no (hnf rfl)
  try simp (disch:=omega) only [go_sem,jF,jG,jH,↓reduceIte,ri,z0,h0]
  have hi2:i=0∨i=1:=by omega
  rcases hi2 with rfl | rfl
  ·obtain rfl:=e0 rfl
   try simp (disch:=omega) only [go_sem,jF,jG,jH,↓reduceIte,jO,jM,h0]
   refine aD m hil (by omega) ⟨(by first | rfl | (simp (disch:=omega) only [go_sem,jA,jB,jC,jD,jE,jF,jG,jH,jI,jJ,↓reduceIte,reduceCtorEq,jP,jO,jM,jN]; try rfl)),hsn rfl,⟨[.agg [.int .i64 ((cO K l).getD 0 0),.bool true]],?_,fun h=>by omega,fun _=>rfl⟩,fun h=>by omega⟩
   simp only [St.aE]; rw [if_pos (by omega),hro]
   simp [bd]
  ·obtain rfl:=e1 rfl
   have hlen2:l.length=2:=by omega
   try simp (disch:=omega) only [go_sem]
   by_cases hq:p.role=(cO K l).getD 0 0
   ·try simp (disch:=omega) only [go_sem,↓reduceIte,hq]
    refine no ?_
    simp only [tG,Bool.and_eq_false_iff,Bool.or_eq_false_iff]
    right
    refine ⟨by simp; omega,?_⟩
    rw [hro,hq]; simp
   ·try simp (disch:=omega) only [go_sem,jF,jG,jH,↓reduceIte,jO,jM,hq,h0]
    refine aD m hil (by omega) ⟨(by first | rfl | (simp (disch:=omega) only [go_sem,jA,jB,jC,jD,jE,jF,jG,jH,jI,jJ,↓reduceIte,reduceCtorEq,jP,jO,jM,jN]; try rfl)),hsn rfl,?_,fun _=>by rw [hro]; exact fun e=>hq e.symm⟩
    exact ⟨_,by simp only [St.aE]; rw [if_pos (by omega)]; simp [bd]; rfl,fun h=>by omega,fun h=>by omega⟩
 obtain rfl:i=l.length:=by omega
 try simp (disch:=omega) only [go_sem,↓reduceIte]
 have:tG K l=true:=by
  simp only [tG,Bool.and_eq_true,Bool.or_eq_true,decide_eq_true_eq,List.all_eq_true]
  refine ⟨⟨hl2,fun x hx=>?_⟩,?_⟩
  ·obtain ⟨j,hj⟩:=List.getElem?_of_mem hx
   exact hall j (List.getElem?_eq_some_iff.1 hj).1 x hj
  ·by_cases h3:l.length=2
   ·right; rw [decide_eq_false (h2 h3)]; rfl
   ·left; omega
 rw [this]
 exact aw.pure rfl
theorem fj (K:Dk) (hB:IL K):PC prog ux [bP K] (.bool (cn K)):=by
 have hlp:=hB.lp
 have hld:=hB.ld
 have no:∀ {σ:St},cn K=false→aw σ (.bool false) (.bool (cn K)):=fun h=>by rw [h]; exact aw.pure rfl
 have hce:cn K=(xK K&&ir K.nx 1 1073741824&&decide (K.ds.length≤64)&&(List.range K.ds.length).all (E4 K)):=by
  rw [Bool.eq_iff_iff]; simp only [cn,xK,Bool.and_eq_true]
  constructor
  ·rintro ⟨⟨⟨⟨h1,h2⟩,h3⟩,h4⟩,h5⟩; exact ⟨⟨⟨⟨h1,h4⟩,h2⟩,h3⟩,h5⟩
  ·rintro ⟨⟨⟨⟨h1,h4⟩,h2⟩,h3⟩,h5⟩; exact ⟨⟨⟨⟨h1,h2⟩,h3⟩,h4⟩,h5⟩
 refine ae vz (by simp) ?_
 simp only [mA,bP]
 try simp (disch:=omega) only [go_sem,jF,jG,jH,↓reduceIte]
 refine ab (rq K hlp) (by simp [go_sem]) ?_
 cases hpr:xK K
 ·try simp (disch:=omega) only [go_sem,jF,↓reduceIte]
  exact no (by rw [hce,hpr]; simp)
 try simp (disch:=omega) only [go_sem,jF,jG,jH,↓reduceIte]
 refine bH rfl (fun g1=>?_) (fun g1=>?_) <;> try simp (disch:=omega) only [go_sem,jF,jG,jH,↓reduceIte]
 ·exact no (by rw [hce]; simp [ir]; intros; omega)
 refine bH rfl (fun g2=>?_) (fun g2=>?_) <;> try simp (disch:=omega) only [go_sem,jF,jG,jH,↓reduceIte,aS]
 ·exact no (by rw [hce]; simp [ir]; intros; omega)
 refine ah (fun g3=>?_) (fun g3=>?_) <;> try simp (disch:=omega) only [go_sem,jF,jG,jH,↓reduceIte,aS]
 ·exact no (by rw [hce]; simp [ir]; intros; omega)
 have hasc:=(Dh hpr).1
 have hc1:cn K=(List.range K.ds.length).all (E4 K):=by
  rw [hce,hpr,show ir K.nx 1 1073741824=true by simp [ir]; omega,show decide (K.ds.length≤64)=true by simp; omega]; simp
 refine aT [2,3,5,29,30,31,32,33,34,35,36,37,38,39,40,41,42,43,44,45,46,47,48,49,50,51,52,53,54,55,56,57,58,59] (by kernel_rfl) K.ds.length (fun i e σ=>e 29=.int .i64 i∧σ.ob 0=some ⟨0,3,44,false,true,[.agg [.list 3 (pN K.ps),.int .i64 K.nx,.list 7 (yn K.ds)]]⟩∧(∀ j,j<i→E4 K j=true)∧∃ la,e 3=.int .i64 la∧(i=0→la=0)∧(0<i→la=(gD K.ds (i-1)).id)) ?_ ?_
 ·exact ⟨(by first | rfl | (simp (disch:=omega) only [go_sem,jA,jB,jC,jD,jE,jF,jG,jH,jI,jJ,↓reduceIte,reduceCtorEq,jP,jO,jM,jN]; try rfl)),by try simp (disch:=omega) only [go_sem,↓reduceIte],fun j hj=>by omega,0,(by first | rfl | (simp (disch:=omega) only [go_sem,jA,jB,jC,jD,jE,jF,jG,jH,jI,jJ,↓reduceIte,reduceCtorEq,jP,jO,jM,jN]; try rfl)),fun _=>rfl,fun h=>by omega⟩
 rintro i fe ob m c hi hm ⟨h8,hob,hall,la,h3,hl0,hl1⟩
 simp (maxSteps:=1000000) only [go_sem,jF,↓reduceIte] at h8 h3 hm hob
 try simp (disch:=omega) only [go_sem,jF,↓reduceIte,h8]
 refine ah (fun hlt=>?_) (fun hge=>?_)
 ·have hil:i<K.ds.length:=by omega
  have hg:=jv hil
  have hok:=Hl K i
  have no:∀ {σ:St},¬E4 K i=true→aw σ (.bool false) (.bool (cn K)):=fun h=>by
   have:cn K=false:=by
    rw [hc1,Bool.eq_false_iff]
    exact fun h2=>h (oa.1 h2 i hil)
   rw [this]; exact aw.pure rfl
  have hprev:0<i→1≤la:=fun h=>by
   have:=((Hl K (i-1)).1 (hall (i-1) (by omega))).1.1
   rw [hl1 h]; omega
  rw [show (0<i→(gD K.ds (i-1)).id<(gD K.ds i).id)↔(0<i→la<(gD K.ds i).id) from ⟨fun h h0=>by rw [hl1 h0]; exact h h0,fun h h0=>by rw [←hl1 h0]; exact h h0⟩] at hok
  have hsn:E4 K i=true→∀ j,j<i+1→E4 K j=true:=fun h j hj=>by
   by_cases e:j=i
   ·subst e; exact h
   ·exact hall j (by omega)
  have hpi:(gD K.ds (i+1-1)).id=(gD K.ds i).id:=rfl
  have hPl:=pV (gD K.ds i)
  have hSg:=rn K (gD K.ds i).sg (by have:=(Dh hpr).2; omega) hasc
  generalize gD K.ds i=d at *
  have z0:¬(0:Nat)=m:=by omega
  simp only [gH,jd] at hPl
  try simp (disch:=omega) only [go_sem,jF,jG,jH,↓reduceIte,h3,aS,dU,hg,Option.map_some,gH,jd]
  refine ⟨by omega,by omega,?_⟩
  refine bH rfl (fun g4=>?_) (fun g4=>?_) <;> try simp (disch:=omega) only [go_sem,jF,jG,jH,↓reduceIte,z0,hob]
  ·refine no fun h=>?_
   have:=hok.1 h
   rcases Nat.eq_zero_or_pos i with h0 | h0
   ·have:=hl0 h0; omega
   ·have:=this.2.1 h0; omega
  refine bH rfl (fun g5=>?_) (fun g5=>?_) <;> try simp (disch:=omega) only [go_sem,jF,jH,↓reduceIte]
  ·exact no fun h=>by have:=hok.1 h; omega
  refine ab hPl (by simp [go_sem]) ?_
  cases hp:tP d
  ·try simp (disch:=omega) only [go_sem,jF,↓reduceIte]
   exact no fun h=>by have:=(hok.1 h).2.2.1; rw [hp] at this; cases this
  try simp (disch:=omega) only [go_sem,jF,jG,jH,↓reduceIte,z0,hob]
  refine ab hSg (by simp [go_sem]) ?_
  cases hq:tG K d.sg
  ·try simp (disch:=omega) only [go_sem,jF,↓reduceIte]
   exact no fun h=>by have:=(hok.1 h).2.2.2; rw [hq] at this; cases this
  try simp (disch:=omega) only [go_sem,jF,jH,↓reduceIte,jO]
  have hlo:1≤d.id:=by
   rcases Nat.eq_zero_or_pos i with h0 | h0
   ·have:=hl0 h0; omega
   ·have:=hprev h0; omega
  refine aD m hil (by omega) ⟨(by first | rfl | (simp (disch:=omega) only [go_sem,jA,jB,jC,jD,jE,jF,jG,jH,jI,jJ,↓reduceIte,reduceCtorEq,jP,jO,jM,jN]; try rfl)),?_,hsn (hok.2 ⟨⟨hlo,by omega⟩,fun _=>by omega,hp,hq⟩),d.id,(by first | rfl | (simp (disch:=omega) only [go_sem,jA,jB,jC,jD,jE,jF,jG,jH,jI,jJ,↓reduceIte,reduceCtorEq,jP,jO,jM,jN]; try rfl)),fun h=>by omega,fun _=>hpi.symm⟩
  simp only [St.aE]; rw [if_pos (by omega)]; repeat rw [aa _ _ _ _ (by omega)]
  exact hob
 obtain rfl:i=K.ds.length:=by omega
 try simp (disch:=omega) only [go_sem,↓reduceIte]
 rw [hc1,oa.2 hall]
 exact aw.pure rfl
theorem sR (K:Dk) (hB:IL K):PC prog uy [bP K] (.int .i64 (pa K)):=by
 refine ae vA (by simp) ?_
 simp only [mB]
 try simp (disch:=omega) only [go_sem,jF,jH,↓reduceIte,dv,dF,iC]
 refine ab (fj K hB) (by simp [eC]) ?_
 rw [pa]
 cases cn K <;> try simp (disch:=omega) only [go_sem,↓reduceIte,reduceCtorEq] <;> exact aw.pure rfl
theorem rz (σ:St) (d:Dv) (hd:d.sg.length≤1000000):HC prog sY [gH d] σ (fun r τ=>∃ E,r=jd d E∧cw 1 Cj τ (ints d.sg) E∧σ.n≤τ.n∧∀ i,i<σ.n→τ.ob i=σ.ob i∧aZ E i):=by
 obtain ⟨dL,n0,c0⟩:=σ
 refine aM tl (by simp) ?_
 simp only [lC,gH,jd]
 try simp (disch:=omega) only [go_sem,jF,jG,jH,↓reduceIte,jM]
 refine (gO _ (ints d.sg) (by rw [au]; omega)).mono ?_
 rintro E ⟨ob1,n1,c1⟩ hN
 obtain ⟨hE,h1,h2,h3⟩:=hN.UF
 simp only at h1 h2 h3
 have u0:=h2 n0 (by omega)
 have u1:=h2 (n0+1) (by omega)
 try simp (disch:=omega) only [go_sem,↓reduceIte,jM] at u0
 try simp (disch:=omega) only [go_sem,↓reduceIte] at u1
 have z1:¬n0+1=n0:=by omega
 have z2:¬n0=n0+1:=by omega
 try simp (disch:=omega) only [go_sem,jF,jG,jH,↓reduceIte,u0,u1,hE.flat,hE.cells,hE.one,z1]
 refine ⟨E,rfl,hE.move (Nat.le_refl _) fun i hi hh=>?_,by omega,fun i hi=>⟨?_,h3 i (by omega)⟩⟩
 ·have hg:n0+1<i:=Nat.lt_of_not_le fun h=>hh (h3 i (by omega))
  simp only
  rw [aa _ _ _ _ (by omega),aa _ _ _ _ (by omega)]
 ·rw [if_neg (by omega),if_neg (by omega),h2 i (by omega)]
  repeat rw [aa _ _ _ _ (by omega)]
theorem fY (σ:St) (K:Dk) (h1:K.ps.length≤1000000) (h4:K.ds.length≤1000000) (h5:∀ d∈K.ds,d.sg.length≤1000000):HC prog wu [bP K] σ (UO σ K):=by
 obtain ⟨dL,n0,c0⟩:=σ
 refine aM w6 (by simp) ?_
 simp only [nV,bP]
 try simp (disch:=omega) only [go_sem,jF,jG,jH,↓reduceIte,jM]
 refine (eS _ (pN K.ps) (by rw [aX]; omega)).mono ?_
 rintro XP ⟨ob1,n1,c1⟩ hN
 obtain ⟨hP,k1,k2,k3⟩:=hN.UF
 simp only at k1 k2 k3
 have k1':n0+2≤n1:=k1
 have u0:=k2 n0 (by omega)
 have u1:=k2 (n0+1) (by omega)
 try simp (disch:=omega) only [go_sem,↓reduceIte,jM] at u0
 try simp (disch:=omega) only [go_sem,↓reduceIte] at u1
 have w0:¬n0=n1:=by omega
 have w1:¬n0+1=n1:=by omega
 try simp (disch:=omega) only [go_sem,jF,jG,jH,↓reduceIte,reduceCtorEq,jM,u0,w0,hP.flat,hP.cells,hP.one,aS]
 refine aT [5,15,16,17,18,19,20,21,22,23,24,25,26] (by kernel_rfl) K.ds.length (fun k e σ=>e 15=.int .i64 k∧n1+1≤σ.n∧(∀ i,i<n1→σ.ob i=ob1 i)∧
  ∃ Y Fs,σ.ob n1=some ⟨c1,3,44,false,true,[.agg [XP,.int .i64 K.nx,Y]]⟩∧cw 7 HR σ (cD (K.ds.take k) Fs) Y∧IC 1 Lm σ Fs (lH (K.ds.take k))∧IG σ (n1+1) Y Fs) ?_ ?_
 ·refine ⟨(by first | rfl | (simp (disch:=omega) only [go_sem,jA,jB,jC,jD,jE,jF,jG,jH,jI,jJ,↓reduceIte,reduceCtorEq,jP,jO,jM,jN]; try rfl)),Nat.le_refl _,fun i hi=>?_,.nil,[],by try simp (disch:=omega) only [go_sem,↓reduceIte],by simp [cD]; exact cw.nil,IC.nil _ _ _,IG.nil _ _⟩
  simp only
  rw [aa _ _ _ _ (by omega),aa _ _ _ _ (by omega)]
 rintro k fe ob m c hk hm ⟨h15,hm1,ho,Y,Fs,hb,hY,hJ,hH⟩
 simp (maxSteps:=1000000) only [go_sem,jF,↓reduceIte] at h15 hm hm1 ho hb
 try simp (disch:=omega) only [go_sem,jF,↓reduceIte,h15]
 refine ah (fun hlt=>?_) (fun hge=>?_)
 ·have hkl:k<K.ds.length:=by omega
  have hk2:K.ds[k]?=some K.ds[k]:=List.getElem?_eq_getElem hkl
  have hxl:=h5 _ (List.getElem_mem hkl)
  have htk:K.ds.take (k+1)=K.ds.take k++[K.ds[k]]:=dD _ _ hkl
  have hEl:Fs.length=k:=by have:=hJ.1; simp [lH] at this; omega
  have hC:=fun σ=>rz σ K.ds[k] hxl
  generalize K.ds[k]=w at *
  have z1:¬n1=m:=by omega
  have z2:¬m=n1:=by omega
  simp only [gH,jd] at hC
  try simp (disch:=omega) only [go_sem,jF,jG,jH,↓reduceIte,aS,dU,hk2,Option.map_some,gH,jd,z1,hb]
  refine ⟨by omega,by omega,?_⟩
  refine (hC _).mono ?_
  rintro r ⟨ob6,m6,c6⟩ ⟨E,rfl,hE,e1,e2⟩
  simp only at e1 e2
  have e2':∀ i,i<m→ob6 i=ob i:=fun i hi=>(e2 i (by omega)).1.trans (by rw [aa _ _ _ _ (by omega),aa _ _ _ _ (by omega)])
  have e3':∀ i,i<m+1→aZ E i:=fun i hi=>(e2 i hi).2
  have z3:¬n1=m6:=by omega
  have hb6:=(e2' n1 (by omega)).trans hb
  have oY:∀ i,i<n1+1→aZ Y i:=fun i hi=>aZ.em fun h=>by have:=(hH.low i h).1; omega
  have oYm:∀ i,m≤i→aZ Y i:=fun i hi=>hY.H2 hi
  clear e2
  try simp (disch:=omega) only [go_sem,jF,jG,↓reduceIte,jM,hE.one,z3,hb6]
  refine ⟨hb.symm,?_⟩
  refine xf (ER.dk (L:=[jd w E]) (az _ _ _) (Nat.lt_succ_self _)) ?_
  have hYl:(cD (K.ds.take k) Fs).length≤1000000:=by simp [cD]; omega
  refine bE (b:=72) (hY.move (by simp only; omega) fun i hi hh=>?_) (by omega) (by omega) fun Y' τ2 hY2 kY=>?_
  ·simp only at hi ⊢
   rw [aa _ _ _ _ (by omega),e2' i hi]
  obtain ⟨ob7,m7,c7⟩:=τ2
  have q1:m6+1≤m7:=kY.1
  have q2:∀ i,i<m→aZ Y i→ob7 i=ob i:=fun i hi h=>(kY.2.1 i (by simp only; omega) h).trans (by simp only; rw [aa _ _ _ _ (by omega),e2' i hi])
  have q3:∀ i,m+1≤i→i<m6→ob7 i=ob6 i:=fun i hi hi2=>(kY.2.1 i (by simp only; omega) (oYm i (by omega))).trans (by simp only; rw [aa _ _ _ _ (by omega)])
  have hb7:=(q2 n1 (by omega) (oY n1 (by omega))).trans hb
  have hEi:∀ i,¬aZ E i→m+1≤i∧i<m6:=fun i hi=>⟨Nat.le_of_not_lt fun h=>hi (e3' i h),hE.lt hi⟩
  have oY':∀ i,¬aZ Y' i→i≠n1:=fun i hi e=>hi (e ▸ kY.2.2 n1 (by simp only; omega) (oY n1 (by omega)))
  try simp (disch:=omega) only [go_sem,jF,jG,jH,↓reduceIte,reduceCtorEq,jO,jM,hb7,hY2.flat,hY2.cells]
  refine aD m7 hkl (by omega) ⟨(by first | rfl | (simp (disch:=omega) only [go_sem,jA,jB,jC,jD,jE,jF,jG,jH,jI,jJ,↓reduceIte,reduceCtorEq,jP,jO,jM,jN]; try rfl)),by simp only [St.aE]; omega,fun i hi=>?_,Y',Fs++[E],?_,?_,?_,?_⟩
  ·rw [aW (by omega),aa _ _ _ _ (by omega),q2 i (by omega) (oY i (by omega))]; exact ho i hi
  ·rw [aW (by omega)]; simp [bd]
  ·rw [htk,qY (by simp; omega)]
   exact hY2.move (by simp only [St.aE]; omega) fun i hi hh=>by
    simp only at hi
    rw [aW hi,aa _ _ _ _ (oY' i hh)]
  ·rw [htk,show lH (K.ds.take k++[w])=lH (K.ds.take k)++[ints w.sg] by simp [lH]]
   refine IC.snoc (hJ.move (by simp only [St.aE]; omega) fun F hF2 i hi hlt=>?_) (hE.move (by simp only [St.aE]; omega) fun i hlt hi=>?_)
   ·have hi1:=(hH.Ff F hF2 i hi).1
    simp only at hlt
    rw [aW (by omega),aa _ _ _ _ (by omega),q2 i hlt (hH.sep F hF2 i hi)]
   ·have hi1:=hEi i hi
    rw [aW (by omega),aa _ _ _ _ (by omega),q3 i hi1.1 hi1.2]
  ·exact (hH.snoc (by simp only; omega) (show m≤m6+1 by omega) (fun i hi=>⟨by have:=(hEi i hi).1; simp only; omega,by have:=(hEi i hi).2; simp only; omega⟩) kY fun i hi=>hY2.H2 hi).up (Nat.le_refl _)
 obtain rfl:k=K.ds.length:=by omega
 rw [List.take_length] at hY hJ
 have v1:ob (n0+1)=_:=(ho (n0+1) (by omega)).trans u1
 have zz:¬n0+1=n1:=by omega
 have zz2:¬n1=n0+1:=by omega
 try simp (disch:=omega) only [go_sem,jF,jG,jH,↓reduceIte,hb,v1,hY.one,hP.one]
 have k3':∀ i,¬aZ XP i→n0+2≤i:=fun i hi=>Nat.le_of_not_lt fun h=>hi (k3 i h)
 refine ⟨XP,Y,Fs,n1+1,rfl,by simp only; omega,hm1,hP.move (by simp only; omega) fun i hi hh=>?_,fun i hi=>⟨by have:=k3' i hi; simp only; omega,by have:=hP.lt hi; simp only at this; omega⟩,hY.move (Nat.le_refl _) fun i hi hh=>?_,hJ.move (Nat.le_refl _) fun E hE i hi hh=>?_,hH.up (Nat.le_refl _),fun i hi=>?_⟩
 ·have h1:=k3' i hh
  simp only at hi ⊢
  rw [aa _ _ _ _ (by omega),ho i hi]
 ·have h1:=(hH.low i hh).1
  simp only
  rw [aa _ _ _ _ (by omega)]
 ·have h1:=(hH.Ff E hE i hi).1
  simp only
  rw [aa _ _ _ _ (by omega)]
 ·simp only at hi ⊢
  rw [aa _ _ _ _ (by omega),ho i (by omega),k2 i (by omega)]
  repeat rw [aa _ _ _ _ (by omega)]
def UQ (σ τ:St):Prop:=σ.n≤τ.n∧∀ k,k<σ.n→τ.ob k=σ.ob k
theorem CF {α:Type} {l:List α} {q:α→Bool} {k:Nat} {x:α} (hk:l[k]?=some x) (hj:∀ j,j<k→∀ y,l[j]?=some y→q y=false) (hq:q x=false):∀ j,j<k+1→∀ y,l[j]?=some y→q y=false:=fun j hj2 y hy=>by
 by_cases e:j=k
 ·subst e; rw [hk] at hy; obtain rfl:=Option.some.inj hy; exact hq
 ·exact hj j (by omega) y hy
def UP (σ:St) (f:Nat) (caps:List AV) (q:Dv→Bool):Prop:=
 ∀ (τ:St) (x:Dv),σ.n≤τ.n→(∀ k,k<σ.n→τ.ob k=σ.ob k)→HC prog f (gH x :: caps) τ (fun r τ'=>r=.bool (q x)∧UQ τ τ')
theorem pE (l:List Int) (x:Int) (hl:l.length≤4611686018427387904):PC prog rr [.list 1 (ints l),.int .i64 x] (.int .i64 (match l.findIdx? (fun y=>decide (x=y)) with | some i=>(i:Int) | none=>-1)):=by
 refine ae rC (by simp) ?_
 simp only [jV,go_sem,↓reduceIte,reduceCtorEq]
 try simp (disch:=omega) only [go_sem,au]
 refine bq [4,5,8,9,10,11,12,13,14,15,16,17,18] (by kernel_rfl) l.length (fun k e _=>e 8=.int .i64 k∧∀ j,j<k→∀ y,l[j]?=some y→decide (x=y)=false) ?_ ?_
 ·exact ⟨(by first | rfl | (simp (disch:=omega) only [go_sem,jA,jB,jC,jD,jE,jF,jG,jH,jI,jJ,↓reduceIte,reduceCtorEq,jP,jO,jM,jN]; try rfl)),fun j hj=>by omega⟩
 rintro k fe ob c hk ⟨hki,hj⟩
 simp (maxSteps:=1000000) only [go_sem,jF,↓reduceIte] at hki
 try simp (disch:=omega) only [go_sem,jF,↓reduceIte,hki]
 refine ah (fun hlt=>?_) (fun hge=>?_)
 ·have hkl:k<l.length:=by omega
  have hk2:l[k]?=some l[k]:=List.getElem?_eq_getElem hkl
  have hfi:decide (x=l[k])=true→l.findIdx? (fun y=>decide (x=y))=some k:=fun h=>by
   rw [List.findIdx?_eq_some_iff_getElem]
   exact ⟨hkl,h,fun j hjk=>by have:=hj j hjk l[j] (List.getElem?_eq_getElem (by omega)); simpa using this⟩
  have hnx:=CF hk2 hj
  generalize l[k]=y at *
  try simp (disch:=omega) only [go_sem,jF,jH,↓reduceIte,reduceCtorEq,au,bA,hk2,Option.map_some]
  refine ⟨by omega,by omega,?_⟩
  refine ah (fun hq=>?_) (fun hq=>?_) <;> try simp (disch:=omega) only [go_sem,jF,↓reduceIte,jO]
  ·rw [hfi (by simpa using hq)]
   exact aw.pure rfl
  ·exact bj hkl ⟨(by first | rfl | (simp (disch:=omega) only [go_sem,jA,jB,jC,jD,jE,jF,jG,jH,jI,jJ,↓reduceIte,reduceCtorEq,jP,jO,jM,jN]; try rfl)),hnx (by simpa using hq)⟩
 ·obtain rfl:k=l.length:=by omega
  try simp (disch:=omega) only [go_sem,↓reduceIte]
  have:l.findIdx? (fun y=>decide (x=y))=none:=by
   rw [List.findIdx?_eq_none_iff]
   intro z hz
   obtain ⟨i,hi⟩:=List.getElem?_of_mem hz
   exact hj i (List.getElem?_eq_some_iff.1 hi).1 z hi
  rw [this]
  exact aw.pure rfl
theorem mN (l:List Int) (x:Int) (hl:l.length≤4611686018427387904):PC prog oD [.list 1 (ints l),.int .i64 x] (.bool (decide (x∈l))):=by
 refine ae oP (by simp) ?_
 simp only [gp,go_sem,jF,↓reduceIte,reduceCtorEq]
 refine ab (pE l x hl) (by simp [go_sem]) ?_
 cases hf:l.findIdx? (fun y=>decide (x=y)) with
 | none=>
  try simp (disch:=omega) only [go_sem,jC,↓reduceIte]
  rw [List.findIdx?_eq_none_iff] at hf
  refine aw.of_eq ?_ rfl
  have:x∉l:=fun h=>by have:=hf x h; simp at this
  simp [this]
 | some i=>
  try simp (disch:=omega) only [go_sem,↓reduceIte]
  rw [List.findIdx?_eq_some_iff_getElem] at hf
  obtain ⟨h1,h2,_⟩:=hf
  refine aw.of_eq ?_ rfl
  have:x∈l:=by have:=of_decide_eq_true h2; rw [this]; exact List.getElem_mem h1
  simp [this]
theorem iw (σ:St) (l:List Dv) (f:Nat) (caps:List AV) (q:Dv→Bool) (hl:l.length≤1000000) (hcb:UP σ f caps q) :
  HC prog iW [.list 7 (yn l),.func f caps] σ (fun r τ=>r=.int .i64 (match l.findIdx? q with | some i=>(i:Int) | none=>-1)∧UQ σ τ):=by
 obtain ⟨dL,n0,c0⟩:=σ
 refine aM jf (by simp) ?_
 simp only [dA,go_sem,↓reduceIte,reduceCtorEq]
 try simp (disch:=omega) only [go_sem,aS]
 refine aT [4,5,8,9,10,11,12,13,14,15,16,17,18] (by kernel_rfl) l.length (fun k e τ=>e 8=.int .i64 k∧n0≤τ.n∧(∀ i,i<n0→τ.ob i=dL i)∧∀ j,j<k→∀ y,l[j]?=some y→q y=false) ?_ ?_
 ·exact ⟨(by first | rfl | (simp (disch:=omega) only [go_sem,jA,jB,jC,jD,jE,jF,jG,jH,jI,jJ,↓reduceIte,reduceCtorEq,jP,jO,jM,jN]; try rfl)),Nat.le_refl _,fun _ _=>rfl,fun j hj=>by omega⟩
 rintro k fe ob m c2 hk hm ⟨hki,hm1,ho,hj⟩
 simp (maxSteps:=1000000) only [go_sem,jF,↓reduceIte] at hki hm hm1 ho
 try simp (disch:=omega) only [go_sem,jF,↓reduceIte,hki]
 refine ah (fun hlt=>?_) (fun hge=>?_)
 ·have hkl:k<l.length:=by omega
  have hk2:l[k]?=some l[k]:=List.getElem?_eq_getElem hkl
  have hnx:=CF hk2 hj
  have hfi:q l[k]=true→l.findIdx? q=some k:=fun h=>by
   rw [List.findIdx?_eq_some_iff_getElem]
   exact ⟨hkl,h,fun j hjk=>by have:=hj j hjk l[j] (List.getElem?_eq_getElem (by omega)); simpa using this⟩
  have hcx:=hcb ⟨ob,m,c2⟩ l[k] hm1 fun i hi=>ho i hi
  generalize l[k]=y at *
  simp only [gH,jd] at hcx
  try simp (disch:=omega) only [go_sem,jF,jH,↓reduceIte,reduceCtorEq,aS,dU,hk2,Option.map_some,gH,jd]
  refine ⟨by omega,by omega,hcx.mono ?_⟩
  rintro r ⟨ob2,m2,c3⟩ ⟨rfl,hA1,hA2⟩
  simp only at hA1 hA2
  try simp (disch:=omega) only [go_sem,↓reduceIte]
  refine GK (fun hq=>?_) (fun hq=>?_) <;> try simp (disch:=omega) only [go_sem,jF,↓reduceIte,jO]
  ·rw [hfi hq]
   exact ⟨rfl,by simp only; omega,fun i hi=>by simp only at hi ⊢; rw [hA2 i (by omega),ho i hi]⟩
  ·exact aD m2 hkl (by omega) ⟨(by first | rfl | (simp (disch:=omega) only [go_sem,jA,jB,jC,jD,jE,jF,jG,jH,jI,jJ,↓reduceIte,reduceCtorEq,jP,jO,jM,jN]; try rfl)),by simp only [St.aE]; omega,fun i hi=>by rw [aW (by omega),hA2 i (by omega),ho i hi],hnx hq⟩
 ·obtain rfl:k=l.length:=by omega
  try simp (disch:=omega) only [go_sem,↓reduceIte]
  have:l.findIdx? q=none:=by
   rw [List.findIdx?_eq_none_iff]
   intro x hx
   obtain ⟨i,hi⟩:=List.getElem?_of_mem hx
   exact hj i (List.getElem?_eq_some_iff.1 hi).1 x hi
  rw [this]
  exact ⟨rfl,hm1,ho⟩
theorem rB (σ:St) (b g:Nat) (ty:TypeId) (ro ap:Bool) (id:Int) (hob:σ.ob b=some ⟨g,1,ty,ro,ap,[.int .i64 id]⟩) (hb:b<σ.n):UP σ k8 [.ptr b g 1 0 0] (fun d=>decide (d.id=id)):=by
 rintro ⟨ob,m,c⟩ x hn ho
 simp only at hn ho
 refine aM tk (by simp) ?_
 simp only [lB,gH,jd]
 have h1:=(ho b hb).trans hob
 have h2:¬b=m:=by omega
 try simp (disch:=omega) only [go_sem,jF,jG,jH,↓reduceIte,reduceCtorEq,h1,h2]
 refine ⟨?_,fun i hi=>?_⟩
 ·simp only; omega
 ·simp only at hi ⊢
  rw [aa _ _ _ _ (by omega)]
def RC (K:Dk) (who code now kind:Int) (d:Dv) (i:Nat):Int × Pn × Int:=
 if d.wd=true∨d.to<now then (0,Cr,44) else if (cR K who).2=false then (0,Cr,11) else
  if code≠sh (cR K who).1.key kind d then (0,Cr,43) else ((i:Int),(cR K who).1,0)
theorem CT (K:Dk) (id who code now kind:Int):∀ (l:List Dv) (i:Nat),rG K id who code now kind l i=match l.findIdx? (fun d=>decide (d.id=id)) with
  | none=>(0,Cr,9)
  | some j=>RC K who code now kind (gD l j) (i+j)
 | [],i=>rfl
 | d :: l,i=>by
  rw [rG,List.findIdx?_cons]
  by_cases h:d.id=id
  ·rw [if_neg (by simp [h])]; simp only [h,decide_true]; rfl
  ·rw [if_pos h,CT K id who code now kind l (i+1)]
   simp only [h,decide_false]
   cases l.findIdx? (fun d=>decide (d.id=id)) with
   | none=>rfl
   | some j=>simp [gD,Nat.add_assoc,Nat.add_comm 1 j]
theorem l8 (K:Dk) (hB:IL K) (id who code kind now:Int):PC prog wv [bP K,.int .i64 id,.int .i64 who,.int .i64 code,.int .i64 kind,.int .i64 now]
  (.tuple [.int .i64 (bK K id who code now kind).1,ri (bK K id who code now kind).2.1,.int .i64 (bK K id who code now kind).2.2]):=by
 refine ae w8 (by simp) ?_
 have hV:=fj K hB
 have hp:=eC K
 simp only [nX,bP] at hV hp ⊢
 try simp (disch:=omega) only [go_sem,jF,jG,jH,↓reduceIte,reduceCtorEq]
 refine ab hV (by simp [hp]) ?_
 rw [bK]
 cases hc:cn K
 ·try simp (disch:=omega) only [go_sem,jF,jG,jH,↓reduceIte]
  exact aw.pure rfl
 rw [if_neg (by simp),CT]
 have hnx:=gh hc
 have hasc:=FE hc
 try simp (disch:=omega) only [go_sem,jF,jG,jH,↓reduceIte,reduceCtorEq]
 refine (iw _ K.ds k8 _ (fun d=>decide (d.id=id)) (by omega) (rB _ 1 1 3 false true id (by try simp (disch:=omega) only [go_sem,jF,↓reduceIte]) (by simp only; omega))).mono ?_
 rintro r ⟨ob,m,c⟩ ⟨rfl,hA1,hA2⟩
 simp only at hA1 hA2
 have u0:=hA2 0 (by omega)
 have u2:=hA2 2 (by omega)
 try simp (disch:=omega) only [go_sem,↓reduceIte,reduceCtorEq] at u0
 try simp (disch:=omega) only [go_sem,↓reduceIte] at u2
 cases hf:K.ds.findIdx? (fun d=>decide (d.id=id)) with
 | none=>
  try simp (disch:=omega) only [go_sem,jB,jF,jG,jH,↓reduceIte,u2]
  exact aw.pure rfl
 | some j=>
  rw [List.findIdx?_eq_some_iff_getElem] at hf
  obtain ⟨hj,hj2,_⟩:=hf
  have hg:=jv hj
  have hF:=fN K who (by omega) hasc
  have hCo:=ug (cR K who).1.key kind (gD K.ds j)
  simp only [RC]
  generalize gD K.ds j=d at *
  have z0:¬0=m:=by omega
  have z2:¬2=m:=by omega
  simp only [gH,jd] at hCo
  try simp (disch:=omega) only [go_sem,↓reduceIte]
  refine ah (fun h1=>absurd h1 (by omega)) (fun h1=>?_)
  try simp (disch:=omega) only [go_sem,jF,jG,jH,↓reduceIte,u0,aS,dU,hg,Option.map_some,gH,jd]
  refine ⟨by omega,by omega,?_⟩
  cases hw:d.wd
  case true=>
   try simp (disch:=omega) only [go_sem,jF,jG,jH,↓reduceIte,u2,z2]
   exact aw.pure rfl
  try simp (disch:=omega) only [go_sem,jF,jG,jH,↓reduceIte,reduceCtorEq]
  refine ah (fun h3=>?_) (fun h3=>?_) <;> try simp (disch:=omega) only [go_sem,jF,jG,jH,↓reduceIte,reduceCtorEq,u0,u2,z0,z2]
  ·rw [if_pos (by first | exact h3 | exact .inr h3)]
   exact aw.pure rfl
  rw [if_neg (by simp; omega)]
  generalize cR K who=P at *
  obtain ⟨p,ok⟩:=P
  simp only at hF hCo ⊢
  have z4:¬0=m+1:=by omega
  have z5:¬2=m+1:=by omega
  have z6:¬m=m+1:=by omega
  refine ab hF (by simp [go_sem]) ?_
  try simp (disch:=omega) only [go_sem,jF,jG,jH,↓reduceIte,ri]
  cases ok
  ·try simp (disch:=omega) only [go_sem,jF,jG,jH,↓reduceIte,u2,z2,z5]
   exact aw.pure rfl
  try simp (disch:=omega) only [go_sem,jF,jG,jH,↓reduceIte,reduceCtorEq,z6]
  rw [hw] at hCo
  refine ab hCo (by simp [go_sem]) ?_
  try simp (disch:=omega) only [go_sem,jF,↓reduceIte]
  refine aY (fun h5=>?_) (fun h5=>?_) <;> try simp (disch:=omega) only [go_sem,jF,jG,jH,↓reduceIte,reduceCtorEq,u2,z2,z5]
  ·rw [if_pos h5]
   exact aw.pure rfl
  ·rw [if_neg (by simpa using h5)]
   exact aw.pure rfl
theorem pW (K:Dk) (hB:IL K) (site fr to rel:Int):PC prog ry [bP K,.int .i64 site,.int .i64 fr,.int .i64 to,.int .i64 rel] (.tuple [bP (bU K site fr to rel).1,.int .i64 (bU K site fr to rel).2.1,.int .i64 (bU K site fr to rel).2.2]):=by
 refine ae rF (by simp) ?_
 simp only [jZ]
 have hKp:=eC K
 have bad:∀ {σ:St} (e:Int),bU K site fr to rel=(uO,0,e)→aw σ (.tuple [.agg [.nil,.int .i64 0,.nil],.int .i64 0,.int .i64 e]) (.tuple [bP (bU K site fr to rel).1,.int .i64 (bU K site fr to rel).2.1,.int .i64 (bU K site fr to rel).2.2]):=fun e h=>by
  rw [h]; exact aw.tu (.cons eW (.cons (aw.e rfl) (.cons (aw.e rfl) .nil)))
 try simp (disch:=omega) only [go_sem,jF,jG,jH,↓reduceIte,reduceCtorEq,dv,dF,iC]
 refine ab (fj K hB) (by simp [hKp]) ?_
 cases hc:cn K
 ·try simp (disch:=omega) only [go_sem,jF,jG,jH,↓reduceIte]
  exact bad 50 (by rw [bU,if_pos hc])
 try simp (disch:=omega) only [go_sem,jF,↓reduceIte,reduceCtorEq]
 refine bH rfl (fun h2=>?_) (fun h2=>?_) <;> try simp (disch:=omega) only [go_sem,jF,jG,jH,↓reduceIte,reduceCtorEq]
 ·exact bad 40 (by rw [bU,if_neg (by simp [hc]),if_pos (by simp [ir]; intros; omega)])
 refine ah (fun h2'=>?_) (fun h2'=>?_) <;> try simp (disch:=omega) only [go_sem,jF,jG,jH,↓reduceIte,reduceCtorEq]
 ·exact bad 40 (by rw [bU,if_neg (by simp [hc]),if_pos (by simp [ir]; intros; omega)])
 have h2:ir site 0 5=true:=by simp [ir]; omega
 refine bH rfl (fun h3=>?_) (fun h3=>?_) <;> try simp (disch:=omega) only [go_sem,jF,jG,jH,↓reduceIte,reduceCtorEq]
 ·exact bad 6 (by rw [bU,if_neg (by simp [hc]),if_neg (by simp [h2]),if_pos (.inl h3)])
 refine bH rfl (fun h4=>?_) (fun h4=>?_) <;> try simp (disch:=omega) only [go_sem,jF,jG,jH,↓reduceIte,reduceCtorEq]
 ·exact bad 6 (by rw [bU,if_neg (by simp [hc]),if_neg (by simp [h2]),if_pos (.inr (.inl h4))])
 refine ah (fun h5=>?_) (fun h5=>?_) <;> try simp (disch:=omega) only [go_sem,jF,jG,jH,↓reduceIte,reduceCtorEq]
 ·exact bad 6 (by rw [bU,if_neg (by simp [hc]),if_neg (by simp [h2]),if_pos (.inr (.inr h5))])
 refine bH rfl (fun h6=>?_) (fun h6=>?_) <;> try simp (disch:=omega) only [go_sem,jF,jG,jH,↓reduceIte,reduceCtorEq]
 ·exact bad 1 (by rw [bU,if_neg (by simp [hc]),if_neg (by simp [h2]),if_neg (by omega),if_pos (by simp [ir]; intros; omega)])
 refine ah (fun h6'=>?_) (fun h6'=>?_) <;> try simp (disch:=omega) only [go_sem,jF,jG,jH,↓reduceIte,reduceCtorEq,Fv,aS]
 ·exact bad 1 (by rw [bU,if_neg (by simp [hc]),if_neg (by simp [h2]),if_neg (by omega),if_pos (by simp [ir]; intros; omega)])
 have h6:ir rel 0 1073741824=true:=by simp [ir]; omega
 refine bH rfl (fun h7=>?_) (fun h7=>?_) <;> try simp (disch:=omega) only [go_sem,jF,jG,jH,↓reduceIte,reduceCtorEq,HD]
 ·exact bad 10 (by rw [bU,if_neg (by simp [hc]),if_neg (by simp [h2]),if_neg (by omega),if_neg (by simp [h6]),if_pos (.inl (by omega))])
 refine ah (fun h8=>?_) (fun h8=>?_) <;> try simp (disch:=omega) only [go_sem,jF,jG,jH,↓reduceIte,reduceCtorEq]
 ·exact bad 10 (by rw [bU,if_neg (by simp [hc]),if_neg (by simp [h2]),if_neg (by omega),if_neg (by simp [h6]),if_pos (.inr h8)])
 try simp (disch:=omega) only [go_sem,iC]
 have hS:bU K site fr to rel=(⟨K.ps,K.nx+1,K.ds++[⟨K.nx,site,fr,to,rel,[],false⟩]⟩,K.nx,0):=by
  rw [bU,if_neg (by simp [hc]),if_neg (by simp [h2]),if_neg (by omega),if_neg (by simp [h6]),if_neg (by omega)]
 have hnx:=gh hc
 refine (fY _ K (by omega) (by omega) fun d hd=>by have:=gg hc hd; omega).mono ?_
 rintro r ⟨ob1,n1,c1⟩ ⟨XP,XA,Fs,l1,rfl,hl1,hl2,hP,hPl,hA,hI,hG,hfr⟩
 simp only at hl1 hl2 hPl hfr
 have u0:=hfr 0 (by omega)
 have u1:=hfr 1 (by omega)
 try simp (disch:=omega) only [go_sem,↓reduceIte,reduceCtorEq] at u0
 try simp (disch:=omega) only [go_sem,↓reduceIte] at u1
 have z0:¬0=n1:=by omega
 have z1:¬1=n1:=by omega
 try simp (disch:=omega) only [go_sem,jF,jG,jH,↓reduceIte,reduceCtorEq,u0,z0,hP.one,hA.one,HD]
 have hXl:(cD K.ds Fs).length≤64:=by simp [cD]; omega
 have hFl:Fs.length=K.ds.length:=by have:=hI.1; simpa [lH] using this
 refine bE (b:=72) (hA.move (by simp only; omega) fun i hi hh=>?_) (by omega) (by omega) fun X' τ2 hX2 kX=>?_
 ·simp only at hi ⊢
  rw [aa _ _ _ _ (by omega),aa _ _ _ _ (by omega)]
 obtain ⟨ob3,m3,c3⟩:=τ2
 have oX:∀ i,i<l1→aZ XA i:=fun i hi=>aZ.em fun h=>by have:=(hG.low i h).1; omega
 have oXm:aZ XA n1:=hA.H2 (Nat.le_refl _)
 have q0:=kX.2.1 0 (by simp only; omega) (oX 0 (by omega))
 have q1:=kX.2.1 1 (by simp only; omega) (oX 1 (by omega))
 have qm:=kX.2.1 n1 (by simp only; omega) oXm
 have q2:∀ i,2≤i→i<n1→aZ XA i→ob3 i=ob1 i:=fun i h2 hi ho=>(kX.2.1 i (by simp only; omega) ho).trans (by simp only; rw [aa _ _ _ _ (by omega),aa _ _ _ _ (by omega)])
 have hn3:n1+1≤m3:=kX.1
 try simp (disch:=omega) only [go_sem,↓reduceIte,u0,z0] at q0
 try simp (disch:=omega) only [go_sem,↓reduceIte,u1,z1] at q1
 try simp (disch:=omega) only [go_sem,↓reduceIte] at qm
 have y0:¬n1=0:=by omega
 have y1:¬n1=1:=by omega
 try simp (disch:=omega) only [go_sem,jF,jG,jH,↓reduceIte,reduceCtorEq,jO,q0,q1,qm,z0,z1,hP.one,hX2.flat,hX2.cells,hX2.one,HD]
 rw [hS]
 have oX2:∀ i,i<l1→aZ X' i:=fun i hi=>kX.2.2 i (by simp only; omega) (oX i hi)
 have oX2m:aZ X' n1:=kX.2.2 n1 (by simp only; omega) oXm
 have hX3:cw 7 HR ⟨ob3,m3,c3⟩ (cD (K.ds++[⟨K.nx,site,fr,to,rel,[],false⟩]) (Fs++[.nil])) X':=by rw [qY (by omega)]; exact hX2
 refine aw.tu (.cons (pM (hP.move (by simp only; omega) fun i hi hh=>?_) (hX3.move (Nat.le_refl _) fun i hi hh=>?_) ?_) (.cons (aw.e rfl) (.cons (aw.e rfl) .nil)))
 ·have h9:=hPl i hh
  simp only at hi ⊢
  rw [aa _ _ _ _ (by omega),aa _ _ _ _ (by omega),aa _ _ _ _ (by omega),q2 i h9.1 hi (oX i h9.2)]
 ·have h9:2≤i:=Nat.le_of_not_lt fun h=>hh (oX2 i (by omega))
  have h8:i≠n1:=fun e=>hh (e ▸ oX2m)
  simp only
  rw [aa _ _ _ _ (by omega),aa _ _ _ _ h8,aa _ _ _ _ h8]
 ·rw [show lH (K.ds++[⟨K.nx,site,fr,to,rel,[],false⟩])=lH K.ds++[ints []] by simp [lH]]
  refine IC.snoc (hI.move (by simp only; omega) fun E hE i hi hlt=>?_) cw.nil
  have h9:=(hG.Ff E hE i hi).1
  simp only at hlt ⊢
  rw [aa _ _ _ _ (by omega),aa _ _ _ _ (by omega),aa _ _ _ _ (by omega),q2 i (by omega) hlt (hG.sep E hE i hi)]
theorem pD (K:Dk) (hB:IL K) (id who code now:Int):PC prog qb [bP K,.int .i64 id,.int .i64 who,.int .i64 code,.int .i64 now] (.tuple [bP (ku K id who code now).1,.int .i64 (ku K id who code now).2]):=by
 have hKp:=eC K
 have hS0:ku K id who code now=if (bK K id who code now 2).2.2≠0 then (uO,(bK K id who code now 2).2.2) else (⟨K.ps,K.nx,K.ds.set (bK K id who code now 2).1.toNat { gD K.ds (bK K id who code now 2).1.toNat with wd:=true }⟩,0):=rfl
 refine ae qM (by simp) ?_
 simp only [je]
 try simp (disch:=omega) only [go_sem,jF,jG,jH,↓reduceIte,reduceCtorEq,dv,dF,iC]
 refine ab (l8 K hB id who code 2 now) (by simp [hKp,go_sem]) ?_
 have hok:=@rh K id who code now 2
 have hck:=@lF K id who code now 2
 generalize bK K id who code now 2=a at *
 obtain ⟨i,p,e⟩:=a
 simp only at hok hS0 hck
 try simp (disch:=omega) only [go_sem,jF,jG,jH,↓reduceIte,ri]
 refine aY (fun h1=>?_) (fun h1=>?_)
 ·try simp (disch:=omega) only [go_sem,jF,jG,jH,↓reduceIte]
  rw [hS0,if_pos h1]
  exact aw.tu (.cons eW (.cons (aw.e rfl) .nil))
 obtain rfl:e=0:=by simpa using h1
 rw [if_neg (by simp)] at hS0
 obtain ⟨j,rfl,hj⟩:=hok rfl
 have hc:=hck rfl
 have hnx:=gh hc
 rw [Int.toNat_natCast] at hS0
 have hg:=jv hj
 generalize gD K.ds j=d at *
 try simp (disch:=omega) only [go_sem,jF,jH,↓reduceIte,reduceCtorEq,iC]
 refine (fY _ K (by omega) (by omega) fun d hd=>by have:=gg hc hd; omega).mono ?_
 rintro r ⟨ob1,n1,c1⟩ ⟨XP,XA,Fs,l1,rfl,hl1,hl2,hP,hPl,hA,hI,hG,hfr⟩
 simp only at hl1 hl2 hPl hfr
 have u1:=hfr 1 (by omega)
 try simp (disch:=omega) only [go_sem,jF,↓reduceIte] at u1
 have hFl:Fs.length=K.ds.length:=by have:=hI.1; simpa [lH] using this
 have hFg:Fs[j]?=some Fs[j]:=List.getElem?_eq_getElem (by omega)
 generalize Fs[j]=E at *
 have hxg:=uL hg hFg
 have hXl:(cD K.ds Fs).length=K.ds.length:=by simp [cD]; omega
 rcases hA with ⟨_,h0⟩ | ⟨ia,ga,rfl,hia,hoa⟩
 ·rw [h0] at hXl; simp at hXl; omega
 simp only at hia hoa
 have hal:l1≤ia:=(hG.low ia fun h=>h _ _ _ _ rfl).1
 have z0:¬ia=n1:=by omega
 have z1:¬n1=ia:=by omega
 have z2:¬1=n1:=by omega
 have z3:¬1=ia:=by omega
 try simp (disch:=omega) only [go_sem,jF,jG,jH,↓reduceIte,u1,hP.one,hoa,hxg,hXl,z0,z1,z2,z3]
 refine ⟨by omega,by omega,?_⟩
 try simp (disch:=omega) only [go_sem,jA,jB,jC,jD,jE,jF,jG,jH,jI,jJ,↓reduceIte,reduceCtorEq,jO,jM,jN,jK,jL,u1,hP.flat,hP.cells,hP.one,hoa,hxg,hXl,z0,z1,z2,z3]
 rw [hS0]
 have hW:fI 6 (.bool true) (jd d E)=jd { d with wd:=true } E:=rfl
 have hD:(cD K.ds Fs).set j (jd { d with wd:=true } E)=cD (K.ds.set j { d with wd:=true }) Fs:=by
  rw [cD,tv jd,tH hFg]; rfl
 have hIn:lH (K.ds.set j { d with wd:=true })=lH K.ds:=by
  have h9:(lH K.ds)[j]?=some (ints d.sg):=by simp [lH,hg]
  rw [lH,List.map_set]
  exact tH h9
 have hlen:(cD (K.ds.set j { d with wd:=true }) Fs).length=K.ds.length:=by simp [cD]; omega
 rw [hW,hD]
 refine aw.tu (.cons (pM (Fs:=Fs) (hP.move (by simp only; omega) fun i hi hh=>?_) (.inr ⟨ia,ga,by rw [hlen],by simp only; omega,?_⟩) ?_) (.cons (aw.e rfl) .nil))
 ·have h9:=hPl i hh
  simp only at hi ⊢
  repeat rw [aa _ _ _ _ (by omega)]
 ·simp only
  rw [aa _ _ _ _ (by omega),az]
 ·rw [hIn]
  refine hI.move (by simp only; omega) fun F hF i hi hlt=>?_
  have h9:=(hG.Ff F hF i hi).1
  have h8:¬i=ia:=fun h=>aZ.ne (hG.sep F hF i hi) h.symm
  simp only at hlt ⊢
  rw [aa _ _ _ _ (by omega),aa _ _ _ _ h8]
  repeat rw [aa _ _ _ _ (by omega)]
theorem IZ {K:Dk} {who role:Int}:∀ {l:List Int},l.length≤1→who∈l→oi K who role l=46
 | [],_,h=>by simp at h
 | [s],_,h=>by simp at h; subst h; simp [oi]
 | _ :: _ :: _,h,_=>by simp at h
theorem ue (K:Dk) (hB:IL K) (id who code now:Int):PC prog wy [bP K,.int .i64 id,.int .i64 who,.int .i64 code,.int .i64 now] (.tuple [bP (ka K id who code now).1,.int .i64 (ka K id who code now).2]):=by
 have hKp:=eC K
 have hS0:ka K id who code now=if (bK K id who code now 1).2.2≠0 then (uO,(bK K id who code now 1).2.2) else
  if (gD K.ds (bK K id who code now 1).1.toNat).sg.length=2 then (uO,46) else if oi K who (bK K id who code now 1).2.1.role (gD K.ds (bK K id who code now 1).1.toNat).sg≠0 then (uO,oi K who (bK K id who code now 1).2.1.role (gD K.ds (bK K id who code now 1).1.toNat).sg) else
  (⟨K.ps,K.nx,K.ds.set (bK K id who code now 1).1.toNat { gD K.ds (bK K id who code now 1).1.toNat with sg:=(gD K.ds (bK K id who code now 1).1.toNat).sg++[who] }⟩,0):=rfl
 refine ae xb (by simp) ?_
 simp only [nZ]
 try simp (disch:=omega) only [go_sem,jF,jG,jH,↓reduceIte,reduceCtorEq,dv,dF,iC]
 refine ab (l8 K hB id who code 1 now) (by simp [hKp,go_sem]) ?_
 have hok:=@rh K id who code now 1
 have hck:=@lF K id who code now 1
 generalize bK K id who code now 1=a at *
 obtain ⟨i,p,e⟩:=a
 simp only at hok hS0 hck
 try simp (disch:=omega) only [go_sem,jF,jG,jH,↓reduceIte,ri]
 refine aY (fun h1=>?_) (fun h1=>?_)
 ·try simp (disch:=omega) only [go_sem,jF,jG,jH,↓reduceIte]
  rw [hS0,if_pos h1]
  exact aw.tu (.cons eW (.cons (aw.e rfl) .nil))
 obtain rfl:e=0:=by simpa using h1
 rw [if_neg (by simp)] at hS0
 obtain ⟨j,rfl,hj⟩:=hok rfl
 have hc:=hck rfl
 have hnx:=gh hc
 have hasc:=FE hc
 rw [Int.toNat_natCast] at hS0
 have hg:=jv hj
 have hgk:=gg hc (List.mem_of_getElem? hg)
 generalize gD K.ds j=d at *
 have dv5:(gH d).cells.getD 5 .bF=.list 1 (ints d.sg):=rfl
 try simp (disch:=omega) only [go_sem,jF,jG,jH,↓reduceIte,reduceCtorEq,Fv,aS,dU,hg,Option.map_some,dv5,au]
 refine ⟨by omega,by omega,?_⟩
 refine bH rfl (fun h2=>?_) (fun h2=>?_) <;> try simp (disch:=omega) only [go_sem,jF,jG,jH,↓reduceIte,reduceCtorEq]
 ·rw [hS0,if_pos (by omega)]
  exact aw.tu (.cons eW (.cons (aw.e rfl) .nil))
 rw [if_neg (by omega)] at hS0
 refine ab (mN d.sg who (by omega)) (by simp [go_sem]) ?_
 try simp (disch:=omega) only [go_sem,jF,↓reduceIte]
 refine ah (fun h3=>?_) (fun h3=>?_) <;> try simp (disch:=omega) only [go_sem,jF,jG,jH,↓reduceIte,au]
 ·have hs:=IZ (K:=K) (role:=p.role) (by omega) h3
  rw [hS0,if_pos (by rw [hs]; omega),hs]
  exact aw.tu (.cons eW (.cons (aw.e rfl) .nil))
 refine aT [11,17,18,19,52,53,54,55,56,57,58,59,60,61,62,63,64,65,66,67,68,69] (by kernel_rfl) d.sg.length (fun i e σ=>e 52=.int .i64 i∧σ.ob 0=some ⟨0,3,44,false,true,[bP K]⟩∧σ.ob 1=some ⟨1,3,44,false,true,[.agg [.nil,.int .i64 0,.nil]]⟩∧σ.ob 2=some ⟨2,3,131,false,true,[.agg [.int .i64 p.id,.int .i64 p.role,.int .i64 p.key]]⟩∧oi K who p.role d.sg=oi K who p.role (d.sg.drop i)) ?_ ?_
 ·exact ⟨(by first | rfl | (simp (disch:=omega) only [go_sem,jA,jB,jC,jD,jE,jF,jG,jH,jI,jJ,↓reduceIte,reduceCtorEq,jP,jO,jM,jN]; try rfl)),by try simp (disch:=omega) only [go_sem,↓reduceIte,reduceCtorEq],by try simp (disch:=omega) only [go_sem,jF,↓reduceIte],by try simp (disch:=omega) only [go_sem,↓reduceIte],rfl⟩
 rintro i fe ob m c hi hm ⟨h52,v0,v1,v2,hsg⟩
 simp (maxSteps:=1000000) only [go_sem,jF,↓reduceIte] at h52 hm v0 v1 v2
 try simp (disch:=omega) only [go_sem,jF,↓reduceIte,h52]
 refine ah (fun hlt=>?_) (fun hge=>?_)
 ·have hil:i<d.sg.length:=by omega
  rw [List.drop_eq_getElem_cons hil,oi] at hsg
  have hgi:=bA d.sg i
  rw [List.getElem?_eq_getElem hil] at hgi
  have hmem:=List.getElem_mem hil
  have hF:=fN K d.sg[i] (by omega) hasc
  generalize d.sg[i]=s at *
  rw [if_neg (fun e:s=who=>h3 (by rw [←e]; exact hmem))] at hsg
  have z4:¬0=m:=by omega
  have z5:¬1=m:=by omega
  have z6:¬2=m:=by omega
  try simp (disch:=omega) only [go_sem,jF,jH,↓reduceIte,hgi,Option.map_some,au,v0,J3]
  refine ⟨by omega,by omega,?_⟩
  refine ab hF (by simp [go_sem]) ?_
  try simp (disch:=omega) only [go_sem,jF,jG,jH,↓reduceIte,ri,v2,z6]
  refine ah (fun h4=>?_) (fun h4=>?_)
  ·try simp (disch:=omega) only [go_sem,jF,jG,jH,↓reduceIte,v1,z5]
   rw [if_pos h4] at hsg
   rw [hS0,if_pos (by rw [hsg]; omega),hsg]
   exact aw.tu (.cons eW (.cons (aw.e rfl) .nil))
  rw [if_neg h4] at hsg
  try simp (disch:=omega) only [go_sem,jF,↓reduceIte,jO]
  refine aD m hil (by omega) ⟨(by first | rfl | (simp (disch:=omega) only [go_sem,jA,jB,jC,jD,jE,jF,jG,jH,jI,jJ,↓reduceIte,reduceCtorEq,jP,jO,jM,jN]; try rfl)),?_,?_,?_,hsg⟩
  all_goals (simp only [St.aE]; rw [if_pos (by omega),aa _ _ _ _ (by omega),aa _ _ _ _ (by omega)]; first | exact v0 | exact v1 | exact v2)
 obtain rfl:i=d.sg.length:=by omega
 rw [List.drop_length,oi] at hsg
 rw [if_neg (by simp [hsg])] at hS0
 try simp (disch:=omega) only [go_sem,jF,jH,↓reduceIte,v0,iC]
 refine (fY _ K (by omega) (by omega) fun d hd=>by have:=gg hc hd; omega).mono ?_
 rintro r ⟨ob1,n1,c1⟩ ⟨XP,XA,Fs,l1,rfl,hl1,hl2,hP,hPl,hA,hI,hG,hfr⟩
 simp only at hl1 hl2 hPl hfr
 have u1:=(hfr 1 (by omega)).trans v1
 have hFl:Fs.length=K.ds.length:=by have:=hI.1; simpa [lH] using this
 have hjF:j<Fs.length:=by omega
 have hFg:Fs[j]?=some Fs[j]:=List.getElem?_eq_getElem hjF
 generalize hEE:Fs[j]=E at *
 have hxg:=uL hg hFg
 have hXl:(cD K.ds Fs).length=K.ds.length:=by simp [cD]; omega
 rcases hA with ⟨_,h0⟩ | ⟨ia,ga,rfl,hia,hoa⟩
 ·rw [h0] at hXl; simp at hXl; omega
 simp only at hia hoa
 have hal:l1≤ia:=(hG.low ia fun h=>h _ _ _ _ rfl).1
 have hEs:=hI.2 j E (ints d.sg) hFg (by simp [lH,hg])
 have z0:¬ia=n1:=by omega
 have z1:¬n1=ia:=by omega
 have z2:¬1=n1:=by omega
 have z3:¬1=ia:=by omega
 have d5:∀ d E,(jd d E).cells.getD 5 .bF=E:=fun _ _=>rfl
 have hEo:∀ i,¬aZ E i→l1≤i∧i<n1:=fun i hi=>hG.Ff E (List.mem_of_getElem? hFg) i hi
 have hEa:aZ E ia:=aZ.em fun h=>aZ.ne (hG.sep E (List.mem_of_getElem? hFg) ia h) rfl
 try simp (disch:=omega) only [go_sem,jF,jG,jH,↓reduceIte,reduceCtorEq,hP.one,hoa,hxg,hXl,z0,d5]
 refine ⟨by omega,by omega,?_⟩
 try simp (disch:=omega) only [go_sem,jA,jB,jC,jD,jE,jF,jG,jH,jI,jJ,↓reduceIte,reduceCtorEq,jO,jM,jN,jK,jL,u1,hP.flat,hP.cells,hP.one,hoa,hxg,hXl,z0,z1,z2,z3,d5]
 have oE:∀ i,i<l1→aZ E i:=fun i hi=>aZ.em fun h=>by have:=(hEo i h).1; omega
 have oEn:aZ E n1:=hEs.H2 (Nat.le_refl _)
 refine bE (b:=8) (hEs.move (by simp only; omega) fun i hi hh=>?_) (by rw [au]; omega) (by rw [au]; omega) fun E' τ5 hE5 k5=>?_
 ·simp only at hi ⊢
  rw [aa _ _ _ _ (by omega),aa _ _ _ _ (by omega)]
 obtain ⟨ob5,m5,c5⟩:=τ5
 have hm5:n1+1≤m5:=k5.1
 have q5:∀ i,i<n1→aZ E i→ob5 i=ob1 i:=fun i hi ho=>(k5.2.1 i (by simp only; omega) ho).trans (by simp only; rw [aa _ _ _ _ (by omega),aa _ _ _ _ (by omega)])
 have w1:=(q5 1 (by omega) (oE 1 (by omega))).trans u1
 have wa:=(q5 ia (by omega) hEa).trans hoa
 have wn:=k5.2.1 n1 (by simp only; omega) oEn
 try simp (disch:=omega) only [go_sem,↓reduceIte] at wn
 have p5:∀ y,fI 5 E' (jd d y)=jd { d with sg:=d.sg++[who] } E':=fun y=>by
  rcases hE5 with ⟨rfl,_⟩ | ⟨_,_,rfl,_⟩ <;> rfl
 have z6:¬n1=1:=by omega
 have z7:¬ia=1:=by omega
 try simp (disch:=omega) only [go_sem,jF,jG,jH,↓reduceIte,reduceCtorEq,wa,wn,hoa,hxg,w1,z0,z1,z3,hE5.flat,hE5.cells,p5,hP.one]
 refine ⟨by omega,by omega,?_⟩
 rw [hS0]
 have hD:(cD K.ds Fs).set j (jd { d with sg:=d.sg++[who] } E')=cD (K.ds.set j { d with sg:=d.sg++[who] }) (Fs.set j E'):=tv jd _ _ _ _ _
 have hlen:(cD (K.ds.set j { d with sg:=d.sg++[who] }) (Fs.set j E')).length=K.ds.length:=by simp [cD]; omega
 rw [hD]
 have oE5:∀ i,i<n1→aZ E i→aZ E' i:=fun i hi ho=>k5.2.2 i (by simp only; omega) ho
 have fz:∀ (x y:Option aV) i,i≠ia→i≠1→bd (bd ob5 ia x) 1 y i=ob5 i:=fun x y i h1 h2=>by rw [aa _ _ _ _ h2,aa _ _ _ _ h1]
 refine aw.tu (.cons (pM (Fs:=Fs.set j E') (hP.move (by simp only; omega) fun i hi hh=>?_) (.inr ⟨ia,ga,by rw [hlen],by simp only; omega,?_⟩) ?_) (.cons (aw.e rfl) .nil))
 ·have h9:=hPl i hh
  simp only at hi ⊢
  rw [fz _ _ i (by omega) (by omega),q5 i (by omega) (oE i h9.2)]
 ·simp only
  rw [aa _ _ _ _ (by omega),az]
 ·rw [show lH (K.ds.set j { d with sg:=d.sg++[who] })=(lH K.ds).set j (ints (d.sg++[who])) by simp [lH,List.map_set]]
  have happ:ints (d.sg++[who])=ints d.sg++[.int .i64 who]:=by simp [ints]
  refine hI.set ?_ fun i F L hne hF hL=>?_
  ·rw [happ]
   refine hE5.move (Nat.le_refl _) fun i hi hh=>?_
   have hx1:¬i=ia:=fun h=>hh (h ▸ oE5 ia (by omega) hEa)
   have hx2:¬i=1:=fun h=>hh (h ▸ oE5 1 (by omega) (oE 1 (by omega)))
   simp only
   rw [fz _ _ i hx1 hx2]
  ·refine (hI.2 i F L hF hL).move (by simp only; omega) fun q hq hh=>?_
   simp only at hq
   have h9:=(hG.Ff F (List.mem_of_getElem? hF) q hh).1
   have hx1:¬q=ia:=fun h=>aZ.ne (hG.sep F (List.mem_of_getElem? hF) q hh) h.symm
   have hx3:=hG.dj i j F E hne hF hFg q hh
   simp only
   rw [fz _ _ q hx1 (by omega),q5 q (by omega) hx3]
theorem Jj (a b:Pn):(decide (a.id=b.id)&&(decide (a.role=b.role)&&decide (a.key=b.key)))=decide (a=b):=by
 obtain ⟨x,y,z⟩:=a
 obtain ⟨x',y',z'⟩:=b
 rw [Bool.eq_iff_iff]
 simp
theorem np (a b:List Pn) (ha:a.length≤9223372036854775807):PC prog oB [.list 3 (pN a),.list 3 (pN b)] (.bool (decide (a=b))):=by
 refine ae oN (by simp) ?_
 simp only [gl,go_sem,jF,↓reduceIte,reduceCtorEq,aX]
 refine aY (fun h=>?_) (fun h=>?_) <;> try simp (disch:=omega) only [go_sem,↓reduceIte,reduceCtorEq]
 ·exact aw.of_eq (by congr 1; simp; intro hab; exact h (by rw [hab])) rfl
 have hl:a.length=b.length:=by omega
 refine bq [4,5,13,14,15,16,17,18,19,20,21,22,23,24,25] (by kernel_rfl) a.length (fun k e _=>e 13=.int .i64 k∧∀ j,j<k→a[j]?=b[j]?) ?_ ?_
 ·exact ⟨(by first | rfl | (simp (disch:=omega) only [go_sem,jA,jB,jC,jD,jE,jF,jG,jH,jI,jJ,↓reduceIte,reduceCtorEq,jP,jO,jM,jN]; try rfl)),fun j hj=>by omega⟩
 ·rintro k fe ob c hk ⟨h13,hj⟩
  simp (maxSteps:=1000000) only [go_sem,jF,↓reduceIte] at h13
  try simp (disch:=omega) only [go_sem,jF,↓reduceIte,h13,aX]
  refine ah (fun hlt=>?_) (fun hge=>?_)
  ·have hka:k<a.length:=by omega
   have hga:a[k]?=some a[k]:=List.getElem?_eq_getElem hka
   have hgb:b[k]?=some b[k]:=List.getElem?_eq_getElem (by omega)
   have hE:=Jj a[k] b[k]
   generalize a[k]=x at *
   generalize b[k]=y at *
   try simp (disch:=omega) only [go_sem,jF,jH,↓reduceIte,reduceCtorEq,aX,iJ,hga,hgb,Option.map_some,ri]
   refine ⟨by omega,by omega,by omega,by omega,?_⟩
   rw [hE]
   by_cases hxy:x=y
   ·subst hxy
    try simp (disch:=omega) only [go_sem,jF,↓reduceIte,jO,decide_true,Bool.not_true]
    refine bj hka ⟨(by first | rfl | (simp (disch:=omega) only [go_sem,jA,jB,jC,jD,jE,jF,jG,jH,jI,jJ,↓reduceIte,reduceCtorEq,jP,jO,jM,jN]; try rfl)),fun j hj'=>?_⟩
    by_cases e:j=k
    ·subst e; rw [hga,hgb]
    ·exact hj j (by omega)
   ·try simp (disch:=omega) only [go_sem,↓reduceIte,decide_false,Bool.not_false,hxy]
    exact aw.of_eq (by congr 1; simp; intro hab; subst hab; rw [hga] at hgb; exact hxy (Option.some.inj hgb)) rfl
  ·try simp (disch:=omega) only [go_sem,↓reduceIte]
   exact aw.of_eq (by congr 1; simp; exact bW hl fun j hj'=>hj j (by omega)) rfl
theorem uc (a b:Dv) (ha:a.sg.length≤9223372036854775807):PC prog nA [gH a,gH b] (.bool (decide (a=b))):=by
 have no:∀ {σ:St},¬a=b→aw σ (.bool false) (.bool (decide (a=b))):=fun h=>by rw [decide_eq_false h]; exact aw.pure rfl
 refine ae w7 (by simp) ?_
 simp only [nW,gH,jd]
 try simp (disch:=omega) only [go_sem,jF,jG,jH,↓reduceIte,reduceCtorEq]
 refine bB rfl (fun g1=>?_) (fun g1=>?_) <;> try simp (disch:=omega) only [go_sem,jF,jG,jH,↓reduceIte,reduceCtorEq]
 case refine_2=>exact no fun e=>g1 (by rw [e])
 refine bB rfl (fun g2=>?_) (fun g2=>?_) <;> try simp (disch:=omega) only [go_sem,jF,jG,jH,↓reduceIte,reduceCtorEq]
 case refine_2=>exact no fun e=>g2 (by rw [e])
 refine bB rfl (fun g3=>?_) (fun g3=>?_) <;> try simp (disch:=omega) only [go_sem,jF,jG,jH,↓reduceIte,reduceCtorEq]
 case refine_2=>exact no fun e=>g3 (by rw [e])
 refine bB rfl (fun g4=>?_) (fun g4=>?_) <;> try simp (disch:=omega) only [go_sem,jF,jG,jH,↓reduceIte,reduceCtorEq]
 case refine_2=>exact no fun e=>g4 (by rw [e])
 refine bB rfl (fun g5=>?_) (fun g5=>?_) <;> try simp (disch:=omega) only [go_sem,jF,jG,jH,↓reduceIte,reduceCtorEq]
 case refine_2=>exact no fun e=>g5 (by rw [e])
 obtain ⟨a1,a2,a3,a4,a5,a6,a7⟩:=a
 obtain ⟨b1,b2,b3,b4,b5,b6,b7⟩:=b
 simp only at g1 g2 g3 g4 g5 ha no ⊢
 subst g1 g2 g3 g4 g5
 have hq:=iS a6 b6 ha
 have key:decide ((⟨a1,a2,a3,a4,a5,a6,a7⟩:Dv)=⟨a1,a2,a3,a4,a5,b6,b7⟩)=(decide (a7=b7)&&decide (a6=b6)):=by
  rw [Bool.eq_iff_iff]; simp [and_comm]
 rw [key]
 by_cases h7:a7=b7
 ·subst h7
  have e7:(a7 == a7)=true:=by simp
  try simp (disch:=omega) only [go_sem,jF,jG,jH,↓reduceIte,reduceCtorEq,decide_true]
  refine ab hq (by simp [go_sem]) ?_
  try simp (disch:=omega) only [go_sem,jF,↓reduceIte]
  exact aw.of_eq (by simp) rfl
 ·have e7:(a7 == b7)=false:=by simp [h7]
  try simp (disch:=omega) only [go_sem,jF,↓reduceIte,h7,decide_false]
  exact aw.of_eq (by simp) rfl
theorem ic (a b:List Dv) (ha:a.length≤9223372036854775807) (hA:∀ x∈a,x.sg.length≤9223372036854775807) :
  PC prog iX [.list 7 (yn a),.list 7 (yn b),.func nA []] (.bool (decide (a=b))):=by
 refine ae jg (by simp) ?_
 simp only [dB,go_sem,jF,↓reduceIte,reduceCtorEq,aS]
 refine aY (fun h=>?_) (fun h=>?_) <;> try simp (disch:=omega) only [go_sem,↓reduceIte,reduceCtorEq]
 ·exact aw.of_eq (by congr 1; simp; intro hab; exact h (by rw [hab])) rfl
 have hl:a.length=b.length:=by omega
 refine aT [6,7,8,9,17,18,19,20,21,22,23,24,25,26,27,28,29,30,31] (by kernel_rfl) a.length (fun k e _=>e 17=.int .i64 k∧∀ j,j<k→a[j]?=b[j]?) ?_ ?_
 ·exact ⟨(by first | rfl | (simp (disch:=omega) only [go_sem,jA,jB,jC,jD,jE,jF,jG,jH,jI,jJ,↓reduceIte,reduceCtorEq,jP,jO,jM,jN]; try rfl)),fun j hj=>by omega⟩
 ·rintro k fe ob m c hk hm ⟨h17,hj⟩
  simp (maxSteps:=1000000) only [go_sem,jF,↓reduceIte] at h17 hm
  try simp (disch:=omega) only [go_sem,jF,↓reduceIte,h17,aS]
  refine ah (fun hlt=>?_) (fun hge=>?_)
  ·have hka:k<a.length:=by omega
   have hga:a[k]?=some a[k]:=List.getElem?_eq_getElem hka
   have hgb:b[k]?=some b[k]:=List.getElem?_eq_getElem (by omega)
   have hS:=uc a[k] b[k] (hA _ (List.getElem_mem hka))
   generalize a[k]=x at *
   generalize b[k]=y at *
   simp only [gH,jd] at hS
   try simp (disch:=omega) only [go_sem,jF,jG,jH,↓reduceIte,reduceCtorEq,jM,aS,dU,hga,hgb,Option.map_some,gH,jd]
   refine ⟨by omega,by omega,by omega,by omega,?_⟩
   refine ab hS (by simp [go_sem]) ?_
   by_cases hq:x=y
   ·subst hq
    try simp (disch:=omega) only [go_sem,jF,↓reduceIte,jO,decide_true]
    refine aD m hka (by omega) ⟨(by first | rfl | (simp (disch:=omega) only [go_sem,jA,jB,jC,jD,jE,jF,jG,jH,jI,jJ,↓reduceIte,reduceCtorEq,jP,jO,jM,jN]; try rfl)),fun j hj'=>?_⟩
    by_cases e:j=k
    ·subst e; rw [hga,hgb]
    ·exact hj j (by omega)
   ·try simp (disch:=omega) only [go_sem,↓reduceIte,hq,decide_false]
    exact aw.of_eq (by congr 1; simp; intro hab; subst hab; rw [hga] at hgb; exact hq (Option.some.inj hgb)) rfl
  ·try simp (disch:=omega) only [go_sem,↓reduceIte]
   exact aw.of_eq (by congr 1; simp; exact bW hl fun j hj'=>hj j (by omega)) rfl
structure T1 (K:Dk):Prop where
 s:IL K
 sg:∀ d∈K.ds,d.sg.length≤9223372036854775807
theorem uf (a b:Dk) (hL:T1 a):PC prog wz [bP a,bP b] (.bool (decide (a=b))):=by
 have h1:=hL.s.lp
 have h2:=hL.s.ld
 have h3:=hL.sg
 obtain ⟨p,n,l⟩:=a
 obtain ⟨p',n',l'⟩:=b
 simp only at h1 h2 h3
 have key:decide ((⟨p,n,l⟩:Dk)=⟨p',n',l'⟩)=(decide (n=n')&&(decide (p=p')&&decide (l=l'))):=by
  rw [Bool.eq_iff_iff]; simp [and_left_comm]
 rw [key]
 refine ae xc (by simp) ?_
 simp only [n4,bP]
 try simp (disch:=omega) only [go_sem,jF,jG,jH,↓reduceIte,reduceCtorEq]
 refine bB rfl (fun g1=>?_) (fun g1=>?_) <;> try simp (disch:=omega) only [go_sem,jF,jH,↓reduceIte,reduceCtorEq]
 case refine_2=>exact aw.of_eq (by simp [g1]) rfl
 refine ab (np p p' (by omega)) (by simp [go_sem]) ?_
 by_cases g2:p=p'
 ·try simp (disch:=omega) only [go_sem,jF,jG,jH,↓reduceIte,reduceCtorEq,g2,decide_true]
  refine ab (ic l l' (by omega) h3) (by simp [go_sem]) ?_
  try simp (disch:=omega) only [go_sem,jF,↓reduceIte]
  exact aw.of_eq (by simp [g1]) rfl
 ·try simp (disch:=omega) only [go_sem,jF,↓reduceIte,g2,decide_false]
  exact aw.of_eq (by simp [g2]) rfl
theorem ow (a b:Dv) (ha:a.sg.length≤9223372036854775807):PC prog pG [gH a,gH b] (.bool (decide (a=b))):=by
 have no:∀ {σ:St},¬a=b→aw σ (.bool false) (.bool (decide (a=b))):=fun h=>by rw [decide_eq_false h]; exact aw.pure rfl
 refine ae pI (by simp) ?_
 simp only [gV,gH,jd]
 try simp (disch:=omega) only [go_sem,jF,jG,jH,↓reduceIte,reduceCtorEq]
 refine iZ rfl (fun g1=>?_) (fun g1=>?_) <;> try simp (disch:=omega) only [go_sem,jF,jG,jH,↓reduceIte,reduceCtorEq]
 ·exact no fun e=>g1 (by rw [e])
 refine iZ rfl (fun g2=>?_) (fun g2=>?_) <;> try simp (disch:=omega) only [go_sem,jF,jG,jH,↓reduceIte,reduceCtorEq]
 ·exact no fun e=>g2 (by rw [e])
 refine iZ rfl (fun g3=>?_) (fun g3=>?_) <;> try simp (disch:=omega) only [go_sem,jF,jG,jH,↓reduceIte,reduceCtorEq]
 ·exact no fun e=>g3 (by rw [e])
 refine iZ rfl (fun g4=>?_) (fun g4=>?_) <;> try simp (disch:=omega) only [go_sem,jF,jG,jH,↓reduceIte,reduceCtorEq]
 ·exact no fun e=>g4 (by rw [e])
 refine iZ rfl (fun g5=>?_) (fun g5=>?_) <;> try simp (disch:=omega) only [go_sem,jF,jG,jH,↓reduceIte,reduceCtorEq]
 ·exact no fun e=>g5 (by rw [e])
 refine iZ rfl (fun g7=>?_) (fun g7=>?_) <;> try simp (disch:=omega) only [go_sem,jF,jG,jH,↓reduceIte,reduceCtorEq,au]
 ·exact no fun e=>g7 (by rw [e])
 refine aY (fun g6=>?_) (fun g6=>?_) <;> try simp (disch:=omega) only [go_sem,jF,jG,jH,↓reduceIte,reduceCtorEq,au]
 ·exact no fun e=>g6 (by rw [e])
 have hab:∀ (h:a.sg=b.sg),a=b:=fun h=>by
  obtain ⟨a1,a2,a3,a4,a5,a6,a7⟩:=a
  obtain ⟨b1,b2,b3,b4,b5,b6,b7⟩:=b
  simp only at g1 g2 g3 g4 g5 g7 h
  subst g1 g2 g3 g4 g5 g7 h
  rfl
 have hl:a.sg.length=b.sg.length:=by omega
 refine aT [4,5,58,59,60,61,62,63,64,65,66,67,68,69,70,71,72] (by kernel_rfl) a.sg.length (fun k e σ=>e 58=.int .i64 k∧σ.ob 0=some ⟨0,7,28,false,true,[gH a]⟩∧σ.ob 1=some ⟨1,7,28,false,true,[gH b]⟩∧∀ j,j<k→a.sg[j]?=b.sg[j]?) ?_ ?_
 ·exact ⟨(by first | rfl | (simp (disch:=omega) only [go_sem,jA,jB,jC,jD,jE,jF,jG,jH,jI,jJ,↓reduceIte,reduceCtorEq,jP,jO,jM,jN]; try rfl)),by try simp (disch:=omega) only [go_sem,↓reduceIte,reduceCtorEq]; rfl,by try simp (disch:=omega) only [go_sem,↓reduceIte]; rfl,fun j hj=>by omega⟩
 rintro k fe ob m c hk hm ⟨h58,v0,v1,hj⟩
 simp (maxSteps:=1000000) only [go_sem,jF,↓reduceIte] at h58 v0 v1 hm
 simp only [gH,jd] at v0 v1
 try simp (disch:=omega) only [go_sem,jF,↓reduceIte,h58]
 refine ah (fun hlt=>?_) (fun hge=>?_)
 ·have hka:k<a.sg.length:=by omega
  have hga:a.sg[k]?=some a.sg[k]:=List.getElem?_eq_getElem hka
  have hgb:b.sg[k]?=some b.sg[k]:=List.getElem?_eq_getElem (by omega)
  generalize a.sg[k]=x at *
  generalize b.sg[k]=y at *
  try simp (disch:=omega) only [go_sem,jF,jG,jH,↓reduceIte,v0,v1,bA,au,hga,hgb,Option.map_some]
  refine ⟨by omega,by omega,by omega,by omega,?_⟩
  refine aY (fun hq=>?_) (fun hq=>?_) <;> try simp (disch:=omega) only [go_sem,jF,↓reduceIte,jO]
  ·exact no fun e=>by subst e; rw [hga] at hgb; exact hq (Option.some.inj hgb)
  ·subst hq
   refine aD m hka (by omega) ⟨(by first | rfl | (simp (disch:=omega) only [go_sem,jA,jB,jC,jD,jE,jF,jG,jH,jI,jJ,↓reduceIte,reduceCtorEq,jP,jO,jM,jN]; try rfl)),?_,?_,fun j hj'=>?_⟩
   ·simp only [St.aE]; rw [if_pos (by omega)]; exact v0
   ·simp only [St.aE]; rw [if_pos (by omega)]; exact v1
   ·by_cases e:j=k
    ·subst e; rw [hga,hgb]
    ·exact hj j (by omega)
 ·try simp (disch:=omega) only [go_sem,↓reduceIte]
  rw [decide_eq_true (hab (bW hl fun j hj'=>hj j (by omega)))]
  exact aw.pure rfl
theorem Bp (a b:Dk) (hL:T1 a):PC prog DF [bP a,bP b] (.bool (decide (a=b))):=by
 have h1:=hL.s.lp
 have h2:=hL.s.ld
 have h3:=hL.sg
 have no:∀ {σ:St},¬a=b→aw σ (.bool false) (.bool (decide (a=b))):=fun h=>by rw [decide_eq_false h]; exact aw.pure rfl
 refine ae El (by simp) ?_
 simp only [vg,bP]
 try simp (disch:=omega) only [go_sem,jF,jG,jH,↓reduceIte,reduceCtorEq]
 refine iZ rfl (fun g1=>?_) (fun g1=>?_) <;> try simp (disch:=omega) only [go_sem,jF,jH,↓reduceIte,reduceCtorEq,aX]
 ·exact no fun e=>g1 (by rw [e])
 refine iZ rfl (fun g2=>?_) (fun g2=>?_) <;> try simp (disch:=omega) only [go_sem,jF,jG,jH,↓reduceIte,reduceCtorEq,aS]
 ·exact no fun e=>g2 (by rw [e])
 refine aY (fun g3=>?_) (fun g3=>?_) <;> try simp (disch:=omega) only [go_sem,jF,jH,↓reduceIte,reduceCtorEq,aX]
 ·exact no fun e=>g3 (by rw [e])
 have hl1:a.ps.length=b.ps.length:=by omega
 have hl2:a.ds.length=b.ds.length:=by omega
 refine aT [4,5,33,34,35,36,37,38,39,40,41,42,43,44,45,46,47] (by kernel_rfl) a.ps.length (fun k e σ=>e 33=.int .i64 k∧σ.ob 0=some ⟨0,3,44,false,true,[bP a]⟩∧σ.ob 1=some ⟨1,3,44,false,true,[bP b]⟩∧∀ j,j<k→a.ps[j]?=b.ps[j]?) ?_ ?_
 ·exact ⟨(by first | rfl | (simp (disch:=omega) only [go_sem,jA,jB,jC,jD,jE,jF,jG,jH,jI,jJ,↓reduceIte,reduceCtorEq,jP,jO,jM,jN]; try rfl)),by try simp (disch:=omega) only [go_sem,↓reduceIte,reduceCtorEq]; rfl,by try simp (disch:=omega) only [go_sem,↓reduceIte]; rfl,fun j hj=>by omega⟩
 rintro k fe ob m c hk hm ⟨h33,v0,v1,hj⟩
 simp (maxSteps:=1000000) only [go_sem,jF,↓reduceIte] at h33 v0 v1 hm
 simp only [bP] at v0 v1
 try simp (disch:=omega) only [go_sem,jF,↓reduceIte,h33]
 refine ah (fun hlt=>?_) (fun hge=>?_)
 ·have hka:k<a.ps.length:=by omega
  have hga:a.ps[k]?=some a.ps[k]:=List.getElem?_eq_getElem hka
  have hgb:b.ps[k]?=some b.ps[k]:=List.getElem?_eq_getElem (by omega)
  have hE:=Jj a.ps[k] b.ps[k]
  generalize a.ps[k]=x at *
  generalize b.ps[k]=y at *
  try simp (disch:=omega) only [go_sem,jF,jH,↓reduceIte,v0,v1,iJ,aX,hga,hgb,Option.map_some,ri]
  refine ⟨by omega,by omega,by omega,by omega,?_⟩
  rw [hE]
  by_cases hq:x=y
  ·subst hq
   try simp (disch:=omega) only [go_sem,jF,↓reduceIte,jO,decide_true,Bool.not_true]
   refine aD m hka (by omega) ⟨(by first | rfl | (simp (disch:=omega) only [go_sem,jA,jB,jC,jD,jE,jF,jG,jH,jI,jJ,↓reduceIte,reduceCtorEq,jP,jO,jM,jN]; try rfl)),?_,?_,fun j hj'=>?_⟩
   ·simp only [St.aE]; rw [if_pos (by omega)]; exact v0
   ·simp only [St.aE]; rw [if_pos (by omega)]; exact v1
   ·by_cases e:j=k
    ·subst e; rw [hga,hgb]
    ·exact hj j (by omega)
  ·try simp (disch:=omega) only [go_sem,↓reduceIte,decide_false,Bool.not_false,hq]
   exact no fun e=>by subst e; rw [hga] at hgb; exact hq (Option.some.inj hgb)
 have hps:=bW hl1 fun j hj'=>hj j (by omega)
 clear hge hj h33
 try simp (disch:=omega) only [go_sem,jF,jG,jH,↓reduceIte,v0,aS]
 refine aT [4,6,51,52,53,54,55,56,57,58,59,60,61,62,63,64,65,66] (by kernel_rfl) a.ds.length (fun k e σ=>e 51=.int .i64 k∧σ.ob 0=some ⟨0,3,44,false,true,[bP a]⟩∧σ.ob 1=some ⟨1,3,44,false,true,[bP b]⟩∧∀ j,j<k→a.ds[j]?=b.ds[j]?) ?_ ?_
 ·exact ⟨(by first | rfl | (simp (disch:=omega) only [go_sem,jA,jB,jC,jD,jE,jF,jG,jH,jI,jJ,↓reduceIte,reduceCtorEq,jP,jO,jM,jN]; try rfl)),v0,v1,fun j hj=>by omega⟩
 clear v0 v1
 rintro k2 fe2 ob2 m2 c2 hk2 hm2 ⟨h51,v0,v1,hj⟩
 simp (maxSteps:=1000000) only [go_sem,jF,↓reduceIte] at h51 v0 v1 hm2
 simp only [bP] at v0 v1
 try simp (disch:=omega) only [go_sem,jF,↓reduceIte,h51]
 refine ah (fun hlt=>?_) (fun hge=>?_)
 ·have hka:k2<a.ds.length:=by omega
  have hga:a.ds[k2]?=some a.ds[k2]:=List.getElem?_eq_getElem hka
  have hgb:b.ds[k2]?=some b.ds[k2]:=List.getElem?_eq_getElem (by omega)
  have hS:=ow a.ds[k2] b.ds[k2] (h3 _ (List.getElem_mem hka))
  generalize a.ds[k2]=x at *
  generalize b.ds[k2]=y at *
  simp only [gH,jd] at hS
  try simp (disch:=omega) only [go_sem,jF,jG,jH,↓reduceIte,v0,v1,dU,aS,hga,hgb,Option.map_some,gH,jd]
  refine ⟨by omega,by omega,by omega,by omega,?_⟩
  refine ab hS (by simp [go_sem]) ?_
  by_cases hq:x=y
  ·subst hq
   try simp (disch:=omega) only [go_sem,jF,↓reduceIte,jO,decide_true,Bool.not_true]
   refine aD m2 hka (by omega) ⟨(by first | rfl | (simp (disch:=omega) only [go_sem,jA,jB,jC,jD,jE,jF,jG,jH,jI,jJ,↓reduceIte,reduceCtorEq,jP,jO,jM,jN]; try rfl)),?_,?_,fun j hj'=>?_⟩
   ·simp only [St.aE]; rw [if_pos (by omega)]; exact v0
   ·simp only [St.aE]; rw [if_pos (by omega)]; exact v1
   ·by_cases e:j=k2
    ·subst e; rw [hga,hgb]
    ·exact hj j (by omega)
  ·try simp (disch:=omega) only [go_sem,↓reduceIte,decide_false,Bool.not_false,hq]
   exact no fun e=>by subst e; rw [hga] at hgb; exact hq (Option.some.inj hgb)
 ·have hds:=bW hl2 fun j hj'=>hj j (by omega)
  try simp (disch:=omega) only [go_sem,↓reduceIte]
  have:a=b:=by
   obtain ⟨p,n,l⟩:=a
   obtain ⟨p',n',l'⟩:=b
   simp only at hps hds g1
   subst hps hds g1
   rfl
  rw [decide_eq_true this]
  exact aw.pure rfl
structure Kt where
 B:Bk
 K:Dk
 s:Sd
def kv (k:Kt):AV:=A8 k.B k.K k.s
def UH:Sd:=⟨0,[]⟩
def kz:Kt:=⟨ED,uO,UH⟩
theorem js {σ:St}:aw σ (.agg [.nil,.nil,.nil,.int .i64 0,.nil,.int .i64 0,.nil]) (kv kz):=aw.ag (.cons (.nl 4) (.cons (.nl 6) (.cons (.nl 3) (.cons (aw.e rfl) (.cons (.nl 7) (.cons (aw.e rfl) (.cons (.nl 4) .nil)))))))
structure IK (k:Kt):Prop where
 b:lX k.B
 d:IL k.K
 s:k.s.l.length≤9223372036854775807
structure Gb (k:Kt):Prop where
 b:lX k.B
 d:cn k.K=true
 s:dh k.s=true
theorem Gb.S {k:Kt} (h:Gb k):IK k:=by
 have h1:=gh h.d
 have h2:=eZ h.s
 exact ⟨h.b,⟨by omega,by omega⟩,by omega⟩
structure RK (k:Kt):Prop where
 n:k.B.op.length≤9223372036854775807
 a:∀ x∈k.B.op,II x
 r:k.B.rp.length≤9223372036854775807
 d:T1 k.K
 s:k.s.l.length≤9223372036854775807
theorem Gb.L {k:Kt} (h:Gb k):RK k:=⟨by have:=h.b.n; omega,fun x hx=>(h.b.ao x hx).l,by have:=h.b.m; omega,⟨h.S.d,fun d hx=>by have:=gg h.d hx; omega⟩,h.S.s⟩
theorem TC:RK kz:=⟨by simp [kz,ED],fun x h=>by simp [kz,ED] at h,by simp [kz,ED],⟨⟨by simp [kz,uO],by simp [kz,uO]⟩,fun d h=>by simp [kz,uO] at h⟩,by simp [kz,UH]⟩
def kh (k:Kt):Int:=if cn k.K=true∧dh k.s=true then 0 else 50
theorem kg {k:Kt} (h:IK k):kh k=0↔Gb k:=by
 rw [kh]
 split
 ·rename_i h1; exact ⟨fun _=>⟨h.b,h1.1,h1.2⟩,fun _=>rfl⟩
 ·rename_i h1; exact ⟨fun h=>(by cases h),fun h=>absurd ⟨h.d,h.s⟩ h1⟩
def Jb (q:Rc):Rp:=⟨q.num,q.acc,q.vI,q.tm,⟨q.lo,q.hi⟩⟩
theorem Og {n:Int}:vB n=true↔0≤n∧n≤274877906944:=by simp [vB]
theorem Ja {q:Rc} (h:bg q=true) (hk:q.k=1):Pc (Jb q):=by
 simp only [bg,Bool.and_eq_true] at h
 have h2:=h.1.2
 simp only [ba,hk,aH,if_true,List.map_cons,List.map_nil,List.all_cons,List.all_nil,Bool.and_true,Bool.and_eq_true,cI,Og] at h2
 exact ⟨h2.1,h2.2.1,h2.2.2.1,h2.2.2.2.1,h2.2.2.2.2.1,h2.2.2.2.2.2⟩
theorem EH {q:Rc} (h:bg q=true):1≤q.k∧q.k≤6:=by
 simp only [bg,Bool.and_eq_true,decide_eq_true_eq] at h
 exact wc h.1.1
def lR (e:Int) (k:Kt):Kt × Int:=if e=0 then (k,0) else (kz,e)
def uM (k:Kt) (q:Rc):Kt × Int:=
 if kh k≠0 then (kz,kh k) else if bg q=false then (kz,49) else
 if q.k=1 then lR (ql k.B (Jb q)).2 ⟨(ql k.B (Jb q)).1,k.K,k.s⟩ else
 if q.k=2 then lR (bU k.K q.site q.fr q.to q.rel).2.2 ⟨k.B,(bU k.K q.site q.fr q.to q.rel).1,k.s⟩ else
 if q.k=3 then lR (ka k.K q.yT q.Be q.code q.time).2 ⟨k.B,(ka k.K q.yT q.Be q.code q.time).1,k.s⟩ else
 if q.k=4 then lR (ku k.K q.yT q.Be q.code q.time).2 ⟨k.B,(ku k.K q.yT q.Be q.code q.time).1,k.s⟩ else
 if q.k=5 then lR (cM k.s q.nj q.wb q.vR).2.2 ⟨k.B,k.K,(cM k.s q.nj q.wb q.vR).1⟩ else
 lR (dO k.s q.xM).2 ⟨k.B,k.K,(dO k.s q.xM).1⟩
def fq (k:Kt) (q:Rc):Kt:=if (uM k q).2=0 then (uM k q).1 else k
def jj (k:Kt) (s:ByteArray) (n:Int):Kt × Int × Int:=
 if kh k≠0 then (kz,0,kh k) else if n<0∨((cr s).1.length:Int)<n then (kz,0,1) else (((cr s).1.drop n.toNat).foldl fq k,((cr s).1.length:Int),0)
theorem wG {e:Int} {k:Kt}:(lR e k).2=e:=by
 rw [lR]; split
 ·rename_i h; exact h.symm
 ·rfl
theorem qW {e:Int} {k:Kt} (h:e=0):(lR e k).1=k:=by rw [lR,if_pos h]
theorem L5 {B:Bk} {r:Rp} (h:lX B) (hv:Pc r) (h0:(ql B r).2=0):lX (ql B r).1:=by
 rw [ql] at h0 ⊢
 split at h0
 ·rename_i h1; exact absurd h0 h1
 ·rename_i h1
  rw [if_neg h1]
  exact (Fl h (Gi h.ao hv (Decidable.byContradiction h1)) h0).1
theorem LX {s:Sd} {k i v:Int} (h:(cM s k i v).2.2=0):dh (cM s k i v).1=true:=by
 unfold cM at h ⊢
 by_cases h1:dh s=true
 rotate_left
 ·rw [if_neg h1] at h; cases h
 rw [if_pos h1] at h ⊢
 by_cases h2:dM k i v=0
 rotate_left
 ·rw [if_neg h2] at h; exact absurd h h2
 rw [if_pos h2] at h ⊢
 by_cases h3:s.l.length=64∨s.n=1073741824
 ·rw [if_pos h3] at h; cases h
 rw [if_neg h3]
 obtain ⟨q1,q2,q3,q4⟩:=eZ h1
 refine C7 (by simp only; omega) (by simp only; omega) (by simp; omega) ?_
 simp only [List.length_append,List.length_singleton]
 refine yH fun j o ho=>?_
 rcases Nat.lt_or_ge j s.l.length with hj | hj
 ·rw [List.getElem?_append_left hj] at ho
  have:=zj q4 j o ho
  exact ⟨this.1,by rw [this.2]; omega⟩
 ·rw [List.getElem?_append_right hj] at ho
  have hj2:=(List.getElem?_eq_some_iff.1 ho).1
  simp at hj2
  have:j-s.l.length=0:=by omega
  rw [this] at ho
  simp at ho
  subst ho
  exact ⟨Hn (by simp only; omega) (by simp only; omega) h2,by simp only; omega⟩
theorem Me {s:Sd} {n:Int} (h:(dO s n).2=0):dh (dO s n).1=true:=by
 unfold dO at h ⊢
 by_cases h1:dh s=true
 rotate_left
 ·rw [if_neg h1] at h; cases h
 rw [if_pos h1] at h ⊢
 by_cases h3:n<0∨s.n≤n
 ·rw [if_pos h3] at h; cases h
 rw [if_neg h3]
 obtain ⟨q1,q2,q3,q4⟩:=eZ h1
 refine C7 q1 q2 (Nat.le_trans (List.length_filter_le _ _) q3) ?_
 simp only
 rw [sN q4]
 refine yH fun j o ho=>?_
 have hj:=(List.getElem?_eq_some_iff.1 ho).1
 rw [List.length_drop] at hj
 rw [List.getElem?_drop] at ho
 have:=zj q4 _ o ho
 refine ⟨this.1,?_⟩
 rw [this.2,List.length_drop]
 omega
theorem J2 {k:Kt} (h:IK k) {q:Rc} (h0:(uM k q).2=0):Gb (uM k q).1:=by
 unfold uM at h0 ⊢
 by_cases c0:kh k≠0
 ·rw [if_pos c0] at h0; exact absurd h0 c0
 rw [if_neg c0] at h0 ⊢
 have hO:=(kg h).1 (Decidable.byContradiction c0)
 by_cases c1:bg q=false
 ·rw [if_pos c1] at h0; cases h0
 rw [if_neg c1] at h0 ⊢
 by_cases k1:q.k=1
 ·rw [if_pos k1,wG] at h0
  rw [if_pos k1,qW h0]
  exact ⟨L5 hO.b (Ja (by simpa using c1) k1) h0,hO.d,hO.s⟩
 rw [if_neg k1] at h0 ⊢
 by_cases k2:q.k=2
 ·rw [if_pos k2,wG] at h0
  rw [if_pos k2,qW h0]
  exact ⟨hO.b,(EV h0).1,hO.s⟩
 rw [if_neg k2] at h0 ⊢
 by_cases k3:q.k=3
 ·rw [if_pos k3,wG] at h0
  rw [if_pos k3,qW h0]
  exact ⟨hO.b,EN h0,hO.s⟩
 rw [if_neg k3] at h0 ⊢
 by_cases k4:q.k=4
 ·rw [if_pos k4,wG] at h0
  rw [if_pos k4,qW h0]
  exact ⟨hO.b,EF h0,hO.s⟩
 rw [if_neg k4] at h0 ⊢
 by_cases k5:q.k=5
 ·rw [if_pos k5,wG] at h0
  rw [if_pos k5,qW h0]
  exact ⟨hO.b,hO.d,LX h0⟩
 rw [if_neg k5,wG] at h0
 rw [if_neg k5,qW h0]
 exact ⟨hO.b,hO.d,Me h0⟩
theorem IW {k:Kt} (h:Gb k) (q:Rc):Gb (fq k q):=by
 rw [fq]; split
 ·rename_i h0; exact J2 h.S h0
 ·exact h
theorem uJ:∀ {l:List Rc} {k:Kt},Gb k→Gb (l.foldl fq k)
 | [],_,h=>h
 | q :: l,_,h=>uJ (l:=l) (IW h q)
theorem Mg {B:Bk} (h:lX B):B.rp.take (dg (ij B.rp) (1073741824+1))=B.rp:=by
 have:dg (ij B.rp) (1073741824+1)=B.rp.length:=AI _ _ _ (by simp) (fun j hj y hy=>by
  obtain ⟨q,hq,rfl⟩:=ep.1 hy
  have:=(h.ro q (List.mem_of_getElem? hq)).n2
  omega) (fun j hj y hy=>by
  obtain ⟨q,hq,rfl⟩:=ep.1 hy
  have:=(List.getElem?_eq_some_iff.1 hq).1
  omega)
 rw [this,List.take_length]
theorem fM (k:Kt) (h:IK k):PC prog wi [kv k] (.int .i64 (kh k)):=by
 obtain ⟨B,K,s⟩:=k
 have hB:=dQ B h.b
 have hD:=sR K h.d
 have hS:=jo s h.s
 have hE:kh ⟨B,K,s⟩=if cn K=true∧dh s=true then 0 else 50:=rfl
 rw [hE,kv,A8]
 simp only [jx,bP,mE] at hB hD hS
 refine ae wV (by simp) ?_
 simp only [nP,go_sem,jF,jG,jH,↓reduceIte]
 refine ab hB (by simp [go_sem]) ?_
 try simp (disch:=omega) only [go_sem,jF,jG,jH,↓reduceIte]
 refine ab hD (by simp [go_sem]) ?_
 rw [pa]
 cases cn K
 ·try simp (disch:=omega) only [go_sem,jA,jF,↓reduceIte,reduceCtorEq]
  exact aw.of_eq rfl rfl
 try simp (disch:=omega) only [go_sem,jF,jG,jH,↓reduceIte]
 refine ab hS (by simp [go_sem]) ?_
 cases dh s
 ·try simp (disch:=omega) only [go_sem,↓reduceIte,reduceCtorEq]
  exact aw.of_eq rfl rfl
 ·try simp (disch:=omega) only [go_sem,↓reduceIte]
  exact aw.of_eq rfl rfl
theorem nr (k:Kt) (h:Gb k):PC prog yc [kv k] (kv k):=by
 obtain ⟨B,K,s⟩:=k
 obtain ⟨d1,d2,d3,d4⟩:=gh h.d
 obtain ⟨s1,s2,s3,s4⟩:=eZ h.s
 have hU:=vU B h.b 1073741824 (by omega)
 rw [Mg h.b] at hU
 have hsg:∀ d∈K.ds,d.sg.length≤2:=fun d hd=>gg h.d hd
 simp only at d3 d4 s3
 rw [kv,A8]
 simp only [jx] at hU
 refine ae yA (by simp) ?_
 simp only [po,go_sem,jF,jG,jH,↓reduceIte,reduceCtorEq]
 try simp (disch:=omega) only [go_sem,jA,jB,jC,jD,jE,jF,jG,jH,jI,jJ,↓reduceIte,reduceCtorEq,jO,jM,jN,jK,jL]
 refine ab (mH (pN K.ps) (by rw [aX]; omega) (Di _) (Gn _)) (by simp [go_sem]) ?_
 try simp (disch:=omega) only [go_sem,jF,jG,jH,↓reduceIte,reduceCtorEq,aS]
 refine aT [5,19,20,21,22,23,24,25,26,27,28,29,30,31,32,33,34,35] (by kernel_rfl) K.ds.length (fun k e σ=>e 19=.int .i64 k∧σ.ob 0=some ⟨0,7,49,false,true,[.agg [.list 4 (lJ B.op),.list 6 (iH B.rp),.list 3 (pN K.ps),.int .i64 K.nx,.list 7 (yn K.ds),.int .i64 s.n,.list 4 (cK s.l)]]⟩∧
   σ.ob 1=some ⟨1,7,49,false,true,[.agg [.nil,.nil,.nil,.int .i64 0,.nil,.int .i64 0,.nil]]⟩∧
   ∃ X,σ.ob 2=some ⟨2,7,49,false,true,[.agg [.nil,.nil,.list 3 (pN K.ps),.int .i64 K.nx,X,.int .i64 0,.nil]]⟩∧cw 7 28 σ (yn (K.ds.take k)) X∧aZ X 0∧aZ X 1∧aZ X 2) ?_ ?_
 ·exact ⟨(by first | rfl | (simp (disch:=omega) only [go_sem,jA,jB,jC,jD,jE,jF,jG,jH,jI,jJ,↓reduceIte,reduceCtorEq,jP,jO,jM,jN]; try rfl)),by try simp (disch:=omega) only [go_sem,↓reduceIte,reduceCtorEq],by try simp (disch:=omega) only [go_sem,jF,↓reduceIte],.nil,by try simp (disch:=omega) only [go_sem,↓reduceIte],cw.nil,aZ.nil _,aZ.nil _,aZ.nil _⟩
 rintro k fe ob m c hk hm ⟨h19,u0,u1,X,u2,hR,o0,o1,o2⟩
 simp (maxSteps:=1000000) only [go_sem,jF,↓reduceIte] at h19 u0 u1 u2 hR hm
 try simp (disch:=omega) only [go_sem,jF,↓reduceIte,h19]
 refine ah (fun hlt=>?_) (fun hge=>?_)
 ·have hkl:k<K.ds.length:=by omega
  have e1:=jv hkl
  have ha:=hsg _ (List.mem_of_getElem? e1)
  have htk:K.ds.take (k+1)=K.ds.take k++[gD K.ds k]:=by rw [List.take_add_one,e1]; rfl
  generalize gD K.ds k=d at *
  have hC:=pB (ints d.sg) (by rw [au]; omega) (dp _) (fU _)
  have z0:¬0=m:=by omega
  have z1:¬1=m:=by omega
  have z2:¬2=m:=by omega
  have z3:¬m=2:=by omega
  try simp (disch:=omega) only [go_sem,jF,jG,jH,↓reduceIte,aS,dU,e1,Option.map_some,gH,jd]
  refine ⟨by omega,by omega,?_⟩
  refine ab hC (by simp [go_sem]) ?_
  try simp (disch:=omega) only [go_sem,jF,jG,jH,↓reduceIte,z2,u2]
  have hlen:(yn (K.ds.take k)).length≤64:=by rw [aS,List.length_take]; omega
  refine bE (b:=72) (hR.move (by simp only; omega) fun i hi _=>by
   simp only at hi ⊢
   repeat rw [aa _ _ _ _ (by omega)]) (by omega) (by omega) fun X2 τ2 hR2 hK2=>?_
  have hn2:=hK2.1
  have r0:=hK2.2.1 0 (by simp only; omega) o0
  have r1:=hK2.2.1 1 (by simp only; omega) o1
  have r2:=hK2.2.1 2 (by simp only; omega) o2
  have p0:=hK2.2.2 0 (by simp only; omega) o0
  have p1:=hK2.2.2 1 (by simp only; omega) o1
  have p2:=hK2.2.2 2 (by simp only; omega) o2
  simp only at r0 r1 r2 hn2
  try simp (disch:=omega) only [go_sem,↓reduceIte,z0,u0] at r0
  try simp (disch:=omega) only [go_sem,↓reduceIte,z1,u1] at r1
  try simp (disch:=omega) only [go_sem,↓reduceIte,z2,u2] at r2
  try simp (disch:=omega) only [go_sem,jF,jG,jH,↓reduceIte,jO,hR2.flat,hR2.cells,r2]
  refine aD τ2.n hkl (by omega) ⟨(by first | rfl | (simp (disch:=omega) only [go_sem,jA,jB,jC,jD,jE,jF,jG,jH,jI,jJ,↓reduceIte,reduceCtorEq,jP,jO,jM,jN]; try rfl)),?_,?_,X2,?_,?_,p0,p1,p2⟩
  ·simp only [St.aE,St.put]; rw [if_pos (by omega),aa _ _ _ _ (by omega)]; exact r0
  ·simp only [St.aE,St.put]; rw [if_pos (by omega),aa _ _ _ _ (by omega)]; exact r1
  ·simp only [St.aE,St.put]; rw [if_pos (by omega),az]
  ·rw [htk,show yn (K.ds.take k++[d])=yn (K.ds.take k)++[.agg [.int .i64 d.id,.int .i64 d.site,.int .i64 d.fr,.int .i64 d.to,.int .i64 d.rel,.list 1 (ints d.sg),.bool d.wd]] by simp [yn,gH,jd]]
   refine hR2.move (Nat.le_refl _) fun i hi hno=>?_
   have:¬i=2:=fun e=>hno (e ▸ p2)
   simp only [St.aE,St.put]; rw [if_pos hi,aa _ _ _ _ this]
 ·try simp (disch:=omega) only [go_sem,jF,jH,↓reduceIte,u0]
  refine ab hU (by simp [go_sem]) ?_
  try simp (disch:=omega) only [go_sem,jF,jG,jH,↓reduceIte,reduceCtorEq,u0,u2]
  refine ab (nh (cK s.l) (by rw [ak]; omega) (eo _) (ig _)) (by simp [go_sem]) ?_
  try simp (disch:=omega) only [go_sem,jF,jG,jH,↓reduceIte,reduceCtorEq,u0,u1,hR.one]
  obtain rfl:k=K.ds.length:=by omega
  rw [List.take_length] at hR
  refine aw.ag (.cons (.pure (by simp [go_sem])) (.cons (.pure (by simp [go_sem])) (.cons (.pure (by simp [go_sem])) (.cons (aw.e rfl) (.cons (hR.mF (fun i hi hno=>?_) (L9 _) (J0 _)) (.cons (aw.e rfl) (.cons (.pure (by simp [go_sem])) .nil)))))))
  have y1:¬i=1:=fun e=>hno (e ▸ o1)
  have y2:¬i=2:=fun e=>hno (e ▸ o2)
  simp only
  repeat rw [aa _ _ _ _ (by assumption)]
theorem DZ {k:Kt} {q:Rc} (h:kh k≠0):uM k q=(kz,kh k):=by rw [uM,if_pos h]
theorem DX {k:Kt} {q:Rc} (h:kh k=0) (hv:bg q=false):uM k q=(kz,49):=by rw [uM,if_neg (by simp [h]),if_pos hv]
theorem DY {k:Kt} {q:Rc} (h:kh k=0) (hv:bg q=true):uM k q=
 if q.k=1 then lR (ql k.B (Jb q)).2 ⟨(ql k.B (Jb q)).1,k.K,k.s⟩ else
 if q.k=2 then lR (bU k.K q.site q.fr q.to q.rel).2.2 ⟨k.B,(bU k.K q.site q.fr q.to q.rel).1,k.s⟩ else
 if q.k=3 then lR (ka k.K q.yT q.Be q.code q.time).2 ⟨k.B,(ka k.K q.yT q.Be q.code q.time).1,k.s⟩ else
 if q.k=4 then lR (ku k.K q.yT q.Be q.code q.time).2 ⟨k.B,(ku k.K q.yT q.Be q.code q.time).1,k.s⟩ else
 if q.k=5 then lR (cM k.s q.nj q.wb q.vR).2.2 ⟨k.B,k.K,(cM k.s q.nj q.wb q.vR).1⟩ else
 lR (dO k.s q.xM).2 ⟨k.B,k.K,(dO k.s q.xM).1⟩:=by rw [uM,if_neg (by simp [h]),if_neg (by simp [hv])]
theorem mS (k:Kt):fI 0 (kv k) (.agg [.nil,.nil,.nil,.int .i64 0,.nil,.int .i64 0,.nil])=kv k:=rfl
theorem jt (k:Kt):(kv k).cQ=true:=yM _ _ _
theorem dG {σ:St} {e:Int} {k:Kt} (h:e=0):aw σ (.tuple [kv k,.int .i64 0]) (.tuple [kv (lR e k).1,.int .i64 (lR e k).2]):=by
 rw [lR,if_pos h]
 exact aw.tu (.cons (.pure (jt k)) (.cons (.pure rfl) .nil))
theorem dH {σ:St} {e:Int} {k:Kt} (h:e≠0):aw σ (.tuple [.agg [.nil,.nil,.nil,.int .i64 0,.nil,.int .i64 0,.nil],.int .i64 e]) (.tuple [kv (lR e k).1,.int .i64 (lR e k).2]):=by
 rw [lR,if_neg h]
 exact aw.tu (.cons js (.cons (.pure rfl) .nil))
theorem pU (k:Kt) (h:IK k) (q:Rc) (hq:q.sg.length≤9223372036854775807):PC prog BD [kv k,dc q] (.tuple [kv (uM k q).1,.int .i64 (uM k q).2]):=by
 have hC:=fM k h
 have hT:=nr k
 have hE:=l7 q hq
 have hpk:=yM k.B k.K k.s
 have hpq:=iI q
 have hsg:=dp q.sg
 have hd0:=@DZ k q
 have hd1:=@DX k q
 have hd2:=@DY k q
 have hFi:=fun (hv:bg q=true) (hk:q.k=1)=>tU k.B h.b (Jb q) (Ja hv hk)
 have hRq:=pW k.K h.d q.site q.fr q.to q.rel
 have hSg:=ue k.K h.d q.yT q.Be q.code q.time
 have hWd:=pD k.K h.d q.yT q.Be q.code q.time
 have hIs:=xR k.s q.nj q.wb q.vR h.s
 have hCf:=tY k.s q.xM h.s
 have hOk:=(kg h).1
 obtain ⟨B,K,s⟩:=k
 simp only [kv] at hC hT
 simp only [A8,dc,fJ,eJ] at hC hT hE hpk hpq
 simp only [jx,en,Jb] at hFi
 simp only [bP] at hRq hSg hWd
 simp only [mE,gG] at hIs hCf
 simp only at hd2 hOk
 generalize hck:kh ⟨B,K,s⟩=ck at *
 generalize uM ⟨B,K,s⟩ q=D at *
 obtain ⟨P,hP⟩:∃ P,AV.tuple [kv D.1,.int .i64 D.2]=P:=⟨_,rfl⟩
 rw [hP]
 refine ae BZ (by simp) ?_
 simp only [sA,go_sem,jF,jG,jH,↓reduceIte,reduceCtorEq,kv,A8,dc,fJ,eJ]
 try simp (disch:=omega) only [go_sem,jA,jB,jC,jD,jE,jF,jG,jH,jI,jJ,↓reduceIte,reduceCtorEq,jO,jM,jN,jK,jL]
 refine ab hC (by simp [go_sem]) ?_
 try simp (disch:=omega) only [go_sem,↓reduceIte]
 refine aY (fun c0=>?_) (fun c0=>?_)
 ·try simp (disch:=omega) only [go_sem,jF,jG,jH,↓reduceIte]
  rw [←hP,hd0 c0]
  exact aw.tu (.cons js (.cons (.pure rfl) .nil))
 subst c0
 have hO:=hOk rfl
 try simp (disch:=omega) only [go_sem,jF,jH,↓reduceIte]
 refine ab hE (by simp [go_sem]) ?_
 rw [lq]
 cases hv:bg q
 ·try simp (disch:=omega) only [go_sem,jA,jF,jG,jH,↓reduceIte,reduceCtorEq]
  rw [←hP,hd1 rfl hv]
  exact aw.tu (.cons js (.cons (.pure rfl) .nil))
 try simp (disch:=omega) only [go_sem,jF,jG,jH,↓reduceIte,reduceCtorEq]
 refine ab (hT hO) (by simp [go_sem]) ?_
 rw [hd2 rfl hv] at hP
 clear hd0 hd1 hd2 hC hE hT
 have hk6:=EH hv
 simp only [Jb] at hP
 try simp (disch:=omega) only [go_sem,jF,jG,jH,↓reduceIte,reduceCtorEq]
 refine ah (fun k1=>?_) (fun k1=>?_)
 ·rw [if_pos k1] at hP
  try simp (disch:=omega) only [go_sem,jF,jG,jH,↓reduceIte,reduceCtorEq]
  refine ab (hFi hv k1) (by simp [go_sem]) ?_
  generalize ql B ⟨q.num,q.acc,q.vI,q.tm,⟨q.lo,q.hi⟩⟩=F at *
  obtain ⟨B',e⟩:=F
  try simp (disch:=omega) only [go_sem,jF,jG,jH,↓reduceIte,reduceCtorEq]
  refine aY (fun c=>?_) (fun c=>?_)
  ·try simp (disch:=omega) only [go_sem,jF,jG,jH,↓reduceIte]
   rw [←hP]
   exact dH c
  ·subst c
   try simp (disch:=omega) only [go_sem,jF,jG,jH,↓reduceIte]
   rw [←hP]
   exact dG (k:=⟨B',K,s⟩) rfl
 rw [if_neg k1] at hP
 try simp (disch:=omega) only [go_sem,jF,↓reduceIte]
 refine ah (fun k2=>?_) (fun k2=>?_)
 ·rw [if_pos k2] at hP
  try simp (disch:=omega) only [go_sem,jF,jG,jH,↓reduceIte,reduceCtorEq]
  refine ab hRq (by simp [go_sem]) ?_
  generalize bU K q.site q.fr q.to q.rel=F at *
  obtain ⟨K',i',e⟩:=F
  try simp (disch:=omega) only [go_sem,jF,jG,jH,↓reduceIte,reduceCtorEq]
  refine aY (fun c=>?_) (fun c=>?_)
  ·try simp (disch:=omega) only [go_sem,jF,jG,jH,↓reduceIte]
   rw [←hP]
   exact dH c
  ·subst c
   try simp (disch:=omega) only [go_sem,jF,jG,jH,↓reduceIte]
   rw [←hP]
   exact dG (k:=⟨B,K',s⟩) rfl
 rw [if_neg k2] at hP
 try simp (disch:=omega) only [go_sem,jF,↓reduceIte]
 refine ah (fun k3=>?_) (fun k3=>?_)
 ·rw [if_pos k3] at hP
  try simp (disch:=omega) only [go_sem,jF,jG,jH,↓reduceIte,reduceCtorEq]
  refine ab hSg (by simp [go_sem]) ?_
  generalize ka K q.yT q.Be q.code q.time=F at *
  obtain ⟨K',e⟩:=F
  try simp (disch:=omega) only [go_sem,jF,jG,jH,↓reduceIte,reduceCtorEq]
  refine aY (fun c=>?_) (fun c=>?_)
  ·try simp (disch:=omega) only [go_sem,jF,jG,jH,↓reduceIte]
   rw [←hP]
   exact dH c
  ·subst c
   try simp (disch:=omega) only [go_sem,jF,jG,jH,↓reduceIte]
   rw [←hP]
   exact dG (k:=⟨B,K',s⟩) rfl
 rw [if_neg k3] at hP
 try simp (disch:=omega) only [go_sem,jF,↓reduceIte]
 refine ah (fun k4=>?_) (fun k4=>?_)
 ·rw [if_pos k4] at hP
  try simp (disch:=omega) only [go_sem,jF,jG,jH,↓reduceIte,reduceCtorEq]
  refine ab hWd (by simp [go_sem]) ?_
  generalize ku K q.yT q.Be q.code q.time=F at *
  obtain ⟨K',e⟩:=F
  try simp (disch:=omega) only [go_sem,jF,jG,jH,↓reduceIte,reduceCtorEq]
  refine aY (fun c=>?_) (fun c=>?_)
  ·try simp (disch:=omega) only [go_sem,jF,jG,jH,↓reduceIte]
   rw [←hP]
   exact dH c
  ·subst c
   try simp (disch:=omega) only [go_sem,jF,jG,jH,↓reduceIte]
   rw [←hP]
   exact dG (k:=⟨B,K',s⟩) rfl
 rw [if_neg k4] at hP
 try simp (disch:=omega) only [go_sem,jF,↓reduceIte]
 refine ah (fun k5=>?_) (fun k5=>?_)
 ·rw [if_pos k5] at hP
  try simp (disch:=omega) only [go_sem,jF,jG,jH,↓reduceIte,reduceCtorEq]
  refine ab hIs (by simp [go_sem]) ?_
  generalize cM s q.nj q.wb q.vR=F at *
  obtain ⟨s',o',e⟩:=F
  try simp (disch:=omega) only [go_sem,jF,jG,jH,↓reduceIte,reduceCtorEq]
  refine aY (fun c=>?_) (fun c=>?_)
  ·try simp (disch:=omega) only [go_sem,jF,jG,jH,↓reduceIte]
   rw [←hP]
   exact dH c
  ·subst c
   try simp (disch:=omega) only [go_sem,jF,jG,jH,↓reduceIte]
   rw [←hP]
   exact dG (k:=⟨B,K,s'⟩) rfl
 rw [if_neg k5] at hP
 try simp (disch:=omega) only [go_sem,jF,↓reduceIte]
 have k6:q.k=6:=by omega
 try simp (disch:=omega) only [go_sem,jA,jF,jG,jH,↓reduceIte,reduceCtorEq,k6]
 refine ab hCf (by simp [go_sem]) ?_
 generalize dO s q.xM=F at *
 obtain ⟨s',e⟩:=F
 try simp (disch:=omega) only [go_sem,jF,jG,jH,↓reduceIte]
 refine aY (fun c=>?_) (fun c=>?_)
 ·try simp (disch:=omega) only [go_sem,jF,jG,jH,↓reduceIte]
  rw [←hP]
  exact dH c
 ·subst c
  try simp (disch:=omega) only [go_sem,jF,jG,jH,↓reduceIte]
  rw [←hP]
  exact dG (k:=⟨B,K,s'⟩) rfl
def DM (k:Kt) (s:ByteArray) (q:Rc):Kt × ByteArray × Int:=if (uM k q).2≠0 then (kz,⟨#[]⟩,(uM k q).2) else ((uM k q).1,s++rA q,0)
theorem Io {k:Kt} {q:Rc} (h:(uM k q).2=0):bg q=true:=by
 cases hv:bg q
 ·by_cases c:kh k=0
  ·rw [DX c hv] at h; cases h
  ·rw [DZ c] at h; exact absurd h c
 ·rfl
theorem ez (k:Kt):(kv k).flat=true:=rfl
theorem cZ (k:Kt):(kv k).cells.length=7:=rfl
theorem Rk (k:Kt):AV.agg ((kv k).cells.take 7)=kv k:=rfl
theorem jT (k:Kt):(kv k).cells.take 7=(kv k).cells:=rfl
theorem jU (k:Kt):AV.agg (kv k).cells=kv k:=rfl
theorem z8 (k:Kt):(kv k).cells.all AV.one=true:=rfl
theorem JD (k l:Kt):fI 0 (kv k) (kv l)=kv k:=rfl
instance:DecidableEq Kt:=fun a b=>decidable_of_iff (a.B=b.B∧a.K=b.K∧a.s=b.s) (by cases a; cases b; simp)
theorem xQ (k:Kt) (h:IK k) (s:ByteArray) (hs:s.size≤4611686018427387904) (q:Rc) (hq:q.sg.length≤9223372036854775807):PC prog zL [kv k,.str s,dc q] (.tuple [kv (DM k s q).1,.str (DM k s q).2.1,.int .i64 (DM k s q).2.2]):=by
 have hD:=pU k h q hq
 have hA:=ub s q hs hq
 have hpk:=jt k
 have hpq:=iI q
 have hv:=@Io k q
 obtain ⟨P,hP⟩:∃ P,AV.tuple [kv (DM k s q).1,.str (DM k s q).2.1,.int .i64 (DM k s q).2.2]=P:=⟨_,rfl⟩
 rw [hP]
 rw [DM] at hP
 generalize uM k q=D at *
 obtain ⟨k',e⟩:=D
 refine ae AN (by simp) ?_
 simp only [qz,go_sem,jF,jG,jH,↓reduceIte,reduceCtorEq]
 try simp (disch:=omega) only [go_sem,ez,cZ,jT,jU,Je,Db,Dc,Dd]
 refine ab hD (by simp [hpk,hpq,go_sem]) ?_
 try simp (disch:=omega) only [go_sem,jF,jG,jH,↓reduceIte,ez,cZ,mS]
 refine aY (fun c=>?_) (fun c=>?_)
 ·try simp (disch:=omega) only [go_sem,jF,jG,jH,↓reduceIte]
  rw [←hP,if_pos c]
  exact aw.tu (.cons js (.cons (.pure rfl) (.cons (.pure rfl) .nil)))
 ·subst c
  try simp (disch:=omega) only [go_sem,jF,jH,↓reduceIte,reduceCtorEq,Dc,Dd]
  refine ab hA (by simp [hpq,go_sem]) ?_
  rw [Kv,if_pos (hv rfl)]
  try simp (disch:=omega) only [go_sem,jF,jH,↓reduceIte,cZ,jT,jU,z8]
  rw [←hP,if_neg (by simp)]
  exact aw.tu (.cons (.pure (jt k')) (.cons (.pure rfl) (.cons (.pure rfl) .nil)))
theorem v7 (a b:Kt) (h:RK a):PC prog yd [kv a,kv b] (.bool (decide (a=b))):=by
 have hB:=vV a.B b.B h.n h.a h.r
 have hD:=uf a.K b.K h.d
 have hS:=zD a.s b.s h.s
 obtain ⟨B,K,s⟩:=a
 obtain ⟨B',K',s'⟩:=b
 simp only [jx,bP,mE] at hB hD hS
 refine ae yB (by simp) ?_
 simp only [pq,go_sem,jF,jG,jH,↓reduceIte,reduceCtorEq,kv,A8]
 try simp (disch:=omega) only [go_sem,jA,jB,jC,jD,jE,jF,jG,jH,jI,jJ,↓reduceIte,reduceCtorEq,jO,jM,jN,jK,jL]
 refine ab hB (by simp [go_sem]) ?_
 have hE:decide ((⟨B,K,s⟩:Kt)=⟨B',K',s'⟩)=(decide (B=B')&&(decide (K=K')&&decide (s=s'))):=by
  rw [Bool.eq_iff_iff]; simp
 rw [hE]
 cases decide (B=B')
 ·try simp (disch:=omega) only [go_sem,jF,↓reduceIte]
  exact aw.of_eq rfl rfl
 try simp (disch:=omega) only [go_sem,jF,jG,jH,↓reduceIte,reduceCtorEq]
 refine ab hD (by simp [go_sem]) ?_
 cases decide (K=K')
 ·try simp (disch:=omega) only [go_sem,jF,↓reduceIte]
  exact aw.of_eq rfl rfl
 try simp (disch:=omega) only [go_sem,jF,jG,jH,↓reduceIte,reduceCtorEq]
 refine ab hS (by simp [go_sem]) ?_
 cases decide (s=s') <;> try simp (disch:=omega) only [go_sem,jF,↓reduceIte] <;> exact aw.of_eq rfl rfl
theorem kO (k:Kt) (h:IK k) (s:ByteArray) (hs:s.size≤100000000000) (hsg:∀ q∈(cr s).1,q.sg.length≤9223372036854775807) (hll:(cr s).1.length≤4611686018427387904) (n:Int):PC prog mg [kv k,.str s,.int .i64 n] (.tuple [kv (jj k s n).1,.int .i64 (jj k s n).2.1,.int .i64 (jj k s n).2.2]):=by
 have hC:=fM k h
 have hT:=nr k
 have hJ:=xU s hs
 have hpk:=jt k
 have hOk:=(kg h).1
 have hS0:jj k s n=if kh k≠0 then (kz,0,kh k) else if n<0∨((cr s).1.length:Int)<n then (kz,0,1) else (((cr s).1.drop n.toNat).foldl fq k,((cr s).1.length:Int),0):=rfl
 obtain ⟨P,hP⟩:∃ P,AV.tuple [kv (jj k s n).1,.int .i64 (jj k s n).2.1,.int .i64 (jj k s n).2.2]=P:=⟨_,rfl⟩
 rw [hP]
 rw [hS0] at hP
 clear hS0
 generalize cr s=O at *
 obtain ⟨l,oe⟩:=O
 simp only at hsg hll hP
 generalize hck:kh k=ck at *
 refine ae vx (by simp) ?_
 simp only [my,go_sem,jF,jG,jH,↓reduceIte,reduceCtorEq]
 try simp (disch:=omega) only [go_sem,ez,cZ,jT,jU]
 refine ab hC (by simp [hpk,go_sem]) ?_
 try simp (disch:=omega) only [go_sem,↓reduceIte]
 refine aY (fun c=>?_) (fun c=>?_)
 ·try simp (disch:=omega) only [go_sem,jF,jG,jH,↓reduceIte]
  rw [←hP,if_pos c]
  exact aw.tu (.cons js (.cons (.pure rfl) (.cons (.pure rfl) .nil)))
 subst c
 rw [if_neg (by simp)] at hP
 have hO:=hOk rfl
 try simp (disch:=omega) only [go_sem,jF,↓reduceIte,reduceCtorEq]
 refine ab hJ (by simp [go_sem]) ?_
 try simp (disch:=omega) only [go_sem,jF,↓reduceIte,reduceCtorEq]
 by_cases c1:n<0
 ·rw [if_pos (.inl c1)] at hP
  try simp (disch:=omega) only [go_sem,jF,jG,jH,↓reduceIte,c1,decide_true]
  rw [←hP]
  exact aw.tu (.cons js (.cons (.pure rfl) (.cons (.pure rfl) .nil)))
 by_cases c2:(l.length:Int)<n
 ·rw [if_pos (.inr c2)] at hP
  try simp (disch:=omega) only [go_sem,jF,jG,jH,↓reduceIte,reduceCtorEq,c1,c2,decide_true,decide_false,bN]
  rw [←hP]
  exact aw.tu (.cons js (.cons (.pure rfl) (.cons (.pure rfl) .nil)))
 rw [if_neg (by omega)] at hP
 obtain ⟨j,rfl⟩:∃ j:Nat,n=j:=⟨n.toNat,by omega⟩
 rw [Int.toNat_natCast] at hP
 have hdr:(yI l).drop j=yI (l.drop j):=by simp [yI]
 have hLs:∀ q∈l.drop j,q.sg.length≤9223372036854775807:=fun q hq=>hsg q (List.mem_of_mem_drop hq)
 try simp (disch:=omega) only [go_sem,jF,jH,↓reduceIte,reduceCtorEq,c1,c2,decide_false,bN,jT,jU]
 refine ab (hT hO) (by simp [hpk,go_sem]) ?_
 try simp (disch:=omega) only [go_sem,jF,jG,jH,↓reduceIte,reduceCtorEq,bN,hdr,ez,cZ,mS]
 refine ⟨by omega,by omega,?_⟩
 have hLl:(l.drop j).length≤4611686018427387904:=by rw [List.length_drop]; omega
 generalize l.drop j=L at *
 refine aT [14,15,16,43,44,45,46,47,48,49,50,51,52,53,54,55,56] (by kernel_rfl) L.length (fun i e σ=>e 43=.int .i64 i∧σ.ob 1=some ⟨1,7,49,false,true,[.agg [.nil,.nil,.nil,.int .i64 0,.nil,.int .i64 0,.nil]]⟩∧σ.ob 2=some ⟨2,7,49,false,true,[kv ((L.take i).foldl fq k)]⟩) ?_ ?_
 ·exact ⟨(by first | rfl | (simp (disch:=omega) only [go_sem,jA,jB,jC,jD,jE,jF,jG,jH,jI,jJ,↓reduceIte,reduceCtorEq,jP,jO,jM,jN]; try rfl)),by try simp (disch:=omega) only [go_sem,jF,↓reduceIte],by try simp (disch:=omega) only [go_sem,↓reduceIte,List.take_zero,List.foldl_nil]⟩
 rintro i fe ob m c hi hm ⟨h43,u1,u2⟩
 simp (maxSteps:=1000000) only [go_sem,jF,↓reduceIte] at h43 u1 u2 hm
 try simp (disch:=omega) only [go_sem,jF,↓reduceIte,h43]
 refine ah (fun hlt=>?_) (fun hge=>?_)
 ·have hil:i<L.length:=by omega
  have g1:L[i]?=some L[i]:=List.getElem?_eq_getElem hil
  have t1:=dD L i hil
  have hqs:=hLs _ (List.getElem_mem hil)
  have hK:=uJ (l:=L.take i) hO
  have hI:(L.take (i+1)).foldl fq k=fq ((L.take i).foldl fq k) L[i]:=by rw [t1,List.foldl_append]; rfl
  clear t1
  generalize L[i]=q at *
  generalize (L.take i).foldl fq k=kk at *
  have hD:=pU kk hK.S q hqs
  have hst:fq kk q=if (uM kk q).2=0 then (uM kk q).1 else kk:=rfl
  have hpkk:=jt kk
  have hpq:=iI q
  rw [hst] at hI
  clear hst
  generalize uM kk q=D at *
  obtain ⟨k2,e⟩:=D
  have z1:¬1=m:=by omega
  have z2:¬2=m:=by omega
  have y1:¬1=m+1:=by omega
  have y2:¬2=m+1:=by omega
  have x2:¬m=2:=by omega
  have x3:¬m+1=2:=by omega
  try simp (disch:=omega) only [go_sem,jF,jH,↓reduceIte,bN,Hf,g1,Option.map_some,u2,EY,z2,jT,jU,Db,Dc,Dd,Hd,Hc]
  refine ⟨by omega,by omega,?_⟩
  refine ab hD (by simp [hpkk,hpq,go_sem]) ?_
  try simp (disch:=omega) only [go_sem,jF,jH,↓reduceIte,ez,cZ,mS]
  refine ah (fun c=>?_) (fun c=>?_)
  ·rw [if_pos c] at hI
   try simp (disch:=omega) only [go_sem,jF,jH,↓reduceIte,jO,u2,z2,y2,cZ,jT,jU,z8,JD]
   refine aD (m+1+1) hil (by omega) ⟨(by first | rfl | (simp (disch:=omega) only [go_sem,jA,jB,jC,jD,jE,jF,jG,jH,jI,jJ,↓reduceIte,reduceCtorEq,jP,jO,jM,jN]; try rfl)),?_,?_⟩
   ·rw [aW (by omega)]; try simp (disch:=omega) only [go_sem,jF,↓reduceIte,z1,y1,u1]
   ·rw [aW (by omega),hI]; try simp (disch:=omega) only [go_sem,↓reduceIte]
  ·rw [if_neg c] at hI
   try simp (disch:=omega) only [go_sem,jF,↓reduceIte,jO]
   refine aD (m+1+1) hil (by omega) ⟨(by first | rfl | (simp (disch:=omega) only [go_sem,jA,jB,jC,jD,jE,jF,jG,jH,jI,jJ,↓reduceIte,reduceCtorEq,jP,jO,jM,jN]; try rfl)),?_,?_⟩
   ·rw [aW (by omega)]; try simp (disch:=omega) only [go_sem,↓reduceIte,z1,y1,u1]
   ·rw [aW (by omega),hI]; try simp (disch:=omega) only [go_sem,↓reduceIte,z2,y2,u2]
 ·obtain rfl:i=L.length:=by omega
  rw [List.take_length] at u2
  try simp (disch:=omega) only [go_sem,jF,jH,↓reduceIte,u1,u2,bN,cZ,jT,jU,z8]
  rw [←hP]
  exact aw.tu (.cons (.pure (jt _)) (.cons (.pure rfl) (.cons (.pure rfl) .nil)))
def qS:Rc:=⟨5,0,0,0,0,0,0,0,0,0,0,0,[],false,0,0,0,0,1,0,9⟩
def kS:Kt:=⟨ED,⟨[],1,[]⟩,⟨1,[]⟩⟩
def kT:Kt:=⟨ED,⟨[],1,[]⟩,⟨2,[⟨1,1,0,9⟩]⟩⟩
theorem LH:AV.agg [AV.int IntKind.i64 5,AV.int IntKind.i64 0,AV.int IntKind.i64 0,AV.int IntKind.i64 0,AV.int IntKind.i64 0,AV.int IntKind.i64 0,AV.int IntKind.i64 0,AV.int IntKind.i64 0,AV.int IntKind.i64 0,AV.int IntKind.i64 0,AV.int IntKind.i64 0,AV.int IntKind.i64 0,AV.nil,AV.bool false,AV.int IntKind.i64 0,AV.int IntKind.i64 0,AV.int IntKind.i64 0,AV.int IntKind.i64 0,AV.int IntKind.i64 1,AV.int IntKind.i64 0,AV.int IntKind.i64 9]=fJ .nil qS:=rfl
theorem Ri:bg qS=true:=by simp [bg,qS,aH,ba,cI,fD,sI,ib,vB]
theorem O8:lX ED:=⟨by simp [ED],fun a h=>by simp [ED] at h,by simp [ED],.nil,fun r h=>by simp [ED] at h⟩
theorem qi:Gb kS:=⟨O8,by simp [kS,cn,ir],by simp [kS,dh,mT,fg]⟩
theorem Hs:uM kS qS=(kT,0):=by
 rw [DY ((kg qi.S).2 qi) Ri,if_neg (by simp [qS]),if_neg (by simp [qS]),if_neg (by simp [qS]),if_neg (by simp [qS]),if_pos (show qS.k=5 from rfl)]
 have e:cM kS.s qS.nj qS.wb qS.vR=(⟨2,[⟨1,1,0,9⟩]⟩,⟨1,1,0,9⟩,0):=by
  rw [cM,if_pos qi.s,if_pos (by simp [dM,qS,mT]),if_neg (by simp [kS])]; rfl
 rw [e]; rfl
theorem Rl:Gb kT:=by
 have:=J2 qi.S (q:=qS) (by rw [Hs])
 rwa [Hs] at this
theorem JH:HP (.agg [.nil,.nil,.nil,.int .i64 1,.nil,.int .i64 1,.nil]) (kv kS):=.agg (.cons (.nil 4) (.cons (.nil 6) (.cons (.nil 3) (.cons .rfl (.cons (.nil 7) (.cons .rfl (.cons (.nil 4) .nil)))))))
theorem Gp:cr ((⟨#[]⟩:ByteArray)++rA qS++⟨#[116,111,114,110]⟩)=([qS],((yQ [qS]).length:Int)):=
 Jk (l:=[qS]) (Q:=[116,111,114,110]) (by simp [Ri]) (by rw [qQ,qQ,C9]; simp [yQ,sb]) (.inr (Ir (by omega) [111,114,110]))
theorem TD:(kv kT).cells.getD 6 .bF=.list 4 (cK [⟨1,1,0,9⟩]):=rfl
theorem Bq:PC prog DH [] (.bool true):=by
 have hz:((⟨#[]⟩:ByteArray)++rA qS).size≤1000:=by
  rw [←bQ,qQ,C9,List.length_append,jb]; decide
 have ht:((⟨#[]⟩:ByteArray)++rA qS++⟨#[116,111,114,110]⟩).size≤1004:=by
  rw [ByteArray.size_append]
  have:(⟨#[116,111,114,110]⟩:ByteArray).size=4:=rfl
  omega
 have hL:=oS (xQ kS qi.S ⟨#[]⟩ (by decide) qS (by simp [qS])) (.cons JH (.cons .rfl (.cons (Jg (r:=qS) rfl) .nil)))
 have hl:DM kS ⟨#[]⟩ qS=(kT,⟨#[]⟩++rA qS,0):=by rw [DM,Hs,if_neg (by simp)]
 have hR:=oS (kO kS qi.S ((⟨#[]⟩:ByteArray)++rA qS++⟨#[116,111,114,110]⟩) (by omega) (by rw [Gp]; simp [qS]) (by rw [Gp]; simp) 0) (.cons JH (.cons .rfl (.cons .rfl .nil)))
 have hr:jj kS ((⟨#[]⟩:ByteArray)++rA qS++⟨#[116,111,114,110]⟩) 0=(kT,1,0):=by
  rw [jj,if_neg (by simp [(kg qi.S).2 qi]),Gp,if_neg (by simp)]
  have:fq kS qS=kT:=by rw [fq,Hs,if_pos rfl]
  simp [this]
 have hS:=v7 kT kT Rl.L
 rw [decide_eq_true rfl] at hS
 have hC:=oS (fM kS qi.S) (.cons JH .nil)
 rw [(kg qi.S).2 qi] at hC
 rw [hl] at hL
 rw [hr] at hR
 generalize (⟨#[]⟩:ByteArray)++rA qS=S at *
 refine ae En (by simp) ?_
 simp only [vj,go_sem,jF,jG,jH,↓reduceIte]
 try simp (disch:=omega) only [go_sem,jA,jB,jC,jD,jE,jF,jG,jH,jI,jJ,↓reduceIte,reduceCtorEq,jO,jM,jN,jK,jL]
 rw [LH]
 refine ab hL (by simp [Hh,go_sem]) ?_
 try simp (disch:=omega) only [go_sem,jF,jG,jH,↓reduceIte,reduceCtorEq,ez,cZ,mS]
 have h4:(#[116,111,114,110]:Array UInt8).size=4:=rfl
 refine ⟨by rw [h4]; omega,?_⟩
 refine ab hR (by simp [go_sem]) ?_
 try simp (disch:=omega) only [go_sem,jF,jG,jH,↓reduceIte,ez,cZ,jT,jU,mS]
 refine ab hS (by simp [jt,go_sem]) ?_
 have hl1:(cK [⟨1,1,0,9⟩]).length=1:=rfl
 have hg1:(cK [⟨1,1,0,9⟩])[0]?=some (.agg [.int .i64 1,.int .i64 1,.int .i64 0,.int .i64 9]):=rfl
 try simp (disch:=omega) only [go_sem,jB,jC,jF,jG,jH,↓reduceIte,reduceCtorEq,TD,hl1,hg1]
 refine ab hC (by simp [go_sem]) ?_
 try simp (disch:=omega) only [go_sem,jF,↓reduceIte]
 exact aw.of_eq rfl rfl
end Go.Proofs.Try
