/- OWN WORK, put together by tools/asm.py, seat.py, mini.py. -/
import Derived.Test.YtcpckngdfjmbgaaGreatLibF
set_option linter.unusedSimpArgs false
set_option linter.unusedVariables false
set_option maxRecDepth 100000
set_option maxHeartbeats 1000000
namespace Go.Proofs.Try
open Go.Ab Go Go.Proofs.Tryz
open Int renaming reduceEq → jA, reduceLT → jB, reduceLE → jC, reduceToNat → jD
open Go.Ab renaming iD → jM, iE → jN, lF → jO, iF → jP
open Nat renaming reduceLT → jE, reduceEqDiff → jF, reduceAdd → jG, reduceLeDiff → jH, reduceSub → jI, reduceMul → jJ, sub_zero → jK, sub_self → jL
abbrev Bs:TypeId:=3
theorem gM (σ:St) (L:List AV) (hl:L.length * 8≤140737488355328):HC prog jl [.list 1 L] σ (F1 σ 1 Bs L):=by
 refine aM jv (by simp) ?_
 obtain ⟨ob,n,c⟩:=σ
 simp only [js,go_sem,↓reduceIte,reduceCtorEq]
 refine ue (fun h=>?_) (fun h=>?_)
 ·subst h
  refine ⟨?_,?_⟩
  ·try simp (disch:=omega) only [go_sem,↓reduceIte]
   refine ⟨_,_,rfl,Nat.le_succ _,Nat.lt_succ_self _,(by first | rfl | (simp (disch:=omega) only [go_sem,↓reduceIte]; try rfl)),fun i hi=>?_⟩
   simp only at hi
   try simp (disch:=omega) only [go_sem,jM]
  ·try simp (disch:=omega) only [go_sem,jF,jH,jJ,↓reduceIte,reduceCtorEq]
   repeat (refine And.intro (by first | omega | (rw [o7]; omega) | (simp [maxLen]; done) | (simp [maxLen]; omega)) ?_)
   refine ⟨_,_,rfl,Nat.le_succ _,Nat.lt_succ_self _,(by first | rfl | (simp (disch:=omega) only [go_sem,↓reduceIte]; try rfl)),fun i hi=>?_⟩
   simp only at hi
   try simp (disch:=omega) only [go_sem,jM]
 ·try simp (disch:=omega) only [go_sem,jF,↓reduceIte,reduceCtorEq]
  repeat (refine And.intro (by first | omega | (rw [o7]; omega) | (simp [maxLen]; done) | (simp [maxLen]; omega)) ?_)
  refine ⟨_,_,rfl,Nat.le_succ _,Nat.lt_succ_self _,(by first | rfl | (simp (disch:=omega) only [go_sem,↓reduceIte]; try rfl)),fun i hi=>?_⟩
  simp only at hi
  try simp (disch:=omega) only [go_sem,jM]
theorem oU (L:List AV) (hl:L.length * 8≤140737488355328) (hp:∀ x∈L,x.cG=true) (hk:∀ x∈L,mi 1 x):PC prog jl [.list 1 L] (.list 1 L):=
 lf jv ((gM St.empty L hl).mono fun r τ ⟨id,g,h1,_,_,h2,_⟩=>by rw [h1]; exact aA.cW h2 rfl hp hk)
abbrev Ch:TypeId:=131
theorem eL (σ:St) (L:List AV) (hl:L.length * 24≤140737488355328):HC prog fP [.list 3 L] σ (F1 σ 3 Ch L):=by
 refine aM gw (by simp) ?_
 obtain ⟨ob,n,c⟩:=σ
 simp only [gn,go_sem,↓reduceIte,reduceCtorEq]
 refine ue (fun h=>?_) (fun h=>?_)
 ·subst h
  refine ⟨?_,?_⟩
  ·try simp (disch:=omega) only [go_sem,↓reduceIte]
   refine ⟨_,_,rfl,Nat.le_succ _,Nat.lt_succ_self _,(by first | rfl | (simp (disch:=omega) only [go_sem,↓reduceIte]; try rfl)),fun i hi=>?_⟩
   simp only at hi
   try simp (disch:=omega) only [go_sem,jM]
  ·try simp (disch:=omega) only [go_sem,jF,jH,jJ,↓reduceIte,reduceCtorEq]
   repeat (refine And.intro (by first | omega | (rw [o7]; omega) | (simp [maxLen]; done) | (simp [maxLen]; omega)) ?_)
   refine ⟨_,_,rfl,Nat.le_succ _,Nat.lt_succ_self _,(by first | rfl | (simp (disch:=omega) only [go_sem,↓reduceIte]; try rfl)),fun i hi=>?_⟩
   simp only at hi
   try simp (disch:=omega) only [go_sem,jM]
 ·try simp (disch:=omega) only [go_sem,jF,↓reduceIte,reduceCtorEq]
  repeat (refine And.intro (by first | omega | (rw [o7]; omega) | (simp [maxLen]; done) | (simp [maxLen]; omega)) ?_)
  refine ⟨_,_,rfl,Nat.le_succ _,Nat.lt_succ_self _,(by first | rfl | (simp (disch:=omega) only [go_sem,↓reduceIte]; try rfl)),fun i hi=>?_⟩
  simp only at hi
  try simp (disch:=omega) only [go_sem,jM]
theorem me (L:List AV) (hl:L.length * 24≤140737488355328) (hp:∀ x∈L,x.cG=true) (hk:∀ x∈L,mi 3 x):PC prog fP [.list 3 L] (.list 3 L):=
 lf gw ((eL St.empty L hl).mono fun r τ ⟨id,g,h1,_,_,h2,_⟩=>by rw [h1]; exact aA.cW h2 rfl hp hk)
theorem tI (key kind:Int) (d:Dv):PC prog vO [.int .i64 key,.int .i64 kind,jo d] (.int .i64 (rH key kind d)):=by
 refine ae wD (by simp) ?_
 simp only [nD,jo,jY]
 try simp (disch:=omega) only [go_sem,jF,jG,jH,↓reduceIte,reduceCtorEq]
 have hL:[AV.int .i64 key,.int .i64 kind,.int .i64 d.id,.int .i64 d.site,.int .i64 d.fr,.int .i64 d.to,.int .i64 d.rel]=ints (zN key kind d):=rfl
 have h7:(zN key kind d).length=7:=rfl
 rw [hL]
 generalize hLL:zN key kind d=L at *
 refine bK [7,9,23,24,25,26,27,28,29,30,31,32,33,34] (by kernel_rfl) 7 (fun i e _=>e 23=.int .i64 i∧∃ c,e 7=.int .i64 c∧0≤c∧c<2147483647∧rH key kind d=p7 c (L.drop i)) ?_ ?_
 ·exact ⟨(by first | rfl | (simp (disch:=omega) only [go_sem,jA,jB,jC,jD,jE,jF,jG,jH,jI,jJ,↓reduceIte,reduceCtorEq,jP,jO,jM,jN]; try rfl)),7,(by first | rfl | (simp (disch:=omega) only [go_sem,jA,jB,jC,jD,jE,jF,jG,jH,jI,jJ,↓reduceIte,reduceCtorEq,jP,jO,jM,jN]; try rfl)),by omega,by omega,by rw [rH,hLL]; rfl⟩
 rintro i fe ob c hi ⟨h24,x,hx,x0,x1,hc⟩
 simp (maxSteps:=1000000) only [go_sem,jF,↓reduceIte] at h24 hx
 try simp (disch:=omega) only [go_sem,jF,↓reduceIte,h24]
 refine aj (fun hlt=>?_) (fun hge=>?_)
 ·have hil:i<L.length:=by omega
  have hgi:=bH L i
  rw [List.getElem?_eq_getElem hil] at hgi
  rw [List.drop_eq_getElem_cons hil,p7] at hc
  generalize L[i]=n at *
  have b1:=s7 n
  generalize hy:n.tmod 2147483647=y at *
  have b2:=mG (y+2147483647) (by omega)
  generalize hz:(y+2147483647).tmod 2147483647=z at *
  have b3:=mG (31 * x+z) (by omega)
  have hsub:sub false 1 (i * 1) (.agg (ints L))=.int .i64 n:=by
   simp only [sub,AV.cells,Nat.mul_one]
   rw [List.getD_eq_getElem?_getD,hgi]; rfl
  try simp (disch:=omega) only [go_sem,jA,jF,↓reduceIte,jO,hx,aw,h7,hy,hz,hsub]
  refine ⟨by omega,by omega,by omega,?_⟩
  exact bt (by omega) ⟨(by first | rfl | (simp (disch:=omega) only [go_sem,jA,jB,jC,jD,jE,jF,jG,jH,jI,jJ,↓reduceIte,reduceCtorEq,jP,jO,jM,jN]; try rfl)),_,(by first | rfl | (simp (disch:=omega) only [go_sem,jA,jB,jC,jD,jE,jF,jG,jH,jI,jJ,↓reduceIte,reduceCtorEq,jP,jO,jM,jN]; try rfl)),b3.1,b3.2,hc⟩
 obtain rfl:i=7:=by omega
 rw [List.drop_of_length_le (by omega),p7] at hc
 try simp (disch:=omega) only [go_sem,jB,jF,↓reduceIte,hx]
 rw [hc]
 exact aA.pure rfl
theorem yB (l:List Int) (x:Int) (f:Nat) (fs:List AV) (hl:l.length≤4611686018427387904) (hs:JZ l)
  (hp:∀ z∈fs,z.cG=true) (hf:∀ (i:Nat) (y:Int),l[i]?=some y→PC prog f (fs++[.int .i64 i]) (.bool (decide (x≤y)))) :
  PC prog AA [.int .i64 l.length,.pN f fs] (.int .i64 (cT l x)):=by
 refine ae AW (by simp) ?_
 simp only [rI,go_sem,jF,↓reduceIte,reduceCtorEq]
 refine wE [5,6,7,9,10,11,12,13,14,15,16,17,18,19,20,21,22,23,24] (by kernel_rfl) (fun k e _=>∃ i j:Nat,e 5=.int .i64 i∧e 6=.int .i64 j∧i≤j∧j≤l.length∧k=j-i∧(∀ k,k<i→∀ y,l[k]?=some y→y<x)∧(∀ k,j≤k→∀ y,l[k]?=some y→x≤y)) l.length ?_ ?_
 ·exact ⟨0,l.length,(by first | rfl | (simp (disch:=omega) only [go_sem,jA,jB,jC,jD,jE,jF,jG,jH,jI,jJ,↓reduceIte,reduceCtorEq,jP,jO,jM,jN]; try rfl)),(by first | rfl | (simp (disch:=omega) only [go_sem,jA,jB,jC,jD,jE,jF,jG,jH,jI,jJ,↓reduceIte,reduceCtorEq,jP,jO,jM,jN]; try rfl)),by omega,by omega,by omega,fun k hk=>by omega,fun k hk y hy=>by have:=(List.getElem?_eq_some_iff.1 hy).1; omega⟩
 ·rintro r fe ob c ⟨i,j,h7,h8,hij,hjl,rfl,hlo,hhi⟩
  simp (maxSteps:=1000000) only [go_sem,jF,↓reduceIte] at h7 h8
  try simp (disch:=omega) only [go_sem,jF,↓reduceIte,h7,h8]
  refine aj (fun hlt=>?_) (fun hge=>?_)
  ·have hij2:i<j:=by omega
   try simp (disch:=omega) only [go_sem,jF,↓reduceIte,reduceCtorEq,jO,wrap_u64,EI,Option.some.injEq,exists_eq_left']
   generalize hm:(i+j) / 2=m
   have hmi:((i:Int)+j) / 2=(m:Int):=by omega
   have hg:l[m]?=some l[m]:=List.getElem?_eq_getElem (by omega)
   have hfm:=hf m _ hg
   try simp (disch:=omega) only [go_sem,hmi]
   refine ab hfm (by simp only [List.mem_append,List.mem_singleton]; rintro a (h | rfl); exact hp a h; rfl) ?_
   try simp (disch:=omega) only [go_sem,↓reduceIte]
   refine bn (fun hlt=>?_) (fun hge=>?_)
   ·try simp (disch:=omega) only [go_sem,jF,↓reduceIte,jO]
    refine ⟨j-(m+1),by omega,_,Nat.le_refl _,rfl,m+1,j,(by first | rfl | (simp (disch:=omega) only [go_sem,jA,jB,jC,jD,jE,jF,jG,jH,jI,jJ,↓reduceIte,reduceCtorEq,jP,jO,jM,jN]; try rfl)),(by first | rfl | (simp (disch:=omega) only [go_sem,jA,jB,jC,jD,jE,jF,jG,jH,jI,jJ,↓reduceIte,reduceCtorEq,jP,jO,jM,jN]; try rfl)),by omega,by omega,by omega,fun k hk y hy=>?_,hhi⟩
    by_cases e:k=m
    ·subst e; rw [hg] at hy; obtain rfl:=Option.some.inj hy; omega
    ·have:=hs k m (by omega) y _ hy hg; omega
   ·try simp (disch:=omega) only [go_sem,jF,↓reduceIte]
    refine ⟨m-i,by omega,_,Nat.le_refl _,rfl,i,m,(by first | rfl | (simp (disch:=omega) only [go_sem,jA,jB,jC,jD,jE,jF,jG,jH,jI,jJ,↓reduceIte,reduceCtorEq,jP,jO,jM,jN]; try rfl)),(by first | rfl | (simp (disch:=omega) only [go_sem,jA,jB,jC,jD,jE,jF,jG,jH,jI,jJ,↓reduceIte,reduceCtorEq,jP,jO,jM,jN]; try rfl)),by omega,by omega,by omega,hlo,fun k hk y hy=>?_⟩
    by_cases e:k=m
    ·subst e; rw [hg] at hy; obtain rfl:=Option.some.inj hy; omega
    ·have:=hs m k (by omega) _ y hg hy; omega
  ·have hij2:i=j:=by omega
   subst hij2
   have hb:=zU l x i hjl hlo hhi
   rw [hb]
   try simp (disch:=omega) only [go_sem,jF,↓reduceIte,jL]
   exact aA.pure rfl
theorem mg (l:List Pn) (x:Int) (i:Nat) (p:Pn) (hp:l[i]?=some p):PC prog fq [.agg [.list 3 (pv l),.int .i64 x],.int .i64 i] (.bool (decide (x≤p.id))):=by
 have hil:=(List.getElem?_eq_some_iff.1 hp).1
 refine ae nE (by simp) ?_
 simp only [fA,go_sem,jF,jG,jH,↓reduceIte,reduceCtorEq]
 try simp (disch:=omega) only [go_sem,↓reduceIte,ba,jR,hp,Option.map_some,rh]
 refine ⟨by omega,by omega,?_⟩
 try simp (disch:=omega) only [go_sem,jA,jB,jC,jD,jE,jF,jG,jH,jI,jJ,↓reduceIte,reduceCtorEq,jO,jM,jN,jK,jL]
 exact aA.pure rfl
def ids (l:List Pn):List Int:=l.map Pn.id
theorem La {l:List Pn} {x:Int} (hs:JZ (ids l)):(∀ p,l[cT (ids l) x]?=some p→p.id=x→l.find? (fun p=>decide (p.id=x))=some p)∧((∀ p,l[cT (ids l) x]?=some p→p.id≠x)→l.find? (fun p=>decide (p.id=x))=none):=by
 refine ⟨fun p hp hx=>?_,fun h=>?_⟩
 ·obtain ⟨hi,rfl⟩:=List.getElem?_eq_some_iff.1 hp
  refine Eo hi ?_ (by simp [hx])
  rw [List.find?_eq_none]
  intro q hq
  obtain ⟨j,hj⟩:=List.getElem?_of_mem hq
  rw [List.getElem?_take] at hj
  split at hj
  ·rename_i hji
   have hj2:(ids l)[j]?=some q.id:=by simp [ids,hj]
   have:=List.not_of_lt_findIdx hji
   rw [List.getElem?_eq_some_iff] at hj2
   obtain ⟨_,e⟩:=hj2
   rw [e] at this
   simp at this ⊢
   omega
  ·cases hj
 ·rw [List.find?_eq_none]
  intro q hq
  obtain ⟨j,hj⟩:=List.getElem?_of_mem hq
  simp only [decide_eq_true_eq]
  intro e
  have hm:x∈ids l:=List.mem_map.2 ⟨q,hq,e⟩
  have:=(qF (ids l) x hs).2 hm
  simp only [ids,List.getElem?_map,Option.map_eq_some_iff] at this
  obtain ⟨p,hp,hx⟩:=this
  exact h p hp hx
theorem fL (K:Dk) (x:Int) (hl:K.ps.length≤4611686018427387904) (hs:JZ (ids K.ps)):PC prog vL [.list 3 (pv K.ps),.int .i64 x] (.tuple [rh (cH K x).1,.bool (cH K x).2]):=by
 refine ae wA (by simp) ?_
 simp only [nA,go_sem,jF,jG,jH,↓reduceIte,reduceCtorEq]
 try simp (disch:=omega) only [go_sem,ba]
 have hS:=yB (ids K.ps) x fq [.agg [.list 3 (pv K.ps),.int .i64 x]] (by simpa [ids] using hl) hs (by simp [go_sem]) (fun i y hy=>by
  simp only [ids,List.getElem?_map,Option.map_eq_some_iff] at hy
  obtain ⟨p,hp,rfl⟩:=hy
  exact mg K.ps x i p hp)
 rw [show (ids K.ps).length=K.ps.length by simp [ids]] at hS
 have hb:=we (ids K.ps) x
 rw [show (ids K.ps).length=K.ps.length by simp [ids]] at hb
 obtain ⟨hf1,hf2⟩:=La (x:=x) hs
 generalize cT (ids K.ps) x=i at *
 refine ab hS (by simp [go_sem]) ?_
 try simp (disch:=omega) only [go_sem,jF,↓reduceIte,reduceCtorEq,ba]
 refine bC rfl (fun h=>?_) (fun h=>?_)
 ·have e:K.ps.find? (fun p=>decide (p.id=x))=none:=hf2 fun p hp=>by have:=(List.getElem?_eq_some_iff.1 hp).1; omega
  try simp (disch:=omega) only [go_sem,jF,jG,jH,↓reduceIte,reduceCtorEq]
  have:cH K x=(BB,false):=by rw [cH,e]
  rw [this]
  exact aA.pure rfl
 ·have hil:i<K.ps.length:=by omega
  have hg:K.ps[i]?=some K.ps[i]:=List.getElem?_eq_getElem hil
  generalize K.ps[i]=p at *
  try simp (disch:=omega) only [go_sem,jF,jH,↓reduceIte,reduceCtorEq,ba,jR,hg,Option.map_some,rh]
  refine ⟨by omega,by omega,?_⟩
  refine bn (fun h2=>?_) (fun h2=>?_)
  ·have e:K.ps.find? (fun p=>decide (p.id=x))=none:=hf2 fun q hq=>by rw [hg] at hq; obtain rfl:=Option.some.inj hq; exact h2
   try simp (disch:=omega) only [go_sem,jF,jG,jH,↓reduceIte,reduceCtorEq]
   have:cH K x=(BB,false):=by rw [cH,e]
   rw [this]
   exact aA.pure rfl
  ·have e:=hf1 p hg (by omega)
   try simp (disch:=omega) only [go_sem,jF,jG,jH,↓reduceIte,reduceCtorEq,ba,jR,hg,Option.map_some,rh]
   refine ⟨by omega,by omega,?_⟩
   try simp (disch:=omega) only [go_sem,jA,jB,jC,jD,jE,jF,jG,jH,jI,jJ,↓reduceIte,reduceCtorEq,jO,jM,jN,jK,jL]
   have:cH K x=(p,true):=by rw [cH,e]
   rw [this]
   exact aA.pure rfl
def xa (K:Dk):Bool:=decide (K.ps.length≤12)&&(List.range K.ps.length).all (D7 K)
def tt (d:Dv):Bool:=decide (0≤d.site)&&decide (d.site<6)&&decide (0≤d.fr)&&decide (d.fr≤d.to)&&decide (d.to≤16777216)&&decide (0≤d.rel)&&decide (d.rel≤1073741824)
def tf (K:Dk) (l:List Int):Bool:=decide (l.length≤2)&&l.all (fun s=>(cH K s).2)&&(decide (l.length<2)||!decide ((cE K l).getD 0 0=(cE K l).getD 1 0))
theorem NN (K:Dk) (d:Dv):gC K d=(tt d&&tf K d.sg):=by
 rw [Bool.eq_iff_iff]
 simp only [gC,tt,tf,gL,Bool.and_eq_true,Bool.or_eq_true,decide_eq_true_eq,Bool.not_eq_true',decide_eq_false_iff_not]
 constructor
 ·rintro ⟨⟨⟨⟨⟨⟨⟨h1,h2⟩,h3⟩,h4⟩,h5⟩,h6⟩,h7⟩,h8⟩
  exact ⟨⟨⟨⟨⟨⟨⟨by omega,by omega⟩,by omega⟩,by omega⟩,by omega⟩,by omega⟩,by omega⟩,⟨h6,h7⟩,h8⟩
 ·rintro ⟨⟨⟨⟨⟨⟨⟨h1,h2⟩,h3⟩,h4⟩,h5⟩,h6⟩,h7⟩,⟨h8,h9⟩,h10⟩
  exact ⟨⟨⟨⟨⟨⟨⟨⟨by omega,by omega⟩,by omega⟩,by omega⟩,by omega⟩,⟨by omega,by omega⟩⟩,h8⟩,h9⟩,h10⟩
theorem CC (K:Dk) (i:Nat):D7 K i=true↔(1≤(gP K.ps i).id∧(gP K.ps i).id≤1073741824)∧(0<i→(gP K.ps (i-1)).id<(gP K.ps i).id)∧(1≤(gP K.ps i).role∧(gP K.ps i).role≤9)∧1≤(gP K.ps i).key∧(gP K.ps i).key≤1073741824:=by
 simp only [D7,gL,Bool.and_eq_true,decide_eq_true_eq,Bool.not_eq_true',Bool.and_eq_false_iff,decide_eq_false_iff_not]
 constructor
 ·rintro ⟨⟨⟨h1,h2⟩,h3⟩,h4⟩
  exact ⟨h1,fun h=>by rcases h2 with h2 | h2 <;> omega,h3,h4⟩
 ·rintro ⟨h1,h2,h3,h4⟩
  exact ⟨⟨⟨h1,by by_cases h:0<i; exact .inr (by have:=h2 h; omega); exact .inl h⟩,h3⟩,h4⟩
theorem Gm (K:Dk) (i:Nat):D9 K i=true↔(1≤(gD K.ds i).id∧(gD K.ds i).id<K.nx)∧(0<i→(gD K.ds (i-1)).id<(gD K.ds i).id)∧tt (gD K.ds i)=true∧tf K (gD K.ds i).sg=true:=by
 simp only [D9,NN,gL,Bool.and_eq_true,decide_eq_true_eq,Bool.not_eq_true',Bool.and_eq_false_iff,decide_eq_false_iff_not]
 constructor
 ·rintro ⟨⟨h1,h2⟩,h3⟩
  exact ⟨by omega,fun h=>by rcases h2 with h2 | h2 <;> omega,h3⟩
 ·rintro ⟨h1,h2,h3⟩
  exact ⟨⟨by omega,by by_cases h:0<i; exact .inr (by have:=h2 h; omega); exact .inl h⟩,h3⟩
theorem nF {n:Nat} {q:Nat→Bool}:(List.range n).all q=true↔∀ i,i<n→q i=true:=by simp
theorem Cz {K:Dk} (h:xa K=true):JZ (ids K.ps)∧K.ps.length≤12:=by
 simp only [xa,Bool.and_eq_true,decide_eq_true_eq,nF] at h
 obtain ⟨h1,h2⟩:=h
 refine ⟨fun i j hij x y hx hy=>?_,h1⟩
 have hg:∀ i x,(ids K.ps)[i]?=some x→i<K.ps.length∧x=(gP K.ps i).id:=fun i x hx=>by
  simp only [ids,List.getElem?_map,Option.map_eq_some_iff] at hx
  obtain ⟨p,hp,rfl⟩:=hx
  have hl:=(List.getElem?_eq_some_iff.1 hp).1
  rw [sL hl] at hp
  exact ⟨hl,by rw [Option.some.inj hp]⟩
 obtain ⟨_,rfl⟩:=hg i x hx
 obtain ⟨hj,rfl⟩:=hg j y hy
 clear hx hy
 have:∀ d,i+d<K.ps.length→(gP K.ps i).id≤(gP K.ps (i+d)).id:=fun d=>by
  induction d with
  | zero=>intro _; exact Int.le_refl _
  | succ d ih=>
   intro hd
   have:=ih (by omega)
   have h3:=((CC K (i+(d+1))).1 (h2 _ hd)).2.1 (by omega)
   rw [show i+(d+1)-1=i+d by omega] at h3
   omega
 have:=this (j-i) (by omega)
 rwa [show i+(j-i)=j by omega] at this
theorem Jc {K:Dk} (h:cj K=true):xa K=true:=by
 simp only [cj,Bool.and_eq_true] at h
 simp only [xa,Bool.and_eq_true]
 exact ⟨h.1.1.1.1,h.1.2⟩
theorem EE {K:Dk} (h:cj K=true):JZ (ids K.ps):=(Cz (Jc h)).1
theorem qM (K:Dk) (hl:K.ps.length≤9223372036854775807):PC prog sB [.list 3 (pv K.ps)] (.bool (xa K)):=by
 refine ae sT (by simp) ?_
 simp only [kU,go_sem,↓reduceIte,reduceCtorEq]
 try simp (disch:=omega) only [go_sem,ba]
 refine bd [2,3,5,8,9,10,11,12,13,14,15,16,17,18,19,20,21,22,23,24,25,26,27,28,29,30,31,32,33,34,35,36,37,38,39,40,41,42,43] (by kernel_rfl) K.ps.length (fun i e _=>e 8=.int .i64 i∧(∀ j,j<i→D7 K j=true)∧∃ la,e 3=.int .i64 la∧(i=0→la=0)∧(0<i→la=(gP K.ps (i-1)).id)) ?_ ?_
 ·exact ⟨(by first | rfl | (simp (disch:=omega) only [go_sem,jA,jB,jC,jD,jE,jF,jG,jH,jI,jJ,↓reduceIte,reduceCtorEq,jP,jO,jM,jN]; try rfl)),fun j hj=>by omega,0,(by first | rfl | (simp (disch:=omega) only [go_sem,jA,jB,jC,jD,jE,jF,jG,jH,jI,jJ,↓reduceIte,reduceCtorEq,jP,jO,jM,jN]; try rfl)),fun _=>rfl,fun h=>by omega⟩
 rintro i fe ob m c hi hm ⟨h8,hall,la,h3,hl0,hl1⟩
 simp (maxSteps:=1000000) only [go_sem,jF,↓reduceIte] at h8 h3 hm
 try simp (disch:=omega) only [go_sem,jF,↓reduceIte,h8]
 refine aj (fun hlt=>?_) (fun hge=>?_)
 ·have hil:i<K.ps.length:=by omega
  have hg:=sL hil
  have hok:=CC K i
  have no:∀ {σ:St},¬D7 K i=true→aA σ (.bool false) (.bool (xa K)):=fun h=>by
   have:xa K=false:=by
    simp only [xa,Bool.and_eq_false_iff]
    right
    rw [Bool.eq_false_iff]
    exact fun h2=>h (nF.1 h2 i hil)
   rw [this]; exact aA.pure rfl
  have hprev:0<i→1≤la:=fun h=>by
   have:=((CC K (i-1)).1 (hall (i-1) (by omega))).1.1
   rw [hl1 h]; omega
  rw [show (0<i→(gP K.ps (i-1)).id<(gP K.ps i).id)↔(0<i→la<(gP K.ps i).id) from ⟨fun h h0=>by rw [hl1 h0]; exact h h0,fun h h0=>by rw [←hl1 h0]; exact h h0⟩] at hok
  have hsn:D7 K i=true→∀ j,j<i+1→D7 K j=true:=fun h j hj=>by
   by_cases e:j=i
   ·subst e; exact h
   ·exact hall j (by omega)
  have hpi:(gP K.ps (i+1-1)).id=(gP K.ps i).id:=rfl
  generalize gP K.ps i=p at *
  try simp (disch:=omega) only [go_sem,jF,jG,jH,↓reduceIte,h3,ba,jR,hg,Option.map_some,rh]
  refine ⟨by omega,by omega,?_⟩
  refine bC rfl (fun g1=>?_) (fun g1=>?_) <;> try simp (disch:=omega) only [go_sem,jF,jH,↓reduceIte]
  ·refine no fun h=>?_
   have:=hok.1 h
   rcases Nat.eq_zero_or_pos i with h0 | h0
   ·have:=hl0 h0; omega
   ·have:=this.2.1 h0; omega
  refine bC rfl (fun g2=>?_) (fun g2=>?_) <;> try simp (disch:=omega) only [go_sem,jF,jG,jH,↓reduceIte]
  ·exact no fun h=>by have:=hok.1 h; omega
  refine bC rfl (fun g3=>?_) (fun g3=>?_) <;> try simp (disch:=omega) only [go_sem,jF,jG,jH,↓reduceIte]
  ·exact no fun h=>by have:=hok.1 h; omega
  refine bC rfl (fun g4=>?_) (fun g4=>?_) <;> try simp (disch:=omega) only [go_sem,jF,jG,jH,↓reduceIte]
  ·exact no fun h=>by have:=hok.1 h; omega
  refine bC rfl (fun g5=>?_) (fun g5=>?_) <;> try simp (disch:=omega) only [go_sem,jF,jG,jH,↓reduceIte]
  ·exact no fun h=>by have:=hok.1 h; omega
  refine aj (fun g6=>?_) (fun g6=>?_) <;> try simp (disch:=omega) only [go_sem,jF,jH,↓reduceIte,jO]
  ·exact no fun h=>by have:=hok.1 h; omega
  have hlo:1≤p.id:=by
   rcases Nat.eq_zero_or_pos i with h0 | h0
   ·have:=hl0 h0; omega
   ·have:=hprev h0; omega
  refine aF m hil (by omega) ⟨(by first | rfl | (simp (disch:=omega) only [go_sem,jA,jB,jC,jD,jE,jF,jG,jH,jI,jJ,↓reduceIte,reduceCtorEq,jP,jO,jM,jN]; try rfl)),hsn (hok.2 ⟨⟨hlo,by omega⟩,fun _=>by omega,⟨by omega,by omega⟩,by omega,by omega⟩),p.id,(by first | rfl | (simp (disch:=omega) only [go_sem,jA,jB,jC,jD,jE,jF,jG,jH,jI,jJ,↓reduceIte,reduceCtorEq,jP,jO,jM,jN]; try rfl)),fun h=>by omega,fun _=>hpi.symm⟩
 obtain rfl:i=K.ps.length:=by omega
 try simp (disch:=omega) only [go_sem,↓reduceIte,reduceCtorEq,ba]
 refine aA.of_eq ?_ rfl
 congr 1
 rw [xa,nF.2 hall,Bool.and_true]
 rw [decide_eq_decide]; omega
theorem pF (d:Dv):PC prog qQ [jo d] (.bool (tt d)):=by
 have no:∀ {σ:St},tt d=false→aA σ (.bool false) (.bool (tt d)):=fun h=>by rw [h]; exact aA.pure rfl
 refine ae qY (by simp) ?_
 simp only [jt,jo,jY]
 try simp (disch:=omega) only [go_sem,jF,jG,jH,↓reduceIte]
 refine bB rfl (fun g1=>?_) (fun g1=>?_) <;> try simp (disch:=omega) only [go_sem,jF,jG,jH,↓reduceIte]
 case refine_2=>exact no (by simp [tt,g1])
 refine bB rfl (fun g2=>?_) (fun g2=>?_) <;> try simp (disch:=omega) only [go_sem,jF,jG,jH,↓reduceIte]
 case refine_2=>exact no (by simp [tt,g2])
 refine bB rfl (fun g3=>?_) (fun g3=>?_) <;> try simp (disch:=omega) only [go_sem,jF,jG,jH,↓reduceIte]
 case refine_2=>exact no (by simp [tt,g3])
 refine bB rfl (fun g4=>?_) (fun g4=>?_) <;> try simp (disch:=omega) only [go_sem,jF,jG,jH,↓reduceIte]
 case refine_2=>exact no (by simp [tt,g4])
 refine bB rfl (fun g5=>?_) (fun g5=>?_) <;> try simp (disch:=omega) only [go_sem,jF,jG,jH,↓reduceIte]
 case refine_2=>exact no (by simp [tt,g5])
 refine bB rfl (fun g6=>?_) (fun g6=>?_) <;> try simp (disch:=omega) only [go_sem,jF,jG,jH,↓reduceIte]
 case refine_2=>exact no (by simp [tt,g6])
 exact aA.of_eq (by simp [tt,g1,g2,g3,g4,g5,g6]) rfl
theorem qL (K:Dk) (l:List Int) (hl:K.ps.length≤4611686018427387904) (hs:JZ (ids K.ps)):PC prog sA [.list 3 (pv K.ps),.list 1 (ints l)] (.bool (tf K l)):=by
 refine ae sS (by simp) ?_
 simp only [kR,go_sem,jF,↓reduceIte,reduceCtorEq]
 try simp (disch:=omega) only [go_sem,aw]
 refine aj (fun h=>?_) (fun h=>?_) <;> try simp (disch:=omega) only [go_sem,jF,↓reduceIte,reduceCtorEq]
 ·have:tf K l=false:=by simp only [tf,Bool.and_eq_false_iff]; left; left; simp; omega
  rw [this]; exact aA.pure rfl
 have hl2:l.length≤2:=by omega
 refine bd [4,7,8,9,16,17,18,19,20,21,22,23,24,25,26,27,28,29,30,31,32,33,34,35,36,37] (by kernel_rfl) l.length (fun i e σ=>e 16=.int .i64 i∧(∀ j,j<i→∀ y,l[j]?=some y→(cH K y).2=true)∧(∃ es,σ.ob 0=some ⟨0,2,rA,false,false,es⟩∧(i=0→es=[])∧(i=1→es=[.agg [.int .i64 ((cE K l).getD 0 0),.bool true]]))∧(i=2→(cE K l).getD 0 0≠(cE K l).getD 1 0)) ?_ ?_
 ·exact ⟨(by first | rfl | (simp (disch:=omega) only [go_sem,jA,jB,jC,jD,jE,jF,jG,jH,jI,jJ,↓reduceIte,reduceCtorEq,jP,jO,jM,jN]; try rfl)),fun j hj=>by omega,⟨[],by try simp (disch:=omega) only [go_sem,↓reduceIte],fun _=>rfl,fun h=>by omega⟩,fun h=>by omega⟩
 rintro i fe ob m c hi hm ⟨h16,hall,⟨es,h0,e0,e1⟩,h2⟩
 simp (maxSteps:=1000000) only [go_sem,jF,↓reduceIte] at h16 h0 hm
 try simp (disch:=omega) only [go_sem,jF,↓reduceIte,h16,aw]
 refine aj (fun hlt=>?_) (fun hge=>?_)
 ·have hil:i<l.length:=by omega
  have hgl:l[i]?=some l[i]:=List.getElem?_eq_getElem hil
  have hgi:=bH l i
  rw [hgl] at hgi
  have hro:(cE K l).getD i 0=(cH K l[i]).1.role:=by simp [cE,List.getD_eq_getElem?_getD,hgl]
  have no:∀ {σ:St},tf K l=false→aA σ (.bool false) (.bool (tf K l)):=fun h=>by rw [h]; exact aA.pure rfl
  have hF:=fL K l[i] hl hs
  have hnf:(cH K l[i]).2=false→tf K l=false:=fun h=>by
   simp only [tf,Bool.and_eq_false_iff]; left; right
   rw [Bool.eq_false_iff]; intro h2
   rw [List.all_eq_true] at h2
   rw [h2 _ (List.getElem_mem hil)] at h; cases h
  have hsn:(cH K l[i]).2=true→∀ j,j<i+1→∀ y,l[j]?=some y→(cH K y).2=true:=fun h j hj y hy=>by
   by_cases e:j=i
   ·subst e; rw [hgl] at hy; obtain rfl:=Option.some.inj hy; exact h
   ·exact hall j (by omega) y hy
  generalize l[i]=s at *
  generalize hps:cH K s=ps at *
  obtain ⟨p,ok⟩:=ps
  simp only at hro hF hnf hsn
  have z0:¬(0:Nat)=m:=by omega
  try simp (disch:=omega) only [go_sem,jF,jH,↓reduceIte,reduceCtorEq,aw,hgi,Option.map_some]
  refine ⟨by omega,by omega,?_⟩
  refine ab hF (by simp [go_sem]) ?_
  cases ok
  ·try simp (disch:=omega) only [go_sem,jF,jG,jH,↓reduceIte,rh]
   exact no (hnf rfl)
  try simp (disch:=omega) only [go_sem,jF,jG,jH,↓reduceIte,rh,z0,h0]
  have hi2:i=0∨i=1:=by omega
  rcases hi2 with rfl | rfl
  ·obtain rfl:=e0 rfl
   try simp (disch:=omega) only [go_sem,jF,jG,jH,↓reduceIte,jO,jM,h0]
   refine aF m hil (by omega) ⟨(by first | rfl | (simp (disch:=omega) only [go_sem,jA,jB,jC,jD,jE,jF,jG,jH,jI,jJ,↓reduceIte,reduceCtorEq,jP,jO,jM,jN]; try rfl)),hsn rfl,⟨[.agg [.int .i64 ((cE K l).getD 0 0),.bool true]],?_,fun h=>by omega,fun _=>rfl⟩,fun h=>by omega⟩
   simp only [St.aC]; rw [if_pos (by omega),hro]
   simp [aZ]
  ·obtain rfl:=e1 rfl
   have hlen2:l.length=2:=by omega
   try simp (disch:=omega) only [go_sem]
   by_cases hq:p.role=(cE K l).getD 0 0
   ·try simp (disch:=omega) only [go_sem,↓reduceIte,hq]
    refine no ?_
    simp only [tf,Bool.and_eq_false_iff,Bool.or_eq_false_iff]
    right
    refine ⟨by simp; omega,?_⟩
    rw [hro,hq]; simp
   ·try simp (disch:=omega) only [go_sem,jF,jG,jH,↓reduceIte,jO,jM,hq,h0]
    refine aF m hil (by omega) ⟨(by first | rfl | (simp (disch:=omega) only [go_sem,jA,jB,jC,jD,jE,jF,jG,jH,jI,jJ,↓reduceIte,reduceCtorEq,jP,jO,jM,jN]; try rfl)),hsn rfl,?_,fun _=>by rw [hro]; exact fun e=>hq e.symm⟩
    exact ⟨_,by simp only [St.aC]; rw [if_pos (by omega)]; simp [aZ]; rfl,fun h=>by omega,fun h=>by omega⟩
 obtain rfl:i=l.length:=by omega
 try simp (disch:=omega) only [go_sem,↓reduceIte]
 have:tf K l=true:=by
  simp only [tf,Bool.and_eq_true,Bool.or_eq_true,decide_eq_true_eq,List.all_eq_true]
  refine ⟨⟨hl2,fun x hx=>?_⟩,?_⟩
  ·obtain ⟨j,hj⟩:=List.getElem?_of_mem hx
   exact hall j (List.getElem?_eq_some_iff.1 hj).1 x hj
  ·by_cases h3:l.length=2
   ·right; rw [decide_eq_false (h2 h3)]; rfl
   ·left; omega
 rw [this]
 exact aA.pure rfl
theorem fg (K:Dk) (hB:HD K):PC prog tV [bY K] (.bool (cj K)):=by
 have hlp:=hB.lp
 have hld:=hB.ld
 have no:∀ {σ:St},cj K=false→aA σ (.bool false) (.bool (cj K)):=fun h=>by rw [h]; exact aA.pure rfl
 have hce:cj K=(xa K&&gL K.nx 1 1073741824&&decide (K.ds.length≤64)&&(List.range K.ds.length).all (D9 K)):=by
  rw [Bool.eq_iff_iff]; simp only [cj,xa,Bool.and_eq_true]
  constructor
  ·rintro ⟨⟨⟨⟨h1,h2⟩,h3⟩,h4⟩,h5⟩; exact ⟨⟨⟨⟨h1,h4⟩,h2⟩,h3⟩,h5⟩
  ·rintro ⟨⟨⟨⟨h1,h4⟩,h2⟩,h3⟩,h5⟩; exact ⟨⟨⟨⟨h1,h2⟩,h3⟩,h4⟩,h5⟩
 refine ae uR (by simp) ?_
 simp only [l6,bY]
 try simp (disch:=omega) only [go_sem,jF,jG,jH,↓reduceIte]
 refine ab (qM K hlp) (by simp [go_sem]) ?_
 cases hpr:xa K
 ·try simp (disch:=omega) only [go_sem,jF,↓reduceIte]
  exact no (by rw [hce,hpr]; simp)
 try simp (disch:=omega) only [go_sem,jF,jG,jH,↓reduceIte]
 refine bC rfl (fun g1=>?_) (fun g1=>?_) <;> try simp (disch:=omega) only [go_sem,jF,jG,jH,↓reduceIte]
 ·exact no (by rw [hce]; simp [gL]; intros; omega)
 refine bC rfl (fun g2=>?_) (fun g2=>?_) <;> try simp (disch:=omega) only [go_sem,jF,jG,jH,↓reduceIte,aV]
 ·exact no (by rw [hce]; simp [gL]; intros; omega)
 refine aj (fun g3=>?_) (fun g3=>?_) <;> try simp (disch:=omega) only [go_sem,jF,jG,jH,↓reduceIte,aV]
 ·exact no (by rw [hce]; simp [gL]; intros; omega)
 have hasc:=(Cz hpr).1
 have hc1:cj K=(List.range K.ds.length).all (D9 K):=by
  rw [hce,hpr,show gL K.nx 1 1073741824=true by simp [gL]; omega,show decide (K.ds.length≤64)=true by simp; omega]; simp
 refine bd [2,3,5,29,30,31,32,33,34,35,36,37,38,39,40,41,42,43,44,45,46,47,48,49,50,51,52,53,54,55,56,57,58,59] (by kernel_rfl) K.ds.length (fun i e σ=>e 29=.int .i64 i∧σ.ob 0=some ⟨0,3,44,false,true,[.agg [.list 3 (pv K.ps),.int .i64 K.nx,.list 7 (xA K.ds)]]⟩∧(∀ j,j<i→D9 K j=true)∧∃ la,e 3=.int .i64 la∧(i=0→la=0)∧(0<i→la=(gD K.ds (i-1)).id)) ?_ ?_
 ·exact ⟨(by first | rfl | (simp (disch:=omega) only [go_sem,jA,jB,jC,jD,jE,jF,jG,jH,jI,jJ,↓reduceIte,reduceCtorEq,jP,jO,jM,jN]; try rfl)),by try simp (disch:=omega) only [go_sem,↓reduceIte],fun j hj=>by omega,0,(by first | rfl | (simp (disch:=omega) only [go_sem,jA,jB,jC,jD,jE,jF,jG,jH,jI,jJ,↓reduceIte,reduceCtorEq,jP,jO,jM,jN]; try rfl)),fun _=>rfl,fun h=>by omega⟩
 rintro i fe ob m c hi hm ⟨h8,hob,hall,la,h3,hl0,hl1⟩
 simp (maxSteps:=1000000) only [go_sem,jF,↓reduceIte] at h8 h3 hm hob
 try simp (disch:=omega) only [go_sem,jF,↓reduceIte,h8]
 refine aj (fun hlt=>?_) (fun hge=>?_)
 ·have hil:i<K.ds.length:=by omega
  have hg:=ik hil
  have hok:=Gm K i
  have no:∀ {σ:St},¬D9 K i=true→aA σ (.bool false) (.bool (cj K)):=fun h=>by
   have:cj K=false:=by
    rw [hc1,Bool.eq_false_iff]
    exact fun h2=>h (nF.1 h2 i hil)
   rw [this]; exact aA.pure rfl
  have hprev:0<i→1≤la:=fun h=>by
   have:=((Gm K (i-1)).1 (hall (i-1) (by omega))).1.1
   rw [hl1 h]; omega
  rw [show (0<i→(gD K.ds (i-1)).id<(gD K.ds i).id)↔(0<i→la<(gD K.ds i).id) from ⟨fun h h0=>by rw [hl1 h0]; exact h h0,fun h h0=>by rw [←hl1 h0]; exact h h0⟩] at hok
  have hsn:D9 K i=true→∀ j,j<i+1→D9 K j=true:=fun h j hj=>by
   by_cases e:j=i
   ·subst e; exact h
   ·exact hall j (by omega)
  have hpi:(gD K.ds (i+1-1)).id=(gD K.ds i).id:=rfl
  have hPl:=pF (gD K.ds i)
  have hSg:=qL K (gD K.ds i).sg (by have:=(Cz hpr).2; omega) hasc
  generalize gD K.ds i=d at *
  have z0:¬(0:Nat)=m:=by omega
  simp only [jo,jY] at hPl
  try simp (disch:=omega) only [go_sem,jF,jG,jH,↓reduceIte,h3,aV,ek,hg,Option.map_some,jo,jY]
  refine ⟨by omega,by omega,?_⟩
  refine bC rfl (fun g4=>?_) (fun g4=>?_) <;> try simp (disch:=omega) only [go_sem,jF,jG,jH,↓reduceIte,z0,hob]
  ·refine no fun h=>?_
   have:=hok.1 h
   rcases Nat.eq_zero_or_pos i with h0 | h0
   ·have:=hl0 h0; omega
   ·have:=this.2.1 h0; omega
  refine bC rfl (fun g5=>?_) (fun g5=>?_) <;> try simp (disch:=omega) only [go_sem,jF,jH,↓reduceIte]
  ·exact no fun h=>by have:=hok.1 h; omega
  refine ab hPl (by simp [go_sem]) ?_
  cases hp:tt d
  ·try simp (disch:=omega) only [go_sem,jF,↓reduceIte]
   exact no fun h=>by have:=(hok.1 h).2.2.1; rw [hp] at this; cases this
  try simp (disch:=omega) only [go_sem,jF,jG,jH,↓reduceIte,z0,hob]
  refine ab hSg (by simp [go_sem]) ?_
  cases hq:tf K d.sg
  ·try simp (disch:=omega) only [go_sem,jF,↓reduceIte]
   exact no fun h=>by have:=(hok.1 h).2.2.2; rw [hq] at this; cases this
  try simp (disch:=omega) only [go_sem,jF,jH,↓reduceIte,jO]
  have hlo:1≤d.id:=by
   rcases Nat.eq_zero_or_pos i with h0 | h0
   ·have:=hl0 h0; omega
   ·have:=hprev h0; omega
  refine aF m hil (by omega) ⟨(by first | rfl | (simp (disch:=omega) only [go_sem,jA,jB,jC,jD,jE,jF,jG,jH,jI,jJ,↓reduceIte,reduceCtorEq,jP,jO,jM,jN]; try rfl)),?_,hsn (hok.2 ⟨⟨hlo,by omega⟩,fun _=>by omega,hp,hq⟩),d.id,(by first | rfl | (simp (disch:=omega) only [go_sem,jA,jB,jC,jD,jE,jF,jG,jH,jI,jJ,↓reduceIte,reduceCtorEq,jP,jO,jM,jN]; try rfl)),fun h=>by omega,fun _=>hpi.symm⟩
  simp only [St.aC]; rw [if_pos (by omega)]; repeat rw [aa _ _ _ _ (by omega)]
  exact hob
 obtain rfl:i=K.ds.length:=by omega
 try simp (disch:=omega) only [go_sem,↓reduceIte]
 rw [hc1,nF.2 hall]
 exact aA.pure rfl
theorem su (K:Dk) (hB:HD K):PC prog tW [bY K] (.int .i64 (qa K)):=by
 refine ae uS (by simp) ?_
 simp only [l7]
 try simp (disch:=omega) only [go_sem,jF,jH,↓reduceIte,db,dy,iq]
 refine ab (fg K hB) (by simp [en]) ?_
 rw [qa]
 cases cj K <;> try simp (disch:=omega) only [go_sem,↓reduceIte,reduceCtorEq] <;> exact aA.pure rfl
theorem qT (σ:St) (d:Dv) (hd:d.sg.length≤1000000):HC prog sC [jo d] σ (fun r τ=>∃ E,r=jY d E∧cd 1 Bs τ (ints d.sg) E∧σ.n≤τ.n∧∀ i,i<σ.n→τ.ob i=σ.ob i∧aU E i):=by
 obtain ⟨dF,n0,c0⟩:=σ
 refine aM sV (by simp) ?_
 simp only [kW,jo,jY]
 try simp (disch:=omega) only [go_sem,jF,jG,jH,↓reduceIte,jM]
 refine (gM _ (ints d.sg) (by rw [aw]; omega)).mono ?_
 rintro E ⟨ob1,n1,c1⟩ hN
 obtain ⟨hE,h1,h2,h3⟩:=hN.TF
 simp only at h1 h2 h3
 have u0:=h2 n0 (by omega)
 have u1:=h2 (n0+1) (by omega)
 try simp (disch:=omega) only [go_sem,↓reduceIte,jM] at u0
 try simp (disch:=omega) only [go_sem,↓reduceIte] at u1
 have z1:¬n0+1=n0:=by omega
 have z2:¬n0=n0+1:=by omega
 try simp (disch:=omega) only [go_sem,jF,jG,jH,↓reduceIte,u0,u1,hE.flat,hE.cells,hE.one,z1]
 refine ⟨E,rfl,hE.move (Nat.le_refl _) fun i hi hh=>?_,by omega,fun i hi=>⟨?_,h3 i (by omega)⟩⟩
 ·have hg:n0+1<i:=Nat.lt_of_not_le fun h=>hh (h3 i (by omega))
  simp only
  rw [aa _ _ _ _ (by omega),aa _ _ _ _ (by omega)]
 ·rw [if_neg (by omega),if_neg (by omega),h2 i (by omega)]
  repeat rw [aa _ _ _ _ (by omega)]
theorem fV (σ:St) (K:Dk) (h1:K.ps.length≤1000000) (h4:K.ds.length≤1000000) (h5:∀ d∈K.ds,d.sg.length≤1000000):HC prog vJ [bY K] σ (TO σ K):=by
 obtain ⟨dF,n0,c0⟩:=σ
 refine aM wx (by simp) ?_
 simp only [nr,bY]
 try simp (disch:=omega) only [go_sem,jF,jG,jH,↓reduceIte,jM]
 refine (eL _ (pv K.ps) (by rw [ba]; omega)).mono ?_
 rintro XP ⟨ob1,n1,c1⟩ hN
 obtain ⟨hP,k1,k2,k3⟩:=hN.TF
 simp only at k1 k2 k3
 have k1':n0+2≤n1:=k1
 have u0:=k2 n0 (by omega)
 have u1:=k2 (n0+1) (by omega)
 try simp (disch:=omega) only [go_sem,↓reduceIte,jM] at u0
 try simp (disch:=omega) only [go_sem,↓reduceIte] at u1
 have w0:¬n0=n1:=by omega
 have w1:¬n0+1=n1:=by omega
 try simp (disch:=omega) only [go_sem,jF,jG,jH,↓reduceIte,reduceCtorEq,jM,u0,w0,hP.flat,hP.cells,hP.one,aV]
 refine bd [5,15,16,17,18,19,20,21,22,23,24,25,26] (by kernel_rfl) K.ds.length (fun k e σ=>e 15=.int .i64 k∧n1+1≤σ.n∧(∀ i,i<n1→σ.ob i=ob1 i)∧
  ∃ Y Fs,σ.ob n1=some ⟨c1,3,44,false,true,[.agg [XP,.int .i64 K.nx,Y]]⟩∧cd 7 GQ σ (cq (K.ds.take k) Fs) Y∧IC 1 Kq σ Fs (lq (K.ds.take k))∧Hv σ (n1+1) Y Fs) ?_ ?_
 ·refine ⟨(by first | rfl | (simp (disch:=omega) only [go_sem,jA,jB,jC,jD,jE,jF,jG,jH,jI,jJ,↓reduceIte,reduceCtorEq,jP,jO,jM,jN]; try rfl)),Nat.le_refl _,fun i hi=>?_,.nil,[],by try simp (disch:=omega) only [go_sem,↓reduceIte],by simp [cq]; exact cd.nil,IC.nil _ _ _,Hv.nil _ _⟩
  simp only
  rw [aa _ _ _ _ (by omega),aa _ _ _ _ (by omega)]
 rintro k fe ob m c hk hm ⟨h15,hm1,ho,Y,Fs,hb,hY,hJ,hH⟩
 simp (maxSteps:=1000000) only [go_sem,jF,↓reduceIte] at h15 hm hm1 ho hb
 try simp (disch:=omega) only [go_sem,jF,↓reduceIte,h15]
 refine aj (fun hlt=>?_) (fun hge=>?_)
 ·have hkl:k<K.ds.length:=by omega
  have hk2:K.ds[k]?=some K.ds[k]:=List.getElem?_eq_getElem hkl
  have hxl:=h5 _ (List.getElem_mem hkl)
  have htk:K.ds.take (k+1)=K.ds.take k++[K.ds[k]]:=eS _ _ hkl
  have hEl:Fs.length=k:=by have:=hJ.1; simp [lq] at this; omega
  have hC:=fun σ=>qT σ K.ds[k] hxl
  generalize K.ds[k]=w at *
  have z1:¬n1=m:=by omega
  have z2:¬m=n1:=by omega
  simp only [jo,jY] at hC
  try simp (disch:=omega) only [go_sem,jF,jG,jH,↓reduceIte,aV,ek,hk2,Option.map_some,jo,jY,z1,hb]
  refine ⟨by omega,by omega,?_⟩
  refine (hC _).mono ?_
  rintro r ⟨ob6,m6,c6⟩ ⟨E,rfl,hE,e1,e2⟩
  simp only at e1 e2
  have e2':∀ i,i<m→ob6 i=ob i:=fun i hi=>(e2 i (by omega)).1.trans (by rw [aa _ _ _ _ (by omega),aa _ _ _ _ (by omega)])
  have e3':∀ i,i<m+1→aU E i:=fun i hi=>(e2 i hi).2
  have z3:¬n1=m6:=by omega
  have hb6:=(e2' n1 (by omega)).trans hb
  have oY:∀ i,i<n1+1→aU Y i:=fun i hi=>aU.em fun h=>by have:=(hH.low i h).1; omega
  have oYm:∀ i,m≤i→aU Y i:=fun i hi=>hY.G0 hi
  clear e2
  try simp (disch:=omega) only [go_sem,jF,jG,↓reduceIte,jM,hE.one,z3,hb6]
  refine ⟨hb.symm,?_⟩
  refine wF (ER.cW (L:=[jY w E]) (ay _ _ _) (Nat.lt_succ_self _)) ?_
  have hYl:(cq (K.ds.take k) Fs).length≤1000000:=by simp [cq]; omega
  refine bz (b:=72) (hY.move (by simp only; omega) fun i hi hh=>?_) (by omega) (by omega) fun Y' τ2 hY2 kY=>?_
  ·simp only at hi ⊢
   rw [aa _ _ _ _ (by omega),e2' i hi]
  obtain ⟨ob7,m7,c7⟩:=τ2
  have q1:m6+1≤m7:=kY.1
  have q2:∀ i,i<m→aU Y i→ob7 i=ob i:=fun i hi h=>(kY.2.1 i (by simp only; omega) h).trans (by simp only; rw [aa _ _ _ _ (by omega),e2' i hi])
  have q3:∀ i,m+1≤i→i<m6→ob7 i=ob6 i:=fun i hi hi2=>(kY.2.1 i (by simp only; omega) (oYm i (by omega))).trans (by simp only; rw [aa _ _ _ _ (by omega)])
  have hb7:=(q2 n1 (by omega) (oY n1 (by omega))).trans hb
  have hEi:∀ i,¬aU E i→m+1≤i∧i<m6:=fun i hi=>⟨Nat.le_of_not_lt fun h=>hi (e3' i h),hE.lt hi⟩
  have oY':∀ i,¬aU Y' i→i≠n1:=fun i hi e=>hi (e ▸ kY.2.2 n1 (by simp only; omega) (oY n1 (by omega)))
  try simp (disch:=omega) only [go_sem,jF,jG,jH,↓reduceIte,reduceCtorEq,jO,jM,hb7,hY2.flat,hY2.cells]
  refine aF m7 hkl (by omega) ⟨(by first | rfl | (simp (disch:=omega) only [go_sem,jA,jB,jC,jD,jE,jF,jG,jH,jI,jJ,↓reduceIte,reduceCtorEq,jP,jO,jM,jN]; try rfl)),by simp only [St.aC]; omega,fun i hi=>?_,Y',Fs++[E],?_,?_,?_,?_⟩
  ·rw [aX (by omega),aa _ _ _ _ (by omega),q2 i (by omega) (oY i (by omega))]; exact ho i hi
  ·rw [aX (by omega)]; simp [aZ]
  ·rw [htk,qD (by simp; omega)]
   exact hY2.move (by simp only [St.aC]; omega) fun i hi hh=>by
    simp only at hi
    rw [aX hi,aa _ _ _ _ (oY' i hh)]
  ·rw [htk,show lq (K.ds.take k++[w])=lq (K.ds.take k)++[ints w.sg] by simp [lq]]
   refine IC.snoc (hJ.move (by simp only [St.aC]; omega) fun F hF2 i hi hlt=>?_) (hE.move (by simp only [St.aC]; omega) fun i hlt hi=>?_)
   ·have hi1:=(hH.Eh F hF2 i hi).1
    simp only at hlt
    rw [aX (by omega),aa _ _ _ _ (by omega),q2 i hlt (hH.sep F hF2 i hi)]
   ·have hi1:=hEi i hi
    rw [aX (by omega),aa _ _ _ _ (by omega),q3 i hi1.1 hi1.2]
  ·exact (hH.snoc (by simp only; omega) (show m≤m6+1 by omega) (fun i hi=>⟨by have:=(hEi i hi).1; simp only; omega,by have:=(hEi i hi).2; simp only; omega⟩) kY fun i hi=>hY2.G0 hi).up (Nat.le_refl _)
 obtain rfl:k=K.ds.length:=by omega
 rw [List.take_length] at hY hJ
 have v1:ob (n0+1)=_:=(ho (n0+1) (by omega)).trans u1
 have zz:¬n0+1=n1:=by omega
 have zz2:¬n1=n0+1:=by omega
 try simp (disch:=omega) only [go_sem,jF,jG,jH,↓reduceIte,hb,v1,hY.one,hP.one]
 have k3':∀ i,¬aU XP i→n0+2≤i:=fun i hi=>Nat.le_of_not_lt fun h=>hi (k3 i h)
 refine ⟨XP,Y,Fs,n1+1,rfl,by simp only; omega,hm1,hP.move (by simp only; omega) fun i hi hh=>?_,fun i hi=>⟨by have:=k3' i hi; simp only; omega,by have:=hP.lt hi; simp only at this; omega⟩,hY.move (Nat.le_refl _) fun i hi hh=>?_,hJ.move (Nat.le_refl _) fun E hE i hi hh=>?_,hH.up (Nat.le_refl _),fun i hi=>?_⟩
 ·have h1:=k3' i hh
  simp only at hi ⊢
  rw [aa _ _ _ _ (by omega),ho i hi]
 ·have h1:=(hH.low i hh).1
  simp only
  rw [aa _ _ _ _ (by omega)]
 ·have h1:=(hH.Eh E hE i hi).1
  simp only
  rw [aa _ _ _ _ (by omega)]
 ·simp only at hi ⊢
  rw [aa _ _ _ _ (by omega),ho i (by omega),k2 i (by omega)]
  repeat rw [aa _ _ _ _ (by omega)]
def TQ (σ τ:St):Prop:=σ.n≤τ.n∧∀ k,k<σ.n→τ.ob k=σ.ob k
theorem BO {α:Type} {l:List α} {q:α→Bool} {k:Nat} {x:α} (hk:l[k]?=some x) (hj:∀ j,j<k→∀ y,l[j]?=some y→q y=false) (hq:q x=false):∀ j,j<k+1→∀ y,l[j]?=some y→q y=false:=fun j hj2 y hy=>by
 by_cases e:j=k
 ·subst e; rw [hk] at hy; obtain rfl:=Option.some.inj hy; exact hq
 ·exact hj j (by omega) y hy
def TP (σ:St) (f:Nat) (caps:List AV) (q:Dv→Bool):Prop:=
 ∀ (τ:St) (x:Dv),σ.n≤τ.n→(∀ k,k<σ.n→τ.ob k=σ.ob k)→HC prog f (jo x :: caps) τ (fun r τ'=>r=.bool (q x)∧TQ τ τ')
theorem oZ (l:List Int) (x:Int) (hl:l.length≤4611686018427387904):PC prog qO [.list 1 (ints l),.int .i64 x] (.int .i64 (match l.findIdx? (fun y=>decide (x=y)) with | some i=>(i:Int) | none=>-1)):=by
 refine ae qW (by simp) ?_
 simp only [jq,go_sem,↓reduceIte,reduceCtorEq]
 try simp (disch:=omega) only [go_sem,aw]
 refine bK [4,5,8,9,10,11,12,13,14,15,16,17,18] (by kernel_rfl) l.length (fun k e _=>e 8=.int .i64 k∧∀ j,j<k→∀ y,l[j]?=some y→decide (x=y)=false) ?_ ?_
 ·exact ⟨(by first | rfl | (simp (disch:=omega) only [go_sem,jA,jB,jC,jD,jE,jF,jG,jH,jI,jJ,↓reduceIte,reduceCtorEq,jP,jO,jM,jN]; try rfl)),fun j hj=>by omega⟩
 rintro k fe ob c hk ⟨hki,hj⟩
 simp (maxSteps:=1000000) only [go_sem,jF,↓reduceIte] at hki
 try simp (disch:=omega) only [go_sem,jF,↓reduceIte,hki]
 refine aj (fun hlt=>?_) (fun hge=>?_)
 ·have hkl:k<l.length:=by omega
  have hk2:l[k]?=some l[k]:=List.getElem?_eq_getElem hkl
  have hfi:decide (x=l[k])=true→l.findIdx? (fun y=>decide (x=y))=some k:=fun h=>by
   rw [List.findIdx?_eq_some_iff_getElem]
   exact ⟨hkl,h,fun j hjk=>by have:=hj j hjk l[j] (List.getElem?_eq_getElem (by omega)); simpa using this⟩
  have hnx:=BO hk2 hj
  generalize l[k]=y at *
  try simp (disch:=omega) only [go_sem,jF,jH,↓reduceIte,reduceCtorEq,aw,bH,hk2,Option.map_some]
  refine ⟨by omega,by omega,?_⟩
  refine aj (fun hq=>?_) (fun hq=>?_) <;> try simp (disch:=omega) only [go_sem,jF,↓reduceIte,jO]
  ·rw [hfi (by simpa using hq)]
   exact aA.pure rfl
  ·exact bt hkl ⟨(by first | rfl | (simp (disch:=omega) only [go_sem,jA,jB,jC,jD,jE,jF,jG,jH,jI,jJ,↓reduceIte,reduceCtorEq,jP,jO,jM,jN]; try rfl)),hnx (by simpa using hq)⟩
 ·obtain rfl:k=l.length:=by omega
  try simp (disch:=omega) only [go_sem,↓reduceIte]
  have:l.findIdx? (fun y=>decide (x=y))=none:=by
   rw [List.findIdx?_eq_none_iff]
   intro z hz
   obtain ⟨i,hi⟩:=List.getElem?_of_mem hz
   exact hj i (List.getElem?_eq_some_iff.1 hi).1 z hi
  rw [this]
  exact aA.pure rfl
theorem mj (l:List Int) (x:Int) (hl:l.length≤4611686018427387904):PC prog n4 [.list 1 (ints l),.int .i64 x] (.bool (decide (x∈l))):=by
 refine ae om (by simp) ?_
 simp only [gk,go_sem,jF,↓reduceIte,reduceCtorEq]
 refine ab (oZ l x hl) (by simp [go_sem]) ?_
 cases hf:l.findIdx? (fun y=>decide (x=y)) with
 | none=>
  try simp (disch:=omega) only [go_sem,jC,↓reduceIte]
  rw [List.findIdx?_eq_none_iff] at hf
  refine aA.of_eq ?_ rfl
  have:x∉l:=fun h=>by have:=hf x h; simp at this
  simp [this]
 | some i=>
  try simp (disch:=omega) only [go_sem,↓reduceIte]
  rw [List.findIdx?_eq_some_iff_getElem] at hf
  obtain ⟨h1,h2,_⟩:=hf
  refine aA.of_eq ?_ rfl
  have:x∈l:=by have:=of_decide_eq_true h2; rw [this]; exact List.getElem_mem h1
  simp [this]
theorem ij (σ:St) (l:List Dv) (f:Nat) (caps:List AV) (q:Dv→Bool) (hl:l.length≤1000000) (hcb:TP σ f caps q) :
  HC prog iL [.list 7 (xA l),.func f caps] σ (fun r τ=>r=.int .i64 (match l.findIdx? q with | some i=>(i:Int) | none=>-1)∧TQ σ τ):=by
 obtain ⟨dF,n0,c0⟩:=σ
 refine aM iP (by simp) ?_
 simp only [dm,go_sem,↓reduceIte,reduceCtorEq]
 try simp (disch:=omega) only [go_sem,aV]
 refine bd [4,5,8,9,10,11,12,13,14,15,16,17,18] (by kernel_rfl) l.length (fun k e τ=>e 8=.int .i64 k∧n0≤τ.n∧(∀ i,i<n0→τ.ob i=dF i)∧∀ j,j<k→∀ y,l[j]?=some y→q y=false) ?_ ?_
 ·exact ⟨(by first | rfl | (simp (disch:=omega) only [go_sem,jA,jB,jC,jD,jE,jF,jG,jH,jI,jJ,↓reduceIte,reduceCtorEq,jP,jO,jM,jN]; try rfl)),Nat.le_refl _,fun _ _=>rfl,fun j hj=>by omega⟩
 rintro k fe ob m c2 hk hm ⟨hki,hm1,ho,hj⟩
 simp (maxSteps:=1000000) only [go_sem,jF,↓reduceIte] at hki hm hm1 ho
 try simp (disch:=omega) only [go_sem,jF,↓reduceIte,hki]
 refine aj (fun hlt=>?_) (fun hge=>?_)
 ·have hkl:k<l.length:=by omega
  have hk2:l[k]?=some l[k]:=List.getElem?_eq_getElem hkl
  have hnx:=BO hk2 hj
  have hfi:q l[k]=true→l.findIdx? q=some k:=fun h=>by
   rw [List.findIdx?_eq_some_iff_getElem]
   exact ⟨hkl,h,fun j hjk=>by have:=hj j hjk l[j] (List.getElem?_eq_getElem (by omega)); simpa using this⟩
  have hcx:=hcb ⟨ob,m,c2⟩ l[k] hm1 fun i hi=>ho i hi
  generalize l[k]=y at *
  simp only [jo,jY] at hcx
  try simp (disch:=omega) only [go_sem,jF,jH,↓reduceIte,reduceCtorEq,aV,ek,hk2,Option.map_some,jo,jY]
  refine ⟨by omega,by omega,hcx.mono ?_⟩
  rintro r ⟨ob2,m2,c3⟩ ⟨rfl,hA1,hA2⟩
  simp only at hA1 hA2
  try simp (disch:=omega) only [go_sem,↓reduceIte]
  refine FO (fun hq=>?_) (fun hq=>?_) <;> try simp (disch:=omega) only [go_sem,jF,↓reduceIte,jO]
  ·rw [hfi hq]
   exact ⟨rfl,by simp only; omega,fun i hi=>by simp only at hi ⊢; rw [hA2 i (by omega),ho i hi]⟩
  ·exact aF m2 hkl (by omega) ⟨(by first | rfl | (simp (disch:=omega) only [go_sem,jA,jB,jC,jD,jE,jF,jG,jH,jI,jJ,↓reduceIte,reduceCtorEq,jP,jO,jM,jN]; try rfl)),by simp only [St.aC]; omega,fun i hi=>by rw [aX (by omega),hA2 i (by omega),ho i hi],hnx hq⟩
 ·obtain rfl:k=l.length:=by omega
  try simp (disch:=omega) only [go_sem,↓reduceIte]
  have:l.findIdx? q=none:=by
   rw [List.findIdx?_eq_none_iff]
   intro x hx
   obtain ⟨i,hi⟩:=List.getElem?_of_mem hx
   exact hj i (List.getElem?_eq_some_iff.1 hi).1 x hi
  rw [this]
  exact ⟨rfl,hm1,ho⟩
theorem qV (σ:St) (b g:Nat) (ty:TypeId) (ro ap:Bool) (id:Int) (hob:σ.ob b=some ⟨g,1,ty,ro,ap,[.int .i64 id]⟩) (hb:b<σ.n):TP σ kH [.ptr b g 1 0 0] (fun d=>decide (d.id=id)):=by
 rintro ⟨ob,m,c⟩ x hn ho
 simp only at hn ho
 refine aM sU (by simp) ?_
 simp only [kV,jo,jY]
 have h1:=(ho b hb).trans hob
 have h2:¬b=m:=by omega
 try simp (disch:=omega) only [go_sem,jF,jG,jH,↓reduceIte,reduceCtorEq,h1,h2]
 refine ⟨?_,fun i hi=>?_⟩
 ·simp only; omega
 ·simp only at hi ⊢
  rw [aa _ _ _ _ (by omega)]
def QN (K:Dk) (who code now kind:Int) (d:Dv) (i:Nat):Int × Pn × Int:=
 if d.wd=true∨d.to<now then (0,BB,44) else if (cH K who).2=false then (0,BB,11) else
  if code≠rH (cH K who).1.key kind d then (0,BB,43) else ((i:Int),(cH K who).1,0)
theorem B7 (K:Dk) (id who code now kind:Int):∀ (l:List Dv) (i:Nat),rb K id who code now kind l i=match l.findIdx? (fun d=>decide (d.id=id)) with
  | none=>(0,BB,9)
  | some j=>QN K who code now kind (gD l j) (i+j)
 | [],i=>rfl
 | d :: l,i=>by
  rw [rb,List.findIdx?_cons]
  by_cases h:d.id=id
  ·rw [if_neg (by simp [h])]; simp only [h,decide_true]; rfl
  ·rw [if_pos h,B7 K id who code now kind l (i+1)]
   simp only [h,decide_false]
   cases l.findIdx? (fun d=>decide (d.id=id)) with
   | none=>rfl
   | some j=>simp [gD,Nat.add_assoc,Nat.add_comm 1 j]
theorem lJ (K:Dk) (hB:HD K) (id who code kind now:Int):PC prog vK [bY K,.int .i64 id,.int .i64 who,.int .i64 code,.int .i64 kind,.int .i64 now]
  (.tuple [.int .i64 (bD K id who code now kind).1,rh (bD K id who code now kind).2.1,.int .i64 (bD K id who code now kind).2.2]):=by
 refine ae wz (by simp) ?_
 have hV:=fg K hB
 have hp:=en K
 simp only [nw,bY] at hV hp ⊢
 try simp (disch:=omega) only [go_sem,jF,jG,jH,↓reduceIte,reduceCtorEq]
 refine ab hV (by simp [hp]) ?_
 rw [bD]
 cases hc:cj K
 ·try simp (disch:=omega) only [go_sem,jF,jG,jH,↓reduceIte]
  exact aA.pure rfl
 rw [if_neg (by simp),B7]
 have hnx:=iB hc
 have hasc:=EE hc
 try simp (disch:=omega) only [go_sem,jF,jG,jH,↓reduceIte,reduceCtorEq]
 refine (ij _ K.ds kH _ (fun d=>decide (d.id=id)) (by omega) (qV _ 1 1 3 false true id (by try simp (disch:=omega) only [go_sem,jF,↓reduceIte]) (by simp only; omega))).mono ?_
 rintro r ⟨ob,m,c⟩ ⟨rfl,hA1,hA2⟩
 simp only at hA1 hA2
 have u0:=hA2 0 (by omega)
 have u2:=hA2 2 (by omega)
 try simp (disch:=omega) only [go_sem,↓reduceIte,reduceCtorEq] at u0
 try simp (disch:=omega) only [go_sem,↓reduceIte] at u2
 cases hf:K.ds.findIdx? (fun d=>decide (d.id=id)) with
 | none=>
  try simp (disch:=omega) only [go_sem,jB,jF,jG,jH,↓reduceIte,u2]
  exact aA.pure rfl
 | some j=>
  rw [List.findIdx?_eq_some_iff_getElem] at hf
  obtain ⟨hj,hj2,_⟩:=hf
  have hg:=ik hj
  have hF:=fL K who (by omega) hasc
  have hCo:=tI (cH K who).1.key kind (gD K.ds j)
  simp only [QN]
  generalize gD K.ds j=d at *
  have z0:¬0=m:=by omega
  have z2:¬2=m:=by omega
  simp only [jo,jY] at hCo
  try simp (disch:=omega) only [go_sem,↓reduceIte]
  refine aj (fun h1=>absurd h1 (by omega)) (fun h1=>?_)
  try simp (disch:=omega) only [go_sem,jF,jG,jH,↓reduceIte,u0,aV,ek,hg,Option.map_some,jo,jY]
  refine ⟨by omega,by omega,?_⟩
  cases hw:d.wd
  case true=>
   try simp (disch:=omega) only [go_sem,jF,jG,jH,↓reduceIte,u2,z2]
   exact aA.pure rfl
  try simp (disch:=omega) only [go_sem,jF,jG,jH,↓reduceIte,reduceCtorEq]
  refine aj (fun h3=>?_) (fun h3=>?_) <;> try simp (disch:=omega) only [go_sem,jF,jG,jH,↓reduceIte,reduceCtorEq,u0,u2,z0,z2]
  ·rw [if_pos (by first | exact h3 | exact .inr h3)]
   exact aA.pure rfl
  rw [if_neg (by simp; omega)]
  generalize cH K who=P at *
  obtain ⟨p,ok⟩:=P
  simp only at hF hCo ⊢
  have z4:¬0=m+1:=by omega
  have z5:¬2=m+1:=by omega
  have z6:¬m=m+1:=by omega
  refine ab hF (by simp [go_sem]) ?_
  try simp (disch:=omega) only [go_sem,jF,jG,jH,↓reduceIte,rh]
  cases ok
  ·try simp (disch:=omega) only [go_sem,jF,jG,jH,↓reduceIte,u2,z2,z5]
   exact aA.pure rfl
  try simp (disch:=omega) only [go_sem,jF,jG,jH,↓reduceIte,reduceCtorEq,z6]
  rw [hw] at hCo
  refine ab hCo (by simp [go_sem]) ?_
  try simp (disch:=omega) only [go_sem,jF,↓reduceIte]
  refine bn (fun h5=>?_) (fun h5=>?_) <;> try simp (disch:=omega) only [go_sem,jF,jG,jH,↓reduceIte,reduceCtorEq,u2,z2,z5]
  ·rw [if_pos h5]
   exact aA.pure rfl
  ·rw [if_neg (by simpa using h5)]
   exact aA.pure rfl
theorem pG (K:Dk) (hB:HD K) (site fr to rel:Int):PC prog qR [bY K,.int .i64 site,.int .i64 fr,.int .i64 to,.int .i64 rel] (.tuple [bY (bR K site fr to rel).1,.int .i64 (bR K site fr to rel).2.1,.int .i64 (bR K site fr to rel).2.2]):=by
 refine ae qZ (by simp) ?_
 simp only [ju]
 have hKp:=en K
 have bad:∀ {σ:St} (e:Int),bR K site fr to rel=(wS,0,e)→aA σ (.tuple [.agg [.nil,.int .i64 0,.nil],.int .i64 0,.int .i64 e]) (.tuple [bY (bR K site fr to rel).1,.int .i64 (bR K site fr to rel).2.1,.int .i64 (bR K site fr to rel).2.2]):=fun e h=>by
  rw [h]; exact aA.tu (.cons eO (.cons (aA.e rfl) (.cons (aA.e rfl) .nil)))
 try simp (disch:=omega) only [go_sem,jF,jG,jH,↓reduceIte,reduceCtorEq,db,dy,iq]
 refine ab (fg K hB) (by simp [hKp]) ?_
 cases hc:cj K
 ·try simp (disch:=omega) only [go_sem,jF,jG,jH,↓reduceIte]
  exact bad 50 (by rw [bR,if_pos hc])
 try simp (disch:=omega) only [go_sem,jF,↓reduceIte,reduceCtorEq]
 refine bC rfl (fun h2=>?_) (fun h2=>?_) <;> try simp (disch:=omega) only [go_sem,jF,jG,jH,↓reduceIte,reduceCtorEq]
 ·exact bad 40 (by rw [bR,if_neg (by simp [hc]),if_pos (by simp [gL]; intros; omega)])
 refine aj (fun h2'=>?_) (fun h2'=>?_) <;> try simp (disch:=omega) only [go_sem,jF,jG,jH,↓reduceIte,reduceCtorEq]
 ·exact bad 40 (by rw [bR,if_neg (by simp [hc]),if_pos (by simp [gL]; intros; omega)])
 have h2:gL site 0 5=true:=by simp [gL]; omega
 refine bC rfl (fun h3=>?_) (fun h3=>?_) <;> try simp (disch:=omega) only [go_sem,jF,jG,jH,↓reduceIte,reduceCtorEq]
 ·exact bad 6 (by rw [bR,if_neg (by simp [hc]),if_neg (by simp [h2]),if_pos (.inl h3)])
 refine bC rfl (fun h4=>?_) (fun h4=>?_) <;> try simp (disch:=omega) only [go_sem,jF,jG,jH,↓reduceIte,reduceCtorEq]
 ·exact bad 6 (by rw [bR,if_neg (by simp [hc]),if_neg (by simp [h2]),if_pos (.inr (.inl h4))])
 refine aj (fun h5=>?_) (fun h5=>?_) <;> try simp (disch:=omega) only [go_sem,jF,jG,jH,↓reduceIte,reduceCtorEq]
 ·exact bad 6 (by rw [bR,if_neg (by simp [hc]),if_neg (by simp [h2]),if_pos (.inr (.inr h5))])
 refine bC rfl (fun h6=>?_) (fun h6=>?_) <;> try simp (disch:=omega) only [go_sem,jF,jG,jH,↓reduceIte,reduceCtorEq]
 ·exact bad 1 (by rw [bR,if_neg (by simp [hc]),if_neg (by simp [h2]),if_neg (by omega),if_pos (by simp [gL]; intros; omega)])
 refine aj (fun h6'=>?_) (fun h6'=>?_) <;> try simp (disch:=omega) only [go_sem,jF,jG,jH,↓reduceIte,reduceCtorEq,Ev,aV]
 ·exact bad 1 (by rw [bR,if_neg (by simp [hc]),if_neg (by simp [h2]),if_neg (by omega),if_pos (by simp [gL]; intros; omega)])
 have h6:gL rel 0 1073741824=true:=by simp [gL]; omega
 refine bC rfl (fun h7=>?_) (fun h7=>?_) <;> try simp (disch:=omega) only [go_sem,jF,jG,jH,↓reduceIte,reduceCtorEq,GB]
 ·exact bad 10 (by rw [bR,if_neg (by simp [hc]),if_neg (by simp [h2]),if_neg (by omega),if_neg (by simp [h6]),if_pos (.inl (by omega))])
 refine aj (fun h8=>?_) (fun h8=>?_) <;> try simp (disch:=omega) only [go_sem,jF,jG,jH,↓reduceIte,reduceCtorEq]
 ·exact bad 10 (by rw [bR,if_neg (by simp [hc]),if_neg (by simp [h2]),if_neg (by omega),if_neg (by simp [h6]),if_pos (.inr h8)])
 try simp (disch:=omega) only [go_sem,iq]
 have hS:bR K site fr to rel=(⟨K.ps,K.nx+1,K.ds++[⟨K.nx,site,fr,to,rel,[],false⟩]⟩,K.nx,0):=by
  rw [bR,if_neg (by simp [hc]),if_neg (by simp [h2]),if_neg (by omega),if_neg (by simp [h6]),if_neg (by omega)]
 have hnx:=iB hc
 refine (fV _ K (by omega) (by omega) fun d hd=>by have:=fZ hc hd; omega).mono ?_
 rintro r ⟨ob1,n1,c1⟩ ⟨XP,XA,Fs,l1,rfl,hl1,hl2,hP,hPl,hA,hI,hG,hfr⟩
 simp only at hl1 hl2 hPl hfr
 have u0:=hfr 0 (by omega)
 have u1:=hfr 1 (by omega)
 try simp (disch:=omega) only [go_sem,↓reduceIte,reduceCtorEq] at u0
 try simp (disch:=omega) only [go_sem,↓reduceIte] at u1
 have z0:¬0=n1:=by omega
 have z1:¬1=n1:=by omega
 try simp (disch:=omega) only [go_sem,jF,jG,jH,↓reduceIte,reduceCtorEq,u0,z0,hP.one,hA.one,GB]
 have hXl:(cq K.ds Fs).length≤64:=by simp [cq]; omega
 have hFl:Fs.length=K.ds.length:=by have:=hI.1; simpa [lq] using this
 refine bz (b:=72) (hA.move (by simp only; omega) fun i hi hh=>?_) (by omega) (by omega) fun X' τ2 hX2 kX=>?_
 ·simp only at hi ⊢
  rw [aa _ _ _ _ (by omega),aa _ _ _ _ (by omega)]
 obtain ⟨ob3,m3,c3⟩:=τ2
 have oX:∀ i,i<l1→aU XA i:=fun i hi=>aU.em fun h=>by have:=(hG.low i h).1; omega
 have oXm:aU XA n1:=hA.G0 (Nat.le_refl _)
 have q0:=kX.2.1 0 (by simp only; omega) (oX 0 (by omega))
 have q1:=kX.2.1 1 (by simp only; omega) (oX 1 (by omega))
 have qm:=kX.2.1 n1 (by simp only; omega) oXm
 have q2:∀ i,2≤i→i<n1→aU XA i→ob3 i=ob1 i:=fun i h2 hi ho=>(kX.2.1 i (by simp only; omega) ho).trans (by simp only; rw [aa _ _ _ _ (by omega),aa _ _ _ _ (by omega)])
 have hn3:n1+1≤m3:=kX.1
 try simp (disch:=omega) only [go_sem,↓reduceIte,u0,z0] at q0
 try simp (disch:=omega) only [go_sem,↓reduceIte,u1,z1] at q1
 try simp (disch:=omega) only [go_sem,↓reduceIte] at qm
 have y0:¬n1=0:=by omega
 have y1:¬n1=1:=by omega
 try simp (disch:=omega) only [go_sem,jF,jG,jH,↓reduceIte,reduceCtorEq,jO,q0,q1,qm,z0,z1,hP.one,hX2.flat,hX2.cells,hX2.one,GB]
 rw [hS]
 have oX2:∀ i,i<l1→aU X' i:=fun i hi=>kX.2.2 i (by simp only; omega) (oX i hi)
 have oX2m:aU X' n1:=kX.2.2 n1 (by simp only; omega) oXm
 have hX3:cd 7 GQ ⟨ob3,m3,c3⟩ (cq (K.ds++[⟨K.nx,site,fr,to,rel,[],false⟩]) (Fs++[.nil])) X':=by rw [qD (by omega)]; exact hX2
 refine aA.tu (.cons (so (hP.move (by simp only; omega) fun i hi hh=>?_) (hX3.move (Nat.le_refl _) fun i hi hh=>?_) ?_) (.cons (aA.e rfl) (.cons (aA.e rfl) .nil)))
 ·have h9:=hPl i hh
  simp only at hi ⊢
  rw [aa _ _ _ _ (by omega),aa _ _ _ _ (by omega),aa _ _ _ _ (by omega),q2 i h9.1 hi (oX i h9.2)]
 ·have h9:2≤i:=Nat.le_of_not_lt fun h=>hh (oX2 i (by omega))
  have h8:i≠n1:=fun e=>hh (e ▸ oX2m)
  simp only
  rw [aa _ _ _ _ (by omega),aa _ _ _ _ h8,aa _ _ _ _ h8]
 ·rw [show lq (K.ds++[⟨K.nx,site,fr,to,rel,[],false⟩])=lq K.ds++[ints []] by simp [lq]]
  refine IC.snoc (hI.move (by simp only; omega) fun E hE i hi hlt=>?_) cd.nil
  have h9:=(hG.Eh E hE i hi).1
  simp only at hlt ⊢
  rw [aa _ _ _ _ (by omega),aa _ _ _ _ (by omega),aa _ _ _ _ (by omega),q2 i (by omega) hlt (hG.sep E hE i hi)]
theorem oW (K:Dk) (hB:HD K) (id who code now:Int):PC prog pL [bY K,.int .i64 id,.int .i64 who,.int .i64 code,.int .i64 now] (.tuple [bY (lu K id who code now).1,.int .i64 (lu K id who code now).2]):=by
 have hKp:=en K
 have hS0:lu K id who code now=if (bD K id who code now 2).2.2≠0 then (wS,(bD K id who code now 2).2.2) else (⟨K.ps,K.nx,K.ds.set (bD K id who code now 2).1.toNat { gD K.ds (bD K id who code now 2).1.toNat with wd:=true }⟩,0):=rfl
 refine ae qq (by simp) ?_
 simp only [iO]
 try simp (disch:=omega) only [go_sem,jF,jG,jH,↓reduceIte,reduceCtorEq,db,dy,iq]
 refine ab (lJ K hB id who code 2 now) (by simp [hKp,go_sem]) ?_
 have hok:=@qH K id who code now 2
 have hck:=@k8 K id who code now 2
 generalize bD K id who code now 2=a at *
 obtain ⟨i,p,e⟩:=a
 simp only at hok hS0 hck
 try simp (disch:=omega) only [go_sem,jF,jG,jH,↓reduceIte,rh]
 refine bn (fun h1=>?_) (fun h1=>?_)
 ·try simp (disch:=omega) only [go_sem,jF,jG,jH,↓reduceIte]
  rw [hS0,if_pos h1]
  exact aA.tu (.cons eO (.cons (aA.e rfl) .nil))
 obtain rfl:e=0:=by simpa using h1
 rw [if_neg (by simp)] at hS0
 obtain ⟨j,rfl,hj⟩:=hok rfl
 have hc:=hck rfl
 have hnx:=iB hc
 rw [Int.toNat_natCast] at hS0
 have hg:=ik hj
 generalize gD K.ds j=d at *
 try simp (disch:=omega) only [go_sem,jF,jH,↓reduceIte,reduceCtorEq,iq]
 refine (fV _ K (by omega) (by omega) fun d hd=>by have:=fZ hc hd; omega).mono ?_
 rintro r ⟨ob1,n1,c1⟩ ⟨XP,XA,Fs,l1,rfl,hl1,hl2,hP,hPl,hA,hI,hG,hfr⟩
 simp only at hl1 hl2 hPl hfr
 have u1:=hfr 1 (by omega)
 try simp (disch:=omega) only [go_sem,jF,↓reduceIte] at u1
 have hFl:Fs.length=K.ds.length:=by have:=hI.1; simpa [lq] using this
 have hFg:Fs[j]?=some Fs[j]:=List.getElem?_eq_getElem (by omega)
 generalize Fs[j]=E at *
 have hxg:=uq hg hFg
 have hXl:(cq K.ds Fs).length=K.ds.length:=by simp [cq]; omega
 rcases hA with ⟨_,h0⟩ | ⟨ia,ga,rfl,hia,hoa⟩
 ·rw [h0] at hXl; simp at hXl; omega
 simp only at hia hoa
 have hal:l1≤ia:=(hG.low ia fun h=>h _ _ _ _ rfl).1
 have z0:¬ia=n1:=by omega
 have z1:¬n1=ia:=by omega
 have z2:¬1=n1:=by omega
 have z3:¬1=ia:=by omega
 try simp (disch:=omega) only [go_sem,jF,jG,jH,↓reduceIte,u1,hP.one,hoa,hxg,hXl,z0,z1,z2,z3]
 refine ⟨by omega,by omega,?_⟩
 try simp (disch:=omega) only [go_sem,jA,jB,jC,jD,jE,jF,jG,jH,jI,jJ,↓reduceIte,reduceCtorEq,jO,jM,jN,jK,jL,u1,hP.flat,hP.cells,hP.one,hoa,hxg,hXl,z0,z1,z2,z3]
 rw [hS0]
 have hW:iG 6 (.bool true) (jY d E)=jY { d with wd:=true } E:=rfl
 have hD:(cq K.ds Fs).set j (jY { d with wd:=true } E)=cq (K.ds.set j { d with wd:=true }) Fs:=by
  rw [cq,s5 jY,tg hFg]; rfl
 have hIn:lq (K.ds.set j { d with wd:=true })=lq K.ds:=by
  have h9:(lq K.ds)[j]?=some (ints d.sg):=by simp [lq,hg]
  rw [lq,List.map_set]
  exact tg h9
 have hlen:(cq (K.ds.set j { d with wd:=true }) Fs).length=K.ds.length:=by simp [cq]; omega
 rw [hW,hD]
 refine aA.tu (.cons (so (Fs:=Fs) (hP.move (by simp only; omega) fun i hi hh=>?_) (.inr ⟨ia,ga,by rw [hlen],by simp only; omega,?_⟩) ?_) (.cons (aA.e rfl) .nil))
 ·have h9:=hPl i hh
  simp only at hi ⊢
  repeat rw [aa _ _ _ _ (by omega)]
 ·simp only
  rw [aa _ _ _ _ (by omega),ay]
 ·rw [hIn]
  refine hI.move (by simp only; omega) fun F hF i hi hlt=>?_
  have h9:=(hG.Eh F hF i hi).1
  have h8:¬i=ia:=fun h=>aU.ne (hG.sep F hF i hi) h.symm
  simp only at hlt ⊢
  rw [aa _ _ _ _ (by omega),aa _ _ _ _ h8]
  repeat rw [aa _ _ _ _ (by omega)]
theorem HU {K:Dk} {who role:Int}:∀ {l:List Int},l.length≤1→who∈l→nL K who role l=46
 | [],_,h=>by simp at h
 | [s],_,h=>by simp at h; subst h; simp [nL]
 | _ :: _ :: _,h,_=>by simp at h
theorem tG (K:Dk) (hB:HD K) (id who code now:Int):PC prog vM [bY K,.int .i64 id,.int .i64 who,.int .i64 code,.int .i64 now] (.tuple [bY (kg K id who code now).1,.int .i64 (kg K id who code now).2]):=by
 have hKp:=en K
 have hS0:kg K id who code now=if (bD K id who code now 1).2.2≠0 then (wS,(bD K id who code now 1).2.2) else
  if (gD K.ds (bD K id who code now 1).1.toNat).sg.length=2 then (wS,46) else if nL K who (bD K id who code now 1).2.1.role (gD K.ds (bD K id who code now 1).1.toNat).sg≠0 then (wS,nL K who (bD K id who code now 1).2.1.role (gD K.ds (bD K id who code now 1).1.toNat).sg) else
  (⟨K.ps,K.nx,K.ds.set (bD K id who code now 1).1.toNat { gD K.ds (bD K id who code now 1).1.toNat with sg:=(gD K.ds (bD K id who code now 1).1.toNat).sg++[who] }⟩,0):=rfl
 refine ae wB (by simp) ?_
 simp only [nB]
 try simp (disch:=omega) only [go_sem,jF,jG,jH,↓reduceIte,reduceCtorEq,db,dy,iq]
 refine ab (lJ K hB id who code 1 now) (by simp [hKp,go_sem]) ?_
 have hok:=@qH K id who code now 1
 have hck:=@k8 K id who code now 1
 generalize bD K id who code now 1=a at *
 obtain ⟨i,p,e⟩:=a
 simp only at hok hS0 hck
 try simp (disch:=omega) only [go_sem,jF,jG,jH,↓reduceIte,rh]
 refine bn (fun h1=>?_) (fun h1=>?_)
 ·try simp (disch:=omega) only [go_sem,jF,jG,jH,↓reduceIte]
  rw [hS0,if_pos h1]
  exact aA.tu (.cons eO (.cons (aA.e rfl) .nil))
 obtain rfl:e=0:=by simpa using h1
 rw [if_neg (by simp)] at hS0
 obtain ⟨j,rfl,hj⟩:=hok rfl
 have hc:=hck rfl
 have hnx:=iB hc
 have hasc:=EE hc
 rw [Int.toNat_natCast] at hS0
 have hg:=ik hj
 have hgk:=fZ hc (List.mem_of_getElem? hg)
 generalize gD K.ds j=d at *
 have dv5:(jo d).cells.getD 5 .bA=.list 1 (ints d.sg):=rfl
 try simp (disch:=omega) only [go_sem,jF,jG,jH,↓reduceIte,reduceCtorEq,Ev,aV,ek,hg,Option.map_some,dv5,aw]
 refine ⟨by omega,by omega,?_⟩
 refine bC rfl (fun h2=>?_) (fun h2=>?_) <;> try simp (disch:=omega) only [go_sem,jF,jG,jH,↓reduceIte,reduceCtorEq]
 ·rw [hS0,if_pos (by omega)]
  exact aA.tu (.cons eO (.cons (aA.e rfl) .nil))
 rw [if_neg (by omega)] at hS0
 refine ab (mj d.sg who (by omega)) (by simp [go_sem]) ?_
 try simp (disch:=omega) only [go_sem,jF,↓reduceIte]
 refine aj (fun h3=>?_) (fun h3=>?_) <;> try simp (disch:=omega) only [go_sem,jF,jG,jH,↓reduceIte,aw]
 ·have hs:=HU (K:=K) (role:=p.role) (by omega) h3
  rw [hS0,if_pos (by rw [hs]; omega),hs]
  exact aA.tu (.cons eO (.cons (aA.e rfl) .nil))
 refine bd [11,17,18,19,52,53,54,55,56,57,58,59,60,61,62,63,64,65,66,67,68,69] (by kernel_rfl) d.sg.length (fun i e σ=>e 52=.int .i64 i∧σ.ob 0=some ⟨0,3,44,false,true,[bY K]⟩∧σ.ob 1=some ⟨1,3,44,false,true,[.agg [.nil,.int .i64 0,.nil]]⟩∧σ.ob 2=some ⟨2,3,131,false,true,[.agg [.int .i64 p.id,.int .i64 p.role,.int .i64 p.key]]⟩∧nL K who p.role d.sg=nL K who p.role (d.sg.drop i)) ?_ ?_
 ·exact ⟨(by first | rfl | (simp (disch:=omega) only [go_sem,jA,jB,jC,jD,jE,jF,jG,jH,jI,jJ,↓reduceIte,reduceCtorEq,jP,jO,jM,jN]; try rfl)),by try simp (disch:=omega) only [go_sem,↓reduceIte,reduceCtorEq],by try simp (disch:=omega) only [go_sem,jF,↓reduceIte],by try simp (disch:=omega) only [go_sem,↓reduceIte],rfl⟩
 rintro i fe ob m c hi hm ⟨h52,v0,v1,v2,hsg⟩
 simp (maxSteps:=1000000) only [go_sem,jF,↓reduceIte] at h52 hm v0 v1 v2
 try simp (disch:=omega) only [go_sem,jF,↓reduceIte,h52]
 refine aj (fun hlt=>?_) (fun hge=>?_)
 ·have hil:i<d.sg.length:=by omega
  rw [List.drop_eq_getElem_cons hil,nL] at hsg
  have hgi:=bH d.sg i
  rw [List.getElem?_eq_getElem hil] at hgi
  have hmem:=List.getElem_mem hil
  have hF:=fL K d.sg[i] (by omega) hasc
  generalize d.sg[i]=s at *
  rw [if_neg (fun e:s=who=>h3 (by rw [←e]; exact hmem))] at hsg
  have z4:¬0=m:=by omega
  have z5:¬1=m:=by omega
  have z6:¬2=m:=by omega
  try simp (disch:=omega) only [go_sem,jF,jH,↓reduceIte,hgi,Option.map_some,aw,v0,I7]
  refine ⟨by omega,by omega,?_⟩
  refine ab hF (by simp [go_sem]) ?_
  try simp (disch:=omega) only [go_sem,jF,jG,jH,↓reduceIte,rh,v2,z6]
  refine aj (fun h4=>?_) (fun h4=>?_)
  ·try simp (disch:=omega) only [go_sem,jF,jG,jH,↓reduceIte,v1,z5]
   rw [if_pos h4] at hsg
   rw [hS0,if_pos (by rw [hsg]; omega),hsg]
   exact aA.tu (.cons eO (.cons (aA.e rfl) .nil))
  rw [if_neg h4] at hsg
  try simp (disch:=omega) only [go_sem,jF,↓reduceIte,jO]
  refine aF m hil (by omega) ⟨(by first | rfl | (simp (disch:=omega) only [go_sem,jA,jB,jC,jD,jE,jF,jG,jH,jI,jJ,↓reduceIte,reduceCtorEq,jP,jO,jM,jN]; try rfl)),?_,?_,?_,hsg⟩
  all_goals (simp only [St.aC]; rw [if_pos (by omega),aa _ _ _ _ (by omega),aa _ _ _ _ (by omega)]; first | exact v0 | exact v1 | exact v2)
 obtain rfl:i=d.sg.length:=by omega
 rw [List.drop_length,nL] at hsg
 rw [if_neg (by simp [hsg])] at hS0
 try simp (disch:=omega) only [go_sem,jF,jH,↓reduceIte,v0,iq]
 refine (fV _ K (by omega) (by omega) fun d hd=>by have:=fZ hc hd; omega).mono ?_
 rintro r ⟨ob1,n1,c1⟩ ⟨XP,XA,Fs,l1,rfl,hl1,hl2,hP,hPl,hA,hI,hG,hfr⟩
 simp only at hl1 hl2 hPl hfr
 have u1:=(hfr 1 (by omega)).trans v1
 have hFl:Fs.length=K.ds.length:=by have:=hI.1; simpa [lq] using this
 have hjF:j<Fs.length:=by omega
 have hFg:Fs[j]?=some Fs[j]:=List.getElem?_eq_getElem hjF
 generalize hEE:Fs[j]=E at *
 have hxg:=uq hg hFg
 have hXl:(cq K.ds Fs).length=K.ds.length:=by simp [cq]; omega
 rcases hA with ⟨_,h0⟩ | ⟨ia,ga,rfl,hia,hoa⟩
 ·rw [h0] at hXl; simp at hXl; omega
 simp only at hia hoa
 have hal:l1≤ia:=(hG.low ia fun h=>h _ _ _ _ rfl).1
 have hEs:=hI.2 j E (ints d.sg) hFg (by simp [lq,hg])
 have z0:¬ia=n1:=by omega
 have z1:¬n1=ia:=by omega
 have z2:¬1=n1:=by omega
 have z3:¬1=ia:=by omega
 have d5:∀ d E,(jY d E).cells.getD 5 .bA=E:=fun _ _=>rfl
 have hEo:∀ i,¬aU E i→l1≤i∧i<n1:=fun i hi=>hG.Eh E (List.mem_of_getElem? hFg) i hi
 have hEa:aU E ia:=aU.em fun h=>aU.ne (hG.sep E (List.mem_of_getElem? hFg) ia h) rfl
 try simp (disch:=omega) only [go_sem,jF,jG,jH,↓reduceIte,reduceCtorEq,hP.one,hoa,hxg,hXl,z0,d5]
 refine ⟨by omega,by omega,?_⟩
 try simp (disch:=omega) only [go_sem,jA,jB,jC,jD,jE,jF,jG,jH,jI,jJ,↓reduceIte,reduceCtorEq,jO,jM,jN,jK,jL,u1,hP.flat,hP.cells,hP.one,hoa,hxg,hXl,z0,z1,z2,z3,d5]
 have oE:∀ i,i<l1→aU E i:=fun i hi=>aU.em fun h=>by have:=(hEo i h).1; omega
 have oEn:aU E n1:=hEs.G0 (Nat.le_refl _)
 refine bz (b:=8) (hEs.move (by simp only; omega) fun i hi hh=>?_) (by rw [aw]; omega) (by rw [aw]; omega) fun E' τ5 hE5 k5=>?_
 ·simp only at hi ⊢
  rw [aa _ _ _ _ (by omega),aa _ _ _ _ (by omega)]
 obtain ⟨ob5,m5,c5⟩:=τ5
 have hm5:n1+1≤m5:=k5.1
 have q5:∀ i,i<n1→aU E i→ob5 i=ob1 i:=fun i hi ho=>(k5.2.1 i (by simp only; omega) ho).trans (by simp only; rw [aa _ _ _ _ (by omega),aa _ _ _ _ (by omega)])
 have w1:=(q5 1 (by omega) (oE 1 (by omega))).trans u1
 have wa:=(q5 ia (by omega) hEa).trans hoa
 have wn:=k5.2.1 n1 (by simp only; omega) oEn
 try simp (disch:=omega) only [go_sem,↓reduceIte] at wn
 have p5:∀ y,iG 5 E' (jY d y)=jY { d with sg:=d.sg++[who] } E':=fun y=>by
  rcases hE5 with ⟨rfl,_⟩ | ⟨_,_,rfl,_⟩ <;> rfl
 have z6:¬n1=1:=by omega
 have z7:¬ia=1:=by omega
 try simp (disch:=omega) only [go_sem,jF,jG,jH,↓reduceIte,reduceCtorEq,wa,wn,hoa,hxg,w1,z0,z1,z3,hE5.flat,hE5.cells,p5,hP.one]
 refine ⟨by omega,by omega,?_⟩
 rw [hS0]
 have hD:(cq K.ds Fs).set j (jY { d with sg:=d.sg++[who] } E')=cq (K.ds.set j { d with sg:=d.sg++[who] }) (Fs.set j E'):=s5 jY _ _ _ _ _
 have hlen:(cq (K.ds.set j { d with sg:=d.sg++[who] }) (Fs.set j E')).length=K.ds.length:=by simp [cq]; omega
 rw [hD]
 have oE5:∀ i,i<n1→aU E i→aU E' i:=fun i hi ho=>k5.2.2 i (by simp only; omega) ho
 have fz:∀ (x y:Option aS) i,i≠ia→i≠1→aZ (aZ ob5 ia x) 1 y i=ob5 i:=fun x y i h1 h2=>by rw [aa _ _ _ _ h2,aa _ _ _ _ h1]
 refine aA.tu (.cons (so (Fs:=Fs.set j E') (hP.move (by simp only; omega) fun i hi hh=>?_) (.inr ⟨ia,ga,by rw [hlen],by simp only; omega,?_⟩) ?_) (.cons (aA.e rfl) .nil))
 ·have h9:=hPl i hh
  simp only at hi ⊢
  rw [fz _ _ i (by omega) (by omega),q5 i (by omega) (oE i h9.2)]
 ·simp only
  rw [aa _ _ _ _ (by omega),ay]
 ·rw [show lq (K.ds.set j { d with sg:=d.sg++[who] })=(lq K.ds).set j (ints (d.sg++[who])) by simp [lq,List.map_set]]
  have happ:ints (d.sg++[who])=ints d.sg++[.int .i64 who]:=by simp [ints]
  refine hI.set ?_ fun i F L hne hF hL=>?_
  ·rw [happ]
   refine hE5.move (Nat.le_refl _) fun i hi hh=>?_
   have hx1:¬i=ia:=fun h=>hh (h ▸ oE5 ia (by omega) hEa)
   have hx2:¬i=1:=fun h=>hh (h ▸ oE5 1 (by omega) (oE 1 (by omega)))
   simp only
   rw [fz _ _ i hx1 hx2]
  ·refine (hI.2 i F L hF hL).move (by simp only; omega) fun q hq hh=>?_
   simp only at hq
   have h9:=(hG.Eh F (List.mem_of_getElem? hF) q hh).1
   have hx1:¬q=ia:=fun h=>aU.ne (hG.sep F (List.mem_of_getElem? hF) q hh) h.symm
   have hx3:=hG.dj i j F E hne hF hFg q hh
   simp only
   rw [fz _ _ q hx1 (by omega),q5 q (by omega) hx3]
theorem NU (a b:Pn):(decide (a.id=b.id)&&(decide (a.role=b.role)&&decide (a.key=b.key)))=decide (a=b):=by
 obtain ⟨x,y,z⟩:=a
 obtain ⟨x',y',z'⟩:=b
 rw [Bool.eq_iff_iff]
 simp
theorem mP (a b:List Pn) (ha:a.length≤9223372036854775807):PC prog nY [.list 3 (pv a),.list 3 (pv b)] (.bool (decide (a=b))):=by
 refine ae oi (by simp) ?_
 simp only [gh,go_sem,jF,↓reduceIte,reduceCtorEq,ba]
 refine bn (fun h=>?_) (fun h=>?_) <;> try simp (disch:=omega) only [go_sem,↓reduceIte,reduceCtorEq]
 ·exact aA.of_eq (by congr 1; simp; intro hab; exact h (by rw [hab])) rfl
 have hl:a.length=b.length:=by omega
 refine bK [4,5,13,14,15,16,17,18,19,20,21,22,23,24,25] (by kernel_rfl) a.length (fun k e _=>e 13=.int .i64 k∧∀ j,j<k→a[j]?=b[j]?) ?_ ?_
 ·exact ⟨(by first | rfl | (simp (disch:=omega) only [go_sem,jA,jB,jC,jD,jE,jF,jG,jH,jI,jJ,↓reduceIte,reduceCtorEq,jP,jO,jM,jN]; try rfl)),fun j hj=>by omega⟩
 ·rintro k fe ob c hk ⟨h13,hj⟩
  simp (maxSteps:=1000000) only [go_sem,jF,↓reduceIte] at h13
  try simp (disch:=omega) only [go_sem,jF,↓reduceIte,h13,ba]
  refine aj (fun hlt=>?_) (fun hge=>?_)
  ·have hka:k<a.length:=by omega
   have hga:a[k]?=some a[k]:=List.getElem?_eq_getElem hka
   have hgb:b[k]?=some b[k]:=List.getElem?_eq_getElem (by omega)
   have hE:=NU a[k] b[k]
   generalize a[k]=x at *
   generalize b[k]=y at *
   try simp (disch:=omega) only [go_sem,jF,jH,↓reduceIte,reduceCtorEq,ba,jR,hga,hgb,Option.map_some,rh]
   refine ⟨by omega,by omega,by omega,by omega,?_⟩
   rw [hE]
   by_cases hxy:x=y
   ·subst hxy
    try simp (disch:=omega) only [go_sem,jF,↓reduceIte,jO,decide_true,Bool.not_true]
    refine bt hka ⟨(by first | rfl | (simp (disch:=omega) only [go_sem,jA,jB,jC,jD,jE,jF,jG,jH,jI,jJ,↓reduceIte,reduceCtorEq,jP,jO,jM,jN]; try rfl)),fun j hj'=>?_⟩
    by_cases e:j=k
    ·subst e; rw [hga,hgb]
    ·exact hj j (by omega)
   ·try simp (disch:=omega) only [go_sem,↓reduceIte,decide_false,Bool.not_false,hxy]
    exact aA.of_eq (by congr 1; simp; intro hab; subst hab; rw [hga] at hgb; exact hxy (Option.some.inj hgb)) rfl
  ·try simp (disch:=omega) only [go_sem,↓reduceIte]
   exact aA.of_eq (by congr 1; simp; exact ft hl fun j hj'=>hj j (by omega)) rfl
theorem tF (a b:Dv) (ha:a.sg.length≤9223372036854775807):PC prog mU [jo a,jo b] (.bool (decide (a=b))):=by
 have no:∀ {σ:St},¬a=b→aA σ (.bool false) (.bool (decide (a=b))):=fun h=>by rw [decide_eq_false h]; exact aA.pure rfl
 refine ae wy (by simp) ?_
 simp only [nv,jo,jY]
 try simp (disch:=omega) only [go_sem,jF,jG,jH,↓reduceIte,reduceCtorEq]
 refine bB rfl (fun g1=>?_) (fun g1=>?_) <;> try simp (disch:=omega) only [go_sem,jF,jG,jH,↓reduceIte,reduceCtorEq]
 case refine_2=>exact no fun e=>g1 (by rw [e])
 refine bB rfl (fun g2=>?_) (fun g2=>?_) <;> try simp (disch:=omega) only [go_sem,jF,jG,jH,↓reduceIte,reduceCtorEq]
 case refine_2=>exact no fun e=>g2 (by rw [e])
 refine bB rfl (fun g3=>?_) (fun g3=>?_) <;> try simp (disch:=omega) only [go_sem,jF,jG,jH,↓reduceIte,reduceCtorEq]
 case refine_2=>exact no fun e=>g3 (by rw [e])
 refine bB rfl (fun g4=>?_) (fun g4=>?_) <;> try simp (disch:=omega) only [go_sem,jF,jG,jH,↓reduceIte,reduceCtorEq]
 case refine_2=>exact no fun e=>g4 (by rw [e])
 refine bB rfl (fun g5=>?_) (fun g5=>?_) <;> try simp (disch:=omega) only [go_sem,jF,jG,jH,↓reduceIte,reduceCtorEq]
 case refine_2=>exact no fun e=>g5 (by rw [e])
 obtain ⟨a1,a2,a3,a4,a5,a6,a7⟩:=a
 obtain ⟨b1,b2,b3,b4,b5,b6,b7⟩:=b
 simp only at g1 g2 g3 g4 g5 ha no ⊢
 subst g1 g2 g3 g4 g5
 have hq:=iH a6 b6 ha
 have key:decide ((⟨a1,a2,a3,a4,a5,a6,a7⟩:Dv)=⟨a1,a2,a3,a4,a5,b6,b7⟩)=(decide (a7=b7)&&decide (a6=b6)):=by
  rw [Bool.eq_iff_iff]; simp [and_comm]
 rw [key]
 by_cases h7:a7=b7
 ·subst h7
  have e7:(a7 == a7)=true:=by simp
  try simp (disch:=omega) only [go_sem,jF,jG,jH,↓reduceIte,reduceCtorEq,decide_true]
  refine ab hq (by simp [go_sem]) ?_
  try simp (disch:=omega) only [go_sem,jF,↓reduceIte]
  exact aA.of_eq (by simp) rfl
 ·have e7:(a7 == b7)=false:=by simp [h7]
  try simp (disch:=omega) only [go_sem,jF,↓reduceIte,h7,decide_false]
  exact aA.of_eq (by simp) rfl
theorem gX (a b:List Dv) (ha:a.length≤9223372036854775807) (hA:∀ x∈a,x.sg.length≤9223372036854775807) :
  PC prog iM [.list 7 (xA a),.list 7 (xA b),.func mU []] (.bool (decide (a=b))):=by
 refine ae iQ (by simp) ?_
 simp only [dn,go_sem,jF,↓reduceIte,reduceCtorEq,aV]
 refine bn (fun h=>?_) (fun h=>?_) <;> try simp (disch:=omega) only [go_sem,↓reduceIte,reduceCtorEq]
 ·exact aA.of_eq (by congr 1; simp; intro hab; exact h (by rw [hab])) rfl
 have hl:a.length=b.length:=by omega
 refine bd [6,7,8,9,17,18,19,20,21,22,23,24,25,26,27,28,29,30,31] (by kernel_rfl) a.length (fun k e _=>e 17=.int .i64 k∧∀ j,j<k→a[j]?=b[j]?) ?_ ?_
 ·exact ⟨(by first | rfl | (simp (disch:=omega) only [go_sem,jA,jB,jC,jD,jE,jF,jG,jH,jI,jJ,↓reduceIte,reduceCtorEq,jP,jO,jM,jN]; try rfl)),fun j hj=>by omega⟩
 ·rintro k fe ob m c hk hm ⟨h17,hj⟩
  simp (maxSteps:=1000000) only [go_sem,jF,↓reduceIte] at h17 hm
  try simp (disch:=omega) only [go_sem,jF,↓reduceIte,h17,aV]
  refine aj (fun hlt=>?_) (fun hge=>?_)
  ·have hka:k<a.length:=by omega
   have hga:a[k]?=some a[k]:=List.getElem?_eq_getElem hka
   have hgb:b[k]?=some b[k]:=List.getElem?_eq_getElem (by omega)
   have hS:=tF a[k] b[k] (hA _ (List.getElem_mem hka))
   generalize a[k]=x at *
   generalize b[k]=y at *
   simp only [jo,jY] at hS
   try simp (disch:=omega) only [go_sem,jF,jG,jH,↓reduceIte,reduceCtorEq,jM,aV,ek,hga,hgb,Option.map_some,jo,jY]
   refine ⟨by omega,by omega,by omega,by omega,?_⟩
   refine ab hS (by simp [go_sem]) ?_
   by_cases hq:x=y
   ·subst hq
    try simp (disch:=omega) only [go_sem,jF,↓reduceIte,jO,decide_true]
    refine aF m hka (by omega) ⟨(by first | rfl | (simp (disch:=omega) only [go_sem,jA,jB,jC,jD,jE,jF,jG,jH,jI,jJ,↓reduceIte,reduceCtorEq,jP,jO,jM,jN]; try rfl)),fun j hj'=>?_⟩
    by_cases e:j=k
    ·subst e; rw [hga,hgb]
    ·exact hj j (by omega)
   ·try simp (disch:=omega) only [go_sem,↓reduceIte,hq,decide_false]
    exact aA.of_eq (by congr 1; simp; intro hab; subst hab; rw [hga] at hgb; exact hq (Option.some.inj hgb)) rfl
  ·try simp (disch:=omega) only [go_sem,↓reduceIte]
   exact aA.of_eq (by congr 1; simp; exact ft hl fun j hj'=>hj j (by omega)) rfl
structure TN (K:Dk):Prop where
 s:HD K
 sg:∀ d∈K.ds,d.sg.length≤9223372036854775807
theorem tH (a b:Dk) (hL:TN a):PC prog vN [bY a,bY b] (.bool (decide (a=b))):=by
 have h1:=hL.s.lp
 have h2:=hL.s.ld
 have h3:=hL.sg
 obtain ⟨p,n,l⟩:=a
 obtain ⟨p',n',l'⟩:=b
 simp only at h1 h2 h3
 have key:decide ((⟨p,n,l⟩:Dk)=⟨p',n',l'⟩)=(decide (n=n')&&(decide (p=p')&&decide (l=l'))):=by
  rw [Bool.eq_iff_iff]; simp [and_left_comm]
 rw [key]
 refine ae wC (by simp) ?_
 simp only [nC,bY]
 try simp (disch:=omega) only [go_sem,jF,jG,jH,↓reduceIte,reduceCtorEq]
 refine bB rfl (fun g1=>?_) (fun g1=>?_) <;> try simp (disch:=omega) only [go_sem,jF,jH,↓reduceIte,reduceCtorEq]
 case refine_2=>exact aA.of_eq (by simp [g1]) rfl
 refine ab (mP p p' (by omega)) (by simp [go_sem]) ?_
 by_cases g2:p=p'
 ·try simp (disch:=omega) only [go_sem,jF,jG,jH,↓reduceIte,reduceCtorEq,g2,decide_true]
  refine ab (gX l l' (by omega) h3) (by simp [go_sem]) ?_
  try simp (disch:=omega) only [go_sem,jF,↓reduceIte]
  exact aA.of_eq (by simp [g1]) rfl
 ·try simp (disch:=omega) only [go_sem,jF,↓reduceIte,g2,decide_false]
  exact aA.of_eq (by simp [g2]) rfl
structure Kt where
 B:Bk
 K:Dk
 s:Sd
def kv (k:Kt):AV:=Ei k.B k.K k.s
def T0:Sd:=⟨0,[]⟩
def kz:Kt:=⟨FV,wS,T0⟩
theorem sE {σ:St}:aA σ (.agg [.nil,.nil,.nil,.int .i64 0,.nil,.int .i64 0,.nil]) (kv kz):=aA.ag (.cons (.nl 4) (.cons (.nl 6) (.cons (.nl 3) (.cons (aA.e rfl) (.cons (.nl 7) (.cons (aA.e rfl) (.cons (.nl 4) .nil)))))))
structure Ot (k:Kt):Prop where
 b:lD k.B
 d:HD k.K
 s:k.s.l.length≤9223372036854775807
structure xP (k:Kt):Prop where
 b:lD k.B
 d:cj k.K=true
 s:dq k.s=true
theorem xP.S {k:Kt} (h:xP k):Ot k:=by
 have h1:=iB h.d
 have h2:=eU h.s
 exact ⟨h.b,⟨by omega,by omega⟩,by omega⟩
structure TK (k:Kt):Prop where
 n:k.B.op.length≤9223372036854775807
 a:∀ x∈k.B.op,JG x
 r:k.B.rp.length≤9223372036854775807
 d:TN k.K
 s:k.s.l.length≤9223372036854775807
theorem xP.L {k:Kt} (h:xP k):TK k:=⟨by have:=h.b.n; omega,fun x hx=>(h.b.ao x hx).l,by have:=h.b.m; omega,⟨h.S.d,fun d hx=>by have:=fZ h.d hx; omega⟩,h.S.s⟩
def pc (k:Kt):Int:=if cj k.K=true∧dq k.s=true then 0 else 50
theorem lU {k:Kt} (h:Ot k):pc k=0↔xP k:=by
 rw [pc]
 split
 ·rename_i h1; exact ⟨fun _=>⟨h.b,h1.1,h1.2⟩,fun _=>rfl⟩
 ·rename_i h1; exact ⟨fun h=>(by cases h),fun h=>absurd ⟨h.d,h.s⟩ h1⟩
def Mg (q:Rc):Rp:=⟨q.num,q.acc,q.wQ,q.tm,⟨q.lo,q.hi⟩⟩
theorem No {n:Int}:vB n=true↔0≤n∧n≤274877906944:=by simp [vB]
theorem H7 {q:Rc} (h:bl q=true) (hk:q.k=1):O8 (Mg q):=by
 simp only [bl,Bool.and_eq_true] at h
 have h2:=h.1.2
 simp only [bQ,hk,aP,if_true,List.map_cons,List.map_nil,List.all_cons,List.all_nil,Bool.and_true,Bool.and_eq_true,cI,No] at h2
 exact ⟨h2.1,h2.2.1,h2.2.2.1,h2.2.2.2.1,h2.2.2.2.2.1,h2.2.2.2.2.2⟩
theorem HH {q:Rc} (h:bl q=true):1≤q.k∧q.k≤6:=by
 simp only [bl,Bool.and_eq_true,decide_eq_true_eq] at h
 exact vy h.1.1
def je (e:Int) (k:Kt):Kt × Int:=if e=0 then (k,0) else (kz,e)
def sO (k:Kt) (q:Rc):Kt × Int:=
 if pc k≠0 then (kz,pc k) else if bl q=false then (kz,49) else
 if q.k=1 then je (sN k.B (Mg q)).2 ⟨(sN k.B (Mg q)).1,k.K,k.s⟩ else
 if q.k=2 then je (bR k.K q.site q.fr q.to q.rel).2.2 ⟨k.B,(bR k.K q.site q.fr q.to q.rel).1,k.s⟩ else
 if q.k=3 then je (kg k.K q.Da q.D5 q.code q.time).2 ⟨k.B,(kg k.K q.Da q.D5 q.code q.time).1,k.s⟩ else
 if q.k=4 then je (lu k.K q.Da q.D5 q.code q.time).2 ⟨k.B,(lu k.K q.Da q.D5 q.code q.time).1,k.s⟩ else
 if q.k=5 then je (cL k.s q.rj q.Ay q.As).2.2 ⟨k.B,k.K,(cL k.s q.rj q.Ay q.As).1⟩ else
 je (dN k.s q.CB).2 ⟨k.B,k.K,(dN k.s q.CB).1⟩
def bM (k:Kt) (q:Rc):Kt:=if (sO k q).2=0 then (sO k q).1 else k
def yx (k:Kt) (s:ByteArray) (n:Int):Kt × Int × Int:=
 if pc k≠0 then (kz,0,pc k) else if n<0∨((dP s).1.length:Int)<n then (kz,0,1) else (((dP s).1.drop n.toNat).foldl bM k,((dP s).1.length:Int),0)
theorem pV {e:Int} {k:Kt}:(je e k).2=e:=by
 rw [je]; split
 ·rename_i h; exact h.symm
 ·rfl
theorem qB {e:Int} {k:Kt} (h:e=0):(je e k).1=k:=by rw [je,if_pos h]
theorem Lc {B:Bk} {r:Rp} (h:lD B) (hv:O8 r) (h0:(sN B r).2=0):lD (sN B r).1:=by
 rw [sN] at h0 ⊢
 split at h0
 ·rename_i h1; exact absurd h0 h1
 ·rename_i h1
  rw [if_neg h1]
  exact (zG h (Fe h.ao hv (Decidable.byContradiction h1)) h0).1
theorem K5 {s:Sd} {k i v:Int} (h:(cL s k i v).2.2=0):dq (cL s k i v).1=true:=by
 unfold cL at h ⊢
 by_cases h1:dq s=true
 rotate_left
 ·rw [if_neg h1] at h; cases h
 rw [if_pos h1] at h ⊢
 by_cases h2:dB k i v=0
 rotate_left
 ·rw [if_neg h2] at h; exact absurd h h2
 rw [if_pos h2] at h ⊢
 by_cases h3:s.l.length=64∨s.n=1073741824
 ·rw [if_pos h3] at h; cases h
 rw [if_neg h3]
 obtain ⟨q1,q2,q3,q4⟩:=eU h1
 refine Cm (by simp only; omega) (by simp only; omega) (by simp; omega) ?_
 simp only [List.length_append,List.length_singleton]
 refine xS fun j o ho=>?_
 rcases Nat.lt_or_ge j s.l.length with hj | hj
 ·rw [List.getElem?_append_left hj] at ho
  have:=yq q4 j o ho
  exact ⟨this.1,by rw [this.2]; omega⟩
 ·rw [List.getElem?_append_right hj] at ho
  have hj2:=(List.getElem?_eq_some_iff.1 ho).1
  simp at hj2
  have:j-s.l.length=0:=by omega
  rw [this] at ho
  simp at ho
  subst ho
  exact ⟨Gp (by simp only; omega) (by simp only; omega) h2,by simp only; omega⟩
theorem Lj {s:Sd} {n:Int} (h:(dN s n).2=0):dq (dN s n).1=true:=by
 unfold dN at h ⊢
 by_cases h1:dq s=true
 rotate_left
 ·rw [if_neg h1] at h; cases h
 rw [if_pos h1] at h ⊢
 by_cases h3:n<0∨s.n≤n
 ·rw [if_pos h3] at h; cases h
 rw [if_neg h3]
 obtain ⟨q1,q2,q3,q4⟩:=eU h1
 refine Cm q1 q2 (Nat.le_trans (List.length_filter_le _ _) q3) ?_
 simp only
 rw [sk q4]
 refine xS fun j o ho=>?_
 have hj:=(List.getElem?_eq_some_iff.1 ho).1
 rw [List.length_drop] at hj
 rw [List.getElem?_drop] at ho
 have:=yq q4 _ o ho
 refine ⟨this.1,?_⟩
 rw [this.2,List.length_drop]
 omega
theorem I6 {k:Kt} (h:Ot k) {q:Rc} (h0:(sO k q).2=0):xP (sO k q).1:=by
 unfold sO at h0 ⊢
 by_cases c0:pc k≠0
 ·rw [if_pos c0] at h0; exact absurd h0 c0
 rw [if_neg c0] at h0 ⊢
 have hO:=(lU h).1 (Decidable.byContradiction c0)
 by_cases c1:bl q=false
 ·rw [if_pos c1] at h0; cases h0
 rw [if_neg c1] at h0 ⊢
 by_cases k1:q.k=1
 ·rw [if_pos k1,pV] at h0
  rw [if_pos k1,qB h0]
  exact ⟨Lc hO.b (H7 (by simpa using c1) k1) h0,hO.d,hO.s⟩
 rw [if_neg k1] at h0 ⊢
 by_cases k2:q.k=2
 ·rw [if_pos k2,pV] at h0
  rw [if_pos k2,qB h0]
  exact ⟨hO.b,(D0 h0).1,hO.s⟩
 rw [if_neg k2] at h0 ⊢
 by_cases k3:q.k=3
 ·rw [if_pos k3,pV] at h0
  rw [if_pos k3,qB h0]
  exact ⟨hO.b,DV h0,hO.s⟩
 rw [if_neg k3] at h0 ⊢
 by_cases k4:q.k=4
 ·rw [if_pos k4,pV] at h0
  rw [if_pos k4,qB h0]
  exact ⟨hO.b,DM h0,hO.s⟩
 rw [if_neg k4] at h0 ⊢
 by_cases k5:q.k=5
 ·rw [if_pos k5,pV] at h0
  rw [if_pos k5,qB h0]
  exact ⟨hO.b,hO.d,K5 h0⟩
 rw [if_neg k5,pV] at h0
 rw [if_neg k5,qB h0]
 exact ⟨hO.b,hO.d,Lj h0⟩
theorem DS {k:Kt} (h:xP k) (q:Rc):xP (bM k q):=by
 rw [bM]; split
 ·rename_i h0; exact I6 h.S h0
 ·exact h
theorem uk:∀ {l:List Rc} {k:Kt},xP k→xP (l.foldl bM k)
 | [],_,h=>h
 | q :: l,_,h=>uk (l:=l) (DS h q)
theorem Lm {B:Bk} (h:lD B):B.rp.take (cT (gY B.rp) (1073741824+1))=B.rp:=by
 have:cT (gY B.rp) (1073741824+1)=B.rp.length:=zU _ _ _ (by simp) (fun j hj y hy=>by
  obtain ⟨q,hq,rfl⟩:=ed.1 hy
  have:=(h.ro q (List.mem_of_getElem? hq)).n2
  omega) (fun j hj y hy=>by
  obtain ⟨q,hq,rfl⟩:=ed.1 hy
  have:=(List.getElem?_eq_some_iff.1 hq).1
  omega)
 rw [this,List.take_length]
theorem fK (k:Kt) (h:Ot k):PC prog vD [kv k] (.int .i64 (pc k)):=by
 obtain ⟨B,K,s⟩:=k
 have hB:=dD B h.b
 have hD:=su K h.d
 have hS:=iX s h.s
 have hE:pc ⟨B,K,s⟩=if cj K=true∧dq s=true then 0 else 50:=rfl
 rw [hE,kv,Ei]
 simp only [nI,bY,oT] at hB hD hS
 refine ae wk (by simp) ?_
 simp only [nh,go_sem,jF,jG,jH,↓reduceIte]
 refine ab hB (by simp [go_sem]) ?_
 try simp (disch:=omega) only [go_sem,jF,jG,jH,↓reduceIte]
 refine ab hD (by simp [go_sem]) ?_
 rw [qa]
 cases cj K
 ·try simp (disch:=omega) only [go_sem,jA,jF,↓reduceIte,reduceCtorEq]
  exact aA.of_eq rfl rfl
 try simp (disch:=omega) only [go_sem,jF,jG,jH,↓reduceIte]
 refine ab hS (by simp [go_sem]) ?_
 cases dq s
 ·try simp (disch:=omega) only [go_sem,↓reduceIte,reduceCtorEq]
  exact aA.of_eq rfl rfl
 ·try simp (disch:=omega) only [go_sem,↓reduceIte]
  exact aA.of_eq rfl rfl
theorem mQ (k:Kt) (h:xP k):PC prog xo [kv k] (kv k):=by
 obtain ⟨B,K,s⟩:=k
 obtain ⟨d1,d2,d3,d4⟩:=iB h.d
 obtain ⟨s1,s2,s3,s4⟩:=eU h.s
 have hU:=vo B h.b 1073741824 (by omega)
 rw [Lm h.b] at hU
 have hsg:∀ d∈K.ds,d.sg.length≤2:=fun d hd=>fZ h.d hd
 simp only at d3 d4 s3
 rw [kv,Ei]
 simp only [nI] at hU
 refine ae xJ (by simp) ?_
 simp only [oM,go_sem,jF,jG,jH,↓reduceIte,reduceCtorEq]
 try simp (disch:=omega) only [go_sem,jA,jB,jC,jD,jE,jF,jG,jH,jI,jJ,↓reduceIte,reduceCtorEq,jO,jM,jN,jK,jL]
 refine ab (me (pv K.ps) (by rw [ba]; omega) (CA _) (Fl _)) (by simp [go_sem]) ?_
 try simp (disch:=omega) only [go_sem,jF,jG,jH,↓reduceIte,reduceCtorEq,aV]
 refine bd [5,19,20,21,22,23,24,25,26,27,28,29,30,31,32,33,34,35] (by kernel_rfl) K.ds.length (fun k e σ=>e 19=.int .i64 k∧σ.ob 0=some ⟨0,7,49,false,true,[.agg [.list 4 (nG B.op),.list 6 (jk B.rp),.list 3 (pv K.ps),.int .i64 K.nx,.list 7 (xA K.ds),.int .i64 s.n,.list 4 (cJ s.l)]]⟩∧
   σ.ob 1=some ⟨1,7,49,false,true,[.agg [.nil,.nil,.nil,.int .i64 0,.nil,.int .i64 0,.nil]]⟩∧
   ∃ X,σ.ob 2=some ⟨2,7,49,false,true,[.agg [.nil,.nil,.list 3 (pv K.ps),.int .i64 K.nx,X,.int .i64 0,.nil]]⟩∧cd 7 28 σ (xA (K.ds.take k)) X∧aU X 0∧aU X 1∧aU X 2) ?_ ?_
 ·exact ⟨(by first | rfl | (simp (disch:=omega) only [go_sem,jA,jB,jC,jD,jE,jF,jG,jH,jI,jJ,↓reduceIte,reduceCtorEq,jP,jO,jM,jN]; try rfl)),by try simp (disch:=omega) only [go_sem,↓reduceIte,reduceCtorEq],by try simp (disch:=omega) only [go_sem,jF,↓reduceIte],.nil,by try simp (disch:=omega) only [go_sem,↓reduceIte],cd.nil,aU.nil _,aU.nil _,aU.nil _⟩
 rintro k fe ob m c hk hm ⟨h19,u0,u1,X,u2,hR,o0,o1,o2⟩
 simp (maxSteps:=1000000) only [go_sem,jF,↓reduceIte] at h19 u0 u1 u2 hR hm
 try simp (disch:=omega) only [go_sem,jF,↓reduceIte,h19]
 refine aj (fun hlt=>?_) (fun hge=>?_)
 ·have hkl:k<K.ds.length:=by omega
  have e1:=ik hkl
  have ha:=hsg _ (List.mem_of_getElem? e1)
  have htk:K.ds.take (k+1)=K.ds.take k++[gD K.ds k]:=by rw [List.take_add_one,e1]; rfl
  generalize gD K.ds k=d at *
  have hC:=oU (ints d.sg) (by rw [aw]; omega) (eJ _) (jW _)
  have z0:¬0=m:=by omega
  have z1:¬1=m:=by omega
  have z2:¬2=m:=by omega
  have z3:¬m=2:=by omega
  try simp (disch:=omega) only [go_sem,jF,jG,jH,↓reduceIte,aV,ek,e1,Option.map_some,jo,jY]
  refine ⟨by omega,by omega,?_⟩
  refine ab hC (by simp [go_sem]) ?_
  try simp (disch:=omega) only [go_sem,jF,jG,jH,↓reduceIte,z2,u2]
  have hlen:(xA (K.ds.take k)).length≤64:=by rw [aV,List.length_take]; omega
  refine bz (b:=72) (hR.move (by simp only; omega) fun i hi _=>by
   simp only at hi ⊢
   repeat rw [aa _ _ _ _ (by omega)]) (by omega) (by omega) fun X2 τ2 hR2 hK2=>?_
  have hn2:=hK2.1
  have r0:=hK2.2.1 0 (by simp only; omega) o0
  have r1:=hK2.2.1 1 (by simp only; omega) o1
  have r2:=hK2.2.1 2 (by simp only; omega) o2
  have p0:=hK2.2.2 0 (by simp only; omega) o0
  have p1:=hK2.2.2 1 (by simp only; omega) o1
  have p2:=hK2.2.2 2 (by simp only; omega) o2
  simp only at r0 r1 r2 hn2
  try simp (disch:=omega) only [go_sem,↓reduceIte,z0,u0] at r0
  try simp (disch:=omega) only [go_sem,↓reduceIte,z1,u1] at r1
  try simp (disch:=omega) only [go_sem,↓reduceIte,z2,u2] at r2
  try simp (disch:=omega) only [go_sem,jF,jG,jH,↓reduceIte,jO,hR2.flat,hR2.cells,r2]
  refine aF τ2.n hkl (by omega) ⟨(by first | rfl | (simp (disch:=omega) only [go_sem,jA,jB,jC,jD,jE,jF,jG,jH,jI,jJ,↓reduceIte,reduceCtorEq,jP,jO,jM,jN]; try rfl)),?_,?_,X2,?_,?_,p0,p1,p2⟩
  ·simp only [St.aC,St.put]; rw [if_pos (by omega),aa _ _ _ _ (by omega)]; exact r0
  ·simp only [St.aC,St.put]; rw [if_pos (by omega),aa _ _ _ _ (by omega)]; exact r1
  ·simp only [St.aC,St.put]; rw [if_pos (by omega),ay]
  ·rw [htk,show xA (K.ds.take k++[d])=xA (K.ds.take k)++[.agg [.int .i64 d.id,.int .i64 d.site,.int .i64 d.fr,.int .i64 d.to,.int .i64 d.rel,.list 1 (ints d.sg),.bool d.wd]] by simp [xA,jo,jY]]
   refine hR2.move (Nat.le_refl _) fun i hi hno=>?_
   have:¬i=2:=fun e=>hno (e ▸ p2)
   simp only [St.aC,St.put]; rw [if_pos hi,aa _ _ _ _ this]
 ·try simp (disch:=omega) only [go_sem,jF,jH,↓reduceIte,u0]
  refine ab hU (by simp [go_sem]) ?_
  try simp (disch:=omega) only [go_sem,jF,jG,jH,↓reduceIte,reduceCtorEq,u0,u2]
  refine ab (mM (cJ s.l) (by rw [aq]; omega) (eP _) (iY _)) (by simp [go_sem]) ?_
  try simp (disch:=omega) only [go_sem,jF,jG,jH,↓reduceIte,reduceCtorEq,u0,u1,hR.one]
  obtain rfl:k=K.ds.length:=by omega
  rw [List.take_length] at hR
  refine aA.ag (.cons (.pure (by simp [go_sem])) (.cons (.pure (by simp [go_sem])) (.cons (.pure (by simp [go_sem])) (.cons (aA.e rfl) (.cons (hR.mL (fun i hi hno=>?_) (Lg _) (I4 _)) (.cons (aA.e rfl) (.cons (.pure (by simp [go_sem])) .nil)))))))
  have y1:¬i=1:=fun e=>hno (e ▸ o1)
  have y2:¬i=2:=fun e=>hno (e ▸ o2)
  simp only
  repeat rw [aa _ _ _ _ (by assumption)]
theorem GA {k:Kt} {q:Rc} (h:pc k≠0):sO k q=(kz,pc k):=by rw [sO,if_pos h]
theorem Gz {k:Kt} {q:Rc} (h:pc k=0) (hv:bl q=false):sO k q=(kz,49):=by rw [sO,if_neg (by simp [h]),if_pos hv]
theorem C7 {k:Kt} {q:Rc} (h:pc k=0) (hv:bl q=true):sO k q=
 if q.k=1 then je (sN k.B (Mg q)).2 ⟨(sN k.B (Mg q)).1,k.K,k.s⟩ else
 if q.k=2 then je (bR k.K q.site q.fr q.to q.rel).2.2 ⟨k.B,(bR k.K q.site q.fr q.to q.rel).1,k.s⟩ else
 if q.k=3 then je (kg k.K q.Da q.D5 q.code q.time).2 ⟨k.B,(kg k.K q.Da q.D5 q.code q.time).1,k.s⟩ else
 if q.k=4 then je (lu k.K q.Da q.D5 q.code q.time).2 ⟨k.B,(lu k.K q.Da q.D5 q.code q.time).1,k.s⟩ else
 if q.k=5 then je (cL k.s q.rj q.Ay q.As).2.2 ⟨k.B,k.K,(cL k.s q.rj q.Ay q.As).1⟩ else
 je (dN k.s q.CB).2 ⟨k.B,k.K,(dN k.s q.CB).1⟩:=by rw [sO,if_neg (by simp [h]),if_neg (by simp [hv])]
theorem mr (k:Kt):iG 0 (kv k) (.agg [.nil,.nil,.nil,.int .i64 0,.nil,.int .i64 0,.nil])=kv k:=rfl
theorem jb (k:Kt):(kv k).cG=true:=CV _ _ _
theorem na {σ:St} {e:Int} {k:Kt} (h:e=0):aA σ (.tuple [kv k,.int .i64 0]) (.tuple [kv (je e k).1,.int .i64 (je e k).2]):=by
 rw [je,if_pos h]
 exact aA.tu (.cons (.pure (jb k)) (.cons (.pure rfl) .nil))
theorem nb {σ:St} {e:Int} {k:Kt} (h:e≠0):aA σ (.tuple [.agg [.nil,.nil,.nil,.int .i64 0,.nil,.int .i64 0,.nil],.int .i64 e]) (.tuple [kv (je e k).1,.int .i64 (je e k).2]):=by
 rw [je,if_neg h]
 exact aA.tu (.cons sE (.cons (.pure rfl) .nil))
theorem pE (k:Kt) (h:Ot k) (q:Rc) (hq:q.sg.length≤9223372036854775807):PC prog AM [kv k,fD q] (.tuple [kv (sO k q).1,.int .i64 (sO k q).2]):=by
 have hC:=fK k h
 have hT:=mQ k
 have hE:=lH q hq
 have hpk:=CV k.B k.K k.s
 have hpq:=nQ q
 have hsg:=eJ q.sg
 have hd0:=@GA k q
 have hd1:=@Gz k q
 have hd2:=@C7 k q
 have hFi:=fun (hv:bl q=true) (hk:q.k=1)=>tw k.B h.b (Mg q) (H7 hv hk)
 have hRq:=pG k.K h.d q.site q.fr q.to q.rel
 have hSg:=tG k.K h.d q.Da q.D5 q.code q.time
 have hWd:=oW k.K h.d q.Da q.D5 q.code q.time
 have hIs:=xb k.s q.rj q.Ay q.As h.s
 have hCf:=tC k.s q.CB h.s
 have hOk:=(lU h).1
 obtain ⟨B,K,s⟩:=k
 simp only [kv] at hC hT
 simp only [Ei,fD,lj,fI] at hC hT hE hpk hpq
 simp only [nI,eX,Mg] at hFi
 simp only [bY] at hRq hSg hWd
 simp only [oT,gI] at hIs hCf
 simp only at hd2 hOk
 generalize hck:pc ⟨B,K,s⟩=ck at *
 generalize sO ⟨B,K,s⟩ q=D at *
 obtain ⟨P,hP⟩:∃ P,AV.tuple [kv D.1,.int .i64 D.2]=P:=⟨_,rfl⟩
 rw [hP]
 refine ae Ba (by simp) ?_
 simp only [rT,go_sem,jF,jG,jH,↓reduceIte,reduceCtorEq,kv,Ei,fD,lj,fI]
 try simp (disch:=omega) only [go_sem,jA,jB,jC,jD,jE,jF,jG,jH,jI,jJ,↓reduceIte,reduceCtorEq,jO,jM,jN,jK,jL]
 refine ab hC (by simp [go_sem]) ?_
 try simp (disch:=omega) only [go_sem,↓reduceIte]
 refine bn (fun c0=>?_) (fun c0=>?_)
 ·try simp (disch:=omega) only [go_sem,jF,jG,jH,↓reduceIte]
  rw [←hP,hd0 c0]
  exact aA.tu (.cons sE (.cons (.pure rfl) .nil))
 subst c0
 have hO:=hOk rfl
 try simp (disch:=omega) only [go_sem,jF,jH,↓reduceIte]
 refine ab hE (by simp [go_sem]) ?_
 rw [oa]
 cases hv:bl q
 ·try simp (disch:=omega) only [go_sem,jA,jF,jG,jH,↓reduceIte,reduceCtorEq]
  rw [←hP,hd1 rfl hv]
  exact aA.tu (.cons sE (.cons (.pure rfl) .nil))
 try simp (disch:=omega) only [go_sem,jF,jG,jH,↓reduceIte,reduceCtorEq]
 refine ab (hT hO) (by simp [go_sem]) ?_
 rw [hd2 rfl hv] at hP
 clear hd0 hd1 hd2 hC hE hT
 have hk6:=HH hv
 simp only [Mg] at hP
 try simp (disch:=omega) only [go_sem,jF,jG,jH,↓reduceIte,reduceCtorEq]
 refine aj (fun k1=>?_) (fun k1=>?_)
 ·rw [if_pos k1] at hP
  try simp (disch:=omega) only [go_sem,jF,jG,jH,↓reduceIte,reduceCtorEq]
  refine ab (hFi hv k1) (by simp [go_sem]) ?_
  generalize sN B ⟨q.num,q.acc,q.wQ,q.tm,⟨q.lo,q.hi⟩⟩=F at *
  obtain ⟨B',e⟩:=F
  try simp (disch:=omega) only [go_sem,jF,jG,jH,↓reduceIte,reduceCtorEq]
  refine bn (fun c=>?_) (fun c=>?_)
  ·try simp (disch:=omega) only [go_sem,jF,jG,jH,↓reduceIte]
   rw [←hP]
   exact nb c
  ·subst c
   try simp (disch:=omega) only [go_sem,jF,jG,jH,↓reduceIte]
   rw [←hP]
   exact na (k:=⟨B',K,s⟩) rfl
 rw [if_neg k1] at hP
 try simp (disch:=omega) only [go_sem,jF,↓reduceIte]
 refine aj (fun k2=>?_) (fun k2=>?_)
 ·rw [if_pos k2] at hP
  try simp (disch:=omega) only [go_sem,jF,jG,jH,↓reduceIte,reduceCtorEq]
  refine ab hRq (by simp [go_sem]) ?_
  generalize bR K q.site q.fr q.to q.rel=F at *
  obtain ⟨K',i',e⟩:=F
  try simp (disch:=omega) only [go_sem,jF,jG,jH,↓reduceIte,reduceCtorEq]
  refine bn (fun c=>?_) (fun c=>?_)
  ·try simp (disch:=omega) only [go_sem,jF,jG,jH,↓reduceIte]
   rw [←hP]
   exact nb c
  ·subst c
   try simp (disch:=omega) only [go_sem,jF,jG,jH,↓reduceIte]
   rw [←hP]
   exact na (k:=⟨B,K',s⟩) rfl
 rw [if_neg k2] at hP
 try simp (disch:=omega) only [go_sem,jF,↓reduceIte]
 refine aj (fun k3=>?_) (fun k3=>?_)
 ·rw [if_pos k3] at hP
  try simp (disch:=omega) only [go_sem,jF,jG,jH,↓reduceIte,reduceCtorEq]
  refine ab hSg (by simp [go_sem]) ?_
  generalize kg K q.Da q.D5 q.code q.time=F at *
  obtain ⟨K',e⟩:=F
  try simp (disch:=omega) only [go_sem,jF,jG,jH,↓reduceIte,reduceCtorEq]
  refine bn (fun c=>?_) (fun c=>?_)
  ·try simp (disch:=omega) only [go_sem,jF,jG,jH,↓reduceIte]
   rw [←hP]
   exact nb c
  ·subst c
   try simp (disch:=omega) only [go_sem,jF,jG,jH,↓reduceIte]
   rw [←hP]
   exact na (k:=⟨B,K',s⟩) rfl
 rw [if_neg k3] at hP
 try simp (disch:=omega) only [go_sem,jF,↓reduceIte]
 refine aj (fun k4=>?_) (fun k4=>?_)
 ·rw [if_pos k4] at hP
  try simp (disch:=omega) only [go_sem,jF,jG,jH,↓reduceIte,reduceCtorEq]
  refine ab hWd (by simp [go_sem]) ?_
  generalize lu K q.Da q.D5 q.code q.time=F at *
  obtain ⟨K',e⟩:=F
  try simp (disch:=omega) only [go_sem,jF,jG,jH,↓reduceIte,reduceCtorEq]
  refine bn (fun c=>?_) (fun c=>?_)
  ·try simp (disch:=omega) only [go_sem,jF,jG,jH,↓reduceIte]
   rw [←hP]
   exact nb c
  ·subst c
   try simp (disch:=omega) only [go_sem,jF,jG,jH,↓reduceIte]
   rw [←hP]
   exact na (k:=⟨B,K',s⟩) rfl
 rw [if_neg k4] at hP
 try simp (disch:=omega) only [go_sem,jF,↓reduceIte]
 refine aj (fun k5=>?_) (fun k5=>?_)
 ·rw [if_pos k5] at hP
  try simp (disch:=omega) only [go_sem,jF,jG,jH,↓reduceIte,reduceCtorEq]
  refine ab hIs (by simp [go_sem]) ?_
  generalize cL s q.rj q.Ay q.As=F at *
  obtain ⟨s',o',e⟩:=F
  try simp (disch:=omega) only [go_sem,jF,jG,jH,↓reduceIte,reduceCtorEq]
  refine bn (fun c=>?_) (fun c=>?_)
  ·try simp (disch:=omega) only [go_sem,jF,jG,jH,↓reduceIte]
   rw [←hP]
   exact nb c
  ·subst c
   try simp (disch:=omega) only [go_sem,jF,jG,jH,↓reduceIte]
   rw [←hP]
   exact na (k:=⟨B,K,s'⟩) rfl
 rw [if_neg k5] at hP
 try simp (disch:=omega) only [go_sem,jF,↓reduceIte]
 have k6:q.k=6:=by omega
 try simp (disch:=omega) only [go_sem,jA,jF,jG,jH,↓reduceIte,reduceCtorEq,k6]
 refine ab hCf (by simp [go_sem]) ?_
 generalize dN s q.CB=F at *
 obtain ⟨s',e⟩:=F
 try simp (disch:=omega) only [go_sem,jF,jG,jH,↓reduceIte]
 refine bn (fun c=>?_) (fun c=>?_)
 ·try simp (disch:=omega) only [go_sem,jF,jG,jH,↓reduceIte]
  rw [←hP]
  exact nb c
 ·subst c
  try simp (disch:=omega) only [go_sem,jF,jG,jH,↓reduceIte]
  rw [←hP]
  exact na (k:=⟨B,K,s'⟩) rfl
def AR (k:Kt) (s:ByteArray) (q:Rc):Kt × ByteArray × Int:=if (sO k q).2≠0 then (kz,⟨#[]⟩,(sO k q).2) else ((sO k q).1,s++qU q,0)
theorem B0 {k:Kt} {q:Rc} (h:(sO k q).2=0):bl q=true:=by
 cases hv:bl q
 ·by_cases c:pc k=0
  ·rw [Gz c hv] at h; cases h
  ·rw [GA c] at h; exact absurd h c
 ·rfl
theorem eR (k:Kt):(kv k).flat=true:=rfl
theorem dx (k:Kt):(kv k).cells.length=7:=rfl
theorem kI (k:Kt):(kv k).cells.take 7=(kv k).cells:=rfl
theorem kJ (k:Kt):AV.agg (kv k).cells=kv k:=rfl
theorem ze (k:Kt):(kv k).cells.all AV.one=true:=rfl
theorem ID (k l:Kt):iG 0 (kv k) (kv l)=kv k:=rfl
instance:DecidableEq Kt:=fun a b=>decidable_of_iff (a.B=b.B∧a.K=b.K∧a.s=b.s) (by cases a; cases b; simp)
theorem ov (k:Kt) (h:Ot k) (s:ByteArray) (hs:s.size≤4611686018427387904) (q:Rc) (hq:q.sg.length≤9223372036854775807):PC prog yN [kv k,.str s,fD q] (.tuple [kv (AR k s q).1,.str (AR k s q).2.1,.int .i64 (AR k s q).2.2]):=by
 have hD:=pE k h q hq
 have hA:=tE s q hs hq
 have hpk:=jb k
 have hpq:=nQ q
 have hv:=@B0 k q
 obtain ⟨P,hP⟩:∃ P,AV.tuple [kv (AR k s q).1,.str (AR k s q).2.1,.int .i64 (AR k s q).2.2]=P:=⟨_,rfl⟩
 rw [hP]
 rw [AR] at hP
 generalize sO k q=D at *
 obtain ⟨k',e⟩:=D
 refine ae zW (by simp) ?_
 simp only [qc,go_sem,jF,jG,jH,↓reduceIte,reduceCtorEq]
 try simp (disch:=omega) only [go_sem,eR,dx,kI,kJ,Ia,Gg,Fi,Fj]
 refine ab hD (by simp [hpk,hpq,go_sem]) ?_
 try simp (disch:=omega) only [go_sem,jF,jG,jH,↓reduceIte,eR,dx,mr]
 refine bn (fun c=>?_) (fun c=>?_)
 ·try simp (disch:=omega) only [go_sem,jF,jG,jH,↓reduceIte]
  rw [←hP,if_pos c]
  exact aA.tu (.cons sE (.cons (.pure rfl) (.cons (.pure rfl) .nil)))
 ·subst c
  try simp (disch:=omega) only [go_sem,jF,jH,↓reduceIte,reduceCtorEq,Fi,Fj]
  refine ab hA (by simp [hpq,go_sem]) ?_
  rw [Jx,if_pos (hv rfl)]
  try simp (disch:=omega) only [go_sem,jF,jH,↓reduceIte,dx,kI,kJ,ze]
  rw [←hP,if_neg (by simp)]
  exact aA.tu (.cons (.pure (jb k')) (.cons (.pure rfl) (.cons (.pure rfl) .nil)))
theorem mR (a b:Kt) (h:TK a):PC prog xp [kv a,kv b] (.bool (decide (a=b))):=by
 have hB:=vp a.B b.B h.n h.a h.r
 have hD:=tH a.K b.K h.d
 have hS:=yG a.s b.s h.s
 obtain ⟨B,K,s⟩:=a
 obtain ⟨B',K',s'⟩:=b
 simp only [nI,bY,oT] at hB hD hS
 refine ae xK (by simp) ?_
 simp only [oN,go_sem,jF,jG,jH,↓reduceIte,reduceCtorEq,kv,Ei]
 try simp (disch:=omega) only [go_sem,jA,jB,jC,jD,jE,jF,jG,jH,jI,jJ,↓reduceIte,reduceCtorEq,jO,jM,jN,jK,jL]
 refine ab hB (by simp [go_sem]) ?_
 have hE:decide ((⟨B,K,s⟩:Kt)=⟨B',K',s'⟩)=(decide (B=B')&&(decide (K=K')&&decide (s=s'))):=by
  rw [Bool.eq_iff_iff]; simp
 rw [hE]
 cases decide (B=B')
 ·try simp (disch:=omega) only [go_sem,jF,↓reduceIte]
  exact aA.of_eq rfl rfl
 try simp (disch:=omega) only [go_sem,jF,jG,jH,↓reduceIte,reduceCtorEq]
 refine ab hD (by simp [go_sem]) ?_
 cases decide (K=K')
 ·try simp (disch:=omega) only [go_sem,jF,↓reduceIte]
  exact aA.of_eq rfl rfl
 try simp (disch:=omega) only [go_sem,jF,jG,jH,↓reduceIte,reduceCtorEq]
 refine ab hS (by simp [go_sem]) ?_
 cases decide (s=s') <;> try simp (disch:=omega) only [go_sem,jF,↓reduceIte] <;> exact aA.of_eq rfl rfl
theorem fb (k:Kt) (h:Ot k) (s:ByteArray) (hs:s.size≤100000000000) (hsg:∀ q∈(dP s).1,q.sg.length≤9223372036854775807) (hll:(dP s).1.length≤4611686018427387904) (n:Int):PC prog tQ [kv k,.str s,.int .i64 n] (.tuple [kv (yx k s n).1,.int .i64 (yx k s n).2.1,.int .i64 (yx k s n).2.2]):=by
 have hC:=fK k h
 have hT:=mQ k
 have hJ:=xe s hs
 have hpk:=jb k
 have hOk:=(lU h).1
 have hS0:yx k s n=if pc k≠0 then (kz,0,pc k) else if n<0∨((dP s).1.length:Int)<n then (kz,0,1) else (((dP s).1.drop n.toNat).foldl bM k,((dP s).1.length:Int),0):=rfl
 obtain ⟨P,hP⟩:∃ P,AV.tuple [kv (yx k s n).1,.int .i64 (yx k s n).2.1,.int .i64 (yx k s n).2.2]=P:=⟨_,rfl⟩
 rw [hP]
 rw [hS0] at hP
 clear hS0
 generalize dP s=O at *
 obtain ⟨l,oe⟩:=O
 simp only at hsg hll hP
 generalize hck:pc k=ck at *
 refine ae uP (by simp) ?_
 simp only [lY,go_sem,jF,jG,jH,↓reduceIte,reduceCtorEq]
 try simp (disch:=omega) only [go_sem,eR,dx,kI,kJ]
 refine ab hC (by simp [hpk,go_sem]) ?_
 try simp (disch:=omega) only [go_sem,↓reduceIte]
 refine bn (fun c=>?_) (fun c=>?_)
 ·try simp (disch:=omega) only [go_sem,jF,jG,jH,↓reduceIte]
  rw [←hP,if_pos c]
  exact aA.tu (.cons sE (.cons (.pure rfl) (.cons (.pure rfl) .nil)))
 subst c
 rw [if_neg (by simp)] at hP
 have hO:=hOk rfl
 try simp (disch:=omega) only [go_sem,jF,↓reduceIte,reduceCtorEq]
 refine ab hJ (by simp [go_sem]) ?_
 try simp (disch:=omega) only [go_sem,jF,↓reduceIte,reduceCtorEq]
 by_cases c1:n<0
 ·rw [if_pos (.inl c1)] at hP
  try simp (disch:=omega) only [go_sem,jF,jG,jH,↓reduceIte,c1,decide_true]
  rw [←hP]
  exact aA.tu (.cons sE (.cons (.pure rfl) (.cons (.pure rfl) .nil)))
 by_cases c2:(l.length:Int)<n
 ·rw [if_pos (.inr c2)] at hP
  try simp (disch:=omega) only [go_sem,jF,jG,jH,↓reduceIte,reduceCtorEq,c1,c2,decide_true,decide_false,eY]
  rw [←hP]
  exact aA.tu (.cons sE (.cons (.pure rfl) (.cons (.pure rfl) .nil)))
 rw [if_neg (by omega)] at hP
 obtain ⟨j,rfl⟩:∃ j:Nat,n=j:=⟨n.toNat,by omega⟩
 rw [Int.toNat_natCast] at hP
 have hdr:(E0 l).drop j=E0 (l.drop j):=by simp [E0]
 have hLs:∀ q∈l.drop j,q.sg.length≤9223372036854775807:=fun q hq=>hsg q (List.mem_of_mem_drop hq)
 try simp (disch:=omega) only [go_sem,jF,jH,↓reduceIte,reduceCtorEq,c1,c2,decide_false,eY,kI,kJ]
 refine ab (hT hO) (by simp [hpk,go_sem]) ?_
 try simp (disch:=omega) only [go_sem,jF,jG,jH,↓reduceIte,reduceCtorEq,eY,hdr,eR,dx,mr]
 refine ⟨by omega,by omega,?_⟩
 have hLl:(l.drop j).length≤4611686018427387904:=by rw [List.length_drop]; omega
 generalize l.drop j=L at *
 refine bd [14,15,16,43,44,45,46,47,48,49,50,51,52,53,54,55,56] (by kernel_rfl) L.length (fun i e σ=>e 43=.int .i64 i∧σ.ob 1=some ⟨1,7,49,false,true,[.agg [.nil,.nil,.nil,.int .i64 0,.nil,.int .i64 0,.nil]]⟩∧σ.ob 2=some ⟨2,7,49,false,true,[kv ((L.take i).foldl bM k)]⟩) ?_ ?_
 ·exact ⟨(by first | rfl | (simp (disch:=omega) only [go_sem,jA,jB,jC,jD,jE,jF,jG,jH,jI,jJ,↓reduceIte,reduceCtorEq,jP,jO,jM,jN]; try rfl)),by try simp (disch:=omega) only [go_sem,jF,↓reduceIte],by try simp (disch:=omega) only [go_sem,↓reduceIte,List.take_zero,List.foldl_nil]⟩
 rintro i fe ob m c hi hm ⟨h43,u1,u2⟩
 simp (maxSteps:=1000000) only [go_sem,jF,↓reduceIte] at h43 u1 u2 hm
 try simp (disch:=omega) only [go_sem,jF,↓reduceIte,h43]
 refine aj (fun hlt=>?_) (fun hge=>?_)
 ·have hil:i<L.length:=by omega
  have g1:L[i]?=some L[i]:=List.getElem?_eq_getElem hil
  have t1:=eS L i hil
  have hqs:=hLs _ (List.getElem_mem hil)
  have hK:=uk (l:=L.take i) hO
  have hI:(L.take (i+1)).foldl bM k=bM ((L.take i).foldl bM k) L[i]:=by rw [t1,List.foldl_append]; rfl
  clear t1
  generalize L[i]=q at *
  generalize (L.take i).foldl bM k=kk at *
  have hD:=pE kk hK.S q hqs
  have hst:bM kk q=if (sO kk q).2=0 then (sO kk q).1 else kk:=rfl
  have hpkk:=jb kk
  have hpq:=nQ q
  rw [hst] at hI
  clear hst
  generalize sO kk q=D at *
  obtain ⟨k2,e⟩:=D
  have z1:¬1=m:=by omega
  have z2:¬2=m:=by omega
  have y1:¬1=m+1:=by omega
  have y2:¬2=m+1:=by omega
  have x2:¬m=2:=by omega
  have x3:¬m+1=2:=by omega
  try simp (disch:=omega) only [go_sem,jF,jH,↓reduceIte,eY,KO,g1,Option.map_some,u2,H9,z2,kI,kJ,Gg,Fi,Fj,KM,KL]
  refine ⟨by omega,by omega,?_⟩
  refine ab hD (by simp [hpkk,hpq,go_sem]) ?_
  try simp (disch:=omega) only [go_sem,jF,jH,↓reduceIte,eR,dx,mr]
  refine aj (fun c=>?_) (fun c=>?_)
  ·rw [if_pos c] at hI
   try simp (disch:=omega) only [go_sem,jF,jH,↓reduceIte,jO,u2,z2,y2,dx,kI,kJ,ze,ID]
   refine aF (m+1+1) hil (by omega) ⟨(by first | rfl | (simp (disch:=omega) only [go_sem,jA,jB,jC,jD,jE,jF,jG,jH,jI,jJ,↓reduceIte,reduceCtorEq,jP,jO,jM,jN]; try rfl)),?_,?_⟩
   ·rw [aX (by omega)]; try simp (disch:=omega) only [go_sem,jF,↓reduceIte,z1,y1,u1]
   ·rw [aX (by omega),hI]; try simp (disch:=omega) only [go_sem,↓reduceIte]
  ·rw [if_neg c] at hI
   try simp (disch:=omega) only [go_sem,jF,↓reduceIte,jO]
   refine aF (m+1+1) hil (by omega) ⟨(by first | rfl | (simp (disch:=omega) only [go_sem,jA,jB,jC,jD,jE,jF,jG,jH,jI,jJ,↓reduceIte,reduceCtorEq,jP,jO,jM,jN]; try rfl)),?_,?_⟩
   ·rw [aX (by omega)]; try simp (disch:=omega) only [go_sem,↓reduceIte,z1,y1,u1]
   ·rw [aX (by omega),hI]; try simp (disch:=omega) only [go_sem,↓reduceIte,z2,y2,u2]
 ·obtain rfl:i=L.length:=by omega
  rw [List.take_length] at u2
  try simp (disch:=omega) only [go_sem,jF,jH,↓reduceIte,u1,u2,eY,dx,kI,kJ,ze]
  rw [←hP]
  exact aA.tu (.cons (.pure (jb _)) (.cons (.pure rfl) (.cons (.pure rfl) .nil)))
def qS:Rc:=⟨5,0,0,0,0,0,0,0,0,0,0,0,[],false,0,0,0,0,1,0,9⟩
def kS:Kt:=⟨FV,⟨[],1,[]⟩,⟨1,[]⟩⟩
def kT:Kt:=⟨FV,⟨[],1,[]⟩,⟨2,[⟨1,1,0,9⟩]⟩⟩
theorem KQ:AV.agg [AV.int IntKind.i64 5,AV.int IntKind.i64 0,AV.int IntKind.i64 0,AV.int IntKind.i64 0,AV.int IntKind.i64 0,AV.int IntKind.i64 0,AV.int IntKind.i64 0,AV.int IntKind.i64 0,AV.int IntKind.i64 0,AV.int IntKind.i64 0,AV.int IntKind.i64 0,AV.int IntKind.i64 0,AV.nil,AV.bool false,AV.int IntKind.i64 0,AV.int IntKind.i64 0,AV.int IntKind.i64 0,AV.int IntKind.i64 0,AV.int IntKind.i64 1,AV.int IntKind.i64 0,AV.int IntKind.i64 9]=lj .nil qS:=rfl
theorem Qu:bl qS=true:=by simp [bl,qS,aP,bQ,cI,fB,sI,qu,vB]
theorem Oj:lD FV:=⟨by simp [FV],fun a h=>by simp [FV] at h,by simp [FV],.nil,fun r h=>by simp [FV] at h⟩
theorem pS:xP kS:=⟨Oj,by simp [kS,cj,gL],by simp [kS,dq,mw,eW]⟩
theorem Gs:sO kS qS=(kT,0):=by
 rw [C7 ((lU pS.S).2 pS) Qu,if_neg (by simp [qS]),if_neg (by simp [qS]),if_neg (by simp [qS]),if_neg (by simp [qS]),if_pos (show qS.k=5 from rfl)]
 have e:cL kS.s qS.rj qS.Ay qS.As=(⟨2,[⟨1,1,0,9⟩]⟩,⟨1,1,0,9⟩,0):=by
  rw [cL,if_pos pS.s,if_pos (by simp [dB,qS,mw]),if_neg (by simp [kS])]; rfl
 rw [e]; rfl
theorem Qw:xP kT:=by
 have:=I6 pS.S (q:=qS) (by rw [Gs])
 rwa [Gs] at this
theorem IH:GO (.agg [.nil,.nil,.nil,.int .i64 1,.nil,.int .i64 1,.nil]) (kv kS):=.agg (.cons (.nil 4) (.cons (.nil 6) (.cons (.nil 3) (.cons .rfl (.cons (.nil 7) (.cons .rfl (.cons (.nil 4) .nil)))))))
theorem Fm:dP ((⟨#[]⟩:ByteArray)++qU qS++⟨#[116,111,114,110]⟩)=([qS],((mA [qS]).length:Int)):=
 D6 (l:=[qS]) (Q:=[116,111,114,110]) (by simp [Qu]) (by rw [mH,mH,Co]; simp [mA,sb]) (.inr (Hj (by omega) [111,114,110]))
theorem Sy:(kv kT).cells.getD 6 .bA=.list 4 (cJ [⟨1,1,0,9⟩]):=rfl
theorem Ax:PC prog CQ [] (.bool true):=by
 have hz:((⟨#[]⟩:ByteArray)++qU qS).size≤1000:=by
  rw [←bL,mH,Co,List.length_append,fu]; decide
 have ht:((⟨#[]⟩:ByteArray)++qU qS++⟨#[116,111,114,110]⟩).size≤1004:=by
  rw [ByteArray.size_append]
  have:(⟨#[116,111,114,110]⟩:ByteArray).size=4:=rfl
  omega
 have hL:=ou (ov kS pS.S ⟨#[]⟩ (by decide) qS (by simp [qS])) (.cons IH (.cons .rfl (.cons (Ic (r:=qS) rfl) .nil)))
 have hl:AR kS ⟨#[]⟩ qS=(kT,⟨#[]⟩++qU qS,0):=by rw [AR,Gs,if_neg (by simp)]
 have hR:=ou (fb kS pS.S ((⟨#[]⟩:ByteArray)++qU qS++⟨#[116,111,114,110]⟩) (by omega) (by rw [Fm]; simp [qS]) (by rw [Fm]; simp) 0) (.cons IH (.cons .rfl (.cons .rfl .nil)))
 have hr:yx kS ((⟨#[]⟩:ByteArray)++qU qS++⟨#[116,111,114,110]⟩) 0=(kT,1,0):=by
  rw [yx,if_neg (by simp [(lU pS.S).2 pS]),Fm,if_neg (by simp)]
  have:bM kS qS=kT:=by rw [bM,Gs,if_pos rfl]
  simp [this]
 have hS:=mR kT kT Qw.L
 rw [decide_eq_true rfl] at hS
 have hC:=ou (fK kS pS.S) (.cons IH .nil)
 rw [(lU pS.S).2 pS] at hC
 rw [hl] at hL
 rw [hr] at hR
 generalize (⟨#[]⟩:ByteArray)++qU qS=S at *
 refine ae Du (by simp) ?_
 simp only [uH,go_sem,jF,jG,jH,↓reduceIte]
 try simp (disch:=omega) only [go_sem,jA,jB,jC,jD,jE,jF,jG,jH,jI,jJ,↓reduceIte,reduceCtorEq,jO,jM,jN,jK,jL]
 rw [KQ]
 refine ab hL (by simp [Gi,go_sem]) ?_
 try simp (disch:=omega) only [go_sem,jF,jG,jH,↓reduceIte,reduceCtorEq,eR,dx,mr]
 have h4:(#[116,111,114,110]:Array UInt8).size=4:=rfl
 refine ⟨by rw [h4]; omega,?_⟩
 refine ab hR (by simp [go_sem]) ?_
 try simp (disch:=omega) only [go_sem,jF,jG,jH,↓reduceIte,eR,dx,kI,kJ,mr]
 refine ab hS (by simp [jb,go_sem]) ?_
 have hl1:(cJ [⟨1,1,0,9⟩]).length=1:=rfl
 have hg1:(cJ [⟨1,1,0,9⟩])[0]?=some (.agg [.int .i64 1,.int .i64 1,.int .i64 0,.int .i64 9]):=rfl
 try simp (disch:=omega) only [go_sem,jB,jC,jF,jG,jH,↓reduceIte,reduceCtorEq,Sy,hl1,hg1]
 refine ab hC (by simp [go_sem]) ?_
 try simp (disch:=omega) only [go_sem,jF,↓reduceIte]
 exact aA.of_eq rfl rfl
end Go.Proofs.Try
