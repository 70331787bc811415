/- OWN WORK, put together by tools/asm.py, seat.py, mini.py. -/
import Derived.Test.YtcpckngdfjmbgaaGreatLibG
set_option linter.unusedSimpArgs false
set_option linter.unusedVariables false
set_option maxRecDepth 100000
set_option maxHeartbeats 1000000
namespace Go.Proofs.Try
open Go.Ab Go Go.Proofs.Tryz
open Int renaming reduceEq → jA, reduceLT → jB, reduceLE → jC, reduceToNat → jD
open Go.Ab renaming iD → jM, iE → jN, lF → jO, iF → jP
open Nat renaming reduceLT → jE, reduceEqDiff → jF, reduceAdd → jG, reduceLeDiff → jH, reduceSub → jI, reduceMul → jJ, sub_zero → jK, sub_self → jL
theorem Hc (l:List Rc) {a b:Nat} (h:a≤b):(mA (l.take a)).length≤(mA (l.take b)).length:=by
 have e:l.take b=l.take a++(l.take b).drop a:=by
  conv=>lhs; rw [←List.take_append_drop a (l.take b),List.take_take,Nat.min_eq_left h]
 rw [e,mA,mA,List.flatMap_append,List.length_append]; omega
theorem Ex (s:ByteArray) (k m:Int):∃ n:Nat,sb (sP s k m)=(sb s).take n∧min (max k 0) s.size≤(n:Int):=by
 obtain ⟨q,hq⟩:∃ q,(zL s k).size=q:=⟨_,rfl⟩
 have hz:q=(min (max k 0) s.size).toNat:=by rw [←hq]; simp [zL]; omega
 have hc:zL s k=s.extract 0 q:=by rw [hz]; rfl
 obtain ⟨b,hb⟩:∃ b:Nat,zL (s.extract q s.size) m=(s.extract q s.size).extract 0 b:=⟨_,rfl⟩
 refine ⟨q+b,?_,by omega⟩
 have hsl:=bL s
 rw [sP,hq,hb,hc,mH,kh,kh,kh]
 simp only [Nat.sub_zero,List.drop_zero]
 rw [List.take_take,List.take_add]
 congr 1
 by_cases h:b≤s.size-q
 ·rw [Nat.min_eq_left h]
 ·rw [Nat.min_eq_right (by omega),List.take_of_length_le (by rw [List.length_drop]; omega),List.take_of_length_le (by rw [List.length_drop]; omega)]
def Ao (k:Kt) (l:List Rc) (i:Nat):Kt:=(l.take i).foldl bM k
def HN (k:Kt) (l:List Rc):List AV:=(List.range (l.length+1)).map fun i=>kv (Ao k l i)
theorem ke (k:Kt) (l:List Rc):(HN k l).length=l.length+1:=by simp [HN]
theorem F8 (k:Kt) (l:List Rc) {i:Nat} (h:i≤l.length):(HN k l)[i]?=some (kv (Ao k l i)):=by
 rw [HN,List.getElem?_map,List.getElem?_range (by omega)]; rfl
theorem HM (k:Kt) (l:List Rc) (q:Rc):HN k (l++[q])=HN k l++[kv (bM (l.foldl bM k) q)]:=by
 rw [HN,HN,List.length_append,List.length_singleton,List.range_succ,List.map_append]
 congr 1
 ·refine List.map_congr_left fun i hi=>?_
  have:=List.mem_range.1 hi
  rw [Ao,Ao,List.take_append_of_le_length (by omega)]
 ·simp only [List.map_cons,List.map_nil]
  rw [Ao,List.take_of_length_le (by simp),List.foldl_append]; rfl
theorem Ck {k:Kt} (h:xP k) (l:List Rc) (i:Nat):xP (Ao k l i):=uk h
theorem qA {e:Int} {k k':Kt} (h:k'.B.op=k.B.op) (h0:(je e k').2=0):(je e k').1.B.op=k.B.op:=by
 rw [pV] at h0; rw [je,if_pos h0]; exact h
theorem Lb {B:Bk} {r:Rp} (h:lD B) (hv:O8 r) (h0:(sN B r).2=0):(sN B r).1.op=B.op:=by
 rw [sN] at h0 ⊢
 split at h0
 ·rename_i h1; exact absurd h0 h1
 ·rename_i h1
  rw [if_neg h1]
  exact (zG h (Fe h.ao hv (Decidable.byContradiction h1)) h0).2.1
theorem Oc {k:Kt} (h:xP k) {q:Rc} (h0:(sO k q).2=0):(sO k q).1.B.op=k.B.op:=by
 have hv:=B0 h0
 rw [C7 ((lU h.S).2 h) hv] at h0 ⊢
 by_cases k1:q.k=1
 ·rw [if_pos k1] at h0 ⊢
  have:=h0; rw [pV] at this
  exact qA (k:=k) (Lb h.b (H7 hv k1) this) h0
 rw [if_neg k1] at h0 ⊢
 by_cases k2:q.k=2
 ·rw [if_pos k2] at h0 ⊢; exact qA (k:=k) rfl h0
 rw [if_neg k2] at h0 ⊢
 by_cases k3:q.k=3
 ·rw [if_pos k3] at h0 ⊢; exact qA (k:=k) rfl h0
 rw [if_neg k3] at h0 ⊢
 by_cases k4:q.k=4
 ·rw [if_pos k4] at h0 ⊢; exact qA (k:=k) rfl h0
 rw [if_neg k4] at h0 ⊢
 by_cases k5:q.k=5
 ·rw [if_pos k5] at h0 ⊢; exact qA (k:=k) rfl h0
 rw [if_neg k5] at h0 ⊢; exact qA (k:=k) rfl h0
theorem HO {k:Kt} (h:xP k) (q:Rc):(bM k q).B.op=k.B.op:=by
 rw [bM]; split
 ·rename_i h0; exact Oc h h0
 ·rfl
theorem El:∀ {l:List Rc} {k:Kt},xP k→(l.foldl bM k).B.op=k.B.op
 | [],_,_=>rfl
 | q :: l,k,h=>by rw [List.foldl_cons,El (DS h q),HO h q]
theorem xP.dk {k:Kt} (h:xP k):An k.K:=by
 obtain ⟨⟨h1,h2,h3,h4⟩,h5,h6⟩:=iN.1 h.d
 refine ⟨h1,h4,fun p hp=>?_,fun d hd=>?_⟩
 ·obtain ⟨i,hi⟩:=List.getElem?_of_mem hp
  have hil:=(List.getElem?_eq_some_iff.1 hi).1
  have:=h5 i hil
  rw [sL hil] at hi
  obtain rfl:=Option.some.inj hi
  simp only [D7,gL,Bool.and_eq_true,decide_eq_true_eq] at this
  omega
 ·obtain ⟨i,hi⟩:=List.getElem?_of_mem hd
  have hil:=(List.getElem?_eq_some_iff.1 hi).1
  have:=(nT.1 (h6 i hil)).1
  have hs:=fZ h.d hd
  rw [ik hil] at hi
  obtain rfl:=Option.some.inj hi
  omega
theorem xP.sw {k:Kt} (h:xP k):Mu k.s:=by
 have:=eU h.s
 exact ⟨this.2.2.1,by omega,this.2.1⟩
theorem Mj {k:Kt} (hk:xP k) {l:List Rc} {s:ByteArray} {z:Int} (hs:dP s=(l,z)) {i:Nat} (hi:i≤l.length):yx (Ao k l i) s i=(l.foldl bM k,(l.length:Int),0):=by
 rw [yx,if_neg (by simp [(lU (Ck hk l i).S).2 (Ck hk l i)]),hs,if_neg (by simp only; omega),Int.toNat_natCast,Ao,←List.foldl_append,List.take_append_drop]
theorem N1 (k:Kt):(kv k).cells.all AV.ec=true:=by simp [kv,Ei,AV.cells,go_sem,AV.ec]
theorem nS (t:List Int) (safe torn snap:Int) (h1:0≤safe∧safe≤255) (h2:0≤torn∧torn≤255) (h3:0≤snap∧snap≤255):PC prog gK [.list 1 (ints t),.int .u8 safe,.int .u8 torn,.int .u8 snap] (.bool true):=by
 refine ae pg (by simp) ?_
 simp only [gS,go_sem]
 try simp (disch:=omega) only [go_sem,jA,jB,jC,jD,jE,jF,jG,jH,jI,jJ,↓reduceIte,reduceCtorEq,jO,jM,jN,jK,jL]
 refine ab Ax (by simp) ?_
 try simp (disch:=omega) only [go_sem,↓reduceIte,reduceCtorEq]
 refine ab (G4 t) (by simp [go_sem]) ?_
 try simp (disch:=omega) only [go_sem,↓reduceIte]
 cases hfew:Ob t
 ·try simp (disch:=omega) only [go_sem,↓reduceIte]
  exact aA.of_eq rfl rfl
 have hlt:t.length≤9223372036854775807:=by simp [Ob] at hfew; omega
 try simp (disch:=omega) only [go_sem,↓reduceIte,reduceCtorEq]
 refine aK (G2 _ t) ?_
 try simp (disch:=omega) only [go_sem,↓reduceIte]
 refine (AS _ 0 0 t 0 hlt (by simp) (by first | rfl | simp (maxSteps:=1000000) only [go_sem,jA,jB,jC,jD,jE,jF,jG,jH,jI,jJ,↓reduceIte,reduceCtorEq,jP])).mono ?_
 intro r τ hDR
 obtain ⟨⟨B,T,K,s,rfl,hT,hK,hs,hKc,hso⟩,hn,⟨at1,hd⟩,-⟩:=hDR.use (by simp only [St.push]; omega)
 obtain ⟨ob1,n1,c1⟩:=τ
 simp only [St.push] at hn hd
 clear hDR
 have hO:xP ⟨B,K,s⟩:=⟨hT.ok,hKc,hso⟩
 rw [show Ei B K s=kv ⟨B,K,s⟩ from rfl]
 have hTo:SK (⟨B,K,s⟩:Kt).B.op T:=hT.o
 clear hT hK hs hKc hso
 generalize (⟨B,K,s⟩:Kt)=k0 at *
 have hRec:∀ (k:Kt),xP k→k.B.op=k0.B.op→∀ σ id g at',id<σ.n→σ.ob id=some ⟨g,2,au,false,true,[bw t at']⟩→HC prog ry [.ptr id g 2 0 0,kv k] σ (dL σ id g t fun r=>∃ q:Rc,r=fD q∧HB q):=
  fun k hk ho σ id g at' hi hb=>zu σ id g t at' k.B T k.K k.s (by rw [ho]; exact hTo) hk.dk hk.sw hlt hi hb
 clear hTo
 have z0:¬0=n1:=by omega
 have z1:¬n1=0:=by omega
 have p0:=jb k0
 have y1:¬n1=n1+1:=by omega
 have y2:¬n1=n1+1+1:=by omega
 have y3:¬n1+1=n1+1+1:=by omega
 have y4:¬n1+1=n1:=by omega
 have y5:¬0=n1+1:=by omega
 have y6:¬0=n1+1+1:=by omega
 have y7:¬n1+1+1=n1:=by omega
 have y8:¬n1+1+1=0:=by omega
 have y9:¬n1+1+1=n1+1:=by omega
 try simp (disch:=omega) only [go_sem,jF,jH,↓reduceIte,eR,dx,kI,kJ,ze,mr,y1]
 refine aK (ah _ 0 0 au true t at1 8 (by try simp (disch:=omega) only [go_sem,↓reduceIte,z0,y5,y6]; exact hd) (by omega) hlt) ?_
 have hx1:=aH t at1 8
 generalize bc t at1 8=dr at *
 obtain ⟨x0,at2⟩:=dr
 simp only at hx1
 try simp (disch:=omega) only [go_sem,↓reduceIte,jO]
 obtain ⟨N,hN⟩:∃ N:Nat,(N:Int)=2+x0∧N≤9∧2≤N:=⟨(2+x0).toNat,by omega,by omega,by omega⟩
 obtain ⟨hN,hN9,hN2⟩:=hN
 rw [←hN]
 refine bd [11,12,13,15,16,17,18,42,43,44,45,46,47,48,49,50,51,52,53,54,55,56,57,58,59,60,61,62,63,64,65,66,67,68,69,70,71] (by kernel_rfl) N (fun k e σ=>e 15=.int .i64 ((N:Int)-k)∧n1+3≤σ.n∧(∃ a,σ.ob 0=some ⟨0,2,au,false,true,[bw t a]⟩)∧σ.ob n1=some ⟨c1,7,49,false,true,[kv k0]⟩∧
   ∃ (l:List Rc) (X:AV) (m:Nat),At e 11 X∧l.length≤k∧(∀ q∈l,HB q)∧e 12=.str (DJ l)∧e 13=.int .i64 (m:Int)∧m≤l.length∧((mA (l.take m)).length:Int)≤safe∧cd 7 49 σ (HN k0 l) X∧aU X 0∧aU X n1∧aU X (n1+1+1)∧
    σ.ob (n1+1+1)=some ⟨c1+1+1,7,49,false,true,[kv (l.foldl bM k0)]⟩) ?_ ?_
 ·refine ⟨(by first | rfl | (simp (disch:=omega) only [go_sem,jA,jB,jC,jD,jE,jF,jG,jH,jI,jJ,↓reduceIte,reduceCtorEq,jP,jO,jM,jN]; try rfl)),by simp only; omega,⟨at2,by try simp (disch:=omega) only [go_sem,↓reduceIte]⟩,by try simp (disch:=omega) only [go_sem,↓reduceIte,z1,y1,y2],[],.sl (n1+1) (c1+1) 7 0 1,0,(by simp only [At]; try simp (disch:=omega) only [go_sem,jF,↓reduceIte]),Nat.le_refl _,fun q hq=>by simp at hq,by try simp (disch:=omega) only [go_sem,jF,↓reduceIte]; rfl,(by first | rfl | (simp (disch:=omega) only [go_sem,jA,jB,jC,jD,jE,jF,jG,jH,jI,jJ,↓reduceIte,reduceCtorEq,jP,jO,jM,jN]; try rfl)),Nat.le_refl _,by simp [mA]; omega,.inr ⟨n1+1,c1+1,rfl,by simp only; omega,?_⟩,aU.sl (by omega),aU.sl (by omega),aU.sl (by omega),?_⟩
  ·try simp (disch:=omega) only [go_sem,↓reduceIte,reduceCtorEq,y3]; rfl
  ·try simp (disch:=omega) only [go_sem,↓reduceIte,y8]; rfl
 clear hd
 rintro k fe ob m c hk hm ⟨h15,hm1,⟨at3,hd⟩,v0,l,X,mc,h11,hll,hB,h12,h13,hml,hmf,hX,o0,o1,o2,v2⟩
 simp (maxSteps:=1000000) only [go_sem,jF,↓reduceIte,At] at h15 hm hm1 hd v0 v2 h11 h12 h13
 have hKk:=uk (l:=l) hO
 try simp (disch:=omega) only [go_sem,jF,↓reduceIte,h15]
 refine aj (fun hge=>?_) (fun hlt2=>?_)
 ·have hkl:k<N:=by omega
  have hRk:=hRec _ hKk (El hO)
  have hstp:∀ q,(l++[q]).foldl bM k0=bM (l.foldl bM k0) q:=fun q=>by rw [List.foldl_append]; rfl
  have hsn:=HM k0 l
  have pk:=jb (l.foldl bM k0)
  have hLog:=fun q (hq:HB q)=>ov (l.foldl bM k0) hKk.S (DJ l) (by have:=yg l; omega) q (by rw [hq.2]; simp)
  have hstk:∀ q,(sO (l.foldl bM k0) q).2=0→bM (l.foldl bM k0) q=(sO (l.foldl bM k0) q).1:=fun q h=>by rw [bM,if_pos h]
  have hlg:∀ q,AR (l.foldl bM k0) (DJ l) q=if (sO (l.foldl bM k0) q).2≠0 then (kz,⟨#[]⟩,(sO (l.foldl bM k0) q).2) else ((sO (l.foldl bM k0) q).1,DJ l++qU q,0):=fun q=>rfl
  try simp (disch:=omega) only [go_sem,jF,jH,↓reduceIte,v2,h11,h12,kI,kJ]
  refine (hRk _ 0 0 at3 (by simp only; omega) (by exact hd)).mono ?_
  intro r τ hDR
  obtain ⟨⟨q,rfl,hq⟩,hn2,⟨at4,hd4⟩,hf4⟩:=hDR.use (by simp only; omega)
  obtain ⟨ob2,m2,c2⟩:=τ
  simp only at hn2 hd4 hf4
  subst hn2
  have w0:=(hf4 n1 (by omega) (by omega)).trans v0
  have w2:=(hf4 (n1+1+1) (by omega) (by omega)).trans v2
  try simp (disch:=omega) only [go_sem,jF,↓reduceIte,reduceCtorEq,w2]
  refine ⟨v2.symm,?_⟩
  have hL1:=hLog q hq
  rw [hlg q] at hL1
  have hst:=hstk q
  have hf1:=hstp q
  have hs1:=hsn q
  clear hLog hlg hstk hstp hsn hRk
  generalize hkk:l.foldl bM k0=kk at *
  generalize sO kk q=D at *
  obtain ⟨dk,de⟩:=D
  simp only at hst hL1
  have hqz:=yg (l++[q])
  rw [List.length_append,List.length_singleton] at hqz
  have hw9:=HE l q
  rw [show oa q=(qU q,0) by rw [oa,if_pos hq.1]] at hw9
  simp only at hw9
  have a0:¬0=m2:=by omega
  have a1:¬n1=m2:=by omega
  have a2:¬n1+1+1=m2:=by omega
  have a3:¬m2=n1+1+1:=by omega
  have a4:¬m2=n1:=by omega
  by_cases c0:de=0
  rotate_left
  ·rw [if_pos c0] at hL1
   refine ab hL1 (by simp [pk,nQ,go_sem]) ?_
   try simp (disch:=omega) only [go_sem,jF,jH,↓reduceIte,reduceCtorEq,jO,jM,c0,decide_false,Bool.not_false,eR,dx,mr]
   refine aF (m2+1) hkl (by omega) ⟨by try simp (disch:=omega) only [go_sem,↓reduceIte]; congr 1; omega,by simp only [St.aC]; omega,⟨at4,?_⟩,?_,l,X,mc,(by simp only [At]; try simp (disch:=omega) only [go_sem,jF,↓reduceIte]),by omega,hB,by try simp (disch:=omega) only [go_sem,jF,↓reduceIte],by try simp (disch:=omega) only [go_sem,jF,↓reduceIte,h13],hml,hmf,?_,o0,o1,o2,?_⟩
   ·rw [aX (by omega)]; try simp (disch:=omega) only [go_sem,↓reduceIte,a0,hd4]
   ·rw [aX (by omega)]; try simp (disch:=omega) only [go_sem,↓reduceIte,a1,w0]
   ·refine cd.tr (hX.move (by simp only; omega) fun i hi hno=>?_)
    simp only at hi ⊢
    rw [aa _ _ _ _ (by omega),aa _ _ _ _ (by omega)]
    exact hf4 i hi fun e=>hno (by rw [e]; exact o0)
   ·rw [aX (by omega)]; try simp (disch:=omega) only [go_sem,↓reduceIte,a2,w2,hkk]
  subst c0
  rw [if_neg (by simp)] at hL1
  have hdk:=hst rfl
  rw [hdk] at hf1 hs1
  have pd:=jb dk
  refine ab hL1 (by simp [pk,nQ,go_sem]) ?_
  try simp (disch:=omega) only [go_sem,jF,jH,↓reduceIte,reduceCtorEq,w2,a2,eR,dx,kI,kJ,ze,mr,ID]
  refine ⟨N1 dk,?_⟩
  refine bz (b:=136) (hX.move (by simp only; omega) fun i hi hno=>?_) (by rw [ke]; omega) (by rw [ke]; omega) fun Y τ5 hR5 hK5=>?_
  ·have q0:¬i=0:=fun e=>hno (by rw [e]; exact o0)
   have q2:¬i=n1+1+1:=fun e=>hno (by rw [e]; exact o2)
   simp only at hi ⊢
   rw [aa _ _ _ _ q2,aa _ _ _ _ (by omega),aa _ _ _ _ (by omega)]
   exact hf4 i hi q0
  obtain ⟨ob5,m5,c5⟩:=τ5
  have hn5:m2+1≤m5:=hK5.1
  have d5:=hK5.2.1 0 (by simp only; omega) o0
  have e5:=hK5.2.1 n1 (by simp only; omega) o1
  have g5:=hK5.2.1 (n1+1+1) (by simp only; omega) o2
  have r0:=hK5.2.2 0 (by simp only; omega) o0
  have r1:=hK5.2.2 n1 (by simp only; omega) o1
  have r2:=hK5.2.2 (n1+1+1) (by simp only; omega) o2
  simp only at d5 e5 g5
  try simp (disch:=omega) only [go_sem,↓reduceIte,a0,y6,hd4] at d5
  try simp (disch:=omega) only [go_sem,↓reduceIte,a1,y2,w0] at e5
  try simp (disch:=omega) only [go_sem,↓reduceIte] at g5
  rw [←hs1] at hR5
  have hYl:(HN k0 (l++[q])).length=l.length+1+1:=by rw [ke,List.length_append]; rfl
  have hB2:∀ p∈l++[q],HB p:=fun p hp=>by
   rcases List.mem_append.1 hp with hp | hp
   ·exact hB p hp
   ·rw [List.mem_singleton.1 hp]; exact hq
  have hfa:((mA ((l++[q]).take mc)).length:Int)≤safe:=by rw [List.take_append_of_le_length hml]; exact hmf
  have hfb:(mA ((l++[q]).take (l.length+1))).length=(DJ (l++[q])).size:=by
   rw [List.take_of_length_le (by simp),←bL,HX fun p hp=>(hB2 p hp).1]
  rw [hw9] at hqz hfb
  try simp (disch:=omega) only [go_sem,jF,↓reduceIte,reduceCtorEq,jO]
  refine aj (fun hc=>?_) (fun hc=>?_)
  ·try simp (disch:=omega) only [go_sem,jF,↓reduceIte]
   refine cd.gE hR5 ?_
   rw [hYl]
   try simp (disch:=omega) only [go_sem,jF,↓reduceIte,jO]
   refine aF m5 hkl (by omega) ⟨by try simp (disch:=omega) only [go_sem,↓reduceIte]; congr 1; omega,by simp only [St.aC]; omega,⟨at4,?_⟩,?_,l++[q],Y,l.length+1,(by simp only [At]; try simp (disch:=omega) only [go_sem,jF,↓reduceIte]),by simp; omega,hB2,by rw [hw9]; try simp (disch:=omega) only [go_sem,jF,↓reduceIte],by try simp (disch:=omega) only [go_sem,jF,↓reduceIte]; congr 1; omega,by simp,by rw [hfb,ByteArray.size_append]; exact hc,hR5.tr,r0,r1,r2,?_⟩
   ·rw [aX (by omega)]; exact d5
   ·rw [aX (by omega)]; exact e5
   ·rw [aX (by omega),hf1]; exact g5
  ·try simp (disch:=omega) only [go_sem,jF,↓reduceIte,jO]
   refine aF m5 hkl (by omega) ⟨by try simp (disch:=omega) only [go_sem,↓reduceIte]; congr 1; omega,by simp only [St.aC]; omega,⟨at4,?_⟩,?_,l++[q],Y,mc,(by simp only [At]; try simp (disch:=omega) only [go_sem,jF,↓reduceIte]),by simp; omega,hB2,by rw [hw9]; try simp (disch:=omega) only [go_sem,jF,↓reduceIte],by try simp (disch:=omega) only [go_sem,jF,↓reduceIte,h13],by simp; omega,hfa,hR5.tr,r0,r1,r2,?_⟩
   ·rw [aX (by omega)]; exact d5
   ·rw [aX (by omega)]; exact e5
   ·rw [aX (by omega),hf1]; exact g5
 clear hRec hd
 try simp (disch:=omega) only [go_sem,jF,↓reduceIte,reduceCtorEq,jO,h12]
 have hv:∀ q∈l,bl q=true:=fun q hq=>(hB q hq).1
 have hsb:=HX hv
 have hws:(DJ l).size=(mA l).length:=by rw [←bL,hsb]
 have hwz:=yg l
 refine ab (yC (DJ l) safe torn (by omega)) (by simp [go_sem]) ?_
 obtain ⟨n,hn1,hn2⟩:=Ex (DJ l) safe torn
 rw [hsb] at hn1
 obtain ⟨j,hj1,hj2,hj3,hj4⟩:=Fo hv hn1
 have hcs:(sP (DJ l) safe torn).size≤(DJ l).size:=by rw [←bL,hn1,List.length_take,hws]; omega
 have hkn:(mA (l.take mc)).length≤n:=by
  have h3:=Hc l hml
  rw [List.take_length] at h3
  omega
 have hkj:=hj4 mc hml hkn
 generalize sP (DJ l) safe torn=left at *
 have hlj:(l.take j).length=j:=by rw [List.length_take]; omega
 have hsg:∀ q∈(dP left).1,q.sg.length≤9223372036854775807:=by rw [hj2]; intro q hq; rw [(hB q (List.mem_of_mem_take hq)).2]; simp
 have hol:(dP left).1.length≤4611686018427387904:=by rw [hj2,hlj]; omega
 have hR1:=fb k0 hO.S left (by omega) hsg hol 0
 have hr1:=Mj hO (i:=0) hj2 (Nat.zero_le _)
 rw [show Ao k0 (l.take j) 0=k0 from rfl,show (((0:Nat):Int))=0 from rfl,hlj] at hr1
 rw [hr1] at hR1
 have hS1:=mR (Ao k0 l j) (Ao k0 l j) (Ck hO l j).L
 rw [decide_eq_true rfl] at hS1
 rw [show (l.take j).foldl bM k0=Ao k0 l j from rfl] at hR1 hr1
 obtain ⟨ii,hii,hil⟩:∃ ii:Nat,snap.tmod ((j:Int)+1)=ii∧ii≤j:=by
  have h1:=Int.tmod_nonneg ((j:Int)+1) h3.1
  have h2:=Int.tmod_lt_of_pos snap (show (0:Int)<j+1 by omega)
  exact ⟨(snap.tmod ((j:Int)+1)).toNat,by omega,by omega⟩
 have hR2:=fb (Ao k0 l ii) (Ck hO l ii).S left (by omega) hsg hol ii
 have hr2:=Mj hO (i:=ii) hj2 (by rw [hlj]; exact hil)
 rw [show Ao k0 (l.take j) ii=Ao k0 l ii by rw [Ao,Ao,List.take_take,Nat.min_eq_left hil],hlj,show (l.take j).foldl bM k0=Ao k0 l j from rfl] at hr2
 rw [hr2] at hR2
 have g1:=F8 k0 l hj1
 have g2:=F8 k0 l (Nat.le_trans hil hj1)
 have pa:=jb (Ao k0 l j)
 have pb:=jb (Ao k0 l ii)
 generalize Ao k0 l j=ka at *
 generalize Ao k0 l ii=kb at *
 rcases hX with ⟨rfl,h0⟩ | ⟨id,g,rfl,hid,hob⟩
 ·have:(HN k0 l).length=0:=by rw [h0]; rfl
  rw [ke] at this; omega
 simp only at hid hob
 have hsl:=ke k0 l
 have q1:¬n1=m:=by omega
 have q2:¬id=m:=by omega
 have q3:¬id=m+1:=by omega
 have q4:¬m=m+1:=by omega
 try simp (disch:=omega) only [go_sem,jF,jH,↓reduceIte,v0,kI,kJ]
 refine ab hR1 (by simp [p0,go_sem]) ?_
 have d1:¬(j:Int)<(mc:Int):=by omega
 have d2:¬((l.length+1:Nat):Int)≤(j:Int):=by omega
 try simp (disch:=omega) only [go_sem,jF,jH,↓reduceIte,h11,h13,hob,hsl,g1,q2,d1,d2,decide_true,decide_false,Bool.not_true,eR,dx,kI,kJ,mr]
 refine ⟨by omega,by omega,?_⟩
 refine ab hS1 (by simp [pa,go_sem]) ?_
 try simp (disch:=omega) only [go_sem,jF,jH,↓reduceIte,reduceCtorEq,jO,hob,g2,q2,hii,Bool.not_true,kI,kJ]
 refine ⟨by omega,by omega,by omega,?_⟩
 refine ab hR2 (by simp [pb,go_sem]) ?_
 try simp (disch:=omega) only [go_sem,jF,jH,↓reduceIte,q4,decide_true,eR,dx,kI,kJ,mr]
 refine ab hS1 (by simp [pa,go_sem]) ?_
 try simp (disch:=omega) only [go_sem,jF,↓reduceIte]
 exact aA.of_eq rfl rfl
theorem BK {c0 c1 c2 c3:List AV} (s0:(Sh.slice 1 (.int .i64)).R c0) (s1:(Sh.int .u8).R c1) (s2:(Sh.int .u8).R c2) (s3:(Sh.int .u8).R c3):PC prog gK [(Sh.slice 1 (.int .i64)).Fy c0,(Sh.int .u8).Fy c1,(Sh.int .u8).Fy c2,(Sh.int .u8).Fy c3] (.bool true):=by
 obtain ⟨l0,rfl,_,_⟩:=Nt s0
 obtain ⟨a1,rfl,w1⟩:=s1
 obtain ⟨a2,rfl,w2⟩:=s2
 obtain ⟨a3,rfl,w3⟩:=s3
 exact nS l0 a1 a2 a3 (wf_u8 w1) (wf_u8 w2) (wf_u8 w3)
end Go.Proofs.Try
