/- OWN WORK, put together by tools/asm.py, seat.py, mini.py. -/
import Derived.Test.YtcpckngdfjmbgaaGreatLibG
set_option linter.unusedSimpArgs false
set_option linter.unusedVariables false
set_option maxRecDepth 100000
set_option maxHeartbeats 1000000
namespace Go.Proofs.Try
open Go.Ab Go Go.Proofs.Tryz
open Int renaming reduceEq → jA, reduceLT → jB, reduceLE → jC, reduceToNat → jD
open Go.Ab renaming iP → jM, iQ → jN, lV → jO, iR → jP
open Nat renaming reduceLT → jE, reduceEqDiff → jF, reduceAdd → jG, reduceLeDiff → jH, reduceSub → jI, reduceMul → jJ, sub_zero → jK, sub_self → jL
theorem pT (k:Kt) (h:IA k):PC prog Bw [kv k] (.int .i64 (lN k)):=by
 obtain ⟨B,K,s⟩:=k
 have hB:=kC B h.b
 have hD:=kH K h.d.lp h.d.ld
 have hS:=kF s h.s
 have hE:lN ⟨B,K,s⟩=if cd K=true∧db s=true then 0 else 50:=rfl
 rw [hE,kv,Ak]
 simp only [jv,bM,mr] at hB hD hS
 refine ae BS (by simp) ?_
 simp only [so,go_sem,jF,jG,jH,↓reduceIte]
 refine ab hB (by simp [go_sem]) ?_
 try simp (disch:=omega) only [go_sem,jF,jG,jH,↓reduceIte]
 refine ab hD (by simp [go_sem]) ?_
 rw [o6]
 cases cd K
 ·try simp (disch:=omega) only [go_sem,jA,jF,↓reduceIte,reduceCtorEq]
  exact aw.of_eq rfl rfl
 try simp (disch:=omega) only [go_sem,jF,jG,jH,↓reduceIte]
 refine ab hS (by simp [go_sem]) ?_
 cases db s
 ·try simp (disch:=omega) only [go_sem,↓reduceIte,reduceCtorEq]
  exact aw.of_eq rfl rfl
 ·try simp (disch:=omega) only [go_sem,↓reduceIte]
  exact aw.of_eq rfl rfl
theorem Bl (K:Dk) (h:cd K=true):PC prog uC [bM K] (bM K):=by
 obtain ⟨h1,h2,h3,h4⟩:=gb h
 refine jh vE ((iO St.empty K (by omega) (by omega) fun d hd=>by have:=fZ h hd; omega).mono ?_)
 rintro r τ ⟨XP,XA,Fs,l1,rfl,_,_,hP,_,hA,hI,_⟩
 exact pQ hP hA hI
theorem rO (k:Kt) (h:G3 k):PC prog Dx [kv k] (kv k):=by
 obtain ⟨B,K,s⟩:=k
 have hB:=rR B h.b
 have hD:=Bl K h.d
 obtain ⟨s1,s2,s3,s4⟩:=fh h.s
 simp only at s3
 rw [kv,Ak]
 simp only [jv,bM] at hB hD
 refine ae Eb (by simp) ?_
 simp only [u4,go_sem,jF,jG,jH,↓reduceIte,reduceCtorEq]
 try simp (disch:=omega) only [go_sem,jA,jB,jC,jD,jE,jF,jG,jH,jI,jJ,↓reduceIte,reduceCtorEq,jO,jM,jN,jK,jL]
 refine ab hB (by simp [go_sem]) ?_
 try simp (disch:=omega) only [go_sem,jF,↓reduceIte]
 refine ab hD (by simp [go_sem]) ?_
 try simp (disch:=omega) only [go_sem,jF,↓reduceIte]
 refine cV (b:=32) (L:=[]) cu.nil (by simp only [List.length_nil,ak]; omega) (by simp only [List.length_nil,ak]; omega) fun Y τ hY hKY=>?_
 rw [List.nil_append] at hY
 have hnY:=hKY.1
 have r0:=hKY.2.1 1 (by simp only; omega) (aY.nil _)
 have hY1:=hKY.2.2 1 (by simp only; omega) (aY.nil _)
 simp only at r0 hnY
 have q0:=hKY.2.1 0 (by simp only; omega) (aY.nil _)
 simp only at q0
 try simp (disch:=omega) only [go_sem,↓reduceIte] at r0
 try simp (disch:=omega) only [go_sem,↓reduceIte,reduceCtorEq] at q0
 try simp (disch:=omega) only [go_sem,jF,jG,jH,↓reduceIte,reduceCtorEq,hY.one,hY.flat,hY.cells,r0,St.put]
 refine ⟨q0,?_⟩
 refine aw.ag (.cons (.pure (by simp [go_sem])) (.cons (.pure (by simp [go_sem])) (.cons (.pure (by simp [go_sem])) (.cons (aw.e rfl) (.cons (.pure (by simp [go_sem])) (.cons (aw.e rfl) (.cons (hY.mU (fun i hi hno=>?_) (ep _) (ib _)) .nil)))))))
 have:¬i=1:=fun e=>hno (e ▸ hY1)
 simp only
 rw [aa _ _ _ _ this]
theorem Bo (A B:Bk) (ha:A.op.length≤9223372036854775807) (hA:∀ x∈A.op,IF x) (hr:A.rp.length≤9223372036854775807):PC prog DA [jv A,jv B] (.bool (decide (A=B))):=by
 obtain ⟨o,r⟩:=A
 obtain ⟨o',r'⟩:=B
 simp only at ha hA hr
 have hE:decide ((⟨o,r⟩:Bk)=⟨o',r'⟩)=(decide (o=o')&&decide (r=r')):=by rw [Bool.eq_iff_iff]; simp
 rw [hE]
 refine ae Ee (by simp) ?_
 simp only [u7,go_sem,jF,jG,jH,↓reduceIte,reduceCtorEq,jv]
 by_cases h1:o.length=o'.length
 rotate_left
 ·have q1:¬(o.length:Int)=(o'.length:Int):=by omega
  try simp (disch:=omega) only [go_sem,jF,↓reduceIte,aN,q1,decide_false,Bool.not_false]
  exact aw.of_eq (by congr 1; simp; intro hab; exact absurd (by rw [hab]) h1) rfl
 by_cases h2:r.length=r'.length
 rotate_left
 ·have q1:(o.length:Int)=(o'.length:Int):=by omega
  have q2:¬(r.length:Int)=(r'.length:Int):=by omega
  try simp (disch:=omega) only [go_sem,jF,jG,jH,↓reduceIte,reduceCtorEq,aN,aE,q1,q2,decide_true,Bool.not_true,decide_false,Bool.not_false]
  exact aw.of_eq (by congr 1; simp; intro _ hab; exact absurd (by rw [hab]) h2) rfl
 have q1:(o.length:Int)=(o'.length:Int):=by omega
 have q2:(r.length:Int)=(r'.length:Int):=by omega
 try simp (disch:=omega) only [go_sem,jF,jG,jH,↓reduceIte,reduceCtorEq,aN,aE,q1,q2,decide_true,Bool.not_true]
 refine aW [4,5,26,27,28,29,30,31,32,33,34,35,36,37,38,39,40,41] (by kernel_rfl) o.length (fun k e σ=>e 26=.int .i64 k∧σ.ob 0=some ⟨0,2,40,false,true,[.agg [.list 4 (lE o),.list 6 (iG r)]]⟩∧σ.ob 1=some ⟨1,2,40,false,true,[.agg [.list 4 (lE o'),.list 6 (iG r')]]⟩∧∀ j,j<k→o[j]?=o'[j]?) ?_ ?_
 ·exact ⟨(by first | rfl | (simp (disch:=omega) only [go_sem,jA,jB,jC,jD,jE,jF,jG,jH,jI,jJ,↓reduceIte,reduceCtorEq,jP,jO,jM,jN]; try rfl)),by try simp (disch:=omega) only [go_sem,↓reduceIte,reduceCtorEq],by try simp (disch:=omega) only [go_sem,↓reduceIte],fun j hj=>by omega⟩
 rintro k fe ob m c hk hm ⟨h26,u0,u1,hj⟩
 simp (maxSteps:=1000000) only [go_sem,jF,↓reduceIte] at h26 u0 u1 hm
 try simp (disch:=omega) only [go_sem,jF,↓reduceIte,h26]
 refine ah (fun hlt=>?_) (fun hge=>?_)
 ·have hka:k<o.length:=by omega
  have hga:o[k]?=some o[k]:=List.getElem?_eq_getElem hka
  have hgb:o'[k]?=some o'[k]:=List.getElem?_eq_getElem (by omega)
  have hS:=Bp o[k] o'[k] (hA _ (List.getElem_mem hka))
  generalize o[k]=x at *
  generalize o'[k]=y at *
  simp only [gG] at hS
  try simp (disch:=omega) only [go_sem,jF,jH,↓reduceIte,u0,u1,aN,fg,hga,hgb,Option.map_some,gG]
  refine ⟨by omega,by omega,by omega,by omega,?_⟩
  refine ab hS (by simp [go_sem]) ?_
  cases hq:km x y
  ·try simp (disch:=omega) only [go_sem,↓reduceIte]
   exact aw.of_eq (by congr 1; simp; intro hab; subst hab; rw [hga] at hgb; obtain rfl:=Option.some.inj hgb; rw [mY.2 rfl] at hq; cases hq) rfl
  ·obtain rfl:=mY.1 hq
   try simp (disch:=omega) only [go_sem,jF,↓reduceIte,jO]
   refine aG m hka (by omega) ⟨(by first | rfl | (simp (disch:=omega) only [go_sem,jA,jB,jC,jD,jE,jF,jG,jH,jI,jJ,↓reduceIte,reduceCtorEq,jP,jO,jM,jN]; try rfl)),by rw [aX (by omega)]; exact u0,by rw [aX (by omega)]; exact u1,fun j hj'=>?_⟩
   by_cases e:j=k
   ·subst e; rw [hga,hgb]
   ·exact hj j (by omega)
 obtain rfl:o=o':=bU h1 fun j hj'=>hj j (by omega)
 clear h26 hj
 try simp (disch:=omega) only [go_sem,jF,jG,jH,↓reduceIte,u0,aE]
 refine aW [4,6,45,46,47,48,49,50,51,52,53,54,55,56,57,58,59] (by kernel_rfl) r.length (fun k e σ=>e 45=.int .i64 k∧σ.ob 0=some ⟨0,2,40,false,true,[.agg [.list 4 (lE o),.list 6 (iG r)]]⟩∧σ.ob 1=some ⟨1,2,40,false,true,[.agg [.list 4 (lE o),.list 6 (iG r')]]⟩∧∀ j,j<k→r[j]?=r'[j]?) ?_ ?_
 ·exact ⟨(by first | rfl | (simp (disch:=omega) only [go_sem,jA,jB,jC,jD,jE,jF,jG,jH,jI,jJ,↓reduceIte,reduceCtorEq,jP,jO,jM,jN]; try rfl)),u0,u1,fun j hj=>by omega⟩
 clear u0 u1
 rintro k2 fe2 ob2 m2 c2 hk2 hm2 ⟨h45,u0,u1,hj⟩
 simp (maxSteps:=1000000) only [go_sem,jF,↓reduceIte] at h45 u0 u1 hm2
 try simp (disch:=omega) only [go_sem,jF,↓reduceIte,h45]
 refine ah (fun hlt=>?_) (fun hge=>?_)
 ·have hka:k2<r.length:=by omega
  have hga:r[k2]?=some r[k2]:=List.getElem?_eq_getElem hka
  have hgb:r'[k2]?=some r'[k2]:=List.getElem?_eq_getElem (by omega)
  have hE:=Gh r[k2] r'[k2]
  generalize r[k2]=x at *
  generalize r'[k2]=y at *
  try simp (disch:=omega) only [go_sem,jF,jG,jH,↓reduceIte,u0,u1,aE,dL,hga,hgb,Option.map_some,ek]
  refine ⟨by omega,by omega,by omega,by omega,?_⟩
  rw [hE]
  by_cases hxy:x=y
  ·subst hxy
   try simp (disch:=omega) only [go_sem,jF,↓reduceIte,jO,decide_true,Bool.not_true]
   refine aG m2 hka (by omega) ⟨(by first | rfl | (simp (disch:=omega) only [go_sem,jA,jB,jC,jD,jE,jF,jG,jH,jI,jJ,↓reduceIte,reduceCtorEq,jP,jO,jM,jN]; try rfl)),by rw [aX (by omega)]; exact u0,by rw [aX (by omega)]; exact u1,fun j hj'=>?_⟩
   by_cases e:j=k2
   ·subst e; rw [hga,hgb]
   ·exact hj j (by omega)
  ·try simp (disch:=omega) only [go_sem,↓reduceIte,decide_false,Bool.not_false,hxy]
   exact aw.of_eq (by congr 1; simp; intro hab; subst hab; rw [hga] at hgb; exact hxy (Option.some.inj hgb)) rfl
 obtain rfl:r=r':=bU h2 fun j hj'=>hj j (by omega)
 try simp (disch:=omega) only [go_sem,↓reduceIte]
 exact aw.of_eq (by simp) rfl
theorem xu (k:Kt) (h:IA k) (q:Rc) (hq:q.sg.length≤9223372036854775807):PC prog Gu [kv k,dn q] (.tuple [kv (qt k q).1,.int .i64 (qt k q).2]):=by
 have hC:=pT k h
 have hT:=rO k
 have hE:=pU q hq
 have hpk:=yV k.B k.K k.s
 have hpq:=en q
 have hsg:=dC q.sg
 have hd0:=@D2 k q
 have hd1:=@D0 k q
 have hd2:=@D1 k q
 have hFi:=fun (hv:bc q=true) (hk:q.k=1)=>zJ k.B h.b (I9 q) (I8 hv hk)
 have hRq:=lY k.K h.d q.site q.fr q.to q.rel
 have hSg:=pZ k.K h.d q.y9 q.zF q.code q.time
 have hWd:=kJ k.K h.d q.y9 q.zF q.code q.time
 have hIs:=kG k.s q.na q.wk q.vZ h.s
 have hCf:=ng k.s q.xX h.s
 have hOk:=(oF h).1
 obtain ⟨B,K,s⟩:=k
 simp only [kv] at hC hT
 simp only [Ak,dn,gY,eL] at hC hT hE hpk hpq
 simp only [jv,ek,I9] at hFi
 simp only [bM] at hRq hSg hWd
 simp only [mr,gE] at hIs hCf
 simp only at hd2 hOk
 generalize hck:lN ⟨B,K,s⟩=ck at *
 generalize qt ⟨B,K,s⟩ q=D at *
 obtain ⟨P,hP⟩:∃ P,AV.tuple [kv D.1,.int .i64 D.2]=P:=⟨_,rfl⟩
 rw [hP]
 refine ae GW (by simp) ?_
 simp only [AL,go_sem,jF,jG,jH,↓reduceIte,reduceCtorEq,kv,Ak,dn,gY,eL]
 try simp (disch:=omega) only [go_sem,jA,jB,jC,jD,jE,jF,jG,jH,jI,jJ,↓reduceIte,reduceCtorEq,jO,jM,jN,jK,jL]
 refine ab hC (by simp [go_sem]) ?_
 try simp (disch:=omega) only [go_sem,↓reduceIte]
 refine aZ (fun c0=>?_) (fun c0=>?_)
 ·try simp (disch:=omega) only [go_sem,jF,jG,jH,↓reduceIte]
  rw [←hP,hd0 c0]
  exact aw.tu (.cons mM (.cons (.pure rfl) .nil))
 subst c0
 have hO:=hOk rfl
 try simp (disch:=omega) only [go_sem,jF,jH,↓reduceIte]
 refine ab hE (by simp [go_sem]) ?_
 cases hv:bc q
 ·try simp (disch:=omega) only [go_sem,jF,jG,jH,↓reduceIte]
  rw [←hP,hd1 rfl hv]
  exact aw.tu (.cons mM (.cons (.pure rfl) .nil))
 try simp (disch:=omega) only [go_sem,jF,jH,↓reduceIte,reduceCtorEq]
 refine ab (hT hO) (by simp [go_sem]) ?_
 rw [hd2 rfl hv] at hP
 clear hd0 hd1 hd2 hC hE hT
 have hk6:=EI hv
 simp only [I9] at hP
 try simp (disch:=omega) only [go_sem,jF,jG,jH,↓reduceIte]
 refine ah (fun k1=>?_) (fun k1=>?_)
 ·rw [if_pos k1] at hP
  try simp (disch:=omega) only [go_sem,jF,jG,jH,↓reduceIte,reduceCtorEq]
  refine ab (hFi hv k1) (by simp [go_sem]) ?_
  generalize qo B ⟨q.num,q.acc,q.vP,q.tm,⟨q.lo,q.hi⟩⟩=F at *
  obtain ⟨B',e⟩:=F
  try simp (disch:=omega) only [go_sem,jF,jG,jH,↓reduceIte]
  refine aZ (fun c=>?_) (fun c=>?_)
  ·try simp (disch:=omega) only [go_sem,jF,jG,jH,↓reduceIte]
   rw [←hP]
   exact dE c
  ·subst c
   try simp (disch:=omega) only [go_sem,jF,jG,jH,↓reduceIte]
   rw [←hP]
   exact dD (k:=⟨B',K,s⟩) rfl
 rw [if_neg k1] at hP
 try simp (disch:=omega) only [go_sem,jF,↓reduceIte]
 refine ah (fun k2=>?_) (fun k2=>?_)
 ·rw [if_pos k2] at hP
  try simp (disch:=omega) only [go_sem,jF,jG,jH,↓reduceIte,reduceCtorEq]
  refine ab hRq (by simp [go_sem]) ?_
  generalize bQ K q.site q.fr q.to q.rel=F at *
  obtain ⟨K',i',e⟩:=F
  try simp (disch:=omega) only [go_sem,jF,jG,jH,↓reduceIte]
  refine aZ (fun c=>?_) (fun c=>?_)
  ·try simp (disch:=omega) only [go_sem,jF,jG,jH,↓reduceIte]
   rw [←hP]
   exact dE c
  ·subst c
   try simp (disch:=omega) only [go_sem,jF,jG,jH,↓reduceIte]
   rw [←hP]
   exact dD (k:=⟨B,K',s⟩) rfl
 rw [if_neg k2] at hP
 try simp (disch:=omega) only [go_sem,jF,↓reduceIte]
 refine ah (fun k3=>?_) (fun k3=>?_)
 ·rw [if_pos k3] at hP
  try simp (disch:=omega) only [go_sem,jF,jG,jH,↓reduceIte,reduceCtorEq]
  refine ab hSg (by simp [go_sem]) ?_
  generalize jZ K q.y9 q.zF q.code q.time=F at *
  obtain ⟨K',e⟩:=F
  try simp (disch:=omega) only [go_sem,jF,jG,jH,↓reduceIte]
  refine aZ (fun c=>?_) (fun c=>?_)
  ·try simp (disch:=omega) only [go_sem,jF,jG,jH,↓reduceIte]
   rw [←hP]
   exact dE c
  ·subst c
   try simp (disch:=omega) only [go_sem,jF,jG,jH,↓reduceIte]
   rw [←hP]
   exact dD (k:=⟨B,K',s⟩) rfl
 rw [if_neg k3] at hP
 try simp (disch:=omega) only [go_sem,jF,↓reduceIte]
 refine ah (fun k4=>?_) (fun k4=>?_)
 ·rw [if_pos k4] at hP
  try simp (disch:=omega) only [go_sem,jF,jG,jH,↓reduceIte,reduceCtorEq]
  refine ab hWd (by simp [go_sem]) ?_
  generalize ki K q.y9 q.zF q.code q.time=F at *
  obtain ⟨K',e⟩:=F
  try simp (disch:=omega) only [go_sem,jF,jG,jH,↓reduceIte]
  refine aZ (fun c=>?_) (fun c=>?_)
  ·try simp (disch:=omega) only [go_sem,jF,jG,jH,↓reduceIte]
   rw [←hP]
   exact dE c
  ·subst c
   try simp (disch:=omega) only [go_sem,jF,jG,jH,↓reduceIte]
   rw [←hP]
   exact dD (k:=⟨B,K',s⟩) rfl
 rw [if_neg k4] at hP
 try simp (disch:=omega) only [go_sem,jF,↓reduceIte]
 refine ah (fun k5=>?_) (fun k5=>?_)
 ·rw [if_pos k5] at hP
  try simp (disch:=omega) only [go_sem,jF,jG,jH,↓reduceIte,reduceCtorEq]
  refine ab hIs (by simp [go_sem]) ?_
  generalize cK s q.na q.wk q.vZ=F at *
  obtain ⟨s',o',e⟩:=F
  try simp (disch:=omega) only [go_sem,jF,jG,jH,↓reduceIte]
  refine aZ (fun c=>?_) (fun c=>?_)
  ·try simp (disch:=omega) only [go_sem,jF,jG,jH,↓reduceIte]
   rw [←hP]
   exact dE c
  ·subst c
   try simp (disch:=omega) only [go_sem,jF,jG,jH,↓reduceIte]
   rw [←hP]
   exact dD (k:=⟨B,K,s'⟩) rfl
 rw [if_neg k5] at hP
 try simp (disch:=omega) only [go_sem,jF,↓reduceIte]
 have k6:q.k=6:=by omega
 try simp (disch:=omega) only [go_sem,jA,jF,jG,jH,↓reduceIte,reduceCtorEq,k6]
 refine ab hCf (by simp [go_sem]) ?_
 generalize dK s q.xX=F at *
 obtain ⟨s',e⟩:=F
 try simp (disch:=omega) only [go_sem,jF,jG,jH,↓reduceIte]
 refine aZ (fun c=>?_) (fun c=>?_)
 ·try simp (disch:=omega) only [go_sem,jF,jG,jH,↓reduceIte]
  rw [←hP]
  exact dE c
 ·subst c
  try simp (disch:=omega) only [go_sem,jF,jG,jH,↓reduceIte]
  rw [←hP]
  exact dD (k:=⟨B,K,s'⟩) rfl
theorem Dn (k:Kt) (h:IA k) (s:ByteArray) (hs:s.size≤4611686018427387904) (q:Rc) (hq:q.sg.length≤9223372036854775807):PC prog E4 [kv k,.str s,dn q] (.tuple [kv (mL k s q).1,.str (mL k s q).2.1,.int .i64 (mL k s q).2.2]):=by
 have hD:=xu k h q hq
 have hA:=xZ s q hs hq
 have hpk:=il k
 have hpq:=en q
 have hv:=@CS k q
 obtain ⟨P,hP⟩:∃ P,AV.tuple [kv (mL k s q).1,.str (mL k s q).2.1,.int .i64 (mL k s q).2.2]=P:=⟨_,rfl⟩
 rw [hP]
 rw [mL] at hP
 generalize qt k q=D at *
 obtain ⟨k',e⟩:=D
 refine ae FM (by simp) ?_
 simp only [xG,go_sem,jF,jG,jH,↓reduceIte,reduceCtorEq]
 try simp (disch:=omega) only [go_sem,c8,cn,eF,eG,tV,qT,mw,my]
 refine ab hD (by simp [hpk,hpq,go_sem]) ?_
 try simp (disch:=omega) only [go_sem,jF,jG,jH,↓reduceIte,c8,cn,kV]
 refine aZ (fun c=>?_) (fun c=>?_)
 ·try simp (disch:=omega) only [go_sem,jF,jG,jH,↓reduceIte]
  rw [←hP,if_pos c]
  exact aw.tu (.cons mM (.cons (.pure rfl) (.cons (.pure rfl) .nil)))
 ·subst c
  try simp (disch:=omega) only [go_sem,jF,jH,↓reduceIte,reduceCtorEq,mw,my]
  refine ab hA (by simp [hpq,go_sem]) ?_
  rw [Ch,if_pos (hv rfl)]
  try simp (disch:=omega) only [go_sem,jF,jH,↓reduceIte,cn,eF,eG,wI]
  rw [←hP,if_neg (by simp)]
  exact aw.tu (.cons (.pure (il k')) (.cons (.pure rfl) (.cons (.pure rfl) .nil)))
theorem mB (a b:Kt) (h:Ph a):PC prog Dw [kv a,kv b] (.bool (decide (a=b))):=by
 have hB:=Bo a.B b.B h.n h.a h.r
 have hD:=Bs a.K b.K h.d
 have hS:=Br a.s b.s h.s
 obtain ⟨B,K,s⟩:=a
 obtain ⟨B',K',s'⟩:=b
 simp only [jv,bM,mr] at hB hD hS
 refine ae Ea (by simp) ?_
 simp only [uZ,go_sem,jF,jG,jH,↓reduceIte,reduceCtorEq,kv,Ak]
 try simp (disch:=omega) only [go_sem,jA,jB,jC,jD,jE,jF,jG,jH,jI,jJ,↓reduceIte,reduceCtorEq,jO,jM,jN,jK,jL]
 refine ab hB (by simp [go_sem]) ?_
 have hE:decide ((⟨B,K,s⟩:Kt)=⟨B',K',s'⟩)=(decide (B=B')&&(decide (K=K')&&decide (s=s'))):=by
  rw [Bool.eq_iff_iff]; simp
 rw [hE]
 cases decide (B=B')
 ·try simp (disch:=omega) only [go_sem,jF,↓reduceIte]
  exact aw.of_eq rfl rfl
 try simp (disch:=omega) only [go_sem,jF,jG,jH,↓reduceIte,reduceCtorEq]
 refine ab hD (by simp [go_sem]) ?_
 cases decide (K=K')
 ·try simp (disch:=omega) only [go_sem,jF,↓reduceIte]
  exact aw.of_eq rfl rfl
 try simp (disch:=omega) only [go_sem,jF,jG,jH,↓reduceIte,reduceCtorEq]
 refine ab hS (by simp [go_sem]) ?_
 cases decide (s=s') <;> try simp (disch:=omega) only [go_sem,jF,↓reduceIte] <;> exact aw.of_eq rfl rfl
theorem O0 {k:Kt} {q:Rc} (h:(qt k q).2≠0):(qt k q).1=kz:=by
 have key:∀ (e:Int) (k':Kt),(jt e k').2≠0→(jt e k').1=kz:=fun e k' h=>by
  rw [th] at h; rw [jt,if_neg h]
 unfold qt at h ⊢
 by_cases c0:lN k≠0
 ·rw [if_pos c0]
 rw [if_neg c0] at h ⊢
 by_cases c1:bc q=false
 ·rw [if_pos c1]
 rw [if_neg c1] at h ⊢
 by_cases k1:q.k=1
 ·rw [if_pos k1] at h ⊢; exact key _ _ h
 rw [if_neg k1] at h ⊢
 by_cases k2:q.k=2
 ·rw [if_pos k2] at h ⊢; exact key _ _ h
 rw [if_neg k2] at h ⊢
 by_cases k3:q.k=3
 ·rw [if_pos k3] at h ⊢; exact key _ _ h
 rw [if_neg k3] at h ⊢
 by_cases k4:q.k=4
 ·rw [if_pos k4] at h ⊢; exact key _ _ h
 rw [if_neg k4] at h ⊢
 by_cases k5:q.k=5
 ·rw [if_pos k5] at h ⊢; exact key _ _ h
 rw [if_neg k5] at h ⊢
 exact key _ _ h
theorem Nc {k:Kt} (h:IA k) (q:Rc):Ph (qt k q).1:=by
 by_cases h0:(qt k q).2=0
 ·exact (GJ h h0).L
 ·rw [O0 h0]; exact Rr
theorem OL {k:Kt} (h:IA k) (s:ByteArray) (q:Rc):Ph (mL k s q).1:=by
 rw [mL]
 split
 ·exact Rr
 ·exact Nc h q
theorem Jx (k:Kt):(kv k).cells.all AV.eo=true:=by simp [kv,Ak,AV.cells,go_sem,AV.eo]
theorem LQ (k:Kt) (x:Int):gH 5 (.int .i64 x) (kv k)=kv ⟨k.B,k.K,⟨x,k.s.l⟩⟩:=rfl
theorem LR (k:Kt) (x:Int):gH 3 (.int .i64 x) (kv k)=kv ⟨k.B,⟨k.K.ps,x,k.K.ds⟩,k.s⟩:=rfl
theorem pG (t:List Int) (r:Rc) (s:ByteArray):PC prog iX [.list 1 (ints t),dn r,.str s] (.bool true):=by
 refine ae qN (by simp) ?_
 simp only [jd]
 have r5:(dn r).cells.getD 12 .bC=.list 1 (ints r.sg):=rfl
 have r0:(dn r).cells.getD 0 .bC=.int .i64 r.k:=rfl
 try simp (disch:=omega) only [go_sem,↓reduceIte,reduceCtorEq,tV,qT]
 refine ab Bt (by simp) ?_
 try simp (disch:=omega) only [go_sem,↓reduceIte,reduceCtorEq]
 refine ab (H5 t) (by simp [go_sem]) ?_
 try simp (disch:=omega) only [go_sem,↓reduceIte]
 cases hfew:OY t
 ·try simp (disch:=omega) only [go_sem,jF,↓reduceIte]
  exact aw.of_eq rfl rfl
 have hlt:t.length≤9223372036854775807:=by simp [OY] at hfew; omega
 try simp (disch:=omega) only [go_sem,jF,↓reduceIte,reduceCtorEq]
 refine bF rfl (fun hs=>?_) (fun hs=>?_) <;> try simp (disch:=omega) only [go_sem,jF,jG,jH,↓reduceIte,r5,au]
 ·exact aw.of_eq rfl rfl
 refine ah (fun hr=>?_) (fun hr=>?_) <;> try simp (disch:=omega) only [go_sem,↓reduceIte,reduceCtorEq]
 ·exact aw.of_eq rfl rfl
 refine aM (H4 _ t) ?_
 try simp (disch:=omega) only [go_sem,jG,↓reduceIte]
 refine (BN _ 1 1 t 0 hlt (by simp only; omega) (by try simp (disch:=omega) only [go_sem,↓reduceIte])).mono ?_
 intro rr τ hDR
 obtain ⟨⟨B,T,K,sd,rfl,hT,hK,hsd,hKc,hso⟩,hn,⟨at1,hd⟩,hf⟩:=hDR.use (by simp only; omega)
 obtain ⟨ob1,n1,c1⟩:=τ
 simp only at hn hd hf
 have u0:=hf 0 (by omega) (by omega)
 try simp (disch:=omega) only [go_sem,↓reduceIte,reduceCtorEq] at u0
 clear hDR hf
 have hO:G3 ⟨B,K,sd⟩:=⟨hT.ok,hKc,hso⟩
 have hTo:=hT.o
 rw [show Ak B K sd=kv ⟨B,K,sd⟩ from rfl]
 have hRec:=fun σ id g at'=>As σ id g t at' B T K sd hTo hK hsd hlt
 rw [show Ak B K sd=kv ⟨B,K,sd⟩ from rfl] at hRec
 clear hT hTo hK hsd hKc hso
 generalize (⟨B,K,sd⟩:Kt)=k0 at *
 have z0:¬0=n1:=by omega
 have z1:¬1=n1:=by omega
 have y0:¬n1=0:=by omega
 have y1:¬n1=1:=by omega
 have p0:=il k0
 have hCp:=rO k0 hO
 try simp (disch:=omega) only [go_sem,jF,jH,↓reduceIte,c8,cn,eF,eG,kV]
 refine ab hCp (by simp [p0,go_sem]) ?_
 have x1:¬n1=n1+1:=by omega
 have x2:¬0=n1+1:=by omega
 have x3:¬1=n1+1:=by omega
 have x4:¬n1+1=0:=by omega
 try simp (disch:=omega) only [go_sem,jF,jH,↓reduceIte,c8,cn,kV,z0,x2,u0,r0]
 refine ab (Cz r.k 3 (by omega) (by omega)) (by simp [go_sem]) ?_
 try simp (disch:=omega) only [go_sem,jF,jG,jH,↓reduceIte,jO,eF,eG,LQ,x1]
 refine ab hCp (by simp [p0,go_sem]) ?_
 have w1:¬n1=n1+1+1:=by omega
 have w2:¬n1+1=n1+1+1:=by omega
 have w3:¬0=n1+1+1:=by omega
 have w4:¬1=n1+1+1:=by omega
 try simp (disch:=omega) only [go_sem,jF,jG,jH,↓reduceIte,c8,cn,eF,eG,wI,kV,LR,x1,w1,w2]
 obtain ⟨V,hV3,hVl,hV⟩:∃ V:List AV,[kv k0,kv ⟨k0.B,k0.K,⟨r.k % 3-1,k0.s.l⟩⟩,kv ⟨k0.B,⟨k0.K.ps,0,k0.K.ds⟩,k0.s⟩]=V∧V.length=3∧∀ i,i<3→∃ x:Kt,V[i]?=some (kv x)∧IA x∧Ph x:=by
  have S:=hO.S
  have L:=hO.L
  refine ⟨_,rfl,rfl,fun i hi=>?_⟩
  match i,hi with
  | 0,_=>exact ⟨k0,rfl,S,L⟩
  | 1,_=>exact ⟨⟨k0.B,k0.K,⟨r.k % 3-1,k0.s.l⟩⟩,rfl,⟨S.b,S.d,S.s⟩,⟨L.n,L.a,L.r,L.d,L.s⟩⟩
  | 2,_=>exact ⟨⟨k0.B,⟨k0.K.ps,0,k0.K.ds⟩,k0.s⟩,rfl,⟨S.b,⟨S.d.lp,S.d.ld⟩,S.s⟩,⟨L.n,L.a,L.r,⟨⟨L.d.s.lp,L.d.s.ld⟩,L.d.sg⟩,L.s⟩⟩
 rw [hV3]
 clear hV3 hCp
 refine ⟨⟨Jx _,Jx _,Jx _⟩,?_⟩
 refine aW [6,12,14,15,16,17,18,19,20,59,60,61,62,63,64,65,66,67,68,69,70,71,72,73,74,75,76,77,78,79,80,81,82,83,84,85,86,87,88,89,90,91,92,93,94,95,96,97,98,99,100,101,102,103,104,105,106,107,108,109,110,111,112,113,114,115,116,117,118,119,120,121,122,123,124,125,126,127,128,129,130,131,132,133,134,135,136,137,138,139,140,141,142] (by kernel_rfl) 3 (fun i e σ=>e 59=.int .i64 i∧n1+3≤σ.n∧σ.ob 0=some ⟨0,21,32,false,true,[dn r]⟩∧(∃ a,σ.ob 1=some ⟨1,2,aA,false,true,[bA t a]⟩)∧σ.ob n1=some ⟨c1,7,49,false,true,[kv k0]⟩) ?_ ?_
 ·refine ⟨(by first | rfl | (simp (disch:=omega) only [go_sem,jA,jB,jC,jD,jE,jF,jG,jH,jI,jJ,↓reduceIte,reduceCtorEq,jP,jO,jM,jN]; try rfl)),by simp only; omega,by try simp (disch:=omega) only [go_sem,↓reduceIte,z0,x2,w3,u0],⟨at1,by try simp (disch:=omega) only [go_sem,↓reduceIte,z1,x3,w4,hd]⟩,by try simp (disch:=omega) only [go_sem,↓reduceIte,x1,w1]⟩
 clear u0 hd
 rintro i f2 ob2 m2 c2 hi hm2 ⟨h59,hm3,v0,⟨a2,v1⟩,vn⟩
 simp only at v0 v1 vn hm2 hm3
 simp (maxSteps:=1000000) only [go_sem,jF,↓reduceIte] at h59
 try simp (disch:=omega) only [go_sem,jF,↓reduceIte,h59]
 refine ah (fun hlt3=>?_) (fun hge3=>?_)
 rotate_left
 ·try simp (disch:=omega) only [go_sem,↓reduceIte]
  exact aw.of_eq rfl rfl
 have hi3:i<3:=by omega
 obtain ⟨x,hx,hxS,hxL⟩:=hV i hi3
 have px:=il x
 have b0:¬0=m2:=by omega
 have b1:¬1=m2:=by omega
 have bn:¬n1=m2:=by omega
 have d0:¬m2=0:=by omega
 have d1:¬m2=1:=by omega
 try simp (disch:=omega) only [go_sem,jF,jH,↓reduceIte,hx,hVl,v0,vn,b0,bn,cn,eF,eG,wI,mw,my]
 refine ⟨by omega,by omega,?_⟩
 refine (hRec _ 1 1 a2 (by simp only; omega) (by try simp (disch:=omega) only [go_sem,↓reduceIte,b1]; exact v1)).mono ?_
 intro rr τ hDR
 obtain ⟨⟨q1,rfl,hq1⟩,hn3,⟨a3,hd3⟩,hf3⟩:=hDR.use (by simp only; omega)
 obtain ⟨ob3,m3,c3⟩:=τ
 simp only at hn3 hd3 hf3
 subst hn3
 have t0:=hf3 0 (by omega) (by omega)
 have tn:=hf3 n1 (by omega) (by omega)
 have tx:=hf3 m2 (by omega) (by omega)
 try simp (disch:=omega) only [go_sem,↓reduceIte,b0,v0] at t0
 try simp (disch:=omega) only [go_sem,↓reduceIte,bn,vn] at tn
 try simp (disch:=omega) only [go_sem,↓reduceIte] at tx
 clear hDR hf3
 try simp (disch:=omega) only [go_sem,jF,↓reduceIte,reduceCtorEq,jM,t0,tn]
 refine ⟨⟨vn.symm,v0.symm⟩,?_⟩
 refine (hRec _ 1 1 a3 (by simp only; omega) (by exact hd3)).mono ?_
 intro rr τ hDR
 obtain ⟨⟨q2,rfl,hq2⟩,hn4,⟨a4,hd4⟩,hf4⟩:=hDR.use (by simp only; omega)
 obtain ⟨ob4,m4,c4⟩:=τ
 simp only at hn4 hd4 hf4
 subst hn4
 have s0:=(hf4 0 (by omega) (by omega)).trans t0
 have sn:=(hf4 n1 (by omega) (by omega)).trans tn
 have sx:=(hf4 m2 (by omega) (by omega)).trans tx
 clear hDR hf4 tn tx hd3
 try simp (disch:=omega) only [go_sem,jF,jG,↓reduceIte,reduceCtorEq,s0,sn,tV,qT]
 obtain ⟨Q,hQ3,hQl,hQ⟩:∃ Q:List AV,[dn r,dn q1,dn q2]=Q∧Q.length=3∧∀ j,j<3→∃ q:Rc,Q[j]?=some (dn q)∧q.sg.length≤9223372036854775807:=by
  refine ⟨_,rfl,rfl,fun j hj=>?_⟩
  match j,hj with
  | 0,_=>exact ⟨r,rfl,by omega⟩
  | 1,_=>exact ⟨q1,rfl,by rw [hq1.2]; simp⟩
  | 2,_=>exact ⟨q2,rfl,by rw [hq2.2]; simp⟩
 rw [hQ3]
 refine ⟨t0.symm,⟨en _,en _,en _⟩,?_⟩
 clear hQ3
 refine aW [6,14,15,16,17,18,19,20,72,73,74,75,76,77,78,79,80,81,82,83,84,85,86,87,88,89,90,91,92,93,94,95,96,97,98,99,100,101,102,103,104,105,106,107,108,109,110,111,112,113,114,115,116,117,118,119,120,121,122,123,124,125,126,127] (by kernel_rfl) 3 (fun j e σ=>e 72=.int .i64 j∧m2+1≤σ.n∧σ.ob 0=some ⟨0,21,32,false,true,[dn r]⟩∧(∃ a,σ.ob 1=some ⟨1,2,aA,false,true,[bA t a]⟩)∧σ.ob n1=some ⟨c1,7,49,false,true,[kv k0]⟩∧σ.ob m2=some ⟨c2,7,49,false,true,[kv x]⟩) ?_ ?_
 ·exact ⟨(by first | rfl | (simp (disch:=omega) only [go_sem,jA,jB,jC,jD,jE,jF,jG,jH,jI,jJ,↓reduceIte,reduceCtorEq,jP,jO,jM,jN]; try rfl)),Nat.le_refl _,s0,⟨a4,hd4⟩,sn,sx⟩
 clear s0 sn sx hd4
 rintro j f5 ob5 m5 c5 hj hm5 ⟨h72,hm6,s0,⟨a5,hd5⟩,sn,sx⟩
 simp only at s0 sn sx hd5 hm5 hm6
 simp (maxSteps:=1000000) only [go_sem,jF,↓reduceIte] at h72
 try simp (disch:=omega) only [go_sem,jF,↓reduceIte,h72]
 refine ah (fun hlt5=>?_) (fun hge5=>?_)
 ·have hj3:j<3:=by omega
  obtain ⟨q,hq,hqs⟩:=hQ j hj3
  have pq:=en q
  have hD:=kI x hxS q hqs
  have hD2:=xu x hxS q hqs
  have hS1:=mB (qt x q).1 (qt x q).1 (Nc hxS q)
  have hG:=oR x hxS s (by omega) q hqs
  have hG2:=Dn x hxS s (by omega) q hqs
  have hS2:=mB (mL x s q).1 (mL x s q).1 (OL hxS s q)
  rw [decide_eq_true rfl] at hS1 hS2
  generalize qt x q=D at *
  generalize mL x s q=G at *
  obtain ⟨dk,de⟩:=D
  obtain ⟨gk,gs,ge⟩:=G
  have pd:=il dk
  have pg:=il gk
  have e1:¬m2=m5:=by omega
  have e2:¬m2=m5+1:=by omega
  have e3:¬m2=m5+1+1:=by omega
  have e4:¬m5=m5+1:=by omega
  have e5:¬m5=m5+1+1:=by omega
  have e6:¬m5+1=m5+1+1:=by omega
  have e7:¬m5+1+1=m5+1:=by omega
  have e8:¬m5+1=m5:=by omega
  have e9:¬m5+1+1=m5:=by omega
  try simp (disch:=omega) only [go_sem,jF,jH,↓reduceIte,hq,hQl,sx,e1,EY,eF,eG,qT,mw,my,Hj,Hh]
  refine ⟨by omega,by omega,?_⟩
  refine ab hD (by simp [px,pq,go_sem]) ?_
  try simp (disch:=omega) only [go_sem,jF,jH,↓reduceIte,sx,e1,e2,e4,c8,cn,eF,eG,kV,mw,my]
  refine ab hD2 (by simp [px,pq,go_sem]) ?_
  try simp (disch:=omega) only [go_sem,jF,jH,↓reduceIte,e6,decide_true,Bool.not_true,c8,cn,eF,eG,kV]
  refine ab hS1 (by simp [pd,go_sem]) ?_
  try simp (disch:=omega) only [go_sem,jF,jH,↓reduceIte,reduceCtorEq,sx,e1,e2,e3,e4,e5,Bool.not_true,eF,eG,mw,my]
  refine ab hG (by simp [px,pq,go_sem]) ?_
  try simp (disch:=omega) only [go_sem,jF,jH,↓reduceIte,reduceCtorEq,sx,e1,e2,e3,e4,e5,e6,c8,cn,eF,eG,GA,mw,my]
  refine ab hG2 (by simp [px,pq,go_sem]) ?_
  try simp (disch:=omega) only [go_sem,jF,jH,↓reduceIte,e6,e7,decide_true,Bool.not_true,c8,cn,eF,eG,GA]
  refine ab hS2 (by simp [pg,go_sem]) ?_
  try simp (disch:=omega) only [go_sem,jF,↓reduceIte,jO]
  have g0:¬0=m5:=by omega
  have g1:¬0=m5+1:=by omega
  have g2:¬0=m5+1+1:=by omega
  have g3:¬1=m5:=by omega
  have g4:¬1=m5+1:=by omega
  have g5:¬1=m5+1+1:=by omega
  have g6:¬n1=m5:=by omega
  have g7:¬n1=m5+1:=by omega
  have g8:¬n1=m5+1+1:=by omega
  refine aG (m5+1+1+1) hj3 (by omega) ⟨(by first | rfl | (simp (disch:=omega) only [go_sem,jA,jB,jC,jD,jE,jF,jG,jH,jI,jJ,↓reduceIte,reduceCtorEq,jP,jO,jM,jN]; try rfl)),by simp only [St.aD]; omega,?_,⟨a5,?_⟩,?_,?_⟩
  ·rw [aX (by omega)]; try simp (disch:=omega) only [go_sem,↓reduceIte,g0,g1,g2,s0]
  ·rw [aX (by omega)]; try simp (disch:=omega) only [go_sem,↓reduceIte,g3,g4,g5,hd5]
  ·rw [aX (by omega)]; try simp (disch:=omega) only [go_sem,↓reduceIte,g6,g7,g8,sn]
  ·rw [aX (by omega)]; try simp (disch:=omega) only [go_sem,↓reduceIte,e1,e2,e3,sx]
 have hC:=dO x hxS
 have hC2:=pT x hxS
 have hS1:=nj x k0 hxL
 have hS2:=mB x k0 hxL
 generalize decide (x=k0)=bb at *
 try simp (disch:=omega) only [go_sem,jF,jH,↓reduceIte,sx,eF,eG]
 refine ab hC (by simp [px,go_sem]) ?_
 try simp (disch:=omega) only [go_sem,jF,↓reduceIte]
 refine ab hC2 (by simp [px,go_sem]) ?_
 try simp (disch:=omega) only [go_sem,jF,jH,↓reduceIte,sx,sn,decide_true,Bool.not_true,eF,eG]
 refine ab hS1 (by simp [px,p0,go_sem]) ?_
 try simp (disch:=omega) only [go_sem,jF,↓reduceIte]
 refine ab hS2 (by simp [px,p0,go_sem]) ?_
 cases bb
 all_goals
  try simp (disch:=omega) only [go_sem,jF,↓reduceIte,jO]
  refine aG m5 hi3 (by omega) ⟨(by first | rfl | (simp (disch:=omega) only [go_sem,jA,jB,jC,jD,jE,jF,jG,jH,jI,jJ,↓reduceIte,reduceCtorEq,jP,jO,jM,jN]; try rfl)),by simp only [St.aD]; omega,?_,⟨a5,?_⟩,?_⟩
  ·rw [aX (by omega)]; exact s0
  ·rw [aX (by omega)]; exact hd5
  ·rw [aX (by omega)]; exact sn
abbrev Q2:Sh:=.struct (.fc (.int .i64) (.fc (.int .i64) .f0))
abbrev QZ:Sh:=.struct (.fc (.int .i64) (.fc (.int .i64) (.fc (.int .i64) (.fc (.int .i64) (.fc Q2 .f0)))))
abbrev Q1:Sh:=.struct (.fc (.int .i64) (.fc (.int .i64) (.fc (.int .i64) (.fc (.int .i64) (.fc (.int .i64) (.fc (.slice 1 (.int .i64)) (.fc .bool .f0)))))))
abbrev Q0:Sh:=.struct (.fc (.int .i64) (.fc (.int .i64) (.fc (.int .i64) (.fc (.int .i64) .f0))))
abbrev Ha:Sh:=.struct (.fc (.int .i64) (.fc QZ (.fc Q1 (.fc (.int .i64) (.fc (.int .i64) (.fc (.int .i64) (.fc Q0 .f0)))))))
theorem Oh {c:List AV} (h:Ha.R c):∃ r:Rc,Ha.Gx c=dn r:=by
 obtain ⟨_,_,rfl,⟨k,rfl,_⟩,_,_,rfl,hRp,_,_,rfl,hDv,_,_,rfl,⟨zF,rfl,_⟩,_,_,rfl,⟨code,rfl,_⟩,_,_,rfl,⟨tm,rfl,_⟩,_,_,rfl,hOd,rfl⟩:=h
 obtain ⟨_,_,rfl,⟨nu,rfl,_⟩,_,_,rfl,⟨ac,rfl,_⟩,_,_,rfl,⟨fd,rfl,_⟩,_,_,rfl,⟨t1,rfl,_⟩,_,_,rfl,hBd,rfl⟩:=hRp
 obtain ⟨_,_,rfl,⟨lo,rfl,_⟩,_,_,rfl,⟨hi,rfl,_⟩,rfl⟩:=hBd
 obtain ⟨_,_,rfl,⟨id,rfl,_⟩,_,_,rfl,⟨st,rfl,_⟩,_,_,rfl,⟨fr,rfl,_⟩,_,_,rfl,⟨to,rfl,_⟩,_,_,rfl,⟨rel,rfl,_⟩,_,_,rfl,hs,_,_,rfl,⟨wd,rfl⟩,rfl⟩:=hDv
 obtain ⟨_,_,rfl,⟨o1,rfl,_⟩,_,_,rfl,⟨o2,rfl,_⟩,_,_,rfl,⟨o3,rfl,_⟩,_,_,rfl,⟨o4,rfl,_⟩,rfl⟩:=hOd
 obtain ⟨sg,rfl,_,_⟩:=IU hs
 exact ⟨⟨k,nu,ac,fd,t1,lo,hi,id,st,fr,to,rel,sg,wd,zF,code,tm,o1,o2,o3,o4⟩,rfl⟩
theorem DO {c0 c1 c2:List AV} (s0:(Sh.slice 1 (.int .i64)).R c0) (s1:Ha.R c1) (s2:Sh.str.R c2):PC prog iX [(Sh.slice 1 (.int .i64)).Gx c0,Ha.Gx c1,Sh.str.Gx c2] (.bool true):=by
 obtain ⟨l0,rfl,_,_⟩:=IU s0
 obtain ⟨r,hr⟩:=Oh s1
 obtain ⟨s,rfl,_⟩:=s2
 rw [hr]
 exact pG l0 r s
end Go.Proofs.Try
