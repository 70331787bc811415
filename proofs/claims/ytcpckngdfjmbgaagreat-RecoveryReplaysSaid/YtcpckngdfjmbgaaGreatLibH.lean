/- OWN WORK, put together by tools/asm.py, seat.py, mini.py. -/
import Derived.Test.YtcpckngdfjmbgaaGreatLibG
set_option linter.unusedSimpArgs false
set_option linter.unusedVariables false
set_option maxRecDepth 100000
set_option maxHeartbeats 1000000
namespace Go.Proofs.Try
open Go.Ab Go Go.Proofs.Tryz
open Int renaming reduceEq → jA, reduceLT → jB, reduceLE → jC, reduceToNat → jD
open Go.Ab renaming iP → jM, iQ → jN, lZ → jO, iR → jP
open Nat renaming reduceLT → jE, reduceEqDiff → jF, reduceAdd → jG, reduceLeDiff → jH, reduceSub → jI, reduceMul → jJ, sub_zero → jK, sub_self → jL
theorem pQ (k:Kt) (h:IK k):PC prog Bs [kv k] (.int .i64 (kh k)):=by
 obtain ⟨B,K,s⟩:=k
 have hB:=kJ B h.b
 have hD:=kN K h.d.lp h.d.ld
 have hS:=kL s h.s
 have hE:kh ⟨B,K,s⟩=if cn K=true∧dh s=true then 0 else 50:=rfl
 rw [hE,kv,A8]
 simp only [jx,bP,mE] at hB hD hS
 refine ae BO (by simp) ?_
 simp only [sj,go_sem,jF,jG,jH,↓reduceIte]
 refine ab hB (by simp [go_sem]) ?_
 try simp (disch:=omega) only [go_sem,jF,jG,jH,↓reduceIte]
 refine ab hD (by simp [go_sem]) ?_
 rw [pa]
 cases cn K
 ·try simp (disch:=omega) only [go_sem,jA,jF,↓reduceIte,reduceCtorEq]
  exact aw.of_eq rfl rfl
 try simp (disch:=omega) only [go_sem,jF,jG,jH,↓reduceIte]
 refine ab hS (by simp [go_sem]) ?_
 cases dh s
 ·try simp (disch:=omega) only [go_sem,↓reduceIte,reduceCtorEq]
  exact aw.of_eq rfl rfl
 ·try simp (disch:=omega) only [go_sem,↓reduceIte]
  exact aw.of_eq rfl rfl
theorem Bg (K:Dk) (h:cn K=true):PC prog uu [bP K] (bP K):=by
 obtain ⟨h1,h2,h3,h4⟩:=gh h
 refine jh vw ((iO St.empty K (by omega) (by omega) fun d hd=>by have:=gg h hd; omega).mono ?_)
 rintro r τ ⟨XP,XA,Fs,l1,rfl,_,_,hP,_,hA,hI,_⟩
 exact pM hP hA hI
theorem rK (k:Kt) (h:Gb k):PC prog Dt [kv k] (kv k):=by
 obtain ⟨B,K,s⟩:=k
 have hB:=rO B h.b
 have hD:=Bg K h.d
 obtain ⟨s1,s2,s3,s4⟩:=eZ h.s
 simp only at s3
 rw [kv,A8]
 simp only [jx,bP] at hB hD
 refine ae D9 (by simp) ?_
 simp only [uS,go_sem,jF,jG,jH,↓reduceIte,reduceCtorEq]
 try simp (disch:=omega) only [go_sem,jA,jB,jC,jD,jE,jF,jG,jH,jI,jJ,↓reduceIte,reduceCtorEq,jO,jM,jN,jK,jL]
 refine ab hB (by simp [go_sem]) ?_
 try simp (disch:=omega) only [go_sem,jF,↓reduceIte]
 refine ab hD (by simp [go_sem]) ?_
 try simp (disch:=omega) only [go_sem,jF,↓reduceIte]
 refine db (b:=32) (L:=[]) cw.nil (by simp only [List.length_nil,ak]; omega) (by simp only [List.length_nil,ak]; omega) fun Y τ hY hKY=>?_
 rw [List.nil_append] at hY
 have hnY:=hKY.1
 have r0:=hKY.2.1 1 (by simp only; omega) (aZ.nil _)
 have hY1:=hKY.2.2 1 (by simp only; omega) (aZ.nil _)
 simp only at r0 hnY
 have q0:=hKY.2.1 0 (by simp only; omega) (aZ.nil _)
 simp only at q0
 try simp (disch:=omega) only [go_sem,↓reduceIte] at r0
 try simp (disch:=omega) only [go_sem,↓reduceIte,reduceCtorEq] at q0
 try simp (disch:=omega) only [go_sem,jF,jG,jH,↓reduceIte,reduceCtorEq,hY.one,hY.flat,hY.cells,r0,St.put]
 refine ⟨q0,?_⟩
 refine aw.ag (.cons (.pure (by simp [go_sem])) (.cons (.pure (by simp [go_sem])) (.cons (.pure (by simp [go_sem])) (.cons (aw.e rfl) (.cons (.pure (by simp [go_sem])) (.cons (aw.e rfl) (.cons (hY.mF (fun i hi hno=>?_) (eo _) (ig _)) .nil)))))))
 have:¬i=1:=fun e=>hno (e ▸ hY1)
 simp only
 rw [aa _ _ _ _ this]
theorem Bl (A B:Bk) (ha:A.op.length≤9223372036854775807) (hA:∀ x∈A.op,II x) (hr:A.rp.length≤9223372036854775807):PC prog Dy [jx A,jx B] (.bool (decide (A=B))):=by
 obtain ⟨o,r⟩:=A
 obtain ⟨o',r'⟩:=B
 simp only at ha hA hr
 have hE:decide ((⟨o,r⟩:Bk)=⟨o',r'⟩)=(decide (o=o')&&decide (r=r')):=by rw [Bool.eq_iff_iff]; simp
 rw [hE]
 refine ae Ed (by simp) ?_
 simp only [uW,go_sem,jF,jG,jH,↓reduceIte,reduceCtorEq,jx]
 by_cases h1:o.length=o'.length
 rotate_left
 ·have q1:¬(o.length:Int)=(o'.length:Int):=by omega
  try simp (disch:=omega) only [go_sem,jF,↓reduceIte,aN,q1,decide_false,Bool.not_false]
  exact aw.of_eq (by congr 1; simp; intro hab; exact absurd (by rw [hab]) h1) rfl
 by_cases h2:r.length=r'.length
 rotate_left
 ·have q1:(o.length:Int)=(o'.length:Int):=by omega
  have q2:¬(r.length:Int)=(r'.length:Int):=by omega
  try simp (disch:=omega) only [go_sem,jF,jG,jH,↓reduceIte,reduceCtorEq,aN,aF,q1,q2,decide_true,Bool.not_true,decide_false,Bool.not_false]
  exact aw.of_eq (by congr 1; simp; intro _ hab; exact absurd (by rw [hab]) h2) rfl
 have q1:(o.length:Int)=(o'.length:Int):=by omega
 have q2:(r.length:Int)=(r'.length:Int):=by omega
 try simp (disch:=omega) only [go_sem,jF,jG,jH,↓reduceIte,reduceCtorEq,aN,aF,q1,q2,decide_true,Bool.not_true]
 refine aT [4,5,26,27,28,29,30,31,32,33,34,35,36,37,38,39,40,41] (by kernel_rfl) o.length (fun k e σ=>e 26=.int .i64 k∧σ.ob 0=some ⟨0,2,40,false,true,[.agg [.list 4 (lJ o),.list 6 (iH r)]]⟩∧σ.ob 1=some ⟨1,2,40,false,true,[.agg [.list 4 (lJ o'),.list 6 (iH r')]]⟩∧∀ j,j<k→o[j]?=o'[j]?) ?_ ?_
 ·exact ⟨(by first | rfl | (simp (disch:=omega) only [go_sem,jA,jB,jC,jD,jE,jF,jG,jH,jI,jJ,↓reduceIte,reduceCtorEq,jP,jO,jM,jN]; try rfl)),by try simp (disch:=omega) only [go_sem,↓reduceIte,reduceCtorEq],by try simp (disch:=omega) only [go_sem,↓reduceIte],fun j hj=>by omega⟩
 rintro k fe ob m c hk hm ⟨h26,u0,u1,hj⟩
 simp (maxSteps:=1000000) only [go_sem,jF,↓reduceIte] at h26 u0 u1 hm
 try simp (disch:=omega) only [go_sem,jF,↓reduceIte,h26]
 refine ah (fun hlt=>?_) (fun hge=>?_)
 ·have hka:k<o.length:=by omega
  have hga:o[k]?=some o[k]:=List.getElem?_eq_getElem hka
  have hgb:o'[k]?=some o'[k]:=List.getElem?_eq_getElem (by omega)
  have hS:=Bm o[k] o'[k] (hA _ (List.getElem_mem hka))
  generalize o[k]=x at *
  generalize o'[k]=y at *
  simp only [gI] at hS
  try simp (disch:=omega) only [go_sem,jF,jH,↓reduceIte,u0,u1,aN,eY,hga,hgb,Option.map_some,gI]
  refine ⟨by omega,by omega,by omega,by omega,?_⟩
  refine ab hS (by simp [go_sem]) ?_
  cases hq:kC x y
  ·try simp (disch:=omega) only [go_sem,↓reduceIte]
   exact aw.of_eq (by congr 1; simp; intro hab; subst hab; rw [hga] at hgb; obtain rfl:=Option.some.inj hgb; rw [nb.2 rfl] at hq; cases hq) rfl
  ·obtain rfl:=nb.1 hq
   try simp (disch:=omega) only [go_sem,jF,↓reduceIte,jO]
   refine aD m hka (by omega) ⟨(by first | rfl | (simp (disch:=omega) only [go_sem,jA,jB,jC,jD,jE,jF,jG,jH,jI,jJ,↓reduceIte,reduceCtorEq,jP,jO,jM,jN]; try rfl)),by rw [aW (by omega)]; exact u0,by rw [aW (by omega)]; exact u1,fun j hj'=>?_⟩
   by_cases e:j=k
   ·subst e; rw [hga,hgb]
   ·exact hj j (by omega)
 obtain rfl:o=o':=bW h1 fun j hj'=>hj j (by omega)
 clear h26 hj
 try simp (disch:=omega) only [go_sem,jF,jG,jH,↓reduceIte,u0,aF]
 refine aT [4,6,45,46,47,48,49,50,51,52,53,54,55,56,57,58,59] (by kernel_rfl) r.length (fun k e σ=>e 45=.int .i64 k∧σ.ob 0=some ⟨0,2,40,false,true,[.agg [.list 4 (lJ o),.list 6 (iH r)]]⟩∧σ.ob 1=some ⟨1,2,40,false,true,[.agg [.list 4 (lJ o),.list 6 (iH r')]]⟩∧∀ j,j<k→r[j]?=r'[j]?) ?_ ?_
 ·exact ⟨(by first | rfl | (simp (disch:=omega) only [go_sem,jA,jB,jC,jD,jE,jF,jG,jH,jI,jJ,↓reduceIte,reduceCtorEq,jP,jO,jM,jN]; try rfl)),u0,u1,fun j hj=>by omega⟩
 clear u0 u1
 rintro k2 fe2 ob2 m2 c2 hk2 hm2 ⟨h45,u0,u1,hj⟩
 simp (maxSteps:=1000000) only [go_sem,jF,↓reduceIte] at h45 u0 u1 hm2
 try simp (disch:=omega) only [go_sem,jF,↓reduceIte,h45]
 refine ah (fun hlt=>?_) (fun hge=>?_)
 ·have hka:k2<r.length:=by omega
  have hga:r[k2]?=some r[k2]:=List.getElem?_eq_getElem hka
  have hgb:r'[k2]?=some r'[k2]:=List.getElem?_eq_getElem (by omega)
  have hE:=Gh r[k2] r'[k2]
  generalize r[k2]=x at *
  generalize r'[k2]=y at *
  try simp (disch:=omega) only [go_sem,jF,jG,jH,↓reduceIte,u0,u1,aF,dP,hga,hgb,Option.map_some,en]
  refine ⟨by omega,by omega,by omega,by omega,?_⟩
  rw [hE]
  by_cases hxy:x=y
  ·subst hxy
   try simp (disch:=omega) only [go_sem,jF,↓reduceIte,jO,decide_true,Bool.not_true]
   refine aD m2 hka (by omega) ⟨(by first | rfl | (simp (disch:=omega) only [go_sem,jA,jB,jC,jD,jE,jF,jG,jH,jI,jJ,↓reduceIte,reduceCtorEq,jP,jO,jM,jN]; try rfl)),by rw [aW (by omega)]; exact u0,by rw [aW (by omega)]; exact u1,fun j hj'=>?_⟩
   by_cases e:j=k2
   ·subst e; rw [hga,hgb]
   ·exact hj j (by omega)
  ·try simp (disch:=omega) only [go_sem,↓reduceIte,decide_false,Bool.not_false,hxy]
   exact aw.of_eq (by congr 1; simp; intro hab; subst hab; rw [hga] at hgb; exact hxy (Option.some.inj hgb)) rfl
 obtain rfl:r=r':=bW h2 fun j hj'=>hj j (by omega)
 try simp (disch:=omega) only [go_sem,↓reduceIte]
 exact aw.of_eq (by simp) rfl
theorem E1 (k:Kt) (h:IK k) (q:Rc) (hq:q.sg.length≤9223372036854775807):PC prog Gu [kv k,dc q] (.tuple [kv (uM k q).1,.int .i64 (uM k q).2]):=by
 have hC:=pQ k h
 have hT:=rK k
 have hE:=pR q hq
 have hpk:=yM k.B k.K k.s
 have hpq:=iI q
 have hsg:=dp q.sg
 have hd0:=@DZ k q
 have hd1:=@DX k q
 have hd2:=@DY k q
 have hFi:=fun (hv:bg q=true) (hk:q.k=1)=>zA k.B h.b (Jb q) (Ja hv hk)
 have hRq:=ma k.K h.d q.site q.fr q.to q.rel
 have hSg:=pX k.K h.d q.yT q.Be q.code q.time
 have hWd:=kQ k.K h.d q.yT q.Be q.code q.time
 have hIs:=kM k.s q.nj q.wb q.vR h.s
 have hCf:=nq k.s q.xM h.s
 have hOk:=(kg h).1
 obtain ⟨B,K,s⟩:=k
 simp only [kv] at hC hT
 simp only [A8,dc,fJ,eJ] at hC hT hE hpk hpq
 simp only [jx,en,Jb] at hFi
 simp only [bP] at hRq hSg hWd
 simp only [mE,gG] at hIs hCf
 simp only at hd2 hOk
 generalize hck:kh ⟨B,K,s⟩=ck at *
 generalize uM ⟨B,K,s⟩ q=D at *
 obtain ⟨P,hP⟩:∃ P,AV.tuple [kv D.1,.int .i64 D.2]=P:=⟨_,rfl⟩
 rw [hP]
 refine ae GR (by simp) ?_
 simp only [AD,go_sem,jF,jG,jH,↓reduceIte,reduceCtorEq,kv,A8,dc,fJ,eJ]
 try simp (disch:=omega) only [go_sem,jA,jB,jC,jD,jE,jF,jG,jH,jI,jJ,↓reduceIte,reduceCtorEq,jO,jM,jN,jK,jL]
 refine ab hC (by simp [go_sem]) ?_
 try simp (disch:=omega) only [go_sem,↓reduceIte]
 refine aY (fun c0=>?_) (fun c0=>?_)
 ·try simp (disch:=omega) only [go_sem,jF,jG,jH,↓reduceIte]
  rw [←hP,hd0 c0]
  exact aw.tu (.cons js (.cons (.pure rfl) .nil))
 subst c0
 have hO:=hOk rfl
 try simp (disch:=omega) only [go_sem,jF,jH,↓reduceIte]
 refine ab hE (by simp [go_sem]) ?_
 cases hv:bg q
 ·try simp (disch:=omega) only [go_sem,jF,jG,jH,↓reduceIte]
  rw [←hP,hd1 rfl hv]
  exact aw.tu (.cons js (.cons (.pure rfl) .nil))
 try simp (disch:=omega) only [go_sem,jF,jH,↓reduceIte,reduceCtorEq]
 refine ab (hT hO) (by simp [go_sem]) ?_
 rw [hd2 rfl hv] at hP
 clear hd0 hd1 hd2 hC hE hT
 have hk6:=EH hv
 simp only [Jb] at hP
 try simp (disch:=omega) only [go_sem,jF,jG,jH,↓reduceIte]
 refine ah (fun k1=>?_) (fun k1=>?_)
 ·rw [if_pos k1] at hP
  try simp (disch:=omega) only [go_sem,jF,jG,jH,↓reduceIte,reduceCtorEq]
  refine ab (hFi hv k1) (by simp [go_sem]) ?_
  generalize ql B ⟨q.num,q.acc,q.vI,q.tm,⟨q.lo,q.hi⟩⟩=F at *
  obtain ⟨B',e⟩:=F
  try simp (disch:=omega) only [go_sem,jF,jG,jH,↓reduceIte]
  refine aY (fun c=>?_) (fun c=>?_)
  ·try simp (disch:=omega) only [go_sem,jF,jG,jH,↓reduceIte]
   rw [←hP]
   exact dH c
  ·subst c
   try simp (disch:=omega) only [go_sem,jF,jG,jH,↓reduceIte]
   rw [←hP]
   exact dG (k:=⟨B',K,s⟩) rfl
 rw [if_neg k1] at hP
 try simp (disch:=omega) only [go_sem,jF,↓reduceIte]
 refine ah (fun k2=>?_) (fun k2=>?_)
 ·rw [if_pos k2] at hP
  try simp (disch:=omega) only [go_sem,jF,jG,jH,↓reduceIte,reduceCtorEq]
  refine ab hRq (by simp [go_sem]) ?_
  generalize bU K q.site q.fr q.to q.rel=F at *
  obtain ⟨K',i',e⟩:=F
  try simp (disch:=omega) only [go_sem,jF,jG,jH,↓reduceIte]
  refine aY (fun c=>?_) (fun c=>?_)
  ·try simp (disch:=omega) only [go_sem,jF,jG,jH,↓reduceIte]
   rw [←hP]
   exact dH c
  ·subst c
   try simp (disch:=omega) only [go_sem,jF,jG,jH,↓reduceIte]
   rw [←hP]
   exact dG (k:=⟨B,K',s⟩) rfl
 rw [if_neg k2] at hP
 try simp (disch:=omega) only [go_sem,jF,↓reduceIte]
 refine ah (fun k3=>?_) (fun k3=>?_)
 ·rw [if_pos k3] at hP
  try simp (disch:=omega) only [go_sem,jF,jG,jH,↓reduceIte,reduceCtorEq]
  refine ab hSg (by simp [go_sem]) ?_
  generalize ka K q.yT q.Be q.code q.time=F at *
  obtain ⟨K',e⟩:=F
  try simp (disch:=omega) only [go_sem,jF,jG,jH,↓reduceIte]
  refine aY (fun c=>?_) (fun c=>?_)
  ·try simp (disch:=omega) only [go_sem,jF,jG,jH,↓reduceIte]
   rw [←hP]
   exact dH c
  ·subst c
   try simp (disch:=omega) only [go_sem,jF,jG,jH,↓reduceIte]
   rw [←hP]
   exact dG (k:=⟨B,K',s⟩) rfl
 rw [if_neg k3] at hP
 try simp (disch:=omega) only [go_sem,jF,↓reduceIte]
 refine ah (fun k4=>?_) (fun k4=>?_)
 ·rw [if_pos k4] at hP
  try simp (disch:=omega) only [go_sem,jF,jG,jH,↓reduceIte,reduceCtorEq]
  refine ab hWd (by simp [go_sem]) ?_
  generalize ku K q.yT q.Be q.code q.time=F at *
  obtain ⟨K',e⟩:=F
  try simp (disch:=omega) only [go_sem,jF,jG,jH,↓reduceIte]
  refine aY (fun c=>?_) (fun c=>?_)
  ·try simp (disch:=omega) only [go_sem,jF,jG,jH,↓reduceIte]
   rw [←hP]
   exact dH c
  ·subst c
   try simp (disch:=omega) only [go_sem,jF,jG,jH,↓reduceIte]
   rw [←hP]
   exact dG (k:=⟨B,K',s⟩) rfl
 rw [if_neg k4] at hP
 try simp (disch:=omega) only [go_sem,jF,↓reduceIte]
 refine ah (fun k5=>?_) (fun k5=>?_)
 ·rw [if_pos k5] at hP
  try simp (disch:=omega) only [go_sem,jF,jG,jH,↓reduceIte,reduceCtorEq]
  refine ab hIs (by simp [go_sem]) ?_
  generalize cM s q.nj q.wb q.vR=F at *
  obtain ⟨s',o',e⟩:=F
  try simp (disch:=omega) only [go_sem,jF,jG,jH,↓reduceIte]
  refine aY (fun c=>?_) (fun c=>?_)
  ·try simp (disch:=omega) only [go_sem,jF,jG,jH,↓reduceIte]
   rw [←hP]
   exact dH c
  ·subst c
   try simp (disch:=omega) only [go_sem,jF,jG,jH,↓reduceIte]
   rw [←hP]
   exact dG (k:=⟨B,K,s'⟩) rfl
 rw [if_neg k5] at hP
 try simp (disch:=omega) only [go_sem,jF,↓reduceIte]
 have k6:q.k=6:=by omega
 try simp (disch:=omega) only [go_sem,jA,jF,jG,jH,↓reduceIte,reduceCtorEq,k6]
 refine ab hCf (by simp [go_sem]) ?_
 generalize dO s q.xM=F at *
 obtain ⟨s',e⟩:=F
 try simp (disch:=omega) only [go_sem,jF,jG,jH,↓reduceIte]
 refine aY (fun c=>?_) (fun c=>?_)
 ·try simp (disch:=omega) only [go_sem,jF,jG,jH,↓reduceIte]
  rw [←hP]
  exact dH c
 ·subst c
  try simp (disch:=omega) only [go_sem,jF,jG,jH,↓reduceIte]
  rw [←hP]
  exact dG (k:=⟨B,K,s'⟩) rfl
theorem Bh (a b:Kt) (h:RK a):PC prog Ds [kv a,kv b] (.bool (decide (a=b))):=by
 have hB:=Bl a.B b.B h.n h.a h.r
 have hD:=Bp a.K b.K h.d
 have hS:=Bo a.s b.s h.s
 obtain ⟨B,K,s⟩:=a
 obtain ⟨B',K',s'⟩:=b
 simp only [jx,bP,mE] at hB hD hS
 refine ae D8 (by simp) ?_
 simp only [uR,go_sem,jF,jG,jH,↓reduceIte,reduceCtorEq,kv,A8]
 try simp (disch:=omega) only [go_sem,jA,jB,jC,jD,jE,jF,jG,jH,jI,jJ,↓reduceIte,reduceCtorEq,jO,jM,jN,jK,jL]
 refine ab hB (by simp [go_sem]) ?_
 have hE:decide ((⟨B,K,s⟩:Kt)=⟨B',K',s'⟩)=(decide (B=B')&&(decide (K=K')&&decide (s=s'))):=by
  rw [Bool.eq_iff_iff]; simp
 rw [hE]
 cases decide (B=B')
 ·try simp (disch:=omega) only [go_sem,jF,↓reduceIte]
  exact aw.of_eq rfl rfl
 try simp (disch:=omega) only [go_sem,jF,jG,jH,↓reduceIte,reduceCtorEq]
 refine ab hD (by simp [go_sem]) ?_
 cases decide (K=K')
 ·try simp (disch:=omega) only [go_sem,jF,↓reduceIte]
  exact aw.of_eq rfl rfl
 try simp (disch:=omega) only [go_sem,jF,jG,jH,↓reduceIte,reduceCtorEq]
 refine ab hS (by simp [go_sem]) ?_
 cases decide (s=s') <;> try simp (disch:=omega) only [go_sem,jF,↓reduceIte] <;> exact aw.of_eq rfl rfl
theorem xN (k:Kt) (h:IK k) (s:ByteArray) (hs:s.size≤100000000000) (hsg:∀ q∈(cr s).1,q.sg.length≤9223372036854775807) (hll:(cr s).1.length≤4611686018427387904) (n:Int):PC prog p8 [kv k,.str s,.int .i64 n] (.tuple [kv (jj k s n).1,.int .i64 (jj k s n).2.1,.int .i64 (jj k s n).2.2]):=by
 have hC:=pQ k h
 have hT:=rK k
 have hJ:=Bj s hs
 have hpk:=jt k
 have hOk:=(kg h).1
 have hS0:jj k s n=if kh k≠0 then (kz,0,kh k) else if n<0∨((cr s).1.length:Int)<n then (kz,0,1) else (((cr s).1.drop n.toNat).foldl fq k,((cr s).1.length:Int),0):=rfl
 obtain ⟨P,hP⟩:∃ P,AV.tuple [kv (jj k s n).1,.int .i64 (jj k s n).2.1,.int .i64 (jj k s n).2.2]=P:=⟨_,rfl⟩
 rw [hP]
 rw [hS0] at hP
 clear hS0
 generalize cr s=O at *
 obtain ⟨l,oe⟩:=O
 simp only at hsg hll hP
 generalize hck:kh k=ck at *
 refine ae AJ (by simp) ?_
 simp only [qu,go_sem,jF,jG,jH,↓reduceIte,reduceCtorEq]
 try simp (disch:=omega) only [go_sem,ez,cZ,jT,jU]
 refine ab hC (by simp [hpk,go_sem]) ?_
 try simp (disch:=omega) only [go_sem,↓reduceIte]
 refine aY (fun c=>?_) (fun c=>?_)
 ·try simp (disch:=omega) only [go_sem,jF,jG,jH,↓reduceIte]
  rw [←hP,if_pos c]
  exact aw.tu (.cons js (.cons (.pure rfl) (.cons (.pure rfl) .nil)))
 subst c
 rw [if_neg (by simp)] at hP
 have hO:=hOk rfl
 try simp (disch:=omega) only [go_sem,jF,↓reduceIte,reduceCtorEq]
 refine ab hJ (by simp [go_sem]) ?_
 try simp (disch:=omega) only [go_sem,jF,↓reduceIte,reduceCtorEq]
 by_cases c1:n<0
 ·rw [if_pos (.inl c1)] at hP
  try simp (disch:=omega) only [go_sem,jF,jG,jH,↓reduceIte,c1,decide_true]
  rw [←hP]
  exact aw.tu (.cons js (.cons (.pure rfl) (.cons (.pure rfl) .nil)))
 by_cases c2:(l.length:Int)<n
 ·rw [if_pos (.inr c2)] at hP
  try simp (disch:=omega) only [go_sem,jF,jG,jH,↓reduceIte,reduceCtorEq,c1,c2,decide_true,decide_false,bN]
  rw [←hP]
  exact aw.tu (.cons js (.cons (.pure rfl) (.cons (.pure rfl) .nil)))
 rw [if_neg (by omega)] at hP
 obtain ⟨j,rfl⟩:∃ j:Nat,n=j:=⟨n.toNat,by omega⟩
 rw [Int.toNat_natCast] at hP
 have hdr:(yI l).drop j=yI (l.drop j):=by simp [yI]
 have hLs:∀ q∈l.drop j,q.sg.length≤9223372036854775807:=fun q hq=>hsg q (List.mem_of_mem_drop hq)
 try simp (disch:=omega) only [go_sem,jF,jH,↓reduceIte,reduceCtorEq,c1,c2,decide_false,bN,jT,jU]
 refine ab (hT hO) (by simp [hpk,go_sem]) ?_
 try simp (disch:=omega) only [go_sem,jF,jG,jH,↓reduceIte,reduceCtorEq,bN,hdr,ez,cZ,mS]
 refine ⟨by omega,by omega,?_⟩
 have hLl:(l.drop j).length≤4611686018427387904:=by rw [List.length_drop]; omega
 generalize l.drop j=L at *
 refine aT [14,15,16,43,44,45,46,47,48,49,50,51,52,53,54,55,56] (by kernel_rfl) L.length (fun i e σ=>e 43=.int .i64 i∧σ.ob 1=some ⟨1,7,49,false,true,[.agg [.nil,.nil,.nil,.int .i64 0,.nil,.int .i64 0,.nil]]⟩∧σ.ob 2=some ⟨2,7,49,false,true,[kv ((L.take i).foldl fq k)]⟩) ?_ ?_
 ·exact ⟨(by first | rfl | (simp (disch:=omega) only [go_sem,jA,jB,jC,jD,jE,jF,jG,jH,jI,jJ,↓reduceIte,reduceCtorEq,jP,jO,jM,jN]; try rfl)),by try simp (disch:=omega) only [go_sem,jF,↓reduceIte],by try simp (disch:=omega) only [go_sem,↓reduceIte,List.take_zero,List.foldl_nil]⟩
 rintro i fe ob m c hi hm ⟨h43,u1,u2⟩
 simp (maxSteps:=1000000) only [go_sem,jF,↓reduceIte] at h43 u1 u2 hm
 try simp (disch:=omega) only [go_sem,jF,↓reduceIte,h43]
 refine ah (fun hlt=>?_) (fun hge=>?_)
 ·have hil:i<L.length:=by omega
  have g1:L[i]?=some L[i]:=List.getElem?_eq_getElem hil
  have t1:=dD L i hil
  have hqs:=hLs _ (List.getElem_mem hil)
  have hK:=uJ (l:=L.take i) hO
  have hI:(L.take (i+1)).foldl fq k=fq ((L.take i).foldl fq k) L[i]:=by rw [t1,List.foldl_append]; rfl
  clear t1
  generalize L[i]=q at *
  generalize (L.take i).foldl fq k=kk at *
  have hD:=E1 kk hK.S q hqs
  have hst:fq kk q=if (uM kk q).2=0 then (uM kk q).1 else kk:=rfl
  have hpkk:=jt kk
  have hpq:=iI q
  rw [hst] at hI
  clear hst
  generalize uM kk q=D at *
  obtain ⟨k2,e⟩:=D
  have z1:¬1=m:=by omega
  have z2:¬2=m:=by omega
  have y1:¬1=m+1:=by omega
  have y2:¬2=m+1:=by omega
  have x2:¬m=2:=by omega
  have x3:¬m+1=2:=by omega
  try simp (disch:=omega) only [go_sem,jF,jH,↓reduceIte,bN,Hf,g1,Option.map_some,u2,EY,z2,jT,jU,Db,Dc,Dd,Hd,Hc]
  refine ⟨by omega,by omega,?_⟩
  refine ab hD (by simp [hpkk,hpq,go_sem]) ?_
  try simp (disch:=omega) only [go_sem,jF,jH,↓reduceIte,ez,cZ,mS]
  refine ah (fun c=>?_) (fun c=>?_)
  ·rw [if_pos c] at hI
   try simp (disch:=omega) only [go_sem,jF,jH,↓reduceIte,jO,u2,z2,y2,cZ,jT,jU,z8,JD]
   refine aD (m+1+1) hil (by omega) ⟨(by first | rfl | (simp (disch:=omega) only [go_sem,jA,jB,jC,jD,jE,jF,jG,jH,jI,jJ,↓reduceIte,reduceCtorEq,jP,jO,jM,jN]; try rfl)),?_,?_⟩
   ·rw [aW (by omega)]; try simp (disch:=omega) only [go_sem,jF,↓reduceIte,z1,y1,u1]
   ·rw [aW (by omega),hI]; try simp (disch:=omega) only [go_sem,↓reduceIte]
  ·rw [if_neg c] at hI
   try simp (disch:=omega) only [go_sem,jF,↓reduceIte,jO]
   refine aD (m+1+1) hil (by omega) ⟨(by first | rfl | (simp (disch:=omega) only [go_sem,jA,jB,jC,jD,jE,jF,jG,jH,jI,jJ,↓reduceIte,reduceCtorEq,jP,jO,jM,jN]; try rfl)),?_,?_⟩
   ·rw [aW (by omega)]; try simp (disch:=omega) only [go_sem,↓reduceIte,z1,y1,u1]
   ·rw [aW (by omega),hI]; try simp (disch:=omega) only [go_sem,↓reduceIte,z2,y2,u2]
 ·obtain rfl:i=L.length:=by omega
  rw [List.take_length] at u2
  try simp (disch:=omega) only [go_sem,jF,jH,↓reduceIte,u1,u2,bN,cZ,jT,jU,z8]
  rw [←hP]
  exact aw.tu (.cons (.pure (jt _)) (.cons (.pure rfl) (.cons (.pure rfl) .nil)))
theorem Ma (s:ByteArray) (a:Int):(bX s a).1.sg=[]:=by
 unfold bX
 split
 ·rfl
 split
 ·rfl
 unfold Ay
 simp only
 split
 ·rfl
 split
 ·rfl
 split
 ·rfl
 split
 ·exact tN _ _ _ rfl fun o ho=>ox ho
 ·rfl
theorem zw (s:ByteArray):∀ (f:Nat) (a:Int),(cE s f a).1.length≤f∧∀ q∈(cE s f a).1,q.sg=[]
 | 0,_=>by simp [cE]
 | f+1,a=>by
  rw [cE]
  split
  ·simp
  ·obtain ⟨h1,h2⟩:=zw s f (bX s a).2.1
   refine ⟨by simp; omega,fun q hq=>?_⟩
   rcases List.mem_cons.1 hq with rfl | hq
   ·exact Ma s a
   ·exact h2 q hq
theorem Mr {k:Kt} (hk:IK k) {s:ByteArray} (hz:s.size≤10000) (n:Int):PC prog mg [kv k,.str s,.int .i64 n] (.tuple [kv (jj k s n).1,.int .i64 (jj k s n).2.1,.int .i64 (jj k s n).2.2]):=by
 obtain ⟨h1,h2⟩:=zw s s.size 0
 exact kO k hk s (by omega) (fun q hq=>by rw [h2 q hq]; simp) (by have:(cr s).1.length≤s.size:=h1; omega) n
theorem Kx {k:Kt} (hk:IK k) {s:ByteArray} (hz:s.size≤10000) (n:Int):PC prog p8 [kv k,.str s,.int .i64 n] (.tuple [kv (jj k s n).1,.int .i64 (jj k s n).2.1,.int .i64 (jj k s n).2.2]):=by
 obtain ⟨h1,h2⟩:=zw s s.size 0
 exact xN k hk s (by omega) (fun q hq=>by rw [h2 q hq]; simp) (by have:(cr s).1.length≤s.size:=h1; omega) n
theorem OH {k:Kt} (h:Gb k) (s:ByteArray) (n:Int):RK (jj k s n).1:=by
 rw [jj,if_neg (by simp [(kg h.S).2 h])]
 split
 ·exact TC
 ·exact (uJ h).L
theorem Hz {q:Rc} (h:KW q):lq q=(rA q,0):=by rw [lq,if_pos h.1]
theorem Ik {q:Rc} (h:KW q):(rA q).size≤35:=by
 have:=IM [q]
 simp only [Mv,List.foldl_cons,List.foldl_nil,Hz h,ByteArray.size_append] at this
 have h0:(⟨#[]⟩:ByteArray).size=0:=rfl
 simp at this; omega
theorem mJ (t:List Int) (s:ByteArray) (done:Int):PC prog fv [.list 1 (ints t),.str s,.int .i64 done] (.bool true):=by
 refine ae n7 (by simp) ?_
 simp only [fB,go_sem]
 try simp (disch:=omega) only [go_sem,jA,jB,jC,jD,jE,jF,jG,jH,jI,jJ,↓reduceIte,reduceCtorEq,jO,jM,jN,jK,jL]
 refine ab Bq (by simp) ?_
 try simp (disch:=omega) only [go_sem,↓reduceIte,reduceCtorEq]
 refine ab (H5 t) (by simp [go_sem]) ?_
 try simp (disch:=omega) only [go_sem,↓reduceIte]
 cases hfew:O0 t
 ·try simp (disch:=omega) only [go_sem,jF,↓reduceIte]
  exact aw.of_eq rfl rfl
 have hlt:t.length≤9223372036854775807:=by simp [O0] at hfew; omega
 try simp (disch:=omega) only [go_sem,jF,↓reduceIte,reduceCtorEq]
 refine ah (fun hs=>?_) (fun hs=>?_)
 ·try simp (disch:=omega) only [go_sem,↓reduceIte]
  exact aw.of_eq rfl rfl
 try simp (disch:=omega) only [go_sem,↓reduceIte,reduceCtorEq]
 refine aL (H4 _ t) ?_
 try simp (disch:=omega) only [go_sem,↓reduceIte]
 refine (BJ _ 0 0 t 0 hlt (by simp) (by first | rfl | simp (maxSteps:=1000000) only [go_sem,jA,jB,jC,jD,jE,jF,jG,jH,jI,jJ,↓reduceIte,reduceCtorEq,jP])).mono ?_
 intro r τ hDR
 obtain ⟨⟨B,T,K,sd,rfl,hT,hK,hsd,hKc,hso⟩,hn,⟨at1,hd⟩,-⟩:=hDR.use (by simp only [St.push]; omega)
 obtain ⟨ob1,n1,c1⟩:=τ
 simp only [St.push] at hn hd
 clear hDR
 have hO:Gb ⟨B,K,sd⟩:=⟨hT.ok,hKc,hso⟩
 have hTo:=hT.o
 rw [show A8 B K sd=kv ⟨B,K,sd⟩ from rfl]
 have hRec:=fun σ id g at'=>Aj σ id g t at' B T K sd hTo hK hsd hlt
 rw [show A8 B K sd=kv ⟨B,K,sd⟩ from rfl] at hRec
 clear hT hTo hK hsd hKc hso
 generalize (⟨B,K,sd⟩:Kt)=k0 at *
 have z0:¬0=n1:=by omega
 have z1:¬n1=0:=by omega
 have p0:=jt k0
 try simp (disch:=omega) only [go_sem,jF,jH,↓reduceIte,ez,cZ,mS]
 refine aL (ai _ 0 0 aA true t at1 6 (by try simp (disch:=omega) only [go_sem,↓reduceIte,z0]; exact hd) (by omega) hlt) ?_
 have hx1:=aI t at1 6
 generalize bf t at1 6=dr at *
 obtain ⟨x0,at2⟩:=dr
 simp only at hx1
 try simp (disch:=omega) only [go_sem,↓reduceIte]
 obtain ⟨N,hN⟩:∃ N:Nat,(N:Int)=x0∧N≤5:=⟨x0.toNat,by omega,by omega⟩
 obtain ⟨rfl,hN⟩:=hN
 refine aT [9,10,11,12,39,40,41,42,43,44,45,46,47,48,49,50,51,52] (by kernel_rfl) N (fun k e σ=>e 10=.int .i64 ((N:Int)-k)∧n1+1≤σ.n∧(∃ a,σ.ob 0=some ⟨0,2,aA,false,true,[bC t a]⟩)∧σ.ob n1=some ⟨c1,7,49,false,true,[kv k0]⟩∧
   ∃ w:ByteArray,e 9=.str w∧w.size≤35 * k) ?_ ?_
 ·refine ⟨(by first | rfl | (simp (disch:=omega) only [go_sem,jA,jB,jC,jD,jE,jF,jG,jH,jI,jJ,↓reduceIte,reduceCtorEq,jP,jO,jM,jN]; try rfl)),Nat.le_refl _,⟨at2,by try simp (disch:=omega) only [go_sem,↓reduceIte]⟩,by try simp (disch:=omega) only [go_sem,↓reduceIte,z1],⟨#[]⟩,(by first | rfl | (simp (disch:=omega) only [go_sem,jA,jB,jC,jD,jE,jF,jG,jH,jI,jJ,↓reduceIte,reduceCtorEq,jP,jO,jM,jN]; try rfl)),Nat.le_refl _⟩
 clear hd
 rintro k fe ob m c hk hm ⟨h10,hm1,⟨at3,hd⟩,v0,w,h9,hw⟩
 simp (maxSteps:=1000000) only [go_sem,jF,↓reduceIte] at h10 hm hm1 hd v0 h9
 try simp (disch:=omega) only [go_sem,jF,↓reduceIte,h10]
 refine ah (fun hge=>?_) (fun hlt2=>?_)
 ·have hkl:k<N:=by omega
  try simp (disch:=omega) only [go_sem,jF,jH,↓reduceIte,v0,Rk,h9]
  refine (hRec _ 0 0 at3 (by simp only; omega) (by exact hd)).mono ?_
  intro r τ hDR
  obtain ⟨⟨q,rfl,hq⟩,hn2,⟨at4,hd4⟩,hf4⟩:=hDR.use (by simp only; omega)
  obtain ⟨ob2,m2,c2⟩:=τ
  simp only at hn2 hd4 hf4
  subst hn2
  have hqs:=Ik hq
  try simp (disch:=omega) only [go_sem,↓reduceIte]
  refine ab (xO q (by rw [hq.2]; simp)) (by simp [iI]) ?_
  rw [Hz hq]
  try simp (disch:=omega) only [go_sem,jF,↓reduceIte,jO]
  refine ⟨by omega,?_⟩
  refine aD m2 hkl (by omega) ⟨by try simp (disch:=omega) only [go_sem,↓reduceIte]; congr 1; omega,by simp only [St.aE]; omega,⟨at4,by rw [aW (by omega)]; exact hd4⟩,by rw [aW (by omega),hf4 n1 (by omega) z1]; exact v0,_,(by first | rfl | (simp (disch:=omega) only [go_sem,jA,jB,jC,jD,jE,jF,jG,jH,jI,jJ,↓reduceIte,reduceCtorEq,jP,jO,jM,jN]; try rfl)),by rw [ByteArray.size_append]; omega⟩
 obtain rfl:k=N:=by omega
 clear hRec hd
 try simp (disch:=omega) only [go_sem,jF,jG,↓reduceIte,reduceCtorEq,h9]
 refine ⟨by omega,?_⟩
 obtain ⟨V,hV3,hVl,hV⟩:∃ V:List AV,[AV.str s,.str w,.str (w++s)]=V∧V.length=3∧∀ i,i<3→∃ v:ByteArray,V[i]?=some (.str v)∧v.size≤1000:=⟨_,rfl,rfl,fun i hi=>by
  match i,hi with
  | 0,_=>exact ⟨s,rfl,by omega⟩
  | 1,_=>exact ⟨w,rfl,by omega⟩
  | 2,_=>exact ⟨w++s,rfl,by rw [ByteArray.size_append]; omega⟩⟩
 rw [hV3]
 clear hV3 h9 h10
 refine aT [6,14,16,17,18,19,20,21,22,60,61,62,63,64,65,66,67,68,69,70,71,72,73,74,75,76,77,78,79,80,81,82,83,84,85,86,87,88,89,90,91,92,93,94,95,96,97,98,99,100,101,102,103,104] (by kernel_rfl) 3 (fun i e σ=>e 60=.int .i64 i∧n1+1≤σ.n∧σ.ob n1=some ⟨c1,7,49,false,true,[kv k0]⟩) ?_ ?_
 ·exact ⟨(by first | rfl | (simp (disch:=omega) only [go_sem,jA,jB,jC,jD,jE,jF,jG,jH,jI,jJ,↓reduceIte,reduceCtorEq,jP,jO,jM,jN]; try rfl)),hm1,v0⟩
 clear v0
 rintro i f2 ob2 m2 c2 hi hm2 ⟨h60,hm3,v0⟩
 simp only at v0 hm2 hm3
 simp (maxSteps:=1000000) only [go_sem,jF,↓reduceIte] at h60
 try simp (disch:=omega) only [go_sem,jF,↓reduceIte,h60]
 refine ah (fun hlt3=>?_) (fun hge3=>?_)
 ·have hi3:i<3:=by omega
  obtain ⟨v,hv,hvz⟩:=hV i hi3
  try simp (disch:=omega) only [go_sem,jF,jH,↓reduceIte,reduceCtorEq,hv,hVl]
  refine ⟨by omega,by omega,?_⟩
  refine ab (Cv done 7 (by omega) (by omega)) (by simp [go_sem]) ?_
  try simp (disch:=omega) only [go_sem,jF,jG,↓reduceIte]
  obtain ⟨D,hD3,hDl,hD⟩:∃ D:List AV,[AV.int .i64 done,.int .i64 (done % 7),.int .i64 0]=D∧D.length=3∧∀ i,i<3→∃ n:Int,D[i]?=some (.int .i64 n):=⟨_,rfl,rfl,fun i hi=>by
   match i,hi with
   | 0,_=>exact ⟨_,rfl⟩
   | 1,_=>exact ⟨_,rfl⟩
   | 2,_=>exact ⟨_,rfl⟩⟩
  rw [hD3]
  clear hD3
  refine aT [6,16,17,18,19,20,21,22,69,70,71,72,73,74,75,76,77,78,79,80,81,82,83,84,85,86,87,88,89,90,91,92,93,94,95,96,97,98,99,100,101,102,103] (by kernel_rfl) 3 (fun j e σ=>e 69=.int .i64 j∧n1+1≤σ.n∧σ.ob n1=some ⟨c1,7,49,false,true,[kv k0]⟩) ?_ ?_
  ·exact ⟨(by first | rfl | (simp (disch:=omega) only [go_sem,jA,jB,jC,jD,jE,jF,jG,jH,jI,jJ,↓reduceIte,reduceCtorEq,jP,jO,jM,jN]; try rfl)),hm3,v0⟩
  clear v0
  rintro j f3 ob3 m3 c3 hj hm4 ⟨h69,hm5,v0⟩
  simp only at v0 hm4 hm5
  simp (maxSteps:=1000000) only [go_sem,jF,↓reduceIte] at h69
  try simp (disch:=omega) only [go_sem,jF,↓reduceIte,h69]
  refine ah (fun hlt4=>?_) (fun hge4=>?_)
  ·have hj3:j<3:=by omega
   obtain ⟨n,hn3⟩:=hD j hj3
   have hR:=Mr hO.S (s:=v) (by omega) n
   have hR2:=Kx hO.S (s:=v) (by omega) n
   have hL:=OH hO v n
   generalize jj k0 v n=R at *
   obtain ⟨k1,mm,er⟩:=R
   simp only at hL
   have hS:=Bh k1 k1 hL
   rw [decide_eq_true rfl] at hS
   have p1:=jt k1
   have y1:¬n1=m3:=by omega
   have y2:¬m3=m3+1:=by omega
   have y3:¬n1=m3+1:=by omega
   try simp (disch:=omega) only [go_sem,jF,jH,↓reduceIte,hn3,hDl,v0,jT,jU]
   refine ⟨by omega,by omega,?_⟩
   refine ab hR (by simp [p0,go_sem]) ?_
   try simp (disch:=omega) only [go_sem,jF,jH,↓reduceIte,v0,y1,ez,cZ,jT,jU,mS]
   refine ab hR2 (by simp [p0,go_sem]) ?_
   try simp (disch:=omega) only [go_sem,jF,jH,↓reduceIte,y2,decide_true,Bool.not_true,ez,cZ,jT,jU,mS]
   refine ab hS (by simp [p1,go_sem]) ?_
   try simp (disch:=omega) only [go_sem,jF,↓reduceIte,jO]
   refine aD (m3+1+1) hj3 (by omega) ⟨(by first | rfl | (simp (disch:=omega) only [go_sem,jA,jB,jC,jD,jE,jF,jG,jH,jI,jJ,↓reduceIte,reduceCtorEq,jP,jO,jM,jN]; try rfl)),by simp only [St.aE]; omega,?_⟩
   rw [aW (by omega)]
   try simp (disch:=omega) only [go_sem,↓reduceIte,y1,y3,v0]
  ·try simp (disch:=omega) only [go_sem,jF,↓reduceIte,jO]
   refine aD m3 hi3 (by omega) ⟨(by first | rfl | (simp (disch:=omega) only [go_sem,jA,jB,jC,jD,jE,jF,jG,jH,jI,jJ,↓reduceIte,reduceCtorEq,jP,jO,jM,jN]; try rfl)),by simp only [St.aE]; omega,?_⟩
   rw [aW (by omega)]
   exact v0
 try simp (disch:=omega) only [go_sem,↓reduceIte]
 exact aw.of_eq rfl rfl
theorem A7 {c0 c1 c2:List AV} (s0:(Sh.slice 1 (.int .i64)).R c0) (s1:Sh.str.R c1) (s2:(Sh.int .i64).R c2):PC prog fv [(Sh.slice 1 (.int .i64)).Hq c0,Sh.str.Hq c1,(Sh.int .i64).Hq c2] (.bool true):=by
 obtain ⟨l0,rfl,_,_⟩:=Ol s0
 obtain ⟨s,rfl,_⟩:=s1
 obtain ⟨a2,rfl,_⟩:=s2
 exact mJ l0 s a2
end Go.Proofs.Try
