/- OWN WORK, put together by tools/asm.py, seat.py, mini.py. -/
import Derived.Test.YtcpckngdfjmbgaaGreatLibC
set_option linter.unusedSimpArgs false
set_option linter.unusedVariables false
set_option maxRecDepth 100000
set_option maxHeartbeats 1000000
namespace Go.Proofs.Try
open Go.Ab Go Go.Proofs.Tryz
open Int renaming reduceEq → jA, reduceLT → jB, reduceLE → jC, reduceToNat → jD
open Go.Ab renaming iP → jM, iQ → jN, lV → jO, iR → jP
open Nat renaming reduceLT → jE, reduceEqDiff → jF, reduceAdd → jG, reduceLeDiff → jH, reduceSub → jI, reduceMul → jJ, sub_zero → jK, sub_self → jL
theorem rP (op:List Ac) (r:Rp) (hop:∀ a∈op,ke a) (h:Ey op r):PC prog uy [.list 4 (lE op),ek r] (.int .i64 0):=by
 obtain ⟨i,hi⟩:∃ i:Nat,r.ac=i:=⟨r.ac.toNat,by have:=h.a0; omega⟩
 have hil:i<op.length:=by have:=h.a1; omega
 have e1:=iw hil
 have ha:=hop _ (List.mem_of_getElem? e1)
 have hr:=h.a
 rw [hi,Int.toNat_natCast] at hr
 have h1:=ha.n1
 have h2:=ha.n2
 have h3:=ha.f0
 have h4:=ha.f1
 have hfl:=yX ha hr.fd
 have t0:=hr.t0
 have t1:=hr.t1
 rw [hfl] at t1
 obtain ⟨b0,b1,b2⟩:=hr.b
 simp only [F7] at b2
 have hfd:=hr.fd
 have g1:=h.n1
 have g2:=h.n2
 generalize gA op i=a at *
 obtain ⟨nu,ac,fd,tm,b⟩:=r
 simp only at hi t0 t1 b0 b1 b2 hfd g1 g2
 subst hi
 refine ae vA (by simp) ?_
 simp only [oG,go_sem,jF,jG,jH,↓reduceIte,reduceCtorEq,ek]
 have q1:¬((i:Int)<0):=by omega
 have q2:¬((op.length:Int)≤(i:Int)):=by omega
 have q3:¬(nu<1):=by omega
 have q4:¬(1073741824<nu):=by omega
 have q5:¬(tm<a.fr):=by omega
 have q6:¬(b.lo<0):=by omega
 have q7:¬(274877906944<b.hi):=by omega
 have q8:¬(b.hi<b.lo):=by omega
 have q10:¬(274877906944<b.lo):=by omega
 have q11:¬(b.hi<0):=by omega
 try simp (disch:=omega) only [go_sem,jF,jG,jH,↓reduceIte,reduceCtorEq,aN,q1,q2,q3,q4,decide_false,fg,e1,Option.map_some,gG,aH]
 refine ⟨by omega,by omega,?_⟩
 rcases hfd with rfl | rfl | rfl
 ·rw [if_pos rfl] at t1
  have q9:¬(a.fr+((a.ins.length:Int)+1)≤tm):=by omega
  try simp (disch:=omega) only [go_sem,jF,jG,jH,↓reduceIte,reduceCtorEq,jO,q5,q6,q7,q8,q9,q10,q11,decide_false,decide_true]
  exact aw.of_eq rfl rfl
 ·rw [if_neg (by omega)] at t1
  have q9:¬(a.fr+(a.ins.length:Int)≤tm):=by omega
  try simp (disch:=omega) only [go_sem,jA,jF,jG,jH,↓reduceIte,reduceCtorEq,jO,q5,q6,q7,q8,q9,q10,q11,decide_false,decide_true]
  exact aw.of_eq rfl rfl
 ·rw [if_neg (by omega)] at t1
  have q9:¬(a.fr+(a.ins.length:Int)≤tm):=by omega
  try simp (disch:=omega) only [go_sem,jA,jF,jG,jH,↓reduceIte,reduceCtorEq,jO,q5,q6,q7,q8,q9,q10,q11,decide_false,decide_true]
  exact aw.of_eq rfl rfl
theorem kC (B:Bk) (h:lT B):PC prog By [jv B] (.int .i64 0):=by
 have hm:=h.m
 have hn:=h.n
 refine ae BU (by simp) ?_
 simp only [ss,go_sem,jF,jG,jH,↓reduceIte,jv]
 try simp (disch:=omega) only [go_sem,aN]
 refine ah (fun hgt=>by omega) (fun hle=>?_)
 try simp (disch:=omega) only [go_sem,jF,jH,↓reduceIte,aN]
 refine aW [2,4,5,16,17,18,19,20,21,22,23,24,25] (by kernel_rfl) B.op.length (fun k e σ=>e 16=.int .i64 k∧σ.ob 0=some ⟨0,2,40,false,true,[.agg [.list 4 (lE B.op),.list 6 (iG B.rp)]]⟩) ?_ ?_
 ·exact ⟨(by first | rfl | (simp (disch:=omega) only [go_sem,jA,jB,jC,jD,jE,jF,jG,jH,jI,jJ,↓reduceIte,reduceCtorEq,jP,jO,jM,jN]; try rfl)),by try simp (disch:=omega) only [go_sem,↓reduceIte]⟩
 rintro k fe ob m c hk hm1 ⟨h16,u0⟩
 simp (maxSteps:=1000000) only [go_sem,jF,↓reduceIte] at h16 u0 hm1
 try simp (disch:=omega) only [go_sem,jF,↓reduceIte,h16]
 refine ah (fun hlt=>?_) (fun hge=>?_)
 ·have hkl:k<B.op.length:=by omega
  have e1:=iw hkl
  have ha:=h.acc hkl
  have hC:=pV (gA B.op k) ha.l
  rw [D7.2 ha] at hC
  have z0:¬0=m:=by omega
  generalize gA B.op k=a at *
  try simp (disch:=omega) only [go_sem,jF,jG,jH,↓reduceIte,aN,fg,e1,Option.map_some,gG]
  refine ⟨by omega,by omega,?_⟩
  simp only [gG] at hC
  refine ab hC (by simp [go_sem]) ?_
  try simp (disch:=omega) only [go_sem,jF,↓reduceIte,jO]
  refine aG (m+1) hkl (by omega) ⟨(by first | rfl | (simp (disch:=omega) only [go_sem,jA,jB,jC,jD,jE,jF,jG,jH,jI,jJ,↓reduceIte,reduceCtorEq,jP,jO,jM,jN]; try rfl)),?_⟩
  try simp (disch:=omega) only [go_sem,↓reduceIte,jM,St.aD,z0,u0]
 try simp (disch:=omega) only [go_sem,jF,jG,jH,↓reduceIte,u0,aE]
 refine ah (fun hgt=>by omega) (fun hle=>?_)
 try simp (disch:=omega) only [go_sem,jF,jG,jH,↓reduceIte,u0,aE]
 refine aW [2,6,7,8,33,34,35,36,37,38,39,40,41,42,43,44,45,46,47,48,49,50,51,52,53,54,55,56,57,58,59,60,61,62,63,64,65,66,67] (by kernel_rfl) B.rp.length (fun k e σ=>e 33=.int .i64 k∧σ.ob 0=some ⟨0,2,40,false,true,[.agg [.list 4 (lE B.op),.list 6 (iG B.rp)]]⟩) ?_ ?_
 ·exact ⟨(by first | rfl | (simp (disch:=omega) only [go_sem,jA,jB,jC,jD,jE,jF,jG,jH,jI,jJ,↓reduceIte,reduceCtorEq,jP,jO,jM,jN]; try rfl)),by try simp (disch:=omega) only [go_sem,u0]⟩
 clear u0 h16
 rintro k fe ob m c hk hm2 ⟨h20,u0⟩
 simp (maxSteps:=1000000) only [go_sem,jF,↓reduceIte] at h20 u0 hm2
 try simp (disch:=omega) only [go_sem,jF,↓reduceIte,h20]
 refine ah (fun hlt=>?_) (fun hge=>?_)
 ·have hkl:k<B.rp.length:=by omega
  have e1:=ea hkl
  have hr:=h.ro _ (List.mem_of_getElem? e1)
  have hR:=rP B.op (gR B.rp k) h.ao hr
  have z0:¬0=m:=by omega
  have q3:¬((gR B.rp k).nu<1):=by have:=hr.n1; omega
  have q4:¬(1073741824<(gR B.rp k).nu):=by have:=hr.n2; omega
  simp only [ek] at hR
  try simp (disch:=omega) only [go_sem,jF,jG,jH,↓reduceIte,aE,dL,e1,Option.map_some,ek,q3,q4,decide_false]
  refine ⟨by omega,by omega,?_⟩
  rcases Nat.eq_zero_or_pos k with rfl | hk0
  ·try simp (disch:=omega) only [go_sem,jB,jF,jH,↓reduceIte,z0,u0]
   refine ab hR (by simp [go_sem]) ?_
   try simp (disch:=omega) only [go_sem,jF,↓reduceIte,jO]
   refine aG (m+1) hkl (by omega) ⟨(by first | rfl | (simp (disch:=omega) only [go_sem,jA,jB,jC,jD,jE,jF,jG,jH,jI,jJ,↓reduceIte,reduceCtorEq,jP,jO,jM,jN]; try rfl)),?_⟩
   try simp (disch:=omega) only [go_sem,↓reduceIte,jM,St.aD,z0,u0]
  ·have e2:=ea (l:=B.rp) (i:=k-1) (by omega)
   have hlt2:=vV h.Kk (show k-1<k by omega) e2 e1
   have q1:(0:Int)<(k:Int):=by omega
   have q2:((k:Int)-1).toNat=k-1:=by omega
   have q5:¬(gR B.rp k).nu≤(gR B.rp (k-1)).nu:=by omega
   try simp (disch:=omega) only [go_sem,jF,jG,jH,↓reduceIte,jO,z0,u0,q1,decide_true,q2,aE,dL,e2,Option.map_some,ek,q5,decide_false]
   refine ⟨by omega,by omega,?_⟩
   refine ab hR (by simp [go_sem]) ?_
   try simp (disch:=omega) only [go_sem,jF,↓reduceIte,jO]
   refine aG (m+1) hkl (by omega) ⟨(by first | rfl | (simp (disch:=omega) only [go_sem,jA,jB,jC,jD,jE,jF,jG,jH,jI,jJ,↓reduceIte,reduceCtorEq,jP,jO,jM,jN]; try rfl)),?_⟩
   try simp (disch:=omega) only [go_sem,↓reduceIte,jM,St.aD,z0,u0]
 ·try simp (disch:=omega) only [go_sem,↓reduceIte]
  exact aw.of_eq rfl rfl
theorem Bj (a:Ac) (h:ke a):PC prog uA [gG a] (gG a):=by
 have h1:=h.n2
 have h2:=h.no
 have h3:=h.ns
 have h4:=h.n1
 have hc:=se St.empty a (by omega) (by omega) (by omega) (by intro e; rw [e] at h3; simp at h3) (by intro e; rw [e] at h4; simp at h4) (by intro e; rw [e] at h2; simp at h2; omega)
 refine jh vD (hc.mono ?_)
 rintro r τ ⟨o1,o2,o3,rfl,hO,-⟩
 exact aw.ag (.cons (.pure rfl) (.cons (aw.dv hO.h1 (by rw [aH]) (mn _) (qM _)) (.cons (aw.dv hO.h2 (by rw [aH]) (mn _) (qM _)) (.cons (aw.dv hO.h3 (by rw [aH]) (mn _) (qM _)) .nil))))
theorem rR (B:Bk) (h:lT B):PC prog DB [jv B] (jv B):=by
 have hm:=h.m
 have hn:=h.n
 refine ae Ef (by simp) ?_
 simp only [vc,go_sem,jF,jG,jH,↓reduceIte,reduceCtorEq,jv]
 try simp (disch:=omega) only [go_sem,aN]
 refine aW [3,5,9,10,11,12,13,14,15,16,17,18] (by kernel_rfl) B.op.length (fun k e σ=>e 9=.int .i64 k∧σ.ob 0=some ⟨0,2,40,false,true,[.agg [.list 4 (lE B.op),.list 6 (iG B.rp)]]⟩∧σ.ob 1=some ⟨1,2,40,false,true,[.agg [.nil,.nil]]⟩∧
   cu 4 88 σ (lE (B.op.take k)) (e 3)∧aY (e 3) 0∧aY (e 3) 1) ?_ ?_
 ·exact ⟨(by first | rfl | (simp (disch:=omega) only [go_sem,jA,jB,jC,jD,jE,jF,jG,jH,jI,jJ,↓reduceIte,reduceCtorEq,jP,jO,jM,jN]; try rfl)),by try simp (disch:=omega) only [go_sem,↓reduceIte,reduceCtorEq],by try simp (disch:=omega) only [go_sem,↓reduceIte],by try simp (disch:=omega) only [go_sem,jF,↓reduceIte]; exact cu.nil,by try simp (disch:=omega) only [go_sem,jF,↓reduceIte]; exact aY.nil _,by try simp (disch:=omega) only [go_sem,jF,↓reduceIte]; exact aY.nil _⟩
 rintro k fe ob m c hk hm1 ⟨h9,u0,u1,hR,o0,o1⟩
 simp (maxSteps:=1000000) only [go_sem,jF,↓reduceIte] at h9 u0 u1 hR o0 o1 hm1
 obtain ⟨X,h3⟩:∃ X,fe 3=X:=⟨_,rfl⟩
 rw [h3] at hR o0 o1
 try simp (disch:=omega) only [go_sem,jF,↓reduceIte,h9]
 have z0:¬0=m:=by omega
 have z1:¬1=m:=by omega
 refine ah (fun hlt=>?_) (fun hge=>?_)
 ·have hkl:k<B.op.length:=by omega
  have e1:=iw hkl
  have ha:=h.acc hkl
  have hC:=Bj (gA B.op k) ha
  have htk:B.op.take (k+1)=B.op.take k++[gA B.op k]:=by rw [List.take_add_one,e1]; rfl
  generalize gA B.op k=a at *
  simp only [gG] at hC
  try simp (disch:=omega) only [go_sem,jF,jG,jH,↓reduceIte,aN,fg,e1,Option.map_some,gG]
  refine ⟨by omega,by omega,?_⟩
  refine ab hC (by simp [go_sem]) ?_
  try simp (disch:=omega) only [go_sem,jF,jG,↓reduceIte,h3]
  have hlen:(lE (B.op.take k)).length≤16:=by rw [aN,List.length_take]; omega
  refine bH (b:=80) (hR.move (by simp only; omega) fun i hi _=>by
   simp only at hi ⊢
   rw [aa _ _ _ _ (by omega),aa _ _ _ _ (by omega)]) (by omega) (by omega) fun X2 τ2 hR2 hK2=>?_
  have hn2:=hK2.1
  have r0:=hK2.2.1 0 (by simp only; omega) o0
  have r1:=hK2.2.1 1 (by simp only; omega) o1
  have p0:=hK2.2.2 0 (by simp only; omega) o0
  have p1:=hK2.2.2 1 (by simp only; omega) o1
  simp only at r0 r1 hn2
  try simp (disch:=omega) only [go_sem,↓reduceIte,z0,u0] at r0
  try simp (disch:=omega) only [go_sem,↓reduceIte,z1,u1] at r1
  try simp (disch:=omega) only [go_sem,jF,↓reduceIte,jO]
  refine aG τ2.n hkl (by omega) ⟨(by first | rfl | (simp (disch:=omega) only [go_sem,jA,jB,jC,jD,jE,jF,jG,jH,jI,jJ,↓reduceIte,reduceCtorEq,jP,jO,jM,jN]; try rfl)),?_,?_,?_,?_,?_⟩
  ·simp only [St.aD]; rw [if_pos (by omega)]; exact r0
  ·simp only [St.aD]; rw [if_pos (by omega)]; exact r1
  ·try simp (disch:=omega) only [go_sem,jF,↓reduceIte]
   rw [htk,show lE (B.op.take k++[a])=lE (B.op.take k)++[.agg [.int .i64 a.fr,.list 2 (cr a.st),.list 2 (cr a.ins),.list 2 (cr a.outs)]] by simp [lE,gG]]
   exact hR2.move (Nat.le_refl _) fun i hi _=>by simp [St.aD,hi]
  ·try simp (disch:=omega) only [go_sem,jF,↓reduceIte]
   exact p0
  ·try simp (disch:=omega) only [go_sem,jF,↓reduceIte]
   exact p1
 ·try simp (disch:=omega) only [go_sem,jF,jG,jH,↓reduceIte,h3,u0]
  obtain rfl:B.op.length=k:=by omega
  rw [List.take_length] at hR
  refine cV (b:=48) (σ:=⟨ob,m,c⟩) (L:=[]) cu.nil (by simp only [List.length_nil,aE]; omega) (by simp only [List.length_nil,aE]; omega) fun Y τ hY hKY=>?_
  rw [List.nil_append] at hY
  have hnY:=hKY.1
  have r1:=hKY.2.1 1 (by simp only; omega) (aY.nil _)
  have hR':=hR.move hKY.1 fun i hi _=>hKY.2.1 i hi (aY.nil _)
  have hY1:=hKY.2.2 1 (by simp only; omega) (aY.nil _)
  simp only at r1 hnY
  rw [u1] at r1
  try simp (disch:=omega) only [go_sem,jF,jG,jH,↓reduceIte,hR'.one,hR'.flat,hR'.cells,hY.one,hY.flat,hY.cells,r1,St.put]
  refine aw.ag (.cons (hR'.mU (fun i hi hno=>?_) (zg _) (Ex _)) (.cons (hY.mU (fun i hi hno=>?_) (tU _) (zC _)) .nil))
  ·have:¬i=1:=fun e=>hno (e ▸ o1)
   simp only
   rw [aa _ _ _ _ this]
  ·have:¬i=1:=fun e=>hno (e ▸ hY1)
   simp only
   rw [aa _ _ _ _ this]
theorem Oz (a b:Rp) (h:a.nu=b.nu):(!(decide (a.ac=b.ac)&&(decide (a.fd=b.fd)&&(decide (a.tm=b.tm)&&(decide (a.b.lo=b.b.lo)&&decide (a.b.hi=b.b.hi))))))=decide (a≠b):=by
 obtain ⟨_,_,_,_,⟨_,_⟩⟩:=a
 obtain ⟨_,_,_,_,⟨_,_⟩⟩:=b
 simp only at h
 subst h
 rw [Bool.eq_iff_iff]
 simp
theorem rQ (B:Bk) (h:lT B) (r:Rp) (hr:Ey B.op r):PC prog uz [jv B,ek r] (.tuple [jv (gO B r).1,.int .i64 (gO B r).2]):=by
 have hm:=h.m
 have hC:=kC B h
 have hR:=rP B.op r h.ao hr
 have hP:=rR B h
 have hasc:=h.Kk
 have hbs:∀ k,k≤B.rp.length→(∀ j,j<k→(gR B.rp j).nu<r.nu)→(k<B.rp.length→¬(gR B.rp k).nu<r.nu)→da (ic B.rp) r.nu=k:=fun k hk h1 h2=>
  AQ _ _ k (by simpa using hk) (fun j hj y hy=>by
   obtain ⟨q,hq,rfl⟩:=et.1 hy
   have:=h1 j hj
   rw [ea (by omega)] at hq
   obtain rfl:=Option.some.inj hq
   omega) (fun j hj y hy=>by
   obtain ⟨q,hq,rfl⟩:=et.1 hy
   have hjl:=(List.getElem?_eq_some_iff.1 hq).1
   have h3:=h2 (by omega)
   rcases Nat.eq_or_lt_of_le hj with rfl | h4
   ·rw [ea (by omega)] at hq
    obtain rfl:=Option.some.inj hq
    omega
   ·have:=vV hasc h4 (ea (by omega)) hq
    omega)
 have hfs:gO B r=if (ic B.rp)[da (ic B.rp) r.nu]?=some r.nu then (if gR B.rp (da (ic B.rp) r.nu)=r then (B,0) else (EE,46))
  else if B.rp.length=4096 then (EE,10) else (⟨B.op,B.rp.take (da (ic B.rp) r.nu)++r :: B.rp.drop (da (ic B.rp) r.nu)⟩,0):=rfl
 generalize gO B r=FS at *
 simp only [jv,ek] at hC hR hP
 refine ae vC (by simp) ?_
 simp only [oH,go_sem,jF,jG,jH,↓reduceIte,reduceCtorEq,jv,ek]
 refine ab hC (by simp [go_sem]) ?_
 try simp (disch:=omega) only [go_sem,jF,jH,↓reduceIte,reduceCtorEq]
 refine ab hR (by simp [go_sem]) ?_
 try simp (disch:=omega) only [go_sem,jF,jH,↓reduceIte,reduceCtorEq]
 refine ab hP (by simp [go_sem]) ?_
 try simp (disch:=omega) only [go_sem,jF,jG,jH,↓reduceIte]
 refine aW [8,24,25,26,27,28,29,30,31,32,33,34,35,36,37,38,39,40,41] (by kernel_rfl) B.rp.length (fun k e σ=>e 8=.int .i64 k∧σ.ob 0=some ⟨0,2,40,false,true,[.agg [.list 4 (lE B.op),.list 6 (iG B.rp)]]⟩∧σ.ob 1=some ⟨1,6,26,false,true,[ek r]⟩∧
   σ.ob 2=some ⟨2,2,40,false,true,[.agg [.nil,.nil]]⟩∧σ.ob 3=some ⟨3,2,40,false,true,[.agg [.list 4 (lE B.op),.list 6 (iG B.rp)]]⟩∧∀ j,j<k→(gR B.rp j).nu<r.nu) ?_ ?_
 ·exact ⟨(by first | rfl | (simp (disch:=omega) only [go_sem,jA,jB,jC,jD,jE,jF,jG,jH,jI,jJ,↓reduceIte,reduceCtorEq,jP,jO,jM,jN]; try rfl)),by try simp (disch:=omega) only [go_sem,↓reduceIte,reduceCtorEq],by try simp (disch:=omega) only [go_sem,jF,↓reduceIte,ek],by try simp (disch:=omega) only [go_sem,jF,↓reduceIte],by try simp (disch:=omega) only [go_sem,↓reduceIte],fun j hj=>by omega⟩
 rintro k fe ob m cc hk hm2 ⟨h8,u0,u1,u2,u3,hj⟩
 simp (maxSteps:=1000000) only [go_sem,↓reduceIte,ek] at h8 u0 u1 u2 u3 hm2
 try simp (disch:=omega) only [go_sem,jF,jG,jH,↓reduceIte,h8,u0,aE]
 by_cases hkl:k<B.rp.length
 ·have q1:(k:Int)<(B.rp.length:Int):=by omega
  have e1:=ea hkl
  by_cases hle:(gR B.rp k).nu<r.nu
  ·try simp (disch:=omega) only [go_sem,jF,jG,jH,↓reduceIte,jO,u0,u1,q1,decide_true,aE,dL,e1,Option.map_some,ek,hle]
   refine ⟨by omega,?_⟩
   refine aG m hkl (by omega) ⟨(by first | rfl | (simp (disch:=omega) only [go_sem,jA,jB,jC,jD,jE,jF,jG,jH,jI,jJ,↓reduceIte,reduceCtorEq,jP,jO,jM,jN]; try rfl)),?_,?_,?_,?_,fun j hj2=>?_⟩
   ·try simp (disch:=omega) only [go_sem,jN,St.aD,u0]
   ·try simp (disch:=omega) only [go_sem,jN,St.aD,u1]
   ·try simp (disch:=omega) only [go_sem,jN,St.aD,u2]
   ·try simp (disch:=omega) only [go_sem,jN,St.aD,u3]
   ·rcases (by omega:j<k∨j=k) with h9 | rfl
    ·exact hj j h9
    ·exact hle
  ·have hb:=hbs k (by omega) hj (fun _=>hle)
   rw [hb] at hfs
   by_cases hq:(gR B.rp k).nu=r.nu
   ·rw [if_pos (et.2 ⟨_,e1,hq⟩)] at hfs
    have hqd:decide ((gR B.rp k).nu=r.nu)=true:=decide_eq_true hq
    try simp (disch:=omega) only [go_sem,jF,jG,jH,↓reduceIte,u0,u1,q1,decide_true,aE,dL,e1,Option.map_some,ek,hle,hqd,decide_false]
    refine ⟨by omega,by omega,by omega,?_⟩
    rw [Oz _ _ hq]
    refine ah (fun hne=>?_) (fun heq=>?_)
    ·rw [if_neg hne] at hfs
     try simp (disch:=omega) only [go_sem,jF,jG,jH,↓reduceIte,u2]
     rw [hfs]
     exact aw.tu (.cons (aw.ag (.cons (.nl 4) (.cons (.nl 6) .nil))) (.cons (.pure rfl) .nil))
    ·rw [if_pos (Classical.not_not.1 heq)] at hfs
     try simp (disch:=omega) only [go_sem,jF,jG,jH,↓reduceIte,u2,u3]
     rw [hfs]
     exact aw.tu (.cons (.pure (vw B)) (.cons (.pure rfl) .nil))
   ·rw [if_neg (fun h9=>by obtain ⟨q,h10,h11⟩:=et.1 h9; rw [e1] at h10; obtain rfl:=Option.some.inj h10; exact hq h11)] at hfs
    try simp (disch:=omega) only [go_sem,jF,jG,jH,↓reduceIte,u0,u1,q1,decide_true,aE,dL,e1,Option.map_some,ek,hle,hq,decide_false]
    refine ⟨by omega,by omega,?_⟩
    refine ah (fun hfull=>?_) (fun hroom=>?_)
    ·rw [if_pos (by omega)] at hfs
     try simp (disch:=omega) only [go_sem,jF,jG,jH,↓reduceIte,u2]
     rw [hfs]
     exact aw.tu (.cons (aw.ag (.cons (.nl 4) (.cons (.nl 6) .nil))) (.cons (.pure rfl) .nil))
    ·rw [if_neg (by omega)] at hfs
     try simp (disch:=omega) only [go_sem,jF,jG,jH,↓reduceIte,u0,u1,aE]
     refine ⟨by omega,by omega,by omega,by omega,?_⟩
     refine cV (b:=48) (σ:=⟨ob,m,cc⟩) (L:=[]) cu.nil (by simp only [List.length_nil,List.length_take,aE]; omega) (by simp only [List.length_nil,List.length_take,aE]; omega) fun Y1 τ1 hY1 hK1=>?_
     rw [List.nil_append] at hY1
     have hn1:=hK1.1
     have f1:∀ j,j<4→τ1.ob j=ob j:=fun j hj=>hK1.2.1 j (by simp only; omega) (aY.nil _)
     have o1:∀ j,j<4→aY Y1 j:=fun j hj=>hK1.2.2 j (by simp only; omega) (aY.nil _)
     simp only at hn1
     try simp (disch:=omega) only [go_sem,jF,↓reduceIte,reduceCtorEq]
     refine ⟨⟨f1 0 (by omega),f1 1 (by omega)⟩,?_⟩
     have hl1:(List.take k (iG B.rp)).length≤4096:=by rw [List.length_take,aE]; omega
     refine bH (b:=48) hY1 (by omega) (by omega) fun Y2 τ2 hY2 hK2=>?_
     have hn2:=hK2.1
     have f2:∀ j,j<4→τ2.ob j=ob j:=fun j hj=>(hK2.2.1 j (by omega) (o1 j hj)).trans (f1 j hj)
     have o2:∀ j,j<4→aY Y2 j:=fun j hj=>hK2.2.2 j (by omega) (o1 j hj)
     try simp (disch:=omega) only [go_sem,jF,↓reduceIte,reduceCtorEq]
     refine ⟨hK2.2.1 0 (by omega) (o1 0 (by omega)),?_⟩
     refine cV (b:=48) hY2 (by simp only [List.length_append,List.length_take,List.length_drop,aE,List.length_cons,List.length_nil]; omega) (by simp only [List.length_append,List.length_take,List.length_drop,aE,List.length_cons,List.length_nil]; omega) fun Y3 τ3 hY3 hK3=>?_
     have hn3:=hK3.1
     have f3:∀ j,j<4→τ3.ob j=ob j:=fun j hj=>(hK3.2.1 j (by omega) (o2 j hj)).trans (f2 j hj)
     have o3:∀ j,j<4→aY Y3 j:=fun j hj=>hK3.2.2 j (by omega) (o2 j hj)
     have g2:=f3 2 (by omega)
     have g3:=f3 3 (by omega)
     rw [u2] at g2
     rw [u3] at g3
     try simp (disch:=omega) only [go_sem,jF,jG,jH,↓reduceIte,reduceCtorEq,hY3.one,hY3.flat,hY3.cells,g2,g3,St.put]
     rw [hfs]
     rw [show List.take k (iG B.rp)++[.agg [.int .i64 r.nu,.int .i64 r.ac,.int .i64 r.fd,.int .i64 r.tm,.int .i64 r.b.lo,.int .i64 r.b.hi]]++List.drop k (iG B.rp)=iG (B.rp.take k++r :: B.rp.drop k) by simp [iG,ek]] at hY3
     refine aw.tu (.cons (aw.ag (.cons (.pure (by simp [go_sem])) (.cons (hY3.mU (fun i hi hno=>?_) (tU _) (zC _)) .nil))) (.cons (.pure rfl) .nil))
     have z2:¬i=2:=fun e=>hno (e ▸ o3 2 (by omega))
     have z3:¬i=3:=fun e=>hno (e ▸ o3 3 (by omega))
     simp [bd,z2,z3]
 ·have q1:¬(k:Int)<(B.rp.length:Int):=by omega
  have hb:=hbs k (by omega) hj (fun h=>absurd h hkl)
  rw [hb,if_neg (fun h9=>by have:=(List.getElem?_eq_some_iff.1 h9).1; rw [List.length_map] at this; exact hkl this)] at hfs
  try simp (disch:=omega) only [go_sem,jF,jG,jH,↓reduceIte,u0,q1,decide_false,aE]
  refine ah (fun hfull=>?_) (fun hroom=>?_)
  ·rw [if_pos (by omega)] at hfs
   try simp (disch:=omega) only [go_sem,jF,jG,jH,↓reduceIte,u2]
   rw [hfs]
   exact aw.tu (.cons (aw.ag (.cons (.nl 4) (.cons (.nl 6) .nil))) (.cons (.pure rfl) .nil))
  ·rw [if_neg (by omega)] at hfs
   try simp (disch:=omega) only [go_sem,jF,jG,jH,↓reduceIte,u0,u1,aE]
   refine ⟨by omega,by omega,by omega,by omega,?_⟩
   refine cV (b:=48) (σ:=⟨ob,m,cc⟩) (L:=[]) cu.nil (by simp only [List.length_nil,List.length_take,aE]; omega) (by simp only [List.length_nil,List.length_take,aE]; omega) fun Y1 τ1 hY1 hK1=>?_
   rw [List.nil_append] at hY1
   have hn1:=hK1.1
   have f1:∀ j,j<4→τ1.ob j=ob j:=fun j hj=>hK1.2.1 j (by simp only; omega) (aY.nil _)
   have o1:∀ j,j<4→aY Y1 j:=fun j hj=>hK1.2.2 j (by simp only; omega) (aY.nil _)
   simp only at hn1
   try simp (disch:=omega) only [go_sem,jF,↓reduceIte,reduceCtorEq]
   refine ⟨⟨f1 0 (by omega),f1 1 (by omega)⟩,?_⟩
   have hl1:(List.take k (iG B.rp)).length≤4096:=by rw [List.length_take,aE]; omega
   refine bH (b:=48) hY1 (by omega) (by omega) fun Y2 τ2 hY2 hK2=>?_
   have hn2:=hK2.1
   have f2:∀ j,j<4→τ2.ob j=ob j:=fun j hj=>(hK2.2.1 j (by omega) (o1 j hj)).trans (f1 j hj)
   have o2:∀ j,j<4→aY Y2 j:=fun j hj=>hK2.2.2 j (by omega) (o1 j hj)
   try simp (disch:=omega) only [go_sem,jF,↓reduceIte,reduceCtorEq]
   refine ⟨hK2.2.1 0 (by omega) (o1 0 (by omega)),?_⟩
   refine cV (b:=48) hY2 (by simp only [List.length_append,List.length_take,List.length_drop,aE,List.length_cons,List.length_nil]; omega) (by simp only [List.length_append,List.length_take,List.length_drop,aE,List.length_cons,List.length_nil]; omega) fun Y3 τ3 hY3 hK3=>?_
   have hn3:=hK3.1
   have f3:∀ j,j<4→τ3.ob j=ob j:=fun j hj=>(hK3.2.1 j (by omega) (o2 j hj)).trans (f2 j hj)
   have o3:∀ j,j<4→aY Y3 j:=fun j hj=>hK3.2.2 j (by omega) (o2 j hj)
   have g2:=f3 2 (by omega)
   have g3:=f3 3 (by omega)
   rw [u2] at g2
   rw [u3] at g3
   try simp (disch:=omega) only [go_sem,jF,jG,jH,↓reduceIte,reduceCtorEq,hY3.one,hY3.flat,hY3.cells,g2,g3,St.put]
   rw [hfs]
   rw [show List.take k (iG B.rp)++[.agg [.int .i64 r.nu,.int .i64 r.ac,.int .i64 r.fd,.int .i64 r.tm,.int .i64 r.b.lo,.int .i64 r.b.hi]]++List.drop k (iG B.rp)=iG (B.rp.take k++r :: B.rp.drop k) by simp [iG,ek]] at hY3
   refine aw.tu (.cons (aw.ag (.cons (.pure (by simp [go_sem])) (.cons (hY3.mU (fun i hi hno=>?_) (tU _) (zC _)) .nil))) (.cons (.pure rfl) .nil))
   have z2:¬i=2:=fun e=>hno (e ▸ o3 2 (by omega))
   have z3:¬i=3:=fun e=>hno (e ▸ o3 3 (by omega))
   simp [bd,z2,z3]
theorem oW (σ:St) (id g:Nat) (t:List Int) (at':Nat) (a:Ac) (tr:Tr) (hT:TU a tr) (ac nu:Int) (hl:t.length≤9223372036854775807) (hid:id<σ.n) (hob:σ.ob id=some ⟨g,2,aA,false,true,[bA t at']⟩) :
  HC prog rX [.ptr id g 2 0 0,gG a,Lg tr,.int .i64 ac,.int .i64 nu] σ (ej σ id g t fun r=>∃ q:Rp,r=ek q∧q.nu=nu∧q.ac=ac∧TV a q∧P1 a q tr∧q.b.hi≤1000):=by
 obtain ⟨hH,hS,hI,hO,hok,bS,bI,bO⟩:=hT
 have n1:=hok.n1
 have n2:=hok.n2
 have f0:=hok.f0
 have f1:=hok.f1
 have hls:=hok.ns
 have hlo:=hok.no
 refine HC.wU hid ?_
 obtain ⟨dH,n0,c0⟩:=σ
 simp only at hob hid
 refine aL Cb (by simp) ?_
 simp only [sK,go_sem,jF,jG,↓reduceIte,reduceCtorEq,gG,Lg]
 have h0:¬id=n0:=by omega
 have h1:¬id=n0+1:=by omega
 have h2:¬id=n0+1+1:=by omega
 have h3:¬id=n0+1+1+1:=by omega
 have i0:¬n0=id:=by omega
 have i1:¬n0+1=id:=by omega
 have i2:¬n0+1+1=id:=by omega
 have i3:¬n0+1+1+1=id:=by omega
 refine aM (ai _ id g aA true t at' 3 (by try simp (disch:=omega) only [go_sem,↓reduceIte,h0,h1,h2]; exact hob) (by omega) hl) ?_
 have hx1:=aI t at' 3
 generalize bf t at' 3=dr at *
 obtain ⟨x1,at1⟩:=dr
 simp only at hx1
 have hx:x1=0∨x1=1∨x1=2:=by omega
 rcases hx with rfl | rfl | rfl
 ·try simp (disch:=omega) only [go_sem,jB,jC,jF,jG,jH,↓reduceIte,reduceCtorEq,jO,jM,i1,au,hS,Int.reduceAdd,Int.reduceSub]
  refine aM (ai _ id g aA true t at1 _ (by try simp (disch:=omega) only [go_sem,↓reduceIte,h3]) (by omega) hl) ?_
  have hx2:=aI t at1 ((a.ins.length+1:Nat):Int)
  generalize bf t at1 ((a.ins.length+1:Nat):Int)=dr at *
  obtain ⟨x2,at2⟩:=dr
  simp only at hx2
  obtain ⟨Y,hY⟩:∃ Y:Nat,(Y:Int)=x2∧Y<a.ins.length+1:=⟨x2.toNat,by omega,by omega⟩
  obtain ⟨rfl,hY⟩:=hY
  have e1:=nD (L:=tr.S) (i:=Y) (by omega)
  have hv:0≤tr.S.getD Y 0∧tr.S.getD Y 0≤900:=by
   exact bS Y (by omega)
  have hRpT:∀ b:Bd,Cg (tr.S.getD Y 0) b→ir b (Gt 1 (fun i=>tr.S.getD i 0) (fun i=>tr.I.getD i 0) (fun i=>tr.O.getD i 0) Y):=fun b hb=>by
   simp only [Gt,if_true,if_false,Nat.reduceEqDiff]
   exact ⟨hb.2.1,hb.2.2.1⟩
  generalize tr.S.getD Y 0=v at *
  try simp (disch:=omega) only [go_sem,jF,jH,↓reduceIte,reduceCtorEq,jO,jM,i0,au,hS,bD,e1,Option.map_some]
  refine ⟨by omega,by omega,?_⟩
  refine (fU _ id g t at2 v hl (by simp only; omega) (by try simp (disch:=omega) only [go_sem,↓reduceIte]) hv.1 (by omega)).mono ?_
  intro r τ hDR
  obtain ⟨⟨b,rfl,hb⟩,hn4,⟨at4,hd4⟩,hf4⟩:=hDR.use (by simp only; omega)
  obtain ⟨ob4,m4,c4⟩:=τ
  simp only at hn4 hd4 hf4
  subst hn4
  have g2:=hf4 (n0+1+1) (by omega) i2
  have g3:=hf4 (n0+1+1+1) (by omega) i3
  try simp (disch:=omega) only [go_sem,jF,↓reduceIte,jM,i2,i3] at g2 g3
  try simp (disch:=omega) only [go_sem,jF,jG,jH,↓reduceIte,reduceCtorEq,jM,pz,g2,g3,i0]
  have g0:=hf4 n0 (by omega) i0
  try simp (disch:=omega) only [go_sem,↓reduceIte,jM,i0] at g0
  refine ⟨g0,.agg [.int .i64 nu,.int .i64 ac,.int .i64 1,.int .i64 (a.fr+(Y:Int)),.int .i64 b.lo,.int .i64 b.hi],at4,.pure rfl,⟨⟨nu,ac,1,a.fr+(Y:Int),b⟩,rfl,rfl,rfl,⟨by simp,by simp only; omega,?_,?_⟩,?_,?_⟩,?_,fun j hj hne=>?_⟩
  ·simp [Ic]; omega
  ·have:=hb; simp only [Cg] at this; simp only [fG,F7]; omega
  ·simp only [P1,SU]
   rw [show (a.fr+(Y:Int)-a.fr).toNat=Y by omega]
   exact hRpT b hb
  ·have:=hb; simp only [Cg] at this; simp only; omega
  ·try simp (disch:=omega) only [go_sem,↓reduceIte,h2,h3]
   exact hd4
  ·simp only at hj
   simp only
   rw [aa _ _ _ _ (by omega),aa _ _ _ _ (by omega),aa _ _ _ _ (by omega),hf4 j (by omega) hne]
   have k0:¬j=n0:=by omega
   have k1:¬j=n0+1:=by omega
   have k2:¬j=n0+1+1:=by omega
   have k3:¬j=n0+1+1+1:=by omega
   simp only [bd,k0,k1,k2,k3,hne,if_false]
 ·try simp (disch:=omega) only [go_sem,jB,jC,jF,jG,jH,↓reduceIte,reduceCtorEq,jO,jM,i1,au,hI,Int.reduceAdd,Int.reduceSub]
  refine aM (ai _ id g aA true t at1 _ (by try simp (disch:=omega) only [go_sem,↓reduceIte,h3]) (by omega) hl) ?_
  have hx2:=aI t at1 ((a.ins.length:Nat):Int)
  generalize bf t at1 ((a.ins.length:Nat):Int)=dr at *
  obtain ⟨x2,at2⟩:=dr
  simp only at hx2
  obtain ⟨Y,hY⟩:∃ Y:Nat,(Y:Int)=x2∧Y<a.ins.length:=⟨x2.toNat,by omega,by omega⟩
  obtain ⟨rfl,hY⟩:=hY
  have e1:=nD (L:=tr.I) (i:=Y) (by omega)
  have hv:0≤tr.I.getD Y 0∧tr.I.getD Y 0≤900:=by
   exact bI Y (by omega)
  have hRpT:∀ b:Bd,Cg (tr.I.getD Y 0) b→ir b (Gt 2 (fun i=>tr.S.getD i 0) (fun i=>tr.I.getD i 0) (fun i=>tr.O.getD i 0) Y):=fun b hb=>by
   simp only [Gt,if_true,if_false,Nat.reduceEqDiff]
   exact ⟨hb.2.1,hb.2.2.1⟩
  generalize tr.I.getD Y 0=v at *
  try simp (disch:=omega) only [go_sem,jF,jH,↓reduceIte,reduceCtorEq,jO,jM,i0,au,hI,bD,e1,Option.map_some]
  refine ⟨by omega,by omega,?_⟩
  refine (fU _ id g t at2 v hl (by simp only; omega) (by try simp (disch:=omega) only [go_sem,↓reduceIte]) hv.1 (by omega)).mono ?_
  intro r τ hDR
  obtain ⟨⟨b,rfl,hb⟩,hn4,⟨at4,hd4⟩,hf4⟩:=hDR.use (by simp only; omega)
  obtain ⟨ob4,m4,c4⟩:=τ
  simp only at hn4 hd4 hf4
  subst hn4
  have g2:=hf4 (n0+1+1) (by omega) i2
  have g3:=hf4 (n0+1+1+1) (by omega) i3
  try simp (disch:=omega) only [go_sem,jF,↓reduceIte,jM,i2,i3] at g2 g3
  try simp (disch:=omega) only [go_sem,jF,jG,jH,↓reduceIte,reduceCtorEq,jM,pz,g2,g3,i0]
  have g0:=hf4 n0 (by omega) i0
  try simp (disch:=omega) only [go_sem,↓reduceIte,jM,i0] at g0
  refine ⟨g0,.agg [.int .i64 nu,.int .i64 ac,.int .i64 2,.int .i64 (a.fr+(Y:Int)),.int .i64 b.lo,.int .i64 b.hi],at4,.pure rfl,⟨⟨nu,ac,2,a.fr+(Y:Int),b⟩,rfl,rfl,rfl,⟨by simp,by simp only; omega,?_,?_⟩,?_,?_⟩,?_,fun j hj hne=>?_⟩
  ·simp [Ic]; omega
  ·have:=hb; simp only [Cg] at this; simp only [fG,F7]; omega
  ·simp only [P1,SU]
   rw [show (a.fr+(Y:Int)-a.fr).toNat=Y by omega]
   exact hRpT b hb
  ·have:=hb; simp only [Cg] at this; simp only; omega
  ·try simp (disch:=omega) only [go_sem,↓reduceIte,h2,h3]
   exact hd4
  ·simp only at hj
   simp only
   rw [aa _ _ _ _ (by omega),aa _ _ _ _ (by omega),aa _ _ _ _ (by omega),hf4 j (by omega) hne]
   have k0:¬j=n0:=by omega
   have k1:¬j=n0+1:=by omega
   have k2:¬j=n0+1+1:=by omega
   have k3:¬j=n0+1+1+1:=by omega
   simp only [bd,k0,k1,k2,k3,hne,if_false]
 ·try simp (disch:=omega) only [go_sem,jB,jC,jD,jF,jG,jH,↓reduceIte,reduceCtorEq,jO,jM,i1,au,hO,Int.reduceAdd,Int.reduceSub]
  refine aM (ai _ id g aA true t at1 _ (by try simp (disch:=omega) only [go_sem,↓reduceIte,h3]) (by omega) hl) ?_
  have hx2:=aI t at1 ((a.ins.length:Nat):Int)
  generalize bf t at1 ((a.ins.length:Nat):Int)=dr at *
  obtain ⟨x2,at2⟩:=dr
  simp only at hx2
  obtain ⟨Y,hY⟩:∃ Y:Nat,(Y:Int)=x2∧Y<a.ins.length:=⟨x2.toNat,by omega,by omega⟩
  obtain ⟨rfl,hY⟩:=hY
  have e1:=nD (L:=tr.O) (i:=Y) (by omega)
  have hv:0≤tr.O.getD Y 0∧tr.O.getD Y 0≤900:=by
   exact bO Y (by omega)
  have hRpT:∀ b:Bd,Cg (tr.O.getD Y 0) b→ir b (Gt 3 (fun i=>tr.S.getD i 0) (fun i=>tr.I.getD i 0) (fun i=>tr.O.getD i 0) Y):=fun b hb=>by
   simp only [Gt,if_false,Nat.reduceEqDiff]
   exact ⟨hb.2.1,hb.2.2.1⟩
  generalize tr.O.getD Y 0=v at *
  try simp (disch:=omega) only [go_sem,jF,jH,↓reduceIte,reduceCtorEq,jO,jM,i0,au,hO,bD,e1,Option.map_some]
  refine ⟨by omega,by omega,?_⟩
  refine (fU _ id g t at2 v hl (by simp only; omega) (by try simp (disch:=omega) only [go_sem,↓reduceIte]) hv.1 (by omega)).mono ?_
  intro r τ hDR
  obtain ⟨⟨b,rfl,hb⟩,hn4,⟨at4,hd4⟩,hf4⟩:=hDR.use (by simp only; omega)
  obtain ⟨ob4,m4,c4⟩:=τ
  simp only at hn4 hd4 hf4
  subst hn4
  have g2:=hf4 (n0+1+1) (by omega) i2
  have g3:=hf4 (n0+1+1+1) (by omega) i3
  try simp (disch:=omega) only [go_sem,jF,↓reduceIte,jM,i2,i3] at g2 g3
  try simp (disch:=omega) only [go_sem,jF,jG,jH,↓reduceIte,reduceCtorEq,jM,pz,g2,g3,i0]
  have g0:=hf4 n0 (by omega) i0
  try simp (disch:=omega) only [go_sem,↓reduceIte,jM,i0] at g0
  refine ⟨g0,.agg [.int .i64 nu,.int .i64 ac,.int .i64 3,.int .i64 (a.fr+(Y:Int)),.int .i64 b.lo,.int .i64 b.hi],at4,.pure rfl,⟨⟨nu,ac,3,a.fr+(Y:Int),b⟩,rfl,rfl,rfl,⟨by simp,by simp only; omega,?_,?_⟩,?_,?_⟩,?_,fun j hj hne=>?_⟩
  ·simp [Ic]; omega
  ·have:=hb; simp only [Cg] at this; simp only [fG,F7]; omega
  ·simp only [P1,SU]
   rw [show (a.fr+(Y:Int)-a.fr).toNat=Y by omega]
   exact hRpT b hb
  ·have:=hb; simp only [Cg] at this; simp only; omega
  ·try simp (disch:=omega) only [go_sem,↓reduceIte,h2,h3]
   exact hd4
  ·simp only at hj
   simp only
   rw [aa _ _ _ _ (by omega),aa _ _ _ _ (by omega),aa _ _ _ _ (by omega),hf4 j (by omega) hne]
   have k0:¬j=n0:=by omega
   have k1:¬j=n0+1:=by omega
   have k2:¬j=n0+1+1:=by omega
   have k3:¬j=n0+1+1+1:=by omega
   simp only [bd,k0,k1,k2,k3,hne,if_false]
theorem Ar (σ:St) (id g:Nat) (t:List Int) (at':Nat) (a:Ac) (tr:Tr) (hT:Mm a tr) (ac nu:Int) (hl:t.length≤9223372036854775807) (hid:id<σ.n) (hob:σ.ob id=some ⟨g,2,aA,false,true,[bA t at']⟩) :
  HC prog rX [.ptr id g 2 0 0,gG a,Lg tr,.int .i64 ac,.int .i64 nu] σ (ej σ id g t fun r=>∃ q:Rp,r=ek q∧q.nu=nu∧q.ac=ac∧TV a q∧P1 a q tr∧q.b.hi≤1000):=
 oW σ id g t at' a tr hT.g ac nu hl hid hob
theorem OW {l:List Ac} {a:Ac} {i:Nat} (h:i<l.length):gA (l++[a]) i=gA l i:=by simp [gA,List.getElem?_append_left h]
theorem OV {l:List Ac} {a:Ac} {i:Nat} (h:i=l.length):gA (l++[a]) i=a:=by subst h; simp [gA]
theorem OR {l:List Tr} {a:Tr} {i:Nat} (h:i<l.length):gT (l++[a]) i=gT l i:=by simp [gT,List.getD_eq_getElem?_getD,List.getElem?_append_left h]
theorem OQ {l:List Tr} {a:Tr} {i:Nat} (h:i=l.length):gT (l++[a]) i=a:=by subst h; simp [gT,List.getD_eq_getElem?_getD]
theorem J3 {P:Program} {σ:St} {f:Nat} {args args':List AV} {r:AV} {K:AV→St→Prop} (d:Nat) (o:aU) (ho:σ.ob d=some o) (h:PC P f args' r) (hp:Cl ⟨fun i=>if decide (i≠d) then none else σ.ob i,σ.n,σ.c⟩ args args') (ha:∀ a∈args',a.cL=true)
  (hK:∀ ob',(∀ j,j≠d→ob' j=σ.ob j)→ob' d=some { o with ro:=true }→K r ⟨ob',σ.n,σ.c⟩):HC P f args σ K:=
 HJ (fun i=>decide (i≠d)) h hp ha (hK _ (fun j hj=>by simp [hj]) (by simp [ho]))
theorem DS (σ:St) (id g:Nat) (t:List Int) (at':Nat) (hl:t.length≤9223372036854775807) (hid:id<σ.n) (hob:σ.ob id=some ⟨g,2,aA,false,true,[bA t at']⟩) :
  HC prog E9 [.ptr id g 2 0 0] σ (ej σ id g t fun r=>∃ B T,r=.tuple [jv B,.list 3 (F3 T)]∧Pa B T):=by
 refine HC.wU hid ?_
 obtain ⟨dH,n0,c0⟩:=σ
 simp only at hob hid
 refine aL FU (by simp) ?_
 simp only [xN,go_sem,↓reduceIte,reduceCtorEq]
 have h0:¬id=n0:=by omega
 have i0:¬n0=id:=by omega
 refine aM (ai _ id g aA true t at' 2 (by try simp (disch:=omega) only [go_sem,↓reduceIte,h0]; exact hob) (by omega) hl) ?_
 have hx2:=aI t at' 2
 generalize bf t at' 2=dr at *
 obtain ⟨x2,at2⟩:=dr
 simp only at hx2
 try simp (disch:=omega) only [go_sem,↓reduceIte]
 obtain ⟨K,hK⟩:∃ K:Nat,(K:Int)=x2∧K≤1:=⟨x2.toNat,by omega,by omega⟩
 obtain ⟨rfl,hK⟩:=hK
 refine aW [4,5,6,7,8,9,10,18,19,20,21,22,23,24,25,26,27,28,29,30,31,32,33,34,35,36,37,38,39] (by kernel_rfl) (K+1) (fun k e σ=>e 6=.int .i64 ((K:Int)-k)∧(∃ a,σ.ob id=some ⟨g,2,aA,false,true,[bA t a]⟩)∧(∀ i,i<n0→i≠id→σ.ob i=dH i)∧σ.ob n0=some ⟨c0,2,40,false,true,[.agg [.nil,.nil]]⟩∧
   ∃ op T,op.length=k∧T.length=k∧(∀ i,i<k→Mm (gA op i) (gT T i))∧cu 4 88 σ (lE op) (e 4)∧cu 3 93 σ (F3 T) (e 5)∧(∀ i,i<n0+1→aY (e 4) i)∧(∀ i,i<n0+1→aY (e 5) i)∧Dj (e 4) (e 5)) ?_ ?_
 ·refine ⟨(by first | rfl | (simp (disch:=omega) only [go_sem,jA,jB,jC,jD,jE,jF,jG,jH,jI,jJ,↓reduceIte,reduceCtorEq,jP,jO,jM,jN]; try rfl)),⟨at2,by try simp (disch:=omega) only [go_sem,↓reduceIte]⟩,fun i hi hne=>?_,?_,[],[],rfl,rfl,fun i hi=>by omega,?_,?_,?_,?_,?_⟩
  ·have:¬i=n0:=by omega
   try simp (disch:=omega) only [go_sem,↓reduceIte,hne,this]
  ·try simp (disch:=omega) only [go_sem,↓reduceIte,i0]
  ·try simp (disch:=omega) only [go_sem,jF,↓reduceIte]
   exact cu.nil
  ·try simp (disch:=omega) only [go_sem,jF,↓reduceIte]
   exact cu.nil
  ·try simp (disch:=omega) only [go_sem,jF,↓reduceIte]
   exact fun i _=>aY.nil i
  ·try simp (disch:=omega) only [go_sem,jF,↓reduceIte]
   exact fun i _=>aY.nil i
  ·try simp (disch:=omega) only [go_sem,jF,↓reduceIte]
   exact Dj.nil _
 rintro k fe ob m c hk hm ⟨h6,⟨at3,hd⟩,hfr,u0,op,T,hop,hT,hTr,r4,r5,o4,o5,d45⟩
 simp (maxSteps:=1000000) only [go_sem,jF,↓reduceIte] at h6 hd hfr u0 r4 r5 o4 o5 d45 hm
 obtain ⟨X4,h4⟩:∃ X,fe 4=X:=⟨_,rfl⟩
 obtain ⟨X5,h5⟩:∃ X,fe 5=X:=⟨_,rfl⟩
 rw [h4] at r4 o4 d45
 rw [h5] at r5 o5 d45
 try simp (disch:=omega) only [go_sem,jF,↓reduceIte,h6]
 refine ah (fun hge=>?_) (fun hlt=>?_)
 ·have hkl:k<K+1:=by omega
  try simp (disch:=omega) only [go_sem,↓reduceIte,reduceCtorEq]
  refine (uX _ id g t at3 hl (by simp only; omega) hd).mono ?_
  intro r τ hDR
  obtain ⟨⟨a,n,S,I,O,rfl,hA⟩,hn,⟨at4,hd4⟩,hf4⟩:=hDR.use (by simp only; omega)
  obtain ⟨ob4,m4,c4⟩:=τ
  simp only at hn hd4 hf4
  subst hn
  have hacs:lE (op++[a])=lE op++[.agg [.int .i64 a.fr,.list 2 (cr a.st),.list 2 (cr a.ins),.list 2 (cr a.outs)]]:=by simp [lE,gG]
  have htrs:F3 (T++[⟨S,I,O⟩])=F3 T++[.agg [.list 1 (ints S),.list 1 (ints I),.list 1 (ints O)]]:=by simp [F3,Lg]
  have hla:(lE op).length≤2:=by rw [aN]; omega
  have hlt2:(F3 T).length≤2:=by rw [oa]; omega
  try simp (disch:=omega) only [go_sem,jF,jG,jH,↓reduceIte,gG,h4,h5]
  have fS:∀ i,i<m4→i≠id→(bd (bd ob4 m4 (some ⟨c4,4,88,false,true,[.agg [.int .i64 0,.nil,.nil,.nil]]⟩)) m4 (some ⟨c4,4,88,false,true,[.agg [.int .i64 a.fr,.list 2 (cr a.st),.list 2 (cr a.ins),.list 2 (cr a.outs)]]⟩)) i=ob i:=fun i hi hne=>by
   rw [aa _ _ _ _ (by omega),aa _ _ _ _ (by omega)]; exact hf4 i hi hne
  have ni4:∀ {Y:AV} {i:Nat},(∀ j,j<n0+1→aY Y j)→¬aY Y i→i≠id:=fun ho hno e=>hno (e ▸ ho id (by omega))
  have r5S:=r5.move (τ:=⟨bd (bd ob4 m4 (some ⟨c4,4,88,false,true,[.agg [.int .i64 0,.nil,.nil,.nil]]⟩)) m4 (some ⟨c4,4,88,false,true,[.agg [.int .i64 a.fr,.list 2 (cr a.st),.list 2 (cr a.ins),.list 2 (cr a.outs)]]⟩),m4+1,c4+1⟩) (by simp only; omega) fun i hi hno=>fS i hi (ni4 o5 hno)
  refine bH (b:=80) (r4.move (by simp only; omega) fun i hi hno=>fS i hi (ni4 o4 hno)) (by omega) (by omega) fun Y4 τ4 hR4 hK4=>?_
  rw [←hacs] at hR4
  have hn4:=hK4.1
  have r5':=r5S.dj d45 hK4
  have d45':=d45.kp r5S hK4
  have p4:∀ i,i<n0+1→aY Y4 i:=fun i hi=>hK4.2.2 i (by simp only; omega) (o4 i hi)
  have q4:∀ i,i<n0+1→τ4.ob i=ob4 i:=fun i hi=>by
   rw [hK4.2.1 i (by simp only; omega) (o4 i hi)]
   simp only
   rw [aa _ _ _ _ (by omega),aa _ _ _ _ (by omega)]
  simp only at hn4
  try simp (disch:=omega) only [go_sem,jF,jG,jH,↓reduceIte]
  refine bH (b:=72) r5' (by omega) (by omega) fun Y5 τ5 hR5 hK5=>?_
  rw [←htrs] at hR5
  have hn5:=hK5.1
  have hR4':=hR4.dj d45'.symm hK5
  have d':=(d45'.symm.kp hR4 hK5).symm
  have p5:∀ i,i<n0+1→aY Y5 i:=fun i hi=>hK5.2.2 i (by omega) (o5 i hi)
  have q5:∀ i,i<n0+1→τ5.ob i=ob4 i:=fun i hi=>(hK5.2.1 i (by omega) (o5 i hi)).trans (q4 i hi)
  try simp (disch:=omega) only [go_sem,jF,↓reduceIte,jO]
  refine aG τ5.n hkl (by omega) ⟨by try simp (disch:=omega) only [go_sem,↓reduceIte]; congr 1; omega,⟨at4,?_⟩,fun i hi hne=>?_,?_,op++[a],T++[⟨S,I,O⟩],by simp [hop],by simp [hT],fun i hi=>?_,?_,?_,?_,?_,?_⟩
  ·simp only [St.aD]; rw [if_pos (by omega),q5 id (by omega)]; exact hd4
  ·simp only [St.aD]; rw [if_pos (by omega),q5 i (by omega),hf4 i (by omega) hne]; exact hfr i hi hne
  ·simp only [St.aD]; rw [if_pos (by omega),q5 n0 (by omega),hf4 n0 (by omega) i0]; exact u0
  ·rcases Nat.lt_or_ge i k with h9 | h9
   ·rw [OW (by omega),OR (by omega)]; exact hTr i h9
   ·rw [OV (by omega),OQ (by omega)]; exact ⟨n,hA⟩
  ·try simp (disch:=omega) only [go_sem,jF,↓reduceIte]
   exact hR4'.move (Nat.le_refl _) fun i hi _=>by simp [St.aD,hi]
  ·try simp (disch:=omega) only [go_sem,jF,↓reduceIte]
   exact hR5.move (Nat.le_refl _) fun i hi _=>by simp [St.aD,hi]
  ·try simp (disch:=omega) only [go_sem,jF,↓reduceIte]
   exact p4
  ·try simp (disch:=omega) only [go_sem,jF,↓reduceIte]
   exact p5
  ·try simp (disch:=omega) only [go_sem,jF,↓reduceIte]
   exact d'
 ·have hk1:1≤k∧k≤2:=by omega
  rcases r4 with ⟨-,hnil⟩ | ⟨a4,b4,rfl,ha4,w4⟩
  ·have:=aN op; rw [hnil] at this; simp at this; omega
  rcases r5 with ⟨-,hnil⟩ | ⟨a5,b5,rfl,ha5,w5⟩
  ·have:=oa T; rw [hnil] at this; simp at this; omega
  simp only at ha4 ha5 w4 w5
  have e4:=(o4 id (by omega)).ne
  have e5:=(o5 id (by omega)).ne
  have g4:=(o4 n0 (by omega)).ne
  have g5:=(o5 n0 (by omega)).ne
  have c45:¬a4=a5:=(d45 a5).elim (fun h=>h.ne) (fun h=>absurd rfl h.ne)
  have l4:n0<a4:=by
   rcases Nat.lt_or_ge n0 a4 with h | h
   ·exact h
   ·exact absurd rfl (o4 a4 (by omega)).ne
  have l5:n0<a5:=by
   rcases Nat.lt_or_ge n0 a5 with h | h
   ·exact h
   ·exact absurd rfl (o5 a5 (by omega)).ne
  clear d45 o4 o5
  rw [aN,hop] at h4
  rw [oa,hT] at h5
  have him:¬id=m:=by omega
  have hmi:¬m=id:=by omega
  try simp (disch:=omega) only [go_sem,jF,jG,jH,↓reduceIte,reduceCtorEq,h4,h5]
  refine aM (ai _ id g aA true t at3 9 (by try simp (disch:=omega) only [go_sem,↓reduceIte,him]; exact hd) (by omega) hl) ?_
  have hx3:=aI t at3 9
  generalize bf t at3 9=dr at *
  obtain ⟨x3,at5⟩:=dr
  simp only at hx3
  try simp (disch:=omega) only [go_sem,↓reduceIte]
  obtain ⟨K2,hK2⟩:∃ K2:Nat,(K2:Int)=x3∧K2≤8:=⟨x3.toNat,by omega,by omega⟩
  obtain ⟨rfl,hK2⟩:=hK2
  have jn:¬n0=m:=by omega
  have j4:¬a4=m:=by omega
  have j5:¬a5=m:=by omega
  have jm4:¬m=a4:=by omega
  have hao:∀ a∈op,ke a:=fun a hm2=>by
   obtain ⟨i,hi⟩:=List.getElem?_of_mem hm2
   have hil:=(List.getElem?_eq_some_iff.1 hi).1
   have:=(hTr i (by omega)).hi.2.2.2.2
   rw [iw hil] at hi
   obtain rfl:=Option.some.inj hi
   exact this
  have hB0:Pa ⟨op,[]⟩ T:=⟨⟨by simp only; omega,hao,by simp,by simp,fun r hr=>by simp at hr⟩,by simp only; omega,by simp only; omega,by simp only; omega,fun i hi=>hTr i (by simp only at hi; omega),fun r hr=>by simp at hr,fun r hr=>by simp at hr⟩
  refine aW [12,13,14,15,44,45,46,47,48,49,50,51,52,53,54,55,56,57,58,59,60,61,62,63,64,65,66,67,68,69,70,71,72,73] (by kernel_rfl) K2 (fun r e σ=>e 12=.int .i64 ((K2:Int)-r)∧(∃ a,σ.ob id=some ⟨g,2,aA,false,true,[bA t a]⟩)∧(∀ i,i<n0→i≠id→σ.ob i=dH i)∧σ.ob n0=some ⟨c0,2,40,false,true,[.agg [.nil,.nil]]⟩∧
   (∃ ro4,σ.ob a4=some ⟨b4,4,88,ro4,true,lE op⟩)∧σ.ob a5=some ⟨b5,3,93,false,true,F3 T⟩∧
   ∃ rp XO XR,σ.ob m=some ⟨c,2,40,false,true,[.agg [XO,XR]]⟩∧Pa ⟨op,rp⟩ T∧((XO=.sl a4 b4 4 0 k∧XR=.nil∧rp=[])∨(XO=.list 4 (lE op)∧XR=.list 6 (iG rp)))) ?_ ?_
  ·refine ⟨(by first | rfl | (simp (disch:=omega) only [go_sem,jA,jB,jC,jD,jE,jF,jG,jH,jI,jJ,↓reduceIte,reduceCtorEq,jP,jO,jM,jN]; try rfl)),⟨at5,by try simp (disch:=omega) only [go_sem,↓reduceIte]⟩,fun i hi hne=>?_,?_,⟨false,?_⟩,?_,[],.sl a4 b4 4 0 k,.nil,?_,hB0,.inl ⟨rfl,rfl,rfl⟩⟩
   ·have:¬i=m:=by omega
    try simp (disch:=omega) only [go_sem,↓reduceIte,hne,this]
    exact hfr i hi hne
   ·try simp (disch:=omega) only [go_sem,↓reduceIte,i0,jn]
    exact u0
   ·try simp (disch:=omega) only [go_sem,↓reduceIte,e4,j4]
    exact w4
   ·try simp (disch:=omega) only [go_sem,↓reduceIte,e5,j5]
    exact w5
   ·try simp (disch:=omega) only [go_sem,↓reduceIte,hmi]
  clear hd hfr u0 w4 w5 h6
  rintro r fe2 ob2 m2 c2 hr hm2 ⟨h12,⟨at6,hd⟩,hfr,u0,⟨ro4,w4⟩,w5,rp,XO,XR,um,hTB,hX⟩
  simp (maxSteps:=1000000) only [go_sem,↓reduceIte] at h12 hd hfr u0 w4 w5 um hm2
  have hXo:XO.flat=true∧XO.cells=[XO]∧XO.one=true∧XR.flat=true∧XR.cells=[XR]∧XR.one=true:=by
   rcases hX with ⟨rfl,rfl,_⟩ | ⟨rfl,rfl⟩ <;> exact ⟨rfl,rfl,rfl,rfl,rfl,rfl⟩
  obtain ⟨x1f,x1c,x1o,x2f,x2c,x2o⟩:=hXo
  try simp (disch:=omega) only [go_sem,↓reduceIte,h12]
  refine ah (fun hgt=>?_) (fun hle=>?_)
  ·have hrl:r<K2:=by omega
   try simp (disch:=omega) only [go_sem,jF,↓reduceIte,reduceCtorEq]
   refine aM (ai _ id g aA true t at6 _ hd (by omega) hl) ?_
   have hx7:=aI t at6 (k:Int)
   generalize bf t at6 (k:Int)=dr at *
   obtain ⟨x7,at7⟩:=dr
   simp only at hx7
   obtain ⟨i,hi⟩:∃ i:Nat,(i:Int)=x7∧i<k:=⟨x7.toNat,by omega,by omega⟩
   obtain ⟨rfl,hi⟩:=hi
   have eA:=iw (l:=op) (i:=i) (by omega)
   have eT:=OS (l:=T) (i:=i) (by omega)
   have hTi:=hTr i hi
   try simp (disch:=omega) only [go_sem,jF,jH,↓reduceIte,reduceCtorEq,e4,e5,hmi,w4,w5,um,fg,Li,eA,eT,Option.map_some,gG,Lg]
   refine ⟨by omega,by omega,by omega,by omega,?_⟩
   refine aM (ai _ id g aA true t at7 20 (by try simp (disch:=omega) only [go_sem,↓reduceIte]) (by omega) hl) ?_
   have hx8:=aI t at7 20
   generalize bf t at7 20=dr at *
   obtain ⟨x8,at8⟩:=dr
   simp only at hx8
   try simp (disch:=omega) only [go_sem,jF,↓reduceIte,reduceCtorEq,jO,e4,e5,hmi]
   refine (Ar _ id g t at8 (gA op i) (gT T i) hTi i (1+x8) hl (by simp only; omega) (by try simp (disch:=omega) only [go_sem,↓reduceIte])).mono ?_
   intro r' τ hDR
   obtain ⟨⟨q,rfl,q1,q2,q3,q4,q5⟩,hn9,⟨at9,hd9⟩,hf9⟩:=hDR.use (by simp only; omega)
   obtain ⟨ob9,m9,c9⟩:=τ
   simp only at hn9 hd9 hf9
   subst hn9
   have v4:=hf9 a4 (by omega) e4
   have v5:=hf9 a5 (by omega) e5
   have vm:=hf9 m (by omega) hmi
   have v0:=hf9 n0 (by omega) i0
   try simp (disch:=omega) only [go_sem,↓reduceIte,e4,w4] at v4
   try simp (disch:=omega) only [go_sem,↓reduceIte,e5,w5] at v5
   try simp (disch:=omega) only [go_sem,↓reduceIte,hmi,um] at vm
   try simp (disch:=omega) only [go_sem,↓reduceIte,i0,u0] at v0
   try simp (disch:=omega) only [go_sem,jF,↓reduceIte,reduceCtorEq,v4,v5,vm,w4,w5,um,e4,e5,hmi]
   have hqOK:Ey op q:=⟨by omega,by omega,by omega,by omega,by rw [q2,Int.toNat_natCast]; exact q3⟩
   have hF:=rQ ⟨op,rp⟩ hTB.ok q hqOK
   have hFA:=fun h0=>Fm hTB.ok hqOK h0
   generalize gO ⟨op,rp⟩ q=FS at *
   refine J3 a4 _ v4 hF (.cons (aw.ag (.cons ?_ (.cons ?_ .nil))) (.cons (.pure (by simp [go_sem,ek])) .nil)) (by simp [jv,ek,go_sem]) fun ob10 F F4=>?_
   ·rcases hX with ⟨rfl,_,_⟩ | ⟨rfl,_⟩
    ·refine aw.dv (ty:=88) (ro:=ro4) (ap:=true) ?_ (by rw [aN,hop]) (zg _) (Ex _)
     simp
     exact v4
    ·exact .pure (by simp [go_sem])
   ·rcases hX with ⟨_,rfl,rfl⟩ | ⟨_,rfl⟩
    ·exact .nl 6
    ·exact .pure (by simp [go_sem])
   simp only at F F4
   have t5:=(F a5 (fun e=>c45 e.symm)).trans v5
   have tm:=(F m jm4).trans vm
   have t0:=(F n0 (fun e=>g4 e.symm)).trans v0
   have ti:=(F id (fun e=>e4 e.symm)).trans hd9
   have y4:¬a4=m9:=by omega
   have y5:¬a5=m9:=by omega
   have ym:¬m=m9:=by omega
   have y0:¬n0=m9:=by omega
   have yi:¬id=m9:=by omega
   try simp (disch:=omega) only [go_sem,jF,jG,jH,↓reduceIte,reduceCtorEq,jM,jv]
   refine ah (fun hz=>?_) (fun hnz=>?_)
   ·try simp (disch:=omega) only [go_sem,jF,jG,jH,↓reduceIte,jO,ym,tm]
    obtain ⟨z1,z2,z3⟩:=hFA hz
    have z4:FS.1=⟨op,FS.1.rp⟩:=by
     obtain ⟨⟨zo,zr⟩,zz⟩:=FS
     simp only at z2 ⊢
     rw [z2]
    have hTB2:Pa ⟨op,FS.1.rp⟩ T:=⟨by rw [←z4]; exact z1,hTB.n1,hTB.n2,hTB.len,hTB.tr,fun p hp=>by
      rcases (z3 p).1 hp with h9 | rfl
      ·exact hTB.rt p h9
      ·simp only; rw [q2,Int.toNat_natCast]; exact q4,fun p hp=>by
      rcases (z3 p).1 hp with h9 | rfl
      ·exact hTB.nu p h9
      ·omega⟩
    refine aG (m9+1) hrl (by omega) ⟨by try simp (disch:=omega) only [go_sem,↓reduceIte]; congr 1; omega,⟨at9,?_⟩,fun j hj hne=>?_,?_,⟨true,?_⟩,?_,FS.1.rp,_,_,?_,hTB2,.inr ⟨rfl,rfl⟩⟩
    ·try simp (disch:=omega) only [go_sem,↓reduceIte,jM,St.aD,yi,him,ti]
    ·have:¬j=m9:=by omega
     have:¬j=m:=by omega
     simp only [St.aD]
     rw [if_pos (by omega),aa _ _ _ _ (by omega),aa _ _ _ _ (by omega),aa _ _ _ _ (by omega),F j (by omega),hf9 j (by omega) hne,aa _ _ _ _ hne,aa _ _ _ _ hne]
     exact hfr j hj hne
    ·try simp (disch:=omega) only [go_sem,↓reduceIte,jM,St.aD,y0,jn,t0]
    ·try simp (disch:=omega) only [go_sem,↓reduceIte,jM,St.aD,y4,j4,F4]
    ·try simp (disch:=omega) only [go_sem,↓reduceIte,jM,St.aD,y5,j5,t5]
    ·try simp (disch:=omega) only [go_sem,↓reduceIte,jM,St.aD,z2]
   ·try simp (disch:=omega) only [go_sem,jF,↓reduceIte,jO]
    refine aG (m9+1) hrl (by omega) ⟨by try simp (disch:=omega) only [go_sem,↓reduceIte]; congr 1; omega,⟨at9,?_⟩,fun j hj hne=>?_,?_,⟨true,?_⟩,?_,rp,XO,XR,?_,hTB,hX⟩
    ·try simp (disch:=omega) only [go_sem,↓reduceIte,jM,St.aD,yi,ti]
    ·have:¬j=m9:=by omega
     simp only [St.aD]
     rw [if_pos (by omega),aa _ _ _ _ this,aa _ _ _ _ this,F j (by omega),hf9 j (by omega) hne,aa _ _ _ _ hne,aa _ _ _ _ hne]
     exact hfr j hj hne
    ·try simp (disch:=omega) only [go_sem,↓reduceIte,jM,St.aD,y0,t0]
    ·try simp (disch:=omega) only [go_sem,↓reduceIte,jM,St.aD,y4,F4]
    ·try simp (disch:=omega) only [go_sem,↓reduceIte,jM,St.aD,y5,t5]
    ·try simp (disch:=omega) only [go_sem,↓reduceIte,jM,St.aD,ym,tm]
  ·try simp (disch:=omega) only [go_sem,jF,jG,jH,↓reduceIte,um,u0]
   refine ⟨by rw [x1o,x2o]; rfl,.tuple [jv ⟨op,rp⟩,.list 3 (F3 T)],at6,aw.tu (.cons (aw.ag (.cons ?_ (.cons ?_ .nil))) (.cons ?_ .nil)),⟨⟨op,rp⟩,T,rfl,hTB⟩,?_,fun j hj hne=>?_⟩
   ·rcases hX with ⟨rfl,_,_⟩ | ⟨rfl,_⟩
    ·have y1:¬a4<n0:=by omega
     refine aw.dv (ty:=88) (ro:=ro4) (ap:=true) ?_ (by rw [aN,hop]) (zg _) (Ex _)
     simp only
     rw [if_neg y1,aa _ _ _ _ g4]
     exact w4
    ·exact .pure (by simp [go_sem])
   ·rcases hX with ⟨_,rfl,rfl⟩ | ⟨_,rfl⟩
    ·exact .nl 6
    ·exact .pure (by simp [go_sem])
   ·have y1:¬a5<n0:=by omega
    refine aw.dv (ty:=93) (ro:=false) (ap:=true) ?_ (by rw [oa,hT]) (Lh _) (Oe _)
    simp only
    rw [if_neg y1,aa _ _ _ _ g5]
    exact w5
   ·simp only
    rw [aa _ _ _ _ h0]
    exact hd
   ·simp only at hj
    simp only
    rw [aa _ _ _ _ (by omega)]
    exact hfr j hj hne
def Ja (op:List Ac) (r:Rp):Int:=
 if (op.length:Int)≤r.ac then 47 else if r.fd<1∨3<r.fd then 5 else
 if r.tm<(gA op r.ac.toNat).fr∨(gA op r.ac.toNat).fr+(if r.fd=1 then ((gA op r.ac.toNat).ins.length:Int)+1 else ((gA op r.ac.toNat).ins.length:Int))≤r.tm then 6 else if r.b.hi<r.b.lo then 48 else 0
def Jb (op:List Ac) (r:Rp):Int:=if r.nu<1∨1073741824<r.nu then 3 else Ja op r
structure Pc (r:Rp):Prop where
 nu:0≤r.nu∧r.nu≤274877906944
 ac:0≤r.ac∧r.ac≤274877906944
 fd:0≤r.fd∧r.fd≤274877906944
 tm:0≤r.tm∧r.tm≤274877906944
 lo:0≤r.b.lo∧r.b.lo≤274877906944
 hi:0≤r.b.hi∧r.b.hi≤274877906944
theorem Gi {op:List Ac} {r:Rp} (hop:∀ a∈op,ke a) (hv:Pc r) (h:Jb op r=0):Ey op r:=by
 rw [Jb] at h
 by_cases h1:r.nu<1∨1073741824<r.nu
 ·rw [if_pos h1] at h; cases h
 rw [if_neg h1,Ja] at h
 by_cases h2:(op.length:Int)≤r.ac
 ·rw [if_pos h2] at h; cases h
 rw [if_neg h2] at h
 by_cases h3:r.fd<1∨3<r.fd
 ·rw [if_pos h3] at h; cases h
 rw [if_neg h3] at h
 have v2:=hv.ac
 have v5:=hv.lo
 have v6:=hv.hi
 have hil:r.ac.toNat<op.length:=by omega
 have ha:=hop _ (List.mem_of_getElem? (iw hil))
 have hfl:=yX ha (f:=r.fd) (by omega)
 have key:r.tm<(gA op r.ac.toNat).fr∨(gA op r.ac.toNat).fr+(if r.fd=1 then ((gA op r.ac.toNat).ins.length:Int)+1 else ((gA op r.ac.toNat).ins.length:Int))≤r.tm∨r.b.hi<r.b.lo→False:=fun hx=>by
  by_cases h4:r.tm<(gA op r.ac.toNat).fr∨(gA op r.ac.toNat).fr+(if r.fd=1 then ((gA op r.ac.toNat).ins.length:Int)+1 else ((gA op r.ac.toNat).ins.length:Int))≤r.tm
  ·rw [if_pos h4] at h; cases h
  ·rw [if_neg h4,if_pos (by rcases hx with hx | hx | hx <;> first | exact hx | exact absurd (Or.inl hx) h4 | exact absurd (Or.inr hx) h4)] at h; cases h
 rw [←hfl] at key
 clear h
 obtain ⟨k1,k2⟩:=not_or.1 key
 obtain ⟨k2,k3⟩:=not_or.1 k2
 clear key
 refine ⟨by omega,by omega,by omega,by omega,⟨by omega,by omega,by omega,by omega,by omega,by simp only [F7]; omega⟩⟩
def qo (B:Bk) (r:Rp):Bk × Int:=if Jb B.op r≠0 then (EE,Jb B.op r) else gO B r
theorem pF (r:Rp):PC prog jz [ek r] (.bool (decide (1≤r.nu)&&decide (r.nu≤1073741824))):=by
 refine ae jW (by simp) ?_
 simp only [eP,go_sem,jF,jG,jH,↓reduceIte,ek]
 by_cases h1:1≤r.nu
 ·try simp (disch:=omega) only [go_sem,jF,jH,↓reduceIte,h1,decide_true]
  exact aw.of_eq (by simp) rfl
 ·try simp (disch:=omega) only [go_sem,jF,↓reduceIte,h1,decide_false]
  exact aw.of_eq (by simp) rfl
theorem rq (op:List Ac) (r:Rp) (hop:∀ a∈op,ke a) (hv:Pc r):PC prog l7 [.list 4 (lE op),ek r] (.int .i64 (Ja op r)):=by
 obtain ⟨i,hi⟩:∃ i:Nat,r.ac=i:=⟨r.ac.toNat,by have:=hv.ac; omega⟩
 have v1:=hv.fd
 have v2:=hv.tm
 have v3:=hv.lo
 have v4:=hv.hi
 obtain ⟨nu,ac,fd,tm,b⟩:=r
 simp only at hi v1 v2 v3 v4
 subst hi
 refine ae mq (by simp) ?_
 simp only [gr,go_sem,jF,jG,jH,↓reduceIte,reduceCtorEq,ek]
 have hE:Ja op ⟨nu,i,fd,tm,b⟩=if (op.length:Int)≤i then 47 else if fd<1∨3<fd then 5 else
  if tm<(gA op i).fr∨(gA op i).fr+(if fd=1 then ((gA op i).ins.length:Int)+1 else ((gA op i).ins.length:Int))≤tm then 6 else if b.hi<b.lo then 48 else 0:=rfl
 rw [hE]
 clear hE
 have q1:¬((i:Int)<0):=by omega
 by_cases q2:(op.length:Int)≤(i:Int)
 ·try simp (disch:=omega) only [go_sem,jF,jG,jH,↓reduceIte,reduceCtorEq,aN,q1,q2,decide_true,decide_false]
  exact aw.of_eq rfl rfl
 have hil:i<op.length:=by omega
 have e1:=iw hil
 have ha:=hop _ (List.mem_of_getElem? e1)
 have h1:=ha.n1
 have h2:=ha.n2
 have h3:=ha.f0
 have h4:=ha.f1
 generalize gA op i=a at *
 rw [if_neg q2]
 by_cases q3:fd<1
 ·rw [if_pos (.inl q3)]
  try simp (disch:=omega) only [go_sem,jF,jG,jH,↓reduceIte,reduceCtorEq,aN,q1,q2,q3,decide_true,decide_false]
  exact aw.of_eq rfl rfl
 by_cases q4:3<fd
 ·rw [if_pos (.inr q4)]
  try simp (disch:=omega) only [go_sem,jF,jG,jH,↓reduceIte,reduceCtorEq,aN,q1,q2,q3,q4,decide_true,decide_false]
  exact aw.of_eq rfl rfl
 rw [if_neg (by omega)]
 have q6:¬(b.lo<0):=by omega
 have q7:¬(274877906944<b.hi):=by omega
 try simp (disch:=omega) only [go_sem,jF,jG,jH,↓reduceIte,reduceCtorEq,jO,aN,fg,e1,Option.map_some,gG,aH,q1,q2,q3,q4,decide_false]
 refine ⟨by omega,by omega,?_⟩
 refine ah (fun hf1=>?_) (fun hf1=>?_)
 ·rw [if_pos hf1]
  by_cases q5:tm<a.fr
  ·rw [if_pos (.inl q5)]
   try simp (disch:=omega) only [go_sem,jF,jG,jH,↓reduceIte,reduceCtorEq,jO,q5,decide_true]
   exact aw.of_eq rfl rfl
  by_cases q9:a.fr+(a.ins.length:Int)-1+1<tm
  ·rw [if_pos (.inr (by omega))]
   try simp (disch:=omega) only [go_sem,jF,jG,jH,↓reduceIte,reduceCtorEq,jO,q5,q9,decide_true,decide_false]
   exact aw.of_eq rfl rfl
  rw [if_neg (by omega)]
  by_cases q8:b.hi<b.lo
  ·rw [if_pos q8]
   try simp (disch:=omega) only [go_sem,jF,jG,jH,↓reduceIte,reduceCtorEq,jO,q5,q6,q7,q8,q9,decide_false,decide_true]
   exact aw.of_eq rfl rfl
  ·rw [if_neg q8]
   try simp (disch:=omega) only [go_sem,jF,jG,jH,↓reduceIte,reduceCtorEq,jO,q5,q6,q7,q8,q9,decide_false]
   exact aw.of_eq rfl rfl
 ·rw [if_neg hf1]
  by_cases q5:tm<a.fr
  ·rw [if_pos (.inl q5)]
   try simp (disch:=omega) only [go_sem,jF,jG,jH,↓reduceIte,reduceCtorEq,q5,decide_true]
   exact aw.of_eq rfl rfl
  by_cases q9:a.fr+(a.ins.length:Int)-1<tm
  ·rw [if_pos (.inr (by omega))]
   try simp (disch:=omega) only [go_sem,jF,jG,jH,↓reduceIte,reduceCtorEq,q5,q9,decide_true,decide_false]
   exact aw.of_eq rfl rfl
  rw [if_neg (by omega)]
  by_cases q8:b.hi<b.lo
  ·rw [if_pos q8]
   try simp (disch:=omega) only [go_sem,jF,jG,jH,↓reduceIte,reduceCtorEq,q5,q6,q7,q8,q9,decide_false,decide_true]
   exact aw.of_eq rfl rfl
  ·rw [if_neg q8]
   try simp (disch:=omega) only [go_sem,jF,jG,jH,↓reduceIte,reduceCtorEq,q5,q6,q7,q8,q9,decide_false]
   exact aw.of_eq rfl rfl
theorem uf (B:Bk) (h:lT B) (r:Rp) (hv:Pc r):PC prog oT [jv B,ek r] (.tuple [jv (qo B r).1,.int .i64 (qo B r).2]):=by
 by_cases h0:Jb B.op r=0
 ·rw [qo,if_neg (by simp [h0])]
  exact we B h r (Gi h.ao hv h0)
 rw [qo,if_pos h0]
 have hC:=dN B h
 have hN:=pF r
 have hR:=rq B.op r h.ao hv
 have hE:Jb B.op r=if r.nu<1∨1073741824<r.nu then 3 else Ja B.op r:=rfl
 generalize Jb B.op r=E at *
 simp only [jv,ek] at hC hN hR
 refine ae pA (by simp) ?_
 simp only [ju,go_sem,jF,jG,jH,↓reduceIte,reduceCtorEq,jv,ek]
 refine ab hC (by simp [go_sem]) ?_
 try simp (disch:=omega) only [go_sem,jF,jH,↓reduceIte]
 refine ab hN (by simp [go_sem]) ?_
 try simp (disch:=omega) only [go_sem,↓reduceIte]
 by_cases hn:r.nu<1∨1073741824<r.nu
 ·have hb:(decide (1≤r.nu)&&decide (r.nu≤1073741824))=false:=by simp; omega
  rw [if_pos hn] at hE
  rw [hb,hE]
  try simp (disch:=omega) only [go_sem,jF,jG,jH,↓reduceIte]
  exact aw.tu (.cons (aw.ag (.cons (.nl 4) (.cons (.nl 6) .nil))) (.cons (.pure rfl) .nil))
 ·have hb:(decide (1≤r.nu)&&decide (r.nu≤1073741824))=true:=by simp; omega
  rw [if_neg hn] at hE
  rw [hb]
  try simp (disch:=omega) only [go_sem,jF,jH,↓reduceIte,reduceCtorEq]
  refine ab hR (by simp [go_sem]) ?_
  rw [←hE]
  try simp (disch:=omega) only [go_sem,jF,jG,jH,↓reduceIte,h0]
  exact aw.tu (.cons (aw.ag (.cons (.nl 4) (.cons (.nl 6) .nil))) (.cons (.pure rfl) .nil))
theorem zI (op:List Ac) (r:Rp) (hop:∀ a∈op,ke a) (hv:Pc r):PC prog uy [.list 4 (lE op),ek r] (.int .i64 (Jb op r)):=by
 obtain ⟨i,hi⟩:∃ i:Nat,r.ac=i:=⟨r.ac.toNat,by have:=hv.ac; omega⟩
 have v1:=hv.fd
 have v2:=hv.tm
 have v3:=hv.lo
 have v4:=hv.hi
 obtain ⟨nu,ac,fd,tm,b⟩:=r
 simp only at hi v1 v2 v3 v4
 subst hi
 refine ae vA (by simp) ?_
 simp only [oG,go_sem,jF,jG,jH,↓reduceIte,reduceCtorEq,ek]
 have hE:Jb op ⟨nu,i,fd,tm,b⟩=if nu<1∨1073741824<nu then 3 else if (op.length:Int)≤i then 47 else if fd<1∨3<fd then 5 else
  if tm<(gA op i).fr∨(gA op i).fr+(if fd=1 then ((gA op i).ins.length:Int)+1 else ((gA op i).ins.length:Int))≤tm then 6 else if b.hi<b.lo then 48 else 0:=rfl
 rw [hE]
 clear hE
 by_cases p1:nu<1
 ·rw [if_pos (.inl p1)]
  try simp (disch:=omega) only [go_sem,jF,↓reduceIte,p1,decide_true]
  exact aw.of_eq rfl rfl
 by_cases p2:1073741824<nu
 ·rw [if_pos (.inr p2)]
  try simp (disch:=omega) only [go_sem,jF,jH,↓reduceIte,p1,p2,decide_true,decide_false]
  exact aw.of_eq rfl rfl
 rw [if_neg (by omega)]
 have q1:¬((i:Int)<0):=by omega
 by_cases q2:(op.length:Int)≤(i:Int)
 ·try simp (disch:=omega) only [go_sem,jF,jG,jH,↓reduceIte,reduceCtorEq,aN,p1,p2,q1,q2,decide_true,decide_false]
  exact aw.of_eq rfl rfl
 have hil:i<op.length:=by omega
 have e1:=iw hil
 have ha:=hop _ (List.mem_of_getElem? e1)
 have h1:=ha.n1
 have h2:=ha.n2
 have h3:=ha.f0
 have h4:=ha.f1
 generalize gA op i=a at *
 rw [if_neg q2]
 have q6:¬(b.lo<0):=by omega
 have q7:¬(274877906944<b.hi):=by omega
 have q10:¬(274877906944<b.lo):=by omega
 have q11:¬(b.hi<0):=by omega
 try simp (disch:=omega) only [go_sem,jF,jG,jH,↓reduceIte,reduceCtorEq,aN,fg,e1,Option.map_some,gG,aH,p1,p2,q1,q2,decide_false]
 refine ⟨by omega,by omega,?_⟩
 by_cases f1:fd=1
 ·subst f1
  rw [if_neg (by omega)]
  try simp (disch:=omega) only [go_sem,jF,jG,jH,↓reduceIte,reduceCtorEq,jO]
  by_cases q5:tm<a.fr
  ·rw [if_pos (.inl q5)]
   try simp (disch:=omega) only [go_sem,jF,↓reduceIte,q5,decide_true]
   exact aw.of_eq rfl rfl
  by_cases q9:a.fr+((a.ins.length:Int)+1)≤tm
  ·rw [if_pos (.inr q9)]
   try simp (disch:=omega) only [go_sem,jF,jG,jH,↓reduceIte,reduceCtorEq,jO,q5,q9,decide_true,decide_false]
   exact aw.of_eq rfl rfl
  rw [if_neg (by omega)]
  by_cases q8:b.hi<b.lo
  ·rw [if_pos q8]
   try simp (disch:=omega) only [go_sem,jF,jG,jH,↓reduceIte,reduceCtorEq,jO,q5,q6,q7,q8,q9,q10,q11,decide_false,decide_true]
   exact aw.of_eq rfl rfl
  ·rw [if_neg q8]
   try simp (disch:=omega) only [go_sem,jF,jG,jH,↓reduceIte,reduceCtorEq,jO,q5,q6,q7,q8,q9,q10,q11,decide_false]
   exact aw.of_eq rfl rfl
 by_cases f2:fd=2∨fd=3
 ·rw [if_neg (by omega)]
  rw [if_neg f1]
  have key:∀ (fd:Int),fd=2∨fd=3→fd=fd:=fun _ _=>rfl
  rcases f2 with rfl | rfl
  all_goals
   try simp (disch:=omega) only [go_sem,jA,jF,jG,jH,↓reduceIte,reduceCtorEq]
   by_cases q5:tm<a.fr
   ·rw [if_pos (.inl q5)]
    try simp (disch:=omega) only [go_sem,jF,↓reduceIte,q5,decide_true]
    exact aw.of_eq rfl rfl
   by_cases q9:a.fr+(a.ins.length:Int)≤tm
   ·rw [if_pos (.inr q9)]
    try simp (disch:=omega) only [go_sem,jF,jG,jH,↓reduceIte,reduceCtorEq,jO,q5,q9,decide_true,decide_false]
    exact aw.of_eq rfl rfl
   rw [if_neg (by omega)]
   by_cases q8:b.hi<b.lo
   ·rw [if_pos q8]
    try simp (disch:=omega) only [go_sem,jF,jG,jH,↓reduceIte,reduceCtorEq,jO,q5,q6,q7,q8,q9,q10,q11,decide_false,decide_true]
    exact aw.of_eq rfl rfl
   ·rw [if_neg q8]
    try simp (disch:=omega) only [go_sem,jF,jG,jH,↓reduceIte,reduceCtorEq,jO,q5,q6,q7,q8,q9,q10,q11,decide_false]
    exact aw.of_eq rfl rfl
 ·rw [if_pos (by omega)]
  have f3:¬fd=2:=fun e=>f2 (.inl e)
  have f4:¬fd=3:=fun e=>f2 (.inr e)
  try simp (disch:=omega) only [go_sem,jF,↓reduceIte,f1,f3,f4,decide_false]
  exact aw.of_eq rfl rfl
theorem zJ (B:Bk) (h:lT B) (r:Rp) (hv:Pc r):PC prog uz [jv B,ek r] (.tuple [jv (qo B r).1,.int .i64 (qo B r).2]):=by
 by_cases h0:Jb B.op r=0
 ·rw [qo,if_neg (by simp [h0])]
  exact rQ B h r (Gi h.ao hv h0)
 rw [qo,if_pos h0]
 have hC:=kC B h
 have hR:=zI B.op r h.ao hv
 generalize Jb B.op r=E at *
 simp only [jv,ek] at hC hR
 refine ae vC (by simp) ?_
 simp only [oH,go_sem,jF,jG,jH,↓reduceIte,reduceCtorEq,jv,ek]
 refine ab hC (by simp [go_sem]) ?_
 try simp (disch:=omega) only [go_sem,jF,jH,↓reduceIte,reduceCtorEq]
 refine ab hR (by simp [go_sem]) ?_
 try simp (disch:=omega) only [go_sem,jF,jG,jH,↓reduceIte,h0]
 exact aw.tu (.cons (aw.ag (.cons (.nl 4) (.cons (.nl 6) .nil))) (.cons (.pure rfl) .nil))
end Go.Proofs.Try
