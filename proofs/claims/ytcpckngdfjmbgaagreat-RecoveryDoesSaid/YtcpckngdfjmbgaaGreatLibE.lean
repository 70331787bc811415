/- OWN WORK, put together by tools/asm.py, seat.py, mini.py. -/
import Derived.Test.YtcpckngdfjmbgaaGreatLibD
set_option linter.unusedSimpArgs false
set_option linter.unusedVariables false
set_option maxRecDepth 100000
set_option maxHeartbeats 1000000
namespace Go.Proofs.Try
open Go.Ab Go Go.Proofs.Tryz
open Int renaming reduceEq → jA, reduceLT → jB, reduceLE → jC, reduceToNat → jD
open Go.Ab renaming iP → jM, iQ → jN, lV → jO, iR → jP
open Nat renaming reduceLT → jE, reduceEqDiff → jF, reduceAdd → jG, reduceLeDiff → jH, reduceSub → jI, reduceMul → jJ, sub_zero → jK, sub_self → jL
abbrev dq:TypeId:=30
theorem dg (σ:St) (L:List AV) (hl:L.length * 32≤140737488355328):HC prog gM [.list 4 L] σ (G1 σ 4 dq L):=by
 refine aL gV (by simp) ?_
 obtain ⟨ob,n,c⟩:=σ
 simp only [gS,go_sem,↓reduceIte,reduceCtorEq]
 refine uN (fun h=>?_) (fun h=>?_)
 ·subst h
  refine ⟨?_,?_⟩
  ·try simp (disch:=omega) only [go_sem,↓reduceIte]
   refine ⟨_,_,rfl,Nat.le_succ _,Nat.lt_succ_self _,(by first | rfl | (simp (disch:=omega) only [go_sem,↓reduceIte]; try rfl)),fun i hi=>?_⟩
   simp only at hi
   try simp (disch:=omega) only [go_sem,jM]
  ·try simp (disch:=omega) only [go_sem,jF,jH,jJ,↓reduceIte,reduceCtorEq]
   repeat (refine And.intro (by first | omega | (rw [n4]; omega) | (simp [maxLen]; done) | (simp [maxLen]; omega)) ?_)
   refine ⟨_,_,rfl,Nat.le_succ _,Nat.lt_succ_self _,(by first | rfl | (simp (disch:=omega) only [go_sem,↓reduceIte]; try rfl)),fun i hi=>?_⟩
   simp only at hi
   try simp (disch:=omega) only [go_sem,jM]
 ·try simp (disch:=omega) only [go_sem,jF,↓reduceIte,reduceCtorEq]
  repeat (refine And.intro (by first | omega | (rw [n4]; omega) | (simp [maxLen]; done) | (simp [maxLen]; omega)) ?_)
  refine ⟨_,_,rfl,Nat.le_succ _,Nat.lt_succ_self _,(by first | rfl | (simp (disch:=omega) only [go_sem,↓reduceIte]; try rfl)),fun i hi=>?_⟩
  simp only at hi
  try simp (disch:=omega) only [go_sem,jM]
theorem m8 (L:List AV) (hl:L.length * 32≤140737488355328) (hp:∀ x∈L,x.cL=true) (hk:∀ x∈L,mF 4 x):PC prog gM [.list 4 L] (.list 4 L):=
 jh gV ((dg St.empty L hl).mono fun r τ ⟨id,g,h1,_,_,h2,_⟩=>by rw [h1]; exact aw.dv h2 rfl hp hk)
structure Od where
 n:Int
 k:Int
 i:Int
 v:Int
 deriving DecidableEq
def gE (o:Od):AV:=.agg [.int .i64 o.n,.int .i64 o.k,.int .i64 o.i,.int .i64 o.v]
def cH (l:List Od):List AV:=l.map gE
theorem ak (l:List Od):(cH l).length=l.length:=by simp [cH]
theorem dz (l:List Od) (i:Nat):(cH l)[i]?=(l[i]?).map gE:=by simp [cH]
theorem ep (l:List Od):∀ x∈cH l,x.cL=true:=by simp [cH,gE,go_sem]
theorem ib (l:List Od):∀ x∈cH l,mF 4 x:=by simp [cH,gE,mF,go_sem]
def mN (x a b:Int):Bool:=decide (a≤x)&&decide (x≤b)
def dI (k i v:Int):Int:=
 if k=1 then (if i=0∧mN v 0 1073741824=true then 0 else 1) else
 if k=2 then (if mN i 0 7=true∧v=0 then 0 else 1) else
 if k=3 then (if mN i 0 5=true∧mN v 0 1=true then 0 else 1) else 5
def iU (o:Od):Bool:=mN o.n 1 1073741824&&decide (dI o.k o.i o.v=0)
def fk:Int→List Od→Bool
 | _,[]=>true
 | s,o :: r=>iU o&&decide (o.n=s)&&fk (s+1) r
def dp:Int→List Od→Bool
 | _,[]=>true
 | s,o :: r=>iU o&&decide (s<o.n)&&dp o.n r
structure Sd where
 n:Int
 l:List Od
 deriving DecidableEq
def mr (s:Sd):AV:=.agg [.int .i64 s.n,.list 4 (cH s.l)]
def db (s:Sd):Bool:=mN s.n 1 1073741824&&decide (s.l.length≤64)&&fk (s.n-s.l.length) s.l
structure Sn where
 d:Int
 l:List Od
 deriving DecidableEq
def HV (s:Sn):AV:=.agg [.int .i64 s.d,.list 4 (cH s.l)]
def lG (s:Sn):Bool:=mN s.d 0 1073741824&&decide (s.l.length≤64)&&dp (s.d+1) s.l
theorem vS:∀ (l:List Od) (s:Int) (k:Nat) (hk:k<l.length),fk s (l.take (k+1))=(fk s (l.take k)&&(iU l[k]&&decide (l[k].n=s+k)))
 | [],_,k,hk=>by simp at hk
 | o :: r,s,0,_=>by simp [fk]
 | o :: r,s,k+1,hk=>by
  have hk':k<r.length:=by simpa using hk
  simp only [List.take_succ_cons,fk,List.getElem_cons_succ]
  rw [vS r (s+1) k hk',Bool.and_assoc]
  have:s+1+(k:Int)=s+((k+1:Nat):Int):=by omega
  rw [this,Bool.and_assoc,Bool.and_assoc]
theorem vR:∀ (l:List Od) (s:Int) (k:Nat),fk s l=true→fk s (l.take k)=true
 | [],_,k,_=>by simp [fk]
 | o :: r,s,0,_=>by simp [fk]
 | o :: r,s,k+1,h=>by
  simp only [fk,Bool.and_eq_true,List.take_succ_cons] at h ⊢
  exact ⟨h.1,vR r (s+1) k h.2⟩
def mI (s:Int) (l:List Od) (k:Nat):Int:=if k=0 then s else ((l[k-1]?).map Od.n).getD s
theorem CZ:∀ (l:List Od) (s:Int) (k:Nat) (hk:k<l.length),dp s (l.take (k+1))=(dp s (l.take k)&&(iU l[k]&&decide (mI s l k<l[k].n)))
 | [],_,k,hk=>by simp at hk
 | o :: r,s,0,_=>by simp [dp,mI]
 | o :: r,s,k+1,hk=>by
  have hk':k<r.length:=by simpa using hk
  simp only [List.take_succ_cons,dp,List.getElem_cons_succ]
  rw [CZ r o.n k hk',Bool.and_assoc,Bool.and_assoc,Bool.and_assoc]
  congr 4
  cases k with
  | zero=>simp [mI]
  | succ k=>
   have:r[k]?=some r[k]:=List.getElem?_eq_getElem (by omega)
   simp [mI,this]
theorem CY:∀ (l:List Od) (s:Int) (k:Nat),dp s l=true→dp s (l.take k)=true
 | [],_,k,_=>by simp [dp]
 | o :: r,s,0,_=>by simp [dp]
 | o :: r,s,k+1,h=>by
  simp only [dp,Bool.and_eq_true,List.take_succ_cons] at h ⊢
  exact ⟨h.1,CY r o.n k h.2⟩
theorem vJ:∀ {l:List Od} {s:Int},dp s l=true→∀ o∈l,s<o.n∧iU o=true
 | [],_,_,o,ho=>by simp at ho
 | a :: r,s,h,o,ho=>by
  simp only [dp,Bool.and_eq_true,decide_eq_true_eq] at h
  rcases List.mem_cons.1 ho with rfl | ho
  ·exact ⟨h.1.2,h.1.1⟩
  ·have:=vJ h.2 o ho
   exact ⟨by omega,this.2⟩
theorem iz {α:Type} (l:List α) (q:α→Bool) (j:Nat) (x:α) (h:l[j]?=some x):(l.take (j+1)).filter q=(l.take j).filter q++(if q x=true then [x] else []):=by
 rw [List.take_add_one,h,List.filter_append]
 cases hq:q x <;> simp [hq]
theorem cG (x a b:Int):PC prog yp [.int .i64 x,.int .i64 a,.int .i64 b] (.bool (mN x a b)):=by
 refine ae yL (by simp) ?_
 simp only [pv,go_sem,jF,↓reduceIte,reduceCtorEq]
 refine bB rfl (fun h=>?_) (fun h=>?_) <;> try simp (disch:=omega) only [go_sem,jF,↓reduceIte,reduceCtorEq]
 ·exact aw.of_eq (by simp [mN,h]) rfl
 ·exact aw.of_eq (by simp [mN,h]) rfl
theorem dY (x a b:Int):PC prog Gv [.int .i64 x,.int .i64 a,.int .i64 b] (.bool (mN x a b)):=by
 refine ae GX (by simp) ?_
 simp only [AM,go_sem,jF,↓reduceIte,reduceCtorEq]
 refine bB rfl (fun h=>?_) (fun h=>?_) <;> try simp (disch:=omega) only [go_sem,jF,↓reduceIte,reduceCtorEq]
 ·exact aw.of_eq (by simp [mN,h]) rfl
 ·exact aw.of_eq (by simp [mN,h]) rfl
theorem oS (k i v:Int):PC prog zV [.int .i64 k,.int .i64 i,.int .i64 v] (.int .i64 (dI k i v)):=by
 refine ae AW (by simp) ?_
 simp only [qC,go_sem,↓reduceIte,reduceCtorEq]
 refine ah (fun h1=>?_) (fun h1=>?_) <;> try simp (disch:=omega) only [go_sem,jF,↓reduceIte,reduceCtorEq]
 ·refine bB rfl (fun h2=>?_) (fun h2=>?_) <;> try simp (disch:=omega) only [go_sem,jF,↓reduceIte,reduceCtorEq]
  ·refine ab (cG _ _ _) (by simp [go_sem]) ?_
   cases h3:mN v 0 1073741824 <;> try simp (disch:=omega) only [go_sem,jF,↓reduceIte]
   ·exact aw.of_eq (by simp [dI,h1,h2,h3]) rfl
   ·exact aw.of_eq (by simp [dI,h1,h2,h3]) rfl
  ·exact aw.of_eq (by simp [dI,h1,h2]) rfl
 refine ah (fun h2=>?_) (fun h2=>?_) <;> try simp (disch:=omega) only [go_sem,jF,↓reduceIte,reduceCtorEq]
 ·refine ab (cG _ _ _) (by simp [go_sem]) ?_
  cases h3:mN i 0 7 <;> try simp (disch:=omega) only [go_sem,jF,↓reduceIte,reduceCtorEq]
  ·exact aw.of_eq (by simp [dI,h2,h3]) rfl
  ·refine aZ (fun h4=>?_) (fun h4=>?_) <;> try simp (disch:=omega) only [go_sem,↓reduceIte]
   ·exact aw.of_eq (by simp [dI,h2,h3,h4]) rfl
   ·exact aw.of_eq (by simp [dI,h2,h3,h4]) rfl
 refine ah (fun h3=>?_) (fun h3=>?_) <;> try simp (disch:=omega) only [go_sem,jF,↓reduceIte,reduceCtorEq]
 ·refine ab (cG _ _ _) (by simp [go_sem]) ?_
  cases h4:mN i 0 5 <;> try simp (disch:=omega) only [go_sem,jF,↓reduceIte,reduceCtorEq]
  ·exact aw.of_eq (by simp [dI,h3,h4]) rfl
  ·refine ab (cG _ _ _) (by simp [go_sem]) ?_
   cases h5:mN v 0 1 <;> try simp (disch:=omega) only [go_sem,jF,↓reduceIte]
   ·exact aw.of_eq (by simp [dI,h3,h4,h5]) rfl
   ·exact aw.of_eq (by simp [dI,h3,h4,h5]) rfl
 ·exact aw.of_eq (by simp [dI,h1,h2,h3]) rfl
theorem rS (k i v:Int):PC prog DG [.int .i64 k,.int .i64 i,.int .i64 v] (.int .i64 (dI k i v)):=by
 refine ae Ek (by simp) ?_
 simp only [vk,go_sem,↓reduceIte,reduceCtorEq]
 refine ah (fun h1=>?_) (fun h1=>?_) <;> try simp (disch:=omega) only [go_sem,jF,↓reduceIte,reduceCtorEq]
 ·refine iY rfl (fun h2=>?_) (fun h2=>?_) <;> try simp (disch:=omega) only [go_sem,jF,↓reduceIte,reduceCtorEq]
  ·exact aw.of_eq (by simp [dI,h1,h2]) rfl
  ·refine ab (dY _ _ _) (by simp [go_sem]) ?_
   cases h3:mN v 0 1073741824 <;> try simp (disch:=omega) only [go_sem,jF,↓reduceIte]
   ·exact aw.of_eq (by simp [dI,h1,h2,h3]) rfl
   ·exact aw.of_eq (by simp [dI,h1,h2,h3]) rfl
 refine ah (fun h2=>?_) (fun h2=>?_) <;> try simp (disch:=omega) only [go_sem,jF,↓reduceIte,reduceCtorEq]
 ·refine ab (dY _ _ _) (by simp [go_sem]) ?_
  cases h3:mN i 0 7 <;> try simp (disch:=omega) only [go_sem,jF,↓reduceIte,reduceCtorEq]
  ·exact aw.of_eq (by simp [dI,h2,h3]) rfl
  ·refine aZ (fun h4=>?_) (fun h4=>?_) <;> try simp (disch:=omega) only [go_sem,↓reduceIte]
   ·exact aw.of_eq (by simp [dI,h2,h3,h4]) rfl
   ·exact aw.of_eq (by simp [dI,h2,h3,h4]) rfl
 refine ah (fun h3=>?_) (fun h3=>?_) <;> try simp (disch:=omega) only [go_sem,jF,↓reduceIte,reduceCtorEq]
 ·refine ab (dY _ _ _) (by simp [go_sem]) ?_
  cases h4:mN i 0 5 <;> try simp (disch:=omega) only [go_sem,jF,↓reduceIte,reduceCtorEq]
  ·exact aw.of_eq (by simp [dI,h3,h4]) rfl
  ·refine ab (dY _ _ _) (by simp [go_sem]) ?_
   cases h5:mN v 0 1 <;> try simp (disch:=omega) only [go_sem,jF,↓reduceIte]
   ·exact aw.of_eq (by simp [dI,h3,h4,h5]) rfl
   ·exact aw.of_eq (by simp [dI,h3,h4,h5]) rfl
 ·exact aw.of_eq (by simp [dI,h1,h2,h3]) rfl
theorem wj (o:Od):PC prog yq [gE o] (.bool (iU o)):=by
 refine ae yM (by simp) ?_
 simp only [pw,go_sem,jF,jG,jH,↓reduceIte,gE]
 try simp (disch:=omega) only [go_sem,jA,jB,jC,jD,jE,jF,jG,jH,jI,jJ,↓reduceIte,reduceCtorEq,jO,jM,jN,jK,jL]
 refine ab (cG _ _ _) (by simp [go_sem]) ?_
 cases h1:mN o.n 1 1073741824 <;> try simp (disch:=omega) only [go_sem,jF,jG,jH,↓reduceIte]
 ·exact aw.of_eq (by simp [iU,h1]) rfl
 ·refine ab (oS _ _ _) (by simp [go_sem]) ?_
  try simp (disch:=omega) only [go_sem,jF,↓reduceIte]
  exact aw.of_eq (by simp [iU,h1]) rfl
theorem kD (o:Od):PC prog BB [gE o] (.bool (iU o)):=by
 refine ae BX (by simp) ?_
 simp only [sw,go_sem,jF,jG,jH,↓reduceIte,gE]
 try simp (disch:=omega) only [go_sem,jA,jB,jC,jD,jE,jF,jG,jH,jI,jJ,↓reduceIte,reduceCtorEq,jO,jM,jN,jK,jL]
 refine ab (dY _ _ _) (by simp [go_sem]) ?_
 cases h1:mN o.n 1 1073741824 <;> try simp (disch:=omega) only [go_sem,jF,jG,jH,↓reduceIte]
 ·exact aw.of_eq (by simp [iU,h1]) rfl
 ·refine ab (rS _ _ _) (by simp [go_sem]) ?_
  try simp (disch:=omega) only [go_sem,jF,↓reduceIte]
  exact aw.of_eq (by simp [iU,h1]) rfl
theorem jm (s:Sd) (hl:s.l.length≤9223372036854775807):PC prog zW [mr s] (.bool (db s)):=by
 refine ae AY (by simp) ?_
 simp only [qD,go_sem,jF,jG,jH,↓reduceIte,mr]
 have no:∀ {σ:St},db s=false→aw σ (.bool false) (.bool (db s)):=fun h=>aw.of_eq (by rw [h]) rfl
 refine ab (cG _ _ _) (by simp [go_sem]) ?_
 try simp (disch:=omega) only [go_sem,↓reduceIte]
 cases h1:mN s.n 1 1073741824 <;> try simp (disch:=omega) only [go_sem,jF,jG,jH,↓reduceIte,ak]
 ·exact no (by simp [db,h1])
 refine ah (fun h2=>?_) (fun h2=>?_) <;> try simp (disch:=omega) only [go_sem,jF,jG,jH,↓reduceIte,ak]
 ·exact no (by simp [db]; intros; omega)
 have hn:1≤s.n∧s.n≤1073741824:=by simpa [mN] using h1
 refine bw [2,3,4,18,19,20,21,22,23,24,25,26,27,28,29,30,31,32,33,34,35,36,37,38,39] (by kernel_rfl) s.l.length (fun k e σ=>e 18=.int .i64 k∧σ.ob 0=some ⟨0,2,47,false,true,[mr s]⟩∧fk (s.n-s.l.length) (s.l.take k)=true) ?_ ?_
 ·exact ⟨(by first | rfl | (simp (disch:=omega) only [go_sem,jA,jB,jC,jD,jE,jF,jG,jH,jI,jJ,↓reduceIte,reduceCtorEq,jP,jO,jM,jN]; try rfl)),(by first | rfl | (simp (disch:=omega) only [go_sem,jA,jB,jC,jD,jE,jF,jG,jH,jI,jJ,↓reduceIte,reduceCtorEq,jP,jO,jM,jN]; try rfl)),by simp [fk]⟩
 ·rintro k fe ob c hk ⟨h18,hob,hj⟩
  simp (maxSteps:=1000000) only [go_sem,jF,↓reduceIte,mr] at h18 hob
  try simp (disch:=omega) only [go_sem,jF,↓reduceIte,h18]
  refine ah (fun hlt=>?_) (fun hge=>?_)
  ·have hkl:k<s.l.length:=by omega
   have hk2:s.l[k]?=some s.l[k]:=List.getElem?_eq_getElem hkl
   have hst:=vS s.l (s.n-s.l.length) k hkl
   rw [hj,Bool.true_and] at hst
   have hbad:fk (s.n-s.l.length) (s.l.take (k+1))=false→db s=false:=fun h=>by
    have:fk (s.n-s.l.length) s.l=false:=by
     cases h2:fk (s.n-s.l.length) s.l with
     | false=>rfl
     | true=>rw [vR _ _ (k+1) h2] at h; cases h
    simp [db,this]
   generalize s.l[k]=o at *
   try simp (disch:=omega) only [go_sem,jF,jG,jH,↓reduceIte,ak,dz,hk2,Option.map_some,gE]
   refine ⟨by omega,by omega,?_⟩
   refine ab (wj o) (by simp [go_sem]) ?_
   cases hp:iU o <;> try simp (disch:=omega) only [go_sem,jF,jG,jH,↓reduceIte,reduceCtorEq,jO,hob,ak]
   ·exact no (hbad (by rw [hst,hp]; rfl))
   refine aZ (fun g=>?_) (fun g=>?_) <;> try simp (disch:=omega) only [go_sem,jF,↓reduceIte,jO]
   ·exact no (hbad (by rw [hst,hp]; simp; omega))
   ·exact bl hkl ⟨(by first | rfl | (simp (disch:=omega) only [go_sem,jA,jB,jC,jD,jE,jF,jG,jH,jI,jJ,↓reduceIte,reduceCtorEq,jP,jO,jM,jN]; try rfl)),by try simp (disch:=omega) only [go_sem,jE,↓reduceIte,jM]; exact hob,by rw [hst,hp]; simp; omega⟩
  ·try simp (disch:=omega) only [go_sem,↓reduceIte]
   have:k=s.l.length:=by omega
   subst this
   rw [List.take_length] at hj
   exact aw.of_eq (by simp [db,h1,hj]; omega) rfl
theorem kF (s:Sd) (hl:s.l.length≤9223372036854775807):PC prog BC [mr s] (.bool (db s)):=by
 refine ae BY (by simp) ?_
 simp only [sy,go_sem,jF,jG,jH,↓reduceIte,mr]
 have no:∀ {σ:St},db s=false→aw σ (.bool false) (.bool (db s)):=fun h=>aw.of_eq (by rw [h]) rfl
 refine ab (dY _ _ _) (by simp [go_sem]) ?_
 try simp (disch:=omega) only [go_sem,↓reduceIte]
 cases h1:mN s.n 1 1073741824 <;> try simp (disch:=omega) only [go_sem,jF,jG,jH,↓reduceIte,ak]
 ·exact no (by simp [db,h1])
 refine ah (fun h2=>?_) (fun h2=>?_) <;> try simp (disch:=omega) only [go_sem,jF,jG,jH,↓reduceIte,ak]
 ·exact no (by simp [db]; intros; omega)
 have hn:1≤s.n∧s.n≤1073741824:=by simpa [mN] using h1
 refine bw [2,3,4,18,19,20,21,22,23,24,25,26,27,28,29,30,31,32,33,34,35,36,37,38,39] (by kernel_rfl) s.l.length (fun k e σ=>e 18=.int .i64 k∧σ.ob 0=some ⟨0,2,47,false,true,[mr s]⟩∧fk (s.n-s.l.length) (s.l.take k)=true) ?_ ?_
 ·exact ⟨(by first | rfl | (simp (disch:=omega) only [go_sem,jA,jB,jC,jD,jE,jF,jG,jH,jI,jJ,↓reduceIte,reduceCtorEq,jP,jO,jM,jN]; try rfl)),(by first | rfl | (simp (disch:=omega) only [go_sem,jA,jB,jC,jD,jE,jF,jG,jH,jI,jJ,↓reduceIte,reduceCtorEq,jP,jO,jM,jN]; try rfl)),by simp [fk]⟩
 ·rintro k fe ob c hk ⟨h18,hob,hj⟩
  simp (maxSteps:=1000000) only [go_sem,jF,↓reduceIte,mr] at h18 hob
  try simp (disch:=omega) only [go_sem,jF,↓reduceIte,h18]
  refine ah (fun hlt=>?_) (fun hge=>?_)
  ·have hkl:k<s.l.length:=by omega
   have hk2:s.l[k]?=some s.l[k]:=List.getElem?_eq_getElem hkl
   have hst:=vS s.l (s.n-s.l.length) k hkl
   rw [hj,Bool.true_and] at hst
   have hbad:fk (s.n-s.l.length) (s.l.take (k+1))=false→db s=false:=fun h=>by
    have:fk (s.n-s.l.length) s.l=false:=by
     cases h2:fk (s.n-s.l.length) s.l with
     | false=>rfl
     | true=>rw [vR _ _ (k+1) h2] at h; cases h
    simp [db,this]
   generalize s.l[k]=o at *
   try simp (disch:=omega) only [go_sem,jF,jG,jH,↓reduceIte,ak,dz,hk2,Option.map_some,gE]
   refine ⟨by omega,by omega,?_⟩
   refine ab (kD o) (by simp [go_sem]) ?_
   cases hp:iU o <;> try simp (disch:=omega) only [go_sem,jF,jG,jH,↓reduceIte,reduceCtorEq,jO,hob,ak]
   ·exact no (hbad (by rw [hst,hp]; rfl))
   refine aZ (fun g=>?_) (fun g=>?_) <;> try simp (disch:=omega) only [go_sem,jF,↓reduceIte,jO]
   ·exact no (hbad (by rw [hst,hp]; simp; omega))
   ·exact bl hkl ⟨(by first | rfl | (simp (disch:=omega) only [go_sem,jA,jB,jC,jD,jE,jF,jG,jH,jI,jJ,↓reduceIte,reduceCtorEq,jP,jO,jM,jN]; try rfl)),by try simp (disch:=omega) only [go_sem,jE,↓reduceIte,jM]; exact hob,by rw [hst,hp]; simp; omega⟩
  ·try simp (disch:=omega) only [go_sem,↓reduceIte]
   have:k=s.l.length:=by omega
   subst this
   rw [List.take_length] at hj
   exact aw.of_eq (by simp [db,h1,hj]; omega) rfl
def cK (s:Sd) (k i v:Int):Sd × Od × Int:=
 if db s=true then (if dI k i v=0 then (if s.l.length=64∨s.n=1073741824 then (⟨0,[]⟩,⟨0,0,0,0⟩,10)
  else (⟨s.n+1,s.l++[⟨s.n,k,i,v⟩]⟩,⟨s.n,k,i,v⟩,0)) else (⟨0,[]⟩,⟨0,0,0,0⟩,dI k i v)) else (⟨0,[]⟩,⟨0,0,0,0⟩,50)
def dK (s:Sd) (n:Int):Sd × Int:=
 if db s=true then (if n<0∨s.n≤n then (⟨0,[]⟩,1) else (⟨s.n,s.l.filter fun o=>!decide (o.n≤n)⟩,0)) else (⟨0,[]⟩,50)
def aR:Int→List Od→Nat
 | _,[]=>0
 | s,o :: r=>if o.n=s+1 then aR (s+1) r+1 else 0
def cC (t:Sn) (o:Od):Sn × List Od × Int × Int:=
 if lG t=true then (if iU o=true then (if o.n≤t.d then (t,[],t.d,0) else
  if o.n=t.d+1 then (⟨t.d+1+aR o.n t.l,t.l.drop (aR o.n t.l)⟩,o :: t.l.take (aR o.n t.l),t.d+1+aR o.n t.l,0) else
  if (t.l.map Od.n)[da (t.l.map Od.n) o.n]?=some o.n then (t,[],t.d,0) else
  if t.l.length=64 then (⟨0,[]⟩,[],0,10) else
  (⟨t.d,t.l.take (da (t.l.map Od.n) o.n)++o :: t.l.drop (da (t.l.map Od.n) o.n)⟩,[],t.d,0)) else (⟨0,[]⟩,[],0,3)) else (⟨0,[]⟩,[],0,50)
theorem m0:∀ (l:List Od) (s:Int),aR s l≤l.length
 | [],_=>Nat.le_refl _
 | o :: r,s=>by simp only [aR]; split <;> simp [m0 r]
theorem oj:∀ (l:List Od) (s:Int) (k:Nat) (o:Od),k≤aR s l→l[k]?=some o→(o.n=s+k+1↔k<aR s l)
 | [],_,k,o,_,h=>by simp at h
 | a :: r,s,0,o,_,h=>by
  simp at h; subst h
  simp only [aR]; split <;> simp <;> omega
 | a :: r,s,k+1,o,hk,h=>by
  simp only [List.getElem?_cons_succ] at h
  simp only [aR] at hk ⊢
  split at hk
  ·rename_i e
   rw [if_pos e]
   have:=oj r (s+1) k o (by omega) h
   omega
  ·omega
theorem om {l:List Od} {s:Int} {k:Nat} {o:Od} (hk:k<aR s l) (h:l[k]?=some o):o.n=s+k+1:=(oj l s k o (by omega) h).2 hk
theorem A9:∀ {l:List Od} {last:Int},dp last l=true→∀ i j:Nat,i<j→∀ x y,l[i]?=some x→l[j]?=some y→x.n<y.n
 | [],_,_,i,j,_,x,y,hx,_=>by simp at hx
 | a :: r,last,hok,i,j,hij,x,y,hx,hy=>by
  simp only [dp,Bool.and_eq_true] at hok
  cases j with
  | zero=>omega
  | succ j=>
   simp only [List.getElem?_cons_succ] at hy
   cases i with
   | zero=>simp at hx; subst hx; exact (vJ hok.2 y (List.mem_of_getElem? hy)).1
   | succ i=>exact A9 hok.2 i j (by omega) x y (by simpa using hx) hy
theorem Jh {l:List Od} {s:Int} (hok:dp s l=true):KP (l.map Od.n):=fun i j hij a b ha hb=>by
 rw [List.getElem?_map] at ha hb
 obtain ⟨a',ha',rfl⟩:=Option.map_eq_some_iff.1 ha
 obtain ⟨b',hb',rfl⟩:=Option.map_eq_some_iff.1 hb
 exact Int.le_of_lt (A9 hok i j hij _ _ ha' hb')
theorem Gs {o:Od} (h:iU o=true):1≤o.n∧o.n≤1073741824∧dI o.k o.i o.v=0:=by
 simp [iU,mN] at h; omega
theorem zj {t:Sn} (h:lG t=true):0≤t.d∧t.d≤1073741824∧t.l.length≤64∧dp (t.d+1) t.l=true:=by
 simp [lG,mN] at h; exact ⟨h.1.1.1,h.1.1.2,h.1.2,h.2⟩
theorem fh {s:Sd} (h:db s=true):1≤s.n∧s.n≤1073741824∧s.l.length≤64∧fk (s.n-s.l.length) s.l=true:=by
 simp [db,mN] at h; exact ⟨h.1.1.1,h.1.1.2,h.1.2,h.2⟩
theorem zL (s:Sn) (hl:s.l.length≤9223372036854775807):PC prog BD [HV s] (.bool (lG s)):=by
 refine ae BZ (by simp) ?_
 simp only [sA,go_sem,jF,jG,jH,↓reduceIte,HV]
 have no:∀ {σ:St},lG s=false→aw σ (.bool false) (.bool (lG s)):=fun h=>aw.of_eq (by rw [h]) rfl
 refine ab (dY _ _ _) (by simp [go_sem]) ?_
 try simp (disch:=omega) only [go_sem,↓reduceIte]
 cases h1:mN s.d 0 1073741824 <;> try simp (disch:=omega) only [go_sem,jF,jG,jH,↓reduceIte,ak]
 ·exact no (by simp [lG,h1])
 refine ah (fun h2=>?_) (fun h2=>?_) <;> try simp (disch:=omega) only [go_sem,jF,jG,jH,↓reduceIte,ak]
 ·exact no (by simp [lG]; intros; omega)
 have hn:0≤s.d∧s.d≤1073741824:=by simpa [mN] using h1
 refine bw [2,3,4,18,19,20,21,22,23,24,25,26,27,28,29,30,31,32,33,34,35,36,37,38,39,40,41,42,43,44,45,46,47,48,49,50] (by kernel_rfl) s.l.length (fun k e σ=>e 18=.int .i64 k∧σ.ob 0=some ⟨0,2,80,false,true,[HV s]⟩∧dp (s.d+1) (s.l.take k)=true) ?_ ?_
 ·exact ⟨(by first | rfl | (simp (disch:=omega) only [go_sem,jA,jB,jC,jD,jE,jF,jG,jH,jI,jJ,↓reduceIte,reduceCtorEq,jP,jO,jM,jN]; try rfl)),(by first | rfl | (simp (disch:=omega) only [go_sem,jA,jB,jC,jD,jE,jF,jG,jH,jI,jJ,↓reduceIte,reduceCtorEq,jP,jO,jM,jN]; try rfl)),by simp [dp]⟩
 ·rintro k fe ob c hk ⟨h18,hob,hj⟩
  simp (maxSteps:=1000000) only [go_sem,jF,↓reduceIte,HV] at h18 hob
  try simp (disch:=omega) only [go_sem,jF,↓reduceIte,h18]
  refine ah (fun hlt=>?_) (fun hge=>?_)
  ·have hkl:k<s.l.length:=by omega
   have hk2:s.l[k]?=some s.l[k]:=List.getElem?_eq_getElem hkl
   have hst:=CZ s.l (s.d+1) k hkl
   rw [hj,Bool.true_and] at hst
   have hbad:dp (s.d+1) (s.l.take (k+1))=false→lG s=false:=fun h=>by
    have:dp (s.d+1) s.l=false:=by
     cases h2:dp (s.d+1) s.l with
     | false=>rfl
     | true=>rw [CY _ _ (k+1) h2] at h; cases h
    simp [lG,this]
   have hpr:(k=0→mI (s.d+1) s.l k=s.d+1)∧(∀ y,0<k→s.l[k-1]?=some y→mI (s.d+1) s.l k=y.n∧s.d+1<y.n):=by
    refine ⟨fun h=>by simp [mI,h],fun y hk0 hy=>⟨by simp [mI,hy]; omega,(vJ hj y ?_).1⟩⟩
    refine List.mem_of_getElem? (i:=k-1) ?_
    rw [List.getElem?_take,if_pos (by omega),hy]
   have hpl:s.d+1≤mI (s.d+1) s.l k:=by
    rcases Nat.eq_zero_or_pos k with h0 | h0
    ·have:=hpr.1 h0; omega
    ·have:=hpr.2 s.l[k-1] h0 (List.getElem?_eq_getElem (by omega)); omega
   generalize s.l[k]=o at *
   generalize mI (s.d+1) s.l k=pr at *
   try simp (disch:=omega) only [go_sem,jF,jG,jH,↓reduceIte,ak,dz,hk2,Option.map_some,gE]
   refine ⟨by omega,by omega,?_⟩
   refine ab (kD o) (by simp [go_sem]) ?_
   cases hp:iU o <;> try simp (disch:=omega) only [go_sem,jF,jH,↓reduceIte,reduceCtorEq,jO,hob]
   ·exact no (hbad (by rw [hst,hp]; rfl))
   refine bF rfl (fun g1=>?_) (fun g1=>?_) <;> try simp (disch:=omega) only [go_sem,jF,↓reduceIte]
   ·exact no (hbad (by rw [hst,hp]; simp; omega))
   refine bB rfl (fun g2=>?_) (fun g2=>?_)
   ·have hk0:0<k:=by omega
    have hy:s.l[k-1]?=some s.l[k-1]:=List.getElem?_eq_getElem (by omega)
    obtain ⟨p1,p2⟩:=hpr.2 _ hk0 hy
    generalize s.l[k-1]=y at *
    subst p1
    have hkn:((k:Int)-1).toNat=k-1:=by omega
    try simp (disch:=omega) only [go_sem,jF,jG,jH,↓reduceIte,reduceCtorEq,jO,hob,ak,dz,hy,hkn,gE,Option.map_some]
    repeat (refine And.intro (by first | omega | (rw [n4]; omega) | (simp [maxLen]; done) | (simp [maxLen]; omega)) ?_)
    refine ah (fun g4=>?_) (fun g4=>?_) <;> try simp (disch:=omega) only [go_sem,jF,↓reduceIte,jO]
    ·exact no (hbad (by rw [hst,hp]; simp; omega))
    exact bl hkl ⟨(by first | rfl | (simp (disch:=omega) only [go_sem,jA,jB,jC,jD,jE,jF,jG,jH,jI,jJ,↓reduceIte,reduceCtorEq,jP,jO,jM,jN]; try rfl)),by try simp (disch:=omega) only [go_sem,jE,↓reduceIte,jM]; exact hob,by rw [hst,hp]; simp; omega⟩
   ·have hp0:=hpr.1 (by omega)
    try simp (disch:=omega) only [go_sem,jF,↓reduceIte,jO]
    exact bl hkl ⟨(by first | rfl | (simp (disch:=omega) only [go_sem,jA,jB,jC,jD,jE,jF,jG,jH,jI,jJ,↓reduceIte,reduceCtorEq,jP,jO,jM,jN]; try rfl)),by try simp (disch:=omega) only [go_sem,jE,↓reduceIte,jM]; exact hob,by rw [hst,hp]; simp; omega⟩
  ·try simp (disch:=omega) only [go_sem,↓reduceIte]
   have:k=s.l.length:=by omega
   subst this
   rw [List.take_length] at hj
   exact aw.of_eq (by simp [lG,h1,hj]; omega) rfl
theorem ru (a b:List Od) (ha:a.length≤9223372036854775807):PC prog s5 [.list 4 (cH a),.list 4 (cH b)] (.bool (decide (a=b))):=by
 refine ae tq (by simp) ?_
 simp only [lj,go_sem,jF,↓reduceIte,reduceCtorEq,ak]
 refine aZ (fun h=>?_) (fun h=>?_) <;> try simp (disch:=omega) only [go_sem,↓reduceIte,reduceCtorEq,ak]
 ·exact aw.of_eq (by congr 1; simp; intro hab; exact h (by rw [hab])) rfl
 have hl:a.length=b.length:=by omega
 refine bw [4,5,13,14,15,16,17,18,19,20,21,22,23,24,25] (by kernel_rfl) a.length (fun k e _=>e 13=.int .i64 k∧∀ j,j<k→a[j]?=b[j]?) ?_ ?_
 ·exact ⟨(by first | rfl | (simp (disch:=omega) only [go_sem,jA,jB,jC,jD,jE,jF,jG,jH,jI,jJ,↓reduceIte,reduceCtorEq,jP,jO,jM,jN]; try rfl)),by simp⟩
 ·rintro k fe ob c hk ⟨h13,hj⟩
  simp (maxSteps:=1000000) only [go_sem,jF,↓reduceIte] at h13
  try simp (disch:=omega) only [go_sem,jF,↓reduceIte,h13]
  refine ah (fun hlt=>?_) (fun hge=>?_)
  ·have hka:k<a.length:=by omega
   have hga:a[k]?=some a[k]:=List.getElem?_eq_getElem hka
   have hgb:b[k]?=some b[k]:=List.getElem?_eq_getElem (by omega)
   generalize a[k]=x at *
   generalize b[k]=y at *
   try simp (disch:=omega) only [go_sem,jF,jH,↓reduceIte,reduceCtorEq,ak,dz,hga,hgb,gE,Option.map_some]
   refine ⟨by omega,by omega,by omega,by omega,?_⟩
   have hxy:(decide (x.n=y.n)&&(decide (x.k=y.k)&&(decide (x.i=y.i)&&decide (x.v=y.v))))=decide (x=y):=by cases x; cases y; simp
   rw [hxy]
   refine aZ (fun hne=>?_) (fun heq=>?_) <;> try simp (disch:=omega) only [go_sem,jF,↓reduceIte,jO]
   ·refine aw.of_eq ?_ rfl
    congr 1
    simp only [Bool.false_eq,decide_eq_false_iff_not]
    intro hab
    subst hab
    rw [hga] at hgb
    exact hne (Option.some.inj hgb)
   ·refine bl hka ⟨(by first | rfl | (simp (disch:=omega) only [go_sem,jA,jB,jC,jD,jE,jF,jG,jH,jI,jJ,↓reduceIte,reduceCtorEq,jP,jO,jM,jN]; try rfl)),?_⟩
    intro j hj'
    by_cases e:j=k
    ·subst e; rw [hga,hgb,heq]
    ·exact hj j (by omega)
  ·try simp (disch:=omega) only [go_sem,↓reduceIte]
   exact aw.of_eq (by congr 1; simp; exact bU hl fun j hj'=>hj j (by omega)) rfl
theorem ot (a b:List Od) (ha:a.length≤9223372036854775807):PC prog pJ [.list 4 (cH a),.list 4 (cH b)] (.bool (decide (a=b))):=by
 refine ae pM (by simp) ?_
 simp only [gQ,go_sem,jF,↓reduceIte,reduceCtorEq,ak]
 refine aZ (fun h=>?_) (fun h=>?_) <;> try simp (disch:=omega) only [go_sem,↓reduceIte,reduceCtorEq,ak]
 ·exact aw.of_eq (by congr 1; simp; intro hab; exact h (by rw [hab])) rfl
 have hl:a.length=b.length:=by omega
 refine bw [4,5,13,14,15,16,17,18,19,20,21,22,23,24,25] (by kernel_rfl) a.length (fun k e _=>e 13=.int .i64 k∧∀ j,j<k→a[j]?=b[j]?) ?_ ?_
 ·exact ⟨(by first | rfl | (simp (disch:=omega) only [go_sem,jA,jB,jC,jD,jE,jF,jG,jH,jI,jJ,↓reduceIte,reduceCtorEq,jP,jO,jM,jN]; try rfl)),by simp⟩
 ·rintro k fe ob c hk ⟨h13,hj⟩
  simp (maxSteps:=1000000) only [go_sem,jF,↓reduceIte] at h13
  try simp (disch:=omega) only [go_sem,jF,↓reduceIte,h13]
  refine ah (fun hlt=>?_) (fun hge=>?_)
  ·have hka:k<a.length:=by omega
   have hga:a[k]?=some a[k]:=List.getElem?_eq_getElem hka
   have hgb:b[k]?=some b[k]:=List.getElem?_eq_getElem (by omega)
   generalize a[k]=x at *
   generalize b[k]=y at *
   try simp (disch:=omega) only [go_sem,jF,jH,↓reduceIte,reduceCtorEq,ak,dz,hga,hgb,gE,Option.map_some]
   refine ⟨by omega,by omega,by omega,by omega,?_⟩
   have hxy:(decide (x.n=y.n)&&(decide (x.k=y.k)&&(decide (x.i=y.i)&&decide (x.v=y.v))))=decide (x=y):=by cases x; cases y; simp
   rw [hxy]
   refine aZ (fun hne=>?_) (fun heq=>?_) <;> try simp (disch:=omega) only [go_sem,jF,↓reduceIte,jO]
   ·refine aw.of_eq ?_ rfl
    congr 1
    simp only [Bool.false_eq,decide_eq_false_iff_not]
    intro hab
    subst hab
    rw [hga] at hgb
    exact hne (Option.some.inj hgb)
   ·refine bl hka ⟨(by first | rfl | (simp (disch:=omega) only [go_sem,jA,jB,jC,jD,jE,jF,jG,jH,jI,jJ,↓reduceIte,reduceCtorEq,jP,jO,jM,jN]; try rfl)),?_⟩
    intro j hj'
    by_cases e:j=k
    ·subst e; rw [hga,hgb,heq]
    ·exact hj j (by omega)
  ·try simp (disch:=omega) only [go_sem,↓reduceIte]
   exact aw.of_eq (by congr 1; simp; exact bU hl fun j hj'=>hj j (by omega)) rfl
theorem zM (a b:Sd) (ha:a.l.length≤9223372036854775807):PC prog BI [mr a,mr b] (.bool (decide (a=b))):=by
 refine ae B7 (by simp) ?_
 simp only [sF,go_sem,jF,jG,jH,↓reduceIte,reduceCtorEq,mr]
 have hab:decide (a=b)=(decide (a.n=b.n)&&decide (a.l=b.l)):=by cases a; cases b; simp
 rw [hab]
 refine bB rfl (fun g1=>?_) (fun g1=>?_) <;> try simp (disch:=omega) only [go_sem,jF,jG,jH,↓reduceIte,reduceCtorEq]
 ·refine ab (ot a.l b.l ha) (by simp [go_sem]) ?_
  try simp (disch:=omega) only [go_sem,jF,↓reduceIte]
  exact aw.of_eq (by simp [g1]) rfl
 ·exact aw.of_eq (by simp [g1]) rfl
theorem Br (a b:Sd) (ha:a.l.length≤9223372036854775807):PC prog DF [mr a,mr b] (.bool (decide (a=b))):=by
 refine ae Ej (by simp) ?_
 simp only [vj,go_sem,jF,jG,jH,↓reduceIte,reduceCtorEq,mr]
 have hab:decide (a=b)=(decide (a.n=b.n)&&decide (a.l=b.l)):=by cases a; cases b; simp
 rw [hab]
 refine bB rfl (fun g1=>?_) (fun g1=>?_) <;> try simp (disch:=omega) only [go_sem,jF,jG,jH,↓reduceIte,reduceCtorEq]
 ·refine ab (ru a.l b.l ha) (by simp [go_sem]) ?_
  try simp (disch:=omega) only [go_sem,jF,↓reduceIte]
  exact aw.of_eq (by simp [g1]) rfl
 ·exact aw.of_eq (by simp [g1]) rfl
theorem x5 (s:Sd) (k i v:Int) (hl:s.l.length≤9223372036854775807):PC prog zX [mr s,.int .i64 k,.int .i64 i,.int .i64 v] (.tuple [mr (cK s k i v).1,gE (cK s k i v).2.1,.int .i64 (cK s k i v).2.2]):=by
 have no:∀ {σ:St} (e:Int),cK s k i v=(⟨0,[]⟩,⟨0,0,0,0⟩,e)→aw σ (.tuple [.agg [.int .i64 0,.nil],.agg [.int .i64 0,.int .i64 0,.int .i64 0,.int .i64 0],.int .i64 e]) (.tuple [mr (cK s k i v).1,gE (cK s k i v).2.1,.int .i64 (cK s k i v).2.2]):=by
  intro σ e h
  rw [h]
  exact aw.tu (.cons (aw.ag (.cons (.pure rfl) (.cons (.nl 4) .nil))) (.cons (.pure rfl) (.cons (.pure rfl) .nil)))
 refine ae AZ (by simp) ?_
 simp only [qE,go_sem,jF,jG,jH,↓reduceIte,reduceCtorEq,mr]
 refine ab (jm s hl) (by simp [go_sem]) ?_
 cases hok:db s <;> try simp (disch:=omega) only [go_sem,jF,jG,jH,↓reduceIte,reduceCtorEq]
 ·exact no 50 (by simp [cK,hok])
 have hb:=fh hok
 refine ab (oS k i v) (by simp [go_sem]) ?_
 try simp (disch:=omega) only [go_sem,↓reduceIte]
 refine aZ (fun hf=>?_) (fun hf=>?_) <;> try simp (disch:=omega) only [go_sem,jF,jG,jH,↓reduceIte,reduceCtorEq]
 ·exact no (dI k i v) (by simp [cK,hok,hf])
 try simp (disch:=omega) only [go_sem,ak]
 have fin:s.l.length=64∨s.n=1073741824→cK s k i v=(⟨0,[]⟩,⟨0,0,0,0⟩,10):=fun h=>by simp only [cK,hok,hf,if_true,if_pos h]
 refine bF rfl (fun g1=>?_) (fun g1=>?_) <;> try simp (disch:=omega) only [go_sem,jF,jG,jH,↓reduceIte,reduceCtorEq]
 ·exact no 10 (fin (.inl (by omega)))
 refine ah (fun g2=>?_) (fun g2=>?_) <;> try simp (disch:=omega) only [go_sem,jF,jG,jH,↓reduceIte,reduceCtorEq,jO]
 ·exact no 10 (fin (.inr g2))
 have hr:cK s k i v=(⟨s.n+1,s.l++[⟨s.n,k,i,v⟩]⟩,⟨s.n,k,i,v⟩,0):=by simp only [cK,hok,hf,if_true]; rw [if_neg (by omega)]
 rw [hr]
 refine (dg _ (cH s.l) (by rw [ak]; omega)).mono ?_
 rintro _ τ ⟨id,g,rfl,q1,q2,q3,q4⟩
 obtain ⟨ob,m,c⟩:=τ
 have p0:=q4 0 (by simp [go_sem])
 have p1:=q4 1 (by simp [go_sem])
 have p2:=q4 2 (by simp [go_sem])
 have p3:=q4 3 (by simp [go_sem])
 simp (maxSteps:=1000000) only [go_sem,jF,↓reduceIte,reduceCtorEq] at q1 q2 q3 p0 p1 p2 p3
 try simp (disch:=omega) only [go_sem,jF,jG,jH,↓reduceIte,reduceCtorEq,jM,ak,q3,p1,p2]
 refine ⟨⟨p3,p3,p0⟩,by rw [n4]; omega,by omega,?_⟩
 refine aw.tu (.cons (aw.ag (.cons (.pure rfl) (.cons ?_ .nil))) (.cons (.pure rfl) (.cons (.pure rfl) .nil)))
 refine aw.dv (n:=s.l.length+1) (ty:=dq) (ro:=false) (ap:=true) (l:=cH (s.l++[⟨s.n,k,i,v⟩])) ?_ (by simp [ak]) (ep _) (ib _)
 have h1:¬id=1:=by omega
 have h2:¬id=2:=by omega
 simp [h1,h2,go_sem,cH,gE]
theorem kG (s:Sd) (k i v:Int) (hl:s.l.length≤9223372036854775807):PC prog BE [mr s,.int .i64 k,.int .i64 i,.int .i64 v] (.tuple [mr (cK s k i v).1,gE (cK s k i v).2.1,.int .i64 (cK s k i v).2.2]):=by
 have no:∀ {σ:St} (e:Int),cK s k i v=(⟨0,[]⟩,⟨0,0,0,0⟩,e)→aw σ (.tuple [.agg [.int .i64 0,.nil],.agg [.int .i64 0,.int .i64 0,.int .i64 0,.int .i64 0],.int .i64 e]) (.tuple [mr (cK s k i v).1,gE (cK s k i v).2.1,.int .i64 (cK s k i v).2.2]):=by
  intro σ e h
  rw [h]
  exact aw.tu (.cons (aw.ag (.cons (.pure rfl) (.cons (.nl 4) .nil))) (.cons (.pure rfl) (.cons (.pure rfl) .nil)))
 refine ae B0 (by simp) ?_
 simp only [sB,go_sem,jF,jG,jH,↓reduceIte,reduceCtorEq,mr]
 refine ab (kF s hl) (by simp [go_sem]) ?_
 cases hok:db s <;> try simp (disch:=omega) only [go_sem,jF,jG,jH,↓reduceIte,reduceCtorEq]
 ·exact no 50 (by simp [cK,hok])
 have hb:=fh hok
 refine ab (rS k i v) (by simp [go_sem]) ?_
 try simp (disch:=omega) only [go_sem,↓reduceIte]
 refine aZ (fun hf=>?_) (fun hf=>?_) <;> try simp (disch:=omega) only [go_sem,jF,jG,jH,↓reduceIte,reduceCtorEq]
 ·exact no (dI k i v) (by simp [cK,hok,hf])
 try simp (disch:=omega) only [go_sem,ak]
 have fin:s.l.length=64∨s.n=1073741824→cK s k i v=(⟨0,[]⟩,⟨0,0,0,0⟩,10):=fun h=>by simp only [cK,hok,hf,if_true,if_pos h]
 refine bF rfl (fun g1=>?_) (fun g1=>?_) <;> try simp (disch:=omega) only [go_sem,jF,jG,jH,↓reduceIte,reduceCtorEq]
 ·exact no 10 (fin (.inl (by omega)))
 refine ah (fun g2=>?_) (fun g2=>?_) <;> try simp (disch:=omega) only [go_sem,jF,jG,jH,↓reduceIte,reduceCtorEq,jO]
 ·exact no 10 (fin (.inr g2))
 have hr:cK s k i v=(⟨s.n+1,s.l++[⟨s.n,k,i,v⟩]⟩,⟨s.n,k,i,v⟩,0):=by simp only [cK,hok,hf,if_true]; rw [if_neg (by omega)]
 rw [hr]
 refine cV (es:=4) (b:=32) (L:=[]) (M:=cH s.l) .nil (by simp [ak]; omega) (by simp [ak]; omega) fun X1 τ1 hR1 hK1=>?_
 try simp (disch:=omega) only [go_sem,jF,↓reduceIte,reduceCtorEq]
 have hk:=hK1.1
 have p0:=hK1.2.1 0 (by simp [go_sem]) (aY.nil 0)
 have p1:=hK1.2.1 1 (by simp [go_sem]) (aY.nil 1)
 have p2:=hK1.2.1 2 (by simp [go_sem]) (aY.nil 2)
 have p3:=hK1.2.1 3 (by simp [go_sem]) (aY.nil 3)
 have o0:=hK1.2.2 0 (by simp [go_sem]) (aY.nil 0)
 have o3:=hK1.2.2 3 (by simp [go_sem]) (aY.nil 3)
 have o1:=hK1.2.2 1 (by simp [go_sem]) (aY.nil 1)
 have o2:=hK1.2.2 2 (by simp [go_sem]) (aY.nil 2)
 simp (maxSteps:=1000000) only [go_sem,jF,↓reduceIte,reduceCtorEq] at p0 p1 p2 p3 hk
 refine ⟨⟨p3,p3,p0⟩,?_⟩
 refine bH hR1 (by simp [ak]; omega) (by simp [ak]; omega) fun X2 τ2 hR2 hK2=>?_
 have r1:=hK2.2.1 1 (by omega) o1
 have r2:=hK2.2.1 2 (by omega) o2
 have r0:=hK2.2.1 0 (by omega) o0
 have r3:=hK2.2.1 3 (by omega) o3
 have o1:=hK2.2.2 1 (by omega) o1
 have o2:=hK2.2.2 2 (by omega) o2
 rw [p1] at r1
 rw [p2] at r2
 obtain ⟨ob2,m2,c2⟩:=τ2
 simp only at r0 r1 r2 r3
 try simp (disch:=omega) only [go_sem,jF,jG,jH,↓reduceIte,reduceCtorEq,hR2.one,hR2.flat,hR2.cells,r1,r2,r0,r3]
 refine aw.three (aw.ag (.cons ?_ (.cons ?_ .nil))) ?_ ?_
 ·exact .pure rfl
 rotate_left
 ·exact .pure rfl
 ·exact .pure rfl
 rw [show []++cH s.l++[AV.agg [AV.int .i64 s.n,AV.int .i64 k,AV.int .i64 i,AV.int .i64 v]]=cH (s.l++[⟨s.n,k,i,v⟩]) by simp [cH,gE]] at hR2
 refine hR2.mU (fun i hi hi2=>?_) (ep _) (ib _)
 have h1:¬i=1:=fun e=>hi2 (by subst e; exact o1)
 have h2:¬i=2:=fun e=>hi2 (by subst e; exact o2)
 simp [h1,h2,go_sem]
theorem ku (l:List Od) (f:Nat) (caps:List AV) (p:Od→Bool) (hc:∀ x∈caps,x.cL=true) (hl:l.length≤9223372036854775807) (hcb:∀ x∈l,PC prog f (gE x :: caps) (.bool (p x))) :
  PC prog lK [.list 4 (cH l),.func f caps] (.int .i64 (match l.findIdx? p with | some i=>(i:Int) | none=>-1)):=by
 refine ae lP (by simp) ?_
 simp only [eI,go_sem,↓reduceIte,reduceCtorEq,ak]
 refine bw [4,5,8,9,10,11,12,13,14,15,16,17,18] (by kernel_rfl) l.length (fun k e _=>e 8=.int .i64 k∧(l.take k).all (fun x=>!p x)=true) ?_ ?_
 ·exact ⟨(by first | rfl | (simp (disch:=omega) only [go_sem,jA,jB,jC,jD,jE,jF,jG,jH,jI,jJ,↓reduceIte,reduceCtorEq,jP,jO,jM,jN]; try rfl)),by simp⟩
 ·rintro k fe ob c hk ⟨h8,hj⟩
  simp (maxSteps:=1000000) only [go_sem,jF,↓reduceIte] at h8
  try simp (disch:=omega) only [go_sem,jF,↓reduceIte,h8]
  refine ah (fun hlt=>?_) (fun hge=>?_)
  ·have hkl:k<l.length:=by omega
   have hk2:l[k]?=some l[k]:=List.getElem?_eq_getElem hkl
   have hst:(l.take (k+1)).all (fun x=>!p x)=!p l[k]:=by
    rw [List.take_add_one,hk2,List.all_append,hj]; simp
   have hfi:p l[k]=true→l.findIdx? p=some k:=fun hp=>by
    rw [List.findIdx?_eq_some_iff_getElem]
    refine ⟨hkl,hp,fun j hj'=>?_⟩
    rw [List.all_eq_true] at hj
    have:=hj l[j] (by rw [List.mem_take_iff_getElem]; exact ⟨j,by omega,rfl⟩)
    simpa using this
   have hmem:l[k]∈l:=List.getElem_mem _
   generalize l[k]=x at *
   try simp (disch:=omega) only [go_sem,jF,jH,↓reduceIte,reduceCtorEq,ak,dz,hk2,Option.map_some,gE]
   refine ⟨by omega,by omega,?_⟩
   refine ab (hcb x hmem) (by simpa [go_sem,gE] using hc) ?_
   try simp (disch:=omega) only [go_sem,↓reduceIte]
   cases hp:p x
   ·try simp (disch:=omega) only [go_sem,jF,↓reduceIte,jO]
    exact bl hkl ⟨(by first | rfl | (simp (disch:=omega) only [go_sem,jA,jB,jC,jD,jE,jF,jG,jH,jI,jJ,↓reduceIte,reduceCtorEq,jP,jO,jM,jN]; try rfl)),by rw [hst,hp]; rfl⟩
   ·try simp (disch:=omega) only [go_sem,jF,↓reduceIte]
    rw [hfi hp]
    exact aw.of_eq rfl rfl
  ·try simp (disch:=omega) only [go_sem,↓reduceIte]
   have:k=l.length:=by omega
   subst this
   rw [List.take_length] at hj
   have:l.findIdx? p=none:=by
    rw [List.findIdx?_eq_none_iff]
    intro x hx
    rw [List.all_eq_true] at hj
    simpa using hj x hx
   rw [this]
   exact aw.of_eq rfl rfl
def Kx (σ:St) (id g es:Nat) (ty:TypeId) (K:List AV) (r:AV) (τ:St):Prop:=
 (∃ Z,τ.ob id=some ⟨g,es,ty,false,true,K++Z⟩)∧(r=.sl id g es 0 K.length∨(K=[]∧r=.list es []))∧σ.n≤τ.n∧∀ k,k<σ.n→k≠id→τ.ob k=σ.ob k
theorem Kx.mU {σ:St} {id g es:Nat} {ty:TypeId} {K:List AV} {r:AV} {τ τ':St} (h:Kx σ id g es ty K r τ) (ht:τ'.ob id=τ.ob id) (hp:∀ x∈K,x.cL=true) (hk:∀ x∈K,mF es x):aw τ' r (.list es K):=by
 obtain ⟨⟨Z,h1⟩,rfl | ⟨rfl,rfl⟩,_⟩:=h
 ·rw [←ht] at h1
  have e:((K++Z).drop 0).take K.length=K:=by simp
  refine .sl h1 rfl rfl (by simp) (by simp) (fun i x y hx hy=>?_) hk
  simp only [] at hx
  rw [e,hy] at hx
  obtain rfl:=Option.some.inj hx
  exact .pure (hp _ (List.mem_of_getElem? hy))
 ·exact .pure rfl
theorem Kx.one {σ:St} {id g es:Nat} {ty:TypeId} {K:List AV} {r:AV} {τ:St} (h:Kx σ id g es ty K r τ):r.one=true∧r.flat=true∧r.cells=[r]:=by
 obtain ⟨_,rfl | ⟨_,rfl⟩,_⟩:=h <;> exact ⟨rfl,rfl,rfl⟩
theorem ka (σ:St) (id g:Nat) (ty:TypeId) (l:List Od) (f:Nat) (cs ds:List AV) (p:Od→Bool) (hob:σ.ob id=some ⟨g,4,ty,false,true,cH l⟩) (hid:id<σ.n) (hd:∀ x∈ds,x.cL=true) (hl:l.length≤4611686018427387904)
  (hp:∀ τ:St,(∀ k,k<σ.n→k≠id→τ.ob k=σ.ob k)→Cl τ cs ds) (hcb:∀ x∈l,PC prog f (gE x :: ds) (.bool (p x))) :
  HC prog kO [.sl id g 4 0 l.length,.func f cs] σ (Kx σ id g 4 ty (cH (l.filter fun x=>!p x))):=by
 obtain ⟨dH,n0,c0⟩:=σ
 simp only at hob hid hp
 refine aL lz (by simp) ?_
 simp only [ed,go_sem,jF,↓reduceIte,reduceCtorEq]
 have h0:=hp ⟨dH,n0,c0⟩ (fun _ _ _=>rfl)
 refine rf (ku l f ds p hd (by omega) hcb) (.cons (aw.dv hob (by rw [ak]) (ep l) (ib l)) (.cons (.func h0.get.1 h0.get.2) .nil)) rfl ?_
 cases hf:l.findIdx? p with
 | none=>
  rw [List.findIdx?_eq_none_iff] at hf
  have he:l.filter (fun x=>!p x)=l:=List.filter_eq_self.2 fun x hx=>by simp [hf x hx]
  rw [he]
  try simp (disch:=omega) only [go_sem,↓reduceIte,reduceCtorEq]
  exact ⟨⟨[],by rw [List.append_nil]; exact hob⟩,.inl (by rw [ak]),Nat.le_refl _,fun _ _ _=>rfl⟩
 | some i0=>
  obtain ⟨hi0,hpi,hlo⟩:=List.findIdx?_eq_some_iff_getElem.1 hf
  have hg0:l[i0]?=some l[i0]:=List.getElem?_eq_getElem hi0
  have hne:¬((i0:Int)=-1):=by omega
  try simp (disch:=omega) only [go_sem,jF,↓reduceIte,jO,hne]
  refine xp [5,6,7,16,17,18,19,20,21,22,23,24,25,26,27,28,29,30,31,32,33,34,35] (by kernel_rfl) (fun r e τ=>∃ (i j:Nat) (M:List Od),e 5=.int .i64 i∧e 6=.int .i64 j∧i<j∧j≤l.length∧r=l.length-j∧M.length=l.length∧τ.ob id=some ⟨g,4,ty,false,true,cH M⟩∧
   M.take i=(l.take j).filter (fun x=>!p x)∧M.drop j=l.drop j∧∀ k,k<n0→k≠id→τ.ob k=dH k) (l.length-(i0+1)) ?_ ?_
  ·refine ⟨i0,i0+1,l,(by first | rfl | (simp (disch:=omega) only [go_sem,jA,jB,jC,jD,jE,jF,jG,jH,jI,jJ,↓reduceIte,reduceCtorEq,jP,jO,jM,jN]; try rfl)),(by first | rfl | (simp (disch:=omega) only [go_sem,jA,jB,jC,jD,jE,jF,jG,jH,jI,jJ,↓reduceIte,reduceCtorEq,jP,jO,jM,jN]; try rfl)),by omega,by omega,rfl,rfl,hob,?_,rfl,fun _ _ _=>rfl⟩
   rw [iz l _ i0 _ hg0]
   simp only [hpi,Bool.not_true,Bool.false_eq_true,if_false,List.append_nil]
   rw [List.filter_eq_self.2]
   intro x hx
   rw [List.mem_take_iff_getElem] at hx
   obtain ⟨j,hj,rfl⟩:=hx
   have:=hlo j (by omega)
   simpa using this
  ·rintro r fe ob c ⟨i,j,M,h5,h6,hij,hjl,rfl,hM,ho,hT,hD,hk⟩
   simp (maxSteps:=1000000) only [go_sem,jF,↓reduceIte] at h5 h6 ho hk
   try simp (disch:=omega) only [go_sem,jF,↓reduceIte,reduceCtorEq,h5,h6]
   refine ah (fun hlt=>?_) (fun hge=>?_)
   ·have hjl2:j<l.length:=by omega
    have hg:l[j]?=some l[j]:=List.getElem?_eq_getElem hjl2
    have hgM:M[j]?=some l[j]:=by
     have:=congrArg (fun z=>z[0]?) hD
     simpa [hg] using this
    have hmem:l[j]∈l:=List.getElem_mem _
    have hft:=iz l (fun x=>!p x) j _ hg
    have hDs:M.drop (j+1)=l.drop (j+1):=by rw [←List.drop_drop,←List.drop_drop,hD]
    generalize l[j]=x at *
    have hidn:¬id=n0:=by omega
    try simp (disch:=omega) only [go_sem,jF,jG,jH,↓reduceIte,reduceCtorEq,ho,dz,hgM,Option.map_some,gE]
    refine ⟨by omega,by omega,?_⟩
    refine rf (hcb x hmem) (.cons (.pure (by simp [go_sem])) (hp _ fun k hk1 hk2=>?_)) rfl ?_
    ·have:¬k=n0:=by omega
     try simp (disch:=omega) only [go_sem,↓reduceIte,this]
     exact hk k hk1 hk2
    cases hpx:p x
    ·try simp (disch:=omega) only [go_sem,jF,jG,jH,↓reduceIte,reduceCtorEq,jO,jM,ho,hidn]
     refine ⟨by omega,by omega,?_⟩
     have hgi:(cH M)[i]?=some (gE M[i]):=by rw [dz,List.getElem?_eq_getElem (by omega)]; rfl
     try simp (disch:=omega) only [go_sem,jG,hgi,gE]
     refine ⟨l.length-(j+1),by omega,_,Nat.le_refl _,rfl,i+1,j+1,M.set i x,(by first | rfl | (simp (disch:=omega) only [go_sem,jA,jB,jC,jD,jE,jF,jG,jH,jI,jJ,↓reduceIte,reduceCtorEq,jP,jO,jM,jN]; try rfl)),(by first | rfl | (simp (disch:=omega) only [go_sem,jA,jB,jC,jD,jE,jF,jG,jH,jI,jJ,↓reduceIte,reduceCtorEq,jP,jO,jM,jN]; try rfl)),by omega,by omega,rfl,by simp [hM],?_,?_,?_,fun k hk1 hk2=>?_⟩
     ·try simp (disch:=omega) only [go_sem,jN]
      simp [cH,gE,List.map_set]
     ·rw [hft,hpx,←hT,List.take_add_one,List.take_set_of_le (by omega),List.getElem?_set_self (by omega)]
      rfl
     ·rw [List.drop_set_of_lt (by omega),hDs]
     ·have:¬k=n0:=by omega
      try simp (disch:=omega) only [go_sem,↓reduceIte,jN,this,hk2]
      exact hk k hk1 hk2
    ·try simp (disch:=omega) only [go_sem,jF,↓reduceIte,jO,jM,ho,hidn]
     refine ⟨l.length-(j+1),by omega,_,Nat.le_refl _,rfl,i,j+1,M,(by first | rfl | (simp (disch:=omega) only [go_sem,jA,jB,jC,jD,jE,jF,jG,jH,jI,jJ,↓reduceIte,reduceCtorEq,jP,jO,jM,jN]; try rfl)),(by first | rfl | (simp (disch:=omega) only [go_sem,jA,jB,jC,jD,jE,jF,jG,jH,jI,jJ,↓reduceIte,reduceCtorEq,jP,jO,jM,jN]; try rfl)),by omega,by omega,rfl,hM,?_,?_,hDs,fun k hk1 hk2=>?_⟩
     ·try simp (disch:=omega) only [go_sem,jN]
     ·rw [hft,hpx,←hT]
      simp
     ·have:¬k=n0:=by omega
      try simp (disch:=omega) only [go_sem,↓reduceIte,jN,this]
      exact hk k hk1 hk2
   ·have hjl3:j=l.length:=by omega
    subst hjl3
    rw [List.take_length] at hT
    rw [←hT]
    try simp (disch:=omega) only [go_sem,jF,↓reduceIte,reduceCtorEq,jL]
    refine ⟨⟨_,ho,rfl⟩,by omega,by omega,fun h=>by omega,fun _=>?_⟩
    try simp (disch:=omega) only [go_sem,↓reduceIte,ho,ak]
    refine ⟨by omega,by omega,by omega,?_⟩
    have hil:i+(l.length-i)=l.length:=by omega
    have hKl:((cH (M.take i))).length=i:=by rw [ak,List.length_take]; omega
    have hkk:∀ (Y:Option aU) k,k<n0→¬k=id→(bd ob id Y) k=dH k:=fun Y k h1 h2=>by rw [aa _ _ _ _ h2]; exact hk k h1 h2
    have hZ:(cH M).take i=cH (M.take i):=by simp [cH,List.map_take]
    refine ⟨fun h=>?_,fun h=>?_⟩
    ·subst h
     try simp (disch:=omega) only [go_sem,jK]
     refine ⟨⟨List.replicate (l.length-0) (.agg [.int .i64 0,.int .i64 0,.int .i64 0,.int .i64 0])++(cH M).drop (0+(l.length-0)),?_⟩,.inr ⟨by simp [cH],rfl⟩,Nat.le_refl _,hkk _⟩
     simp [cH,go_sem]
    ·try simp (disch:=omega) only [go_sem,jA,jB,jC,jD,jE,jF,jG,jH,jI,jJ,↓reduceIte,reduceCtorEq,jO,jM,jN,jK,jL]
     refine ⟨⟨List.replicate (l.length-i) (.agg [.int .i64 0,.int .i64 0,.int .i64 0,.int .i64 0])++(cH M).drop (i+(l.length-i)),?_⟩,.inl (by rw [hKl]),Nat.le_refl _,hkk _⟩
     simp [go_sem,hZ]
theorem rv (o:Od) (n:Int):PC prog kR [gE o,.eQ 1 [.int .i64 n] 0 0] (.bool (decide (o.n≤n))):=by
 refine ae tt (by simp) ?_
 simp only [lq,go_sem,jF,jG,jH,↓reduceIte,reduceCtorEq,gE]
 try simp (disch:=omega) only [go_sem,jA,jB,jC,jD,jE,jF,jG,jH,jI,jJ,↓reduceIte,reduceCtorEq,jO,jM,jN,jK,jL]
 exact aw.of_eq rfl rfl
theorem ui (s:Sd) (n:Int) (hl:s.l.length≤9223372036854775807):PC prog wx [mr s,.int .i64 n] (.tuple [mr (dK s n).1,.int .i64 (dK s n).2]):=by
 have no:∀ {σ:St} (e:Int),dK s n=(⟨0,[]⟩,e)→aw σ (.tuple [.agg [.int .i64 0,.nil],.int .i64 e]) (.tuple [mr (dK s n).1,.int .i64 (dK s n).2]):=by
  intro σ e h
  rw [h]
  exact aw.pair (aw.ag (.cons (.pure rfl) (.cons (.nl 4) .nil))) (.pure rfl)
 refine ae xc (by simp) ?_
 simp only [nM,go_sem,jF,jG,jH,↓reduceIte,reduceCtorEq,mr]
 refine ab (jm s hl) (by simp [go_sem]) ?_
 cases hok:db s <;> try simp (disch:=omega) only [go_sem,jF,jG,jH,↓reduceIte]
 ·exact no 50 (by simp [dK,hok])
 have hb:=fh hok
 have fin:n<0∨s.n≤n→dK s n=(⟨0,[]⟩,1):=fun h=>by simp only [dK,hok,if_true,if_pos h]
 refine bF rfl (fun g1=>?_) (fun g1=>?_) <;> try simp (disch:=omega) only [go_sem,jF,jG,jH,↓reduceIte,reduceCtorEq]
 ·exact no 1 (fin (.inl (by omega)))
 refine ah (fun g2=>?_) (fun g2=>?_) <;> try simp (disch:=omega) only [go_sem,jF,jG,jH,↓reduceIte,reduceCtorEq]
 ·exact no 1 (fin (.inr g2))
 have hr:dK s n=(⟨s.n,s.l.filter fun o=>!decide (o.n≤n)⟩,0):=by simp only [dK,hok,if_true]; rw [if_neg (by omega)]
 rw [hr]
 refine (dg _ (cH s.l) (by rw [ak]; omega)).mono ?_
 rintro _ τ ⟨id,g,rfl,q1,q2,q3,q4⟩
 obtain ⟨ob,m,c⟩:=τ
 have p0:=q4 0 (by simp [go_sem])
 have p1:=q4 1 (by simp [go_sem])
 have p2:=q4 2 (by simp [go_sem])
 simp (maxSteps:=1000000) only [go_sem,jF,↓reduceIte,reduceCtorEq] at q1 q2 q3 p0 p1 p2
 try simp (disch:=omega) only [go_sem,jF,jH,↓reduceIte,ak,p0]
 have hD:=ka ⟨ob,m,c⟩ id g dq s.l kR [.ptr 1 1 1 0 0] [.eQ 1 [.int .i64 n] 0 0] (fun o=>decide (o.n≤n)) q3 q2 (by simp [go_sem]) (by omega)
  (fun τ hτ=>by
   have h1:τ.ob 1=_:=(hτ 1 (by simp only; omega) (by omega)).trans p1
   refine .cons (.ptr h1 rfl rfl rfl (by simp) (fun i a b ha hb=>?_) (by simp [mF,go_sem])) .nil
   rw [ha] at hb
   obtain rfl:=Option.some.inj hb
   cases i with
   | zero=>simp at ha; subst ha; exact .pure rfl
   | succ i=>simp at ha)
  (fun o _=>rv o n)
 refine hD.mono ?_
 intro r τ hR
 obtain ⟨o1,o2,o3⟩:=hR.one
 obtain ⟨ob2,m2,c2⟩:=τ
 have r0:=hR.2.2.2 0 (by simp only; omega) (by omega)
 have r1:=hR.2.2.2 1 (by simp only; omega) (by omega)
 have r2:=hR.2.2.2 2 (by simp only; omega) (by omega)
 simp only [p0,p1,p2] at r0 r1 r2
 try simp (disch:=omega) only [go_sem,jF,jG,jH,↓reduceIte,reduceCtorEq,r0,r2,p0,o1,o2,o3]
 refine aw.pair (aw.ag (.cons ?_ (.cons ?_ .nil))) ?_
 ·exact .pure rfl
 rotate_left
 ·exact .pure rfl
 refine hR.mU ?_ (ep _) (ib _)
 have h2:¬id=2:=by omega
 simp [h2,go_sem]
theorem ng (s:Sd) (n:Int) (hl:s.l.length≤9223372036854775807):PC prog yl [mr s,.int .i64 n] (.tuple [mr (dK s n).1,.int .i64 (dK s n).2]):=by
 have no:∀ {σ:St} (e:Int),dK s n=(⟨0,[]⟩,e)→aw σ (.tuple [.agg [.int .i64 0,.nil],.int .i64 e]) (.tuple [mr (dK s n).1,.int .i64 (dK s n).2]):=by
  intro σ e h
  rw [h]
  exact aw.pair (aw.ag (.cons (.pure rfl) (.cons (.nl 4) .nil))) (.pure rfl)
 refine ae yH (by simp) ?_
 simp only [pk,go_sem,jF,jG,jH,↓reduceIte,reduceCtorEq,mr]
 refine ab (kF s hl) (by simp [go_sem]) ?_
 cases hok:db s <;> try simp (disch:=omega) only [go_sem,jF,jG,jH,↓reduceIte,reduceCtorEq]
 ·exact no 50 (by simp [dK,hok])
 have hb:=fh hok
 have fin:n<0∨s.n≤n→dK s n=(⟨0,[]⟩,1):=fun h=>by simp only [dK,hok,if_true,if_pos h]
 refine bF rfl (fun g1=>?_) (fun g1=>?_) <;> try simp (disch:=omega) only [go_sem,jF,jG,jH,↓reduceIte,reduceCtorEq]
 ·exact no 1 (fin (.inl (by omega)))
 refine ah (fun g2=>?_) (fun g2=>?_) <;> try simp (disch:=omega) only [go_sem,jF,jG,jH,↓reduceIte,reduceCtorEq]
 ·exact no 1 (fin (.inr g2))
 have hr:dK s n=(⟨s.n,s.l.filter fun o=>!decide (o.n≤n)⟩,0):=by simp only [dK,hok,if_true]; rw [if_neg (by omega)]
 rw [hr]
 try simp (disch:=omega) only [go_sem,ak]
 refine aW [8,28,29,30,31,32,33,34,35,36,37,38,39,40,41,42] (by kernel_rfl) s.l.length (fun k e σ=>e 28=.int .i64 k∧∃ X,σ.ob 2=some ⟨2,2,47,false,true,[.agg [.int .i64 s.n,X]]⟩∧cu 4 30 σ (cH ((s.l.take k).filter fun o=>!decide (o.n≤n))) X∧aY X 2∧aY X 1∧σ.ob 1=some ⟨1,2,47,false,true,[.agg [.int .i64 0,.nil]]⟩) ?_ ?_
 ·exact ⟨(by first | rfl | (simp (disch:=omega) only [go_sem,jA,jB,jC,jD,jE,jF,jG,jH,jI,jJ,↓reduceIte,reduceCtorEq,jP,jO,jM,jN]; try rfl)),.nil,(by first | rfl | (simp (disch:=omega) only [go_sem,jA,jB,jC,jD,jE,jF,jG,jH,jI,jJ,↓reduceIte,reduceCtorEq,jP,jO,jM,jN]; try rfl)),.nil,aY.nil _,aY.nil _,(by first | rfl | (simp (disch:=omega) only [go_sem,jA,jB,jC,jD,jE,jF,jG,jH,jI,jJ,↓reduceIte,reduceCtorEq,jP,jO,jM,jN]; try rfl))⟩
 ·rintro k fe ob m c hk hm ⟨h28,X,h2,hR,ho2,ho1,h1⟩
  simp (maxSteps:=1000000) only [go_sem,jF,↓reduceIte] at h28 h2 h1 hR hm
  have hfl:((s.l.take k).filter fun o=>!decide (o.n≤n)).length≤64:=Nat.le_trans (List.length_filter_le _ _) (by simp; omega)
  try simp (disch:=omega) only [go_sem,jF,↓reduceIte,h28]
  refine ah (fun hlt=>?_) (fun hge=>?_)
  ·have hkl:k<s.l.length:=by omega
   have hk2:s.l[k]?=some s.l[k]:=List.getElem?_eq_getElem hkl
   have hft:=iz s.l (fun o=>!decide (o.n≤n)) k _ hk2
   generalize s.l[k]=o at *
   try simp (disch:=omega) only [go_sem,jF,jG,jH,↓reduceIte,reduceCtorEq,ak,dz,hk2,gE,Option.map_some]
   refine ⟨by omega,by omega,?_⟩
   refine ah (fun g=>?_) (fun g=>?_)
   ·have hm1:¬m=1:=by omega
    have hm2:¬m=2:=by omega
    try simp (disch:=omega) only [go_sem,jF,jG,jH,↓reduceIte,jM,h2]
    refine bH (hR.move (Nat.le_succ _) fun i hi _=>(by simp only at hi; try simp (disch:=omega) only [go_sem,jM])) (by rw [ak]; omega) (by rw [ak]; omega) fun X2 τ2 hR2 hK2=>?_
    have hn2:=hK2.1
    have r2:=hK2.2.1 2 (by simp only; omega) ho2
    have r1:=hK2.2.1 1 (by simp only; omega) ho1
    have o2:=hK2.2.2 2 (by simp only; omega) ho2
    have o1:=hK2.2.2 1 (by simp only; omega) ho1
    obtain ⟨ob2,m2,c2⟩:=τ2
    simp only at r1 r2 hn2
    try simp (disch:=omega) only [go_sem,jM,h2,h1] at r1 r2
    try simp (disch:=omega) only [go_sem,jF,jG,jH,↓reduceIte,jO,r2,hR2.flat,hR2.cells]
    have hft1:=hft.trans (by rw [show (!decide (o.n≤n))=true by simp; omega,if_pos rfl])
    refine aG m2 hkl (by omega) ⟨(by first | rfl | (simp (disch:=omega) only [go_sem,jA,jB,jC,jD,jE,jF,jG,jH,jI,jJ,↓reduceIte,reduceCtorEq,jP,jO,jM,jN]; try rfl)),X2,(by first | rfl | (simp (disch:=omega) only [go_sem,↓reduceIte,jN]; try rfl)),?_,o2,o1,by try simp (disch:=omega) only [go_sem,jF,↓reduceIte,jN]; exact r1⟩
    rw [hft1,show ∀ L:List Od,cH (L++[o])=cH L++[AV.agg [.int .i64 o.n,.int .i64 o.k,.int .i64 o.i,.int .i64 o.v]] from fun L=>by simp [cH,gE]]
    refine hR2.move (Nat.le_refl _) fun i hi hi2=>?_
    have:¬i=2:=fun e=>hi2 (by subst e; exact o2)
    simp only at hi
    try simp (disch:=omega) only [go_sem,↓reduceIte,jN,this]
   ·try simp (disch:=omega) only [go_sem,jF,↓reduceIte,jO]
    have hft1:=hft.trans (by rw [show (!decide (o.n≤n))=false by simp; omega,if_neg (by simp),List.append_nil])
    have hm1:¬m=1:=by omega
    have hm2:¬m=2:=by omega
    refine aG m hkl hm ⟨(by first | rfl | (simp (disch:=omega) only [go_sem,jA,jB,jC,jD,jE,jF,jG,jH,jI,jJ,↓reduceIte,reduceCtorEq,jP,jO,jM,jN]; try rfl)),X,?_,?_,ho2,ho1,?_⟩
    ·try simp (disch:=omega) only [go_sem,jM,jN]; exact h2
    ·rw [hft1]
     refine hR.move (Nat.le_refl _) fun i hi _=>?_
     simp only at hi
     try simp (disch:=omega) only [go_sem,jM,jN]
    ·try simp (disch:=omega) only [go_sem,jM,jN]; exact h1
  ·have hkl:k=s.l.length:=by omega
   subst hkl
   rw [List.take_length] at hR
   try simp (disch:=omega) only [go_sem,jF,jG,jH,↓reduceIte,h2,h1,hR.one]
   refine aw.pair (aw.ag (.cons ?_ (.cons ?_ .nil))) ?_
   ·exact .pure rfl
   rotate_left
   ·exact .pure rfl
   refine hR.mU (fun i hi hi2=>?_) (ep _) (ib _)
   have:¬i=1:=fun e=>hi2 (by subst e; exact ho1)
   simp [this,go_sem]
def SW (σ:St) (L:List AV) (k id g:Nat) (E:AV):Prop:=(k=L.length∧(E=.nil∨E=.list 4 []))∨(E=.sl id g 4 k (L.length-k)∧σ.ob id=some ⟨g,4,dq,false,true,L⟩)
theorem Bq (t:Sn) (o:Od) (hl:t.l.length≤9223372036854775807):PC prog DE [HV t,gE o] (.tuple [HV (cC t o).1,.list 4 (cH (cC t o).2.1),.int .i64 (cC t o).2.2.1,.int .i64 (cC t o).2.2.2]):=by
 have no:∀ {σ:St} (e:Int),cC t o=(⟨0,[]⟩,[],0,e)→aw σ (.tuple [.agg [.int .i64 0,.nil],.nil,.int .i64 0,.int .i64 e]) (.tuple [HV (cC t o).1,.list 4 (cH (cC t o).2.1),.int .i64 (cC t o).2.2.1,.int .i64 (cC t o).2.2.2]):=by
  intro σ e h
  rw [h]
  exact aw.tu (.cons (aw.ag (.cons (.pure rfl) (.cons (.nl 4) .nil))) (.cons (.nl 4) (.cons (.pure rfl) (.cons (.pure rfl) .nil))))
 refine ae Ei (by simp) ?_
 simp only [vi,go_sem,jF,jG,jH,↓reduceIte,reduceCtorEq,HV,gE]
 refine ab (zL t hl) (by simp [go_sem]) ?_
 cases hok:lG t <;> try simp (disch:=omega) only [go_sem,jF,jG,jH,↓reduceIte]
 ·exact no 50 (by simp [cC,hok])
 have hb:=zj hok
 refine ab (kD o) (by simp [go_sem]) ?_
 cases hoo:iU o <;> try simp (disch:=omega) only [go_sem,jF,jG,jH,↓reduceIte,reduceCtorEq]
 ·exact no 3 (by simp [cC,hok,hoo])
 have ho:=Gs hoo
 refine cV (es:=4) (b:=32) (L:=[]) (M:=cH t.l) .nil (by simp [ak]; omega) (by simp [ak]; omega) fun X τ hX hK=>?_
 rw [List.nil_append] at hX
 have e0:=hK.2.1 0 (by simp [go_sem]) (aY.nil 0)
 have e1:=hK.2.1 1 (by simp [go_sem]) (aY.nil 1)
 have e2:=hK.2.1 2 (by simp [go_sem]) (aY.nil 2)
 have o0:=hK.2.2 0 (by simp [go_sem]) (aY.nil 0)
 have o1:=hK.2.2 1 (by simp [go_sem]) (aY.nil 1)
 have o2:=hK.2.2 2 (by simp [go_sem]) (aY.nil 2)
 have hn:=hK.1
 clear hK
 obtain ⟨ob,m,c⟩:=τ
 simp (maxSteps:=1000000) only [go_sem,jF,↓reduceIte,reduceCtorEq] at e0 e1 e2 hn
 have okd:∀ {σ:St} (L:List Od) (d:Int),cC t o=(⟨d,L⟩,[],d,0)→∀ X,aw σ X (.list 4 (cH L))→aw σ (.tuple [.agg [.int .i64 d,X],.nil,.int .i64 d,.int .i64 0]) (.tuple [.agg [.int .i64 (cC t o).1.d,.list 4 (cH (cC t o).1.l)],.list 4 (cH (cC t o).2.1),.int .i64 (cC t o).2.2.1,.int .i64 (cC t o).2.2.2]):=by
  intro σ L d h X hX
  rw [h]
  exact aw.tu (.cons (aw.ag (.cons (.pure rfl) (.cons hX .nil))) (.cons (.nl 4) (.cons (.pure rfl) (.cons (.pure rfl) .nil))))
 have n2:∀ i,¬aY X i→¬i=2:=fun i h e=>h (by subst e; exact o2)
 try simp (disch:=omega) only [go_sem,jF,jH,↓reduceIte,e0,e1]
 refine ah (fun g1=>?_) (fun g1=>?_)
 ·try simp (disch:=omega) only [go_sem,jF,jG,jH,↓reduceIte,reduceCtorEq,e0,e2,hX.one,hX.flat,hX.cells]
  refine okd t.l t.d (by simp only [cC,hok,hoo,if_true,if_pos g1]) _ (hX.mU (fun i hi h=>?_) (ep _) (ib _))
  have:=n2 i h
  simp [this,go_sem]
 try simp (disch:=omega) only [go_sem,jF,jH,↓reduceIte,jO,e0,e1]
 refine ah (fun g2=>?_) (fun g2=>?_)
 ·have htk:cC t o=(⟨t.d+1+aR o.n t.l,t.l.drop (aR o.n t.l)⟩,o :: t.l.take (aR o.n t.l),t.d+1+aR o.n t.l,0):=by
   simp only [cC,hok,hoo,if_true]; rw [if_neg (by omega),if_pos (by omega)]
  have hRl:=m0 t.l o.n
  obtain ⟨id,g,hE,hid,hid2⟩:∃ id g,SW ⟨ob,m,c⟩ (cH t.l) 0 id g X∧id<m∧¬id=2:=by
   rcases hX with ⟨rfl,h⟩ | ⟨id,g,rfl,h1,h2⟩
   ·exact ⟨1,0,.inl ⟨by rw [h]; rfl,.inl rfl⟩,by omega,by omega⟩
   ·exact ⟨id,g,.inr ⟨rfl,h2⟩,h1,o2.ne⟩
  try simp (disch:=omega) only [go_sem,jF,jG,jH,↓reduceIte,jO,jM,e0,e1]
  refine Fe [8,9,10,46,47,48,49,50,51,52,53,54,55,56,57,58,59,60,61,62,63,64,65,66,67] (by kernel_rfl) (fun e σ=>σ.ob 2=some ⟨2,2,80,false,true,[AV.agg [.int .i64 0,.nil]]⟩∧e 10=.int .i64 (t.d+1+aR o.n t.l)∧
   SW σ (cH t.l) (aR o.n t.l) id g (e 8)∧cu 4 dq σ (cH (o :: t.l.take (aR o.n t.l))) (e 9)∧aY (e 9) 2∧aY (e 9) id∧m+1≤σ.n) ?_ ?_
  ·refine aW [8,9,10,46,47,48,49,50,51,52,53,54,55,56,57,58,59,60,61,62,63,64,65,66,67] (by kernel_rfl) (aR o.n t.l) (fun k e σ=>σ.ob 2=some ⟨2,2,80,false,true,[AV.agg [.int .i64 0,.nil]]⟩∧e 10=.int .i64 (t.d+1+k)∧
    SW σ (cH t.l) k id g (e 8)∧cu 4 dq σ (cH (o :: t.l.take k)) (e 9)∧aY (e 9) 2∧aY (e 9) id) ?_ ?_
   ·try simp (disch:=omega) only [go_sem,jF,↓reduceIte,jM]
    refine ⟨e2,by simp,?_,.inr ⟨m,c,rfl,by simp [go_sem],by try simp (disch:=omega) only [go_sem,↓reduceIte]; simp [cH,gE]⟩,aY.sl (by omega),aY.sl (by omega)⟩
    rcases hE with h | ⟨h1,h2⟩
    ·exact .inl h
    ·exact .inr ⟨h1,by try simp (disch:=omega) only [go_sem,jM]; exact h2⟩
   ·rintro k fe ob m' c' hk hm ⟨h2,h10,hE,hX,x2,xi⟩
    have hm':m+1≤m':=hm
    obtain ⟨Y,h9⟩:∃ Y,fe 9=Y:=⟨_,rfl⟩
    obtain ⟨E,h8⟩:∃ E,fe 8=E:=⟨_,rfl⟩
    simp (maxSteps:=1000000) only [go_sem,jF,↓reduceIte] at h2 h10 hX hE x2 xi
    rw [h9] at hX x2 xi
    rw [h8] at hE
    rcases hX with ⟨_,h⟩ | ⟨id2,g2,hXX,hx1,hx2⟩
    ·simp [cH] at h
    have hxl:(cH (o :: t.l.take k)).length=k+1:=by simp [cH]; omega
    rw [hxl] at hXX
    subst hXX
    have i22:¬id2=2:=x2.ne
    have i2i:¬id2=id:=xi.ne
    by_cases hkR:k<aR o.n t.l
    ·have hkl:k<t.l.length:=by omega
     rcases hE with ⟨h,_⟩ | ⟨rfl,hob⟩
     ·rw [ak] at h; omega
     simp only at hx1 hx2 hob
     have hg:t.l[k]?=some t.l[k]:=List.getElem?_eq_getElem hkl
     have hgn:=om hkR hg
     have hst:cH (o :: t.l.take k)++[gE t.l[k]]=cH (o :: t.l.take (k+1)):=by rw [List.take_add_one,hg]; simp only [cH,List.map_cons,List.map_append,Option.toList_some,List.map_nil,List.cons_append]
     generalize t.l[k]=y at *
     have hgy:(cH t.l)[k]?=some (gE y):=by rw [dz,hg]; rfl
     try simp (disch:=omega) only [go_sem,↓reduceIte,h8,h9,h10,ak]
     refine bB rfl (fun hpos=>?_) (fun h=>absurd h (by omega))
     try simp (disch:=omega) only [go_sem,jC,jF,jH,↓reduceIte,jO,hob,hgy,gE]
     refine ⟨by omega,?_⟩
     refine ah (fun _=>?_) (fun h=>absurd (show y.n=t.d+1+k+1 by omega) h)
     have hmx:k+1+1≤maxLen:=by rw [n4]; omega
     have hl2:(cH (o :: t.l.take (k+1))).length=k+1+1:=by simp [cH]; omega
     have h2m:2<m':=by omega
     have hidm:id<m':=by omega
     try simp (disch:=omega) only [go_sem,jC,jF,jG,jH,↓reduceIte,reduceCtorEq,jO,jM,hob,hgy,hx2,hxl,gE,Nat.sub_sub]
     refine ⟨by omega,fun he=>⟨by omega,hmx,by omega,aG m' hkR hm ?_⟩,fun he=>⟨by omega,hmx,by omega,aG m' hkR hm ?_⟩⟩
     ·try simp (disch:=omega) only [go_sem,jF,↓reduceIte,jM,jN,h2]
      exact ⟨by congr 1; omega,.inl ⟨by rw [ak]; omega,.inr rfl⟩,.inr ⟨id2,c',by rw [hl2],hx1,by try simp (disch:=omega) only [go_sem,↓reduceIte,jN]; rw [←hst]; rfl⟩,aY.sl i22,aY.sl i2i⟩
     ·try simp (disch:=omega) only [go_sem,jF,↓reduceIte,jM,jN,h2]
      exact ⟨by congr 1; omega,.inr ⟨by rw [ak],by try simp (disch:=omega) only [go_sem,jM,jN]; exact hob⟩,.inr ⟨id2,c',by rw [hl2],hx1,by try simp (disch:=omega) only [go_sem,↓reduceIte,jN]; rw [←hst]; rfl⟩,aY.sl i22,aY.sl i2i⟩
    ·have hkR2:k=aR o.n t.l:=by omega
     subst hkR2
     have hrg:∀ y,t.l[aR o.n t.l]?=some y→¬y.n=t.d+1+aR o.n t.l+1:=fun y hy=>by
      have:=oj t.l o.n (aR o.n t.l) y (Nat.le_refl _) hy
      omega
     have key:ob 2=some ⟨2,2,80,false,true,[AV.agg [.int .i64 0,.nil]]⟩∧
       SW ⟨ob,m',c'⟩ (cH t.l) (aR o.n t.l) id g E∧cu 4 dq ⟨ob,m',c'⟩ (cH (o :: t.l.take (aR o.n t.l))) (.sl id2 g2 4 0 (aR o.n t.l+1))∧aY (.sl id2 g2 4 0 (aR o.n t.l+1)) 2∧aY (.sl id2 g2 4 0 (aR o.n t.l+1)) id∧m+1≤m':=
      ⟨h2,hE,.inr ⟨id2,g2,by rw [hxl],hx1,hx2⟩,x2,xi,hm'⟩
     generalize aR o.n t.l=R at *
     rcases hE with ⟨h,rfl | rfl⟩ | ⟨rfl,hob⟩
     ·try simp (disch:=omega) only [go_sem,jB,jF,↓reduceIte,h8,h9,h10]
      exact key
     ·try simp (disch:=omega) only [go_sem,jB,jF,↓reduceIte,h8,h9,h10]
      exact key
     ·try simp (disch:=omega) only [go_sem,↓reduceIte,h8,h9,h10,ak]
      refine bB rfl (fun hpos=>?_) (fun h=>?_)
      ·have hkl:R<t.l.length:=by omega
       have hg:t.l[R]?=some t.l[R]:=List.getElem?_eq_getElem hkl
       have hgn:=hrg _ hg
       generalize t.l[R]=y at *
       have hgy:(cH t.l)[R]?=some (gE y):=by rw [dz,hg]; rfl
       simp only at hob hx2
       try simp (disch:=omega) only [go_sem,jC,jF,jH,↓reduceIte,jO,hob,hgy,gE]
       refine ⟨by omega,?_⟩
       refine ah (fun h=>absurd h hgn) (fun _=>?_)
       try simp (disch:=omega) only [go_sem,jF,↓reduceIte]
       rw [ak] at key
       exact key
      ·try simp (disch:=omega) only [go_sem,jF,↓reduceIte]
       rw [ak] at key
       exact key
  ·rintro fe σ1 ⟨h2,h10,hE,hX,x2,xi,hn⟩
   obtain ⟨ob,m',c'⟩:=σ1
   obtain ⟨Y,h9⟩:∃ Y,fe 9=Y:=⟨_,rfl⟩
   obtain ⟨E,h8⟩:∃ E,fe 8=E:=⟨_,rfl⟩
   simp (maxSteps:=1000000) only [go_sem,jF,↓reduceIte] at h2 h10 hX hE hn x2 xi
   rw [h9] at hX x2 xi
   rw [h8] at hE
   have hod:(cH t.l).drop (aR o.n t.l)=cH (t.l.drop (aR o.n t.l)):=by simp [cH]
   rw [htk]
   generalize aR o.n t.l=R at *
   have hEo:E.one=true:=by rcases hE with ⟨_,rfl | rfl⟩ | ⟨rfl,_⟩ <;> rfl
   have hEf:E.flat=true:=by rcases hE with ⟨_,rfl | rfl⟩ | ⟨rfl,_⟩ <;> rfl
   have hEc:E.cells=[E]:=by rcases hE with ⟨_,rfl | rfl⟩ | ⟨rfl,_⟩ <;> rfl
   try simp (disch:=omega) only [go_sem,jF,jG,jH,↓reduceIte,h8,h9,h10,h2,hEo,hEf,hEc]
   refine aw.tu (.cons (aw.ag (.cons (.pure rfl) (.cons ?_ .nil))) (.cons ?_ (.cons (.pure rfl) (.cons (.pure rfl) .nil))))
   ·rw [←hod]
    rcases hE with ⟨h,rfl | rfl⟩ | ⟨rfl,hob⟩
    ·rw [h,List.drop_length]; exact .nl 4
    ·rw [h,List.drop_length]; exact .pure rfl
    ·refine .sl (o:=⟨g,4,dq,false,true,cH t.l⟩) ?_ rfl rfl (by simp only [ak]; omega) (by simp) (fun i x y hx hy=>?_) (fun x hx=>ib _ x (List.mem_of_mem_drop hx))
     ·simp only at hob
      simp [hob,hid2,go_sem]
     ·have:((cH t.l).drop R).take ((cH t.l).length-R)=(cH t.l).drop R:=List.take_of_length_le (by simp)
      simp only [] at hx
      rw [this,hy] at hx
      obtain rfl:=Option.some.inj hx
      exact .pure (ep t.l _ (List.mem_of_mem_drop (List.mem_of_getElem? hy)))
   ·refine hX.mU (fun i hi h=>?_) (ep _) (ib _)
    have:¬i=2:=fun e=>h (by subst e; exact x2)
    simp [this,go_sem]
 ·obtain ⟨N,hN⟩:∃ N,N=t.l.map Od.n:=⟨_,rfl⟩
  have hin:=wZ N o.n
  have htk:cC t o=if N[da N o.n]?=some o.n then (t,[],t.d,0) else if t.l.length=64 then (⟨0,[]⟩,[],0,10) else (⟨t.d,t.l.take (da N o.n)++o :: t.l.drop (da N o.n)⟩,[],t.d,0):=by
   simp only [cC,hok,hoo,if_true,←hN]; rw [if_neg (by omega),if_neg (by omega)]
  have hNl:N.length=t.l.length:=by simp [hN]
  have hNg:∀ (k:Nat) y,t.l[k]?=some y→N[k]?=some y.n:=fun k y h=>by rw [hN,List.getElem?_map,h]; rfl
  rw [hNl] at hin
  clear hN
  have hE:=ER.OJ hX
  have X1:=hX.one
  have X2:=hX.flat
  have X3:=hX.cells
  try simp (disch:=omega) only [go_sem]
  refine Fe [11,73,74,75,76,77,78,79,80,81,82,83,84,85,86,87,88] (by kernel_rfl) (fun e σ=>e 11=.int .i64 (da N o.n)∧(∀ i,i<m→σ.ob i=ob i)∧σ.n=m) ?_ ?_
  ·refine bw [11,73,74,75,76,77,78,79,80,81,82,83,84,85,86,87,88] (by kernel_rfl) t.l.length (fun k e σ=>e 11=.int .i64 k∧k≤da N o.n∧∀ i,i<m→σ.ob i=ob i) ?_ ?_
   ·exact ⟨(by first | rfl | (simp (disch:=omega) only [go_sem,jA,jB,jC,jD,jE,jF,jG,jH,jI,jJ,↓reduceIte,reduceCtorEq,jP,jO,jM,jN]; try rfl)),Nat.zero_le _,fun _ _=>rfl⟩
   ·rintro k fe ob' c' hk ⟨h11,hj,hf⟩
    simp (maxSteps:=1000000) only [go_sem,↓reduceIte] at h11 hf
    have hE':ER 4 ⟨ob',m,c'⟩ (cH t.l) X:=hE.bG (Nat.le_refl _) fun i hi _=>hf i hi
    try simp (disch:=omega) only [go_sem,jF,↓reduceIte,h11]
    refine hE'.len ?_
    try simp (disch:=omega) only [go_sem,jF,↓reduceIte,ak]
    refine bB rfl (fun g5=>?_) (fun g5=>?_)
    ·have hkl:k<t.l.length:=by omega
     have hk2:t.l[k]?=some t.l[k]:=List.getElem?_eq_getElem hkl
     have hkm:=hNg k _ hk2
     generalize t.l[k]=y at *
     have hgy:(cH t.l)[k]?=some (gE y):=by rw [dz,hk2]; rfl
     rcases hX with ⟨rfl,h⟩ | ⟨id,g,rfl,h1,h2⟩
     ·have:t.l=[]:=by simpa [cH] using h
      rw [this] at hkl; simp at hkl
     simp only at h2 h1
     have f1:=hf 1 (by omega)
     rw [e1] at f1
     have f2:=hf id h1
     rw [h2] at f2
     try simp (disch:=omega) only [go_sem,jF,jH,↓reduceIte,f2,hgy,ak,f1,gE]
     refine ⟨by omega,by omega,?_⟩
     refine ah (fun g6=>?_) (fun g6=>?_) <;> try simp (disch:=omega) only [go_sem,jF,↓reduceIte,jO]
     ·refine bl hkl ⟨(by first | rfl | (simp (disch:=omega) only [go_sem,jA,jB,jC,jD,jE,jF,jG,jH,jI,jJ,↓reduceIte,reduceCtorEq,jP,jO,jM,jN]; try rfl)),?_,fun i hi=>?_⟩
      ·rcases Nat.lt_or_ge k (da N o.n) with h1 | h1
       ·exact h1
       ·have h2:k=da N o.n:=by omega
        rw [h2] at hkm
        have:=GU hkm
        omega
      ·try simp (disch:=omega) only [go_sem,jN]
       exact hf i hi
     ·exact ⟨by rw [Nat.le_antisymm (wY hkm (by omega)) hj],hf⟩
    ·try simp (disch:=omega) only [go_sem,jF,↓reduceIte]
     exact ⟨by rw [show da N o.n=k by omega],hf⟩
  ·rintro fe ⟨ob',m',c'⟩ ⟨h11,hf,hm'⟩
   simp only at hm' hf
   subst hm'
   have hE':ER 4 ⟨ob',m',c'⟩ (cH t.l) X:=hE.bG (Nat.le_refl _) fun i hi _=>hf i hi
   simp (maxSteps:=1000000) only [go_sem,↓reduceIte] at h11
   generalize da N o.n=i at *
   have f0:=hf 0 (by omega)
   have f1:=hf 1 (by omega)
   have f2:=hf 2 (by omega)
   rw [e0] at f0
   rw [e1] at f1
   rw [e2] at f2
   try simp (disch:=omega) only [go_sem,jF,↓reduceIte,h11]
   refine hE'.len ?_
   try simp (disch:=omega) only [go_sem,jF,↓reduceIte,ak]
   have there:N[i]?=some o.n→aw ⟨bd ob' 2 (some ⟨2,2,80,false,true,[AV.agg [.int .i64 t.d,X]]⟩),m',c'⟩ (.tuple [.agg [.int .i64 t.d,X],.nil,.int .i64 t.d,.int .i64 0]) (.tuple [.agg [.int .i64 (cC t o).1.d,.list 4 (cH (cC t o).1.l)],.list 4 (cH (cC t o).2.1),.int .i64 (cC t o).2.2.1,.int .i64 (cC t o).2.2.2]):=fun h=>by
    rw [if_pos h] at htk
    refine okd t.l t.d htk _ (hE'.mU (ep _) (ib _) fun j hj h o h2=>⟨o.ro,?_⟩)
    have:=n2 j h
    simp only at h2
    simp [this,go_sem,h2]
   refine bB rfl (fun g5=>?_) (fun g5=>?_)
   ·have hil:i<t.l.length:=by omega
    have hk2:t.l[i]?=some t.l[i]:=List.getElem?_eq_getElem hil
    have hkm:=hNg i _ hk2
    generalize t.l[i]=y at *
    have hgy:(cH t.l)[i]?=some (gE y):=by rw [dz,hk2]; rfl
    rcases hX with ⟨_,h⟩ | ⟨id,g,hXe,h1,h2⟩
    ·have:t.l=[]:=by simpa [cH] using h
     rw [this] at hil; simp at hil
    simp only at h2 h1
    have fi:=hf id h1
    rw [h2] at fi
    rw [ak] at hXe
    rw [hXe]
    try simp (disch:=omega) only [go_sem,jF,jH,↓reduceIte,fi,hgy,f1,gE]
    rw [←hXe]
    refine ⟨by omega,by omega,?_⟩
    refine ah (fun g6=>?_) (fun g6=>?_)
    ·try simp (disch:=omega) only [go_sem,jF,jG,jH,↓reduceIte,reduceCtorEq,f0,f2,X1,X2,X3]
     exact there (by rw [hkm,g6])
    have hat:¬N[i]?=some o.n:=by rw [hkm]; intro h; exact g6 (Option.some.inj h)
    rw [if_neg hat] at htk
    try simp (disch:=omega) only [go_sem,jF,↓reduceIte]
    refine hE'.len ?_
    try simp (disch:=omega) only [go_sem,↓reduceIte,ak]
    refine ah (fun g3=>?_) (fun g3=>?_)
    ·try simp (disch:=omega) only [go_sem,jF,jG,jH,↓reduceIte,f2]
     exact no 10 (by rw [htk,if_pos (by omega)])
    rw [if_neg (by omega)] at htk
    try simp (disch:=omega) only [go_sem,jF,↓reduceIte]
    refine hE'.drop rfl (by rw [ak]; omega) fun D hD hoD=>?_
    try simp (disch:=omega) only [go_sem,jF,jG,jH,↓reduceIte,f1]
    refine hE'.take rfl (by rw [ak]; omega) fun T hT hoT=>?_
    try simp (disch:=omega) only [go_sem,jF,↓reduceIte]
    refine xq hT (cV .nil (by simp [ak]; omega) (by simp [ak]; omega) fun Y1 τ1 hR1 hK1=>?_)
    have k1:=hK1.2.1 1 (by simp only; omega) (aY.nil 1)
    simp only [f1] at k1
    try simp (disch:=omega) only [go_sem,jF,↓reduceIte]
    have hRX:∀ x∈cD 10 X.kK++[(5,1)]++cD 3 X.kK,x.2<m':=Ew (Ew (yP hE'.kK) (by simp; omega)) (yP hE'.kK)
    refine ⟨nA hRX fun j hj=>hK1.2.1 j hj (aY.nil j),?_⟩
    refine bH hR1 (by simp [ak]; omega) (by simp [ak]; omega) fun Y2 τ2 hR2 hK2=>?_
    try simp (disch:=omega) only [go_sem,jF,↓reduceIte]
    refine ⟨nA hRX fun j hj=>hK2.2.1 j (Nat.lt_of_lt_of_le hj hK1.1) (hK1.2.2 j hj (aY.nil j)),?_⟩
    refine xq (hD.bG (hK1.trans hK2).1 fun j hj h=>(hK1.trans hK2).2.1 j hj (aY.nil j)) (cV hR2 (by simp [ak]; omega) (by simp [ak]; omega) fun Y3 τ3 hR3 hK3=>?_)
    have hK:=(hK1.trans hK2).trans hK3
    have k0:=hK.2.1 0 (by simp only; omega) (aY.nil 0)
    have k2:=hK.2.1 2 (by simp only; omega) (aY.nil 2)
    have oy:=hK.2.2 2 (by simp only; omega) (aY.nil 2)
    simp only [f0,f2] at k0 k2
    obtain ⟨ob3,m3,c3⟩:=τ3
    simp only at k0 k2
    try simp (disch:=omega) only [go_sem,jF,jG,jH,↓reduceIte,reduceCtorEq,k0,k2,hR3.one,hR3.flat,hR3.cells]
    rw [show []++(cH t.l).take i++[AV.agg [.int .i64 o.n,.int .i64 o.k,.int .i64 o.i,.int .i64 o.v]]++(cH t.l).drop i=cH (t.l.take i++o :: t.l.drop i) by simp [cH,gE]] at hR3
    have hK12:=hK1.trans hK2
    refine ⟨nA hRX fun j hj=>hK3.2.1 j (Nat.lt_of_lt_of_le hj hK12.1) (hK12.2.2 j hj (aY.nil j)),?_⟩
    refine okd _ t.d htk _ (hR3.mU (fun j hj h=>?_) (ep _) (ib _))
    have:¬j=2:=fun e=>h (by subst e; exact oy)
    simp [this,go_sem]
   ·have hat:¬N[i]?=some o.n:=by rw [List.getElem?_eq_none (by omega)]; simp
    rw [if_neg hat] at htk
    try simp (disch:=omega) only [go_sem,jF,↓reduceIte]
    refine hE'.len ?_
    try simp (disch:=omega) only [go_sem,↓reduceIte,ak]
    refine ah (fun g3=>?_) (fun g3=>?_)
    ·try simp (disch:=omega) only [go_sem,jF,jG,jH,↓reduceIte,f2]
     exact no 10 (by rw [htk,if_pos (by omega)])
    rw [if_neg (by omega)] at htk
    try simp (disch:=omega) only [go_sem,jF,↓reduceIte]
    refine hE'.drop rfl (by rw [ak]; omega) fun D hD hoD=>?_
    try simp (disch:=omega) only [go_sem,jF,jG,jH,↓reduceIte,f1]
    refine hE'.take rfl (by rw [ak]; omega) fun T hT hoT=>?_
    try simp (disch:=omega) only [go_sem,jF,↓reduceIte]
    refine xq hT (cV .nil (by simp [ak]; omega) (by simp [ak]; omega) fun Y1 τ1 hR1 hK1=>?_)
    have k1:=hK1.2.1 1 (by simp only; omega) (aY.nil 1)
    simp only [f1] at k1
    try simp (disch:=omega) only [go_sem,jF,↓reduceIte]
    have hRX:∀ x∈cD 10 X.kK++[(5,1)]++cD 3 X.kK,x.2<m':=Ew (Ew (yP hE'.kK) (by simp; omega)) (yP hE'.kK)
    refine ⟨nA hRX fun j hj=>hK1.2.1 j hj (aY.nil j),?_⟩
    refine bH hR1 (by simp [ak]; omega) (by simp [ak]; omega) fun Y2 τ2 hR2 hK2=>?_
    try simp (disch:=omega) only [go_sem,jF,↓reduceIte]
    refine ⟨nA hRX fun j hj=>hK2.2.1 j (Nat.lt_of_lt_of_le hj hK1.1) (hK1.2.2 j hj (aY.nil j)),?_⟩
    refine xq (hD.bG (hK1.trans hK2).1 fun j hj h=>(hK1.trans hK2).2.1 j hj (aY.nil j)) (cV hR2 (by simp [ak]; omega) (by simp [ak]; omega) fun Y3 τ3 hR3 hK3=>?_)
    have hK:=(hK1.trans hK2).trans hK3
    have k0:=hK.2.1 0 (by simp only; omega) (aY.nil 0)
    have k2:=hK.2.1 2 (by simp only; omega) (aY.nil 2)
    have oy:=hK.2.2 2 (by simp only; omega) (aY.nil 2)
    simp only [f0,f2] at k0 k2
    obtain ⟨ob3,m3,c3⟩:=τ3
    simp only at k0 k2
    try simp (disch:=omega) only [go_sem,jF,jG,jH,↓reduceIte,reduceCtorEq,k0,k2,hR3.one,hR3.flat,hR3.cells]
    rw [show []++(cH t.l).take i++[AV.agg [.int .i64 o.n,.int .i64 o.k,.int .i64 o.i,.int .i64 o.v]]++(cH t.l).drop i=cH (t.l.take i++o :: t.l.drop i) by simp [cH,gE]] at hR3
    have hK12:=hK1.trans hK2
    refine ⟨nA hRX fun j hj=>hK3.2.1 j (Nat.lt_of_lt_of_le hj hK12.1) (hK12.2.2 j hj (aY.nil j)),?_⟩
    refine okd _ t.d htk _ (hR3.mU (fun j hj h=>?_) (ep _) (ib _))
    have:¬j=2:=fun e=>h (by subst e; exact oy)
    simp [this,go_sem]
theorem ej.mono {σ τ:St} {id g:Nat} {t:List Int} {W W':AV→Prop} {r:AV} (k:∀ r,W r→W' r) (h:ej σ id g t W r τ):ej σ id g t W' r τ:=by
 obtain ⟨a,c,h,e⟩:=h; exact ⟨a,c,k _ h,e⟩
def SV (k i v:Int):Prop:=1≤k∧k≤3∧0≤i∧i≤1000∧0≤v∧v≤1000∧dI k i v=0
theorem fT (σ:St) (id g:Nat) (t:List Int) (at':Nat) (n:Int) (hl:t.length≤9223372036854775807) (hid:id<σ.n) (hob:σ.ob id=some ⟨g,2,aA,false,true,[bA t at']⟩) :
  HC prog uF [.ptr id g 2 0 0,.int .i64 n] σ (ej σ id g t fun r=>∃ k i v,r=gE ⟨n,k,i,v⟩∧SV k i v):=by
 refine HC.wU hid ?_
 obtain ⟨dH,n0,c0⟩:=σ
 simp only at hob hid
 refine aL Ep (by simp) ?_
 simp only [vt,go_sem,jF,↓reduceIte,reduceCtorEq]
 have h0:¬id=n0:=by omega
 have h1:¬id=n0+1:=by omega
 have h2:¬n0=id:=by omega
 have h3:¬n0+1=id:=by omega
 have fin:∀ (ob':Nat→Option aU) (c':Nat) (k i v:Int) (at2:Nat),ob' id=some ⟨g,2,aA,false,true,[bA t at2]⟩→(∀ i,i<n0→i≠id→ob' i=dH i)→SV k i v→C2 ⟨dH,n0,c0⟩ id g t (fun r=>∃ k i v,r=gE ⟨n,k,i,v⟩∧SV k i v) (.agg [.int .i64 n,.int .i64 k,.int .i64 i,.int .i64 v]) ⟨ob',n0+2,c'⟩:=
  fun ob' c' k i v at2 h1 h2 h3=>⟨_,at2,.pure rfl,⟨k,i,v,rfl,h3⟩,h1,h2⟩
 refine aM (ai _ id g aA true t at' 3 (by try simp (disch:=omega) only [go_sem,jM]; exact hob) (by omega) hl) ?_
 have hx1:=aI t at' 3
 generalize bf t at' 3=dr at *
 obtain ⟨x1,at1⟩:=dr
 simp only at hx1
 try simp (disch:=omega) only [go_sem,jF,jG,jH,↓reduceIte,jO]
 refine ah (fun g1=>?_) (fun g1=>?_)
 ·try simp (disch:=omega) only [go_sem,↓reduceIte,reduceCtorEq]
  refine aM (ai _ id g aA true t at1 50 (by try simp (disch:=omega) only [go_sem,↓reduceIte,h1]) (by omega) hl) ?_
  have hx2:=aI t at1 50
  generalize bf t at1 50=dr at *
  obtain ⟨x2,at2⟩:=dr
  simp only at hx2
  try simp (disch:=omega) only [go_sem,jF,jG,jH,↓reduceIte,jM,h2,h3]
  exact fin _ _ _ _ _ at2 (by try simp (disch:=omega) only [go_sem,↓reduceIte,h0,h1]) (fun i hi hi2=>by
   have j0:¬i=n0:=by omega
   have j1:¬i=n0+1:=by omega
   try simp (disch:=omega) only [go_sem,↓reduceIte,j0,j1,hi2]) (⟨by omega,by omega,by omega,by omega,by omega,by omega,by rw [dI,if_pos g1,if_pos ⟨rfl,by simp [mN]; omega⟩]⟩)
 try simp (disch:=omega) only [go_sem,jF,↓reduceIte]
 refine ah (fun g2=>?_) (fun g2=>?_)
 ·try simp (disch:=omega) only [go_sem,↓reduceIte,reduceCtorEq]
  refine aM (ai _ id g aA true t at1 8 (by try simp (disch:=omega) only [go_sem,↓reduceIte,h1]) (by omega) hl) ?_
  have hx2:=aI t at1 8
  generalize bf t at1 8=dr at *
  obtain ⟨x2,at2⟩:=dr
  simp only at hx2
  try simp (disch:=omega) only [go_sem,jF,jG,jH,↓reduceIte,jM,h2,h3]
  exact fin _ _ _ _ _ at2 (by try simp (disch:=omega) only [go_sem,↓reduceIte,h0,h1]) (fun i hi hi2=>by
   have j0:¬i=n0:=by omega
   have j1:¬i=n0+1:=by omega
   try simp (disch:=omega) only [go_sem,↓reduceIte,j0,j1,hi2]) (⟨by omega,by omega,by omega,by omega,by omega,by omega,by rw [dI,if_neg g1,if_pos g2,if_pos ⟨by simp [mN]; omega,rfl⟩]⟩)
 try simp (disch:=omega) only [go_sem,↓reduceIte,reduceCtorEq]
 refine aM (ai _ id g aA true t at1 6 (by try simp (disch:=omega) only [go_sem,↓reduceIte,h1]) (by omega) hl) ?_
 have hx2:=aI t at1 6
 generalize bf t at1 6=dr at *
 obtain ⟨x2,at2⟩:=dr
 simp only at hx2
 try simp (disch:=omega) only [go_sem,↓reduceIte,reduceCtorEq]
 refine aM (ai _ id g aA true t at2 2 (by try simp (disch:=omega) only [go_sem,↓reduceIte]) (by omega) hl) ?_
 have hx3:=aI t at2 2
 generalize bf t at2 2=dr at *
 obtain ⟨x3,at3⟩:=dr
 simp only at hx3
 try simp (disch:=omega) only [go_sem,jF,jG,jH,↓reduceIte,jM,h2,h3]
 exact fin _ _ _ _ _ at3 (by try simp (disch:=omega) only [go_sem,↓reduceIte,h0,h1]) (fun i hi hi2=>by
  have j0:¬i=n0:=by omega
  have j1:¬i=n0+1:=by omega
  try simp (disch:=omega) only [go_sem,↓reduceIte,j0,j1,hi2]) (⟨by omega,by omega,by omega,by omega,by omega,by omega,by rw [dI,if_neg g1,if_neg g2,if_pos (by omega),if_pos ⟨by simp [mN]; omega,by simp [mN]; omega⟩]⟩)
theorem KJ (σ:St) (id g:Nat) (t:List Int) (at':Nat) (n:Int) (hl:t.length≤9223372036854775807) (hid:id<σ.n) (hob:σ.ob id=some ⟨g,2,aA,false,true,[bA t at']⟩) :
  HC prog uF [.ptr id g 2 0 0,.int .i64 n] σ (ej σ id g t fun r=>∃ k i v,r=gE ⟨n,k,i,v⟩):=
 (fT σ id g t at' n hl hid hob).mono fun _ _ h=>h.mono fun _ ⟨k,i,v,h,_⟩=>⟨k,i,v,h⟩
theorem C0:∀ {l:List Od} {s:Int} (k:Nat) {s':Int},dp s l=true→(∀ y,l[k]?=some y→s' < y.n)→dp s' (l.drop k)=true
 | [],_,k,_,_,_=>by simp [dp]
 | a :: r,s,0,s',h,hk=>by
  simp only [dp,Bool.and_eq_true,decide_eq_true_eq,List.drop_zero] at h ⊢
  exact ⟨⟨h.1.1,hk a rfl⟩,h.2⟩
 | a :: r,s,k+1,s',h,hk=>by
  simp only [dp,Bool.and_eq_true] at h
  simp only [List.drop_succ_cons]
  exact C0 k h.2 fun y hy=>hk y (by simpa using hy)
theorem FX:∀ {l:List Od} {last:Int} {x:Od} (i:Nat),dp last l=true→last<x.n→iU x=true→i≤l.length→(∀ k,k<i→∀ y,l[k]?=some y→y.n<x.n)→(∀ k,i≤k→∀ y,l[k]?=some y→x.n<y.n)→dp last (l.take i++x :: l.drop i)=true
 | [],last,x,i,_,h1,h2,_,_,_=>by simp [dp,h1,h2]
 | a :: r,last,x,0,hok,h1,h2,_,_,hhi=>by
  have:=hhi 0 (Nat.le_refl _) a rfl
  simp only [dp,Bool.and_eq_true,decide_eq_true_eq] at hok
  simp only [List.take_zero,List.drop_zero,List.nil_append,dp,Bool.and_eq_true,decide_eq_true_eq]
  exact ⟨⟨h2,h1⟩,⟨hok.1.1,this⟩,hok.2⟩
 | a :: r,last,x,i+1,hok,h1,h2,hil,hlo,hhi=>by
  have ha:=hlo 0 (by omega) a rfl
  simp only [dp,Bool.and_eq_true] at hok
  simp only [List.take_succ_cons,List.drop_succ_cons,List.cons_append,dp,Bool.and_eq_true]
  exact ⟨hok.1,FX i hok.2 ha h2 (by simpa using hil) (fun k hk y hy=>hlo (k+1) (by omega) y (by simpa using hy)) (fun k hk y hy=>hhi (k+1) (by omega) y (by simpa using hy))⟩
theorem Io {l:List Od} {s x:Int} (hok:dp s l=true) (hne:¬(l.map Od.n)[da (l.map Od.n) x]?=some x) :
  da (l.map Od.n) x≤l.length∧(∀ k,k<da (l.map Od.n) x→∀ y,l[k]?=some y→y.n<x)∧(∀ k,da (l.map Od.n) x≤k→∀ y,l[k]?=some y→x<y.n):=by
 have hA:=Jh hok
 have hin:=wZ (l.map Od.n) x
 rw [List.length_map] at hin
 have hm:=rh (l.map Od.n) x hA
 rw [hm] at hne
 refine ⟨hin,fun k hk y hy=>?_,fun k hk y hy=>?_⟩
 ·rcases Int.lt_or_le y.n x with h | h
  ·exact h
  ·have:=wY (l:=l.map Od.n) (x:=x) (k:=k) (y:=y.n) (by simp [hy]) h
   omega
 ·have hkl:=(List.getElem?_eq_some_iff.1 hy).1
  have hi:(l.map Od.n)[da (l.map Od.n) x]?=some (l[da (l.map Od.n) x]'(by omega)).n:=by simp [List.getElem?_eq_getElem (show da (l.map Od.n) x<l.length by omega)]
  have h1:=GU hi
  have h2:(l.map Od.n)[k]?=some y.n:=by simp [hy]
  have h3:(l[da (l.map Od.n) x]'(by omega)).n≤y.n:=by
   rcases Nat.lt_or_ge (da (l.map Od.n) x) k with h | h
   ·exact hA _ _ h _ _ hi h2
   ·obtain rfl:k=da (l.map Od.n) x:=by omega
    rw [hi] at h2
    have:=Option.some.inj h2
    omega
  have h4:y.n≠x:=fun e=>hne (List.mem_map.2 ⟨y,List.mem_of_getElem? hy,e⟩)
  omega
theorem Og {u:Sn} {o:Od} {x:Sn} {l:List Od} {n:Int} (h:cC u o=(x,l,n,0)):lG u=true∧iU o=true∧lG x=true∧n=x.d∧(l.length:Int)=x.d-u.d∧cC x o=(x,[],n,0):=by
 unfold cC at h
 by_cases hu:lG u=true
 rotate_left
 ·rw [if_neg hu] at h; simp at h
 rw [if_pos hu] at h
 by_cases ho:iU o=true
 rotate_left
 ·rw [if_neg ho] at h; simp at h
 rw [if_pos ho] at h
 refine ⟨hu,ho,?_⟩
 have hb:=zj hu
 have hn:=Gs ho
 by_cases h1:o.n≤u.d
 ·rw [if_pos h1] at h
  simp only [Prod.mk.injEq] at h
  obtain ⟨rfl,rfl,rfl,_⟩:=h
  exact ⟨hu,rfl,by simp,by simp only [cC,hu,ho,if_true,if_pos h1]⟩
 rw [if_neg h1] at h
 by_cases h2:o.n=u.d+1
 ·rw [if_pos h2] at h
  simp only [Prod.mk.injEq] at h
  obtain ⟨rfl,rfl,rfl,_⟩:=h
  have hR:=m0 u.l o.n
  have hlast:u.d+1+(aR o.n u.l:Int)≤1073741824:=by
   rcases Nat.eq_zero_or_pos (aR o.n u.l) with h0 | h0
   ·omega
   ·have hg:u.l[aR o.n u.l-1]?=some (u.l[aR o.n u.l-1]'(by omega)):=List.getElem?_eq_getElem (by omega)
    have:=om (show aR o.n u.l-1<aR o.n u.l by omega) hg
    have h3:=Gs (vJ hb.2.2.2 _ (List.mem_of_getElem? hg)).2
    omega
  have hx:lG ⟨u.d+1+(aR o.n u.l:Int),u.l.drop (aR o.n u.l)⟩=true:=by
   have:dp (u.d+1+(aR o.n u.l:Int)+1) (u.l.drop (aR o.n u.l))=true:=by
    refine C0 _ hb.2.2.2 fun y hy=>?_
    have h3:=oj u.l o.n _ y (Nat.le_refl _) hy
    have h4:u.d+1+(aR o.n u.l:Int)<y.n:=by
     rcases Nat.eq_zero_or_pos (aR o.n u.l) with h0 | h0
     ·have:=(vJ hb.2.2.2 y (List.mem_of_getElem? hy)).1; omega
     ·have hg:u.l[aR o.n u.l-1]?=some (u.l[aR o.n u.l-1]'(by omega)):=List.getElem?_eq_getElem (by omega)
      have h5:=om (show aR o.n u.l-1<aR o.n u.l by omega) hg
      have h6:=A9 hb.2.2.2 _ _ (show aR o.n u.l-1<aR o.n u.l by omega) _ _ hg hy
      omega
    omega
   have h0:0≤u.d:=hb.1
   simp [lG,mN,this]
   omega
  refine ⟨hx,rfl,by simp; omega,?_⟩
  simp only [cC,hx,ho,if_true]
  rw [if_pos (by omega)]
 rw [if_neg h2] at h
 by_cases h3:(u.l.map Od.n)[da (u.l.map Od.n) o.n]?=some o.n
 ·rw [if_pos h3] at h
  simp only [Prod.mk.injEq] at h
  obtain ⟨rfl,rfl,rfl,_⟩:=h
  refine ⟨hu,rfl,by simp,?_⟩
  simp only [cC,hu,ho,if_true]
  rw [if_neg h1,if_neg h2,if_pos h3]
 rw [if_neg h3] at h
 by_cases h4:u.l.length=64
 ·rw [if_pos h4] at h; simp at h
 rw [if_neg h4] at h
 simp only [Prod.mk.injEq] at h
 obtain ⟨rfl,rfl,rfl,_⟩:=h
 obtain ⟨hi,hlo,hhi⟩:=Io hb.2.2.2 h3
 generalize da (u.l.map Od.n) o.n=i at *
 have hA:=FX i hb.2.2.2 (show u.d+1<o.n by omega) ho hi hlo hhi
 have hx:lG ⟨u.d,u.l.take i++o :: u.l.drop i⟩=true:=by
  have:=hb.1
  have:=hb.2.1
  have:=hb.2.2.1
  simp [lG,mN,hA]
  omega
 refine ⟨hx,rfl,by simp,?_⟩
 have h5:((u.l.take i++o :: u.l.drop i).map Od.n)[da ((u.l.take i++o :: u.l.drop i).map Od.n) o.n]?=some o.n:=(rh _ _ (Jh hA)).2 (List.mem_map.2 ⟨o,by simp,rfl⟩)
 simp only [cC,hx,ho,if_true]
 rw [if_neg (by simpa using h1),if_neg (by simpa using h2),if_pos h5]
theorem zA:∀ {l:List Od} {s:Int},fk s l=true→∀ (k:Nat) o,l[k]?=some o→iU o=true∧o.n=s+k
 | [],_,_,k,o,h=>by simp at h
 | a :: r,s,h,0,o,ho=>by
  simp at ho; subst ho
  simp only [fk,Bool.and_eq_true,decide_eq_true_eq] at h
  exact ⟨h.1.1,by simp [h.1.2]⟩
 | a :: r,s,h,k+1,o,ho=>by
  simp only [fk,Bool.and_eq_true] at h
  have:=zA h.2 k o (by simpa using ho)
  exact ⟨this.1,by omega⟩
theorem yQ:∀ {l:List Od} {s:Int},(∀ (k:Nat) o,l[k]?=some o→iU o=true∧o.n=s+k)→fk s l=true
 | [],_,_=>rfl
 | a :: r,s,h=>by
  have h0:=h 0 a rfl
  simp only [fk,Bool.and_eq_true,decide_eq_true_eq]
  refine ⟨⟨h0.1,by simpa using h0.2⟩,yQ fun k o ho=>?_⟩
  have:=h (k+1) o (by simpa using ho)
  exact ⟨this.1,by omega⟩
theorem sR:∀ {l:List Od} {s n:Int},fk s l=true→(l.filter fun o=>!decide (o.n≤n))=l.drop (n-s+1).toNat
 | [],_,_,_=>by simp
 | a :: r,s,n,h=>by
  simp only [fk,Bool.and_eq_true,decide_eq_true_eq] at h
  have ih:=sR (n:=n) h.2
  by_cases e:a.n≤n
  ·have h1:(n-s+1).toNat=(n-(s+1)+1).toNat+1:=by omega
   rw [h1,List.drop_succ_cons,←ih]
   simp [e]
  ·have h1:(n-s+1).toNat=0:=by omega
   have h2:(n-(s+1)+1).toNat=0:=by omega
   rw [h2,List.drop_zero] at ih
   rw [h1,List.drop_zero]
   simp [e,ih]
theorem Hq {o:Od} (h1:1≤o.n) (h2:o.n≤1073741824) (h3:dI o.k o.i o.v=0):iU o=true:=by simp [iU,mN,h1,h2,h3]
theorem Db {s:Sd} (h1:1≤s.n) (h2:s.n≤1073741824) (h3:s.l.length≤64) (h4:fk (s.n-s.l.length) s.l=true):db s=true:=by simp [db,mN,h1,h2,h3,h4]
theorem Lm {s:Sn} (h1:0≤s.d) (h2:s.d≤1073741824) (h3:s.l.length≤64) (h4:dp (s.d+1) s.l=true):lG s=true:=by simp [lG,mN,h1,h2,h3,h4]
theorem FW:∀ {l:List Od} {s M:Int},dp s l=true→(∀ y∈l,y.n≤M)→l=[]∨s+l.length≤M
 | [],_,_,_,_=>.inl rfl
 | a :: r,s,M,h,hM=>by
  simp only [dp,Bool.and_eq_true,decide_eq_true_eq] at h
  right
  have ha:=hM a (by simp)
  rcases FW h.2 (fun y hy=>hM y (by simp [hy])) with rfl | h3
  ·simp; omega
  ·simp only [List.length_cons]; omega
theorem IP (u:Sn) (o:Od):∀ y∈(cC u o).1.l,y∈u.l∨y=o:=by
 unfold cC
 intro y hy
 split at hy
 ·split at hy
  ·split at hy
   ·exact .inl hy
   ·split at hy
    ·exact .inl (List.mem_of_mem_drop hy)
    ·split at hy
     ·exact .inl hy
     ·split at hy
      ·simp at hy
      ·simp only [List.mem_append,List.mem_cons] at hy
       rcases hy with h | h | h
       ·exact .inl (List.mem_of_mem_take h)
       ·exact .inr h
       ·exact .inl (List.mem_of_mem_drop h)
  ·simp at hy
 ·simp at hy
structure xR (I:List Od) (s:Sd) (u:Sn) (D:Nat) (cf:Int):Prop where
 hI:∀ (k:Nat) o,I[k]?=some o→iU o=true∧o.n=(k:Int)+1
 len:I.length≤60
 sn:s.n=(I.length:Int)+1
 sl:∃ c,c≤D∧s.l=I.drop c
 ud:u.d=D
 dl:D≤I.length
 ua:dp ((D:Int)+1) u.l=true
 um:∀ x∈u.l,x∈I
 c0:0≤cf
 c1:cf≤D
theorem xR.start:xR [] ⟨1,[]⟩ ⟨0,[]⟩ 0 0:=⟨by simp,by simp,rfl,⟨0,Nat.le_refl _,rfl⟩,rfl,by simp,rfl,by simp,by simp,by simp⟩
theorem xR.Ru {I:List Od} {s s':Sd} {u:Sn} {D:Nat} {cf k i v:Int} {o:Od} (h:xR I s u D cf) (hl:I.length<60) (hi:cK s k i v=(s',o,0)):xR (I++[o]) s' u D cf:=by
 unfold cK at hi
 by_cases hs:db s=true
 rotate_left
 ·rw [if_neg hs] at hi; simp at hi
 rw [if_pos hs] at hi
 by_cases hf:dI k i v=0
 rotate_left
 ·rw [if_neg hf] at hi
  simp only [Prod.mk.injEq] at hi
  exact absurd hi.2.2 hf
 rw [if_pos hf] at hi
 by_cases h1:s.l.length=64∨s.n=1073741824
 ·rw [if_pos h1] at hi; simp at hi
 rw [if_neg h1] at hi
 simp only [Prod.mk.injEq] at hi
 obtain ⟨rfl,rfl,_⟩:=hi
 obtain ⟨c,hc,hsl⟩:=h.sl
 have hsn:=h.sn
 have hdl:=h.dl
 refine ⟨fun k' o' ho'=>?_,by simp; omega,by simp; omega,⟨c,hc,?_⟩,h.ud,by simp; omega,h.ua,fun x hx=>List.mem_append_left _ (h.um x hx),h.c0,h.c1⟩
 ·rcases Nat.lt_or_ge k' I.length with hk | hk
  ·rw [List.getElem?_append_left hk] at ho'
   exact h.hI k' o' ho'
  ·rw [List.getElem?_append_right hk] at ho'
   have hk2:=(List.getElem?_eq_some_iff.1 ho').1
   simp at hk2
   have:k' - I.length=0:=by omega
   rw [this] at ho'
   simp at ho'
   subst ho'
   exact ⟨Hq (by simp only; omega) (by simp only; omega) hf,by simp only; omega⟩
 ·rw [hsl,List.drop_append_of_le_length (by omega)]
theorem xR.ok {I:List Od} {s:Sd} {u:Sn} {D:Nat} {cf:Int} (h:xR I s u D cf):lG u=true∧db s=true∧(u.l=[]∨(D:Int)+1+u.l.length≤I.length):=by
 have hlen:=h.len
 have hdl:=h.dl
 have hud:=h.ud
 have hul:=FW h.ua (M:=(I.length:Int)) fun y hy=>by
  obtain ⟨k,hk⟩:=List.getElem?_of_mem (h.um y hy)
  have:=(h.hI k y hk).2
  have:=(List.getElem?_eq_some_iff.1 hk).1
  omega
 obtain ⟨c,hc,hsl⟩:=h.sl
 refine ⟨Lm (by omega) (by omega) ?_ (by rw [hud]; exact h.ua),Db (by rw [h.sn]; omega) (by rw [h.sn]; omega) (by rw [hsl]; simp; omega) ?_,hul⟩
 ·rcases hul with h0 | h0
  ·rw [h0]; simp
  ·omega
 ·refine yQ fun k o ho=>?_
  have hk:=(List.getElem?_eq_some_iff.1 ho).1
  rw [hsl,List.getElem?_drop] at ho
  have:=h.hI _ o ho
  refine ⟨this.1,?_⟩
  rw [this.2,h.sn,hsl,List.length_drop]
  rw [hsl,List.length_drop] at hk
  omega
theorem xR.TP {I:List Od} {s:Sd} {u:Sn} {D:Nat} {cf x:Int} (h:xR I s u D cf) (h0:0≤x) (h1:x≤D):∃ s',dK s x=(s',0)∧xR I s' u D cf∧(x=I.length→s'.l=[]):=by
 have hs:=h.ok.2.1
 have hdl:=h.dl
 have hsn:=h.sn
 obtain ⟨c,hc,hsl⟩:=h.sl
 have hb:=fh hs
 have hf:=sR (n:=x) hb.2.2.2
 refine ⟨⟨s.n,s.l.filter fun o=>!decide (o.n≤x)⟩,by simp only [dK,hs,if_true]; rw [if_neg (by omega)],⟨h.hI,h.len,h.sn,⟨c+(x-(s.n-s.l.length)+1).toNat,?_,?_⟩,h.ud,h.dl,h.ua,h.um,h.c0,h.c1⟩,fun hx=>?_⟩
 ·have:s.l.length=I.length-c:=by rw [hsl,List.length_drop]
  omega
 ·show s.l.filter _=_
  rw [hf,hsl,List.drop_drop]
 ·show s.l.filter _=_
  rw [hf]
  refine List.drop_of_length_le ?_
  have:s.l.length=I.length-c:=by rw [hsl,List.length_drop]
  omega
theorem xR.take {I:List Od} {s:Sd} {u:Sn} {D:Nat} {cf:Int} {o:Od} (h:xR I s u D cf) (ho:o∈I) :
  ∃ (u':Sn) (l:List Od) (D':Nat),cC u o=(u',l,(D':Int),0)∧xR I s u' D' D'∧I.take D'=I.take D++l∧D≤D'∧(o.n=(D:Int)+1→D<D'):=by
 obtain ⟨hu,hs,hul⟩:=h.ok
 have hlen:=h.len
 have hdl:=h.dl
 have hud:=h.ud
 obtain ⟨k,hk⟩:=List.getElem?_of_mem ho
 obtain ⟨hoo,hon⟩:=h.hI k o hk
 have hkl:=(List.getElem?_eq_some_iff.1 hk).1
 -- whatever comes of it
 have key:∀ (u':Sn) (l:List Od) (D':Nat),cC u o=(u',l,(D':Int),0)→D≤D'→D'≤I.length→I.take D'=I.take D++l→(o.n=(D:Int)+1→D<D')→∃ (u':Sn) (l:List Od) (D':Nat),cC u o=(u',l,(D':Int),0)∧xR I s u' D' D'∧I.take D'=I.take D++l∧D≤D'∧(o.n=(D:Int)+1→D<D'):=by
  intro u' l D' ht hD hDl hT hn
  obtain ⟨_,_,hx,hd,_,_⟩:=Og ht
  have hm:=IP u o
  rw [ht] at hm
  obtain ⟨c,hc,hsl⟩:=h.sl
  refine ⟨u',l,D',ht,⟨h.hI,h.len,h.sn,⟨c,by omega,hsl⟩,hd.symm,hDl,?_,fun y hy=>?_,by omega,by omega⟩,hT,hD,hn⟩
  ·rw [hd]; exact (zj hx).2.2.2
  ·rcases hm y hy with h | rfl
   ·exact ‹xR I s u D cf›.um y h
   ·exact ho
 by_cases h1:o.n≤u.d
 ·exact key u [] D (by simp only [cC,hu,hoo,if_true]; rw [if_pos h1,hud]) (Nat.le_refl _) hdl (by simp) (by omega)
 by_cases h2:o.n=u.d+1
 ·have hkD:k=D:=by omega
  subst hkD
  have hR:=m0 u.l o.n
  have hget:∀ j,j<aR o.n u.l→u.l[j]?=I[k+1+j]?:=fun j hj=>by
   have hg:u.l[j]?=some (u.l[j]'(by omega)):=List.getElem?_eq_getElem (by omega)
   have h3:=om hj hg
   obtain ⟨q,hq⟩:=List.getElem?_of_mem (h.um _ (List.mem_of_getElem? hg))
   have h4:=(h.hI q _ hq).2
   have:q=k+1+j:=by omega
   rw [hg,←hq,this]
  have hDl:k+1+aR o.n u.l≤I.length:=by
   rcases Nat.eq_zero_or_pos (aR o.n u.l) with h0 | h0
   ·omega
   ·have h3:=hget (aR o.n u.l-1) (by omega)
    rw [List.getElem?_eq_getElem (show aR o.n u.l-1<u.l.length by omega)] at h3
    have:=(List.getElem?_eq_some_iff.1 h3.symm).1
    omega
  refine key ⟨u.d+1+aR o.n u.l,u.l.drop (aR o.n u.l)⟩ (o :: u.l.take (aR o.n u.l)) (k+1+aR o.n u.l) (by simp only [cC,hu,hoo,if_true]; rw [if_neg h1,if_pos h2,hud]; simp) (by omega) hDl ?_ (by omega)
  rw [show k+1+aR o.n u.l=k+(1+aR o.n u.l) by omega,List.take_add]
  congr 1
  apply List.ext_getElem?
  intro j
  rw [List.getElem?_take]
  cases j with
  | zero=>rw [if_pos (by omega),List.getElem?_drop]; simpa using hk
  | succ j=>
   rw [List.getElem?_cons_succ,List.getElem?_take]
   by_cases hj:j<aR o.n u.l
   ·rw [if_pos (by omega),if_pos hj,List.getElem?_drop,hget j hj]
    congr 1; omega
   ·rw [if_neg (by omega),if_neg hj]
 by_cases h3:(u.l.map Od.n)[da (u.l.map Od.n) o.n]?=some o.n
 ·exact key u [] D (by simp only [cC,hu,hoo,if_true]; rw [if_neg h1,if_neg h2,if_pos h3,hud]) (Nat.le_refl _) hdl (by simp) (by omega)
 ·have h4:¬u.l.length=64:=by
   rcases hul with h0 | h0
   ·rw [h0]; simp
   ·omega
  exact key _ [] D (by simp only [cC,hu,hoo,if_true]; rw [if_neg h1,if_neg h2,if_neg h3,if_neg h4,hud]) (Nat.le_refl _) hdl (by simp) (by omega)
def YL (Y:AV) (l:List Od):Prop:=Y=.list 4 (cH l)∨(Y=.nil∧l=[])
theorem YL.LH {Y:AV} {l:List Od} (h:YL Y l) (n:Int):HP (.agg [.int .i64 n,Y]) (.agg [.int .i64 n,.list 4 (cH l)]):=by
 refine HP.agg (.cons .rfl (.cons ?_ .nil))
 rcases h with rfl | ⟨rfl,rfl⟩
 ·exact .rfl
 ·exact .nil 4
theorem YL.cL {Y:AV} {l:List Od} (h:YL Y l) (n:Int):(AV.agg [.int .i64 n,Y]).cL=true:=by rcases h with rfl | ⟨rfl,rfl⟩ <;> rfl
theorem YL.eo {Y:AV} {l:List Od} (h:YL Y l):Y.eo=true:=by rcases h with rfl | ⟨rfl,rfl⟩ <;> rfl
theorem YL.one {Y:AV} {l:List Od} (h:YL Y l):Y.one=true∧Y.flat=true∧Y.cells=[Y]:=by rcases h with rfl | ⟨rfl,rfl⟩ <;> exact ⟨rfl,rfl,rfl⟩
theorem YL.len {Y:AV} {l:List Od} (h:YL Y l) {σ:St} {K:AV→St→Prop} (k:K (.int .i64 l.length) σ):ik Y σ K:=by
 rcases h with rfl | ⟨rfl,rfl⟩
 ·simpa [ik,cH] using k
 ·simpa [ik] using k
theorem YL.mU {σ:St} {Y:AV} {l:List Od} (h:YL Y l) (n:Int):aw σ (.agg [.int .i64 n,Y]) (.agg [.int .i64 n,.list 4 (cH l)]):=by
 refine aw.ag (.cons (.pure rfl) (.cons ?_ .nil))
 rcases h with rfl | ⟨rfl,rfl⟩
 ·exact .pure rfl
 ·exact .nl 4
theorem JC (s:Sd) (k i v:Int):(cK s k i v).1.l.length≤64:=by
 unfold cK
 split
 ·rename_i h
  have:=(fh h).2.2.1
  split
  ·split
   ·simp
   ·simp; omega
  ·simp
 ·simp
theorem QY (t:Sn) (o:Od):(cC t o).1.l.length≤64∧(cC t o).2.1.length≤65:=by
 unfold cC
 split
 ·rename_i h
  have:=(zj h).2.2.1
  have h2:=m0 t.l o.n
  split
  ·split
   ·exact ⟨this,by simp⟩
   ·split
    ·refine ⟨by simp; omega,by simp; omega⟩
    ·split
     ·exact ⟨this,by simp⟩
     ·split
      ·simp
      ·have:=wZ (t.l.map Od.n) o.n
       simp at this
       refine ⟨by simp; omega,by simp⟩
  ·simp
 ·simp
theorem JZ (s:Sd) (n:Int):(dK s n).1.l.length≤64:=by
 unfold dK
 split
 ·rename_i h
  have:=(fh h).2.2.1
  split
  ·simp
  ·exact Nat.le_trans (List.length_filter_le _ _) this
 ·simp
def Pb (s:Sd):Prop:=s.l.length≤64∧0≤s.n∧s.n≤1073741824
theorem TJ (s:Sd) (k i v:Int):Pb (cK s k i v).1:=by
 refine ⟨JC s k i v,?_⟩
 unfold cK
 split
 ·rename_i h
  have h1:=fh h
  split
  ·split
   ·simp
   ·rename_i h2; simp only; omega
  ·simp
 ·simp
theorem TQ (s:Sd) (n:Int):Pb (dK s n).1:=by
 refine ⟨JZ s n,?_⟩
 unfold dK
 split
 ·rename_i h
  have h1:=fh h
  split
  ·simp
  ·simp only; omega
 ·simp
def T1 (r:AV):Prop:=∃ (s:Sd) (u:Sn),r=.tuple [mr s,HV u]∧Pb s∧u.l.length≤64
def Pg (r:AV):Prop:=∃ (s:Sd) (u:Sn),r=.tuple [mr s,HV u]∧Pb s∧db s=true
theorem xR.UO {I:List Od} {s:Sd} {u:Sn} {D:Nat} {cf k i v:Int} (h:xR I s u D cf) (hl:I.length<60) (hf:dI k i v=0):∃ I',xR I' (cK s k i v).1 u D cf∧I'.length=I.length+1:=by
 have hs:=h.ok.2.1
 have hn:=h.sn
 obtain ⟨c,hc,hsl⟩:=h.sl
 have hsl2:s.l.length=I.length-c:=by rw [hsl,List.length_drop]
 have e:cK s k i v=(⟨s.n+1,s.l++[⟨s.n,k,i,v⟩]⟩,⟨s.n,k,i,v⟩,0):=by rw [cK,if_pos hs,if_pos hf,if_neg (by omega)]
 rw [e]
 exact ⟨_,h.Ru hl e,by simp⟩
theorem xR.Tl {I:List Od} {s:Sd} {u:Sn} {D:Nat} {cf:Int} {o:Od} (h:xR I s u D cf) (ho:o∈s.l):∃ D':Nat,xR I s (cC u o).1 D' D':=by
 obtain ⟨c,hc,hsl⟩:=h.sl
 obtain ⟨u',l,D',e,h1,_⟩:=h.take (o:=o) (List.mem_of_mem_drop (hsl ▸ ho))
 rw [e]; exact ⟨D',h1⟩
theorem xR.TR {I:List Od} {s:Sd} {u:Sn} {D:Nat} {cf:Int} (h:xR I s u D cf):xR I (dK s u.d).1 u D cf:=by
 have hu:=h.ud
 obtain ⟨s',e,h1,_⟩:=h.TP (x:=u.d) (by omega) (by omega)
 rw [e]; exact h1
theorem Au (σ:St) (id g:Nat) (t:List Int) (at':Nat) (hl:t.length≤9223372036854775807) (hid:id<σ.n) (hob:σ.ob id=some ⟨g,2,aA,false,true,[bA t at']⟩) :
  HC prog DK [.ptr id g 2 0 0] σ (ej σ id g t Pg):=by
 refine HC.wU hid ?_
 obtain ⟨dH,n0,c0⟩:=σ
 simp only at hob hid
 refine aL Er (by simp) ?_
 simp only [vu,go_sem,jF,jG,jH,↓reduceIte,reduceCtorEq]
 have h0:¬id=n0:=by omega
 have h1:¬id=n0+1:=by omega
 have h2:¬id=n0+2:=by omega
 have h3:¬id=n0+3:=by omega
 try simp (disch:=omega) only [go_sem,jF,jG,↓reduceIte,jM]
 refine aM (ai _ id g aA true t at' 15 (by try simp (disch:=omega) only [go_sem,↓reduceIte,h0,h1,h2,h3]; exact hob) (by omega) hl) ?_
 have hx1:=aI t at' 15
 generalize bf t at' 15=dr at *
 obtain ⟨x0,at0⟩:=dr
 simp only at hx1
 try simp (disch:=omega) only [go_sem,↓reduceIte]
 refine bw [6,7,8,9,10,11,16,17,18,19,20,21,22,23,24,25,26,27,28,29,30,31,32,33,34,35,36,37,38,39,40,41,42,43,44,45,46,47,48,49,50,51,52,53,54,55,56,57,58,59,60,61,62,63,64,65,66,67,68,69,70] (by kernel_rfl) x0.toNat (fun k e σ=>e 6=.int .i64 (x0-k)∧(∃ at1,σ.ob id=some ⟨g,2,aA,false,true,[bA t at1]⟩)∧
  (∃ (s:Sd) (Y:AV) (u:Sn) (Z:AV) (I:List Od) (D:Nat) (cf:Int),xR I s u D cf∧I.length≤k∧YL Y s.l∧σ.ob (n0+1+1)=some ⟨c0+1+1,2,47,false,true,[.agg [.int .i64 s.n,Y]]⟩∧YL Z u.l∧σ.ob (n0+1+1+1)=some ⟨c0+1+1+1,2,80,false,true,[.agg [.int .i64 u.d,Z]]⟩)∧
  σ.ob n0=some ⟨c0,2,47,false,true,[.agg [.int .i64 0,.nil]]⟩∧σ.ob (n0+1)=some ⟨c0+1,2,80,false,true,[.agg [.int .i64 0,.nil]]⟩∧∀ i,i<n0→i≠id→σ.ob i=dH i) ?_ ?_
 ·refine ⟨by try simp (disch:=omega) only [go_sem,↓reduceIte]; simp,⟨at0,by try simp (disch:=omega) only [go_sem,↓reduceIte]⟩,⟨⟨1,[]⟩,.nil,⟨0,[]⟩,.nil,[],0,0,xR.start,Nat.zero_le _,.inr ⟨rfl,rfl⟩,(by try simp (disch:=omega) only [go_sem,jF,↓reduceIte,jM]),.inr ⟨rfl,rfl⟩,(by try simp (disch:=omega) only [go_sem,↓reduceIte,jM])⟩,by try simp (disch:=omega) only [go_sem,↓reduceIte,jM],by try simp (disch:=omega) only [go_sem,jF,↓reduceIte,jM],fun i hi hi2=>?_⟩
  try simp (disch:=omega) only [go_sem,↓reduceIte,jM,hi2]
 ·rintro k fe ob c hk ⟨h6,⟨at1,hd⟩,⟨s,Y,u,Z,I,D,cf,hLn,hIl,hY,hs,hZ,hu⟩,ha,hb,hfr⟩
  simp (maxSteps:=1000000) only [go_sem,↓reduceIte] at h6 hd hs hu ha hb hfr
  have hsl:Pb s:=by have:=fh hLn.ok.2.1; exact ⟨this.2.2.1,by omega,this.2.1⟩
  have hul:u.l.length≤64:=(zj hLn.ok.1).2.2.1
  obtain ⟨Y1,Y2,Y3⟩:=hY.one
  obtain ⟨Z1,Z2,Z3⟩:=hZ.one
  try simp (disch:=omega) only [go_sem,↓reduceIte,h6]
  refine ah (fun hlt=>?_) (fun hge=>?_)
  ·have hkl:k<x0.toNat:=by omega
   have Yp:=hY.eo
   have Zp:=hZ.eo
   try simp (disch:=omega) only [go_sem,↓reduceIte,reduceCtorEq]
   refine aM (ai _ id g aA true t at1 4 (by try simp (disch:=omega) only [go_sem]; exact hd) (by omega) hl) ?_
   have hx2:=aI t at1 4
   generalize bf t at1 4=dr at *
   obtain ⟨x2,at2⟩:=dr
   simp only at hx2
   try simp (disch:=omega) only [go_sem,↓reduceIte]
   have hx3:x2=0∨x2=1∨x2=2∨x2=3:=by omega
   rcases hx3 with rfl | rfl | rfl | rfl
   ·try simp (disch:=omega) only [go_sem,↓reduceIte,reduceCtorEq]
    try simp (disch:=omega) only [go_sem,jA,jB,jC,jD,jE,jF,jG,jH,jI,jJ,↓reduceIte,reduceCtorEq,jO,jM,jN,jK,jL,hd]
    refine (fT _ id g t at2 1 hl (by simp only; omega) (by try simp (disch:=omega) only [go_sem,↓reduceIte])).mono ?_
    rintro _ _ ⟨at3,c3,⟨kk,ii,vv,rfl,hOB⟩,rfl⟩
    try simp (disch:=omega) only [go_sem,jF,jG,jH,↓reduceIte,jM,gE,hs]
    refine ab (oQ (kG s kk ii vv (by have:=hsl.1; omega)) (.cons (hY.LH _) (oO.refl _))) (by simp [Yp,go_sem]) ?_
    obtain ⟨I',hl2,hI2⟩:=hLn.UO (by omega) hOB.2.2.2.2.2.2
    generalize cK s kk ii vv=T at *
    obtain ⟨s',o',er⟩:=T
    simp only at hl2
    try simp (disch:=omega) only [go_sem,jF,jG,jH,↓reduceIte,jO,jM,mr,gE,hs]
    refine bl hkl ⟨by try simp (disch:=omega) only [go_sem,↓reduceIte]; congr 1; omega,⟨at3,by try simp (disch:=omega) only [go_sem,↓reduceIte,jM,jN]; try exact hd⟩,⟨s',_,u,Z,I',D,cf,hl2,by omega,.inl rfl,(by try simp (disch:=omega) only [go_sem,↓reduceIte,jM,jN]; try exact hs),hZ,(by try simp (disch:=omega) only [go_sem,jF,jM,jN]; try exact hu)⟩,by try simp (disch:=omega) only [go_sem,↓reduceIte,jM,jN]; exact ha,by try simp (disch:=omega) only [go_sem,jF,↓reduceIte,jM,jN]; exact hb,fun i hi hi2=>?_⟩
    try simp (disch:=omega) only [go_sem,↓reduceIte,jM,jN,hi2]
    exact hfr i hi hi2
   ·try simp (disch:=omega) only [go_sem,jA,jF,↓reduceIte,reduceCtorEq]
    try simp (disch:=omega) only [go_sem,jA,jB,jC,jD,jE,jF,jG,jH,jI,jJ,↓reduceIte,reduceCtorEq,jO,jM,jN,jK,jL,hd]
    refine (fT _ id g t at2 1 hl (by simp only; omega) (by try simp (disch:=omega) only [go_sem,↓reduceIte])).mono ?_
    rintro _ _ ⟨at3,c3,⟨kk,ii,vv,rfl,hOB⟩,rfl⟩
    try simp (disch:=omega) only [go_sem,jF,jG,jH,↓reduceIte,jM,gE,hs]
    refine ab (oQ (kG s kk ii vv (by have:=hsl.1; omega)) (.cons (hY.LH _) (oO.refl _))) (by simp [Yp,go_sem]) ?_
    obtain ⟨I',hl2,hI2⟩:=hLn.UO (by omega) hOB.2.2.2.2.2.2
    generalize cK s kk ii vv=T at *
    obtain ⟨s',o',er⟩:=T
    simp only at hl2
    try simp (disch:=omega) only [go_sem,jF,jG,jH,↓reduceIte,jO,jM,mr,gE,hs]
    refine bl hkl ⟨by try simp (disch:=omega) only [go_sem,↓reduceIte]; congr 1; omega,⟨at3,by try simp (disch:=omega) only [go_sem,↓reduceIte,jM,jN]; try exact hd⟩,⟨s',_,u,Z,I',D,cf,hl2,by omega,.inl rfl,(by try simp (disch:=omega) only [go_sem,↓reduceIte,jM,jN]; try exact hs),hZ,(by try simp (disch:=omega) only [go_sem,jF,jM,jN]; try exact hu)⟩,by try simp (disch:=omega) only [go_sem,↓reduceIte,jM,jN]; exact ha,by try simp (disch:=omega) only [go_sem,jF,↓reduceIte,jM,jN]; exact hb,fun i hi hi2=>?_⟩
    try simp (disch:=omega) only [go_sem,↓reduceIte,jM,jN,hi2]
    exact hfr i hi hi2
   ·try simp (disch:=omega) only [go_sem,jA,jF,jG,jH,↓reduceIte,jM]
    try simp (disch:=omega) only [go_sem,hs]
    refine hY.len ?_
    try simp (disch:=omega) only [go_sem,↓reduceIte]
    refine ah (fun g1=>?_) (fun g1=>?_)
    ·try simp (disch:=omega) only [go_sem,jF,jG,jH,↓reduceIte,jM,hs]
     rcases hY with rfl | ⟨rfl,h⟩
     ·try simp (disch:=omega) only [go_sem,jF,jG,jH,↓reduceIte,reduceCtorEq,jM,hs,hu,ak]
      refine aM (ai _ id g aA true t at2 s.l.length (by try simp (disch:=omega) only [go_sem,↓reduceIte]) (by have:=hsl.1; omega) hl) ?_
      have hx4:=aI t at2 s.l.length
      generalize bf t at2 s.l.length=dr at *
      obtain ⟨x4,at3⟩:=dr
      simp only at hx4
      have hx5:x4.toNat<s.l.length:=by omega
      have hg:s.l[x4.toNat]?=some s.l[x4.toNat]:=List.getElem?_eq_getElem hx5
      generalize s.l[x4.toNat]=y at *
      try simp (disch:=omega) only [go_sem,jF,jH,↓reduceIte,reduceCtorEq,jM,ak,dz,hg,Option.map_some,gE,hu,hs]
      refine ⟨by omega,by omega,?_⟩
      refine ab (oQ (Bq u y (by omega)) (.cons (hZ.LH _) (oO.refl _))) (by simp [Zp,go_sem]) ?_
      have hl2:=hLn.Tl (List.mem_of_getElem? hg)
      generalize cC u y=T at *
      obtain ⟨u',l',m',er⟩:=T
      simp only at hl2
      try simp (disch:=omega) only [go_sem,jF,jG,jH,↓reduceIte,reduceCtorEq,jM,HV,hs,hu]
      refine ah (fun g3=>?_) (fun g3=>?_)
      ·try simp (disch:=omega) only [go_sem,jF,jG,jH,↓reduceIte,jO,jM,hu]
       refine bl hkl ⟨by try simp (disch:=omega) only [go_sem,↓reduceIte]; congr 1; omega,⟨at3,by try simp (disch:=omega) only [go_sem,↓reduceIte,jM]; try exact hd⟩,⟨s,_,u',_,I,_,_,hl2.choose_spec,by omega,.inl rfl,(by try simp (disch:=omega) only [go_sem,jF,↓reduceIte,jM]; try exact hs),.inl rfl,(by try simp (disch:=omega) only [go_sem,↓reduceIte,jM,jN]; try exact hu)⟩,by try simp (disch:=omega) only [go_sem,↓reduceIte,jM]; exact ha,by try simp (disch:=omega) only [go_sem,jF,↓reduceIte,jM]; exact hb,fun i hi hi2=>?_⟩
       try simp (disch:=omega) only [go_sem,↓reduceIte,jM,hi2]
       exact hfr i hi hi2
      ·try simp (disch:=omega) only [go_sem,jF,↓reduceIte,jO]
       refine bl hkl ⟨by try simp (disch:=omega) only [go_sem,↓reduceIte]; congr 1; omega,⟨at3,by try simp (disch:=omega) only [go_sem,↓reduceIte,jM]; try exact hd⟩,⟨s,_,u,Z,I,D,cf,hLn,by omega,.inl rfl,(by try simp (disch:=omega) only [go_sem,↓reduceIte,jM]; try exact hs),hZ,(by try simp (disch:=omega) only [go_sem,jM,jN]; try exact hu)⟩,by try simp (disch:=omega) only [go_sem,↓reduceIte,jM]; exact ha,by try simp (disch:=omega) only [go_sem,↓reduceIte,jM]; exact hb,fun i hi hi2=>?_⟩
       try simp (disch:=omega) only [go_sem,↓reduceIte,jM,hi2]
       exact hfr i hi hi2
     ·rw [h] at g1; simp at g1
    ·try simp (disch:=omega) only [go_sem,jF,↓reduceIte,jO]
     refine bl hkl ⟨by try simp (disch:=omega) only [go_sem,↓reduceIte]; congr 1; omega,⟨at2,by try simp (disch:=omega) only [go_sem,↓reduceIte]; try exact hd⟩,⟨s,Y,u,Z,I,D,cf,hLn,by omega,hY,(by try simp (disch:=omega) only [go_sem,↓reduceIte,jM]; try exact hs),hZ,(by try simp (disch:=omega) only [go_sem,jM,jN]; try exact hu)⟩,by try simp (disch:=omega) only [go_sem,↓reduceIte,jM]; exact ha,by try simp (disch:=omega) only [go_sem,↓reduceIte,jM]; exact hb,fun i hi hi2=>?_⟩
     try simp (disch:=omega) only [go_sem,↓reduceIte,hi2]
     exact hfr i hi hi2
   ·try simp (disch:=omega) only [go_sem,jA,jF,jH,↓reduceIte,jM]
    try simp (disch:=omega) only [go_sem,hs,hu]
    refine ab (oQ (ng s u.d (by have:=hsl.1; omega)) (.cons (hY.LH _) (oO.refl _))) (by simp [Yp,go_sem]) ?_
    have hl2:=hLn.TR
    generalize dK s u.d=T at *
    obtain ⟨s',er⟩:=T
    simp only at hl2
    try simp (disch:=omega) only [go_sem,jF,jG,jH,↓reduceIte,jO,jM,mr,hs]
    refine bl hkl ⟨by try simp (disch:=omega) only [go_sem,↓reduceIte]; congr 1; omega,⟨at2,by try simp (disch:=omega) only [go_sem,↓reduceIte,jM]; try exact hd⟩,⟨s',_,u,Z,I,D,cf,hl2,by omega,.inl rfl,(by try simp (disch:=omega) only [go_sem,↓reduceIte]; try exact hs),hZ,(by try simp (disch:=omega) only [go_sem,jF,jM,jN]; try exact hu)⟩,by try simp (disch:=omega) only [go_sem,↓reduceIte,jM]; exact ha,by try simp (disch:=omega) only [go_sem,jF,↓reduceIte,jM]; exact hb,fun i hi hi2=>?_⟩
    try simp (disch:=omega) only [go_sem,↓reduceIte,jM,hi2]
    exact hfr i hi hi2
  ·try simp (disch:=omega) only [go_sem,jF,jG,jH,↓reduceIte,reduceCtorEq,jM,ha,hb,hs,hu,Y1,Z1]
   refine ⟨.tuple [mr s,HV u],at1,aw.tu (.cons (hY.mU _) (.cons (hZ.mU _) .nil)),⟨s,u,rfl,hsl,hLn.ok.2.1⟩,by try simp (disch:=omega) only [go_sem,jM]; exact hd,fun i hi hi2=>?_⟩
   simp only at hi
   try simp (disch:=omega) only [go_sem,jM]
   exact hfr i hi hi2
end Go.Proofs.Try
