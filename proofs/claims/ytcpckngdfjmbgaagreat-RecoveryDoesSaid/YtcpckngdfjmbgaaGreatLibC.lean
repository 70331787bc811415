/- OWN WORK, put together by tools/asm.py, seat.py, mini.py. -/
import Derived.Test.YtcpckngdfjmbgaaGreatLibB
set_option linter.unusedSimpArgs false
set_option linter.unusedVariables false
set_option maxRecDepth 100000
set_option maxHeartbeats 1000000
namespace Go.Proofs.Try
open Go.Ab Go Go.Proofs.Tryz
open Int renaming reduceEq → jA, reduceLT → jB, reduceLE → jC, reduceToNat → jD
open Go.Ab renaming iP → jM, iQ → jN, lV → jO, iR → jP
open Nat renaming reduceLT → jE, reduceEqDiff → jF, reduceAdd → jG, reduceLeDiff → jH, reduceSub → jI, reduceMul → jJ, sub_zero → jK, sub_self → jL
def Ic (a:Ac) (f:Nat):List Bd:=if f=1 then a.st else if f=2 then a.ins else a.outs
def Gt {α:Type} (f:Nat) (s x y:α):α:=if f=1 then s else if f=2 then x else y
theorem ke.l {a:Ac} (h:ke a):IF a:=by
 have:=h.n2; have:=h.no; have:=h.ns
 exact ⟨by omega,by omega,by omega⟩
structure Pk (a:Ac) (n:Nat) (S I O:List Int):Prop where
 h:Mr n S I O
 n1:1≤n
 n5:n≤5
 f0:0≤a.fr
 f1:a.fr≤19
 s:IE S a.st
 i:IE I a.ins
 o:IE O a.outs
def T7 (σ:St) (id g:Nat) (t:List Int) (r:AV) (τ:St):Prop:=
 ∃ a n S I O R1 R2 R3,r=.tuple [.agg [.int .i64 a.fr,R1,R2,R3],.list 1 (ints S),.list 1 (ints I),.list 1 (ints O)]∧Pk a n S I O∧
  cu 2 24 τ (cr a.st) R1∧cu 2 24 τ (cr a.ins) R2∧cu 2 24 τ (cr a.outs) R3∧(∀ i,i<σ.n→aY R1 i)∧(∀ i,i<σ.n→aY R2 i)∧(∀ i,i<σ.n→aY R3 i)∧Dj R1 R2∧Dj R1 R3∧Dj R2 R3∧
  σ.n≤τ.n∧(∃ a,τ.ob id=some ⟨g,2,aA,false,true,[bA t a]⟩)∧∀ i,i<σ.n→i≠id→τ.ob i=σ.ob i
theorem yx (σ:St) (id g:Nat) (t:List Int) (at':Nat) (hl:t.length≤9223372036854775807) (hid:id<σ.n) (hob:σ.ob id=some ⟨g,2,aA,false,true,[bA t at']⟩) :
  HC prog qb [.ptr id g 2 0 0] σ (T7 σ id g t):=by
 obtain ⟨dH,n0,c0⟩:=σ
 simp only at hob hid
 refine aL A8 (by simp) ?_
 simp only [qL,go_sem,↓reduceIte,reduceCtorEq]
 have h0:¬id=n0:=by omega
 have h1:¬id=n0+1:=by omega
 have h2:¬n0=id:=by omega
 refine (yw _ id g t at' hl (by simp only; omega) (by try simp (disch:=omega) only [go_sem,↓reduceIte,h0]; exact hob)).mono ?_
 intro r τ hD
 obtain ⟨⟨n,S,I,O,rfl,hH,hn1,hn5⟩,hn,⟨at1,hd1⟩,hf1⟩:=hD.use (by simp only; omega)
 obtain ⟨ob1,m1,c1⟩:=τ
 simp only at hn hd1 hf1
 obtain rfl:n0+1=m1:=hn.symm
 have hS:=hH.ls
 have hI:=hH.li
 have hO:=hH.lo
 try simp (disch:=omega) only [go_sem,jF,↓reduceIte,reduceCtorEq]
 refine aM (ai _ id g aA true t at1 20 hd1 (by omega) hl) ?_
 have hx2:=aI t at1 20
 generalize bf t at1 20=dr at *
 obtain ⟨fr,at2⟩:=dr
 simp only at hx2
 try simp (disch:=omega) only [go_sem,jF,↓reduceIte,reduceCtorEq]
 refine (oD _ id g t at2 S hl (by simp only; omega) (by try simp (disch:=omega) only [go_sem,↓reduceIte]) (by omega) (fun i hi=>by have:=hH.s i (by omega); omega)).mono ?_
 rintro R1 ⟨ob3,m3,c3⟩ ⟨B1,hB1,r1,o1,hm3,⟨at3,hd3⟩,hf3⟩
 simp only at o1 hm3 hd3 hf3
 try simp (disch:=omega) only [go_sem,jF,↓reduceIte,reduceCtorEq]
 refine (oD _ id g t at3 I hl (by simp only; omega) hd3 (by omega) (fun i hi=>by have:=hH.i i (by omega); omega)).mono ?_
 rintro R2 ⟨ob4,m4,c4⟩ ⟨B2,hB2,r2,o2,hm4,⟨at4,hd4⟩,hf4⟩
 simp only at o2 hm4 hd4 hf4
 try simp (disch:=omega) only [go_sem,jF,↓reduceIte,reduceCtorEq]
 refine (oD _ id g t at4 O hl (by simp only; omega) hd4 (by omega) (fun i hi=>by have:=hH.o i (by omega); omega)).mono ?_
 rintro R3 ⟨ob5,m5,c5⟩ ⟨B3,hB3,r3,o3,hm5,⟨at5,hd5⟩,hf5⟩
 simp only at o3 hm5 hd5 hf5
 try simp (disch:=omega) only [go_sem,jF,jG,jH,↓reduceIte]
 have v1:=hf1 n0 (by omega) h2
 have v3:=hf3 n0 (by omega) h2
 have v4:=hf4 n0 (by omega) h2
 have v5:=hf5 n0 (by omega) h2
 try simp (disch:=omega) only [go_sem,↓reduceIte,h2] at v1 v3
 rw [v4,v3,v1] at v5
 try simp (disch:=omega) only [go_sem,jG,↓reduceIte,r1.flat,r2.flat,r3.flat,r1.cells,r2.cells,r3.cells,r1.one,r2.one,r3.one,v5]
 have k1:∀ {R:AV} {i:Nat},(∀ j,j<n0+1→aY R j)→¬aY R i→¬i=id∧¬i=n0:=fun ho hno=>⟨fun e=>hno (e ▸ ho id (by omega)),fun e=>hno (e ▸ ho n0 (by omega))⟩
 have k2:∀ {R:AV} {i:Nat},(∀ j,j<m3→aY R j)→¬aY R i→¬i=id∧¬i=n0:=fun ho hno=>⟨fun e=>hno (e ▸ ho id (by omega)),fun e=>hno (e ▸ ho n0 (by omega))⟩
 have k3:∀ {R:AV} {i:Nat},(∀ j,j<m4→aY R j)→¬aY R i→¬i=id∧¬i=n0:=fun ho hno=>⟨fun e=>hno (e ▸ ho id (by omega)),fun e=>hno (e ▸ ho n0 (by omega))⟩
 refine ⟨⟨fr,B1,B2,B3⟩,n,S,I,O,R1,R2,R3,rfl,⟨hH,hn1,hn5,by simp only; omega,by simp only; omega,hB1,hB2,hB3⟩,r1.move (by simp only; omega) fun i hi hno=>?_,r2.move (by simp only; omega) fun i hi hno=>?_,r3.move (by exact Nat.le_refl _) fun i hi hno=>?_,fun i hi=>o1 i (by simp only at hi; omega),fun i hi=>o2 i (by simp only at hi; omega),fun i hi=>o3 i (by simp only at hi; omega),fun i=>?_,fun i=>?_,fun i=>?_,by simp only; omega,⟨at5,?_⟩,fun i hi hne=>?_⟩
 ·obtain ⟨q1,q2⟩:=k1 o1 hno
  simp only at hi ⊢
  rw [aa _ _ _ _ q2,hf5 i (by omega) q1,hf4 i (by omega) q1]
 ·obtain ⟨q1,q2⟩:=k2 o2 hno
  simp only at hi ⊢
  rw [aa _ _ _ _ q2,hf5 i (by omega) q1]
 ·obtain ⟨q1,q2⟩:=k3 o3 hno
  simp only at hi ⊢
  rw [aa _ _ _ _ q2]
 ·rcases Nat.lt_or_ge i m3 with h | h
  ·exact .inr (o2 i h)
  ·exact .inl (r1.H2 h)
 ·rcases Nat.lt_or_ge i m4 with h | h
  ·exact .inr (o3 i h)
  ·exact .inl (r1.H2 (by simp only; omega))
 ·rcases Nat.lt_or_ge i m4 with h | h
  ·exact .inr (o3 i h)
  ·exact .inl (r2.H2 (by simp only; omega))
 ·simp only; rw [aa _ _ _ _ h0]; exact hd5
 ·simp only at hi ⊢
  rw [aa _ _ _ _ (by omega),hf5 i (by omega) hne,hf4 i (by omega) hne,hf3 i (by omega) hne,aa _ _ _ _ hne,hf1 i (by omega) hne,aa _ _ _ _ (by omega)]
theorem uX (σ:St) (id g:Nat) (t:List Int) (at':Nat) (hl:t.length≤9223372036854775807) (hid:id<σ.n) (hob:σ.ob id=some ⟨g,2,aA,false,true,[bA t at']⟩) :
  HC prog qb [.ptr id g 2 0 0] σ (ej σ id g t fun r=>∃ a n S I O,r=.tuple [gG a,.list 1 (ints S),.list 1 (ints I),.list 1 (ints O)]∧Pk a n S I O):=by
 refine HC.wU hid ((yx σ id g t at' hl hid hob).mono ?_)
 rintro r τ ⟨a,n,S,I,O,R1,R2,R3,rfl,hD,r1,r2,r3,o1,o2,o3,-,-,-,hn,⟨at2,hd⟩,hf⟩
 have pb:∀ {R:AV} {B:List Bd},cu 2 24 τ (cr B) R→(∀ i,i<σ.n→aY R i)→aw ⟨fun i=>if i<σ.n then none else τ.ob i,τ.n,τ.c⟩ R (.list 2 (cr B)):=fun hr ho=>
  hr.mU (fun i hi hno=>by simp only; rw [if_neg fun h=>hno (ho i h)]) (mn _) (qM _)
 exact ⟨.tuple [gG a,.list 1 (ints S),.list 1 (ints I),.list 1 (ints O)],at2,aw.tu (.cons (aw.ag (.cons (.pure rfl) (.cons (pb r1 o1) (.cons (pb r2 o2) (.cons (pb r3 o3) .nil))))) (.cons (.pure (by simp [go_sem])) (.cons (.pure (by simp [go_sem])) (.cons (.pure (by simp [go_sem])) .nil)))),⟨a,n,S,I,O,rfl,hD⟩,hd,hf⟩
structure T0 (a:Ac) (n:Nat):Prop where
 n1:1≤n
 n5:n≤5
 ls:a.st.length=n+1
 li:a.ins.length=n
 lo:a.outs.length=n
 f0:0≤a.fr
 f1:a.fr≤19
 s:∀ b∈a.st,0≤b.lo∧b.lo≤b.hi∧b.hi≤1000
 i:∀ b∈a.ins,0≤b.lo∧b.lo≤b.hi∧b.hi≤1000
 o:∀ b∈a.outs,0≤b.lo∧b.lo≤b.hi∧b.hi≤1000
theorem IE.fit {L:List Int} {B:List Bd} (h:IE L B) (hx:∀ i,i<L.length→L.getD i 0≤900):∀ b∈B,0≤b.lo∧b.lo≤b.hi∧b.hi≤1000:=by
 intro b hb
 obtain ⟨i,hi,rfl⟩:=List.mem_iff_getElem.1 hb
 have h1:=h.b i (by have:=h.ln; omega)
 have h2:=hx i (by have:=h.ln; omega)
 have h3:gB B i=B[i]:=by simp [gB,List.getD_eq_getElem?_getD,hi]
 rw [h3] at h1
 simp only [Cg] at h1
 omega
theorem Pk.U9 {a:Ac} {n:Nat} {S I O:List Int} (h:Pk a n S I O):T0 a n:=by
 have h1:=h.h.ls
 have h2:=h.h.li
 have h3:=h.h.lo
 have:=h.n5
 refine ⟨h.n1,h.n5,by rw [h.s.ln,h1],by rw [h.i.ln,h2],by rw [h.o.ln,h3],h.f0,h.f1,h.s.fit fun i hi=>?_,h.i.fit fun i hi=>?_,h.o.fit fun i hi=>?_⟩
 ·have:=h.h.s i (by omega); omega
 ·have:=h.h.i i (by omega); omega
 ·have:=h.h.o i (by omega); omega
theorem T0.ok {a:Ac} {n:Nat} (h:T0 a n):ke a:=by
 have h1:=h.n1
 have h2:=h.n5
 have h3:=h.f0
 have h4:=h.f1
 have h5:=h.li
 have f:∀ {b:Bd},(0≤b.lo∧b.lo≤b.hi∧b.hi≤1000)→fG b:=fun h=>⟨h.1,h.2.1,by simp only [F7]; omega⟩
 exact ⟨by omega,by omega,by rw [h.lo,h.li],by rw [h.ls,h.li],h3,by omega,fun b hb=>f (h.s b hb),fun b hb=>f (h.i b hb),fun b hb=>f (h.o b hb)⟩
def T3 (a:Ac) (n:Nat) (s x y:Nat→Int):Prop:=Hi (gB a.st) (gB a.ins) (gB a.outs) n s x y
theorem Pk.hi {a:Ac} {n:Nat} {S I O:List Int} (h:Pk a n S I O):a.ins.length=n∧T3 a n (fun i=>S.getD i 0) (fun i=>I.getD i 0) (fun i=>O.getD i 0):=by
 have h1:=h.h.ls
 have h2:=h.h.li
 have h3:=h.h.lo
 refine ⟨by rw [h.i.ln,h2],fun i hi=>?_,fun i hi=>?_,fun i hi=>?_,h.h.PY⟩
 ·have:=h.s.b i (by omega); exact ⟨this.2.1,this.2.2.1⟩
 ·have:=h.i.b i (by omega); exact ⟨this.2.1,this.2.2.1⟩
 ·have:=h.o.b i (by omega); exact ⟨this.2.1,this.2.2.1⟩
structure Rp where
 nu:Int
 ac:Int
 fd:Int
 tm:Int
 b:Bd
 deriving DecidableEq,Inhabited
structure Bk where
 op:List Ac
 rp:List Rp
def ek (r:Rp):AV:=.agg [.int .i64 r.nu,.int .i64 r.ac,.int .i64 r.fd,.int .i64 r.tm,.int .i64 r.b.lo,.int .i64 r.b.hi]
def iG (l:List Rp):List AV:=l.map ek
def lE (l:List Ac):List AV:=l.map gG
theorem aE (l:List Rp):(iG l).length=l.length:=by simp [iG]
theorem dL (l:List Rp) (i:Nat):(iG l)[i]?=(l[i]?).map ek:=by simp [iG]
theorem tU (l:List Rp):∀ x∈iG l,x.cL=true:=by simp [iG,ek,go_sem]
theorem zC (l:List Rp):∀ x∈iG l,mF 6 x:=by simp [iG,ek,mF,go_sem]
theorem aN (l:List Ac):(lE l).length=l.length:=by simp [lE]
theorem fg (l:List Ac) (i:Nat):(lE l)[i]?=(l[i]?).map gG:=by simp [lE]
theorem zg (l:List Ac):∀ x∈lE l,x.cL=true:=by
 intro x hx
 obtain ⟨a,_,rfl⟩:=List.mem_map.1 hx
 exact Mk a
theorem Ex (l:List Ac):∀ x∈lE l,mF 4 x:=by simp [lE,gG,mF,go_sem]
def jv (B:Bk):AV:=.agg [.list 4 (lE B.op),.list 6 (iG B.rp)]
def gA (l:List Ac) (i:Nat):Ac:=(l[i]?).getD RN
def gR (l:List Rp) (i:Nat):Rp:=l.getD i default
theorem iw {l:List Ac} {i:Nat} (h:i<l.length):l[i]?=some (gA l i):=by simp [gA,h]
theorem ea {l:List Rp} {i:Nat} (h:i<l.length):l[i]?=some (gR l i):=by simp [gR,List.getD_eq_getElem?_getD,h]
structure TV (a:Ac) (r:Rp):Prop where
 fd:r.fd=1∨r.fd=2∨r.fd=3
 t0:a.fr≤r.tm
 t1:r.tm<a.fr+((Ic a r.fd.toNat).length:Int)
 b:fG r.b
structure Ey (op:List Ac) (r:Rp):Prop where
 n1:1≤r.nu
 n2:r.nu≤1073741824
 a0:0≤r.ac
 a1:r.ac<op.length
 a:TV (gA op r.ac.toNat) r
structure lT (B:Bk):Prop where
 n:B.op.length≤16
 ao:∀ a∈B.op,ke a
 m:B.rp.length≤4096
 Kk:B.rp.Pairwise fun a b=>a.nu<b.nu
 ro:∀ r∈B.rp,Ey B.op r
def SU (a:Ac) (r:Rp) (s x y:Nat→Int):Prop:=ir r.b (Gt r.fd.toNat s x y (r.tm-a.fr).toNat)
theorem yX {a:Ac} (h:ke a) {f:Int} (hf:f=1∨f=2∨f=3):((Ic a f.toNat).length:Int)=if f=1 then (a.ins.length:Int)+1 else a.ins.length:=by
 have h1:=h.ns
 have h2:=h.no
 rcases hf with rfl | rfl | rfl <;> simp [Ic] <;> omega
theorem lT.acc {B:Bk} (h:lT B) {i:Nat} (hi:i<B.op.length):ke (gA B.op i):=h.ao _ (List.mem_of_getElem? (iw hi))
theorem vw (B:Bk):(jv B).cL=true:=by simp [jv,go_sem]
abbrev ic (l:List Rp):List Int:=l.map Rp.nu
theorem et {l:List Rp} {i:Nat} {x:Int}:(ic l)[i]?=some x↔∃ r,l[i]?=some r∧r.nu=x:=by
 rw [List.getElem?_map]
 cases l[i]? <;> simp
theorem vV {l:List Rp} (h:l.Pairwise fun a b=>a.nu<b.nu) {i j:Nat} (hij:i<j) {x y:Rp} (hx:l[i]?=some x) (hy:l[j]?=some y):x.nu<y.nu:=by
 obtain ⟨h1,rfl⟩:=List.getElem?_eq_some_iff.1 hx
 obtain ⟨h2,rfl⟩:=List.getElem?_eq_some_iff.1 hy
 exact List.pairwise_iff_getElem.1 h i j h1 h2 hij
theorem Dg {l:List Rp} (h:l.Pairwise fun a b=>a.nu<b.nu):KP (ic l):=fun i j hij x y hx hy=>by
 obtain ⟨a,ha,rfl⟩:=et.1 hx
 obtain ⟨b,hb,rfl⟩:=et.1 hy
 exact Int.le_of_lt (vV h hij ha hb)
theorem OG:∀ {l m:List Rp},(l.Pairwise fun a b=>a.nu<b.nu)→(m.Pairwise fun a b=>a.nu<b.nu)→(∀ r,r∈l↔r∈m)→l=m
 | [],[],_,_,_=>rfl
 | [],y :: m,_,_,h=>by have:=(h y).2 (by simp); simp at this
 | x :: l,[],_,_,h=>by have:=(h x).1 (by simp); simp at this
 | x :: l,y :: m,hl,hm,h=>by
  rw [List.pairwise_cons] at hl hm
  have e:x=y:=by
   have h1:=(h x).1 (by simp)
   have h2:=(h y).2 (by simp)
   simp only [List.mem_cons] at h1 h2
   rcases h1 with h1 | h1
   ·exact h1
   ·rcases h2 with h2 | h2
    ·exact h2.symm
    ·have:=hl.1 y h2
     have:=hm.1 x h1
     omega
  subst e
  rw [OG hl.2 hm.2 fun r=>?_]
  have h1:=h r
  simp only [List.mem_cons] at h1
  constructor
  ·intro hr
   rcases h1.1 (.inr hr) with e | e
   ·subst e; have:=hl.1 r hr; omega
   ·exact e
  ·intro hr
   rcases h1.2 (.inr hr) with e | e
   ·subst e; have:=hm.1 r hr; omega
   ·exact e
def EE:Bk:=⟨[],[]⟩
def gO (B:Bk) (r:Rp):Bk × Int:=
 if (ic B.rp)[da (ic B.rp) r.nu]?=some r.nu then (if gR B.rp (da (ic B.rp) r.nu)=r then (B,0) else (EE,46))
 else if B.rp.length=4096 then (EE,10) else (⟨B.op,B.rp.take (da (ic B.rp) r.nu)++r :: B.rp.drop (da (ic B.rp) r.nu)⟩,0)
theorem JM {B:Bk} (h:lT B) {r:Rp} (hr:Ey B.op r) (hn:∀ q∈B.rp,q.nu≠r.nu) (hl:B.rp.length<4096) :
  ∃ l,gO B r=(⟨B.op,l⟩,0)∧lT ⟨B.op,l⟩∧(∀ q,q∈l↔q∈B.rp∨q=r)∧l.length=B.rp.length+1:=by
 have hA:=Dg h.Kk
 have hk:=wZ (ic B.rp) r.nu
 have hno:¬(ic B.rp)[da (ic B.rp) r.nu]?=some r.nu:=by
  rw [rh _ _ hA]
  intro hm
  obtain ⟨q,h1,h2⟩:=List.mem_map.1 hm
  exact hn q h1 h2
 rw [List.length_map] at hk
 have lt:∀ q∈B.rp.take (da (ic B.rp) r.nu),q.nu<r.nu:=fun q hq=>by
  obtain ⟨i,hi⟩:=List.getElem?_of_mem hq
  rw [List.getElem?_take] at hi
  split at hi
  ·rename_i hik
   rcases Int.lt_or_le q.nu r.nu with h1 | h1
   ·exact h1
   ·have:=wY (et.2 ⟨q,hi,rfl⟩) h1; omega
  ·cases hi
 have gt:∀ q∈B.rp.drop (da (ic B.rp) r.nu),r.nu<q.nu:=fun q hq=>by
  obtain ⟨i,hi⟩:=List.getElem?_of_mem hq
  rw [List.getElem?_drop] at hi
  have hne:=hn q (List.mem_of_getElem? hi)
  have h0:(da (ic B.rp) r.nu)<B.rp.length:=by have:=(List.getElem?_eq_some_iff.1 hi).1; omega
  have hat:(ic B.rp)[da (ic B.rp) r.nu]?=some (gR B.rp (da (ic B.rp) r.nu)).nu:=et.2 ⟨_,ea h0,rfl⟩
  have h1:=GU hat
  rcases Nat.eq_zero_or_pos i with rfl | hpos
  ·have h2:=ea h0
   rw [Nat.add_zero] at hi
   rw [h2] at hi
   obtain rfl:=Option.some.inj hi
   omega
  ·have:=vV h.Kk (show da (ic B.rp) r.nu<da (ic B.rp) r.nu+i by omega) (ea h0) hi
   omega
 have mem:∀ q,q∈B.rp.take (da (ic B.rp) r.nu)++r :: B.rp.drop (da (ic B.rp) r.nu)↔q∈B.rp∨q=r:=fun q=>by
  have h1:q∈B.rp↔q∈B.rp.take (da (ic B.rp) r.nu)∨q∈B.rp.drop (da (ic B.rp) r.nu):=by
   rw [←List.mem_append,List.take_append_drop]
  rw [h1]
  simp only [List.mem_append,List.mem_cons]
  constructor
  ·rintro (h | h | h)
   ·exact .inl (.inl h)
   ·exact .inr h
   ·exact .inl (.inr h)
  ·rintro ((h | h) | h)
   ·exact .inl h
   ·exact .inr (.inr h)
   ·exact .inr (.inl h)
 refine ⟨B.rp.take (da (ic B.rp) r.nu)++r :: B.rp.drop (da (ic B.rp) r.nu),by unfold gO; rw [if_neg hno,if_neg (by omega)],⟨h.n,h.ao,?_,?_,?_⟩,mem,?_⟩
 ·simp; omega
 ·simp only
  rw [List.pairwise_append,List.pairwise_cons]
  refine ⟨h.Kk.sublist (List.take_sublist _ _),⟨gt,h.Kk.sublist (List.drop_sublist _ _)⟩,fun a ha b hb=>?_⟩
  simp only [List.mem_cons] at hb
  rcases hb with rfl | hb
  ·exact lt a ha
  ·have:=lt a ha; have:=gt b hb; omega
 ·intro q hq
  rcases (mem q).1 hq with h1 | rfl
  ·exact h.ro q h1
  ·exact hr
 ·simp; omega
theorem Fm {B:Bk} (h:lT B) {r:Rp} (hr:Ey B.op r) (h0:(gO B r).2=0):lT (gO B r).1∧(gO B r).1.op=B.op∧∀ q,q∈(gO B r).1.rp↔q∈B.rp∨q=r:=by
 by_cases hm:r.nu∈ic B.rp
 ·have hA:=Dg h.Kk
  have h1:=(rh _ _ hA).2 hm
  unfold gO at h0 ⊢
  rw [if_pos h1] at h0 ⊢
  split at h0
  ·rename_i h2
   rw [if_pos h2]
   refine ⟨h,rfl,fun q=>⟨.inl,fun hq=>hq.elim id fun e=>?_⟩⟩
   subst e
   obtain ⟨a,ha,_⟩:=et.1 h1
   have hlt:=(List.getElem?_eq_some_iff.1 ha).1
   have:=List.mem_of_getElem? (ea hlt)
   rwa [h2] at this
  ·cases h0
 ·by_cases hl:B.rp.length=4096
  ·unfold gO at h0
   rw [if_neg (fun h1=>hm ((rh _ _ (Dg h.Kk)).1 h1)),if_pos hl] at h0
   cases h0
  ·obtain ⟨l,e,h1,h2,_⟩:=JM h hr (fun q hq e=>hm (List.mem_map.2 ⟨q,hq,e⟩)) (by have:=h.m; omega)
   rw [e]
   exact ⟨h1,rfl,h2⟩
structure Tr where
 S:List Int
 I:List Int
 O:List Int
 deriving Inhabited
def Lg (t:Tr):AV:=.agg [.list 1 (ints t.S),.list 1 (ints t.I),.list 1 (ints t.O)]
def F3 (l:List Tr):List AV:=l.map Lg
theorem oa (l:List Tr):(F3 l).length=l.length:=by simp [F3]
theorem Li (l:List Tr) (i:Nat):(F3 l)[i]?=(l[i]?).map Lg:=by simp [F3]
theorem Lh (l:List Tr):∀ x∈F3 l,x.cL=true:=by simp [F3,Lg,go_sem]
theorem Oe (l:List Tr):∀ x∈F3 l,mF 3 x:=by simp [F3,Lg,mF,go_sem]
def gT (l:List Tr) (i:Nat):Tr:=l.getD i default
theorem OS {l:List Tr} {i:Nat} (h:i<l.length):l[i]?=some (gT l i):=by simp [gT,List.getD_eq_getElem?_getD,h]
def Mm (a:Ac) (t:Tr):Prop:=∃ n,Pk a n t.S t.I t.O
def P1 (a:Ac) (r:Rp) (t:Tr):Prop:=SU a r (fun i=>t.S.getD i 0) (fun i=>t.I.getD i 0) (fun i=>t.O.getD i 0)
structure Pa (B:Bk) (T:List Tr):Prop where
 ok:lT B
 n1:1≤B.op.length
 n2:B.op.length≤2
 len:T.length=B.op.length
 tr:∀ i,i<B.op.length→Mm (gA B.op i) (gT T i)
 rt:∀ r∈B.rp,P1 (gA B.op r.ac.toNat) r (gT T r.ac.toNat)
 nu:∀ r∈B.rp,r.nu≤20
theorem Mm.hi {a:Ac} {t:Tr} (h:Mm a t):T3 a a.ins.length (fun i=>t.S.getD i 0) (fun i=>t.I.getD i 0) (fun i=>t.O.getD i 0)∧t.S.length=a.ins.length+1∧t.I.length=a.ins.length∧t.O.length=a.ins.length∧ke a:=by
 obtain ⟨n,h⟩:=h
 obtain ⟨h1,h2⟩:=h.hi
 exact ⟨by rw [h1]; exact h2,by rw [h1]; exact h.h.ls,by rw [h1]; exact h.h.li,by rw [h1]; exact h.h.lo,h.U9.ok⟩
structure TU (a:Ac) (t:Tr):Prop where
 hi:T3 a a.ins.length (fun i=>t.S.getD i 0) (fun i=>t.I.getD i 0) (fun i=>t.O.getD i 0)
 lS:t.S.length=a.ins.length+1
 lI:t.I.length=a.ins.length
 lO:t.O.length=a.ins.length
 ok:ke a
 bS:∀ i,i≤a.ins.length→0≤t.S.getD i 0∧t.S.getD i 0≤900
 bI:∀ i,i<a.ins.length→0≤t.I.getD i 0∧t.I.getD i 0≤900
 bO:∀ i,i<a.ins.length→0≤t.O.getD i 0∧t.O.getD i 0≤900
theorem Mm.g {a:Ac} {t:Tr} (h:Mm a t):TU a t:=by
 obtain ⟨h1,h2,h3,h4,h5⟩:=h.hi
 obtain ⟨n,hD⟩:=h
 have hn:=hD.hi.1
 have h5':=hD.n5
 refine ⟨h1,h2,h3,h4,h5,fun i hi=>?_,fun i hi=>?_,fun i hi=>?_⟩
 ·have:=hD.h.s i (by omega); omega
 ·have:=hD.h.i i (by omega); omega
 ·have:=hD.h.o i (by omega); omega
theorem tQ {P:Program} (w:World) (tS tR e:TypeId) (ht:P.underlying tS=some (.slice e)) (size:Nat) (hz:∀ w,(Go.sizeOf e).run P w=.ok size w)
  (a b:Addr) (la ca lb cb:Nat) (hne:a.block≠b.block) (tA tB:TypeId) (kA kB:Nat)
  (hsa:w.shape? a.block=some (tA,kA)) (hsb:w.shape? b.block=some (tB,kB)) (hkA:kA≠0)
  (hfb:w.frozen? b=false) (hfe:w.frozen? { block:=b.block,off:=kB }=false) :
  (Extern.SlicesOverlaps.overlaps #[tS,tS] #[tR] #[.slice (some a) la ca,.slice (some b) lb cb]).run P w=.ok (.bool false) w:=by
 have hnb:(a.block != b.block)=true:=by simpa using hne
 have hnb':(a.block == b.block)=false:=by simpa using hne
 obtain ⟨r,hr⟩:∃ r,Extern.SlicesOverlaps.overlaps #[tS,tS] #[tR] #[.slice (some a) la ca,.slice (some b) lb cb]=r:=⟨_,rfl⟩
 rw [hr]
 unfold Extern.SlicesOverlaps.overlaps at hr
 conv at hr=>lhs; whnf
 have ht0:P.underlying (#[tS,tS][0])=some (.slice e):=ht
 have pb:∀ {α:Type} (x:α) (f:α→Sem Value),(pure x:Sem α).bind f=f x:=fun _ _=>rfl
 rw [←hr]
 cases kA with
 | zero=>exact absurd rfl hkA
 | succ kA=>
  by_cases h0:la=0∨lb=0∨size=0
  ·simp [Sem.run,Sem.bind,ht,pb,hz,h0]
  ·cases hfa:w.frozen? a <;> cases hfa2:w.frozen? { block:=a.block,off:=kA+1 } <;>
    simp [Sem.run,Sem.bind,ht,pb,hz,h0,hnb,hnb',frozen,noView,viewAt,mayBeOne,stringish,shape,hsa,hsb,hfa,hfa2,hfb,hfe]
theorem Kv {P:Program} {σ:St} {f:Nat} {tS tR:TypeId} (he:Hy P f=some (Extern.SlicesOverlaps.overlaps #[tS,tS] #[tR])) (ht:JQ P tS=true)
  {es:Nat} {L:List AV} {id' g' es' off' n' c':Nat} {o':aU} (hL:L≠[]) (hes:0<es) (ho':σ.ob id'=some o') (hg':o'.g=g') (hro:o'.ro=false) (hap:o'.ap=true) :
  HC P f [.list es L,.fH id' g' es' off' n' c'] σ fun r σ'=>r=.bool false∧σ'=σ:=by
 subst hg'
 refine ⟨(Cq he).1,fun m S w vs hS hv=>.inr ?_⟩
 obtain ⟨v1,v2,rfl⟩:∃ v1 v2,vs=[v1,v2]:=by
  match vs,hv.1 with
  | [a,b],_=>exact ⟨a,b,rfl⟩
 have h1:=hv.2 0 _ v1 rfl rfl
 have h2:=hv.2 1 _ v2 rfl rfl
 obtain ⟨b',len',hu',rfl,hcap'⟩:=h2.fq
 obtain ⟨v',hm',⟨_,hes',xs',hown',_⟩,hSb⟩:=hS.obj id' o' ho'
 rw [hu'] at hm'; obtain rfl:=Option.some.inj hm'
 rcases (hown'.own rfl).2 with ⟨h,_⟩ | ⟨b2,len2,cap2,cur2,fr2,h,hgb2,hnc2,hcm2,hsz2,htk2,hfr2,hfr02⟩
 ·cases h
 cases h
 obtain rfl:=hfr02 hap
 cases h1 with
 | pure h1=>
  cases h1 with
  | bP=>exact absurd rfl hL
  | @list _ _ b o cap ff hl' hcap hSS hc hw hvv=>
   obtain ⟨hSb1,cs,t,fr,hgb⟩:=hSS
   have hbb:b≠b':=fun e=>(hSb b' rfl).2 hro (e ▸ hSb1)
   have hcell:=hw 0 0 (by cases L with
    | nil=>exact absurd rfl hL
    | cons x r=>simp) hes
   have hk1:cs.size≠0:=by
    simp only [World.cell?,hgb] at hcell
    intro h0
    have:cs=#[]:=Array.eq_empty_of_size_eq_zero h0
    subst this
    simp at hcell
   unfold JQ at ht
   split at ht
   ·rename_i e hue
    obtain ⟨i,hi⟩:=Option.isSome_iff_exists.1 ht
    refine ⟨.bool false,w,?_,.bool false,σ,m,S,.bool false,rfl,⟨rfl,rfl⟩,?_,Ext.refl m S w,.pure (.bool false)⟩
    ·rw [(Cq he).2]
     rw [tQ w tS tR e hue i.size (fun w=>aP hi w) ⟨b,o,none⟩ ⟨b',off' * es',none⟩ L.length cap n' (c' - off') hbb t o'.ty cs.size cur2.size
      (by simp [World.shape?,hgb]) (by simp [World.shape?,hgb2]) hk1 (by simp [World.frozen?,hgb2]) (by simp [World.frozen?,hgb2])]
     rfl
    ·exact ⟨hS,⟨rfl,rfl,rfl,Nat.le_refl _,fun _ _ _=>rfl,fun k o v b ho hro hm hb=>.inl ⟨k,o,v,ho,hro,hm,hb⟩,fun b hb=>.inl hb⟩⟩
   ·cases ht
theorem lL (σ:St) (id g:Nat) (L:List AV) (x:AV) (i:Nat) (hx:mF 6 x) (hob:σ.ob id=some ⟨g,6,dy,false,true,L⟩)
  (hid:id<σ.n) (hi:i≤L.length) (hl:L.length≤1000000) :
  HC prog nk [.sl id g 6 0 L.length,.int .i64 i,.list 6 [x]] σ (T2 σ id 6 dy (L.take i++x :: L.drop i)):=by
 obtain ⟨dH,n0,c0⟩:=σ
 simp only at hob hid
 by_cases h0:i=L.length
 ·subst h0
  refine aL fF (by simp) ?_
  simp only [di,go_sem,jA,jF,↓reduceIte,reduceCtorEq]
  try simp (disch:=omega) only [go_sem,jA,jB,jC,jD,jE,jF,jG,jH,jI,jJ,↓reduceIte,reduceCtorEq,jO,jM,jN,jK,jL]
  refine ⟨⟨_,hob,rfl⟩,by omega,by omega,?_,fun h=>absurd h (by omega)⟩
  try simp (disch:=omega) only [go_sem,hob]
  repeat (refine And.intro (by first | omega | (rw [n4]; omega) | (simp [maxLen]; done) | (simp [maxLen]; omega)) ?_)
  have e:L.take L.length++x :: L.drop L.length=L++[x]:=by simp
  rw [e]
  exact ⟨id,c0,by simp,.inl rfl,hid,Nat.le_refl _,az _ _ _,fun k _ hk=>aa _ _ _ _ hk⟩
 refine HC.clip (R:=fun r τ=>(∃ c,r=.fH id g 6 0 (L.length+1) c∧τ=⟨bd dH id (some ⟨g,6,dy,false,true,L.take i++x :: L.drop i⟩),n0,c0⟩)∨
  (r=.sl n0 c0 6 0 (L.length+1)∧τ=⟨bd dH n0 (some ⟨c0,6,dy,false,true,L.take i++x :: L.drop i⟩),n0+1,c0+1⟩)) (HC.fH hob rfl (by omega) rfl (fun c hc hcm=>?_) (by omega)) ?_
 ·refine aL fF (by simp) ?_
  simp only [di,go_sem,jA,jF,↓reduceIte,reduceCtorEq]
  have hne1:¬((i:Int)=(L.length:Int)):=by omega
  try simp (disch:=omega) only [go_sem,jF,↓reduceIte,reduceCtorEq,jO,jK,hne1]
  refine ⟨hc,by omega,by omega,fun h=>by omega,fun _=>?_⟩
  refine ah (fun hgrow=>?_) (fun hroom=>?_)
  ·have hcl:c=L.length:=by omega
   subst hcl
   try simp (disch:=omega) only [go_sem,jF,↓reduceIte,reduceCtorEq,jO,jK]
   refine ⟨by omega,by omega,by omega,fun h=>by omega,fun _=>?_⟩
   refine O9 ?_
   have htn:((L.length:Int)+1-(i:Int)).toNat=L.length+1-i:=by omega
   try simp (disch:=omega) only [go_sem,jF,↓reduceIte,reduceCtorEq,jO,jK,hob,htn]
   refine ⟨by omega,by omega,by omega,by omega,by omega,by omega,by omega,fun h=>by omega,fun _=>?_⟩
   have hn2:¬n0=id:=by omega
   try simp (disch:=omega) only [go_sem,jA,jB,jC,jD,jE,jF,jG,jH,jI,jJ,↓reduceIte,reduceCtorEq,jO,jM,jN,jK,jL,hob]
   have hin:((i:Int)+1).toNat=i+1:=by omega
   try simp (disch:=omega) only [go_sem,hin]
   refine ⟨by simp; omega,by omega,by omega,by omega,fun h=>by omega,fun _=>⟨by omega,by omega,fun h=>by omega,fun _=>?_⟩⟩
   refine O4 ?_
   try simp (disch:=omega) only [go_sem,jF,↓reduceIte,reduceCtorEq,jM,hob]
   rw [Ry (by omega) (by omega) (by omega)]
   refine ⟨by omega,by simp; omega,.inr ⟨by rw [show i+(L.length+1-i)=L.length+1 by omega],?_⟩⟩
   rw [Rx (by omega) (by omega) (by omega) (by simp; omega)]
   simp only [n8]
  ·have hin:((i:Int)+1).toNat=i+1:=by omega
   have hln:((L.length:Int)+1).toNat=L.length+1:=by omega
   try simp (disch:=omega) only [go_sem,jF,↓reduceIte,reduceCtorEq,jO,jK,hin,hln]
   repeat (refine And.intro (by first | omega | (rw [n4]; omega) | (simp [maxLen]; done) | (simp [maxLen]; omega)) ?_)
   refine fun _=>⟨by omega,by omega,by omega,fun h=>by omega,fun _=>?_⟩
   refine (Kv (σ:=⟨dH,n0,c0⟩) lF kh (by simp) (by omega) hob rfl rfl rfl).mono ?_
   rintro _ _ ⟨rfl,rfl⟩
   try simp (disch:=omega) only [go_sem,jF,↓reduceIte,reduceCtorEq,jO,jK,hin]
   refine ⟨by omega,by omega,by omega,fun h=>by omega,fun _=>⟨by omega,by omega,by omega,fun h=>by omega,fun _=>?_⟩⟩
   refine O5 ?_
   try simp (disch:=omega) only [go_sem,jF,↓reduceIte,reduceCtorEq,jK,hob]
   rw [Rw (by omega) (by omega) (by omega)]
   refine ⟨by omega,by omega,by omega,by omega,by omega,by omega,fun h=>by omega,fun _=>?_⟩
   rw [Rv (by omega) (by omega) (by omega)]
   refine ⟨by omega,by simp; omega,c,rfl,?_⟩
   rw [n8]
 ·rintro r τ (⟨c,rfl,rfl⟩ | ⟨rfl,rfl⟩)
  ·refine ⟨.sl id g 6 0 (L.length+1),bd dH id (some ⟨g,6,dy,false,true,L.take i++x :: L.drop i⟩),.inr ⟨id,g,6,0,_,c,rfl,rfl⟩,fun q o hq=>⟨o,hq,rfl,rfl,rfl,rfl,rfl,o.l.length,by simp,.inl rfl⟩,?_⟩
   have hlen:(L.take i++x :: L.drop i).length=L.length+1:=by simp; omega
   refine ⟨id,g,by rw [hlen],.inl rfl,hid,Nat.le_refl _,az _ _ _,fun k _ hk=>aa _ _ _ _ hk⟩
  ·refine ⟨.sl n0 c0 6 0 (L.length+1),bd dH n0 (some ⟨c0,6,dy,false,true,L.take i++x :: L.drop i⟩),.inl rfl,fun q o hq=>⟨o,hq,rfl,rfl,rfl,rfl,rfl,o.l.length,by simp,.inl rfl⟩,?_⟩
   have hlen:(L.take i++x :: L.drop i).length=L.length+1:=by simp; omega
   exact ⟨n0,c0,by rw [hlen],.inr (Nat.le_refl _),Nat.lt_succ_self _,Nat.le_succ _,az _ _ _,fun k hk _=>aa _ _ _ _ (by simp only at hk; omega)⟩
theorem v8 (a:Ac) (h:ke a):PC prog ye [gG a] (gG a):=by
 have h1:=h.n2
 have h2:=h.no
 have h3:=h.ns
 refine ae yB (by simp) ?_
 simp only [pa,go_sem,jF,jG,jH,↓reduceIte,reduceCtorEq,gG]
 try simp (disch:=omega) only [go_sem,jA,jB,jC,jD,jE,jF,jG,jH,jI,jJ,↓reduceIte,reduceCtorEq,jO,jM,jN,jK,jL]
 refine ab (cW (cr a.st) (by rw [aH]; omega) (mn _) (qM _)) (by simp [go_sem]) ?_
 try simp (disch:=omega) only [go_sem,jF,↓reduceIte]
 refine ab (cW (cr a.ins) (by rw [aH]; omega) (mn _) (qM _)) (by simp [go_sem]) ?_
 try simp (disch:=omega) only [go_sem,jF,↓reduceIte]
 refine ab (cW (cr a.outs) (by rw [aH]; omega) (mn _) (qM _)) (by simp [go_sem]) ?_
 try simp (disch:=omega) only [go_sem,jF,jG,jH,↓reduceIte,reduceCtorEq]
 exact aw.of_eq rfl (by simp [go_sem])
theorem sT (l:List Ac) (hn:l.length≤16) (h:∀ a∈l,ke a):PC prog uw [.list 4 (lE l)] (.int .i64 0):=by
 refine ae vx (by simp) ?_
 simp only [mf,go_sem,↓reduceIte,reduceCtorEq,aN]
 refine ah (fun hgt=>by omega) (fun hle=>?_)
 try simp (disch:=omega) only [go_sem,↓reduceIte,reduceCtorEq,aN]
 refine aW [2,4,5,11,12,13,14,15,16,17,18,19,20] (by kernel_rfl) l.length (fun k e σ=>e 11=.int .i64 k) ?_ ?_
 ·exact (by first | rfl | (simp (disch:=omega) only [go_sem,jA,jB,jC,jD,jE,jF,jG,jH,jI,jJ,↓reduceIte,reduceCtorEq,jP,jO,jM,jN]; try rfl))
 rintro k fe ob m c hk hm h11
 simp (maxSteps:=1000000) only [go_sem,jF,↓reduceIte] at h11
 try simp (disch:=omega) only [go_sem,jF,↓reduceIte,h11]
 refine ah (fun hlt=>?_) (fun hge=>?_)
 ·have hkl:k<l.length:=by omega
  have e1:=iw hkl
  have ha:=h _ (List.mem_of_getElem? e1)
  have hC:=x6 (gA l k) ha.l
  rw [D7.2 ha] at hC
  generalize gA l k=a at *
  try simp (disch:=omega) only [go_sem,jF,jG,jH,↓reduceIte,aN,fg,e1,Option.map_some,gG]
  refine ⟨by omega,by omega,?_⟩
  simp only [gG] at hC
  refine ab hC (by simp [go_sem]) ?_
  try simp (disch:=omega) only [go_sem,jF,↓reduceIte,jO]
  exact aG _ hkl (Nat.le_succ_of_le hm) (by first | rfl | (simp (disch:=omega) only [go_sem,jA,jB,jC,jD,jE,jF,jG,jH,jI,jJ,↓reduceIte,reduceCtorEq,jP,jO,jM,jN]; try rfl))
 ·try simp (disch:=omega) only [go_sem,↓reduceIte]
  exact aw.of_eq rfl rfl
theorem iT (r:Rp) (h1:1≤r.nu) (h2:r.nu≤1073741824):PC prog jz [ek r] (.bool true):=by
 refine ae jW (by simp) ?_
 simp only [eP,go_sem,jF,jG,jH,↓reduceIte,ek]
 try simp (disch:=omega) only [go_sem,jF,jH,↓reduceIte,h1,h2,decide_true]
 exact aw.of_eq rfl rfl
theorem kx (op:List Ac) (r:Rp) (hop:∀ a∈op,ke a) (h:Ey op r):PC prog l7 [.list 4 (lE op),ek r] (.int .i64 0):=by
 obtain ⟨i,hi⟩:∃ i:Nat,r.ac=i:=⟨r.ac.toNat,by have:=h.a0; omega⟩
 have hil:i<op.length:=by have:=h.a1; omega
 have e1:=iw hil
 have ha:=hop _ (List.mem_of_getElem? e1)
 have hr:=h.a
 rw [hi,Int.toNat_natCast] at hr
 have h1:=ha.n1
 have h2:=ha.n2
 have h3:=ha.f0
 have h4:=ha.f1
 have hfl:=yX ha hr.fd
 have t0:=hr.t0
 have t1:=hr.t1
 rw [hfl] at t1
 obtain ⟨b0,b1,b2⟩:=hr.b
 simp only [F7] at b2
 have hfd:=hr.fd
 generalize gA op i=a at *
 obtain ⟨nu,ac,fd,tm,b⟩:=r
 simp only at hi t0 t1 b0 b1 b2 hfd
 subst hi
 refine ae mq (by simp) ?_
 simp only [gr,go_sem,jF,jG,jH,↓reduceIte,reduceCtorEq,ek]
 have q1:¬((i:Int)<0):=by omega
 have q2:¬((op.length:Int)≤(i:Int)):=by omega
 have q3:¬(fd<1):=by omega
 have q4:¬(3<fd):=by omega
 have q5:¬(tm<a.fr):=by omega
 have q6:¬(b.lo<0):=by omega
 have q7:¬(274877906944<b.hi):=by omega
 have q8:¬(b.hi<b.lo):=by omega
 try simp (disch:=omega) only [go_sem,jF,jG,jH,↓reduceIte,reduceCtorEq,jO,aN,fg,e1,Option.map_some,gG,aH,q1,q2,q3,q4,decide_false]
 refine ⟨by omega,by omega,?_⟩
 refine ah (fun hf1=>?_) (fun hf1=>?_)
 ·rw [if_pos hf1] at t1
  have q9:¬(a.fr+(a.ins.length:Int)-1+1<tm):=by omega
  try simp (disch:=omega) only [go_sem,jF,jG,jH,↓reduceIte,reduceCtorEq,jO,q5,q6,q7,q8,q9,decide_false]
  exact aw.of_eq rfl rfl
 ·rw [if_neg hf1] at t1
  have q9:¬(a.fr+(a.ins.length:Int)-1<tm):=by omega
  try simp (disch:=omega) only [go_sem,jF,jG,jH,↓reduceIte,reduceCtorEq,q5,q6,q7,q8,q9,decide_false]
  exact aw.of_eq rfl rfl
theorem dN (B:Bk) (h:lT B):PC prog wu [jv B] (.int .i64 0):=by
 have hm:=h.m
 have hO:=sT B.op h.n h.ao
 refine ae w8 (by simp) ?_
 simp only [nJ,go_sem,jF,jG,jH,↓reduceIte,jv]
 refine ab hO (by simp [go_sem]) ?_
 try simp (disch:=omega) only [go_sem,jF,jG,jH,↓reduceIte,aE]
 refine ah (fun hgt=>by omega) (fun hle=>?_)
 try simp (disch:=omega) only [go_sem,jF,jG,jH,↓reduceIte,aE]
 refine aW [2,4,5,6,20,21,22,23,24,25,26,27,28,29,30,31,32,33,34,35,36,37,38,39,40,41,42,43,44,45,46,47,48,49] (by kernel_rfl) B.rp.length (fun k e σ=>e 20=.int .i64 k∧σ.ob 0=some ⟨0,2,40,false,true,[.agg [.list 4 (lE B.op),.list 6 (iG B.rp)]]⟩) ?_ ?_
 ·exact ⟨(by first | rfl | (simp (disch:=omega) only [go_sem,jA,jB,jC,jD,jE,jF,jG,jH,jI,jJ,↓reduceIte,reduceCtorEq,jP,jO,jM,jN]; try rfl)),by try simp (disch:=omega) only [go_sem,↓reduceIte]⟩
 rintro k fe ob m c hk hm2 ⟨h20,u0⟩
 simp (maxSteps:=1000000) only [go_sem,jF,↓reduceIte] at h20 u0 hm2
 try simp (disch:=omega) only [go_sem,jF,↓reduceIte,h20]
 refine ah (fun hlt=>?_) (fun hge=>?_)
 ·have hkl:k<B.rp.length:=by omega
  have e1:=ea hkl
  have hr:=h.ro _ (List.mem_of_getElem? e1)
  have hN:=iT (gR B.rp k) hr.n1 hr.n2
  have hR:=kx B.op (gR B.rp k) h.ao hr
  have z0:¬0=m:=by omega
  simp only [ek] at hN hR
  try simp (disch:=omega) only [go_sem,jF,jG,jH,↓reduceIte,aE,dL,e1,Option.map_some,ek]
  refine ⟨by omega,by omega,?_⟩
  refine ab hN (by simp [go_sem]) ?_
  try simp (disch:=omega) only [go_sem,jF,↓reduceIte]
  rcases Nat.eq_zero_or_pos k with rfl | hk0
  ·try simp (disch:=omega) only [go_sem,jB,jF,jH,↓reduceIte,z0,u0]
   refine ab hR (by simp [go_sem]) ?_
   try simp (disch:=omega) only [go_sem,jF,↓reduceIte,jO]
   refine aG (m+1) hkl (by omega) ⟨(by first | rfl | (simp (disch:=omega) only [go_sem,jA,jB,jC,jD,jE,jF,jG,jH,jI,jJ,↓reduceIte,reduceCtorEq,jP,jO,jM,jN]; try rfl)),?_⟩
   try simp (disch:=omega) only [go_sem,↓reduceIte,jM,St.aD,z0,u0]
  ·have e2:=ea (l:=B.rp) (i:=k-1) (by omega)
   have hlt2:=vV h.Kk (show k-1<k by omega) e2 e1
   have q1:(0:Int)<(k:Int):=by omega
   have q2:((k:Int)-1).toNat=k-1:=by omega
   have q3:¬(gR B.rp k).nu≤(gR B.rp (k-1)).nu:=by omega
   try simp (disch:=omega) only [go_sem,jF,jG,jH,↓reduceIte,jO,z0,u0,q1,decide_true,q2,aE,dL,e2,Option.map_some,ek,q3,decide_false]
   refine ⟨by omega,by omega,?_⟩
   refine ab hR (by simp [go_sem]) ?_
   try simp (disch:=omega) only [go_sem,jF,↓reduceIte,jO]
   refine aG (m+1) hkl (by omega) ⟨(by first | rfl | (simp (disch:=omega) only [go_sem,jA,jB,jC,jD,jE,jF,jG,jH,jI,jJ,↓reduceIte,reduceCtorEq,jP,jO,jM,jN]; try rfl)),?_⟩
   try simp (disch:=omega) only [go_sem,↓reduceIte,jM,St.aD,z0,u0]
 ·try simp (disch:=omega) only [go_sem,↓reduceIte]
  exact aw.of_eq rfl rfl
theorem ky (r:Rp):PC prog dP [ek r] (.int .i64 r.nu):=by
 refine ae vz (by simp) ?_
 simp only [mh,go_sem,jF,jG,jH,↓reduceIte,ek]
 try simp (disch:=omega) only [go_sem,jA,jB,jC,jD,jE,jF,jG,jH,jI,jJ,↓reduceIte,reduceCtorEq,jO,jM,jN,jK,jL]
 exact aw.of_eq rfl rfl
theorem j7 (x:Int) (h:Rp) (hh:-4611686018427387904≤h.nu-x∧h.nu-x≤4611686018427387904):PC prog kQ [ek h,.int .i64 x,.eQ 1 [.func dP []] 0 0] (.int .i64 (h.nu-x)):=by
 refine ae lA (by simp) ?_
 simp only [eg,go_sem,jF,jG,jH,↓reduceIte,reduceCtorEq,ek]
 try simp (disch:=omega) only [go_sem,jA,jB,jC,jD,jE,jF,jG,jH,jI,jJ,↓reduceIte,reduceCtorEq,jO,jM,jN,jK,jL]
 refine ab (ky h) (by simp [go_sem]) ?_
 try simp (disch:=omega) only [go_sem,jF,↓reduceIte,reduceCtorEq,jO]
 exact aw.of_eq rfl rfl
theorem gK (σ:St) (l:List Rp) (x:Int) (f:Nat) (caps:List AV) (hl:l.length≤4611686018427387904) (hs:KP (l.map Rp.nu))
  (hcb:∀ h∈l,∀ τ:St,τ.n=σ.n→(∀ k,k<σ.n→τ.ob k=σ.ob k)→HC prog f (ek h :: .int .i64 x :: caps) τ (fun r τ'=>r=.int .i64 (h.nu-x)∧τ'=τ)) :
  HC prog ig [.list 6 (iG l),.int .i64 x,.func f caps] σ (fun r τ=>r=.tuple [.int .i64 (da (l.map Rp.nu) x),.bool (decide ((l.map Rp.nu)[da (l.map Rp.nu) x]?=some x))]∧τ.n=σ.n∧∀ k,k<σ.n→τ.ob k=σ.ob k):=by
 obtain ⟨L,hL⟩:∃ L,L=l.map Rp.nu:=⟨_,rfl⟩
 have hLl:L.length=l.length:=by simp [hL]
 rw [←hL] at hs ⊢
 refine aL iE (by simp) ?_
 simp only [dm,go_sem,jF,↓reduceIte,reduceCtorEq,aE]
 refine xp [9,10,11,15,16,17,18,19,20,21,22,23,24,25,26,27,28,29,30,31,32,33,34] (by kernel_rfl) (fun k e τ=>(∀ k,k<σ.n→τ.ob k=σ.ob k)∧∃ i j:Nat,e 9=.int .i64 i∧e 10=.int .i64 j∧i≤j∧j≤l.length∧k=j-i∧(∀ k,k<i→∀ y,L[k]?=some y→y<x)∧(∀ k,j≤k→∀ y,L[k]?=some y→x≤y)) l.length ?_ ?_
 ·exact ⟨fun _ _=>rfl,0,l.length,(by first | rfl | (simp (disch:=omega) only [go_sem,jA,jB,jC,jD,jE,jF,jG,jH,jI,jJ,↓reduceIte,reduceCtorEq,jP,jO,jM,jN]; try rfl)),(by first | rfl | (simp (disch:=omega) only [go_sem,jA,jB,jC,jD,jE,jF,jG,jH,jI,jJ,↓reduceIte,reduceCtorEq,jP,jO,jM,jN]; try rfl)),by omega,by omega,by omega,fun k hk=>by omega,fun k hk y hy=>by have:=(List.getElem?_eq_some_iff.1 hy).1; omega⟩
 ·rintro r fe ob c ⟨hτ,i,j,h9,h10,hij,hjl,rfl,hlo,hhi⟩
  simp (maxSteps:=1000000) only [go_sem,jF,↓reduceIte] at h9 h10 hτ
  try simp (disch:=omega) only [go_sem,jF,↓reduceIte,h9,h10]
  refine ah (fun hlt=>?_) (fun hge=>?_)
  ·have hij2:i<j:=by omega
   try simp (disch:=omega) only [go_sem,jF,jH,↓reduceIte,reduceCtorEq,jO,wrap_u64,FK,Option.some.injEq,exists_eq_left']
   generalize hm:(i+j) / 2=m
   have hmi:((i:Int)+j) / 2=(m:Int):=by omega
   have hg:l[m]?=some l[m]:=List.getElem?_eq_getElem (by omega)
   try simp (disch:=omega) only [go_sem,hmi,dL,aE,hg,Option.map_some,ek]
   repeat (refine And.intro (by first | omega | (rw [n4]; omega) | (simp [maxLen]; done) | (simp [maxLen]; omega)) ?_)
   refine (hcb l[m] (List.getElem_mem _) ⟨ob,σ.n,c⟩ rfl hτ).mono ?_
   rintro _ _ ⟨rfl,rfl⟩
   have hgm:L[m]?=some l[m].nu:=by simp [hL,hg]
   generalize l[m]=q at *
   try simp (disch:=omega) only [go_sem,↓reduceIte]
   refine ah (fun hlt=>?_) (fun hge=>?_)
   ·try simp (disch:=omega) only [go_sem,jF,↓reduceIte,jO]
    refine ⟨j-(m+1),by omega,_,Nat.le_refl _,rfl,fun k hk=>by try simp (disch:=omega) only [go_sem,jN]; exact hτ k hk,m+1,j,(by first | rfl | (simp (disch:=omega) only [go_sem,jA,jB,jC,jD,jE,jF,jG,jH,jI,jJ,↓reduceIte,reduceCtorEq,jP,jO,jM,jN]; try rfl)),(by first | rfl | (simp (disch:=omega) only [go_sem,jA,jB,jC,jD,jE,jF,jG,jH,jI,jJ,↓reduceIte,reduceCtorEq,jP,jO,jM,jN]; try rfl)),by omega,by omega,by omega,fun k hk y hy=>?_,hhi⟩
    by_cases e:k=m
    ·subst e; rw [hgm] at hy; obtain rfl:=Option.some.inj hy; omega
    ·have:=hs k m (by omega) y _ hy hgm; omega
   ·try simp (disch:=omega) only [go_sem,jF,↓reduceIte]
    refine ⟨m-i,by omega,_,Nat.le_refl _,rfl,fun k hk=>by try simp (disch:=omega) only [go_sem,jN]; exact hτ k hk,i,m,(by first | rfl | (simp (disch:=omega) only [go_sem,jA,jB,jC,jD,jE,jF,jG,jH,jI,jJ,↓reduceIte,reduceCtorEq,jP,jO,jM,jN]; try rfl)),(by first | rfl | (simp (disch:=omega) only [go_sem,jA,jB,jC,jD,jE,jF,jG,jH,jI,jJ,↓reduceIte,reduceCtorEq,jP,jO,jM,jN]; try rfl)),by omega,by omega,by omega,hlo,fun k hk y hy=>?_⟩
    by_cases e:k=m
    ·subst e; rw [hgm] at hy; obtain rfl:=Option.some.inj hy; omega
    ·have:=hs m k (by omega) _ y hgm hy; omega
  ·have hij2:i=j:=by omega
   subst hij2
   have hb:=AQ L x i (by omega) hlo hhi
   rw [hb]
   try simp (disch:=omega) only [go_sem,jF,↓reduceIte,jL]
   refine bB rfl (fun h=>?_) (fun h=>?_)
   ·have hg:l[i]?=some l[i]:=List.getElem?_eq_getElem (by omega)
    try simp (disch:=omega) only [go_sem,jF,jH,↓reduceIte,reduceCtorEq,dL,aE,hg,Option.map_some,ek]
    repeat (refine And.intro (by first | omega | (rw [n4]; omega) | (simp [maxLen]; done) | (simp [maxLen]; omega)) ?_)
    refine (hcb l[i] (List.getElem_mem _) ⟨ob,σ.n,c⟩ rfl hτ).mono ?_
    rintro _ _ ⟨rfl,rfl⟩
    try simp (disch:=omega) only [go_sem,jF,↓reduceIte]
    refine ⟨?_,hτ⟩
    have hgm:L[i]?=some l[i].nu:=by simp [hL,hg]
    rw [hgm]
    simp only [Option.some.injEq]
    congr 3
    by_cases e:l[i].nu=x
    ·simp [e]
    ·have:¬l[i].nu-x=0:=by omega
     simp [e,this]
   ·try simp (disch:=omega) only [go_sem,jF,↓reduceIte]
    refine ⟨?_,hτ⟩
    rw [List.getElem?_eq_none (by omega)]
    simp
theorem lH (B:Bk) (h:lT B) (r:Rp) (h1:1≤r.nu) (h2:r.nu≤1073741824):PC prog mJ [.list 6 (iG B.rp),ek r,.func dP []] (.tuple [.int .i64 (da (ic B.rp) r.nu),.bool (decide ((ic B.rp)[da (ic B.rp) r.nu]?=some r.nu))]):=by
 have hm:=h.m
 refine ae mS (by simp) ?_
 simp only [eX,go_sem,jF,jG,jH,↓reduceIte,reduceCtorEq,ek]
 try simp (disch:=omega) only [go_sem,jA,jB,jC,jD,jE,jF,jG,jH,jI,jJ,↓reduceIte,reduceCtorEq,jO,jM,jN,jK,jL]
 refine ab (ky r) (by simp [go_sem]) ?_
 try simp (disch:=omega) only [go_sem,jF,↓reduceIte]
 refine (gK _ B.rp r.nu _ _ (by omega) (Dg h.Kk) (fun q hq τ hn' hτ=>?_)).mono ?_
 ·have hb:=h.ro q hq
  have q1:=hb.n1
  have q2:=hb.n2
  refine rf (j7 r.nu q (by omega)) (.cons (.pure (by simp [go_sem,ek])) (.cons (.pure rfl) (.cons ?_ .nil))) rfl ⟨rfl,rfl⟩
  have h0:τ.ob 1=some ⟨1,1,145,false,true,[.func dP []]⟩:=hτ 1 (by simp [go_sem])
  refine .ptr h0 rfl rfl rfl (by simp) (fun i a b ha hb=>?_) (by simp [mF,go_sem])
  rw [ha] at hb
  obtain rfl:=Option.some.inj hb
  cases i with
  | zero=>simp at ha; subst ha; exact .pure rfl
  | succ i=>simp at ha
 ·rintro _ τ ⟨rfl,_,_⟩
  try simp (disch:=omega) only [go_sem,jF,↓reduceIte]
  exact aw.of_eq rfl rfl
theorem jk (l:List Rp) (i:Nat) (r:Rp) (hi:i≤l.length) (hl:l.length≤4096):PC prog j9 [.list 6 (iG l),.int .i64 i,ek r] (.list 6 (iG (l.take i++r :: l.drop i))):=by
 refine ae kc (by simp) ?_
 simp only [dU,go_sem,jF,jG,jH,↓reduceIte,reduceCtorEq,ek]
 try simp (disch:=omega) only [go_sem,jA,jB,jC,jD,jE,jF,jG,jH,jI,jJ,↓reduceIte,reduceCtorEq,jO,jM,jN,jK,jL]
 refine (eV _ (iG l) (by rw [aE]; omega)).mono ?_
 rintro X ⟨ob,m,c⟩ ⟨id,g,rfl,hid,hidn,hob,hfr⟩
 simp only at hid hidn hob hfr
 have f0:=hfr 0 (by omega)
 try simp (disch:=omega) only [go_sem,↓reduceIte] at f0
 try simp (disch:=omega) only [go_sem,jF,↓reduceIte,reduceCtorEq,f0]
 have hI:=lL ⟨ob,m,c⟩ id g (iG l) (ek r) i (by simp [mF,ek,go_sem]) hob hidn (by rw [aE]; omega) (by rw [aE]; omega)
 rw [show (iG l).take i++ek r :: (iG l).drop i=iG (l.take i++r :: l.drop i) by simp [iG]] at hI
 simp only [ek] at hI
 refine hI.mono ?_
 rintro _ ⟨ob2,m2,c2⟩ ⟨id',g',rfl,hid',_,_,h1,hk⟩
 simp only at h1 hk
 have f2:=hk 0 (by omega) (by omega)
 try simp (disch:=omega) only [go_sem,jF,↓reduceIte,reduceCtorEq]
 exact aw.dv h1 rfl (tU _) (zC _)
theorem Gh (a b:Rp):(decide (a.nu=b.nu)&&(decide (a.ac=b.ac)&&(decide (a.fd=b.fd)&&(decide (a.tm=b.tm)&&(decide (a.b.lo=b.b.lo)&&decide (a.b.hi=b.b.hi))))))=decide (a=b):=by
 obtain ⟨_,_,_,_,⟨_,_⟩⟩:=a
 obtain ⟨_,_,_,_,⟨_,_⟩⟩:=b
 rw [Bool.eq_iff_iff]
 simp
theorem fo (op:List Ac) (rp l:List Rp) (h:∀ a∈op,ke a) (hn:op.length≤16) (hl:l.length≤5000):PC prog ux [jv ⟨op,rp⟩,.list 6 (iG l)] (jv ⟨op,l⟩):=by
 have hC:=mz (iG l) (by rw [aE]; omega) (tU _) (zC _)
 refine ae vy (by simp) ?_
 simp only [mg,go_sem,jF,jG,↓reduceIte,reduceCtorEq,jv]
 try simp (disch:=omega) only [go_sem,jA,jB,jC,jD,jE,jF,jG,jH,jI,jJ,↓reduceIte,reduceCtorEq,jO,jM,jN,jK,jL]
 refine ab hC (by simp [go_sem]) ?_
 try simp (disch:=omega) only [go_sem,jF,jG,jH,↓reduceIte,reduceCtorEq,aN]
 refine aW [7,14,15,16,17,18,19,20,21,22,23,24,25] (by kernel_rfl) op.length (fun k e σ=>e 14=.int .i64 k∧σ.ob 1=some ⟨1,2,40,false,true,[.agg [.nil,.nil]]⟩∧
   ∃ X,σ.ob 2=some ⟨2,2,40,false,true,[.agg [X,.list 6 (iG l)]]⟩∧cu 4 88 σ (lE (op.take k)) X∧aY X 1∧aY X 2) ?_ ?_
 ·exact ⟨(by first | rfl | (simp (disch:=omega) only [go_sem,jA,jB,jC,jD,jE,jF,jG,jH,jI,jJ,↓reduceIte,reduceCtorEq,jP,jO,jM,jN]; try rfl)),by try simp (disch:=omega) only [go_sem,jF,↓reduceIte],.nil,by try simp (disch:=omega) only [go_sem,↓reduceIte],cu.nil,aY.nil _,aY.nil _⟩
 rintro k fe ob m c hk hm ⟨h14,u1,X,u2,hR,o1,o2⟩
 simp (maxSteps:=1000000) only [go_sem,jF,↓reduceIte] at h14 u1 u2 hR hm
 try simp (disch:=omega) only [go_sem,jF,↓reduceIte,h14]
 refine ah (fun hlt=>?_) (fun hge=>?_)
 ·have hkl:k<op.length:=by omega
  have e1:=iw hkl
  have ha:=h _ (List.mem_of_getElem? e1)
  have hT:=v8 (gA op k) ha
  have htk:op.take (k+1)=op.take k++[gA op k]:=by rw [List.take_add_one,e1]; rfl
  generalize gA op k=a at *
  simp only [gG] at hT
  have z1:¬1=m:=by omega
  have z2:¬2=m:=by omega
  try simp (disch:=omega) only [go_sem,jF,jG,jH,↓reduceIte,aN,fg,e1,Option.map_some,gG,z2,u2]
  refine ⟨by omega,by omega,?_⟩
  refine ab hT (by simp [go_sem]) ?_
  try simp (disch:=omega) only [go_sem,jF,jG,↓reduceIte]
  have hlen:(lE (op.take k)).length≤16:=by rw [aN,List.length_take]; omega
  refine bH (b:=80) (hR.move (by simp only; omega) fun i hi _=>by
   simp only at hi ⊢
   rw [aa _ _ _ _ (by omega),aa _ _ _ _ (by omega)]) (by omega) (by omega) fun X2 τ2 hR2 hK2=>?_
  have hn2:=hK2.1
  have r1:=hK2.2.1 1 (by simp only; omega) o1
  have r2:=hK2.2.1 2 (by simp only; omega) o2
  have p1:=hK2.2.2 1 (by simp only; omega) o1
  have p2:=hK2.2.2 2 (by simp only; omega) o2
  simp only at r1 r2 hn2
  try simp (disch:=omega) only [go_sem,↓reduceIte,z1,u1] at r1
  try simp (disch:=omega) only [go_sem,↓reduceIte,z2,u2] at r2
  try simp (disch:=omega) only [go_sem,jF,jH,↓reduceIte,reduceCtorEq,jO,jM,hR2.flat,hR2.cells,r2]
  refine aG τ2.n hkl (by omega) ⟨(by first | rfl | (simp (disch:=omega) only [go_sem,jA,jB,jC,jD,jE,jF,jG,jH,jI,jJ,↓reduceIte,reduceCtorEq,jP,jO,jM,jN]; try rfl)),?_,X2,?_,?_,p1,p2⟩
  ·simp only [St.aD,St.put]; rw [if_pos (by omega),aa _ _ _ _ (by omega)]; exact r1
  ·simp only [St.aD,St.put]; rw [if_pos (by omega),az]
  ·rw [htk,show lE (op.take k++[a])=lE (op.take k)++[.agg [.int .i64 a.fr,.list 2 (cr a.st),.list 2 (cr a.ins),.list 2 (cr a.outs)]] by simp [lE,gG]]
   refine hR2.move (Nat.le_refl _) fun i hi hno=>?_
   have:¬i=2:=fun e=>hno (e ▸ p2)
   simp only [St.aD,St.put]; rw [if_pos hi,aa _ _ _ _ this]
 ·try simp (disch:=omega) only [go_sem,jF,jG,jH,↓reduceIte,u1,u2,hR.one]
  obtain rfl:op.length=k:=by omega
  rw [List.take_length] at hR
  refine aw.ag (.cons (hR.mU (fun i hi hno=>?_) (zg _) (Ex _)) (.cons (.pure (by simp [go_sem])) .nil))
  have:¬i=1:=fun e=>hno (e ▸ o1)
  simp only
  rw [aa _ _ _ _ this]
theorem we (B:Bk) (h:lT B) (r:Rp) (hr:Ey B.op r):PC prog oT [jv B,ek r] (.tuple [jv (gO B r).1,.int .i64 (gO B r).2]):=by
 have hm:=h.m
 have hC:=dN B h
 have hN:=iT r hr.n1 hr.n2
 have hR:=kx B.op r h.ao hr
 have hP:=lH B h r hr.n1 hr.n2
 have hk:=wZ (ic B.rp) r.nu
 rw [List.length_map] at hk
 have hI:=jk B.rp (da (ic B.rp) r.nu) r hk hm
 have hc1:=fo B.op B.rp B.rp h.ao h.n (by omega)
 have hc2:=fo B.op B.rp (B.rp.take (da (ic B.rp) r.nu)++r :: B.rp.drop (da (ic B.rp) r.nu)) h.ao h.n (by simp; omega)
 have hfs:gO B r=if (ic B.rp)[da (ic B.rp) r.nu]?=some r.nu then (if gR B.rp (da (ic B.rp) r.nu)=r then (B,0) else (EE,46))
  else if B.rp.length=4096 then (EE,10) else (⟨B.op,B.rp.take (da (ic B.rp) r.nu)++r :: B.rp.drop (da (ic B.rp) r.nu)⟩,0):=rfl
 have hlt:(ic B.rp)[da (ic B.rp) r.nu]?=some r.nu→da (ic B.rp) r.nu<B.rp.length:=fun e=>by
  have:=(List.getElem?_eq_some_iff.1 e).1
  rwa [List.length_map] at this
 have htb:∃ tb,decide ((ic B.rp)[da (ic B.rp) r.nu]?=some r.nu)=tb:=⟨_,rfl⟩
 obtain ⟨tb,htb⟩:=htb
 rw [htb] at hP
 generalize gO B r=FS at *
 generalize da (ic B.rp) r.nu=k at *
 simp only [jv,ek] at hC hN hR hP hI hc1 hc2
 refine ae pA (by simp) ?_
 simp only [ju,go_sem,jF,jG,jH,↓reduceIte,reduceCtorEq,jv,ek]
 refine ab hC (by simp [go_sem]) ?_
 try simp (disch:=omega) only [go_sem,jF,jH,↓reduceIte]
 refine ab hN (by simp [go_sem]) ?_
 try simp (disch:=omega) only [go_sem,jF,jH,↓reduceIte,reduceCtorEq]
 refine ab hR (by simp [go_sem]) ?_
 try simp (disch:=omega) only [go_sem,jF,jG,jH,↓reduceIte,reduceCtorEq]
 refine ab hP (by simp [go_sem]) ?_
 try simp (disch:=omega) only [go_sem,jF,↓reduceIte]
 cases tb
 ·have hat:¬(ic B.rp)[k]?=some r.nu:=of_decide_eq_false htb
  rw [if_neg hat] at hfs
  try simp (disch:=omega) only [go_sem,jF,jG,jH,↓reduceIte,reduceCtorEq,aE]
  refine ah (fun hfull=>?_) (fun hroom=>?_)
  ·rw [if_pos (by omega)] at hfs
   try simp (disch:=omega) only [go_sem,jF,jG,jH,↓reduceIte]
   rw [hfs]
   exact aw.tu (.cons (aw.ag (.cons (.nl 4) (.cons (.nl 6) .nil))) (.cons (.pure rfl) .nil))
  ·rw [if_neg (by omega)] at hfs
   try simp (disch:=omega) only [go_sem,jF,jG,jH,↓reduceIte,reduceCtorEq]
   refine ab hI (by simp [go_sem]) ?_
   try simp (disch:=omega) only [go_sem,jF,↓reduceIte]
   refine ab hc2 (by simp [go_sem]) ?_
   try simp (disch:=omega) only [go_sem,jF,jG,jH,↓reduceIte,reduceCtorEq]
   rw [hfs]
   exact aw.tu (.cons (.pure (vw ⟨B.op,B.rp.take k++r :: B.rp.drop k⟩)) (.cons (.pure rfl) .nil))
 ·have hat:(ic B.rp)[k]?=some r.nu:=of_decide_eq_true htb
  rw [if_pos hat] at hfs
  have hkl:=hlt hat
  have e1:=ea hkl
  try simp (disch:=omega) only [go_sem,jF,jG,jH,↓reduceIte,reduceCtorEq,aE,dL,e1,Option.map_some,ek]
  refine ⟨by omega,by omega,?_⟩
  rw [Gh]
  refine ah (fun heq=>?_) (fun hne=>?_)
  ·rw [if_pos heq] at hfs
   try simp (disch:=omega) only [go_sem,jF,jG,jH,↓reduceIte,reduceCtorEq]
   refine ab hc1 (by simp [go_sem]) ?_
   try simp (disch:=omega) only [go_sem,jF,jG,jH,↓reduceIte]
   rw [hfs]
   exact aw.tu (.cons (.pure (vw B)) (.cons (.pure rfl) .nil))
  ·rw [if_neg hne] at hfs
   try simp (disch:=omega) only [go_sem,jF,jG,jH,↓reduceIte]
   rw [hfs]
   exact aw.tu (.cons (aw.ag (.cons (.nl 4) (.cons (.nl 6) .nil))) (.cons (.pure rfl) .nil))
theorem wb (B:Bk) (h:lT B) (x:Int) (hx:x≤1073741824):PC prog yf [jv B,.int .i64 x] (.tuple [jv ⟨B.op,B.rp.take (da (ic B.rp) (x+1))⟩,.int .i64 0]):=by
 have hm:=h.m
 have hC:=dN B h
 have hasc:=h.Kk
 have hc:=fun k=>fo B.op B.rp (B.rp.take k) h.ao h.n (by simp; omega)
 have hbs:∀ k,k≤B.rp.length→(∀ j,j<k→(gR B.rp j).nu≤x)→(k<B.rp.length→¬(gR B.rp k).nu≤x)→da (ic B.rp) (x+1)=k:=fun k hk h1 h2=>
  AQ _ _ k (by simpa using hk) (fun j hj y hy=>by
   obtain ⟨q,hq,rfl⟩:=et.1 hy
   have:=h1 j hj
   rw [ea (by omega)] at hq
   obtain rfl:=Option.some.inj hq
   omega) (fun j hj y hy=>by
   obtain ⟨q,hq,rfl⟩:=et.1 hy
   have hjl:=(List.getElem?_eq_some_iff.1 hq).1
   have h3:=h2 (by omega)
   rcases Nat.eq_or_lt_of_le hj with rfl | h4
   ·rw [ea (by omega)] at hq
    obtain rfl:=Option.some.inj hq
    omega
   ·have:=vV hasc h4 (ea (by omega)) hq
    omega)
 simp only [jv] at hC hc
 refine ae yC (by simp) ?_
 simp only [pc,go_sem,jF,jG,jH,↓reduceIte,reduceCtorEq,jv]
 refine ab hC (by simp [go_sem]) ?_
 try simp (disch:=omega) only [go_sem,↓reduceIte]
 refine aW [6,11,12,13,14,15,16,17,18,19,20,21,22,23,24,25,26,27] (by kernel_rfl) B.rp.length (fun k e σ=>e 6=.int .i64 k∧σ.ob 0=some ⟨0,2,40,false,true,[.agg [.list 4 (lE B.op),.list 6 (iG B.rp)]]⟩∧σ.ob 1=some ⟨1,2,40,false,true,[.agg [.nil,.nil]]⟩∧∀ j,j<k→(gR B.rp j).nu≤x) ?_ ?_
 ·exact ⟨(by first | rfl | (simp (disch:=omega) only [go_sem,jA,jB,jC,jD,jE,jF,jG,jH,jI,jJ,↓reduceIte,reduceCtorEq,jP,jO,jM,jN]; try rfl)),by try simp (disch:=omega) only [go_sem,↓reduceIte,reduceCtorEq],by try simp (disch:=omega) only [go_sem,↓reduceIte],fun j hj=>by omega⟩
 rintro k fe ob m cc hk hm2 ⟨h6,u0,u1,hj⟩
 simp (maxSteps:=1000000) only [go_sem,↓reduceIte] at h6 u0 u1 hm2
 try simp (disch:=omega) only [go_sem,jF,jG,jH,↓reduceIte,h6,u0,aE]
 by_cases hkl:k<B.rp.length
 ·have q1:(k:Int)<(B.rp.length:Int):=by omega
  have e1:=ea hkl
  by_cases hle:(gR B.rp k).nu≤x
  ·try simp (disch:=omega) only [go_sem,jF,jG,jH,↓reduceIte,reduceCtorEq,jO,u0,q1,decide_true,aE,dL,e1,Option.map_some,ek,hle]
   refine ⟨by omega,?_⟩
   refine aG m hkl (by omega) ⟨(by first | rfl | (simp (disch:=omega) only [go_sem,jA,jB,jC,jD,jE,jF,jG,jH,jI,jJ,↓reduceIte,reduceCtorEq,jP,jO,jM,jN]; try rfl)),?_,?_,fun j hj2=>?_⟩
   ·try simp (disch:=omega) only [go_sem,jN,St.aD,u0]
   ·try simp (disch:=omega) only [go_sem,jN,St.aD,u1]
   ·rcases (by omega:j<k∨j=k) with h9 | rfl
    ·exact hj j h9
    ·exact hle
  ·try simp (disch:=omega) only [go_sem,jF,jG,jH,↓reduceIte,reduceCtorEq,u0,q1,decide_true,aE,dL,e1,Option.map_some,ek,hle,decide_false]
   refine ⟨by omega,by omega,by omega,?_⟩
   have hb:=hbs k (by omega) hj (fun _=>hle)
   rw [show (iG B.rp).take k=iG (B.rp.take k) by simp [iG]]
   refine ab (hc k) (by simp [go_sem]) ?_
   try simp (disch:=omega) only [go_sem,jF,jG,jH,↓reduceIte,reduceCtorEq,u0,u1]
   rw [hb]
   exact aw.tu (.cons (.pure (vw ⟨B.op,B.rp.take k⟩)) (.cons (.pure rfl) .nil))
 ·have q1:¬(k:Int)<(B.rp.length:Int):=by omega
  try simp (disch:=omega) only [go_sem,jF,jG,jH,↓reduceIte,u0,q1,decide_false]
  refine ⟨by omega,by rw [aE]; omega,?_⟩
  have hb:=hbs k (by omega) hj (fun h=>absurd h hkl)
  rw [show (iG B.rp).take k=iG (B.rp.take k) by simp [iG]]
  refine ab (hc k) (by simp [go_sem]) ?_
  try simp (disch:=omega) only [go_sem,jF,jG,jH,↓reduceIte,reduceCtorEq,u0,u1]
  rw [hb]
  exact aw.tu (.cons (.pure (vw ⟨B.op,B.rp.take k⟩)) (.cons (.pure rfl) .nil))
theorem nc (a b:List Rp) (ha:a.length≤9223372036854775807):PC prog ow [.list 6 (iG a),.list 6 (iG b)] (.bool (decide (a=b))):=by
 refine ae oK (by simp) ?_
 simp only [gg,go_sem,jF,↓reduceIte,reduceCtorEq,aE]
 refine aZ (fun h=>?_) (fun h=>?_) <;> try simp (disch:=omega) only [go_sem,↓reduceIte,reduceCtorEq]
 ·exact aw.of_eq (by congr 1; simp; intro hab; exact h (by rw [hab])) rfl
 have hl:a.length=b.length:=by omega
 refine bw [4,5,13,14,15,16,17,18,19,20,21,22,23,24,25] (by kernel_rfl) a.length (fun k e _=>e 13=.int .i64 k∧∀ j,j<k→a[j]?=b[j]?) ?_ ?_
 ·exact ⟨(by first | rfl | (simp (disch:=omega) only [go_sem,jA,jB,jC,jD,jE,jF,jG,jH,jI,jJ,↓reduceIte,reduceCtorEq,jP,jO,jM,jN]; try rfl)),fun j hj=>by omega⟩
 ·rintro k fe ob c hk ⟨h13,hj⟩
  simp (maxSteps:=1000000) only [go_sem,jF,↓reduceIte] at h13
  try simp (disch:=omega) only [go_sem,jF,↓reduceIte,h13,aE]
  refine ah (fun hlt=>?_) (fun hge=>?_)
  ·have hka:k<a.length:=by omega
   have hga:a[k]?=some a[k]:=List.getElem?_eq_getElem hka
   have hgb:b[k]?=some b[k]:=List.getElem?_eq_getElem (by omega)
   have hE:=Gh a[k] b[k]
   generalize a[k]=x at *
   generalize b[k]=y at *
   try simp (disch:=omega) only [go_sem,jF,jH,↓reduceIte,reduceCtorEq,aE,dL,hga,hgb,Option.map_some,ek]
   refine ⟨by omega,by omega,by omega,by omega,?_⟩
   rw [hE]
   by_cases hxy:x=y
   ·subst hxy
    try simp (disch:=omega) only [go_sem,jF,↓reduceIte,jO,decide_true,Bool.not_true]
    refine bl hka ⟨(by first | rfl | (simp (disch:=omega) only [go_sem,jA,jB,jC,jD,jE,jF,jG,jH,jI,jJ,↓reduceIte,reduceCtorEq,jP,jO,jM,jN]; try rfl)),fun j hj'=>?_⟩
    by_cases e:j=k
    ·subst e; rw [hga,hgb]
    ·exact hj j (by omega)
   ·try simp (disch:=omega) only [go_sem,↓reduceIte,decide_false,Bool.not_false,hxy]
    exact aw.of_eq (by congr 1; simp; intro hab; subst hab; rw [hga] at hgb; exact hxy (Option.some.inj hgb)) rfl
  ·try simp (disch:=omega) only [go_sem,↓reduceIte]
   exact aw.of_eq (by congr 1; simp; exact bU hl fun j hj'=>hj j (by omega)) rfl
instance:DecidableEq Ac:=fun a b=>decidable_of_iff (km a b=true) mY
theorem jj (a b:List Ac) (ha:a.length≤9223372036854775807) (hA:∀ x∈a,IF x) :
  PC prog j8 [.list 4 (lE a),.list 4 (lE b),.func rU []] (.bool (decide (a=b))):=by
 refine ae kb (by simp) ?_
 simp only [dT,go_sem,jF,↓reduceIte,reduceCtorEq,aN]
 refine aZ (fun h=>?_) (fun h=>?_) <;> try simp (disch:=omega) only [go_sem,↓reduceIte,reduceCtorEq]
 ·exact aw.of_eq (by congr 1; simp; intro hab; exact h (by rw [hab])) rfl
 have hl:a.length=b.length:=by omega
 refine aW [6,7,8,9,17,18,19,20,21,22,23,24,25,26,27,28,29,30,31] (by kernel_rfl) a.length (fun k e _=>e 17=.int .i64 k∧∀ j,j<k→a[j]?=b[j]?) ?_ ?_
 ·exact ⟨(by first | rfl | (simp (disch:=omega) only [go_sem,jA,jB,jC,jD,jE,jF,jG,jH,jI,jJ,↓reduceIte,reduceCtorEq,jP,jO,jM,jN]; try rfl)),fun j hj=>by omega⟩
 ·rintro k fe ob m c hk hm ⟨h17,hj⟩
  simp (maxSteps:=1000000) only [go_sem,jF,↓reduceIte] at h17 hm
  try simp (disch:=omega) only [go_sem,jF,↓reduceIte,h17,aN]
  refine ah (fun hlt=>?_) (fun hge=>?_)
  ·have hka:k<a.length:=by omega
   have hga:a[k]?=some a[k]:=List.getElem?_eq_getElem hka
   have hgb:b[k]?=some b[k]:=List.getElem?_eq_getElem (by omega)
   have hS:=zN a[k] b[k] (hA _ (List.getElem_mem hka))
   generalize a[k]=x at *
   generalize b[k]=y at *
   simp only [gG] at hS
   try simp (disch:=omega) only [go_sem,jF,jG,jH,↓reduceIte,reduceCtorEq,jM,aN,fg,hga,hgb,Option.map_some,gG]
   refine ⟨by omega,by omega,by omega,by omega,?_⟩
   refine ab hS (by simp [go_sem]) ?_
   cases hq:km x y
   ·try simp (disch:=omega) only [go_sem,↓reduceIte]
    exact aw.of_eq (by congr 1; simp; intro hab; subst hab; rw [hga] at hgb; obtain rfl:=Option.some.inj hgb; rw [mY.2 rfl] at hq; cases hq) rfl
   ·obtain rfl:=mY.1 hq
    try simp (disch:=omega) only [go_sem,jF,↓reduceIte,jO]
    refine aG m hka (by omega) ⟨(by first | rfl | (simp (disch:=omega) only [go_sem,jA,jB,jC,jD,jE,jF,jG,jH,jI,jJ,↓reduceIte,reduceCtorEq,jP,jO,jM,jN]; try rfl)),fun j hj'=>?_⟩
    by_cases e:j=k
    ·subst e; rw [hga,hgb]
    ·exact hj j (by omega)
  ·try simp (disch:=omega) only [go_sem,↓reduceIte]
   exact aw.of_eq (by congr 1; simp; exact bU hl fun j hj'=>hj j (by omega)) rfl
instance:DecidableEq Bk:=fun a b=>decidable_of_iff (a.op=b.op∧a.rp=b.rp) (by cases a; cases b; simp)
theorem wc (A B:Bk) (ha:A.op.length≤9223372036854775807) (hA:∀ x∈A.op,IF x) (hr:A.rp.length≤9223372036854775807):PC prog yg [jv A,jv B] (.bool (decide (A=B))):=by
 obtain ⟨o,r⟩:=A
 obtain ⟨o',r'⟩:=B
 refine ae yD (by simp) ?_
 simp only [pe,go_sem,jF,jG,jH,↓reduceIte,reduceCtorEq,jv]
 try simp (disch:=omega) only [go_sem,jA,jB,jC,jD,jE,jF,jG,jH,jI,jJ,↓reduceIte,reduceCtorEq,jO,jM,jN,jK,jL]
 refine ab (jj o o' ha hA) (by simp [go_sem]) ?_
 by_cases h1:o=o'
 ·subst h1
  try simp (disch:=omega) only [go_sem,jF,jG,jH,↓reduceIte,reduceCtorEq,decide_true]
  refine ab (nc r r' hr) (by simp [go_sem]) ?_
  try simp (disch:=omega) only [go_sem,jF,↓reduceIte]
  exact aw.of_eq (by simp) rfl
 ·try simp (disch:=omega) only [go_sem,jF,↓reduceIte,h1,decide_false]
  exact aw.of_eq (by simp [h1]) rfl
end Go.Proofs.Try
