/- OWN WORK, put together by tools/asm.py, seat.py, mini.py. -/
import Derived.Test.YtcpckngdfjmbgaaGreatLibB
set_option linter.unusedSimpArgs false
set_option linter.unusedVariables false
set_option maxRecDepth 100000
set_option maxHeartbeats 1000000
namespace Go.Proofs.Try
open Go.Ab Go Go.Proofs.Tryz
open Int renaming reduceEq → jA, reduceLT → jB, reduceLE → jC, reduceToNat → jD
open Go.Ab renaming iP → jM, iQ → jN, lZ → jO, iR → jP
open Nat renaming reduceLT → jE, reduceEqDiff → jF, reduceAdd → jG, reduceLeDiff → jH, reduceSub → jI, reduceMul → jJ, sub_zero → jK, sub_self → jL
def Ic (a:Ac) (f:Nat):List Bd:=if f=1 then a.st else if f=2 then a.ins else a.outs
def Gt {α:Type} (f:Nat) (s x y:α):α:=if f=1 then s else if f=2 then x else y
theorem kl.l {a:Ac} (h:kl a):II a:=by
 have:=h.n2; have:=h.no; have:=h.ns
 exact ⟨by omega,by omega,by omega⟩
structure Pj (a:Ac) (n:Nat) (S I O:List Int):Prop where
 h:Mu n S I O
 n1:1≤n
 n5:n≤5
 f0:0≤a.fr
 f1:a.fr≤19
 s:IH S a.st
 i:IH I a.ins
 o:IH O a.outs
def T2 (σ:St) (id g:Nat) (t:List Int) (r:AV) (τ:St):Prop:=
 ∃ a n S I O R1 R2 R3,r=.tuple [.agg [.int .i64 a.fr,R1,R2,R3],.list 1 (ints S),.list 1 (ints I),.list 1 (ints O)]∧Pj a n S I O∧
  cw 2 24 τ (cA a.st) R1∧cw 2 24 τ (cA a.ins) R2∧cw 2 24 τ (cA a.outs) R3∧(∀ i,i<σ.n→aZ R1 i)∧(∀ i,i<σ.n→aZ R2 i)∧(∀ i,i<σ.n→aZ R3 i)∧Dj R1 R2∧Dj R1 R3∧Dj R2 R3∧
  σ.n≤τ.n∧(∃ a,τ.ob id=some ⟨g,2,aA,false,true,[bC t a]⟩)∧∀ i,i<σ.n→i≠id→τ.ob i=σ.ob i
theorem yl (σ:St) (id g:Nat) (t:List Int) (at':Nat) (hl:t.length≤9223372036854775807) (hid:id<σ.n) (hob:σ.ob id=some ⟨g,2,aA,false,true,[bC t at']⟩) :
  HC prog qa [.ptr id g 2 0 0] σ (T2 σ id g t):=by
 obtain ⟨dL,n0,c0⟩:=σ
 simp only at hob hid
 refine aM AZ (by simp) ?_
 simp only [qJ,go_sem,↓reduceIte,reduceCtorEq]
 have h0:¬id=n0:=by omega
 have h1:¬id=n0+1:=by omega
 have h2:¬n0=id:=by omega
 refine (yk _ id g t at' hl (by simp only; omega) (by try simp (disch:=omega) only [go_sem,↓reduceIte,h0]; exact hob)).mono ?_
 intro r τ hD
 obtain ⟨⟨n,S,I,O,rfl,hH,hn1,hn5⟩,hn,⟨at1,hd1⟩,hf1⟩:=hD.use (by simp only; omega)
 obtain ⟨ob1,m1,c1⟩:=τ
 simp only at hn hd1 hf1
 obtain rfl:n0+1=m1:=hn.symm
 have hS:=hH.ls
 have hI:=hH.li
 have hO:=hH.lo
 try simp (disch:=omega) only [go_sem,jF,↓reduceIte,reduceCtorEq]
 refine aL (ai _ id g aA true t at1 20 hd1 (by omega) hl) ?_
 have hx2:=aI t at1 20
 generalize bf t at1 20=dr at *
 obtain ⟨fr,at2⟩:=dr
 simp only at hx2
 try simp (disch:=omega) only [go_sem,jF,↓reduceIte,reduceCtorEq]
 refine (oH _ id g t at2 S hl (by simp only; omega) (by try simp (disch:=omega) only [go_sem,↓reduceIte]) (by omega) (fun i hi=>by have:=hH.s i (by omega); omega)).mono ?_
 rintro R1 ⟨ob3,m3,c3⟩ ⟨B1,hB1,r1,o1,hm3,⟨at3,hd3⟩,hf3⟩
 simp only at o1 hm3 hd3 hf3
 try simp (disch:=omega) only [go_sem,jF,↓reduceIte,reduceCtorEq]
 refine (oH _ id g t at3 I hl (by simp only; omega) hd3 (by omega) (fun i hi=>by have:=hH.i i (by omega); omega)).mono ?_
 rintro R2 ⟨ob4,m4,c4⟩ ⟨B2,hB2,r2,o2,hm4,⟨at4,hd4⟩,hf4⟩
 simp only at o2 hm4 hd4 hf4
 try simp (disch:=omega) only [go_sem,jF,↓reduceIte,reduceCtorEq]
 refine (oH _ id g t at4 O hl (by simp only; omega) hd4 (by omega) (fun i hi=>by have:=hH.o i (by omega); omega)).mono ?_
 rintro R3 ⟨ob5,m5,c5⟩ ⟨B3,hB3,r3,o3,hm5,⟨at5,hd5⟩,hf5⟩
 simp only at o3 hm5 hd5 hf5
 try simp (disch:=omega) only [go_sem,jF,jG,jH,↓reduceIte]
 have v1:=hf1 n0 (by omega) h2
 have v3:=hf3 n0 (by omega) h2
 have v4:=hf4 n0 (by omega) h2
 have v5:=hf5 n0 (by omega) h2
 try simp (disch:=omega) only [go_sem,↓reduceIte,h2] at v1 v3
 rw [v4,v3,v1] at v5
 try simp (disch:=omega) only [go_sem,jG,↓reduceIte,r1.flat,r2.flat,r3.flat,r1.cells,r2.cells,r3.cells,r1.one,r2.one,r3.one,v5]
 have k1:∀ {R:AV} {i:Nat},(∀ j,j<n0+1→aZ R j)→¬aZ R i→¬i=id∧¬i=n0:=fun ho hno=>⟨fun e=>hno (e ▸ ho id (by omega)),fun e=>hno (e ▸ ho n0 (by omega))⟩
 have k2:∀ {R:AV} {i:Nat},(∀ j,j<m3→aZ R j)→¬aZ R i→¬i=id∧¬i=n0:=fun ho hno=>⟨fun e=>hno (e ▸ ho id (by omega)),fun e=>hno (e ▸ ho n0 (by omega))⟩
 have k3:∀ {R:AV} {i:Nat},(∀ j,j<m4→aZ R j)→¬aZ R i→¬i=id∧¬i=n0:=fun ho hno=>⟨fun e=>hno (e ▸ ho id (by omega)),fun e=>hno (e ▸ ho n0 (by omega))⟩
 refine ⟨⟨fr,B1,B2,B3⟩,n,S,I,O,R1,R2,R3,rfl,⟨hH,hn1,hn5,by simp only; omega,by simp only; omega,hB1,hB2,hB3⟩,r1.move (by simp only; omega) fun i hi hno=>?_,r2.move (by simp only; omega) fun i hi hno=>?_,r3.move (by exact Nat.le_refl _) fun i hi hno=>?_,fun i hi=>o1 i (by simp only at hi; omega),fun i hi=>o2 i (by simp only at hi; omega),fun i hi=>o3 i (by simp only at hi; omega),fun i=>?_,fun i=>?_,fun i=>?_,by simp only; omega,⟨at5,?_⟩,fun i hi hne=>?_⟩
 ·obtain ⟨q1,q2⟩:=k1 o1 hno
  simp only at hi ⊢
  rw [aa _ _ _ _ q2,hf5 i (by omega) q1,hf4 i (by omega) q1]
 ·obtain ⟨q1,q2⟩:=k2 o2 hno
  simp only at hi ⊢
  rw [aa _ _ _ _ q2,hf5 i (by omega) q1]
 ·obtain ⟨q1,q2⟩:=k3 o3 hno
  simp only at hi ⊢
  rw [aa _ _ _ _ q2]
 ·rcases Nat.lt_or_ge i m3 with h | h
  ·exact .inr (o2 i h)
  ·exact .inl (r1.H2 h)
 ·rcases Nat.lt_or_ge i m4 with h | h
  ·exact .inr (o3 i h)
  ·exact .inl (r1.H2 (by simp only; omega))
 ·rcases Nat.lt_or_ge i m4 with h | h
  ·exact .inr (o3 i h)
  ·exact .inl (r2.H2 (by simp only; omega))
 ·simp only; rw [aa _ _ _ _ h0]; exact hd5
 ·simp only at hi ⊢
  rw [aa _ _ _ _ (by omega),hf5 i (by omega) hne,hf4 i (by omega) hne,hf3 i (by omega) hne,aa _ _ _ _ hne,hf1 i (by omega) hne,aa _ _ _ _ (by omega)]
theorem uP (σ:St) (id g:Nat) (t:List Int) (at':Nat) (hl:t.length≤9223372036854775807) (hid:id<σ.n) (hob:σ.ob id=some ⟨g,2,aA,false,true,[bC t at']⟩) :
  HC prog qa [.ptr id g 2 0 0] σ (ek σ id g t fun r=>∃ a n S I O,r=.tuple [gI a,.list 1 (ints S),.list 1 (ints I),.list 1 (ints O)]∧Pj a n S I O):=by
 refine HC.wL hid ((yl σ id g t at' hl hid hob).mono ?_)
 rintro r τ ⟨a,n,S,I,O,R1,R2,R3,rfl,hD,r1,r2,r3,o1,o2,o3,-,-,-,hn,⟨at2,hd⟩,hf⟩
 have pb:∀ {R:AV} {B:List Bd},cw 2 24 τ (cA B) R→(∀ i,i<σ.n→aZ R i)→aw ⟨fun i=>if i<σ.n then none else τ.ob i,τ.n,τ.c⟩ R (.list 2 (cA B)):=fun hr ho=>
  hr.mF (fun i hi hno=>by simp only; rw [if_neg fun h=>hno (ho i h)]) (mC _) (qL _)
 exact ⟨.tuple [gI a,.list 1 (ints S),.list 1 (ints I),.list 1 (ints O)],at2,aw.tu (.cons (aw.ag (.cons (.pure rfl) (.cons (pb r1 o1) (.cons (pb r2 o2) (.cons (pb r3 o3) .nil))))) (.cons (.pure (by simp [go_sem])) (.cons (.pure (by simp [go_sem])) (.cons (.pure (by simp [go_sem])) .nil)))),⟨a,n,S,I,O,rfl,hD⟩,hd,hf⟩
structure TV (a:Ac) (n:Nat):Prop where
 n1:1≤n
 n5:n≤5
 ls:a.st.length=n+1
 li:a.ins.length=n
 lo:a.outs.length=n
 f0:0≤a.fr
 f1:a.fr≤19
 s:∀ b∈a.st,0≤b.lo∧b.lo≤b.hi∧b.hi≤1000
 i:∀ b∈a.ins,0≤b.lo∧b.lo≤b.hi∧b.hi≤1000
 o:∀ b∈a.outs,0≤b.lo∧b.lo≤b.hi∧b.hi≤1000
theorem IH.fit {L:List Int} {B:List Bd} (h:IH L B) (hx:∀ i,i<L.length→L.getD i 0≤900):∀ b∈B,0≤b.lo∧b.lo≤b.hi∧b.hi≤1000:=by
 intro b hb
 obtain ⟨i,hi,rfl⟩:=List.mem_iff_getElem.1 hb
 have h1:=h.b i (by have:=h.ln; omega)
 have h2:=hx i (by have:=h.ln; omega)
 have h3:gB B i=B[i]:=by simp [gB,List.getD_eq_getElem?_getD,hi]
 rw [h3] at h1
 simp only [Cc] at h1
 omega
theorem Pj.U4 {a:Ac} {n:Nat} {S I O:List Int} (h:Pj a n S I O):TV a n:=by
 have h1:=h.h.ls
 have h2:=h.h.li
 have h3:=h.h.lo
 have:=h.n5
 refine ⟨h.n1,h.n5,by rw [h.s.ln,h1],by rw [h.i.ln,h2],by rw [h.o.ln,h3],h.f0,h.f1,h.s.fit fun i hi=>?_,h.i.fit fun i hi=>?_,h.o.fit fun i hi=>?_⟩
 ·have:=h.h.s i (by omega); omega
 ·have:=h.h.i i (by omega); omega
 ·have:=h.h.o i (by omega); omega
theorem TV.ok {a:Ac} {n:Nat} (h:TV a n):kl a:=by
 have h1:=h.n1
 have h2:=h.n5
 have h3:=h.f0
 have h4:=h.f1
 have h5:=h.li
 have f:∀ {b:Bd},(0≤b.lo∧b.lo≤b.hi∧b.hi≤1000)→fF b:=fun h=>⟨h.1,h.2.1,by simp only [F7]; omega⟩
 exact ⟨by omega,by omega,by rw [h.lo,h.li],by rw [h.ls,h.li],h3,by omega,fun b hb=>f (h.s b hb),fun b hb=>f (h.i b hb),fun b hb=>f (h.o b hb)⟩
def TY (a:Ac) (n:Nat) (s x y:Nat→Int):Prop:=Hi (gB a.st) (gB a.ins) (gB a.outs) n s x y
theorem Pj.hi {a:Ac} {n:Nat} {S I O:List Int} (h:Pj a n S I O):a.ins.length=n∧TY a n (fun i=>S.getD i 0) (fun i=>I.getD i 0) (fun i=>O.getD i 0):=by
 have h1:=h.h.ls
 have h2:=h.h.li
 have h3:=h.h.lo
 refine ⟨by rw [h.i.ln,h2],fun i hi=>?_,fun i hi=>?_,fun i hi=>?_,h.h.PX⟩
 ·have:=h.s.b i (by omega); exact ⟨this.2.1,this.2.2.1⟩
 ·have:=h.i.b i (by omega); exact ⟨this.2.1,this.2.2.1⟩
 ·have:=h.o.b i (by omega); exact ⟨this.2.1,this.2.2.1⟩
structure Rp where
 nu:Int
 ac:Int
 fd:Int
 tm:Int
 b:Bd
 deriving DecidableEq,Inhabited
structure Bk where
 op:List Ac
 rp:List Rp
def en (r:Rp):AV:=.agg [.int .i64 r.nu,.int .i64 r.ac,.int .i64 r.fd,.int .i64 r.tm,.int .i64 r.b.lo,.int .i64 r.b.hi]
def iH (l:List Rp):List AV:=l.map en
def lJ (l:List Ac):List AV:=l.map gI
theorem aF (l:List Rp):(iH l).length=l.length:=by simp [iH]
theorem dP (l:List Rp) (i:Nat):(iH l)[i]?=(l[i]?).map en:=by simp [iH]
theorem tK (l:List Rp):∀ x∈iH l,x.cQ=true:=by simp [iH,en,go_sem]
theorem zn (l:List Rp):∀ x∈iH l,mM 6 x:=by simp [iH,en,mM,go_sem]
theorem aN (l:List Ac):(lJ l).length=l.length:=by simp [lJ]
theorem eY (l:List Ac) (i:Nat):(lJ l)[i]?=(l[i]?).map gI:=by simp [lJ]
theorem yW (l:List Ac):∀ x∈lJ l,x.cQ=true:=by
 intro x hx
 obtain ⟨a,_,rfl⟩:=List.mem_map.1 hx
 exact Mm a
theorem Ew (l:List Ac):∀ x∈lJ l,mM 4 x:=by simp [lJ,gI,mM,go_sem]
def jx (B:Bk):AV:=.agg [.list 4 (lJ B.op),.list 6 (iH B.rp)]
def gA (l:List Ac) (i:Nat):Ac:=(l[i]?).getD RG
def gR (l:List Rp) (i:Nat):Rp:=l.getD i default
theorem iz {l:List Ac} {i:Nat} (h:i<l.length):l[i]?=some (gA l i):=by simp [gA,h]
theorem ed {l:List Rp} {i:Nat} (h:i<l.length):l[i]?=some (gR l i):=by simp [gR,List.getD_eq_getElem?_getD,h]
structure TQ (a:Ac) (r:Rp):Prop where
 fd:r.fd=1∨r.fd=2∨r.fd=3
 t0:a.fr≤r.tm
 t1:r.tm<a.fr+((Ic a r.fd.toNat).length:Int)
 b:fF r.b
structure Ex (op:List Ac) (r:Rp):Prop where
 n1:1≤r.nu
 n2:r.nu≤1073741824
 a0:0≤r.ac
 a1:r.ac<op.length
 a:TQ (gA op r.ac.toNat) r
structure lX (B:Bk):Prop where
 n:B.op.length≤16
 ao:∀ a∈B.op,kl a
 m:B.rp.length≤4096
 Ku:B.rp.Pairwise fun a b=>a.nu<b.nu
 ro:∀ r∈B.rp,Ex B.op r
def SO (a:Ac) (r:Rp) (s x y:Nat→Int):Prop:=iu r.b (Gt r.fd.toNat s x y (r.tm-a.fr).toNat)
theorem yP {a:Ac} (h:kl a) {f:Int} (hf:f=1∨f=2∨f=3):((Ic a f.toNat).length:Int)=if f=1 then (a.ins.length:Int)+1 else a.ins.length:=by
 have h1:=h.ns
 have h2:=h.no
 rcases hf with rfl | rfl | rfl <;> simp [Ic] <;> omega
theorem lX.acc {B:Bk} (h:lX B) {i:Nat} (hi:i<B.op.length):kl (gA B.op i):=h.ao _ (List.mem_of_getElem? (iz hi))
theorem vn (B:Bk):(jx B).cQ=true:=by simp [jx,go_sem]
abbrev ij (l:List Rp):List Int:=l.map Rp.nu
theorem ep {l:List Rp} {i:Nat} {x:Int}:(ij l)[i]?=some x↔∃ r,l[i]?=some r∧r.nu=x:=by
 rw [List.getElem?_map]
 cases l[i]? <;> simp
theorem vN {l:List Rp} (h:l.Pairwise fun a b=>a.nu<b.nu) {i j:Nat} (hij:i<j) {x y:Rp} (hx:l[i]?=some x) (hy:l[j]?=some y):x.nu<y.nu:=by
 obtain ⟨h1,rfl⟩:=List.getElem?_eq_some_iff.1 hx
 obtain ⟨h2,rfl⟩:=List.getElem?_eq_some_iff.1 hy
 exact List.pairwise_iff_getElem.1 h i j h1 h2 hij
theorem De {l:List Rp} (h:l.Pairwise fun a b=>a.nu<b.nu):KX (ij l):=fun i j hij x y hx hy=>by
 obtain ⟨a,ha,rfl⟩:=ep.1 hx
 obtain ⟨b,hb,rfl⟩:=ep.1 hy
 exact Int.le_of_lt (vN h hij ha hb)
theorem OK:∀ {l m:List Rp},(l.Pairwise fun a b=>a.nu<b.nu)→(m.Pairwise fun a b=>a.nu<b.nu)→(∀ r,r∈l↔r∈m)→l=m
 | [],[],_,_,_=>rfl
 | [],y :: m,_,_,h=>by have:=(h y).2 (by simp); simp at this
 | x :: l,[],_,_,h=>by have:=(h x).1 (by simp); simp at this
 | x :: l,y :: m,hl,hm,h=>by
  rw [List.pairwise_cons] at hl hm
  have e:x=y:=by
   have h1:=(h x).1 (by simp)
   have h2:=(h y).2 (by simp)
   simp only [List.mem_cons] at h1 h2
   rcases h1 with h1 | h1
   ·exact h1
   ·rcases h2 with h2 | h2
    ·exact h2.symm
    ·have:=hl.1 y h2
     have:=hm.1 x h1
     omega
  subst e
  rw [OK hl.2 hm.2 fun r=>?_]
  have h1:=h r
  simp only [List.mem_cons] at h1
  constructor
  ·intro hr
   rcases h1.1 (.inr hr) with e | e
   ·subst e; have:=hl.1 r hr; omega
   ·exact e
  ·intro hr
   rcases h1.2 (.inr hr) with e | e
   ·subst e; have:=hm.1 r hr; omega
   ·exact e
def ED:Bk:=⟨[],[]⟩
def gQ (B:Bk) (r:Rp):Bk × Int:=
 if (ij B.rp)[dg (ij B.rp) r.nu]?=some r.nu then (if gR B.rp (dg (ij B.rp) r.nu)=r then (B,0) else (ED,46))
 else if B.rp.length=4096 then (ED,10) else (⟨B.op,B.rp.take (dg (ij B.rp) r.nu)++r :: B.rp.drop (dg (ij B.rp) r.nu)⟩,0)
theorem JS {B:Bk} (h:lX B) {r:Rp} (hr:Ex B.op r) (hn:∀ q∈B.rp,q.nu≠r.nu) (hl:B.rp.length<4096) :
  ∃ l,gQ B r=(⟨B.op,l⟩,0)∧lX ⟨B.op,l⟩∧(∀ q,q∈l↔q∈B.rp∨q=r)∧l.length=B.rp.length+1:=by
 have hA:=De h.Ku
 have hk:=wQ (ij B.rp) r.nu
 have hno:¬(ij B.rp)[dg (ij B.rp) r.nu]?=some r.nu:=by
  rw [re _ _ hA]
  intro hm
  obtain ⟨q,h1,h2⟩:=List.mem_map.1 hm
  exact hn q h1 h2
 rw [List.length_map] at hk
 have lt:∀ q∈B.rp.take (dg (ij B.rp) r.nu),q.nu<r.nu:=fun q hq=>by
  obtain ⟨i,hi⟩:=List.getElem?_of_mem hq
  rw [List.getElem?_take] at hi
  split at hi
  ·rename_i hik
   rcases Int.lt_or_le q.nu r.nu with h1 | h1
   ·exact h1
   ·have:=wP (ep.2 ⟨q,hi,rfl⟩) h1; omega
  ·cases hi
 have gt:∀ q∈B.rp.drop (dg (ij B.rp) r.nu),r.nu<q.nu:=fun q hq=>by
  obtain ⟨i,hi⟩:=List.getElem?_of_mem hq
  rw [List.getElem?_drop] at hi
  have hne:=hn q (List.mem_of_getElem? hi)
  have h0:(dg (ij B.rp) r.nu)<B.rp.length:=by have:=(List.getElem?_eq_some_iff.1 hi).1; omega
  have hat:(ij B.rp)[dg (ij B.rp) r.nu]?=some (gR B.rp (dg (ij B.rp) r.nu)).nu:=ep.2 ⟨_,ed h0,rfl⟩
  have h1:=GP hat
  rcases Nat.eq_zero_or_pos i with rfl | hpos
  ·have h2:=ed h0
   rw [Nat.add_zero] at hi
   rw [h2] at hi
   obtain rfl:=Option.some.inj hi
   omega
  ·have:=vN h.Ku (show dg (ij B.rp) r.nu<dg (ij B.rp) r.nu+i by omega) (ed h0) hi
   omega
 have mem:∀ q,q∈B.rp.take (dg (ij B.rp) r.nu)++r :: B.rp.drop (dg (ij B.rp) r.nu)↔q∈B.rp∨q=r:=fun q=>by
  have h1:q∈B.rp↔q∈B.rp.take (dg (ij B.rp) r.nu)∨q∈B.rp.drop (dg (ij B.rp) r.nu):=by
   rw [←List.mem_append,List.take_append_drop]
  rw [h1]
  simp only [List.mem_append,List.mem_cons]
  constructor
  ·rintro (h | h | h)
   ·exact .inl (.inl h)
   ·exact .inr h
   ·exact .inl (.inr h)
  ·rintro ((h | h) | h)
   ·exact .inl h
   ·exact .inr (.inr h)
   ·exact .inr (.inl h)
 refine ⟨B.rp.take (dg (ij B.rp) r.nu)++r :: B.rp.drop (dg (ij B.rp) r.nu),by unfold gQ; rw [if_neg hno,if_neg (by omega)],⟨h.n,h.ao,?_,?_,?_⟩,mem,?_⟩
 ·simp; omega
 ·simp only
  rw [List.pairwise_append,List.pairwise_cons]
  refine ⟨h.Ku.sublist (List.take_sublist _ _),⟨gt,h.Ku.sublist (List.drop_sublist _ _)⟩,fun a ha b hb=>?_⟩
  simp only [List.mem_cons] at hb
  rcases hb with rfl | hb
  ·exact lt a ha
  ·have:=lt a ha; have:=gt b hb; omega
 ·intro q hq
  rcases (mem q).1 hq with h1 | rfl
  ·exact h.ro q h1
  ·exact hr
 ·simp; omega
theorem Fl {B:Bk} (h:lX B) {r:Rp} (hr:Ex B.op r) (h0:(gQ B r).2=0):lX (gQ B r).1∧(gQ B r).1.op=B.op∧∀ q,q∈(gQ B r).1.rp↔q∈B.rp∨q=r:=by
 by_cases hm:r.nu∈ij B.rp
 ·have hA:=De h.Ku
  have h1:=(re _ _ hA).2 hm
  unfold gQ at h0 ⊢
  rw [if_pos h1] at h0 ⊢
  split at h0
  ·rename_i h2
   rw [if_pos h2]
   refine ⟨h,rfl,fun q=>⟨.inl,fun hq=>hq.elim id fun e=>?_⟩⟩
   subst e
   obtain ⟨a,ha,_⟩:=ep.1 h1
   have hlt:=(List.getElem?_eq_some_iff.1 ha).1
   have:=List.mem_of_getElem? (ed hlt)
   rwa [h2] at this
  ·cases h0
 ·by_cases hl:B.rp.length=4096
  ·unfold gQ at h0
   rw [if_neg (fun h1=>hm ((re _ _ (De h.Ku)).1 h1)),if_pos hl] at h0
   cases h0
  ·obtain ⟨l,e,h1,h2,_⟩:=JS h hr (fun q hq e=>hm (List.mem_map.2 ⟨q,hq,e⟩)) (by have:=h.m; omega)
   rw [e]
   exact ⟨h1,rfl,h2⟩
structure Tr where
 S:List Int
 I:List Int
 O:List Int
 deriving Inhabited
def Lo (t:Tr):AV:=.agg [.list 1 (ints t.S),.list 1 (ints t.I),.list 1 (ints t.O)]
def F5 (l:List Tr):List AV:=l.map Lo
theorem oh (l:List Tr):(F5 l).length=l.length:=by simp [F5]
theorem Lq (l:List Tr) (i:Nat):(F5 l)[i]?=(l[i]?).map Lo:=by simp [F5]
theorem Lp (l:List Tr):∀ x∈F5 l,x.cQ=true:=by simp [F5,Lo,go_sem]
theorem Oi (l:List Tr):∀ x∈F5 l,mM 3 x:=by simp [F5,Lo,mM,go_sem]
def gT (l:List Tr) (i:Nat):Tr:=l.getD i default
theorem OU {l:List Tr} {i:Nat} (h:i<l.length):l[i]?=some (gT l i):=by simp [gT,List.getD_eq_getElem?_getD,h]
def Mo (a:Ac) (t:Tr):Prop:=∃ n,Pj a n t.S t.I t.O
def P0 (a:Ac) (r:Rp) (t:Tr):Prop:=SO a r (fun i=>t.S.getD i 0) (fun i=>t.I.getD i 0) (fun i=>t.O.getD i 0)
structure Pa (B:Bk) (T:List Tr):Prop where
 ok:lX B
 n1:1≤B.op.length
 n2:B.op.length≤2
 len:T.length=B.op.length
 tr:∀ i,i<B.op.length→Mo (gA B.op i) (gT T i)
 rt:∀ r∈B.rp,P0 (gA B.op r.ac.toNat) r (gT T r.ac.toNat)
 nu:∀ r∈B.rp,r.nu≤20
theorem Mo.hi {a:Ac} {t:Tr} (h:Mo a t):TY a a.ins.length (fun i=>t.S.getD i 0) (fun i=>t.I.getD i 0) (fun i=>t.O.getD i 0)∧t.S.length=a.ins.length+1∧t.I.length=a.ins.length∧t.O.length=a.ins.length∧kl a:=by
 obtain ⟨n,h⟩:=h
 obtain ⟨h1,h2⟩:=h.hi
 exact ⟨by rw [h1]; exact h2,by rw [h1]; exact h.h.ls,by rw [h1]; exact h.h.li,by rw [h1]; exact h.h.lo,h.U4.ok⟩
structure TP (a:Ac) (t:Tr):Prop where
 hi:TY a a.ins.length (fun i=>t.S.getD i 0) (fun i=>t.I.getD i 0) (fun i=>t.O.getD i 0)
 lS:t.S.length=a.ins.length+1
 lI:t.I.length=a.ins.length
 lO:t.O.length=a.ins.length
 ok:kl a
 bS:∀ i,i≤a.ins.length→0≤t.S.getD i 0∧t.S.getD i 0≤900
 bI:∀ i,i<a.ins.length→0≤t.I.getD i 0∧t.I.getD i 0≤900
 bO:∀ i,i<a.ins.length→0≤t.O.getD i 0∧t.O.getD i 0≤900
theorem Mo.g {a:Ac} {t:Tr} (h:Mo a t):TP a t:=by
 obtain ⟨h1,h2,h3,h4,h5⟩:=h.hi
 obtain ⟨n,hD⟩:=h
 have hn:=hD.hi.1
 have h5':=hD.n5
 refine ⟨h1,h2,h3,h4,h5,fun i hi=>?_,fun i hi=>?_,fun i hi=>?_⟩
 ·have:=hD.h.s i (by omega); omega
 ·have:=hD.h.i i (by omega); omega
 ·have:=hD.h.o i (by omega); omega
theorem tI {P:Program} (w:World) (tS tR e:TypeId) (ht:P.underlying tS=some (.slice e)) (size:Nat) (hz:∀ w,(Go.sizeOf e).run P w=.ok size w)
  (a b:Addr) (la ca lb cb:Nat) (hne:a.block≠b.block) (tA tB:TypeId) (kA kB:Nat)
  (hsa:w.shape? a.block=some (tA,kA)) (hsb:w.shape? b.block=some (tB,kB)) (hkA:kA≠0)
  (hfb:w.frozen? b=false) (hfe:w.frozen? { block:=b.block,off:=kB }=false) :
  (Extern.SlicesOverlaps.overlaps #[tS,tS] #[tR] #[.slice (some a) la ca,.slice (some b) lb cb]).run P w=.ok (.bool false) w:=by
 have hnb:(a.block != b.block)=true:=by simpa using hne
 have hnb':(a.block == b.block)=false:=by simpa using hne
 obtain ⟨r,hr⟩:∃ r,Extern.SlicesOverlaps.overlaps #[tS,tS] #[tR] #[.slice (some a) la ca,.slice (some b) lb cb]=r:=⟨_,rfl⟩
 rw [hr]
 unfold Extern.SlicesOverlaps.overlaps at hr
 conv at hr=>lhs; whnf
 have ht0:P.underlying (#[tS,tS][0])=some (.slice e):=ht
 have pb:∀ {α:Type} (x:α) (f:α→Sem Value),(pure x:Sem α).bind f=f x:=fun _ _=>rfl
 rw [←hr]
 cases kA with
 | zero=>exact absurd rfl hkA
 | succ kA=>
  by_cases h0:la=0∨lb=0∨size=0
  ·simp [Sem.run,Sem.bind,ht,pb,hz,h0]
  ·cases hfa:w.frozen? a <;> cases hfa2:w.frozen? { block:=a.block,off:=kA+1 } <;>
    simp [Sem.run,Sem.bind,ht,pb,hz,h0,hnb,hnb',frozen,noView,viewAt,mayBeOne,stringish,shape,hsa,hsb,hfa,hfa2,hfb,hfe]
theorem KC {P:Program} {σ:St} {f:Nat} {tS tR:TypeId} (he:Hx P f=some (Extern.SlicesOverlaps.overlaps #[tS,tS] #[tR])) (ht:JW P tS=true)
  {es:Nat} {L:List AV} {id' g' es' off' n' c':Nat} {o':aV} (hL:L≠[]) (hes:0<es) (ho':σ.ob id'=some o') (hg':o'.g=g') (hro:o'.ro=false) (hap:o'.ap=true) :
  HC P f [.list es L,.fG id' g' es' off' n' c'] σ fun r σ'=>r=.bool false∧σ'=σ:=by
 subst hg'
 refine ⟨(Cm he).1,fun m S w vs hS hv=>.inr ?_⟩
 obtain ⟨v1,v2,rfl⟩:∃ v1 v2,vs=[v1,v2]:=by
  match vs,hv.1 with
  | [a,b],_=>exact ⟨a,b,rfl⟩
 have h1:=hv.2 0 _ v1 rfl rfl
 have h2:=hv.2 1 _ v2 rfl rfl
 obtain ⟨b',len',hu',rfl,hcap'⟩:=h2.fk
 obtain ⟨v',hm',⟨_,hes',xs',hown',_⟩,hSb⟩:=hS.obj id' o' ho'
 rw [hu'] at hm'; obtain rfl:=Option.some.inj hm'
 rcases (hown'.own rfl).2 with ⟨h,_⟩ | ⟨b2,len2,cap2,cur2,fr2,h,hgb2,hnc2,hcm2,hsz2,htk2,hfr2,hfr02⟩
 ·cases h
 cases h
 obtain rfl:=hfr02 hap
 cases h1 with
 | pure h1=>
  cases h1 with
  | bT=>exact absurd rfl hL
  | @list _ _ b o cap ff hl' hcap hSS hc hw hvv=>
   obtain ⟨hSb1,cs,t,fr,hgb⟩:=hSS
   have hbb:b≠b':=fun e=>(hSb b' rfl).2 hro (e ▸ hSb1)
   have hcell:=hw 0 0 (by cases L with
    | nil=>exact absurd rfl hL
    | cons x r=>simp) hes
   have hk1:cs.size≠0:=by
    simp only [World.cell?,hgb] at hcell
    intro h0
    have:cs=#[]:=Array.eq_empty_of_size_eq_zero h0
    subst this
    simp at hcell
   unfold JW at ht
   split at ht
   ·rename_i e hue
    obtain ⟨i,hi⟩:=Option.isSome_iff_exists.1 ht
    refine ⟨.bool false,w,?_,.bool false,σ,m,S,.bool false,rfl,⟨rfl,rfl⟩,?_,Ext.refl m S w,.pure (.bool false)⟩
    ·rw [(Cm he).2]
     rw [tI w tS tR e hue i.size (fun w=>aP hi w) ⟨b,o,none⟩ ⟨b',off' * es',none⟩ L.length cap n' (c' - off') hbb t o'.ty cs.size cur2.size
      (by simp [World.shape?,hgb]) (by simp [World.shape?,hgb2]) hk1 (by simp [World.frozen?,hgb2]) (by simp [World.frozen?,hgb2])]
     rfl
    ·exact ⟨hS,⟨rfl,rfl,rfl,Nat.le_refl _,fun _ _ _=>rfl,fun k o v b ho hro hm hb=>.inl ⟨k,o,v,ho,hro,hm,hb⟩,fun b hb=>.inl hb⟩⟩
   ·cases ht
theorem lQ (σ:St) (id g:Nat) (L:List AV) (x:AV) (i:Nat) (hx:mM 6 x) (hob:σ.ob id=some ⟨g,6,dC,false,true,L⟩)
  (hid:id<σ.n) (hi:i≤L.length) (hl:L.length≤1000000) :
  HC prog nv [.sl id g 6 0 L.length,.int .i64 i,.list 6 [x]] σ (TX σ id 6 dC (L.take i++x :: L.drop i)):=by
 obtain ⟨dL,n0,c0⟩:=σ
 simp only at hob hid
 by_cases h0:i=L.length
 ·subst h0
  refine aM fE (by simp) ?_
  simp only [dw,go_sem,jA,jF,↓reduceIte,reduceCtorEq]
  try simp (disch:=omega) only [go_sem,jA,jB,jC,jD,jE,jF,jG,jH,jI,jJ,↓reduceIte,reduceCtorEq,jO,jM,jN,jK,jL]
  refine ⟨⟨_,hob,rfl⟩,by omega,by omega,?_,fun h=>absurd h (by omega)⟩
  try simp (disch:=omega) only [go_sem,hob]
  repeat (refine And.intro (by first | omega | (rw [nB]; omega) | (simp [maxLen]; done) | (simp [maxLen]; omega)) ?_)
  have e:L.take L.length++x :: L.drop L.length=L++[x]:=by simp
  rw [e]
  exact ⟨id,c0,by simp,.inl rfl,hid,Nat.le_refl _,az _ _ _,fun k _ hk=>aa _ _ _ _ hk⟩
 refine HC.clip (R:=fun r τ=>(∃ c,r=.fG id g 6 0 (L.length+1) c∧τ=⟨bd dL id (some ⟨g,6,dC,false,true,L.take i++x :: L.drop i⟩),n0,c0⟩)∨
  (r=.sl n0 c0 6 0 (L.length+1)∧τ=⟨bd dL n0 (some ⟨c0,6,dC,false,true,L.take i++x :: L.drop i⟩),n0+1,c0+1⟩)) (HC.fG hob rfl (by omega) rfl (fun c hc hcm=>?_) (by omega)) ?_
 ·refine aM fE (by simp) ?_
  simp only [dw,go_sem,jA,jF,↓reduceIte,reduceCtorEq]
  have hne1:¬((i:Int)=(L.length:Int)):=by omega
  try simp (disch:=omega) only [go_sem,jF,↓reduceIte,reduceCtorEq,jO,jK,hne1]
  refine ⟨hc,by omega,by omega,fun h=>by omega,fun _=>?_⟩
  refine ah (fun hgrow=>?_) (fun hroom=>?_)
  ·have hcl:c=L.length:=by omega
   subst hcl
   try simp (disch:=omega) only [go_sem,jF,↓reduceIte,reduceCtorEq,jO,jK]
   refine ⟨by omega,by omega,by omega,fun h=>by omega,fun _=>?_⟩
   refine O9 ?_
   have htn:((L.length:Int)+1-(i:Int)).toNat=L.length+1-i:=by omega
   try simp (disch:=omega) only [go_sem,jF,↓reduceIte,reduceCtorEq,jO,jK,hob,htn]
   refine ⟨by omega,by omega,by omega,by omega,by omega,by omega,by omega,fun h=>by omega,fun _=>?_⟩
   have hn2:¬n0=id:=by omega
   try simp (disch:=omega) only [go_sem,jA,jB,jC,jD,jE,jF,jG,jH,jI,jJ,↓reduceIte,reduceCtorEq,jO,jM,jN,jK,jL,hob]
   have hin:((i:Int)+1).toNat=i+1:=by omega
   try simp (disch:=omega) only [go_sem,hin]
   refine ⟨by simp; omega,by omega,by omega,by omega,fun h=>by omega,fun _=>⟨by omega,by omega,fun h=>by omega,fun _=>?_⟩⟩
   refine O4 ?_
   try simp (disch:=omega) only [go_sem,jF,↓reduceIte,reduceCtorEq,jM,hob]
   rw [Rs (by omega) (by omega) (by omega)]
   refine ⟨by omega,by simp; omega,.inr ⟨by rw [show i+(L.length+1-i)=L.length+1 by omega],?_⟩⟩
   rw [Rr (by omega) (by omega) (by omega) (by simp; omega)]
   simp only [l6]
  ·have hin:((i:Int)+1).toNat=i+1:=by omega
   have hln:((L.length:Int)+1).toNat=L.length+1:=by omega
   try simp (disch:=omega) only [go_sem,jF,↓reduceIte,reduceCtorEq,jO,jK,hin,hln]
   repeat (refine And.intro (by first | omega | (rw [nB]; omega) | (simp [maxLen]; done) | (simp [maxLen]; omega)) ?_)
   refine fun _=>⟨by omega,by omega,by omega,fun h=>by omega,fun _=>?_⟩
   refine (KC (σ:=⟨dL,n0,c0⟩) lK kr (by simp) (by omega) hob rfl rfl rfl).mono ?_
   rintro _ _ ⟨rfl,rfl⟩
   try simp (disch:=omega) only [go_sem,jF,↓reduceIte,reduceCtorEq,jO,jK,hin]
   refine ⟨by omega,by omega,by omega,fun h=>by omega,fun _=>⟨by omega,by omega,by omega,fun h=>by omega,fun _=>?_⟩⟩
   refine O5 ?_
   try simp (disch:=omega) only [go_sem,jF,↓reduceIte,reduceCtorEq,jK,hob]
   rw [Rq (by omega) (by omega) (by omega)]
   refine ⟨by omega,by omega,by omega,by omega,by omega,by omega,fun h=>by omega,fun _=>?_⟩
   rw [Ro (by omega) (by omega) (by omega)]
   refine ⟨by omega,by simp; omega,c,rfl,?_⟩
   rw [l6]
 ·rintro r τ (⟨c,rfl,rfl⟩ | ⟨rfl,rfl⟩)
  ·refine ⟨.sl id g 6 0 (L.length+1),bd dL id (some ⟨g,6,dC,false,true,L.take i++x :: L.drop i⟩),.inr ⟨id,g,6,0,_,c,rfl,rfl⟩,fun q o hq=>⟨o,hq,rfl,rfl,rfl,rfl,rfl,o.l.length,by simp,.inl rfl⟩,?_⟩
   have hlen:(L.take i++x :: L.drop i).length=L.length+1:=by simp; omega
   refine ⟨id,g,by rw [hlen],.inl rfl,hid,Nat.le_refl _,az _ _ _,fun k _ hk=>aa _ _ _ _ hk⟩
  ·refine ⟨.sl n0 c0 6 0 (L.length+1),bd dL n0 (some ⟨c0,6,dC,false,true,L.take i++x :: L.drop i⟩),.inl rfl,fun q o hq=>⟨o,hq,rfl,rfl,rfl,rfl,rfl,o.l.length,by simp,.inl rfl⟩,?_⟩
   have hlen:(L.take i++x :: L.drop i).length=L.length+1:=by simp; omega
   exact ⟨n0,c0,by rw [hlen],.inr (Nat.le_refl _),Nat.lt_succ_self _,Nat.le_succ _,az _ _ _,fun k hk _=>aa _ _ _ _ (by simp only at hk; omega)⟩
theorem vT (a:Ac) (h:kl a):PC prog xX [gI a] (gI a):=by
 have h1:=h.n2
 have h2:=h.no
 have h3:=h.ns
 refine ae yp (by simp) ?_
 simp only [pd,go_sem,jF,jG,jH,↓reduceIte,reduceCtorEq,gI]
 try simp (disch:=omega) only [go_sem,jA,jB,jC,jD,jE,jF,jG,jH,jI,jJ,↓reduceIte,reduceCtorEq,jO,jM,jN,jK,jL]
 refine ab (dd (cA a.st) (by rw [aJ]; omega) (mC _) (qL _)) (by simp [go_sem]) ?_
 try simp (disch:=omega) only [go_sem,jF,↓reduceIte]
 refine ab (dd (cA a.ins) (by rw [aJ]; omega) (mC _) (qL _)) (by simp [go_sem]) ?_
 try simp (disch:=omega) only [go_sem,jF,↓reduceIte]
 refine ab (dd (cA a.outs) (by rw [aJ]; omega) (mC _) (qL _)) (by simp [go_sem]) ?_
 try simp (disch:=omega) only [go_sem,jF,jG,jH,↓reduceIte,reduceCtorEq]
 exact aw.of_eq rfl (by simp [go_sem])
theorem sP (l:List Ac) (hn:l.length≤16) (h:∀ a∈l,kl a):PC prog ui [.list 4 (lJ l)] (.int .i64 0):=by
 refine ae vo (by simp) ?_
 simp only [mq,go_sem,↓reduceIte,reduceCtorEq,aN]
 refine ah (fun hgt=>by omega) (fun hle=>?_)
 try simp (disch:=omega) only [go_sem,↓reduceIte,reduceCtorEq,aN]
 refine aT [2,4,5,11,12,13,14,15,16,17,18,19,20] (by kernel_rfl) l.length (fun k e σ=>e 11=.int .i64 k) ?_ ?_
 ·exact (by first | rfl | (simp (disch:=omega) only [go_sem,jA,jB,jC,jD,jE,jF,jG,jH,jI,jJ,↓reduceIte,reduceCtorEq,jP,jO,jM,jN]; try rfl))
 rintro k fe ob m c hk hm h11
 simp (maxSteps:=1000000) only [go_sem,jF,↓reduceIte] at h11
 try simp (disch:=omega) only [go_sem,jF,↓reduceIte,h11]
 refine ah (fun hlt=>?_) (fun hge=>?_)
 ·have hkl:k<l.length:=by omega
  have e1:=iz hkl
  have ha:=h _ (List.mem_of_getElem? e1)
  have hC:=xS (gA l k) ha.l
  rw [D5.2 ha] at hC
  generalize gA l k=a at *
  try simp (disch:=omega) only [go_sem,jF,jG,jH,↓reduceIte,aN,eY,e1,Option.map_some,gI]
  refine ⟨by omega,by omega,?_⟩
  simp only [gI] at hC
  refine ab hC (by simp [go_sem]) ?_
  try simp (disch:=omega) only [go_sem,jF,↓reduceIte,jO]
  exact aD _ hkl (Nat.le_succ_of_le hm) (by first | rfl | (simp (disch:=omega) only [go_sem,jA,jB,jC,jD,jE,jF,jG,jH,jI,jJ,↓reduceIte,reduceCtorEq,jP,jO,jM,jN]; try rfl))
 ·try simp (disch:=omega) only [go_sem,↓reduceIte]
  exact aw.of_eq rfl rfl
theorem iT (r:Rp) (h1:1≤r.nu) (h2:r.nu≤1073741824):PC prog jS [en r] (.bool true):=by
 refine ae j7 (by simp) ?_
 simp only [eN,go_sem,jF,jG,jH,↓reduceIte,en]
 try simp (disch:=omega) only [go_sem,jF,jH,↓reduceIte,h1,h2,decide_true]
 exact aw.of_eq rfl rfl
theorem kH (op:List Ac) (r:Rp) (hop:∀ a∈op,kl a) (h:Ex op r):PC prog mf [.list 4 (lJ op),en r] (.int .i64 0):=by
 obtain ⟨i,hi⟩:∃ i:Nat,r.ac=i:=⟨r.ac.toNat,by have:=h.a0; omega⟩
 have hil:i<op.length:=by have:=h.a1; omega
 have e1:=iz hil
 have ha:=hop _ (List.mem_of_getElem? e1)
 have hr:=h.a
 rw [hi,Int.toNat_natCast] at hr
 have h1:=ha.n1
 have h2:=ha.n2
 have h3:=ha.f0
 have h4:=ha.f1
 have hfl:=yP ha hr.fd
 have t0:=hr.t0
 have t1:=hr.t1
 rw [hfl] at t1
 obtain ⟨b0,b1,b2⟩:=hr.b
 simp only [F7] at b2
 have hfd:=hr.fd
 generalize gA op i=a at *
 obtain ⟨nu,ac,fd,tm,b⟩:=r
 simp only at hi t0 t1 b0 b1 b2 hfd
 subst hi
 refine ae mD (by simp) ?_
 simp only [gw,go_sem,jF,jG,jH,↓reduceIte,reduceCtorEq,en]
 have q1:¬((i:Int)<0):=by omega
 have q2:¬((op.length:Int)≤(i:Int)):=by omega
 have q3:¬(fd<1):=by omega
 have q4:¬(3<fd):=by omega
 have q5:¬(tm<a.fr):=by omega
 have q6:¬(b.lo<0):=by omega
 have q7:¬(274877906944<b.hi):=by omega
 have q8:¬(b.hi<b.lo):=by omega
 try simp (disch:=omega) only [go_sem,jF,jG,jH,↓reduceIte,reduceCtorEq,jO,aN,eY,e1,Option.map_some,gI,aJ,q1,q2,q3,q4,decide_false]
 refine ⟨by omega,by omega,?_⟩
 refine ah (fun hf1=>?_) (fun hf1=>?_)
 ·rw [if_pos hf1] at t1
  have q9:¬(a.fr+(a.ins.length:Int)-1+1<tm):=by omega
  try simp (disch:=omega) only [go_sem,jF,jG,jH,↓reduceIte,reduceCtorEq,jO,q5,q6,q7,q8,q9,decide_false]
  exact aw.of_eq rfl rfl
 ·rw [if_neg hf1] at t1
  have q9:¬(a.fr+(a.ins.length:Int)-1<tm):=by omega
  try simp (disch:=omega) only [go_sem,jF,jG,jH,↓reduceIte,reduceCtorEq,q5,q6,q7,q8,q9,decide_false]
  exact aw.of_eq rfl rfl
theorem dQ (B:Bk) (h:lX B):PC prog wh [jx B] (.int .i64 0):=by
 have hm:=h.m
 have hO:=sP B.op h.n h.ao
 refine ae wT (by simp) ?_
 simp only [nN,go_sem,jF,jG,jH,↓reduceIte,jx]
 refine ab hO (by simp [go_sem]) ?_
 try simp (disch:=omega) only [go_sem,jF,jG,jH,↓reduceIte,aF]
 refine ah (fun hgt=>by omega) (fun hle=>?_)
 try simp (disch:=omega) only [go_sem,jF,jG,jH,↓reduceIte,aF]
 refine aT [2,4,5,6,20,21,22,23,24,25,26,27,28,29,30,31,32,33,34,35,36,37,38,39,40,41,42,43,44,45,46,47,48,49] (by kernel_rfl) B.rp.length (fun k e σ=>e 20=.int .i64 k∧σ.ob 0=some ⟨0,2,40,false,true,[.agg [.list 4 (lJ B.op),.list 6 (iH B.rp)]]⟩) ?_ ?_
 ·exact ⟨(by first | rfl | (simp (disch:=omega) only [go_sem,jA,jB,jC,jD,jE,jF,jG,jH,jI,jJ,↓reduceIte,reduceCtorEq,jP,jO,jM,jN]; try rfl)),by try simp (disch:=omega) only [go_sem,↓reduceIte]⟩
 rintro k fe ob m c hk hm2 ⟨h20,u0⟩
 simp (maxSteps:=1000000) only [go_sem,jF,↓reduceIte] at h20 u0 hm2
 try simp (disch:=omega) only [go_sem,jF,↓reduceIte,h20]
 refine ah (fun hlt=>?_) (fun hge=>?_)
 ·have hkl:k<B.rp.length:=by omega
  have e1:=ed hkl
  have hr:=h.ro _ (List.mem_of_getElem? e1)
  have hN:=iT (gR B.rp k) hr.n1 hr.n2
  have hR:=kH B.op (gR B.rp k) h.ao hr
  have z0:¬0=m:=by omega
  simp only [en] at hN hR
  try simp (disch:=omega) only [go_sem,jF,jG,jH,↓reduceIte,aF,dP,e1,Option.map_some,en]
  refine ⟨by omega,by omega,?_⟩
  refine ab hN (by simp [go_sem]) ?_
  try simp (disch:=omega) only [go_sem,jF,↓reduceIte]
  rcases Nat.eq_zero_or_pos k with rfl | hk0
  ·try simp (disch:=omega) only [go_sem,jB,jF,jH,↓reduceIte,z0,u0]
   refine ab hR (by simp [go_sem]) ?_
   try simp (disch:=omega) only [go_sem,jF,↓reduceIte,jO]
   refine aD (m+1) hkl (by omega) ⟨(by first | rfl | (simp (disch:=omega) only [go_sem,jA,jB,jC,jD,jE,jF,jG,jH,jI,jJ,↓reduceIte,reduceCtorEq,jP,jO,jM,jN]; try rfl)),?_⟩
   try simp (disch:=omega) only [go_sem,↓reduceIte,jM,St.aE,z0,u0]
  ·have e2:=ed (l:=B.rp) (i:=k-1) (by omega)
   have hlt2:=vN h.Ku (show k-1<k by omega) e2 e1
   have q1:(0:Int)<(k:Int):=by omega
   have q2:((k:Int)-1).toNat=k-1:=by omega
   have q3:¬(gR B.rp k).nu≤(gR B.rp (k-1)).nu:=by omega
   try simp (disch:=omega) only [go_sem,jF,jG,jH,↓reduceIte,jO,z0,u0,q1,decide_true,q2,aF,dP,e2,Option.map_some,en,q3,decide_false]
   refine ⟨by omega,by omega,?_⟩
   refine ab hR (by simp [go_sem]) ?_
   try simp (disch:=omega) only [go_sem,jF,↓reduceIte,jO]
   refine aD (m+1) hkl (by omega) ⟨(by first | rfl | (simp (disch:=omega) only [go_sem,jA,jB,jC,jD,jE,jF,jG,jH,jI,jJ,↓reduceIte,reduceCtorEq,jP,jO,jM,jN]; try rfl)),?_⟩
   try simp (disch:=omega) only [go_sem,↓reduceIte,jM,St.aE,z0,u0]
 ·try simp (disch:=omega) only [go_sem,↓reduceIte]
  exact aw.of_eq rfl rfl
theorem kI (r:Rp):PC prog dR [en r] (.int .i64 r.nu):=by
 refine ae vq (by simp) ?_
 simp only [mw,go_sem,jF,jG,jH,↓reduceIte,en]
 try simp (disch:=omega) only [go_sem,jA,jB,jC,jD,jE,jF,jG,jH,jI,jJ,↓reduceIte,reduceCtorEq,jO,jM,jN,jK,jL]
 exact aw.of_eq rfl rfl
theorem kb (x:Int) (h:Rp) (hh:-4611686018427387904≤h.nu-x∧h.nu-x≤4611686018427387904):PC prog kZ [en h,.int .i64 x,.eO 1 [.func dR []] 0 0] (.int .i64 (h.nu-x)):=by
 refine ae lE (by simp) ?_
 simp only [eh,go_sem,jF,jG,jH,↓reduceIte,reduceCtorEq,en]
 try simp (disch:=omega) only [go_sem,jA,jB,jC,jD,jE,jF,jG,jH,jI,jJ,↓reduceIte,reduceCtorEq,jO,jM,jN,jK,jL]
 refine ab (kI h) (by simp [go_sem]) ?_
 try simp (disch:=omega) only [go_sem,jF,↓reduceIte,reduceCtorEq,jO]
 exact aw.of_eq rfl rfl
theorem gL (σ:St) (l:List Rp) (x:Int) (f:Nat) (caps:List AV) (hl:l.length≤4611686018427387904) (hs:KX (l.map Rp.nu))
  (hcb:∀ h∈l,∀ τ:St,τ.n=σ.n→(∀ k,k<σ.n→τ.ob k=σ.ob k)→HC prog f (en h :: .int .i64 x :: caps) τ (fun r τ'=>r=.int .i64 (h.nu-x)∧τ'=τ)) :
  HC prog ik [.list 6 (iH l),.int .i64 x,.func f caps] σ (fun r τ=>r=.tuple [.int .i64 (dg (l.map Rp.nu) x),.bool (decide ((l.map Rp.nu)[dg (l.map Rp.nu) x]?=some x))]∧τ.n=σ.n∧∀ k,k<σ.n→τ.ob k=σ.ob k):=by
 obtain ⟨L,hL⟩:∃ L,L=l.map Rp.nu:=⟨_,rfl⟩
 have hLl:L.length=l.length:=by simp [hL]
 rw [←hL] at hs ⊢
 refine aM iF (by simp) ?_
 simp only [dx,go_sem,jF,↓reduceIte,reduceCtorEq,aF]
 refine xe [9,10,11,15,16,17,18,19,20,21,22,23,24,25,26,27,28,29,30,31,32,33,34] (by kernel_rfl) (fun k e τ=>(∀ k,k<σ.n→τ.ob k=σ.ob k)∧∃ i j:Nat,e 9=.int .i64 i∧e 10=.int .i64 j∧i≤j∧j≤l.length∧k=j-i∧(∀ k,k<i→∀ y,L[k]?=some y→y<x)∧(∀ k,j≤k→∀ y,L[k]?=some y→x≤y)) l.length ?_ ?_
 ·exact ⟨fun _ _=>rfl,0,l.length,(by first | rfl | (simp (disch:=omega) only [go_sem,jA,jB,jC,jD,jE,jF,jG,jH,jI,jJ,↓reduceIte,reduceCtorEq,jP,jO,jM,jN]; try rfl)),(by first | rfl | (simp (disch:=omega) only [go_sem,jA,jB,jC,jD,jE,jF,jG,jH,jI,jJ,↓reduceIte,reduceCtorEq,jP,jO,jM,jN]; try rfl)),by omega,by omega,by omega,fun k hk=>by omega,fun k hk y hy=>by have:=(List.getElem?_eq_some_iff.1 hy).1; omega⟩
 ·rintro r fe ob c ⟨hτ,i,j,h9,h10,hij,hjl,rfl,hlo,hhi⟩
  simp (maxSteps:=1000000) only [go_sem,jF,↓reduceIte] at h9 h10 hτ
  try simp (disch:=omega) only [go_sem,jF,↓reduceIte,h9,h10]
  refine ah (fun hlt=>?_) (fun hge=>?_)
  ·have hij2:i<j:=by omega
   try simp (disch:=omega) only [go_sem,jF,jH,↓reduceIte,reduceCtorEq,jO,wrap_u64,FL,Option.some.injEq,exists_eq_left']
   generalize hm:(i+j) / 2=m
   have hmi:((i:Int)+j) / 2=(m:Int):=by omega
   have hg:l[m]?=some l[m]:=List.getElem?_eq_getElem (by omega)
   try simp (disch:=omega) only [go_sem,hmi,dP,aF,hg,Option.map_some,en]
   repeat (refine And.intro (by first | omega | (rw [nB]; omega) | (simp [maxLen]; done) | (simp [maxLen]; omega)) ?_)
   refine (hcb l[m] (List.getElem_mem _) ⟨ob,σ.n,c⟩ rfl hτ).mono ?_
   rintro _ _ ⟨rfl,rfl⟩
   have hgm:L[m]?=some l[m].nu:=by simp [hL,hg]
   generalize l[m]=q at *
   try simp (disch:=omega) only [go_sem,↓reduceIte]
   refine ah (fun hlt=>?_) (fun hge=>?_)
   ·try simp (disch:=omega) only [go_sem,jF,↓reduceIte,jO]
    refine ⟨j-(m+1),by omega,_,Nat.le_refl _,rfl,fun k hk=>by try simp (disch:=omega) only [go_sem,jN]; exact hτ k hk,m+1,j,(by first | rfl | (simp (disch:=omega) only [go_sem,jA,jB,jC,jD,jE,jF,jG,jH,jI,jJ,↓reduceIte,reduceCtorEq,jP,jO,jM,jN]; try rfl)),(by first | rfl | (simp (disch:=omega) only [go_sem,jA,jB,jC,jD,jE,jF,jG,jH,jI,jJ,↓reduceIte,reduceCtorEq,jP,jO,jM,jN]; try rfl)),by omega,by omega,by omega,fun k hk y hy=>?_,hhi⟩
    by_cases e:k=m
    ·subst e; rw [hgm] at hy; obtain rfl:=Option.some.inj hy; omega
    ·have:=hs k m (by omega) y _ hy hgm; omega
   ·try simp (disch:=omega) only [go_sem,jF,↓reduceIte]
    refine ⟨m-i,by omega,_,Nat.le_refl _,rfl,fun k hk=>by try simp (disch:=omega) only [go_sem,jN]; exact hτ k hk,i,m,(by first | rfl | (simp (disch:=omega) only [go_sem,jA,jB,jC,jD,jE,jF,jG,jH,jI,jJ,↓reduceIte,reduceCtorEq,jP,jO,jM,jN]; try rfl)),(by first | rfl | (simp (disch:=omega) only [go_sem,jA,jB,jC,jD,jE,jF,jG,jH,jI,jJ,↓reduceIte,reduceCtorEq,jP,jO,jM,jN]; try rfl)),by omega,by omega,by omega,hlo,fun k hk y hy=>?_⟩
    by_cases e:k=m
    ·subst e; rw [hgm] at hy; obtain rfl:=Option.some.inj hy; omega
    ·have:=hs m k (by omega) _ y hgm hy; omega
  ·have hij2:i=j:=by omega
   subst hij2
   have hb:=AI L x i (by omega) hlo hhi
   rw [hb]
   try simp (disch:=omega) only [go_sem,jF,↓reduceIte,jL]
   refine bB rfl (fun h=>?_) (fun h=>?_)
   ·have hg:l[i]?=some l[i]:=List.getElem?_eq_getElem (by omega)
    try simp (disch:=omega) only [go_sem,jF,jH,↓reduceIte,reduceCtorEq,dP,aF,hg,Option.map_some,en]
    repeat (refine And.intro (by first | omega | (rw [nB]; omega) | (simp [maxLen]; done) | (simp [maxLen]; omega)) ?_)
    refine (hcb l[i] (List.getElem_mem _) ⟨ob,σ.n,c⟩ rfl hτ).mono ?_
    rintro _ _ ⟨rfl,rfl⟩
    try simp (disch:=omega) only [go_sem,jF,↓reduceIte]
    refine ⟨?_,hτ⟩
    have hgm:L[i]?=some l[i].nu:=by simp [hL,hg]
    rw [hgm]
    simp only [Option.some.injEq]
    congr 3
    by_cases e:l[i].nu=x
    ·simp [e]
    ·have:¬l[i].nu-x=0:=by omega
     simp [e,this]
   ·try simp (disch:=omega) only [go_sem,jF,↓reduceIte]
    refine ⟨?_,hτ⟩
    rw [List.getElem?_eq_none (by omega)]
    simp
theorem lM (B:Bk) (h:lX B) (r:Rp) (h1:1≤r.nu) (h2:r.nu≤1073741824):PC prog mQ [.list 6 (iH B.rp),en r,.func dR []] (.tuple [.int .i64 (dg (ij B.rp) r.nu),.bool (decide ((ij B.rp)[dg (ij B.rp) r.nu]?=some r.nu))]):=by
 have hm:=h.m
 refine ae mZ (by simp) ?_
 simp only [eU,go_sem,jF,jG,jH,↓reduceIte,reduceCtorEq,en]
 try simp (disch:=omega) only [go_sem,jA,jB,jC,jD,jE,jF,jG,jH,jI,jJ,↓reduceIte,reduceCtorEq,jO,jM,jN,jK,jL]
 refine ab (kI r) (by simp [go_sem]) ?_
 try simp (disch:=omega) only [go_sem,jF,↓reduceIte]
 refine (gL _ B.rp r.nu _ _ (by omega) (De h.Ku) (fun q hq τ hn' hτ=>?_)).mono ?_
 ·have hb:=h.ro q hq
  have q1:=hb.n1
  have q2:=hb.n2
  refine rb (kb r.nu q (by omega)) (.cons (.pure (by simp [go_sem,en])) (.cons (.pure rfl) (.cons ?_ .nil))) rfl ⟨rfl,rfl⟩
  have h0:τ.ob 1=some ⟨1,1,145,false,true,[.func dR []]⟩:=hτ 1 (by simp [go_sem])
  refine .ptr h0 rfl rfl rfl (by simp) (fun i a b ha hb=>?_) (by simp [mM,go_sem])
  rw [ha] at hb
  obtain rfl:=Option.some.inj hb
  cases i with
  | zero=>simp at ha; subst ha; exact .pure rfl
  | succ i=>simp at ha
 ·rintro _ τ ⟨rfl,_,_⟩
  try simp (disch:=omega) only [go_sem,jF,↓reduceIte]
  exact aw.of_eq rfl rfl
theorem jl (l:List Rp) (i:Nat) (r:Rp) (hi:i≤l.length) (hl:l.length≤4096):PC prog ke [.list 6 (iH l),.int .i64 i,en r] (.list 6 (iH (l.take i++r :: l.drop i))):=by
 refine ae kj (by simp) ?_
 simp only [dW,go_sem,jF,jG,jH,↓reduceIte,reduceCtorEq,en]
 try simp (disch:=omega) only [go_sem,jA,jB,jC,jD,jE,jF,jG,jH,jI,jJ,↓reduceIte,reduceCtorEq,jO,jM,jN,jK,jL]
 refine (eR _ (iH l) (by rw [aF]; omega)).mono ?_
 rintro X ⟨ob,m,c⟩ ⟨id,g,rfl,hid,hidn,hob,hfr⟩
 simp only at hid hidn hob hfr
 have f0:=hfr 0 (by omega)
 try simp (disch:=omega) only [go_sem,↓reduceIte] at f0
 try simp (disch:=omega) only [go_sem,jF,↓reduceIte,reduceCtorEq,f0]
 have hI:=lQ ⟨ob,m,c⟩ id g (iH l) (en r) i (by simp [mM,en,go_sem]) hob hidn (by rw [aF]; omega) (by rw [aF]; omega)
 rw [show (iH l).take i++en r :: (iH l).drop i=iH (l.take i++r :: l.drop i) by simp [iH]] at hI
 simp only [en] at hI
 refine hI.mono ?_
 rintro _ ⟨ob2,m2,c2⟩ ⟨id',g',rfl,hid',_,_,h1,hk⟩
 simp only at h1 hk
 have f2:=hk 0 (by omega) (by omega)
 try simp (disch:=omega) only [go_sem,jF,↓reduceIte,reduceCtorEq]
 exact aw.dk h1 rfl (tK _) (zn _)
theorem Gh (a b:Rp):(decide (a.nu=b.nu)&&(decide (a.ac=b.ac)&&(decide (a.fd=b.fd)&&(decide (a.tm=b.tm)&&(decide (a.b.lo=b.b.lo)&&decide (a.b.hi=b.b.hi))))))=decide (a=b):=by
 obtain ⟨_,_,_,_,⟨_,_⟩⟩:=a
 obtain ⟨_,_,_,_,⟨_,_⟩⟩:=b
 rw [Bool.eq_iff_iff]
 simp
theorem fh (op:List Ac) (rp l:List Rp) (h:∀ a∈op,kl a) (hn:op.length≤16) (hl:l.length≤5000):PC prog uj [jx ⟨op,rp⟩,.list 6 (iH l)] (jx ⟨op,l⟩):=by
 have hC:=mG (iH l) (by rw [aF]; omega) (tK _) (zn _)
 refine ae vp (by simp) ?_
 simp only [mr,go_sem,jF,jG,↓reduceIte,reduceCtorEq,jx]
 try simp (disch:=omega) only [go_sem,jA,jB,jC,jD,jE,jF,jG,jH,jI,jJ,↓reduceIte,reduceCtorEq,jO,jM,jN,jK,jL]
 refine ab hC (by simp [go_sem]) ?_
 try simp (disch:=omega) only [go_sem,jF,jG,jH,↓reduceIte,reduceCtorEq,aN]
 refine aT [7,14,15,16,17,18,19,20,21,22,23,24,25] (by kernel_rfl) op.length (fun k e σ=>e 14=.int .i64 k∧σ.ob 1=some ⟨1,2,40,false,true,[.agg [.nil,.nil]]⟩∧
   ∃ X,σ.ob 2=some ⟨2,2,40,false,true,[.agg [X,.list 6 (iH l)]]⟩∧cw 4 88 σ (lJ (op.take k)) X∧aZ X 1∧aZ X 2) ?_ ?_
 ·exact ⟨(by first | rfl | (simp (disch:=omega) only [go_sem,jA,jB,jC,jD,jE,jF,jG,jH,jI,jJ,↓reduceIte,reduceCtorEq,jP,jO,jM,jN]; try rfl)),by try simp (disch:=omega) only [go_sem,jF,↓reduceIte],.nil,by try simp (disch:=omega) only [go_sem,↓reduceIte],cw.nil,aZ.nil _,aZ.nil _⟩
 rintro k fe ob m c hk hm ⟨h14,u1,X,u2,hR,o1,o2⟩
 simp (maxSteps:=1000000) only [go_sem,jF,↓reduceIte] at h14 u1 u2 hR hm
 try simp (disch:=omega) only [go_sem,jF,↓reduceIte,h14]
 refine ah (fun hlt=>?_) (fun hge=>?_)
 ·have hkl:k<op.length:=by omega
  have e1:=iz hkl
  have ha:=h _ (List.mem_of_getElem? e1)
  have hT:=vT (gA op k) ha
  have htk:op.take (k+1)=op.take k++[gA op k]:=by rw [List.take_add_one,e1]; rfl
  generalize gA op k=a at *
  simp only [gI] at hT
  have z1:¬1=m:=by omega
  have z2:¬2=m:=by omega
  try simp (disch:=omega) only [go_sem,jF,jG,jH,↓reduceIte,aN,eY,e1,Option.map_some,gI,z2,u2]
  refine ⟨by omega,by omega,?_⟩
  refine ab hT (by simp [go_sem]) ?_
  try simp (disch:=omega) only [go_sem,jF,jG,↓reduceIte]
  have hlen:(lJ (op.take k)).length≤16:=by rw [aN,List.length_take]; omega
  refine bE (b:=80) (hR.move (by simp only; omega) fun i hi _=>by
   simp only at hi ⊢
   rw [aa _ _ _ _ (by omega),aa _ _ _ _ (by omega)]) (by omega) (by omega) fun X2 τ2 hR2 hK2=>?_
  have hn2:=hK2.1
  have r1:=hK2.2.1 1 (by simp only; omega) o1
  have r2:=hK2.2.1 2 (by simp only; omega) o2
  have p1:=hK2.2.2 1 (by simp only; omega) o1
  have p2:=hK2.2.2 2 (by simp only; omega) o2
  simp only at r1 r2 hn2
  try simp (disch:=omega) only [go_sem,↓reduceIte,z1,u1] at r1
  try simp (disch:=omega) only [go_sem,↓reduceIte,z2,u2] at r2
  try simp (disch:=omega) only [go_sem,jF,jH,↓reduceIte,reduceCtorEq,jO,jM,hR2.flat,hR2.cells,r2]
  refine aD τ2.n hkl (by omega) ⟨(by first | rfl | (simp (disch:=omega) only [go_sem,jA,jB,jC,jD,jE,jF,jG,jH,jI,jJ,↓reduceIte,reduceCtorEq,jP,jO,jM,jN]; try rfl)),?_,X2,?_,?_,p1,p2⟩
  ·simp only [St.aE,St.put]; rw [if_pos (by omega),aa _ _ _ _ (by omega)]; exact r1
  ·simp only [St.aE,St.put]; rw [if_pos (by omega),az]
  ·rw [htk,show lJ (op.take k++[a])=lJ (op.take k)++[.agg [.int .i64 a.fr,.list 2 (cA a.st),.list 2 (cA a.ins),.list 2 (cA a.outs)]] by simp [lJ,gI]]
   refine hR2.move (Nat.le_refl _) fun i hi hno=>?_
   have:¬i=2:=fun e=>hno (e ▸ p2)
   simp only [St.aE,St.put]; rw [if_pos hi,aa _ _ _ _ this]
 ·try simp (disch:=omega) only [go_sem,jF,jG,jH,↓reduceIte,u1,u2,hR.one]
  obtain rfl:op.length=k:=by omega
  rw [List.take_length] at hR
  refine aw.ag (.cons (hR.mF (fun i hi hno=>?_) (yW _) (Ew _)) (.cons (.pure (by simp [go_sem])) .nil))
  have:¬i=1:=fun e=>hno (e ▸ o1)
  simp only
  rw [aa _ _ _ _ this]
theorem vW (B:Bk) (h:lX B) (r:Rp) (hr:Ex B.op r):PC prog oU [jx B,en r] (.tuple [jx (gQ B r).1,.int .i64 (gQ B r).2]):=by
 have hm:=h.m
 have hC:=dQ B h
 have hN:=iT r hr.n1 hr.n2
 have hR:=kH B.op r h.ao hr
 have hP:=lM B h r hr.n1 hr.n2
 have hk:=wQ (ij B.rp) r.nu
 rw [List.length_map] at hk
 have hI:=jl B.rp (dg (ij B.rp) r.nu) r hk hm
 have hc1:=fh B.op B.rp B.rp h.ao h.n (by omega)
 have hc2:=fh B.op B.rp (B.rp.take (dg (ij B.rp) r.nu)++r :: B.rp.drop (dg (ij B.rp) r.nu)) h.ao h.n (by simp; omega)
 have hfs:gQ B r=if (ij B.rp)[dg (ij B.rp) r.nu]?=some r.nu then (if gR B.rp (dg (ij B.rp) r.nu)=r then (B,0) else (ED,46))
  else if B.rp.length=4096 then (ED,10) else (⟨B.op,B.rp.take (dg (ij B.rp) r.nu)++r :: B.rp.drop (dg (ij B.rp) r.nu)⟩,0):=rfl
 have hlt:(ij B.rp)[dg (ij B.rp) r.nu]?=some r.nu→dg (ij B.rp) r.nu<B.rp.length:=fun e=>by
  have:=(List.getElem?_eq_some_iff.1 e).1
  rwa [List.length_map] at this
 have htb:∃ tb,decide ((ij B.rp)[dg (ij B.rp) r.nu]?=some r.nu)=tb:=⟨_,rfl⟩
 obtain ⟨tb,htb⟩:=htb
 rw [htb] at hP
 generalize gQ B r=FS at *
 generalize dg (ij B.rp) r.nu=k at *
 simp only [jx,en] at hC hN hR hP hI hc1 hc2
 refine ae px (by simp) ?_
 simp only [jw,go_sem,jF,jG,jH,↓reduceIte,reduceCtorEq,jx,en]
 refine ab hC (by simp [go_sem]) ?_
 try simp (disch:=omega) only [go_sem,jF,jH,↓reduceIte]
 refine ab hN (by simp [go_sem]) ?_
 try simp (disch:=omega) only [go_sem,jF,jH,↓reduceIte,reduceCtorEq]
 refine ab hR (by simp [go_sem]) ?_
 try simp (disch:=omega) only [go_sem,jF,jG,jH,↓reduceIte,reduceCtorEq]
 refine ab hP (by simp [go_sem]) ?_
 try simp (disch:=omega) only [go_sem,jF,↓reduceIte]
 cases tb
 ·have hat:¬(ij B.rp)[k]?=some r.nu:=of_decide_eq_false htb
  rw [if_neg hat] at hfs
  try simp (disch:=omega) only [go_sem,jF,jG,jH,↓reduceIte,reduceCtorEq,aF]
  refine ah (fun hfull=>?_) (fun hroom=>?_)
  ·rw [if_pos (by omega)] at hfs
   try simp (disch:=omega) only [go_sem,jF,jG,jH,↓reduceIte]
   rw [hfs]
   exact aw.tu (.cons (aw.ag (.cons (.nl 4) (.cons (.nl 6) .nil))) (.cons (.pure rfl) .nil))
  ·rw [if_neg (by omega)] at hfs
   try simp (disch:=omega) only [go_sem,jF,jG,jH,↓reduceIte,reduceCtorEq]
   refine ab hI (by simp [go_sem]) ?_
   try simp (disch:=omega) only [go_sem,jF,↓reduceIte]
   refine ab hc2 (by simp [go_sem]) ?_
   try simp (disch:=omega) only [go_sem,jF,jG,jH,↓reduceIte,reduceCtorEq]
   rw [hfs]
   exact aw.tu (.cons (.pure (vn ⟨B.op,B.rp.take k++r :: B.rp.drop k⟩)) (.cons (.pure rfl) .nil))
 ·have hat:(ij B.rp)[k]?=some r.nu:=of_decide_eq_true htb
  rw [if_pos hat] at hfs
  have hkl:=hlt hat
  have e1:=ed hkl
  try simp (disch:=omega) only [go_sem,jF,jG,jH,↓reduceIte,reduceCtorEq,aF,dP,e1,Option.map_some,en]
  refine ⟨by omega,by omega,?_⟩
  rw [Gh]
  refine ah (fun heq=>?_) (fun hne=>?_)
  ·rw [if_pos heq] at hfs
   try simp (disch:=omega) only [go_sem,jF,jG,jH,↓reduceIte,reduceCtorEq]
   refine ab hc1 (by simp [go_sem]) ?_
   try simp (disch:=omega) only [go_sem,jF,jG,jH,↓reduceIte]
   rw [hfs]
   exact aw.tu (.cons (.pure (vn B)) (.cons (.pure rfl) .nil))
  ·rw [if_neg hne] at hfs
   try simp (disch:=omega) only [go_sem,jF,jG,jH,↓reduceIte]
   rw [hfs]
   exact aw.tu (.cons (aw.ag (.cons (.nl 4) (.cons (.nl 6) .nil))) (.cons (.pure rfl) .nil))
theorem vU (B:Bk) (h:lX B) (x:Int) (hx:x≤1073741824):PC prog xY [jx B,.int .i64 x] (.tuple [jx ⟨B.op,B.rp.take (dg (ij B.rp) (x+1))⟩,.int .i64 0]):=by
 have hm:=h.m
 have hC:=dQ B h
 have hasc:=h.Ku
 have hc:=fun k=>fh B.op B.rp (B.rp.take k) h.ao h.n (by simp; omega)
 have hbs:∀ k,k≤B.rp.length→(∀ j,j<k→(gR B.rp j).nu≤x)→(k<B.rp.length→¬(gR B.rp k).nu≤x)→dg (ij B.rp) (x+1)=k:=fun k hk h1 h2=>
  AI _ _ k (by simpa using hk) (fun j hj y hy=>by
   obtain ⟨q,hq,rfl⟩:=ep.1 hy
   have:=h1 j hj
   rw [ed (by omega)] at hq
   obtain rfl:=Option.some.inj hq
   omega) (fun j hj y hy=>by
   obtain ⟨q,hq,rfl⟩:=ep.1 hy
   have hjl:=(List.getElem?_eq_some_iff.1 hq).1
   have h3:=h2 (by omega)
   rcases Nat.eq_or_lt_of_le hj with rfl | h4
   ·rw [ed (by omega)] at hq
    obtain rfl:=Option.some.inj hq
    omega
   ·have:=vN hasc h4 (ed (by omega)) hq
    omega)
 simp only [jx] at hC hc
 refine ae yq (by simp) ?_
 simp only [pe,go_sem,jF,jG,jH,↓reduceIte,reduceCtorEq,jx]
 refine ab hC (by simp [go_sem]) ?_
 try simp (disch:=omega) only [go_sem,↓reduceIte]
 refine aT [6,11,12,13,14,15,16,17,18,19,20,21,22,23,24,25,26,27] (by kernel_rfl) B.rp.length (fun k e σ=>e 6=.int .i64 k∧σ.ob 0=some ⟨0,2,40,false,true,[.agg [.list 4 (lJ B.op),.list 6 (iH B.rp)]]⟩∧σ.ob 1=some ⟨1,2,40,false,true,[.agg [.nil,.nil]]⟩∧∀ j,j<k→(gR B.rp j).nu≤x) ?_ ?_
 ·exact ⟨(by first | rfl | (simp (disch:=omega) only [go_sem,jA,jB,jC,jD,jE,jF,jG,jH,jI,jJ,↓reduceIte,reduceCtorEq,jP,jO,jM,jN]; try rfl)),by try simp (disch:=omega) only [go_sem,↓reduceIte,reduceCtorEq],by try simp (disch:=omega) only [go_sem,↓reduceIte],fun j hj=>by omega⟩
 rintro k fe ob m cc hk hm2 ⟨h6,u0,u1,hj⟩
 simp (maxSteps:=1000000) only [go_sem,↓reduceIte] at h6 u0 u1 hm2
 try simp (disch:=omega) only [go_sem,jF,jG,jH,↓reduceIte,h6,u0,aF]
 by_cases hkl:k<B.rp.length
 ·have q1:(k:Int)<(B.rp.length:Int):=by omega
  have e1:=ed hkl
  by_cases hle:(gR B.rp k).nu≤x
  ·try simp (disch:=omega) only [go_sem,jF,jG,jH,↓reduceIte,reduceCtorEq,jO,u0,q1,decide_true,aF,dP,e1,Option.map_some,en,hle]
   refine ⟨by omega,?_⟩
   refine aD m hkl (by omega) ⟨(by first | rfl | (simp (disch:=omega) only [go_sem,jA,jB,jC,jD,jE,jF,jG,jH,jI,jJ,↓reduceIte,reduceCtorEq,jP,jO,jM,jN]; try rfl)),?_,?_,fun j hj2=>?_⟩
   ·try simp (disch:=omega) only [go_sem,jN,St.aE,u0]
   ·try simp (disch:=omega) only [go_sem,jN,St.aE,u1]
   ·rcases (by omega:j<k∨j=k) with h9 | rfl
    ·exact hj j h9
    ·exact hle
  ·try simp (disch:=omega) only [go_sem,jF,jG,jH,↓reduceIte,reduceCtorEq,u0,q1,decide_true,aF,dP,e1,Option.map_some,en,hle,decide_false]
   refine ⟨by omega,by omega,by omega,?_⟩
   have hb:=hbs k (by omega) hj (fun _=>hle)
   rw [show (iH B.rp).take k=iH (B.rp.take k) by simp [iH]]
   refine ab (hc k) (by simp [go_sem]) ?_
   try simp (disch:=omega) only [go_sem,jF,jG,jH,↓reduceIte,reduceCtorEq,u0,u1]
   rw [hb]
   exact aw.tu (.cons (.pure (vn ⟨B.op,B.rp.take k⟩)) (.cons (.pure rfl) .nil))
 ·have q1:¬(k:Int)<(B.rp.length:Int):=by omega
  try simp (disch:=omega) only [go_sem,jF,jG,jH,↓reduceIte,u0,q1,decide_false]
  refine ⟨by omega,by rw [aF]; omega,?_⟩
  have hb:=hbs k (by omega) hj (fun h=>absurd h hkl)
  rw [show (iH B.rp).take k=iH (B.rp.take k) by simp [iH]]
  refine ab (hc k) (by simp [go_sem]) ?_
  try simp (disch:=omega) only [go_sem,jF,jG,jH,↓reduceIte,reduceCtorEq,u0,u1]
  rw [hb]
  exact aw.tu (.cons (.pure (vn ⟨B.op,B.rp.take k⟩)) (.cons (.pure rfl) .nil))
theorem nm (a b:List Rp) (ha:a.length≤9223372036854775807):PC prog oA [.list 6 (iH a),.list 6 (iH b)] (.bool (decide (a=b))):=by
 refine ae oM (by simp) ?_
 simp only [gk,go_sem,jF,↓reduceIte,reduceCtorEq,aF]
 refine aY (fun h=>?_) (fun h=>?_) <;> try simp (disch:=omega) only [go_sem,↓reduceIte,reduceCtorEq]
 ·exact aw.of_eq (by congr 1; simp; intro hab; exact h (by rw [hab])) rfl
 have hl:a.length=b.length:=by omega
 refine bq [4,5,13,14,15,16,17,18,19,20,21,22,23,24,25] (by kernel_rfl) a.length (fun k e _=>e 13=.int .i64 k∧∀ j,j<k→a[j]?=b[j]?) ?_ ?_
 ·exact ⟨(by first | rfl | (simp (disch:=omega) only [go_sem,jA,jB,jC,jD,jE,jF,jG,jH,jI,jJ,↓reduceIte,reduceCtorEq,jP,jO,jM,jN]; try rfl)),fun j hj=>by omega⟩
 ·rintro k fe ob c hk ⟨h13,hj⟩
  simp (maxSteps:=1000000) only [go_sem,jF,↓reduceIte] at h13
  try simp (disch:=omega) only [go_sem,jF,↓reduceIte,h13,aF]
  refine ah (fun hlt=>?_) (fun hge=>?_)
  ·have hka:k<a.length:=by omega
   have hga:a[k]?=some a[k]:=List.getElem?_eq_getElem hka
   have hgb:b[k]?=some b[k]:=List.getElem?_eq_getElem (by omega)
   have hE:=Gh a[k] b[k]
   generalize a[k]=x at *
   generalize b[k]=y at *
   try simp (disch:=omega) only [go_sem,jF,jH,↓reduceIte,reduceCtorEq,aF,dP,hga,hgb,Option.map_some,en]
   refine ⟨by omega,by omega,by omega,by omega,?_⟩
   rw [hE]
   by_cases hxy:x=y
   ·subst hxy
    try simp (disch:=omega) only [go_sem,jF,↓reduceIte,jO,decide_true,Bool.not_true]
    refine bj hka ⟨(by first | rfl | (simp (disch:=omega) only [go_sem,jA,jB,jC,jD,jE,jF,jG,jH,jI,jJ,↓reduceIte,reduceCtorEq,jP,jO,jM,jN]; try rfl)),fun j hj'=>?_⟩
    by_cases e:j=k
    ·subst e; rw [hga,hgb]
    ·exact hj j (by omega)
   ·try simp (disch:=omega) only [go_sem,↓reduceIte,decide_false,Bool.not_false,hxy]
    exact aw.of_eq (by congr 1; simp; intro hab; subst hab; rw [hga] at hgb; exact hxy (Option.some.inj hgb)) rfl
  ·try simp (disch:=omega) only [go_sem,↓reduceIte]
   exact aw.of_eq (by congr 1; simp; exact bW hl fun j hj'=>hj j (by omega)) rfl
instance:DecidableEq Ac:=fun a b=>decidable_of_iff (kC a b=true) nb
theorem jk (a b:List Ac) (ha:a.length≤9223372036854775807) (hA:∀ x∈a,II x) :
  PC prog kc [.list 4 (lJ a),.list 4 (lJ b),.func rR []] (.bool (decide (a=b))):=by
 refine ae ki (by simp) ?_
 simp only [dV,go_sem,jF,↓reduceIte,reduceCtorEq,aN]
 refine aY (fun h=>?_) (fun h=>?_) <;> try simp (disch:=omega) only [go_sem,↓reduceIte,reduceCtorEq]
 ·exact aw.of_eq (by congr 1; simp; intro hab; exact h (by rw [hab])) rfl
 have hl:a.length=b.length:=by omega
 refine aT [6,7,8,9,17,18,19,20,21,22,23,24,25,26,27,28,29,30,31] (by kernel_rfl) a.length (fun k e _=>e 17=.int .i64 k∧∀ j,j<k→a[j]?=b[j]?) ?_ ?_
 ·exact ⟨(by first | rfl | (simp (disch:=omega) only [go_sem,jA,jB,jC,jD,jE,jF,jG,jH,jI,jJ,↓reduceIte,reduceCtorEq,jP,jO,jM,jN]; try rfl)),fun j hj=>by omega⟩
 ·rintro k fe ob m c hk hm ⟨h17,hj⟩
  simp (maxSteps:=1000000) only [go_sem,jF,↓reduceIte] at h17 hm
  try simp (disch:=omega) only [go_sem,jF,↓reduceIte,h17,aN]
  refine ah (fun hlt=>?_) (fun hge=>?_)
  ·have hka:k<a.length:=by omega
   have hga:a[k]?=some a[k]:=List.getElem?_eq_getElem hka
   have hgb:b[k]?=some b[k]:=List.getElem?_eq_getElem (by omega)
   have hS:=zE a[k] b[k] (hA _ (List.getElem_mem hka))
   generalize a[k]=x at *
   generalize b[k]=y at *
   simp only [gI] at hS
   try simp (disch:=omega) only [go_sem,jF,jG,jH,↓reduceIte,reduceCtorEq,jM,aN,eY,hga,hgb,Option.map_some,gI]
   refine ⟨by omega,by omega,by omega,by omega,?_⟩
   refine ab hS (by simp [go_sem]) ?_
   cases hq:kC x y
   ·try simp (disch:=omega) only [go_sem,↓reduceIte]
    exact aw.of_eq (by congr 1; simp; intro hab; subst hab; rw [hga] at hgb; obtain rfl:=Option.some.inj hgb; rw [nb.2 rfl] at hq; cases hq) rfl
   ·obtain rfl:=nb.1 hq
    try simp (disch:=omega) only [go_sem,jF,↓reduceIte,jO]
    refine aD m hka (by omega) ⟨(by first | rfl | (simp (disch:=omega) only [go_sem,jA,jB,jC,jD,jE,jF,jG,jH,jI,jJ,↓reduceIte,reduceCtorEq,jP,jO,jM,jN]; try rfl)),fun j hj'=>?_⟩
    by_cases e:j=k
    ·subst e; rw [hga,hgb]
    ·exact hj j (by omega)
  ·try simp (disch:=omega) only [go_sem,↓reduceIte]
   exact aw.of_eq (by congr 1; simp; exact bW hl fun j hj'=>hj j (by omega)) rfl
instance:DecidableEq Bk:=fun a b=>decidable_of_iff (a.op=b.op∧a.rp=b.rp) (by cases a; cases b; simp)
theorem vV (A B:Bk) (ha:A.op.length≤9223372036854775807) (hA:∀ x∈A.op,II x) (hr:A.rp.length≤9223372036854775807):PC prog xZ [jx A,jx B] (.bool (decide (A=B))):=by
 obtain ⟨o,r⟩:=A
 obtain ⟨o',r'⟩:=B
 refine ae yr (by simp) ?_
 simp only [pf,go_sem,jF,jG,jH,↓reduceIte,reduceCtorEq,jx]
 try simp (disch:=omega) only [go_sem,jA,jB,jC,jD,jE,jF,jG,jH,jI,jJ,↓reduceIte,reduceCtorEq,jO,jM,jN,jK,jL]
 refine ab (jk o o' ha hA) (by simp [go_sem]) ?_
 by_cases h1:o=o'
 ·subst h1
  try simp (disch:=omega) only [go_sem,jF,jG,jH,↓reduceIte,reduceCtorEq,decide_true]
  refine ab (nm r r' hr) (by simp [go_sem]) ?_
  try simp (disch:=omega) only [go_sem,jF,↓reduceIte]
  exact aw.of_eq (by simp) rfl
 ·try simp (disch:=omega) only [go_sem,jF,↓reduceIte,h1,decide_false]
  exact aw.of_eq (by simp [h1]) rfl
end Go.Proofs.Try
