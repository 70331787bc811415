/- OWN WORK, put together by tools/asm.py, seat.py, mini.py. -/
import Derived.Test.YtcpckngdfjmbgaaGreatLibB
set_option linter.unusedSimpArgs false
set_option linter.unusedVariables false
set_option maxRecDepth 100000
set_option maxHeartbeats 1000000
namespace Go.Proofs.Try
open Go.Ab Go Go.Proofs.Tryz
open Int renaming reduceEq → jA, reduceLT → jB, reduceLE → jC, reduceToNat → jD
open Go.Ab renaming iD → jM, iE → jN, lF → jO, iF → jP
open Nat renaming reduceLT → jE, reduceEqDiff → jF, reduceAdd → jG, reduceLeDiff → jH, reduceSub → jI, reduceMul → jJ, sub_zero → jK, sub_self → jL
def Ha (a:Ac) (f:Nat):List Bd:=if f=1 then a.st else if f=2 then a.ins else a.outs
def Fu {α:Type} (f:Nat) (s x y:α):α:=if f=1 then s else if f=2 then x else y
theorem lh.l {a:Ac} (h:lh a):JG a:=by
 have:=h.n2; have:=h.no; have:=h.ns
 exact ⟨by omega,by omega,by omega⟩
structure Ov (a:Ac) (n:Nat) (S I O:List Int):Prop where
 h:LA n S I O
 n1:1≤n
 n5:n≤5
 f0:0≤a.fr
 f1:a.fr≤19
 s:Hw S a.st
 i:Hw I a.ins
 o:Hw O a.outs
def SY (σ:St) (id g:Nat) (t:List Int) (r:AV) (τ:St):Prop:=
 ∃ a n S I O R1 R2 R3,r=.tuple [.agg [.int .i64 a.fr,R1,R2,R3],.list 1 (ints S),.list 1 (ints I),.list 1 (ints O)]∧Ov a n S I O∧
  cd 2 24 τ (cr a.st) R1∧cd 2 24 τ (cr a.ins) R2∧cd 2 24 τ (cr a.outs) R3∧(∀ i,i<σ.n→aU R1 i)∧(∀ i,i<σ.n→aU R2 i)∧(∀ i,i<σ.n→aU R3 i)∧Dj R1 R2∧Dj R1 R3∧Dj R2 R3∧
  σ.n≤τ.n∧(∃ a,τ.ob id=some ⟨g,2,au,false,true,[bw t a]⟩)∧∀ i,i<σ.n→i≠id→τ.ob i=σ.ob i
theorem xz (σ:St) (id g:Nat) (t:List Int) (at':Nat) (hl:t.length≤9223372036854775807) (hid:id<σ.n) (hob:σ.ob id=some ⟨g,2,au,false,true,[bw t at']⟩) :
  HC prog pK [.ptr id g 2 0 0] σ (SY σ id g t):=by
 obtain ⟨dF,n0,c0⟩:=σ
 simp only at hob hid
 refine aM Ah (by simp) ?_
 simp only [qn,go_sem,↓reduceIte,reduceCtorEq]
 have h0:¬id=n0:=by omega
 have h1:¬id=n0+1:=by omega
 have h2:¬n0=id:=by omega
 refine (xy _ id g t at' hl (by simp only; omega) (by try simp (disch:=omega) only [go_sem,↓reduceIte,h0]; exact hob)).mono ?_
 intro r τ hD
 obtain ⟨⟨n,S,I,O,rfl,hH,hn1,hn5⟩,hn,⟨at1,hd1⟩,hf1⟩:=hD.use (by simp only; omega)
 obtain ⟨ob1,m1,c1⟩:=τ
 simp only at hn hd1 hf1
 obtain rfl:n0+1=m1:=hn.symm
 have hS:=hH.ls
 have hI:=hH.li
 have hO:=hH.lo
 try simp (disch:=omega) only [go_sem,jF,↓reduceIte,reduceCtorEq]
 refine aK (ah _ id g au true t at1 20 hd1 (by omega) hl) ?_
 have hx2:=aH t at1 20
 generalize bc t at1 20=dr at *
 obtain ⟨fr,at2⟩:=dr
 simp only at hx2
 try simp (disch:=omega) only [go_sem,jF,↓reduceIte,reduceCtorEq]
 refine (n8 _ id g t at2 S hl (by simp only; omega) (by try simp (disch:=omega) only [go_sem,↓reduceIte]) (by omega) (fun i hi=>by have:=hH.s i (by omega); omega)).mono ?_
 rintro R1 ⟨ob3,m3,c3⟩ ⟨B1,hB1,r1,o1,hm3,⟨at3,hd3⟩,hf3⟩
 simp only at o1 hm3 hd3 hf3
 try simp (disch:=omega) only [go_sem,jF,↓reduceIte,reduceCtorEq]
 refine (n8 _ id g t at3 I hl (by simp only; omega) hd3 (by omega) (fun i hi=>by have:=hH.i i (by omega); omega)).mono ?_
 rintro R2 ⟨ob4,m4,c4⟩ ⟨B2,hB2,r2,o2,hm4,⟨at4,hd4⟩,hf4⟩
 simp only at o2 hm4 hd4 hf4
 try simp (disch:=omega) only [go_sem,jF,↓reduceIte,reduceCtorEq]
 refine (n8 _ id g t at4 O hl (by simp only; omega) hd4 (by omega) (fun i hi=>by have:=hH.o i (by omega); omega)).mono ?_
 rintro R3 ⟨ob5,m5,c5⟩ ⟨B3,hB3,r3,o3,hm5,⟨at5,hd5⟩,hf5⟩
 simp only at o3 hm5 hd5 hf5
 try simp (disch:=omega) only [go_sem,jF,jG,jH,↓reduceIte]
 have v1:=hf1 n0 (by omega) h2
 have v3:=hf3 n0 (by omega) h2
 have v4:=hf4 n0 (by omega) h2
 have v5:=hf5 n0 (by omega) h2
 try simp (disch:=omega) only [go_sem,↓reduceIte,h2] at v1 v3
 rw [v4,v3,v1] at v5
 try simp (disch:=omega) only [go_sem,jG,↓reduceIte,r1.flat,r2.flat,r3.flat,r1.cells,r2.cells,r3.cells,r1.one,r2.one,r3.one,v5]
 have k1:∀ {R:AV} {i:Nat},(∀ j,j<n0+1→aU R j)→¬aU R i→¬i=id∧¬i=n0:=fun ho hno=>⟨fun e=>hno (e ▸ ho id (by omega)),fun e=>hno (e ▸ ho n0 (by omega))⟩
 have k2:∀ {R:AV} {i:Nat},(∀ j,j<m3→aU R j)→¬aU R i→¬i=id∧¬i=n0:=fun ho hno=>⟨fun e=>hno (e ▸ ho id (by omega)),fun e=>hno (e ▸ ho n0 (by omega))⟩
 have k3:∀ {R:AV} {i:Nat},(∀ j,j<m4→aU R j)→¬aU R i→¬i=id∧¬i=n0:=fun ho hno=>⟨fun e=>hno (e ▸ ho id (by omega)),fun e=>hno (e ▸ ho n0 (by omega))⟩
 refine ⟨⟨fr,B1,B2,B3⟩,n,S,I,O,R1,R2,R3,rfl,⟨hH,hn1,hn5,by simp only; omega,by simp only; omega,hB1,hB2,hB3⟩,r1.move (by simp only; omega) fun i hi hno=>?_,r2.move (by simp only; omega) fun i hi hno=>?_,r3.move (by exact Nat.le_refl _) fun i hi hno=>?_,fun i hi=>o1 i (by simp only at hi; omega),fun i hi=>o2 i (by simp only at hi; omega),fun i hi=>o3 i (by simp only at hi; omega),fun i=>?_,fun i=>?_,fun i=>?_,by simp only; omega,⟨at5,?_⟩,fun i hi hne=>?_⟩
 ·obtain ⟨q1,q2⟩:=k1 o1 hno
  simp only at hi ⊢
  rw [aa _ _ _ _ q2,hf5 i (by omega) q1,hf4 i (by omega) q1]
 ·obtain ⟨q1,q2⟩:=k2 o2 hno
  simp only at hi ⊢
  rw [aa _ _ _ _ q2,hf5 i (by omega) q1]
 ·obtain ⟨q1,q2⟩:=k3 o3 hno
  simp only at hi ⊢
  rw [aa _ _ _ _ q2]
 ·rcases Nat.lt_or_ge i m3 with h | h
  ·exact .inr (o2 i h)
  ·exact .inl (r1.G0 h)
 ·rcases Nat.lt_or_ge i m4 with h | h
  ·exact .inr (o3 i h)
  ·exact .inl (r1.G0 (by simp only; omega))
 ·rcases Nat.lt_or_ge i m4 with h | h
  ·exact .inr (o3 i h)
  ·exact .inl (r2.G0 (by simp only; omega))
 ·simp only; rw [aa _ _ _ _ h0]; exact hd5
 ·simp only at hi ⊢
  rw [aa _ _ _ _ (by omega),hf5 i (by omega) hne,hf4 i (by omega) hne,hf3 i (by omega) hne,aa _ _ _ _ hne,hf1 i (by omega) hne,aa _ _ _ _ (by omega)]
theorem uu (σ:St) (id g:Nat) (t:List Int) (at':Nat) (hl:t.length≤9223372036854775807) (hid:id<σ.n) (hob:σ.ob id=some ⟨g,2,au,false,true,[bw t at']⟩) :
  HC prog pK [.ptr id g 2 0 0] σ (dL σ id g t fun r=>∃ a n S I O,r=.tuple [iS a,.list 1 (ints S),.list 1 (ints I),.list 1 (ints O)]∧Ov a n S I O):=by
 refine HC.vY hid ((xz σ id g t at' hl hid hob).mono ?_)
 rintro r τ ⟨a,n,S,I,O,R1,R2,R3,rfl,hD,r1,r2,r3,o1,o2,o3,-,-,-,hn,⟨at2,hd⟩,hf⟩
 have pb:∀ {R:AV} {B:List Bd},cd 2 24 τ (cr B) R→(∀ i,i<σ.n→aU R i)→aA ⟨fun i=>if i<σ.n then none else τ.ob i,τ.n,τ.c⟩ R (.list 2 (cr B)):=fun hr ho=>
  hr.mL (fun i hi hno=>by simp only; rw [if_neg fun h=>hno (ho i h)]) (l8 _) (qp _)
 exact ⟨.tuple [iS a,.list 1 (ints S),.list 1 (ints I),.list 1 (ints O)],at2,aA.tu (.cons (aA.ag (.cons (.pure rfl) (.cons (pb r1 o1) (.cons (pb r2 o2) (.cons (pb r3 o3) .nil))))) (.cons (.pure (by simp [go_sem])) (.cons (.pure (by simp [go_sem])) (.cons (.pure (by simp [go_sem])) .nil)))),⟨a,n,S,I,O,rfl,hD⟩,hd,hf⟩
structure SQ (a:Ac) (n:Nat):Prop where
 n1:1≤n
 n5:n≤5
 ls:a.st.length=n+1
 li:a.ins.length=n
 lo:a.outs.length=n
 f0:0≤a.fr
 f1:a.fr≤19
 s:∀ b∈a.st,0≤b.lo∧b.lo≤b.hi∧b.hi≤1000
 i:∀ b∈a.ins,0≤b.lo∧b.lo≤b.hi∧b.hi≤1000
 o:∀ b∈a.outs,0≤b.lo∧b.lo≤b.hi∧b.hi≤1000
theorem Hw.fit {L:List Int} {B:List Bd} (h:Hw L B) (hx:∀ i,i<L.length→L.getD i 0≤900):∀ b∈B,0≤b.lo∧b.lo≤b.hi∧b.hi≤1000:=by
 intro b hb
 obtain ⟨i,hi,rfl⟩:=List.mem_iff_getElem.1 hb
 have h1:=h.b i (by have:=h.ln; omega)
 have h2:=hx i (by have:=h.ln; omega)
 have h3:gB B i=B[i]:=by simp [gB,List.getD_eq_getElem?_getD,hi]
 rw [h3] at h1
 simp only [Bm] at h1
 omega
theorem Ov.T4 {a:Ac} {n:Nat} {S I O:List Int} (h:Ov a n S I O):SQ a n:=by
 have h1:=h.h.ls
 have h2:=h.h.li
 have h3:=h.h.lo
 have:=h.n5
 refine ⟨h.n1,h.n5,by rw [h.s.ln,h1],by rw [h.i.ln,h2],by rw [h.o.ln,h3],h.f0,h.f1,h.s.fit fun i hi=>?_,h.i.fit fun i hi=>?_,h.o.fit fun i hi=>?_⟩
 ·have:=h.h.s i (by omega); omega
 ·have:=h.h.i i (by omega); omega
 ·have:=h.h.o i (by omega); omega
theorem SQ.ok {a:Ac} {n:Nat} (h:SQ a n):lh a:=by
 have h1:=h.n1
 have h2:=h.n5
 have h3:=h.f0
 have h4:=h.f1
 have h5:=h.li
 have f:∀ {b:Bd},(0≤b.lo∧b.lo≤b.hi∧b.hi≤1000)→fE b:=fun h=>⟨h.1,h.2.1,by simp only [E3]; omega⟩
 exact ⟨by omega,by omega,by rw [h.lo,h.li],by rw [h.ls,h.li],h3,by omega,fun b hb=>f (h.s b hb),fun b hb=>f (h.i b hb),fun b hb=>f (h.o b hb)⟩
def SV (a:Ac) (n:Nat) (s x y:Nat→Int):Prop:=Hi (gB a.st) (gB a.ins) (gB a.outs) n s x y
theorem Ov.hi {a:Ac} {n:Nat} {S I O:List Int} (h:Ov a n S I O):a.ins.length=n∧SV a n (fun i=>S.getD i 0) (fun i=>I.getD i 0) (fun i=>O.getD i 0):=by
 have h1:=h.h.ls
 have h2:=h.h.li
 have h3:=h.h.lo
 refine ⟨by rw [h.i.ln,h2],fun i hi=>?_,fun i hi=>?_,fun i hi=>?_,h.h.O6⟩
 ·have:=h.s.b i (by omega); exact ⟨this.2.1,this.2.2.1⟩
 ·have:=h.i.b i (by omega); exact ⟨this.2.1,this.2.2.1⟩
 ·have:=h.o.b i (by omega); exact ⟨this.2.1,this.2.2.1⟩
structure Rp where
 nu:Int
 ac:Int
 fd:Int
 tm:Int
 b:Bd
 deriving DecidableEq,Inhabited
structure Bk where
 op:List Ac
 rp:List Rp
def eX (r:Rp):AV:=.agg [.int .i64 r.nu,.int .i64 r.ac,.int .i64 r.fd,.int .i64 r.tm,.int .i64 r.b.lo,.int .i64 r.b.hi]
def jk (l:List Rp):List AV:=l.map eX
def nG (l:List Ac):List AV:=l.map iS
theorem aG (l:List Rp):(jk l).length=l.length:=by simp [jk]
theorem ea (l:List Rp) (i:Nat):(jk l)[i]?=(l[i]?).map eX:=by simp [jk]
theorem tl (l:List Rp):∀ x∈jk l,x.cG=true:=by simp [jk,eX,go_sem]
theorem yu (l:List Rp):∀ x∈jk l,mi 6 x:=by simp [jk,eX,mi,go_sem]
theorem aT (l:List Ac):(nG l).length=l.length:=by simp [nG]
theorem iC (l:List Ac) (i:Nat):(nG l)[i]?=(l[i]?).map iS:=by simp [nG]
theorem yd (l:List Ac):∀ x∈nG l,x.cG=true:=by
 intro x hx
 obtain ⟨a,_,rfl⟩:=List.mem_map.1 hx
 exact Lw a
theorem DC (l:List Ac):∀ x∈nG l,mi 4 x:=by simp [nG,iS,mi,go_sem]
def nI (B:Bk):AV:=.agg [.list 4 (nG B.op),.list 6 (jk B.rp)]
def gA (l:List Ac) (i:Nat):Ac:=(l[i]?).getD QQ
def gR (l:List Rp) (i:Nat):Rp:=l.getD i default
theorem jd {l:List Ac} {i:Nat} (h:i<l.length):l[i]?=some (gA l i):=by simp [gA,h]
theorem dT {l:List Rp} {i:Nat} (h:i<l.length):l[i]?=some (gR l i):=by simp [gR,List.getD_eq_getElem?_getD,h]
structure SM (a:Ac) (r:Rp):Prop where
 fd:r.fd=1∨r.fd=2∨r.fd=3
 t0:a.fr≤r.tm
 t1:r.tm<a.fr+((Ha a r.fd.toNat).length:Int)
 b:fE r.b
structure DD (op:List Ac) (r:Rp):Prop where
 n1:1≤r.nu
 n2:r.nu≤1073741824
 a0:0≤r.ac
 a1:r.ac<op.length
 a:SM (gA op r.ac.toNat) r
structure lD (B:Bk):Prop where
 n:B.op.length≤16
 ao:∀ a∈B.op,lh a
 m:B.rp.length≤4096
 Jw:B.rp.Pairwise fun a b=>a.nu<b.nu
 ro:∀ r∈B.rp,DD B.op r
def RN (a:Ac) (r:Rp) (s x y:Nat→Int):Prop:=ig r.b (Fu r.fd.toNat s x y (r.tm-a.fr).toNat)
theorem x5 {a:Ac} (h:lh a) {f:Int} (hf:f=1∨f=2∨f=3):((Ha a f.toNat).length:Int)=if f=1 then (a.ins.length:Int)+1 else a.ins.length:=by
 have h1:=h.ns
 have h2:=h.no
 rcases hf with rfl | rfl | rfl <;> simp [Ha] <;> omega
theorem lD.acc {B:Bk} (h:lD B) {i:Nat} (hi:i<B.op.length):lh (gA B.op i):=h.ao _ (List.mem_of_getElem? (jd hi))
theorem uK (B:Bk):(nI B).cG=true:=by simp [nI,go_sem]
abbrev gY (l:List Rp):List Int:=l.map Rp.nu
theorem ed {l:List Rp} {i:Nat} {x:Int}:(gY l)[i]?=some x↔∃ r,l[i]?=some r∧r.nu=x:=by
 rw [List.getElem?_map]
 cases l[i]? <;> simp
theorem vh {l:List Rp} (h:l.Pairwise fun a b=>a.nu<b.nu) {i j:Nat} (hij:i<j) {x y:Rp} (hx:l[i]?=some x) (hy:l[j]?=some y):x.nu<y.nu:=by
 obtain ⟨h1,rfl⟩:=List.getElem?_eq_some_iff.1 hx
 obtain ⟨h2,rfl⟩:=List.getElem?_eq_some_iff.1 hy
 exact List.pairwise_iff_getElem.1 h i j h1 h2 hij
theorem Cw {l:List Rp} (h:l.Pairwise fun a b=>a.nu<b.nu):JZ (gY l):=fun i j hij x y hx hy=>by
 obtain ⟨a,ha,rfl⟩:=ed.1 hx
 obtain ⟨b,hb,rfl⟩:=ed.1 hy
 exact Int.le_of_lt (vh h hij ha hb)
theorem NS:∀ {l m:List Rp},(l.Pairwise fun a b=>a.nu<b.nu)→(m.Pairwise fun a b=>a.nu<b.nu)→(∀ r,r∈l↔r∈m)→l=m
 | [],[],_,_,_=>rfl
 | [],y :: m,_,_,h=>by have:=(h y).2 (by simp); simp at this
 | x :: l,[],_,_,h=>by have:=(h x).1 (by simp); simp at this
 | x :: l,y :: m,hl,hm,h=>by
  rw [List.pairwise_cons] at hl hm
  have e:x=y:=by
   have h1:=(h x).1 (by simp)
   have h2:=(h y).2 (by simp)
   simp only [List.mem_cons] at h1 h2
   rcases h1 with h1 | h1
   ·exact h1
   ·rcases h2 with h2 | h2
    ·exact h2.symm
    ·have:=hl.1 y h2
     have:=hm.1 x h1
     omega
  subst e
  rw [NS hl.2 hm.2 fun r=>?_]
  have h1:=h r
  simp only [List.mem_cons] at h1
  constructor
  ·intro hr
   rcases h1.1 (.inr hr) with e | e
   ·subst e; have:=hl.1 r hr; omega
   ·exact e
  ·intro hr
   rcases h1.2 (.inr hr) with e | e
   ·subst e; have:=hm.1 r hr; omega
   ·exact e
def FV:Bk:=⟨[],[]⟩
def gN (B:Bk) (r:Rp):Bk × Int:=
 if (gY B.rp)[cT (gY B.rp) r.nu]?=some r.nu then (if gR B.rp (cT (gY B.rp) r.nu)=r then (B,0) else (FV,46))
 else if B.rp.length=4096 then (FV,10) else (⟨B.op,B.rp.take (cT (gY B.rp) r.nu)++r :: B.rp.drop (cT (gY B.rp) r.nu)⟩,0)
theorem IU {B:Bk} (h:lD B) {r:Rp} (hr:DD B.op r) (hn:∀ q∈B.rp,q.nu≠r.nu) (hl:B.rp.length<4096) :
  ∃ l,gN B r=(⟨B.op,l⟩,0)∧lD ⟨B.op,l⟩∧(∀ q,q∈l↔q∈B.rp∨q=r)∧l.length=B.rp.length+1:=by
 have hA:=Cw h.Jw
 have hk:=we (gY B.rp) r.nu
 have hno:¬(gY B.rp)[cT (gY B.rp) r.nu]?=some r.nu:=by
  rw [qF _ _ hA]
  intro hm
  obtain ⟨q,h1,h2⟩:=List.mem_map.1 hm
  exact hn q h1 h2
 rw [List.length_map] at hk
 have lt:∀ q∈B.rp.take (cT (gY B.rp) r.nu),q.nu<r.nu:=fun q hq=>by
  obtain ⟨i,hi⟩:=List.getElem?_of_mem hq
  rw [List.getElem?_take] at hi
  split at hi
  ·rename_i hik
   rcases Int.lt_or_le q.nu r.nu with h1 | h1
   ·exact h1
   ·have:=wc (ed.2 ⟨q,hi,rfl⟩) h1; omega
  ·cases hi
 have gt:∀ q∈B.rp.drop (cT (gY B.rp) r.nu),r.nu<q.nu:=fun q hq=>by
  obtain ⟨i,hi⟩:=List.getElem?_of_mem hq
  rw [List.getElem?_drop] at hi
  have hne:=hn q (List.mem_of_getElem? hi)
  have h0:(cT (gY B.rp) r.nu)<B.rp.length:=by have:=(List.getElem?_eq_some_iff.1 hi).1; omega
  have hat:(gY B.rp)[cT (gY B.rp) r.nu]?=some (gR B.rp (cT (gY B.rp) r.nu)).nu:=ed.2 ⟨_,dT h0,rfl⟩
  have h1:=FU hat
  rcases Nat.eq_zero_or_pos i with rfl | hpos
  ·have h2:=dT h0
   rw [Nat.add_zero] at hi
   rw [h2] at hi
   obtain rfl:=Option.some.inj hi
   omega
  ·have:=vh h.Jw (show cT (gY B.rp) r.nu<cT (gY B.rp) r.nu+i by omega) (dT h0) hi
   omega
 have mem:∀ q,q∈B.rp.take (cT (gY B.rp) r.nu)++r :: B.rp.drop (cT (gY B.rp) r.nu)↔q∈B.rp∨q=r:=fun q=>by
  have h1:q∈B.rp↔q∈B.rp.take (cT (gY B.rp) r.nu)∨q∈B.rp.drop (cT (gY B.rp) r.nu):=by
   rw [←List.mem_append,List.take_append_drop]
  rw [h1]
  simp only [List.mem_append,List.mem_cons]
  constructor
  ·rintro (h | h | h)
   ·exact .inl (.inl h)
   ·exact .inr h
   ·exact .inl (.inr h)
  ·rintro ((h | h) | h)
   ·exact .inl h
   ·exact .inr (.inr h)
   ·exact .inr (.inl h)
 refine ⟨B.rp.take (cT (gY B.rp) r.nu)++r :: B.rp.drop (cT (gY B.rp) r.nu),by unfold gN; rw [if_neg hno,if_neg (by omega)],⟨h.n,h.ao,?_,?_,?_⟩,mem,?_⟩
 ·simp; omega
 ·simp only
  rw [List.pairwise_append,List.pairwise_cons]
  refine ⟨h.Jw.sublist (List.take_sublist _ _),⟨gt,h.Jw.sublist (List.drop_sublist _ _)⟩,fun a ha b hb=>?_⟩
  simp only [List.mem_cons] at hb
  rcases hb with rfl | hb
  ·exact lt a ha
  ·have:=lt a ha; have:=gt b hb; omega
 ·intro q hq
  rcases (mem q).1 hq with h1 | rfl
  ·exact h.ro q h1
  ·exact hr
 ·simp; omega
theorem zG {B:Bk} (h:lD B) {r:Rp} (hr:DD B.op r) (h0:(gN B r).2=0):lD (gN B r).1∧(gN B r).1.op=B.op∧∀ q,q∈(gN B r).1.rp↔q∈B.rp∨q=r:=by
 by_cases hm:r.nu∈gY B.rp
 ·have hA:=Cw h.Jw
  have h1:=(qF _ _ hA).2 hm
  unfold gN at h0 ⊢
  rw [if_pos h1] at h0 ⊢
  split at h0
  ·rename_i h2
   rw [if_pos h2]
   refine ⟨h,rfl,fun q=>⟨.inl,fun hq=>hq.elim id fun e=>?_⟩⟩
   subst e
   obtain ⟨a,ha,_⟩:=ed.1 h1
   have hlt:=(List.getElem?_eq_some_iff.1 ha).1
   have:=List.mem_of_getElem? (dT hlt)
   rwa [h2] at this
  ·cases h0
 ·by_cases hl:B.rp.length=4096
  ·unfold gN at h0
   rw [if_neg (fun h1=>hm ((qF _ _ (Cw h.Jw)).1 h1)),if_pos hl] at h0
   cases h0
  ·obtain ⟨l,e,h1,h2,_⟩:=IU h hr (fun q hq e=>hm (List.mem_map.2 ⟨q,hq,e⟩)) (by have:=h.m; omega)
   rw [e]
   exact ⟨h1,rfl,h2⟩
structure Tr where
 S:List Int
 I:List Int
 O:List Int
 deriving Inhabited
def Ks (t:Tr):AV:=.agg [.list 1 (ints t.S),.list 1 (ints t.I),.list 1 (ints t.O)]
def EZ (l:List Tr):List AV:=l.map Ks
theorem nK (l:List Tr):(EZ l).length=l.length:=by simp [EZ]
theorem Kv (l:List Tr) (i:Nat):(EZ l)[i]?=(l[i]?).map Ks:=by simp [EZ]
theorem Ku (l:List Tr):∀ x∈EZ l,x.cG=true:=by simp [EZ,Ks,go_sem]
theorem Nq (l:List Tr):∀ x∈EZ l,mi 3 x:=by simp [EZ,Ks,mi,go_sem]
def gT (l:List Tr) (i:Nat):Tr:=l.getD i default
theorem N5 {l:List Tr} {i:Nat} (h:i<l.length):l[i]?=some (gT l i):=by simp [gT,List.getD_eq_getElem?_getD,h]
def Ly (a:Ac) (t:Tr):Prop:=∃ n,Ov a n t.S t.I t.O
def O9 (a:Ac) (r:Rp) (t:Tr):Prop:=RN a r (fun i=>t.S.getD i 0) (fun i=>t.I.getD i 0) (fun i=>t.O.getD i 0)
structure Ol (B:Bk) (T:List Tr):Prop where
 ok:lD B
 n1:1≤B.op.length
 n2:B.op.length≤2
 len:T.length=B.op.length
 tr:∀ i,i<B.op.length→Ly (gA B.op i) (gT T i)
 rt:∀ r∈B.rp,O9 (gA B.op r.ac.toNat) r (gT T r.ac.toNat)
 nu:∀ r∈B.rp,r.nu≤20
theorem Ly.hi {a:Ac} {t:Tr} (h:Ly a t):SV a a.ins.length (fun i=>t.S.getD i 0) (fun i=>t.I.getD i 0) (fun i=>t.O.getD i 0)∧t.S.length=a.ins.length+1∧t.I.length=a.ins.length∧t.O.length=a.ins.length∧lh a:=by
 obtain ⟨n,h⟩:=h
 obtain ⟨h1,h2⟩:=h.hi
 exact ⟨by rw [h1]; exact h2,by rw [h1]; exact h.h.ls,by rw [h1]; exact h.h.li,by rw [h1]; exact h.h.lo,h.T4.ok⟩
structure SL (a:Ac) (t:Tr):Prop where
 hi:SV a a.ins.length (fun i=>t.S.getD i 0) (fun i=>t.I.getD i 0) (fun i=>t.O.getD i 0)
 lS:t.S.length=a.ins.length+1
 lI:t.I.length=a.ins.length
 lO:t.O.length=a.ins.length
 ok:lh a
 bS:∀ i,i≤a.ins.length→0≤t.S.getD i 0∧t.S.getD i 0≤900
 bI:∀ i,i<a.ins.length→0≤t.I.getD i 0∧t.I.getD i 0≤900
 bO:∀ i,i<a.ins.length→0≤t.O.getD i 0∧t.O.getD i 0≤900
theorem Ly.g {a:Ac} {t:Tr} (h:Ly a t):SL a t:=by
 obtain ⟨h1,h2,h3,h4,h5⟩:=h.hi
 obtain ⟨n,hD⟩:=h
 have hn:=hD.hi.1
 have h5':=hD.n5
 refine ⟨h1,h2,h3,h4,h5,fun i hi=>?_,fun i hi=>?_,fun i hi=>?_⟩
 ·have:=hD.h.s i (by omega); omega
 ·have:=hD.h.i i (by omega); omega
 ·have:=hD.h.o i (by omega); omega
theorem tj {P:Program} (w:World) (tS tR e:TypeId) (ht:P.underlying tS=some (.slice e)) (size:Nat) (hz:∀ w,(Go.sizeOf e).run P w=.ok size w)
  (a b:Addr) (la ca lb cb:Nat) (hne:a.block≠b.block) (tA tB:TypeId) (kA kB:Nat)
  (hsa:w.shape? a.block=some (tA,kA)) (hsb:w.shape? b.block=some (tB,kB)) (hkA:kA≠0)
  (hfb:w.frozen? b=false) (hfe:w.frozen? { block:=b.block,off:=kB }=false) :
  (Extern.SlicesOverlaps.overlaps #[tS,tS] #[tR] #[.slice (some a) la ca,.slice (some b) lb cb]).run P w=.ok (.bool false) w:=by
 have hnb:(a.block != b.block)=true:=by simpa using hne
 have hnb':(a.block == b.block)=false:=by simpa using hne
 obtain ⟨r,hr⟩:∃ r,Extern.SlicesOverlaps.overlaps #[tS,tS] #[tR] #[.slice (some a) la ca,.slice (some b) lb cb]=r:=⟨_,rfl⟩
 rw [hr]
 unfold Extern.SlicesOverlaps.overlaps at hr
 conv at hr=>lhs; whnf
 have ht0:P.underlying (#[tS,tS][0])=some (.slice e):=ht
 have pb:∀ {α:Type} (x:α) (f:α→Sem Value),(pure x:Sem α).bind f=f x:=fun _ _=>rfl
 rw [←hr]
 cases kA with
 | zero=>exact absurd rfl hkA
 | succ kA=>
  by_cases h0:la=0∨lb=0∨size=0
  ·simp [Sem.run,Sem.bind,ht,pb,hz,h0]
  ·cases hfa:w.frozen? a <;> cases hfa2:w.frozen? { block:=a.block,off:=kA+1 } <;>
    simp [Sem.run,Sem.bind,ht,pb,hz,h0,hnb,hnb',frozen,noView,viewAt,mayBeOne,stringish,shape,hsa,hsb,hfa,hfa2,hfb,hfe]
theorem JD {P:Program} {σ:St} {f:Nat} {tS tR:TypeId} (he:Gw P f=some (Extern.SlicesOverlaps.overlaps #[tS,tS] #[tR])) (ht:I0 P tS=true)
  {es:Nat} {L:List AV} {id' g' es' off' n' c':Nat} {o':aS} (hL:L≠[]) (hes:0<es) (ho':σ.ob id'=some o') (hg':o'.g=g') (hro:o'.ro=false) (hap:o'.ap=true) :
  HC P f [.list es L,.fG id' g' es' off' n' c'] σ fun r σ'=>r=.bool false∧σ'=σ:=by
 subst hg'
 refine ⟨(Bv he).1,fun m S w vs hS hv=>.inr ?_⟩
 obtain ⟨v1,v2,rfl⟩:∃ v1 v2,vs=[v1,v2]:=by
  match vs,hv.1 with
  | [a,b],_=>exact ⟨a,b,rfl⟩
 have h1:=hv.2 0 _ v1 rfl rfl
 have h2:=hv.2 1 _ v2 rfl rfl
 obtain ⟨b',len',hu',rfl,hcap'⟩:=h2.fh
 obtain ⟨v',hm',⟨_,hes',xs',hown',_⟩,hSb⟩:=hS.obj id' o' ho'
 rw [hu'] at hm'; obtain rfl:=Option.some.inj hm'
 rcases (hown'.own rfl).2 with ⟨h,_⟩ | ⟨b2,len2,cap2,cur2,fr2,h,hgb2,hnc2,hcm2,hsz2,htk2,hfr2,hfr02⟩
 ·cases h
 cases h
 obtain rfl:=hfr02 hap
 cases h1 with
 | pure h1=>
  cases h1 with
  | bE=>exact absurd rfl hL
  | @list _ _ b o cap ff hl' hcap hSS hc hw hvv=>
   obtain ⟨hSb1,cs,t,fr,hgb⟩:=hSS
   have hbb:b≠b':=fun e=>(hSb b' rfl).2 hro (e ▸ hSb1)
   have hcell:=hw 0 0 (by cases L with
    | nil=>exact absurd rfl hL
    | cons x r=>simp) hes
   have hk1:cs.size≠0:=by
    simp only [World.cell?,hgb] at hcell
    intro h0
    have:cs=#[]:=Array.eq_empty_of_size_eq_zero h0
    subst this
    simp at hcell
   unfold I0 at ht
   split at ht
   ·rename_i e hue
    obtain ⟨i,hi⟩:=Option.isSome_iff_exists.1 ht
    refine ⟨.bool false,w,?_,.bool false,σ,m,S,.bool false,rfl,⟨rfl,rfl⟩,?_,Ext.refl m S w,.pure (.bool false)⟩
    ·rw [(Bv he).2]
     rw [tj w tS tR e hue i.size (fun w=>aL hi w) ⟨b,o,none⟩ ⟨b',off' * es',none⟩ L.length cap n' (c' - off') hbb t o'.ty cs.size cur2.size
      (by simp [World.shape?,hgb]) (by simp [World.shape?,hgb2]) hk1 (by simp [World.frozen?,hgb2]) (by simp [World.frozen?,hgb2])]
     rfl
    ·exact ⟨hS,⟨rfl,rfl,rfl,Nat.le_refl _,fun _ _ _=>rfl,fun k o v b ho hro hm hb=>.inl ⟨k,o,v,ho,hro,hm,hb⟩,fun b hb=>.inl hb⟩⟩
   ·cases ht
theorem lA (σ:St) (id g:Nat) (L:List AV) (x:AV) (i:Nat) (hx:mi 6 x) (hob:σ.ob id=some ⟨g,6,dp,false,true,L⟩)
  (hid:id<σ.n) (hi:i≤L.length) (hl:L.length≤1000000) :
  HC prog mS [.sl id g 6 0 L.length,.int .i64 i,.list 6 [x]] σ (SU σ id 6 dp (L.take i++x :: L.drop i)):=by
 obtain ⟨dF,n0,c0⟩:=σ
 simp only at hob hid
 by_cases h0:i=L.length
 ·subst h0
  refine aM fC (by simp) ?_
  simp only [dc,go_sem,jA,jF,↓reduceIte,reduceCtorEq]
  try simp (disch:=omega) only [go_sem,jA,jB,jC,jD,jE,jF,jG,jH,jI,jJ,↓reduceIte,reduceCtorEq,jO,jM,jN,jK,jL]
  refine ⟨⟨_,hob,rfl⟩,by omega,by omega,?_,fun h=>absurd h (by omega)⟩
  try simp (disch:=omega) only [go_sem,hob]
  repeat (refine And.intro (by first | omega | (rw [o7]; omega) | (simp [maxLen]; done) | (simp [maxLen]; omega)) ?_)
  have e:L.take L.length++x :: L.drop L.length=L++[x]:=by simp
  rw [e]
  exact ⟨id,c0,by simp,.inl rfl,hid,Nat.le_refl _,ay _ _ _,fun k _ hk=>aa _ _ _ _ hk⟩
 refine HC.clip (R:=fun r τ=>(∃ c,r=.fG id g 6 0 (L.length+1) c∧τ=⟨aZ dF id (some ⟨g,6,dp,false,true,L.take i++x :: L.drop i⟩),n0,c0⟩)∨
  (r=.sl n0 c0 6 0 (L.length+1)∧τ=⟨aZ dF n0 (some ⟨c0,6,dp,false,true,L.take i++x :: L.drop i⟩),n0+1,c0+1⟩)) (HC.fG hob rfl (by omega) rfl (fun c hc hcm=>?_) (by omega)) ?_
 ·refine aM fC (by simp) ?_
  simp only [dc,go_sem,jA,jF,↓reduceIte,reduceCtorEq]
  have hne1:¬((i:Int)=(L.length:Int)):=by omega
  try simp (disch:=omega) only [go_sem,jF,↓reduceIte,reduceCtorEq,jO,jK,hne1]
  refine ⟨hc,by omega,by omega,fun h=>by omega,fun _=>?_⟩
  refine aj (fun hgrow=>?_) (fun hroom=>?_)
  ·have hcl:c=L.length:=by omega
   subst hcl
   try simp (disch:=omega) only [go_sem,jF,↓reduceIte,reduceCtorEq,jO,jK]
   refine ⟨by omega,by omega,by omega,fun h=>by omega,fun _=>?_⟩
   refine Ok ?_
   have htn:((L.length:Int)+1-(i:Int)).toNat=L.length+1-i:=by omega
   try simp (disch:=omega) only [go_sem,jF,↓reduceIte,reduceCtorEq,jO,jK,hob,htn]
   refine ⟨by omega,by omega,by omega,by omega,by omega,by omega,by omega,fun h=>by omega,fun _=>?_⟩
   have hn2:¬n0=id:=by omega
   try simp (disch:=omega) only [go_sem,jA,jB,jC,jD,jE,jF,jG,jH,jI,jJ,↓reduceIte,reduceCtorEq,jO,jM,jN,jK,jL,hob]
   have hin:((i:Int)+1).toNat=i+1:=by omega
   try simp (disch:=omega) only [go_sem,hin]
   refine ⟨by simp; omega,by omega,by omega,by omega,fun h=>by omega,fun _=>⟨by omega,by omega,fun h=>by omega,fun _=>?_⟩⟩
   refine Og ?_
   try simp (disch:=omega) only [go_sem,jF,↓reduceIte,reduceCtorEq,jM,hob]
   rw [QC (by omega) (by omega) (by omega)]
   refine ⟨by omega,by simp; omega,.inr ⟨by rw [show i+(L.length+1-i)=L.length+1 by omega],?_⟩⟩
   rw [QB (by omega) (by omega) (by omega) (by simp; omega)]
   simp only [nJ]
  ·have hin:((i:Int)+1).toNat=i+1:=by omega
   have hln:((L.length:Int)+1).toNat=L.length+1:=by omega
   try simp (disch:=omega) only [go_sem,jF,↓reduceIte,reduceCtorEq,jO,jK,hin,hln]
   repeat (refine And.intro (by first | omega | (rw [o7]; omega) | (simp [maxLen]; done) | (simp [maxLen]; omega)) ?_)
   refine fun _=>⟨by omega,by omega,by omega,fun h=>by omega,fun _=>?_⟩
   refine (JD (σ:=⟨dF,n0,c0⟩) lr j9 (by simp) (by omega) hob rfl rfl rfl).mono ?_
   rintro _ _ ⟨rfl,rfl⟩
   try simp (disch:=omega) only [go_sem,jF,↓reduceIte,reduceCtorEq,jO,jK,hin]
   refine ⟨by omega,by omega,by omega,fun h=>by omega,fun _=>⟨by omega,by omega,by omega,fun h=>by omega,fun _=>?_⟩⟩
   refine Oh ?_
   try simp (disch:=omega) only [go_sem,jF,↓reduceIte,reduceCtorEq,jK,hob]
   rw [QA (by omega) (by omega) (by omega)]
   refine ⟨by omega,by omega,by omega,by omega,by omega,by omega,fun h=>by omega,fun _=>?_⟩
   rw [Qz (by omega) (by omega) (by omega)]
   refine ⟨by omega,by simp; omega,c,rfl,?_⟩
   rw [nJ]
 ·rintro r τ (⟨c,rfl,rfl⟩ | ⟨rfl,rfl⟩)
  ·refine ⟨.sl id g 6 0 (L.length+1),aZ dF id (some ⟨g,6,dp,false,true,L.take i++x :: L.drop i⟩),.inr ⟨id,g,6,0,_,c,rfl,rfl⟩,fun q o hq=>⟨o,hq,rfl,rfl,rfl,rfl,rfl,o.l.length,by simp,.inl rfl⟩,?_⟩
   have hlen:(L.take i++x :: L.drop i).length=L.length+1:=by simp; omega
   refine ⟨id,g,by rw [hlen],.inl rfl,hid,Nat.le_refl _,ay _ _ _,fun k _ hk=>aa _ _ _ _ hk⟩
  ·refine ⟨.sl n0 c0 6 0 (L.length+1),aZ dF n0 (some ⟨c0,6,dp,false,true,L.take i++x :: L.drop i⟩),.inl rfl,fun q o hq=>⟨o,hq,rfl,rfl,rfl,rfl,rfl,o.l.length,by simp,.inl rfl⟩,?_⟩
   have hlen:(L.take i++x :: L.drop i).length=L.length+1:=by simp; omega
   exact ⟨n0,c0,by rw [hlen],.inr (Nat.le_refl _),Nat.lt_succ_self _,Nat.le_succ _,ay _ _ _,fun k hk _=>aa _ _ _ _ (by simp only at hk; omega)⟩
theorem vn (a:Ac) (h:lh a):PC prog xh [iS a] (iS a):=by
 have h1:=h.n2
 have h2:=h.no
 have h3:=h.ns
 refine ae xC (by simp) ?_
 simp only [oF,go_sem,jF,jG,jH,↓reduceIte,reduceCtorEq,iS]
 try simp (disch:=omega) only [go_sem,jA,jB,jC,jD,jE,jF,jG,jH,jI,jJ,↓reduceIte,reduceCtorEq,jO,jM,jN,jK,jL]
 refine ab (cR (cr a.st) (by rw [aI]; omega) (l8 _) (qp _)) (by simp [go_sem]) ?_
 try simp (disch:=omega) only [go_sem,jF,↓reduceIte]
 refine ab (cR (cr a.ins) (by rw [aI]; omega) (l8 _) (qp _)) (by simp [go_sem]) ?_
 try simp (disch:=omega) only [go_sem,jF,↓reduceIte]
 refine ab (cR (cr a.outs) (by rw [aI]; omega) (l8 _) (qp _)) (by simp [go_sem]) ?_
 try simp (disch:=omega) only [go_sem,jF,jG,jH,↓reduceIte,reduceCtorEq]
 exact aA.of_eq rfl (by simp [go_sem])
theorem sr (l:List Ac) (hn:l.length≤16) (h:∀ a∈l,lh a):PC prog tM [.list 4 (nG l)] (.int .i64 0):=by
 refine ae uL (by simp) ?_
 simp only [lV,go_sem,↓reduceIte,reduceCtorEq,aT]
 refine aj (fun hgt=>by omega) (fun hle=>?_)
 try simp (disch:=omega) only [go_sem,↓reduceIte,reduceCtorEq,aT]
 refine bd [2,4,5,11,12,13,14,15,16,17,18,19,20] (by kernel_rfl) l.length (fun k e σ=>e 11=.int .i64 k) ?_ ?_
 ·exact (by first | rfl | (simp (disch:=omega) only [go_sem,jA,jB,jC,jD,jE,jF,jG,jH,jI,jJ,↓reduceIte,reduceCtorEq,jP,jO,jM,jN]; try rfl))
 rintro k fe ob m c hk hm h11
 simp (maxSteps:=1000000) only [go_sem,jF,↓reduceIte] at h11
 try simp (disch:=omega) only [go_sem,jF,↓reduceIte,h11]
 refine aj (fun hlt=>?_) (fun hge=>?_)
 ·have hkl:k<l.length:=by omega
  have e1:=jd hkl
  have ha:=h _ (List.mem_of_getElem? e1)
  have hC:=xc (gA l k) ha.l
  rw [De.2 ha] at hC
  generalize gA l k=a at *
  try simp (disch:=omega) only [go_sem,jF,jG,jH,↓reduceIte,aT,iC,e1,Option.map_some,iS]
  refine ⟨by omega,by omega,?_⟩
  simp only [iS] at hC
  refine ab hC (by simp [go_sem]) ?_
  try simp (disch:=omega) only [go_sem,jF,↓reduceIte,jO]
  exact aF _ hkl (Nat.le_succ_of_le hm) (by first | rfl | (simp (disch:=omega) only [go_sem,jA,jB,jC,jD,jE,jF,jG,jH,jI,jJ,↓reduceIte,reduceCtorEq,jP,jO,jM,jN]; try rfl))
 ·try simp (disch:=omega) only [go_sem,↓reduceIte]
  exact aA.of_eq rfl rfl
theorem iI (r:Rp) (h1:1≤r.nu) (h2:r.nu≤1073741824):PC prog jm [eX r] (.bool true):=by
 refine ae jw (by simp) ?_
 simp only [eF,go_sem,jF,jG,jH,↓reduceIte,eX]
 try simp (disch:=omega) only [go_sem,jF,jH,↓reduceIte,h1,h2,decide_true]
 exact aA.of_eq rfl rfl
theorem ko (op:List Ac) (r:Rp) (hop:∀ a∈op,lh a) (h:DD op r):PC prog lM [.list 4 (nG op),eX r] (.int .i64 0):=by
 obtain ⟨i,hi⟩:∃ i:Nat,r.ac=i:=⟨r.ac.toNat,by have:=h.a0; omega⟩
 have hil:i<op.length:=by have:=h.a1; omega
 have e1:=jd hil
 have ha:=hop _ (List.mem_of_getElem? e1)
 have hr:=h.a
 rw [hi,Int.toNat_natCast] at hr
 have h1:=ha.n1
 have h2:=ha.n2
 have h3:=ha.f0
 have h4:=ha.f1
 have hfl:=x5 ha hr.fd
 have t0:=hr.t0
 have t1:=hr.t1
 rw [hfl] at t1
 obtain ⟨b0,b1,b2⟩:=hr.b
 simp only [E3] at b2
 have hfd:=hr.fd
 generalize gA op i=a at *
 obtain ⟨nu,ac,fd,tm,b⟩:=r
 simp only at hi t0 t1 b0 b1 b2 hfd
 subst hi
 refine ae ma (by simp) ?_
 simp only [gq,go_sem,jF,jG,jH,↓reduceIte,reduceCtorEq,eX]
 have q1:¬((i:Int)<0):=by omega
 have q2:¬((op.length:Int)≤(i:Int)):=by omega
 have q3:¬(fd<1):=by omega
 have q4:¬(3<fd):=by omega
 have q5:¬(tm<a.fr):=by omega
 have q6:¬(b.lo<0):=by omega
 have q7:¬(274877906944<b.hi):=by omega
 have q8:¬(b.hi<b.lo):=by omega
 try simp (disch:=omega) only [go_sem,jF,jG,jH,↓reduceIte,reduceCtorEq,jO,aT,iC,e1,Option.map_some,iS,aI,q1,q2,q3,q4,decide_false]
 refine ⟨by omega,by omega,?_⟩
 refine aj (fun hf1=>?_) (fun hf1=>?_)
 ·rw [if_pos hf1] at t1
  have q9:¬(a.fr+(a.ins.length:Int)-1+1<tm):=by omega
  try simp (disch:=omega) only [go_sem,jF,jG,jH,↓reduceIte,reduceCtorEq,jO,q5,q6,q7,q8,q9,decide_false]
  exact aA.of_eq rfl rfl
 ·rw [if_neg hf1] at t1
  have q9:¬(a.fr+(a.ins.length:Int)-1<tm):=by omega
  try simp (disch:=omega) only [go_sem,jF,jG,jH,↓reduceIte,reduceCtorEq,q5,q6,q7,q8,q9,decide_false]
  exact aA.of_eq rfl rfl
theorem dD (B:Bk) (h:lD B):PC prog vC [nI B] (.int .i64 0):=by
 have hm:=h.m
 have hO:=sr B.op h.n h.ao
 refine ae wi (by simp) ?_
 simp only [nf,go_sem,jF,jG,jH,↓reduceIte,nI]
 refine ab hO (by simp [go_sem]) ?_
 try simp (disch:=omega) only [go_sem,jF,jG,jH,↓reduceIte,aG]
 refine aj (fun hgt=>by omega) (fun hle=>?_)
 try simp (disch:=omega) only [go_sem,jF,jG,jH,↓reduceIte,aG]
 refine bd [2,4,5,6,20,21,22,23,24,25,26,27,28,29,30,31,32,33,34,35,36,37,38,39,40,41,42,43,44,45,46,47,48,49] (by kernel_rfl) B.rp.length (fun k e σ=>e 20=.int .i64 k∧σ.ob 0=some ⟨0,2,40,false,true,[.agg [.list 4 (nG B.op),.list 6 (jk B.rp)]]⟩) ?_ ?_
 ·exact ⟨(by first | rfl | (simp (disch:=omega) only [go_sem,jA,jB,jC,jD,jE,jF,jG,jH,jI,jJ,↓reduceIte,reduceCtorEq,jP,jO,jM,jN]; try rfl)),by try simp (disch:=omega) only [go_sem,↓reduceIte]⟩
 rintro k fe ob m c hk hm2 ⟨h20,u0⟩
 simp (maxSteps:=1000000) only [go_sem,jF,↓reduceIte] at h20 u0 hm2
 try simp (disch:=omega) only [go_sem,jF,↓reduceIte,h20]
 refine aj (fun hlt=>?_) (fun hge=>?_)
 ·have hkl:k<B.rp.length:=by omega
  have e1:=dT hkl
  have hr:=h.ro _ (List.mem_of_getElem? e1)
  have hN:=iI (gR B.rp k) hr.n1 hr.n2
  have hR:=ko B.op (gR B.rp k) h.ao hr
  have z0:¬0=m:=by omega
  simp only [eX] at hN hR
  try simp (disch:=omega) only [go_sem,jF,jG,jH,↓reduceIte,aG,ea,e1,Option.map_some,eX]
  refine ⟨by omega,by omega,?_⟩
  refine ab hN (by simp [go_sem]) ?_
  try simp (disch:=omega) only [go_sem,jF,↓reduceIte]
  rcases Nat.eq_zero_or_pos k with rfl | hk0
  ·try simp (disch:=omega) only [go_sem,jB,jF,jH,↓reduceIte,z0,u0]
   refine ab hR (by simp [go_sem]) ?_
   try simp (disch:=omega) only [go_sem,jF,↓reduceIte,jO]
   refine aF (m+1) hkl (by omega) ⟨(by first | rfl | (simp (disch:=omega) only [go_sem,jA,jB,jC,jD,jE,jF,jG,jH,jI,jJ,↓reduceIte,reduceCtorEq,jP,jO,jM,jN]; try rfl)),?_⟩
   try simp (disch:=omega) only [go_sem,↓reduceIte,jM,St.aC,z0,u0]
  ·have e2:=dT (l:=B.rp) (i:=k-1) (by omega)
   have hlt2:=vh h.Jw (show k-1<k by omega) e2 e1
   have q1:(0:Int)<(k:Int):=by omega
   have q2:((k:Int)-1).toNat=k-1:=by omega
   have q3:¬(gR B.rp k).nu≤(gR B.rp (k-1)).nu:=by omega
   try simp (disch:=omega) only [go_sem,jF,jG,jH,↓reduceIte,jO,z0,u0,q1,decide_true,q2,aG,ea,e2,Option.map_some,eX,q3,decide_false]
   refine ⟨by omega,by omega,?_⟩
   refine ab hR (by simp [go_sem]) ?_
   try simp (disch:=omega) only [go_sem,jF,↓reduceIte,jO]
   refine aF (m+1) hkl (by omega) ⟨(by first | rfl | (simp (disch:=omega) only [go_sem,jA,jB,jC,jD,jE,jF,jG,jH,jI,jJ,↓reduceIte,reduceCtorEq,jP,jO,jM,jN]; try rfl)),?_⟩
   try simp (disch:=omega) only [go_sem,↓reduceIte,jM,St.aC,z0,u0]
 ·try simp (disch:=omega) only [go_sem,↓reduceIte]
  exact aA.of_eq rfl rfl
theorem kr (r:Rp):PC prog dG [eX r] (.int .i64 r.nu):=by
 refine ae uN (by simp) ?_
 simp only [lX,go_sem,jF,jG,jH,↓reduceIte,eX]
 try simp (disch:=omega) only [go_sem,jA,jB,jC,jD,jE,jF,jG,jH,jI,jJ,↓reduceIte,reduceCtorEq,jO,jM,jN,jK,jL]
 exact aA.of_eq rfl rfl
theorem jS (x:Int) (h:Rp) (hh:-4611686018427387904≤h.nu-x∧h.nu-x≤4611686018427387904):PC prog kF [eX h,.int .i64 x,.eG 1 [.func dG []] 0 0] (.int .i64 (h.nu-x)):=by
 refine ae k7 (by simp) ?_
 simp only [dY,go_sem,jF,jG,jH,↓reduceIte,reduceCtorEq,eX]
 try simp (disch:=omega) only [go_sem,jA,jB,jC,jD,jE,jF,jG,jH,jI,jJ,↓reduceIte,reduceCtorEq,jO,jM,jN,jK,jL]
 refine ab (kr h) (by simp [go_sem]) ?_
 try simp (disch:=omega) only [go_sem,jF,↓reduceIte,reduceCtorEq,jO]
 exact aA.of_eq rfl rfl
theorem gG (σ:St) (l:List Rp) (x:Int) (f:Nat) (caps:List AV) (hl:l.length≤4611686018427387904) (hs:JZ (l.map Rp.nu))
  (hcb:∀ h∈l,∀ τ:St,τ.n=σ.n→(∀ k,k<σ.n→τ.ob k=σ.ob k)→HC prog f (eX h :: .int .i64 x :: caps) τ (fun r τ'=>r=.int .i64 (h.nu-x)∧τ'=τ)) :
  HC prog gZ [.list 6 (jk l),.int .i64 x,.func f caps] σ (fun r τ=>r=.tuple [.int .i64 (cT (l.map Rp.nu) x),.bool (decide ((l.map Rp.nu)[cT (l.map Rp.nu) x]?=some x))]∧τ.n=σ.n∧∀ k,k<σ.n→τ.ob k=σ.ob k):=by
 obtain ⟨L,hL⟩:∃ L,L=l.map Rp.nu:=⟨_,rfl⟩
 have hLl:L.length=l.length:=by simp [hL]
 rw [←hL] at hs ⊢
 refine aM iu (by simp) ?_
 simp only [dd,go_sem,jF,↓reduceIte,reduceCtorEq,aG]
 refine wE [9,10,11,15,16,17,18,19,20,21,22,23,24,25,26,27,28,29,30,31,32,33,34] (by kernel_rfl) (fun k e τ=>(∀ k,k<σ.n→τ.ob k=σ.ob k)∧∃ i j:Nat,e 9=.int .i64 i∧e 10=.int .i64 j∧i≤j∧j≤l.length∧k=j-i∧(∀ k,k<i→∀ y,L[k]?=some y→y<x)∧(∀ k,j≤k→∀ y,L[k]?=some y→x≤y)) l.length ?_ ?_
 ·exact ⟨fun _ _=>rfl,0,l.length,(by first | rfl | (simp (disch:=omega) only [go_sem,jA,jB,jC,jD,jE,jF,jG,jH,jI,jJ,↓reduceIte,reduceCtorEq,jP,jO,jM,jN]; try rfl)),(by first | rfl | (simp (disch:=omega) only [go_sem,jA,jB,jC,jD,jE,jF,jG,jH,jI,jJ,↓reduceIte,reduceCtorEq,jP,jO,jM,jN]; try rfl)),by omega,by omega,by omega,fun k hk=>by omega,fun k hk y hy=>by have:=(List.getElem?_eq_some_iff.1 hy).1; omega⟩
 ·rintro r fe ob c ⟨hτ,i,j,h9,h10,hij,hjl,rfl,hlo,hhi⟩
  simp (maxSteps:=1000000) only [go_sem,jF,↓reduceIte] at h9 h10 hτ
  try simp (disch:=omega) only [go_sem,jF,↓reduceIte,h9,h10]
  refine aj (fun hlt=>?_) (fun hge=>?_)
  ·have hij2:i<j:=by omega
   try simp (disch:=omega) only [go_sem,jF,jH,↓reduceIte,reduceCtorEq,jO,wrap_u64,EI,Option.some.injEq,exists_eq_left']
   generalize hm:(i+j) / 2=m
   have hmi:((i:Int)+j) / 2=(m:Int):=by omega
   have hg:l[m]?=some l[m]:=List.getElem?_eq_getElem (by omega)
   try simp (disch:=omega) only [go_sem,hmi,ea,aG,hg,Option.map_some,eX]
   repeat (refine And.intro (by first | omega | (rw [o7]; omega) | (simp [maxLen]; done) | (simp [maxLen]; omega)) ?_)
   refine (hcb l[m] (List.getElem_mem _) ⟨ob,σ.n,c⟩ rfl hτ).mono ?_
   rintro _ _ ⟨rfl,rfl⟩
   have hgm:L[m]?=some l[m].nu:=by simp [hL,hg]
   generalize l[m]=q at *
   try simp (disch:=omega) only [go_sem,↓reduceIte]
   refine aj (fun hlt=>?_) (fun hge=>?_)
   ·try simp (disch:=omega) only [go_sem,jF,↓reduceIte,jO]
    refine ⟨j-(m+1),by omega,_,Nat.le_refl _,rfl,fun k hk=>by try simp (disch:=omega) only [go_sem,jN]; exact hτ k hk,m+1,j,(by first | rfl | (simp (disch:=omega) only [go_sem,jA,jB,jC,jD,jE,jF,jG,jH,jI,jJ,↓reduceIte,reduceCtorEq,jP,jO,jM,jN]; try rfl)),(by first | rfl | (simp (disch:=omega) only [go_sem,jA,jB,jC,jD,jE,jF,jG,jH,jI,jJ,↓reduceIte,reduceCtorEq,jP,jO,jM,jN]; try rfl)),by omega,by omega,by omega,fun k hk y hy=>?_,hhi⟩
    by_cases e:k=m
    ·subst e; rw [hgm] at hy; obtain rfl:=Option.some.inj hy; omega
    ·have:=hs k m (by omega) y _ hy hgm; omega
   ·try simp (disch:=omega) only [go_sem,jF,↓reduceIte]
    refine ⟨m-i,by omega,_,Nat.le_refl _,rfl,fun k hk=>by try simp (disch:=omega) only [go_sem,jN]; exact hτ k hk,i,m,(by first | rfl | (simp (disch:=omega) only [go_sem,jA,jB,jC,jD,jE,jF,jG,jH,jI,jJ,↓reduceIte,reduceCtorEq,jP,jO,jM,jN]; try rfl)),(by first | rfl | (simp (disch:=omega) only [go_sem,jA,jB,jC,jD,jE,jF,jG,jH,jI,jJ,↓reduceIte,reduceCtorEq,jP,jO,jM,jN]; try rfl)),by omega,by omega,by omega,hlo,fun k hk y hy=>?_⟩
    by_cases e:k=m
    ·subst e; rw [hgm] at hy; obtain rfl:=Option.some.inj hy; omega
    ·have:=hs m k (by omega) _ y hgm hy; omega
  ·have hij2:i=j:=by omega
   subst hij2
   have hb:=zU L x i (by omega) hlo hhi
   rw [hb]
   try simp (disch:=omega) only [go_sem,jF,↓reduceIte,jL]
   refine bB rfl (fun h=>?_) (fun h=>?_)
   ·have hg:l[i]?=some l[i]:=List.getElem?_eq_getElem (by omega)
    try simp (disch:=omega) only [go_sem,jF,jH,↓reduceIte,reduceCtorEq,ea,aG,hg,Option.map_some,eX]
    repeat (refine And.intro (by first | omega | (rw [o7]; omega) | (simp [maxLen]; done) | (simp [maxLen]; omega)) ?_)
    refine (hcb l[i] (List.getElem_mem _) ⟨ob,σ.n,c⟩ rfl hτ).mono ?_
    rintro _ _ ⟨rfl,rfl⟩
    try simp (disch:=omega) only [go_sem,jF,↓reduceIte]
    refine ⟨?_,hτ⟩
    have hgm:L[i]?=some l[i].nu:=by simp [hL,hg]
    rw [hgm]
    simp only [Option.some.injEq]
    congr 3
    by_cases e:l[i].nu=x
    ·simp [e]
    ·have:¬l[i].nu-x=0:=by omega
     simp [e,this]
   ·try simp (disch:=omega) only [go_sem,jF,↓reduceIte]
    refine ⟨?_,hτ⟩
    rw [List.getElem?_eq_none (by omega)]
    simp
theorem ly (B:Bk) (h:lD B) (r:Rp) (h1:1≤r.nu) (h2:r.nu≤1073741824):PC prog mn [.list 6 (jk B.rp),eX r,.func dG []] (.tuple [.int .i64 (cT (gY B.rp) r.nu),.bool (decide ((gY B.rp)[cT (gY B.rp) r.nu]?=some r.nu))]):=by
 have hm:=h.m
 refine ae mD (by simp) ?_
 simp only [eM,go_sem,jF,jG,jH,↓reduceIte,reduceCtorEq,eX]
 try simp (disch:=omega) only [go_sem,jA,jB,jC,jD,jE,jF,jG,jH,jI,jJ,↓reduceIte,reduceCtorEq,jO,jM,jN,jK,jL]
 refine ab (kr r) (by simp [go_sem]) ?_
 try simp (disch:=omega) only [go_sem,jF,↓reduceIte]
 refine (gG _ B.rp r.nu _ _ (by omega) (Cw h.Jw) (fun q hq τ hn' hτ=>?_)).mono ?_
 ·have hb:=h.ro q hq
  have q1:=hb.n1
  have q2:=hb.n2
  refine qE (jS r.nu q (by omega)) (.cons (.pure (by simp [go_sem,eX])) (.cons (.pure rfl) (.cons ?_ .nil))) rfl ⟨rfl,rfl⟩
  have h0:τ.ob 1=some ⟨1,1,145,false,true,[.func dG []]⟩:=hτ 1 (by simp [go_sem])
  refine .ptr h0 rfl rfl rfl (by simp) (fun i a b ha hb=>?_) (by simp [mi,go_sem])
  rw [ha] at hb
  obtain rfl:=Option.some.inj hb
  cases i with
  | zero=>simp at ha; subst ha; exact .pure rfl
  | succ i=>simp at ha
 ·rintro _ τ ⟨rfl,_,_⟩
  try simp (disch:=omega) only [go_sem,jF,↓reduceIte]
  exact aA.of_eq rfl rfl
theorem iV (l:List Rp) (i:Nat) (r:Rp) (hi:i≤l.length) (hl:l.length≤4096):PC prog jU [.list 6 (jk l),.int .i64 i,eX r] (.list 6 (jk (l.take i++r :: l.drop i))):=by
 refine ae j6 (by simp) ?_
 simp only [dK,go_sem,jF,jG,jH,↓reduceIte,reduceCtorEq,eX]
 try simp (disch:=omega) only [go_sem,jA,jB,jC,jD,jE,jF,jG,jH,jI,jJ,↓reduceIte,reduceCtorEq,jO,jM,jN,jK,jL]
 refine (eK _ (jk l) (by rw [aG]; omega)).mono ?_
 rintro X ⟨ob,m,c⟩ ⟨id,g,rfl,hid,hidn,hob,hfr⟩
 simp only at hid hidn hob hfr
 have f0:=hfr 0 (by omega)
 try simp (disch:=omega) only [go_sem,↓reduceIte] at f0
 try simp (disch:=omega) only [go_sem,jF,↓reduceIte,reduceCtorEq,f0]
 have hI:=lA ⟨ob,m,c⟩ id g (jk l) (eX r) i (by simp [mi,eX,go_sem]) hob hidn (by rw [aG]; omega) (by rw [aG]; omega)
 rw [show (jk l).take i++eX r :: (jk l).drop i=jk (l.take i++r :: l.drop i) by simp [jk]] at hI
 simp only [eX] at hI
 refine hI.mono ?_
 rintro _ ⟨ob2,m2,c2⟩ ⟨id',g',rfl,hid',_,_,h1,hk⟩
 simp only at h1 hk
 have f2:=hk 0 (by omega) (by omega)
 try simp (disch:=omega) only [go_sem,jF,↓reduceIte,reduceCtorEq]
 exact aA.cW h1 rfl (tl _) (yu _)
theorem H6 (a b:Rp):(decide (a.nu=b.nu)&&(decide (a.ac=b.ac)&&(decide (a.fd=b.fd)&&(decide (a.tm=b.tm)&&(decide (a.b.lo=b.b.lo)&&decide (a.b.hi=b.b.hi))))))=decide (a=b):=by
 obtain ⟨_,_,_,_,⟨_,_⟩⟩:=a
 obtain ⟨_,_,_,_,⟨_,_⟩⟩:=b
 rw [Bool.eq_iff_iff]
 simp
theorem eZ (op:List Ac) (rp l:List Rp) (h:∀ a∈op,lh a) (hn:op.length≤16) (hl:l.length≤5000):PC prog tN [nI ⟨op,rp⟩,.list 6 (jk l)] (nI ⟨op,l⟩):=by
 have hC:=mb (jk l) (by rw [aG]; omega) (tl _) (yu _)
 refine ae uM (by simp) ?_
 simp only [lW,go_sem,jF,jG,↓reduceIte,reduceCtorEq,nI]
 try simp (disch:=omega) only [go_sem,jA,jB,jC,jD,jE,jF,jG,jH,jI,jJ,↓reduceIte,reduceCtorEq,jO,jM,jN,jK,jL]
 refine ab hC (by simp [go_sem]) ?_
 try simp (disch:=omega) only [go_sem,jF,jG,jH,↓reduceIte,reduceCtorEq,aT]
 refine bd [7,14,15,16,17,18,19,20,21,22,23,24,25] (by kernel_rfl) op.length (fun k e σ=>e 14=.int .i64 k∧σ.ob 1=some ⟨1,2,40,false,true,[.agg [.nil,.nil]]⟩∧
   ∃ X,σ.ob 2=some ⟨2,2,40,false,true,[.agg [X,.list 6 (jk l)]]⟩∧cd 4 88 σ (nG (op.take k)) X∧aU X 1∧aU X 2) ?_ ?_
 ·exact ⟨(by first | rfl | (simp (disch:=omega) only [go_sem,jA,jB,jC,jD,jE,jF,jG,jH,jI,jJ,↓reduceIte,reduceCtorEq,jP,jO,jM,jN]; try rfl)),by try simp (disch:=omega) only [go_sem,jF,↓reduceIte],.nil,by try simp (disch:=omega) only [go_sem,↓reduceIte],cd.nil,aU.nil _,aU.nil _⟩
 rintro k fe ob m c hk hm ⟨h14,u1,X,u2,hR,o1,o2⟩
 simp (maxSteps:=1000000) only [go_sem,jF,↓reduceIte] at h14 u1 u2 hR hm
 try simp (disch:=omega) only [go_sem,jF,↓reduceIte,h14]
 refine aj (fun hlt=>?_) (fun hge=>?_)
 ·have hkl:k<op.length:=by omega
  have e1:=jd hkl
  have ha:=h _ (List.mem_of_getElem? e1)
  have hT:=vn (gA op k) ha
  have htk:op.take (k+1)=op.take k++[gA op k]:=by rw [List.take_add_one,e1]; rfl
  generalize gA op k=a at *
  simp only [iS] at hT
  have z1:¬1=m:=by omega
  have z2:¬2=m:=by omega
  try simp (disch:=omega) only [go_sem,jF,jG,jH,↓reduceIte,aT,iC,e1,Option.map_some,iS,z2,u2]
  refine ⟨by omega,by omega,?_⟩
  refine ab hT (by simp [go_sem]) ?_
  try simp (disch:=omega) only [go_sem,jF,jG,↓reduceIte]
  have hlen:(nG (op.take k)).length≤16:=by rw [aT,List.length_take]; omega
  refine bz (b:=80) (hR.move (by simp only; omega) fun i hi _=>by
   simp only at hi ⊢
   rw [aa _ _ _ _ (by omega),aa _ _ _ _ (by omega)]) (by omega) (by omega) fun X2 τ2 hR2 hK2=>?_
  have hn2:=hK2.1
  have r1:=hK2.2.1 1 (by simp only; omega) o1
  have r2:=hK2.2.1 2 (by simp only; omega) o2
  have p1:=hK2.2.2 1 (by simp only; omega) o1
  have p2:=hK2.2.2 2 (by simp only; omega) o2
  simp only at r1 r2 hn2
  try simp (disch:=omega) only [go_sem,↓reduceIte,z1,u1] at r1
  try simp (disch:=omega) only [go_sem,↓reduceIte,z2,u2] at r2
  try simp (disch:=omega) only [go_sem,jF,jH,↓reduceIte,reduceCtorEq,jO,jM,hR2.flat,hR2.cells,r2]
  refine aF τ2.n hkl (by omega) ⟨(by first | rfl | (simp (disch:=omega) only [go_sem,jA,jB,jC,jD,jE,jF,jG,jH,jI,jJ,↓reduceIte,reduceCtorEq,jP,jO,jM,jN]; try rfl)),?_,X2,?_,?_,p1,p2⟩
  ·simp only [St.aC,St.put]; rw [if_pos (by omega),aa _ _ _ _ (by omega)]; exact r1
  ·simp only [St.aC,St.put]; rw [if_pos (by omega),ay]
  ·rw [htk,show nG (op.take k++[a])=nG (op.take k)++[.agg [.int .i64 a.fr,.list 2 (cr a.st),.list 2 (cr a.ins),.list 2 (cr a.outs)]] by simp [nG,iS]]
   refine hR2.move (Nat.le_refl _) fun i hi hno=>?_
   have:¬i=2:=fun e=>hno (e ▸ p2)
   simp only [St.aC,St.put]; rw [if_pos hi,aa _ _ _ _ this]
 ·try simp (disch:=omega) only [go_sem,jF,jG,jH,↓reduceIte,u1,u2,hR.one]
  obtain rfl:op.length=k:=by omega
  rw [List.take_length] at hR
  refine aA.ag (.cons (hR.mL (fun i hi hno=>?_) (yd _) (DC _)) (.cons (.pure (by simp [go_sem])) .nil))
  have:¬i=1:=fun e=>hno (e ▸ o1)
  simp only
  rw [aa _ _ _ _ this]
theorem vq (B:Bk) (h:lD B) (r:Rp) (hr:DD B.op r):PC prog ox [nI B,eX r] (.tuple [nI (gN B r).1,.int .i64 (gN B r).2]):=by
 have hm:=h.m
 have hC:=dD B h
 have hN:=iI r hr.n1 hr.n2
 have hR:=ko B.op r h.ao hr
 have hP:=ly B h r hr.n1 hr.n2
 have hk:=we (gY B.rp) r.nu
 rw [List.length_map] at hk
 have hI:=iV B.rp (cT (gY B.rp) r.nu) r hk hm
 have hc1:=eZ B.op B.rp B.rp h.ao h.n (by omega)
 have hc2:=eZ B.op B.rp (B.rp.take (cT (gY B.rp) r.nu)++r :: B.rp.drop (cT (gY B.rp) r.nu)) h.ao h.n (by simp; omega)
 have hfs:gN B r=if (gY B.rp)[cT (gY B.rp) r.nu]?=some r.nu then (if gR B.rp (cT (gY B.rp) r.nu)=r then (B,0) else (FV,46))
  else if B.rp.length=4096 then (FV,10) else (⟨B.op,B.rp.take (cT (gY B.rp) r.nu)++r :: B.rp.drop (cT (gY B.rp) r.nu)⟩,0):=rfl
 have hlt:(gY B.rp)[cT (gY B.rp) r.nu]?=some r.nu→cT (gY B.rp) r.nu<B.rp.length:=fun e=>by
  have:=(List.getElem?_eq_some_iff.1 e).1
  rwa [List.length_map] at this
 have htb:∃ tb,decide ((gY B.rp)[cT (gY B.rp) r.nu]?=some r.nu)=tb:=⟨_,rfl⟩
 obtain ⟨tb,htb⟩:=htb
 rw [htb] at hP
 generalize gN B r=FS at *
 generalize cT (gY B.rp) r.nu=k at *
 simp only [nI,eX] at hC hN hR hP hI hc1 hc2
 refine ae oQ (by simp) ?_
 simp only [jf,go_sem,jF,jG,jH,↓reduceIte,reduceCtorEq,nI,eX]
 refine ab hC (by simp [go_sem]) ?_
 try simp (disch:=omega) only [go_sem,jF,jH,↓reduceIte]
 refine ab hN (by simp [go_sem]) ?_
 try simp (disch:=omega) only [go_sem,jF,jH,↓reduceIte,reduceCtorEq]
 refine ab hR (by simp [go_sem]) ?_
 try simp (disch:=omega) only [go_sem,jF,jG,jH,↓reduceIte,reduceCtorEq]
 refine ab hP (by simp [go_sem]) ?_
 try simp (disch:=omega) only [go_sem,jF,↓reduceIte]
 cases tb
 ·have hat:¬(gY B.rp)[k]?=some r.nu:=of_decide_eq_false htb
  rw [if_neg hat] at hfs
  try simp (disch:=omega) only [go_sem,jF,jG,jH,↓reduceIte,reduceCtorEq,aG]
  refine aj (fun hfull=>?_) (fun hroom=>?_)
  ·rw [if_pos (by omega)] at hfs
   try simp (disch:=omega) only [go_sem,jF,jG,jH,↓reduceIte]
   rw [hfs]
   exact aA.tu (.cons (aA.ag (.cons (.nl 4) (.cons (.nl 6) .nil))) (.cons (.pure rfl) .nil))
  ·rw [if_neg (by omega)] at hfs
   try simp (disch:=omega) only [go_sem,jF,jG,jH,↓reduceIte,reduceCtorEq]
   refine ab hI (by simp [go_sem]) ?_
   try simp (disch:=omega) only [go_sem,jF,↓reduceIte]
   refine ab hc2 (by simp [go_sem]) ?_
   try simp (disch:=omega) only [go_sem,jF,jG,jH,↓reduceIte,reduceCtorEq]
   rw [hfs]
   exact aA.tu (.cons (.pure (uK ⟨B.op,B.rp.take k++r :: B.rp.drop k⟩)) (.cons (.pure rfl) .nil))
 ·have hat:(gY B.rp)[k]?=some r.nu:=of_decide_eq_true htb
  rw [if_pos hat] at hfs
  have hkl:=hlt hat
  have e1:=dT hkl
  try simp (disch:=omega) only [go_sem,jF,jG,jH,↓reduceIte,reduceCtorEq,aG,ea,e1,Option.map_some,eX]
  refine ⟨by omega,by omega,?_⟩
  rw [H6]
  refine aj (fun heq=>?_) (fun hne=>?_)
  ·rw [if_pos heq] at hfs
   try simp (disch:=omega) only [go_sem,jF,jG,jH,↓reduceIte,reduceCtorEq]
   refine ab hc1 (by simp [go_sem]) ?_
   try simp (disch:=omega) only [go_sem,jF,jG,jH,↓reduceIte]
   rw [hfs]
   exact aA.tu (.cons (.pure (uK B)) (.cons (.pure rfl) .nil))
  ·rw [if_neg hne] at hfs
   try simp (disch:=omega) only [go_sem,jF,jG,jH,↓reduceIte]
   rw [hfs]
   exact aA.tu (.cons (aA.ag (.cons (.nl 4) (.cons (.nl 6) .nil))) (.cons (.pure rfl) .nil))
theorem vo (B:Bk) (h:lD B) (x:Int) (hx:x≤1073741824):PC prog xj [nI B,.int .i64 x] (.tuple [nI ⟨B.op,B.rp.take (cT (gY B.rp) (x+1))⟩,.int .i64 0]):=by
 have hm:=h.m
 have hC:=dD B h
 have hasc:=h.Jw
 have hc:=fun k=>eZ B.op B.rp (B.rp.take k) h.ao h.n (by simp; omega)
 have hbs:∀ k,k≤B.rp.length→(∀ j,j<k→(gR B.rp j).nu≤x)→(k<B.rp.length→¬(gR B.rp k).nu≤x)→cT (gY B.rp) (x+1)=k:=fun k hk h1 h2=>
  zU _ _ k (by simpa using hk) (fun j hj y hy=>by
   obtain ⟨q,hq,rfl⟩:=ed.1 hy
   have:=h1 j hj
   rw [dT (by omega)] at hq
   obtain rfl:=Option.some.inj hq
   omega) (fun j hj y hy=>by
   obtain ⟨q,hq,rfl⟩:=ed.1 hy
   have hjl:=(List.getElem?_eq_some_iff.1 hq).1
   have h3:=h2 (by omega)
   rcases Nat.eq_or_lt_of_le hj with rfl | h4
   ·rw [dT (by omega)] at hq
    obtain rfl:=Option.some.inj hq
    omega
   ·have:=vh hasc h4 (dT (by omega)) hq
    omega)
 simp only [nI] at hC hc
 refine ae xD (by simp) ?_
 simp only [oG,go_sem,jF,jG,jH,↓reduceIte,reduceCtorEq,nI]
 refine ab hC (by simp [go_sem]) ?_
 try simp (disch:=omega) only [go_sem,↓reduceIte]
 refine bd [6,11,12,13,14,15,16,17,18,19,20,21,22,23,24,25,26,27] (by kernel_rfl) B.rp.length (fun k e σ=>e 6=.int .i64 k∧σ.ob 0=some ⟨0,2,40,false,true,[.agg [.list 4 (nG B.op),.list 6 (jk B.rp)]]⟩∧σ.ob 1=some ⟨1,2,40,false,true,[.agg [.nil,.nil]]⟩∧∀ j,j<k→(gR B.rp j).nu≤x) ?_ ?_
 ·exact ⟨(by first | rfl | (simp (disch:=omega) only [go_sem,jA,jB,jC,jD,jE,jF,jG,jH,jI,jJ,↓reduceIte,reduceCtorEq,jP,jO,jM,jN]; try rfl)),by try simp (disch:=omega) only [go_sem,↓reduceIte,reduceCtorEq],by try simp (disch:=omega) only [go_sem,↓reduceIte],fun j hj=>by omega⟩
 rintro k fe ob m cc hk hm2 ⟨h6,u0,u1,hj⟩
 simp (maxSteps:=1000000) only [go_sem,↓reduceIte] at h6 u0 u1 hm2
 try simp (disch:=omega) only [go_sem,jF,jG,jH,↓reduceIte,h6,u0,aG]
 by_cases hkl:k<B.rp.length
 ·have q1:(k:Int)<(B.rp.length:Int):=by omega
  have e1:=dT hkl
  by_cases hle:(gR B.rp k).nu≤x
  ·try simp (disch:=omega) only [go_sem,jF,jG,jH,↓reduceIte,reduceCtorEq,jO,u0,q1,decide_true,aG,ea,e1,Option.map_some,eX,hle]
   refine ⟨by omega,?_⟩
   refine aF m hkl (by omega) ⟨(by first | rfl | (simp (disch:=omega) only [go_sem,jA,jB,jC,jD,jE,jF,jG,jH,jI,jJ,↓reduceIte,reduceCtorEq,jP,jO,jM,jN]; try rfl)),?_,?_,fun j hj2=>?_⟩
   ·try simp (disch:=omega) only [go_sem,jN,St.aC,u0]
   ·try simp (disch:=omega) only [go_sem,jN,St.aC,u1]
   ·rcases (by omega:j<k∨j=k) with h9 | rfl
    ·exact hj j h9
    ·exact hle
  ·try simp (disch:=omega) only [go_sem,jF,jG,jH,↓reduceIte,reduceCtorEq,u0,q1,decide_true,aG,ea,e1,Option.map_some,eX,hle,decide_false]
   refine ⟨by omega,by omega,by omega,?_⟩
   have hb:=hbs k (by omega) hj (fun _=>hle)
   rw [show (jk B.rp).take k=jk (B.rp.take k) by simp [jk]]
   refine ab (hc k) (by simp [go_sem]) ?_
   try simp (disch:=omega) only [go_sem,jF,jG,jH,↓reduceIte,reduceCtorEq,u0,u1]
   rw [hb]
   exact aA.tu (.cons (.pure (uK ⟨B.op,B.rp.take k⟩)) (.cons (.pure rfl) .nil))
 ·have q1:¬(k:Int)<(B.rp.length:Int):=by omega
  try simp (disch:=omega) only [go_sem,jF,jG,jH,↓reduceIte,u0,q1,decide_false]
  refine ⟨by omega,by rw [aG]; omega,?_⟩
  have hb:=hbs k (by omega) hj (fun h=>absurd h hkl)
  rw [show (jk B.rp).take k=jk (B.rp.take k) by simp [jk]]
  refine ab (hc k) (by simp [go_sem]) ?_
  try simp (disch:=omega) only [go_sem,jF,jG,jH,↓reduceIte,reduceCtorEq,u0,u1]
  rw [hb]
  exact aA.tu (.cons (.pure (uK ⟨B.op,B.rp.take k⟩)) (.cons (.pure rfl) .nil))
theorem mO (a b:List Rp) (ha:a.length≤9223372036854775807):PC prog nX [.list 6 (jk a),.list 6 (jk b)] (.bool (decide (a=b))):=by
 refine ae oh (by simp) ?_
 simp only [gg,go_sem,jF,↓reduceIte,reduceCtorEq,aG]
 refine bn (fun h=>?_) (fun h=>?_) <;> try simp (disch:=omega) only [go_sem,↓reduceIte,reduceCtorEq]
 ·exact aA.of_eq (by congr 1; simp; intro hab; exact h (by rw [hab])) rfl
 have hl:a.length=b.length:=by omega
 refine bK [4,5,13,14,15,16,17,18,19,20,21,22,23,24,25] (by kernel_rfl) a.length (fun k e _=>e 13=.int .i64 k∧∀ j,j<k→a[j]?=b[j]?) ?_ ?_
 ·exact ⟨(by first | rfl | (simp (disch:=omega) only [go_sem,jA,jB,jC,jD,jE,jF,jG,jH,jI,jJ,↓reduceIte,reduceCtorEq,jP,jO,jM,jN]; try rfl)),fun j hj=>by omega⟩
 ·rintro k fe ob c hk ⟨h13,hj⟩
  simp (maxSteps:=1000000) only [go_sem,jF,↓reduceIte] at h13
  try simp (disch:=omega) only [go_sem,jF,↓reduceIte,h13,aG]
  refine aj (fun hlt=>?_) (fun hge=>?_)
  ·have hka:k<a.length:=by omega
   have hga:a[k]?=some a[k]:=List.getElem?_eq_getElem hka
   have hgb:b[k]?=some b[k]:=List.getElem?_eq_getElem (by omega)
   have hE:=H6 a[k] b[k]
   generalize a[k]=x at *
   generalize b[k]=y at *
   try simp (disch:=omega) only [go_sem,jF,jH,↓reduceIte,reduceCtorEq,aG,ea,hga,hgb,Option.map_some,eX]
   refine ⟨by omega,by omega,by omega,by omega,?_⟩
   rw [hE]
   by_cases hxy:x=y
   ·subst hxy
    try simp (disch:=omega) only [go_sem,jF,↓reduceIte,jO,decide_true,Bool.not_true]
    refine bt hka ⟨(by first | rfl | (simp (disch:=omega) only [go_sem,jA,jB,jC,jD,jE,jF,jG,jH,jI,jJ,↓reduceIte,reduceCtorEq,jP,jO,jM,jN]; try rfl)),fun j hj'=>?_⟩
    by_cases e:j=k
    ·subst e; rw [hga,hgb]
    ·exact hj j (by omega)
   ·try simp (disch:=omega) only [go_sem,↓reduceIte,decide_false,Bool.not_false,hxy]
    exact aA.of_eq (by congr 1; simp; intro hab; subst hab; rw [hga] at hgb; exact hxy (Option.some.inj hgb)) rfl
  ·try simp (disch:=omega) only [go_sem,↓reduceIte]
   exact aA.of_eq (by congr 1; simp; exact ft hl fun j hj'=>hj j (by omega)) rfl
instance:DecidableEq Ac:=fun a b=>decidable_of_iff (th a b=true) u6
theorem iU (a b:List Ac) (ha:a.length≤9223372036854775807) (hA:∀ x∈a,JG x) :
  PC prog jT [.list 4 (nG a),.list 4 (nG b),.func rq []] (.bool (decide (a=b))):=by
 refine ae jZ (by simp) ?_
 simp only [dJ,go_sem,jF,↓reduceIte,reduceCtorEq,aT]
 refine bn (fun h=>?_) (fun h=>?_) <;> try simp (disch:=omega) only [go_sem,↓reduceIte,reduceCtorEq]
 ·exact aA.of_eq (by congr 1; simp; intro hab; exact h (by rw [hab])) rfl
 have hl:a.length=b.length:=by omega
 refine bd [6,7,8,9,17,18,19,20,21,22,23,24,25,26,27,28,29,30,31] (by kernel_rfl) a.length (fun k e _=>e 17=.int .i64 k∧∀ j,j<k→a[j]?=b[j]?) ?_ ?_
 ·exact ⟨(by first | rfl | (simp (disch:=omega) only [go_sem,jA,jB,jC,jD,jE,jF,jG,jH,jI,jJ,↓reduceIte,reduceCtorEq,jP,jO,jM,jN]; try rfl)),fun j hj=>by omega⟩
 ·rintro k fe ob m c hk hm ⟨h17,hj⟩
  simp (maxSteps:=1000000) only [go_sem,jF,↓reduceIte] at h17 hm
  try simp (disch:=omega) only [go_sem,jF,↓reduceIte,h17,aT]
  refine aj (fun hlt=>?_) (fun hge=>?_)
  ·have hka:k<a.length:=by omega
   have hga:a[k]?=some a[k]:=List.getElem?_eq_getElem hka
   have hgb:b[k]?=some b[k]:=List.getElem?_eq_getElem (by omega)
   have hS:=yH a[k] b[k] (hA _ (List.getElem_mem hka))
   generalize a[k]=x at *
   generalize b[k]=y at *
   simp only [iS] at hS
   try simp (disch:=omega) only [go_sem,jF,jG,jH,↓reduceIte,reduceCtorEq,jM,aT,iC,hga,hgb,Option.map_some,iS]
   refine ⟨by omega,by omega,by omega,by omega,?_⟩
   refine ab hS (by simp [go_sem]) ?_
   cases hq:th x y
   ·try simp (disch:=omega) only [go_sem,↓reduceIte]
    exact aA.of_eq (by congr 1; simp; intro hab; subst hab; rw [hga] at hgb; obtain rfl:=Option.some.inj hgb; rw [u6.2 rfl] at hq; cases hq) rfl
   ·obtain rfl:=u6.1 hq
    try simp (disch:=omega) only [go_sem,jF,↓reduceIte,jO]
    refine aF m hka (by omega) ⟨(by first | rfl | (simp (disch:=omega) only [go_sem,jA,jB,jC,jD,jE,jF,jG,jH,jI,jJ,↓reduceIte,reduceCtorEq,jP,jO,jM,jN]; try rfl)),fun j hj'=>?_⟩
    by_cases e:j=k
    ·subst e; rw [hga,hgb]
    ·exact hj j (by omega)
  ·try simp (disch:=omega) only [go_sem,↓reduceIte]
   exact aA.of_eq (by congr 1; simp; exact ft hl fun j hj'=>hj j (by omega)) rfl
instance:DecidableEq Bk:=fun a b=>decidable_of_iff (a.op=b.op∧a.rp=b.rp) (by cases a; cases b; simp)
theorem vp (A B:Bk) (ha:A.op.length≤9223372036854775807) (hA:∀ x∈A.op,JG x) (hr:A.rp.length≤9223372036854775807):PC prog xk [nI A,nI B] (.bool (decide (A=B))):=by
 obtain ⟨o,r⟩:=A
 obtain ⟨o',r'⟩:=B
 refine ae xE (by simp) ?_
 simp only [oH,go_sem,jF,jG,jH,↓reduceIte,reduceCtorEq,nI]
 try simp (disch:=omega) only [go_sem,jA,jB,jC,jD,jE,jF,jG,jH,jI,jJ,↓reduceIte,reduceCtorEq,jO,jM,jN,jK,jL]
 refine ab (iU o o' ha hA) (by simp [go_sem]) ?_
 by_cases h1:o=o'
 ·subst h1
  try simp (disch:=omega) only [go_sem,jF,jG,jH,↓reduceIte,reduceCtorEq,decide_true]
  refine ab (mO r r' hr) (by simp [go_sem]) ?_
  try simp (disch:=omega) only [go_sem,jF,↓reduceIte]
  exact aA.of_eq (by simp) rfl
 ·try simp (disch:=omega) only [go_sem,jF,↓reduceIte,h1,decide_false]
  exact aA.of_eq (by simp [h1]) rfl
end Go.Proofs.Try
