/- OWN WORK, put together by tools/asm.py, seat.py, mini.py. -/
import Derived.Test.YtcpckngdfjmbgaaGreatLib
set_option linter.unusedSimpArgs false
set_option linter.unusedVariables false
set_option maxRecDepth 100000
set_option maxHeartbeats 1000000
namespace Go.Proofs.Try
open Go.Ab Go Go.Proofs.Tryz
open Int renaming reduceEq → jA, reduceLT → jB, reduceLE → jC, reduceToNat → jD
open Go.Ab renaming iP → jM, iQ → jN, lZ → jO, iR → jP
open Nat renaming reduceLT → jE, reduceEqDiff → jF, reduceAdd → jG, reduceLeDiff → jH, reduceSub → jI, reduceMul → jJ, sub_zero → jK, sub_self → jL
def dg (l:List Int) (x:Int):Nat:=l.findIdx fun y=>decide (x≤y)
theorem wQ (l:List Int) (x:Int):dg l x≤l.length:=List.findIdx_le_length
theorem AI (l:List Int) (x:Int) (i:Nat) (hi:i≤l.length) (h1:∀ k,k<i→∀ y,l[k]?=some y→y<x) (h2:∀ k,i≤k→∀ y,l[k]?=some y→x≤y):dg l x=i:=by
 unfold dg
 by_cases h:i<l.length
 ·rw [List.findIdx_eq h]
  refine ⟨by simpa using h2 i (Nat.le_refl _) _ (List.getElem?_eq_getElem h),fun j hj=>?_⟩
  have:=h1 j hj _ (List.getElem?_eq_getElem (by omega))
  simp; omega
 ·have:i=l.length:=by omega
  subst this
  rw [List.findIdx_eq_length]
  intro y hy
  obtain ⟨k,hk⟩:=List.getElem?_of_mem hy
  have:=h1 k (List.getElem?_eq_some_iff.1 hk).1 y hk
  simp; omega
theorem FL (x:Int) (h0:0≤x) (h1:x≤9223372036854775807):BM .shr .u64 x .u64 1=some (.int .u64 (x / 2)):=by
 simp only [BM,IntKind.bits]
 rw [if_pos (by omega)]
 have:(2:Int) ^ min (1:Int).toNat 64=2:=by decide
 rw [this,Int.fdiv_eq_ediv_of_nonneg _ (by omega)]
theorem wrap_u64 {n:Int} (h0:0≤n) (h1:n≤18446744073709551615):IntKind.u64.wrap n=n:=by
 simp [IntKind.wrap,IntKind.bits,IntKind.signed]; omega
def KX (l:List Int):Prop:=∀ i j:Nat,i<j→∀ x y,l[i]?=some x→l[j]?=some y→x≤y
theorem re (l:List Int) (x:Int) (hs:KX l):l[dg l x]?=some x↔x∈l:=by
 constructor
 ·intro h; exact List.mem_of_getElem? h
 ·intro h
  have hlt:dg l x<l.length:=List.findIdx_lt_length.2 ⟨x,h,by simp⟩
  have h3:x≤l[dg l x]:=of_decide_eq_true (List.findIdx_getElem (p:=fun y=>decide (x≤y)) (w:=hlt))
  obtain ⟨i,hi⟩:=List.getElem?_of_mem h
  have h4:dg l x≤i:=by
   rcases Nat.lt_or_ge i (dg l x) with h5 | h5
   ·have:=List.not_of_lt_findIdx h5
    rw [List.getElem?_eq_some_iff] at hi
    obtain ⟨_,rfl⟩:=hi
    simp at this
   ·exact h5
  rw [List.getElem?_eq_getElem hlt]
  by_cases e:i=dg l x
  ·subst e; rw [List.getElem?_eq_getElem hlt] at hi; exact hi
  ·have:=hs _ i (by omega) _ x (List.getElem?_eq_getElem hlt) hi
   congr 1; omega
theorem GP {l:List Int} {x y:Int} (h:l[dg l x]?=some y):x≤y:=by
 obtain ⟨hlt,rfl⟩:=List.getElem?_eq_some_iff.1 h
 exact of_decide_eq_true (List.findIdx_getElem (p:=fun y=>decide (x≤y)) (w:=hlt))
theorem wP {l:List Int} {x y:Int} {k:Nat} (h:l[k]?=some y) (hy:x≤y):dg l x≤k:=by
 obtain ⟨hlt,rfl⟩:=List.getElem?_eq_some_iff.1 h
 rcases Nat.lt_or_ge k (dg l x) with h5 | h5
 ·have:=List.not_of_lt_findIdx h5
  simp at this; omega
 ·exact h5
abbrev C4:TypeId:=24
theorem mU (σ:St) (L:List AV) (hl:L.length * 16≤140737488355328):HC prog fT [.list 2 L] σ (GX σ 2 C4 L):=by
 refine aM gF (by simp) ?_
 obtain ⟨ob,n,c⟩:=σ
 simp only [gu,go_sem,↓reduceIte,reduceCtorEq]
 refine uE (fun h=>?_) (fun h=>?_)
 ·subst h
  refine ⟨?_,?_⟩
  ·try simp (disch:=omega) only [go_sem,↓reduceIte]
   refine ⟨_,_,rfl,Nat.le_succ _,Nat.lt_succ_self _,(by first | rfl | (simp (disch:=omega) only [go_sem,↓reduceIte]; try rfl)),fun i hi=>?_⟩
   simp only at hi
   try simp (disch:=omega) only [go_sem,jM]
  ·try simp (disch:=omega) only [go_sem,jF,jH,jJ,↓reduceIte,reduceCtorEq]
   repeat (refine And.intro (by first | omega | (rw [nB]; omega) | (simp [maxLen]; done) | (simp [maxLen]; omega)) ?_)
   refine ⟨_,_,rfl,Nat.le_succ _,Nat.lt_succ_self _,(by first | rfl | (simp (disch:=omega) only [go_sem,↓reduceIte]; try rfl)),fun i hi=>?_⟩
   simp only at hi
   try simp (disch:=omega) only [go_sem,jM]
 ·try simp (disch:=omega) only [go_sem,jF,↓reduceIte,reduceCtorEq]
  repeat (refine And.intro (by first | omega | (rw [nB]; omega) | (simp [maxLen]; done) | (simp [maxLen]; omega)) ?_)
  refine ⟨_,_,rfl,Nat.le_succ _,Nat.lt_succ_self _,(by first | rfl | (simp (disch:=omega) only [go_sem,↓reduceIte]; try rfl)),fun i hi=>?_⟩
  simp only at hi
  try simp (disch:=omega) only [go_sem,jM]
theorem dd (L:List AV) (hl:L.length * 16≤140737488355328) (hp:∀ x∈L,x.cQ=true) (hk:∀ x∈L,mM 2 x):PC prog fT [.list 2 L] (.list 2 L):=
 jh gF ((mU St.empty L hl).mono fun r τ ⟨id,g,h1,_,_,h2,_⟩=>by rw [h1]; exact aw.dk h2 rfl hp hk)
abbrev dC:TypeId:=26
theorem eR (σ:St) (L:List AV) (hl:L.length * 48≤140737488355328):HC prog fQ [.list 6 L] σ (GX σ 6 dC L):=by
 refine aM gC (by simp) ?_
 obtain ⟨ob,n,c⟩:=σ
 simp only [gq,go_sem,↓reduceIte,reduceCtorEq]
 refine uE (fun h=>?_) (fun h=>?_)
 ·subst h
  refine ⟨?_,?_⟩
  ·try simp (disch:=omega) only [go_sem,↓reduceIte]
   refine ⟨_,_,rfl,Nat.le_succ _,Nat.lt_succ_self _,(by first | rfl | (simp (disch:=omega) only [go_sem,↓reduceIte]; try rfl)),fun i hi=>?_⟩
   simp only at hi
   try simp (disch:=omega) only [go_sem,jM]
  ·try simp (disch:=omega) only [go_sem,jF,jH,jJ,↓reduceIte,reduceCtorEq]
   repeat (refine And.intro (by first | omega | (rw [nB]; omega) | (simp [maxLen]; done) | (simp [maxLen]; omega)) ?_)
   refine ⟨_,_,rfl,Nat.le_succ _,Nat.lt_succ_self _,(by first | rfl | (simp (disch:=omega) only [go_sem,↓reduceIte]; try rfl)),fun i hi=>?_⟩
   simp only at hi
   try simp (disch:=omega) only [go_sem,jM]
 ·try simp (disch:=omega) only [go_sem,jF,↓reduceIte,reduceCtorEq]
  repeat (refine And.intro (by first | omega | (rw [nB]; omega) | (simp [maxLen]; done) | (simp [maxLen]; omega)) ?_)
  refine ⟨_,_,rfl,Nat.le_succ _,Nat.lt_succ_self _,(by first | rfl | (simp (disch:=omega) only [go_sem,↓reduceIte]; try rfl)),fun i hi=>?_⟩
  simp only at hi
  try simp (disch:=omega) only [go_sem,jM]
theorem mG (L:List AV) (hl:L.length * 48≤140737488355328) (hp:∀ x∈L,x.cQ=true) (hk:∀ x∈L,mM 6 x):PC prog fQ [.list 6 L] (.list 6 L):=
 jh gC ((eR St.empty L hl).mono fun r τ ⟨id,g,h1,_,_,h2,_⟩=>by rw [h1]; exact aw.dk h2 rfl hp hk)
structure Ac where
 fr:Int
 st:List Bd
 ins:List Bd
 outs:List Bd
def gI (a:Ac):AV:=.agg [.int .i64 a.fr,.list 2 (cA a.st),.list 2 (cA a.ins),.list 2 (cA a.outs)]
def F7:Int:=274877906944
def eb (b:Bd):Int:=if b.lo<0∨F7<b.hi then 1 else if b.hi<b.lo then 48 else 0
def el:List Bd→Int
 | []=>0
 | b :: r=>if eb b=0 then el r else eb b
def fF (b:Bd):Prop:=0≤b.lo∧b.lo≤b.hi∧b.hi≤F7
theorem DT {b:Bd}:eb b=0↔fF b:=by
 unfold eb fF
 split
 ·simp; omega
 ·split
  ·simp; omega
  ·simp; omega
theorem yS {l:List Bd}:el l=0↔∀ b∈l,fF b:=by
 induction l with
 | nil=>simp [el]
 | cons b r ih=>
  simp only [el,List.mem_cons,forall_eq_or_imp]
  split
  ·rename_i h; rw [ih,←DT]; simp [h]
  ·rename_i h; rw [←DT]; simp [h]
theorem L8 {l:List Bd} {k:Nat} {b:Bd} (hk:l[k]?=some b) (h:∀ x∈l.take k,eb x=0):el l=if eb b=0 then el (l.drop (k+1)) else eb b:=by
 induction k generalizing l with
 | zero=>
  cases l with
  | nil=>simp at hk
  | cons x r=>simp at hk; subst hk; simp [el]
 | succ k ih=>
  cases l with
  | nil=>simp at hk
  | cons x r=>
   simp only [List.getElem?_cons_succ] at hk
   simp only [List.take_succ_cons,List.mem_cons,forall_eq_or_imp] at h
   rw [el,if_pos h.1,ih hk h.2]
   simp
def ef (a:Ac):Int:=
 if a.ins.length=0∨a.outs.length≠a.ins.length∨a.st.length≠a.ins.length+1 then 3
 else if 400<a.ins.length then 10
 else if a.fr<0∨16777216-(a.ins.length:Int)<a.fr then 6 else 0
def Ga (a:Ac):Int:=if ef a≠0 then ef a else if el a.st≠0 then el a.st else if el a.ins≠0 then el a.ins else el a.outs
structure kl (a:Ac):Prop where
 n1:1≤a.ins.length
 n2:a.ins.length≤400
 no:a.outs.length=a.ins.length
 ns:a.st.length=a.ins.length+1
 f0:0≤a.fr
 f1:a.fr≤16777216-(a.ins.length:Int)
 bs:∀ b∈a.st,fF b
 bi:∀ b∈a.ins,fF b
 bo:∀ b∈a.outs,fF b
theorem D5 {a:Ac}:Ga a=0↔kl a:=by
 have h6:ef a=0↔(1≤a.ins.length∧a.ins.length≤400∧a.outs.length=a.ins.length∧a.st.length=a.ins.length+1∧0≤a.fr∧a.fr≤16777216-(a.ins.length:Int)):=by
  unfold ef
  split
  ·simp; omega
  ·split
   ·simp; omega
   ·split
    ·simp; omega
    ·simp; omega
 have h:Ga a=0↔ef a=0∧el a.st=0∧el a.ins=0∧el a.outs=0:=by
  unfold Ga
  split
  ·rename_i h; simp [h]
  ·rename_i h
   split
   ·rename_i h2; simp [h2]
   ·rename_i h2
    split
    ·rename_i h3; simp [h3]
    ·rename_i h3; simp at h h2 h3; simp [h,h2,h3]
 rw [h,h6,yS,yS,yS]
 exact ⟨fun ⟨⟨a1,a2,a3,a4,a5,a6⟩,b1,b2,b3⟩=>⟨a1,a2,a3,a4,a5,a6,b1,b2,b3⟩,fun h=>⟨⟨h.n1,h.n2,h.no,h.ns,h.f0,h.f1⟩,h.bs,h.bi,h.bo⟩⟩
def iu (b:Bd) (v:Int):Prop:=b.lo≤v∧v≤b.hi
def dS (a b:Bd):Bd:=⟨max a.lo b.lo,min a.hi b.hi⟩
def Nh (s x y:Bd):Bd:=⟨s.lo+x.lo-y.hi,s.hi+x.hi-y.lo⟩
def KU (t x y:Bd):Bd:=⟨t.lo-x.hi+y.lo,t.hi-x.lo+y.hi⟩
def TF (s t y:Bd):Bd:=⟨t.lo-s.hi+y.lo,t.hi-s.lo+y.hi⟩
def OL (s t x:Bd):Bd:=⟨s.lo+x.lo-t.hi,s.hi+x.hi-t.lo⟩
def gX (b:Bd):Prop:=b.lo≤b.hi
section
variable (S X Y : Nat → Bd) (n : Nat)
def GN:Nat→Bd
 | 0=>S 0
 | i+1=>dS (S (i+1)) (Nh (GN i) (X i) (Y i))
def SJ:Nat→Bd
 | 0=>GN S X Y n
 | k+1=>dS (GN S X Y (n-(k+1))) (KU (SJ k) (X (n-(k+1))) (Y (n-(k+1))))
def yU (i:Nat):Bd:=SJ S X Y n (n-i)
def U7 (i:Nat):Bd:=dS (X i) (TF (yU S X Y n i) (yU S X Y n (i+1)) (Y i))
def U6 (i:Nat):Bd:=dS (Y i) (OL (yU S X Y n i) (yU S X Y n (i+1)) (X i))
structure Hi (s x y:Nat→Int):Prop where
 st:∀ i,i≤n→iu (S i) (s i)
 ins:∀ i,i<n→iu (X i) (x i)
 outs:∀ i,i<n→iu (Y i) (y i)
 PX:∀ i,i<n→s (i+1)=s i+x i-y i
end
section
variable {S X Y : Nat → Bd} {n : Nat} {s x y : Nat → Int}
theorem uQ:yU S X Y n n=GN S X Y n:=by simp [yU,SJ]
theorem gj {i:Nat} (h:i<n):yU S X Y n i=dS (GN S X Y i) (KU (yU S X Y n (i+1)) (X i) (Y i)):=by
 unfold yU
 obtain ⟨k,hk⟩:∃ k,n-i=k+1:=⟨n-i-1,by omega⟩
 rw [hk,SJ,show n-(i+1)=k by omega,show n-(k+1)=i by omega]
theorem Hi.F (h:Hi S X Y n s x y):∀ i,i≤n→iu (GN S X Y i) (s i)
 | 0,hi=>h.st 0 hi
 | i+1,hi=>by
  have h1:=h.F i (by omega)
  have h2:=h.st (i+1) hi
  have h3:=h.ins i (by omega)
  have h4:=h.outs i (by omega)
  have h5:=h.PX i (by omega)
  simp only [GN,dS,Nh,iu] at *
  omega
theorem Hi.G (h:Hi S X Y n s x y):∀ k,k≤n→iu (yU S X Y n (n-k)) (s (n-k))
 | 0,_=>by rw [Nat.sub_zero,uQ]; exact h.F n (Nat.le_refl _)
 | k+1,hk=>by
  have h1:=h.G k (by omega)
  rw [gj (by omega),show n-(k+1)+1=n-k by omega]
  have h2:=h.F (n-(k+1)) (by omega)
  have h3:=h.ins (n-(k+1)) (by omega)
  have h4:=h.outs (n-(k+1)) (by omega)
  have h5:=h.PX (n-(k+1)) (by omega)
  rw [show n-(k+1)+1=n-k by omega] at h5
  simp only [dS,KU,iu] at *
  omega
theorem Hi.B (h:Hi S X Y n s x y) {i:Nat} (hi:i≤n):iu (yU S X Y n i) (s i):=by
 have:=h.G (n-i) (by omega)
 rwa [show n-(n-i)=i by omega] at this
theorem Mf (i:Nat) (v:Int) (h:iu (GN S X Y i) v):iu (S i) v:=by
 cases i with
 | zero=>exact h
 | succ i=>simp only [GN,dS,iu] at *; omega
theorem HH {i:Nat} (hi:i≤n) {v:Int} (h:iu (yU S X Y n i) v):iu (GN S X Y i) v:=by
 by_cases e:i=n
 ·subst e; rwa [uQ] at h
 ·rw [gj (by omega)] at h
  simp only [dS,iu] at *; omega
theorem IX {a x y:Bd} (ha:gX a) (hx:gX x) (hy:gX y) {v:Int} (h:iu (Nh a x y) v):∃ p q r,iu a p∧iu x q∧iu y r∧v=p+q-r:=by
 simp only [gX,iu,Nh] at *
 by_cases h1:v≤a.hi+x.lo-y.hi
 ·exact ⟨v-x.lo+y.hi,x.lo,y.hi,by omega⟩
 ·by_cases h2:v≤a.hi+x.hi-y.hi
  ·exact ⟨a.hi,v-a.hi+y.hi,y.hi,by omega⟩
  ·exact ⟨a.hi,x.hi,a.hi+x.hi-v,by omega⟩
structure Vd (S X Y:Nat→Bd) (n:Nat):Prop where
 x:∀ i,i<n→gX (X i)
 y:∀ i,i<n→gX (Y i)
 f:∀ i,i≤n→gX (GN S X Y i)
theorem Vd.b (h:Vd S X Y n):∀ k,k≤n→gX (yU S X Y n (n-k))
 | 0,_=>by rw [Nat.sub_zero,uQ]; exact h.f n (Nat.le_refl _)
 | k+1,hk=>by
  have h1:=h.b k (by omega)
  rw [gj (by omega),show n-(k+1)+1=n-k by omega]
  have h2:=h.f (n-(k+1)) (by omega)
  have h3:=h.x (n-(k+1)) (by omega)
  have h4:=h.y (n-(k+1)) (by omega)
  have h5:=HH (S:=S) (X:=X) (Y:=Y) (show n-k≤n by omega) (v:=(yU S X Y n (n-k)).lo) (by simp only [iu,gX] at *; omega)
  have h6:=HH (S:=S) (X:=X) (Y:=Y) (show n-k≤n by omega) (v:=(yU S X Y n (n-k)).hi) (by simp only [iu,gX] at *; omega)
  rw [show n-k=(n-(k+1))+1 by omega] at h5 h6 h1 ⊢
  simp only [GN,dS,KU,Nh,iu,gX] at *
  omega
theorem Vd.B (h:Vd S X Y n) {i:Nat} (hi:i≤n):gX (yU S X Y n i):=by
 have:=h.b (n-i) (by omega)
 rwa [show n-(n-i)=i by omega] at this
theorem Vd.on (h:Vd S X Y n) {i:Nat} (hi:i<n) {v:Int} (hv:iu (yU S X Y n i) v):∃ q r,iu (X i) q∧iu (Y i) r∧iu (yU S X Y n (i+1)) (v+q-r):=by
 have h2:=h.B (show i+1≤n from hi)
 have h3:=h.x i hi
 have h4:=h.y i hi
 rw [gj hi] at hv
 obtain ⟨p,q,r,h5,h6,h7,h8⟩:=IX (a:=yU S X Y n (i+1)) (x:=Y i) (y:=X i) h2 h4 h3 (v:=v) (by simp only [dS,KU,Nh,iu] at *; omega)
 exact ⟨r,q,h7,h6,by rw [show v+r-q=p by omega]; exact h5⟩
theorem Vd.back (h:Vd S X Y n) {i:Nat} (hi:i<n) {v:Int} (hv:iu (yU S X Y n (i+1)) v):∃ p q r,iu (X i) q∧iu (Y i) r∧iu (yU S X Y n i) p∧v=p+q-r:=by
 have h2:=h.f i (by omega)
 have h3:=h.x i hi
 have h4:=h.y i hi
 have h5:=HH (show i+1≤n from hi) hv
 obtain ⟨p,q,r,h6,h7,h8,h9⟩:=IX (a:=GN S X Y i) (x:=X i) (y:=Y i) h2 h3 h4 (v:=v) (by simp only [GN,dS,iu] at *; omega)
 refine ⟨p,q,r,h7,h8,?_,h9⟩
 rw [gj hi]
 simp only [dS,KU,iu] at *
 omega
theorem Vd.TG (h:Vd S X Y n):∀ (i:Nat),i≤n→∀ v,iu (yU S X Y n i) v→∃ s x y:Nat→Int,s i=v∧(∀ j,j≤i→iu (yU S X Y n j) (s j))∧∀ j,j<i→iu (X j) (x j)∧iu (Y j) (y j)∧s (j+1)=s j+x j-y j
 | 0,_,v,hv=>⟨fun _=>v,fun _=>0,fun _=>0,rfl,fun j h1=>by rw [show j=0 by omega]; exact hv,fun j h1=>by omega⟩
 | i+1,hi,v,hv=>by
  obtain ⟨p,q,r,h1,h2,h3,h4⟩:=h.back (show i<n by omega) hv
  obtain ⟨s,x,y,h5,h6,h7⟩:=h.TG i (by omega) p h3
  refine ⟨fun j=>if j=i+1 then v else s j,fun j=>if j=i then q else x j,fun j=>if j=i then r else y j,by simp,fun j a=>?_,fun j a=>?_⟩
  ·simp only
   split
   ·rename_i e; rw [e]; exact hv
   ·exact h6 j (by omega)
  ·simp only
   by_cases e:j=i
   ·subst e
    rw [if_pos rfl,if_pos rfl,if_pos rfl,if_neg (by omega)]
    exact ⟨h1,h2,by rw [h5]; exact h4⟩
   ·rw [if_neg e,if_neg e,if_neg (by omega),if_neg (by omega)]
    exact h7 j (by omega)
theorem Hi.vd (h:Hi S X Y n s x y):Vd S X Y n:=
 ⟨fun i hi=>by have:=h.ins i hi; simp only [iu,gX] at *; omega,fun i hi=>by have:=h.outs i hi; simp only [iu,gX] at *; omega,fun i hi=>by have:=h.F i hi; simp only [iu,gX] at *; omega⟩
end
theorem Mm (a:Ac):(gI a).cQ=true:=by simp [gI,go_sem]
theorem vS {x:AV} (h:x.one=true):x.cells=[x]:=by cases x <;> simp_all [AV.one,AV.cells]
def Np (σ τ:St):Prop:=σ.n≤τ.n∧∀ k,k<σ.n→τ.ob k=σ.ob k
theorem yj (σ:St) (id g:Nat) (ty:TypeId) (f x y z:AV) (hob:σ.ob id=some ⟨g,4,ty,false,true,[.agg [f,x,y,z]]⟩) (hx:x.one=true) (hy:y.one=true) (hz:z.one=true) (hid:id<σ.n) :
  HC prog zQ [.ptr id g 4 0 0] σ (fun r τ=>r=.agg [x,y,z]∧Np σ τ):=by
 obtain ⟨ob,n,c⟩:=σ
 simp only at hob hid
 refine aM AS (by simp) ?_
 have hn:¬id=n:=by omega
 have cx:=vS hx
 have cy:=vS hy
 have cz:=vS hz
 simp only [qE,go_sem,jF,jG,jH,↓reduceIte,reduceCtorEq,hob,hn]
 try simp (disch:=omega) only [go_sem,jG,hx,hy,hz,cx,cy,cz]
 have one_flat:∀ {x:AV},x.one=true→x.flat=true:=fun {x} h=>by cases x <;> simp_all [AV.one,AV.flat]
 refine ⟨⟨one_flat hx,one_flat hy,one_flat hz⟩,Nat.le_succ _,fun k hk=>?_⟩
 simp only at hk
 have h1:¬k=n:=by omega
 try simp (disch:=omega) only [go_sem,↓reduceIte,h1]
theorem iK (b c:Bd):PC prog DA [pw b,pw c] (pw (dS b c)):=by
 refine ae Ef (by simp) ?_
 simp only [uY,go_sem,jF,jG,jH,↓reduceIte,reduceCtorEq,pw]
 exact aw.of_eq rfl (by simp [go_sem])
theorem vX (a:Ac) (hl:a.ins.length≤9223372036854775807) (hs:a.st.length≤9223372036854775807):PC prog x6 [gI a] (.int .i64 (ef a)):=by
 refine ae yu (by simp) ?_
 simp only [ph,go_sem,jF,jG,jH,↓reduceIte,gI,aJ]
 have e3:∀ {σ:St},(a.ins.length=0∨a.outs.length≠a.ins.length∨a.st.length≠a.ins.length+1)→aw σ (.int .i64 3) (.int .i64 (ef a)):=fun h=>aw.of_eq (by simp only [ef,if_pos h]) rfl
 refine bH rfl (fun h=>?_) (fun h=>?_) <;> try simp (disch:=omega) only [go_sem,jF,jG,jH,↓reduceIte,aJ]
 ·exact e3 (.inl (by omega))
 refine iZ rfl (fun h2=>?_) (fun h2=>?_) <;> try simp (disch:=omega) only [go_sem,jF,jG,jH,↓reduceIte,aJ]
 ·exact e3 (.inr (.inl (by omega)))
 by_cases hnb:a.ins.length=9223372036854775807
 ·have hw:IntKind.i64.wrap ((a.ins.length:Int)+1)=-9223372036854775808:=by rw [hnb]; decide
  try simp (disch:=omega) only [go_sem,↓reduceIte,reduceCtorEq,hw]
  exact e3 (.inr (.inr (by omega)))
 try simp (disch:=omega) only [go_sem,jO]
 refine aY (fun h3=>?_) (fun h3=>?_) <;> try simp (disch:=omega) only [go_sem,jF,↓reduceIte]
 ·exact e3 (.inr (.inr (by omega)))
 have hf:¬(a.ins.length=0∨a.outs.length≠a.ins.length∨a.st.length≠a.ins.length+1):=by omega
 refine ah (fun h4=>?_) (fun h4=>?_) <;> try simp (disch:=omega) only [go_sem,jF,jH,↓reduceIte]
 ·exact aw.of_eq (by simp only [ef,if_neg hf]; rw [if_pos (by omega)]) rfl
 refine bH rfl (fun h5=>?_) (fun h5=>?_) <;> try simp (disch:=omega) only [go_sem,jF,jH,↓reduceIte,jO]
 ·exact aw.of_eq (by simp only [ef,if_neg hf]; rw [if_neg (by omega),if_pos (.inl h5)]) rfl
 refine ah (fun h6=>?_) (fun h6=>?_) <;> try simp (disch:=omega) only [go_sem,↓reduceIte]
 ·exact aw.of_eq (by simp only [ef,if_neg hf]; rw [if_neg (by omega),if_pos (.inr h6)]) rfl
 exact aw.of_eq (by simp only [ef,if_neg hf]; rw [if_neg (by omega),if_neg (by omega)]) rfl
def Jq (a:Ac) (k:Nat) (l:List Bd):Prop:=(k=0∧l=a.st)∨(k=1∧l=a.ins)∨(k=2∧l=a.outs)
def xr (a:Ac) (k:Nat):Prop:=(1≤k→el a.st=0)∧(2≤k→el a.ins=0)∧(3≤k→el a.outs=0)
theorem Ho (a:Ac) {k:Nat} (h:k<3):∃ l,Jq a k l∧[AV.list 2 (cA a.st),.list 2 (cA a.ins),.list 2 (cA a.outs)][k]?=some (.list 2 (cA l)):=by
 rcases (by omega:k=0∨k=1∨k=2) with rfl | rfl | rfl
 ·exact ⟨_,.inl ⟨rfl,rfl⟩,rfl⟩
 ·exact ⟨_,.inr (.inl ⟨rfl,rfl⟩),rfl⟩
 ·exact ⟨_,.inr (.inr ⟨rfl,rfl⟩),rfl⟩
theorem Al {a:Ac} {k:Nat} {l:List Bd} (hg:xr a k) (hn:Jq a k l) (h:el l=0):xr a (k+1):=by
 unfold xr at *
 rcases hn with ⟨rfl,rfl⟩ | ⟨rfl,rfl⟩ | ⟨rfl,rfl⟩
 ·exact ⟨fun _=>h,fun h=>by omega,fun h=>by omega⟩
 ·exact ⟨fun _=>hg.1 (by omega),fun _=>h,fun h=>by omega⟩
 ·exact ⟨fun _=>hg.1 (by omega),fun _=>hg.2.1 (by omega),fun _=>h⟩
theorem HG {a:Ac} {k:Nat} {l:List Bd} (hf:ef a=0) (hg:xr a k) (hn:Jq a k l) {j:Nat} {b:Bd} (hj:l[j]?=some b) (ht:∀ x∈l.take j,eb x=0) (hb:eb b≠0):Ga a=eb b:=by
 have h:el l=eb b:=by rw [L8 hj ht,if_neg hb]
 unfold xr at hg
 unfold Ga
 rw [if_neg (by simp [hf])]
 rcases hn with ⟨rfl,rfl⟩ | ⟨rfl,rfl⟩ | ⟨rfl,rfl⟩
 ·rw [if_pos (by rw [h]; exact hb),h]
 ·rw [if_neg (by simp [hg.1 (by omega)]),if_pos (by rw [h]; exact hb),h]
 ·rw [if_neg (by simp [hg.1 (by omega)]),if_neg (by simp [hg.2.1 (by omega)]),h]
theorem FC {a:Ac} (hf:ef a=0) (hg:xr a 3):Ga a=0:=by
 unfold Ga
 rw [if_neg (by simp [hf]),if_neg (by simp [hg.1 (by omega)]),if_neg (by simp [hg.2.1 (by omega)]),hg.2.2 (by omega)]
theorem JX {l:List Bd} (h:∀ x∈l,eb x=0):el l=0:=yS.2 fun b hb=>DT.1 (h b hb)
theorem rH {l:List Bd} {j:Nat} {b:Bd} (hj:l[j]?=some b) (h:∀ x∈l.take j,eb x=0) (hb:eb b=0):∀ x∈l.take (j+1),eb x=0:=by
 intro x hx
 rw [List.take_add_one,hj] at hx
 simp only [Option.toList,List.mem_append,List.mem_singleton] at hx
 rcases hx with hx | rfl
 ·exact h x hx
 ·exact hb
def II (a:Ac):Prop:=a.st.length≤9223372036854775807∧a.ins.length≤9223372036854775807∧a.outs.length≤9223372036854775807
theorem II.nth {a:Ac} (h:II a) {k:Nat} {l:List Bd} (hn:Jq a k l):l.length≤9223372036854775807:=by
 rcases hn with ⟨_,rfl⟩ | ⟨_,rfl⟩ | ⟨_,rfl⟩
 ·exact h.1
 ·exact h.2.1
 ·exact h.2.2
theorem pS (a:Ac) (hl:II a):PC prog Bw [gI a] (.int .i64 (Ga a)):=by
 refine ae BS (by simp) ?_
 simp only [sr,go_sem,jF,jG,jH,↓reduceIte,gI]
 refine ab (vX a hl.2.1 hl.1) (by simp [go_sem]) ?_
 try simp (disch:=omega) only [go_sem,↓reduceIte]
 refine aY (fun h=>?_) (fun h=>?_) <;> try simp (disch:=omega) only [go_sem,jF,jG,jH,↓reduceIte]
 ·exact aw.of_eq (by simp only [Ga]; rw [if_pos h]) rfl
 refine bq [2,5,7,21,22,23,24,25,26,27,28,29,30,31,32,33,34,35,36,37,38,39,40,41,42,43,44,45] (by kernel_rfl) 3 (fun k e σ=>e 21=.int .i64 k∧xr a k) ?_ ?_
 ·exact ⟨(by first | rfl | (simp (disch:=omega) only [go_sem,jA,jB,jC,jD,jE,jF,jG,jH,jI,jJ,↓reduceIte,reduceCtorEq,jP,jO,jM,jN]; try rfl)),fun h=>by omega,fun h=>by omega,fun h=>by omega⟩
 ·rintro k fe ob c hk ⟨h21,hg⟩
  simp (maxSteps:=1000000) only [go_sem,jF,↓reduceIte] at h21
  try simp (disch:=omega) only [go_sem,jF,↓reduceIte,h21]
  refine ah (fun hlt=>?_) (fun hge=>?_)
  ·have hk3:k<3:=by omega
   obtain ⟨l,hn,hk2⟩:=Ho a hk3
   try simp (disch:=omega) only [go_sem,jF,jG,jH,↓reduceIte,hk2,aJ]
   refine ⟨by omega,by omega,?_⟩
   have hll:=hl.nth hn
   refine bq [2,7,27,28,29,30,31,32,33,34,35,36,37,38,39,40,41,42,43,44] (by kernel_rfl) l.length (fun j e σ=>e 27=.int .i64 j∧∀ x∈l.take j,eb x=0) ?_ ?_
   ·exact ⟨(by first | rfl | (simp (disch:=omega) only [go_sem,jA,jB,jC,jD,jE,jF,jG,jH,jI,jJ,↓reduceIte,reduceCtorEq,jP,jO,jM,jN]; try rfl)),by simp⟩
   ·rintro j fe2 ob2 c2 hj ⟨h27,ht⟩
    simp (maxSteps:=1000000) only [go_sem,jF,↓reduceIte] at h27
    try simp (disch:=omega) only [go_sem,jF,↓reduceIte,h27]
    refine ah (fun hlt=>?_) (fun hge=>?_)
    ·have hjl:j<l.length:=by omega
     have hj2:l[j]?=some l[j]:=List.getElem?_eq_getElem hjl
     generalize l[j]=b at *
     try simp (disch:=omega) only [go_sem,jF,jG,jH,↓reduceIte,hj2,dX,aJ,Option.map_some,pw]
     refine ⟨by omega,by omega,?_⟩
     have hbad:=HG h hg hn hj2 ht
     refine bH rfl (fun g1=>?_) (fun g1=>?_) <;> try simp (disch:=omega) only [go_sem,jF,jG,jH,↓reduceIte]
     ·have e:eb b=1:=by unfold eb; rw [if_pos (.inl g1)]
      exact aw.of_eq (by rw [hbad (by omega),e]) rfl
     refine ah (fun g2=>?_) (fun g2=>?_) <;> try simp (disch:=omega) only [go_sem,jF,jG,jH,↓reduceIte]
     ·have e:eb b=1:=by unfold eb F7; rw [if_pos (.inr g2)]
      exact aw.of_eq (by rw [hbad (by omega),e]) rfl
     refine ah (fun g3=>?_) (fun g3=>?_) <;> try simp (disch:=omega) only [go_sem,jF,↓reduceIte,jO]
     ·have e:eb b=48:=by unfold eb F7; rw [if_neg (by omega),if_pos g3]
      exact aw.of_eq (by rw [hbad (by omega),e]) rfl
     try simp (disch:=omega) only [go_sem,jA,jB,jC,jD,jE,jF,jG,jH,jI,jJ,↓reduceIte,reduceCtorEq,jO,jM,jN,jK,jL,h27]
     refine bj hjl ⟨(by first | rfl | (simp (disch:=omega) only [go_sem,jA,jB,jC,jD,jE,jF,jG,jH,jI,jJ,↓reduceIte,reduceCtorEq,jP,jO,jM,jN]; try rfl)),rH hj2 ht ?_⟩
     unfold eb F7; rw [if_neg (by omega),if_neg (by omega)]
    ·try simp (disch:=omega) only [go_sem,jF,↓reduceIte,jO]
     have:j=l.length:=by omega
     subst this
     rw [List.take_length] at ht
     exact bj hk3 ⟨(by first | rfl | (simp (disch:=omega) only [go_sem,jA,jB,jC,jD,jE,jF,jG,jH,jI,jJ,↓reduceIte,reduceCtorEq,jP,jO,jM,jN]; try rfl)),Al hg hn (JX ht)⟩
  ·try simp (disch:=omega) only [go_sem,↓reduceIte]
   have:k=3:=by omega
   subst this
   exact aw.of_eq (by rw [FC h hg]) rfl
theorem LL (a:Ac) {k:Nat} (h:k<3):∃ l,Jq a k l∧([.list 2 (cA a.st),.list 2 (cA a.ins),.list 2 (cA a.outs)]:List AV).getD (k * 1) .bF=.list 2 (cA l):=by
 obtain ⟨l,h1,h2⟩:=Ho a h
 exact ⟨l,h1,by rw [Nat.mul_one,List.getD_eq_getElem?_getD,h2]; rfl⟩
theorem xS (a:Ac) (hl:II a):PC prog zR [gI a] (.int .i64 (Ga a)):=by
 have l1:=hl.1
 have l2:=hl.2.1
 have l3:=hl.2.2
 refine ae AT (by simp) ?_
 simp only [qF,go_sem,jF,jG,jH,↓reduceIte,gI,aJ]
 have e3:∀ {σ:St},(a.ins.length=0∨a.outs.length≠a.ins.length∨a.st.length≠a.ins.length+1)→aw σ (.int .i64 3) (.int .i64 (Ga a)):=fun h=>aw.of_eq (by
  have:ef a=3:=by simp only [ef,if_pos h]
  simp [Ga,this]) rfl
 have ee:∀ {σ:St} {e:Int},ef a=e→e≠0→aw σ (.int .i64 e) (.int .i64 (Ga a)):=fun {σ e} h h0=>aw.of_eq (by
  unfold Ga
  rw [if_pos (by omega),h]) rfl
 refine bH rfl (fun h=>?_) (fun h=>?_) <;> try simp (disch:=omega) only [go_sem,jF,jG,jH,↓reduceIte,aJ]
 ·exact e3 (.inl (by omega))
 refine iZ rfl (fun h2=>?_) (fun h2=>?_) <;> try simp (disch:=omega) only [go_sem,jF,jG,jH,↓reduceIte,aJ]
 ·exact e3 (.inr (.inl (by omega)))
 by_cases hnb:a.ins.length=9223372036854775807
 ·have hw:IntKind.i64.wrap ((a.ins.length:Int)+1)=-9223372036854775808:=by rw [hnb]; decide
  try simp (disch:=omega) only [go_sem,↓reduceIte,reduceCtorEq,hw]
  exact e3 (.inr (.inr (by omega)))
 try simp (disch:=omega) only [go_sem,jO]
 refine aY (fun h3=>?_) (fun h3=>?_) <;> try simp (disch:=omega) only [go_sem,jF,↓reduceIte]
 ·exact e3 (.inr (.inr (by omega)))
 have hf0:¬(a.ins.length=0∨a.outs.length≠a.ins.length∨a.st.length≠a.ins.length+1):=by omega
 refine ah (fun h4=>?_) (fun h4=>?_) <;> try simp (disch:=omega) only [go_sem,jF,jH,↓reduceIte]
 ·exact ee (by simp only [ef,if_neg hf0]; rw [if_pos (by omega)]) (by omega)
 refine bH rfl (fun h5=>?_) (fun h5=>?_) <;> try simp (disch:=omega) only [go_sem,jF,jH,↓reduceIte,jO]
 ·exact ee (by simp only [ef,if_neg hf0]; rw [if_neg (by omega),if_pos (.inl h5)]) (by omega)
 refine ah (fun h6=>?_) (fun h6=>?_) <;> try simp (disch:=omega) only [go_sem,jF,↓reduceIte]
 ·exact ee (by simp only [ef,if_neg hf0]; rw [if_neg (by omega),if_pos (.inr h6)]) (by omega)
 have h:ef a=0:=by simp only [ef,if_neg hf0]; rw [if_neg (by omega),if_neg (by omega)]
 refine (yj _ 0 _ _ _ _ _ _ rfl rfl rfl rfl (by simp [go_sem])).mono ?_
 rintro _ τ ⟨rfl,hn0,hτ⟩
 obtain ⟨ob,m,cc⟩:=τ
 try simp (disch:=omega) only [go_sem]
 refine bq [2,5,7,44,45,46,47,48,49,50,51,52,53,54,55,56,57,58,59,60,61,62,63,64,65,66,67] (by kernel_rfl) 3 (fun k e σ=>e 44=.int .i64 k∧xr a k) ?_ ?_
 ·exact ⟨(by first | rfl | (simp (disch:=omega) only [go_sem,jA,jB,jC,jD,jE,jF,jG,jH,jI,jJ,↓reduceIte,reduceCtorEq,jP,jO,jM,jN]; try rfl)),fun h=>by omega,fun h=>by omega,fun h=>by omega⟩
 ·rintro k fe ob c hk ⟨h21,hg⟩
  simp (maxSteps:=1000000) only [go_sem,jF,↓reduceIte] at h21
  try simp (disch:=omega) only [go_sem,jF,↓reduceIte,h21]
  refine ah (fun hlt=>?_) (fun hge=>?_)
  ·have hk3:k<3:=by omega
   obtain ⟨l,hn,hk2⟩:=LL a hk3
   try simp (disch:=omega) only [go_sem,jF,jG,↓reduceIte,hk2,aJ]
   refine ⟨by omega,by omega,by omega,?_⟩
   have hll:=hl.nth hn
   refine bq [2,7,49,50,51,52,53,54,55,56,57,58,59,60,61,62,63,64,65,66] (by kernel_rfl) l.length (fun j e σ=>e 49=.int .i64 j∧∀ x∈l.take j,eb x=0) ?_ ?_
   ·exact ⟨(by first | rfl | (simp (disch:=omega) only [go_sem,jA,jB,jC,jD,jE,jF,jG,jH,jI,jJ,↓reduceIte,reduceCtorEq,jP,jO,jM,jN]; try rfl)),by simp⟩
   ·rintro j fe2 ob2 c2 hj ⟨h27,ht⟩
    simp (maxSteps:=1000000) only [go_sem,jF,↓reduceIte] at h27
    try simp (disch:=omega) only [go_sem,jF,↓reduceIte,h27]
    refine ah (fun hlt=>?_) (fun hge=>?_)
    ·have hjl:j<l.length:=by omega
     have hj2:l[j]?=some l[j]:=List.getElem?_eq_getElem hjl
     generalize l[j]=b at *
     try simp (disch:=omega) only [go_sem,jF,jG,jH,↓reduceIte,hj2,dX,aJ,Option.map_some,pw]
     refine ⟨by omega,by omega,?_⟩
     have hbad:=HG h hg hn hj2 ht
     refine bH rfl (fun g1=>?_) (fun g1=>?_) <;> try simp (disch:=omega) only [go_sem,jF,jG,jH,↓reduceIte]
     ·have e:eb b=1:=by unfold eb; rw [if_pos (.inl g1)]
      exact aw.of_eq (by rw [hbad (by omega),e]) rfl
     refine ah (fun g2=>?_) (fun g2=>?_) <;> try simp (disch:=omega) only [go_sem,jF,jG,jH,↓reduceIte]
     ·have e:eb b=1:=by unfold eb F7; rw [if_pos (.inr g2)]
      exact aw.of_eq (by rw [hbad (by omega),e]) rfl
     refine ah (fun g3=>?_) (fun g3=>?_) <;> try simp (disch:=omega) only [go_sem,jF,↓reduceIte,jO]
     ·have e:eb b=48:=by unfold eb F7; rw [if_neg (by omega),if_pos g3]
      exact aw.of_eq (by rw [hbad (by omega),e]) rfl
     try simp (disch:=omega) only [go_sem,jA,jB,jC,jD,jE,jF,jG,jH,jI,jJ,↓reduceIte,reduceCtorEq,jO,jM,jN,jK,jL,h27]
     refine bj hjl ⟨(by first | rfl | (simp (disch:=omega) only [go_sem,jA,jB,jC,jD,jE,jF,jG,jH,jI,jJ,↓reduceIte,reduceCtorEq,jP,jO,jM,jN]; try rfl)),rH hj2 ht ?_⟩
     unfold eb F7; rw [if_neg (by omega),if_neg (by omega)]
    ·try simp (disch:=omega) only [go_sem,jF,↓reduceIte,jO]
     have:j=l.length:=by omega
     subst this
     rw [List.take_length] at ht
     exact bj hk3 ⟨(by first | rfl | (simp (disch:=omega) only [go_sem,jA,jB,jC,jD,jE,jF,jG,jH,jI,jJ,↓reduceIte,reduceCtorEq,jP,jO,jM,jN]; try rfl)),Al hg hn (JX ht)⟩
  ·try simp (disch:=omega) only [go_sem,↓reduceIte]
   have:k=3:=by omega
   subst this
   exact aw.of_eq (by rw [FC h hg]) rfl
def vG (n:Nat) (f:Nat→Bd):List Bd:=(List.range n).map f
theorem bl (n:Nat) (f:Nat→Bd):(vG n f).length=n:=by simp [vG]
theorem uz {n i:Nat} (f:Nat→Bd) (h:i<n):(vG n f)[i]?=some (f i):=by simp [vG,h]
theorem yL {n i:Nat} (f g:Nat→Bd) (b:Bd) (hi:i<n) (hg:g i=b) (ho:∀ j,j<n→j≠i→g j=f j):(vG n f).set i b=vG n g:=by
 apply List.ext_getElem?
 intro j
 rw [List.getElem?_set]
 by_cases e:i=j
 ·subst e
  rw [if_pos rfl,bl,if_pos hi,uz g hi,hg]
 ·rw [if_neg e]
  by_cases hj:j<n
  ·rw [uz f hj,uz g hj,ho j hj (Ne.symm e)]
  ·rw [List.getElem?_eq_none (by rw [bl]; omega),List.getElem?_eq_none (by rw [bl]; omega)]
theorem mh {n:Nat} {f g:Nat→Bd} (h:∀ j,j<n→f j=g j):vG n f=vG n g:=by
 apply List.map_congr_left
 intro j hj
 exact h j (List.mem_range.1 hj)
theorem zW (L:List Bd):vG L.length (fun i=>L.getD i default)=L:=by
 apply List.ext_getElem?
 intro j
 by_cases hj:j<L.length
 ·rw [uz _ hj,List.getD_eq_getElem?_getD,List.getElem?_eq_getElem hj]; rfl
 ·rw [List.getElem?_eq_none (by rw [bl]; omega),List.getElem?_eq_none (by omega)]
def gB (L:List Bd) (i:Nat):Bd:=L.getD i default
theorem cT {L:List Bd} {i:Nat} (h:i<L.length):L[i]?=some (gB L i):=by rw [gB,List.getD_eq_getElem?_getD,List.getElem?_eq_getElem h]; rfl
theorem Hw {n i:Nat} (f:Nat→Bd) (h:i<n):gB (vG n f) i=f i:=by rw [gB,List.getD_eq_getElem?_getD,uz f h]; rfl
theorem fF.val {b:Bd} (h:fF b):gX b:=h.2.1
theorem Fc {b c:Bd} (hb:fF b) (h:gX (dS b c)):fF (dS b c):=by
 simp only [fF,gX,dS] at *
 omega
section
variable {S X Y : List Bd} {n : Nat}
structure vF (S X Y:List Bd) (n:Nat):Prop where
 s:S.length=n+1
 x:X.length=n
 y:Y.length=n
 fs:∀ b∈S,fF b
 fx:∀ b∈X,fF b
 fy:∀ b∈Y,fF b
theorem vF.gs (h:vF S X Y n) {i:Nat} (hi:i≤n):fF (gB S i):=h.fs _ (List.mem_of_getElem? (cT (by rw [h.s]; omega)))
theorem vF.gx (h:vF S X Y n) {i:Nat} (hi:i<n):fF (gB X i):=h.fx _ (List.mem_of_getElem? (cT (by rw [h.x]; omega)))
theorem vF.gy (h:vF S X Y n) {i:Nat} (hi:i<n):fF (gB Y i):=h.fy _ (List.mem_of_getElem? (cT (by rw [h.y]; omega)))
def cF (S X Y:List Bd) (i:Nat):Bd:=GN (gB S) (gB X) (gB Y) i
def cB (S X Y:List Bd) (n i:Nat):Bd:=yU (gB S) (gB X) (gB Y) n i
def cX (S X Y:List Bd) (n i:Nat):Bd:=U7 (gB S) (gB X) (gB Y) n i
def cY (S X Y:List Bd) (n i:Nat):Bd:=U6 (gB S) (gB X) (gB Y) n i
def VD (S X Y:List Bd) (n:Nat):Prop:=∀ i,i≤n→gX (cF S X Y i)
theorem vF.vd (h:vF S X Y n) (hv:VD S X Y n):Vd (gB S) (gB X) (gB Y) n:=⟨fun i hi=>(h.gx hi).val,fun i hi=>(h.gy hi).val,hv⟩
theorem D7 (h:vF S X Y n):∀ {i:Nat},i≤n→gX (cF S X Y i)→fF (cF S X Y i)
 | 0,hi,_=>h.gs hi
 | _+1,hi,hv=>Fc (h.gs hi) hv
theorem AG (h:vF S X Y n) (hv:VD S X Y n) {i:Nat} (hi:i≤n):fF (cB S X Y n i):=by
 have h1:=(h.vd hv).B hi
 by_cases e:i=n
 ·subst e; unfold cB; rw [uQ]; exact D7 h (Nat.le_refl _) (hv _ (Nat.le_refl _))
 ·unfold cB; rw [gj (by omega)] at h1 ⊢; exact Fc (D7 h hi (hv i hi)) h1
def EE (S X Y:List Bd) (n k:Nat):List Bd:=vG (n+1) fun j=>if j≤k then cF S X Y j else gB S j
def HN (S X Y:List Bd) (n k:Nat):List Bd:=vG (n+1) fun j=>if n-k≤j then cB S X Y n j else cF S X Y j
def IJ (S X Y:List Bd) (n k:Nat):List Bd:=vG n fun j=>if j<k then cX S X Y n j else gB X j
def KV (S X Y:List Bd) (n k:Nat):List Bd:=vG n fun j=>if j<k then cY S X Y n j else gB Y j
theorem Kk (h:vF S X Y n):EE S X Y n 0=S:=by
 refine Eq.trans (mh (g:=fun i=>S.getD i default) fun j _=>?_) (by have:=zW S; rwa [h.s] at this)
 split
 ·rename_i e; obtain rfl:j=0:=by omega
  rfl
 ·rfl
theorem Mi:EE S X Y n n=vG (n+1) (cF S X Y):=mh fun j hj=>by rw [if_pos (by omega)]
theorem Ko:HN S X Y n 0=vG (n+1) (cF S X Y):=mh fun j hj=>by
 split
 ·rename_i e; obtain rfl:j=n:=by omega
  exact uQ
 ·rfl
theorem Mj:HN S X Y n n=vG (n+1) (cB S X Y n):=mh fun j hj=>by rw [if_pos (by omega)]
theorem Ki (h:vF S X Y n):IJ S X Y n 0=X:=by
 refine Eq.trans (mh (g:=fun i=>X.getD i default) fun j _=>?_) (by have:=zW X; rwa [h.x] at this)
 rw [if_neg (by omega)]; rfl
theorem Kg (h:vF S X Y n):KV S X Y n 0=Y:=by
 refine Eq.trans (mh (g:=fun i=>Y.getD i default) fun j _=>?_) (by have:=zW Y; rwa [h.y] at this)
 rw [if_neg (by omega)]; rfl
theorem HL:IJ S X Y n n=vG n (cX S X Y n):=mh fun j hj=>by rw [if_pos (by omega)]
theorem HK:KV S X Y n n=vG n (cY S X Y n):=mh fun j hj=>by rw [if_pos (by omega)]
theorem Km {k:Nat} (hk:k<n):(EE S X Y n k).set (k+1) (cF S X Y (k+1))=EE S X Y n (k+1):=
 yL _ _ _ (by omega) (by rw [if_pos (by omega)]) fun j _ hj=>by
  by_cases e:j≤k
  ·rw [if_pos e,if_pos (by omega)]
  ·rw [if_neg e,if_neg (by omega)]
theorem Kq {k:Nat} (hk:k<n):(HN S X Y n k).set (n-(k+1)) (cB S X Y n (n-(k+1)))=HN S X Y n (k+1):=
 yL _ _ _ (by omega) (by rw [if_pos (by omega)]) fun j _ hj=>by
  by_cases e:n-k≤j
  ·rw [if_pos e,if_pos (by omega)]
  ·rw [if_neg e,if_neg (by omega)]
theorem Kj {k:Nat} (hk:k<n):(IJ S X Y n k).set k (cX S X Y n k)=IJ S X Y n (k+1):=
 yL _ _ _ hk (by rw [if_pos (by omega)]) fun j _ hj=>by
  by_cases e:j<k
  ·rw [if_pos e,if_pos (by omega)]
  ·rw [if_neg e,if_neg (by omega)]
theorem Kh {k:Nat} (hk:k<n):(KV S X Y n k).set k (cY S X Y n k)=KV S X Y n (k+1):=
 yL _ _ _ hk (by rw [if_pos (by omega)]) fun j _ hj=>by
  by_cases e:j<k
  ·rw [if_pos e,if_pos (by omega)]
  ·rw [if_neg e,if_neg (by omega)]
theorem Er {k j:Nat} (hj:j≤n):gB (EE S X Y n k) j=if j≤k then cF S X Y j else gB S j:=Hw _ (by omega)
theorem HM {k j:Nat} (hj:j≤n):gB (HN S X Y n k) j=if n-k≤j then cB S X Y n j else cF S X Y j:=Hw _ (by omega)
end
def j8 (a:Ac):Ac:=⟨a.fr,vG (a.ins.length+1) (cB a.st a.ins a.outs a.ins.length),vG a.ins.length (cX a.st a.ins a.outs a.ins.length),vG a.ins.length (cY a.st a.ins a.outs a.ins.length)⟩
theorem kl.lens {a:Ac} (h:kl a):vF a.st a.ins a.outs a.ins.length:=⟨h.ns,rfl,h.no,h.bs,h.bi,h.bo⟩
def RG:Ac:=⟨0,[],[],[]⟩
def SC (S X Y:List Bd) (n:Nat):Bool:=(List.range (n+1)).all fun i=>decide ((cF S X Y i).lo≤(cF S X Y i).hi)
theorem C1 {S X Y:List Bd} {n:Nat}:SC S X Y n=true↔VD S X Y n:=by
 simp only [SC,List.all_eq_true,List.mem_range,decide_eq_true_eq,VD,gX]
 exact ⟨fun h i hi=>h i (by omega),fun h i hi=>h i (by omega)⟩
def dK (a:Ac):Ac × Int:=if Ga a≠0 then (RG,Ga a) else if SC a.st a.ins a.outs a.ins.length then (j8 a,0) else (RG,48)
structure U8 (τ:St) (o1 o2 o3:Nat × Nat) (t1 t2 t3:TypeId) (L1 L2 L3:List Bd):Prop where
 h1:τ.ob o1.1=some ⟨o1.2,2,t1,false,true,cA L1⟩
 h2:τ.ob o2.1=some ⟨o2.2,2,t2,false,true,cA L2⟩
 h3:τ.ob o3.1=some ⟨o3.2,2,t3,false,true,cA L3⟩
 Tw:o1.1≠o2.1
 Tv:o1.1≠o3.1
 SI:o2.1≠o3.1
 l1:o1.1<τ.n
 l2:o2.1<τ.n
 l3:o3.1<τ.n
def ID (f:Int) (o1 o2 o3:Nat × Nat) (a b c:Nat):AV:=.agg [.int .i64 f,.sl o1.1 o1.2 2 0 a,.sl o2.1 o2.2 2 0 b,.sl o3.1 o3.2 2 0 c]
theorem fo {b:Bd} (h:fF b):0≤b.lo∧b.lo≤b.hi∧b.hi≤274877906944:=h
def Twin (σ:St) (a:Ac) (t:TypeId) (r:AV) (τ:St):Prop:=∃ o1 o2 o3,r=ID a.fr o1 o2 o3 a.st.length a.ins.length a.outs.length∧U8 τ o1 o2 o3 t t t a.st a.ins a.outs∧σ.n≤o1.1∧σ.n≤o2.1∧σ.n≤o3.1∧Np σ τ
theorem Df {σ:St} {id g k:Nat} {ty:TypeId} {ro ap:Bool} {L:List Bd} (h:σ.ob id=some ⟨g,2,ty,ro,ap,cA L⟩) (hk:k=L.length):aw σ (.sl id g 2 0 k) (.list 2 (cA L)):=by
 subst hk
 rw [←aJ]
 exact aw.dk h rfl (mC L) (qL L)
theorem Np.refl (σ:St):Np σ σ:=⟨Nat.le_refl _,fun _ _=>rfl⟩
theorem Np.trans {σ τ ρ:St} (h:Np σ τ) (k:Np τ ρ):Np σ ρ:=⟨Nat.le_trans h.1 k.1,fun i hi=>(k.2 i (Nat.lt_of_lt_of_le hi h.1)).trans (h.2 i hi)⟩
theorem JO {L:List Bd} (h:∀ b∈L,fF b) {i:Nat} (hi:i<L.length):fF (gB L i):=h _ (List.mem_of_getElem? (cT hi))
theorem Ht {b:Bd} {v:Int} (hb:fF b) (h:iu b v):0≤v∧v≤274877906944:=by
 simp only [fF,iu,F7] at *; omega
theorem Ka (l:List Bd) (b:Bd):cA (l++[b])=cA l++[.agg [.int .i64 b.lo,.int .i64 b.hi]]:=by simp [cA,pw]
theorem rX (σ:St) (a:Ac) (h1:a.st.length≤4611686018427) (h2:a.ins.length≤4611686018427) (h3:a.outs.length≤4611686018427) (e1:a.st≠[]) (e2:a.ins≠[]) (e3:a.outs≠[]):HC prog uq [gI a] σ (Twin σ a 24):=by
 obtain ⟨ob,n,c⟩:=σ
 refine aM vu (by simp) ?_
 simp only [u5,go_sem,jF,jG,jH,↓reduceIte,gI]
 have b1:cA a.st≠[]:=by simpa [cA] using e1
 have b2:cA a.ins≠[]:=by simpa [cA] using e2
 have b3:cA a.outs≠[]:=by simpa [cA] using e3
 have l1:(cA a.st).length=a.st.length:=aJ _
 have l2:(cA a.ins).length=a.ins.length:=aJ _
 have l3:(cA a.outs).length=a.outs.length:=aJ _
 try simp (disch:=omega) only [go_sem,jM]
 refine ⟨fun _ _ h=>(by cases h; rfl),fun _ _ _ _ _ h=>(by rcases h with h | ⟨_,h⟩ <;> cases h),by rw [nB]; omega,by omega,fun h=>absurd h b1,fun _=>?_⟩
 try simp (disch:=omega) only [go_sem,jF,jG,jH,↓reduceIte,jM]
 refine ⟨fun _ _ h=>(by cases h; rfl),fun _ _ _ _ _ h=>(by rcases h with h | ⟨_,h⟩ <;> cases h),by rw [nB]; omega,by omega,fun h=>absurd h b2,fun _=>?_⟩
 try simp (disch:=omega) only [go_sem,jF,jG,jH,↓reduceIte,jM]
 refine ⟨fun _ _ h=>(by cases h; rfl),fun _ _ _ _ _ h=>(by rcases h with h | ⟨_,h⟩ <;> cases h),by rw [nB]; omega,by omega,fun h=>absurd h b3,fun _=>?_⟩
 try simp (disch:=omega) only [go_sem,jF,jG,jH,↓reduceIte,jM]
 refine ⟨(n+1+1,c+1+1),(n+1+1+1,c+1+1+1),(n+1+1+1+1,c+1+1+1+1),?_⟩
 have d1:¬n+1+1=n:=by omega
 have d2:¬n+1+1+1=n:=by omega
 have d3:¬n+1+1+1+1=n:=by omega
 refine ⟨by simp only [ID,l1,l2,l3],⟨by simp [bd,d1],by simp [bd,d1,d2],by simp [bd,d2,d3],by simp only; omega,by simp only; omega,by simp only; omega,by simp only; omega,by simp only; omega,by simp only; omega⟩,by simp only; omega,by simp only; omega,by simp only; omega,by simp only; omega,fun k hk=>?_⟩
 simp only at hk
 have y0:¬k=n:=by omega
 have y1:¬k=n+1:=by omega
 have y2:¬k=n+1+1:=by omega
 have y3:¬k=n+1+1+1:=by omega
 have y4:¬k=n+1+1+1+1:=by omega
 try simp (disch:=omega) only [go_sem,↓reduceIte,y0,y1,y2,y3,y4]
theorem yV (L:List Bd) (i:Nat) (b:Bd):(cA L).set i (pw b)=cA (L.set i b):=by simp [cA,List.map_set]
theorem vY (a:Ac) (hl:II a):PC prog ya [gI a] (.tuple [gI (dK a).1,.int .i64 (dK a).2]):=by
 have no:∀ {σ:St} {e:Int},dK a=(RG,e)→aw σ (.tuple [.agg [.int .i64 0,.nil,.nil,.nil],.int .i64 e]) (.tuple [gI (dK a).1,.int .i64 (dK a).2]):=by
  intro σ e h
  rw [h]
  exact aw.pair (aw.ag (.cons (.pure rfl) (.cons (.nl 2) (.cons (.nl 2) (.cons (.nl 2) .nil))))) (.pure rfl)
 refine ae yw (by simp) ?_
 simp only [pj,go_sem,jF,jG,jH,↓reduceIte,reduceCtorEq,gI]
 refine ab (pS a hl) (by simp [go_sem]) ?_
 try simp (disch:=omega) only [go_sem,↓reduceIte]
 refine aY (fun h=>?_) (fun h=>?_) <;> try simp (disch:=omega) only [go_sem,jF,jG,jH,↓reduceIte,reduceCtorEq]
 ·exact no (by simp only [dK,if_pos h])
 have hok:=D5.1 h
 have hlen:=hok.lens
 obtain ⟨n,hn⟩:∃ n,a.ins.length=n:=⟨_,rfl⟩
 rw [hn] at hlen
 have hn4:1≤n∧n≤400:=by have:=hok.n1; have:=hok.n2; omega
 have htS:dK a=if SC a.st a.ins a.outs n then (j8 a,0) else (RG,48):=by simp only [dK]; rw [if_neg (by simp [h]),hn]
 have hLs:=hlen.s
 have hLy:=hlen.y
 have nz:∀ {L:List Bd},1≤L.length→L≠[]:=fun h e=>by subst e; simp at h
 refine (rX _ a (by omega) (by omega) (by omega) (nz (by omega)) (nz (by omega)) (nz (by omega))).mono ?_
 rintro _ τ ⟨o1,o2,o3,rfl,hO,g1,g2,g3,hA⟩
 obtain ⟨ob,m,c⟩:=τ
 have hm:2≤m:=by have:=hA.1; simpa [go_sem] using this
 have w0:=hA.2 0 (by simp [go_sem])
 have w1:=hA.2 1 (by simp [go_sem])
 simp (maxSteps:=1000000) only [go_sem,↓reduceIte,reduceCtorEq] at w0 w1 g1 g2 g3
 have l1:=hO.l1
 have l2:=hO.l2
 have l3:=hO.l3
 have Tw:=hO.Tw
 have Tv:=hO.Tv
 have SI:=hO.SI
 have p1:=hO.h1
 have p2:=hO.h2
 have p3:=hO.h3
 simp only at l1 l2 l3 p1 p2 p3
 have hm0:0<m:=by omega
 have z0:¬0=m:=by omega
 have z1:¬1=m:=by omega
 have x1:¬o1.1=m:=by omega
 have x2:¬o2.1=m:=by omega
 have x3:¬o3.1=m:=by omega
 have y0:¬0=o1.1:=by omega
 have y1:¬1=o1.1:=by omega
 have ym:¬m=o1.1:=by omega
 have y2:¬o2.1=o1.1:=by omega
 have y3:¬o3.1=o1.1:=by omega
 try simp (disch:=omega) only [go_sem,jF,jG,jH,↓reduceIte,jM,ID,w0,aJ,hn]
 refine bq [3,7,23,24,25,26,27,28,29,30,31,32,33,34,35,36,37,38,39,40,41,42,43,44,45,46,47,48,49,50,51,52,53,54,55,56,57,58,59,60,61,62,63,64,65,66,67,68,69,70,71,72,73,74,75,76,77,78,79,80,81,82,83,84,85,86,87,88,89] (by kernel_rfl) n (fun k e σ=>e 23=.int .i64 k∧σ.ob 0=some ⟨0,4,88,false,true,[.agg [.int .i64 a.fr,.list 2 (cA a.st),.list 2 (cA a.ins),.list 2 (cA a.outs)]]⟩∧σ.ob 1=some ⟨1,4,88,false,true,[.agg [.int .i64 0,.nil,.nil,.nil]]⟩∧
  σ.ob m=some ⟨c,4,88,false,true,[ID a.fr o1 o2 o3 (n+1) n n]⟩∧σ.ob o1.1=some ⟨o1.2,2,24,false,true,cA (EE a.st a.ins a.outs n k)⟩∧σ.ob o2.1=some ⟨o2.2,2,24,false,true,cA a.ins⟩∧σ.ob o3.1=some ⟨o3.2,2,24,false,true,cA a.outs⟩∧
  ∀ i,i≤k→gX (cF a.st a.ins a.outs i)) ?_ ?_
 ·refine ⟨(by first | rfl | (simp (disch:=omega) only [go_sem,jA,jB,jC,jD,jE,jF,jG,jH,jI,jJ,↓reduceIte,reduceCtorEq,jP,jO,jM,jN]; try rfl)),by try simp (disch:=omega) only [go_sem,↓reduceIte,z0]; exact w0,by try simp (disch:=omega) only [go_sem,↓reduceIte,z1]; exact w1,by simp [bd,ID,hLs,hLy],by try simp (disch:=omega) only [go_sem,↓reduceIte,x1,Kk hlen]; exact p1,by try simp (disch:=omega) only [go_sem,↓reduceIte,x2]; exact p2,by try simp (disch:=omega) only [go_sem,↓reduceIte,x3]; exact p3,fun i hi=>?_⟩
  obtain rfl:i=0:=by omega
  exact (hlen.gs (Nat.zero_le _)).val
 rintro k fe ob2 c2 hk ⟨h23,v0,v1,vm,q1,q2,q3,hv⟩
 simp (maxSteps:=1000000) only [go_sem,jF,↓reduceIte,ID] at h23 v0 v1 vm q1 q2 q3
 try simp (disch:=omega) only [go_sem,jF,↓reduceIte,h23]
 refine ah (fun hlt=>?_) (fun hge=>?_)
 ·have hkn:k<n:=by omega
  have e1:=cT (L:=EE a.st a.ins a.outs n k) (i:=k) (by rw [EE,bl]; omega)
  have e2:=cT (L:=EE a.st a.ins a.outs n k) (i:=k+1) (by rw [EE,bl]; omega)
  rw [Er (by omega),if_pos (Nat.le_refl _)] at e1
  rw [Er (by omega),if_neg (by omega)] at e2
  have e3:=cT (L:=a.ins) (i:=k) (by omega)
  have e4:=cT (L:=a.outs) (i:=k) (by omega)
  have f1:=D7 hlen (by omega) (hv k (Nat.le_refl _))
  have f2:=hlen.gs (show k+1≤n by omega)
  have f3:=hlen.gx hkn
  have f4:=hlen.gy hkn
  have hcf:cF a.st a.ins a.outs (k+1)=dS (gB a.st (k+1)) (Nh (cF a.st a.ins a.outs k) (gB a.ins k) (gB a.outs k)):=rfl
  have hsuc:=Km (S:=a.st) (X:=a.ins) (Y:=a.outs) hkn
  generalize hcs:cF a.st a.ins a.outs (k+1)=d at *
  generalize cF a.st a.ins a.outs k=s at *
  generalize gB a.st (k+1)=t at *
  generalize gB a.ins k=x at *
  generalize gB a.outs k=y at *
  have f1:=fo f1
  have f2:=fo f2
  have f3:=fo f3
  have f4:=fo f4
  have hin:((k:Int)+1).toNat=k+1:=by omega
  have hal:(EE a.st a.ins a.outs n k).length=n+1:=by rw [EE,bl]
  try simp (maxSteps:=500001) (disch:=omega) only [go_sem,jF,jG,jH,↓reduceIte,jO,v0,q1,dX,aJ,e1,e2,e3,e4,hin,hLs,hLy,hn,Option.map_some,pw]
  repeat (refine And.intro (by first | omega | (rw [nB]; omega) | (simp [maxLen]; done) | (simp [maxLen]; omega)) ?_)
  have hmt:=iK t (Nh s x y)
  rw [←hcf] at hmt
  refine ab hmt (by simp [go_sem]) ?_
  have hbs:(cA (EE a.st a.ins a.outs n k)).set (k+1) (pw d)=cA (EE a.st a.ins a.outs n (k+1)):=by rw [yV,hsuc]
  simp only [pw] at hbs
  have e5:(EE a.st a.ins a.outs n (k+1))[k+1]?=some d:=by
   rw [cT (by rw [EE,bl]; omega),Er (by omega),if_pos (Nat.le_refl _),hcs]
  have hal2:(EE a.st a.ins a.outs n (k+1)).length=n+1:=by rw [EE,bl]
  try simp (disch:=omega) only [go_sem,jF,jG,jH,↓reduceIte,reduceCtorEq,jO,q1,dX,e2,e5,hin,Option.map_some,pw,hbs]
  repeat (refine And.intro (by first | omega | (rw [nB]; omega) | (simp [maxLen]; done) | (simp [maxLen]; omega)) ?_)
  refine ah (fun g=>?_) (fun g=>?_)
  ·try simp (disch:=omega) only [go_sem,jF,jG,jH,↓reduceIte,y1,v1]
   refine no ?_
   rw [htS,if_neg]
   rw [C1]
   intro hV
   have:=hV (k+1) (by omega)
   rw [hcs] at this
   simp only [gX] at this
   omega
  ·try simp (disch:=omega) only [go_sem,jF,↓reduceIte,jO]
   refine bj hkn ⟨(by first | rfl | (simp (disch:=omega) only [go_sem,jA,jB,jC,jD,jE,jF,jG,jH,jI,jJ,↓reduceIte,reduceCtorEq,jP,jO,jM,jN]; try rfl)),?_,?_,?_,?_,?_,?_,fun i hi=>?_⟩
   ·try simp (disch:=omega) only [go_sem,↓reduceIte,y0]; exact v0
   ·try simp (disch:=omega) only [go_sem,↓reduceIte,y1]; exact v1
   ·simp [St.aE,bd,ym,vm,ID]
   ·simp [St.aE,bd,show o1.1<m+1 by omega]
   ·try simp (disch:=omega) only [go_sem,↓reduceIte,y2]; exact q2
   ·try simp (disch:=omega) only [go_sem,↓reduceIte,y3]; exact q3
   ·by_cases e:i=k+1
    ·subst e; rw [hcs]; simp only [gX]; omega
    ·exact hv i (by omega)
 obtain rfl:n=k:=by omega
 have hV:VD a.st a.ins a.outs n:=hv
 rw [Mi,←Ko] at q1
 try simp (disch:=omega) only [go_sem,jF,jG,jH,↓reduceIte,jO,v0,aJ,hn]
 refine bq [8,94,95,96,97,98,99,100,101,102,103,104,105,106,107,108,109,110,111,112,113,114,115,116,117,118,119,120,121,122,123,124,125,126,127,128,129,130,131,132,133,134,135,136,137,138,139,140,141,142,143,144,145,146] (by kernel_rfl) n (fun k e σ=>e 8=.int .i64 ((n:Int)-1-(k:Int))∧σ.ob 0=some ⟨0,4,88,false,true,[.agg [.int .i64 a.fr,.list 2 (cA a.st),.list 2 (cA a.ins),.list 2 (cA a.outs)]]⟩∧σ.ob 1=some ⟨1,4,88,false,true,[.agg [.int .i64 0,.nil,.nil,.nil]]⟩∧
  σ.ob m=some ⟨c,4,88,false,true,[ID a.fr o1 o2 o3 (n+1) n n]⟩∧σ.ob o1.1=some ⟨o1.2,2,24,false,true,cA (HN a.st a.ins a.outs n k)⟩∧σ.ob o2.1=some ⟨o2.2,2,24,false,true,cA a.ins⟩∧σ.ob o3.1=some ⟨o3.2,2,24,false,true,cA a.outs⟩) ?_ ?_
 ·exact ⟨by simp [go_sem],v0,v1,vm,q1,q2,q3⟩
 clear h23 v0 v1 vm q1 q2 q3 hv hge hk
 rintro k fe2 ob3 c3 hk ⟨h8,v0,v1,vm,q1,q2,q3⟩
 simp (maxSteps:=1000000) only [go_sem,↓reduceIte,ID] at h8 v0 v1 vm q1 q2 q3
 try simp (disch:=omega) only [go_sem,↓reduceIte,h8]
 refine ah (fun hlt=>?_) (fun hge=>?_)
 ·have hkn:k<n:=by omega
  obtain ⟨q,hq⟩:∃ q,q=n-(k+1):=⟨_,rfl⟩
  have hqi:(n:Int)-1-(k:Int)=(q:Int):=by omega
  have hqn:q<n:=by omega
  rw [hqi] at h8
  have e1:=cT (L:=HN a.st a.ins a.outs n k) (i:=q) (by rw [HN,bl]; omega)
  have e2:=cT (L:=HN a.st a.ins a.outs n k) (i:=q+1) (by rw [HN,bl]; omega)
  rw [HM (by omega),if_neg (by omega)] at e1
  rw [HM (by omega),if_pos (by omega)] at e2
  have e3:=cT (L:=a.ins) (i:=q) (by omega)
  have e4:=cT (L:=a.outs) (i:=q) (by omega)
  have f1:=D7 hlen (by omega) (hV q (by omega))
  have f2:=AG hlen hV (show q+1≤n by omega)
  have f3:=hlen.gx hqn
  have f4:=hlen.gy hqn
  have hcf:cB a.st a.ins a.outs n q=dS (cF a.st a.ins a.outs q) (KU (cB a.st a.ins a.outs n (q+1)) (gB a.ins q) (gB a.outs q)):=gj hqn
  have hsuc:=Kq (S:=a.st) (X:=a.ins) (Y:=a.outs) hkn
  rw [←hq] at hsuc
  generalize cB a.st a.ins a.outs n q=d at *
  generalize cF a.st a.ins a.outs q=s at *
  generalize cB a.st a.ins a.outs n (q+1)=t at *
  generalize gB a.ins q=x at *
  generalize gB a.outs q=y at *
  have f1:=fo f1
  have f2:=fo f2
  have f3:=fo f3
  have f4:=fo f4
  have hin:((q:Int)+1).toNat=q+1:=by omega
  have hal:(HN a.st a.ins a.outs n k).length=n+1:=by rw [HN,bl]
  try simp (maxSteps:=500001) (disch:=omega) only [go_sem,jF,jG,jH,↓reduceIte,jO,hqi,v0,q1,dX,aJ,e1,e2,e3,e4,hin,hLs,hLy,hn,Option.map_some,pw]
  repeat (refine And.intro (by first | omega | (rw [nB]; omega) | (simp [maxLen]; done) | (simp [maxLen]; omega)) ?_)
  have hmt:=iK s (KU t x y)
  rw [←hcf] at hmt
  refine ab hmt (by simp [go_sem]) ?_
  have hbs:(cA (HN a.st a.ins a.outs n k)).set q (pw d)=cA (HN a.st a.ins a.outs n (k+1)):=by rw [yV,hsuc]
  simp only [pw] at hbs
  try simp (maxSteps:=500001) (disch:=omega) only [go_sem,jF,jG,jH,↓reduceIte,reduceCtorEq,jO,q1,dX,e1,Option.map_some,pw,hbs]
  repeat (refine And.intro (by first | omega | (rw [nB]; omega) | (simp [maxLen]; done) | (simp [maxLen]; omega)) ?_)
  refine bj hkn ⟨?_,?_,?_,?_,?_,?_,?_⟩
  ·try simp (disch:=omega) only [go_sem,↓reduceIte]
   congr 1
   omega
  ·simp [St.aE,bd,y0,v0]
  ·simp [St.aE,bd,y1,v1,hm0]
  ·simp [St.aE,bd,ym,vm,ID]
  ·simp [St.aE,bd,show o1.1<m+1 by omega]
  ·simp [St.aE,bd,y2,q2,show o2.1<m+1 by omega]
  ·simp [St.aE,bd,y3,q3,show o3.1<m+1 by omega]
 obtain rfl:n=k:=by omega
 rw [Mj] at q1
 try simp (disch:=omega) only [go_sem,jF,jG,jH,↓reduceIte,v0,aJ,hn]
 refine bq [9,150,151,152,153,154,155,156,157,158,159,160,161,162,163,164,165,166,167,168,169,170,171,172,173,174,175,176,177,178,179,180,181,182,183,184,185,186,187,188,189,190,191,192,193,194,195,196,197,198,199,200,201,202,203,204,205,206,207,208,209,210,211,212,213,214,215,216,217,218,219,220,221,222,223,224,225,226,227,228,229,230,231,232,233,234,235,236,237,238,239,240,241,242,243,244,245,246,247,248,249,250,251] (by kernel_rfl) n (fun k e σ=>e 150=.int .i64 k∧σ.ob 0=some ⟨0,4,88,false,true,[.agg [.int .i64 a.fr,.list 2 (cA a.st),.list 2 (cA a.ins),.list 2 (cA a.outs)]]⟩∧σ.ob 1=some ⟨1,4,88,false,true,[.agg [.int .i64 0,.nil,.nil,.nil]]⟩∧
  σ.ob m=some ⟨c,4,88,false,true,[ID a.fr o1 o2 o3 (n+1) n n]⟩∧σ.ob o1.1=some ⟨o1.2,2,24,false,true,cA (vG (n+1) (cB a.st a.ins a.outs n))⟩∧σ.ob o2.1=some ⟨o2.2,2,24,false,true,cA (IJ a.st a.ins a.outs n k)⟩∧σ.ob o3.1=some ⟨o3.2,2,24,false,true,cA (KV a.st a.ins a.outs n k)⟩) ?_ ?_
 ·exact ⟨(by first | rfl | (simp (disch:=omega) only [go_sem,jA,jB,jC,jD,jE,jF,jG,jH,jI,jJ,↓reduceIte,reduceCtorEq,jP,jO,jM,jN]; try rfl)),v0,v1,vm,q1,by rw [Ki hlen]; exact q2,by rw [Kg hlen]; exact q3⟩
 clear h8 v0 v1 vm q1 q2 q3 hge hk
 rintro k fe3 ob4 c4 hk ⟨h150,v0,v1,vm,q1,q2,q3⟩
 simp (maxSteps:=1000000) only [go_sem,jF,↓reduceIte,ID] at h150 v0 v1 vm q1 q2 q3
 try simp (disch:=omega) only [go_sem,jF,↓reduceIte,h150]
 refine ah (fun hlt=>?_) (fun hge=>?_)
 ·have hkn:k<n:=by omega
  have e1:=cT (L:=vG (n+1) (cB a.st a.ins a.outs n)) (i:=k) (by rw [bl]; omega)
  have e2:=cT (L:=vG (n+1) (cB a.st a.ins a.outs n)) (i:=k+1) (by rw [bl]; omega)
  rw [Hw _ (by omega)] at e1 e2
  have e3:=cT (L:=a.ins) (i:=k) (by omega)
  have e4:=cT (L:=a.outs) (i:=k) (by omega)
  have f1:=AG hlen hV (show k≤n by omega)
  have f2:=AG hlen hV (show k+1≤n by omega)
  have f3:=hlen.gx hkn
  have f4:=hlen.gy hkn
  have hcx:cX a.st a.ins a.outs n k=dS (gB a.ins k) (TF (cB a.st a.ins a.outs n k) (cB a.st a.ins a.outs n (k+1)) (gB a.outs k)):=rfl
  have hcy:cY a.st a.ins a.outs n k=dS (gB a.outs k) (OL (cB a.st a.ins a.outs n k) (cB a.st a.ins a.outs n (k+1)) (gB a.ins k)):=rfl
  have hsx:=Kj (S:=a.st) (X:=a.ins) (Y:=a.outs) hkn
  have hsy:=Kh (S:=a.st) (X:=a.ins) (Y:=a.outs) hkn
  generalize cX a.st a.ins a.outs n k=d at *
  generalize cY a.st a.ins a.outs n k=d' at *
  generalize cB a.st a.ins a.outs n k=s at *
  generalize cB a.st a.ins a.outs n (k+1)=t at *
  generalize gB a.ins k=x at *
  generalize gB a.outs k=y at *
  have f1:=fo f1
  have f2:=fo f2
  have f3:=fo f3
  have f4:=fo f4
  have hin:((k:Int)+1).toNat=k+1:=by omega
  have hal:(IJ a.st a.ins a.outs n k).length=n:=by rw [IJ,bl]
  have hal2:(KV a.st a.ins a.outs n k).length=n:=by rw [KV,bl]
  have hal3:(IJ a.st a.ins a.outs n (k+1)).length=n:=by rw [IJ,bl]
  try simp (maxSteps:=500001) (disch:=omega) only [go_sem,jF,jG,jH,↓reduceIte,jO,v0,vm,q1,dX,aJ,e1,e2,e3,e4,hin,hLs,hLy,hn,Option.map_some,pw]
  repeat (refine And.intro (by first | omega | (rw [nB]; omega) | (simp [maxLen]; done) | (simp [maxLen]; omega)) ?_)
  have hmt:=iK x (TF s t y)
  rw [←hcx] at hmt
  refine ab hmt (by simp [go_sem]) ?_
  have hbs:(cA (IJ a.st a.ins a.outs n k)).set k (pw d)=cA (IJ a.st a.ins a.outs n (k+1)):=by rw [yV,hsx]
  simp only [pw] at hbs
  have e7:=cT (L:=IJ a.st a.ins a.outs n k) (i:=k) (by omega)
  have e8:=cT (L:=KV a.st a.ins a.outs n k) (i:=k) (by omega)
  have y12:¬o1.1=o2.1:=Tw
  have ym2:¬m=o2.1:=by omega
  have y02:¬0=o2.1:=by omega
  have y32:¬o3.1=o2.1:=fun e=>SI e.symm
  try simp (maxSteps:=500001) (disch:=omega) only [go_sem,jF,jG,jH,↓reduceIte,reduceCtorEq,jO,q1,q2,v0,vm,dX,aJ,e1,e2,e3,e4,e7,hin,hLy,hn,Option.map_some,pw,hbs,y12,ym2,y02]
  repeat (refine And.intro (by first | omega | (rw [nB]; omega) | (simp [maxLen]; done) | (simp [maxLen]; omega)) ?_)
  have hmt2:=iK y ⟨s.lo-t.hi+x.lo,s.hi-t.lo+x.hi⟩
  rw [show dS y ⟨s.lo-t.hi+x.lo,s.hi-t.lo+x.hi⟩=d' by rw [hcy]; congr 1; simp only [OL,Bd.mk.injEq]; omega] at hmt2
  refine ab hmt2 (by simp [go_sem]) ?_
  have hbs2:(cA (KV a.st a.ins a.outs n k)).set k (pw d')=cA (KV a.st a.ins a.outs n (k+1)):=by rw [yV,hsy]
  simp only [pw] at hbs2
  try simp (maxSteps:=500001) (disch:=omega) only [go_sem,jF,jG,jH,↓reduceIte,reduceCtorEq,jO,q1,q3,v0,vm,dX,e8,Option.map_some,pw,hbs2,y12,ym2,y02,y32]
  repeat (refine And.intro (by first | omega | (rw [nB]; omega) | (simp [maxLen]; done) | (simp [maxLen]; omega)) ?_)
  have y03:¬0=o3.1:=by omega
  have y13:¬1=o3.1:=by omega
  have y1':¬1=o2.1:=by omega
  have ym3:¬m=o3.1:=by omega
  have y13':¬o1.1=o3.1:=Tv
  have y23:¬o2.1=o3.1:=SI
  refine bj hkn ⟨(by first | rfl | (simp (disch:=omega) only [go_sem,jA,jB,jC,jD,jE,jF,jG,jH,jI,jJ,↓reduceIte,reduceCtorEq,jP,jO,jM,jN]; try rfl)),?_,?_,?_,?_,?_,?_⟩
  ·simp [St.aE,bd,y02,y03,v0]
  ·simp [St.aE,bd,y1',y13,v1,hm0]
  ·simp [St.aE,bd,ym2,ym3,vm,ID]
  ·simp [St.aE,bd,y12,y13',q1,show o1.1<m+1 by omega]
  ·simp [St.aE,bd,y23,show o2.1<m+1 by omega]
  ·simp [St.aE,bd,show o3.1<m+1 by omega]
 obtain rfl:n=k:=by omega
 try simp (disch:=omega) only [go_sem,jF,jG,jH,↓reduceIte,v1,vm]
 rw [htS,if_pos (C1.2 hV)]
 have n1:¬o1.1=1:=by omega
 have n2:¬o2.1=1:=by omega
 have n3:¬o3.1=1:=by omega
 refine aw.pair (aw.ag (.cons (.pure rfl) (.cons ?_ (.cons ?_ (.cons ?_ .nil))))) (.pure rfl)
 ·rw [show (j8 a,(0:Int)).1.st=vG (n+1) (cB a.st a.ins a.outs n) by simp only [j8,hn]]
  refine Df ((aa _ _ _ _ n1).trans q1) ?_
  rw [bl]
 ·rw [show (j8 a,(0:Int)).1.ins=vG n (cX a.st a.ins a.outs n) by simp only [j8,hn],←HL]
  refine Df ((aa _ _ _ _ n2).trans q2) ?_
  rw [HL,bl]
 ·rw [show (j8 a,(0:Int)).1.outs=vG n (cY a.st a.ins a.outs n) by simp only [j8,hn],←HK]
  refine Df ((aa _ _ _ _ n3).trans q3) ?_
  rw [HK,bl]
def kC (a b:Ac):Bool:=decide (a.fr=b.fr)&&(decide (a.st=b.st)&&(decide (a.ins=b.ins)&&decide (a.outs=b.outs)))
theorem nb {a b:Ac}:kC a b=true↔a=b:=by
 cases a; cases b
 simp [kC]
theorem Nk {b c:Bd}:b=c↔b.lo=c.lo∧b.hi=c.hi:=by
 cases b; cases c; simp
theorem di (a b:List Bd) (ha:a.length≤9223372036854775807):PC prog oC [.list 2 (cA a),.list 2 (cA b)] (.bool (decide (a=b))):=by
 refine ae oO (by simp) ?_
 simp only [gn,go_sem,jF,↓reduceIte,reduceCtorEq,aJ]
 refine aY (fun h=>?_) (fun h=>?_) <;> try simp (disch:=omega) only [go_sem,↓reduceIte,reduceCtorEq]
 ·exact aw.of_eq (by congr 1; simp; intro hab; exact h (by rw [hab])) rfl
 have hl:a.length=b.length:=by omega
 refine bq [4,5,13,14,15,16,17,18,19,20,21,22,23,24,25] (by kernel_rfl) a.length (fun k e _=>e 13=.int .i64 k∧∀ j,j<k→a[j]?=b[j]?) ?_ ?_
 ·exact ⟨(by first | rfl | (simp (disch:=omega) only [go_sem,jA,jB,jC,jD,jE,jF,jG,jH,jI,jJ,↓reduceIte,reduceCtorEq,jP,jO,jM,jN]; try rfl)),fun j hj=>by omega⟩
 ·rintro k fe ob c hk ⟨h13,hj⟩
  simp (maxSteps:=1000000) only [go_sem,jF,↓reduceIte] at h13
  try simp (disch:=omega) only [go_sem,jF,↓reduceIte,h13,aJ]
  refine ah (fun hlt=>?_) (fun hge=>?_)
  ·have hka:k<a.length:=by omega
   have hga:a[k]?=some a[k]:=List.getElem?_eq_getElem hka
   have hgb:b[k]?=some b[k]:=List.getElem?_eq_getElem (by omega)
   try simp (disch:=omega) only [go_sem,jF,jH,↓reduceIte,reduceCtorEq,aJ,dX,hga,hgb,Option.map_some,pw]
   repeat (refine And.intro (by first | omega | (rw [nB]; omega) | (simp [maxLen]; done) | (simp [maxLen]; omega)) ?_)
   refine ⟨fun hne=>?_,fun heq=>?_⟩
   ·try simp (disch:=omega) only [go_sem,↓reduceIte]
    exact aw.of_eq (by congr 1; simp; intro hab; subst hab; simp at hne) rfl
   ·try simp (disch:=omega) only [go_sem,jF,↓reduceIte,jO]
    refine bj hka ⟨(by first | rfl | (simp (disch:=omega) only [go_sem,jA,jB,jC,jD,jE,jF,jG,jH,jI,jJ,↓reduceIte,reduceCtorEq,jP,jO,jM,jN]; try rfl)),fun j hj'=>?_⟩
    by_cases e:j=k
    ·have he:a[k]=b[k]:=Nk.2 (by simpa using heq)
     subst e; rw [hga,hgb,he]
    ·exact hj j (by omega)
  ·try simp (disch:=omega) only [go_sem,↓reduceIte]
   exact aw.of_eq (by congr 1; simp; exact bW hl fun j hj'=>hj j (by omega)) rfl
theorem eL (a b:List Bd) (ha:a.length≤9223372036854775807):PC prog sU [.list 2 (cA a),.list 2 (cA b)] (.bool (decide (a=b))):=by
 refine ae te (by simp) ?_
 simp only [lu,go_sem,jF,↓reduceIte,reduceCtorEq,aJ]
 refine aY (fun h=>?_) (fun h=>?_) <;> try simp (disch:=omega) only [go_sem,↓reduceIte,reduceCtorEq]
 ·exact aw.of_eq (by congr 1; simp; intro hab; exact h (by rw [hab])) rfl
 have hl:a.length=b.length:=by omega
 refine bq [4,5,13,14,15,16,17,18,19,20,21,22,23,24,25] (by kernel_rfl) a.length (fun k e _=>e 13=.int .i64 k∧∀ j,j<k→a[j]?=b[j]?) ?_ ?_
 ·exact ⟨(by first | rfl | (simp (disch:=omega) only [go_sem,jA,jB,jC,jD,jE,jF,jG,jH,jI,jJ,↓reduceIte,reduceCtorEq,jP,jO,jM,jN]; try rfl)),fun j hj=>by omega⟩
 ·rintro k fe ob c hk ⟨h13,hj⟩
  simp (maxSteps:=1000000) only [go_sem,jF,↓reduceIte] at h13
  try simp (disch:=omega) only [go_sem,jF,↓reduceIte,h13,aJ]
  refine ah (fun hlt=>?_) (fun hge=>?_)
  ·have hka:k<a.length:=by omega
   have hga:a[k]?=some a[k]:=List.getElem?_eq_getElem hka
   have hgb:b[k]?=some b[k]:=List.getElem?_eq_getElem (by omega)
   try simp (disch:=omega) only [go_sem,jF,jH,↓reduceIte,reduceCtorEq,aJ,dX,hga,hgb,Option.map_some,pw]
   repeat (refine And.intro (by first | omega | (rw [nB]; omega) | (simp [maxLen]; done) | (simp [maxLen]; omega)) ?_)
   refine ⟨fun hne=>?_,fun heq=>?_⟩
   ·try simp (disch:=omega) only [go_sem,↓reduceIte]
    exact aw.of_eq (by congr 1; simp; intro hab; subst hab; simp at hne) rfl
   ·try simp (disch:=omega) only [go_sem,jF,↓reduceIte,jO]
    refine bj hka ⟨(by first | rfl | (simp (disch:=omega) only [go_sem,jA,jB,jC,jD,jE,jF,jG,jH,jI,jJ,↓reduceIte,reduceCtorEq,jP,jO,jM,jN]; try rfl)),fun j hj'=>?_⟩
    by_cases e:j=k
    ·have he:a[k]=b[k]:=Nk.2 (by simpa using heq)
     subst e; rw [hga,hgb,he]
    ·exact hj j (by omega)
  ·try simp (disch:=omega) only [go_sem,↓reduceIte]
   exact aw.of_eq (by congr 1; simp; exact bW hl fun j hj'=>hj j (by omega)) rfl
theorem zE (a b:Ac) (hl:II a):PC prog rR [gI a,gI b] (.bool (kC a b)):=by
 refine ae B4 (by simp) ?_
 simp only [sC,go_sem,jF,jG,jH,↓reduceIte,reduceCtorEq,gI]
 refine bB rfl (fun h1=>?_) (fun h1=>?_) <;> try simp (disch:=omega) only [go_sem,jF,jG,jH,↓reduceIte,reduceCtorEq]
 ·refine ab (di a.st b.st hl.1) (by simp [go_sem]) ?_
  try simp (disch:=omega) only [go_sem,jF,↓reduceIte]
  refine bB rfl (fun h2=>?_) (fun h2=>?_) <;> try simp (disch:=omega) only [go_sem,jF,jG,jH,↓reduceIte,reduceCtorEq]
  ·refine ab (di a.ins b.ins hl.2.1) (by simp [go_sem]) ?_
   try simp (disch:=omega) only [go_sem,jF,↓reduceIte]
   refine bB rfl (fun h3=>?_) (fun h3=>?_) <;> try simp (disch:=omega) only [go_sem,jF,jG,jH,↓reduceIte,reduceCtorEq]
   ·refine ab (di a.outs b.outs hl.2.2) (by simp [go_sem]) ?_
    try simp (disch:=omega) only [go_sem,jF,↓reduceIte]
    exact aw.of_eq (by simp [kC,h1,h2,h3]) rfl
   ·exact aw.of_eq (by simp [kC,h3]) rfl
  ·exact aw.of_eq (by simp [kC,h2]) rfl
 ·exact aw.of_eq (by simp [kC,h1]) rfl
theorem Bm (a b:Ac) (hl:II a):PC prog DB [gI a,gI b] (.bool (kC a b)):=by
 refine ae Eg (by simp) ?_
 simp only [uZ,go_sem,jF,jG,jH,↓reduceIte,reduceCtorEq,gI]
 refine bB rfl (fun h1=>?_) (fun h1=>?_) <;> try simp (disch:=omega) only [go_sem,jF,jG,jH,↓reduceIte,reduceCtorEq]
 ·refine ab (eL a.st b.st hl.1) (by simp [go_sem]) ?_
  try simp (disch:=omega) only [go_sem,jF,↓reduceIte]
  refine bB rfl (fun h2=>?_) (fun h2=>?_) <;> try simp (disch:=omega) only [go_sem,jF,jG,jH,↓reduceIte,reduceCtorEq]
  ·refine ab (eL a.ins b.ins hl.2.1) (by simp [go_sem]) ?_
   try simp (disch:=omega) only [go_sem,jF,↓reduceIte]
   refine bB rfl (fun h3=>?_) (fun h3=>?_) <;> try simp (disch:=omega) only [go_sem,jF,jG,jH,↓reduceIte,reduceCtorEq]
   ·refine ab (eL a.outs b.outs hl.2.2) (by simp [go_sem]) ?_
    try simp (disch:=omega) only [go_sem,jF,↓reduceIte]
    exact aw.of_eq (by simp [kC,h1,h2,h3]) rfl
   ·exact aw.of_eq (by simp [kC,h3]) rfl
  ·exact aw.of_eq (by simp [kC,h2]) rfl
 ·exact aw.of_eq (by simp [kC,h1]) rfl
def sq (a t:Ac):Nat→Int
 | 0=>(gB t.st 0).lo
 | i+1=>max (gB t.st (i+1)).lo (sq a t i+(gB a.ins i).lo-(gB a.outs i).hi)
def cm (a t:Ac) (i:Nat):Int:=max (gB a.ins i).lo ((gB a.outs i).lo+(sq a t (i+1)-sq a t i))
def og (a t:Ac) (i:Nat):Int:=cm a t i-(sq a t (i+1)-sq a t i)
def vH (n:Nat) (f:Nat→Int):List Int:=(List.range n).map f
theorem ec (n:Nat) (f:Nat→Int):(vH n f).length=n:=by simp [vH]
theorem DK {n i:Nat} (f:Nat→Int) (h:i<n):(vH n f)[i]?=some (f i):=by simp [vH,h]
theorem eQ {n i:Nat} (f:Nat→Int) (h:i<n):(vH n f).getD i 0=f i:=by rw [List.getD_eq_getElem?_getD,DK f h]; rfl
theorem uA (n:Nat) (f:Nat→Int):vH (n+1) f=vH n f++[f n]:=by simp [vH,List.range_succ]
theorem LU (f:Nat→Int):vH 1 f=[f 0]:=rfl
def dN (a:Ac):(List Int × List Int × List Int) × Int:=
 if (dK a).2≠0 then (([],[],[]),(dK a).2)
 else ((vH (a.ins.length+1) (sq a (dK a).1),vH a.ins.length (cm a (dK a).1),vH a.ins.length (og a (dK a).1)),0)
theorem Ck {a:Ac} (h:(dK a).2=0):kl a∧VD a.st a.ins a.outs a.ins.length∧(dK a).1=j8 a:=by
 unfold dK at h ⊢
 split at h
 ·rename_i h1; exact absurd h h1
 ·rename_i h1
  simp only [ne_eq,Decidable.not_not] at h1
  rw [if_neg (by simp [h1])]
  split at h
  ·rename_i h2; rw [if_pos h2]; exact ⟨D5.1 h1,C1.1 h2,rfl⟩
  ·cases h
theorem C5 {a:Ac} {i:Nat} (h:i≤a.ins.length):gB (j8 a).st i=cB a.st a.ins a.outs a.ins.length i:=Hw _ (by omega)
theorem EK {a:Ac} (h:kl a) (hv:VD a.st a.ins a.outs a.ins.length):∀ i,i≤a.ins.length→iu (cB a.st a.ins a.outs a.ins.length i) (sq a (j8 a) i)
 | 0,hi=>by
  have:=(h.lens.vd hv).B hi
  rw [sq,C5 hi]
  simp only [iu,gX,cB] at *
  omega
 | i+1,hi=>by
  have h1:=EK h hv i (by omega)
  have h2:=(h.lens.vd hv).B hi
  rw [sq,C5 hi]
  unfold cB at *
  rw [gj (by omega)] at h1
  simp only [iu,gX,dS,KU] at *
  omega
theorem Fj {a:Ac} (h:kl a) (hv:VD a.st a.ins a.outs a.ins.length):Hi (gB a.st) (gB a.ins) (gB a.outs) a.ins.length (sq a (j8 a)) (cm a (j8 a)) (og a (j8 a)):=by
 have key:∀ i,i<a.ins.length→iu (gB a.ins i) (cm a (j8 a) i)∧iu (gB a.outs i) (og a (j8 a) i):=fun i hi=>by
  have h1:=EK h hv i (by omega)
  have h2:=EK h hv (i+1) (by omega)
  have h3:=(h.lens.gx hi).val
  have h4:=(h.lens.gy hi).val
  have h5:sq a (j8 a) (i+1)=max (gB (j8 a).st (i+1)).lo (sq a (j8 a) i+(gB a.ins i).lo-(gB a.outs i).hi):=rfl
  rw [C5 (by omega)] at h5
  unfold cB at h1 h2 h5
  rw [gj hi] at h1
  unfold og cm
  generalize sq a (j8 a) (i+1)=s' at *
  generalize sq a (j8 a) i=s at *
  simp only [iu,gX,dS,KU] at *
  omega
 refine ⟨fun i hi=>Mf i _ (HH hi (EK h hv i hi)),fun i hi=>(key i hi).1,fun i hi=>(key i hi).2,fun i hi=>?_⟩
 unfold og; omega
def Dj (X Y:AV):Prop:=∀ i,aZ X i∨aZ Y i
theorem Dj.symm {X Y:AV} (h:Dj X Y):Dj Y X:=fun i=>(h i).symm
theorem Dj.nil (X:AV):Dj .nil X:=fun i=>.inl (aZ.nil i)
theorem Dj.kp {X X' Y:AV} {es:Nat} {ty:TypeId} {σ τ:St} {L:List AV} (h:Dj X Y) (hY:cw es ty σ L Y) (hK:Kp σ X τ X'):Dj X' Y:=fun i=>by
 rcases Classical.em (aZ Y i) with h1 | h1
 ·exact .inr h1
 ·refine .inl (hK.2.2 i ?_ ((h i).resolve_right h1))
  rcases Nat.lt_or_ge i σ.n with h2 | h2
  ·exact h2
  ·exact absurd (hY.H2 h2) h1
theorem cw.dj {X X' Y:AV} {es:Nat} {ty:TypeId} {σ τ:St} {L:List AV} (hY:cw es ty σ L Y) (h:Dj X Y) (hK:Kp σ X τ X'):cw es ty τ L Y:=hY.move hK.1 fun i hi hno=>hK.2.1 i hi ((h i).resolve_right hno)
structure vE (σ:St) (X8 X9 X10:AV) (A B C:List Int) (q:Nat):Prop where
 r8:cw 1 3 σ (ints A) X8
 r9:cw 1 3 σ (ints B) X9
 KP:cw 1 3 σ (ints C) X10
 o8:∀ i,i<q→aZ X8 i
 o9:∀ i,i<q→aZ X9 i
 LK:∀ i,i<q→aZ X10 i
 d89:Dj X8 X9
 D3:Dj X8 X10
 Fx:Dj X9 X10
theorem nF (L:List Int) (x:Int):ints L++[.int .i64 x]=ints (L++[x]):=by simp [ints]
section
variable {σ τ : St} {X8 X9 X10 X : AV} {A B C : List Int} {q : Nat}
theorem vE.mv (h:vE σ X8 X9 X10 A B C q) (hn:σ.n≤τ.n) (hf:∀ i,q≤i→i<σ.n→τ.ob i=σ.ob i):vE τ X8 X9 X10 A B C q:=by
 have key:∀ {Y:AV} {L:List AV},cw 1 3 σ L Y→(∀ i,i<q→aZ Y i)→cw 1 3 τ L Y:=fun hY o=>hY.move hn fun i hi hno=>hf i (by
  rcases Nat.lt_or_ge i q with h | h
  ·exact absurd (o i h) hno
  ·exact h) hi
 exact ⟨key h.r8 h.o8,key h.r9 h.o9,key h.KP h.LK,h.o8,h.o9,h.LK,h.d89,h.D3,h.Fx⟩
theorem vE.TO (h:vE σ X8 X9 X10 A B C q) (hq:q≤σ.n) {x:Int} (hR:cw 1 3 τ (ints A++[.int .i64 x]) X) (hK:Kp σ X8 τ X):vE τ X X9 X10 (A++[x]) B C q:=
 ⟨by rw [←nF]; exact hR,h.r9.dj h.d89 hK,h.KP.dj h.D3 hK,fun i hi=>hK.2.2 i (by omega) (h.o8 i hi),h.o9,h.LK,h.d89.kp h.r9 hK,h.D3.kp h.KP hK,h.Fx⟩
theorem vE.TN (h:vE σ X8 X9 X10 A B C q) (hq:q≤σ.n) {x:Int} (hR:cw 1 3 τ (ints B++[.int .i64 x]) X) (hK:Kp σ X9 τ X):vE τ X8 X X10 A (B++[x]) C q:=
 ⟨h.r8.dj h.d89.symm hK,by rw [←nF]; exact hR,h.KP.dj h.Fx hK,h.o8,fun i hi=>hK.2.2 i (by omega) (h.o9 i hi),h.LK,(h.d89.symm.kp h.r8 hK).symm,h.D3,h.Fx.kp h.KP hK⟩
theorem vE.RF (h:vE σ X8 X9 X10 A B C q) (hq:q≤σ.n) {x:Int} (hR:cw 1 3 τ (ints C++[.int .i64 x]) X) (hK:Kp σ X10 τ X):vE τ X8 X9 X A B (C++[x]) q:=
 ⟨h.r8.dj h.D3.symm hK,h.r9.dj h.Fx.symm hK,by rw [←nF]; exact hR,h.o8,h.o9,fun i hi=>hK.2.2 i (by omega) (h.LK i hi),h.d89,(h.D3.symm.kp h.r8 hK).symm,(h.Fx.symm.kp h.r9 hK).symm⟩
theorem vE.UI {id g g2 l l2:Nat} {x:Int} (h:vE σ (.sl id g 1 0 l) X9 X10 A B C q) (hn:σ.n≤τ.n) (hq:q≤id) (hid:id<σ.n) (hl:l2=A.length+1) (ho:τ.ob id=some ⟨g2,1,3,false,true,ints A++[.int .i64 x]⟩) (hf:∀ i,i<σ.n→i≠id→τ.ob i=σ.ob i):vE τ (.sl id g2 1 0 l2) X9 X10 (A++[x]) B C q:=by
 have key:∀ {Y:AV} {L:List AV},cw 1 3 σ L Y→Dj (.sl id g 1 0 l) Y→cw 1 3 τ L Y:=fun hY hd=>hY.move hn fun i hi hno=>hf i hi fun e=>(hd i).elim (fun h=>h.ne e.symm) hno
 have key2:∀ {Y:AV},Dj (.sl id g 1 0 l) Y→Dj (.sl id g2 1 0 l2) Y:=fun hd i=>(hd i).imp_left fun h=>aZ.sl h.ne
 refine ⟨.inr ⟨id,g2,by rw [hl,au]; simp,by omega,by rw [ho,nF]⟩,key h.r9 h.d89,key h.KP h.D3,fun i hi=>aZ.sl (by omega),h.o9,h.LK,key2 h.d89,key2 h.D3,h.Fx⟩
theorem vE.Hu {id g l:Nat} (h:vE σ (.sl id g 1 0 l) X9 X10 A B C q):q≤id:=by
 rcases Nat.lt_or_ge id q with hh | hh
 ·exact absurd rfl (h.o8 id hh).ne
 ·exact hh
theorem RE {b:Nat} {x:Int} {K:AV→St→Prop} (h:vE σ X8 X9 X10 A B C q) (hq:q≤σ.n) (hm:A.length+1≤1000) (hb:b≤1000) (k:∀ X τ,vE τ X X9 X10 (A++[x]) B C q→σ.n≤τ.n→(∀ i,i<q→τ.ob i=σ.ob i)→K X τ):m0 1 b 3 X8 (.list 1 [.int .i64 x]) σ K:=by
 have hl:(ints A).length=A.length:=au A
 refine bE (b:=b) h.r8 (by omega) (Nat.le_trans (Nat.mul_le_mul (hl ▸ hm) hb) (by omega)) fun X τ hR hK=>?_
 exact k X τ (h.TO hq hR hK) hK.1 fun i hi=>hK.2.1 i (by omega) (h.o8 i hi)
theorem vE.swap (h:vE σ X8 X9 X10 A B C q):vE σ X9 X10 X8 B C A q:=⟨h.r9,h.KP,h.r8,h.o9,h.LK,h.o8,h.Fx,h.d89.symm,h.D3.symm⟩
end
theorem CX {σ:St} {X8 X9 X10:AV} {A B C:List Int} {q b:Nat} {x:Int} {K:AV→St→Prop} (h:vE σ X8 X9 X10 A B C q) (hq:q≤σ.n) (hm:B.length+1≤1000) (hb:b≤1000) (k:∀ X τ,vE τ X8 X X10 A (B++[x]) C q→Kp σ X9 τ X→(∀ i,i<q→τ.ob i=σ.ob i)→K X τ):m0 1 b 3 X9 (.list 1 [.int .i64 x]) σ K:=by
 have hl:(ints B).length=B.length:=au B
 refine bE (b:=b) h.r9 (by omega) (Nat.le_trans (Nat.mul_le_mul (hl ▸ hm) hb) (by omega)) fun X τ hR hK=>?_
 exact k X τ (h.TN hq hR hK) hK fun i hi=>hK.2.1 i (by omega) (h.o9 i hi)
theorem A4 {σ:St} {X8 X9 X10:AV} {A B C:List Int} {q b:Nat} {x:Int} {K:AV→St→Prop} (h:vE σ X8 X9 X10 A B C q) (hq:q≤σ.n) (hm:C.length+1≤1000) (hb:b≤1000) (k:∀ X τ,vE τ X8 X9 X A B (C++[x]) q→Kp σ X10 τ X→(∀ i,i<q→τ.ob i=σ.ob i)→K X τ):m0 1 b 3 X10 (.list 1 [.int .i64 x]) σ K:=by
 have hl:(ints C).length=C.length:=au C
 refine bE (b:=b) h.KP (by omega) (Nat.le_trans (Nat.mul_le_mul (hl ▸ hm) hb) (by omega)) fun X τ hR hK=>?_
 exact k X τ (h.RF hq hR hK) hK fun i hi=>hK.2.1 i (by omega) (h.LK i hi)
theorem Dj.H2 {X:AV} {id g es o n:Nat} (h:Dj (.sl id g es o n) X):aZ X id:=(h id).resolve_left fun h=>h.ne rfl
theorem zB (a:Ac) (hl:II a):PC prog Bv [gI a] (.tuple [.list 1 (ints (dN a).1.1),.list 1 (ints (dN a).1.2.1),.list 1 (ints (dN a).1.2.2),.int .i64 (dN a).2]):=by
 refine ae BR (by simp) ?_
 simp only [so,go_sem,jF,jG,jH,↓reduceIte,gI]
 refine ab (vY a hl) (by simp [go_sem]) ?_
 try simp (disch:=omega) only [go_sem,jF,jG,jH,↓reduceIte,gI]
 refine aY (fun h=>?_) (fun h=>?_) <;> try simp (disch:=omega) only [go_sem,jC,jF,jG,jH,↓reduceIte]
 ·rw [show dN a=(([],[],[]),(dK a).2) by simp only [dN,if_pos h]]
  exact aw.tu (.cons (.nl 1) (.cons (.nl 1) (.cons (.nl 1) (.cons (.pure rfl) .nil))))
 obtain ⟨hok,hv,ht⟩:=Ck h
 have hhi:=Fj hok hv
 rw [show dN a=((vH (a.ins.length+1) (sq a (j8 a)),vH a.ins.length (cm a (j8 a)),vH a.ins.length (og a (j8 a))),0) by simp only [dN]; rw [if_neg (by simp [h]),ht]]
 rw [ht]
 have hLs:=hok.ns
 have hLy:=hok.no
 have hLn:=hok.n2
 have hT1:(j8 a).st.length=a.ins.length+1:=bl _ _
 have hT2:(j8 a).ins.length=a.ins.length:=bl _ _
 have e0:=cT (L:=(j8 a).st) (i:=0) (by omega)
 have hs0:(gB (j8 a).st 0).lo=sq a (j8 a) 0:=rfl
 have hst:∀ i,i≤a.ins.length→0≤sq a (j8 a) i∧sq a (j8 a) i≤274877906944:=fun i hi=>Ht (AG hok.lens hv hi) (EK hok hv i hi)
 have eF:∀ i,sq a (j8 a) (i+1)=max (gB (j8 a).st (i+1)).lo (sq a (j8 a) i+(gB a.ins i).lo-(gB a.outs i).hi):=fun i=>rfl
 have hcm:∀ i,cm a (j8 a) i=max (gB a.ins i).lo ((gB a.outs i).lo+(sq a (j8 a) (i+1)-sq a (j8 a) i)):=fun i=>rfl
 have hog:∀ i,og a (j8 a) i=cm a (j8 a) i-(sq a (j8 a) (i+1)-sq a (j8 a) i):=fun i=>rfl
 have hcb:∀ i,i<a.ins.length→0≤cm a (j8 a) i∧cm a (j8 a) i≤274877906944:=fun i hi=>Ht (hok.lens.gx hi) (hhi.ins i hi)
 have htf:∀ i,i≤a.ins.length→0≤(gB (j8 a).st i).lo∧(gB (j8 a).st i).lo≤274877906944:=fun i hi=>by
  have:=fo (AG hok.lens hv hi); rw [C5 hi]; omega
 generalize j8 a=t at *
 generalize sq a t=f at *
 generalize cm a t=f2 at *
 generalize og a t=f3 at *
 try simp (disch:=omega) only [go_sem,aJ,dX,e0,Option.map_some,pw,hT1,hT2]
 refine ⟨by omega,?_⟩
 have hI0:cw 1 3 (⟨bd (fun x=>none) 2 (some ⟨2,1,3,false,true,[.int .i64 (gB t.st 0).lo]⟩),3,3⟩:St) (ints (vH 1 f)) (.sl 2 2 1 0 1):=.inr ⟨2,2,rfl,by simp only; omega,by rw [LU,hs0]; simp [bd,ints]⟩
 refine aT [8,9,10,11,12,13,31,32,33,34,35,36,37,38,39,40,41,42,43,44,45,46,47,48,49,50,51,52,53,54,55,56,57,58,59,60,61,62,63,64,65,66,67,68,69,70,71,72,73,74,75,76,77,78,79,80,81,82,83,84,85,86,87,88,89,90,91,92,93,94,95,96,97,98,99] (by kernel_rfl) a.ins.length (fun k e σ=>e 31=.int .i64 k∧σ.ob 0=some ⟨0,4,88,false,true,[.agg [.int .i64 a.fr,.list 2 (cA a.st),.list 2 (cA a.ins),.list 2 (cA a.outs)]]⟩∧
  σ.ob 1=some ⟨1,4,88,false,true,[.agg [.int .i64 t.fr,.list 2 (cA t.st),.list 2 (cA t.ins),.list 2 (cA t.outs)]]⟩∧vE σ (e 8) (e 9) (e 10) (vH (k+1) f) (vH k f2) (vH k f3) 2) ?_ ?_
 ·refine ⟨(by first | rfl | (simp (disch:=omega) only [go_sem,jA,jB,jC,jD,jE,jF,jG,jH,jI,jJ,↓reduceIte,reduceCtorEq,jP,jO,jM,jN]; try rfl)),(by first | rfl | (simp (disch:=omega) only [go_sem,jA,jB,jC,jD,jE,jF,jG,jH,jI,jJ,↓reduceIte,reduceCtorEq,jP,jO,jM,jN]; try rfl)),(by first | rfl | (simp (disch:=omega) only [go_sem,jA,jB,jC,jD,jE,jF,jG,jH,jI,jJ,↓reduceIte,reduceCtorEq,jP,jO,jM,jN]; try rfl)),?_⟩
  try simp (disch:=omega) only [go_sem,jF,↓reduceIte]
  exact ⟨hI0.move (Nat.le_refl _) fun i hi hno=>by
    have hi:i<3:=hi
    have h2:i=2:=by
     rcases Nat.lt_or_ge i 2 with h | h
     ·exact absurd (aZ.sl (by omega)) hno
     ·omega
    subst h2; simp [bd],.nil,.nil,fun i hi=>aZ.sl (by omega),fun i _=>aZ.nil i,fun i _=>aZ.nil i,(Dj.nil _).symm,(Dj.nil _).symm,Dj.nil _⟩
 rintro k fe ob m c hk hm ⟨h31,hob0,hob1,hT⟩
 simp (maxSteps:=1000000) only [go_sem,jF,↓reduceIte] at h31 hob0 hob1 hT hm
 obtain ⟨X8,h8⟩:∃ X,fe 8=X:=⟨_,rfl⟩
 obtain ⟨X9,h9⟩:∃ X,fe 9=X:=⟨_,rfl⟩
 obtain ⟨X10,h10⟩:∃ X,fe 10=X:=⟨_,rfl⟩
 rw [h8,h9,h10] at hT
 try simp (disch:=omega) only [go_sem,jF,↓reduceIte,h31]
 refine ah (fun hlt=>?_) (fun hge=>?_)
 ·have hkl:k<a.ins.length:=by omega
  have e1:=cT (L:=t.st) (i:=k+1) (by omega)
  have e3:=cT (L:=a.ins) (i:=k) (by omega)
  have e4:=cT (L:=a.outs) (i:=k) (by omega)
  have f3':=fo (JO hok.bi (i:=k) (by omega))
  have f4':=fo (JO hok.bo (i:=k) (by omega))
  have g1:=hst k (by omega)
  have g2:=hst (k+1) (by omega)
  have g3:=htf (k+1) (by omega)
  have g4:=eF k
  have g5:=hcm k
  have g6:=hog k
  have g7:=hcb k hkl
  have hT0:=hT
  obtain ⟨r8,-⟩:=hT
  rcases r8 with ⟨-,hnil⟩ | ⟨id,g,rfl,hid,hidob⟩
  ·simp [ints,vH] at hnil
  simp only [au,ec] at h8 hT0 hidob
  have hid:id<m:=hid
  have hid2:=hT0.Hu
  have z4:¬0=id:=by omega
  have z5:¬1=id:=by omega
  have e8:(vH (k+1) f)[k]?=some (f k):=DK f (by omega)
  try simp (disch:=omega) only [go_sem,jF,jG,jH,↓reduceIte,jO,h8,hob0,hob1,aJ,dX,e3,e4,Option.map_some,pw,hidob,bA,e8]
  refine ⟨by omega,by omega,by omega,by omega,by omega,by omega,by omega,by omega,?_⟩
  rw [show ((k:Int)+1).toNat=k+1 by omega]
  try simp (disch:=omega) only [go_sem,jF,jG,jH,↓reduceIte,e1,pw,Option.map_some,←g4]
  try simp (disch:=omega) only [go_sem,jF,jG,jH,↓reduceIte,jO,hob0,aJ,dX,e3,e4,Option.map_some,pw,hidob,au,ec,bA,e8]
  refine ⟨by omega,by omega,by omega,by omega,by omega,by omega,?_⟩
  have g8:max (gB a.ins k).lo (f (k+1)-f k+(gB a.outs k).lo)=f2 k:=by omega
  try simp (disch:=omega) only [go_sem,g8]
  refine ⟨by rw [nB]; omega,by omega,?_⟩
  try simp (disch:=omega) only [go_sem,h9,h10]
  refine ⟨by omega,by omega,?_⟩
  have e9:(vH (k+1+1) f)[k]?=some (f k):=DK f (by omega)
  try simp (disch:=omega) only [go_sem,jF,↓reduceIte,jO,nF,←uA,bA,e9,Option.map_some]
  have g9:f k+f2 k-f (k+1)=f3 k:=by omega
  try simp (disch:=omega) only [go_sem,g9]
  refine CX (A:=vH (k+1+1) f) (B:=vH k f2) (C:=vH k f3) (q:=2) (X8:=.sl id c 1 0 (k+1+1)) (X10:=X10) ?_ (by simp only; omega) (by rw [ec]; omega) (by omega) fun Y9 τ9 hT9 hK9 hf9=>?_
  ·rw [uA (k+1)]
   refine hT0.UI (by simp only; omega) hT0.Hu hid (by rw [ec]) (by try simp (disch:=omega) only [go_sem,↓reduceIte,nF]) fun i hi hne=>?_
   simp only at hi ⊢
   rw [aa _ _ _ _ hne]
  have hn9:=hK9.1
  simp only at hn9 hf9
  rw [←uA] at hT9
  have w0:=hf9 0 (by omega)
  have w1:=hf9 1 (by omega)
  try simp (disch:=omega) only [go_sem,↓reduceIte,z4,hob0] at w0
  try simp (disch:=omega) only [go_sem,↓reduceIte,z5,hob1] at w1
  have v9:=hK9.2.1 id hid hT0.d89.H2
  simp only [az] at v9
  try simp (disch:=omega) only [go_sem,jF,↓reduceIte,reduceCtorEq]
  refine ⟨v9,?_⟩
  refine A4 hT9 (by omega) (by rw [ec]; omega) (by omega) fun Y10 τ10 hT10 hK10 hf10=>?_
  have hn10:=hK10.1
  rw [←uA] at hT10
  have w00:=(hf10 0 (by omega)).trans w0
  have w11:=(hf10 1 (by omega)).trans w1
  try simp (disch:=omega) only [go_sem,jF,↓reduceIte,reduceCtorEq,jO]
  refine aD τ10.n hkl (by omega) ⟨(by first | rfl | (simp (disch:=omega) only [go_sem,jA,jB,jC,jD,jE,jF,jG,jH,jI,jJ,↓reduceIte,reduceCtorEq,jP,jO,jM,jN]; try rfl)),?_,?_,?_⟩
  ·simp only [St.aE]; rw [if_pos (by omega)]; exact w00
  ·simp only [St.aE]; rw [if_pos (by omega)]; exact w11
  ·try simp (disch:=omega) only [go_sem,jF,↓reduceIte]
   exact hT10.mv (Nat.le_refl _) fun i _ hi=>by simp [St.aE,hi]
 ·try simp (disch:=omega) only [go_sem,jF,↓reduceIte,h8,h9,h10]
  obtain rfl:a.ins.length=k:=by omega
  exact aw.tu (.cons (hT.r8.mF (fun _ _ _=>rfl) (dp _) (fU _)) (.cons (hT.r9.mF (fun _ _ _=>rfl) (dp _) (fU _)) (.cons (hT.KP.mF (fun _ _ _=>rfl) (dp _) (fU _)) (.cons (.pure rfl) .nil))))
structure Mu (n:Nat) (S I O:List Int):Prop where
 ls:S.length=n+1
 li:I.length=n
 lo:O.length=n
 s:∀ i,i≤n→0≤S.getD i 0∧S.getD i 0≤39+9 * (i:Int)
 i:∀ i,i<n→0≤I.getD i 0∧I.getD i 0≤9
 o:∀ i,i<n→0≤O.getD i 0∧O.getD i 0≤12
 PX:∀ i,i<n→S.getD (i+1) 0=S.getD i 0+I.getD i 0-O.getD i 0
theorem fZ {L:List Int} {x:Int} {i:Nat} (h:i<L.length):(L++[x]).getD i 0=L.getD i 0:=by
 rw [List.getD_eq_getElem?_getD,List.getD_eq_getElem?_getD,List.getElem?_append_left h]
theorem lh {L:List Int} {x:Int} {i:Nat} (h:i=L.length):(L++[x]).getD i 0=x:=by
 subst h; simp [List.getD_eq_getElem?_getD]
theorem nI {L:List Int} {i:Nat} (h:i<L.length):L[i]?=some (L.getD i 0):=by
 rw [List.getD_eq_getElem?_getD,List.getElem?_eq_getElem h]; rfl
theorem Mu.one {x:Int} (h:0≤x) (h2:x≤39):Mu 0 [x] [] []:=
 ⟨rfl,rfl,rfl,fun i hi=>by (obtain rfl:i=0:=by omega); simp; omega,fun i hi=>by omega,fun i hi=>by omega,fun i hi=>by omega⟩
theorem Mu.snoc {n:Nat} {S I O:List Int} (h:Mu n S I O) {x y a:Int} (ha:a=S.getD n 0) (hx:0≤x∧x≤9) (hy:0≤y∧y≤12) (hd:y≤a+x):Mu (n+1) (S++[a+x-y]) (I++[x]) (O++[y]):=by
 subst ha
 have h1:=h.ls
 have h2:=h.li
 have h3:=h.lo
 refine ⟨by simp [h1],by simp [h2],by simp [h3],fun i hi=>?_,fun i hi=>?_,fun i hi=>?_,fun i hi=>?_⟩
 ·rcases Nat.lt_or_ge i (n+1) with hh | hh
  ·rw [fZ (by omega)]; exact h.s i (by omega)
  ·rw [lh (by omega)]; have:=h.s n (by omega); omega
 ·rcases Nat.lt_or_ge i n with hh | hh
  ·rw [fZ (by omega)]; exact h.i i hh
  ·rw [lh (by omega)]; exact hx
 ·rcases Nat.lt_or_ge i n with hh | hh
  ·rw [fZ (by omega)]; exact h.o i hh
  ·rw [lh (by omega)]; exact hy
 ·rcases Nat.lt_or_ge i n with hh | hh
  ·rw [fZ (by omega),fZ (by omega),fZ (by omega),fZ (by omega)]; exact h.PX i hh
  ·obtain rfl:i=n:=by omega
   rw [lh (by omega),fZ (by omega),lh (by omega),lh (by omega)]
theorem cw.at {es:Nat} {ty:TypeId} {σ:St} {L:List AV} {id g n:Nat} (h:cw es ty σ L (.sl id g es 0 n)):id<σ.n∧n=L.length∧σ.ob id=some ⟨g,es,ty,false,true,L⟩:=by
 rcases h with ⟨h,_⟩ | ⟨id,g,h,h2,h3⟩
 ·cases h
 ·cases h; exact ⟨h2,rfl,h3⟩
theorem yk (σ:St) (id g:Nat) (t:List Int) (at':Nat) (hl:t.length≤9223372036854775807) (hid:id<σ.n) (hob:σ.ob id=some ⟨g,2,aA,false,true,[bC t at']⟩) :
  HC prog zU [.ptr id g 2 0 0] σ (ek σ id g t fun r=>∃ n S I O,r=.tuple [.list 1 (ints S),.list 1 (ints I),.list 1 (ints O)]∧Mu n S I O∧1≤n∧n≤5):=by
 refine HC.wL hid ?_
 obtain ⟨dL,n0,c0⟩:=σ
 simp only at hob hid
 refine aM AY (by simp) ?_
 simp only [qI,go_sem,↓reduceIte,reduceCtorEq]
 have h0:¬id=n0:=by omega
 have h1:¬id=n0+1:=by omega
 have h2:¬n0=id:=by omega
 refine aL (ai _ id g aA true t at' 40 (by try simp (disch:=omega) only [go_sem]; exact hob) (by omega) hl) ?_
 have hx1:=aI t at' 40
 generalize bf t at' 40=dr at *
 obtain ⟨x1,at1⟩:=dr
 simp only at hx1
 try simp (disch:=omega) only [go_sem,↓reduceIte,reduceCtorEq]
 refine aL (ai _ id g aA true t at1 5 (by try simp (disch:=omega) only [go_sem,↓reduceIte,h0]) (by omega) hl) ?_
 have hx2:=aI t at1 5
 generalize bf t at1 5=dr at *
 obtain ⟨x2,at2⟩:=dr
 simp only at hx2
 try simp (disch:=omega) only [go_sem,↓reduceIte]
 obtain ⟨K,hK⟩:∃ K:Nat,(K:Int)=x2∧K≤4:=⟨x2.toNat,by omega,by omega⟩
 obtain ⟨rfl,hK⟩:=hK
 have hx:0≤x1∧x1≤39:=by omega
 refine aT [5,6,7,8,9,10,11,17,18,19,20,21,22,23,24,25,26,27,28,29,30,31,32,33,34,35,36,37,38,39,40,41,42,43,44,45,46,47,48,49,50,51] (by kernel_rfl) (K+1) (fun k e σ=>e 8=.int .i64 ((K:Int)-k)∧(∃ a,σ.ob id=some ⟨g,2,aA,false,true,[bC t a]⟩)∧(∀ i,i<n0→i≠id→σ.ob i=dL i)∧∃ S I O,Mu k S I O∧vE σ (e 5) (e 6) (e 7) S I O n0) ?_ ?_
 ·refine ⟨(by first | rfl | (simp (disch:=omega) only [go_sem,jA,jB,jC,jD,jE,jF,jG,jH,jI,jJ,↓reduceIte,reduceCtorEq,jP,jO,jM,jN]; try rfl)),⟨at2,by try simp (disch:=omega) only [go_sem,↓reduceIte]⟩,fun i hi hne=>?_,[x1],[],[],Mu.one hx.1 hx.2,?_⟩
  ·have:¬i=n0:=by omega
   try simp (disch:=omega) only [go_sem,↓reduceIte,hne,this]
  ·try simp (disch:=omega) only [go_sem,jF,↓reduceIte]
   exact ⟨.inr ⟨n0,c0,rfl,by simp only; omega,by simp [bd,ints,h2]⟩,.nil,.nil,fun i hi=>aZ.sl (by omega),fun i _=>aZ.nil i,fun i _=>aZ.nil i,(Dj.nil _).symm,(Dj.nil _).symm,Dj.nil _⟩
 rintro k fe ob m c hk hm ⟨h8,⟨at3,hd⟩,hfr,S,I,O,hH,hT⟩
 simp (maxSteps:=1000000) only [go_sem,jF,↓reduceIte] at h8 hd hfr hT hm
 obtain ⟨X5,h5⟩:∃ X,fe 5=X:=⟨_,rfl⟩
 obtain ⟨X6,h6⟩:∃ X,fe 6=X:=⟨_,rfl⟩
 obtain ⟨X7,h7⟩:∃ X,fe 7=X:=⟨_,rfl⟩
 rw [h5,h6,h7] at hT
 try simp (disch:=omega) only [go_sem,jF,↓reduceIte,h8]
 refine ah (fun hge=>?_) (fun hlt=>?_)
 ·have hkl:k<K+1:=by omega
  try simp (disch:=omega) only [go_sem,↓reduceIte,reduceCtorEq]
  refine aL (ai _ id g aA true t at3 10 hd (by omega) hl) ?_
  have hx4:=aI t at3 10
  generalize bf t at3 10=dr at *
  obtain ⟨x,at4⟩:=dr
  simp only at hx4
  have hq1:=hT.o8 id hid
  have r8:=hT.r8
  rcases r8 with ⟨-,hnil⟩ | ⟨id8,g8,rfl,hid8,hidob⟩
  ·have:=hH.ls; have h9:=au S; rw [hnil] at h9; simp at h9; omega
  have e1:¬id8=id:=hq1.ne
  have hS:=hH.ls
  have hlen:(ints S).length=k+1:=by rw [au,hS]
  rw [hlen] at h5 hT
  simp only at hidob
  try simp (disch:=omega) only [go_sem,jF,jH,↓reduceIte,reduceCtorEq,jO,jM,h5]
  rw [show ((k+1:Nat):Int)-1=(k:Int) by omega]
  have e2:S[k]?=some (S.getD k 0):=nI (by omega)
  have hs:=hH.s k (by omega)
  try simp (disch:=omega) only [go_sem,jF,↓reduceIte,jO,hidob,bA,e2,Option.map_some]
  refine ⟨by omega,by omega,?_⟩
  refine aL (ai _ id g aA true t at4 _ (by try simp (disch:=omega) only [go_sem,↓reduceIte]) (by omega) hl) ?_
  have hx5:=aI t at4 (min (S.getD k 0+x) 12+1)
  generalize bf t at4 (min (S.getD k 0+x) 12+1)=dr at *
  obtain ⟨y,at5⟩:=dr
  simp only at hx5
  have hy:0≤y∧y≤12∧y≤S.getD k 0+x:=by omega
  have hH2:=hH.snoc (x:=x) (y:=y) rfl (by omega) (by omega) hy.2.2
  have hI:=hH.li
  have hO:=hH.lo
  try simp (disch:=omega) only [go_sem,jF,↓reduceIte,h6]
  refine CX (q:=n0) (A:=S) (B:=I) (C:=O) (X8:=.sl id8 g8 1 0 (k+1)) (X10:=X7) (hT.mv (Nat.le_refl _) fun i hi _=>?_) (by simp only; omega) (by omega) (by omega) fun Y6 τ6 hT6 hK6 hf6=>?_
  ·simp only; rw [aa _ _ _ _ (by omega),aa _ _ _ _ (by omega)]
  have hn6:=hK6.1
  simp only at hn6
  try simp (disch:=omega) only [go_sem,jF,↓reduceIte,h7]
  refine A4 (b:=8) hT6 (by omega) (by omega) (by omega) fun Y7 τ7 hT7 hK7 hf7=>?_
  have hn7:=hK7.1
  obtain ⟨q1,q2,q3⟩:=hT7.r8.at
  try simp (disch:=omega) only [go_sem,jF,↓reduceIte,jO,q3,hlen]
  refine ⟨by rw [nB]; omega,by omega,?_⟩
  have hT5:vE (τ7.renew id8 ⟨g8,1,3,false,true,ints S⟩ (ints S++[.int .i64 (S.getD k 0+x-y)])) (.sl id8 τ7.c 1 0 (k+1+1)) Y6 Y7 (S++[S.getD k 0+x-y]) (I++[x]) (O++[y]) n0:=
   hT7.UI (Nat.le_refl _) hT7.Hu q1 (by omega) (by simp [St.renew,bd]) fun i _ hne=>by simp only [St.renew]; rw [aa _ _ _ _ hne]
  have hn5:τ7.n≤(τ7.renew id8 ⟨g8,1,3,false,true,ints S⟩ (ints S++[.int .i64 (S.getD k 0+x-y)])).n:=Nat.le_refl _
  have hf5:∀ i,i<n0→(τ7.renew id8 ⟨g8,1,3,false,true,ints S⟩ (ints S++[.int .i64 (S.getD k 0+x-y)])).ob i=τ7.ob i:=fun i hi=>by
   have:=hT7.Hu
   simp only [St.renew]; rw [aa _ _ _ _ (by omega)]
  generalize τ7.renew id8 ⟨g8,1,3,false,true,ints S⟩ (ints S++[.int .i64 (S.getD k 0+x-y)])=τ5 at *
  have hF:∀ i,i<n0→τ5.ob i=(if i=id then some ⟨g,2,aA,false,true,[bC t at5]⟩ else ob i):=fun i hi=>by
   rw [hf5 i hi,hf7 i hi,hf6 i hi]
   simp only [bd]
   split <;> rfl
  try simp (disch:=omega) only [go_sem,jA,jB,jC,jD,jE,jF,jG,jH,jI,jJ,↓reduceIte,reduceCtorEq,jO,jM,jN,jK,jL,h8]
  refine aD τ5.n hkl (by omega) ⟨by try simp (disch:=omega) only [go_sem,↓reduceIte]; congr 1; omega,⟨at5,?_⟩,fun i hi hne=>?_,_,_,_,hH2,?_⟩
  ·simp only [St.aE]; rw [if_pos (by omega),hF id hid,if_pos rfl]
  ·simp only [St.aE]; rw [if_pos (by omega),hF i hi,if_neg hne]; exact hfr i hi hne
  ·try simp (disch:=omega) only [go_sem,jF,↓reduceIte]
   exact hT5.mv (Nat.le_refl _) fun i _ hi=>by simp [St.aE,hi]
 ·try simp (disch:=omega) only [go_sem,jF,↓reduceIte,h5,h6,h7]
  refine ⟨_,at3,aw.tu (.cons (hT.r8.mF (fun i hi hno=>?_) (dp _) (fU _)) (.cons (hT.r9.mF (fun i hi hno=>?_) (dp _) (fU _)) (.cons (hT.KP.mF (fun i hi hno=>?_) (dp _) (fU _)) .nil))),⟨k,S,I,O,rfl,hH,by omega,by omega⟩,hd,hfr⟩
  ·simp only; rw [if_neg fun h=>hno (hT.o8 i h)]
  ·simp only; rw [if_neg fun h=>hno (hT.o9 i h)]
  ·simp only; rw [if_neg fun h=>hno (hT.LK i h)]
def Cc (x:Int) (b:Bd):Prop:=0≤b.lo∧b.lo≤x∧x≤b.hi∧b.hi≤x+30
structure IH (L:List Int) (B:List Bd):Prop where
 ln:B.length=L.length
 b:∀ i,i<L.length→Cc (L.getD i 0) (gB B i)
theorem OW {L:List Bd} {x:Bd} {i:Nat} (h:i<L.length):gB (L++[x]) i=gB L i:=by
 simp only [gB,List.getD_eq_getElem?_getD,List.getElem?_append_left h]
theorem OV {L:List Bd} {x:Bd} {i:Nat} (h:i=L.length):gB (L++[x]) i=x:=by
 subst h; simp [gB,List.getD_eq_getElem?_getD]
theorem HT {L:List Int} {k:Nat} (h:k<L.length):L.take (k+1)=L.take k++[L.getD k 0]:=by
 rw [List.take_add_one,nI h]; rfl
theorem IH.nil:IH [] []:=⟨rfl,fun i hi=>by simp at hi⟩
theorem IH.snoc {L:List Int} {B:List Bd} (h:IH L B) {x:Int} {b:Bd} (hb:Cc x b):IH (L++[x]) (B++[b]):=by
 have h1:=h.ln
 refine ⟨by simp [h1],fun i hi=>?_⟩
 rcases Nat.lt_or_ge i L.length with hh | hh
 ·rw [fZ hh,OW (by omega)]; exact h.b i hh
 ·simp only [List.length_append,List.length_cons,List.length_nil] at hi
  rw [lh (by omega),OV (by omega)]; exact hb
theorem fX (σ:St) (id g:Nat) (t:List Int) (at':Nat) (x:Int) (hl:t.length≤9223372036854775807) (hid:id<σ.n) (hob:σ.ob id=some ⟨g,2,aA,false,true,[bC t at']⟩) (hx0:0≤x) (hx1:x≤1000) :
  HC prog BH [.ptr id g 2 0 0,.int .i64 x] σ (ek σ id g t fun r=>∃ b,r=pw b∧Cc x b):=by
 refine HC.wL hid ?_
 obtain ⟨dL,n0,c0⟩:=σ
 simp only at hob hid
 refine aM Ca (by simp) ?_
 simp only [sJ,go_sem,↓reduceIte,reduceCtorEq]
 have h0:¬id=n0:=by omega
 have h2:¬n0=id:=by omega
 have fin:∀ (ob':Nat→Option aV) (c':Nat) (b:Bd) (at2:Nat),ob' id=some ⟨g,2,aA,false,true,[bC t at2]⟩→Cc x b→(∀ i,i<n0→i≠id→ob' i=dL i)→CY ⟨dL,n0,c0⟩ id g t (fun r=>∃ b,r=pw b∧Cc x b) (.agg [.int .i64 b.lo,.int .i64 b.hi]) ⟨ob',n0+1,c'⟩:=
  fun ob' c' b at2 h1 h2 h3=>⟨_,at2,.pure rfl,⟨b,rfl,h2⟩,h1,h3⟩
 refine aL (ai _ id g aA true t at' 4 (by try simp (disch:=omega) only [go_sem,↓reduceIte,h0]; exact hob) (by omega) hl) ?_
 have hy1:=aI t at' 4
 generalize bf t at' 4=dr at *
 obtain ⟨x1,at1⟩:=dr
 try simp (disch:=omega) only [go_sem,↓reduceIte]
 refine ah (fun g1=>?_) (fun g1=>?_)
 ·try simp (disch:=omega) only [go_sem,jF,jG,jH,↓reduceIte,reduceCtorEq,h2]
  exact fin _ _ ⟨x,x⟩ at1 (by try simp (disch:=omega) only [go_sem,↓reduceIte,h0]) (by simp only [Cc]; omega) (fun i hi hi2=>by
   have j0:¬i=n0:=by omega
   try simp (disch:=omega) only [go_sem,↓reduceIte,j0,hi2])
 try simp (disch:=omega) only [go_sem,jF,↓reduceIte]
 refine ah (fun g2=>?_) (fun g2=>?_)
 ·try simp (disch:=omega) only [go_sem,jF,↓reduceIte,reduceCtorEq]
  refine aL (ai _ id g aA true t at1 30 (by try simp (disch:=omega) only [go_sem,↓reduceIte]) (by omega) hl) ?_
  have hy2:=aI t at1 30
  generalize bf t at1 30=dr at *
  obtain ⟨x2,at2⟩:=dr
  simp only at hy2
  try simp (disch:=omega) only [go_sem,jF,jG,jH,↓reduceIte,jO,h2]
  exact fin _ _ ⟨0,x+x2⟩ at2 (by try simp (disch:=omega) only [go_sem,↓reduceIte,h0]) (by simp only [Cc]; omega) (fun i hi hi2=>by
   have j0:¬i=n0:=by omega
   try simp (disch:=omega) only [go_sem,↓reduceIte,j0,hi2])
 try simp (disch:=omega) only [go_sem,jF,↓reduceIte,reduceCtorEq,jO]
 refine aL (ai _ id g aA true t at1 _ (by try simp (disch:=omega) only [go_sem,↓reduceIte]) (by omega) hl) ?_
 have hy2:=aI t at1 (min x 6+1)
 generalize bf t at1 (min x 6+1)=dr at *
 obtain ⟨x2,at2⟩:=dr
 simp only at hy2
 try simp (disch:=omega) only [go_sem,jF,↓reduceIte,reduceCtorEq,jO]
 refine aL (ai _ id g aA true t at2 6 (by try simp (disch:=omega) only [go_sem,↓reduceIte]) (by omega) hl) ?_
 have hy3:=aI t at2 6
 generalize bf t at2 6=dr at *
 obtain ⟨x3,at3⟩:=dr
 simp only at hy3
 try simp (disch:=omega) only [go_sem,jF,jG,jH,↓reduceIte,jO,h2]
 exact fin _ _ ⟨x-x2,x+x3⟩ at3 (by try simp (disch:=omega) only [go_sem,↓reduceIte,h0]) (by simp only [Cc]; omega) (fun i hi hi2=>by
  have j0:¬i=n0:=by omega
  try simp (disch:=omega) only [go_sem,↓reduceIte,j0,hi2])
def T0 (σ:St) (id g:Nat) (t:List Int) (L:List Int) (r:AV) (τ:St):Prop:=
 ∃ B,IH L B∧cw 2 24 τ (cA B) r∧(∀ i,i<σ.n→aZ r i)∧σ.n≤τ.n∧(∃ a,τ.ob id=some ⟨g,2,aA,false,true,[bC t a]⟩)∧∀ i,i<σ.n→i≠id→τ.ob i=σ.ob i
theorem oH (σ:St) (id g:Nat) (t:List Int) (at':Nat) (L:List Int) (hl:t.length≤9223372036854775807) (hid:id<σ.n) (hob:σ.ob id=some ⟨g,2,aA,false,true,[bC t at']⟩) (hL:L.length≤100) (hx:∀ i,i<L.length→0≤L.getD i 0∧L.getD i 0≤1000) :
  HC prog E7 [.ptr id g 2 0 0,.list 1 (ints L)] σ (T0 σ id g t L):=by
 obtain ⟨dL,n0,c0⟩:=σ
 simp only at hob hid
 refine aM FR (by simp) ?_
 simp only [xz,go_sem,jF,↓reduceIte,reduceCtorEq,au]
 refine aT [5,7,10,11,12,13,14,15,16,17,18,19,20] (by kernel_rfl) L.length (fun k e σ=>e 10=.int .i64 k∧(∃ a,σ.ob id=some ⟨g,2,aA,false,true,[bC t a]⟩)∧(∀ i,i<n0→i≠id→σ.ob i=dL i)∧∃ B,IH (L.take k) B∧cw 2 24 σ (cA B) (e 5)∧∀ i,i<n0→aZ (e 5) i) ?_ ?_
 ·exact ⟨(by first | rfl | (simp (disch:=omega) only [go_sem,jA,jB,jC,jD,jE,jF,jG,jH,jI,jJ,↓reduceIte,reduceCtorEq,jP,jO,jM,jN]; try rfl)),⟨at',hob⟩,fun i hi hne=>rfl,[],IH.nil,by try simp (disch:=omega) only [go_sem,jF,↓reduceIte]; exact .nil,fun i _=>by try simp (disch:=omega) only [go_sem,jF,↓reduceIte]; exact aZ.nil i⟩
 rintro k fe ob m c hk hm ⟨h10,⟨at3,hd⟩,hfr,B,hB,hR,ho⟩
 simp (maxSteps:=1000000) only [go_sem,jF,↓reduceIte] at h10 hd hfr hR ho hm
 obtain ⟨X5,h5⟩:∃ X,fe 5=X:=⟨_,rfl⟩
 rw [h5] at hR ho
 try simp (disch:=omega) only [go_sem,jF,↓reduceIte,h10]
 refine ah (fun hlt=>?_) (fun hge=>?_)
 ·have hkl:k<L.length:=by omega
  have e1:=nI hkl
  have hxk:=hx k hkl
  have hts:=HT hkl
  generalize L.getD k 0=x at *
  try simp (disch:=omega) only [go_sem,jF,jH,↓reduceIte,reduceCtorEq,au,bA,e1,Option.map_some]
  refine ⟨by omega,by omega,?_⟩
  refine (fX _ id g t at3 x hl (by simp only; omega) hd hxk.1 hxk.2).mono ?_
  intro r τ hD
  obtain ⟨⟨b,rfl,hb⟩,hn,⟨at4,hd4⟩,hf4⟩:=hD.use (by simp only; omega)
  obtain ⟨ob4,m4,c4⟩:=τ
  simp only at hn hd4 hf4
  subst hn
  try simp (disch:=omega) only [go_sem,jF,↓reduceIte,h5]
  have hBl:B.length=k:=by rw [hB.ln]; simp; omega
  refine ⟨⟨rfl,rfl,rfl⟩,?_⟩
  refine bE (b:=16) (hR.move (by exact Nat.le_refl _) fun i hi hno=>hf4 i hi fun e=>hno (e ▸ ho id hid)) (by rw [aJ]; omega) (by rw [aJ]; omega) fun Y τ5 hR5 hK5=>?_
  have hn5:=hK5.1
  simp only at hn5
  try simp (disch:=omega) only [go_sem,jF,↓reduceIte,jO]
  refine aD τ5.n hkl (by omega) ⟨(by first | rfl | (simp (disch:=omega) only [go_sem,jA,jB,jC,jD,jE,jF,jG,jH,jI,jJ,↓reduceIte,reduceCtorEq,jP,jO,jM,jN]; try rfl)),⟨at4,?_⟩,fun i hi hne=>?_,B++[b],?_,?_,fun i hi=>?_⟩
  ·simp only [St.aE]; rw [if_pos (by omega),hK5.2.1 id (by simp only; omega) (ho id hid)]; exact hd4
  ·simp only [St.aE]; rw [if_pos (by omega),hK5.2.1 i (by simp only; omega) (ho i hi)]
   exact (hf4 i (by omega) hne).trans (hfr i hi hne)
  ·rw [hts]; exact hB.snoc hb
  ·try simp (disch:=omega) only [go_sem,jF,↓reduceIte,Ka]
   exact hR5.move (Nat.le_refl _) fun i hi _=>by simp [St.aE,hi]
  ·try simp (disch:=omega) only [go_sem,jF,↓reduceIte]; exact hK5.2.2 i (by simp only; omega) (ho i hi)
 ·try simp (disch:=omega) only [go_sem,jF,↓reduceIte,h5]
  obtain rfl:L.length=k:=by omega
  rw [List.take_length] at hB
  exact ⟨B,hB,hR,ho,hm,⟨at3,hd⟩,hfr⟩
end Go.Proofs.Try
