/- OWN WORK, put together by tools/asm.py, seat.py, mini.py. -/
import Derived.Test.YtcpckngdfjmbgaaGreatLib
set_option linter.unusedSimpArgs false
set_option linter.unusedVariables false
set_option maxRecDepth 100000
set_option maxHeartbeats 1000000
namespace Go.Proofs.Try
open Go.Ab Go Go.Proofs.Tryz
open Int renaming reduceEq → jA, reduceLT → jB, reduceLE → jC, reduceToNat → jD
open Go.Ab renaming jX → jM, jY → jN, nB → jO, jZ → jP
open Nat renaming reduceLT → jE, reduceEqDiff → jF, reduceAdd → jG, reduceLeDiff → jH, reduceSub → jI, reduceMul → jJ, sub_zero → jK, sub_self → jL
def cV (l:List Int) (x:Int):Nat:=l.findIdx fun y=>decide (x≤y)
theorem v7 (l:List Int) (x:Int):cV l x≤l.length:=List.findIdx_le_length
theorem zU (l:List Int) (x:Int) (i:Nat) (hi:i≤l.length) (h1:∀ k,k<i→∀ y,l[k]?=some y→y<x) (h2:∀ k,i≤k→∀ y,l[k]?=some y→x≤y):cV l x=i:=by
 unfold cV
 by_cases h:i<l.length
 ·rw [List.findIdx_eq h]
  refine ⟨by simpa using h2 i (Nat.le_refl _) _ (List.getElem?_eq_getElem h),fun j hj=>?_⟩
  have:=h1 j hj _ (List.getElem?_eq_getElem (by omega))
  simp; omega
 ·have:i=l.length:=by omega
  subst this
  rw [List.findIdx_eq_length]
  intro y hy
  obtain ⟨k,hk⟩:=List.getElem?_of_mem hy
  have:=h1 k (List.getElem?_eq_some_iff.1 hk).1 y hk
  simp; omega
theorem EN (x:Int) (h0:0≤x) (h1:x≤9223372036854775807):AW .shr .u64 x .u64 1=some (.int .u64 (x / 2)):=by
 simp only [AW,IntKind.bits]
 rw [if_pos (by omega)]
 have:(2:Int) ^ min (1:Int).toNat 64=2:=by decide
 rw [this,Int.fdiv_eq_ediv_of_nonneg _ (by omega)]
theorem wrap_u64 {n:Int} (h0:0≤n) (h1:n≤18446744073709551615):IntKind.u64.wrap n=n:=by
 simp [IntKind.wrap,IntKind.bits,IntKind.signed]; omega
def JZ (l:List Int):Prop:=∀ i j:Nat,i<j→∀ x y,l[i]?=some x→l[j]?=some y→x≤y
theorem qD (l:List Int) (x:Int) (hs:JZ l):l[cV l x]?=some x↔x∈l:=by
 constructor
 ·intro h; exact List.mem_of_getElem? h
 ·intro h
  have hlt:cV l x<l.length:=List.findIdx_lt_length.2 ⟨x,h,by simp⟩
  have h3:x≤l[cV l x]:=of_decide_eq_true (List.findIdx_getElem (p:=fun y=>decide (x≤y)) (w:=hlt))
  obtain ⟨i,hi⟩:=List.getElem?_of_mem h
  have h4:cV l x≤i:=by
   rcases Nat.lt_or_ge i (cV l x) with h5 | h5
   ·have:=List.not_of_lt_findIdx h5
    rw [List.getElem?_eq_some_iff] at hi
    obtain ⟨_,rfl⟩:=hi
    simp at this
   ·exact h5
  rw [List.getElem?_eq_getElem hlt]
  by_cases e:i=cV l x
  ·subst e; rw [List.getElem?_eq_getElem hlt] at hi; exact hi
  ·have:=hs _ i (by omega) _ x (List.getElem?_eq_getElem hlt) hi
   congr 1; omega
theorem FZ {l:List Int} {x y:Int} (h:l[cV l x]?=some y):x≤y:=by
 obtain ⟨hlt,rfl⟩:=List.getElem?_eq_some_iff.1 h
 exact of_decide_eq_true (List.findIdx_getElem (p:=fun y=>decide (x≤y)) (w:=hlt))
theorem vZ {l:List Int} {x y:Int} {k:Nat} (h:l[k]?=some y) (hy:x≤y):cV l x≤k:=by
 obtain ⟨hlt,rfl⟩:=List.getElem?_eq_some_iff.1 h
 rcases Nat.lt_or_ge k (cV l x) with h5 | h5
 ·have:=List.not_of_lt_findIdx h5
  simp at this; omega
 ·exact h5
abbrev Cj:TypeId:=24
theorem mg (σ:St) (L:List AV) (hl:L.length * 16≤140737488355328):HC prog fM [.list 2 L] σ (F7 σ 2 Cj L):=by
 refine aM gr (by simp) ?_
 obtain ⟨ob,n,c⟩:=σ
 simp only [gk,go_sem,↓reduceIte,reduceCtorEq]
 refine tT (fun h=>?_) (fun h=>?_)
 ·subst h
  refine ⟨?_,?_⟩
  ·try simp (disch:=omega) only [go_sem,↓reduceIte]
   refine ⟨_,_,rfl,Nat.le_succ _,Nat.lt_succ_self _,(by first | rfl | (simp (disch:=omega) only [go_sem,↓reduceIte]; try rfl)),fun i hi=>?_⟩
   simp only at hi
   try simp (disch:=omega) only [go_sem,jM]
  ·try simp (disch:=omega) only [go_sem,jF,jH,jJ,↓reduceIte,reduceCtorEq]
   repeat (refine And.intro (by first | omega | (rw [nV]; omega) | (simp [maxLen]; done) | (simp [maxLen]; omega)) ?_)
   refine ⟨_,_,rfl,Nat.le_succ _,Nat.lt_succ_self _,(by first | rfl | (simp (disch:=omega) only [go_sem,↓reduceIte]; try rfl)),fun i hi=>?_⟩
   simp only at hi
   try simp (disch:=omega) only [go_sem,jM]
 ·try simp (disch:=omega) only [go_sem,jF,↓reduceIte,reduceCtorEq]
  repeat (refine And.intro (by first | omega | (rw [nV]; omega) | (simp [maxLen]; done) | (simp [maxLen]; omega)) ?_)
  refine ⟨_,_,rfl,Nat.le_succ _,Nat.lt_succ_self _,(by first | rfl | (simp (disch:=omega) only [go_sem,↓reduceIte]; try rfl)),fun i hi=>?_⟩
  simp only at hi
  try simp (disch:=omega) only [go_sem,jM]
theorem cS (L:List AV) (hl:L.length * 16≤140737488355328) (hp:∀ x∈L,x.cA=true) (hk:∀ x∈L,l6 2 x):PC prog fM [.list 2 L] (.list 2 L):=
 kR gr ((mg St.empty L hl).mono fun r τ ⟨id,g,h1,_,_,h2,_⟩=>by rw [h1]; exact aA.cU h2 rfl hp hk)
abbrev dk:TypeId:=26
theorem eI (σ:St) (L:List AV) (hl:L.length * 48≤140737488355328):HC prog fK [.list 6 L] σ (F7 σ 6 dk L):=by
 refine aM gp (by simp) ?_
 obtain ⟨ob,n,c⟩:=σ
 simp only [gh,go_sem,↓reduceIte,reduceCtorEq]
 refine tT (fun h=>?_) (fun h=>?_)
 ·subst h
  refine ⟨?_,?_⟩
  ·try simp (disch:=omega) only [go_sem,↓reduceIte]
   refine ⟨_,_,rfl,Nat.le_succ _,Nat.lt_succ_self _,(by first | rfl | (simp (disch:=omega) only [go_sem,↓reduceIte]; try rfl)),fun i hi=>?_⟩
   simp only at hi
   try simp (disch:=omega) only [go_sem,jM]
  ·try simp (disch:=omega) only [go_sem,jF,jH,jJ,↓reduceIte,reduceCtorEq]
   repeat (refine And.intro (by first | omega | (rw [nV]; omega) | (simp [maxLen]; done) | (simp [maxLen]; omega)) ?_)
   refine ⟨_,_,rfl,Nat.le_succ _,Nat.lt_succ_self _,(by first | rfl | (simp (disch:=omega) only [go_sem,↓reduceIte]; try rfl)),fun i hi=>?_⟩
   simp only at hi
   try simp (disch:=omega) only [go_sem,jM]
 ·try simp (disch:=omega) only [go_sem,jF,↓reduceIte,reduceCtorEq]
  repeat (refine And.intro (by first | omega | (rw [nV]; omega) | (simp [maxLen]; done) | (simp [maxLen]; omega)) ?_)
  refine ⟨_,_,rfl,Nat.le_succ _,Nat.lt_succ_self _,(by first | rfl | (simp (disch:=omega) only [go_sem,↓reduceIte]; try rfl)),fun i hi=>?_⟩
  simp only at hi
  try simp (disch:=omega) only [go_sem,jM]
theorem lV (L:List AV) (hl:L.length * 48≤140737488355328) (hp:∀ x∈L,x.cA=true) (hk:∀ x∈L,l6 6 x):PC prog fK [.list 6 L] (.list 6 L):=
 kR gp ((eI St.empty L hl).mono fun r τ ⟨id,g,h1,_,_,h2,_⟩=>by rw [h1]; exact aA.cU h2 rfl hp hk)
structure Ac where
 fr:Int
 st:List Bd
 ins:List Bd
 outs:List Bd
def iO (a:Ac):AV:=.agg [.int .i64 a.fr,.list 2 (cr a.st),.list 2 (cr a.ins),.list 2 (cr a.outs)]
def Fa:Int:=274877906944
def eb (b:Bd):Int:=if b.lo<0∨Fa<b.hi then 1 else if b.hi<b.lo then 48 else 0
def el:List Bd→Int
 | []=>0
 | b :: r=>if eb b=0 then el r else eb b
def fv (b:Bd):Prop:=0≤b.lo∧b.lo≤b.hi∧b.hi≤Fa
theorem C6 {b:Bd}:eb b=0↔fv b:=by
 unfold eb fv
 split
 ·simp; omega
 ·split
  ·simp; omega
  ·simp; omega
theorem ya {l:List Bd}:el l=0↔∀ b∈l,fv b:=by
 induction l with
 | nil=>simp [el]
 | cons b r ih=>
  simp only [el,List.mem_cons,forall_eq_or_imp]
  split
  ·rename_i h; rw [ih,←C6]; simp [h]
  ·rename_i h; rw [←C6]; simp [h]
theorem Lg {l:List Bd} {k:Nat} {b:Bd} (hk:l[k]?=some b) (h:∀ x∈l.take k,eb x=0):el l=if eb b=0 then el (l.drop (k+1)) else eb b:=by
 induction k generalizing l with
 | zero=>
  cases l with
  | nil=>simp at hk
  | cons x r=>simp at hk; subst hk; simp [el]
 | succ k ih=>
  cases l with
  | nil=>simp at hk
  | cons x r=>
   simp only [List.getElem?_cons_succ] at hk
   simp only [List.take_succ_cons,List.mem_cons,forall_eq_or_imp] at h
   rw [el,if_pos h.1,ih hk h.2]
   simp
def ef (a:Ac):Int:=
 if a.ins.length=0∨a.outs.length≠a.ins.length∨a.st.length≠a.ins.length+1 then 3
 else if 400<a.ins.length then 10
 else if a.fr<0∨16777216-(a.ins.length:Int)<a.fr then 6 else 0
def Fe (a:Ac):Int:=if ef a≠0 then ef a else if el a.st≠0 then el a.st else if el a.ins≠0 then el a.ins else el a.outs
structure kV (a:Ac):Prop where
 n1:1≤a.ins.length
 n2:a.ins.length≤400
 no:a.outs.length=a.ins.length
 ns:a.st.length=a.ins.length+1
 f0:0≤a.fr
 f1:a.fr≤16777216-(a.ins.length:Int)
 bs:∀ b∈a.st,fv b
 bi:∀ b∈a.ins,fv b
 bo:∀ b∈a.outs,fv b
theorem Df {a:Ac}:Fe a=0↔kV a:=by
 have h6:ef a=0↔(1≤a.ins.length∧a.ins.length≤400∧a.outs.length=a.ins.length∧a.st.length=a.ins.length+1∧0≤a.fr∧a.fr≤16777216-(a.ins.length:Int)):=by
  unfold ef
  split
  ·simp; omega
  ·split
   ·simp; omega
   ·split
    ·simp; omega
    ·simp; omega
 have h:Fe a=0↔ef a=0∧el a.st=0∧el a.ins=0∧el a.outs=0:=by
  unfold Fe
  split
  ·rename_i h; simp [h]
  ·rename_i h
   split
   ·rename_i h2; simp [h2]
   ·rename_i h2
    split
    ·rename_i h3; simp [h3]
    ·rename_i h3; simp at h h2 h3; simp [h,h2,h3]
 rw [h,h6,ya,ya,ya]
 exact ⟨fun ⟨⟨a1,a2,a3,a4,a5,a6⟩,b1,b2,b3⟩=>⟨a1,a2,a3,a4,a5,a6,b1,b2,b3⟩,fun h=>⟨⟨h.n1,h.n2,h.no,h.ns,h.f0,h.f1⟩,h.bs,h.bi,h.bo⟩⟩
def gZ (b:Bd) (v:Int):Prop:=b.lo≤v∧v≤b.hi
def dF (a b:Bd):Bd:=⟨max a.lo b.lo,min a.hi b.hi⟩
def Mo (s x y:Bd):Bd:=⟨s.lo+x.lo-y.hi,s.hi+x.hi-y.lo⟩
def JW (t x y:Bd):Bd:=⟨t.lo-x.hi+y.lo,t.hi-x.lo+y.hi⟩
def SI (s t y:Bd):Bd:=⟨t.lo-s.hi+y.lo,t.hi-s.lo+y.hi⟩
def NV (s t x:Bd):Bd:=⟨s.lo+x.lo-t.hi,s.hi+x.hi-t.lo⟩
def gN (b:Bd):Prop:=b.lo≤b.hi
section
variable (S X Y : Nat → Bd) (n : Nat)
def FX:Nat→Bd
 | 0=>S 0
 | i+1=>dF (S (i+1)) (Mo (FX i) (X i) (Y i))
def RN:Nat→Bd
 | 0=>FX S X Y n
 | k+1=>dF (FX S X Y (n-(k+1))) (JW (RN k) (X (n-(k+1))) (Y (n-(k+1))))
def yb (i:Nat):Bd:=RN S X Y n (n-i)
def Ug (i:Nat):Bd:=dF (X i) (SI (yb S X Y n i) (yb S X Y n (i+1)) (Y i))
def Uf (i:Nat):Bd:=dF (Y i) (NV (yb S X Y n i) (yb S X Y n (i+1)) (X i))
structure Hi (s x y:Nat→Int):Prop where
 st:∀ i,i≤n→gZ (S i) (s i)
 ins:∀ i,i<n→gZ (X i) (x i)
 outs:∀ i,i<n→gZ (Y i) (y i)
 O8:∀ i,i<n→s (i+1)=s i+x i-y i
end
section
variable {S X Y : Nat → Bd} {n : Nat} {s x y : Nat → Int}
theorem ug:yb S X Y n n=FX S X Y n:=by simp [yb,RN]
theorem fX {i:Nat} (h:i<n):yb S X Y n i=dF (FX S X Y i) (JW (yb S X Y n (i+1)) (X i) (Y i)):=by
 unfold yb
 obtain ⟨k,hk⟩:∃ k,n-i=k+1:=⟨n-i-1,by omega⟩
 rw [hk,RN,show n-(i+1)=k by omega,show n-(k+1)=i by omega]
theorem Hi.F (h:Hi S X Y n s x y):∀ i,i≤n→gZ (FX S X Y i) (s i)
 | 0,hi=>h.st 0 hi
 | i+1,hi=>by
  have h1:=h.F i (by omega)
  have h2:=h.st (i+1) hi
  have h3:=h.ins i (by omega)
  have h4:=h.outs i (by omega)
  have h5:=h.O8 i (by omega)
  simp only [FX,dF,Mo,gZ] at *
  omega
theorem Hi.G (h:Hi S X Y n s x y):∀ k,k≤n→gZ (yb S X Y n (n-k)) (s (n-k))
 | 0,_=>by rw [Nat.sub_zero,ug]; exact h.F n (Nat.le_refl _)
 | k+1,hk=>by
  have h1:=h.G k (by omega)
  rw [fX (by omega),show n-(k+1)+1=n-k by omega]
  have h2:=h.F (n-(k+1)) (by omega)
  have h3:=h.ins (n-(k+1)) (by omega)
  have h4:=h.outs (n-(k+1)) (by omega)
  have h5:=h.O8 (n-(k+1)) (by omega)
  rw [show n-(k+1)+1=n-k by omega] at h5
  simp only [dF,JW,gZ] at *
  omega
theorem Hi.B (h:Hi S X Y n s x y) {i:Nat} (hi:i≤n):gZ (yb S X Y n i) (s i):=by
 have:=h.G (n-i) (by omega)
 rwa [show n-(n-i)=i by omega] at this
theorem Ll (i:Nat) (v:Int) (h:gZ (FX S X Y i) v):gZ (S i) v:=by
 cases i with
 | zero=>exact h
 | succ i=>simp only [FX,dF,gZ] at *; omega
theorem GM {i:Nat} (hi:i≤n) {v:Int} (h:gZ (yb S X Y n i) v):gZ (FX S X Y i) v:=by
 by_cases e:i=n
 ·subst e; rwa [ug] at h
 ·rw [fX (by omega)] at h
  simp only [dF,gZ] at *; omega
theorem HR {a x y:Bd} (ha:gN a) (hx:gN x) (hy:gN y) {v:Int} (h:gZ (Mo a x y) v):∃ p q r,gZ a p∧gZ x q∧gZ y r∧v=p+q-r:=by
 simp only [gN,gZ,Mo] at *
 by_cases h1:v≤a.hi+x.lo-y.hi
 ·exact ⟨v-x.lo+y.hi,x.lo,y.hi,by omega⟩
 ·by_cases h2:v≤a.hi+x.hi-y.hi
  ·exact ⟨a.hi,v-a.hi+y.hi,y.hi,by omega⟩
  ·exact ⟨a.hi,x.hi,a.hi+x.hi-v,by omega⟩
structure Vd (S X Y:Nat→Bd) (n:Nat):Prop where
 x:∀ i,i<n→gN (X i)
 y:∀ i,i<n→gN (Y i)
 f:∀ i,i≤n→gN (FX S X Y i)
theorem Vd.b (h:Vd S X Y n):∀ k,k≤n→gN (yb S X Y n (n-k))
 | 0,_=>by rw [Nat.sub_zero,ug]; exact h.f n (Nat.le_refl _)
 | k+1,hk=>by
  have h1:=h.b k (by omega)
  rw [fX (by omega),show n-(k+1)+1=n-k by omega]
  have h2:=h.f (n-(k+1)) (by omega)
  have h3:=h.x (n-(k+1)) (by omega)
  have h4:=h.y (n-(k+1)) (by omega)
  have h5:=GM (S:=S) (X:=X) (Y:=Y) (show n-k≤n by omega) (v:=(yb S X Y n (n-k)).lo) (by simp only [gZ,gN] at *; omega)
  have h6:=GM (S:=S) (X:=X) (Y:=Y) (show n-k≤n by omega) (v:=(yb S X Y n (n-k)).hi) (by simp only [gZ,gN] at *; omega)
  rw [show n-k=(n-(k+1))+1 by omega] at h5 h6 h1 ⊢
  simp only [FX,dF,JW,Mo,gZ,gN] at *
  omega
theorem Vd.B (h:Vd S X Y n) {i:Nat} (hi:i≤n):gN (yb S X Y n i):=by
 have:=h.b (n-i) (by omega)
 rwa [show n-(n-i)=i by omega] at this
theorem Vd.on (h:Vd S X Y n) {i:Nat} (hi:i<n) {v:Int} (hv:gZ (yb S X Y n i) v):∃ q r,gZ (X i) q∧gZ (Y i) r∧gZ (yb S X Y n (i+1)) (v+q-r):=by
 have h2:=h.B (show i+1≤n from hi)
 have h3:=h.x i hi
 have h4:=h.y i hi
 rw [fX hi] at hv
 obtain ⟨p,q,r,h5,h6,h7,h8⟩:=HR (a:=yb S X Y n (i+1)) (x:=Y i) (y:=X i) h2 h4 h3 (v:=v) (by simp only [dF,JW,Mo,gZ] at *; omega)
 exact ⟨r,q,h7,h6,by rw [show v+r-q=p by omega]; exact h5⟩
theorem Vd.back (h:Vd S X Y n) {i:Nat} (hi:i<n) {v:Int} (hv:gZ (yb S X Y n (i+1)) v):∃ p q r,gZ (X i) q∧gZ (Y i) r∧gZ (yb S X Y n i) p∧v=p+q-r:=by
 have h2:=h.f i (by omega)
 have h3:=h.x i hi
 have h4:=h.y i hi
 have h5:=GM (show i+1≤n from hi) hv
 obtain ⟨p,q,r,h6,h7,h8,h9⟩:=HR (a:=FX S X Y i) (x:=X i) (y:=Y i) h2 h3 h4 (v:=v) (by simp only [FX,dF,gZ] at *; omega)
 refine ⟨p,q,r,h7,h8,?_,h9⟩
 rw [fX hi]
 simp only [dF,JW,gZ] at *
 omega
theorem Vd.SJ (h:Vd S X Y n):∀ (i:Nat),i≤n→∀ v,gZ (yb S X Y n i) v→∃ s x y:Nat→Int,s i=v∧(∀ j,j≤i→gZ (yb S X Y n j) (s j))∧∀ j,j<i→gZ (X j) (x j)∧gZ (Y j) (y j)∧s (j+1)=s j+x j-y j
 | 0,_,v,hv=>⟨fun _=>v,fun _=>0,fun _=>0,rfl,fun j h1=>by rw [show j=0 by omega]; exact hv,fun j h1=>by omega⟩
 | i+1,hi,v,hv=>by
  obtain ⟨p,q,r,h1,h2,h3,h4⟩:=h.back (show i<n by omega) hv
  obtain ⟨s,x,y,h5,h6,h7⟩:=h.SJ i (by omega) p h3
  refine ⟨fun j=>if j=i+1 then v else s j,fun j=>if j=i then q else x j,fun j=>if j=i then r else y j,by simp,fun j a=>?_,fun j a=>?_⟩
  ·simp only
   split
   ·rename_i e; rw [e]; exact hv
   ·exact h6 j (by omega)
  ·simp only
   by_cases e:j=i
   ·subst e
    rw [if_pos rfl,if_pos rfl,if_pos rfl,if_neg (by omega)]
    exact ⟨h1,h2,by rw [h5]; exact h4⟩
   ·rw [if_neg e,if_neg e,if_neg (by omega),if_neg (by omega)]
    exact h7 j (by omega)
theorem Hi.vd (h:Hi S X Y n s x y):Vd S X Y n:=
 ⟨fun i hi=>by have:=h.ins i hi; simp only [gZ,gN] at *; omega,fun i hi=>by have:=h.outs i hi; simp only [gZ,gN] at *; omega,fun i hi=>by have:=h.F i hi; simp only [gZ,gN] at *; omega⟩
end
theorem Lw (a:Ac):(iO a).cA=true:=by simp [iO,go_sem]
theorem vc {x:AV} (h:x.one=true):x.cells=[x]:=by cases x <;> simp_all [AV.one,AV.cells]
def Mv (σ τ:St):Prop:=σ.n≤τ.n∧∀ k,k<σ.n→τ.ob k=σ.ob k
theorem xy (σ:St) (id g:Nat) (ty:TypeId) (f x y z:AV) (hob:σ.ob id=some ⟨g,4,ty,false,true,[.agg [f,x,y,z]]⟩) (hx:x.one=true) (hy:y.one=true) (hz:z.one=true) (hid:id<σ.n) :
  HC prog yV [.ptr id g 4 0 0] σ (fun r τ=>r=.agg [x,y,z]∧Mv σ τ):=by
 obtain ⟨ob,n,c⟩:=σ
 simp only at hob hid
 refine aM Ad (by simp) ?_
 have hn:¬id=n:=by omega
 have cx:=vc hx
 have cy:=vc hy
 have cz:=vc hz
 simp only [qg,go_sem,jF,jG,jH,↓reduceIte,reduceCtorEq,hob,hn]
 try simp (disch:=omega) only [go_sem,jG,hx,hy,hz,cx,cy,cz]
 have one_flat:∀ {x:AV},x.one=true→x.flat=true:=fun {x} h=>by cases x <;> simp_all [AV.one,AV.flat]
 refine ⟨⟨one_flat hx,one_flat hy,one_flat hz⟩,Nat.le_succ _,fun k hk=>?_⟩
 simp only at hk
 have h1:¬k=n:=by omega
 try simp (disch:=omega) only [go_sem,↓reduceIte,h1]
theorem ir (b c:Bd):PC prog CM [pc b,pc c] (pc (dF b c)):=by
 refine ae Dq (by simp) ?_
 simp only [uq,go_sem,jF,jG,jH,↓reduceIte,reduceCtorEq,pc]
 exact aA.of_eq rfl (by simp [go_sem])
theorem vj (a:Ac) (hl:a.ins.length≤9223372036854775807) (hs:a.st.length≤9223372036854775807):PC prog xm [iO a] (.int .i64 (ef a)):=by
 refine ae xI (by simp) ?_
 simp only [oI,go_sem,jF,jG,jH,↓reduceIte,iO,aJ]
 have e3:∀ {σ:St},(a.ins.length=0∨a.outs.length≠a.ins.length∨a.st.length≠a.ins.length+1)→aA σ (.int .i64 3) (.int .i64 (ef a)):=fun h=>aA.of_eq (by simp only [ef,if_pos h]) rfl
 refine bF rfl (fun h=>?_) (fun h=>?_) <;> try simp (disch:=omega) only [go_sem,jF,jG,jH,↓reduceIte,aJ]
 ·exact e3 (.inl (by omega))
 refine tY rfl (fun h2=>?_) (fun h2=>?_) <;> try simp (disch:=omega) only [go_sem,jF,jG,jH,↓reduceIte,aJ]
 ·exact e3 (.inr (.inl (by omega)))
 by_cases hnb:a.ins.length=9223372036854775807
 ·have hw:IntKind.i64.wrap ((a.ins.length:Int)+1)=-9223372036854775808:=by rw [hnb]; decide
  try simp (disch:=omega) only [go_sem,↓reduceIte,reduceCtorEq,hw]
  exact e3 (.inr (.inr (by omega)))
 try simp (disch:=omega) only [go_sem,jO]
 refine bq (fun h3=>?_) (fun h3=>?_) <;> try simp (disch:=omega) only [go_sem,jF,↓reduceIte]
 ·exact e3 (.inr (.inr (by omega)))
 have hf:¬(a.ins.length=0∨a.outs.length≠a.ins.length∨a.st.length≠a.ins.length+1):=by omega
 refine ai (fun h4=>?_) (fun h4=>?_) <;> try simp (disch:=omega) only [go_sem,jF,jH,↓reduceIte]
 ·exact aA.of_eq (by simp only [ef,if_neg hf]; rw [if_pos (by omega)]) rfl
 refine bF rfl (fun h5=>?_) (fun h5=>?_) <;> try simp (disch:=omega) only [go_sem,jF,jH,↓reduceIte,jO]
 ·exact aA.of_eq (by simp only [ef,if_neg hf]; rw [if_neg (by omega),if_pos (.inl h5)]) rfl
 refine ai (fun h6=>?_) (fun h6=>?_) <;> try simp (disch:=omega) only [go_sem,↓reduceIte]
 ·exact aA.of_eq (by simp only [ef,if_neg hf]; rw [if_neg (by omega),if_pos (.inr h6)]) rfl
 exact aA.of_eq (by simp only [ef,if_neg hf]; rw [if_neg (by omega),if_neg (by omega)]) rfl
def Im (a:Ac) (k:Nat) (l:List Bd):Prop:=(k=0∧l=a.st)∨(k=1∧l=a.ins)∨(k=2∧l=a.outs)
def wM (a:Ac) (k:Nat):Prop:=(1≤k→el a.st=0)∧(2≤k→el a.ins=0)∧(3≤k→el a.outs=0)
theorem Gv (a:Ac) {k:Nat} (h:k<3):∃ l,Im a k l∧[AV.list 2 (cr a.st),.list 2 (cr a.ins),.list 2 (cr a.outs)][k]?=some (.list 2 (cr l)):=by
 rcases (by omega:k=0∨k=1∨k=2) with rfl | rfl | rfl
 ·exact ⟨_,.inl ⟨rfl,rfl⟩,rfl⟩
 ·exact ⟨_,.inr (.inl ⟨rfl,rfl⟩),rfl⟩
 ·exact ⟨_,.inr (.inr ⟨rfl,rfl⟩),rfl⟩
theorem zy {a:Ac} {k:Nat} {l:List Bd} (hg:wM a k) (hn:Im a k l) (h:el l=0):wM a (k+1):=by
 unfold wM at *
 rcases hn with ⟨rfl,rfl⟩ | ⟨rfl,rfl⟩ | ⟨rfl,rfl⟩
 ·exact ⟨fun _=>h,fun h=>by omega,fun h=>by omega⟩
 ·exact ⟨fun _=>hg.1 (by omega),fun _=>h,fun h=>by omega⟩
 ·exact ⟨fun _=>hg.1 (by omega),fun _=>hg.2.1 (by omega),fun _=>h⟩
theorem GL {a:Ac} {k:Nat} {l:List Bd} (hf:ef a=0) (hg:wM a k) (hn:Im a k l) {j:Nat} {b:Bd} (hj:l[j]?=some b) (ht:∀ x∈l.take j,eb x=0) (hb:eb b≠0):Fe a=eb b:=by
 have h:el l=eb b:=by rw [Lg hj ht,if_neg hb]
 unfold wM at hg
 unfold Fe
 rw [if_neg (by simp [hf])]
 rcases hn with ⟨rfl,rfl⟩ | ⟨rfl,rfl⟩ | ⟨rfl,rfl⟩
 ·rw [if_pos (by rw [h]; exact hb),h]
 ·rw [if_neg (by simp [hg.1 (by omega)]),if_pos (by rw [h]; exact hb),h]
 ·rw [if_neg (by simp [hg.1 (by omega)]),if_neg (by simp [hg.2.1 (by omega)]),h]
theorem EG {a:Ac} (hf:ef a=0) (hg:wM a 3):Fe a=0:=by
 unfold Fe
 rw [if_neg (by simp [hf]),if_neg (by simp [hg.1 (by omega)]),if_neg (by simp [hg.2.1 (by omega)]),hg.2.2 (by omega)]
theorem I1 {l:List Bd} (h:∀ x∈l,eb x=0):el l=0:=ya.2 fun b hb=>C6.1 (h b hb)
theorem qZ {l:List Bd} {j:Nat} {b:Bd} (hj:l[j]?=some b) (h:∀ x∈l.take j,eb x=0) (hb:eb b=0):∀ x∈l.take (j+1),eb x=0:=by
 intro x hx
 rw [List.take_add_one,hj] at hx
 simp only [Option.toList,List.mem_append,List.mem_singleton] at hx
 rcases hx with hx | rfl
 ·exact h x hx
 ·exact hb
def J0 (a:Ac):Prop:=a.st.length≤9223372036854775807∧a.ins.length≤9223372036854775807∧a.outs.length≤9223372036854775807
theorem J0.nth {a:Ac} (h:J0 a) {k:Nat} {l:List Bd} (hn:Im a k l):l.length≤9223372036854775807:=by
 rcases hn with ⟨_,rfl⟩ | ⟨_,rfl⟩ | ⟨_,rfl⟩
 ·exact h.1
 ·exact h.2.1
 ·exact h.2.2
theorem pw (a:Ac) (hl:J0 a):PC prog AG [iO a] (.int .i64 (Fe a)):=by
 refine ae A4 (by simp) ?_
 simp only [rI,go_sem,jF,jG,jH,↓reduceIte,iO]
 refine ab (vj a hl.2.1 hl.1) (by simp [go_sem]) ?_
 try simp (disch:=omega) only [go_sem,↓reduceIte]
 refine bq (fun h=>?_) (fun h=>?_) <;> try simp (disch:=omega) only [go_sem,jF,jG,jH,↓reduceIte]
 ·exact aA.of_eq (by simp only [Fe]; rw [if_pos h]) rfl
 refine bw [2,5,7,21,22,23,24,25,26,27,28,29,30,31,32,33,34,35,36,37,38,39,40,41,42,43,44,45] (by kernel_rfl) 3 (fun k e σ=>e 21=.int .i64 k∧wM a k) ?_ ?_
 ·exact ⟨(by first | rfl | (simp (disch:=omega) only [go_sem,jA,jB,jC,jD,jE,jF,jG,jH,jI,jJ,↓reduceIte,reduceCtorEq,jP,jO,jM,jN]; try rfl)),fun h=>by omega,fun h=>by omega,fun h=>by omega⟩
 ·rintro k fe ob c hk ⟨h21,hg⟩
  simp (maxSteps:=1000000) only [go_sem,jF,↓reduceIte] at h21
  try simp (disch:=omega) only [go_sem,jF,↓reduceIte,h21]
  refine ai (fun hlt=>?_) (fun hge=>?_)
  ·have hk3:k<3:=by omega
   obtain ⟨l,hn,hk2⟩:=Gv a hk3
   try simp (disch:=omega) only [go_sem,jF,jG,jH,↓reduceIte,hk2,aJ]
   refine ⟨by omega,by omega,?_⟩
   have hll:=hl.nth hn
   refine bw [2,7,27,28,29,30,31,32,33,34,35,36,37,38,39,40,41,42,43,44] (by kernel_rfl) l.length (fun j e σ=>e 27=.int .i64 j∧∀ x∈l.take j,eb x=0) ?_ ?_
   ·exact ⟨(by first | rfl | (simp (disch:=omega) only [go_sem,jA,jB,jC,jD,jE,jF,jG,jH,jI,jJ,↓reduceIte,reduceCtorEq,jP,jO,jM,jN]; try rfl)),by simp⟩
   ·rintro j fe2 ob2 c2 hj ⟨h27,ht⟩
    simp (maxSteps:=1000000) only [go_sem,jF,↓reduceIte] at h27
    try simp (disch:=omega) only [go_sem,jF,↓reduceIte,h27]
    refine ai (fun hlt=>?_) (fun hge=>?_)
    ·have hjl:j<l.length:=by omega
     have hj2:l[j]?=some l[j]:=List.getElem?_eq_getElem hjl
     generalize l[j]=b at *
     try simp (disch:=omega) only [go_sem,jF,jG,jH,↓reduceIte,hj2,eh,aJ,Option.map_some,pc]
     refine ⟨by omega,by omega,?_⟩
     have hbad:=GL h hg hn hj2 ht
     refine bF rfl (fun g1=>?_) (fun g1=>?_) <;> try simp (disch:=omega) only [go_sem,jF,jG,jH,↓reduceIte]
     ·have e:eb b=1:=by unfold eb; rw [if_pos (.inl g1)]
      exact aA.of_eq (by rw [hbad (by omega),e]) rfl
     refine ai (fun g2=>?_) (fun g2=>?_) <;> try simp (disch:=omega) only [go_sem,jF,jG,jH,↓reduceIte]
     ·have e:eb b=1:=by unfold eb Fa; rw [if_pos (.inr g2)]
      exact aA.of_eq (by rw [hbad (by omega),e]) rfl
     refine ai (fun g3=>?_) (fun g3=>?_) <;> try simp (disch:=omega) only [go_sem,jF,↓reduceIte,jO]
     ·have e:eb b=48:=by unfold eb Fa; rw [if_neg (by omega),if_pos g3]
      exact aA.of_eq (by rw [hbad (by omega),e]) rfl
     try simp (disch:=omega) only [go_sem,jA,jB,jC,jD,jE,jF,jG,jH,jI,jJ,↓reduceIte,reduceCtorEq,jO,jM,jN,jK,jL,h27]
     refine bn hjl ⟨(by first | rfl | (simp (disch:=omega) only [go_sem,jA,jB,jC,jD,jE,jF,jG,jH,jI,jJ,↓reduceIte,reduceCtorEq,jP,jO,jM,jN]; try rfl)),qZ hj2 ht ?_⟩
     unfold eb Fa; rw [if_neg (by omega),if_neg (by omega)]
    ·try simp (disch:=omega) only [go_sem,jF,↓reduceIte,jO]
     have:j=l.length:=by omega
     subst this
     rw [List.take_length] at ht
     exact bn hk3 ⟨(by first | rfl | (simp (disch:=omega) only [go_sem,jA,jB,jC,jD,jE,jF,jG,jH,jI,jJ,↓reduceIte,reduceCtorEq,jP,jO,jM,jN]; try rfl)),zy hg hn (I1 ht)⟩
  ·try simp (disch:=omega) only [go_sem,↓reduceIte]
   have:k=3:=by omega
   subst this
   exact aA.of_eq (by rw [EG h hg]) rfl
theorem KU (a:Ac) {k:Nat} (h:k<3):∃ l,Im a k l∧([.list 2 (cr a.st),.list 2 (cr a.ins),.list 2 (cr a.outs)]:List AV).getD (k * 1) .bC=.list 2 (cr l):=by
 obtain ⟨l,h1,h2⟩:=Gv a h
 exact ⟨l,h1,by rw [Nat.mul_one,List.getD_eq_getElem?_getD,h2]; rfl⟩
theorem xc (a:Ac) (hl:J0 a):PC prog yW [iO a] (.int .i64 (Fe a)):=by
 have l1:=hl.1
 have l2:=hl.2.1
 have l3:=hl.2.2
 refine ae Ae (by simp) ?_
 simp only [qh,go_sem,jF,jG,jH,↓reduceIte,iO,aJ]
 have e3:∀ {σ:St},(a.ins.length=0∨a.outs.length≠a.ins.length∨a.st.length≠a.ins.length+1)→aA σ (.int .i64 3) (.int .i64 (Fe a)):=fun h=>aA.of_eq (by
  have:ef a=3:=by simp only [ef,if_pos h]
  simp [Fe,this]) rfl
 have ee:∀ {σ:St} {e:Int},ef a=e→e≠0→aA σ (.int .i64 e) (.int .i64 (Fe a)):=fun {σ e} h h0=>aA.of_eq (by
  unfold Fe
  rw [if_pos (by omega),h]) rfl
 refine bF rfl (fun h=>?_) (fun h=>?_) <;> try simp (disch:=omega) only [go_sem,jF,jG,jH,↓reduceIte,aJ]
 ·exact e3 (.inl (by omega))
 refine tY rfl (fun h2=>?_) (fun h2=>?_) <;> try simp (disch:=omega) only [go_sem,jF,jG,jH,↓reduceIte,aJ]
 ·exact e3 (.inr (.inl (by omega)))
 by_cases hnb:a.ins.length=9223372036854775807
 ·have hw:IntKind.i64.wrap ((a.ins.length:Int)+1)=-9223372036854775808:=by rw [hnb]; decide
  try simp (disch:=omega) only [go_sem,↓reduceIte,reduceCtorEq,hw]
  exact e3 (.inr (.inr (by omega)))
 try simp (disch:=omega) only [go_sem,jO]
 refine bq (fun h3=>?_) (fun h3=>?_) <;> try simp (disch:=omega) only [go_sem,jF,↓reduceIte]
 ·exact e3 (.inr (.inr (by omega)))
 have hf0:¬(a.ins.length=0∨a.outs.length≠a.ins.length∨a.st.length≠a.ins.length+1):=by omega
 refine ai (fun h4=>?_) (fun h4=>?_) <;> try simp (disch:=omega) only [go_sem,jF,jH,↓reduceIte]
 ·exact ee (by simp only [ef,if_neg hf0]; rw [if_pos (by omega)]) (by omega)
 refine bF rfl (fun h5=>?_) (fun h5=>?_) <;> try simp (disch:=omega) only [go_sem,jF,jH,↓reduceIte,jO]
 ·exact ee (by simp only [ef,if_neg hf0]; rw [if_neg (by omega),if_pos (.inl h5)]) (by omega)
 refine ai (fun h6=>?_) (fun h6=>?_) <;> try simp (disch:=omega) only [go_sem,jF,↓reduceIte]
 ·exact ee (by simp only [ef,if_neg hf0]; rw [if_neg (by omega),if_pos (.inr h6)]) (by omega)
 have h:ef a=0:=by simp only [ef,if_neg hf0]; rw [if_neg (by omega),if_neg (by omega)]
 refine (xy _ 0 _ _ _ _ _ _ rfl rfl rfl rfl (by simp [go_sem])).mono ?_
 rintro _ τ ⟨rfl,hn0,hτ⟩
 obtain ⟨ob,m,cc⟩:=τ
 try simp (disch:=omega) only [go_sem]
 refine bw [2,5,7,44,45,46,47,48,49,50,51,52,53,54,55,56,57,58,59,60,61,62,63,64,65,66,67] (by kernel_rfl) 3 (fun k e σ=>e 44=.int .i64 k∧wM a k) ?_ ?_
 ·exact ⟨(by first | rfl | (simp (disch:=omega) only [go_sem,jA,jB,jC,jD,jE,jF,jG,jH,jI,jJ,↓reduceIte,reduceCtorEq,jP,jO,jM,jN]; try rfl)),fun h=>by omega,fun h=>by omega,fun h=>by omega⟩
 ·rintro k fe ob c hk ⟨h21,hg⟩
  simp (maxSteps:=1000000) only [go_sem,jF,↓reduceIte] at h21
  try simp (disch:=omega) only [go_sem,jF,↓reduceIte,h21]
  refine ai (fun hlt=>?_) (fun hge=>?_)
  ·have hk3:k<3:=by omega
   obtain ⟨l,hn,hk2⟩:=KU a hk3
   try simp (disch:=omega) only [go_sem,jF,jG,↓reduceIte,hk2,aJ]
   refine ⟨by omega,by omega,by omega,?_⟩
   have hll:=hl.nth hn
   refine bw [2,7,49,50,51,52,53,54,55,56,57,58,59,60,61,62,63,64,65,66] (by kernel_rfl) l.length (fun j e σ=>e 49=.int .i64 j∧∀ x∈l.take j,eb x=0) ?_ ?_
   ·exact ⟨(by first | rfl | (simp (disch:=omega) only [go_sem,jA,jB,jC,jD,jE,jF,jG,jH,jI,jJ,↓reduceIte,reduceCtorEq,jP,jO,jM,jN]; try rfl)),by simp⟩
   ·rintro j fe2 ob2 c2 hj ⟨h27,ht⟩
    simp (maxSteps:=1000000) only [go_sem,jF,↓reduceIte] at h27
    try simp (disch:=omega) only [go_sem,jF,↓reduceIte,h27]
    refine ai (fun hlt=>?_) (fun hge=>?_)
    ·have hjl:j<l.length:=by omega
     have hj2:l[j]?=some l[j]:=List.getElem?_eq_getElem hjl
     generalize l[j]=b at *
     try simp (disch:=omega) only [go_sem,jF,jG,jH,↓reduceIte,hj2,eh,aJ,Option.map_some,pc]
     refine ⟨by omega,by omega,?_⟩
     have hbad:=GL h hg hn hj2 ht
     refine bF rfl (fun g1=>?_) (fun g1=>?_) <;> try simp (disch:=omega) only [go_sem,jF,jG,jH,↓reduceIte]
     ·have e:eb b=1:=by unfold eb; rw [if_pos (.inl g1)]
      exact aA.of_eq (by rw [hbad (by omega),e]) rfl
     refine ai (fun g2=>?_) (fun g2=>?_) <;> try simp (disch:=omega) only [go_sem,jF,jG,jH,↓reduceIte]
     ·have e:eb b=1:=by unfold eb Fa; rw [if_pos (.inr g2)]
      exact aA.of_eq (by rw [hbad (by omega),e]) rfl
     refine ai (fun g3=>?_) (fun g3=>?_) <;> try simp (disch:=omega) only [go_sem,jF,↓reduceIte,jO]
     ·have e:eb b=48:=by unfold eb Fa; rw [if_neg (by omega),if_pos g3]
      exact aA.of_eq (by rw [hbad (by omega),e]) rfl
     try simp (disch:=omega) only [go_sem,jA,jB,jC,jD,jE,jF,jG,jH,jI,jJ,↓reduceIte,reduceCtorEq,jO,jM,jN,jK,jL,h27]
     refine bn hjl ⟨(by first | rfl | (simp (disch:=omega) only [go_sem,jA,jB,jC,jD,jE,jF,jG,jH,jI,jJ,↓reduceIte,reduceCtorEq,jP,jO,jM,jN]; try rfl)),qZ hj2 ht ?_⟩
     unfold eb Fa; rw [if_neg (by omega),if_neg (by omega)]
    ·try simp (disch:=omega) only [go_sem,jF,↓reduceIte,jO]
     have:j=l.length:=by omega
     subst this
     rw [List.take_length] at ht
     exact bn hk3 ⟨(by first | rfl | (simp (disch:=omega) only [go_sem,jA,jB,jC,jD,jE,jF,jG,jH,jI,jJ,↓reduceIte,reduceCtorEq,jP,jO,jM,jN]; try rfl)),zy hg hn (I1 ht)⟩
  ·try simp (disch:=omega) only [go_sem,↓reduceIte]
   have:k=3:=by omega
   subst this
   exact aA.of_eq (by rw [EG h hg]) rfl
def uQ (n:Nat) (f:Nat→Bd):List Bd:=(List.range n).map f
theorem bm (n:Nat) (f:Nat→Bd):(uQ n f).length=n:=by simp [uQ]
theorem tM {n i:Nat} (f:Nat→Bd) (h:i<n):(uQ n f)[i]?=some (f i):=by simp [uQ,h]
theorem xY {n i:Nat} (f g:Nat→Bd) (b:Bd) (hi:i<n) (hg:g i=b) (ho:∀ j,j<n→j≠i→g j=f j):(uQ n f).set i b=uQ n g:=by
 apply List.ext_getElem?
 intro j
 rw [List.getElem?_set]
 by_cases e:i=j
 ·subst e
  rw [if_pos rfl,bm,if_pos hi,tM g hi,hg]
 ·rw [if_neg e]
  by_cases hj:j<n
  ·rw [tM f hj,tM g hj,ho j hj (Ne.symm e)]
  ·rw [List.getElem?_eq_none (by rw [bm]; omega),List.getElem?_eq_none (by rw [bm]; omega)]
theorem lE {n:Nat} {f g:Nat→Bd} (h:∀ j,j<n→f j=g j):uQ n f=uQ n g:=by
 apply List.map_congr_left
 intro j hj
 exact h j (List.mem_range.1 hj)
theorem y9 (L:List Bd):uQ L.length (fun i=>L.getD i default)=L:=by
 apply List.ext_getElem?
 intro j
 by_cases hj:j<L.length
 ·rw [tM _ hj,List.getD_eq_getElem?_getD,List.getElem?_eq_getElem hj]; rfl
 ·rw [List.getElem?_eq_none (by rw [bm]; omega),List.getElem?_eq_none (by omega)]
def gB (L:List Bd) (i:Nat):Bd:=L.getD i default
theorem cN {L:List Bd} {i:Nat} (h:i<L.length):L[i]?=some (gB L i):=by rw [gB,List.getD_eq_getElem?_getD,List.getElem?_eq_getElem h]; rfl
theorem Gz {n i:Nat} (f:Nat→Bd) (h:i<n):gB (uQ n f) i=f i:=by rw [gB,List.getD_eq_getElem?_getD,tM f h]; rfl
theorem fv.val {b:Bd} (h:fv b):gN b:=h.2.1
theorem Ei {b c:Bd} (hb:fv b) (h:gN (dF b c)):fv (dF b c):=by
 simp only [fv,gN,dF] at *
 omega
section
variable {S X Y : List Bd} {n : Nat}
structure uO (S X Y:List Bd) (n:Nat):Prop where
 s:S.length=n+1
 x:X.length=n
 y:Y.length=n
 fs:∀ b∈S,fv b
 fx:∀ b∈X,fv b
 fy:∀ b∈Y,fv b
theorem uO.gs (h:uO S X Y n) {i:Nat} (hi:i≤n):fv (gB S i):=h.fs _ (List.mem_of_getElem? (cN (by rw [h.s]; omega)))
theorem uO.gx (h:uO S X Y n) {i:Nat} (hi:i<n):fv (gB X i):=h.fx _ (List.mem_of_getElem? (cN (by rw [h.x]; omega)))
theorem uO.gy (h:uO S X Y n) {i:Nat} (hi:i<n):fv (gB Y i):=h.fy _ (List.mem_of_getElem? (cN (by rw [h.y]; omega)))
def cF (S X Y:List Bd) (i:Nat):Bd:=FX (gB S) (gB X) (gB Y) i
def cB (S X Y:List Bd) (n i:Nat):Bd:=yb (gB S) (gB X) (gB Y) n i
def cX (S X Y:List Bd) (n i:Nat):Bd:=Ug (gB S) (gB X) (gB Y) n i
def cY (S X Y:List Bd) (n i:Nat):Bd:=Uf (gB S) (gB X) (gB Y) n i
def VD (S X Y:List Bd) (n:Nat):Prop:=∀ i,i≤n→gN (cF S X Y i)
theorem uO.vd (h:uO S X Y n) (hv:VD S X Y n):Vd (gB S) (gB X) (gB Y) n:=⟨fun i hi=>(h.gx hi).val,fun i hi=>(h.gy hi).val,hv⟩
theorem Dh (h:uO S X Y n):∀ {i:Nat},i≤n→gN (cF S X Y i)→fv (cF S X Y i)
 | 0,hi,_=>h.gs hi
 | _+1,hi,hv=>Ei (h.gs hi) hv
theorem zS (h:uO S X Y n) (hv:VD S X Y n) {i:Nat} (hi:i≤n):fv (cB S X Y n i):=by
 have h1:=(h.vd hv).B hi
 by_cases e:i=n
 ·subst e; unfold cB; rw [ug]; exact Dh h (Nat.le_refl _) (hv _ (Nat.le_refl _))
 ·unfold cB; rw [fX (by omega)] at h1 ⊢; exact Ei (Dh h hi (hv i hi)) h1
def DL (S X Y:List Bd) (n k:Nat):List Bd:=uQ (n+1) fun j=>if j≤k then cF S X Y j else gB S j
def GR (S X Y:List Bd) (n k:Nat):List Bd:=uQ (n+1) fun j=>if n-k≤j then cB S X Y n j else cF S X Y j
def HH (S X Y:List Bd) (n k:Nat):List Bd:=uQ n fun j=>if j<k then cX S X Y n j else gB X j
def JX (S X Y:List Bd) (n k:Nat):List Bd:=uQ n fun j=>if j<k then cY S X Y n j else gB Y j
theorem Jq (h:uO S X Y n):DL S X Y n 0=S:=by
 refine Eq.trans (lE (g:=fun i=>S.getD i default) fun j _=>?_) (by have:=y9 S; rwa [h.s] at this)
 split
 ·rename_i e; obtain rfl:j=0:=by omega
  rfl
 ·rfl
theorem Lp:DL S X Y n n=uQ (n+1) (cF S X Y):=lE fun j hj=>by rw [if_pos (by omega)]
theorem Js:GR S X Y n 0=uQ (n+1) (cF S X Y):=lE fun j hj=>by
 split
 ·rename_i e; obtain rfl:j=n:=by omega
  exact ug
 ·rfl
theorem Lq:GR S X Y n n=uQ (n+1) (cB S X Y n):=lE fun j hj=>by rw [if_pos (by omega)]
theorem Jo (h:uO S X Y n):HH S X Y n 0=X:=by
 refine Eq.trans (lE (g:=fun i=>X.getD i default) fun j _=>?_) (by have:=y9 X; rwa [h.x] at this)
 rw [if_neg (by omega)]; rfl
theorem Jm (h:uO S X Y n):JX S X Y n 0=Y:=by
 refine Eq.trans (lE (g:=fun i=>Y.getD i default) fun j _=>?_) (by have:=y9 Y; rwa [h.y] at this)
 rw [if_neg (by omega)]; rfl
theorem GP:HH S X Y n n=uQ n (cX S X Y n):=lE fun j hj=>by rw [if_pos (by omega)]
theorem GO:JX S X Y n n=uQ n (cY S X Y n):=lE fun j hj=>by rw [if_pos (by omega)]
theorem Jr {k:Nat} (hk:k<n):(DL S X Y n k).set (k+1) (cF S X Y (k+1))=DL S X Y n (k+1):=
 xY _ _ _ (by omega) (by rw [if_pos (by omega)]) fun j _ hj=>by
  by_cases e:j≤k
  ·rw [if_pos e,if_pos (by omega)]
  ·rw [if_neg e,if_neg (by omega)]
theorem Jt {k:Nat} (hk:k<n):(GR S X Y n k).set (n-(k+1)) (cB S X Y n (n-(k+1)))=GR S X Y n (k+1):=
 xY _ _ _ (by omega) (by rw [if_pos (by omega)]) fun j _ hj=>by
  by_cases e:n-k≤j
  ·rw [if_pos e,if_pos (by omega)]
  ·rw [if_neg e,if_neg (by omega)]
theorem Jp {k:Nat} (hk:k<n):(HH S X Y n k).set k (cX S X Y n k)=HH S X Y n (k+1):=
 xY _ _ _ hk (by rw [if_pos (by omega)]) fun j _ hj=>by
  by_cases e:j<k
  ·rw [if_pos e,if_pos (by omega)]
  ·rw [if_neg e,if_neg (by omega)]
theorem Jn {k:Nat} (hk:k<n):(JX S X Y n k).set k (cY S X Y n k)=JX S X Y n (k+1):=
 xY _ _ _ hk (by rw [if_pos (by omega)]) fun j _ hj=>by
  by_cases e:j<k
  ·rw [if_pos e,if_pos (by omega)]
  ·rw [if_neg e,if_neg (by omega)]
theorem DA {k j:Nat} (hj:j≤n):gB (DL S X Y n k) j=if j≤k then cF S X Y j else gB S j:=Gz _ (by omega)
theorem GQ {k j:Nat} (hj:j≤n):gB (GR S X Y n k) j=if n-k≤j then cB S X Y n j else cF S X Y j:=Gz _ (by omega)
end
def js (a:Ac):Ac:=⟨a.fr,uQ (a.ins.length+1) (cB a.st a.ins a.outs a.ins.length),uQ a.ins.length (cX a.st a.ins a.outs a.ins.length),uQ a.ins.length (cY a.st a.ins a.outs a.ins.length)⟩
theorem kV.lens {a:Ac} (h:kV a):uO a.st a.ins a.outs a.ins.length:=⟨h.ns,rfl,h.no,h.bs,h.bi,h.bo⟩
def QT:Ac:=⟨0,[],[],[]⟩
def RG (S X Y:List Bd) (n:Nat):Bool:=(List.range (n+1)).all fun i=>decide ((cF S X Y i).lo≤(cF S X Y i).hi)
theorem Cg {S X Y:List Bd} {n:Nat}:RG S X Y n=true↔VD S X Y n:=by
 simp only [RG,List.all_eq_true,List.mem_range,decide_eq_true_eq,VD,gN]
 exact ⟨fun h i hi=>h i (by omega),fun h i hi=>h i (by omega)⟩
def dx (a:Ac):Ac × Int:=if Fe a≠0 then (QT,Fe a) else if RG a.st a.ins a.outs a.ins.length then (js a,0) else (QT,48)
structure Ui (τ:St) (o1 o2 o3:Nat × Nat) (t1 t2 t3:TypeId) (L1 L2 L3:List Bd):Prop where
 h1:τ.ob o1.1=some ⟨o1.2,2,t1,false,true,cr L1⟩
 h2:τ.ob o2.1=some ⟨o2.2,2,t2,false,true,cr L2⟩
 h3:τ.ob o3.1=some ⟨o3.2,2,t3,false,true,cr L3⟩
 SA:o1.1≠o2.1
 Sz:o1.1≠o3.1
 RM:o2.1≠o3.1
 l1:o1.1<τ.n
 l2:o2.1<τ.n
 l3:o3.1<τ.n
def Hz (f:Int) (o1 o2 o3:Nat × Nat) (a b c:Nat):AV:=.agg [.int .i64 f,.sl o1.1 o1.2 2 0 a,.sl o2.1 o2.2 2 0 b,.sl o3.1 o3.2 2 0 c]
theorem eZ {b:Bd} (h:fv b):0≤b.lo∧b.lo≤b.hi∧b.hi≤274877906944:=h
def Twin (σ:St) (a:Ac) (t:TypeId) (r:AV) (τ:St):Prop:=∃ o1 o2 o3,r=Hz a.fr o1 o2 o3 a.st.length a.ins.length a.outs.length∧Ui τ o1 o2 o3 t t t a.st a.ins a.outs∧σ.n≤o1.1∧σ.n≤o2.1∧σ.n≤o3.1∧Mv σ τ
theorem Cw {σ:St} {id g k:Nat} {ty:TypeId} {ro ap:Bool} {L:List Bd} (h:σ.ob id=some ⟨g,2,ty,ro,ap,cr L⟩) (hk:k=L.length):aA σ (.sl id g 2 0 k) (.list 2 (cr L)):=by
 subst hk
 rw [←aJ]
 exact aA.cU h rfl (lT L) (qo L)
theorem Mv.refl (σ:St):Mv σ σ:=⟨Nat.le_refl _,fun _ _=>rfl⟩
theorem Mv.trans {σ τ ρ:St} (h:Mv σ τ) (k:Mv τ ρ):Mv σ ρ:=⟨Nat.le_trans h.1 k.1,fun i hi=>(k.2 i (Nat.lt_of_lt_of_le hi h.1)).trans (h.2 i hi)⟩
theorem IQ {L:List Bd} (h:∀ b∈L,fv b) {i:Nat} (hi:i<L.length):fv (gB L i):=h _ (List.mem_of_getElem? (cN hi))
theorem Gx {b:Bd} {v:Int} (hb:fv b) (h:gZ b v):0≤v∧v≤274877906944:=by
 simp only [fv,gZ,Fa] at *; omega
theorem Jg (l:List Bd) (b:Bd):cr (l++[b])=cr l++[.agg [.int .i64 b.lo,.int .i64 b.hi]]:=by simp [cr,pc]
theorem ry (σ:St) (a:Ac) (h1:a.st.length≤4611686018427) (h2:a.ins.length≤4611686018427) (h3:a.outs.length≤4611686018427) (e1:a.st≠[]) (e2:a.ins≠[]) (e3:a.outs≠[]):HC prog tG [iO a] σ (Twin σ a 24):=by
 obtain ⟨ob,n,c⟩:=σ
 refine aM uG (by simp) ?_
 simp only [ur,go_sem,jF,jG,jH,↓reduceIte,iO]
 have b1:cr a.st≠[]:=by simpa [cr] using e1
 have b2:cr a.ins≠[]:=by simpa [cr] using e2
 have b3:cr a.outs≠[]:=by simpa [cr] using e3
 have l1:(cr a.st).length=a.st.length:=aJ _
 have l2:(cr a.ins).length=a.ins.length:=aJ _
 have l3:(cr a.outs).length=a.outs.length:=aJ _
 try simp (disch:=omega) only [go_sem,jM]
 refine ⟨fun _ _ h=>(by cases h; rfl),fun _ _ _ _ _ h=>(by rcases h with h | ⟨_,h⟩ <;> cases h),by rw [nV]; omega,by omega,fun h=>absurd h b1,fun _=>?_⟩
 try simp (disch:=omega) only [go_sem,jF,jG,jH,↓reduceIte,jM]
 refine ⟨fun _ _ h=>(by cases h; rfl),fun _ _ _ _ _ h=>(by rcases h with h | ⟨_,h⟩ <;> cases h),by rw [nV]; omega,by omega,fun h=>absurd h b2,fun _=>?_⟩
 try simp (disch:=omega) only [go_sem,jF,jG,jH,↓reduceIte,jM]
 refine ⟨fun _ _ h=>(by cases h; rfl),fun _ _ _ _ _ h=>(by rcases h with h | ⟨_,h⟩ <;> cases h),by rw [nV]; omega,by omega,fun h=>absurd h b3,fun _=>?_⟩
 try simp (disch:=omega) only [go_sem,jF,jG,jH,↓reduceIte,jM]
 refine ⟨(n+1+1,c+1+1),(n+1+1+1,c+1+1+1),(n+1+1+1+1,c+1+1+1+1),?_⟩
 have d1:¬n+1+1=n:=by omega
 have d2:¬n+1+1+1=n:=by omega
 have d3:¬n+1+1+1+1=n:=by omega
 refine ⟨by simp only [Hz,l1,l2,l3],⟨by simp [aZ,d1],by simp [aZ,d1,d2],by simp [aZ,d2,d3],by simp only; omega,by simp only; omega,by simp only; omega,by simp only; omega,by simp only; omega,by simp only; omega⟩,by simp only; omega,by simp only; omega,by simp only; omega,by simp only; omega,fun k hk=>?_⟩
 simp only at hk
 have y0:¬k=n:=by omega
 have y1:¬k=n+1:=by omega
 have y2:¬k=n+1+1:=by omega
 have y3:¬k=n+1+1+1:=by omega
 have y4:¬k=n+1+1+1+1:=by omega
 try simp (disch:=omega) only [go_sem,↓reduceIte,y0,y1,y2,y3,y4]
theorem yc (L:List Bd) (i:Nat) (b:Bd):(cr L).set i (pc b)=cr (L.set i b):=by simp [cr,List.map_set]
theorem vk (a:Ac) (hl:J0 a):PC prog xn [iO a] (.tuple [iO (dx a).1,.int .i64 (dx a).2]):=by
 have no:∀ {σ:St} {e:Int},dx a=(QT,e)→aA σ (.tuple [.agg [.int .i64 0,.nil,.nil,.nil],.int .i64 e]) (.tuple [iO (dx a).1,.int .i64 (dx a).2]):=by
  intro σ e h
  rw [h]
  exact aA.pair (aA.ag (.cons (.pure rfl) (.cons (.nl 2) (.cons (.nl 2) (.cons (.nl 2) .nil))))) (.pure rfl)
 refine ae xJ (by simp) ?_
 simp only [oJ,go_sem,jF,jG,jH,↓reduceIte,reduceCtorEq,iO]
 refine ab (pw a hl) (by simp [go_sem]) ?_
 try simp (disch:=omega) only [go_sem,↓reduceIte]
 refine bq (fun h=>?_) (fun h=>?_) <;> try simp (disch:=omega) only [go_sem,jF,jG,jH,↓reduceIte,reduceCtorEq]
 ·exact no (by simp only [dx,if_pos h])
 have hok:=Df.1 h
 have hlen:=hok.lens
 obtain ⟨n,hn⟩:∃ n,a.ins.length=n:=⟨_,rfl⟩
 rw [hn] at hlen
 have hn4:1≤n∧n≤400:=by have:=hok.n1; have:=hok.n2; omega
 have htS:dx a=if RG a.st a.ins a.outs n then (js a,0) else (QT,48):=by simp only [dx]; rw [if_neg (by simp [h]),hn]
 have hLs:=hlen.s
 have hLy:=hlen.y
 have nz:∀ {L:List Bd},1≤L.length→L≠[]:=fun h e=>by subst e; simp at h
 refine (ry _ a (by omega) (by omega) (by omega) (nz (by omega)) (nz (by omega)) (nz (by omega))).mono ?_
 rintro _ τ ⟨o1,o2,o3,rfl,hO,g1,g2,g3,hA⟩
 obtain ⟨ob,m,c⟩:=τ
 have hm:2≤m:=by have:=hA.1; simpa [go_sem] using this
 have w0:=hA.2 0 (by simp [go_sem])
 have w1:=hA.2 1 (by simp [go_sem])
 simp (maxSteps:=1000000) only [go_sem,↓reduceIte,reduceCtorEq] at w0 w1 g1 g2 g3
 have l1:=hO.l1
 have l2:=hO.l2
 have l3:=hO.l3
 have SA:=hO.SA
 have Sz:=hO.Sz
 have RM:=hO.RM
 have p1:=hO.h1
 have p2:=hO.h2
 have p3:=hO.h3
 simp only at l1 l2 l3 p1 p2 p3
 have hm0:0<m:=by omega
 have z0:¬0=m:=by omega
 have z1:¬1=m:=by omega
 have x1:¬o1.1=m:=by omega
 have x2:¬o2.1=m:=by omega
 have x3:¬o3.1=m:=by omega
 have y0:¬0=o1.1:=by omega
 have y1:¬1=o1.1:=by omega
 have ym:¬m=o1.1:=by omega
 have y2:¬o2.1=o1.1:=by omega
 have y3:¬o3.1=o1.1:=by omega
 try simp (disch:=omega) only [go_sem,jF,jG,jH,↓reduceIte,jM,Hz,w0,aJ,hn]
 refine bw [3,7,23,24,25,26,27,28,29,30,31,32,33,34,35,36,37,38,39,40,41,42,43,44,45,46,47,48,49,50,51,52,53,54,55,56,57,58,59,60,61,62,63,64,65,66,67,68,69,70,71,72,73,74,75,76,77,78,79,80,81,82,83,84,85,86,87,88,89] (by kernel_rfl) n (fun k e σ=>e 23=.int .i64 k∧σ.ob 0=some ⟨0,4,88,false,true,[.agg [.int .i64 a.fr,.list 2 (cr a.st),.list 2 (cr a.ins),.list 2 (cr a.outs)]]⟩∧σ.ob 1=some ⟨1,4,88,false,true,[.agg [.int .i64 0,.nil,.nil,.nil]]⟩∧
  σ.ob m=some ⟨c,4,88,false,true,[Hz a.fr o1 o2 o3 (n+1) n n]⟩∧σ.ob o1.1=some ⟨o1.2,2,24,false,true,cr (DL a.st a.ins a.outs n k)⟩∧σ.ob o2.1=some ⟨o2.2,2,24,false,true,cr a.ins⟩∧σ.ob o3.1=some ⟨o3.2,2,24,false,true,cr a.outs⟩∧
  ∀ i,i≤k→gN (cF a.st a.ins a.outs i)) ?_ ?_
 ·refine ⟨(by first | rfl | (simp (disch:=omega) only [go_sem,jA,jB,jC,jD,jE,jF,jG,jH,jI,jJ,↓reduceIte,reduceCtorEq,jP,jO,jM,jN]; try rfl)),by try simp (disch:=omega) only [go_sem,↓reduceIte,z0]; exact w0,by try simp (disch:=omega) only [go_sem,↓reduceIte,z1]; exact w1,by simp [aZ,Hz,hLs,hLy],by try simp (disch:=omega) only [go_sem,↓reduceIte,x1,Jq hlen]; exact p1,by try simp (disch:=omega) only [go_sem,↓reduceIte,x2]; exact p2,by try simp (disch:=omega) only [go_sem,↓reduceIte,x3]; exact p3,fun i hi=>?_⟩
  obtain rfl:i=0:=by omega
  exact (hlen.gs (Nat.zero_le _)).val
 rintro k fe ob2 c2 hk ⟨h23,v0,v1,vm,q1,q2,q3,hv⟩
 simp (maxSteps:=1000000) only [go_sem,jF,↓reduceIte,Hz] at h23 v0 v1 vm q1 q2 q3
 try simp (disch:=omega) only [go_sem,jF,↓reduceIte,h23]
 refine ai (fun hlt=>?_) (fun hge=>?_)
 ·have hkn:k<n:=by omega
  have e1:=cN (L:=DL a.st a.ins a.outs n k) (i:=k) (by rw [DL,bm]; omega)
  have e2:=cN (L:=DL a.st a.ins a.outs n k) (i:=k+1) (by rw [DL,bm]; omega)
  rw [DA (by omega),if_pos (Nat.le_refl _)] at e1
  rw [DA (by omega),if_neg (by omega)] at e2
  have e3:=cN (L:=a.ins) (i:=k) (by omega)
  have e4:=cN (L:=a.outs) (i:=k) (by omega)
  have f1:=Dh hlen (by omega) (hv k (Nat.le_refl _))
  have f2:=hlen.gs (show k+1≤n by omega)
  have f3:=hlen.gx hkn
  have f4:=hlen.gy hkn
  have hcf:cF a.st a.ins a.outs (k+1)=dF (gB a.st (k+1)) (Mo (cF a.st a.ins a.outs k) (gB a.ins k) (gB a.outs k)):=rfl
  have hsuc:=Jr (S:=a.st) (X:=a.ins) (Y:=a.outs) hkn
  generalize hcs:cF a.st a.ins a.outs (k+1)=d at *
  generalize cF a.st a.ins a.outs k=s at *
  generalize gB a.st (k+1)=t at *
  generalize gB a.ins k=x at *
  generalize gB a.outs k=y at *
  have f1:=eZ f1
  have f2:=eZ f2
  have f3:=eZ f3
  have f4:=eZ f4
  have hin:((k:Int)+1).toNat=k+1:=by omega
  have hal:(DL a.st a.ins a.outs n k).length=n+1:=by rw [DL,bm]
  try simp (maxSteps:=500001) (disch:=omega) only [go_sem,jF,jG,jH,↓reduceIte,jO,v0,q1,eh,aJ,e1,e2,e3,e4,hin,hLs,hLy,hn,Option.map_some,pc]
  repeat (refine And.intro (by first | omega | (rw [nV]; omega) | (simp [maxLen]; done) | (simp [maxLen]; omega)) ?_)
  have hmt:=ir t (Mo s x y)
  rw [←hcf] at hmt
  refine ab hmt (by simp [go_sem]) ?_
  have hbs:(cr (DL a.st a.ins a.outs n k)).set (k+1) (pc d)=cr (DL a.st a.ins a.outs n (k+1)):=by rw [yc,hsuc]
  simp only [pc] at hbs
  have e5:(DL a.st a.ins a.outs n (k+1))[k+1]?=some d:=by
   rw [cN (by rw [DL,bm]; omega),DA (by omega),if_pos (Nat.le_refl _),hcs]
  have hal2:(DL a.st a.ins a.outs n (k+1)).length=n+1:=by rw [DL,bm]
  try simp (disch:=omega) only [go_sem,jF,jG,jH,↓reduceIte,reduceCtorEq,jO,q1,eh,e2,e5,hin,Option.map_some,pc,hbs]
  repeat (refine And.intro (by first | omega | (rw [nV]; omega) | (simp [maxLen]; done) | (simp [maxLen]; omega)) ?_)
  refine ai (fun g=>?_) (fun g=>?_)
  ·try simp (disch:=omega) only [go_sem,jF,jG,jH,↓reduceIte,y1,v1]
   refine no ?_
   rw [htS,if_neg]
   rw [Cg]
   intro hV
   have:=hV (k+1) (by omega)
   rw [hcs] at this
   simp only [gN] at this
   omega
  ·try simp (disch:=omega) only [go_sem,jF,↓reduceIte,jO]
   refine bn hkn ⟨(by first | rfl | (simp (disch:=omega) only [go_sem,jA,jB,jC,jD,jE,jF,jG,jH,jI,jJ,↓reduceIte,reduceCtorEq,jP,jO,jM,jN]; try rfl)),?_,?_,?_,?_,?_,?_,fun i hi=>?_⟩
   ·try simp (disch:=omega) only [go_sem,↓reduceIte,y0]; exact v0
   ·try simp (disch:=omega) only [go_sem,↓reduceIte,y1]; exact v1
   ·simp [St.aD,aZ,ym,vm,Hz]
   ·simp [St.aD,aZ,show o1.1<m+1 by omega]
   ·try simp (disch:=omega) only [go_sem,↓reduceIte,y2]; exact q2
   ·try simp (disch:=omega) only [go_sem,↓reduceIte,y3]; exact q3
   ·by_cases e:i=k+1
    ·subst e; rw [hcs]; simp only [gN]; omega
    ·exact hv i (by omega)
 obtain rfl:n=k:=by omega
 have hV:VD a.st a.ins a.outs n:=hv
 rw [Lp,←Js] at q1
 try simp (disch:=omega) only [go_sem,jF,jG,jH,↓reduceIte,jO,v0,aJ,hn]
 refine bw [8,94,95,96,97,98,99,100,101,102,103,104,105,106,107,108,109,110,111,112,113,114,115,116,117,118,119,120,121,122,123,124,125,126,127,128,129,130,131,132,133,134,135,136,137,138,139,140,141,142,143,144,145,146] (by kernel_rfl) n (fun k e σ=>e 8=.int .i64 ((n:Int)-1-(k:Int))∧σ.ob 0=some ⟨0,4,88,false,true,[.agg [.int .i64 a.fr,.list 2 (cr a.st),.list 2 (cr a.ins),.list 2 (cr a.outs)]]⟩∧σ.ob 1=some ⟨1,4,88,false,true,[.agg [.int .i64 0,.nil,.nil,.nil]]⟩∧
  σ.ob m=some ⟨c,4,88,false,true,[Hz a.fr o1 o2 o3 (n+1) n n]⟩∧σ.ob o1.1=some ⟨o1.2,2,24,false,true,cr (GR a.st a.ins a.outs n k)⟩∧σ.ob o2.1=some ⟨o2.2,2,24,false,true,cr a.ins⟩∧σ.ob o3.1=some ⟨o3.2,2,24,false,true,cr a.outs⟩) ?_ ?_
 ·exact ⟨by simp [go_sem],v0,v1,vm,q1,q2,q3⟩
 clear h23 v0 v1 vm q1 q2 q3 hv hge hk
 rintro k fe2 ob3 c3 hk ⟨h8,v0,v1,vm,q1,q2,q3⟩
 simp (maxSteps:=1000000) only [go_sem,↓reduceIte,Hz] at h8 v0 v1 vm q1 q2 q3
 try simp (disch:=omega) only [go_sem,↓reduceIte,h8]
 refine ai (fun hlt=>?_) (fun hge=>?_)
 ·have hkn:k<n:=by omega
  obtain ⟨q,hq⟩:∃ q,q=n-(k+1):=⟨_,rfl⟩
  have hqi:(n:Int)-1-(k:Int)=(q:Int):=by omega
  have hqn:q<n:=by omega
  rw [hqi] at h8
  have e1:=cN (L:=GR a.st a.ins a.outs n k) (i:=q) (by rw [GR,bm]; omega)
  have e2:=cN (L:=GR a.st a.ins a.outs n k) (i:=q+1) (by rw [GR,bm]; omega)
  rw [GQ (by omega),if_neg (by omega)] at e1
  rw [GQ (by omega),if_pos (by omega)] at e2
  have e3:=cN (L:=a.ins) (i:=q) (by omega)
  have e4:=cN (L:=a.outs) (i:=q) (by omega)
  have f1:=Dh hlen (by omega) (hV q (by omega))
  have f2:=zS hlen hV (show q+1≤n by omega)
  have f3:=hlen.gx hqn
  have f4:=hlen.gy hqn
  have hcf:cB a.st a.ins a.outs n q=dF (cF a.st a.ins a.outs q) (JW (cB a.st a.ins a.outs n (q+1)) (gB a.ins q) (gB a.outs q)):=fX hqn
  have hsuc:=Jt (S:=a.st) (X:=a.ins) (Y:=a.outs) hkn
  rw [←hq] at hsuc
  generalize cB a.st a.ins a.outs n q=d at *
  generalize cF a.st a.ins a.outs q=s at *
  generalize cB a.st a.ins a.outs n (q+1)=t at *
  generalize gB a.ins q=x at *
  generalize gB a.outs q=y at *
  have f1:=eZ f1
  have f2:=eZ f2
  have f3:=eZ f3
  have f4:=eZ f4
  have hin:((q:Int)+1).toNat=q+1:=by omega
  have hal:(GR a.st a.ins a.outs n k).length=n+1:=by rw [GR,bm]
  try simp (maxSteps:=500001) (disch:=omega) only [go_sem,jF,jG,jH,↓reduceIte,jO,hqi,v0,q1,eh,aJ,e1,e2,e3,e4,hin,hLs,hLy,hn,Option.map_some,pc]
  repeat (refine And.intro (by first | omega | (rw [nV]; omega) | (simp [maxLen]; done) | (simp [maxLen]; omega)) ?_)
  have hmt:=ir s (JW t x y)
  rw [←hcf] at hmt
  refine ab hmt (by simp [go_sem]) ?_
  have hbs:(cr (GR a.st a.ins a.outs n k)).set q (pc d)=cr (GR a.st a.ins a.outs n (k+1)):=by rw [yc,hsuc]
  simp only [pc] at hbs
  try simp (maxSteps:=500001) (disch:=omega) only [go_sem,jF,jG,jH,↓reduceIte,reduceCtorEq,jO,q1,eh,e1,Option.map_some,pc,hbs]
  repeat (refine And.intro (by first | omega | (rw [nV]; omega) | (simp [maxLen]; done) | (simp [maxLen]; omega)) ?_)
  refine bn hkn ⟨?_,?_,?_,?_,?_,?_,?_⟩
  ·try simp (disch:=omega) only [go_sem,↓reduceIte]
   congr 1
   omega
  ·simp [St.aD,aZ,y0,v0]
  ·simp [St.aD,aZ,y1,v1,hm0]
  ·simp [St.aD,aZ,ym,vm,Hz]
  ·simp [St.aD,aZ,show o1.1<m+1 by omega]
  ·simp [St.aD,aZ,y2,q2,show o2.1<m+1 by omega]
  ·simp [St.aD,aZ,y3,q3,show o3.1<m+1 by omega]
 obtain rfl:n=k:=by omega
 rw [Lq] at q1
 try simp (disch:=omega) only [go_sem,jF,jG,jH,↓reduceIte,v0,aJ,hn]
 refine bw [9,150,151,152,153,154,155,156,157,158,159,160,161,162,163,164,165,166,167,168,169,170,171,172,173,174,175,176,177,178,179,180,181,182,183,184,185,186,187,188,189,190,191,192,193,194,195,196,197,198,199,200,201,202,203,204,205,206,207,208,209,210,211,212,213,214,215,216,217,218,219,220,221,222,223,224,225,226,227,228,229,230,231,232,233,234,235,236,237,238,239,240,241,242,243,244,245,246,247,248,249,250,251] (by kernel_rfl) n (fun k e σ=>e 150=.int .i64 k∧σ.ob 0=some ⟨0,4,88,false,true,[.agg [.int .i64 a.fr,.list 2 (cr a.st),.list 2 (cr a.ins),.list 2 (cr a.outs)]]⟩∧σ.ob 1=some ⟨1,4,88,false,true,[.agg [.int .i64 0,.nil,.nil,.nil]]⟩∧
  σ.ob m=some ⟨c,4,88,false,true,[Hz a.fr o1 o2 o3 (n+1) n n]⟩∧σ.ob o1.1=some ⟨o1.2,2,24,false,true,cr (uQ (n+1) (cB a.st a.ins a.outs n))⟩∧σ.ob o2.1=some ⟨o2.2,2,24,false,true,cr (HH a.st a.ins a.outs n k)⟩∧σ.ob o3.1=some ⟨o3.2,2,24,false,true,cr (JX a.st a.ins a.outs n k)⟩) ?_ ?_
 ·exact ⟨(by first | rfl | (simp (disch:=omega) only [go_sem,jA,jB,jC,jD,jE,jF,jG,jH,jI,jJ,↓reduceIte,reduceCtorEq,jP,jO,jM,jN]; try rfl)),v0,v1,vm,q1,by rw [Jo hlen]; exact q2,by rw [Jm hlen]; exact q3⟩
 clear h8 v0 v1 vm q1 q2 q3 hge hk
 rintro k fe3 ob4 c4 hk ⟨h150,v0,v1,vm,q1,q2,q3⟩
 simp (maxSteps:=1000000) only [go_sem,jF,↓reduceIte,Hz] at h150 v0 v1 vm q1 q2 q3
 try simp (disch:=omega) only [go_sem,jF,↓reduceIte,h150]
 refine ai (fun hlt=>?_) (fun hge=>?_)
 ·have hkn:k<n:=by omega
  have e1:=cN (L:=uQ (n+1) (cB a.st a.ins a.outs n)) (i:=k) (by rw [bm]; omega)
  have e2:=cN (L:=uQ (n+1) (cB a.st a.ins a.outs n)) (i:=k+1) (by rw [bm]; omega)
  rw [Gz _ (by omega)] at e1 e2
  have e3:=cN (L:=a.ins) (i:=k) (by omega)
  have e4:=cN (L:=a.outs) (i:=k) (by omega)
  have f1:=zS hlen hV (show k≤n by omega)
  have f2:=zS hlen hV (show k+1≤n by omega)
  have f3:=hlen.gx hkn
  have f4:=hlen.gy hkn
  have hcx:cX a.st a.ins a.outs n k=dF (gB a.ins k) (SI (cB a.st a.ins a.outs n k) (cB a.st a.ins a.outs n (k+1)) (gB a.outs k)):=rfl
  have hcy:cY a.st a.ins a.outs n k=dF (gB a.outs k) (NV (cB a.st a.ins a.outs n k) (cB a.st a.ins a.outs n (k+1)) (gB a.ins k)):=rfl
  have hsx:=Jp (S:=a.st) (X:=a.ins) (Y:=a.outs) hkn
  have hsy:=Jn (S:=a.st) (X:=a.ins) (Y:=a.outs) hkn
  generalize cX a.st a.ins a.outs n k=d at *
  generalize cY a.st a.ins a.outs n k=d' at *
  generalize cB a.st a.ins a.outs n k=s at *
  generalize cB a.st a.ins a.outs n (k+1)=t at *
  generalize gB a.ins k=x at *
  generalize gB a.outs k=y at *
  have f1:=eZ f1
  have f2:=eZ f2
  have f3:=eZ f3
  have f4:=eZ f4
  have hin:((k:Int)+1).toNat=k+1:=by omega
  have hal:(HH a.st a.ins a.outs n k).length=n:=by rw [HH,bm]
  have hal2:(JX a.st a.ins a.outs n k).length=n:=by rw [JX,bm]
  have hal3:(HH a.st a.ins a.outs n (k+1)).length=n:=by rw [HH,bm]
  try simp (maxSteps:=500001) (disch:=omega) only [go_sem,jF,jG,jH,↓reduceIte,jO,v0,vm,q1,eh,aJ,e1,e2,e3,e4,hin,hLs,hLy,hn,Option.map_some,pc]
  repeat (refine And.intro (by first | omega | (rw [nV]; omega) | (simp [maxLen]; done) | (simp [maxLen]; omega)) ?_)
  have hmt:=ir x (SI s t y)
  rw [←hcx] at hmt
  refine ab hmt (by simp [go_sem]) ?_
  have hbs:(cr (HH a.st a.ins a.outs n k)).set k (pc d)=cr (HH a.st a.ins a.outs n (k+1)):=by rw [yc,hsx]
  simp only [pc] at hbs
  have e7:=cN (L:=HH a.st a.ins a.outs n k) (i:=k) (by omega)
  have e8:=cN (L:=JX a.st a.ins a.outs n k) (i:=k) (by omega)
  have y12:¬o1.1=o2.1:=SA
  have ym2:¬m=o2.1:=by omega
  have y02:¬0=o2.1:=by omega
  have y32:¬o3.1=o2.1:=fun e=>RM e.symm
  try simp (maxSteps:=500001) (disch:=omega) only [go_sem,jF,jG,jH,↓reduceIte,reduceCtorEq,jO,q1,q2,v0,vm,eh,aJ,e1,e2,e3,e4,e7,hin,hLy,hn,Option.map_some,pc,hbs,y12,ym2,y02]
  repeat (refine And.intro (by first | omega | (rw [nV]; omega) | (simp [maxLen]; done) | (simp [maxLen]; omega)) ?_)
  have hmt2:=ir y ⟨s.lo-t.hi+x.lo,s.hi-t.lo+x.hi⟩
  rw [show dF y ⟨s.lo-t.hi+x.lo,s.hi-t.lo+x.hi⟩=d' by rw [hcy]; congr 1; simp only [NV,Bd.mk.injEq]; omega] at hmt2
  refine ab hmt2 (by simp [go_sem]) ?_
  have hbs2:(cr (JX a.st a.ins a.outs n k)).set k (pc d')=cr (JX a.st a.ins a.outs n (k+1)):=by rw [yc,hsy]
  simp only [pc] at hbs2
  try simp (maxSteps:=500001) (disch:=omega) only [go_sem,jF,jG,jH,↓reduceIte,reduceCtorEq,jO,q1,q3,v0,vm,eh,e8,Option.map_some,pc,hbs2,y12,ym2,y02,y32]
  repeat (refine And.intro (by first | omega | (rw [nV]; omega) | (simp [maxLen]; done) | (simp [maxLen]; omega)) ?_)
  have y03:¬0=o3.1:=by omega
  have y13:¬1=o3.1:=by omega
  have y1':¬1=o2.1:=by omega
  have ym3:¬m=o3.1:=by omega
  have y13':¬o1.1=o3.1:=Sz
  have y23:¬o2.1=o3.1:=RM
  refine bn hkn ⟨(by first | rfl | (simp (disch:=omega) only [go_sem,jA,jB,jC,jD,jE,jF,jG,jH,jI,jJ,↓reduceIte,reduceCtorEq,jP,jO,jM,jN]; try rfl)),?_,?_,?_,?_,?_,?_⟩
  ·simp [St.aD,aZ,y02,y03,v0]
  ·simp [St.aD,aZ,y1',y13,v1,hm0]
  ·simp [St.aD,aZ,ym2,ym3,vm,Hz]
  ·simp [St.aD,aZ,y12,y13',q1,show o1.1<m+1 by omega]
  ·simp [St.aD,aZ,y23,show o2.1<m+1 by omega]
  ·simp [St.aD,aZ,show o3.1<m+1 by omega]
 obtain rfl:n=k:=by omega
 try simp (disch:=omega) only [go_sem,jF,jG,jH,↓reduceIte,v1,vm]
 rw [htS,if_pos (Cg.2 hV)]
 have n1:¬o1.1=1:=by omega
 have n2:¬o2.1=1:=by omega
 have n3:¬o3.1=1:=by omega
 refine aA.pair (aA.ag (.cons (.pure rfl) (.cons ?_ (.cons ?_ (.cons ?_ .nil))))) (.pure rfl)
 ·rw [show (js a,(0:Int)).1.st=uQ (n+1) (cB a.st a.ins a.outs n) by simp only [js,hn]]
  refine Cw ((aa _ _ _ _ n1).trans q1) ?_
  rw [bm]
 ·rw [show (js a,(0:Int)).1.ins=uQ n (cX a.st a.ins a.outs n) by simp only [js,hn],←GP]
  refine Cw ((aa _ _ _ _ n2).trans q2) ?_
  rw [GP,bm]
 ·rw [show (js a,(0:Int)).1.outs=uQ n (cY a.st a.ins a.outs n) by simp only [js,hn],←GO]
  refine Cw ((aa _ _ _ _ n3).trans q3) ?_
  rw [GO,bm]
def s6 (a b:Ac):Bool:=decide (a.fr=b.fr)&&(decide (a.st=b.st)&&(decide (a.ins=b.ins)&&decide (a.outs=b.outs)))
theorem uT {a b:Ac}:s6 a b=true↔a=b:=by
 cases a; cases b
 simp [s6]
theorem QP {b c:Bd}:b=c↔b.lo=c.lo∧b.hi=c.hi:=by
 cases b; cases c; simp
theorem cW (a b:List Bd) (ha:a.length≤9223372036854775807):PC prog nT [.list 2 (cr a),.list 2 (cr b)] (.bool (decide (a=b))):=by
 refine ae oh (by simp) ?_
 simp only [gb,go_sem,jF,↓reduceIte,reduceCtorEq,aJ]
 refine bq (fun h=>?_) (fun h=>?_) <;> try simp (disch:=omega) only [go_sem,↓reduceIte,reduceCtorEq]
 ·exact aA.of_eq (by congr 1; simp; intro hab; exact h (by rw [hab])) rfl
 have hl:a.length=b.length:=by omega
 refine bw [4,5,13,14,15,16,17,18,19,20,21,22,23,24,25] (by kernel_rfl) a.length (fun k e _=>e 13=.int .i64 k∧∀ j,j<k→a[j]?=b[j]?) ?_ ?_
 ·exact ⟨(by first | rfl | (simp (disch:=omega) only [go_sem,jA,jB,jC,jD,jE,jF,jG,jH,jI,jJ,↓reduceIte,reduceCtorEq,jP,jO,jM,jN]; try rfl)),fun j hj=>by omega⟩
 ·rintro k fe ob c hk ⟨h13,hj⟩
  simp (maxSteps:=1000000) only [go_sem,jF,↓reduceIte] at h13
  try simp (disch:=omega) only [go_sem,jF,↓reduceIte,h13,aJ]
  refine ai (fun hlt=>?_) (fun hge=>?_)
  ·have hka:k<a.length:=by omega
   have hga:a[k]?=some a[k]:=List.getElem?_eq_getElem hka
   have hgb:b[k]?=some b[k]:=List.getElem?_eq_getElem (by omega)
   try simp (disch:=omega) only [go_sem,jF,jH,↓reduceIte,reduceCtorEq,aJ,eh,hga,hgb,Option.map_some,pc]
   repeat (refine And.intro (by first | omega | (rw [nV]; omega) | (simp [maxLen]; done) | (simp [maxLen]; omega)) ?_)
   refine ⟨fun hne=>?_,fun heq=>?_⟩
   ·try simp (disch:=omega) only [go_sem,↓reduceIte]
    exact aA.of_eq (by congr 1; simp; intro hab; subst hab; simp at hne) rfl
   ·try simp (disch:=omega) only [go_sem,jF,↓reduceIte,jO]
    refine bn hka ⟨(by first | rfl | (simp (disch:=omega) only [go_sem,jA,jB,jC,jD,jE,jF,jG,jH,jI,jJ,↓reduceIte,reduceCtorEq,jP,jO,jM,jN]; try rfl)),fun j hj'=>?_⟩
    by_cases e:j=k
    ·have he:a[k]=b[k]:=QP.2 (by simpa using heq)
     subst e; rw [hga,hgb,he]
    ·exact hj j (by omega)
  ·try simp (disch:=omega) only [go_sem,↓reduceIte]
   exact aA.of_eq (by congr 1; simp; exact fm hl fun j hj'=>hj j (by omega)) rfl
theorem yI (a b:Ac) (hl:J0 a):PC prog rk [iO a,iO b] (.bool (s6 a b)):=by
 refine ae Be (by simp) ?_
 simp only [rR,go_sem,jF,jG,jH,↓reduceIte,reduceCtorEq,iO]
 refine bE rfl (fun h1=>?_) (fun h1=>?_) <;> try simp (disch:=omega) only [go_sem,jF,jG,jH,↓reduceIte,reduceCtorEq]
 ·refine ab (cW a.st b.st hl.1) (by simp [go_sem]) ?_
  try simp (disch:=omega) only [go_sem,jF,↓reduceIte]
  refine bE rfl (fun h2=>?_) (fun h2=>?_) <;> try simp (disch:=omega) only [go_sem,jF,jG,jH,↓reduceIte,reduceCtorEq]
  ·refine ab (cW a.ins b.ins hl.2.1) (by simp [go_sem]) ?_
   try simp (disch:=omega) only [go_sem,jF,↓reduceIte]
   refine bE rfl (fun h3=>?_) (fun h3=>?_) <;> try simp (disch:=omega) only [go_sem,jF,jG,jH,↓reduceIte,reduceCtorEq]
   ·refine ab (cW a.outs b.outs hl.2.2) (by simp [go_sem]) ?_
    try simp (disch:=omega) only [go_sem,jF,↓reduceIte]
    exact aA.of_eq (by simp [s6,h1,h2,h3]) rfl
   ·exact aA.of_eq (by simp [s6,h3]) rfl
  ·exact aA.of_eq (by simp [s6,h2]) rfl
 ·exact aA.of_eq (by simp [s6,h1]) rfl
def sq (a t:Ac):Nat→Int
 | 0=>(gB t.st 0).lo
 | i+1=>max (gB t.st (i+1)).lo (sq a t i+(gB a.ins i).lo-(gB a.outs i).hi)
def cm (a t:Ac) (i:Nat):Int:=max (gB a.ins i).lo ((gB a.outs i).lo+(sq a t (i+1)-sq a t i))
def og (a t:Ac) (i:Nat):Int:=cm a t i-(sq a t (i+1)-sq a t i)
def uR (n:Nat) (f:Nat→Int):List Int:=(List.range n).map f
theorem dN (n:Nat) (f:Nat→Int):(uR n f).length=n:=by simp [uR]
theorem CU {n i:Nat} (f:Nat→Int) (h:i<n):(uR n f)[i]?=some (f i):=by simp [uR,h]
theorem eH {n i:Nat} (f:Nat→Int) (h:i<n):(uR n f).getD i 0=f i:=by rw [List.getD_eq_getElem?_getD,CU f h]; rfl
theorem tN (n:Nat) (f:Nat→Int):uR (n+1) f=uR n f++[f n]:=by simp [uR,List.range_succ]
theorem K3 (f:Nat→Int):uR 1 f=[f 0]:=rfl
def dB (a:Ac):(List Int × List Int × List Int) × Int:=
 if (dx a).2≠0 then (([],[],[]),(dx a).2)
 else ((uR (a.ins.length+1) (sq a (dx a).1),uR a.ins.length (cm a (dx a).1),uR a.ins.length (og a (dx a).1)),0)
theorem Bv {a:Ac} (h:(dx a).2=0):kV a∧VD a.st a.ins a.outs a.ins.length∧(dx a).1=js a:=by
 unfold dx at h ⊢
 split at h
 ·rename_i h1; exact absurd h h1
 ·rename_i h1
  simp only [ne_eq,Decidable.not_not] at h1
  rw [if_neg (by simp [h1])]
  split at h
  ·rename_i h2; rw [if_pos h2]; exact ⟨Df.1 h1,Cg.1 h2,rfl⟩
  ·cases h
theorem Ck {a:Ac} {i:Nat} (h:i≤a.ins.length):gB (js a).st i=cB a.st a.ins a.outs a.ins.length i:=Gz _ (by omega)
theorem DU {a:Ac} (h:kV a) (hv:VD a.st a.ins a.outs a.ins.length):∀ i,i≤a.ins.length→gZ (cB a.st a.ins a.outs a.ins.length i) (sq a (js a) i)
 | 0,hi=>by
  have:=(h.lens.vd hv).B hi
  rw [sq,Ck hi]
  simp only [gZ,gN,cB] at *
  omega
 | i+1,hi=>by
  have h1:=DU h hv i (by omega)
  have h2:=(h.lens.vd hv).B hi
  rw [sq,Ck hi]
  unfold cB at *
  rw [fX (by omega)] at h1
  simp only [gZ,gN,dF,JW] at *
  omega
theorem Ep {a:Ac} (h:kV a) (hv:VD a.st a.ins a.outs a.ins.length):Hi (gB a.st) (gB a.ins) (gB a.outs) a.ins.length (sq a (js a)) (cm a (js a)) (og a (js a)):=by
 have key:∀ i,i<a.ins.length→gZ (gB a.ins i) (cm a (js a) i)∧gZ (gB a.outs i) (og a (js a) i):=fun i hi=>by
  have h1:=DU h hv i (by omega)
  have h2:=DU h hv (i+1) (by omega)
  have h3:=(h.lens.gx hi).val
  have h4:=(h.lens.gy hi).val
  have h5:sq a (js a) (i+1)=max (gB (js a).st (i+1)).lo (sq a (js a) i+(gB a.ins i).lo-(gB a.outs i).hi):=rfl
  rw [Ck (by omega)] at h5
  unfold cB at h1 h2 h5
  rw [fX hi] at h1
  unfold og cm
  generalize sq a (js a) (i+1)=s' at *
  generalize sq a (js a) i=s at *
  simp only [gZ,gN,dF,JW] at *
  omega
 refine ⟨fun i hi=>Ll i _ (GM hi (DU h hv i hi)),fun i hi=>(key i hi).1,fun i hi=>(key i hi).2,fun i hi=>?_⟩
 unfold og; omega
def Dj (X Y:AV):Prop:=∀ i,aU X i∨aU Y i
theorem Dj.symm {X Y:AV} (h:Dj X Y):Dj Y X:=fun i=>(h i).symm
theorem Dj.nil (X:AV):Dj .nil X:=fun i=>.inl (aU.nil i)
theorem Dj.kp {X X' Y:AV} {es:Nat} {ty:TypeId} {σ τ:St} {L:List AV} (h:Dj X Y) (hY:cj es ty σ L Y) (hK:Kp σ X τ X'):Dj X' Y:=fun i=>by
 rcases Classical.em (aU Y i) with h1 | h1
 ·exact .inr h1
 ·refine .inl (hK.2.2 i ?_ ((h i).resolve_right h1))
  rcases Nat.lt_or_ge i σ.n with h2 | h2
  ·exact h2
  ·exact absurd (hY.G6 h2) h1
theorem cj.dj {X X' Y:AV} {es:Nat} {ty:TypeId} {σ τ:St} {L:List AV} (hY:cj es ty σ L Y) (h:Dj X Y) (hK:Kp σ X τ X'):cj es ty τ L Y:=hY.move hK.1 fun i hi hno=>hK.2.1 i hi ((h i).resolve_right hno)
structure uN (σ:St) (X8 X9 X10:AV) (A B C:List Int) (q:Nat):Prop where
 r8:cj 1 3 σ (ints A) X8
 r9:cj 1 3 σ (ints B) X9
 JQ:cj 1 3 σ (ints C) X10
 o8:∀ i,i<q→aU X8 i
 o9:∀ i,i<q→aU X9 i
 KT:∀ i,i<q→aU X10 i
 d89:Dj X8 X9
 Dc:Dj X8 X10
 EB:Dj X9 X10
theorem mN (L:List Int) (x:Int):ints L++[.int .i64 x]=ints (L++[x]):=by simp [ints]
section
variable {σ τ : St} {X8 X9 X10 X : AV} {A B C : List Int} {q : Nat}
theorem uN.mv (h:uN σ X8 X9 X10 A B C q) (hn:σ.n≤τ.n) (hf:∀ i,q≤i→i<σ.n→τ.ob i=σ.ob i):uN τ X8 X9 X10 A B C q:=by
 have key:∀ {Y:AV} {L:List AV},cj 1 3 σ L Y→(∀ i,i<q→aU Y i)→cj 1 3 τ L Y:=fun hY o=>hY.move hn fun i hi hno=>hf i (by
  rcases Nat.lt_or_ge i q with h | h
  ·exact absurd (o i h) hno
  ·exact h) hi
 exact ⟨key h.r8 h.o8,key h.r9 h.o9,key h.JQ h.KT,h.o8,h.o9,h.KT,h.d89,h.Dc,h.EB⟩
theorem uN.SS (h:uN σ X8 X9 X10 A B C q) (hq:q≤σ.n) {x:Int} (hR:cj 1 3 τ (ints A++[.int .i64 x]) X) (hK:Kp σ X8 τ X):uN τ X X9 X10 (A++[x]) B C q:=
 ⟨by rw [←mN]; exact hR,h.r9.dj h.d89 hK,h.JQ.dj h.Dc hK,fun i hi=>hK.2.2 i (by omega) (h.o8 i hi),h.o9,h.KT,h.d89.kp h.r9 hK,h.Dc.kp h.JQ hK,h.EB⟩
theorem uN.SQ (h:uN σ X8 X9 X10 A B C q) (hq:q≤σ.n) {x:Int} (hR:cj 1 3 τ (ints B++[.int .i64 x]) X) (hK:Kp σ X9 τ X):uN τ X8 X X10 A (B++[x]) C q:=
 ⟨h.r8.dj h.d89.symm hK,by rw [←mN]; exact hR,h.JQ.dj h.EB hK,h.o8,fun i hi=>hK.2.2 i (by omega) (h.o9 i hi),h.KT,(h.d89.symm.kp h.r8 hK).symm,h.Dc,h.EB.kp h.JQ hK⟩
theorem uN.QS (h:uN σ X8 X9 X10 A B C q) (hq:q≤σ.n) {x:Int} (hR:cj 1 3 τ (ints C++[.int .i64 x]) X) (hK:Kp σ X10 τ X):uN τ X8 X9 X A B (C++[x]) q:=
 ⟨h.r8.dj h.Dc.symm hK,h.r9.dj h.EB.symm hK,by rw [←mN]; exact hR,h.o8,h.o9,fun i hi=>hK.2.2 i (by omega) (h.KT i hi),h.d89,(h.Dc.symm.kp h.r8 hK).symm,(h.EB.symm.kp h.r9 hK).symm⟩
theorem uN.TQ {id g g2 l l2:Nat} {x:Int} (h:uN σ (.sl id g 1 0 l) X9 X10 A B C q) (hn:σ.n≤τ.n) (hq:q≤id) (hid:id<σ.n) (hl:l2=A.length+1) (ho:τ.ob id=some ⟨g2,1,3,false,true,ints A++[.int .i64 x]⟩) (hf:∀ i,i<σ.n→i≠id→τ.ob i=σ.ob i):uN τ (.sl id g2 1 0 l2) X9 X10 (A++[x]) B C q:=by
 have key:∀ {Y:AV} {L:List AV},cj 1 3 σ L Y→Dj (.sl id g 1 0 l) Y→cj 1 3 τ L Y:=fun hY hd=>hY.move hn fun i hi hno=>hf i hi fun e=>(hd i).elim (fun h=>h.ne e.symm) hno
 have key2:∀ {Y:AV},Dj (.sl id g 1 0 l) Y→Dj (.sl id g2 1 0 l2) Y:=fun hd i=>(hd i).imp_left fun h=>aU.sl h.ne
 refine ⟨.inr ⟨id,g2,by rw [hl,aw]; simp,by omega,by rw [ho,mN]⟩,key h.r9 h.d89,key h.JQ h.Dc,fun i hi=>aU.sl (by omega),h.o9,h.KT,key2 h.d89,key2 h.Dc,h.EB⟩
theorem uN.Gy {id g l:Nat} (h:uN σ (.sl id g 1 0 l) X9 X10 A B C q):q≤id:=by
 rcases Nat.lt_or_ge id q with hh | hh
 ·exact absurd rfl (h.o8 id hh).ne
 ·exact hh
theorem QR {b:Nat} {x:Int} {K:AV→St→Prop} (h:uN σ X8 X9 X10 A B C q) (hq:q≤σ.n) (hm:A.length+1≤1000) (hb:b≤1000) (k:∀ X τ,uN τ X X9 X10 (A++[x]) B C q→σ.n≤τ.n→(∀ i,i<q→τ.ob i=σ.ob i)→K X τ):mn 1 b 3 X8 (.list 1 [.int .i64 x]) σ K:=by
 have hl:(ints A).length=A.length:=aw A
 refine bB (b:=b) h.r8 (by omega) (Nat.le_trans (Nat.mul_le_mul (hl ▸ hm) hb) (by omega)) fun X τ hR hK=>?_
 exact k X τ (h.SS hq hR hK) hK.1 fun i hi=>hK.2.1 i (by omega) (h.o8 i hi)
theorem uN.swap (h:uN σ X8 X9 X10 A B C q):uN σ X9 X10 X8 B C A q:=⟨h.r9,h.JQ,h.r8,h.o9,h.KT,h.o8,h.EB,h.d89.symm,h.Dc.symm⟩
end
theorem Cc {σ:St} {X8 X9 X10:AV} {A B C:List Int} {q b:Nat} {x:Int} {K:AV→St→Prop} (h:uN σ X8 X9 X10 A B C q) (hq:q≤σ.n) (hm:B.length+1≤1000) (hb:b≤1000) (k:∀ X τ,uN τ X8 X X10 A (B++[x]) C q→Kp σ X9 τ X→(∀ i,i<q→τ.ob i=σ.ob i)→K X τ):mn 1 b 3 X9 (.list 1 [.int .i64 x]) σ K:=by
 have hl:(ints B).length=B.length:=aw B
 refine bB (b:=b) h.r9 (by omega) (Nat.le_trans (Nat.mul_le_mul (hl ▸ hm) hb) (by omega)) fun X τ hR hK=>?_
 exact k X τ (h.SQ hq hR hK) hK fun i hi=>hK.2.1 i (by omega) (h.o9 i hi)
theorem Al {σ:St} {X8 X9 X10:AV} {A B C:List Int} {q b:Nat} {x:Int} {K:AV→St→Prop} (h:uN σ X8 X9 X10 A B C q) (hq:q≤σ.n) (hm:C.length+1≤1000) (hb:b≤1000) (k:∀ X τ,uN τ X8 X9 X A B (C++[x]) q→Kp σ X10 τ X→(∀ i,i<q→τ.ob i=σ.ob i)→K X τ):mn 1 b 3 X10 (.list 1 [.int .i64 x]) σ K:=by
 have hl:(ints C).length=C.length:=aw C
 refine bB (b:=b) h.JQ (by omega) (Nat.le_trans (Nat.mul_le_mul (hl ▸ hm) hb) (by omega)) fun X τ hR hK=>?_
 exact k X τ (h.QS hq hR hK) hK fun i hi=>hK.2.1 i (by omega) (h.KT i hi)
theorem Dj.G6 {X:AV} {id g es o n:Nat} (h:Dj (.sl id g es o n) X):aU X id:=(h id).resolve_left fun h=>h.ne rfl
theorem yF (a:Ac) (hl:J0 a):PC prog AF [iO a] (.tuple [.list 1 (ints (dB a).1.1),.list 1 (ints (dB a).1.2.1),.list 1 (ints (dB a).1.2.2),.int .i64 (dB a).2]):=by
 refine ae A3 (by simp) ?_
 simp only [rH,go_sem,jF,jG,jH,↓reduceIte,iO]
 refine ab (vk a hl) (by simp [go_sem]) ?_
 try simp (disch:=omega) only [go_sem,jF,jG,jH,↓reduceIte,iO]
 refine bq (fun h=>?_) (fun h=>?_) <;> try simp (disch:=omega) only [go_sem,jC,jF,jG,jH,↓reduceIte]
 ·rw [show dB a=(([],[],[]),(dx a).2) by simp only [dB,if_pos h]]
  exact aA.tu (.cons (.nl 1) (.cons (.nl 1) (.cons (.nl 1) (.cons (.pure rfl) .nil))))
 obtain ⟨hok,hv,ht⟩:=Bv h
 have hhi:=Ep hok hv
 rw [show dB a=((uR (a.ins.length+1) (sq a (js a)),uR a.ins.length (cm a (js a)),uR a.ins.length (og a (js a))),0) by simp only [dB]; rw [if_neg (by simp [h]),ht]]
 rw [ht]
 have hLs:=hok.ns
 have hLy:=hok.no
 have hLn:=hok.n2
 have hT1:(js a).st.length=a.ins.length+1:=bm _ _
 have hT2:(js a).ins.length=a.ins.length:=bm _ _
 have e0:=cN (L:=(js a).st) (i:=0) (by omega)
 have hs0:(gB (js a).st 0).lo=sq a (js a) 0:=rfl
 have hst:∀ i,i≤a.ins.length→0≤sq a (js a) i∧sq a (js a) i≤274877906944:=fun i hi=>Gx (zS hok.lens hv hi) (DU hok hv i hi)
 have ep:∀ i,sq a (js a) (i+1)=max (gB (js a).st (i+1)).lo (sq a (js a) i+(gB a.ins i).lo-(gB a.outs i).hi):=fun i=>rfl
 have hcm:∀ i,cm a (js a) i=max (gB a.ins i).lo ((gB a.outs i).lo+(sq a (js a) (i+1)-sq a (js a) i)):=fun i=>rfl
 have hog:∀ i,og a (js a) i=cm a (js a) i-(sq a (js a) (i+1)-sq a (js a) i):=fun i=>rfl
 have hcb:∀ i,i<a.ins.length→0≤cm a (js a) i∧cm a (js a) i≤274877906944:=fun i hi=>Gx (hok.lens.gx hi) (hhi.ins i hi)
 have htf:∀ i,i≤a.ins.length→0≤(gB (js a).st i).lo∧(gB (js a).st i).lo≤274877906944:=fun i hi=>by
  have:=eZ (zS hok.lens hv hi); rw [Ck hi]; omega
 generalize js a=t at *
 generalize sq a t=f at *
 generalize cm a t=f2 at *
 generalize og a t=f3 at *
 try simp (disch:=omega) only [go_sem,aJ,eh,e0,Option.map_some,pc,hT1,hT2]
 refine ⟨by omega,?_⟩
 have hI0:cj 1 3 (⟨aZ (fun x=>none) 2 (some ⟨2,1,3,false,true,[.int .i64 (gB t.st 0).lo]⟩),3,3⟩:St) (ints (uR 1 f)) (.sl 2 2 1 0 1):=.inr ⟨2,2,rfl,by simp only; omega,by rw [K3,hs0]; simp [aZ,ints]⟩
 refine bd [8,9,10,11,12,13,31,32,33,34,35,36,37,38,39,40,41,42,43,44,45,46,47,48,49,50,51,52,53,54,55,56,57,58,59,60,61,62,63,64,65,66,67,68,69,70,71,72,73,74,75,76,77,78,79,80,81,82,83,84,85,86,87,88,89,90,91,92,93,94,95,96,97,98,99] (by kernel_rfl) a.ins.length (fun k e σ=>e 31=.int .i64 k∧σ.ob 0=some ⟨0,4,88,false,true,[.agg [.int .i64 a.fr,.list 2 (cr a.st),.list 2 (cr a.ins),.list 2 (cr a.outs)]]⟩∧
  σ.ob 1=some ⟨1,4,88,false,true,[.agg [.int .i64 t.fr,.list 2 (cr t.st),.list 2 (cr t.ins),.list 2 (cr t.outs)]]⟩∧uN σ (e 8) (e 9) (e 10) (uR (k+1) f) (uR k f2) (uR k f3) 2) ?_ ?_
 ·refine ⟨(by first | rfl | (simp (disch:=omega) only [go_sem,jA,jB,jC,jD,jE,jF,jG,jH,jI,jJ,↓reduceIte,reduceCtorEq,jP,jO,jM,jN]; try rfl)),(by first | rfl | (simp (disch:=omega) only [go_sem,jA,jB,jC,jD,jE,jF,jG,jH,jI,jJ,↓reduceIte,reduceCtorEq,jP,jO,jM,jN]; try rfl)),(by first | rfl | (simp (disch:=omega) only [go_sem,jA,jB,jC,jD,jE,jF,jG,jH,jI,jJ,↓reduceIte,reduceCtorEq,jP,jO,jM,jN]; try rfl)),?_⟩
  try simp (disch:=omega) only [go_sem,jF,↓reduceIte]
  exact ⟨hI0.move (Nat.le_refl _) fun i hi hno=>by
    have hi:i<3:=hi
    have h2:i=2:=by
     rcases Nat.lt_or_ge i 2 with h | h
     ·exact absurd (aU.sl (by omega)) hno
     ·omega
    subst h2; simp [aZ],.nil,.nil,fun i hi=>aU.sl (by omega),fun i _=>aU.nil i,fun i _=>aU.nil i,(Dj.nil _).symm,(Dj.nil _).symm,Dj.nil _⟩
 rintro k fe ob m c hk hm ⟨h31,hob0,hob1,hT⟩
 simp (maxSteps:=1000000) only [go_sem,jF,↓reduceIte] at h31 hob0 hob1 hT hm
 obtain ⟨X8,h8⟩:∃ X,fe 8=X:=⟨_,rfl⟩
 obtain ⟨X9,h9⟩:∃ X,fe 9=X:=⟨_,rfl⟩
 obtain ⟨X10,h10⟩:∃ X,fe 10=X:=⟨_,rfl⟩
 rw [h8,h9,h10] at hT
 try simp (disch:=omega) only [go_sem,jF,↓reduceIte,h31]
 refine ai (fun hlt=>?_) (fun hge=>?_)
 ·have hkl:k<a.ins.length:=by omega
  have e1:=cN (L:=t.st) (i:=k+1) (by omega)
  have e3:=cN (L:=a.ins) (i:=k) (by omega)
  have e4:=cN (L:=a.outs) (i:=k) (by omega)
  have f3':=eZ (IQ hok.bi (i:=k) (by omega))
  have f4':=eZ (IQ hok.bo (i:=k) (by omega))
  have g1:=hst k (by omega)
  have g2:=hst (k+1) (by omega)
  have g3:=htf (k+1) (by omega)
  have g4:=ep k
  have g5:=hcm k
  have g6:=hog k
  have g7:=hcb k hkl
  have hT0:=hT
  obtain ⟨r8,-⟩:=hT
  rcases r8 with ⟨-,hnil⟩ | ⟨id,g,rfl,hid,hidob⟩
  ·simp [ints,uR] at hnil
  simp only [aw,dN] at h8 hT0 hidob
  have hid:id<m:=hid
  have hid2:=hT0.Gy
  have z4:¬0=id:=by omega
  have z5:¬1=id:=by omega
  have e8:(uR (k+1) f)[k]?=some (f k):=CU f (by omega)
  try simp (disch:=omega) only [go_sem,jF,jG,jH,↓reduceIte,jO,h8,hob0,hob1,aJ,eh,e3,e4,Option.map_some,pc,hidob,bD,e8]
  refine ⟨by omega,by omega,by omega,by omega,by omega,by omega,by omega,by omega,?_⟩
  rw [show ((k:Int)+1).toNat=k+1 by omega]
  try simp (disch:=omega) only [go_sem,jF,jG,jH,↓reduceIte,e1,pc,Option.map_some,←g4]
  try simp (disch:=omega) only [go_sem,jF,jG,jH,↓reduceIte,jO,hob0,aJ,eh,e3,e4,Option.map_some,pc,hidob,aw,dN,bD,e8]
  refine ⟨by omega,by omega,by omega,by omega,by omega,by omega,?_⟩
  have g8:max (gB a.ins k).lo (f (k+1)-f k+(gB a.outs k).lo)=f2 k:=by omega
  try simp (disch:=omega) only [go_sem,g8]
  refine ⟨by rw [nV]; omega,by omega,?_⟩
  try simp (disch:=omega) only [go_sem,h9,h10]
  refine ⟨by omega,by omega,?_⟩
  have e9:(uR (k+1+1) f)[k]?=some (f k):=CU f (by omega)
  try simp (disch:=omega) only [go_sem,jF,↓reduceIte,jO,mN,←tN,bD,e9,Option.map_some]
  have g9:f k+f2 k-f (k+1)=f3 k:=by omega
  try simp (disch:=omega) only [go_sem,g9]
  refine Cc (A:=uR (k+1+1) f) (B:=uR k f2) (C:=uR k f3) (q:=2) (X8:=.sl id c 1 0 (k+1+1)) (X10:=X10) ?_ (by simp only; omega) (by rw [dN]; omega) (by omega) fun Y9 τ9 hT9 hK9 hf9=>?_
  ·rw [tN (k+1)]
   refine hT0.TQ (by simp only; omega) hT0.Gy hid (by rw [dN]) (by try simp (disch:=omega) only [go_sem,↓reduceIte,mN]) fun i hi hne=>?_
   simp only at hi ⊢
   rw [aa _ _ _ _ hne]
  have hn9:=hK9.1
  simp only at hn9 hf9
  rw [←tN] at hT9
  have w0:=hf9 0 (by omega)
  have w1:=hf9 1 (by omega)
  try simp (disch:=omega) only [go_sem,↓reduceIte,z4,hob0] at w0
  try simp (disch:=omega) only [go_sem,↓reduceIte,z5,hob1] at w1
  have v9:=hK9.2.1 id hid hT0.d89.G6
  simp only [au] at v9
  try simp (disch:=omega) only [go_sem,jF,↓reduceIte,reduceCtorEq]
  refine ⟨v9,?_⟩
  refine Al hT9 (by omega) (by rw [dN]; omega) (by omega) fun Y10 τ10 hT10 hK10 hf10=>?_
  have hn10:=hK10.1
  rw [←tN] at hT10
  have w00:=(hf10 0 (by omega)).trans w0
  have w11:=(hf10 1 (by omega)).trans w1
  try simp (disch:=omega) only [go_sem,jF,↓reduceIte,reduceCtorEq,jO]
  refine aH τ10.n hkl (by omega) ⟨(by first | rfl | (simp (disch:=omega) only [go_sem,jA,jB,jC,jD,jE,jF,jG,jH,jI,jJ,↓reduceIte,reduceCtorEq,jP,jO,jM,jN]; try rfl)),?_,?_,?_⟩
  ·simp only [St.aD]; rw [if_pos (by omega)]; exact w00
  ·simp only [St.aD]; rw [if_pos (by omega)]; exact w11
  ·try simp (disch:=omega) only [go_sem,jF,↓reduceIte]
   exact hT10.mv (Nat.le_refl _) fun i _ hi=>by simp [St.aD,hi]
 ·try simp (disch:=omega) only [go_sem,jF,↓reduceIte,h8,h9,h10]
  obtain rfl:a.ins.length=k:=by omega
  exact aA.tu (.cons (hT.r8.mB (fun _ _ _=>rfl) (dO _) (iy _)) (.cons (hT.r9.mB (fun _ _ _=>rfl) (dO _) (iy _)) (.cons (hT.JQ.mB (fun _ _ _=>rfl) (dO _) (iy _)) (.cons (.pure rfl) .nil))))
structure LA (n:Nat) (S I O:List Int):Prop where
 ls:S.length=n+1
 li:I.length=n
 lo:O.length=n
 s:∀ i,i≤n→0≤S.getD i 0∧S.getD i 0≤39+9 * (i:Int)
 i:∀ i,i<n→0≤I.getD i 0∧I.getD i 0≤9
 o:∀ i,i<n→0≤O.getD i 0∧O.getD i 0≤12
 O8:∀ i,i<n→S.getD (i+1) 0=S.getD i 0+I.getD i 0-O.getD i 0
theorem fT {L:List Int} {x:Int} {i:Nat} (h:i<L.length):(L++[x]).getD i 0=L.getD i 0:=by
 rw [List.getD_eq_getElem?_getD,List.getD_eq_getElem?_getD,List.getElem?_append_left h]
theorem kC {L:List Int} {x:Int} {i:Nat} (h:i=L.length):(L++[x]).getD i 0=x:=by
 subst h; simp [List.getD_eq_getElem?_getD]
theorem mQ {L:List Int} {i:Nat} (h:i<L.length):L[i]?=some (L.getD i 0):=by
 rw [List.getD_eq_getElem?_getD,List.getElem?_eq_getElem h]; rfl
theorem LA.one {x:Int} (h:0≤x) (h2:x≤39):LA 0 [x] [] []:=
 ⟨rfl,rfl,rfl,fun i hi=>by (obtain rfl:i=0:=by omega); simp; omega,fun i hi=>by omega,fun i hi=>by omega,fun i hi=>by omega⟩
theorem LA.snoc {n:Nat} {S I O:List Int} (h:LA n S I O) {x y a:Int} (ha:a=S.getD n 0) (hx:0≤x∧x≤9) (hy:0≤y∧y≤12) (hd:y≤a+x):LA (n+1) (S++[a+x-y]) (I++[x]) (O++[y]):=by
 subst ha
 have h1:=h.ls
 have h2:=h.li
 have h3:=h.lo
 refine ⟨by simp [h1],by simp [h2],by simp [h3],fun i hi=>?_,fun i hi=>?_,fun i hi=>?_,fun i hi=>?_⟩
 ·rcases Nat.lt_or_ge i (n+1) with hh | hh
  ·rw [fT (by omega)]; exact h.s i (by omega)
  ·rw [kC (by omega)]; have:=h.s n (by omega); omega
 ·rcases Nat.lt_or_ge i n with hh | hh
  ·rw [fT (by omega)]; exact h.i i hh
  ·rw [kC (by omega)]; exact hx
 ·rcases Nat.lt_or_ge i n with hh | hh
  ·rw [fT (by omega)]; exact h.o i hh
  ·rw [kC (by omega)]; exact hy
 ·rcases Nat.lt_or_ge i n with hh | hh
  ·rw [fT (by omega),fT (by omega),fT (by omega),fT (by omega)]; exact h.O8 i hh
  ·obtain rfl:i=n:=by omega
   rw [kC (by omega),fT (by omega),kC (by omega),kC (by omega)]
theorem cj.at {es:Nat} {ty:TypeId} {σ:St} {L:List AV} {id g n:Nat} (h:cj es ty σ L (.sl id g es 0 n)):id<σ.n∧n=L.length∧σ.ob id=some ⟨g,es,ty,false,true,L⟩:=by
 rcases h with ⟨h,_⟩ | ⟨id,g,h,h2,h3⟩
 ·cases h
 ·cases h; exact ⟨h2,rfl,h3⟩
theorem xz (σ:St) (id g:Nat) (t:List Int) (at':Nat) (hl:t.length≤9223372036854775807) (hid:id<σ.n) (hob:σ.ob id=some ⟨g,2,az,false,true,[bA t at']⟩) :
  HC prog yZ [.ptr id g 2 0 0] σ (dW σ id g t fun r=>∃ n S I O,r=.tuple [.list 1 (ints S),.list 1 (ints I),.list 1 (ints O)]∧LA n S I O∧1≤n∧n≤5):=by
 refine HC.vV hid ?_
 obtain ⟨dy,n0,c0⟩:=σ
 simp only at hob hid
 refine aM Ah (by simp) ?_
 simp only [qk,go_sem,↓reduceIte,reduceCtorEq]
 have h0:¬id=n0:=by omega
 have h1:¬id=n0+1:=by omega
 have h2:¬n0=id:=by omega
 refine aL (ah _ id g az true t at' 40 (by try simp (disch:=omega) only [go_sem]; exact hob) (by omega) hl) ?_
 have hx1:=aG t at' 40
 generalize bc t at' 40=dr at *
 obtain ⟨x1,at1⟩:=dr
 simp only at hx1
 try simp (disch:=omega) only [go_sem,↓reduceIte,reduceCtorEq]
 refine aL (ah _ id g az true t at1 5 (by try simp (disch:=omega) only [go_sem,↓reduceIte,h0]) (by omega) hl) ?_
 have hx2:=aG t at1 5
 generalize bc t at1 5=dr at *
 obtain ⟨x2,at2⟩:=dr
 simp only at hx2
 try simp (disch:=omega) only [go_sem,↓reduceIte]
 obtain ⟨K,hK⟩:∃ K:Nat,(K:Int)=x2∧K≤4:=⟨x2.toNat,by omega,by omega⟩
 obtain ⟨rfl,hK⟩:=hK
 have hx:0≤x1∧x1≤39:=by omega
 refine bd [5,6,7,8,9,10,11,17,18,19,20,21,22,23,24,25,26,27,28,29,30,31,32,33,34,35,36,37,38,39,40,41,42,43,44,45,46,47,48,49,50,51] (by kernel_rfl) (K+1) (fun k e σ=>e 8=.int .i64 ((K:Int)-k)∧(∃ a,σ.ob id=some ⟨g,2,az,false,true,[bA t a]⟩)∧(∀ i,i<n0→i≠id→σ.ob i=dy i)∧∃ S I O,LA k S I O∧uN σ (e 5) (e 6) (e 7) S I O n0) ?_ ?_
 ·refine ⟨(by first | rfl | (simp (disch:=omega) only [go_sem,jA,jB,jC,jD,jE,jF,jG,jH,jI,jJ,↓reduceIte,reduceCtorEq,jP,jO,jM,jN]; try rfl)),⟨at2,by try simp (disch:=omega) only [go_sem,↓reduceIte]⟩,fun i hi hne=>?_,[x1],[],[],LA.one hx.1 hx.2,?_⟩
  ·have:¬i=n0:=by omega
   try simp (disch:=omega) only [go_sem,↓reduceIte,hne,this]
  ·try simp (disch:=omega) only [go_sem,jF,↓reduceIte]
   exact ⟨.inr ⟨n0,c0,rfl,by simp only; omega,by simp [aZ,ints,h2]⟩,.nil,.nil,fun i hi=>aU.sl (by omega),fun i _=>aU.nil i,fun i _=>aU.nil i,(Dj.nil _).symm,(Dj.nil _).symm,Dj.nil _⟩
 rintro k fe ob m c hk hm ⟨h8,⟨at3,hd⟩,hfr,S,I,O,hH,hT⟩
 simp (maxSteps:=1000000) only [go_sem,jF,↓reduceIte] at h8 hd hfr hT hm
 obtain ⟨X5,h5⟩:∃ X,fe 5=X:=⟨_,rfl⟩
 obtain ⟨X6,h6⟩:∃ X,fe 6=X:=⟨_,rfl⟩
 obtain ⟨X7,h7⟩:∃ X,fe 7=X:=⟨_,rfl⟩
 rw [h5,h6,h7] at hT
 try simp (disch:=omega) only [go_sem,jF,↓reduceIte,h8]
 refine ai (fun hge=>?_) (fun hlt=>?_)
 ·have hkl:k<K+1:=by omega
  try simp (disch:=omega) only [go_sem,↓reduceIte,reduceCtorEq]
  refine aL (ah _ id g az true t at3 10 hd (by omega) hl) ?_
  have hx4:=aG t at3 10
  generalize bc t at3 10=dr at *
  obtain ⟨x,at4⟩:=dr
  simp only at hx4
  have hq1:=hT.o8 id hid
  have r8:=hT.r8
  rcases r8 with ⟨-,hnil⟩ | ⟨id8,g8,rfl,hid8,hidob⟩
  ·have:=hH.ls; have h9:=aw S; rw [hnil] at h9; simp at h9; omega
  have e1:¬id8=id:=hq1.ne
  have hS:=hH.ls
  have hlen:(ints S).length=k+1:=by rw [aw,hS]
  rw [hlen] at h5 hT
  simp only at hidob
  try simp (disch:=omega) only [go_sem,jF,jH,↓reduceIte,reduceCtorEq,jO,jM,h5]
  rw [show ((k+1:Nat):Int)-1=(k:Int) by omega]
  have e2:S[k]?=some (S.getD k 0):=mQ (by omega)
  have hs:=hH.s k (by omega)
  try simp (disch:=omega) only [go_sem,jF,↓reduceIte,jO,hidob,bD,e2,Option.map_some]
  refine ⟨by omega,by omega,?_⟩
  refine aL (ah _ id g az true t at4 _ (by try simp (disch:=omega) only [go_sem,↓reduceIte]) (by omega) hl) ?_
  have hx5:=aG t at4 (min (S.getD k 0+x) 12+1)
  generalize bc t at4 (min (S.getD k 0+x) 12+1)=dr at *
  obtain ⟨y,at5⟩:=dr
  simp only at hx5
  have hy:0≤y∧y≤12∧y≤S.getD k 0+x:=by omega
  have hH2:=hH.snoc (x:=x) (y:=y) rfl (by omega) (by omega) hy.2.2
  have hI:=hH.li
  have hO:=hH.lo
  try simp (disch:=omega) only [go_sem,jF,↓reduceIte,h6]
  refine Cc (q:=n0) (A:=S) (B:=I) (C:=O) (X8:=.sl id8 g8 1 0 (k+1)) (X10:=X7) (hT.mv (Nat.le_refl _) fun i hi _=>?_) (by simp only; omega) (by omega) (by omega) fun Y6 τ6 hT6 hK6 hf6=>?_
  ·simp only; rw [aa _ _ _ _ (by omega),aa _ _ _ _ (by omega)]
  have hn6:=hK6.1
  simp only at hn6
  try simp (disch:=omega) only [go_sem,jF,↓reduceIte,h7]
  refine Al (b:=8) hT6 (by omega) (by omega) (by omega) fun Y7 τ7 hT7 hK7 hf7=>?_
  have hn7:=hK7.1
  obtain ⟨q1,q2,q3⟩:=hT7.r8.at
  try simp (disch:=omega) only [go_sem,jF,↓reduceIte,jO,q3,hlen]
  refine ⟨by rw [nV]; omega,by omega,?_⟩
  have hT5:uN (τ7.renew id8 ⟨g8,1,3,false,true,ints S⟩ (ints S++[.int .i64 (S.getD k 0+x-y)])) (.sl id8 τ7.c 1 0 (k+1+1)) Y6 Y7 (S++[S.getD k 0+x-y]) (I++[x]) (O++[y]) n0:=
   hT7.TQ (Nat.le_refl _) hT7.Gy q1 (by omega) (by simp [St.renew,aZ]) fun i _ hne=>by simp only [St.renew]; rw [aa _ _ _ _ hne]
  have hn5:τ7.n≤(τ7.renew id8 ⟨g8,1,3,false,true,ints S⟩ (ints S++[.int .i64 (S.getD k 0+x-y)])).n:=Nat.le_refl _
  have hf5:∀ i,i<n0→(τ7.renew id8 ⟨g8,1,3,false,true,ints S⟩ (ints S++[.int .i64 (S.getD k 0+x-y)])).ob i=τ7.ob i:=fun i hi=>by
   have:=hT7.Gy
   simp only [St.renew]; rw [aa _ _ _ _ (by omega)]
  generalize τ7.renew id8 ⟨g8,1,3,false,true,ints S⟩ (ints S++[.int .i64 (S.getD k 0+x-y)])=τ5 at *
  have hF:∀ i,i<n0→τ5.ob i=(if i=id then some ⟨g,2,az,false,true,[bA t at5]⟩ else ob i):=fun i hi=>by
   rw [hf5 i hi,hf7 i hi,hf6 i hi]
   simp only [aZ]
   split <;> rfl
  try simp (disch:=omega) only [go_sem,jA,jB,jC,jD,jE,jF,jG,jH,jI,jJ,↓reduceIte,reduceCtorEq,jO,jM,jN,jK,jL,h8]
  refine aH τ5.n hkl (by omega) ⟨by try simp (disch:=omega) only [go_sem,↓reduceIte]; congr 1; omega,⟨at5,?_⟩,fun i hi hne=>?_,_,_,_,hH2,?_⟩
  ·simp only [St.aD]; rw [if_pos (by omega),hF id hid,if_pos rfl]
  ·simp only [St.aD]; rw [if_pos (by omega),hF i hi,if_neg hne]; exact hfr i hi hne
  ·try simp (disch:=omega) only [go_sem,jF,↓reduceIte]
   exact hT5.mv (Nat.le_refl _) fun i _ hi=>by simp [St.aD,hi]
 ·try simp (disch:=omega) only [go_sem,jF,↓reduceIte,h5,h6,h7]
  refine ⟨_,at3,aA.tu (.cons (hT.r8.mB (fun i hi hno=>?_) (dO _) (iy _)) (.cons (hT.r9.mB (fun i hi hno=>?_) (dO _) (iy _)) (.cons (hT.JQ.mB (fun i hi hno=>?_) (dO _) (iy _)) .nil))),⟨k,S,I,O,rfl,hH,by omega,by omega⟩,hd,hfr⟩
  ·simp only; rw [if_neg fun h=>hno (hT.o8 i h)]
  ·simp only; rw [if_neg fun h=>hno (hT.o9 i h)]
  ·simp only; rw [if_neg fun h=>hno (hT.KT i h)]
def Bn (x:Int) (b:Bd):Prop:=0≤b.lo∧b.lo≤x∧x≤b.hi∧b.hi≤x+30
structure HF (L:List Int) (B:List Bd):Prop where
 ln:B.length=L.length
 b:∀ i,i<L.length→Bn (L.getD i 0) (gB B i)
theorem N8 {L:List Bd} {x:Bd} {i:Nat} (h:i<L.length):gB (L++[x]) i=gB L i:=by
 simp only [gB,List.getD_eq_getElem?_getD,List.getElem?_append_left h]
theorem N7 {L:List Bd} {x:Bd} {i:Nat} (h:i=L.length):gB (L++[x]) i=x:=by
 subst h; simp [gB,List.getD_eq_getElem?_getD]
theorem GY {L:List Int} {k:Nat} (h:k<L.length):L.take (k+1)=L.take k++[L.getD k 0]:=by
 rw [List.take_add_one,mQ h]; rfl
theorem HF.nil:HF [] []:=⟨rfl,fun i hi=>by simp at hi⟩
theorem HF.snoc {L:List Int} {B:List Bd} (h:HF L B) {x:Int} {b:Bd} (hb:Bn x b):HF (L++[x]) (B++[b]):=by
 have h1:=h.ln
 refine ⟨by simp [h1],fun i hi=>?_⟩
 rcases Nat.lt_or_ge i L.length with hh | hh
 ·rw [fT hh,N8 (by omega)]; exact h.b i hh
 ·simp only [List.length_append,List.length_cons,List.length_nil] at hi
  rw [kC (by omega),N7 (by omega)]; exact hb
theorem fQ (σ:St) (id g:Nat) (t:List Int) (at':Nat) (x:Int) (hl:t.length≤9223372036854775807) (hid:id<σ.n) (hob:σ.ob id=some ⟨g,2,az,false,true,[bA t at']⟩) (hx0:0≤x) (hx1:x≤1000) :
  HC prog AR [.ptr id g 2 0 0,.int .i64 x] σ (dW σ id g t fun r=>∃ b,r=pc b∧Bn x b):=by
 refine HC.vV hid ?_
 obtain ⟨dy,n0,c0⟩:=σ
 simp only at hob hid
 refine aM Bl (by simp) ?_
 simp only [rX,go_sem,↓reduceIte,reduceCtorEq]
 have h0:¬id=n0:=by omega
 have h2:¬n0=id:=by omega
 have fin:∀ (ob':Nat→Option aS) (c':Nat) (b:Bd) (at2:Nat),ob' id=some ⟨g,2,az,false,true,[bA t at2]⟩→Bn x b→(∀ i,i<n0→i≠id→ob' i=dy i)→Cd ⟨dy,n0,c0⟩ id g t (fun r=>∃ b,r=pc b∧Bn x b) (.agg [.int .i64 b.lo,.int .i64 b.hi]) ⟨ob',n0+1,c'⟩:=
  fun ob' c' b at2 h1 h2 h3=>⟨_,at2,.pure rfl,⟨b,rfl,h2⟩,h1,h3⟩
 refine aL (ah _ id g az true t at' 4 (by try simp (disch:=omega) only [go_sem,↓reduceIte,h0]; exact hob) (by omega) hl) ?_
 have hy1:=aG t at' 4
 generalize bc t at' 4=dr at *
 obtain ⟨x1,at1⟩:=dr
 try simp (disch:=omega) only [go_sem,↓reduceIte]
 refine ai (fun g1=>?_) (fun g1=>?_)
 ·try simp (disch:=omega) only [go_sem,jF,jG,jH,↓reduceIte,reduceCtorEq,h2]
  exact fin _ _ ⟨x,x⟩ at1 (by try simp (disch:=omega) only [go_sem,↓reduceIte,h0]) (by simp only [Bn]; omega) (fun i hi hi2=>by
   have j0:¬i=n0:=by omega
   try simp (disch:=omega) only [go_sem,↓reduceIte,j0,hi2])
 try simp (disch:=omega) only [go_sem,jF,↓reduceIte]
 refine ai (fun g2=>?_) (fun g2=>?_)
 ·try simp (disch:=omega) only [go_sem,jF,↓reduceIte,reduceCtorEq]
  refine aL (ah _ id g az true t at1 30 (by try simp (disch:=omega) only [go_sem,↓reduceIte]) (by omega) hl) ?_
  have hy2:=aG t at1 30
  generalize bc t at1 30=dr at *
  obtain ⟨x2,at2⟩:=dr
  simp only at hy2
  try simp (disch:=omega) only [go_sem,jF,jG,jH,↓reduceIte,jO,h2]
  exact fin _ _ ⟨0,x+x2⟩ at2 (by try simp (disch:=omega) only [go_sem,↓reduceIte,h0]) (by simp only [Bn]; omega) (fun i hi hi2=>by
   have j0:¬i=n0:=by omega
   try simp (disch:=omega) only [go_sem,↓reduceIte,j0,hi2])
 try simp (disch:=omega) only [go_sem,jF,↓reduceIte,reduceCtorEq,jO]
 refine aL (ah _ id g az true t at1 _ (by try simp (disch:=omega) only [go_sem,↓reduceIte]) (by omega) hl) ?_
 have hy2:=aG t at1 (min x 6+1)
 generalize bc t at1 (min x 6+1)=dr at *
 obtain ⟨x2,at2⟩:=dr
 simp only at hy2
 try simp (disch:=omega) only [go_sem,jF,↓reduceIte,reduceCtorEq,jO]
 refine aL (ah _ id g az true t at2 6 (by try simp (disch:=omega) only [go_sem,↓reduceIte]) (by omega) hl) ?_
 have hy3:=aG t at2 6
 generalize bc t at2 6=dr at *
 obtain ⟨x3,at3⟩:=dr
 simp only at hy3
 try simp (disch:=omega) only [go_sem,jF,jG,jH,↓reduceIte,jO,h2]
 exact fin _ _ ⟨x-x2,x+x3⟩ at3 (by try simp (disch:=omega) only [go_sem,↓reduceIte,h0]) (by simp only [Bn]; omega) (fun i hi hi2=>by
  have j0:¬i=n0:=by omega
  try simp (disch:=omega) only [go_sem,↓reduceIte,j0,hi2])
def S9 (σ:St) (id g:Nat) (t:List Int) (L:List Int) (r:AV) (τ:St):Prop:=
 ∃ B,HF L B∧cj 2 24 τ (cr B) r∧(∀ i,i<σ.n→aU r i)∧σ.n≤τ.n∧(∃ a,τ.ob id=some ⟨g,2,az,false,true,[bA t a]⟩)∧∀ i,i<σ.n→i≠id→τ.ob i=σ.ob i
theorem nZ (σ:St) (id g:Nat) (t:List Int) (at':Nat) (L:List Int) (hl:t.length≤9223372036854775807) (hid:id<σ.n) (hob:σ.ob id=some ⟨g,2,az,false,true,[bA t at']⟩) (hL:L.length≤100) (hx:∀ i,i<L.length→0≤L.getD i 0∧L.getD i 0≤1000) :
  HC prog Ed [.ptr id g 2 0 0,.list 1 (ints L)] σ (S9 σ id g t L):=by
 obtain ⟨dy,n0,c0⟩:=σ
 simp only at hob hid
 refine aM EU (by simp) ?_
 simp only [wS,go_sem,jF,↓reduceIte,reduceCtorEq,aw]
 refine bd [5,7,10,11,12,13,14,15,16,17,18,19,20] (by kernel_rfl) L.length (fun k e σ=>e 10=.int .i64 k∧(∃ a,σ.ob id=some ⟨g,2,az,false,true,[bA t a]⟩)∧(∀ i,i<n0→i≠id→σ.ob i=dy i)∧∃ B,HF (L.take k) B∧cj 2 24 σ (cr B) (e 5)∧∀ i,i<n0→aU (e 5) i) ?_ ?_
 ·exact ⟨(by first | rfl | (simp (disch:=omega) only [go_sem,jA,jB,jC,jD,jE,jF,jG,jH,jI,jJ,↓reduceIte,reduceCtorEq,jP,jO,jM,jN]; try rfl)),⟨at',hob⟩,fun i hi hne=>rfl,[],HF.nil,by try simp (disch:=omega) only [go_sem,jF,↓reduceIte]; exact .nil,fun i _=>by try simp (disch:=omega) only [go_sem,jF,↓reduceIte]; exact aU.nil i⟩
 rintro k fe ob m c hk hm ⟨h10,⟨at3,hd⟩,hfr,B,hB,hR,ho⟩
 simp (maxSteps:=1000000) only [go_sem,jF,↓reduceIte] at h10 hd hfr hR ho hm
 obtain ⟨X5,h5⟩:∃ X,fe 5=X:=⟨_,rfl⟩
 rw [h5] at hR ho
 try simp (disch:=omega) only [go_sem,jF,↓reduceIte,h10]
 refine ai (fun hlt=>?_) (fun hge=>?_)
 ·have hkl:k<L.length:=by omega
  have e1:=mQ hkl
  have hxk:=hx k hkl
  have hts:=GY hkl
  generalize L.getD k 0=x at *
  try simp (disch:=omega) only [go_sem,jF,jH,↓reduceIte,reduceCtorEq,aw,bD,e1,Option.map_some]
  refine ⟨by omega,by omega,?_⟩
  refine (fQ _ id g t at3 x hl (by simp only; omega) hd hxk.1 hxk.2).mono ?_
  intro r τ hD
  obtain ⟨⟨b,rfl,hb⟩,hn,⟨at4,hd4⟩,hf4⟩:=hD.use (by simp only; omega)
  obtain ⟨ob4,m4,c4⟩:=τ
  simp only at hn hd4 hf4
  subst hn
  try simp (disch:=omega) only [go_sem,jF,↓reduceIte,h5]
  have hBl:B.length=k:=by rw [hB.ln]; simp; omega
  refine ⟨⟨rfl,rfl,rfl⟩,?_⟩
  refine bB (b:=16) (hR.move (by exact Nat.le_refl _) fun i hi hno=>hf4 i hi fun e=>hno (e ▸ ho id hid)) (by rw [aJ]; omega) (by rw [aJ]; omega) fun Y τ5 hR5 hK5=>?_
  have hn5:=hK5.1
  simp only at hn5
  try simp (disch:=omega) only [go_sem,jF,↓reduceIte,jO]
  refine aH τ5.n hkl (by omega) ⟨(by first | rfl | (simp (disch:=omega) only [go_sem,jA,jB,jC,jD,jE,jF,jG,jH,jI,jJ,↓reduceIte,reduceCtorEq,jP,jO,jM,jN]; try rfl)),⟨at4,?_⟩,fun i hi hne=>?_,B++[b],?_,?_,fun i hi=>?_⟩
  ·simp only [St.aD]; rw [if_pos (by omega),hK5.2.1 id (by simp only; omega) (ho id hid)]; exact hd4
  ·simp only [St.aD]; rw [if_pos (by omega),hK5.2.1 i (by simp only; omega) (ho i hi)]
   exact (hf4 i (by omega) hne).trans (hfr i hi hne)
  ·rw [hts]; exact hB.snoc hb
  ·try simp (disch:=omega) only [go_sem,jF,↓reduceIte,Jg]
   exact hR5.move (Nat.le_refl _) fun i hi _=>by simp [St.aD,hi]
  ·try simp (disch:=omega) only [go_sem,jF,↓reduceIte]; exact hK5.2.2 i (by simp only; omega) (ho i hi)
 ·try simp (disch:=omega) only [go_sem,jF,↓reduceIte,h5]
  obtain rfl:L.length=k:=by omega
  rw [List.take_length] at hB
  exact ⟨B,hB,hR,ho,hm,⟨at3,hd⟩,hfr⟩
end Go.Proofs.Try
