/- OWN WORK, put together by tools/asm.py, seat.py, mini.py. -/
import Derived.Test.YtcpckngdfjmbgaaGreatLib
set_option linter.unusedSimpArgs false
set_option linter.unusedVariables false
set_option maxRecDepth 100000
set_option maxHeartbeats 1000000
namespace Go.Proofs.Try
open Go.Ab Go Go.Proofs.Tryz
open Int renaming reduceEq → jA, reduceLT → jB, reduceLE → jC, reduceToNat → jD
open Go.Ab renaming iP → jM, iQ → jN, lV → jO, iR → jP
open Nat renaming reduceLT → jE, reduceEqDiff → jF, reduceAdd → jG, reduceLeDiff → jH, reduceSub → jI, reduceMul → jJ, sub_zero → jK, sub_self → jL
def da (l:List Int) (x:Int):Nat:=l.findIdx fun y=>decide (x≤y)
theorem wZ (l:List Int) (x:Int):da l x≤l.length:=List.findIdx_le_length
theorem AQ (l:List Int) (x:Int) (i:Nat) (hi:i≤l.length) (h1:∀ k,k<i→∀ y,l[k]?=some y→y<x) (h2:∀ k,i≤k→∀ y,l[k]?=some y→x≤y):da l x=i:=by
 unfold da
 by_cases h:i<l.length
 ·rw [List.findIdx_eq h]
  refine ⟨by simpa using h2 i (Nat.le_refl _) _ (List.getElem?_eq_getElem h),fun j hj=>?_⟩
  have:=h1 j hj _ (List.getElem?_eq_getElem (by omega))
  simp; omega
 ·have:i=l.length:=by omega
  subst this
  rw [List.findIdx_eq_length]
  intro y hy
  obtain ⟨k,hk⟩:=List.getElem?_of_mem hy
  have:=h1 k (List.getElem?_eq_some_iff.1 hk).1 y hk
  simp; omega
theorem FK (x:Int) (h0:0≤x) (h1:x≤9223372036854775807):BQ .shr .u64 x .u64 1=some (.int .u64 (x / 2)):=by
 simp only [BQ,IntKind.bits]
 rw [if_pos (by omega)]
 have:(2:Int) ^ min (1:Int).toNat 64=2:=by decide
 rw [this,Int.fdiv_eq_ediv_of_nonneg _ (by omega)]
theorem wrap_u64 {n:Int} (h0:0≤n) (h1:n≤18446744073709551615):IntKind.u64.wrap n=n:=by
 simp [IntKind.wrap,IntKind.bits,IntKind.signed]; omega
def KP (l:List Int):Prop:=∀ i j:Nat,i<j→∀ x y,l[i]?=some x→l[j]?=some y→x≤y
theorem rh (l:List Int) (x:Int) (hs:KP l):l[da l x]?=some x↔x∈l:=by
 constructor
 ·intro h; exact List.mem_of_getElem? h
 ·intro h
  have hlt:da l x<l.length:=List.findIdx_lt_length.2 ⟨x,h,by simp⟩
  have h3:x≤l[da l x]:=of_decide_eq_true (List.findIdx_getElem (p:=fun y=>decide (x≤y)) (w:=hlt))
  obtain ⟨i,hi⟩:=List.getElem?_of_mem h
  have h4:da l x≤i:=by
   rcases Nat.lt_or_ge i (da l x) with h5 | h5
   ·have:=List.not_of_lt_findIdx h5
    rw [List.getElem?_eq_some_iff] at hi
    obtain ⟨_,rfl⟩:=hi
    simp at this
   ·exact h5
  rw [List.getElem?_eq_getElem hlt]
  by_cases e:i=da l x
  ·subst e; rw [List.getElem?_eq_getElem hlt] at hi; exact hi
  ·have:=hs _ i (by omega) _ x (List.getElem?_eq_getElem hlt) hi
   congr 1; omega
theorem GU {l:List Int} {x y:Int} (h:l[da l x]?=some y):x≤y:=by
 obtain ⟨hlt,rfl⟩:=List.getElem?_eq_some_iff.1 h
 exact of_decide_eq_true (List.findIdx_getElem (p:=fun y=>decide (x≤y)) (w:=hlt))
theorem wY {l:List Int} {x y:Int} {k:Nat} (h:l[k]?=some y) (hy:x≤y):da l x≤k:=by
 obtain ⟨hlt,rfl⟩:=List.getElem?_eq_some_iff.1 h
 rcases Nat.lt_or_ge k (da l x) with h5 | h5
 ·have:=List.not_of_lt_findIdx h5
  simp at this; omega
 ·exact h5
abbrev C8:TypeId:=24
theorem mO (σ:St) (L:List AV) (hl:L.length * 16≤140737488355328):HC prog fQ [.list 2 L] σ (G1 σ 2 C8 L):=by
 refine aL gC (by simp) ?_
 obtain ⟨ob,n,c⟩:=σ
 simp only [gq,go_sem,↓reduceIte,reduceCtorEq]
 refine uN (fun h=>?_) (fun h=>?_)
 ·subst h
  refine ⟨?_,?_⟩
  ·try simp (disch:=omega) only [go_sem,↓reduceIte]
   refine ⟨_,_,rfl,Nat.le_succ _,Nat.lt_succ_self _,(by first | rfl | (simp (disch:=omega) only [go_sem,↓reduceIte]; try rfl)),fun i hi=>?_⟩
   simp only at hi
   try simp (disch:=omega) only [go_sem,jM]
  ·try simp (disch:=omega) only [go_sem,jF,jH,jJ,↓reduceIte,reduceCtorEq]
   repeat (refine And.intro (by first | omega | (rw [n4]; omega) | (simp [maxLen]; done) | (simp [maxLen]; omega)) ?_)
   refine ⟨_,_,rfl,Nat.le_succ _,Nat.lt_succ_self _,(by first | rfl | (simp (disch:=omega) only [go_sem,↓reduceIte]; try rfl)),fun i hi=>?_⟩
   simp only at hi
   try simp (disch:=omega) only [go_sem,jM]
 ·try simp (disch:=omega) only [go_sem,jF,↓reduceIte,reduceCtorEq]
  repeat (refine And.intro (by first | omega | (rw [n4]; omega) | (simp [maxLen]; done) | (simp [maxLen]; omega)) ?_)
  refine ⟨_,_,rfl,Nat.le_succ _,Nat.lt_succ_self _,(by first | rfl | (simp (disch:=omega) only [go_sem,↓reduceIte]; try rfl)),fun i hi=>?_⟩
  simp only at hi
  try simp (disch:=omega) only [go_sem,jM]
theorem cW (L:List AV) (hl:L.length * 16≤140737488355328) (hp:∀ x∈L,x.cL=true) (hk:∀ x∈L,mF 2 x):PC prog fQ [.list 2 L] (.list 2 L):=
 jh gC ((mO St.empty L hl).mono fun r τ ⟨id,g,h1,_,_,h2,_⟩=>by rw [h1]; exact aw.dv h2 rfl hp hk)
abbrev dy:TypeId:=26
theorem eV (σ:St) (L:List AV) (hl:L.length * 48≤140737488355328):HC prog fO [.list 6 L] σ (G1 σ 6 dy L):=by
 refine aL gw (by simp) ?_
 obtain ⟨ob,n,c⟩:=σ
 simp only [gn,go_sem,↓reduceIte,reduceCtorEq]
 refine uN (fun h=>?_) (fun h=>?_)
 ·subst h
  refine ⟨?_,?_⟩
  ·try simp (disch:=omega) only [go_sem,↓reduceIte]
   refine ⟨_,_,rfl,Nat.le_succ _,Nat.lt_succ_self _,(by first | rfl | (simp (disch:=omega) only [go_sem,↓reduceIte]; try rfl)),fun i hi=>?_⟩
   simp only at hi
   try simp (disch:=omega) only [go_sem,jM]
  ·try simp (disch:=omega) only [go_sem,jF,jH,jJ,↓reduceIte,reduceCtorEq]
   repeat (refine And.intro (by first | omega | (rw [n4]; omega) | (simp [maxLen]; done) | (simp [maxLen]; omega)) ?_)
   refine ⟨_,_,rfl,Nat.le_succ _,Nat.lt_succ_self _,(by first | rfl | (simp (disch:=omega) only [go_sem,↓reduceIte]; try rfl)),fun i hi=>?_⟩
   simp only at hi
   try simp (disch:=omega) only [go_sem,jM]
 ·try simp (disch:=omega) only [go_sem,jF,↓reduceIte,reduceCtorEq]
  repeat (refine And.intro (by first | omega | (rw [n4]; omega) | (simp [maxLen]; done) | (simp [maxLen]; omega)) ?_)
  refine ⟨_,_,rfl,Nat.le_succ _,Nat.lt_succ_self _,(by first | rfl | (simp (disch:=omega) only [go_sem,↓reduceIte]; try rfl)),fun i hi=>?_⟩
  simp only at hi
  try simp (disch:=omega) only [go_sem,jM]
theorem mz (L:List AV) (hl:L.length * 48≤140737488355328) (hp:∀ x∈L,x.cL=true) (hk:∀ x∈L,mF 6 x):PC prog fO [.list 6 L] (.list 6 L):=
 jh gw ((eV St.empty L hl).mono fun r τ ⟨id,g,h1,_,_,h2,_⟩=>by rw [h1]; exact aw.dv h2 rfl hp hk)
structure Ac where
 fr:Int
 st:List Bd
 ins:List Bd
 outs:List Bd
def gG (a:Ac):AV:=.agg [.int .i64 a.fr,.list 2 (cr a.st),.list 2 (cr a.ins),.list 2 (cr a.outs)]
def F7:Int:=274877906944
def eb (b:Bd):Int:=if b.lo<0∨F7<b.hi then 1 else if b.hi<b.lo then 48 else 0
def el:List Bd→Int
 | []=>0
 | b :: r=>if eb b=0 then el r else eb b
def fG (b:Bd):Prop:=0≤b.lo∧b.lo≤b.hi∧b.hi≤F7
theorem DW {b:Bd}:eb b=0↔fG b:=by
 unfold eb fG
 split
 ·simp; omega
 ·split
  ·simp; omega
  ·simp; omega
theorem y8 {l:List Bd}:el l=0↔∀ b∈l,fG b:=by
 induction l with
 | nil=>simp [el]
 | cons b r ih=>
  simp only [el,List.mem_cons,forall_eq_or_imp]
  split
  ·rename_i h; rw [ih,←DW]; simp [h]
  ·rename_i h; rw [←DW]; simp [h]
theorem L6 {l:List Bd} {k:Nat} {b:Bd} (hk:l[k]?=some b) (h:∀ x∈l.take k,eb x=0):el l=if eb b=0 then el (l.drop (k+1)) else eb b:=by
 induction k generalizing l with
 | zero=>
  cases l with
  | nil=>simp at hk
  | cons x r=>simp at hk; subst hk; simp [el]
 | succ k ih=>
  cases l with
  | nil=>simp at hk
  | cons x r=>
   simp only [List.getElem?_cons_succ] at hk
   simp only [List.take_succ_cons,List.mem_cons,forall_eq_or_imp] at h
   rw [el,if_pos h.1,ih hk h.2]
   simp
def ef (a:Ac):Int:=
 if a.ins.length=0∨a.outs.length≠a.ins.length∨a.st.length≠a.ins.length+1 then 3
 else if 400<a.ins.length then 10
 else if a.fr<0∨16777216-(a.ins.length:Int)<a.fr then 6 else 0
def Gb (a:Ac):Int:=if ef a≠0 then ef a else if el a.st≠0 then el a.st else if el a.ins≠0 then el a.ins else el a.outs
structure ke (a:Ac):Prop where
 n1:1≤a.ins.length
 n2:a.ins.length≤400
 no:a.outs.length=a.ins.length
 ns:a.st.length=a.ins.length+1
 f0:0≤a.fr
 f1:a.fr≤16777216-(a.ins.length:Int)
 bs:∀ b∈a.st,fG b
 bi:∀ b∈a.ins,fG b
 bo:∀ b∈a.outs,fG b
theorem D7 {a:Ac}:Gb a=0↔ke a:=by
 have h6:ef a=0↔(1≤a.ins.length∧a.ins.length≤400∧a.outs.length=a.ins.length∧a.st.length=a.ins.length+1∧0≤a.fr∧a.fr≤16777216-(a.ins.length:Int)):=by
  unfold ef
  split
  ·simp; omega
  ·split
   ·simp; omega
   ·split
    ·simp; omega
    ·simp; omega
 have h:Gb a=0↔ef a=0∧el a.st=0∧el a.ins=0∧el a.outs=0:=by
  unfold Gb
  split
  ·rename_i h; simp [h]
  ·rename_i h
   split
   ·rename_i h2; simp [h2]
   ·rename_i h2
    split
    ·rename_i h3; simp [h3]
    ·rename_i h3; simp at h h2 h3; simp [h,h2,h3]
 rw [h,h6,y8,y8,y8]
 exact ⟨fun ⟨⟨a1,a2,a3,a4,a5,a6⟩,b1,b2,b3⟩=>⟨a1,a2,a3,a4,a5,a6,b1,b2,b3⟩,fun h=>⟨⟨h.n1,h.n2,h.no,h.ns,h.f0,h.f1⟩,h.bs,h.bi,h.bo⟩⟩
def ir (b:Bd) (v:Int):Prop:=b.lo≤v∧v≤b.hi
def dQ (a b:Bd):Bd:=⟨max a.lo b.lo,min a.hi b.hi⟩
def Na (s x y:Bd):Bd:=⟨s.lo+x.lo-y.hi,s.hi+x.hi-y.lo⟩
def KN (t x y:Bd):Bd:=⟨t.lo-x.hi+y.lo,t.hi-x.lo+y.hi⟩
def TK (s t y:Bd):Bd:=⟨t.lo-s.hi+y.lo,t.hi-s.lo+y.hi⟩
def OI (s t x:Bd):Bd:=⟨s.lo+x.lo-t.hi,s.hi+x.hi-t.lo⟩
def gW (b:Bd):Prop:=b.lo≤b.hi
section
variable (S X Y : Nat → Bd) (n : Nat)
def GR:Nat→Bd
 | 0=>S 0
 | i+1=>dQ (S (i+1)) (Na (GR i) (X i) (Y i))
def SN:Nat→Bd
 | 0=>GR S X Y n
 | k+1=>dQ (GR S X Y (n-(k+1))) (KN (SN k) (X (n-(k+1))) (Y (n-(k+1))))
def za (i:Nat):Bd:=SN S X Y n (n-i)
def Vc (i:Nat):Bd:=dQ (X i) (TK (za S X Y n i) (za S X Y n (i+1)) (Y i))
def Vb (i:Nat):Bd:=dQ (Y i) (OI (za S X Y n i) (za S X Y n (i+1)) (X i))
structure Hi (s x y:Nat→Int):Prop where
 st:∀ i,i≤n→ir (S i) (s i)
 ins:∀ i,i<n→ir (X i) (x i)
 outs:∀ i,i<n→ir (Y i) (y i)
 PY:∀ i,i<n→s (i+1)=s i+x i-y i
end
section
variable {S X Y : Nat → Bd} {n : Nat} {s x y : Nat → Int}
theorem uY:za S X Y n n=GR S X Y n:=by simp [za,SN]
theorem gf {i:Nat} (h:i<n):za S X Y n i=dQ (GR S X Y i) (KN (za S X Y n (i+1)) (X i) (Y i)):=by
 unfold za
 obtain ⟨k,hk⟩:∃ k,n-i=k+1:=⟨n-i-1,by omega⟩
 rw [hk,SN,show n-(i+1)=k by omega,show n-(k+1)=i by omega]
theorem Hi.F (h:Hi S X Y n s x y):∀ i,i≤n→ir (GR S X Y i) (s i)
 | 0,hi=>h.st 0 hi
 | i+1,hi=>by
  have h1:=h.F i (by omega)
  have h2:=h.st (i+1) hi
  have h3:=h.ins i (by omega)
  have h4:=h.outs i (by omega)
  have h5:=h.PY i (by omega)
  simp only [GR,dQ,Na,ir] at *
  omega
theorem Hi.G (h:Hi S X Y n s x y):∀ k,k≤n→ir (za S X Y n (n-k)) (s (n-k))
 | 0,_=>by rw [Nat.sub_zero,uY]; exact h.F n (Nat.le_refl _)
 | k+1,hk=>by
  have h1:=h.G k (by omega)
  rw [gf (by omega),show n-(k+1)+1=n-k by omega]
  have h2:=h.F (n-(k+1)) (by omega)
  have h3:=h.ins (n-(k+1)) (by omega)
  have h4:=h.outs (n-(k+1)) (by omega)
  have h5:=h.PY (n-(k+1)) (by omega)
  rw [show n-(k+1)+1=n-k by omega] at h5
  simp only [dQ,KN,ir] at *
  omega
theorem Hi.B (h:Hi S X Y n s x y) {i:Nat} (hi:i≤n):ir (za S X Y n i) (s i):=by
 have:=h.G (n-i) (by omega)
 rwa [show n-(n-i)=i by omega] at this
theorem Mc (i:Nat) (v:Int) (h:ir (GR S X Y i) v):ir (S i) v:=by
 cases i with
 | zero=>exact h
 | succ i=>simp only [GR,dQ,ir] at *; omega
theorem HI {i:Nat} (hi:i≤n) {v:Int} (h:ir (za S X Y n i) v):ir (GR S X Y i) v:=by
 by_cases e:i=n
 ·subst e; rwa [uY] at h
 ·rw [gf (by omega)] at h
  simp only [dQ,ir] at *; omega
theorem IS {a x y:Bd} (ha:gW a) (hx:gW x) (hy:gW y) {v:Int} (h:ir (Na a x y) v):∃ p q r,ir a p∧ir x q∧ir y r∧v=p+q-r:=by
 simp only [gW,ir,Na] at *
 by_cases h1:v≤a.hi+x.lo-y.hi
 ·exact ⟨v-x.lo+y.hi,x.lo,y.hi,by omega⟩
 ·by_cases h2:v≤a.hi+x.hi-y.hi
  ·exact ⟨a.hi,v-a.hi+y.hi,y.hi,by omega⟩
  ·exact ⟨a.hi,x.hi,a.hi+x.hi-v,by omega⟩
structure Vd (S X Y:Nat→Bd) (n:Nat):Prop where
 x:∀ i,i<n→gW (X i)
 y:∀ i,i<n→gW (Y i)
 f:∀ i,i≤n→gW (GR S X Y i)
theorem Vd.b (h:Vd S X Y n):∀ k,k≤n→gW (za S X Y n (n-k))
 | 0,_=>by rw [Nat.sub_zero,uY]; exact h.f n (Nat.le_refl _)
 | k+1,hk=>by
  have h1:=h.b k (by omega)
  rw [gf (by omega),show n-(k+1)+1=n-k by omega]
  have h2:=h.f (n-(k+1)) (by omega)
  have h3:=h.x (n-(k+1)) (by omega)
  have h4:=h.y (n-(k+1)) (by omega)
  have h5:=HI (S:=S) (X:=X) (Y:=Y) (show n-k≤n by omega) (v:=(za S X Y n (n-k)).lo) (by simp only [ir,gW] at *; omega)
  have h6:=HI (S:=S) (X:=X) (Y:=Y) (show n-k≤n by omega) (v:=(za S X Y n (n-k)).hi) (by simp only [ir,gW] at *; omega)
  rw [show n-k=(n-(k+1))+1 by omega] at h5 h6 h1 ⊢
  simp only [GR,dQ,KN,Na,ir,gW] at *
  omega
theorem Vd.B (h:Vd S X Y n) {i:Nat} (hi:i≤n):gW (za S X Y n i):=by
 have:=h.b (n-i) (by omega)
 rwa [show n-(n-i)=i by omega] at this
theorem Vd.on (h:Vd S X Y n) {i:Nat} (hi:i<n) {v:Int} (hv:ir (za S X Y n i) v):∃ q r,ir (X i) q∧ir (Y i) r∧ir (za S X Y n (i+1)) (v+q-r):=by
 have h2:=h.B (show i+1≤n from hi)
 have h3:=h.x i hi
 have h4:=h.y i hi
 rw [gf hi] at hv
 obtain ⟨p,q,r,h5,h6,h7,h8⟩:=IS (a:=za S X Y n (i+1)) (x:=Y i) (y:=X i) h2 h4 h3 (v:=v) (by simp only [dQ,KN,Na,ir] at *; omega)
 exact ⟨r,q,h7,h6,by rw [show v+r-q=p by omega]; exact h5⟩
theorem Vd.back (h:Vd S X Y n) {i:Nat} (hi:i<n) {v:Int} (hv:ir (za S X Y n (i+1)) v):∃ p q r,ir (X i) q∧ir (Y i) r∧ir (za S X Y n i) p∧v=p+q-r:=by
 have h2:=h.f i (by omega)
 have h3:=h.x i hi
 have h4:=h.y i hi
 have h5:=HI (show i+1≤n from hi) hv
 obtain ⟨p,q,r,h6,h7,h8,h9⟩:=IS (a:=GR S X Y i) (x:=X i) (y:=Y i) h2 h3 h4 (v:=v) (by simp only [GR,dQ,ir] at *; omega)
 refine ⟨p,q,r,h7,h8,?_,h9⟩
 rw [gf hi]
 simp only [dQ,KN,ir] at *
 omega
theorem Vd.TL (h:Vd S X Y n):∀ (i:Nat),i≤n→∀ v,ir (za S X Y n i) v→∃ s x y:Nat→Int,s i=v∧(∀ j,j≤i→ir (za S X Y n j) (s j))∧∀ j,j<i→ir (X j) (x j)∧ir (Y j) (y j)∧s (j+1)=s j+x j-y j
 | 0,_,v,hv=>⟨fun _=>v,fun _=>0,fun _=>0,rfl,fun j h1=>by rw [show j=0 by omega]; exact hv,fun j h1=>by omega⟩
 | i+1,hi,v,hv=>by
  obtain ⟨p,q,r,h1,h2,h3,h4⟩:=h.back (show i<n by omega) hv
  obtain ⟨s,x,y,h5,h6,h7⟩:=h.TL i (by omega) p h3
  refine ⟨fun j=>if j=i+1 then v else s j,fun j=>if j=i then q else x j,fun j=>if j=i then r else y j,by simp,fun j a=>?_,fun j a=>?_⟩
  ·simp only
   split
   ·rename_i e; rw [e]; exact hv
   ·exact h6 j (by omega)
  ·simp only
   by_cases e:j=i
   ·subst e
    rw [if_pos rfl,if_pos rfl,if_pos rfl,if_neg (by omega)]
    exact ⟨h1,h2,by rw [h5]; exact h4⟩
   ·rw [if_neg e,if_neg e,if_neg (by omega),if_neg (by omega)]
    exact h7 j (by omega)
theorem Hi.vd (h:Hi S X Y n s x y):Vd S X Y n:=
 ⟨fun i hi=>by have:=h.ins i hi; simp only [ir,gW] at *; omega,fun i hi=>by have:=h.outs i hi; simp only [ir,gW] at *; omega,fun i hi=>by have:=h.F i hi; simp only [ir,gW] at *; omega⟩
end
theorem Mk (a:Ac):(gG a).cL=true:=by simp [gG,go_sem]
theorem v7 {x:AV} (h:x.one=true):x.cells=[x]:=by cases x <;> simp_all [AV.one,AV.cells]
def Nl (σ τ:St):Prop:=σ.n≤τ.n∧∀ k,k<σ.n→τ.ob k=σ.ob k
theorem yu (σ:St) (id g:Nat) (ty:TypeId) (f x y z:AV) (hob:σ.ob id=some ⟨g,4,ty,false,true,[.agg [f,x,y,z]]⟩) (hx:x.one=true) (hy:y.one=true) (hz:z.one=true) (hid:id<σ.n) :
  HC prog zZ [.ptr id g 4 0 0] σ (fun r τ=>r=.agg [x,y,z]∧Nl σ τ):=by
 obtain ⟨ob,n,c⟩:=σ
 simp only at hob hid
 refine aL A3 (by simp) ?_
 have hn:¬id=n:=by omega
 have cx:=v7 hx
 have cy:=v7 hy
 have cz:=v7 hz
 simp only [qG,go_sem,jF,jG,jH,↓reduceIte,reduceCtorEq,hob,hn]
 try simp (disch:=omega) only [go_sem,jG,hx,hy,hz,cx,cy,cz]
 have one_flat:∀ {x:AV},x.one=true→x.flat=true:=fun {x} h=>by cases x <;> simp_all [AV.one,AV.flat]
 refine ⟨⟨one_flat hx,one_flat hy,one_flat hz⟩,Nat.le_succ _,fun k hk=>?_⟩
 simp only at hk
 have h1:¬k=n:=by omega
 try simp (disch:=omega) only [go_sem,↓reduceIte,h1]
theorem iJ (b c:Bd):PC prog DC [pz b,pz c] (pz (dQ b c)):=by
 refine ae Eg (by simp) ?_
 simp only [vf,go_sem,jF,jG,jH,↓reduceIte,reduceCtorEq,pz]
 exact aw.of_eq rfl (by simp [go_sem])
theorem wg (a:Ac) (hl:a.ins.length≤9223372036854775807) (hs:a.st.length≤9223372036854775807):PC prog yj [gG a] (.int .i64 (ef a)):=by
 refine ae yF (by simp) ?_
 simp only [ph,go_sem,jF,jG,jH,↓reduceIte,gG,aH]
 have e3:∀ {σ:St},(a.ins.length=0∨a.outs.length≠a.ins.length∨a.st.length≠a.ins.length+1)→aw σ (.int .i64 3) (.int .i64 (ef a)):=fun h=>aw.of_eq (by simp only [ef,if_pos h]) rfl
 refine bF rfl (fun h=>?_) (fun h=>?_) <;> try simp (disch:=omega) only [go_sem,jF,jG,jH,↓reduceIte,aH]
 ·exact e3 (.inl (by omega))
 refine iY rfl (fun h2=>?_) (fun h2=>?_) <;> try simp (disch:=omega) only [go_sem,jF,jG,jH,↓reduceIte,aH]
 ·exact e3 (.inr (.inl (by omega)))
 by_cases hnb:a.ins.length=9223372036854775807
 ·have hw:IntKind.i64.wrap ((a.ins.length:Int)+1)=-9223372036854775808:=by rw [hnb]; decide
  try simp (disch:=omega) only [go_sem,↓reduceIte,reduceCtorEq,hw]
  exact e3 (.inr (.inr (by omega)))
 try simp (disch:=omega) only [go_sem,jO]
 refine aZ (fun h3=>?_) (fun h3=>?_) <;> try simp (disch:=omega) only [go_sem,jF,↓reduceIte]
 ·exact e3 (.inr (.inr (by omega)))
 have hf:¬(a.ins.length=0∨a.outs.length≠a.ins.length∨a.st.length≠a.ins.length+1):=by omega
 refine ah (fun h4=>?_) (fun h4=>?_) <;> try simp (disch:=omega) only [go_sem,jF,jH,↓reduceIte]
 ·exact aw.of_eq (by simp only [ef,if_neg hf]; rw [if_pos (by omega)]) rfl
 refine bF rfl (fun h5=>?_) (fun h5=>?_) <;> try simp (disch:=omega) only [go_sem,jF,jH,↓reduceIte,jO]
 ·exact aw.of_eq (by simp only [ef,if_neg hf]; rw [if_neg (by omega),if_pos (.inl h5)]) rfl
 refine ah (fun h6=>?_) (fun h6=>?_) <;> try simp (disch:=omega) only [go_sem,↓reduceIte]
 ·exact aw.of_eq (by simp only [ef,if_neg hf]; rw [if_neg (by omega),if_pos (.inr h6)]) rfl
 exact aw.of_eq (by simp only [ef,if_neg hf]; rw [if_neg (by omega),if_neg (by omega)]) rfl
def Jk (a:Ac) (k:Nat) (l:List Bd):Prop:=(k=0∧l=a.st)∨(k=1∧l=a.ins)∨(k=2∧l=a.outs)
def xE (a:Ac) (k:Nat):Prop:=(1≤k→el a.st=0)∧(2≤k→el a.ins=0)∧(3≤k→el a.outs=0)
theorem Hr (a:Ac) {k:Nat} (h:k<3):∃ l,Jk a k l∧[AV.list 2 (cr a.st),.list 2 (cr a.ins),.list 2 (cr a.outs)][k]?=some (.list 2 (cr l)):=by
 rcases (by omega:k=0∨k=1∨k=2) with rfl | rfl | rfl
 ·exact ⟨_,.inl ⟨rfl,rfl⟩,rfl⟩
 ·exact ⟨_,.inr (.inl ⟨rfl,rfl⟩),rfl⟩
 ·exact ⟨_,.inr (.inr ⟨rfl,rfl⟩),rfl⟩
theorem Av {a:Ac} {k:Nat} {l:List Bd} (hg:xE a k) (hn:Jk a k l) (h:el l=0):xE a (k+1):=by
 unfold xE at *
 rcases hn with ⟨rfl,rfl⟩ | ⟨rfl,rfl⟩ | ⟨rfl,rfl⟩
 ·exact ⟨fun _=>h,fun h=>by omega,fun h=>by omega⟩
 ·exact ⟨fun _=>hg.1 (by omega),fun _=>h,fun h=>by omega⟩
 ·exact ⟨fun _=>hg.1 (by omega),fun _=>hg.2.1 (by omega),fun _=>h⟩
theorem HH {a:Ac} {k:Nat} {l:List Bd} (hf:ef a=0) (hg:xE a k) (hn:Jk a k l) {j:Nat} {b:Bd} (hj:l[j]?=some b) (ht:∀ x∈l.take j,eb x=0) (hb:eb b≠0):Gb a=eb b:=by
 have h:el l=eb b:=by rw [L6 hj ht,if_neg hb]
 unfold xE at hg
 unfold Gb
 rw [if_neg (by simp [hf])]
 rcases hn with ⟨rfl,rfl⟩ | ⟨rfl,rfl⟩ | ⟨rfl,rfl⟩
 ·rw [if_pos (by rw [h]; exact hb),h]
 ·rw [if_neg (by simp [hg.1 (by omega)]),if_pos (by rw [h]; exact hb),h]
 ·rw [if_neg (by simp [hg.1 (by omega)]),if_neg (by simp [hg.2.1 (by omega)]),h]
theorem FD {a:Ac} (hf:ef a=0) (hg:xE a 3):Gb a=0:=by
 unfold Gb
 rw [if_neg (by simp [hf]),if_neg (by simp [hg.1 (by omega)]),if_neg (by simp [hg.2.1 (by omega)]),hg.2.2 (by omega)]
theorem JR {l:List Bd} (h:∀ x∈l,eb x=0):el l=0:=y8.2 fun b hb=>DW.1 (h b hb)
theorem rL {l:List Bd} {j:Nat} {b:Bd} (hj:l[j]?=some b) (h:∀ x∈l.take j,eb x=0) (hb:eb b=0):∀ x∈l.take (j+1),eb x=0:=by
 intro x hx
 rw [List.take_add_one,hj] at hx
 simp only [Option.toList,List.mem_append,List.mem_singleton] at hx
 rcases hx with hx | rfl
 ·exact h x hx
 ·exact hb
def IF (a:Ac):Prop:=a.st.length≤9223372036854775807∧a.ins.length≤9223372036854775807∧a.outs.length≤9223372036854775807
theorem IF.nth {a:Ac} (h:IF a) {k:Nat} {l:List Bd} (hn:Jk a k l):l.length≤9223372036854775807:=by
 rcases hn with ⟨_,rfl⟩ | ⟨_,rfl⟩ | ⟨_,rfl⟩
 ·exact h.1
 ·exact h.2.1
 ·exact h.2.2
theorem pV (a:Ac) (hl:IF a):PC prog BA [gG a] (.int .i64 (Gb a)):=by
 refine ae BW (by simp) ?_
 simp only [sv,go_sem,jF,jG,jH,↓reduceIte,gG]
 refine ab (wg a hl.2.1 hl.1) (by simp [go_sem]) ?_
 try simp (disch:=omega) only [go_sem,↓reduceIte]
 refine aZ (fun h=>?_) (fun h=>?_) <;> try simp (disch:=omega) only [go_sem,jF,jG,jH,↓reduceIte]
 ·exact aw.of_eq (by simp only [Gb]; rw [if_pos h]) rfl
 refine bw [2,5,7,21,22,23,24,25,26,27,28,29,30,31,32,33,34,35,36,37,38,39,40,41,42,43,44,45] (by kernel_rfl) 3 (fun k e σ=>e 21=.int .i64 k∧xE a k) ?_ ?_
 ·exact ⟨(by first | rfl | (simp (disch:=omega) only [go_sem,jA,jB,jC,jD,jE,jF,jG,jH,jI,jJ,↓reduceIte,reduceCtorEq,jP,jO,jM,jN]; try rfl)),fun h=>by omega,fun h=>by omega,fun h=>by omega⟩
 ·rintro k fe ob c hk ⟨h21,hg⟩
  simp (maxSteps:=1000000) only [go_sem,jF,↓reduceIte] at h21
  try simp (disch:=omega) only [go_sem,jF,↓reduceIte,h21]
  refine ah (fun hlt=>?_) (fun hge=>?_)
  ·have hk3:k<3:=by omega
   obtain ⟨l,hn,hk2⟩:=Hr a hk3
   try simp (disch:=omega) only [go_sem,jF,jG,jH,↓reduceIte,hk2,aH]
   refine ⟨by omega,by omega,?_⟩
   have hll:=hl.nth hn
   refine bw [2,7,27,28,29,30,31,32,33,34,35,36,37,38,39,40,41,42,43,44] (by kernel_rfl) l.length (fun j e σ=>e 27=.int .i64 j∧∀ x∈l.take j,eb x=0) ?_ ?_
   ·exact ⟨(by first | rfl | (simp (disch:=omega) only [go_sem,jA,jB,jC,jD,jE,jF,jG,jH,jI,jJ,↓reduceIte,reduceCtorEq,jP,jO,jM,jN]; try rfl)),by simp⟩
   ·rintro j fe2 ob2 c2 hj ⟨h27,ht⟩
    simp (maxSteps:=1000000) only [go_sem,jF,↓reduceIte] at h27
    try simp (disch:=omega) only [go_sem,jF,↓reduceIte,h27]
    refine ah (fun hlt=>?_) (fun hge=>?_)
    ·have hjl:j<l.length:=by omega
     have hj2:l[j]?=some l[j]:=List.getElem?_eq_getElem hjl
     generalize l[j]=b at *
     try simp (disch:=omega) only [go_sem,jF,jG,jH,↓reduceIte,hj2,dV,aH,Option.map_some,pz]
     refine ⟨by omega,by omega,?_⟩
     have hbad:=HH h hg hn hj2 ht
     refine bF rfl (fun g1=>?_) (fun g1=>?_) <;> try simp (disch:=omega) only [go_sem,jF,jG,jH,↓reduceIte]
     ·have e:eb b=1:=by unfold eb; rw [if_pos (.inl g1)]
      exact aw.of_eq (by rw [hbad (by omega),e]) rfl
     refine ah (fun g2=>?_) (fun g2=>?_) <;> try simp (disch:=omega) only [go_sem,jF,jG,jH,↓reduceIte]
     ·have e:eb b=1:=by unfold eb F7; rw [if_pos (.inr g2)]
      exact aw.of_eq (by rw [hbad (by omega),e]) rfl
     refine ah (fun g3=>?_) (fun g3=>?_) <;> try simp (disch:=omega) only [go_sem,jF,↓reduceIte,jO]
     ·have e:eb b=48:=by unfold eb F7; rw [if_neg (by omega),if_pos g3]
      exact aw.of_eq (by rw [hbad (by omega),e]) rfl
     try simp (disch:=omega) only [go_sem,jA,jB,jC,jD,jE,jF,jG,jH,jI,jJ,↓reduceIte,reduceCtorEq,jO,jM,jN,jK,jL,h27]
     refine bl hjl ⟨(by first | rfl | (simp (disch:=omega) only [go_sem,jA,jB,jC,jD,jE,jF,jG,jH,jI,jJ,↓reduceIte,reduceCtorEq,jP,jO,jM,jN]; try rfl)),rL hj2 ht ?_⟩
     unfold eb F7; rw [if_neg (by omega),if_neg (by omega)]
    ·try simp (disch:=omega) only [go_sem,jF,↓reduceIte,jO]
     have:j=l.length:=by omega
     subst this
     rw [List.take_length] at ht
     exact bl hk3 ⟨(by first | rfl | (simp (disch:=omega) only [go_sem,jA,jB,jC,jD,jE,jF,jG,jH,jI,jJ,↓reduceIte,reduceCtorEq,jP,jO,jM,jN]; try rfl)),Av hg hn (JR ht)⟩
  ·try simp (disch:=omega) only [go_sem,↓reduceIte]
   have:k=3:=by omega
   subst this
   exact aw.of_eq (by rw [FD h hg]) rfl
theorem LG (a:Ac) {k:Nat} (h:k<3):∃ l,Jk a k l∧([.list 2 (cr a.st),.list 2 (cr a.ins),.list 2 (cr a.outs)]:List AV).getD (k * 1) .bC=.list 2 (cr l):=by
 obtain ⟨l,h1,h2⟩:=Hr a h
 exact ⟨l,h1,by rw [Nat.mul_one,List.getD_eq_getElem?_getD,h2]; rfl⟩
theorem x6 (a:Ac) (hl:IF a):PC prog z8 [gG a] (.int .i64 (Gb a)):=by
 have l1:=hl.1
 have l2:=hl.2.1
 have l3:=hl.2.2
 refine ae A4 (by simp) ?_
 simp only [qH,go_sem,jF,jG,jH,↓reduceIte,gG,aH]
 have e3:∀ {σ:St},(a.ins.length=0∨a.outs.length≠a.ins.length∨a.st.length≠a.ins.length+1)→aw σ (.int .i64 3) (.int .i64 (Gb a)):=fun h=>aw.of_eq (by
  have:ef a=3:=by simp only [ef,if_pos h]
  simp [Gb,this]) rfl
 have ee:∀ {σ:St} {e:Int},ef a=e→e≠0→aw σ (.int .i64 e) (.int .i64 (Gb a)):=fun {σ e} h h0=>aw.of_eq (by
  unfold Gb
  rw [if_pos (by omega),h]) rfl
 refine bF rfl (fun h=>?_) (fun h=>?_) <;> try simp (disch:=omega) only [go_sem,jF,jG,jH,↓reduceIte,aH]
 ·exact e3 (.inl (by omega))
 refine iY rfl (fun h2=>?_) (fun h2=>?_) <;> try simp (disch:=omega) only [go_sem,jF,jG,jH,↓reduceIte,aH]
 ·exact e3 (.inr (.inl (by omega)))
 by_cases hnb:a.ins.length=9223372036854775807
 ·have hw:IntKind.i64.wrap ((a.ins.length:Int)+1)=-9223372036854775808:=by rw [hnb]; decide
  try simp (disch:=omega) only [go_sem,↓reduceIte,reduceCtorEq,hw]
  exact e3 (.inr (.inr (by omega)))
 try simp (disch:=omega) only [go_sem,jO]
 refine aZ (fun h3=>?_) (fun h3=>?_) <;> try simp (disch:=omega) only [go_sem,jF,↓reduceIte]
 ·exact e3 (.inr (.inr (by omega)))
 have hf0:¬(a.ins.length=0∨a.outs.length≠a.ins.length∨a.st.length≠a.ins.length+1):=by omega
 refine ah (fun h4=>?_) (fun h4=>?_) <;> try simp (disch:=omega) only [go_sem,jF,jH,↓reduceIte]
 ·exact ee (by simp only [ef,if_neg hf0]; rw [if_pos (by omega)]) (by omega)
 refine bF rfl (fun h5=>?_) (fun h5=>?_) <;> try simp (disch:=omega) only [go_sem,jF,jH,↓reduceIte,jO]
 ·exact ee (by simp only [ef,if_neg hf0]; rw [if_neg (by omega),if_pos (.inl h5)]) (by omega)
 refine ah (fun h6=>?_) (fun h6=>?_) <;> try simp (disch:=omega) only [go_sem,jF,↓reduceIte]
 ·exact ee (by simp only [ef,if_neg hf0]; rw [if_neg (by omega),if_pos (.inr h6)]) (by omega)
 have h:ef a=0:=by simp only [ef,if_neg hf0]; rw [if_neg (by omega),if_neg (by omega)]
 refine (yu _ 0 _ _ _ _ _ _ rfl rfl rfl rfl (by simp [go_sem])).mono ?_
 rintro _ τ ⟨rfl,hn0,hτ⟩
 obtain ⟨ob,m,cc⟩:=τ
 try simp (disch:=omega) only [go_sem]
 refine bw [2,5,7,44,45,46,47,48,49,50,51,52,53,54,55,56,57,58,59,60,61,62,63,64,65,66,67] (by kernel_rfl) 3 (fun k e σ=>e 44=.int .i64 k∧xE a k) ?_ ?_
 ·exact ⟨(by first | rfl | (simp (disch:=omega) only [go_sem,jA,jB,jC,jD,jE,jF,jG,jH,jI,jJ,↓reduceIte,reduceCtorEq,jP,jO,jM,jN]; try rfl)),fun h=>by omega,fun h=>by omega,fun h=>by omega⟩
 ·rintro k fe ob c hk ⟨h21,hg⟩
  simp (maxSteps:=1000000) only [go_sem,jF,↓reduceIte] at h21
  try simp (disch:=omega) only [go_sem,jF,↓reduceIte,h21]
  refine ah (fun hlt=>?_) (fun hge=>?_)
  ·have hk3:k<3:=by omega
   obtain ⟨l,hn,hk2⟩:=LG a hk3
   try simp (disch:=omega) only [go_sem,jF,jG,↓reduceIte,hk2,aH]
   refine ⟨by omega,by omega,by omega,?_⟩
   have hll:=hl.nth hn
   refine bw [2,7,49,50,51,52,53,54,55,56,57,58,59,60,61,62,63,64,65,66] (by kernel_rfl) l.length (fun j e σ=>e 49=.int .i64 j∧∀ x∈l.take j,eb x=0) ?_ ?_
   ·exact ⟨(by first | rfl | (simp (disch:=omega) only [go_sem,jA,jB,jC,jD,jE,jF,jG,jH,jI,jJ,↓reduceIte,reduceCtorEq,jP,jO,jM,jN]; try rfl)),by simp⟩
   ·rintro j fe2 ob2 c2 hj ⟨h27,ht⟩
    simp (maxSteps:=1000000) only [go_sem,jF,↓reduceIte] at h27
    try simp (disch:=omega) only [go_sem,jF,↓reduceIte,h27]
    refine ah (fun hlt=>?_) (fun hge=>?_)
    ·have hjl:j<l.length:=by omega
     have hj2:l[j]?=some l[j]:=List.getElem?_eq_getElem hjl
     generalize l[j]=b at *
     try simp (disch:=omega) only [go_sem,jF,jG,jH,↓reduceIte,hj2,dV,aH,Option.map_some,pz]
     refine ⟨by omega,by omega,?_⟩
     have hbad:=HH h hg hn hj2 ht
     refine bF rfl (fun g1=>?_) (fun g1=>?_) <;> try simp (disch:=omega) only [go_sem,jF,jG,jH,↓reduceIte]
     ·have e:eb b=1:=by unfold eb; rw [if_pos (.inl g1)]
      exact aw.of_eq (by rw [hbad (by omega),e]) rfl
     refine ah (fun g2=>?_) (fun g2=>?_) <;> try simp (disch:=omega) only [go_sem,jF,jG,jH,↓reduceIte]
     ·have e:eb b=1:=by unfold eb F7; rw [if_pos (.inr g2)]
      exact aw.of_eq (by rw [hbad (by omega),e]) rfl
     refine ah (fun g3=>?_) (fun g3=>?_) <;> try simp (disch:=omega) only [go_sem,jF,↓reduceIte,jO]
     ·have e:eb b=48:=by unfold eb F7; rw [if_neg (by omega),if_pos g3]
      exact aw.of_eq (by rw [hbad (by omega),e]) rfl
     try simp (disch:=omega) only [go_sem,jA,jB,jC,jD,jE,jF,jG,jH,jI,jJ,↓reduceIte,reduceCtorEq,jO,jM,jN,jK,jL,h27]
     refine bl hjl ⟨(by first | rfl | (simp (disch:=omega) only [go_sem,jA,jB,jC,jD,jE,jF,jG,jH,jI,jJ,↓reduceIte,reduceCtorEq,jP,jO,jM,jN]; try rfl)),rL hj2 ht ?_⟩
     unfold eb F7; rw [if_neg (by omega),if_neg (by omega)]
    ·try simp (disch:=omega) only [go_sem,jF,↓reduceIte,jO]
     have:j=l.length:=by omega
     subst this
     rw [List.take_length] at ht
     exact bl hk3 ⟨(by first | rfl | (simp (disch:=omega) only [go_sem,jA,jB,jC,jD,jE,jF,jG,jH,jI,jJ,↓reduceIte,reduceCtorEq,jP,jO,jM,jN]; try rfl)),Av hg hn (JR ht)⟩
  ·try simp (disch:=omega) only [go_sem,↓reduceIte]
   have:k=3:=by omega
   subst this
   exact aw.of_eq (by rw [FD h hg]) rfl
def vN (n:Nat) (f:Nat→Bd):List Bd:=(List.range n).map f
theorem bj (n:Nat) (f:Nat→Bd):(vN n f).length=n:=by simp [vN]
theorem uI {n i:Nat} (f:Nat→Bd) (h:i<n):(vN n f)[i]?=some (f i):=by simp [vN,h]
theorem yU {n i:Nat} (f g:Nat→Bd) (b:Bd) (hi:i<n) (hg:g i=b) (ho:∀ j,j<n→j≠i→g j=f j):(vN n f).set i b=vN n g:=by
 apply List.ext_getElem?
 intro j
 rw [List.getElem?_set]
 by_cases e:i=j
 ·subst e
  rw [if_pos rfl,bj,if_pos hi,uI g hi,hg]
 ·rw [if_neg e]
  by_cases hj:j<n
  ·rw [uI f hj,uI g hj,ho j hj (Ne.symm e)]
  ·rw [List.getElem?_eq_none (by rw [bj]; omega),List.getElem?_eq_none (by rw [bj]; omega)]
theorem l8 {n:Nat} {f g:Nat→Bd} (h:∀ j,j<n→f j=g j):vN n f=vN n g:=by
 apply List.map_congr_left
 intro j hj
 exact h j (List.mem_range.1 hj)
theorem Ag (L:List Bd):vN L.length (fun i=>L.getD i default)=L:=by
 apply List.ext_getElem?
 intro j
 by_cases hj:j<L.length
 ·rw [uI _ hj,List.getD_eq_getElem?_getD,List.getElem?_eq_getElem hj]; rfl
 ·rw [List.getElem?_eq_none (by rw [bj]; omega),List.getElem?_eq_none (by omega)]
def gB (L:List Bd) (i:Nat):Bd:=L.getD i default
theorem cQ {L:List Bd} {i:Nat} (h:i<L.length):L[i]?=some (gB L i):=by rw [gB,List.getD_eq_getElem?_getD,List.getElem?_eq_getElem h]; rfl
theorem Hx {n i:Nat} (f:Nat→Bd) (h:i<n):gB (vN n f) i=f i:=by rw [gB,List.getD_eq_getElem?_getD,uI f h]; rfl
theorem fG.val {b:Bd} (h:fG b):gW b:=h.2.1
theorem Fc {b c:Bd} (hb:fG b) (h:gW (dQ b c)):fG (dQ b c):=by
 simp only [fG,gW,dQ] at *
 omega
section
variable {S X Y : List Bd} {n : Nat}
structure vM (S X Y:List Bd) (n:Nat):Prop where
 s:S.length=n+1
 x:X.length=n
 y:Y.length=n
 fs:∀ b∈S,fG b
 fx:∀ b∈X,fG b
 fy:∀ b∈Y,fG b
theorem vM.gs (h:vM S X Y n) {i:Nat} (hi:i≤n):fG (gB S i):=h.fs _ (List.mem_of_getElem? (cQ (by rw [h.s]; omega)))
theorem vM.gx (h:vM S X Y n) {i:Nat} (hi:i<n):fG (gB X i):=h.fx _ (List.mem_of_getElem? (cQ (by rw [h.x]; omega)))
theorem vM.gy (h:vM S X Y n) {i:Nat} (hi:i<n):fG (gB Y i):=h.fy _ (List.mem_of_getElem? (cQ (by rw [h.y]; omega)))
def cF (S X Y:List Bd) (i:Nat):Bd:=GR (gB S) (gB X) (gB Y) i
def cB (S X Y:List Bd) (n i:Nat):Bd:=za (gB S) (gB X) (gB Y) n i
def cX (S X Y:List Bd) (n i:Nat):Bd:=Vc (gB S) (gB X) (gB Y) n i
def cY (S X Y:List Bd) (n i:Nat):Bd:=Vb (gB S) (gB X) (gB Y) n i
def VD (S X Y:List Bd) (n:Nat):Prop:=∀ i,i≤n→gW (cF S X Y i)
theorem vM.vd (h:vM S X Y n) (hv:VD S X Y n):Vd (gB S) (gB X) (gB Y) n:=⟨fun i hi=>(h.gx hi).val,fun i hi=>(h.gy hi).val,hv⟩
theorem D9 (h:vM S X Y n):∀ {i:Nat},i≤n→gW (cF S X Y i)→fG (cF S X Y i)
 | 0,hi,_=>h.gs hi
 | _+1,hi,hv=>Fc (h.gs hi) hv
theorem AO (h:vM S X Y n) (hv:VD S X Y n) {i:Nat} (hi:i≤n):fG (cB S X Y n i):=by
 have h1:=(h.vd hv).B hi
 by_cases e:i=n
 ·subst e; unfold cB; rw [uY]; exact D9 h (Nat.le_refl _) (hv _ (Nat.le_refl _))
 ·unfold cB; rw [gf (by omega)] at h1 ⊢; exact Fc (D9 h hi (hv i hi)) h1
def EF (S X Y:List Bd) (n k:Nat):List Bd:=vN (n+1) fun j=>if j≤k then cF S X Y j else gB S j
def HN (S X Y:List Bd) (n k:Nat):List Bd:=vN (n+1) fun j=>if n-k≤j then cB S X Y n j else cF S X Y j
def IG (S X Y:List Bd) (n k:Nat):List Bd:=vN n fun j=>if j<k then cX S X Y n j else gB X j
def KO (S X Y:List Bd) (n k:Nat):List Bd:=vN n fun j=>if j<k then cY S X Y n j else gB Y j
theorem Kf (h:vM S X Y n):EF S X Y n 0=S:=by
 refine Eq.trans (l8 (g:=fun i=>S.getD i default) fun j _=>?_) (by have:=Ag S; rwa [h.s] at this)
 split
 ·rename_i e; obtain rfl:j=0:=by omega
  rfl
 ·rfl
theorem Mg:EF S X Y n n=vN (n+1) (cF S X Y):=l8 fun j hj=>by rw [if_pos (by omega)]
theorem Kh:HN S X Y n 0=vN (n+1) (cF S X Y):=l8 fun j hj=>by
 split
 ·rename_i e; obtain rfl:j=n:=by omega
  exact uY
 ·rfl
theorem Mh:HN S X Y n n=vN (n+1) (cB S X Y n):=l8 fun j hj=>by rw [if_pos (by omega)]
theorem Kd (h:vM S X Y n):IG S X Y n 0=X:=by
 refine Eq.trans (l8 (g:=fun i=>X.getD i default) fun j _=>?_) (by have:=Ag X; rwa [h.x] at this)
 rw [if_neg (by omega)]; rfl
theorem Kb (h:vM S X Y n):KO S X Y n 0=Y:=by
 refine Eq.trans (l8 (g:=fun i=>Y.getD i default) fun j _=>?_) (by have:=Ag Y; rwa [h.y] at this)
 rw [if_neg (by omega)]; rfl
theorem HL:IG S X Y n n=vN n (cX S X Y n):=l8 fun j hj=>by rw [if_pos (by omega)]
theorem HK:KO S X Y n n=vN n (cY S X Y n):=l8 fun j hj=>by rw [if_pos (by omega)]
theorem Kg {k:Nat} (hk:k<n):(EF S X Y n k).set (k+1) (cF S X Y (k+1))=EF S X Y n (k+1):=
 yU _ _ _ (by omega) (by rw [if_pos (by omega)]) fun j _ hj=>by
  by_cases e:j≤k
  ·rw [if_pos e,if_pos (by omega)]
  ·rw [if_neg e,if_neg (by omega)]
theorem Ki {k:Nat} (hk:k<n):(HN S X Y n k).set (n-(k+1)) (cB S X Y n (n-(k+1)))=HN S X Y n (k+1):=
 yU _ _ _ (by omega) (by rw [if_pos (by omega)]) fun j _ hj=>by
  by_cases e:n-k≤j
  ·rw [if_pos e,if_pos (by omega)]
  ·rw [if_neg e,if_neg (by omega)]
theorem Ke {k:Nat} (hk:k<n):(IG S X Y n k).set k (cX S X Y n k)=IG S X Y n (k+1):=
 yU _ _ _ hk (by rw [if_pos (by omega)]) fun j _ hj=>by
  by_cases e:j<k
  ·rw [if_pos e,if_pos (by omega)]
  ·rw [if_neg e,if_neg (by omega)]
theorem Kc {k:Nat} (hk:k<n):(KO S X Y n k).set k (cY S X Y n k)=KO S X Y n (k+1):=
 yU _ _ _ hk (by rw [if_pos (by omega)]) fun j _ hj=>by
  by_cases e:j<k
  ·rw [if_pos e,if_pos (by omega)]
  ·rw [if_neg e,if_neg (by omega)]
theorem Et {k j:Nat} (hj:j≤n):gB (EF S X Y n k) j=if j≤k then cF S X Y j else gB S j:=Hx _ (by omega)
theorem HM {k j:Nat} (hj:j≤n):gB (HN S X Y n k) j=if n-k≤j then cB S X Y n j else cF S X Y j:=Hx _ (by omega)
end
def jX (a:Ac):Ac:=⟨a.fr,vN (a.ins.length+1) (cB a.st a.ins a.outs a.ins.length),vN a.ins.length (cX a.st a.ins a.outs a.ins.length),vN a.ins.length (cY a.st a.ins a.outs a.ins.length)⟩
theorem ke.lens {a:Ac} (h:ke a):vM a.st a.ins a.outs a.ins.length:=⟨h.ns,rfl,h.no,h.bs,h.bi,h.bo⟩
def RN:Ac:=⟨0,[],[],[]⟩
def SH (S X Y:List Bd) (n:Nat):Bool:=(List.range (n+1)).all fun i=>decide ((cF S X Y i).lo≤(cF S X Y i).hi)
theorem C5 {S X Y:List Bd} {n:Nat}:SH S X Y n=true↔VD S X Y n:=by
 simp only [SH,List.all_eq_true,List.mem_range,decide_eq_true_eq,VD,gW]
 exact ⟨fun h i hi=>h i (by omega),fun h i hi=>h i (by omega)⟩
def dG (a:Ac):Ac × Int:=if Gb a≠0 then (RN,Gb a) else if SH a.st a.ins a.outs a.ins.length then (jX a,0) else (RN,48)
structure Ve (τ:St) (o1 o2 o3:Nat × Nat) (t1 t2 t3:TypeId) (L1 L2 L3:List Bd):Prop where
 h1:τ.ob o1.1=some ⟨o1.2,2,t1,false,true,cr L1⟩
 h2:τ.ob o2.1=some ⟨o2.2,2,t2,false,true,cr L2⟩
 h3:τ.ob o3.1=some ⟨o3.2,2,t3,false,true,cr L3⟩
 TC:o1.1≠o2.1
 TB:o1.1≠o3.1
 SM:o2.1≠o3.1
 l1:o1.1<τ.n
 l2:o2.1<τ.n
 l3:o3.1<τ.n
def Iy (f:Int) (o1 o2 o3:Nat × Nat) (a b c:Nat):AV:=.agg [.int .i64 f,.sl o1.1 o1.2 2 0 a,.sl o2.1 o2.2 2 0 b,.sl o3.1 o3.2 2 0 c]
theorem fu {b:Bd} (h:fG b):0≤b.lo∧b.lo≤b.hi∧b.hi≤274877906944:=h
def Twin (σ:St) (a:Ac) (t:TypeId) (r:AV) (τ:St):Prop:=∃ o1 o2 o3,r=Iy a.fr o1 o2 o3 a.st.length a.ins.length a.outs.length∧Ve τ o1 o2 o3 t t t a.st a.ins a.outs∧σ.n≤o1.1∧σ.n≤o2.1∧σ.n≤o3.1∧Nl σ τ
theorem Dh {σ:St} {id g k:Nat} {ty:TypeId} {ro ap:Bool} {L:List Bd} (h:σ.ob id=some ⟨g,2,ty,ro,ap,cr L⟩) (hk:k=L.length):aw σ (.sl id g 2 0 k) (.list 2 (cr L)):=by
 subst hk
 rw [←aH]
 exact aw.dv h rfl (mn L) (qM L)
theorem Nl.refl (σ:St):Nl σ σ:=⟨Nat.le_refl _,fun _ _=>rfl⟩
theorem Nl.trans {σ τ ρ:St} (h:Nl σ τ) (k:Nl τ ρ):Nl σ ρ:=⟨Nat.le_trans h.1 k.1,fun i hi=>(k.2 i (Nat.lt_of_lt_of_le hi h.1)).trans (h.2 i hi)⟩
theorem JI {L:List Bd} (h:∀ b∈L,fG b) {i:Nat} (hi:i<L.length):fG (gB L i):=h _ (List.mem_of_getElem? (cQ hi))
theorem Hv {b:Bd} {v:Int} (hb:fG b) (h:ir b v):0≤v∧v≤274877906944:=by
 simp only [fG,ir,F7] at *; omega
theorem J5 (l:List Bd) (b:Bd):cr (l++[b])=cr l++[.agg [.int .i64 b.lo,.int .i64 b.hi]]:=by simp [cr,pz]
theorem se (σ:St) (a:Ac) (h1:a.st.length≤4611686018427) (h2:a.ins.length≤4611686018427) (h3:a.outs.length≤4611686018427) (e1:a.st≠[]) (e2:a.ins≠[]) (e3:a.outs≠[]):HC prog uA [gG a] σ (Twin σ a 24):=by
 obtain ⟨ob,n,c⟩:=σ
 refine aL vD (by simp) ?_
 simp only [vh,go_sem,jF,jG,jH,↓reduceIte,gG]
 have b1:cr a.st≠[]:=by simpa [cr] using e1
 have b2:cr a.ins≠[]:=by simpa [cr] using e2
 have b3:cr a.outs≠[]:=by simpa [cr] using e3
 have l1:(cr a.st).length=a.st.length:=aH _
 have l2:(cr a.ins).length=a.ins.length:=aH _
 have l3:(cr a.outs).length=a.outs.length:=aH _
 try simp (disch:=omega) only [go_sem,jM]
 refine ⟨fun _ _ h=>(by cases h; rfl),fun _ _ _ _ _ h=>(by rcases h with h | ⟨_,h⟩ <;> cases h),by rw [n4]; omega,by omega,fun h=>absurd h b1,fun _=>?_⟩
 try simp (disch:=omega) only [go_sem,jF,jG,jH,↓reduceIte,jM]
 refine ⟨fun _ _ h=>(by cases h; rfl),fun _ _ _ _ _ h=>(by rcases h with h | ⟨_,h⟩ <;> cases h),by rw [n4]; omega,by omega,fun h=>absurd h b2,fun _=>?_⟩
 try simp (disch:=omega) only [go_sem,jF,jG,jH,↓reduceIte,jM]
 refine ⟨fun _ _ h=>(by cases h; rfl),fun _ _ _ _ _ h=>(by rcases h with h | ⟨_,h⟩ <;> cases h),by rw [n4]; omega,by omega,fun h=>absurd h b3,fun _=>?_⟩
 try simp (disch:=omega) only [go_sem,jF,jG,jH,↓reduceIte,jM]
 refine ⟨(n+1+1,c+1+1),(n+1+1+1,c+1+1+1),(n+1+1+1+1,c+1+1+1+1),?_⟩
 have d1:¬n+1+1=n:=by omega
 have d2:¬n+1+1+1=n:=by omega
 have d3:¬n+1+1+1+1=n:=by omega
 refine ⟨by simp only [Iy,l1,l2,l3],⟨by simp [bd,d1],by simp [bd,d1,d2],by simp [bd,d2,d3],by simp only; omega,by simp only; omega,by simp only; omega,by simp only; omega,by simp only; omega,by simp only; omega⟩,by simp only; omega,by simp only; omega,by simp only; omega,by simp only; omega,fun k hk=>?_⟩
 simp only at hk
 have y0:¬k=n:=by omega
 have y1:¬k=n+1:=by omega
 have y2:¬k=n+1+1:=by omega
 have y3:¬k=n+1+1+1:=by omega
 have y4:¬k=n+1+1+1+1:=by omega
 try simp (disch:=omega) only [go_sem,↓reduceIte,y0,y1,y2,y3,y4]
theorem ze (L:List Bd) (i:Nat) (b:Bd):(cr L).set i (pz b)=cr (L.set i b):=by simp [cr,List.map_set]
theorem wh (a:Ac) (hl:IF a):PC prog yk [gG a] (.tuple [gG (dG a).1,.int .i64 (dG a).2]):=by
 have no:∀ {σ:St} {e:Int},dG a=(RN,e)→aw σ (.tuple [.agg [.int .i64 0,.nil,.nil,.nil],.int .i64 e]) (.tuple [gG (dG a).1,.int .i64 (dG a).2]):=by
  intro σ e h
  rw [h]
  exact aw.pair (aw.ag (.cons (.pure rfl) (.cons (.nl 2) (.cons (.nl 2) (.cons (.nl 2) .nil))))) (.pure rfl)
 refine ae yG (by simp) ?_
 simp only [pj,go_sem,jF,jG,jH,↓reduceIte,reduceCtorEq,gG]
 refine ab (pV a hl) (by simp [go_sem]) ?_
 try simp (disch:=omega) only [go_sem,↓reduceIte]
 refine aZ (fun h=>?_) (fun h=>?_) <;> try simp (disch:=omega) only [go_sem,jF,jG,jH,↓reduceIte,reduceCtorEq]
 ·exact no (by simp only [dG,if_pos h])
 have hok:=D7.1 h
 have hlen:=hok.lens
 obtain ⟨n,hn⟩:∃ n,a.ins.length=n:=⟨_,rfl⟩
 rw [hn] at hlen
 have hn4:1≤n∧n≤400:=by have:=hok.n1; have:=hok.n2; omega
 have htS:dG a=if SH a.st a.ins a.outs n then (jX a,0) else (RN,48):=by simp only [dG]; rw [if_neg (by simp [h]),hn]
 have hLs:=hlen.s
 have hLy:=hlen.y
 have nz:∀ {L:List Bd},1≤L.length→L≠[]:=fun h e=>by subst e; simp at h
 refine (se _ a (by omega) (by omega) (by omega) (nz (by omega)) (nz (by omega)) (nz (by omega))).mono ?_
 rintro _ τ ⟨o1,o2,o3,rfl,hO,g1,g2,g3,hA⟩
 obtain ⟨ob,m,c⟩:=τ
 have hm:2≤m:=by have:=hA.1; simpa [go_sem] using this
 have w0:=hA.2 0 (by simp [go_sem])
 have w1:=hA.2 1 (by simp [go_sem])
 simp (maxSteps:=1000000) only [go_sem,↓reduceIte,reduceCtorEq] at w0 w1 g1 g2 g3
 have l1:=hO.l1
 have l2:=hO.l2
 have l3:=hO.l3
 have TC:=hO.TC
 have TB:=hO.TB
 have SM:=hO.SM
 have p1:=hO.h1
 have p2:=hO.h2
 have p3:=hO.h3
 simp only at l1 l2 l3 p1 p2 p3
 have hm0:0<m:=by omega
 have z0:¬0=m:=by omega
 have z1:¬1=m:=by omega
 have x1:¬o1.1=m:=by omega
 have x2:¬o2.1=m:=by omega
 have x3:¬o3.1=m:=by omega
 have y0:¬0=o1.1:=by omega
 have y1:¬1=o1.1:=by omega
 have ym:¬m=o1.1:=by omega
 have y2:¬o2.1=o1.1:=by omega
 have y3:¬o3.1=o1.1:=by omega
 try simp (disch:=omega) only [go_sem,jF,jG,jH,↓reduceIte,jM,Iy,w0,aH,hn]
 refine bw [3,7,23,24,25,26,27,28,29,30,31,32,33,34,35,36,37,38,39,40,41,42,43,44,45,46,47,48,49,50,51,52,53,54,55,56,57,58,59,60,61,62,63,64,65,66,67,68,69,70,71,72,73,74,75,76,77,78,79,80,81,82,83,84,85,86,87,88,89] (by kernel_rfl) n (fun k e σ=>e 23=.int .i64 k∧σ.ob 0=some ⟨0,4,88,false,true,[.agg [.int .i64 a.fr,.list 2 (cr a.st),.list 2 (cr a.ins),.list 2 (cr a.outs)]]⟩∧σ.ob 1=some ⟨1,4,88,false,true,[.agg [.int .i64 0,.nil,.nil,.nil]]⟩∧
  σ.ob m=some ⟨c,4,88,false,true,[Iy a.fr o1 o2 o3 (n+1) n n]⟩∧σ.ob o1.1=some ⟨o1.2,2,24,false,true,cr (EF a.st a.ins a.outs n k)⟩∧σ.ob o2.1=some ⟨o2.2,2,24,false,true,cr a.ins⟩∧σ.ob o3.1=some ⟨o3.2,2,24,false,true,cr a.outs⟩∧
  ∀ i,i≤k→gW (cF a.st a.ins a.outs i)) ?_ ?_
 ·refine ⟨(by first | rfl | (simp (disch:=omega) only [go_sem,jA,jB,jC,jD,jE,jF,jG,jH,jI,jJ,↓reduceIte,reduceCtorEq,jP,jO,jM,jN]; try rfl)),by try simp (disch:=omega) only [go_sem,↓reduceIte,z0]; exact w0,by try simp (disch:=omega) only [go_sem,↓reduceIte,z1]; exact w1,by simp [bd,Iy,hLs,hLy],by try simp (disch:=omega) only [go_sem,↓reduceIte,x1,Kf hlen]; exact p1,by try simp (disch:=omega) only [go_sem,↓reduceIte,x2]; exact p2,by try simp (disch:=omega) only [go_sem,↓reduceIte,x3]; exact p3,fun i hi=>?_⟩
  obtain rfl:i=0:=by omega
  exact (hlen.gs (Nat.zero_le _)).val
 rintro k fe ob2 c2 hk ⟨h23,v0,v1,vm,q1,q2,q3,hv⟩
 simp (maxSteps:=1000000) only [go_sem,jF,↓reduceIte,Iy] at h23 v0 v1 vm q1 q2 q3
 try simp (disch:=omega) only [go_sem,jF,↓reduceIte,h23]
 refine ah (fun hlt=>?_) (fun hge=>?_)
 ·have hkn:k<n:=by omega
  have e1:=cQ (L:=EF a.st a.ins a.outs n k) (i:=k) (by rw [EF,bj]; omega)
  have e2:=cQ (L:=EF a.st a.ins a.outs n k) (i:=k+1) (by rw [EF,bj]; omega)
  rw [Et (by omega),if_pos (Nat.le_refl _)] at e1
  rw [Et (by omega),if_neg (by omega)] at e2
  have e3:=cQ (L:=a.ins) (i:=k) (by omega)
  have e4:=cQ (L:=a.outs) (i:=k) (by omega)
  have f1:=D9 hlen (by omega) (hv k (Nat.le_refl _))
  have f2:=hlen.gs (show k+1≤n by omega)
  have f3:=hlen.gx hkn
  have f4:=hlen.gy hkn
  have hcf:cF a.st a.ins a.outs (k+1)=dQ (gB a.st (k+1)) (Na (cF a.st a.ins a.outs k) (gB a.ins k) (gB a.outs k)):=rfl
  have hsuc:=Kg (S:=a.st) (X:=a.ins) (Y:=a.outs) hkn
  generalize hcs:cF a.st a.ins a.outs (k+1)=d at *
  generalize cF a.st a.ins a.outs k=s at *
  generalize gB a.st (k+1)=t at *
  generalize gB a.ins k=x at *
  generalize gB a.outs k=y at *
  have f1:=fu f1
  have f2:=fu f2
  have f3:=fu f3
  have f4:=fu f4
  have hin:((k:Int)+1).toNat=k+1:=by omega
  have hal:(EF a.st a.ins a.outs n k).length=n+1:=by rw [EF,bj]
  try simp (maxSteps:=500001) (disch:=omega) only [go_sem,jF,jG,jH,↓reduceIte,jO,v0,q1,dV,aH,e1,e2,e3,e4,hin,hLs,hLy,hn,Option.map_some,pz]
  repeat (refine And.intro (by first | omega | (rw [n4]; omega) | (simp [maxLen]; done) | (simp [maxLen]; omega)) ?_)
  have hmt:=iJ t (Na s x y)
  rw [←hcf] at hmt
  refine ab hmt (by simp [go_sem]) ?_
  have hbs:(cr (EF a.st a.ins a.outs n k)).set (k+1) (pz d)=cr (EF a.st a.ins a.outs n (k+1)):=by rw [ze,hsuc]
  simp only [pz] at hbs
  have e5:(EF a.st a.ins a.outs n (k+1))[k+1]?=some d:=by
   rw [cQ (by rw [EF,bj]; omega),Et (by omega),if_pos (Nat.le_refl _),hcs]
  have hal2:(EF a.st a.ins a.outs n (k+1)).length=n+1:=by rw [EF,bj]
  try simp (disch:=omega) only [go_sem,jF,jG,jH,↓reduceIte,reduceCtorEq,jO,q1,dV,e2,e5,hin,Option.map_some,pz,hbs]
  repeat (refine And.intro (by first | omega | (rw [n4]; omega) | (simp [maxLen]; done) | (simp [maxLen]; omega)) ?_)
  refine ah (fun g=>?_) (fun g=>?_)
  ·try simp (disch:=omega) only [go_sem,jF,jG,jH,↓reduceIte,y1,v1]
   refine no ?_
   rw [htS,if_neg]
   rw [C5]
   intro hV
   have:=hV (k+1) (by omega)
   rw [hcs] at this
   simp only [gW] at this
   omega
  ·try simp (disch:=omega) only [go_sem,jF,↓reduceIte,jO]
   refine bl hkn ⟨(by first | rfl | (simp (disch:=omega) only [go_sem,jA,jB,jC,jD,jE,jF,jG,jH,jI,jJ,↓reduceIte,reduceCtorEq,jP,jO,jM,jN]; try rfl)),?_,?_,?_,?_,?_,?_,fun i hi=>?_⟩
   ·try simp (disch:=omega) only [go_sem,↓reduceIte,y0]; exact v0
   ·try simp (disch:=omega) only [go_sem,↓reduceIte,y1]; exact v1
   ·simp [St.aD,bd,ym,vm,Iy]
   ·simp [St.aD,bd,show o1.1<m+1 by omega]
   ·try simp (disch:=omega) only [go_sem,↓reduceIte,y2]; exact q2
   ·try simp (disch:=omega) only [go_sem,↓reduceIte,y3]; exact q3
   ·by_cases e:i=k+1
    ·subst e; rw [hcs]; simp only [gW]; omega
    ·exact hv i (by omega)
 obtain rfl:n=k:=by omega
 have hV:VD a.st a.ins a.outs n:=hv
 rw [Mg,←Kh] at q1
 try simp (disch:=omega) only [go_sem,jF,jG,jH,↓reduceIte,jO,v0,aH,hn]
 refine bw [8,94,95,96,97,98,99,100,101,102,103,104,105,106,107,108,109,110,111,112,113,114,115,116,117,118,119,120,121,122,123,124,125,126,127,128,129,130,131,132,133,134,135,136,137,138,139,140,141,142,143,144,145,146] (by kernel_rfl) n (fun k e σ=>e 8=.int .i64 ((n:Int)-1-(k:Int))∧σ.ob 0=some ⟨0,4,88,false,true,[.agg [.int .i64 a.fr,.list 2 (cr a.st),.list 2 (cr a.ins),.list 2 (cr a.outs)]]⟩∧σ.ob 1=some ⟨1,4,88,false,true,[.agg [.int .i64 0,.nil,.nil,.nil]]⟩∧
  σ.ob m=some ⟨c,4,88,false,true,[Iy a.fr o1 o2 o3 (n+1) n n]⟩∧σ.ob o1.1=some ⟨o1.2,2,24,false,true,cr (HN a.st a.ins a.outs n k)⟩∧σ.ob o2.1=some ⟨o2.2,2,24,false,true,cr a.ins⟩∧σ.ob o3.1=some ⟨o3.2,2,24,false,true,cr a.outs⟩) ?_ ?_
 ·exact ⟨by simp [go_sem],v0,v1,vm,q1,q2,q3⟩
 clear h23 v0 v1 vm q1 q2 q3 hv hge hk
 rintro k fe2 ob3 c3 hk ⟨h8,v0,v1,vm,q1,q2,q3⟩
 simp (maxSteps:=1000000) only [go_sem,↓reduceIte,Iy] at h8 v0 v1 vm q1 q2 q3
 try simp (disch:=omega) only [go_sem,↓reduceIte,h8]
 refine ah (fun hlt=>?_) (fun hge=>?_)
 ·have hkn:k<n:=by omega
  obtain ⟨q,hq⟩:∃ q,q=n-(k+1):=⟨_,rfl⟩
  have hqi:(n:Int)-1-(k:Int)=(q:Int):=by omega
  have hqn:q<n:=by omega
  rw [hqi] at h8
  have e1:=cQ (L:=HN a.st a.ins a.outs n k) (i:=q) (by rw [HN,bj]; omega)
  have e2:=cQ (L:=HN a.st a.ins a.outs n k) (i:=q+1) (by rw [HN,bj]; omega)
  rw [HM (by omega),if_neg (by omega)] at e1
  rw [HM (by omega),if_pos (by omega)] at e2
  have e3:=cQ (L:=a.ins) (i:=q) (by omega)
  have e4:=cQ (L:=a.outs) (i:=q) (by omega)
  have f1:=D9 hlen (by omega) (hV q (by omega))
  have f2:=AO hlen hV (show q+1≤n by omega)
  have f3:=hlen.gx hqn
  have f4:=hlen.gy hqn
  have hcf:cB a.st a.ins a.outs n q=dQ (cF a.st a.ins a.outs q) (KN (cB a.st a.ins a.outs n (q+1)) (gB a.ins q) (gB a.outs q)):=gf hqn
  have hsuc:=Ki (S:=a.st) (X:=a.ins) (Y:=a.outs) hkn
  rw [←hq] at hsuc
  generalize cB a.st a.ins a.outs n q=d at *
  generalize cF a.st a.ins a.outs q=s at *
  generalize cB a.st a.ins a.outs n (q+1)=t at *
  generalize gB a.ins q=x at *
  generalize gB a.outs q=y at *
  have f1:=fu f1
  have f2:=fu f2
  have f3:=fu f3
  have f4:=fu f4
  have hin:((q:Int)+1).toNat=q+1:=by omega
  have hal:(HN a.st a.ins a.outs n k).length=n+1:=by rw [HN,bj]
  try simp (maxSteps:=500001) (disch:=omega) only [go_sem,jF,jG,jH,↓reduceIte,jO,hqi,v0,q1,dV,aH,e1,e2,e3,e4,hin,hLs,hLy,hn,Option.map_some,pz]
  repeat (refine And.intro (by first | omega | (rw [n4]; omega) | (simp [maxLen]; done) | (simp [maxLen]; omega)) ?_)
  have hmt:=iJ s (KN t x y)
  rw [←hcf] at hmt
  refine ab hmt (by simp [go_sem]) ?_
  have hbs:(cr (HN a.st a.ins a.outs n k)).set q (pz d)=cr (HN a.st a.ins a.outs n (k+1)):=by rw [ze,hsuc]
  simp only [pz] at hbs
  try simp (maxSteps:=500001) (disch:=omega) only [go_sem,jF,jG,jH,↓reduceIte,reduceCtorEq,jO,q1,dV,e1,Option.map_some,pz,hbs]
  repeat (refine And.intro (by first | omega | (rw [n4]; omega) | (simp [maxLen]; done) | (simp [maxLen]; omega)) ?_)
  refine bl hkn ⟨?_,?_,?_,?_,?_,?_,?_⟩
  ·try simp (disch:=omega) only [go_sem,↓reduceIte]
   congr 1
   omega
  ·simp [St.aD,bd,y0,v0]
  ·simp [St.aD,bd,y1,v1,hm0]
  ·simp [St.aD,bd,ym,vm,Iy]
  ·simp [St.aD,bd,show o1.1<m+1 by omega]
  ·simp [St.aD,bd,y2,q2,show o2.1<m+1 by omega]
  ·simp [St.aD,bd,y3,q3,show o3.1<m+1 by omega]
 obtain rfl:n=k:=by omega
 rw [Mh] at q1
 try simp (disch:=omega) only [go_sem,jF,jG,jH,↓reduceIte,v0,aH,hn]
 refine bw [9,150,151,152,153,154,155,156,157,158,159,160,161,162,163,164,165,166,167,168,169,170,171,172,173,174,175,176,177,178,179,180,181,182,183,184,185,186,187,188,189,190,191,192,193,194,195,196,197,198,199,200,201,202,203,204,205,206,207,208,209,210,211,212,213,214,215,216,217,218,219,220,221,222,223,224,225,226,227,228,229,230,231,232,233,234,235,236,237,238,239,240,241,242,243,244,245,246,247,248,249,250,251] (by kernel_rfl) n (fun k e σ=>e 150=.int .i64 k∧σ.ob 0=some ⟨0,4,88,false,true,[.agg [.int .i64 a.fr,.list 2 (cr a.st),.list 2 (cr a.ins),.list 2 (cr a.outs)]]⟩∧σ.ob 1=some ⟨1,4,88,false,true,[.agg [.int .i64 0,.nil,.nil,.nil]]⟩∧
  σ.ob m=some ⟨c,4,88,false,true,[Iy a.fr o1 o2 o3 (n+1) n n]⟩∧σ.ob o1.1=some ⟨o1.2,2,24,false,true,cr (vN (n+1) (cB a.st a.ins a.outs n))⟩∧σ.ob o2.1=some ⟨o2.2,2,24,false,true,cr (IG a.st a.ins a.outs n k)⟩∧σ.ob o3.1=some ⟨o3.2,2,24,false,true,cr (KO a.st a.ins a.outs n k)⟩) ?_ ?_
 ·exact ⟨(by first | rfl | (simp (disch:=omega) only [go_sem,jA,jB,jC,jD,jE,jF,jG,jH,jI,jJ,↓reduceIte,reduceCtorEq,jP,jO,jM,jN]; try rfl)),v0,v1,vm,q1,by rw [Kd hlen]; exact q2,by rw [Kb hlen]; exact q3⟩
 clear h8 v0 v1 vm q1 q2 q3 hge hk
 rintro k fe3 ob4 c4 hk ⟨h150,v0,v1,vm,q1,q2,q3⟩
 simp (maxSteps:=1000000) only [go_sem,jF,↓reduceIte,Iy] at h150 v0 v1 vm q1 q2 q3
 try simp (disch:=omega) only [go_sem,jF,↓reduceIte,h150]
 refine ah (fun hlt=>?_) (fun hge=>?_)
 ·have hkn:k<n:=by omega
  have e1:=cQ (L:=vN (n+1) (cB a.st a.ins a.outs n)) (i:=k) (by rw [bj]; omega)
  have e2:=cQ (L:=vN (n+1) (cB a.st a.ins a.outs n)) (i:=k+1) (by rw [bj]; omega)
  rw [Hx _ (by omega)] at e1 e2
  have e3:=cQ (L:=a.ins) (i:=k) (by omega)
  have e4:=cQ (L:=a.outs) (i:=k) (by omega)
  have f1:=AO hlen hV (show k≤n by omega)
  have f2:=AO hlen hV (show k+1≤n by omega)
  have f3:=hlen.gx hkn
  have f4:=hlen.gy hkn
  have hcx:cX a.st a.ins a.outs n k=dQ (gB a.ins k) (TK (cB a.st a.ins a.outs n k) (cB a.st a.ins a.outs n (k+1)) (gB a.outs k)):=rfl
  have hcy:cY a.st a.ins a.outs n k=dQ (gB a.outs k) (OI (cB a.st a.ins a.outs n k) (cB a.st a.ins a.outs n (k+1)) (gB a.ins k)):=rfl
  have hsx:=Ke (S:=a.st) (X:=a.ins) (Y:=a.outs) hkn
  have hsy:=Kc (S:=a.st) (X:=a.ins) (Y:=a.outs) hkn
  generalize cX a.st a.ins a.outs n k=d at *
  generalize cY a.st a.ins a.outs n k=d' at *
  generalize cB a.st a.ins a.outs n k=s at *
  generalize cB a.st a.ins a.outs n (k+1)=t at *
  generalize gB a.ins k=x at *
  generalize gB a.outs k=y at *
  have f1:=fu f1
  have f2:=fu f2
  have f3:=fu f3
  have f4:=fu f4
  have hin:((k:Int)+1).toNat=k+1:=by omega
  have hal:(IG a.st a.ins a.outs n k).length=n:=by rw [IG,bj]
  have hal2:(KO a.st a.ins a.outs n k).length=n:=by rw [KO,bj]
  have hal3:(IG a.st a.ins a.outs n (k+1)).length=n:=by rw [IG,bj]
  try simp (maxSteps:=500001) (disch:=omega) only [go_sem,jF,jG,jH,↓reduceIte,jO,v0,vm,q1,dV,aH,e1,e2,e3,e4,hin,hLs,hLy,hn,Option.map_some,pz]
  repeat (refine And.intro (by first | omega | (rw [n4]; omega) | (simp [maxLen]; done) | (simp [maxLen]; omega)) ?_)
  have hmt:=iJ x (TK s t y)
  rw [←hcx] at hmt
  refine ab hmt (by simp [go_sem]) ?_
  have hbs:(cr (IG a.st a.ins a.outs n k)).set k (pz d)=cr (IG a.st a.ins a.outs n (k+1)):=by rw [ze,hsx]
  simp only [pz] at hbs
  have e7:=cQ (L:=IG a.st a.ins a.outs n k) (i:=k) (by omega)
  have e8:=cQ (L:=KO a.st a.ins a.outs n k) (i:=k) (by omega)
  have y12:¬o1.1=o2.1:=TC
  have ym2:¬m=o2.1:=by omega
  have y02:¬0=o2.1:=by omega
  have y32:¬o3.1=o2.1:=fun e=>SM e.symm
  try simp (maxSteps:=500001) (disch:=omega) only [go_sem,jF,jG,jH,↓reduceIte,reduceCtorEq,jO,q1,q2,v0,vm,dV,aH,e1,e2,e3,e4,e7,hin,hLy,hn,Option.map_some,pz,hbs,y12,ym2,y02]
  repeat (refine And.intro (by first | omega | (rw [n4]; omega) | (simp [maxLen]; done) | (simp [maxLen]; omega)) ?_)
  have hmt2:=iJ y ⟨s.lo-t.hi+x.lo,s.hi-t.lo+x.hi⟩
  rw [show dQ y ⟨s.lo-t.hi+x.lo,s.hi-t.lo+x.hi⟩=d' by rw [hcy]; congr 1; simp only [OI,Bd.mk.injEq]; omega] at hmt2
  refine ab hmt2 (by simp [go_sem]) ?_
  have hbs2:(cr (KO a.st a.ins a.outs n k)).set k (pz d')=cr (KO a.st a.ins a.outs n (k+1)):=by rw [ze,hsy]
  simp only [pz] at hbs2
  try simp (maxSteps:=500001) (disch:=omega) only [go_sem,jF,jG,jH,↓reduceIte,reduceCtorEq,jO,q1,q3,v0,vm,dV,e8,Option.map_some,pz,hbs2,y12,ym2,y02,y32]
  repeat (refine And.intro (by first | omega | (rw [n4]; omega) | (simp [maxLen]; done) | (simp [maxLen]; omega)) ?_)
  have y03:¬0=o3.1:=by omega
  have y13:¬1=o3.1:=by omega
  have y1':¬1=o2.1:=by omega
  have ym3:¬m=o3.1:=by omega
  have y13':¬o1.1=o3.1:=TB
  have y23:¬o2.1=o3.1:=SM
  refine bl hkn ⟨(by first | rfl | (simp (disch:=omega) only [go_sem,jA,jB,jC,jD,jE,jF,jG,jH,jI,jJ,↓reduceIte,reduceCtorEq,jP,jO,jM,jN]; try rfl)),?_,?_,?_,?_,?_,?_⟩
  ·simp [St.aD,bd,y02,y03,v0]
  ·simp [St.aD,bd,y1',y13,v1,hm0]
  ·simp [St.aD,bd,ym2,ym3,vm,Iy]
  ·simp [St.aD,bd,y12,y13',q1,show o1.1<m+1 by omega]
  ·simp [St.aD,bd,y23,show o2.1<m+1 by omega]
  ·simp [St.aD,bd,show o3.1<m+1 by omega]
 obtain rfl:n=k:=by omega
 try simp (disch:=omega) only [go_sem,jF,jG,jH,↓reduceIte,v1,vm]
 rw [htS,if_pos (C5.2 hV)]
 have n1:¬o1.1=1:=by omega
 have n2:¬o2.1=1:=by omega
 have n3:¬o3.1=1:=by omega
 refine aw.pair (aw.ag (.cons (.pure rfl) (.cons ?_ (.cons ?_ (.cons ?_ .nil))))) (.pure rfl)
 ·rw [show (jX a,(0:Int)).1.st=vN (n+1) (cB a.st a.ins a.outs n) by simp only [jX,hn]]
  refine Dh ((aa _ _ _ _ n1).trans q1) ?_
  rw [bj]
 ·rw [show (jX a,(0:Int)).1.ins=vN n (cX a.st a.ins a.outs n) by simp only [jX,hn],←HL]
  refine Dh ((aa _ _ _ _ n2).trans q2) ?_
  rw [HL,bj]
 ·rw [show (jX a,(0:Int)).1.outs=vN n (cY a.st a.ins a.outs n) by simp only [jX,hn],←HK]
  refine Dh ((aa _ _ _ _ n3).trans q3) ?_
  rw [HK,bj]
def km (a b:Ac):Bool:=decide (a.fr=b.fr)&&(decide (a.st=b.st)&&(decide (a.ins=b.ins)&&decide (a.outs=b.outs)))
theorem mY {a b:Ac}:km a b=true↔a=b:=by
 cases a; cases b
 simp [km]
theorem Nf {b c:Bd}:b=c↔b.lo=c.lo∧b.hi=c.hi:=by
 cases b; cases c; simp
theorem dc (a b:List Bd) (ha:a.length≤9223372036854775807):PC prog oz [.list 2 (cr a),.list 2 (cr b)] (.bool (decide (a=b))):=by
 refine ae oM (by simp) ?_
 simp only [gj,go_sem,jF,↓reduceIte,reduceCtorEq,aH]
 refine aZ (fun h=>?_) (fun h=>?_) <;> try simp (disch:=omega) only [go_sem,↓reduceIte,reduceCtorEq]
 ·exact aw.of_eq (by congr 1; simp; intro hab; exact h (by rw [hab])) rfl
 have hl:a.length=b.length:=by omega
 refine bw [4,5,13,14,15,16,17,18,19,20,21,22,23,24,25] (by kernel_rfl) a.length (fun k e _=>e 13=.int .i64 k∧∀ j,j<k→a[j]?=b[j]?) ?_ ?_
 ·exact ⟨(by first | rfl | (simp (disch:=omega) only [go_sem,jA,jB,jC,jD,jE,jF,jG,jH,jI,jJ,↓reduceIte,reduceCtorEq,jP,jO,jM,jN]; try rfl)),fun j hj=>by omega⟩
 ·rintro k fe ob c hk ⟨h13,hj⟩
  simp (maxSteps:=1000000) only [go_sem,jF,↓reduceIte] at h13
  try simp (disch:=omega) only [go_sem,jF,↓reduceIte,h13,aH]
  refine ah (fun hlt=>?_) (fun hge=>?_)
  ·have hka:k<a.length:=by omega
   have hga:a[k]?=some a[k]:=List.getElem?_eq_getElem hka
   have hgb:b[k]?=some b[k]:=List.getElem?_eq_getElem (by omega)
   try simp (disch:=omega) only [go_sem,jF,jH,↓reduceIte,reduceCtorEq,aH,dV,hga,hgb,Option.map_some,pz]
   repeat (refine And.intro (by first | omega | (rw [n4]; omega) | (simp [maxLen]; done) | (simp [maxLen]; omega)) ?_)
   refine ⟨fun hne=>?_,fun heq=>?_⟩
   ·try simp (disch:=omega) only [go_sem,↓reduceIte]
    exact aw.of_eq (by congr 1; simp; intro hab; subst hab; simp at hne) rfl
   ·try simp (disch:=omega) only [go_sem,jF,↓reduceIte,jO]
    refine bl hka ⟨(by first | rfl | (simp (disch:=omega) only [go_sem,jA,jB,jC,jD,jE,jF,jG,jH,jI,jJ,↓reduceIte,reduceCtorEq,jP,jO,jM,jN]; try rfl)),fun j hj'=>?_⟩
    by_cases e:j=k
    ·have he:a[k]=b[k]:=Nf.2 (by simpa using heq)
     subst e; rw [hga,hgb,he]
    ·exact hj j (by omega)
  ·try simp (disch:=omega) only [go_sem,↓reduceIte]
   exact aw.of_eq (by congr 1; simp; exact bU hl fun j hj'=>hj j (by omega)) rfl
theorem eN (a b:List Bd) (ha:a.length≤9223372036854775807):PC prog sZ [.list 2 (cr a),.list 2 (cr b)] (.bool (decide (a=b))):=by
 refine ae tp (by simp) ?_
 simp only [lh,go_sem,jF,↓reduceIte,reduceCtorEq,aH]
 refine aZ (fun h=>?_) (fun h=>?_) <;> try simp (disch:=omega) only [go_sem,↓reduceIte,reduceCtorEq]
 ·exact aw.of_eq (by congr 1; simp; intro hab; exact h (by rw [hab])) rfl
 have hl:a.length=b.length:=by omega
 refine bw [4,5,13,14,15,16,17,18,19,20,21,22,23,24,25] (by kernel_rfl) a.length (fun k e _=>e 13=.int .i64 k∧∀ j,j<k→a[j]?=b[j]?) ?_ ?_
 ·exact ⟨(by first | rfl | (simp (disch:=omega) only [go_sem,jA,jB,jC,jD,jE,jF,jG,jH,jI,jJ,↓reduceIte,reduceCtorEq,jP,jO,jM,jN]; try rfl)),fun j hj=>by omega⟩
 ·rintro k fe ob c hk ⟨h13,hj⟩
  simp (maxSteps:=1000000) only [go_sem,jF,↓reduceIte] at h13
  try simp (disch:=omega) only [go_sem,jF,↓reduceIte,h13,aH]
  refine ah (fun hlt=>?_) (fun hge=>?_)
  ·have hka:k<a.length:=by omega
   have hga:a[k]?=some a[k]:=List.getElem?_eq_getElem hka
   have hgb:b[k]?=some b[k]:=List.getElem?_eq_getElem (by omega)
   try simp (disch:=omega) only [go_sem,jF,jH,↓reduceIte,reduceCtorEq,aH,dV,hga,hgb,Option.map_some,pz]
   repeat (refine And.intro (by first | omega | (rw [n4]; omega) | (simp [maxLen]; done) | (simp [maxLen]; omega)) ?_)
   refine ⟨fun hne=>?_,fun heq=>?_⟩
   ·try simp (disch:=omega) only [go_sem,↓reduceIte]
    exact aw.of_eq (by congr 1; simp; intro hab; subst hab; simp at hne) rfl
   ·try simp (disch:=omega) only [go_sem,jF,↓reduceIte,jO]
    refine bl hka ⟨(by first | rfl | (simp (disch:=omega) only [go_sem,jA,jB,jC,jD,jE,jF,jG,jH,jI,jJ,↓reduceIte,reduceCtorEq,jP,jO,jM,jN]; try rfl)),fun j hj'=>?_⟩
    by_cases e:j=k
    ·have he:a[k]=b[k]:=Nf.2 (by simpa using heq)
     subst e; rw [hga,hgb,he]
    ·exact hj j (by omega)
  ·try simp (disch:=omega) only [go_sem,↓reduceIte]
   exact aw.of_eq (by congr 1; simp; exact bU hl fun j hj'=>hj j (by omega)) rfl
theorem zN (a b:Ac) (hl:IF a):PC prog rU [gG a,gG b] (.bool (km a b)):=by
 refine ae B8 (by simp) ?_
 simp only [sG,go_sem,jF,jG,jH,↓reduceIte,reduceCtorEq,gG]
 refine bB rfl (fun h1=>?_) (fun h1=>?_) <;> try simp (disch:=omega) only [go_sem,jF,jG,jH,↓reduceIte,reduceCtorEq]
 ·refine ab (dc a.st b.st hl.1) (by simp [go_sem]) ?_
  try simp (disch:=omega) only [go_sem,jF,↓reduceIte]
  refine bB rfl (fun h2=>?_) (fun h2=>?_) <;> try simp (disch:=omega) only [go_sem,jF,jG,jH,↓reduceIte,reduceCtorEq]
  ·refine ab (dc a.ins b.ins hl.2.1) (by simp [go_sem]) ?_
   try simp (disch:=omega) only [go_sem,jF,↓reduceIte]
   refine bB rfl (fun h3=>?_) (fun h3=>?_) <;> try simp (disch:=omega) only [go_sem,jF,jG,jH,↓reduceIte,reduceCtorEq]
   ·refine ab (dc a.outs b.outs hl.2.2) (by simp [go_sem]) ?_
    try simp (disch:=omega) only [go_sem,jF,↓reduceIte]
    exact aw.of_eq (by simp [km,h1,h2,h3]) rfl
   ·exact aw.of_eq (by simp [km,h3]) rfl
  ·exact aw.of_eq (by simp [km,h2]) rfl
 ·exact aw.of_eq (by simp [km,h1]) rfl
theorem Bp (a b:Ac) (hl:IF a):PC prog DD [gG a,gG b] (.bool (km a b)):=by
 refine ae Eh (by simp) ?_
 simp only [vg,go_sem,jF,jG,jH,↓reduceIte,reduceCtorEq,gG]
 refine bB rfl (fun h1=>?_) (fun h1=>?_) <;> try simp (disch:=omega) only [go_sem,jF,jG,jH,↓reduceIte,reduceCtorEq]
 ·refine ab (eN a.st b.st hl.1) (by simp [go_sem]) ?_
  try simp (disch:=omega) only [go_sem,jF,↓reduceIte]
  refine bB rfl (fun h2=>?_) (fun h2=>?_) <;> try simp (disch:=omega) only [go_sem,jF,jG,jH,↓reduceIte,reduceCtorEq]
  ·refine ab (eN a.ins b.ins hl.2.1) (by simp [go_sem]) ?_
   try simp (disch:=omega) only [go_sem,jF,↓reduceIte]
   refine bB rfl (fun h3=>?_) (fun h3=>?_) <;> try simp (disch:=omega) only [go_sem,jF,jG,jH,↓reduceIte,reduceCtorEq]
   ·refine ab (eN a.outs b.outs hl.2.2) (by simp [go_sem]) ?_
    try simp (disch:=omega) only [go_sem,jF,↓reduceIte]
    exact aw.of_eq (by simp [km,h1,h2,h3]) rfl
   ·exact aw.of_eq (by simp [km,h3]) rfl
  ·exact aw.of_eq (by simp [km,h2]) rfl
 ·exact aw.of_eq (by simp [km,h1]) rfl
def sq (a t:Ac):Nat→Int
 | 0=>(gB t.st 0).lo
 | i+1=>max (gB t.st (i+1)).lo (sq a t i+(gB a.ins i).lo-(gB a.outs i).hi)
def cm (a t:Ac) (i:Nat):Int:=max (gB a.ins i).lo ((gB a.outs i).lo+(sq a t (i+1)-sq a t i))
def og (a t:Ac) (i:Nat):Int:=cm a t i-(sq a t (i+1)-sq a t i)
def vO (n:Nat) (f:Nat→Int):List Int:=(List.range n).map f
theorem dZ (n:Nat) (f:Nat→Int):(vO n f).length=n:=by simp [vO]
theorem DM {n i:Nat} (f:Nat→Int) (h:i<n):(vO n f)[i]?=some (f i):=by simp [vO,h]
theorem eU {n i:Nat} (f:Nat→Int) (h:i<n):(vO n f).getD i 0=f i:=by rw [List.getD_eq_getElem?_getD,DM f h]; rfl
theorem uJ (n:Nat) (f:Nat→Int):vO (n+1) f=vO n f++[f n]:=by simp [vO,List.range_succ]
theorem LO (f:Nat→Int):vO 1 f=[f 0]:=rfl
def dJ (a:Ac):(List Int × List Int × List Int) × Int:=
 if (dG a).2≠0 then (([],[],[]),(dG a).2)
 else ((vO (a.ins.length+1) (sq a (dG a).1),vO a.ins.length (cm a (dG a).1),vO a.ins.length (og a (dG a).1)),0)
theorem Co {a:Ac} (h:(dG a).2=0):ke a∧VD a.st a.ins a.outs a.ins.length∧(dG a).1=jX a:=by
 unfold dG at h ⊢
 split at h
 ·rename_i h1; exact absurd h h1
 ·rename_i h1
  simp only [ne_eq,Decidable.not_not] at h1
  rw [if_neg (by simp [h1])]
  split at h
  ·rename_i h2; rw [if_pos h2]; exact ⟨D7.1 h1,C5.1 h2,rfl⟩
  ·cases h
theorem C9 {a:Ac} {i:Nat} (h:i≤a.ins.length):gB (jX a).st i=cB a.st a.ins a.outs a.ins.length i:=Hx _ (by omega)
theorem EL {a:Ac} (h:ke a) (hv:VD a.st a.ins a.outs a.ins.length):∀ i,i≤a.ins.length→ir (cB a.st a.ins a.outs a.ins.length i) (sq a (jX a) i)
 | 0,hi=>by
  have:=(h.lens.vd hv).B hi
  rw [sq,C9 hi]
  simp only [ir,gW,cB] at *
  omega
 | i+1,hi=>by
  have h1:=EL h hv i (by omega)
  have h2:=(h.lens.vd hv).B hi
  rw [sq,C9 hi]
  unfold cB at *
  rw [gf (by omega)] at h1
  simp only [ir,gW,dQ,KN] at *
  omega
theorem Fk {a:Ac} (h:ke a) (hv:VD a.st a.ins a.outs a.ins.length):Hi (gB a.st) (gB a.ins) (gB a.outs) a.ins.length (sq a (jX a)) (cm a (jX a)) (og a (jX a)):=by
 have key:∀ i,i<a.ins.length→ir (gB a.ins i) (cm a (jX a) i)∧ir (gB a.outs i) (og a (jX a) i):=fun i hi=>by
  have h1:=EL h hv i (by omega)
  have h2:=EL h hv (i+1) (by omega)
  have h3:=(h.lens.gx hi).val
  have h4:=(h.lens.gy hi).val
  have h5:sq a (jX a) (i+1)=max (gB (jX a).st (i+1)).lo (sq a (jX a) i+(gB a.ins i).lo-(gB a.outs i).hi):=rfl
  rw [C9 (by omega)] at h5
  unfold cB at h1 h2 h5
  rw [gf hi] at h1
  unfold og cm
  generalize sq a (jX a) (i+1)=s' at *
  generalize sq a (jX a) i=s at *
  simp only [ir,gW,dQ,KN] at *
  omega
 refine ⟨fun i hi=>Mc i _ (HI hi (EL h hv i hi)),fun i hi=>(key i hi).1,fun i hi=>(key i hi).2,fun i hi=>?_⟩
 unfold og; omega
def Dj (X Y:AV):Prop:=∀ i,aY X i∨aY Y i
theorem Dj.symm {X Y:AV} (h:Dj X Y):Dj Y X:=fun i=>(h i).symm
theorem Dj.nil (X:AV):Dj .nil X:=fun i=>.inl (aY.nil i)
theorem Dj.kp {X X' Y:AV} {es:Nat} {ty:TypeId} {σ τ:St} {L:List AV} (h:Dj X Y) (hY:cu es ty σ L Y) (hK:Kp σ X τ X'):Dj X' Y:=fun i=>by
 rcases Classical.em (aY Y i) with h1 | h1
 ·exact .inr h1
 ·refine .inl (hK.2.2 i ?_ ((h i).resolve_right h1))
  rcases Nat.lt_or_ge i σ.n with h2 | h2
  ·exact h2
  ·exact absurd (hY.H2 h2) h1
theorem cu.dj {X X' Y:AV} {es:Nat} {ty:TypeId} {σ τ:St} {L:List AV} (hY:cu es ty σ L Y) (h:Dj X Y) (hK:Kp σ X τ X'):cu es ty τ L Y:=hY.move hK.1 fun i hi hno=>hK.2.1 i hi ((h i).resolve_right hno)
structure vL (σ:St) (X8 X9 X10:AV) (A B C:List Int) (q:Nat):Prop where
 r8:cu 1 3 σ (ints A) X8
 r9:cu 1 3 σ (ints B) X9
 KH:cu 1 3 σ (ints C) X10
 o8:∀ i,i<q→aY X8 i
 o9:∀ i,i<q→aY X9 i
 LF:∀ i,i<q→aY X10 i
 d89:Dj X8 X9
 D5:Dj X8 X10
 Fy:Dj X9 X10
theorem nw (L:List Int) (x:Int):ints L++[.int .i64 x]=ints (L++[x]):=by simp [ints]
section
variable {σ τ : St} {X8 X9 X10 X : AV} {A B C : List Int} {q : Nat}
theorem vL.mv (h:vL σ X8 X9 X10 A B C q) (hn:σ.n≤τ.n) (hf:∀ i,q≤i→i<σ.n→τ.ob i=σ.ob i):vL τ X8 X9 X10 A B C q:=by
 have key:∀ {Y:AV} {L:List AV},cu 1 3 σ L Y→(∀ i,i<q→aY Y i)→cu 1 3 τ L Y:=fun hY o=>hY.move hn fun i hi hno=>hf i (by
  rcases Nat.lt_or_ge i q with h | h
  ·exact absurd (o i h) hno
  ·exact h) hi
 exact ⟨key h.r8 h.o8,key h.r9 h.o9,key h.KH h.LF,h.o8,h.o9,h.LF,h.d89,h.D5,h.Fy⟩
theorem vL.TT (h:vL σ X8 X9 X10 A B C q) (hq:q≤σ.n) {x:Int} (hR:cu 1 3 τ (ints A++[.int .i64 x]) X) (hK:Kp σ X8 τ X):vL τ X X9 X10 (A++[x]) B C q:=
 ⟨by rw [←nw]; exact hR,h.r9.dj h.d89 hK,h.KH.dj h.D5 hK,fun i hi=>hK.2.2 i (by omega) (h.o8 i hi),h.o9,h.LF,h.d89.kp h.r9 hK,h.D5.kp h.KH hK,h.Fy⟩
theorem vL.TS (h:vL σ X8 X9 X10 A B C q) (hq:q≤σ.n) {x:Int} (hR:cu 1 3 τ (ints B++[.int .i64 x]) X) (hK:Kp σ X9 τ X):vL τ X8 X X10 A (B++[x]) C q:=
 ⟨h.r8.dj h.d89.symm hK,by rw [←nw]; exact hR,h.KH.dj h.Fy hK,h.o8,fun i hi=>hK.2.2 i (by omega) (h.o9 i hi),h.LF,(h.d89.symm.kp h.r8 hK).symm,h.D5,h.Fy.kp h.KH hK⟩
theorem vL.RM (h:vL σ X8 X9 X10 A B C q) (hq:q≤σ.n) {x:Int} (hR:cu 1 3 τ (ints C++[.int .i64 x]) X) (hK:Kp σ X10 τ X):vL τ X8 X9 X A B (C++[x]) q:=
 ⟨h.r8.dj h.D5.symm hK,h.r9.dj h.Fy.symm hK,by rw [←nw]; exact hR,h.o8,h.o9,fun i hi=>hK.2.2 i (by omega) (h.LF i hi),h.d89,(h.D5.symm.kp h.r8 hK).symm,(h.Fy.symm.kp h.r9 hK).symm⟩
theorem vL.UN {id g g2 l l2:Nat} {x:Int} (h:vL σ (.sl id g 1 0 l) X9 X10 A B C q) (hn:σ.n≤τ.n) (hq:q≤id) (hid:id<σ.n) (hl:l2=A.length+1) (ho:τ.ob id=some ⟨g2,1,3,false,true,ints A++[.int .i64 x]⟩) (hf:∀ i,i<σ.n→i≠id→τ.ob i=σ.ob i):vL τ (.sl id g2 1 0 l2) X9 X10 (A++[x]) B C q:=by
 have key:∀ {Y:AV} {L:List AV},cu 1 3 σ L Y→Dj (.sl id g 1 0 l) Y→cu 1 3 τ L Y:=fun hY hd=>hY.move hn fun i hi hno=>hf i hi fun e=>(hd i).elim (fun h=>h.ne e.symm) hno
 have key2:∀ {Y:AV},Dj (.sl id g 1 0 l) Y→Dj (.sl id g2 1 0 l2) Y:=fun hd i=>(hd i).imp_left fun h=>aY.sl h.ne
 refine ⟨.inr ⟨id,g2,by rw [hl,au]; simp,by omega,by rw [ho,nw]⟩,key h.r9 h.d89,key h.KH h.D5,fun i hi=>aY.sl (by omega),h.o9,h.LF,key2 h.d89,key2 h.D5,h.Fy⟩
theorem vL.Hw {id g l:Nat} (h:vL σ (.sl id g 1 0 l) X9 X10 A B C q):q≤id:=by
 rcases Nat.lt_or_ge id q with hh | hh
 ·exact absurd rfl (h.o8 id hh).ne
 ·exact hh
theorem RK {b:Nat} {x:Int} {K:AV→St→Prop} (h:vL σ X8 X9 X10 A B C q) (hq:q≤σ.n) (hm:A.length+1≤1000) (hb:b≤1000) (k:∀ X τ,vL τ X X9 X10 (A++[x]) B C q→σ.n≤τ.n→(∀ i,i<q→τ.ob i=σ.ob i)→K X τ):mT 1 b 3 X8 (.list 1 [.int .i64 x]) σ K:=by
 have hl:(ints A).length=A.length:=au A
 refine bH (b:=b) h.r8 (by omega) (Nat.le_trans (Nat.mul_le_mul (hl ▸ hm) hb) (by omega)) fun X τ hR hK=>?_
 exact k X τ (h.TT hq hR hK) hK.1 fun i hi=>hK.2.1 i (by omega) (h.o8 i hi)
theorem vL.swap (h:vL σ X8 X9 X10 A B C q):vL σ X9 X10 X8 B C A q:=⟨h.r9,h.KH,h.r8,h.o9,h.LF,h.o8,h.Fy,h.d89.symm,h.D5.symm⟩
end
theorem C1 {σ:St} {X8 X9 X10:AV} {A B C:List Int} {q b:Nat} {x:Int} {K:AV→St→Prop} (h:vL σ X8 X9 X10 A B C q) (hq:q≤σ.n) (hm:B.length+1≤1000) (hb:b≤1000) (k:∀ X τ,vL τ X8 X X10 A (B++[x]) C q→Kp σ X9 τ X→(∀ i,i<q→τ.ob i=σ.ob i)→K X τ):mT 1 b 3 X9 (.list 1 [.int .i64 x]) σ K:=by
 have hl:(ints B).length=B.length:=au B
 refine bH (b:=b) h.r9 (by omega) (Nat.le_trans (Nat.mul_le_mul (hl ▸ hm) hb) (by omega)) fun X τ hR hK=>?_
 exact k X τ (h.TS hq hR hK) hK fun i hi=>hK.2.1 i (by omega) (h.o9 i hi)
theorem Bb {σ:St} {X8 X9 X10:AV} {A B C:List Int} {q b:Nat} {x:Int} {K:AV→St→Prop} (h:vL σ X8 X9 X10 A B C q) (hq:q≤σ.n) (hm:C.length+1≤1000) (hb:b≤1000) (k:∀ X τ,vL τ X8 X9 X A B (C++[x]) q→Kp σ X10 τ X→(∀ i,i<q→τ.ob i=σ.ob i)→K X τ):mT 1 b 3 X10 (.list 1 [.int .i64 x]) σ K:=by
 have hl:(ints C).length=C.length:=au C
 refine bH (b:=b) h.KH (by omega) (Nat.le_trans (Nat.mul_le_mul (hl ▸ hm) hb) (by omega)) fun X τ hR hK=>?_
 exact k X τ (h.RM hq hR hK) hK fun i hi=>hK.2.1 i (by omega) (h.LF i hi)
theorem Dj.H2 {X:AV} {id g es o n:Nat} (h:Dj (.sl id g es o n) X):aY X id:=(h id).resolve_left fun h=>h.ne rfl
theorem zK (a:Ac) (hl:IF a):PC prog Bz [gG a] (.tuple [.list 1 (ints (dJ a).1.1),.list 1 (ints (dJ a).1.2.1),.list 1 (ints (dJ a).1.2.2),.int .i64 (dJ a).2]):=by
 refine ae BV (by simp) ?_
 simp only [su,go_sem,jF,jG,jH,↓reduceIte,gG]
 refine ab (wh a hl) (by simp [go_sem]) ?_
 try simp (disch:=omega) only [go_sem,jF,jG,jH,↓reduceIte,gG]
 refine aZ (fun h=>?_) (fun h=>?_) <;> try simp (disch:=omega) only [go_sem,jC,jF,jG,jH,↓reduceIte]
 ·rw [show dJ a=(([],[],[]),(dG a).2) by simp only [dJ,if_pos h]]
  exact aw.tu (.cons (.nl 1) (.cons (.nl 1) (.cons (.nl 1) (.cons (.pure rfl) .nil))))
 obtain ⟨hok,hv,ht⟩:=Co h
 have hhi:=Fk hok hv
 rw [show dJ a=((vO (a.ins.length+1) (sq a (jX a)),vO a.ins.length (cm a (jX a)),vO a.ins.length (og a (jX a))),0) by simp only [dJ]; rw [if_neg (by simp [h]),ht]]
 rw [ht]
 have hLs:=hok.ns
 have hLy:=hok.no
 have hLn:=hok.n2
 have hT1:(jX a).st.length=a.ins.length+1:=bj _ _
 have hT2:(jX a).ins.length=a.ins.length:=bj _ _
 have e0:=cQ (L:=(jX a).st) (i:=0) (by omega)
 have hs0:(gB (jX a).st 0).lo=sq a (jX a) 0:=rfl
 have hst:∀ i,i≤a.ins.length→0≤sq a (jX a) i∧sq a (jX a) i≤274877906944:=fun i hi=>Hv (AO hok.lens hv hi) (EL hok hv i hi)
 have eH:∀ i,sq a (jX a) (i+1)=max (gB (jX a).st (i+1)).lo (sq a (jX a) i+(gB a.ins i).lo-(gB a.outs i).hi):=fun i=>rfl
 have hcm:∀ i,cm a (jX a) i=max (gB a.ins i).lo ((gB a.outs i).lo+(sq a (jX a) (i+1)-sq a (jX a) i)):=fun i=>rfl
 have hog:∀ i,og a (jX a) i=cm a (jX a) i-(sq a (jX a) (i+1)-sq a (jX a) i):=fun i=>rfl
 have hcb:∀ i,i<a.ins.length→0≤cm a (jX a) i∧cm a (jX a) i≤274877906944:=fun i hi=>Hv (hok.lens.gx hi) (hhi.ins i hi)
 have htf:∀ i,i≤a.ins.length→0≤(gB (jX a).st i).lo∧(gB (jX a).st i).lo≤274877906944:=fun i hi=>by
  have:=fu (AO hok.lens hv hi); rw [C9 hi]; omega
 generalize jX a=t at *
 generalize sq a t=f at *
 generalize cm a t=f2 at *
 generalize og a t=f3 at *
 try simp (disch:=omega) only [go_sem,aH,dV,e0,Option.map_some,pz,hT1,hT2]
 refine ⟨by omega,?_⟩
 have hI0:cu 1 3 (⟨bd (fun x=>none) 2 (some ⟨2,1,3,false,true,[.int .i64 (gB t.st 0).lo]⟩),3,3⟩:St) (ints (vO 1 f)) (.sl 2 2 1 0 1):=.inr ⟨2,2,rfl,by simp only; omega,by rw [LO,hs0]; simp [bd,ints]⟩
 refine aW [8,9,10,11,12,13,31,32,33,34,35,36,37,38,39,40,41,42,43,44,45,46,47,48,49,50,51,52,53,54,55,56,57,58,59,60,61,62,63,64,65,66,67,68,69,70,71,72,73,74,75,76,77,78,79,80,81,82,83,84,85,86,87,88,89,90,91,92,93,94,95,96,97,98,99] (by kernel_rfl) a.ins.length (fun k e σ=>e 31=.int .i64 k∧σ.ob 0=some ⟨0,4,88,false,true,[.agg [.int .i64 a.fr,.list 2 (cr a.st),.list 2 (cr a.ins),.list 2 (cr a.outs)]]⟩∧
  σ.ob 1=some ⟨1,4,88,false,true,[.agg [.int .i64 t.fr,.list 2 (cr t.st),.list 2 (cr t.ins),.list 2 (cr t.outs)]]⟩∧vL σ (e 8) (e 9) (e 10) (vO (k+1) f) (vO k f2) (vO k f3) 2) ?_ ?_
 ·refine ⟨(by first | rfl | (simp (disch:=omega) only [go_sem,jA,jB,jC,jD,jE,jF,jG,jH,jI,jJ,↓reduceIte,reduceCtorEq,jP,jO,jM,jN]; try rfl)),(by first | rfl | (simp (disch:=omega) only [go_sem,jA,jB,jC,jD,jE,jF,jG,jH,jI,jJ,↓reduceIte,reduceCtorEq,jP,jO,jM,jN]; try rfl)),(by first | rfl | (simp (disch:=omega) only [go_sem,jA,jB,jC,jD,jE,jF,jG,jH,jI,jJ,↓reduceIte,reduceCtorEq,jP,jO,jM,jN]; try rfl)),?_⟩
  try simp (disch:=omega) only [go_sem,jF,↓reduceIte]
  exact ⟨hI0.move (Nat.le_refl _) fun i hi hno=>by
    have hi:i<3:=hi
    have h2:i=2:=by
     rcases Nat.lt_or_ge i 2 with h | h
     ·exact absurd (aY.sl (by omega)) hno
     ·omega
    subst h2; simp [bd],.nil,.nil,fun i hi=>aY.sl (by omega),fun i _=>aY.nil i,fun i _=>aY.nil i,(Dj.nil _).symm,(Dj.nil _).symm,Dj.nil _⟩
 rintro k fe ob m c hk hm ⟨h31,hob0,hob1,hT⟩
 simp (maxSteps:=1000000) only [go_sem,jF,↓reduceIte] at h31 hob0 hob1 hT hm
 obtain ⟨X8,h8⟩:∃ X,fe 8=X:=⟨_,rfl⟩
 obtain ⟨X9,h9⟩:∃ X,fe 9=X:=⟨_,rfl⟩
 obtain ⟨X10,h10⟩:∃ X,fe 10=X:=⟨_,rfl⟩
 rw [h8,h9,h10] at hT
 try simp (disch:=omega) only [go_sem,jF,↓reduceIte,h31]
 refine ah (fun hlt=>?_) (fun hge=>?_)
 ·have hkl:k<a.ins.length:=by omega
  have e1:=cQ (L:=t.st) (i:=k+1) (by omega)
  have e3:=cQ (L:=a.ins) (i:=k) (by omega)
  have e4:=cQ (L:=a.outs) (i:=k) (by omega)
  have f3':=fu (JI hok.bi (i:=k) (by omega))
  have f4':=fu (JI hok.bo (i:=k) (by omega))
  have g1:=hst k (by omega)
  have g2:=hst (k+1) (by omega)
  have g3:=htf (k+1) (by omega)
  have g4:=eH k
  have g5:=hcm k
  have g6:=hog k
  have g7:=hcb k hkl
  have hT0:=hT
  obtain ⟨r8,-⟩:=hT
  rcases r8 with ⟨-,hnil⟩ | ⟨id,g,rfl,hid,hidob⟩
  ·simp [ints,vO] at hnil
  simp only [au,dZ] at h8 hT0 hidob
  have hid:id<m:=hid
  have hid2:=hT0.Hw
  have z4:¬0=id:=by omega
  have z5:¬1=id:=by omega
  have e8:(vO (k+1) f)[k]?=some (f k):=DM f (by omega)
  try simp (disch:=omega) only [go_sem,jF,jG,jH,↓reduceIte,jO,h8,hob0,hob1,aH,dV,e3,e4,Option.map_some,pz,hidob,bD,e8]
  refine ⟨by omega,by omega,by omega,by omega,by omega,by omega,by omega,by omega,?_⟩
  rw [show ((k:Int)+1).toNat=k+1 by omega]
  try simp (disch:=omega) only [go_sem,jF,jG,jH,↓reduceIte,e1,pz,Option.map_some,←g4]
  try simp (disch:=omega) only [go_sem,jF,jG,jH,↓reduceIte,jO,hob0,aH,dV,e3,e4,Option.map_some,pz,hidob,au,dZ,bD,e8]
  refine ⟨by omega,by omega,by omega,by omega,by omega,by omega,?_⟩
  have g8:max (gB a.ins k).lo (f (k+1)-f k+(gB a.outs k).lo)=f2 k:=by omega
  try simp (disch:=omega) only [go_sem,g8]
  refine ⟨by rw [n4]; omega,by omega,?_⟩
  try simp (disch:=omega) only [go_sem,h9,h10]
  refine ⟨by omega,by omega,?_⟩
  have e9:(vO (k+1+1) f)[k]?=some (f k):=DM f (by omega)
  try simp (disch:=omega) only [go_sem,jF,↓reduceIte,jO,nw,←uJ,bD,e9,Option.map_some]
  have g9:f k+f2 k-f (k+1)=f3 k:=by omega
  try simp (disch:=omega) only [go_sem,g9]
  refine C1 (A:=vO (k+1+1) f) (B:=vO k f2) (C:=vO k f3) (q:=2) (X8:=.sl id c 1 0 (k+1+1)) (X10:=X10) ?_ (by simp only; omega) (by rw [dZ]; omega) (by omega) fun Y9 τ9 hT9 hK9 hf9=>?_
  ·rw [uJ (k+1)]
   refine hT0.UN (by simp only; omega) hT0.Hw hid (by rw [dZ]) (by try simp (disch:=omega) only [go_sem,↓reduceIte,nw]) fun i hi hne=>?_
   simp only at hi ⊢
   rw [aa _ _ _ _ hne]
  have hn9:=hK9.1
  simp only at hn9 hf9
  rw [←uJ] at hT9
  have w0:=hf9 0 (by omega)
  have w1:=hf9 1 (by omega)
  try simp (disch:=omega) only [go_sem,↓reduceIte,z4,hob0] at w0
  try simp (disch:=omega) only [go_sem,↓reduceIte,z5,hob1] at w1
  have v9:=hK9.2.1 id hid hT0.d89.H2
  simp only [az] at v9
  try simp (disch:=omega) only [go_sem,jF,↓reduceIte,reduceCtorEq]
  refine ⟨v9,?_⟩
  refine Bb hT9 (by omega) (by rw [dZ]; omega) (by omega) fun Y10 τ10 hT10 hK10 hf10=>?_
  have hn10:=hK10.1
  rw [←uJ] at hT10
  have w00:=(hf10 0 (by omega)).trans w0
  have w11:=(hf10 1 (by omega)).trans w1
  try simp (disch:=omega) only [go_sem,jF,↓reduceIte,reduceCtorEq,jO]
  refine aG τ10.n hkl (by omega) ⟨(by first | rfl | (simp (disch:=omega) only [go_sem,jA,jB,jC,jD,jE,jF,jG,jH,jI,jJ,↓reduceIte,reduceCtorEq,jP,jO,jM,jN]; try rfl)),?_,?_,?_⟩
  ·simp only [St.aD]; rw [if_pos (by omega)]; exact w00
  ·simp only [St.aD]; rw [if_pos (by omega)]; exact w11
  ·try simp (disch:=omega) only [go_sem,jF,↓reduceIte]
   exact hT10.mv (Nat.le_refl _) fun i _ hi=>by simp [St.aD,hi]
 ·try simp (disch:=omega) only [go_sem,jF,↓reduceIte,h8,h9,h10]
  obtain rfl:a.ins.length=k:=by omega
  exact aw.tu (.cons (hT.r8.mU (fun _ _ _=>rfl) (dC _) (iN _)) (.cons (hT.r9.mU (fun _ _ _=>rfl) (dC _) (iN _)) (.cons (hT.KH.mU (fun _ _ _=>rfl) (dC _) (iN _)) (.cons (.pure rfl) .nil))))
structure Mr (n:Nat) (S I O:List Int):Prop where
 ls:S.length=n+1
 li:I.length=n
 lo:O.length=n
 s:∀ i,i≤n→0≤S.getD i 0∧S.getD i 0≤39+9 * (i:Int)
 i:∀ i,i<n→0≤I.getD i 0∧I.getD i 0≤9
 o:∀ i,i<n→0≤O.getD i 0∧O.getD i 0≤12
 PY:∀ i,i<n→S.getD (i+1) 0=S.getD i 0+I.getD i 0-O.getD i 0
theorem fW {L:List Int} {x:Int} {i:Nat} (h:i<L.length):(L++[x]).getD i 0=L.getD i 0:=by
 rw [List.getD_eq_getElem?_getD,List.getD_eq_getElem?_getD,List.getElem?_append_left h]
theorem k7 {L:List Int} {x:Int} {i:Nat} (h:i=L.length):(L++[x]).getD i 0=x:=by
 subst h; simp [List.getD_eq_getElem?_getD]
theorem nD {L:List Int} {i:Nat} (h:i<L.length):L[i]?=some (L.getD i 0):=by
 rw [List.getD_eq_getElem?_getD,List.getElem?_eq_getElem h]; rfl
theorem Mr.one {x:Int} (h:0≤x) (h2:x≤39):Mr 0 [x] [] []:=
 ⟨rfl,rfl,rfl,fun i hi=>by (obtain rfl:i=0:=by omega); simp; omega,fun i hi=>by omega,fun i hi=>by omega,fun i hi=>by omega⟩
theorem Mr.snoc {n:Nat} {S I O:List Int} (h:Mr n S I O) {x y a:Int} (ha:a=S.getD n 0) (hx:0≤x∧x≤9) (hy:0≤y∧y≤12) (hd:y≤a+x):Mr (n+1) (S++[a+x-y]) (I++[x]) (O++[y]):=by
 subst ha
 have h1:=h.ls
 have h2:=h.li
 have h3:=h.lo
 refine ⟨by simp [h1],by simp [h2],by simp [h3],fun i hi=>?_,fun i hi=>?_,fun i hi=>?_,fun i hi=>?_⟩
 ·rcases Nat.lt_or_ge i (n+1) with hh | hh
  ·rw [fW (by omega)]; exact h.s i (by omega)
  ·rw [k7 (by omega)]; have:=h.s n (by omega); omega
 ·rcases Nat.lt_or_ge i n with hh | hh
  ·rw [fW (by omega)]; exact h.i i hh
  ·rw [k7 (by omega)]; exact hx
 ·rcases Nat.lt_or_ge i n with hh | hh
  ·rw [fW (by omega)]; exact h.o i hh
  ·rw [k7 (by omega)]; exact hy
 ·rcases Nat.lt_or_ge i n with hh | hh
  ·rw [fW (by omega),fW (by omega),fW (by omega),fW (by omega)]; exact h.PY i hh
  ·obtain rfl:i=n:=by omega
   rw [k7 (by omega),fW (by omega),k7 (by omega),k7 (by omega)]
theorem cu.at {es:Nat} {ty:TypeId} {σ:St} {L:List AV} {id g n:Nat} (h:cu es ty σ L (.sl id g es 0 n)):id<σ.n∧n=L.length∧σ.ob id=some ⟨g,es,ty,false,true,L⟩:=by
 rcases h with ⟨h,_⟩ | ⟨id,g,h,h2,h3⟩
 ·cases h
 ·cases h; exact ⟨h2,rfl,h3⟩
theorem yw (σ:St) (id g:Nat) (t:List Int) (at':Nat) (hl:t.length≤9223372036854775807) (hid:id<σ.n) (hob:σ.ob id=some ⟨g,2,aA,false,true,[bA t at']⟩) :
  HC prog Ae [.ptr id g 2 0 0] σ (ej σ id g t fun r=>∃ n S I O,r=.tuple [.list 1 (ints S),.list 1 (ints I),.list 1 (ints O)]∧Mr n S I O∧1≤n∧n≤5):=by
 refine HC.wU hid ?_
 obtain ⟨dH,n0,c0⟩:=σ
 simp only at hob hid
 refine aL A7 (by simp) ?_
 simp only [qK,go_sem,↓reduceIte,reduceCtorEq]
 have h0:¬id=n0:=by omega
 have h1:¬id=n0+1:=by omega
 have h2:¬n0=id:=by omega
 refine aM (ai _ id g aA true t at' 40 (by try simp (disch:=omega) only [go_sem]; exact hob) (by omega) hl) ?_
 have hx1:=aI t at' 40
 generalize bf t at' 40=dr at *
 obtain ⟨x1,at1⟩:=dr
 simp only at hx1
 try simp (disch:=omega) only [go_sem,↓reduceIte,reduceCtorEq]
 refine aM (ai _ id g aA true t at1 5 (by try simp (disch:=omega) only [go_sem,↓reduceIte,h0]) (by omega) hl) ?_
 have hx2:=aI t at1 5
 generalize bf t at1 5=dr at *
 obtain ⟨x2,at2⟩:=dr
 simp only at hx2
 try simp (disch:=omega) only [go_sem,↓reduceIte]
 obtain ⟨K,hK⟩:∃ K:Nat,(K:Int)=x2∧K≤4:=⟨x2.toNat,by omega,by omega⟩
 obtain ⟨rfl,hK⟩:=hK
 have hx:0≤x1∧x1≤39:=by omega
 refine aW [5,6,7,8,9,10,11,17,18,19,20,21,22,23,24,25,26,27,28,29,30,31,32,33,34,35,36,37,38,39,40,41,42,43,44,45,46,47,48,49,50,51] (by kernel_rfl) (K+1) (fun k e σ=>e 8=.int .i64 ((K:Int)-k)∧(∃ a,σ.ob id=some ⟨g,2,aA,false,true,[bA t a]⟩)∧(∀ i,i<n0→i≠id→σ.ob i=dH i)∧∃ S I O,Mr k S I O∧vL σ (e 5) (e 6) (e 7) S I O n0) ?_ ?_
 ·refine ⟨(by first | rfl | (simp (disch:=omega) only [go_sem,jA,jB,jC,jD,jE,jF,jG,jH,jI,jJ,↓reduceIte,reduceCtorEq,jP,jO,jM,jN]; try rfl)),⟨at2,by try simp (disch:=omega) only [go_sem,↓reduceIte]⟩,fun i hi hne=>?_,[x1],[],[],Mr.one hx.1 hx.2,?_⟩
  ·have:¬i=n0:=by omega
   try simp (disch:=omega) only [go_sem,↓reduceIte,hne,this]
  ·try simp (disch:=omega) only [go_sem,jF,↓reduceIte]
   exact ⟨.inr ⟨n0,c0,rfl,by simp only; omega,by simp [bd,ints,h2]⟩,.nil,.nil,fun i hi=>aY.sl (by omega),fun i _=>aY.nil i,fun i _=>aY.nil i,(Dj.nil _).symm,(Dj.nil _).symm,Dj.nil _⟩
 rintro k fe ob m c hk hm ⟨h8,⟨at3,hd⟩,hfr,S,I,O,hH,hT⟩
 simp (maxSteps:=1000000) only [go_sem,jF,↓reduceIte] at h8 hd hfr hT hm
 obtain ⟨X5,h5⟩:∃ X,fe 5=X:=⟨_,rfl⟩
 obtain ⟨X6,h6⟩:∃ X,fe 6=X:=⟨_,rfl⟩
 obtain ⟨X7,h7⟩:∃ X,fe 7=X:=⟨_,rfl⟩
 rw [h5,h6,h7] at hT
 try simp (disch:=omega) only [go_sem,jF,↓reduceIte,h8]
 refine ah (fun hge=>?_) (fun hlt=>?_)
 ·have hkl:k<K+1:=by omega
  try simp (disch:=omega) only [go_sem,↓reduceIte,reduceCtorEq]
  refine aM (ai _ id g aA true t at3 10 hd (by omega) hl) ?_
  have hx4:=aI t at3 10
  generalize bf t at3 10=dr at *
  obtain ⟨x,at4⟩:=dr
  simp only at hx4
  have hq1:=hT.o8 id hid
  have r8:=hT.r8
  rcases r8 with ⟨-,hnil⟩ | ⟨id8,g8,rfl,hid8,hidob⟩
  ·have:=hH.ls; have h9:=au S; rw [hnil] at h9; simp at h9; omega
  have e1:¬id8=id:=hq1.ne
  have hS:=hH.ls
  have hlen:(ints S).length=k+1:=by rw [au,hS]
  rw [hlen] at h5 hT
  simp only at hidob
  try simp (disch:=omega) only [go_sem,jF,jH,↓reduceIte,reduceCtorEq,jO,jM,h5]
  rw [show ((k+1:Nat):Int)-1=(k:Int) by omega]
  have e2:S[k]?=some (S.getD k 0):=nD (by omega)
  have hs:=hH.s k (by omega)
  try simp (disch:=omega) only [go_sem,jF,↓reduceIte,jO,hidob,bD,e2,Option.map_some]
  refine ⟨by omega,by omega,?_⟩
  refine aM (ai _ id g aA true t at4 _ (by try simp (disch:=omega) only [go_sem,↓reduceIte]) (by omega) hl) ?_
  have hx5:=aI t at4 (min (S.getD k 0+x) 12+1)
  generalize bf t at4 (min (S.getD k 0+x) 12+1)=dr at *
  obtain ⟨y,at5⟩:=dr
  simp only at hx5
  have hy:0≤y∧y≤12∧y≤S.getD k 0+x:=by omega
  have hH2:=hH.snoc (x:=x) (y:=y) rfl (by omega) (by omega) hy.2.2
  have hI:=hH.li
  have hO:=hH.lo
  try simp (disch:=omega) only [go_sem,jF,↓reduceIte,h6]
  refine C1 (q:=n0) (A:=S) (B:=I) (C:=O) (X8:=.sl id8 g8 1 0 (k+1)) (X10:=X7) (hT.mv (Nat.le_refl _) fun i hi _=>?_) (by simp only; omega) (by omega) (by omega) fun Y6 τ6 hT6 hK6 hf6=>?_
  ·simp only; rw [aa _ _ _ _ (by omega),aa _ _ _ _ (by omega)]
  have hn6:=hK6.1
  simp only at hn6
  try simp (disch:=omega) only [go_sem,jF,↓reduceIte,h7]
  refine Bb (b:=8) hT6 (by omega) (by omega) (by omega) fun Y7 τ7 hT7 hK7 hf7=>?_
  have hn7:=hK7.1
  obtain ⟨q1,q2,q3⟩:=hT7.r8.at
  try simp (disch:=omega) only [go_sem,jF,↓reduceIte,jO,q3,hlen]
  refine ⟨by rw [n4]; omega,by omega,?_⟩
  have hT5:vL (τ7.renew id8 ⟨g8,1,3,false,true,ints S⟩ (ints S++[.int .i64 (S.getD k 0+x-y)])) (.sl id8 τ7.c 1 0 (k+1+1)) Y6 Y7 (S++[S.getD k 0+x-y]) (I++[x]) (O++[y]) n0:=
   hT7.UN (Nat.le_refl _) hT7.Hw q1 (by omega) (by simp [St.renew,bd]) fun i _ hne=>by simp only [St.renew]; rw [aa _ _ _ _ hne]
  have hn5:τ7.n≤(τ7.renew id8 ⟨g8,1,3,false,true,ints S⟩ (ints S++[.int .i64 (S.getD k 0+x-y)])).n:=Nat.le_refl _
  have hf5:∀ i,i<n0→(τ7.renew id8 ⟨g8,1,3,false,true,ints S⟩ (ints S++[.int .i64 (S.getD k 0+x-y)])).ob i=τ7.ob i:=fun i hi=>by
   have:=hT7.Hw
   simp only [St.renew]; rw [aa _ _ _ _ (by omega)]
  generalize τ7.renew id8 ⟨g8,1,3,false,true,ints S⟩ (ints S++[.int .i64 (S.getD k 0+x-y)])=τ5 at *
  have hF:∀ i,i<n0→τ5.ob i=(if i=id then some ⟨g,2,aA,false,true,[bA t at5]⟩ else ob i):=fun i hi=>by
   rw [hf5 i hi,hf7 i hi,hf6 i hi]
   simp only [bd]
   split <;> rfl
  try simp (disch:=omega) only [go_sem,jA,jB,jC,jD,jE,jF,jG,jH,jI,jJ,↓reduceIte,reduceCtorEq,jO,jM,jN,jK,jL,h8]
  refine aG τ5.n hkl (by omega) ⟨by try simp (disch:=omega) only [go_sem,↓reduceIte]; congr 1; omega,⟨at5,?_⟩,fun i hi hne=>?_,_,_,_,hH2,?_⟩
  ·simp only [St.aD]; rw [if_pos (by omega),hF id hid,if_pos rfl]
  ·simp only [St.aD]; rw [if_pos (by omega),hF i hi,if_neg hne]; exact hfr i hi hne
  ·try simp (disch:=omega) only [go_sem,jF,↓reduceIte]
   exact hT5.mv (Nat.le_refl _) fun i _ hi=>by simp [St.aD,hi]
 ·try simp (disch:=omega) only [go_sem,jF,↓reduceIte,h5,h6,h7]
  refine ⟨_,at3,aw.tu (.cons (hT.r8.mU (fun i hi hno=>?_) (dC _) (iN _)) (.cons (hT.r9.mU (fun i hi hno=>?_) (dC _) (iN _)) (.cons (hT.KH.mU (fun i hi hno=>?_) (dC _) (iN _)) .nil))),⟨k,S,I,O,rfl,hH,by omega,by omega⟩,hd,hfr⟩
  ·simp only; rw [if_neg fun h=>hno (hT.o8 i h)]
  ·simp only; rw [if_neg fun h=>hno (hT.o9 i h)]
  ·simp only; rw [if_neg fun h=>hno (hT.LF i h)]
def Cg (x:Int) (b:Bd):Prop:=0≤b.lo∧b.lo≤x∧x≤b.hi∧b.hi≤x+30
structure IE (L:List Int) (B:List Bd):Prop where
 ln:B.length=L.length
 b:∀ i,i<L.length→Cg (L.getD i 0) (gB B i)
theorem OU {L:List Bd} {x:Bd} {i:Nat} (h:i<L.length):gB (L++[x]) i=gB L i:=by
 simp only [gB,List.getD_eq_getElem?_getD,List.getElem?_append_left h]
theorem OT {L:List Bd} {x:Bd} {i:Nat} (h:i=L.length):gB (L++[x]) i=x:=by
 subst h; simp [gB,List.getD_eq_getElem?_getD]
theorem HT {L:List Int} {k:Nat} (h:k<L.length):L.take (k+1)=L.take k++[L.getD k 0]:=by
 rw [List.take_add_one,nD h]; rfl
theorem IE.nil:IE [] []:=⟨rfl,fun i hi=>by simp at hi⟩
theorem IE.snoc {L:List Int} {B:List Bd} (h:IE L B) {x:Int} {b:Bd} (hb:Cg x b):IE (L++[x]) (B++[b]):=by
 have h1:=h.ln
 refine ⟨by simp [h1],fun i hi=>?_⟩
 rcases Nat.lt_or_ge i L.length with hh | hh
 ·rw [fW hh,OU (by omega)]; exact h.b i hh
 ·simp only [List.length_append,List.length_cons,List.length_nil] at hi
  rw [k7 (by omega),OT (by omega)]; exact hb
theorem fU (σ:St) (id g:Nat) (t:List Int) (at':Nat) (x:Int) (hl:t.length≤9223372036854775807) (hid:id<σ.n) (hob:σ.ob id=some ⟨g,2,aA,false,true,[bA t at']⟩) (hx0:0≤x) (hx1:x≤1000) :
  HC prog BL [.ptr id g 2 0 0,.int .i64 x] σ (ej σ id g t fun r=>∃ b,r=pz b∧Cg x b):=by
 refine HC.wU hid ?_
 obtain ⟨dH,n0,c0⟩:=σ
 simp only at hob hid
 refine aL Ce (by simp) ?_
 simp only [sN,go_sem,↓reduceIte,reduceCtorEq]
 have h0:¬id=n0:=by omega
 have h2:¬n0=id:=by omega
 have fin:∀ (ob':Nat→Option aU) (c':Nat) (b:Bd) (at2:Nat),ob' id=some ⟨g,2,aA,false,true,[bA t at2]⟩→Cg x b→(∀ i,i<n0→i≠id→ob' i=dH i)→C2 ⟨dH,n0,c0⟩ id g t (fun r=>∃ b,r=pz b∧Cg x b) (.agg [.int .i64 b.lo,.int .i64 b.hi]) ⟨ob',n0+1,c'⟩:=
  fun ob' c' b at2 h1 h2 h3=>⟨_,at2,.pure rfl,⟨b,rfl,h2⟩,h1,h3⟩
 refine aM (ai _ id g aA true t at' 4 (by try simp (disch:=omega) only [go_sem,↓reduceIte,h0]; exact hob) (by omega) hl) ?_
 have hy1:=aI t at' 4
 generalize bf t at' 4=dr at *
 obtain ⟨x1,at1⟩:=dr
 try simp (disch:=omega) only [go_sem,↓reduceIte]
 refine ah (fun g1=>?_) (fun g1=>?_)
 ·try simp (disch:=omega) only [go_sem,jF,jG,jH,↓reduceIte,reduceCtorEq,h2]
  exact fin _ _ ⟨x,x⟩ at1 (by try simp (disch:=omega) only [go_sem,↓reduceIte,h0]) (by simp only [Cg]; omega) (fun i hi hi2=>by
   have j0:¬i=n0:=by omega
   try simp (disch:=omega) only [go_sem,↓reduceIte,j0,hi2])
 try simp (disch:=omega) only [go_sem,jF,↓reduceIte]
 refine ah (fun g2=>?_) (fun g2=>?_)
 ·try simp (disch:=omega) only [go_sem,jF,↓reduceIte,reduceCtorEq]
  refine aM (ai _ id g aA true t at1 30 (by try simp (disch:=omega) only [go_sem,↓reduceIte]) (by omega) hl) ?_
  have hy2:=aI t at1 30
  generalize bf t at1 30=dr at *
  obtain ⟨x2,at2⟩:=dr
  simp only at hy2
  try simp (disch:=omega) only [go_sem,jF,jG,jH,↓reduceIte,jO,h2]
  exact fin _ _ ⟨0,x+x2⟩ at2 (by try simp (disch:=omega) only [go_sem,↓reduceIte,h0]) (by simp only [Cg]; omega) (fun i hi hi2=>by
   have j0:¬i=n0:=by omega
   try simp (disch:=omega) only [go_sem,↓reduceIte,j0,hi2])
 try simp (disch:=omega) only [go_sem,jF,↓reduceIte,reduceCtorEq,jO]
 refine aM (ai _ id g aA true t at1 _ (by try simp (disch:=omega) only [go_sem,↓reduceIte]) (by omega) hl) ?_
 have hy2:=aI t at1 (min x 6+1)
 generalize bf t at1 (min x 6+1)=dr at *
 obtain ⟨x2,at2⟩:=dr
 simp only at hy2
 try simp (disch:=omega) only [go_sem,jF,↓reduceIte,reduceCtorEq,jO]
 refine aM (ai _ id g aA true t at2 6 (by try simp (disch:=omega) only [go_sem,↓reduceIte]) (by omega) hl) ?_
 have hy3:=aI t at2 6
 generalize bf t at2 6=dr at *
 obtain ⟨x3,at3⟩:=dr
 simp only at hy3
 try simp (disch:=omega) only [go_sem,jF,jG,jH,↓reduceIte,jO,h2]
 exact fin _ _ ⟨x-x2,x+x3⟩ at3 (by try simp (disch:=omega) only [go_sem,↓reduceIte,h0]) (by simp only [Cg]; omega) (fun i hi hi2=>by
  have j0:¬i=n0:=by omega
  try simp (disch:=omega) only [go_sem,↓reduceIte,j0,hi2])
def T5 (σ:St) (id g:Nat) (t:List Int) (L:List Int) (r:AV) (τ:St):Prop:=
 ∃ B,IE L B∧cu 2 24 τ (cr B) r∧(∀ i,i<σ.n→aY r i)∧σ.n≤τ.n∧(∃ a,τ.ob id=some ⟨g,2,aA,false,true,[bA t a]⟩)∧∀ i,i<σ.n→i≠id→τ.ob i=σ.ob i
theorem oD (σ:St) (id g:Nat) (t:List Int) (at':Nat) (L:List Int) (hl:t.length≤9223372036854775807) (hid:id<σ.n) (hob:σ.ob id=some ⟨g,2,aA,false,true,[bA t at']⟩) (hL:L.length≤100) (hx:∀ i,i<L.length→0≤L.getD i 0∧L.getD i 0≤1000) :
  HC prog E7 [.ptr id g 2 0 0,.list 1 (ints L)] σ (T5 σ id g t L):=by
 obtain ⟨dH,n0,c0⟩:=σ
 simp only at hob hid
 refine aL FQ (by simp) ?_
 simp only [xK,go_sem,jF,↓reduceIte,reduceCtorEq,au]
 refine aW [5,7,10,11,12,13,14,15,16,17,18,19,20] (by kernel_rfl) L.length (fun k e σ=>e 10=.int .i64 k∧(∃ a,σ.ob id=some ⟨g,2,aA,false,true,[bA t a]⟩)∧(∀ i,i<n0→i≠id→σ.ob i=dH i)∧∃ B,IE (L.take k) B∧cu 2 24 σ (cr B) (e 5)∧∀ i,i<n0→aY (e 5) i) ?_ ?_
 ·exact ⟨(by first | rfl | (simp (disch:=omega) only [go_sem,jA,jB,jC,jD,jE,jF,jG,jH,jI,jJ,↓reduceIte,reduceCtorEq,jP,jO,jM,jN]; try rfl)),⟨at',hob⟩,fun i hi hne=>rfl,[],IE.nil,by try simp (disch:=omega) only [go_sem,jF,↓reduceIte]; exact .nil,fun i _=>by try simp (disch:=omega) only [go_sem,jF,↓reduceIte]; exact aY.nil i⟩
 rintro k fe ob m c hk hm ⟨h10,⟨at3,hd⟩,hfr,B,hB,hR,ho⟩
 simp (maxSteps:=1000000) only [go_sem,jF,↓reduceIte] at h10 hd hfr hR ho hm
 obtain ⟨X5,h5⟩:∃ X,fe 5=X:=⟨_,rfl⟩
 rw [h5] at hR ho
 try simp (disch:=omega) only [go_sem,jF,↓reduceIte,h10]
 refine ah (fun hlt=>?_) (fun hge=>?_)
 ·have hkl:k<L.length:=by omega
  have e1:=nD hkl
  have hxk:=hx k hkl
  have hts:=HT hkl
  generalize L.getD k 0=x at *
  try simp (disch:=omega) only [go_sem,jF,jH,↓reduceIte,reduceCtorEq,au,bD,e1,Option.map_some]
  refine ⟨by omega,by omega,?_⟩
  refine (fU _ id g t at3 x hl (by simp only; omega) hd hxk.1 hxk.2).mono ?_
  intro r τ hD
  obtain ⟨⟨b,rfl,hb⟩,hn,⟨at4,hd4⟩,hf4⟩:=hD.use (by simp only; omega)
  obtain ⟨ob4,m4,c4⟩:=τ
  simp only at hn hd4 hf4
  subst hn
  try simp (disch:=omega) only [go_sem,jF,↓reduceIte,h5]
  have hBl:B.length=k:=by rw [hB.ln]; simp; omega
  refine ⟨⟨rfl,rfl,rfl⟩,?_⟩
  refine bH (b:=16) (hR.move (by exact Nat.le_refl _) fun i hi hno=>hf4 i hi fun e=>hno (e ▸ ho id hid)) (by rw [aH]; omega) (by rw [aH]; omega) fun Y τ5 hR5 hK5=>?_
  have hn5:=hK5.1
  simp only at hn5
  try simp (disch:=omega) only [go_sem,jF,↓reduceIte,jO]
  refine aG τ5.n hkl (by omega) ⟨(by first | rfl | (simp (disch:=omega) only [go_sem,jA,jB,jC,jD,jE,jF,jG,jH,jI,jJ,↓reduceIte,reduceCtorEq,jP,jO,jM,jN]; try rfl)),⟨at4,?_⟩,fun i hi hne=>?_,B++[b],?_,?_,fun i hi=>?_⟩
  ·simp only [St.aD]; rw [if_pos (by omega),hK5.2.1 id (by simp only; omega) (ho id hid)]; exact hd4
  ·simp only [St.aD]; rw [if_pos (by omega),hK5.2.1 i (by simp only; omega) (ho i hi)]
   exact (hf4 i (by omega) hne).trans (hfr i hi hne)
  ·rw [hts]; exact hB.snoc hb
  ·try simp (disch:=omega) only [go_sem,jF,↓reduceIte,J5]
   exact hR5.move (Nat.le_refl _) fun i hi _=>by simp [St.aD,hi]
  ·try simp (disch:=omega) only [go_sem,jF,↓reduceIte]; exact hK5.2.2 i (by simp only; omega) (ho i hi)
 ·try simp (disch:=omega) only [go_sem,jF,↓reduceIte,h5]
  obtain rfl:L.length=k:=by omega
  rw [List.take_length] at hB
  exact ⟨B,hB,hR,ho,hm,⟨at3,hd⟩,hfr⟩
end Go.Proofs.Try
