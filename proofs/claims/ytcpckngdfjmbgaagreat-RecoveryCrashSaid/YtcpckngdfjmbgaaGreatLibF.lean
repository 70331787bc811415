/- OWN WORK, put together by tools/asm.py, seat.py, mini.py. -/
import Derived.Test.YtcpckngdfjmbgaaGreatLibE
set_option linter.unusedSimpArgs false
set_option linter.unusedVariables false
set_option maxRecDepth 100000
set_option maxHeartbeats 1000000
namespace Go.Proofs.Try
open Go.Ab Go Go.Proofs.Tryz
open Int renaming reduceEq → jA, reduceLT → jB, reduceLE → jC, reduceToNat → jD
open Go.Ab renaming iD → jM, iE → jN, lF → jO, iF → jP
open Nat renaming reduceLT → jE, reduceEqDiff → jF, reduceAdd → jG, reduceLeDiff → jH, reduceSub → jI, reduceMul → jJ, sub_zero → jK, sub_self → jL
inductive MP (σ:St):AV→AV→Prop
 | same (a:AV):MP σ a a
 | mL {a b:AV} (h:aA σ a b):MP σ a b
 | agg {cs ds:List AV} (h5:cs.length=ds.length) (h6:∀ (i:Nat) (x y:AV),cs[i]?=some x→ds[i]?=some y→MP σ x y):MP σ (.agg cs) (.agg ds)
 | tuple {cs ds:List AV} (h5:cs.length=ds.length) (h6:∀ (i:Nat) (x y:AV),cs[i]?=some x→ds[i]?=some y→MP σ x y):MP σ (.tuple cs) (.tuple ds)
inductive F2 (σ:St):List AV→List AV→Prop
 | nil:F2 σ [] []
 | cons {a b:AV} {l r:List AV} (h:MP σ a b) (k:F2 σ l r):F2 σ (a :: l) (b :: r)
theorem F2.get {σ:St} {l r:List AV} (h:F2 σ l r):l.length=r.length∧∀ (i:Nat) (x y:AV),l[i]?=some x→r[i]?=some y→MP σ x y:=by
 induction h with
 | nil=>exact ⟨rfl,fun i x y h=>by simp at h⟩
 | cons h k ih=>
  refine ⟨by simp [ih.1],fun i x y hx hy=>?_⟩
  cases i with
  | zero=>simp at hx hy; subst hx; subst hy; exact h
  | succ i=>exact ih.2 i x y (by simpa using hx) (by simpa using hy)
theorem F2.app {σ:St} {l r l' r':List AV} (h:F2 σ l r) (k:F2 σ l' r'):F2 σ (l++l') (r++r'):=by
 induction h with
 | nil=>exact k
 | cons h _ ih=>exact .cons h ih
theorem F2.refl {σ:St}:∀ l:List AV,F2 σ l l
 | []=>.nil
 | _ :: l=>.cons (.same _) (F2.refl l)
theorem MP.ag {σ:St} {l r:List AV} (h:F2 σ l r):MP σ (.agg l) (.agg r):=.agg h.get.1 h.get.2
theorem MP.tu {σ:St} {l r:List AV} (h:F2 σ l r):MP σ (.tuple l) (.tuple r):=.tuple h.get.1 h.get.2
def MO (σ:St) (o o2:aS):Prop:=o2=o∨(o2={ o with l:=o2.l }∧mh o.es o2.l∧o2.l.length=o.l.length∧F2 σ (aJ o.l) (aJ o2.l))
theorem MO.g {σ:St} {o o2:aS} (h:MO σ o o2):o2.g=o.g:=by
 rcases h with rfl | ⟨h,_⟩
 ·rfl
 ·rw [h]
theorem MO.ro {σ:St} {o o2:aS} (h:MO σ o o2):o2.ro=o.ro:=by
 rcases h with rfl | ⟨h,_⟩
 ·rfl
 ·rw [h]
structure Hv (σ:St) (lo:Nat) (X:AV) (Es:List AV):Prop where
 low:∀ i,¬aU X i→lo≤i∧i<σ.n
 Eh:∀ E∈Es,∀ i,¬aU E i→lo≤i∧i<σ.n
 sep:∀ E∈Es,∀ i,¬aU E i→aU X i
 dj:∀ (a b:Nat) (E F:AV),a≠b→Es[a]?=some E→Es[b]?=some F→∀ i,¬aU E i→aU F i
theorem Hv.nil (σ:St) (lo:Nat):Hv σ lo .nil []:=⟨fun i h=>absurd (aU.nil i) h,fun _ h=>(by cases h),fun _ h=>(by cases h),fun a b E F _ h=>(by simp at h)⟩
theorem ta {α:Type} {l:List α} {x y:α} {a:Nat} (h:(l++[x])[a]?=some y):(a<l.length∧l[a]?=some y)∨(a=l.length∧y=x):=by
 by_cases ha:a<l.length
 ·rw [List.getElem?_append_left ha] at h; exact .inl ⟨ha,h⟩
 ·rw [List.getElem?_append_right (by omega)] at h
  obtain ⟨h1,h2⟩:=List.getElem?_eq_some_iff.1 h
  simp at h1
  have h3:a=l.length:=by omega
  subst h3
  simp at h2
  exact .inr ⟨rfl,h2.symm⟩
theorem Hv.snoc {σ τ ρ:St} {lo:Nat} {X X' E:AV} {Es:List AV} (h:Hv σ lo X Es) (hlo:lo≤σ.n) (hn:σ.n≤τ.n) (hE:∀ i,¬aU E i→σ.n≤i∧i<τ.n) (k:Kp τ X ρ X') (hX:∀ i,ρ.n≤i→aU X' i):Hv ρ lo X' (Es++[E]):=by
 obtain ⟨k1,k2,k3⟩:=k
 have hEs:∀ F∈Es,∀ i,¬aU F i→i<σ.n:=fun F hF i hi=>(h.Eh F hF i hi).2
 refine ⟨fun i hi=>?_,fun F hF i hi=>?_,fun F hF i hi=>?_,fun a b F G hab hF hG i hi=>?_⟩
 ·refine ⟨?_,Nat.lt_of_not_le fun hh=>hi (hX i hh)⟩
  by_cases h1:i<τ.n
  ·exact (h.low i fun h2=>hi (k3 i h1 h2)).1
  ·omega
 ·rcases List.mem_append.1 hF with hF | hF
  ·have:=h.Eh F hF i hi; omega
  ·obtain rfl:F=E:=by simpa using hF
   have:=hE i hi; omega
 ·rcases List.mem_append.1 hF with hF | hF
  ·exact k3 i (by have:=hEs F hF i hi; omega) (h.sep F hF i hi)
  ·obtain rfl:F=E:=by simpa using hF
   have:=hE i hi
   exact k3 i this.2 (aU.em fun h2=>by have:=(h.low i h2).2; omega)
 ·rcases ta hF with ⟨_,hF2⟩ | ⟨ha,rfl⟩ <;> rcases ta hG with ⟨_,hG2⟩ | ⟨hb,rfl⟩
  ·exact h.dj a b F G hab hF2 hG2 i hi
  ·exact aU.em fun h2=>by have:=hE i h2; have:=hEs F (List.mem_of_getElem? hF2) i hi; omega
  ·exact aU.em fun h2=>by have:=hE i hi; have:=hEs G (List.mem_of_getElem? hG2) i h2; omega
  ·omega
theorem Hv.up {σ τ:St} {lo:Nat} {X:AV} {Es:List AV} (h:Hv σ lo X Es) (hn:σ.n≤τ.n):Hv τ lo X Es:=
 ⟨fun i hi=>⟨(h.low i hi).1,Nat.lt_of_lt_of_le (h.low i hi).2 hn⟩,fun E hE i hi=>⟨(h.Eh E hE i hi).1,Nat.lt_of_lt_of_le (h.Eh E hE i hi).2 hn⟩,h.sep,h.dj⟩
def IC (es:Nat) (ty:TypeId) (σ:St) (Es:List AV) (Ls:List (List AV)):Prop:=Es.length=Ls.length∧∀ (i:Nat) (E:AV) (L:List AV),Es[i]?=some E→Ls[i]?=some L→cd es ty σ L E
theorem IC.nil (es:Nat) (ty:TypeId) (σ:St):IC es ty σ [] []:=⟨rfl,fun i E L h=>by simp at h⟩
theorem IC.move {es:Nat} {ty:TypeId} {σ τ:St} {Es:List AV} {Ls:List (List AV)} (h:IC es ty σ Es Ls) (hn:σ.n≤τ.n) (ho:∀ E∈Es,∀ i,¬aU E i→i<σ.n→τ.ob i=σ.ob i):IC es ty τ Es Ls:=
 ⟨h.1,fun i E L hE hL=>(h.2 i E L hE hL).move hn fun j hj hh=>ho E (List.mem_of_getElem? hE) j hh hj⟩
theorem IC.snoc {es:Nat} {ty:TypeId} {σ:St} {Es:List AV} {Ls:List (List AV)} {E:AV} {L:List AV} (h:IC es ty σ Es Ls) (k:cd es ty σ L E):IC es ty σ (Es++[E]) (Ls++[L]):=by
 refine ⟨by simp [h.1],fun i F M hF hM=>?_⟩
 rcases ta hF with ⟨h1,hF⟩ | ⟨h1,rfl⟩ <;> rcases ta hM with ⟨h2,hM⟩ | ⟨h2,rfl⟩
 ·exact h.2 i F M hF hM
 ·have:=h.1; omega
 ·have:=h.1; omega
 ·exact k
theorem cd.up {es:Nat} {ty:TypeId} {σ τ:St} {L:List AV} {X:AV} (h:cd es ty σ L X) (hn:σ.n≤τ.n) (ho:∀ i,i<σ.n→¬aU X i→τ.ob i=σ.ob i):cd es ty τ L X:=h.move hn ho
theorem cd.lt {es:Nat} {ty:TypeId} {σ:St} {L:List AV} {X:AV} (h:cd es ty σ L X) {i:Nat} (hi:¬aU X i):i<σ.n:=Nat.lt_of_not_le fun hh=>hi (h.G0 hh)
theorem KR {es:Nat} {ty:TypeId} {σ τ:St} {L M:List AV} {X:AV} (h:cd es ty σ L X) (ho:∀ i,i<σ.n→¬aU X i→τ.ob i=σ.ob i) (hl:L.length=M.length)
  (hp:∀ (i:Nat) (x y:AV),L[i]?=some x→M[i]?=some y→aA τ x y) (hk:∀ x∈M,mi es x):aA τ X (.list es M):=by
 rcases h with ⟨rfl,rfl⟩ | ⟨id,g,rfl,h2,h3⟩
 ·obtain rfl:M=[]:=List.eq_nil_of_length_eq_zero (by simpa using hl.symm)
  exact .nl es
 ·exact .sl ((ho id h2 fun h=>h _ _ _ _ rfl).trans h3) rfl rfl (by simp) (by simpa using hl) (by simpa using hp) hk
theorem IC.mL {es:Nat} {ty:TypeId} {σ τ:St} {Es:List AV} {Ls:List (List AV)} (h:IC es ty σ Es Ls) (ho:∀ E∈Es,∀ i,i<σ.n→¬aU E i→τ.ob i=σ.ob i)
  (hp:∀ L∈Ls,∀ x∈L,x.cG=true) (hk:∀ L∈Ls,∀ x∈L,mi es x):∀ (i:Nat) (E:AV) (L:List AV),Es[i]?=some E→Ls[i]?=some L→aA τ E (.list es L):=fun i E L hE hL=>
 (h.2 i E L hE hL).mL (ho E (List.mem_of_getElem? hE)) (hp L (List.mem_of_getElem? hL)) (hk L (List.mem_of_getElem? hL))
structure Pn where
 id:Int
 role:Int
 key:Int
 deriving DecidableEq,Inhabited
structure Dv where
 id:Int
 site:Int
 fr:Int
 to:Int
 rel:Int
 sg:List Int
 wd:Bool
 deriving DecidableEq,Inhabited
structure Dk where
 ps:List Pn
 nx:Int
 ds:List Dv
 deriving DecidableEq
def rh (p:Pn):AV:=.agg [.int .i64 p.id,.int .i64 p.role,.int .i64 p.key]
def pv (l:List Pn):List AV:=l.map rh
def jY (d:Dv) (E:AV):AV:=.agg [.int .i64 d.id,.int .i64 d.site,.int .i64 d.fr,.int .i64 d.to,.int .i64 d.rel,E,.bool d.wd]
def jo (d:Dv):AV:=jY d (.list 1 (ints d.sg))
def xA (l:List Dv):List AV:=l.map jo
def bY (K:Dk):AV:=.agg [.list 3 (pv K.ps),.int .i64 K.nx,.list 7 (xA K.ds)]
def BB:Pn:=⟨0,0,0⟩
def wS:Dk:=⟨[],0,[]⟩
theorem ba (l:List Pn):(pv l).length=l.length:=by simp [pv]
theorem jR (l:List Pn) (i:Nat):(pv l)[i]?=(l[i]?).map rh:=by simp [pv]
theorem CA (l:List Pn):∀ x∈pv l,x.cG=true:=by simp [pv,rh,go_sem]
theorem Fl (l:List Pn):∀ x∈pv l,mi 3 x:=by simp [pv,rh,mi,go_sem]
theorem aV (l:List Dv):(xA l).length=l.length:=by simp [xA]
theorem ek (l:List Dv) (i:Nat):(xA l)[i]?=(l[i]?).map jo:=by simp [xA]
theorem qC (d:Dv):(jo d).cG=true:=by simp [jo,jY,go_sem]
theorem Lg (l:List Dv):∀ x∈xA l,x.cG=true:=by simp [xA,qC]
theorem I4 (l:List Dv):∀ x∈xA l,mi 7 x:=by simp [xA,jo,jY,mi,go_sem]
theorem en (K:Dk):(bY K).cG=true:=by simp [bY,go_sem]
def T5:Dv:=⟨0,0,0,0,0,[],false⟩
theorem zJ:AV.agg [.int .i64 0,.int .i64 0,.int .i64 0,.int .i64 0,.int .i64 0,.nil,.bool false]=jY T5 .nil:=rfl
theorem C4 (d e:Dv):iG 0 (jo d) (jY e .nil)=jo d:=rfl
theorem QH (d:Dv):(jo d).flat=true:=rfl
theorem C6 (d:Dv):(jo d).cells.length=7:=rfl
theorem I3 (d:Dv):AV.agg ((jo d).cells.take 7)=jo d:=rfl
theorem SC (d:Dv):AV.agg (((jo d).cells.drop 0).take 7)=jo d:=rfl
theorem vW (d:Dv):(jo d).cells.take 7=(jo d).cells:=rfl
theorem vX (d:Dv):AV.agg (jo d).cells=jo d:=rfl
theorem C5 (d:Dv):(jo d).cells.all AV.one=true:=rfl
theorem BY (d:Dv):(jo d).cells.getD 0 .bA=.int .i64 d.id:=rfl
theorem QJ (d:Dv):(jo d).cells.getD 3 .bA=.int .i64 d.to:=rfl
theorem QI (d:Dv):(jo d).cells.getD 6 .bA=.bool d.wd:=rfl
def gL (x a b:Int):Bool:=decide (a≤x)&&decide (x≤b)
def p7:Int→List Int→Int
 | c,[]=>c
 | c,n :: l=>p7 ((31 * c+((n.tmod 2147483647+2147483647).tmod 2147483647)).tmod 2147483647) l
def zN (key kind:Int) (d:Dv):List Int:=[key,kind,d.id,d.site,d.fr,d.to,d.rel]
def rH (key kind:Int) (d:Dv):Int:=p7 7 (zN key kind d)
def cH (K:Dk) (id:Int):Pn × Bool:=match K.ps.find? fun p=>decide (p.id=id) with
 | some p=>(p,true)
 | none=>(BB,false)
def cE (K:Dk) (l:List Int):List Int:=l.map fun s=>(cH K s).1.role
def gC (K:Dk) (d:Dv):Bool:=
 gL d.site 0 5&&!decide (d.fr<0)&&!decide (d.to<d.fr)&&!decide (16777216<d.to)&&gL d.rel 0 1073741824&&decide (d.sg.length≤2)&&d.sg.all (fun s=>(cH K s).2)&&
 (decide (d.sg.length<2)||!decide ((cE K d.sg).getD 0 0=(cE K d.sg).getD 1 0))
def gP (l:List Pn) (i:Nat):Pn:=l.getD i default
def gD (l:List Dv) (i:Nat):Dv:=l.getD i default
theorem sL {l:List Pn} {i:Nat} (h:i<l.length):l[i]?=some (gP l i):=by simp [gP,List.getD_eq_getElem?_getD,h]
theorem ik {l:List Dv} {i:Nat} (h:i<l.length):l[i]?=some (gD l i):=by simp [gD,List.getD_eq_getElem?_getD,h]
def D7 (K:Dk) (i:Nat):Bool:=gL (gP K.ps i).id 1 1073741824&&!(decide (0<i)&&decide ((gP K.ps i).id≤(gP K.ps (i-1)).id))&&gL (gP K.ps i).role 1 9&&gL (gP K.ps i).key 1 1073741824
def D9 (K:Dk) (i:Nat):Bool:=gL (gD K.ds i).id 1 (K.nx-1)&&!(decide (0<i)&&decide ((gD K.ds i).id≤(gD K.ds (i-1)).id))&&gC K (gD K.ds i)
def cj (K:Dk):Bool:=decide (K.ps.length≤12)&&gL K.nx 1 1073741824&&decide (K.ds.length≤64)&&(List.range K.ps.length).all (D7 K)&&(List.range K.ds.length).all (D9 K)
def qa (K:Dk):Int:=if cj K then 0 else 50
def bR (K:Dk) (site fr to rel:Int):Dk × Int × Int:=
 if cj K=false then (wS,0,50) else if gL site 0 5=false then (wS,0,40) else if fr<0∨to<fr∨16777216<to then (wS,0,6) else if gL rel 0 1073741824=false then (wS,0,1) else
 if K.ds.length=64∨K.nx=1073741824 then (wS,0,10) else (⟨K.ps,K.nx+1,K.ds++[⟨K.nx,site,fr,to,rel,[],false⟩]⟩,K.nx,0)
def rb (K:Dk) (id who code now kind:Int):List Dv→Nat→Int × Pn × Int
 | [],_=>(0,BB,9)
 | d :: l,i=>if d.id≠id then rb K id who code now kind l (i+1) else if d.wd=true∨d.to<now then (0,BB,44) else if (cH K who).2=false then (0,BB,11) else
  if code≠rH (cH K who).1.key kind d then (0,BB,43) else ((i:Int),(cH K who).1,0)
def bD (K:Dk) (id who code now kind:Int):Int × Pn × Int:=if cj K=false then (0,BB,50) else rb K id who code now kind K.ds 0
def nL (K:Dk) (who role:Int):List Int→Int
 | []=>0
 | s :: l=>if s=who then 46 else if (cH K s).1.role=role then 5 else nL K who role l
def kg (K:Dk) (id who code now:Int):Dk × Int:=
 let a:=bD K id who code now 1
 if a.2.2≠0 then (wS,a.2.2) else
 let d:=gD K.ds a.1.toNat
 if d.sg.length=2 then (wS,46) else if nL K who a.2.1.role d.sg≠0 then (wS,nL K who a.2.1.role d.sg) else (⟨K.ps,K.nx,K.ds.set a.1.toNat { d with sg:=d.sg++[who] }⟩,0)
def lu (K:Dk) (id who code now:Int):Dk × Int:=
 let a:=bD K id who code now 2
 if a.2.2≠0 then (wS,a.2.2) else (⟨K.ps,K.nx,K.ds.set a.1.toNat { gD K.ds a.1.toNat with wd:=true }⟩,0)
theorem bV (x a b:Int):PC prog Fx [.int .i64 x,.int .i64 a,.int .i64 b] (.bool (gL x a b)):=by
 refine ae FY (by simp) ?_
 simp only [zR,gL]
 try simp (disch:=omega) only [go_sem,jF,↓reduceIte,reduceCtorEq]
 refine bB rfl (fun h=>?_) (fun h=>?_) <;> try simp (disch:=omega) only [go_sem,jF,↓reduceIte,reduceCtorEq]
 ·exact aA.of_eq (by simp [h]) rfl
 ·exact aA.of_eq (by simp [h]) rfl
theorem BT {α:Type} {l:List α} {q:α→Bool} {i:Nat} (hi:i<l.length) (h:(l.take i).find? q=none):(l.take (i+1)).find? q=if q l[i]=true then some l[i] else none:=by
 rw [List.take_add_one,List.getElem?_eq_getElem hi,List.find?_append,h]
 simp [List.find?_cons]
 split <;> simp_all
theorem Eo {α:Type} {l:List α} {q:α→Bool} {i:Nat} (hi:i<l.length) (h:(l.take i).find? q=none) (hq:q l[i]=true):l.find? q=some l[i]:=by
 have h1:=BT hi h
 rw [if_pos hq] at h1
 have h2:∀ x,x=some l[i]→(l.take (i+1)).find? q=x→l.find? q=x:=fun x hx h3=>by
  rw [←List.take_append_drop (i+1) l,List.find?_append,h3,hx]; rfl
 exact h2 _ rfl h1
theorem iW (K:Dk) (id:Int) (hl:K.ps.length≤9223372036854775807):PC prog yM [bY K,.int .i64 id] (.tuple [rh (cH K id).1,.bool (cH K id).2]):=by
 refine ae zV (by simp) ?_
 simp only [qb,bY]
 try simp (disch:=omega) only [go_sem,jF,jG,jH,↓reduceIte,reduceCtorEq,ba]
 refine bd [5,7,11,12,13,14,15,16,17,18,19,20] (by kernel_rfl) K.ps.length (fun i e σ=>e 11=.int .i64 i∧(K.ps.take i).find? (fun p=>decide (p.id=id))=none∧σ.ob 1=some ⟨1,3,131,false,true,[.agg [.int .i64 0,.int .i64 0,.int .i64 0]]⟩) ?_ ?_
 ·exact ⟨(by first | rfl | (simp (disch:=omega) only [go_sem,jA,jB,jC,jD,jE,jF,jG,jH,jI,jJ,↓reduceIte,reduceCtorEq,jP,jO,jM,jN]; try rfl)),rfl,by try simp (disch:=omega) only [go_sem,↓reduceIte]⟩
 rintro i fe ob m c hi hm ⟨h11,hf,h1⟩
 simp (maxSteps:=1000000) only [go_sem,jF,↓reduceIte] at h11 h1 hm
 try simp (disch:=omega) only [go_sem,jF,↓reduceIte,h11]
 refine aj (fun hlt=>?_) (fun hge=>?_)
 ·have hil:i<K.ps.length:=by omega
  have hg:K.ps[i]?=some K.ps[i]:=List.getElem?_eq_getElem hil
  have hs:=BT hil hf
  have hh:=Eo hil hf
  have hsn:(K.ps.take (i+1)).find? (fun p=>decide (p.id=id))=if decide (K.ps[i].id=id)=true then some K.ps[i] else none:=hs
  generalize K.ps[i]=p at *
  have z1:¬1=m:=by omega
  try simp (disch:=omega) only [go_sem,jF,jG,jH,↓reduceIte,reduceCtorEq,jR,hg,Option.map_some,ba,rh]
  refine ⟨by omega,by omega,?_⟩
  refine aj (fun hq=>?_) (fun hq=>?_)
  ·try simp (disch:=omega) only [go_sem,jF,jG,jH,↓reduceIte,h1,z1]
   have:cH K id=(p,true):=by rw [cH,hh (by simpa using hq)]
   rw [this]
   exact aA.pure rfl
  ·try simp (disch:=omega) only [go_sem,jF,↓reduceIte,jO]
   refine aF (m+1) hil (by omega) ⟨(by first | rfl | (simp (disch:=omega) only [go_sem,jA,jB,jC,jD,jE,jF,jG,jH,jI,jJ,↓reduceIte,reduceCtorEq,jP,jO,jM,jN]; try rfl)),?_,?_⟩
   ·rw [hsn,if_neg (by simpa using hq)]
   ·rw [aX (by omega),aa _ _ _ _ (by omega),aa _ _ _ _ (by omega)]; exact h1
 obtain rfl:i=K.ps.length:=by omega
 rw [List.take_length] at hf
 try simp (disch:=omega) only [go_sem,jF,jG,jH,↓reduceIte,h1]
 have:cH K id=(BB,false):=by rw [cH,hf]
 rw [this]
 exact aA.pure rfl
theorem s7 (x:Int):-2147483647<x.tmod 2147483647∧x.tmod 2147483647<2147483647:=by
 have h1:=Int.tmod_lt_of_pos x (b:=2147483647) (by omega)
 have h2:=Int.tmod_lt_of_pos (-x) (b:=2147483647) (by omega)
 rw [Int.neg_tmod] at h2
 omega
theorem mG (x:Int) (h:0≤x):0≤x.tmod 2147483647∧x.tmod 2147483647<2147483647:=⟨Int.tmod_nonneg _ h,(s7 x).2⟩
theorem mf (key kind:Int) (d:Dv):PC prog CP [.int .i64 key,.int .i64 kind,jo d] (.int .i64 (rH key kind d)):=by
 refine ae Dt (by simp) ?_
 simp only [uG,jo,jY]
 try simp (disch:=omega) only [go_sem,jF,jG,jH,↓reduceIte,reduceCtorEq]
 have hL:[AV.int .i64 key,.int .i64 kind,.int .i64 d.id,.int .i64 d.site,.int .i64 d.fr,.int .i64 d.to,.int .i64 d.rel]=ints (zN key kind d):=rfl
 have h7:(zN key kind d).length=7:=rfl
 rw [hL]
 generalize hLL:zN key kind d=L at *
 refine bK [7,9,24,25,26,27,28,29,30,31,32,33,34,35,36] (by kernel_rfl) 7 (fun i e _=>e 24=.int .i64 i∧∃ c,e 7=.int .i64 c∧0≤c∧c<2147483647∧rH key kind d=p7 c (L.drop i)) ?_ ?_
 ·exact ⟨(by first | rfl | (simp (disch:=omega) only [go_sem,jA,jB,jC,jD,jE,jF,jG,jH,jI,jJ,↓reduceIte,reduceCtorEq,jP,jO,jM,jN]; try rfl)),7,(by first | rfl | (simp (disch:=omega) only [go_sem,jA,jB,jC,jD,jE,jF,jG,jH,jI,jJ,↓reduceIte,reduceCtorEq,jP,jO,jM,jN]; try rfl)),by omega,by omega,by rw [rH,hLL]; rfl⟩
 rintro i fe ob c hi ⟨h24,x,hx,x0,x1,hc⟩
 simp (maxSteps:=1000000) only [go_sem,jF,↓reduceIte] at h24 hx
 try simp (disch:=omega) only [go_sem,jF,↓reduceIte,h24]
 refine aj (fun hlt=>?_) (fun hge=>?_)
 ·have hil:i<L.length:=by omega
  have hgi:=bH L i
  rw [List.getElem?_eq_getElem hil] at hgi
  rw [List.drop_eq_getElem_cons hil,p7] at hc
  generalize L[i]=n at *
  have b1:=s7 n
  generalize hy:n.tmod 2147483647=y at *
  have b2:=mG (y+2147483647) (by omega)
  generalize hz:(y+2147483647).tmod 2147483647=z at *
  have b3:=mG (31 * x+z) (by omega)
  try simp (disch:=omega) only [go_sem,jA,jF,jH,↓reduceIte,jO,hx,hgi,Option.map_some,aw,h7,hy,hz]
  exact ⟨by omega,by omega,bt (by omega) ⟨(by first | rfl | (simp (disch:=omega) only [go_sem,jA,jB,jC,jD,jE,jF,jG,jH,jI,jJ,↓reduceIte,reduceCtorEq,jP,jO,jM,jN]; try rfl)),_,(by first | rfl | (simp (disch:=omega) only [go_sem,jA,jB,jC,jD,jE,jF,jG,jH,jI,jJ,↓reduceIte,reduceCtorEq,jP,jO,jM,jN]; try rfl)),b3.1,b3.2,hc⟩⟩
 obtain rfl:i=7:=by omega
 rw [List.drop_of_length_le (by omega),p7] at hc
 try simp (disch:=omega) only [go_sem,jB,jF,↓reduceIte,hx]
 rw [hc]
 exact aA.pure rfl
theorem pC (K:Dk) (d:Dv) (hl:K.ps.length≤9223372036854775807):PC prog AK [bY K,jo d] (.bool (gC K d)):=by
 refine ae A8 (by simp) ?_
 simp only [rR,jo,jY]
 have hK:(bY K).flat=true:=by simp [bY,go_sem]
 have hKc:(bY K).cells.length=3:=rfl
 have hKp:=en K
 have hKt:AV.agg ((bY K).cells.take 3)=bY K:=rfl
 have hKd:AV.agg (((bY K).cells.drop 0).take 3)=bY K:=rfl
 have no:∀ {σ:St},gC K d=false→aA σ (.bool false) (.bool (gC K d)):=fun h=>aA.of_eq (by rw [h]) rfl
 try simp (disch:=omega) only [go_sem,jF,jG,jH,↓reduceIte,reduceCtorEq,hK,hKc]
 refine ab (bV _ _ _) (by simp [go_sem]) ?_
 cases h1:gL d.site 0 5
 ·try simp (disch:=omega) only [go_sem,jF,↓reduceIte]
  exact no (by simp [gC,h1])
 try simp (disch:=omega) only [go_sem,jF,jG,jH,↓reduceIte]
 refine bC rfl (fun h2=>?_) (fun h2=>?_) <;> try simp (disch:=omega) only [go_sem,jF,jG,jH,↓reduceIte]
 ·exact no (by simp [gC,h2])
 refine bC rfl (fun h3=>?_) (fun h3=>?_) <;> try simp (disch:=omega) only [go_sem,jF,jG,jH,↓reduceIte]
 ·exact no (by simp [gC,h3])
 refine bC rfl (fun h4=>?_) (fun h4=>?_) <;> try simp (disch:=omega) only [go_sem,jF,jG,jH,↓reduceIte]
 ·exact no (by simp [gC,h4])
 refine ab (bV _ _ _) (by simp [go_sem]) ?_
 cases h5:gL d.rel 0 1073741824
 ·try simp (disch:=omega) only [go_sem,jF,↓reduceIte]
  exact no (by simp [gC,h5])
 try simp (disch:=omega) only [go_sem,jF,jG,jH,↓reduceIte,aw]
 refine aj (fun h6=>?_) (fun h6=>?_) <;> try simp (disch:=omega) only [go_sem,jF,jG,jH,↓reduceIte,aw]
 ·exact no (by simp only [gC]; rw [decide_eq_false (show ¬d.sg.length≤2 by omega)]; simp)
 have hR:gC K d=(d.sg.all (fun s=>(cH K s).2)&&(decide (d.sg.length<2)||!decide ((cE K d.sg).getD 0 0=(cE K d.sg).getD 1 0))):=by
  simp only [gC,h1,h5,decide_eq_false h2,decide_eq_false h3,decide_eq_false h4]
  rw [decide_eq_true (show d.sg.length≤2 by omega)]; simp
 refine bd [4,5,7,8,9,46,47,48,49,50,51,52,53,54,55,56,57,58,59,60,61,62,63] (by kernel_rfl) d.sg.length (fun i e σ=>e 46=.int .i64 i∧2≤σ.n∧σ.ob 0=some ⟨0,3,44,false,true,[bY K]⟩∧(d.sg.take i).all (fun s=>(cH K s).2)=true∧∃ X,At e 5 X∧cd 1 3 σ (ints (cE K (d.sg.take i))) X∧∀ j,¬aU X j→2≤j) ?_ ?_
 ·exact ⟨(by first | rfl | (simp (disch:=omega) only [go_sem,jA,jB,jC,jD,jE,jF,jG,jH,jI,jJ,↓reduceIte,reduceCtorEq,jP,jO,jM,jN]; try rfl)),Nat.le_refl _,by try simp (disch:=omega) only [go_sem,↓reduceIte,reduceCtorEq],rfl,.nil,(by simp only [At]; try simp (disch:=omega) only [go_sem,jF,↓reduceIte]),cd.nil,fun j hj=>absurd (aU.nil j) hj⟩
 rintro i fe ob m c hi hm ⟨h46,hm2,h0,hall,X,h5X,hX,hXl⟩
 simp (maxSteps:=1000000) only [go_sem,jF,↓reduceIte,At] at h46 hm hm2 h0 h5X
 try simp (disch:=omega) only [go_sem,jF,↓reduceIte,h46]
 refine aj (fun hlt=>?_) (fun hge=>?_)
 ·have hil:i<d.sg.length:=by omega
  have hgi:=bH d.sg i
  have htk:=eS _ _ hil
  have hmem:d.sg[i]∈d.sg:=List.getElem_mem hil
  rw [List.getElem?_eq_getElem hil] at hgi
  generalize d.sg[i]=s at *
  try simp (disch:=omega) only [go_sem,jF,jH,↓reduceIte,aw,hgi,Option.map_some,h0,hKt]
  refine ⟨by omega,by omega,?_⟩
  refine ab (iW K s hl) (by simp [hKp,go_sem]) ?_
  try simp (disch:=omega) only [go_sem,jF,jG,jH,↓reduceIte,rh]
  cases hp:(cH K s).2
  ·try simp (disch:=omega) only [go_sem,↓reduceIte]
   refine no ?_
   rw [hR,show d.sg.all (fun s=>(cH K s).2)=false by rw [List.all_eq_false]; exact ⟨s,hmem,by simp [hp]⟩]; rfl
  try simp (disch:=omega) only [go_sem,jF,jG,jH,↓reduceIte,h5X]
  have hrl:(ints (cE K (d.sg.take i))).length≤2:=by rw [aw,cE,List.length_map,List.length_take]; omega
  refine bz (b:=8) (hX.move (Nat.le_succ _) fun j hj _=>?_) (by omega) (by omega) fun Y τ hY kY=>?_
  ·simp only at hj ⊢
   rw [aa _ _ _ _ (by omega),aa _ _ _ _ (by omega)]
  obtain ⟨ob5,m5,c5⟩:=τ
  have q1:m+1≤m5:=kY.1
  have oX:∀ j,j<2→aU X j:=fun j hj=>aU.em fun h=>by have:=hXl j h; omega
  have q2:ob5 0=ob 0:=(kY.2.1 0 (by simp only; omega) (oX 0 (by omega))).trans (by simp only; rw [aa _ _ _ _ (by omega),aa _ _ _ _ (by omega)])
  try simp (disch:=omega) only [go_sem,jF,↓reduceIte,jO]
  refine aF m5 hil (by omega) ⟨(by first | rfl | (simp (disch:=omega) only [go_sem,jA,jB,jC,jD,jE,jF,jG,jH,jI,jJ,↓reduceIte,reduceCtorEq,jP,jO,jM,jN]; try rfl)),by simp only [St.aC]; omega,?_,?_,Y,(by simp only [At]; try simp (disch:=omega) only [go_sem,jF,↓reduceIte]),?_,fun j hj=>Nat.le_of_not_lt fun hh=>hj (kY.2.2 j (by simp only; omega) (oX j hh))⟩
  ·rw [aX (by omega),q2]; exact h0
  ·rw [htk,List.all_append,hall]; simp [hp]
  ·rw [htk,show ints (cE K (d.sg.take i++[s]))=ints (cE K (d.sg.take i))++[.int .i64 (cH K s).1.role] by simp [cE,ints]]
   exact hY.tr
 obtain rfl:i=d.sg.length:=by omega
 rw [List.take_length] at hall hX
 rw [hall,Bool.true_and] at hR
 have hrl:(cE K d.sg).length=d.sg.length:=by rw [cE,List.length_map]
 generalize cE K d.sg=RL at *
 try simp (disch:=omega) only [go_sem,jF,↓reduceIte,h5X]
 have hno:∀ l:List Int,ints l=[]→l=[]:=fun l h=>by simpa [ints] using h
 rcases hX with ⟨rfl,hn⟩ | ⟨id,g,rfl,hi2,ho⟩
 ·obtain rfl:=hno _ hn
  try simp (disch:=omega) only [go_sem,jB,jF,↓reduceIte]
  rw [hR]
  exact aA.of_eq (by rw [←hrl]; rfl) rfl
 ·simp only at ho
  try simp (disch:=omega) only [go_sem,↓reduceIte,aw]
  refine bC rfl (fun hlt=>?_) (fun hge=>?_)
  ·try simp (disch:=omega) only [go_sem,jF,↓reduceIte]
   rw [hR]
   exact aA.of_eq (by rw [decide_eq_true (show d.sg.length<2 by omega)]; rfl) rfl
  ·match RL,hrl with
   | [a,b],hrl=>
    simp only [ints,List.map_cons,List.map_nil] at ho ⊢
    try simp (disch:=omega) only [go_sem,jB,jC,jF,jG,jH,↓reduceIte,ho]
    rw [hR]
    exact aA.of_eq (by rw [←hrl]; rfl) rfl
   | [],hrl=>simp at hge
   | [_],hrl=>simp at hge
   | _ :: _ :: _ :: _,hrl=>simp at hrl; omega
theorem fJ {q:Nat→Bool} {i:Nat} (h:(List.range i).all q=true) (hq:q i=true):(List.range (i+1)).all q=true:=by
 rw [List.range_succ,List.all_append,h]; simp [hq]
theorem tp {q:Nat→Bool} {i n:Nat} (hi:i<n) (hq:q i=false):(List.range n).all q=false:=by
 rw [List.all_eq_false]; exact ⟨i,List.mem_range.2 hi,by simp [hq]⟩
theorem pD (K:Dk) (hl:K.ps.length≤9223372036854775807) (hl2:K.ds.length≤9223372036854775807):PC prog AL [bY K] (.int .i64 (qa K)):=by
 refine ae A9 (by simp) ?_
 simp only [rS]
 have hK:(bY K).flat=true:=by simp [bY,go_sem]
 have hKc:(bY K).cells.length=3:=rfl
 have hKp:=en K
 have hKt:AV.agg ((bY K).cells.take 3)=bY K:=rfl
 have hKd:AV.agg (((bY K).cells.drop 0).take 3)=bY K:=rfl
 have g0:(bY K).cells.getD 0 .bA=.list 3 (pv K.ps):=rfl
 have g1:(bY K).cells.getD 1 .bA=.int .i64 K.nx:=rfl
 have g2:(bY K).cells.getD 2 .bA=.list 7 (xA K.ds):=rfl
 have no:∀ {σ:St},cj K=false→aA σ (.int .i64 50) (.int .i64 (qa K)):=fun h=>aA.of_eq (by rw [qa,h]; rfl) rfl
 try simp (disch:=omega) only [go_sem,jF,jH,↓reduceIte,hK,hKc,g0,ba]
 refine bC rfl (fun h1=>?_) (fun h1=>?_) <;> try simp (disch:=omega) only [go_sem,jF,jG,jH,↓reduceIte,g1]
 ·exact no (by simp only [cj]; rw [decide_eq_false (show ¬K.ps.length≤12 by omega)]; simp)
 refine ab (bV _ _ _) (by simp [go_sem]) ?_
 cases h2:gL K.nx 1 1073741824
 ·try simp (disch:=omega) only [go_sem,jF,↓reduceIte]
  exact no (by simp [cj,h2])
 try simp (disch:=omega) only [go_sem,jF,jG,jH,↓reduceIte,g2,aV]
 refine aj (fun h3=>?_) (fun h3=>?_) <;> try simp (disch:=omega) only [go_sem,jF,jH,↓reduceIte,g0,ba]
 ·exact no (by simp only [cj]; rw [decide_eq_false (show ¬K.ds.length≤64 by omega)]; simp)
 have hC:cj K=((List.range K.ps.length).all (D7 K)&&(List.range K.ds.length).all (D9 K)):=by
  simp only [cj,h2]
  rw [decide_eq_true (show K.ps.length≤12 by omega),decide_eq_true (show K.ds.length≤64 by omega)]; simp
 refine bd [2,3,4,26,27,28,29,30,31,32,33,34,35,36,37,38,39,40,41,42,43,44,45,46,47,48,49,50,51,52,53,54,55,56,57,58,59,60,61,62,63] (by kernel_rfl) K.ps.length (fun i e σ=>e 26=.int .i64 i∧1≤σ.n∧σ.ob 0=some ⟨0,3,44,false,true,[bY K]⟩∧(List.range i).all (D7 K)=true) ?_ ?_
 ·exact ⟨(by first | rfl | (simp (disch:=omega) only [go_sem,jA,jB,jC,jD,jE,jF,jG,jH,jI,jJ,↓reduceIte,reduceCtorEq,jP,jO,jM,jN]; try rfl)),Nat.le_refl _,by try simp (disch:=omega) only [go_sem,↓reduceIte],rfl⟩
 rintro i fe ob m c hi hm ⟨h26,hm1,h0,hall⟩
 simp (maxSteps:=1000000) only [go_sem,jF,↓reduceIte] at h26 hm hm1 h0
 try simp (disch:=omega) only [go_sem,jF,↓reduceIte,h26]
 refine aj (fun hlt=>?_) (fun hge=>?_)
 ·have hil:i<K.ps.length:=by omega
  have hg:=sL hil
  have hgq:0<i→K.ps[i-1]?=some (gP K.ps (i-1)):=fun h=>sL (by omega)
  have hno:D7 K i=false→∀ {σ:St},aA σ (.int .i64 50) (.int .i64 (qa K)):=fun h σ=>no (by rw [hC,tp hil h]; rfl)
  have hok:D7 K i=(gL (gP K.ps i).id 1 1073741824&&!(decide (0<i)&&decide ((gP K.ps i).id≤(gP K.ps (i-1)).id))&&gL (gP K.ps i).role 1 9&&gL (gP K.ps i).key 1 1073741824):=rfl
  have z1:¬0=m:=by omega
  try simp (disch:=omega) only [go_sem,jF,jG,jH,↓reduceIte,jR,hg,Option.map_some,ba,rh]
  refine ⟨by omega,by omega,?_⟩
  refine ab (bV _ _ _) (by simp [go_sem]) ?_
  cases k1:gL (gP K.ps i).id 1 1073741824
  ·try simp (disch:=omega) only [go_sem,jF,↓reduceIte]
   exact hno (by rw [hok,k1]; rfl)
  try simp (disch:=omega) only [go_sem,jF,↓reduceIte]
  refine bB rfl (fun hp=>?_) (fun hp=>?_)
  ·have hgp:=hgq (by omega)
   have ei:((i:Int)-1).toNat=i-1:=by omega
   try simp (disch:=omega) only [go_sem,jF,jH,↓reduceIte,jO,h0,g0,z1,ei,jR,hgp,Option.map_some,ba,rh]
   refine ⟨by omega,by omega,?_⟩
   refine bC rfl (fun hq=>?_) (fun hq=>?_) <;> try simp (disch:=omega) only [go_sem,jF,jG,jH,↓reduceIte]
   ·exact hno (by rw [hok]; simp [hq]; omega)
   refine ab (bV _ _ _) (by simp [go_sem]) ?_
   cases k3:gL (gP K.ps i).role 1 9
   ·try simp (disch:=omega) only [go_sem,jF,↓reduceIte]
    exact hno (by rw [hok,k3]; simp)
   try simp (disch:=omega) only [go_sem,jF,jG,jH,↓reduceIte]
   refine ab (bV _ _ _) (by simp [go_sem]) ?_
   cases k4:gL (gP K.ps i).key 1 1073741824
   ·try simp (disch:=omega) only [go_sem,jF,↓reduceIte]
    exact hno (by rw [hok,k4]; simp)
   try simp (disch:=omega) only [go_sem,jF,↓reduceIte,jO]
   refine aF (m+1) hil (by omega) ⟨(by first | rfl | (simp (disch:=omega) only [go_sem,jA,jB,jC,jD,jE,jF,jG,jH,jI,jJ,↓reduceIte,reduceCtorEq,jP,jO,jM,jN]; try rfl)),by simp only [St.aC]; omega,?_,fJ hall (by rw [hok,k1,k3,k4]; simp [hq])⟩
   rw [aX (by omega),aa _ _ _ _ (by omega),aa _ _ _ _ (by omega)]; exact h0
  ·try simp (disch:=omega) only [go_sem,jF,jG,jH,↓reduceIte]
   refine ab (bV _ _ _) (by simp [go_sem]) ?_
   cases k3:gL (gP K.ps i).role 1 9
   ·try simp (disch:=omega) only [go_sem,jF,↓reduceIte]
    exact hno (by rw [hok,k3]; simp)
   try simp (disch:=omega) only [go_sem,jF,jG,jH,↓reduceIte]
   refine ab (bV _ _ _) (by simp [go_sem]) ?_
   cases k4:gL (gP K.ps i).key 1 1073741824
   ·try simp (disch:=omega) only [go_sem,jF,↓reduceIte]
    exact hno (by rw [hok,k4]; simp)
   try simp (disch:=omega) only [go_sem,jF,↓reduceIte,jO]
   refine aF (m+1) hil (by omega) ⟨(by first | rfl | (simp (disch:=omega) only [go_sem,jA,jB,jC,jD,jE,jF,jG,jH,jI,jJ,↓reduceIte,reduceCtorEq,jP,jO,jM,jN]; try rfl)),by simp only [St.aC]; omega,?_,fJ hall (by rw [hok,k1,k3,k4]; simp; omega)⟩
   rw [aX (by omega),aa _ _ _ _ (by omega),aa _ _ _ _ (by omega)]; exact h0
 obtain rfl:i=K.ps.length:=by omega
 rw [hall,Bool.true_and] at hC
 clear h26 hge
 try simp (disch:=omega) only [go_sem,jF,jG,jH,↓reduceIte,h0,g2,aV]
 refine bd [2,5,6,67,68,69,70,71,72,73,74,75,76,77,78,79,80,81,82,83,84,85,86,87,88,89,90,91,92,93,94,95,96,97,98,99,100,101] (by kernel_rfl) K.ds.length (fun i e σ=>e 67=.int .i64 i∧1≤σ.n∧σ.ob 0=some ⟨0,3,44,false,true,[bY K]⟩∧(List.range i).all (D9 K)=true) ?_ ?_
 ·exact ⟨(by first | rfl | (simp (disch:=omega) only [go_sem,jA,jB,jC,jD,jE,jF,jG,jH,jI,jJ,↓reduceIte,reduceCtorEq,jP,jO,jM,jN]; try rfl)),hm1,h0,rfl⟩
 clear h0 hm1 hm
 rintro i fe2 ob2 m2 c2 hi2 hm2 ⟨h67,hm3,v0,hall2⟩
 simp (maxSteps:=1000000) only [go_sem,jF,↓reduceIte] at h67 hm2 hm3 v0
 try simp (disch:=omega) only [go_sem,jF,↓reduceIte,h67]
 refine aj (fun hlt=>?_) (fun hge=>?_)
 ·have hil:i<K.ds.length:=by omega
  have hg:=ik hil
  have hgq:0<i→K.ds[i-1]?=some (gD K.ds (i-1)):=fun h=>ik (by omega)
  have hno:D9 K i=false→∀ {σ:St},aA σ (.int .i64 50) (.int .i64 (qa K)):=fun h σ=>no (by rw [hC,tp hil h])
  have hok:D9 K i=(gL (gD K.ds i).id 1 (K.nx-1)&&!(decide (0<i)&&decide ((gD K.ds i).id≤(gD K.ds (i-1)).id))&&gC K (gD K.ds i)):=rfl
  have z1:¬0=m2:=by omega
  have hnx:1≤K.nx∧K.nx≤1073741824:=by simpa [gL] using h2
  try simp (disch:=omega) only [go_sem,jF,jG,jH,↓reduceIte,jO,ek,hg,Option.map_some,aV,zJ,C4,C6,vW,vX,C5,BY,v0,z1,g1]
  refine ⟨by omega,by omega,?_⟩
  refine ab (bV _ _ _) (by simp [go_sem]) ?_
  cases k1:gL (gD K.ds i).id 1 (K.nx-1)
  ·try simp (disch:=omega) only [go_sem,jF,↓reduceIte]
   exact hno (by rw [hok,k1]; rfl)
  try simp (disch:=omega) only [go_sem,jF,↓reduceIte]
  refine bB rfl (fun hp=>?_) (fun hp=>?_)
  ·have hgp:=hgq (by omega)
   have ei:((i:Int)-1).toNat=i-1:=by omega
   try simp (disch:=omega) only [go_sem,jF,jG,jH,↓reduceIte,jO,v0,g2,z1,ei,ek,hgp,Option.map_some,aV,BY]
   refine ⟨by omega,by omega,?_⟩
   refine bC rfl (fun hq=>?_) (fun hq=>?_) <;> try simp (disch:=omega) only [go_sem,jF,jH,↓reduceIte,z1,v0,hKt,vW,vX]
   ·exact hno (by rw [hok]; simp [hq]; omega)
   refine ab (pC K (gD K.ds i) hl) (by simp [hKp,qC]) ?_
   cases k3:gC K (gD K.ds i)
   ·try simp (disch:=omega) only [go_sem,jF,↓reduceIte]
    exact hno (by rw [hok,k3]; simp)
   try simp (disch:=omega) only [go_sem,jF,↓reduceIte,jO]
   refine aF (m2+1) hil (by omega) ⟨(by first | rfl | (simp (disch:=omega) only [go_sem,jA,jB,jC,jD,jE,jF,jG,jH,jI,jJ,↓reduceIte,reduceCtorEq,jP,jO,jM,jN]; try rfl)),by simp only [St.aC]; omega,?_,fJ hall2 (by rw [hok,k1,k3]; simp [hq])⟩
   rw [aX (by omega),aa _ _ _ _ (by omega),aa _ _ _ _ (by omega)]; exact v0
  ·try simp (disch:=omega) only [go_sem,jF,jH,↓reduceIte,z1,v0,hKt,vW,vX]
   refine ab (pC K (gD K.ds i) hl) (by simp [hKp,qC]) ?_
   cases k3:gC K (gD K.ds i)
   ·try simp (disch:=omega) only [go_sem,jF,↓reduceIte]
    exact hno (by rw [hok,k3]; simp)
   try simp (disch:=omega) only [go_sem,jF,↓reduceIte,jO]
   refine aF (m2+1) hil (by omega) ⟨(by first | rfl | (simp (disch:=omega) only [go_sem,jA,jB,jC,jD,jE,jF,jG,jH,jI,jJ,↓reduceIte,reduceCtorEq,jP,jO,jM,jN]; try rfl)),by simp only [St.aC]; omega,?_,fJ hall2 (by rw [hok,k1,k3]; simp; omega)⟩
   rw [aX (by omega),aa _ _ _ _ (by omega),aa _ _ _ _ (by omega)]; exact v0
 obtain rfl:i=K.ds.length:=by omega
 try simp (disch:=omega) only [go_sem,↓reduceIte]
 exact aA.of_eq (by rw [qa,hC,hall2]; rfl) rfl
theorem tx (K:Dk) (id who code now kind:Int) (hl:K.ps.length≤9223372036854775807) (hl2:K.ds.length≤9223372036854775807) :
  PC prog Ea [bY K,.int .i64 id,.int .i64 who,.int .i64 code,.int .i64 now,.int .i64 kind] (.tuple [.int .i64 (bD K id who code now kind).1,rh (bD K id who code now kind).2.1,.int .i64 (bD K id who code now kind).2.2]):=by
 refine ae EK (by simp) ?_
 simp only [wT]
 have hK:(bY K).flat=true:=by simp [bY,go_sem]
 have hKc:(bY K).cells.length=3:=rfl
 have hKp:=en K
 have hKt:AV.agg ((bY K).cells.take 3)=bY K:=rfl
 have hKd:AV.agg (((bY K).cells.drop 0).take 3)=bY K:=rfl
 have g2:(bY K).cells.getD 2 .bA=.list 7 (xA K.ds):=rfl
 have fin:∀ {σ:St} (i e:Int) (p:Pn),bD K id who code now kind=(i,p,e)→aA σ (.tuple [.int .i64 i,rh p,.int .i64 e]) (.tuple [.int .i64 (bD K id who code now kind).1,rh (bD K id who code now kind).2.1,.int .i64 (bD K id who code now kind).2.2]):=fun i e p h=>by
  rw [h]; exact aA.pure rfl
 try simp (disch:=omega) only [go_sem,jF,jG,jH,↓reduceIte,reduceCtorEq,hK,hKc,hKt]
 refine ab (pD K hl hl2) (by simp [hKp]) ?_
 rw [qa]
 cases hc:cj K
 ·try simp (disch:=omega) only [go_sem,jA,jF,jG,jH,↓reduceIte,reduceCtorEq]
  exact fin 0 50 BB (by rw [bD,if_pos hc])
 try simp (disch:=omega) only [go_sem,jF,jG,jH,↓reduceIte,reduceCtorEq,g2,aV]
 have hA:bD K id who code now kind=rb K id who code now kind K.ds 0:=by rw [bD,if_neg (by simp [hc])]
 refine bd [12,14,15,16,17,18,26,27,28,29,30,31,32,33,34,35,36,37,38,39,40,41,42,43,44,45,46,47,48,49,50,51,52,53,54,55,56,57,58,59,60,61,62,63] (by kernel_rfl) K.ds.length (fun i e σ=>e 26=.int .i64 i∧2≤σ.n∧σ.ob 0=some ⟨0,3,44,false,true,[bY K]⟩∧σ.ob 1=some ⟨1,3,131,false,true,[.agg [.int .i64 0,.int .i64 0,.int .i64 0]]⟩∧
  bD K id who code now kind=rb K id who code now kind (K.ds.drop i) i) ?_ ?_
 ·exact ⟨(by first | rfl | (simp (disch:=omega) only [go_sem,jA,jB,jC,jD,jE,jF,jG,jH,jI,jJ,↓reduceIte,reduceCtorEq,jP,jO,jM,jN]; try rfl)),Nat.le_refl _,by try simp (disch:=omega) only [go_sem,↓reduceIte,reduceCtorEq],by try simp (disch:=omega) only [go_sem,↓reduceIte],hA⟩
 rintro i fe ob m c hi hm ⟨h26,hm1,v0,v1,hS⟩
 simp (maxSteps:=1000000) only [go_sem,jF,↓reduceIte] at h26 hm hm1 v0 v1
 try simp (disch:=omega) only [go_sem,jF,↓reduceIte,h26]
 refine aj (fun hlt=>?_) (fun hge=>?_)
 ·have hil:i<K.ds.length:=by omega
  have hg:K.ds[i]?=some K.ds[i]:=List.getElem?_eq_getElem hil
  rw [List.drop_eq_getElem_cons hil,rb] at hS
  generalize K.ds[i]=d at *
  have z0:¬0=m:=by omega
  have z1:¬1=m:=by omega
  try simp (disch:=omega) only [go_sem,jF,jH,↓reduceIte,reduceCtorEq,ek,hg,Option.map_some,aV,zJ,C4,C6,vW,vX,C5,BY]
  refine ⟨by omega,by omega,?_⟩
  refine bn (fun k1=>?_) (fun k1=>?_)
  ·try simp (disch:=omega) only [go_sem,jF,↓reduceIte,jO]
   rw [if_pos k1] at hS
   refine aF (m+1) hil (by omega) ⟨(by first | rfl | (simp (disch:=omega) only [go_sem,jA,jB,jC,jD,jE,jF,jG,jH,jI,jJ,↓reduceIte,reduceCtorEq,jP,jO,jM,jN]; try rfl)),by simp only [St.aC]; omega,?_,?_,hS⟩
   ·rw [aX (by omega),aa _ _ _ _ (by omega),aa _ _ _ _ (by omega)]; exact v0
   ·rw [aX (by omega),aa _ _ _ _ (by omega),aa _ _ _ _ (by omega)]; exact v1
  rw [if_neg (by simpa using k1)] at hS
  try simp (disch:=omega) only [go_sem,jF,jG,jH,↓reduceIte,QI]
  have bad:∀ e,bD K id who code now kind=(0,BB,e)→True:=fun _ _=>trivial
  cases k2:d.wd
  ·try simp (disch:=omega) only [go_sem,jF,jG,jH,↓reduceIte,reduceCtorEq,QJ]
   refine aj (fun k3=>?_) (fun k3=>?_)
   ·try simp (disch:=omega) only [go_sem,jF,jG,jH,↓reduceIte,v1,z1]
    rw [if_pos (.inr k3)] at hS
    exact fin 0 44 BB hS
   rw [if_neg (by simp [k2]; omega)] at hS
   try simp (disch:=omega) only [go_sem,jF,jH,↓reduceIte,reduceCtorEq,v0,z0,hKt]
   refine ab (iW K who hl) (by simp [hKp,go_sem]) ?_
   try simp (disch:=omega) only [go_sem,jF,jG,jH,↓reduceIte,rh]
   cases k4:(cH K who).2
   ·try simp (disch:=omega) only [go_sem,jF,jG,jH,↓reduceIte,jM,v1,z1]
    rw [if_pos k4] at hS
    exact fin 0 11 BB hS
   rw [if_neg (by simp [k4])] at hS
   have z2:¬m=m+1:=by omega
   try simp (disch:=omega) only [go_sem,jF,jG,jH,↓reduceIte,reduceCtorEq,z2,vW,vX]
   refine ab (mf (cH K who).1.key kind d) (by simp [qC,go_sem]) ?_
   try simp (disch:=omega) only [go_sem,jF,↓reduceIte]
   refine bn (fun k5=>?_) (fun k5=>?_)
   ·try simp (disch:=omega) only [go_sem,jF,jG,jH,↓reduceIte,jM,v1,z1]
    rw [if_pos k5] at hS
    have z3:¬1=m+1:=by omega
    try simp (disch:=omega) only [go_sem,jA,jB,jC,jD,jE,jF,jG,jH,jI,jJ,↓reduceIte,reduceCtorEq,jO,jM,jN,jK,jL,v1,z1,z3]
    exact fin 0 43 BB hS
   rw [if_neg (by simpa using k5)] at hS
   have z3:¬1=m+1:=by omega
   try simp (disch:=omega) only [go_sem,jF,jG,jH,↓reduceIte,reduceCtorEq,v1,z1,z3]
   exact fin i 0 (cH K who).1 hS
  ·try simp (disch:=omega) only [go_sem,jF,jG,jH,↓reduceIte,v1,z1]
   rw [if_pos (.inl k2)] at hS
   exact fin 0 44 BB hS
 obtain rfl:i=K.ds.length:=by omega
 rw [List.drop_length,rb] at hS
 try simp (disch:=omega) only [go_sem,jF,jG,jH,↓reduceIte,v1]
 exact fin 0 9 BB hS
abbrev P6:TypeId:=131
abbrev GQ:TypeId:=28
abbrev Kq:TypeId:=3
def cq (l:List Dv) (Es:List AV):List AV:=List.zipWith jY l Es
theorem qD {l:List Dv} {Cs:List AV} {w:Dv} {E:AV} (h:l.length=Cs.length):cq (l++[w]) (Cs++[E])=cq l Cs++[jY w E]:=by
 simp only [cq]; rw [List.zipWith_append h]; rfl
def lq (l:List Dv):List (List AV):=l.map fun d=>ints d.sg
def TO (σ:St) (K:Dk) (r:AV) (τ:St):Prop:=
 ∃ XP XA Fs l1,r=.agg [XP,.int .i64 K.nx,XA]∧σ.n≤l1∧l1≤τ.n∧cd 3 P6 τ (pv K.ps) XP∧(∀ i,¬aU XP i→σ.n≤i∧i<l1)∧
  cd 7 GQ τ (cq K.ds Fs) XA∧IC 1 Kq τ Fs (lq K.ds)∧Hv τ l1 XA Fs∧∀ i,i<σ.n→τ.ob i=σ.ob i
theorem mz (σ:St) (K:Dk) (h1:K.ps.length≤1000000) (h4:K.ds.length≤1000000) (h5:∀ d∈K.ds,d.sg.length≤1000000):HC prog CO [bY K] σ (TO σ K):=by
 obtain ⟨dF,n0,c0⟩:=σ
 refine aM Ds (by simp) ?_
 simp only [uF,bY]
 try simp (disch:=omega) only [go_sem,jF,jG,jH,↓reduceIte,jM]
 refine df (M:=pv K.ps) (b:=24) cd.nil (by simp [ba]; omega) (by simp [ba]; omega) fun XP τ hP kP=>?_
 obtain ⟨ob1,n1,c1⟩:=τ
 obtain ⟨k1,k2,k3⟩:=kP
 simp only [List.nil_append] at hP
 have k1':n0+1+1≤n1:=k1
 have u0:=k2 n0 (by simp only; omega) (aU.nil _)
 have u1:=k2 (n0+1) (by simp only; omega) (aU.nil _)
 try simp (disch:=omega) only [go_sem,↓reduceIte,jM] at u0
 try simp (disch:=omega) only [go_sem,↓reduceIte] at u1
 try simp (disch:=omega) only [go_sem,jF,jG,jH,↓reduceIte,u0,hP.flat,hP.cells,aV]
 refine bd [3,5,13,14,15,16,17,18,19,20,21,22,23,24,25] (by kernel_rfl) K.ds.length (fun k e σ=>e 13=.int .i64 k∧n1≤σ.n∧(∀ i,i<n1→i≠n0→σ.ob i=ob1 i)∧σ.ob n0=some ⟨c0,3,44,false,true,[.agg [XP,.int .i64 K.nx,.list 7 (xA K.ds)]]⟩∧
  ∃ Y Fs,At e 3 Y∧cd 7 GQ σ (cq (K.ds.take k) Fs) Y∧IC 1 Kq σ Fs (lq (K.ds.take k))∧Hv σ n1 Y Fs) ?_ ?_
 ·exact ⟨(by first | rfl | (simp (disch:=omega) only [go_sem,jA,jB,jC,jD,jE,jF,jG,jH,jI,jJ,↓reduceIte,reduceCtorEq,jP,jO,jM,jN]; try rfl)),Nat.le_refl _,fun i hi hne=>aa _ _ _ _ hne,by try simp (disch:=omega) only [go_sem,↓reduceIte],.nil,[],(by simp only [At]; try simp (disch:=omega) only [go_sem,jF,↓reduceIte]),by simp [cq]; exact cd.nil,IC.nil _ _ _,Hv.nil _ _⟩
 rintro k fe ob m c hk hm ⟨h13,hm1,ho,hb,Y,Fs,h3,hY,hJ,hH⟩
 simp (maxSteps:=1000000) only [go_sem,jF,↓reduceIte,At] at h13 hm hm1 ho hb h3
 try simp (disch:=omega) only [go_sem,jF,↓reduceIte,h13]
 refine aj (fun hlt=>?_) (fun hge=>?_)
 ·have hkl:k<K.ds.length:=by omega
  have hk2:K.ds[k]?=some K.ds[k]:=List.getElem?_eq_getElem hkl
  have hxl:=h5 _ (List.getElem_mem hkl)
  have htk:K.ds.take (k+1)=K.ds.take k++[K.ds[k]]:=eS _ _ hkl
  have hEl:Fs.length=k:=by have:=hJ.1; simp [lq] at this; omega
  generalize K.ds[k]=w at *
  try simp (disch:=omega) only [go_sem,jF,jG,jH,↓reduceIte,aV,ek,hk2,Option.map_some,jo,jY]
  refine ⟨by omega,by omega,?_⟩
  refine df (M:=ints w.sg) (b:=8) cd.nil (by simp [aw]; omega) (by simp [aw]; omega) fun E τ1 hE kE=>?_
  obtain ⟨ob6,m6,c6⟩:=τ1
  obtain ⟨e1,e2,e3⟩:=kE
  simp only [List.nil_append] at hE
  have e1':m+1≤m6:=e1
  have e2':∀ i,i<m→ob6 i=ob i:=fun i hi=>(e2 i (by simp only; omega) (aU.nil _)).trans (by simp only; rw [aa _ _ _ _ (by omega),aa _ _ _ _ (by omega)])
  have e3':∀ i,i<m+1→aU E i:=fun i hi=>e3 i hi (aU.nil _)
  have hw6:=e2 m (by simp only; omega) (aU.nil _)
  simp only [ay] at hw6
  clear u1 k2 k3 k1 e1 e2 e3
  have z3:¬m=n0:=by omega
  have z5:¬m=m6:=by omega
  have oY:∀ i,i<n1→aU Y i:=fun i hi=>aU.em fun h=>by have:=(hH.low i h).1; omega
  have oYm:∀ i,m≤i→aU Y i:=fun i hi=>hY.G0 hi
  try simp (disch:=omega) only [go_sem,jF,jG,jH,↓reduceIte,hE.flat,hE.cells,hE.one,hw6,h3]
  refine wF (ER.cW (L:=[jY w E]) (ay _ _ _) (Nat.lt_succ_self _)) ?_
  have hYl:(cq (K.ds.take k) Fs).length≤1000000:=by simp [cq]; omega
  refine bz (b:=72) (hY.move (by simp only; omega) fun i hi hh=>?_) (by omega) (by omega) fun Y' τ2 hY2 kY=>?_
  ·simp only at hi ⊢
   rw [aa _ _ _ _ (by omega),aa _ _ _ _ (by omega),e2' i hi]
  obtain ⟨ob7,m7,c7⟩:=τ2
  have q1:m6+1≤m7:=kY.1
  have q2:∀ i,i<m→aU Y i→ob7 i=ob i:=fun i hi h=>(kY.2.1 i (by simp only; omega) h).trans (by simp only; rw [aa _ _ _ _ (by omega),aa _ _ _ _ (by omega),e2' i hi])
  have q3:∀ i,m+1≤i→i<m6→ob7 i=ob6 i:=fun i hi hi2=>(kY.2.1 i (by simp only; omega) (oYm i (by omega))).trans (by simp only; rw [aa _ _ _ _ (by omega),aa _ _ _ _ (by omega)])
  have hEi:∀ i,¬aU E i→m+1≤i∧i<m6:=fun i hi=>⟨Nat.le_of_not_lt fun h=>hi (e3' i h),hE.lt hi⟩
  try simp (disch:=omega) only [go_sem,jF,↓reduceIte,jO]
  refine aF m7 hkl (by omega) ⟨(by first | rfl | (simp (disch:=omega) only [go_sem,jA,jB,jC,jD,jE,jF,jG,jH,jI,jJ,↓reduceIte,reduceCtorEq,jP,jO,jM,jN]; try rfl)),by simp only [St.aC]; omega,fun i hi hne=>?_,?_,Y',Fs++[E],(by simp only [At]; try simp (disch:=omega) only [go_sem,jF,↓reduceIte]),?_,?_,?_⟩
  ·rw [aX (by omega),q2 i (by omega) (oY i hi)]; exact ho i hi hne
  ·rw [aX (by omega),q2 n0 (by omega) (oY n0 (by omega))]; exact hb
  ·rw [htk,qD (by simp; omega)]
   exact hY2.tr
  ·rw [htk,show lq (K.ds.take k++[w])=lq (K.ds.take k)++[ints w.sg] by simp [lq]]
   refine IC.snoc (hJ.move (by simp only [St.aC]; omega) fun F hF2 i hi hlt=>?_) (hE.move (by simp only [St.aC]; omega) fun i hlt hi=>?_)
   ·have hi1:=(hH.Eh F hF2 i hi).1
    simp only at hlt
    rw [aX (by omega),q2 i hlt (hH.sep F hF2 i hi)]
   ·have hi1:=hEi i hi
    rw [aX (by omega),q3 i hi1.1 hi1.2]
  ·exact (hH.snoc (by simp only; omega) (show m≤m6+1 by omega) (fun i hi=>⟨by have:=(hEi i hi).1; simp only; omega,by have:=(hEi i hi).2; simp only; omega⟩) kY fun i hi=>hY2.G0 hi).up (Nat.le_refl _)
 obtain rfl:k=K.ds.length:=by omega
 rw [List.take_length] at hY hJ
 have u1':ob (n0+1)=some ⟨c0+1,3,44,false,true,[.agg [.nil,.int .i64 0,.nil]]⟩:=by rw [ho _ (by omega) (by omega),u1]
 have zz:¬n0+1=n0:=by omega
 have zz2:¬n0=n0+1:=by omega
 try simp (disch:=omega) only [go_sem,jF,jG,jH,↓reduceIte,hb,u1',zz,h3,hY.flat,hY.cells,hY.one,hP.one]
 have k3':∀ i,¬aU XP i→n0+2≤i:=fun i hi=>Nat.le_of_not_lt fun h=>hi (k3 i h (aU.nil _))
 have z3:∀ (x y:Option aS) i,i≠n0→i≠n0+1→aZ (aZ ob n0 x) (n0+1) y i=ob i:=fun x y i h1 h2=>by rw [aa _ _ _ _ h2,aa _ _ _ _ h1]
 refine ⟨XP,Y,Fs,n1,rfl,by simp only; omega,hm1,hP.move hm1 fun i hi hh=>?_,fun i hi=>⟨by have:=k3' i hi; simp only; omega,hP.lt hi⟩,hY.move (Nat.le_refl _) fun i hi hh=>?_,hJ.move (Nat.le_refl _) fun E hE i hi hh=>?_,hH.up (Nat.le_refl _),fun i hi=>?_⟩
 ·have h1:=k3' i hh
  simp only at hi ⊢
  rw [z3 _ _ i (by omega) (by omega),ho i hi (by omega)]
 ·have h1:=(hH.low i hh).1
  simp only
  rw [z3 _ _ i (by omega) (by omega)]
 ·have h1:=(hH.Eh E hE i hi).1
  simp only
  rw [z3 _ _ i (by omega) (by omega)]
 ·simp only at hi ⊢
  rw [z3 _ _ i (by omega) (by omega),ho i (by omega) (by omega)]
  refine (k2 i (by simp only; omega) (aU.nil _)).trans ?_
  simp only
  rw [aa _ _ _ _ (by omega),aa _ _ _ _ (by omega)]
theorem so {σ:St} {ps:List Pn} {ds:List Dv} {n:Int} {XP XA:AV} {Fs:List AV} (hP:cd 3 P6 σ (pv ps) XP) (hA:cd 7 GQ σ (cq ds Fs) XA) (hI:IC 1 Kq σ Fs (lq ds)):aA σ (.agg [XP,.int .i64 n,XA]) (bY ⟨ps,n,ds⟩):=by
 have hl:Fs.length=ds.length:=by have:=hI.1; simpa [lq] using this
 refine aA.ag (.cons (hP.mL (fun _ _ _=>rfl) (CA _) (Fl _)) (.cons (aA.e rfl) (.cons (KR hA (fun _ _ _=>rfl) (by simp [cq,xA,hl]) (fun i x y hx hy=>?_) (I4 _)) .nil)))
 rw [ek] at hy
 obtain ⟨d,hd,rfl⟩:=Option.map_eq_some_iff.1 hy
 simp only [cq,List.getElem?_zipWith,hd] at hx
 cases hF:Fs[i]? with
 | none=>simp [hF] at hx
 | some E=>
  simp only [hF,Option.some.injEq] at hx
  subst hx
  have hp:=hI.mL (τ:=σ) (fun _ _ _ _ _=>rfl) (by simp [lq]; intro a _; exact eJ _) (by simp [lq]; intro a _; exact jW _) i E (ints d.sg) hF (by simp [lq,hd])
  exact aA.ag (.cons (aA.e rfl) (.cons (aA.e rfl) (.cons (aA.e rfl) (.cons (aA.e rfl) (.cons (aA.e rfl) (.cons hp (.cons (aA.e rfl) .nil)))))))
structure An (K:Dk):Prop where
 lp:K.ps.length≤12
 ld:K.ds.length≤64
 ip:∀ p∈K.ps,0≤p.id∧p.id≤1073741824
 kd:∀ d∈K.ds,0≤d.id∧d.id≤1073741824∧d.sg.length≤2
theorem ur:An wS:=⟨by simp [wS],by simp [wS],by simp [wS],by simp [wS]⟩
theorem iB {K:Dk} (h:cj K=true):1≤K.nx∧K.nx≤1073741824∧K.ps.length≤12∧K.ds.length≤64:=by
 simp only [cj,Bool.and_eq_true,gL,decide_eq_true_eq] at h
 exact ⟨h.1.1.1.2.1,h.1.1.1.2.2,h.1.1.1.1,h.1.1.2⟩
structure HD (K:Dk):Prop where
 lp:K.ps.length≤9223372036854775807
 ld:K.ds.length≤9223372036854775807
theorem An.s {K:Dk} (h:An K):HD K:=⟨by have:=h.lp; omega,by have:=h.ld; omega⟩
theorem Jb {K:Dk} (h:cj K=true) {d:Dv} (hd:d∈K.ds):gC K d=true:=by
 obtain ⟨i,hi⟩:=List.getElem?_of_mem hd
 have hil:=(List.getElem?_eq_some_iff.1 hi).1
 simp only [cj,Bool.and_eq_true,List.all_eq_true,List.mem_range] at h
 have h1:=h.2 i hil
 simp only [D9,Bool.and_eq_true] at h1
 rw [ik hil] at hi
 obtain rfl:=Option.some.inj hi
 exact h1.2
theorem fZ {K:Dk} (h:cj K=true) {d:Dv} (hd:d∈K.ds):d.sg.length≤2:=by
 have h1:=Jb h hd
 simp only [gC,Bool.and_eq_true,decide_eq_true_eq] at h1
 exact h1.1.1.2
theorem NO {K:Dk} (h:An K) (site fr to rel:Int):An (bR K site fr to rel).1:=by
 unfold bR
 cases hc:cj K
 ·simp only [if_true]; exact ur
 have h1:=iB hc
 simp only [Bool.true_eq_false,if_false]
 split
 ·exact ur
 split
 ·exact ur
 split
 ·exact ur
 split
 ·exact ur
 ·rename_i hn
  refine ⟨h.lp,by simp; omega,h.ip,fun d hd=>?_⟩
  rcases List.mem_append.1 hd with hd | hd
  ·exact h.kd d hd
  ·obtain rfl:d=_:=by simpa using hd
   exact ⟨by simp only; omega,by simp only; omega,by simp⟩
theorem HV {K:Dk} (h:An K) {i:Nat} {d:Dv} (hd:0≤d.id∧d.id≤1073741824∧d.sg.length≤2):An ⟨K.ps,K.nx,K.ds.set i d⟩:=
 ⟨h.lp,by simpa using h.ld,h.ip,fun e he=>by
  rcases List.mem_or_eq_of_mem_set he with he | rfl
  ·exact h.kd e he
  ·exact hd⟩
theorem IN {K:Dk} (h:An K) (i:Nat):0≤(gD K.ds i).id∧(gD K.ds i).id≤1073741824∧(gD K.ds i).sg.length≤2:=by
 by_cases hi:i<K.ds.length
 ·exact h.kd _ (List.mem_of_getElem? (ik hi))
 ·have:gD K.ds i=default:=by rw [gD,List.getD_eq_getElem?_getD,List.getElem?_eq_none (by omega)]; rfl
  rw [this]; simp [default,instInhabitedDv.default]
theorem HT {K:Dk} (h:An K) (id who code now:Int):An (kg K id who code now).1:=by
 simp only [kg]
 split
 ·exact ur
 split
 ·exact ur
 split
 ·exact ur
 ·rename_i h1 h2 _
  have hg:=IN h (bD K id who code now 1).1.toNat
  exact HV h ⟨hg.1,hg.2.1,by simp; omega⟩
theorem Mx {K:Dk} (h:An K) (id who code now:Int):An (lu K id who code now).1:=by
 simp only [lu]
 split
 ·exact ur
 ·have hg:=IN h (bD K id who code now 2).1.toNat
  exact HV h ⟨hg.1,hg.2.1,hg.2.2⟩
theorem db (K:Dk):(bY K).flat=true:=by simp [bY,go_sem]
theorem dy (K:Dk):(bY K).cells.length=3:=rfl
theorem iq (K:Dk):AV.agg ((bY K).cells.take 3)=bY K:=rfl
theorem SD (K:Dk):AV.agg (((bY K).cells.drop 0).take 3)=bY K:=rfl
theorem I7 (K:Dk):(bY K).cells.getD 0 .bA=.list 3 (pv K.ps):=rfl
theorem GB (K:Dk):(bY K).cells.getD 1 .bA=.int .i64 K.nx:=rfl
theorem Ev (K:Dk):(bY K).cells.getD 2 .bA=.list 7 (xA K.ds):=rfl
theorem FL (K:Dk) (a b c:AV):iG 0 (.agg [a,b,c]) (bY K)=.agg [a,b,c]:=rfl
theorem eO {σ:St}:aA σ (.agg [.nil,.int .i64 0,.nil]) (bY wS):=aA.ag (.cons (.nl 3) (.cons (aA.e rfl) (.cons (.nl 7) .nil)))
theorem tJ (K:Dk) (hB:HD K) (site fr to rel:Int):PC prog oz [bY K,.int .i64 site,.int .i64 fr,.int .i64 to,.int .i64 rel] (.tuple [bY (bR K site fr to rel).1,.int .i64 (bR K site fr to rel).2.1,.int .i64 (bR K site fr to rel).2.2]):=by
 have hlp:=hB.lp
 have hld:=hB.ld
 refine ae xI (by simp) ?_
 simp only [oL]
 have hKp:=en K
 have bad:∀ {σ:St} (e:Int),bR K site fr to rel=(wS,0,e)→aA σ (.tuple [.agg [.nil,.int .i64 0,.nil],.int .i64 0,.int .i64 e]) (.tuple [bY (bR K site fr to rel).1,.int .i64 (bR K site fr to rel).2.1,.int .i64 (bR K site fr to rel).2.2]):=fun e h=>by
  rw [h]; exact aA.tu (.cons eO (.cons (aA.e rfl) (.cons (aA.e rfl) .nil)))
 try simp (disch:=omega) only [go_sem,jF,jG,jH,↓reduceIte,reduceCtorEq,db,dy,iq]
 refine ab (pD K (by omega) (by omega)) (by simp [hKp]) ?_
 rw [qa]
 cases hc:cj K
 ·try simp (disch:=omega) only [go_sem,jA,jF,jG,jH,↓reduceIte,reduceCtorEq]
  exact bad 50 (by rw [bR,if_pos hc])
 try simp (disch:=omega) only [go_sem,jF,↓reduceIte,reduceCtorEq]
 refine ab (bV _ _ _) (by simp [go_sem]) ?_
 cases h2:gL site 0 5
 ·try simp (disch:=omega) only [go_sem,jF,jG,jH,↓reduceIte]
  exact bad 40 (by rw [bR,if_neg (by simp [hc]),if_pos h2])
 try simp (disch:=omega) only [go_sem,jF,↓reduceIte,reduceCtorEq]
 refine bC rfl (fun h3=>?_) (fun h3=>?_) <;> try simp (disch:=omega) only [go_sem,jF,jG,jH,↓reduceIte,reduceCtorEq]
 ·exact bad 6 (by rw [bR,if_neg (by simp [hc]),if_neg (by simp [h2]),if_pos (.inl h3)])
 refine bC rfl (fun h4=>?_) (fun h4=>?_) <;> try simp (disch:=omega) only [go_sem,jF,jG,jH,↓reduceIte,reduceCtorEq]
 ·exact bad 6 (by rw [bR,if_neg (by simp [hc]),if_neg (by simp [h2]),if_pos (.inr (.inl h4))])
 refine aj (fun h5=>?_) (fun h5=>?_) <;> try simp (disch:=omega) only [go_sem,jF,jG,jH,↓reduceIte,reduceCtorEq]
 ·exact bad 6 (by rw [bR,if_neg (by simp [hc]),if_neg (by simp [h2]),if_pos (.inr (.inr h5))])
 refine ab (bV _ _ _) (by simp [go_sem]) ?_
 cases h6:gL rel 0 1073741824
 ·try simp (disch:=omega) only [go_sem,jF,jG,jH,↓reduceIte]
  exact bad 1 (by rw [bR,if_neg (by simp [hc]),if_neg (by simp [h2]),if_neg (by omega),if_pos h6])
 try simp (disch:=omega) only [go_sem,jF,jG,jH,↓reduceIte,reduceCtorEq,Ev,aV]
 refine bC rfl (fun h7=>?_) (fun h7=>?_) <;> try simp (disch:=omega) only [go_sem,jF,jG,jH,↓reduceIte,reduceCtorEq,GB]
 ·exact bad 10 (by rw [bR,if_neg (by simp [hc]),if_neg (by simp [h2]),if_neg (by omega),if_neg (by simp [h6]),if_pos (.inl (by omega))])
 refine aj (fun h8=>?_) (fun h8=>?_) <;> try simp (disch:=omega) only [go_sem,jF,jG,jH,↓reduceIte,reduceCtorEq]
 ·exact bad 10 (by rw [bR,if_neg (by simp [hc]),if_neg (by simp [h2]),if_neg (by omega),if_neg (by simp [h6]),if_pos (.inr h8)])
 try simp (disch:=omega) only [go_sem,iq]
 have hS:bR K site fr to rel=(⟨K.ps,K.nx+1,K.ds++[⟨K.nx,site,fr,to,rel,[],false⟩]⟩,K.nx,0):=by
  rw [bR,if_neg (by simp [hc]),if_neg (by simp [h2]),if_neg (by omega),if_neg (by simp [h6]),if_neg (by omega)]
 have hnx:=iB hc
 refine (mz _ K (by omega) (by omega) fun d hd=>by have:=fZ hc hd; omega).mono ?_
 rintro r ⟨ob1,n1,c1⟩ ⟨XP,XA,Fs,l1,rfl,hl1,hl2,hP,hPl,hA,hI,hG,hfr⟩
 simp only at hl1 hl2 hPl hfr
 have u0:=hfr 0 (by omega)
 have u1:=hfr 1 (by omega)
 try simp (disch:=omega) only [go_sem,↓reduceIte,reduceCtorEq] at u0
 try simp (disch:=omega) only [go_sem,↓reduceIte] at u1
 try simp (disch:=omega) only [go_sem,jF,jG,jH,↓reduceIte,reduceCtorEq,u0,hP.one,hA.one,FL]
 have hXl:(cq K.ds Fs).length≤64:=by simp [cq]; omega
 have hFl:Fs.length=K.ds.length:=by have:=hI.1; simpa [lq] using this
 refine bz (b:=72) (hA.move (τ:=⟨_,n1,c1⟩) (Nat.le_refl _) fun i hi hh=>?_) (by omega) (by omega) fun X' τ2 hX2 kX=>?_
 ·have:=(hG.low i hh).1
  simp only
  rw [aa _ _ _ _ (by omega)]
 obtain ⟨ob3,m3,c3⟩:=τ2
 have oX:∀ i,i<l1→aU XA i:=fun i hi=>aU.em fun h=>by have:=(hG.low i h).1; omega
 have q0:=kX.2.1 0 (by simp only; omega) (oX 0 (by omega))
 have q1:=kX.2.1 1 (by simp only; omega) (oX 1 (by omega))
 have q2:∀ i,2≤i→i<n1→aU XA i→ob3 i=ob1 i:=fun i h2 hi ho=>(kX.2.1 i hi ho).trans (by simp only; rw [aa _ _ _ _ (by omega)])
 have hn3:n1≤m3:=kX.1
 try simp (disch:=omega) only [go_sem,↓reduceIte] at q0
 try simp (disch:=omega) only [go_sem,↓reduceIte,reduceCtorEq,u1] at q1
 have zm:∀ (x y z:Option aS) i,2≤i→aZ (aZ (aZ ob3 0 x) 0 y) 1 z i=ob3 i:=fun x y z i h=>by rw [aa _ _ _ _ (by omega),aa _ _ _ _ (by omega),aa _ _ _ _ (by omega)]
 try simp (disch:=omega) only [go_sem,jF,jG,jH,↓reduceIte,reduceCtorEq,jO,q0,q1,hP.one,hX2.flat,hX2.cells,hX2.one]
 rw [hS]
 have oX2:∀ i,i<l1→aU X' i:=fun i hi=>kX.2.2 i (by simp only; omega) (oX i hi)
 have hX3:cd 7 GQ ⟨ob3,m3,c3⟩ (cq (K.ds++[⟨K.nx,site,fr,to,rel,[],false⟩]) (Fs++[.nil])) X':=by rw [qD (by omega)]; exact hX2
 refine aA.tu (.cons (so (hP.move hn3 fun i hi hh=>?_) (hX3.move (Nat.le_refl _) fun i hi hh=>?_) ?_) (.cons (by rw [show K.nx+1-1=K.nx by omega]; exact aA.e rfl) (.cons (aA.e rfl) .nil)))
 ·have h9:=hPl i hh
  simp only
  rw [zm _ _ _ i h9.1,q2 i h9.1 hi (oX i h9.2)]
 ·have h9:2≤i:=Nat.le_of_not_lt fun h=>hh (oX2 i (by omega))
  simp only
  rw [zm _ _ _ i h9]
 ·rw [show lq (K.ds++[⟨K.nx,site,fr,to,rel,[],false⟩])=lq K.ds++[ints []] by simp [lq]]
  refine IC.snoc (hI.move hn3 fun E hE i hi hlt=>?_) cd.nil
  have h9:=(hG.Eh E hE i hi).1
  simp only
  rw [zm _ _ _ i (by omega),q2 i (by omega) hlt (hG.sep E hE i hi)]
theorem vw (K:Dk) (hB:An K) (site fr to rel:Int):PC prog oz [bY K,.int .i64 site,.int .i64 fr,.int .i64 to,.int .i64 rel] (.tuple [bY (bR K site fr to rel).1,.int .i64 (bR K site fr to rel).2.1,.int .i64 (bR K site fr to rel).2.2]):=tJ K hB.s site fr to rel
def On (l:List Pn):Prop:=∀ p∈l,0≤p.id∧p.id≤1000∧0≤p.key∧p.key≤1000
def Ht (l:List Pn):Prop:=∀ i,i<l.length→D7 ⟨l,1,[]⟩ i=true
theorem IL {l:List Pn} {d:Pn} {i:Nat}:gP (l++[d]) i=if i<l.length then gP l i else if i=l.length then d else default:=by
 rw [gP,gP,List.getD_eq_getElem?_getD,List.getD_eq_getElem?_getD]
 split
 ·rename_i h; rw [List.getElem?_append_left h]
 ·rename_i h
  split
  ·rename_i e; subst e; simp
  ·rename_i e; rw [List.getElem?_eq_none (by simp; omega)]; rfl
theorem Ht.snoc {l:List Pn} {p:Pn} (h:Ht l) (h1:∀ q∈l,q.id<p.id) (h2:1≤p.id∧p.id≤1073741824∧1≤p.role∧p.role≤9∧1≤p.key∧p.key≤1073741824):Ht (l++[p]):=fun i hi=>by
 simp only [List.length_append,List.length_singleton] at hi
 by_cases e:i<l.length
 ·have:=h i e
  simp only [D7,IL,if_pos e,if_pos (show i-1<l.length by omega)] at this ⊢
  exact this
 ·have e':i=l.length:=by omega
  simp only [D7,IL,if_neg e,if_pos e',gL,Bool.and_eq_true,decide_eq_true_eq,Bool.not_eq_true',Bool.and_eq_false_iff,decide_eq_false_iff_not]
  refine ⟨⟨⟨by omega,?_⟩,by omega⟩,by omega⟩
  by_cases h0:0<i
  ·right
   rw [if_pos (by omega)]
   have:=h1 _ (List.mem_of_getElem? (sL (l:=l) (i:=i-1) (by omega)))
   omega
  ·exact .inl h0
theorem oC (σ:St) (id g:Nat) (t:List Int) (at':Nat) (hl:t.length≤9223372036854775807) (hid:id<σ.n) (hob:σ.ob id=some ⟨g,2,au,false,true,[bw t at']⟩) :
  HC prog rz [.ptr id g 2 0 0] σ (dL σ id g t fun r=>∃ l,r=.list 3 (pv l)∧l.length≤5∧On l∧Ht l):=by
 refine HC.vY hid ?_
 obtain ⟨dF,n0,c0⟩:=σ
 simp only at hob hid
 refine aM Bi (by simp) ?_
 simp only [sd]
 try simp (disch:=omega) only [go_sem,↓reduceIte,reduceCtorEq]
 refine aK (ah _ id g au true t at' 5 (by exact hob) (by omega) hl) ?_
 have hx1:=aH t at' 5
 generalize bc t at' 5=dr at *
 obtain ⟨x0,at0⟩:=dr
 simp only at hx1
 try simp (disch:=omega) only [go_sem,↓reduceIte]
 obtain ⟨K,hK⟩:∃ K:Nat,(K:Int)=x0∧K≤4:=⟨x0.toNat,by omega,by omega⟩
 obtain ⟨rfl,hK⟩:=hK
 refine bd [3,4,5,8,9,10,11,12,13,14,15,16,17,18,19,20,21,22,23,24,25,26,27] (by kernel_rfl) (K+1) (fun k e σ=>e 5=.int .i64 ((K:Int)-k)∧n0≤σ.n∧(∃ a,σ.ob id=some ⟨g,2,au,false,true,[bw t a]⟩)∧(∀ i,i<n0→i≠id→σ.ob i=dF i)∧∃ y,e 4=.int .i64 y∧0≤y∧y≤3 * k∧
   ∃ l X,At e 3 X∧l.length=k∧On l∧(Ht l∧∀ q∈l,q.id≤y)∧cd 3 131 σ (pv l) X∧∀ i,i<n0→aU X i) ?_ ?_
 ·exact ⟨(by first | rfl | (simp (disch:=omega) only [go_sem,jA,jB,jC,jD,jE,jF,jG,jH,jI,jJ,↓reduceIte,reduceCtorEq,jP,jO,jM,jN]; try rfl)),Nat.le_refl _,⟨at0,by try simp (disch:=omega) only [go_sem,↓reduceIte]⟩,fun i hi hne=>by simp only; rw [aa _ _ _ _ hne],0,(by first | rfl | (simp (disch:=omega) only [go_sem,jA,jB,jC,jD,jE,jF,jG,jH,jI,jJ,↓reduceIte,reduceCtorEq,jP,jO,jM,jN]; try rfl)),by omega,by omega,[],.nil,(by simp only [At]; try simp (disch:=omega) only [go_sem,jF,↓reduceIte]),rfl,fun p hp=>by simp at hp,⟨fun i hi=>by simp at hi,fun q hq=>by simp at hq⟩,cd.nil,fun i _=>aU.nil i⟩
 rintro k fe ob m c hk hm ⟨h5,hm1,⟨at3,hd⟩,hfr,y,h4,y0,y1,l,X,h3,hll,hB,hV,hX,ho⟩
 simp (maxSteps:=1000000) only [go_sem,jF,↓reduceIte,At] at h5 hm hm1 hd hfr h4 h3
 try simp (disch:=omega) only [go_sem,jF,↓reduceIte,h5]
 refine aj (fun hge=>?_) (fun hlt=>?_)
 ·have hkl:k<K+1:=by omega
  try simp (disch:=omega) only [go_sem,jF,↓reduceIte,reduceCtorEq]
  refine aK (ah _ id g au true t at3 3 (by exact hd) (by omega) hl) ?_
  have hx2:=aH t at3 3
  generalize bc t at3 3=dr at *
  obtain ⟨x2,at4⟩:=dr
  simp only at hx2
  try simp (disch:=omega) only [go_sem,jF,↓reduceIte,reduceCtorEq,jO,h4,h3]
  refine aK (ah _ id g au true t at4 3 (by try simp (disch:=omega) only [go_sem,↓reduceIte]) (by omega) hl) ?_
  have hx3:=aH t at4 3
  generalize bc t at4 3=dr at *
  obtain ⟨x3,at5⟩:=dr
  simp only at hx3
  try simp (disch:=omega) only [go_sem,↓reduceIte,reduceCtorEq,jO]
  refine aK (ah _ id g au true t at5 1000 (by try simp (disch:=omega) only [go_sem,↓reduceIte]) (by omega) hl) ?_
  have hx4:=aH t at5 1000
  generalize bc t at5 1000=dr at *
  obtain ⟨x4,at6⟩:=dr
  simp only at hx4
  try simp (disch:=omega) only [go_sem,jF,jG,jH,↓reduceIte,jO,nJ]
  refine bz (b:=24) (hX.move (by exact Nat.le_refl _) fun i hi hno=>?_) (by rw [ba]; omega) (by rw [ba]; omega) fun Y τ5 hR5 hK5=>?_
  ·simp only
   rw [aa _ _ _ _ fun e=>hno (by rw [e]; exact ho id hid)]
  obtain ⟨ob5,m5,c5⟩:=τ5
  have hn5:m≤m5:=hK5.1
  have f5:∀ i,i<n0→i≠id→ob5 i=ob i:=fun i hi hne=>(hK5.2.1 i (by simp only; omega) (ho i hi)).trans (aa _ _ _ _ hne)
  have d5:=(hK5.2.1 id (by simp only; omega) (ho id hid)).trans (ay _ _ _)
  try simp (disch:=omega) only [go_sem,jF,↓reduceIte,jO]
  refine aF m5 hkl (by omega) ⟨by try simp (disch:=omega) only [go_sem,↓reduceIte]; congr 1; omega,by simp only [St.aC]; omega,⟨at6,by rw [aX (by omega)]; exact d5⟩,fun i hi hne=>by rw [aX (by omega),f5 i hi hne]; exact hfr i hi hne,y+(1+x2),(by first | rfl | (simp (disch:=omega) only [go_sem,jA,jB,jC,jD,jE,jF,jG,jH,jI,jJ,↓reduceIte,reduceCtorEq,jP,jO,jM,jN]; try rfl)),by omega,by omega,
   l++[⟨y+(1+x2),1+x3,1+x4⟩],Y,(by simp only [At]; try simp (disch:=omega) only [go_sem,jF,↓reduceIte]),by simp [hll],fun p hp=>?_,⟨hV.1.snoc (fun q hq=>by have:=hV.2 q hq; simp only; omega) (by simp only; omega),fun q hq=>?_⟩,?_,fun i hi=>hK5.2.2 i (by simp only; omega) (ho i hi)⟩
  ·rcases List.mem_append.1 hp with hp | hp
   ·exact hB p hp
   ·obtain rfl:p=_:=by simpa using hp
    simp only; omega
  ·rcases List.mem_append.1 hq with hq | hq
   ·have:=hV.2 q hq; omega
   ·obtain rfl:q=_:=by simpa using hq
    simp only; omega
  ·rw [show pv (l++[⟨y+(1+x2),1+x3,1+x4⟩])=pv l++[.agg [.int .i64 (y+(1+x2)),.int .i64 (1+x3),.int .i64 (1+x4)]] by simp [pv,rh]]
   exact hR5.tr
 obtain rfl:k=K+1:=by omega
 try simp (disch:=omega) only [go_sem,jF,↓reduceIte,h3]
 refine ⟨.list 3 (pv l),at3,?_,⟨l,rfl,by omega,hB,hV.1⟩,hd,hfr⟩
 exact hX.mL (fun i hi hh=>by simp only; rw [if_neg fun h=>hh (ho i h)]) (CA _) (Fl _)
theorem IK (σ:St) (id g:Nat) (t:List Int) (at':Nat) (hl:t.length≤9223372036854775807) (hid:id<σ.n) (hob:σ.ob id=some ⟨g,2,au,false,true,[bw t at']⟩) :
  HC prog rz [.ptr id g 2 0 0] σ (dL σ id g t fun r=>∃ l,r=.list 3 (pv l)∧l.length≤5∧On l):=
 (oC σ id g t at' hl hid hob).mono fun _ _ h=>h.mono fun _ ⟨l,h1,h2,h3,_⟩=>⟨l,h1,h2,h3⟩
def RM (r:AV):Prop:=∃ a b c,r=.tuple [.int .i64 a,.int .i64 b,.int .i64 c]∧0≤a∧a≤1073741824∧0≤b∧b≤1073741824∧0≤c∧c≤4294967296
theorem EA:∀ (l:List Int) (c:Int),0≤c→c≤2147483647→0≤p7 c l∧p7 c l≤2147483647
 | [],c,h0,h1=>⟨h0,h1⟩
 | n :: l,c,h0,h1=>by
  have b1:=s7 n
  have b2:=mG (n.tmod 2147483647+2147483647) (by omega)
  have b3:=mG (31 * c+(n.tmod 2147483647+2147483647).tmod 2147483647) (by omega)
  rw [p7]
  exact EA l _ b3.1 (by omega)
theorem Ez (key kind:Int) (d:Dv):0≤rH key kind d∧rH key kind d≤2147483647:=EA _ 7 (by omega) (by omega)
theorem kL (σ:St) (id g:Nat) (t:List Int) (at':Nat) (K:Dk) (hB:An K) (now:Int) (hl:t.length≤9223372036854775807) (hid:id<σ.n) (hob:σ.ob id=some ⟨g,2,au,false,true,[bw t at']⟩) :
  HC prog ru [.ptr id g 2 0 0,bY K,.int .i64 now] σ (dL σ id g t RM):=by
 refine HC.vY hid ?_
 obtain ⟨dF,n0,c0⟩:=σ
 simp only at hob hid
 refine aM sf (by simp) ?_
 simp only [mC]
 have z0:¬id=n0:=by omega
 have z1:¬n0=id:=by omega
 try simp (disch:=omega) only [go_sem,jF,jG,jH,↓reduceIte,reduceCtorEq,db,dy,Ev,aV]
 have hlp:=hB.lp
 have hld:=hB.ld
 have fin:∀ (ob':Nat→Option aS) (c' m':Nat) (a b c:Int) (at2:Nat),ob' id=some ⟨g,2,au,false,true,[bw t at2]⟩→(∀ i,i<n0→i≠id→ob' i=dF i)→(0≤a∧a≤1073741824∧0≤b∧b≤1073741824∧0≤c∧c≤4294967296)→
   Cc ⟨dF,n0,c0⟩ id g t RM (.tuple [.int .i64 a,.int .i64 b,.int .i64 c]) ⟨ob',m',c'⟩:=fun ob' c' m' a b c at2 h1 h2 h3=>⟨_,at2,.pure rfl,⟨a,b,c,rfl,h3⟩,h1,h2⟩
 refine bC rfl (fun g1=>?_) (fun g1=>?_) <;> try simp (disch:=omega) only [go_sem,jF,jH,↓reduceIte,reduceCtorEq,I7,ba]
 ·refine aK (ah _ id g au true t at' 3 (by try simp (disch:=omega) only [go_sem,↓reduceIte,z0]; exact hob) (by omega) hl) ?_
  have hx1:=aH t at' 3
  generalize bc t at' 3=dr at *
  obtain ⟨x1,at1⟩:=dr
  simp only at hx1
  try simp (disch:=omega) only [go_sem,↓reduceIte,reduceCtorEq,jO]
  refine aK (ah _ id g au true t at1 3 (by try simp (disch:=omega) only [go_sem,↓reduceIte]) (by omega) hl) ?_
  have hx2:=aH t at1 3
  generalize bc t at1 3=dr at *
  obtain ⟨x2,at2⟩:=dr
  simp only at hx2
  try simp (disch:=omega) only [go_sem,↓reduceIte,reduceCtorEq,jO]
  refine aK (ah _ id g au true t at2 100 (by try simp (disch:=omega) only [go_sem,↓reduceIte]) (by omega) hl) ?_
  have hx3:=aH t at2 100
  generalize bc t at2 100=dr at *
  obtain ⟨x3,at3⟩:=dr
  simp only at hx3
  try simp (disch:=omega) only [go_sem,jF,↓reduceIte]
  exact fin _ _ _ _ _ _ at3 (by try simp (disch:=omega) only [go_sem,↓reduceIte]) (fun i hi hne=>by
   have j0:¬i=n0:=by omega
   try simp (disch:=omega) only [go_sem,↓reduceIte,j0,hne]) (by omega)
 refine aj (fun g2=>?_) (fun g2=>?_) <;> try simp (disch:=omega) only [go_sem,jF,jG,jH,↓reduceIte,reduceCtorEq]
 ·refine aK (ah _ id g au true t at' 3 (by try simp (disch:=omega) only [go_sem,↓reduceIte,z0]; exact hob) (by omega) hl) ?_
  have hx1:=aH t at' 3
  generalize bc t at' 3=dr at *
  obtain ⟨x1,at1⟩:=dr
  simp only at hx1
  try simp (disch:=omega) only [go_sem,↓reduceIte,reduceCtorEq,jO]
  refine aK (ah _ id g au true t at1 3 (by try simp (disch:=omega) only [go_sem,↓reduceIte]) (by omega) hl) ?_
  have hx2:=aH t at1 3
  generalize bc t at1 3=dr at *
  obtain ⟨x2,at2⟩:=dr
  simp only at hx2
  try simp (disch:=omega) only [go_sem,↓reduceIte,reduceCtorEq,jO]
  refine aK (ah _ id g au true t at2 100 (by try simp (disch:=omega) only [go_sem,↓reduceIte]) (by omega) hl) ?_
  have hx3:=aH t at2 100
  generalize bc t at2 100=dr at *
  obtain ⟨x3,at3⟩:=dr
  simp only at hx3
  try simp (disch:=omega) only [go_sem,jF,↓reduceIte]
  exact fin _ _ _ _ _ _ at3 (by try simp (disch:=omega) only [go_sem,↓reduceIte]) (fun i hi hne=>by
   have j0:¬i=n0:=by omega
   try simp (disch:=omega) only [go_sem,↓reduceIte,j0,hne]) (by omega)
 try simp (disch:=omega) only [go_sem,jF,jG,jH,↓reduceIte,reduceCtorEq,Ev,aV]
 refine aK (ah _ id g au true t at' K.ds.length (by try simp (disch:=omega) only [go_sem,↓reduceIte,z0]; exact hob) (by omega) hl) ?_
 have hx1:=aH t at' K.ds.length
 generalize bc t at' K.ds.length=dr at *
 obtain ⟨x1,at1⟩:=dr
 simp only at hx1
 obtain ⟨i1,hi1⟩:∃ i1:Nat,(i1:Int)=x1∧i1<K.ds.length:=⟨x1.toNat,by omega,by omega⟩
 obtain ⟨rfl,hi1⟩:=hi1
 have hg1:=ik hi1
 have hd1:=IN hB i1
 generalize gD K.ds i1=d at *
 try simp (disch:=omega) only [go_sem,jF,jH,↓reduceIte,reduceCtorEq,jM,z1,aV,ek,hg1,Option.map_some,zJ,C4,C6,vW,vX,C5,I7,ba]
 have z2:¬n0+1=id:=by omega
 have z3:¬id=n0+1:=by omega
 refine ⟨by omega,by omega,?_⟩
 refine aK (ah _ id g au true t at1 K.ps.length (by try simp (disch:=omega) only [go_sem,↓reduceIte,z3]) (by omega) hl) ?_
 have hx2:=aH t at1 K.ps.length
 generalize bc t at1 K.ps.length=dr at *
 obtain ⟨x2,at2⟩:=dr
 simp only at hx2
 obtain ⟨i2,hi2⟩:∃ i2:Nat,(i2:Int)=x2∧i2<K.ps.length:=⟨x2.toNat,by omega,by omega⟩
 obtain ⟨rfl,hi2⟩:=hi2
 have hg2:=sL hi2
 have hd2:=hB.ip _ (List.mem_of_getElem? hg2)
 generalize gP K.ps i2=p at *
 try simp (disch:=omega) only [go_sem,jF,jG,jH,↓reduceIte,reduceCtorEq,jM,z1,z2,ba,jR,hg2,Option.map_some,rh,I3]
 refine ⟨by omega,by omega,?_⟩
 refine ab (mf p.key 1 d) (by simp [qC,go_sem]) ?_
 have cb1:=Ez p.key 1 d
 have cb2:=Ez p.key 2 d
 have z4:¬n0+1+1=id:=by omega
 have z5:¬id=n0+1+1:=by omega
 try simp (disch:=omega) only [go_sem,↓reduceIte,reduceCtorEq]
 refine aK (ah _ id g au true t at2 8 (by try simp (disch:=omega) only [go_sem,↓reduceIte,z5]) (by omega) hl) ?_
 generalize bc t at2 8=dr at *
 obtain ⟨x3,at3⟩:=dr
 try simp (disch:=omega) only [go_sem,↓reduceIte]
 refine aj (fun g3=>?_) (fun g3=>?_)
 ·try simp (disch:=omega) only [go_sem,jF,jG,jH,↓reduceIte,jM,z2,z4,I3]
  refine ab (mf p.key 2 d) (by simp [qC,go_sem]) ?_
  try simp (disch:=omega) only [go_sem,jF,jH,↓reduceIte,jM,z2,z4,BY]
  exact fin _ _ _ _ _ _ at3 (by try simp (disch:=omega) only [go_sem,↓reduceIte]) (fun i hi hne=>by
   have j0:¬i=n0:=by omega
   have j1:¬i=n0+1:=by omega
   have j2:¬i=n0+1+1:=by omega
   try simp (disch:=omega) only [go_sem,↓reduceIte,j0,j1,j2,hne]) (by omega)
 try simp (disch:=omega) only [go_sem,jF,↓reduceIte]
 refine aj (fun g4=>?_) (fun g4=>?_)
 ·try simp (disch:=omega) only [go_sem,jF,jH,↓reduceIte,jO,jM,z2,z4,BY]
  exact fin _ _ _ _ _ _ at3 (by try simp (disch:=omega) only [go_sem,↓reduceIte]) (fun i hi hne=>by
   have j0:¬i=n0:=by omega
   have j1:¬i=n0+1:=by omega
   have j2:¬i=n0+1+1:=by omega
   try simp (disch:=omega) only [go_sem,↓reduceIte,j0,j1,j2,hne]) (by omega)
 try simp (disch:=omega) only [go_sem,jF,jH,↓reduceIte,jM,z2,z4,BY]
 exact fin _ _ _ _ _ _ at3 (by try simp (disch:=omega) only [go_sem,↓reduceIte]) (fun i hi hne=>by
   have j0:¬i=n0:=by omega
   have j1:¬i=n0+1:=by omega
   have j2:¬i=n0+1+1:=by omega
   try simp (disch:=omega) only [go_sem,↓reduceIte,j0,j1,j2,hne]) (by omega)
theorem uq {ds:List Dv} {Fs:List AV} {i:Nat} {d:Dv} {E:AV} (h1:ds[i]?=some d) (h2:Fs[i]?=some E):(cq ds Fs)[i]?=some (jY d E):=by simp [cq,List.getElem?_zipWith,h1,h2]
theorem s5 {α β γ:Type} (f:α→β→γ):∀ (l:List α) (r:List β) (i:Nat) (a:α) (b:β),(List.zipWith f l r).set i (f a b)=List.zipWith f (l.set i a) (r.set i b)
 | [],_,_,_,_=>by simp
 | _ :: _,[],i,_,_=>by cases i <;> simp
 | x :: l,y :: r,0,a,b=>rfl
 | x :: l,y :: r,i+1,a,b=>by simp [s5 f l r i a b]
theorem tg {α:Type} {l:List α} {i:Nat} {a:α} (h:l[i]?=some a):l.set i a=l:=by
 apply List.ext_getElem?
 intro j
 by_cases e:i=j
 ·subst e; rw [h,List.getElem?_set_self (List.getElem?_eq_some_iff.1 h).1]
 ·rw [List.getElem?_set_ne e]
theorem GM (K:Dk) (id who code now kind:Int):∀ (l:List Dv) (i:Nat),(rb K id who code now kind l i).2.2=0→∃ j:Nat,(rb K id who code now kind l i).1=j∧j<i+l.length
 | [],i,h=>by simp [rb] at h
 | d :: l,i,h=>by
  rw [rb] at h ⊢
  split at h
  ·rename_i h1
   rw [if_pos h1]
   obtain ⟨j,h2,h3⟩:=GM K id who code now kind l (i+1) h
   exact ⟨j,h2,by simp; omega⟩
  ·rename_i h1
   rw [if_neg h1]
   split at h
   ·simp at h
   ·rename_i h2
    rw [if_neg h2]
    split at h
    ·simp at h
    ·rename_i h3
     rw [if_neg h3]
     split at h
     ·simp at h
     ·rename_i h4
      rw [if_neg h4]
      exact ⟨i,rfl,by simp⟩
theorem qH {K:Dk} {id who code now kind:Int} (h:(bD K id who code now kind).2.2=0):∃ j:Nat,(bD K id who code now kind).1=j∧j<K.ds.length:=by
 unfold bD at h ⊢
 split at h
 ·simp at h
 ·rename_i h1
  rw [if_neg h1]
  obtain ⟨j,h2,h3⟩:=GM K id who code now kind K.ds 0 h
  exact ⟨j,h2,by omega⟩
theorem k8 {K:Dk} {id who code now kind:Int} (h:(bD K id who code now kind).2.2=0):cj K=true:=by
 cases hc:cj K
 ·rw [bD,if_pos hc] at h; simp at h
 ·rfl
theorem IC.set {es:Nat} {ty:TypeId} {σ τ:St} {Es:List AV} {Ls:List (List AV)} {j:Nat} {E':AV} {L':List AV} (h:IC es ty σ Es Ls) (hj:cd es ty τ L' E') (ho:∀ (i:Nat) (E:AV) (L:List AV),i≠j→Es[i]?=some E→Ls[i]?=some L→cd es ty τ L E):IC es ty τ (Es.set j E') (Ls.set j L'):=by
 refine ⟨by simp [h.1],fun i E L hE hL=>?_⟩
 by_cases e:i=j
 ·subst e
  rw [List.getElem?_set_self'] at hE hL
  cases h1:Es[i]? <;> simp [h1] at hE
  cases h2:Ls[i]? <;> simp [h2] at hL
  subst hE; subst hL
  exact hj
 ·rw [List.getElem?_set_ne (Ne.symm e)] at hE hL
  exact ho i E L e hE hL
theorem cd.gE {es:Nat} {ty:TypeId} {σ τ:St} {L:List AV} {X:AV} (h:cd es ty σ L X) {K:AV→St→Prop} (k:K (.int .i64 L.length) τ):gE X τ K:=by
 rcases h with ⟨rfl,rfl⟩ | ⟨id,g,rfl,_,_⟩
 ·simpa [Ab.gE] using k
 ·simpa [Ab.gE] using k
theorem sy (K:Dk) (hB:HD K) (id who code now:Int):PC prog mT [bY K,.int .i64 id,.int .i64 who,.int .i64 code,.int .i64 now] (.tuple [bY (lu K id who code now).1,.int .i64 (lu K id who code now).2]):=by
 have hlp:=hB.lp
 have hld:=hB.ld
 have hKp:=en K
 have hS0:lu K id who code now=if (bD K id who code now 2).2.2≠0 then (wS,(bD K id who code now 2).2.2) else (⟨K.ps,K.nx,K.ds.set (bD K id who code now 2).1.toNat { gD K.ds (bD K id who code now 2).1.toNat with wd:=true }⟩,0):=rfl
 refine ae wj (by simp) ?_
 simp only [ng]
 try simp (disch:=omega) only [go_sem,jF,jG,jH,↓reduceIte,reduceCtorEq,db,dy,iq]
 refine ab (tx K id who code now 2 (by omega) (by omega)) (by simp [hKp,go_sem]) ?_
 have hok:=@qH K id who code now 2
 have hck:=@k8 K id who code now 2
 generalize bD K id who code now 2=a at *
 obtain ⟨i,p,e⟩:=a
 simp only at hok hS0 hck
 try simp (disch:=omega) only [go_sem,jF,jG,jH,↓reduceIte,rh]
 refine bn (fun h1=>?_) (fun h1=>?_)
 ·try simp (disch:=omega) only [go_sem,jF,jG,jH,↓reduceIte]
  rw [hS0,if_pos h1]
  exact aA.tu (.cons eO (.cons (aA.e rfl) .nil))
 obtain rfl:e=0:=by simpa using h1
 rw [if_neg (by simp)] at hS0
 obtain ⟨j,rfl,hj⟩:=hok rfl
 have hc:=hck rfl
 have hnx:=iB hc
 rw [Int.toNat_natCast] at hS0
 have hg:=ik hj
 generalize gD K.ds j=d at *
 try simp (disch:=omega) only [go_sem,jF,jH,↓reduceIte,reduceCtorEq,iq]
 refine (mz _ K (by omega) (by omega) fun d hd=>by have:=fZ hc hd; omega).mono ?_
 rintro r ⟨ob1,n1,c1⟩ ⟨XP,XA,Fs,l1,rfl,hl1,hl2,hP,hPl,hA,hI,hG,hfr⟩
 simp only at hl1 hl2 hPl hfr
 have u0:=hfr 0 (by omega)
 have u1:=hfr 1 (by omega)
 have u2:=hfr 2 (by omega)
 try simp (disch:=omega) only [go_sem,↓reduceIte,reduceCtorEq] at u0
 try simp (disch:=omega) only [go_sem,jF,↓reduceIte] at u1
 try simp (disch:=omega) only [go_sem,↓reduceIte] at u2
 have hFl:Fs.length=K.ds.length:=by have:=hI.1; simpa [lq] using this
 have hFg:Fs[j]?=some Fs[j]:=List.getElem?_eq_getElem (by omega)
 generalize Fs[j]=E at *
 have hxg:=uq hg hFg
 have hXl:(cq K.ds Fs).length=K.ds.length:=by simp [cq]; omega
 rcases hA with ⟨_,h0⟩ | ⟨ia,ga,rfl,hia,hoa⟩
 ·rw [h0] at hXl; simp at hXl; omega
 simp only at hia hoa
 have hal:l1≤ia:=(hG.low ia fun h=>h _ _ _ _ rfl).1
 try simp (disch:=omega) only [go_sem,jF,jG,jH,↓reduceIte,reduceCtorEq,jM,u0,u1,hP.one,FL,hoa,hxg,hXl]
 refine ⟨by omega,by omega,?_⟩
 rw [hS0]
 have hW:iG 6 (.bool true) (jY d E)=jY { d with wd:=true } E:=rfl
 have hD:(cq K.ds Fs).set j (jY { d with wd:=true } E)=cq (K.ds.set j { d with wd:=true }) Fs:=by
  rw [cq,s5 jY,tg hFg]; rfl
 have hIn:lq (K.ds.set j { d with wd:=true })=lq K.ds:=by
  have h9:(lq K.ds)[j]?=some (ints d.sg):=by simp [lq,hg]
  rw [lq,List.map_set]
  exact tg h9
 have hlen:(cq (K.ds.set j { d with wd:=true }) Fs).length=K.ds.length:=by simp [cq]; omega
 rw [hW,hD]
 refine aA.tu (.cons (so (Fs:=Fs) (hP.move (Nat.le_refl _) fun i hi hh=>?_) (.inr ⟨ia,ga,by rw [hlen],hia,?_⟩) ?_) (.cons (aA.e rfl) .nil))
 ·have h9:=hPl i hh
  simp only
  rw [aa _ _ _ _ (by omega),aa _ _ _ _ (by omega),aa _ _ _ _ (by omega)]
 ·simp only
  rw [aa _ _ _ _ (by omega),ay]
 ·rw [hIn]
  refine hI.move (Nat.le_refl _) fun F hF i hi hlt=>?_
  have h9:=(hG.Eh F hF i hi).1
  have h8:¬i=ia:=fun h=>aU.ne (hG.sep F hF i hi) h.symm
  simp only
  rw [aa _ _ _ _ (by omega),aa _ _ _ _ h8,aa _ _ _ _ (by omega)]
theorem tz (K:Dk) (hB:An K) (id who code now:Int):PC prog mT [bY K,.int .i64 id,.int .i64 who,.int .i64 code,.int .i64 now] (.tuple [bY (lu K id who code now).1,.int .i64 (lu K id who code now).2]):=sy K hB.s id who code now
theorem yJ (K:Dk) (hB:HD K) (id who code now:Int):PC prog tP [bY K,.int .i64 id,.int .i64 who,.int .i64 code,.int .i64 now] (.tuple [bY (kg K id who code now).1,.int .i64 (kg K id who code now).2]):=by
 have hlp:=hB.lp
 have hld:=hB.ld
 have hKp:=en K
 have hS0:kg K id who code now=if (bD K id who code now 1).2.2≠0 then (wS,(bD K id who code now 1).2.2) else
  if (gD K.ds (bD K id who code now 1).1.toNat).sg.length=2 then (wS,46) else if nL K who (bD K id who code now 1).2.1.role (gD K.ds (bD K id who code now 1).1.toNat).sg≠0 then (wS,nL K who (bD K id who code now 1).2.1.role (gD K.ds (bD K id who code now 1).1.toNat).sg) else
  (⟨K.ps,K.nx,K.ds.set (bD K id who code now 1).1.toNat { gD K.ds (bD K id who code now 1).1.toNat with sg:=(gD K.ds (bD K id who code now 1).1.toNat).sg++[who] }⟩,0):=rfl
 refine ae Dr (by simp) ?_
 simp only [uE]
 try simp (disch:=omega) only [go_sem,jF,jG,jH,↓reduceIte,reduceCtorEq,db,dy,iq]
 refine ab (tx K id who code now 1 (by omega) (by omega)) (by simp [hKp,go_sem]) ?_
 have hok:=@qH K id who code now 1
 have hck:=@k8 K id who code now 1
 generalize bD K id who code now 1=a at *
 obtain ⟨i,p,e⟩:=a
 simp only at hok hS0 hck
 try simp (disch:=omega) only [go_sem,jF,jG,jH,↓reduceIte,rh]
 refine bn (fun h1=>?_) (fun h1=>?_)
 ·try simp (disch:=omega) only [go_sem,jF,jG,jH,↓reduceIte]
  rw [hS0,if_pos h1]
  exact aA.tu (.cons eO (.cons (aA.e rfl) .nil))
 obtain rfl:e=0:=by simpa using h1
 rw [if_neg (by simp)] at hS0
 obtain ⟨j,rfl,hj⟩:=hok rfl
 have hc:=hck rfl
 have hnx:=iB hc
 rw [Int.toNat_natCast] at hS0
 have hg:=ik hj
 have hgk:=fZ hc (List.mem_of_getElem? hg)
 generalize gD K.ds j=d at *
 try simp (disch:=omega) only [go_sem,jF,jH,↓reduceIte,reduceCtorEq,iq]
 refine (mz _ K (by omega) (by omega) fun d hd=>by have:=fZ hc hd; omega).mono ?_
 rintro r ⟨ob1,n1,c1⟩ ⟨XP,XA,Fs,l1,rfl,hl1,hl2,hP,hPl,hA,hI,hG,hfr⟩
 simp only at hl1 hl2 hPl hfr
 have u0:=hfr 0 (by omega)
 have u1:=hfr 1 (by omega)
 have u2:=hfr 2 (by omega)
 try simp (disch:=omega) only [go_sem,↓reduceIte,reduceCtorEq] at u0
 try simp (disch:=omega) only [go_sem,jF,↓reduceIte] at u1
 try simp (disch:=omega) only [go_sem,↓reduceIte] at u2
 have hFl:Fs.length=K.ds.length:=by have:=hI.1; simpa [lq] using this
 have hjF:j<Fs.length:=by omega
 have hFg:Fs[j]?=some Fs[j]:=List.getElem?_eq_getElem hjF
 generalize hEE:Fs[j]=E at *
 have hxg:=uq hg hFg
 have hXl:(cq K.ds Fs).length=K.ds.length:=by simp [cq]; omega
 rcases hA with ⟨_,h0⟩ | ⟨ia,ga,rfl,hia,hoa⟩
 ·rw [h0] at hXl; simp at hXl; omega
 simp only at hia hoa
 have hal:l1≤ia:=(hG.low ia fun h=>h _ _ _ _ rfl).1
 have hEs:=hI.2 j E (ints d.sg) hFg (by simp [lq,hg])
 have z0:¬ia=0:=by omega
 have d5:∀ d E,(jY d E).cells.getD 5 .bA=E:=fun _ _=>rfl
 try simp (disch:=omega) only [go_sem,jF,jG,jH,↓reduceIte,u0,hP.one,FL,hoa,hxg,hXl,z0,d5]
 refine ⟨by omega,by omega,?_⟩
 refine hEs.gE ?_
 try simp (disch:=omega) only [go_sem,↓reduceIte,aw]
 refine aj (fun h2=>?_) (fun h2=>?_) <;> try simp (disch:=omega) only [go_sem,jF,jG,jH,↓reduceIte,reduceCtorEq,jM,u1]
 ·rw [hS0,if_pos (by omega)]
  exact aA.tu (.cons eO (.cons (aA.e rfl) .nil))
 rw [if_neg (by omega)] at hS0
 try simp (disch:=omega) only [go_sem,hoa,hxg,d5]
 refine hEs.gE ?_
 try simp (disch:=omega) only [go_sem,aw]
 have hEo:∀ i,¬aU E i→l1≤i∧i<n1:=fun i hi=>hG.Eh E (List.mem_of_getElem? hFg) i hi
 have hEa:aU E ia:=aU.em fun h=>aU.ne (hG.sep E (List.mem_of_getElem? hFg) ia h) rfl
 refine bd [11,17,18,19,52,53,54,55,56,57,58,59,60,61,62,63,64,65,66,67,68,69,70,71,72] (by kernel_rfl) d.sg.length (fun i e σ=>e 52=.int .i64 i∧n1≤σ.n∧(∀ i,i<n1→i≠0→σ.ob i=ob1 i)∧σ.ob 0=some ⟨0,3,44,false,true,[.agg [XP,.int .i64 K.nx,.sl ia ga 7 0 K.ds.length]]⟩∧nL K who p.role d.sg=nL K who p.role (d.sg.drop i)) ?_ ?_
 ·exact ⟨(by first | rfl | (simp (disch:=omega) only [go_sem,jA,jB,jC,jD,jE,jF,jG,jH,jI,jJ,↓reduceIte,reduceCtorEq,jP,jO,jM,jN]; try rfl)),Nat.le_refl _,fun i hi hne=>aa _ _ _ _ hne,by try simp (disch:=omega) only [go_sem,↓reduceIte],rfl⟩
 rintro i fe ob m c hi hm ⟨h52,hm1,hfr2,v0,hsg⟩
 simp (maxSteps:=1000000) only [go_sem,jF,↓reduceIte] at h52 hm hm1 v0 hfr2
 have v1:=(hfr2 1 (by omega) (by omega)).trans u1
 have v2:=(hfr2 2 (by omega) (by omega)).trans u2
 have va:=(hfr2 ia hia z0).trans hoa
 try simp (disch:=omega) only [go_sem,jF,↓reduceIte,h52]
 refine aj (fun hlt=>?_) (fun hge=>?_)
 ·have hil:i<d.sg.length:=by omega
  rw [List.drop_eq_getElem_cons hil,nL] at hsg
  have hgi:=bH d.sg i
  rw [List.getElem?_eq_getElem hil] at hgi
  generalize d.sg[i]=s at *
  rcases hEs with ⟨rfl,hz⟩ | ⟨ie,ge,rfl,hie,hoe⟩
  ·simp [ints] at hz; rw [hz] at hil; simp at hil
  simp only at hie hoe
  have hie1:=hEo ie fun h=>h _ _ _ _ rfl
  have ve:=(hfr2 ie hie (by omega)).trans hoe
  try simp (disch:=omega) only [go_sem,jF,jH,↓reduceIte,reduceCtorEq,ve,hgi,Option.map_some,aw]
  refine ⟨by omega,by omega,?_⟩
  refine aj (fun h3=>?_) (fun h3=>?_) <;> try simp (disch:=omega) only [go_sem,jF,jG,jH,↓reduceIte,v1]
  ·rw [if_pos h3] at hsg
   rw [hS0,if_pos (by rw [hsg]; omega),hsg]
   exact aA.tu (.cons eO (.cons (aA.e rfl) .nil))
  rw [if_neg h3] at hsg
  try simp (disch:=omega) only [go_sem,v0]
  have hPub:aA ⟨ob,m,c⟩ (.agg [XP,.int .i64 K.nx,.sl ia ga 7 0 K.ds.length]) (bY K):=by
   refine so (Fs:=Fs) (hP.move hm1 fun i hi hh=>hfr2 i hi (by have:=hPl i hh; omega)) (.inr ⟨ia,ga,by rw [hXl],by simp only; omega,va⟩) (hI.move hm1 fun F hF i hi hlt=>hfr2 i hlt (by have:=hG.Eh F hF i hi; omega))
  refine qE (iW K s (by omega)) (.cons hPub (.cons (aA.e rfl) .nil)) (by simp [AV.Cn,rh,AV.ot]) ?_
  have z4:¬2=m:=by omega
  try simp (disch:=omega) only [go_sem,jF,jG,jH,↓reduceIte,rh,v2,z4]
  refine aj (fun h4=>?_) (fun h4=>?_)
  ·have z5:¬1=m:=by omega
   try simp (disch:=omega) only [go_sem,jF,jG,jH,↓reduceIte,v1,z5]
   rw [if_pos h4] at hsg
   rw [hS0,if_pos (by rw [hsg]; omega),hsg]
   exact aA.tu (.cons eO (.cons (aA.e rfl) .nil))
  rw [if_neg h4] at hsg
  try simp (disch:=omega) only [go_sem,jF,↓reduceIte,jO]
  refine aF (m+1) hil (by omega) ⟨(by first | rfl | (simp (disch:=omega) only [go_sem,jA,jB,jC,jD,jE,jF,jG,jH,jI,jJ,↓reduceIte,reduceCtorEq,jP,jO,jM,jN]; try rfl)),by simp only [St.aC]; omega,fun i hi hne=>?_,?_,hsg⟩
  ·rw [aX (by omega),aa _ _ _ _ (by omega),aa _ _ _ _ (by omega)]; exact hfr2 i hi hne
  ·rw [aX (by omega),aa _ _ _ _ (by omega),aa _ _ _ _ (by omega)]; exact v0
 obtain rfl:i=d.sg.length:=by omega
 rw [List.drop_length,nL] at hsg
 rw [if_neg (by simp [hsg])] at hS0
 have hse:=hEs.move (τ:=⟨ob,m,c⟩) hm1 fun i hi hh=>hfr2 i hi (by have:=hEo i hh; omega)
 try simp (disch:=omega) only [go_sem,jF,jG,jH,↓reduceIte,reduceCtorEq,va,hxg,d5]
 refine bz (b:=8) hse (by rw [aw]; omega) (by rw [aw]; omega) fun E' τ5 hE5 k5=>?_
 obtain ⟨ob5,m5,c5⟩:=τ5
 have hm5:m≤m5:=k5.1
 have q5:∀ i,i<m→aU E i→ob5 i=ob i:=fun i hi ho=>k5.2.1 i hi ho
 have oE:∀ i,i<l1→aU E i:=fun i hi=>aU.em fun h=>by have:=(hEo i h).1; omega
 have w0:=(q5 0 (by omega) (oE 0 (by omega))).trans v0
 have w1:=(q5 1 (by omega) (oE 1 (by omega))).trans v1
 have wa:=(q5 ia (by omega) hEa).trans va
 have p5:∀ y,iG 5 E' (jY d y)=jY { d with sg:=d.sg++[who] } E':=fun y=>by
  rcases hE5 with ⟨rfl,_⟩ | ⟨_,_,rfl,_⟩ <;> rfl
 have z6:¬ia=1:=by omega
 try simp (disch:=omega) only [go_sem,jF,jG,jH,↓reduceIte,jM,wa,hxg,w0,w1,hE5.flat,hE5.cells,p5,hP.one]
 rw [hS0]
 have hD:(cq K.ds Fs).set j (jY { d with sg:=d.sg++[who] } E')=cq (K.ds.set j { d with sg:=d.sg++[who] }) (Fs.set j E'):=s5 jY _ _ _ _ _
 have hlen:(cq (K.ds.set j { d with sg:=d.sg++[who] }) (Fs.set j E')).length=K.ds.length:=by simp [cq]; omega
 rw [hD]
 have oE5:∀ i,i<m→aU E i→aU E' i:=fun i hi ho=>k5.2.2 i hi ho
 have fz:∀ (x y:Option aS) i,i≠ia→i≠1→aZ (aZ ob5 ia x) 1 y i=ob5 i:=fun x y i h1 h2=>by rw [aa _ _ _ _ h2,aa _ _ _ _ h1]
 refine aA.tu (.cons (so (Fs:=Fs.set j E') (hP.move (by simp only; omega) fun i hi hh=>?_) (.inr ⟨ia,ga,by rw [hlen],by simp only; omega,?_⟩) ?_) (.cons (aA.e rfl) .nil))
 ·have h9:=hPl i hh
  simp only
  rw [fz _ _ i (by omega) (by omega),q5 i (by omega) (oE i h9.2),hfr2 i hi (by omega)]
 ·simp only
  rw [aa _ _ _ _ (by omega),ay]
 ·rw [show lq (K.ds.set j { d with sg:=d.sg++[who] })=(lq K.ds).set j (ints (d.sg++[who])) by simp [lq,List.map_set]]
  have happ:ints (d.sg++[who])=ints d.sg++[.int .i64 who]:=by simp [ints]
  refine hI.set ?_ fun i F L hne hF hL=>?_
  ·rw [happ]
   refine hE5.move (Nat.le_refl _) fun i hi hh=>?_
   have hx1:¬i=ia:=fun h=>hh (h ▸ oE5 ia (by omega) hEa)
   have hx2:¬i=1:=fun h=>hh (h ▸ oE5 1 (by omega) (oE 1 (by omega)))
   simp only
   rw [fz _ _ i hx1 hx2]
  ·refine (hI.2 i F L hF hL).move (by simp only; omega) fun q hq hh=>?_
   simp only at hq
   have h9:=(hG.Eh F (List.mem_of_getElem? hF) q hh).1
   have hx1:¬q=ia:=fun h=>aU.ne (hG.sep F (List.mem_of_getElem? hF) q hh) h.symm
   have hx3:=hG.dj i j F E hne hF hFg q hh
   simp only
   rw [fz _ _ q hx1 (by omega),q5 q (by omega) hx3,hfr2 q hq (by omega)]
theorem rn (K:Dk) (hB:An K) (id who code now:Int):PC prog tP [bY K,.int .i64 id,.int .i64 who,.int .i64 code,.int .i64 now] (.tuple [bY (kg K id who code now).1,.int .i64 (kg K id who code now).2]):=yJ K hB.s id who code now
theorem iN {K:Dk}:cj K=true↔(K.ps.length≤12∧1≤K.nx∧K.nx≤1073741824∧K.ds.length≤64)∧(∀ i,i<K.ps.length→D7 K i=true)∧∀ i,i<K.ds.length→D9 K i=true:=by
 simp only [cj,Bool.and_eq_true,gL,decide_eq_true_eq,List.all_eq_true,List.mem_range]
 constructor
 ·rintro ⟨⟨⟨⟨h1,h2,h3⟩,h4⟩,h5⟩,h6⟩; exact ⟨⟨h1,h2,h3,h4⟩,h5,h6⟩
 ·rintro ⟨⟨h1,h2,h3,h4⟩,h5,h6⟩; exact ⟨⟨⟨⟨h1,h2,h3⟩,h4⟩,h5⟩,h6⟩
theorem nT {K:Dk} {i:Nat}:D9 K i=true↔(1≤(gD K.ds i).id∧(gD K.ds i).id≤K.nx-1)∧(0<i→(gD K.ds (i-1)).id<(gD K.ds i).id)∧gC K (gD K.ds i)=true:=by
 simp only [D9,gL,Bool.and_eq_true,decide_eq_true_eq,Bool.not_eq_true',Bool.and_eq_false_iff,decide_eq_false_iff_not,and_assoc]
 constructor
 ·rintro ⟨h1,h2,h3,h4⟩; exact ⟨h1,h2,fun h0=>by rcases h3 with h3 | h3 <;> omega,h4⟩
 ·rintro ⟨h1,h2,h3,h4⟩; exact ⟨h1,h2,(by
   by_cases h0:0<i
   ·exact .inr (by have:=h3 h0; omega)
   ·exact .inl h0),h4⟩
theorem IM {l:List Dv} {i j:Nat} {d:Dv} (hj:j<l.length):gD (l.set j d) i=if i=j then d else gD l i:=by
 rw [gD,gD,List.getD_eq_getElem?_getD,List.getD_eq_getElem?_getD]
 split
 ·rename_i e; subst e; rw [List.getElem?_set_self hj]; rfl
 ·rename_i e; rw [List.getElem?_set_ne (Ne.symm e)]
theorem ED {K:Dk} (h:cj K=true) {j:Nat} {d:Dv} (hj:j<K.ds.length) (hid:d.id=(gD K.ds j).id) (hr:gC K d=true):cj ⟨K.ps,K.nx,K.ds.set j d⟩=true:=by
 obtain ⟨⟨h1,h2,h3,h4⟩,h5,h6⟩:=iN.1 h
 refine iN.2 ⟨⟨h1,h2,h3,by simpa using h4⟩,h5,fun i hi=>?_⟩
 simp only [List.length_set] at hi
 have hid':∀ i,(gD (K.ds.set j d) i).id=(gD K.ds i).id:=fun i=>by
  rw [IM hj]; split
  ·rename_i e; rw [e]; exact hid
  ·rfl
 obtain ⟨q1,q2,q3⟩:=nT.1 (h6 i hi)
 refine nT.2 ⟨by simp only; rw [hid']; exact q1,fun h0=>by simp only; rw [hid',hid']; exact q2 h0,?_⟩
 show gC K (gD (K.ds.set j d) i)=true
 rw [IM hj]; split
 ·exact hr
 ·exact q3
theorem EP (K:Dk) (id who code now kind:Int):∀ (l:List Dv) (i:Nat),(rb K id who code now kind l i).2.2=0→(rb K id who code now kind l i).2.1=(cH K who).1∧(cH K who).2=true
 | [],i,h=>by simp [rb] at h
 | d :: l,i,h=>by
  rw [rb] at h ⊢
  split at h
  ·rename_i h1
   rw [if_pos h1]
   exact EP K id who code now kind l (i+1) h
  ·rename_i h1
   rw [if_neg h1]
   split at h
   ·simp at h
   ·rename_i h2
    rw [if_neg h2]
    split at h
    ·simp at h
    ·rename_i h3
     rw [if_neg h3]
     split at h
     ·simp at h
     ·rename_i h4
      rw [if_neg h4]
      exact ⟨rfl,by simpa using h3⟩
theorem Ju {K:Dk} {id who code now kind:Int} (h:(bD K id who code now kind).2.2=0):(bD K id who code now kind).2.1=(cH K who).1∧(cH K who).2=true:=by
 have hc:=k8 h
 rw [bD,if_neg (by simp [hc])] at h ⊢
 exact EP K id who code now kind K.ds 0 h
theorem Ga {K:Dk} {who role:Int}:∀ {l:List Int},nL K who role l=0→∀ s∈l,(cH K s).1.role≠role
 | [],_,s,hs=>by cases hs
 | x :: l,h,s,hs=>by
  rw [nL] at h
  split at h
  ·cases h
  split at h
  ·cases h
  rename_i h1
  rcases List.mem_cons.1 hs with rfl | hs
  ·exact h1
  ·exact Ga h s hs
theorem NM {K:Dk} {d:Dv} (h:gC K d=true):d.sg.length≤2∧∀ s∈d.sg,(cH K s).2=true:=by
 simp only [gC,Bool.and_eq_true,decide_eq_true_eq,List.all_eq_true] at h
 exact ⟨h.1.1.2,h.1.2⟩
theorem DM {K:Dk} {id who code now:Int} (h:(lu K id who code now).2=0):cj (lu K id who code now).1=true:=by
 simp only [lu] at h ⊢
 split at h
 ·rename_i h1; exact absurd h h1
 ·rename_i h1
  rw [if_neg h1]
  have h0:(bD K id who code now 2).2.2=0:=Decidable.byContradiction h1
  obtain ⟨j,hj,hl⟩:=qH h0
  rw [hj,Int.toNat_natCast]
  have hc:=k8 h0
  have hr:=(nT.1 ((iN.1 hc).2.2 j hl)).2.2
  exact ED hc hl rfl hr
theorem DV {K:Dk} {id who code now:Int} (h:(kg K id who code now).2=0):cj (kg K id who code now).1=true:=by
 simp only [kg] at h ⊢
 split at h
 ·rename_i h1; exact absurd h h1
 rename_i h1
 rw [if_neg h1]
 split at h
 ·cases h
 rename_i h2
 rw [if_neg h2]
 split at h
 ·rename_i h3; exact absurd h h3
 rename_i h3
 rw [if_neg h3]
 have h0:(bD K id who code now 1).2.2=0:=Decidable.byContradiction h1
 have h4:=Decidable.byContradiction h3
 obtain ⟨j,hj,hl⟩:=qH h0
 obtain ⟨hw1,hw2⟩:=Ju h0
 rw [hw1] at h4
 rw [hj,Int.toNat_natCast] at h2 h4 ⊢
 have hc:=k8 h0
 have hr:=(nT.1 ((iN.1 hc).2.2 j hl)).2.2
 obtain ⟨g1,g2⟩:=NM hr
 have hE:=Ga h4
 refine ED hc hl rfl ?_
 generalize gD K.ds j=d at *
 have hl1:d.sg.length≤1:=by omega
 have hall:∀ s∈d.sg++[who],(cH K s).2=true:=fun s hs=>by
  rcases List.mem_append.1 hs with hs | hs
  ·exact g2 s hs
  ·rw [List.mem_singleton.1 hs]; exact hw2
 simp only [gC,Bool.and_eq_true] at hr ⊢
 refine ⟨⟨⟨hr.1.1.1,by simp; omega⟩,List.all_eq_true.2 hall⟩,?_⟩
 match hsg:d.sg with
 | []=>simp
 | [s]=>
  have:=hE s (by rw [hsg]; simp)
  simp [cE,this]
 | a :: b :: r=>rw [hsg] at hl1; simp at hl1
theorem pU {l:List Dv} {d:Dv} {i:Nat}:gD (l++[d]) i=if i<l.length then gD l i else if i=l.length then d else default:=by
 rw [gD,gD,List.getD_eq_getElem?_getD,List.getD_eq_getElem?_getD]
 split
 ·rename_i h; rw [List.getElem?_append_left h]
 ·rename_i h
  split
  ·rename_i e; subst e; simp
  ·rename_i e; rw [List.getElem?_eq_none (by simp; omega)]; rfl
theorem D0 {K:Dk} {site fr to rel:Int} (h:(bR K site fr to rel).2.2=0):cj (bR K site fr to rel).1=true∧(bR K site fr to rel).1.ds.length=K.ds.length+1∧(bR K site fr to rel).1.nx=K.nx+1:=by
 unfold bR at h ⊢
 cases hc:cj K
 ·rw [hc] at h; simp at h
 rw [hc] at h
 simp only [Bool.true_eq_false,if_false] at h ⊢
 split at h
 ·cases h
 rename_i h1
 rw [if_neg h1]
 split at h
 ·cases h
 rename_i h2
 rw [if_neg h2]
 split at h
 ·cases h
 rename_i h3
 rw [if_neg h3]
 split at h
 ·cases h
 rename_i h4
 rw [if_neg h4]
 obtain ⟨⟨q1,q2,q3,q4⟩,q5,q6⟩:=iN.1 hc
 refine ⟨iN.2 ⟨⟨q1,by simp only; omega,by simp only; omega,by simp; omega⟩,q5,fun i hi=>?_⟩,by simp,rfl⟩
 simp only [List.length_append,List.length_singleton] at hi
 have e1:gL site 0 5=true:=by simpa using h1
 have e3:gL rel 0 1073741824=true:=by simpa using h3
 by_cases e:i<K.ds.length
 ·obtain ⟨g1,g2,g3⟩:=nT.1 (q6 i e)
  refine nT.2 ⟨?_,fun h0=>?_,?_⟩
  ·simp only; rw [pU,if_pos e]; omega
  ·simp only; rw [pU,pU,if_pos e,if_pos (by omega)]; exact g2 h0
  ·show gC K (gD (K.ds++[_]) i)=true
   rw [pU,if_pos e]; exact g3
 ·have e':i=K.ds.length:=by omega
  refine nT.2 ⟨?_,fun h0=>?_,?_⟩
  ·simp only; rw [pU,if_neg e,if_pos e']; simp only; omega
  ·simp only; rw [pU,pU,if_neg e,if_pos e',if_pos (by omega)]
   have:=(nT.1 (q6 (i-1) (by omega))).1
   simp only; omega
  ·show gC K (gD (K.ds++[_]) i)=true
   rw [pU,if_neg e,if_pos e']
   have n1:¬fr<0:=by omega
   have n2:¬to<fr:=by omega
   have n3:¬16777216<to:=by omega
   simp [gC,e1,e3,n1,n2,n3]
theorem KJ {K:Dk} (hc:cj K=true) {site fr to rel:Int} (h1:gL site 0 5=true) (h2:0≤fr∧fr≤to∧to≤16777216) (h3:gL rel 0 1073741824=true) (h4:K.ds.length<64∧K.nx<1073741824):(bR K site fr to rel).2.2=0:=by
 rw [bR,if_neg (by simp [hc]),if_neg (by simp [h1]),if_neg (by omega),if_neg (by simp [h3]),if_neg (by omega)]
def ZL (Z:AV) (K:Dk):Prop:=Z=bY K∨∃ ps,Z=.agg [.list 3 (pv ps),.int .i64 1,.nil]∧K=⟨ps,1,[]⟩
theorem ZL.KU {Z:AV} {K:Dk} (h:ZL Z K):GO Z (bY K):=by
 rcases h with rfl | ⟨ps,rfl,rfl⟩
 ·exact .rfl
 ·exact .agg (.cons .rfl (.cons .rfl (.cons (.nil 7) .nil)))
theorem ZL.cG {Z:AV} {K:Dk} (h:ZL Z K):Z.cG=true:=by
 rcases h with rfl | ⟨ps,rfl,rfl⟩
 ·exact en K
 ·simp [go_sem]
theorem ZL.flat {Z:AV} {K:Dk} (h:ZL Z K):Z.flat=true∧Z.cells.length=3∧AV.agg (Z.cells.take 3)=Z∧AV.agg ((Z.cells.drop 0).take 3)=Z:=by
 rcases h with rfl | ⟨ps,rfl,rfl⟩
 ·exact ⟨db K,rfl,rfl,rfl⟩
 ·exact ⟨rfl,rfl,rfl,rfl⟩
theorem ZL.put {Z:AV} {K:Dk} (h:ZL Z K) (M:Dk):iG 0 (bY M) Z=bY M:=by
 rcases h with rfl | ⟨ps,rfl,rfl⟩ <;> rfl
theorem ZL.mL {Z:AV} {K:Dk} (h:ZL Z K) {σ:St}:aA σ Z (bY K):=by
 rcases h with rfl | ⟨ps,rfl,rfl⟩
 ·exact .pure (en K)
 ·exact aA.ag (.cons (aA.pure (by simp [go_sem])) (.cons (aA.e rfl) (.cons (.nl 7) .nil)))
def E7 (K:Dk) (k:Nat):Prop:=cj K=true∧K.ds.length≤k∧K.nx≤1+(k:Int)
theorem E7.up {K:Dk} {k:Nat} (h:E7 K k):E7 K (k+1):=⟨h.1,by have:=h.2.1; omega,by have:=h.2.2; omega⟩
theorem E7.start {ps:List Pn} (h:ps.length≤5) (hv:Ht ps):E7 ⟨ps,1,[]⟩ 0:=⟨iN.2 ⟨⟨by simp only; omega,by simp,by simp,by simp⟩,hv,fun i hi=>by simp at hi⟩,by simp,by simp⟩
theorem E7.T1 {K:Dk} {k:Nat} (h:E7 K k) (hk:k<60) {st fr to rl:Int} (h1:0≤st∧st≤5) (h2:0≤fr∧fr≤to∧to≤16777216) (h3:0≤rl∧rl≤1073741824):E7 (bR K st fr to rl).1 (k+1):=by
 have hl:=h.2.1
 have hn:=h.2.2
 obtain ⟨a,b,c⟩:=D0 (KJ h.1 (site:=st) (fr:=fr) (to:=to) (rel:=rl) (by simp [gL]; omega) h2 (by simp [gL]; omega) ⟨by omega,by omega⟩)
 exact ⟨a,by omega,by omega⟩
theorem E7.TG {K:Dk} {k:Nat} (h:E7 K k) {id who code now:Int} (h0:(kg K id who code now).2=0):E7 (kg K id who code now).1 (k+1):=by
 refine ⟨DV h0,?_⟩
 have hl:=h.2.1
 have hn:=h.2.2
 simp only [kg] at h0 ⊢
 split at h0
 ·rename_i h1; exact absurd h0 h1
 rename_i h1; rw [if_neg h1]
 split at h0
 ·cases h0
 rename_i h2; rw [if_neg h2]
 split at h0
 ·rename_i h3; exact absurd h0 h3
 rename_i h3; rw [if_neg h3]
 exact ⟨by simp; omega,by simp only; omega⟩
theorem E7.TR {K:Dk} {k:Nat} (h:E7 K k) {id who code now:Int} (h0:(lu K id who code now).2=0):E7 (lu K id who code now).1 (k+1):=by
 refine ⟨DM h0,?_⟩
 have hl:=h.2.1
 have hn:=h.2.2
 simp only [lu] at h0 ⊢
 split at h0
 ·rename_i h1; exact absurd h0 h1
 rename_i h1; rw [if_neg h1]
 exact ⟨by simp; omega,by simp only; omega⟩
theorem FJ (K:Dk):(bY K).cells.take 3=(bY K).cells:=rfl
theorem FK (K:Dk):AV.agg (bY K).cells=bY K:=rfl
theorem C8 (K:Dk):(bY K).cells.all AV.one=true:=rfl
theorem C9 (M:Dk):iG 0 (bY M) (.agg [.nil,.int .i64 0,.nil])=bY M:=rfl
theorem jc (σ:St) (id g:Nat) (t:List Int) (at':Nat) (K:Dk) (Z:AV) (hZ:ZL Z K) (hB:An K) (now:Int) (hl:t.length≤9223372036854775807) (hid:id<σ.n) (hob:σ.ob id=some ⟨g,2,au,false,true,[bw t at']⟩) :
  HC prog ru [.ptr id g 2 0 0,Z,.int .i64 now] σ (dL σ id g t RM):=by
 rcases hZ with rfl | ⟨ps,rfl,rfl⟩
 ·exact kL σ id g t at' K hB now hl hid hob
 ·refine HC.vY hid ?_
  obtain ⟨dF,n0,c0⟩:=σ
  simp only at hob hid
  refine aM sf (by simp) ?_
  simp only [mC]
  have z0:¬id=n0:=by omega
  have z1:¬n0=id:=by omega
  have fin:∀ (ob':Nat→Option aS) (c' m':Nat) (a b c:Int) (at2:Nat),ob' id=some ⟨g,2,au,false,true,[bw t at2]⟩→(∀ i,i<n0→i≠id→ob' i=dF i)→(0≤a∧a≤1073741824∧0≤b∧b≤1073741824∧0≤c∧c≤4294967296)→
    Cc ⟨dF,n0,c0⟩ id g t RM (.tuple [.int .i64 a,.int .i64 b,.int .i64 c]) ⟨ob',m',c'⟩:=fun ob' c' m' a b c at2 h1 h2 h3=>⟨_,at2,.pure rfl,⟨a,b,c,rfl,h3⟩,h1,h2⟩
  try simp (disch:=omega) only [go_sem,jF,jG,jH,↓reduceIte,reduceCtorEq]
  refine aK (ah _ id g au true t at' 3 (by try simp (disch:=omega) only [go_sem,↓reduceIte,z0]; exact hob) (by omega) hl) ?_
  have hx1:=aH t at' 3
  generalize bc t at' 3=dr at *
  obtain ⟨x1,at1⟩:=dr
  simp only at hx1
  try simp (disch:=omega) only [go_sem,↓reduceIte,reduceCtorEq,jO]
  refine aK (ah _ id g au true t at1 3 (by try simp (disch:=omega) only [go_sem,↓reduceIte]) (by omega) hl) ?_
  have hx2:=aH t at1 3
  generalize bc t at1 3=dr at *
  obtain ⟨x2,at2⟩:=dr
  simp only at hx2
  try simp (disch:=omega) only [go_sem,↓reduceIte,reduceCtorEq,jO]
  refine aK (ah _ id g au true t at2 100 (by try simp (disch:=omega) only [go_sem,↓reduceIte]) (by omega) hl) ?_
  have hx3:=aH t at2 100
  generalize bc t at2 100=dr at *
  obtain ⟨x3,at3⟩:=dr
  simp only at hx3
  try simp (disch:=omega) only [go_sem,jF,↓reduceIte]
  exact fin _ _ _ _ _ _ at3 (by try simp (disch:=omega) only [go_sem,↓reduceIte]) (fun i hi hne=>by
   have j0:¬i=n0:=by omega
   try simp (disch:=omega) only [go_sem,↓reduceIte,j0,hne]) (by omega)
theorem rD (σ:St) (id g:Nat) (t:List Int) (at':Nat) (hl:t.length≤9223372036854775807) (hid:id<σ.n) (hob:σ.ob id=some ⟨g,2,au,false,true,[bw t at']⟩) :
  HC prog wK [.ptr id g 2 0 0] σ (dL σ id g t fun r=>∃ K,r=bY K∧An K∧cj K=true):=by
 refine HC.vY hid ?_
 obtain ⟨dF,n0,c0⟩:=σ
 simp only at hob hid
 refine aM EN (by simp) ?_
 simp only [wW]
 have z0:¬id=n0:=by omega
 have z1:¬n0=id:=by omega
 have z2:¬n0+1=id:=by omega
 have z3:¬id=n0+1:=by omega
 try simp (disch:=omega) only [go_sem,↓reduceIte,reduceCtorEq]
 refine (oC _ id g t at' hl (by simp only; omega) (by try simp (disch:=omega) only [go_sem,↓reduceIte,z0]; exact hob)).mono ?_
 intro r τ hDR
 obtain ⟨⟨ps,rfl,hps,hpb,hpv⟩,hn,⟨at1,hd⟩,hf⟩:=hDR.use (by simp only; omega)
 obtain ⟨ob1,n1,c1⟩:=τ
 simp only at hn hd hf
 subst hn
 have u0:=hf n0 (by omega) z1
 try simp (disch:=omega) only [go_sem,↓reduceIte] at u0
 try simp (disch:=omega) only [go_sem,jF,jG,jH,↓reduceIte,reduceCtorEq]
 refine aK (ah _ id g au true t at1 12 (by try simp (disch:=omega) only [go_sem,↓reduceIte,z3]; exact hd) (by omega) hl) ?_
 have hx1:=aH t at1 12
 generalize bc t at1 12=dr at *
 obtain ⟨x0,at0⟩:=dr
 simp only at hx1
 try simp (disch:=omega) only [go_sem,↓reduceIte]
 obtain ⟨N,hN⟩:∃ N:Nat,(N:Int)=x0∧N≤12:=⟨x0.toNat,by omega,by omega⟩
 obtain ⟨rfl,hN⟩:=hN
 refine bd [4,5,6,7,8,9,10,11,12,13,14,15,21,22,23,24,25,26,27,28,29,30,31,32,33,34,35,36,37,38,39,40,41,42,43,44,45,46,47,48,49,50,51,52,53,54,55,56,57,58,59,60,61,62,63,64,65,66,67,68,69,70,71,72,73,74,75,76,77,78,79,80,81,82,83,84,85,86,87,88] (by kernel_rfl) N (fun k e σ=>e 4=.int .i64 ((N:Int)-k)∧n0+2≤σ.n∧(∃ a,σ.ob id=some ⟨g,2,au,false,true,[bw t a]⟩)∧(∀ i,i<n0→i≠id→σ.ob i=dF i)∧σ.ob n0=some ⟨c0,3,44,false,true,[.agg [.nil,.int .i64 0,.nil]]⟩∧
   ∃ K Z,σ.ob (n0+1)=some ⟨c1,3,44,false,true,[Z]⟩∧ZL Z K∧An K∧E7 K k) ?_ ?_
 ·refine ⟨(by first | rfl | (simp (disch:=omega) only [go_sem,jA,jB,jC,jD,jE,jF,jG,jH,jI,jJ,↓reduceIte,reduceCtorEq,jP,jO,jM,jN]; try rfl)),Nat.le_refl _,⟨at0,by try simp (disch:=omega) only [go_sem,↓reduceIte]⟩,fun i hi hne=>?_,?_,⟨ps,1,[]⟩,_,by try simp (disch:=omega) only [go_sem,↓reduceIte,z2],.inr ⟨ps,rfl,rfl⟩,⟨by simp only; omega,by simp,fun p hp=>?_,by simp⟩,E7.start (by omega) hpv⟩
  ·have j1:¬i=n0+1:=by omega
   try simp (disch:=omega) only [go_sem,↓reduceIte,hne,j1]
   rw [hf i (by omega) hne,aa _ _ _ _ (by omega)]
  ·try simp (disch:=omega) only [go_sem,↓reduceIte,jM,z1]
   exact u0
  ·have:=hpb p hp; omega
 clear hf hd u0 hDR
 rintro k fe ob m c hk hm ⟨h4,hm1,⟨at2,hd⟩,hfr,v0,K,Z,v1,hZ,hB,hC⟩
 simp (maxSteps:=1000000) only [go_sem,↓reduceIte] at h4 hm hm1 hd hfr v0 v1
 obtain ⟨zf,zl,zt,zd⟩:=hZ.flat
 have zp:=hZ.cG
 try simp (disch:=omega) only [go_sem,↓reduceIte,h4]
 refine aj (fun hge=>?_) (fun hlt=>?_)
 ·have hkl:k<N:=by omega
  try simp (disch:=omega) only [go_sem,↓reduceIte,reduceCtorEq]
  refine aK (ah _ id g au true t at2 12 (by exact hd) (by omega) hl) ?_
  have hx2:=aH t at2 12
  generalize bc t at2 12=dr at *
  obtain ⟨fr,at3⟩:=dr
  simp only at hx2
  try simp (disch:=omega) only [go_sem,↓reduceIte,reduceCtorEq]
  refine aK (ah _ id g au true t at3 4 (by try simp (disch:=omega) only [go_sem,↓reduceIte]) (by omega) hl) ?_
  have hx3:=aH t at3 4
  generalize bc t at3 4=dr at *
  obtain ⟨kd,at4⟩:=dr
  simp only at hx3
  try simp (disch:=omega) only [go_sem,↓reduceIte]
  refine aj (fun k0=>?_) (fun k0=>?_)
  ·try simp (disch:=omega) only [go_sem,jF,jH,↓reduceIte,reduceCtorEq,z2,v1,zt]
   refine aK (ah _ id g au true t at4 3 (by try simp (disch:=omega) only [go_sem,↓reduceIte]) (by omega) hl) ?_
   have hx8:=aH t at4 3
   generalize bc t at4 3=dr at *
   obtain ⟨st,at5⟩:=dr
   simp only at hx8
   try simp (disch:=omega) only [go_sem,jF,↓reduceIte,reduceCtorEq,z2,v1]
   refine aK (ah _ id g au true t at5 12 (by try simp (disch:=omega) only [go_sem,↓reduceIte]) (by omega) hl) ?_
   have hx5:=aH t at5 12
   generalize bc t at5 12=dr at *
   obtain ⟨dt,at6⟩:=dr
   simp only at hx5
   try simp (disch:=omega) only [go_sem,jF,↓reduceIte,reduceCtorEq,jO,z2,v1]
   refine aK (ah _ id g au true t at6 60 (by try simp (disch:=omega) only [go_sem,↓reduceIte]) (by omega) hl) ?_
   have hx9:=aH t at6 60
   generalize bc t at6 60=dr at *
   obtain ⟨rl,at7⟩:=dr
   simp only at hx9
   try simp (disch:=omega) only [go_sem,jF,↓reduceIte,reduceCtorEq,z2,v1]
   refine ab (ou (vw K hB st fr (fr+dt) rl) (.cons hZ.KU (oq.refl _))) (by simp [zp,go_sem]) ?_
   have hB2:=NO hB st fr (fr+dt) rl
   have hC2:=hC.T1 (by omega) (st:=st) (fr:=fr) (to:=fr+dt) (rl:=rl) (by omega) (by omega) (by omega)
   generalize bR K st fr (fr+dt) rl=T at *
   obtain ⟨K2,i2,e2⟩:=T
   simp only at hB2 hC2
   try simp (disch:=omega) only [go_sem,jF,jH,↓reduceIte,reduceCtorEq,jO,z2,v1,db,dy,hZ.put]
   refine aF m hkl (by omega) ⟨by try simp (disch:=omega) only [go_sem,↓reduceIte]; congr 1; omega,by simp only [St.aC]; omega,⟨at7,?_⟩,fun i hi hne=>?_,?_,K2,_,?_,.inl rfl,hB2,hC2⟩
   ·rw [aX (by omega)]; try simp (disch:=omega) only [go_sem,↓reduceIte,z3]
   ·have j1:¬i=n0+1:=by omega
    rw [aX (by omega)]; try simp (disch:=omega) only [go_sem,↓reduceIte,hne,j1]; exact hfr i hi hne
   ·rw [aX (by omega)]; try simp (disch:=omega) only [go_sem,↓reduceIte,jM,z1]; exact v0
   ·rw [aX (by omega)]; try simp (disch:=omega) only [go_sem,↓reduceIte]
  try simp (disch:=omega) only [go_sem,jF,↓reduceIte]
  refine aj (fun k1=>?_) (fun k1=>?_)
  ·try simp (disch:=omega) only [go_sem,jF,jH,↓reduceIte,reduceCtorEq,decide_eq_true k1,z2,v1,zt]
   skip
   refine (jc _ id g t at4 K Z hZ hB fr hl (by simp only; omega) (by try simp (disch:=omega) only [go_sem,↓reduceIte])).mono ?_
   intro r τ hDR
   obtain ⟨⟨sa,sb',sc,rfl,hs1,hs2,hs3,hs4,hs5,hs6⟩,hn2,⟨at5,hd5⟩,hf5⟩:=hDR.use (by simp only; omega)
   obtain ⟨ob2,m2,c2⟩:=τ
   simp only at hn2 hd5 hf5
   subst hn2
   have w0:=hf5 n0 (by omega) z1
   have w1:=hf5 (n0+1) (by omega) z2
   try simp (disch:=omega) only [go_sem,↓reduceIte,z1,v0] at w0
   try simp (disch:=omega) only [go_sem,↓reduceIte,z2,v1] at w1
   try simp (disch:=omega) only [go_sem,jF,jH,↓reduceIte,w1,zt]
   refine ab (ou (rn K hB sa sb' sc fr) (.cons hZ.KU (oq.refl _))) (by simp [zp,go_sem]) ?_
   have hB2:=HT hB sa sb' sc fr
   have hC2:=hC.TG (id:=sa) (who:=sb') (code:=sc) (now:=fr)
   generalize kg K sa sb' sc fr=T at *
   obtain ⟨K2,e2⟩:=T
   simp only at hB2 hC2
   have y1:¬n0+1=m2:=by omega
   have y2:¬m2=n0+1:=by omega
   have y3:¬m2=id:=by omega
   have y4:¬id=m2:=by omega
   have y5:¬n0=m2:=by omega
   have fin:∀ (o:Option aS) i,i<n0→i≠id→(aZ (aZ ob2 m2 o) m2 o) i=dF i:=fun o i hi hne=>by
    have j1:¬i=n0+1:=by omega
    rw [aa _ _ _ _ (by omega),aa _ _ _ _ (by omega),hf5 i (by omega) hne]
    try simp (disch:=omega) only [go_sem,↓reduceIte,hne]
    exact hfr i hi hne
   try simp (disch:=omega) only [go_sem,jF,jH,↓reduceIte,db,dy,C9,nJ]
   refine aj (fun q1=>?_) (fun q1=>?_)
   ·try simp (disch:=omega) only [go_sem,jF,jH,↓reduceIte,jO,dy,FJ,FK,C8,y1,w1,hZ.put]
    refine aF (m2+1) hkl (by omega) ⟨by try simp (disch:=omega) only [go_sem,↓reduceIte]; congr 1; omega,by simp only [St.aC]; omega,⟨at5,?_⟩,fun i hi hne=>?_,?_,K2,_,?_,.inl rfl,hB2,hC2 q1⟩
    ·rw [aX (by omega)]; try simp (disch:=omega) only [go_sem,↓reduceIte,z3,y4]; exact hd5
    ·rw [aX (by omega),aa _ _ _ _ (by omega),aa _ _ _ _ (by omega),hf5 i (by omega) hne]
     try simp (disch:=omega) only [go_sem,↓reduceIte,hne]
     exact hfr i hi hne
    ·rw [aX (by omega)]; try simp (disch:=omega) only [go_sem,↓reduceIte,jM,y5]; exact w0
    ·rw [aX (by omega)]; try simp (disch:=omega) only [go_sem,↓reduceIte]
   ·try simp (disch:=omega) only [go_sem,jF,↓reduceIte,jO]
    refine aF (m2+1) hkl (by omega) ⟨by try simp (disch:=omega) only [go_sem,↓reduceIte]; congr 1; omega,by simp only [St.aC]; omega,⟨at5,?_⟩,fun i hi hne=>?_,?_,K,Z,?_,hZ,hB,hC.up⟩
    ·rw [aX (by omega)]; try simp (disch:=omega) only [go_sem,↓reduceIte,y4]; exact hd5
    ·rw [aX (by omega),aa _ _ _ _ (by omega),hf5 i (by omega) hne]
     try simp (disch:=omega) only [go_sem,↓reduceIte,hne]
     exact hfr i hi hne
    ·rw [aX (by omega)]; try simp (disch:=omega) only [go_sem,↓reduceIte,y5]; exact w0
    ·rw [aX (by omega)]; try simp (disch:=omega) only [go_sem,↓reduceIte,y1]; exact w1
  try simp (disch:=omega) only [go_sem,jF,↓reduceIte]
  refine aj (fun k2=>?_) (fun k2=>?_)
  ·try simp (disch:=omega) only [go_sem,jF,jH,↓reduceIte,reduceCtorEq,z2,v1,zt]
   skip
   refine (jc _ id g t at4 K Z hZ hB fr hl (by simp only; omega) (by try simp (disch:=omega) only [go_sem,↓reduceIte])).mono ?_
   intro r τ hDR
   obtain ⟨⟨sa,sb',sc,rfl,hs1,hs2,hs3,hs4,hs5,hs6⟩,hn2,⟨at5,hd5⟩,hf5⟩:=hDR.use (by simp only; omega)
   obtain ⟨ob2,m2,c2⟩:=τ
   simp only at hn2 hd5 hf5
   subst hn2
   have w0:=hf5 n0 (by omega) z1
   have w1:=hf5 (n0+1) (by omega) z2
   try simp (disch:=omega) only [go_sem,↓reduceIte,z1,v0] at w0
   try simp (disch:=omega) only [go_sem,↓reduceIte,z2,v1] at w1
   try simp (disch:=omega) only [go_sem,jF,jH,↓reduceIte,w1,zt]
   refine ab (ou (rn K hB sa sb' sc fr) (.cons hZ.KU (oq.refl _))) (by simp [zp,go_sem]) ?_
   have hB2:=HT hB sa sb' sc fr
   have hC2:=hC.TG (id:=sa) (who:=sb') (code:=sc) (now:=fr)
   generalize kg K sa sb' sc fr=T at *
   obtain ⟨K2,e2⟩:=T
   simp only at hB2 hC2
   have y1:¬n0+1=m2:=by omega
   have y2:¬m2=n0+1:=by omega
   have y3:¬m2=id:=by omega
   have y4:¬id=m2:=by omega
   have y5:¬n0=m2:=by omega
   have fin:∀ (o:Option aS) i,i<n0→i≠id→(aZ (aZ ob2 m2 o) m2 o) i=dF i:=fun o i hi hne=>by
    have j1:¬i=n0+1:=by omega
    rw [aa _ _ _ _ (by omega),aa _ _ _ _ (by omega),hf5 i (by omega) hne]
    try simp (disch:=omega) only [go_sem,↓reduceIte,hne]
    exact hfr i hi hne
   try simp (disch:=omega) only [go_sem,jF,jH,↓reduceIte,db,dy,C9,nJ]
   refine aj (fun q1=>?_) (fun q1=>?_)
   ·try simp (disch:=omega) only [go_sem,jF,jH,↓reduceIte,jO,dy,FJ,FK,C8,y1,w1,hZ.put]
    refine aF (m2+1) hkl (by omega) ⟨by try simp (disch:=omega) only [go_sem,↓reduceIte]; congr 1; omega,by simp only [St.aC]; omega,⟨at5,?_⟩,fun i hi hne=>?_,?_,K2,_,?_,.inl rfl,hB2,hC2 q1⟩
    ·rw [aX (by omega)]; try simp (disch:=omega) only [go_sem,↓reduceIte,z3,y4]; exact hd5
    ·rw [aX (by omega),aa _ _ _ _ (by omega),aa _ _ _ _ (by omega),hf5 i (by omega) hne]
     try simp (disch:=omega) only [go_sem,↓reduceIte,hne]
     exact hfr i hi hne
    ·rw [aX (by omega)]; try simp (disch:=omega) only [go_sem,↓reduceIte,jM,y5]; exact w0
    ·rw [aX (by omega)]; try simp (disch:=omega) only [go_sem,↓reduceIte]
   ·try simp (disch:=omega) only [go_sem,jF,↓reduceIte,jO]
    refine aF (m2+1) hkl (by omega) ⟨by try simp (disch:=omega) only [go_sem,↓reduceIte]; congr 1; omega,by simp only [St.aC]; omega,⟨at5,?_⟩,fun i hi hne=>?_,?_,K,Z,?_,hZ,hB,hC.up⟩
    ·rw [aX (by omega)]; try simp (disch:=omega) only [go_sem,↓reduceIte,y4]; exact hd5
    ·rw [aX (by omega),aa _ _ _ _ (by omega),hf5 i (by omega) hne]
     try simp (disch:=omega) only [go_sem,↓reduceIte,hne]
     exact hfr i hi hne
    ·rw [aX (by omega)]; try simp (disch:=omega) only [go_sem,↓reduceIte,y5]; exact w0
    ·rw [aX (by omega)]; try simp (disch:=omega) only [go_sem,↓reduceIte,y1]; exact w1
  try simp (disch:=omega) only [go_sem,jF,jH,↓reduceIte,reduceCtorEq,z2,v1,zt]
  skip
  refine (jc _ id g t at4 K Z hZ hB fr hl (by simp only; omega) (by try simp (disch:=omega) only [go_sem,↓reduceIte])).mono ?_
  intro r τ hDR
  obtain ⟨⟨sa,sb',sc,rfl,hs1,hs2,hs3,hs4,hs5,hs6⟩,hn2,⟨at5,hd5⟩,hf5⟩:=hDR.use (by simp only; omega)
  obtain ⟨ob2,m2,c2⟩:=τ
  simp only at hn2 hd5 hf5
  subst hn2
  have w0:=hf5 n0 (by omega) z1
  have w1:=hf5 (n0+1) (by omega) z2
  try simp (disch:=omega) only [go_sem,↓reduceIte,z1,v0] at w0
  try simp (disch:=omega) only [go_sem,↓reduceIte,z2,v1] at w1
  try simp (disch:=omega) only [go_sem,jF,jH,↓reduceIte,w1,zt]
  refine ab (ou (tz K hB sa sb' sc fr) (.cons hZ.KU (oq.refl _))) (by simp [zp,go_sem]) ?_
  have hB2:=Mx hB sa sb' sc fr
  have hC2:=hC.TR (id:=sa) (who:=sb') (code:=sc) (now:=fr)
  generalize lu K sa sb' sc fr=T at *
  obtain ⟨K2,e2⟩:=T
  simp only at hB2 hC2
  have y1:¬n0+1=m2:=by omega
  have y2:¬m2=n0+1:=by omega
  have y3:¬m2=id:=by omega
  have y4:¬id=m2:=by omega
  have y5:¬n0=m2:=by omega
  have fin:∀ (o:Option aS) i,i<n0→i≠id→(aZ (aZ ob2 m2 o) m2 o) i=dF i:=fun o i hi hne=>by
   have j1:¬i=n0+1:=by omega
   rw [aa _ _ _ _ (by omega),aa _ _ _ _ (by omega),hf5 i (by omega) hne]
   try simp (disch:=omega) only [go_sem,↓reduceIte,hne]
   exact hfr i hi hne
  try simp (disch:=omega) only [go_sem,jF,jH,↓reduceIte,db,dy,C9,nJ]
  refine aj (fun q1=>?_) (fun q1=>?_)
  ·try simp (disch:=omega) only [go_sem,jF,jH,↓reduceIte,jO,dy,FJ,FK,C8,y1,w1,hZ.put]
   refine aF (m2+1) hkl (by omega) ⟨by try simp (disch:=omega) only [go_sem,↓reduceIte]; congr 1; omega,by simp only [St.aC]; omega,⟨at5,?_⟩,fun i hi hne=>?_,?_,K2,_,?_,.inl rfl,hB2,hC2 q1⟩
   ·rw [aX (by omega)]; try simp (disch:=omega) only [go_sem,↓reduceIte,z3,y4]; exact hd5
   ·rw [aX (by omega),aa _ _ _ _ (by omega),aa _ _ _ _ (by omega),hf5 i (by omega) hne]
    try simp (disch:=omega) only [go_sem,↓reduceIte,hne]
    exact hfr i hi hne
   ·rw [aX (by omega)]; try simp (disch:=omega) only [go_sem,↓reduceIte,jM,y5]; exact w0
   ·rw [aX (by omega)]; try simp (disch:=omega) only [go_sem,↓reduceIte]
  ·try simp (disch:=omega) only [go_sem,jF,↓reduceIte,jO]
   refine aF (m2+1) hkl (by omega) ⟨by try simp (disch:=omega) only [go_sem,↓reduceIte]; congr 1; omega,by simp only [St.aC]; omega,⟨at5,?_⟩,fun i hi hne=>?_,?_,K,Z,?_,hZ,hB,hC.up⟩
   ·rw [aX (by omega)]; try simp (disch:=omega) only [go_sem,↓reduceIte,y4]; exact hd5
   ·rw [aX (by omega),aa _ _ _ _ (by omega),hf5 i (by omega) hne]
    try simp (disch:=omega) only [go_sem,↓reduceIte,hne]
    exact hfr i hi hne
   ·rw [aX (by omega)]; try simp (disch:=omega) only [go_sem,↓reduceIte,y5]; exact w0
   ·rw [aX (by omega)]; try simp (disch:=omega) only [go_sem,↓reduceIte,y1]; exact w1
 obtain rfl:k=N:=by omega
 have zo:Z.cells.take 3=Z.cells∧Z.cells.all AV.one=true∧AV.agg Z.cells=Z∧iG 0 Z (.agg [.nil,.int .i64 0,.nil])=Z:=by
  rcases hZ with rfl | ⟨ps,rfl,rfl⟩ <;> exact ⟨rfl,rfl,rfl,rfl⟩
 obtain ⟨zo1,zo2,zo3,zo4⟩:=zo
 try simp (disch:=omega) only [go_sem,jF,jH,↓reduceIte,v0,v1,zl,zo1,zo2,zo3]
 refine ⟨bY K,at2,hZ.mL,⟨K,rfl,hB,hC.1⟩,by simp only; rw [aa _ _ _ _ z0]; exact hd,fun i hi hne=>?_⟩
 simp only at hi
 simp only
 rw [aa _ _ _ _ (by omega)]
 exact hfr i hi hne
theorem K6 (σ:St) (id g:Nat) (t:List Int) (at':Nat) (hl:t.length≤9223372036854775807) (hid:id<σ.n) (hob:σ.ob id=some ⟨g,2,au,false,true,[bw t at']⟩) :
  HC prog wK [.ptr id g 2 0 0] σ (dL σ id g t fun r=>∃ K,r=bY K∧An K):=
 (rD σ id g t at' hl hid hob).mono fun _ _ h=>h.mono fun _ ⟨K,h1,h2,_⟩=>⟨K,h1,h2⟩
def Ei (B:Bk) (K:Dk) (s:Sd):AV:=.agg [.list 4 (nG B.op),.list 6 (jk B.rp),.list 3 (pv K.ps),.int .i64 K.nx,.list 7 (xA K.ds),.int .i64 s.n,.list 4 (cJ s.l)]
theorem CV (B:Bk) (K:Dk) (s:Sd):(Ei B K s).cG=true:=by simp [Ei,go_sem]
theorem AS (σ:St) (id g:Nat) (t:List Int) (at':Nat) (hl:t.length≤9223372036854775807) (hid:id<σ.n) (hob:σ.ob id=some ⟨g,2,au,false,true,[bw t at']⟩) :
  HC prog Ec [.ptr id g 2 0 0] σ (dL σ id g t fun r=>∃ B T K s,r=Ei B K s∧Ol B T∧An K∧Mu s∧cj K=true∧dq s=true):=by
 refine HC.vY hid ?_
 obtain ⟨dF,n0,c0⟩:=σ
 simp only at hob hid
 refine aM EM (by simp) ?_
 simp only [wV]
 have z0:¬id=n0:=by omega
 have z1:¬n0=id:=by omega
 have z2:¬n0+1=id:=by omega
 have z3:¬id=n0+1:=by omega
 try simp (disch:=omega) only [go_sem,↓reduceIte,reduceCtorEq]
 refine (CZ _ id g t at' hl (by simp only; omega) (by try simp (disch:=omega) only [go_sem,↓reduceIte,z0]; exact hob)).mono ?_
 intro r τ hDR
 obtain ⟨⟨B,T,rfl,hT⟩,hn,⟨at1,hd⟩,hf⟩:=hDR.use (by simp only; omega)
 obtain ⟨ob1,n1,c1⟩:=τ
 simp only at hn hd hf
 subst hn
 have u0:=hf n0 (by omega) z1
 try simp (disch:=omega) only [go_sem,↓reduceIte] at u0
 try simp (disch:=omega) only [go_sem,jF,jG,jH,↓reduceIte,reduceCtorEq,nI]
 refine (zw _ id g t at1 hl (by simp only; omega) (by try simp (disch:=omega) only [go_sem,↓reduceIte,z3]; exact hd)).mono ?_
 intro r τ hDR2
 obtain ⟨⟨s,u,rfl,hs,hso⟩,hn,⟨at2,hd2⟩,hf2⟩:=hDR2.use (by simp only; omega)
 obtain ⟨ob2,n2,c2⟩:=τ
 simp only at hn hd2 hf2
 subst hn
 have w0:=hf2 n0 (by omega) z1
 have w1:=hf2 (n0+1) (by omega) z2
 have y1:¬n0=n0+1:=by omega
 try simp (disch:=omega) only [go_sem,↓reduceIte,y1,u0] at w0
 try simp (disch:=omega) only [go_sem,↓reduceIte] at w1
 have z4:¬n0+1+1=id:=by omega
 have z5:¬id=n0+1+1:=by omega
 have z6:¬n0+1+1+1=id:=by omega
 have z7:¬id=n0+1+1+1:=by omega
 try simp (disch:=omega) only [go_sem,jF,jG,jH,↓reduceIte,reduceCtorEq,jM,oT,GU,w1]
 refine (rD _ id g t at2 hl (by simp only; omega) (by try simp (disch:=omega) only [go_sem,↓reduceIte,z5,z7]; exact hd2)).mono ?_
 intro r τ hDR3
 obtain ⟨⟨K,rfl,hK,hKc⟩,hn,⟨at3,hd3⟩,hf3⟩:=hDR3.use (by simp only; omega)
 obtain ⟨ob3,n3,c3⟩:=τ
 simp only at hn hd3 hf3
 subst hn
 have x0:=hf3 n0 (by omega) z1
 have x1:=hf3 (n0+1) (by omega) z2
 have x2:=hf3 (n0+1+1) (by omega) z4
 have y2:¬n0=n0+1+1:=by omega
 have y3:¬n0=n0+1+1+1:=by omega
 have y4:¬n0+1=n0+1+1:=by omega
 have y5:¬n0+1=n0+1+1+1:=by omega
 have y6:¬n0+1+1=n0+1+1+1:=by omega
 try simp (disch:=omega) only [go_sem,↓reduceIte,y2,y3,w0] at x0
 try simp (disch:=omega) only [go_sem,↓reduceIte,y4,y5,w1] at x1
 try simp (disch:=omega) only [go_sem,↓reduceIte,y6] at x2
 try simp (disch:=omega) only [go_sem,jF,jG,jH,↓reduceIte,reduceCtorEq,bY,x0,x1,x2,y4,y5,y6]
 refine ⟨w1.symm,_,at3,.pure (CV B K s),⟨B,T,K,s,rfl,hT,hK,hs,hKc,hso⟩,by simp only; rw [aa _ _ _ _ z0]; exact hd3,fun i hi hne=>?_⟩
 simp only at hi
 simp only
 have j0:¬i=n0:=by omega
 have j1:¬i=n0+1:=by omega
 have j2:¬i=n0+1+1:=by omega
 have j3:¬i=n0+1+1+1:=by omega
 rw [aa _ _ _ _ j0,hf3 i (by omega) hne]
 try simp (disch:=omega) only [go_sem,↓reduceIte,j2,j3]
 rw [hf2 i (by omega) hne]
 try simp (disch:=omega) only [go_sem,↓reduceIte,j1]
 rw [hf i (by omega) hne]
 try simp (disch:=omega) only [go_sem,↓reduceIte,j0]
theorem K9 {a:Ac} {t:Tr} (hT:Ly a t) (h:(dC a).2=0):SL a ⟨(dC a).1.1,(dC a).1.2.1,(dC a).1.2.2⟩:=by
 have hG:=hT.g
 have hok:=hG.ok
 have ht:(dA a).2=0:=by
  unfold dC at h
  split at h
  ·exact h
  ·rename_i h1; simpa using h1
 obtain ⟨_,hv,ht1⟩:=Bt ht
 have hF:=En hok hv
 have e:dC a=((uZ (a.ins.length+1) (sq a (jy a)),uZ a.ins.length (cm a (jy a)),uZ a.ins.length (og a (jy a))),0):=by
  unfold dC
  rw [if_neg (by simp [ht]),ht1]
 obtain ⟨n,hD⟩:=hT
 have hn:=hD.hi.1
 have h5:=hD.n5
 have ls:=hD.h.ls
 have li:=hD.h.li
 have lo:=hD.h.lo
 rw [e]
 refine ⟨?_,dR _ _,dR _ _,dR _ _,hok,fun i hi=>?_,fun i hi=>?_,fun i hi=>?_⟩
 ·refine ⟨fun i hi=>?_,fun i hi=>?_,fun i hi=>?_,fun i hi=>?_⟩
  ·simp only; rw [eI _ (by omega)]; exact hF.st i hi
  ·simp only; rw [eI _ hi]; exact hF.ins i hi
  ·simp only; rw [eI _ hi]; exact hF.outs i hi
  ·simp only; rw [eI _ (by omega),eI _ (by omega),eI _ hi,eI _ hi]; exact hF.O6 i hi
 ·simp only; rw [eI _ (by omega)]
  have h1:=hF.st i hi
  have h2:=hD.s.b i (by omega)
  have h3:=hD.h.s i (by omega)
  simp only [ig,Bm] at h1 h2; omega
 ·simp only; rw [eI _ hi]
  have h1:=hF.ins i hi
  have h2:=hD.i.b i (by omega)
  have h3:=hD.h.i i (by omega)
  simp only [ig,Bm] at h1 h2; omega
 ·simp only; rw [eI _ hi]
  have h1:=hF.outs i hi
  have h2:=hD.o.b i (by omega)
  have h3:=hD.h.o i (by omega)
  simp only [ig,Bm] at h1 h2; omega
theorem et {n:Int} (h0:0≤n) (h1:n≤274877906944):vB n=true:=by simp [vB,h0,h1]
def HB (q:Rc):Prop:=bl q=true∧q.sg=[]
theorem Qt {nu ac fd tm lo hi:Int} (h:vB nu=true∧vB ac=true∧vB fd=true∧vB tm=true∧vB lo=true∧vB hi=true):HB ⟨1,nu,ac,fd,tm,lo,hi,0,0,0,0,0,[],false,0,0,0,0,0,0,0⟩:=by
 refine ⟨?_,rfl⟩
 simp [bl,aP,bQ,cI,fB,sI,qu,h]
theorem Sq {st fr to rl:Int} (h:vB st=true∧vB fr=true∧vB to=true∧vB rl=true):HB ⟨2,0,0,0,0,0,0,0,st,fr,to,rl,[],false,0,0,0,0,0,0,0⟩:=by
 refine ⟨?_,rfl⟩
 simp [bl,aP,bQ,cI,fB,sI,qu,h]
theorem Mk {k a b c tm:Int} (hk:k=3∨k=4) (h:vB a=true∧vB b=true∧vB c=true∧vB tm=true):HB ⟨k,0,0,0,0,0,0,a,0,0,0,0,[],false,b,c,tm,0,0,0,0⟩:=by
 refine ⟨?_,rfl⟩
 rcases hk with rfl | rfl <;> simp [bl,aP,bQ,cI,fB,sI,qu,h]
theorem Sp {k i v:Int} (h:vB k=true∧vB i=true∧vB v=true):HB ⟨5,0,0,0,0,0,0,0,0,0,0,0,[],false,0,0,0,0,k,i,v⟩:=by
 refine ⟨?_,rfl⟩
 simp [bl,aP,bQ,cI,fB,sI,qu,h]
theorem So {n:Int} (h:vB n=true):HB ⟨6,0,0,0,0,0,0,0,0,0,0,0,[],false,0,0,0,n,0,0,0⟩:=by
 refine ⟨?_,rfl⟩
 simp [bl,aP,bQ,cI,fB,sI,qu,h]
theorem FC (B:Bk) (K:Dk) (s:Sd):(Ei B K s).cells.getD 0 .bA=.list 4 (nG B.op):=rfl
theorem N2 (B:Bk) (K:Dk) (s:Sd):(Ei B K s).cells.getD 5 .bA=.int .i64 s.n:=rfl
theorem K4 (B:Bk) (K:Dk) (s:Sd):(Ei B K s).cells.length=7:=rfl
theorem IE (B:Bk) (K:Dk) (s:Sd):(Ei B K s).flat=true:=rfl
theorem IF (B:Bk) (K:Dk) (s:Sd):AV.agg (((Ei B K s).cells.drop 2).take 3)=bY K:=rfl
structure SK (op:List Ac) (T:List Tr):Prop where
 n1:1≤op.length
 n2:op.length≤2
 tr:∀ i,i<op.length→Ly (gA op i) (gT T i)
theorem Ol.o {B:Bk} {T:List Tr} (h:Ol B T):SK B.op T:=⟨h.n1,h.n2,h.tr⟩
theorem zu (σ:St) (id g:Nat) (t:List Int) (at':Nat) (B:Bk) (T:List Tr) (K:Dk) (s:Sd) (hT:SK B.op T) (hK:An K) (hs:Mu s) (hl:t.length≤9223372036854775807) (hid:id<σ.n) (hob:σ.ob id=some ⟨g,2,au,false,true,[bw t at']⟩) :
  HC prog ry [.ptr id g 2 0 0,Ei B K s] σ (dL σ id g t fun r=>∃ q:Rc,r=fD q∧HB q):=by
 refine HC.vY hid ?_
 obtain ⟨dF,n0,c0⟩:=σ
 simp only at hob hid
 refine aM Bh (by simp) ?_
 simp only [rZ]
 have z0:¬id=n0:=by omega
 have z1:¬n0=id:=by omega
 have z2:¬n0+1=id:=by omega
 have z3:¬id=n0+1:=by omega
 have z4:¬n0+1+1=id:=by omega
 have z5:¬id=n0+1+1:=by omega
 have hbk:=tn
 have hfl:∀ q,(lj .nil q).flat=true:=fun q=>mK q rfl
 try simp (disch:=omega) only [go_sem,↓reduceIte,reduceCtorEq,IE,K4]
 refine aK (ah _ id g au true t at' 6 (by try simp (disch:=omega) only [go_sem,↓reduceIte,z0,z3]; exact hob) (by omega) hl) ?_
 have hx1:=aH t at' 6
 generalize bc t at' 6=dr at *
 obtain ⟨x0,at1⟩:=dr
 simp only at hx1
 try simp (disch:=omega) only [go_sem,jF,jG,jH,↓reduceIte,jO]
 have fin:∀ (q:Rc) (hq:HB q) (ob':Nat→Option aS) (c' m' at2:Nat),ob' id=some ⟨g,2,au,false,true,[bw t at2]⟩→(∀ i,i<n0→i≠id→ob' i=dF i)→Cc ⟨dF,n0,c0⟩ id g t (fun r=>∃ q:Rc,r=fD q∧HB q) (lj .nil q) ⟨ob',m',c'⟩:=
  fun q hq ob' c' m' at2 h1 h2=>⟨fD q,at2,Cq hq.2,⟨q,rfl,hq⟩,h1,h2⟩
 have b0:=hT.n1
 have b1:=hT.n2
 have y1:¬n0=n0+1:=by omega
 have y2:¬n0=n0+1+1:=by omega
 have y3:¬id=n0+1+1+1:=by omega
 have y4:¬n0+1+1+1=id:=by omega
 have y5:¬n0+1=n0+1+1:=by omega
 have y6:¬n0+1=n0+1+1+1:=by omega
 have y7:¬n0+1+1=n0+1+1+1:=by omega
 refine aj (fun k1=>?_) (fun k1=>?_)
 ·try simp (disch:=omega) only [go_sem,jF,jH,↓reduceIte,y1,y2,z1,FC,aT]
  refine aj (fun q1=>?_) (fun q1=>?_)
  ·try simp (disch:=omega) only [go_sem,jF,jH,↓reduceIte,reduceCtorEq,y1,y2,z1,FC,aT]
   refine aK (ah _ id g au true t at1 B.op.length (by try simp (disch:=omega) only [go_sem,↓reduceIte,jM]) (by omega) hl) ?_
   have hx2:=aH t at1 B.op.length
   generalize bc t at1 B.op.length=dr at *
   obtain ⟨x1,at2⟩:=dr
   simp only at hx2
   obtain ⟨i,hi⟩:∃ i:Nat,(i:Int)=x1∧i<B.op.length:=⟨x1.toNat,by omega,by omega⟩
   obtain ⟨rfl,hi⟩:=hi
   have hA:=hT.tr i hi
   have hg:=jd hi
   have hFg:=K9 hA
   have hok:=hA.g.ok
   generalize gA B.op i=a at *
   try simp (disch:=omega) only [go_sem,jF,jG,jH,↓reduceIte,y1,y2,z1,FC,aT,iC,hg,Option.map_some,iS]
   refine ⟨by omega,by omega,?_⟩
   refine ab (yE a hok.l) (by simp [go_sem]) ?_
   try simp (disch:=omega) only [go_sem,jF,↓reduceIte]
   refine aj (fun q2=>?_) (fun q2=>?_)
   ·try simp (disch:=omega) only [go_sem,jF,jG,jH,↓reduceIte,reduceCtorEq]
    refine aK (ah _ id g au true t at2 30 (by try simp (disch:=omega) only [go_sem,↓reduceIte,y3]) (by omega) hl) ?_
    have hx3:=aH t at2 30
    generalize bc t at2 30=dr at *
    obtain ⟨x3,at3⟩:=dr
    simp only at hx3
    try simp (disch:=omega) only [go_sem,jF,↓reduceIte,jO,y4]
    refine (oB _ id g t at3 a ⟨(dC a).1.1,(dC a).1.2.1,(dC a).1.2.2⟩ (hFg q2) i (1+x3) hl (by simp only; omega) (by try simp (disch:=omega) only [go_sem,↓reduceIte])).mono ?_
    intro r τ hDR
    obtain ⟨⟨q,rfl,hq1,hq2,hq3,hq4,hq5⟩,hn,⟨at4,hd⟩,hf⟩:=hDR.use (by simp only; omega)
    obtain ⟨ob1,n1,c1⟩:=τ
    simp only at hn hd hf
    subst hn
    have u1:=hf (n0+1) (by omega) z2
    have u2:=hf (n0+1+1) (by omega) z4
    try simp (disch:=omega) only [go_sem,↓reduceIte,y5,y6,z2] at u1
    try simp (disch:=omega) only [go_sem,↓reduceIte,y7,z4] at u2
    try simp (disch:=omega) only [go_sem,jF,jG,jH,↓reduceIte,reduceCtorEq,eX,u1,u2,y4,y5]
    rw [k1]
    have hb4:=hq3.b
    have hfl9:=x5 hok hq3.fd
    have hf1:=hok.f1
    have hn2:=hok.n2
    have hf0:=hok.f0
    have ht0:=hq3.t0
    have ht1:=hq3.t1
    have hfd:=hq3.fd
    simp only [fE] at hb4
    have htm:q.tm≤16777216:=by
     rw [hfl9] at ht1
     split at ht1 <;> omega
    refine fin ⟨1,q.nu,q.ac,q.fd,q.tm,q.b.lo,q.b.hi,0,0,0,0,0,[],false,0,0,0,0,0,0,0⟩ (Qt ⟨et (by omega) (by omega),et (by omega) (by omega),et (by omega) (by omega),et (by omega) (by omega),et (by omega) (by omega),et (by omega) (by omega)⟩) _ _ _ at4 (by try simp (disch:=omega) only [go_sem,↓reduceIte,z3,z5]; exact hd) fun i hi hne=>?_
    have j0:¬i=n0:=by omega
    have j1:¬i=n0+1:=by omega
    have j2:¬i=n0+1+1:=by omega
    have j3:¬i=n0+1+1+1:=by omega
    try simp (disch:=omega) only [go_sem,↓reduceIte,j1,j2]
    rw [hf i (by omega) hne]
    try simp (disch:=omega) only [go_sem,↓reduceIte,j0,j1,j2,j3,hne]
   ·try simp (disch:=omega) only [go_sem,jF,jG,jH,↓reduceIte,y5,y6,y7,z2,z4]
    rw [k1]
    refine fin (qu 1) (Qt ⟨rfl,rfl,rfl,rfl,rfl,rfl⟩) _ _ _ at2 (by try simp (disch:=omega) only [go_sem,↓reduceIte,y3,z3]) fun i hi hne=>?_
    have j0:¬i=n0:=by omega
    have j1:¬i=n0+1:=by omega
    have j2:¬i=n0+1+1:=by omega
    have j3:¬i=n0+1+1+1:=by omega
    try simp (disch:=omega) only [go_sem,↓reduceIte,j0,j1,j2,j3,hne]
  ·omega
 try simp (disch:=omega) only [go_sem,jF,↓reduceIte]
 refine aj (fun k2=>?_) (fun k2=>?_)
 ·try simp (disch:=omega) only [go_sem,↓reduceIte,reduceCtorEq]
  refine aK (ah _ id g au true t at1 12 (by try simp (disch:=omega) only [go_sem,↓reduceIte,z5]) (by omega) hl) ?_
  have hx2:=aH t at1 12
  generalize bc t at1 12=dr at *
  obtain ⟨x1,at2⟩:=dr
  simp only at hx2
  try simp (disch:=omega) only [go_sem,↓reduceIte,reduceCtorEq]
  refine aK (ah _ id g au true t at2 3 (by try simp (disch:=omega) only [go_sem,↓reduceIte]) (by omega) hl) ?_
  have hx3:=aH t at2 3
  generalize bc t at2 3=dr at *
  obtain ⟨x2,at3⟩:=dr
  simp only at hx3
  try simp (disch:=omega) only [go_sem,jF,↓reduceIte,reduceCtorEq]
  refine aK (ah _ id g au true t at3 12 (by try simp (disch:=omega) only [go_sem,↓reduceIte]) (by omega) hl) ?_
  have hx4:=aH t at3 12
  generalize bc t at3 12=dr at *
  obtain ⟨x3,at4⟩:=dr
  simp only at hx4
  try simp (disch:=omega) only [go_sem,jF,↓reduceIte,reduceCtorEq,jO]
  refine aK (ah _ id g au true t at4 60 (by try simp (disch:=omega) only [go_sem,↓reduceIte]) (by omega) hl) ?_
  have hx5:=aH t at4 60
  generalize bc t at4 60=dr at *
  obtain ⟨x4,at5⟩:=dr
  simp only at hx5
  try simp (disch:=omega) only [go_sem,jF,jG,jH,↓reduceIte,y5,z2,z4]
  rw [k2]
  refine fin ⟨2,0,0,0,0,0,0,0,x2,x1,x1+x3,x4,[],false,0,0,0,0,0,0,0⟩ (Sq ⟨et (by omega) (by omega),et (by omega) (by omega),et (by omega) (by omega),et (by omega) (by omega)⟩) _ _ _ at5 (by try simp (disch:=omega) only [go_sem,↓reduceIte,z3,z5]) fun i hi hne=>?_
  have j0:¬i=n0:=by omega
  have j1:¬i=n0+1:=by omega
  have j2:¬i=n0+1+1:=by omega
  have j3:¬i=n0+1+1+1:=by omega
  try simp (disch:=omega) only [go_sem,↓reduceIte,j0,j1,j2,hne]
 try simp (disch:=omega) only [go_sem,jF,↓reduceIte]
 refine aj (fun k3=>?_) (fun k3=>?_)
 ·try simp (disch:=omega) only [go_sem,jF,jG,jH,↓reduceIte,reduceCtorEq,decide_eq_true k3,y1,y2,z1,IF]
  refine (kL _ id g t at1 K hK 0 hl (by simp only; omega) (by try simp (disch:=omega) only [go_sem,↓reduceIte,z5])).mono ?_
  intro r τ hDR
  obtain ⟨⟨a,b,c,rfl,hs1,hs2,hs3,hs4,hs5,hs6⟩,hn,⟨at2,hd⟩,hf⟩:=hDR.use (by simp only; omega)
  obtain ⟨ob1,n1,c1⟩:=τ
  simp only at hn hd hf
  subst hn
  have u1:=hf (n0+1) (by omega) z2
  have u2:=hf (n0+1+1) (by omega) z4
  try simp (disch:=omega) only [go_sem,↓reduceIte,y5,z2] at u1
  try simp (disch:=omega) only [go_sem,↓reduceIte] at u2
  try simp (disch:=omega) only [go_sem,jF,jG,jH,↓reduceIte,reduceCtorEq,u2]
  refine aK (ah _ id g au true t at2 12 (by try simp (disch:=omega) only [go_sem,↓reduceIte,z5]; exact hd) (by omega) hl) ?_
  have hx4:=aH t at2 12
  generalize bc t at2 12=dr at *
  obtain ⟨x4,at4⟩:=dr
  simp only at hx4
  try simp (disch:=omega) only [go_sem,jF,jG,jH,↓reduceIte,u1,y5,z2,z4]
  rw [k3]
  refine fin ⟨3,0,0,0,0,0,0,a,0,0,0,0,[],false,b,c,x4,0,0,0,0⟩ (Mk (by omega) ⟨et (by omega) (by omega),et (by omega) (by omega),et (by omega) (by omega),et (by omega) (by omega)⟩) _ _ _ at4 (by try simp (disch:=omega) only [go_sem,↓reduceIte,z3,z5]) fun i hi hne=>?_
  have j0:¬i=n0:=by omega
  have j1:¬i=n0+1:=by omega
  have j2:¬i=n0+1+1:=by omega
  have j3:¬i=n0+1+1+1:=by omega
  try simp (disch:=omega) only [go_sem,↓reduceIte,j1,j2,hne]
  rw [hf i (by omega) hne]
  try simp (disch:=omega) only [go_sem,↓reduceIte,j0,j1,j2,hne]
 try simp (disch:=omega) only [go_sem,jF,↓reduceIte]
 refine aj (fun k4=>?_) (fun k4=>?_)
 ·try simp (disch:=omega) only [go_sem,jF,jG,jH,↓reduceIte,reduceCtorEq,y1,y2,z1,IF]
  refine (kL _ id g t at1 K hK 0 hl (by simp only; omega) (by try simp (disch:=omega) only [go_sem,↓reduceIte,z5])).mono ?_
  intro r τ hDR
  obtain ⟨⟨a,b,c,rfl,hs1,hs2,hs3,hs4,hs5,hs6⟩,hn,⟨at2,hd⟩,hf⟩:=hDR.use (by simp only; omega)
  obtain ⟨ob1,n1,c1⟩:=τ
  simp only at hn hd hf
  subst hn
  have u1:=hf (n0+1) (by omega) z2
  have u2:=hf (n0+1+1) (by omega) z4
  try simp (disch:=omega) only [go_sem,↓reduceIte,y5,z2] at u1
  try simp (disch:=omega) only [go_sem,↓reduceIte] at u2
  try simp (disch:=omega) only [go_sem,jF,jG,jH,↓reduceIte,reduceCtorEq,u2]
  refine aK (ah _ id g au true t at2 12 (by try simp (disch:=omega) only [go_sem,↓reduceIte,z5]; exact hd) (by omega) hl) ?_
  have hx4:=aH t at2 12
  generalize bc t at2 12=dr at *
  obtain ⟨x4,at4⟩:=dr
  simp only at hx4
  try simp (disch:=omega) only [go_sem,jF,jG,jH,↓reduceIte,u1,y5,z2,z4]
  rw [k4]
  refine fin ⟨4,0,0,0,0,0,0,a,0,0,0,0,[],false,b,c,x4,0,0,0,0⟩ (Mk (by omega) ⟨et (by omega) (by omega),et (by omega) (by omega),et (by omega) (by omega),et (by omega) (by omega)⟩) _ _ _ at4 (by try simp (disch:=omega) only [go_sem,↓reduceIte,z3,z5]) fun i hi hne=>?_
  have j0:¬i=n0:=by omega
  have j1:¬i=n0+1:=by omega
  have j2:¬i=n0+1+1:=by omega
  have j3:¬i=n0+1+1+1:=by omega
  try simp (disch:=omega) only [go_sem,↓reduceIte,j1,j2,hne]
  rw [hf i (by omega) hne]
  try simp (disch:=omega) only [go_sem,↓reduceIte,j0,j1,j2,hne]
 try simp (disch:=omega) only [go_sem,jF,↓reduceIte]
 refine aj (fun k5=>?_) (fun k5=>?_)
 ·try simp (disch:=omega) only [go_sem,↓reduceIte,reduceCtorEq]
  refine (fT _ id g t at1 1 hl (by simp only; omega) (by try simp (disch:=omega) only [go_sem,↓reduceIte,z5])).mono ?_
  intro r τ hDR
  obtain ⟨⟨kk,ii,vv,rfl,hOB⟩,hn,⟨at2,hd⟩,hf⟩:=hDR.use (by simp only; omega)
  obtain ⟨ob1,n1,c1⟩:=τ
  simp only at hn hd hf
  subst hn
  have u1:=hf (n0+1) (by omega) z2
  have u2:=hf (n0+1+1) (by omega) z4
  try simp (disch:=omega) only [go_sem,↓reduceIte,y5,z2] at u1
  try simp (disch:=omega) only [go_sem,↓reduceIte] at u2
  try simp (disch:=omega) only [go_sem,jF,jG,jH,↓reduceIte,gI,u1,u2,y5,y6,y7]
  rw [k5]
  simp only [RO] at hOB
  refine fin ⟨5,0,0,0,0,0,0,0,0,0,0,0,[],false,0,0,0,0,kk,ii,vv⟩ (Sp ⟨et (by omega) (by omega),et (by omega) (by omega),et (by omega) (by omega)⟩) _ _ _ at2 (by try simp (disch:=omega) only [go_sem,↓reduceIte,y3,z3,z5]; exact hd) fun i hi hne=>?_
  have j0:¬i=n0:=by omega
  have j1:¬i=n0+1:=by omega
  have j2:¬i=n0+1+1:=by omega
  have j3:¬i=n0+1+1+1:=by omega
  try simp (disch:=omega) only [go_sem,↓reduceIte,j1,j2,j3]
  rw [hf i (by omega) hne]
  try simp (disch:=omega) only [go_sem,↓reduceIte,j0,j1,j2,hne]
 have k6:1+x0=6:=by omega
 try simp (disch:=omega) only [go_sem,jF,jG,jH,↓reduceIte,reduceCtorEq,y1,y2,z1,N2]
 refine aK (ah _ id g au true t at1 s.n (by try simp (disch:=omega) only [go_sem,↓reduceIte,z5]) (by have:=hs.2; omega) hl) ?_
 have hx2:=aH t at1 s.n
 generalize bc t at1 s.n=dr at *
 obtain ⟨x1,at2⟩:=dr
 simp only at hx2
 try simp (disch:=omega) only [go_sem,jF,jG,jH,↓reduceIte,y5,z2,z4]
 rw [k6]
 have hs2:=hs.2
 refine fin ⟨6,0,0,0,0,0,0,0,0,0,0,0,[],false,0,0,0,x1,0,0,0⟩ (So (et (by omega) (by omega))) _ _ _ at2 (by try simp (disch:=omega) only [go_sem,↓reduceIte,z3,z5]) fun i hi hne=>?_
 have j0:¬i=n0:=by omega
 have j1:¬i=n0+1:=by omega
 have j2:¬i=n0+1+1:=by omega
 have j3:¬i=n0+1+1+1:=by omega
 try simp (disch:=omega) only [go_sem,↓reduceIte,j0,j1,j2,hne]
def u5 (l:List Int):Int:=65536 * (lG l 1 0).2+(lG l 1 0).1
theorem F7 (s:ByteArray):u4 s=u5 (sb s):=rfl
theorem DR:∀ (l:List Int) (a b:Int),0≤a→a<65521→0≤b→b<65521→0≤(lG l a b).1∧(lG l a b).1<65521∧0≤(lG l a b).2∧(lG l a b).2<65521
 | [],a,b,h1,h2,h3,h4=>⟨h1,h2,h3,h4⟩
 | x :: l,a,b,h1,h2,h3,h4=>by
  simp only [lG]
  exact DR l _ _ (Int.emod_nonneg _ (by decide)) (Int.emod_lt_of_pos _ (by decide)) (Int.emod_nonneg _ (by decide)) (Int.emod_lt_of_pos _ (by decide))
theorem Ky (l:List Int):0≤u5 l∧u5 l<4294967296:=by
 have:=DR l 1 0 (by omega) (by omega) (by omega) (by omega)
 unfold u5; omega
theorem BQ:∀ (k:Nat) (n:Int),0≤n→n<256 ^ k→m0 (cQ n k)=n
 | 0,n,h0,h1=>by simp at h1; simp [cQ,m0]; omega
 | k+1,n,h0,h1=>by
  rw [Int.pow_succ] at h1
  simp only [cQ,m0]
  rw [BQ k (n / 256) (by omega) (by omega)]
  omega
theorem Ej {a r:List Int} {n:Int} {k:Nat} (h0:0≤n) (h1:n<256 ^ k) (h:a=cQ n k++r):m0 (a.take k)=n:=by
 subst h
 rw [List.take_append_of_le_length (by rw [bx]; exact Nat.le_refl _),List.take_of_length_le (by rw [bx]; exact Nat.le_refl _),BQ k n h0 h1]
def gH (r:Rc):List Int:=dg r++cQ (u5 (dg r)) 4
theorem IT:∀ l:List Int,(l.flatMap fun n=>cQ n 5).length=5 * l.length
 | []=>rfl
 | a :: l=>by rw [List.flatMap_cons,List.length_append,bx,IT l,List.length_cons]; omega
theorem pX (r:Rc):(dg r).length=1+5 * (aP r.k).length:=by
 rw [dg,List.length_append,bx,IT,bQ,List.length_map]
theorem fu (r:Rc):(gH r).length=5+5 * (aP r.k).length:=by rw [gH,List.length_append,pX,bx]; omega
theorem Gy (r:Rc):∀ x∈dg r,0≤x∧x≤255:=by
 intro x hx
 rcases List.mem_append.1 hx with hx | hx
 ·exact xV _ _ x hx
 ·obtain ⟨n,_,hx⟩:=List.mem_flatMap.1 hx
  exact xV _ _ x hx
theorem Le (r:Rc):∀ x∈gH r,0≤x∧x≤255:=by
 intro x hx
 rcases List.mem_append.1 hx with hx | hx
 ·exact Gy r x hx
 ·exact xV _ _ x hx
theorem Co (r:Rc):sb (qU r)=gH r:=by
 have h1:u4 (bs (dg r))=u5 (dg r):=by rw [F7,L9 _ (Gy r)]
 rw [qU,h1]
 exact L9 _ (Le r)
theorem jx {r:Rc} (h:bl r=true):aP r.k≠[]∧(bQ r).all vB=true∧fB r (aP r.k)=r:=by
 simp only [bl,Bool.and_eq_true,decide_eq_true_eq] at h
 exact ⟨h.1.1,h.1.2,h.2⟩
def wI (D:List Int) (n:Nat):List Int:=(List.range n).map fun i=>m0 ((D.drop (1+5 * i)).take 5)
def vZ (D:List Int):Rc × Nat × Int:=
 if aP (D.getD 0 0)=[] then (qu 0,0,49) else if D.length<1+5 * (aP (D.getD 0 0)).length+4 then (qu 0,0,7) else
 if m0 ((D.drop (1+5 * (aP (D.getD 0 0)).length)).take 4)≠u5 (D.take (1+5 * (aP (D.getD 0 0)).length)) then (qu 0,0,8) else
 if (wI D (aP (D.getD 0 0)).length).all vB then (Gr (D.getD 0 0) (wI D (aP (D.getD 0 0)).length),1+5 * (aP (D.getD 0 0)).length+4,0) else (qu 0,0,49)
theorem I8 (s:ByteArray) (a:Nat) (h:a<s.size):dW s a=((vZ ((sb s).drop a)).1,(if (vZ ((sb s).drop a)).2.2=0 then ((a+(vZ ((sb s).drop a)).2.1:Nat):Int) else 0),(vZ ((sb s).drop a)).2.2):=by
 have e1:dW s a=FM s a:=by rw [dW,if_neg (by omega),if_neg (by omega)]; rfl
 rw [e1]
 have g0:((sb s).drop a).getD 0 0=(sb s).getD a 0:=by simp [List.getD_eq_getElem?_getD]
 have g1:((sb s).drop a).length=s.size-a:=by rw [List.length_drop,bL]
 have g2:∀ j k,m0 ((((sb s).drop a).drop j).take k)=sJ s (a+j) k:=fun j k=>by rw [List.drop_drop]; rfl
 have g3:∀ j,u5 (((sb s).drop a).take j)=u4 (s.extract a (a+j)):=fun j=>by rw [F7,kh,Nat.add_sub_cancel_left]
 have g4:∀ n,wI ((sb s).drop a) n=dv s a n:=fun n=>by
  simp only [wI,dv]
  refine List.map_congr_left fun i _=>?_
  rw [g2,Nat.add_assoc]
 simp only [vZ,FM,g0,g1,g2,g3,g4]
 generalize (sb s).getD a 0=k
 by_cases c1:aP k=[]
 ·simp [c1]
 rw [if_neg c1,if_neg c1]
 by_cases c2:s.size<a+1+5 * (aP k).length+4
 ·have c2':s.size-a<1+5 * (aP k).length+4:=by omega
  rw [if_pos c2,if_pos c2']; simp
 have c2':¬s.size-a<1+5 * (aP k).length+4:=by omega
 rw [if_neg c2,if_neg c2']
 rw [show a+(1+5 * (aP k).length)=a+1+5 * (aP k).length by omega]
 by_cases c3:sJ s (a+1+5 * (aP k).length) 4≠u4 (s.extract a (a+1+5 * (aP k).length))
 ·rw [if_pos c3,if_pos c3]; simp
 rw [if_neg c3,if_neg c3]
 by_cases c4:(dv s a (aP k).length).all vB=true
 ·rw [if_pos c4,if_pos c4]
  simp only [if_true]
  congr 2
  omega
 ·rw [if_neg c4,if_neg c4]; simp
theorem P5 {n:Int} (h:vB n=true):0≤n∧n≤274877906944:=by simpa [vB] using h
theorem BS:∀ (l:List Int) (i:Nat),(l.flatMap fun n=>cQ n 5).drop (5 * i)=(l.drop i).flatMap fun n=>cQ n 5
 | l,0=>by simp
 | [],i+1=>by simp
 | x :: l,i+1=>by
  simp only [List.flatMap_cons,List.drop_succ_cons]
  rw [show 5 * (i+1)=(cQ x 5).length+5 * i by rw [bx]; omega,List.drop_append,List.drop_of_length_le (by omega),List.nil_append,Nat.add_sub_cancel_left,BS l i]
theorem Hh (r:Rc) (i:Nat):(dg r).drop (1+5 * i)=((bQ r).drop i).flatMap fun n=>cQ n 5:=by
 rw [dg,←List.drop_drop,List.drop_left' (bx _ _),BS]
theorem Ij {r:Rc} (h:bl r=true) (Q:List Int):wI (dg r++Q) (aP r.k).length=bQ r:=by
 obtain ⟨h1,h2,h3⟩:=jx h
 have hl:(bQ r).length=(aP r.k).length:=by rw [bQ,List.length_map]
 apply List.ext_getElem
 ·simp [wI,hl]
 ·intro i hi hi'
  simp only [wI,List.getElem_map,List.getElem_range]
  have hb:=P5 (List.all_eq_true.1 h2 _ (List.getElem_mem hi'))
  refine Ej (r:=((bQ r).drop (i+1)).flatMap (fun n=>cQ n 5)++Q) hb.1 (by omega) ?_
  rw [List.drop_append_of_le_length (by rw [pX]; omega),Hh,List.drop_eq_getElem_cons hi',List.flatMap_cons,List.append_assoc]
theorem IX {r:Rc} (h:bl r=true) (Q:List Int):(dg r++Q).getD 0 0=r.k:=by
 have hk:=vy (jx h).1
 simp only [dg,cQ,List.cons_append,List.nil_append,List.getD_cons_zero]
 omega
theorem Lh {r:Rc} (h:bl r=true) (Q:List Int):vZ (gH r++Q)=(r,(gH r).length,0):=by
 obtain ⟨h1,h2,h3⟩:=jx h
 have hs:=Ky (dg r)
 have hA:gH r++Q=dg r++(cQ (u5 (dg r)) 4++Q):=by rw [gH,List.append_assoc]
 have hll:=pX r
 have hlen:(gH r++Q).length=1+5 * (aP r.k).length+4+Q.length:=by rw [List.length_append,fu]; omega
 have d1:(gH r++Q).drop (1+5 * (aP r.k).length)=cQ (u5 (dg r)) 4++Q:=by rw [hA]; exact List.drop_left' hll
 have d2:(gH r++Q).take (1+5 * (aP r.k).length)=dg r:=by rw [hA]; exact List.take_left' hll
 have d3:(gH r++Q).getD 0 0=r.k:=by rw [hA]; exact IX h _
 have d4:wI (gH r++Q) (aP r.k).length=bQ r:=by rw [hA]; exact Ij h _
 have d5:m0 ((cQ (u5 (dg r)) 4++Q).take 4)=u5 (dg r):=Ej hs.1 (by omega) rfl
 unfold vZ
 rw [d3,if_neg h1,if_neg (by omega),d1,d2,d5,if_neg (by simp),d4,if_pos h2,Fz,h3,fu]
 congr 2
 omega
theorem FN {r:Rc} (h:bl r=true) {n:Nat} (h0:1≤n) (hn:n<(gH r).length):(vZ ((gH r).take n)).2.2≠0:=by
 obtain ⟨h1,h2,h3⟩:=jx h
 have d3:((gH r).take n).getD 0 0=r.k:=by
  have:=IX h (cQ (u5 (dg r)) 4)
  rw [List.getD_eq_getElem?_getD,List.getElem?_take,if_pos (by omega),←List.getD_eq_getElem?_getD]
  exact this
 have hl:((gH r).take n).length=n:=by rw [List.length_take]; omega
 rw [fu] at hn
 unfold vZ
 rw [d3,if_neg h1,hl,if_pos (by omega)]
 simp
def mA (l:List Rc):List Int:=l.flatMap gH
theorem dU (l:List Rc) (r:Rc):mA (r :: l)=gH r++mA l:=by simp [mA]
theorem Fp {s:ByteArray} {a:Int} (h:(dW s a).2.2≠0):∀ f,eH s f a=([],a)
 | 0=>rfl
 | f+1=>by rw [eH,if_pos h]
theorem BD (s:ByteArray) (Q:List Int):∀ (l:List Rc) (f:Nat) (A:List Int),(∀ q∈l,bl q=true)→l.length≤f→sb s=A++(mA l++Q)→
  eH s f (A.length:Int)=(l++(eH s (f-l.length) ((A++mA l).length:Int)).1,(eH s (f-l.length) ((A++mA l).length:Int)).2)
 | [],f,A,_,_,_=>by simp [mA]
 | r :: l,f+1,A,hv,hf,hs=>by
  have hr:=hv r (by simp)
  have hal:=fu r
  have hsz:A.length<s.size:=by
   rw [←bL,hs,dU]; simp only [List.length_append]; omega
  have hd:(sb s).drop A.length=gH r++(mA l++Q):=by rw [hs,List.drop_left' rfl,dU,List.append_assoc]
  have hD:=I8 s A.length hsz
  rw [hd,Lh hr] at hD
  simp only [if_true] at hD
  have hs2:sb s=(A++gH r)++(mA l++Q):=by rw [hs,dU]; simp
  have ih:=BD s Q l f (A++gH r) (fun q hq=>hv q (by simp [hq])) (by simpa using hf) hs2
  rw [eH,if_neg (by rw [hD]; simp),hD]
  simp only
  rw [show ((A.length+(gH r).length:Nat):Int)=((A++gH r).length:Nat) by rw [List.length_append],ih]
  rw [show f+1-(r :: l).length=f-l.length by simp,show A++gH r++mA l=A++mA (r :: l) by rw [dU]; simp]
  rfl
theorem Oa (l:List Rc):l.length≤(mA l).length:=by
 induction l with
 | nil=>simp
 | cons r l ih=>rw [dU,List.length_append,fu,List.length_cons]; omega
theorem G1 {s:ByteArray} {Q:List Int} {l:List Rc} (hv:∀ q∈l,bl q=true) (hs:sb s=mA l++Q) :
  dP s=(l++(eH s (s.size-l.length) ((mA l).length:Int)).1,(eH s (s.size-l.length) ((mA l).length:Int)).2):=by
 have h1:=Oa l
 have h2:(sb s).length=s.size:=bL s
 rw [hs,List.length_append] at h2
 exact BD s Q l s.size [] hv (by omega) (by simpa using hs)
theorem D6 {s:ByteArray} {Q:List Int} {l:List Rc} (hv:∀ q∈l,bl q=true) (hs:sb s=mA l++Q) (hQ:Q=[]∨(vZ Q).2.2≠0):dP s=(l,((mA l).length:Int)):=by
 have h2:(sb s).length=s.size:=bL s
 have hd:(dW s ((mA l).length:Nat)).2.2≠0:=by
  rcases hQ with rfl | hQ
  ·rw [hs,List.append_nil] at h2
   rw [dW,if_neg (by omega),if_pos (by rw [h2])]; simp
  ·by_cases e:Q=[]
   ·subst e
    rw [hs,List.append_nil] at h2
    rw [dW,if_neg (by omega),if_pos (by rw [h2])]; simp
   ·have hQl:0<Q.length:=List.length_pos_iff.2 e
    rw [hs,List.length_append] at h2
    rw [I8 s (mA l).length (by omega),hs,List.drop_left' rfl]
    exact hQ
 rw [G1 hv hs,Fp hd,List.append_nil]
theorem Hj {b:Int} (h:7≤b) (Q:List Int):(vZ (b :: Q)).2.2≠0:=by
 have:aP b=[]:=by
  rcases ky b with e | ⟨h1,e⟩ | ⟨h1,e⟩ | ⟨h1,e⟩ | ⟨h1,e⟩ | ⟨h1,e⟩
  ·exact e
  all_goals omega
 unfold vZ
 simp only [List.getD_cons_zero]
 rw [if_pos this]
 simp
theorem Fo {l:List Rc} (hv:∀ q∈l,bl q=true) {s:ByteArray} {n:Nat} (hs:sb s=(mA l).take n):∃ j,j≤l.length∧dP s=(l.take j,((mA (l.take j)).length:Int))∧(mA (l.take j)).length≤s.size∧∀ i,i≤l.length→(mA (l.take i)).length≤n→i≤j:=by
 have key:∀ (l:List Rc) (n:Nat),(∀ q∈l,bl q=true)→∃ j Q,j≤l.length∧(mA l).take n=mA (l.take j)++Q∧(Q=[]∨(vZ Q).2.2≠0)∧∀ i,i≤l.length→(mA (l.take i)).length≤n→i≤j:=by
  intro l
  induction l with
  | nil=>intro n _; exact ⟨0,[],by simp,by simp [mA],.inl rfl,fun i hi _=>by simpa using hi⟩
  | cons r l ih=>
   intro n hv
   by_cases h:n<(gH r).length
   ·refine ⟨0,(gH r).take n,by simp,?_,?_,fun i hi hn=>?_⟩
    ·rw [dU,List.take_append_of_le_length (by omega)]; simp [mA]
    ·by_cases h0:n=0
     ·subst h0; exact .inl rfl
     ·exact .inr (FN (hv r (by simp)) (by omega) h)
    ·cases i with
     | zero=>omega
     | succ i=>rw [List.take_succ_cons,dU,List.length_append] at hn; omega
   ·obtain ⟨j,Q,h1,h2,h3,h4⟩:=ih (n-(gH r).length) fun q hq=>hv q (by simp [hq])
    refine ⟨j+1,Q,by simpa using h1,?_,h3,fun i hi hn=>?_⟩
    ·rw [dU,List.take_append,List.take_of_length_le (by omega),h2,List.take_succ_cons,dU,List.append_assoc]
    ·cases i with
     | zero=>omega
     | succ i=>
      rw [List.take_succ_cons,dU,List.length_append] at hn
      have:=h4 i (by simpa using hi) (by omega)
      omega
 obtain ⟨j,Q,h1,h2,h3,h4⟩:=key l n hv
 refine ⟨j,h1,D6 (fun q hq=>hv q (List.mem_of_mem_take hq)) (by rw [hs,h2]) h3,?_,h4⟩
 rw [←bL,hs,h2,List.length_append]; omega
def DJ (l:List Rc):ByteArray:=l.foldl (fun s r=>s++(oa r).1) ⟨#[]⟩
theorem HE (l:List Rc) (r:Rc):DJ (l++[r])=DJ l++(oa r).1:=by simp [DJ,List.foldl_append]
theorem Hg (r:Rc):(oa r).1.size≤35:=by
 unfold oa
 split
 ·exact BV r
 ·exact Nat.zero_le _
theorem HF (l:List Rc) (s:ByteArray):(l.foldl (fun s r=>s++(oa r).1) s).size≤s.size+35 * l.length:=by
 induction l generalizing s with
 | nil=>simp
 | cons r l ih=>
  have h1:=ih (s++(oa r).1)
  have h2:=Hg r
  rw [ByteArray.size_append] at h1
  simp only [List.foldl_cons,List.length_cons]
  omega
theorem yg (l:List Rc):(DJ l).size≤35 * l.length:=by
 have:=HF l ⟨#[]⟩
 have e:(⟨#[]⟩:ByteArray).size=0:=rfl
 rw [e] at this
 simpa [DJ] using this
theorem KB (l:List Rc) (hv:∀ q∈l,bl q=true) (s:ByteArray):sb (l.foldl (fun s r=>s++(oa r).1) s)=sb s++mA l:=by
 induction l generalizing s with
 | nil=>simp [mA]
 | cons r l ih=>
  simp only [List.foldl_cons]
  rw [ih (fun q hq=>hv q (by simp [hq])),mH,oa,if_pos (hv r (by simp)),Co,dU,List.append_assoc]
theorem HX {l:List Rc} (hv:∀ q∈l,bl q=true):sb (DJ l)=mA l:=by
 have:=KB l hv ⟨#[]⟩
 simpa [DJ,sb] using this
theorem KL (q p:Rc):iG 0 (fD q) (lj .nil p)=fD q:=rfl
theorem Sk (q:Rc):AV.agg ((fD q).cells.take 21)=fD q:=rfl
theorem Sl (q:Rc):AV.agg (((fD q).cells.drop 0).take 21)=fD q:=rfl
theorem Ia (q:Rc):(fD q).flat=true:=rfl
theorem Gg (q:Rc):(fD q).cells.length=21:=rfl
theorem Fi (q:Rc):(fD q).cells.take 21=(fD q).cells:=rfl
theorem Fj (q:Rc):AV.agg (fD q).cells=fD q:=rfl
theorem KM (q:Rc):(fD q).cells.all AV.one=true:=rfl
theorem H9:AV.agg [AV.int IntKind.i64 0,AV.int IntKind.i64 0,AV.int IntKind.i64 0,AV.int IntKind.i64 0,AV.int IntKind.i64 0,AV.int IntKind.i64 0,AV.int IntKind.i64 0,AV.int IntKind.i64 0,AV.int IntKind.i64 0,AV.int IntKind.i64 0,AV.int IntKind.i64 0,AV.int IntKind.i64 0,AV.nil,AV.bool false,AV.int IntKind.i64 0,AV.int IntKind.i64 0,AV.int IntKind.i64 0,AV.int IntKind.i64 0,AV.int IntKind.i64 0,AV.int IntKind.i64 0,AV.int IntKind.i64 0]=lj .nil (qu 0):=rfl
end Go.Proofs.Try
