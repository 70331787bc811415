/- OWN WORK, put together by tools/asm.py, seat.py, mini.py. -/
import Derived.Test.YtcpckngdfjmbgaaGreatLibE
set_option linter.unusedSimpArgs false
set_option linter.unusedVariables false
set_option maxRecDepth 100000
set_option maxHeartbeats 1000000
namespace Go.Proofs.Try
open Go.Ab Go Go.Proofs.Tryz
open Int renaming reduceEq → jA, reduceLT → jB, reduceLE → jC, reduceToNat → jD
open Go.Ab renaming iP → jM, iQ → jN, lV → jO, iR → jP
open Nat renaming reduceLT → jE, reduceEqDiff → jF, reduceAdd → jG, reduceLeDiff → jH, reduceSub → jI, reduceMul → jJ, sub_zero → jK, sub_self → jL
inductive MP (σ:St):AV→AV→Prop
 | same (a:AV):MP σ a a
 | mU {a b:AV} (h:aw σ a b):MP σ a b
 | agg {cs ds:List AV} (h5:cs.length=ds.length) (h6:∀ (i:Nat) (x y:AV),cs[i]?=some x→ds[i]?=some y→MP σ x y):MP σ (.agg cs) (.agg ds)
 | tuple {cs ds:List AV} (h5:cs.length=ds.length) (h6:∀ (i:Nat) (x y:AV),cs[i]?=some x→ds[i]?=some y→MP σ x y):MP σ (.tuple cs) (.tuple ds)
inductive G2 (σ:St):List AV→List AV→Prop
 | nil:G2 σ [] []
 | cons {a b:AV} {l r:List AV} (h:MP σ a b) (k:G2 σ l r):G2 σ (a :: l) (b :: r)
theorem G2.get {σ:St} {l r:List AV} (h:G2 σ l r):l.length=r.length∧∀ (i:Nat) (x y:AV),l[i]?=some x→r[i]?=some y→MP σ x y:=by
 induction h with
 | nil=>exact ⟨rfl,fun i x y h=>by simp at h⟩
 | cons h k ih=>
  refine ⟨by simp [ih.1],fun i x y hx hy=>?_⟩
  cases i with
  | zero=>simp at hx hy; subst hx; subst hy; exact h
  | succ i=>exact ih.2 i x y (by simpa using hx) (by simpa using hy)
theorem G2.app {σ:St} {l r l' r':List AV} (h:G2 σ l r) (k:G2 σ l' r'):G2 σ (l++l') (r++r'):=by
 induction h with
 | nil=>exact k
 | cons h _ ih=>exact .cons h ih
theorem G2.refl {σ:St}:∀ l:List AV,G2 σ l l
 | []=>.nil
 | _ :: l=>.cons (.same _) (G2.refl l)
theorem MP.ag {σ:St} {l r:List AV} (h:G2 σ l r):MP σ (.agg l) (.agg r):=.agg h.get.1 h.get.2
theorem MP.tu {σ:St} {l r:List AV} (h:G2 σ l r):MP σ (.tuple l) (.tuple r):=.tuple h.get.1 h.get.2
def MO (σ:St) (o o2:aU):Prop:=o2=o∨(o2={ o with l:=o2.l }∧mE o.es o2.l∧o2.l.length=o.l.length∧G2 σ (aK o.l) (aK o2.l))
theorem MO.g {σ:St} {o o2:aU} (h:MO σ o o2):o2.g=o.g:=by
 rcases h with rfl | ⟨h,_⟩
 ·rfl
 ·rw [h]
theorem MO.ro {σ:St} {o o2:aU} (h:MO σ o o2):o2.ro=o.ro:=by
 rcases h with rfl | ⟨h,_⟩
 ·rfl
 ·rw [h]
structure ID (σ:St) (lo:Nat) (X:AV) (Es:List AV):Prop where
 low:∀ i,¬aY X i→lo≤i∧i<σ.n
 Ff:∀ E∈Es,∀ i,¬aY E i→lo≤i∧i<σ.n
 sep:∀ E∈Es,∀ i,¬aY E i→aY X i
 dj:∀ (a b:Nat) (E F:AV),a≠b→Es[a]?=some E→Es[b]?=some F→∀ i,¬aY E i→aY F i
theorem ID.nil (σ:St) (lo:Nat):ID σ lo .nil []:=⟨fun i h=>absurd (aY.nil i) h,fun _ h=>(by cases h),fun _ h=>(by cases h),fun a b E F _ h=>(by simp at h)⟩
theorem tL {α:Type} {l:List α} {x y:α} {a:Nat} (h:(l++[x])[a]?=some y):(a<l.length∧l[a]?=some y)∨(a=l.length∧y=x):=by
 by_cases ha:a<l.length
 ·rw [List.getElem?_append_left ha] at h; exact .inl ⟨ha,h⟩
 ·rw [List.getElem?_append_right (by omega)] at h
  obtain ⟨h1,h2⟩:=List.getElem?_eq_some_iff.1 h
  simp at h1
  have h3:a=l.length:=by omega
  subst h3
  simp at h2
  exact .inr ⟨rfl,h2.symm⟩
theorem ID.snoc {σ τ ρ:St} {lo:Nat} {X X' E:AV} {Es:List AV} (h:ID σ lo X Es) (hlo:lo≤σ.n) (hn:σ.n≤τ.n) (hE:∀ i,¬aY E i→σ.n≤i∧i<τ.n) (k:Kp τ X ρ X') (hX:∀ i,ρ.n≤i→aY X' i):ID ρ lo X' (Es++[E]):=by
 obtain ⟨k1,k2,k3⟩:=k
 have hEs:∀ F∈Es,∀ i,¬aY F i→i<σ.n:=fun F hF i hi=>(h.Ff F hF i hi).2
 refine ⟨fun i hi=>?_,fun F hF i hi=>?_,fun F hF i hi=>?_,fun a b F G hab hF hG i hi=>?_⟩
 ·refine ⟨?_,Nat.lt_of_not_le fun hh=>hi (hX i hh)⟩
  by_cases h1:i<τ.n
  ·exact (h.low i fun h2=>hi (k3 i h1 h2)).1
  ·omega
 ·rcases List.mem_append.1 hF with hF | hF
  ·have:=h.Ff F hF i hi; omega
  ·obtain rfl:F=E:=by simpa using hF
   have:=hE i hi; omega
 ·rcases List.mem_append.1 hF with hF | hF
  ·exact k3 i (by have:=hEs F hF i hi; omega) (h.sep F hF i hi)
  ·obtain rfl:F=E:=by simpa using hF
   have:=hE i hi
   exact k3 i this.2 (aY.em fun h2=>by have:=(h.low i h2).2; omega)
 ·rcases tL hF with ⟨_,hF2⟩ | ⟨ha,rfl⟩ <;> rcases tL hG with ⟨_,hG2⟩ | ⟨hb,rfl⟩
  ·exact h.dj a b F G hab hF2 hG2 i hi
  ·exact aY.em fun h2=>by have:=hE i h2; have:=hEs F (List.mem_of_getElem? hF2) i hi; omega
  ·exact aY.em fun h2=>by have:=hE i hi; have:=hEs G (List.mem_of_getElem? hG2) i h2; omega
  ·omega
theorem ID.up {σ τ:St} {lo:Nat} {X:AV} {Es:List AV} (h:ID σ lo X Es) (hn:σ.n≤τ.n):ID τ lo X Es:=
 ⟨fun i hi=>⟨(h.low i hi).1,Nat.lt_of_lt_of_le (h.low i hi).2 hn⟩,fun E hE i hi=>⟨(h.Ff E hE i hi).1,Nat.lt_of_lt_of_le (h.Ff E hE i hi).2 hn⟩,h.sep,h.dj⟩
def IC (es:Nat) (ty:TypeId) (σ:St) (Es:List AV) (Ls:List (List AV)):Prop:=Es.length=Ls.length∧∀ (i:Nat) (E:AV) (L:List AV),Es[i]?=some E→Ls[i]?=some L→cu es ty σ L E
theorem IC.nil (es:Nat) (ty:TypeId) (σ:St):IC es ty σ [] []:=⟨rfl,fun i E L h=>by simp at h⟩
theorem IC.move {es:Nat} {ty:TypeId} {σ τ:St} {Es:List AV} {Ls:List (List AV)} (h:IC es ty σ Es Ls) (hn:σ.n≤τ.n) (ho:∀ E∈Es,∀ i,¬aY E i→i<σ.n→τ.ob i=σ.ob i):IC es ty τ Es Ls:=
 ⟨h.1,fun i E L hE hL=>(h.2 i E L hE hL).move hn fun j hj hh=>ho E (List.mem_of_getElem? hE) j hh hj⟩
theorem IC.snoc {es:Nat} {ty:TypeId} {σ:St} {Es:List AV} {Ls:List (List AV)} {E:AV} {L:List AV} (h:IC es ty σ Es Ls) (k:cu es ty σ L E):IC es ty σ (Es++[E]) (Ls++[L]):=by
 refine ⟨by simp [h.1],fun i F M hF hM=>?_⟩
 rcases tL hF with ⟨h1,hF⟩ | ⟨h1,rfl⟩ <;> rcases tL hM with ⟨h2,hM⟩ | ⟨h2,rfl⟩
 ·exact h.2 i F M hF hM
 ·have:=h.1; omega
 ·have:=h.1; omega
 ·exact k
theorem cu.up {es:Nat} {ty:TypeId} {σ τ:St} {L:List AV} {X:AV} (h:cu es ty σ L X) (hn:σ.n≤τ.n) (ho:∀ i,i<σ.n→¬aY X i→τ.ob i=σ.ob i):cu es ty τ L X:=h.move hn ho
theorem cu.lt {es:Nat} {ty:TypeId} {σ:St} {L:List AV} {X:AV} (h:cu es ty σ L X) {i:Nat} (hi:¬aY X i):i<σ.n:=Nat.lt_of_not_le fun hh=>hi (h.H2 hh)
theorem LC {es:Nat} {ty:TypeId} {σ τ:St} {L M:List AV} {X:AV} (h:cu es ty σ L X) (ho:∀ i,i<σ.n→¬aY X i→τ.ob i=σ.ob i) (hl:L.length=M.length)
  (hp:∀ (i:Nat) (x y:AV),L[i]?=some x→M[i]?=some y→aw τ x y) (hk:∀ x∈M,mF es x):aw τ X (.list es M):=by
 rcases h with ⟨rfl,rfl⟩ | ⟨id,g,rfl,h2,h3⟩
 ·obtain rfl:M=[]:=List.eq_nil_of_length_eq_zero (by simpa using hl.symm)
  exact .nl es
 ·exact .sl ((ho id h2 fun h=>h _ _ _ _ rfl).trans h3) rfl rfl (by simp) (by simpa using hl) (by simpa using hp) hk
theorem IC.mU {es:Nat} {ty:TypeId} {σ τ:St} {Es:List AV} {Ls:List (List AV)} (h:IC es ty σ Es Ls) (ho:∀ E∈Es,∀ i,i<σ.n→¬aY E i→τ.ob i=σ.ob i)
  (hp:∀ L∈Ls,∀ x∈L,x.cL=true) (hk:∀ L∈Ls,∀ x∈L,mF es x):∀ (i:Nat) (E:AV) (L:List AV),Es[i]?=some E→Ls[i]?=some L→aw τ E (.list es L):=fun i E L hE hL=>
 (h.2 i E L hE hL).mU (ho E (List.mem_of_getElem? hE)) (hp L (List.mem_of_getElem? hL)) (hk L (List.mem_of_getElem? hL))
structure Pn where
 id:Int
 role:Int
 key:Int
 deriving DecidableEq,Inhabited
structure Dv where
 id:Int
 site:Int
 fr:Int
 to:Int
 rel:Int
 sg:List Int
 wd:Bool
 deriving DecidableEq,Inhabited
structure Dk where
 ps:List Pn
 nx:Int
 ds:List Dv
 deriving DecidableEq
def rn (p:Pn):AV:=.agg [.int .i64 p.id,.int .i64 p.role,.int .i64 p.key]
def pR (l:List Pn):List AV:=l.map rn
def jc (d:Dv) (E:AV):AV:=.agg [.int .i64 d.id,.int .i64 d.site,.int .i64 d.fr,.int .i64 d.to,.int .i64 d.rel,E,.bool d.wd]
def gF (d:Dv):AV:=jc d (.list 1 (ints d.sg))
def yz (l:List Dv):List AV:=l.map gF
def bM (K:Dk):AV:=.agg [.list 3 (pR K.ps),.int .i64 K.nx,.list 7 (yz K.ds)]
def Cw:Pn:=⟨0,0,0⟩
def uW:Dk:=⟨[],0,[]⟩
theorem aV (l:List Pn):(pR l).length=l.length:=by simp [pR]
theorem iI (l:List Pn) (i:Nat):(pR l)[i]?=(l[i]?).map rn:=by simp [pR]
theorem Dm (l:List Pn):∀ x∈pR l,x.cL=true:=by simp [pR,rn,go_sem]
theorem Gn (l:List Pn):∀ x∈pR l,mF 3 x:=by simp [pR,rn,mF,go_sem]
theorem aS (l:List Dv):(yz l).length=l.length:=by simp [yz]
theorem dS (l:List Dv) (i:Nat):(yz l)[i]?=(l[i]?).map gF:=by simp [yz]
theorem rb (d:Dv):(gF d).cL=true:=by simp [gF,jc,go_sem]
theorem L7 (l:List Dv):∀ x∈yz l,x.cL=true:=by simp [yz,rb]
theorem JU (l:List Dv):∀ x∈yz l,mF 7 x:=by simp [yz,gF,jc,mF,go_sem]
theorem eC (K:Dk):(bM K).cL=true:=by simp [bM,go_sem]
def Va:Dv:=⟨0,0,0,0,0,[],false⟩
theorem AG:AV.agg [.int .i64 0,.int .i64 0,.int .i64 0,.int .i64 0,.int .i64 0,.nil,.bool false]=jc Va .nil:=rfl
theorem DX (d e:Dv):gH 0 (gF d) (jc e .nil)=gF d:=rfl
theorem RD (d:Dv):(gF d).flat=true:=rfl
theorem DZ (d:Dv):(gF d).cells.length=7:=rfl
theorem JT (d:Dv):AV.agg ((gF d).cells.take 7)=gF d:=rfl
theorem TM (d:Dv):AV.agg (((gF d).cells.drop 0).take 7)=gF d:=rfl
theorem wR (d:Dv):(gF d).cells.take 7=(gF d).cells:=rfl
theorem wS (d:Dv):AV.agg (gF d).cells=gF d:=rfl
theorem DY (d:Dv):(gF d).cells.all AV.one=true:=rfl
theorem CR (d:Dv):(gF d).cells.getD 0 .bC=.int .i64 d.id:=rfl
theorem RF (d:Dv):(gF d).cells.getD 3 .bC=.int .i64 d.to:=rfl
theorem RE (d:Dv):(gF d).cells.getD 6 .bC=.bool d.wd:=rfl
def iq (x a b:Int):Bool:=decide (a≤x)&&decide (x≤b)
def qw:Int→List Int→Int
 | c,[]=>c
 | c,n :: l=>qw ((31 * c+((n.tmod 2147483647+2147483647).tmod 2147483647)).tmod 2147483647) l
def AJ (key kind:Int) (d:Dv):List Int:=[key,kind,d.id,d.site,d.fr,d.to,d.rel]
def sk (key kind:Int) (d:Dv):Int:=qw 7 (AJ key kind d)
def cO (K:Dk) (id:Int):Pn × Bool:=match K.ps.find? fun p=>decide (p.id=id) with
 | some p=>(p,true)
 | none=>(Cw,false)
def cM (K:Dk) (l:List Int):List Int:=l.map fun s=>(cO K s).1.role
def gI (K:Dk) (d:Dv):Bool:=
 iq d.site 0 5&&!decide (d.fr<0)&&!decide (d.to<d.fr)&&!decide (16777216<d.to)&&iq d.rel 0 1073741824&&decide (d.sg.length≤2)&&d.sg.all (fun s=>(cO K s).2)&&
 (decide (d.sg.length<2)||!decide ((cM K d.sg).getD 0 0=(cM K d.sg).getD 1 0))
def gP (l:List Pn) (i:Nat):Pn:=l.getD i default
def gD (l:List Dv) (i:Nat):Dv:=l.getD i default
theorem wL {l:List Pn} {i:Nat} (h:i<l.length):l[i]?=some (gP l i):=by simp [gP,List.getD_eq_getElem?_getD,h]
theorem js {l:List Dv} {i:Nat} (h:i<l.length):l[i]?=some (gD l i):=by simp [gD,List.getD_eq_getElem?_getD,h]
def F6 (K:Dk) (i:Nat):Bool:=iq (gP K.ps i).id 1 1073741824&&!(decide (0<i)&&decide ((gP K.ps i).id≤(gP K.ps (i-1)).id))&&iq (gP K.ps i).role 1 9&&iq (gP K.ps i).key 1 1073741824
def E3 (K:Dk) (i:Nat):Bool:=iq (gD K.ds i).id 1 (K.nx-1)&&!(decide (0<i)&&decide ((gD K.ds i).id≤(gD K.ds (i-1)).id))&&gI K (gD K.ds i)
def cd (K:Dk):Bool:=decide (K.ps.length≤12)&&iq K.nx 1 1073741824&&decide (K.ds.length≤64)&&(List.range K.ps.length).all (F6 K)&&(List.range K.ds.length).all (E3 K)
def o6 (K:Dk):Int:=if cd K then 0 else 50
def bQ (K:Dk) (site fr to rel:Int):Dk × Int × Int:=
 if cd K=false then (uW,0,50) else if iq site 0 5=false then (uW,0,40) else if fr<0∨to<fr∨16777216<to then (uW,0,6) else if iq rel 0 1073741824=false then (uW,0,1) else
 if K.ds.length=64∨K.nx=1073741824 then (uW,0,10) else (⟨K.ps,K.nx+1,K.ds++[⟨K.nx,site,fr,to,rel,[],false⟩]⟩,K.nx,0)
def rK (K:Dk) (id who code now kind:Int):List Dv→Nat→Int × Pn × Int
 | [],_=>(0,Cw,9)
 | d :: l,i=>if d.id≠id then rK K id who code now kind l (i+1) else if d.wd=true∨d.to<now then (0,Cw,44) else if (cO K who).2=false then (0,Cw,11) else
  if code≠sk (cO K who).1.key kind d then (0,Cw,43) else ((i:Int),(cO K who).1,0)
def bJ (K:Dk) (id who code now kind:Int):Int × Pn × Int:=if cd K=false then (0,Cw,50) else rK K id who code now kind K.ds 0
def oc (K:Dk) (who role:Int):List Int→Int
 | []=>0
 | s :: l=>if s=who then 46 else if (cO K s).1.role=role then 5 else oc K who role l
def jZ (K:Dk) (id who code now:Int):Dk × Int:=
 let a:=bJ K id who code now 1
 if a.2.2≠0 then (uW,a.2.2) else
 let d:=gD K.ds a.1.toNat
 if d.sg.length=2 then (uW,46) else if oc K who a.2.1.role d.sg≠0 then (uW,oc K who a.2.1.role d.sg) else (⟨K.ps,K.nx,K.ds.set a.1.toNat { d with sg:=d.sg++[who] }⟩,0)
def ki (K:Dk) (id who code now:Int):Dk × Int:=
 let a:=bJ K id who code now 2
 if a.2.2≠0 then (uW,a.2.2) else (⟨K.ps,K.nx,K.ds.set a.1.toNat { gD K.ds a.1.toNat with wd:=true }⟩,0)
theorem bX (x a b:Int):PC prog Gw [.int .i64 x,.int .i64 a,.int .i64 b] (.bool (iq x a b)):=by
 refine ae GY (by simp) ?_
 simp only [AN,iq]
 try simp (disch:=omega) only [go_sem,jF,↓reduceIte,reduceCtorEq]
 refine bB rfl (fun h=>?_) (fun h=>?_) <;> try simp (disch:=omega) only [go_sem,jF,↓reduceIte,reduceCtorEq]
 ·exact aw.of_eq (by simp [h]) rfl
 ·exact aw.of_eq (by simp [h]) rfl
theorem CO {α:Type} {l:List α} {q:α→Bool} {i:Nat} (hi:i<l.length) (h:(l.take i).find? q=none):(l.take (i+1)).find? q=if q l[i]=true then some l[i] else none:=by
 rw [List.take_add_one,List.getElem?_eq_getElem hi,List.find?_append,h]
 simp [List.find?_cons]
 split <;> simp_all
theorem Fl {α:Type} {l:List α} {q:α→Bool} {i:Nat} (hi:i<l.length) (h:(l.take i).find? q=none) (hq:q l[i]=true):l.find? q=some l[i]:=by
 have h1:=CO hi h
 rw [if_pos hq] at h1
 have h2:∀ x,x=some l[i]→(l.take (i+1)).find? q=x→l.find? q=x:=fun x hx h3=>by
  rw [←List.take_append_drop (i+1) l,List.find?_append,h3,hx]; rfl
 exact h2 _ rfl h1
theorem jl (K:Dk) (id:Int) (hl:K.ps.length≤9223372036854775807):PC prog zT [bM K,.int .i64 id] (.tuple [rn (cO K id).1,.bool (cO K id).2]):=by
 refine ae AT (by simp) ?_
 simp only [qA,bM]
 try simp (disch:=omega) only [go_sem,jF,jG,jH,↓reduceIte,reduceCtorEq,aV]
 refine aW [5,7,11,12,13,14,15,16,17,18,19,20] (by kernel_rfl) K.ps.length (fun i e σ=>e 11=.int .i64 i∧(K.ps.take i).find? (fun p=>decide (p.id=id))=none∧σ.ob 1=some ⟨1,3,131,false,true,[.agg [.int .i64 0,.int .i64 0,.int .i64 0]]⟩) ?_ ?_
 ·exact ⟨(by first | rfl | (simp (disch:=omega) only [go_sem,jA,jB,jC,jD,jE,jF,jG,jH,jI,jJ,↓reduceIte,reduceCtorEq,jP,jO,jM,jN]; try rfl)),rfl,by try simp (disch:=omega) only [go_sem,↓reduceIte]⟩
 rintro i fe ob m c hi hm ⟨h11,hf,h1⟩
 simp (maxSteps:=1000000) only [go_sem,jF,↓reduceIte] at h11 h1 hm
 try simp (disch:=omega) only [go_sem,jF,↓reduceIte,h11]
 refine ah (fun hlt=>?_) (fun hge=>?_)
 ·have hil:i<K.ps.length:=by omega
  have hg:K.ps[i]?=some K.ps[i]:=List.getElem?_eq_getElem hil
  have hs:=CO hil hf
  have hh:=Fl hil hf
  have hsn:(K.ps.take (i+1)).find? (fun p=>decide (p.id=id))=if decide (K.ps[i].id=id)=true then some K.ps[i] else none:=hs
  generalize K.ps[i]=p at *
  have z1:¬1=m:=by omega
  try simp (disch:=omega) only [go_sem,jF,jG,jH,↓reduceIte,reduceCtorEq,iI,hg,Option.map_some,aV,rn]
  refine ⟨by omega,by omega,?_⟩
  refine ah (fun hq=>?_) (fun hq=>?_)
  ·try simp (disch:=omega) only [go_sem,jF,jG,jH,↓reduceIte,h1,z1]
   have:cO K id=(p,true):=by rw [cO,hh (by simpa using hq)]
   rw [this]
   exact aw.pure rfl
  ·try simp (disch:=omega) only [go_sem,jF,↓reduceIte,jO]
   refine aG (m+1) hil (by omega) ⟨(by first | rfl | (simp (disch:=omega) only [go_sem,jA,jB,jC,jD,jE,jF,jG,jH,jI,jJ,↓reduceIte,reduceCtorEq,jP,jO,jM,jN]; try rfl)),?_,?_⟩
   ·rw [hsn,if_neg (by simpa using hq)]
   ·rw [aX (by omega),aa _ _ _ _ (by omega),aa _ _ _ _ (by omega)]; exact h1
 obtain rfl:i=K.ps.length:=by omega
 rw [List.take_length] at hf
 try simp (disch:=omega) only [go_sem,jF,jG,jH,↓reduceIte,h1]
 have:cO K id=(Cw,false):=by rw [cO,hf]
 rw [this]
 exact aw.pure rfl
theorem tJ (x:Int):-2147483647<x.tmod 2147483647∧x.tmod 2147483647<2147483647:=by
 have h1:=Int.tmod_lt_of_pos x (b:=2147483647) (by omega)
 have h2:=Int.tmod_lt_of_pos (-x) (b:=2147483647) (by omega)
 rw [Int.neg_tmod] at h2
 omega
theorem mW (x:Int) (h:0≤x):0≤x.tmod 2147483647∧x.tmod 2147483647<2147483647:=⟨Int.tmod_nonneg _ h,(tJ x).2⟩
theorem mC (key kind:Int) (d:Dv):PC prog DI [.int .i64 key,.int .i64 kind,gF d] (.int .i64 (sk key kind d)):=by
 refine ae En (by simp) ?_
 simp only [vq,gF,jc]
 try simp (disch:=omega) only [go_sem,jF,jG,jH,↓reduceIte,reduceCtorEq]
 have hL:[AV.int .i64 key,.int .i64 kind,.int .i64 d.id,.int .i64 d.site,.int .i64 d.fr,.int .i64 d.to,.int .i64 d.rel]=ints (AJ key kind d):=rfl
 have h7:(AJ key kind d).length=7:=rfl
 rw [hL]
 generalize hLL:AJ key kind d=L at *
 refine bw [7,9,24,25,26,27,28,29,30,31,32,33,34,35,36] (by kernel_rfl) 7 (fun i e _=>e 24=.int .i64 i∧∃ c,e 7=.int .i64 c∧0≤c∧c<2147483647∧sk key kind d=qw c (L.drop i)) ?_ ?_
 ·exact ⟨(by first | rfl | (simp (disch:=omega) only [go_sem,jA,jB,jC,jD,jE,jF,jG,jH,jI,jJ,↓reduceIte,reduceCtorEq,jP,jO,jM,jN]; try rfl)),7,(by first | rfl | (simp (disch:=omega) only [go_sem,jA,jB,jC,jD,jE,jF,jG,jH,jI,jJ,↓reduceIte,reduceCtorEq,jP,jO,jM,jN]; try rfl)),by omega,by omega,by rw [sk,hLL]; rfl⟩
 rintro i fe ob c hi ⟨h24,x,hx,x0,x1,hc⟩
 simp (maxSteps:=1000000) only [go_sem,jF,↓reduceIte] at h24 hx
 try simp (disch:=omega) only [go_sem,jF,↓reduceIte,h24]
 refine ah (fun hlt=>?_) (fun hge=>?_)
 ·have hil:i<L.length:=by omega
  have hgi:=bD L i
  rw [List.getElem?_eq_getElem hil] at hgi
  rw [List.drop_eq_getElem_cons hil,qw] at hc
  generalize L[i]=n at *
  have b1:=tJ n
  generalize hy:n.tmod 2147483647=y at *
  have b2:=mW (y+2147483647) (by omega)
  generalize hz:(y+2147483647).tmod 2147483647=z at *
  have b3:=mW (31 * x+z) (by omega)
  try simp (disch:=omega) only [go_sem,jA,jF,jH,↓reduceIte,jO,hx,hgi,Option.map_some,au,h7,hy,hz]
  exact ⟨by omega,by omega,bl (by omega) ⟨(by first | rfl | (simp (disch:=omega) only [go_sem,jA,jB,jC,jD,jE,jF,jG,jH,jI,jJ,↓reduceIte,reduceCtorEq,jP,jO,jM,jN]; try rfl)),_,(by first | rfl | (simp (disch:=omega) only [go_sem,jA,jB,jC,jD,jE,jF,jG,jH,jI,jJ,↓reduceIte,reduceCtorEq,jP,jO,jM,jN]; try rfl)),b3.1,b3.2,hc⟩⟩
 obtain rfl:i=7:=by omega
 rw [List.drop_of_length_le (by omega),qw] at hc
 try simp (disch:=omega) only [go_sem,jB,jF,↓reduceIte,hx]
 rw [hc]
 exact aw.pure rfl
theorem pW (K:Dk) (d:Dv) (hl:K.ps.length≤9223372036854775807):PC prog BF [bM K,gF d] (.bool (gI K d)):=by
 refine ae B4 (by simp) ?_
 simp only [sC,gF,jc]
 have hK:(bM K).flat=true:=by simp [bM,go_sem]
 have hKc:(bM K).cells.length=3:=rfl
 have hKp:=eC K
 have hKt:AV.agg ((bM K).cells.take 3)=bM K:=rfl
 have hKd:AV.agg (((bM K).cells.drop 0).take 3)=bM K:=rfl
 have no:∀ {σ:St},gI K d=false→aw σ (.bool false) (.bool (gI K d)):=fun h=>aw.of_eq (by rw [h]) rfl
 try simp (disch:=omega) only [go_sem,jF,jG,jH,↓reduceIte,reduceCtorEq,hK,hKc]
 refine ab (bX _ _ _) (by simp [go_sem]) ?_
 cases h1:iq d.site 0 5
 ·try simp (disch:=omega) only [go_sem,jF,↓reduceIte]
  exact no (by simp [gI,h1])
 try simp (disch:=omega) only [go_sem,jF,jG,jH,↓reduceIte]
 refine bF rfl (fun h2=>?_) (fun h2=>?_) <;> try simp (disch:=omega) only [go_sem,jF,jG,jH,↓reduceIte]
 ·exact no (by simp [gI,h2])
 refine bF rfl (fun h3=>?_) (fun h3=>?_) <;> try simp (disch:=omega) only [go_sem,jF,jG,jH,↓reduceIte]
 ·exact no (by simp [gI,h3])
 refine bF rfl (fun h4=>?_) (fun h4=>?_) <;> try simp (disch:=omega) only [go_sem,jF,jG,jH,↓reduceIte]
 ·exact no (by simp [gI,h4])
 refine ab (bX _ _ _) (by simp [go_sem]) ?_
 cases h5:iq d.rel 0 1073741824
 ·try simp (disch:=omega) only [go_sem,jF,↓reduceIte]
  exact no (by simp [gI,h5])
 try simp (disch:=omega) only [go_sem,jF,jG,jH,↓reduceIte,au]
 refine ah (fun h6=>?_) (fun h6=>?_) <;> try simp (disch:=omega) only [go_sem,jF,jG,jH,↓reduceIte,au]
 ·exact no (by simp only [gI]; rw [decide_eq_false (show ¬d.sg.length≤2 by omega)]; simp)
 have hR:gI K d=(d.sg.all (fun s=>(cO K s).2)&&(decide (d.sg.length<2)||!decide ((cM K d.sg).getD 0 0=(cM K d.sg).getD 1 0))):=by
  simp only [gI,h1,h5,decide_eq_false h2,decide_eq_false h3,decide_eq_false h4]
  rw [decide_eq_true (show d.sg.length≤2 by omega)]; simp
 refine aW [4,5,7,8,9,46,47,48,49,50,51,52,53,54,55,56,57,58,59,60,61,62,63] (by kernel_rfl) d.sg.length (fun i e σ=>e 46=.int .i64 i∧2≤σ.n∧σ.ob 0=some ⟨0,3,44,false,true,[bM K]⟩∧(d.sg.take i).all (fun s=>(cO K s).2)=true∧∃ X,At e 5 X∧cu 1 3 σ (ints (cM K (d.sg.take i))) X∧∀ j,¬aY X j→2≤j) ?_ ?_
 ·exact ⟨(by first | rfl | (simp (disch:=omega) only [go_sem,jA,jB,jC,jD,jE,jF,jG,jH,jI,jJ,↓reduceIte,reduceCtorEq,jP,jO,jM,jN]; try rfl)),Nat.le_refl _,by try simp (disch:=omega) only [go_sem,↓reduceIte,reduceCtorEq],rfl,.nil,(by simp only [At]; try simp (disch:=omega) only [go_sem,jF,↓reduceIte]),cu.nil,fun j hj=>absurd (aY.nil j) hj⟩
 rintro i fe ob m c hi hm ⟨h46,hm2,h0,hall,X,h5X,hX,hXl⟩
 simp (maxSteps:=1000000) only [go_sem,jF,↓reduceIte,At] at h46 hm hm2 h0 h5X
 try simp (disch:=omega) only [go_sem,jF,↓reduceIte,h46]
 refine ah (fun hlt=>?_) (fun hge=>?_)
 ·have hil:i<d.sg.length:=by omega
  have hgi:=bD d.sg i
  have htk:=dX _ _ hil
  have hmem:d.sg[i]∈d.sg:=List.getElem_mem hil
  rw [List.getElem?_eq_getElem hil] at hgi
  generalize d.sg[i]=s at *
  try simp (disch:=omega) only [go_sem,jF,jH,↓reduceIte,au,hgi,Option.map_some,h0,hKt]
  refine ⟨by omega,by omega,?_⟩
  refine ab (jl K s hl) (by simp [hKp,go_sem]) ?_
  try simp (disch:=omega) only [go_sem,jF,jG,jH,↓reduceIte,rn]
  cases hp:(cO K s).2
  ·try simp (disch:=omega) only [go_sem,↓reduceIte]
   refine no ?_
   rw [hR,show d.sg.all (fun s=>(cO K s).2)=false by rw [List.all_eq_false]; exact ⟨s,hmem,by simp [hp]⟩]; rfl
  try simp (disch:=omega) only [go_sem,jF,jG,jH,↓reduceIte,h5X]
  have hrl:(ints (cM K (d.sg.take i))).length≤2:=by rw [au,cM,List.length_map,List.length_take]; omega
  refine bH (b:=8) (hX.move (Nat.le_succ _) fun j hj _=>?_) (by omega) (by omega) fun Y τ hY kY=>?_
  ·simp only at hj ⊢
   rw [aa _ _ _ _ (by omega),aa _ _ _ _ (by omega)]
  obtain ⟨ob5,m5,c5⟩:=τ
  have q1:m+1≤m5:=kY.1
  have oX:∀ j,j<2→aY X j:=fun j hj=>aY.em fun h=>by have:=hXl j h; omega
  have q2:ob5 0=ob 0:=(kY.2.1 0 (by simp only; omega) (oX 0 (by omega))).trans (by simp only; rw [aa _ _ _ _ (by omega),aa _ _ _ _ (by omega)])
  try simp (disch:=omega) only [go_sem,jF,↓reduceIte,jO]
  refine aG m5 hil (by omega) ⟨(by first | rfl | (simp (disch:=omega) only [go_sem,jA,jB,jC,jD,jE,jF,jG,jH,jI,jJ,↓reduceIte,reduceCtorEq,jP,jO,jM,jN]; try rfl)),by simp only [St.aD]; omega,?_,?_,Y,(by simp only [At]; try simp (disch:=omega) only [go_sem,jF,↓reduceIte]),?_,fun j hj=>Nat.le_of_not_lt fun hh=>hj (kY.2.2 j (by simp only; omega) (oX j hh))⟩
  ·rw [aX (by omega),q2]; exact h0
  ·rw [htk,List.all_append,hall]; simp [hp]
  ·rw [htk,show ints (cM K (d.sg.take i++[s]))=ints (cM K (d.sg.take i))++[.int .i64 (cO K s).1.role] by simp [cM,ints]]
   exact hY.tr
 obtain rfl:i=d.sg.length:=by omega
 rw [List.take_length] at hall hX
 rw [hall,Bool.true_and] at hR
 have hrl:(cM K d.sg).length=d.sg.length:=by rw [cM,List.length_map]
 generalize cM K d.sg=RL at *
 try simp (disch:=omega) only [go_sem,jF,↓reduceIte,h5X]
 have hno:∀ l:List Int,ints l=[]→l=[]:=fun l h=>by simpa [ints] using h
 rcases hX with ⟨rfl,hn⟩ | ⟨id,g,rfl,hi2,ho⟩
 ·obtain rfl:=hno _ hn
  try simp (disch:=omega) only [go_sem,jB,jF,↓reduceIte]
  rw [hR]
  exact aw.of_eq (by rw [←hrl]; rfl) rfl
 ·simp only at ho
  try simp (disch:=omega) only [go_sem,↓reduceIte,au]
  refine bF rfl (fun hlt=>?_) (fun hge=>?_)
  ·try simp (disch:=omega) only [go_sem,jF,↓reduceIte]
   rw [hR]
   exact aw.of_eq (by rw [decide_eq_true (show d.sg.length<2 by omega)]; rfl) rfl
  ·match RL,hrl with
   | [a,b],hrl=>
    simp only [ints,List.map_cons,List.map_nil] at ho ⊢
    try simp (disch:=omega) only [go_sem,jB,jC,jF,jG,jH,↓reduceIte,ho]
    rw [hR]
    exact aw.of_eq (by rw [←hrl]; rfl) rfl
   | [],hrl=>simp at hge
   | [_],hrl=>simp at hge
   | _ :: _ :: _ :: _,hrl=>simp at hrl; omega
theorem fJ {q:Nat→Bool} {i:Nat} (h:(List.range i).all q=true) (hq:q i=true):(List.range (i+1)).all q=true:=by
 rw [List.range_succ,List.all_append,h]; simp [hq]
theorem tX {q:Nat→Bool} {i n:Nat} (hi:i<n) (hq:q i=false):(List.range n).all q=false:=by
 rw [List.all_eq_false]; exact ⟨i,List.mem_range.2 hi,by simp [hq]⟩
theorem kH (K:Dk) (hl:K.ps.length≤9223372036854775807) (hl2:K.ds.length≤9223372036854775807):PC prog BG [bM K] (.int .i64 (o6 K)):=by
 refine ae B5 (by simp) ?_
 simp only [sD]
 have hK:(bM K).flat=true:=by simp [bM,go_sem]
 have hKc:(bM K).cells.length=3:=rfl
 have hKp:=eC K
 have hKt:AV.agg ((bM K).cells.take 3)=bM K:=rfl
 have hKd:AV.agg (((bM K).cells.drop 0).take 3)=bM K:=rfl
 have g0:(bM K).cells.getD 0 .bC=.list 3 (pR K.ps):=rfl
 have g1:(bM K).cells.getD 1 .bC=.int .i64 K.nx:=rfl
 have g2:(bM K).cells.getD 2 .bC=.list 7 (yz K.ds):=rfl
 have no:∀ {σ:St},cd K=false→aw σ (.int .i64 50) (.int .i64 (o6 K)):=fun h=>aw.of_eq (by rw [o6,h]; rfl) rfl
 try simp (disch:=omega) only [go_sem,jF,jH,↓reduceIte,hK,hKc,g0,aV]
 refine bF rfl (fun h1=>?_) (fun h1=>?_) <;> try simp (disch:=omega) only [go_sem,jF,jG,jH,↓reduceIte,g1]
 ·exact no (by simp only [cd]; rw [decide_eq_false (show ¬K.ps.length≤12 by omega)]; simp)
 refine ab (bX _ _ _) (by simp [go_sem]) ?_
 cases h2:iq K.nx 1 1073741824
 ·try simp (disch:=omega) only [go_sem,jF,↓reduceIte]
  exact no (by simp [cd,h2])
 try simp (disch:=omega) only [go_sem,jF,jG,jH,↓reduceIte,g2,aS]
 refine ah (fun h3=>?_) (fun h3=>?_) <;> try simp (disch:=omega) only [go_sem,jF,jH,↓reduceIte,g0,aV]
 ·exact no (by simp only [cd]; rw [decide_eq_false (show ¬K.ds.length≤64 by omega)]; simp)
 have hC:cd K=((List.range K.ps.length).all (F6 K)&&(List.range K.ds.length).all (E3 K)):=by
  simp only [cd,h2]
  rw [decide_eq_true (show K.ps.length≤12 by omega),decide_eq_true (show K.ds.length≤64 by omega)]; simp
 refine aW [2,3,4,26,27,28,29,30,31,32,33,34,35,36,37,38,39,40,41,42,43,44,45,46,47,48,49,50,51,52,53,54,55,56,57,58,59,60,61,62,63] (by kernel_rfl) K.ps.length (fun i e σ=>e 26=.int .i64 i∧1≤σ.n∧σ.ob 0=some ⟨0,3,44,false,true,[bM K]⟩∧(List.range i).all (F6 K)=true) ?_ ?_
 ·exact ⟨(by first | rfl | (simp (disch:=omega) only [go_sem,jA,jB,jC,jD,jE,jF,jG,jH,jI,jJ,↓reduceIte,reduceCtorEq,jP,jO,jM,jN]; try rfl)),Nat.le_refl _,by try simp (disch:=omega) only [go_sem,↓reduceIte],rfl⟩
 rintro i fe ob m c hi hm ⟨h26,hm1,h0,hall⟩
 simp (maxSteps:=1000000) only [go_sem,jF,↓reduceIte] at h26 hm hm1 h0
 try simp (disch:=omega) only [go_sem,jF,↓reduceIte,h26]
 refine ah (fun hlt=>?_) (fun hge=>?_)
 ·have hil:i<K.ps.length:=by omega
  have hg:=wL hil
  have hgq:0<i→K.ps[i-1]?=some (gP K.ps (i-1)):=fun h=>wL (by omega)
  have hno:F6 K i=false→∀ {σ:St},aw σ (.int .i64 50) (.int .i64 (o6 K)):=fun h σ=>no (by rw [hC,tX hil h]; rfl)
  have hok:F6 K i=(iq (gP K.ps i).id 1 1073741824&&!(decide (0<i)&&decide ((gP K.ps i).id≤(gP K.ps (i-1)).id))&&iq (gP K.ps i).role 1 9&&iq (gP K.ps i).key 1 1073741824):=rfl
  have z1:¬0=m:=by omega
  try simp (disch:=omega) only [go_sem,jF,jG,jH,↓reduceIte,iI,hg,Option.map_some,aV,rn]
  refine ⟨by omega,by omega,?_⟩
  refine ab (bX _ _ _) (by simp [go_sem]) ?_
  cases k1:iq (gP K.ps i).id 1 1073741824
  ·try simp (disch:=omega) only [go_sem,jF,↓reduceIte]
   exact hno (by rw [hok,k1]; rfl)
  try simp (disch:=omega) only [go_sem,jF,↓reduceIte]
  refine bB rfl (fun hp=>?_) (fun hp=>?_)
  ·have hgp:=hgq (by omega)
   have ei:((i:Int)-1).toNat=i-1:=by omega
   try simp (disch:=omega) only [go_sem,jF,jH,↓reduceIte,jO,h0,g0,z1,ei,iI,hgp,Option.map_some,aV,rn]
   refine ⟨by omega,by omega,?_⟩
   refine bF rfl (fun hq=>?_) (fun hq=>?_) <;> try simp (disch:=omega) only [go_sem,jF,jG,jH,↓reduceIte]
   ·exact hno (by rw [hok]; simp [hq]; omega)
   refine ab (bX _ _ _) (by simp [go_sem]) ?_
   cases k3:iq (gP K.ps i).role 1 9
   ·try simp (disch:=omega) only [go_sem,jF,↓reduceIte]
    exact hno (by rw [hok,k3]; simp)
   try simp (disch:=omega) only [go_sem,jF,jG,jH,↓reduceIte]
   refine ab (bX _ _ _) (by simp [go_sem]) ?_
   cases k4:iq (gP K.ps i).key 1 1073741824
   ·try simp (disch:=omega) only [go_sem,jF,↓reduceIte]
    exact hno (by rw [hok,k4]; simp)
   try simp (disch:=omega) only [go_sem,jF,↓reduceIte,jO]
   refine aG (m+1) hil (by omega) ⟨(by first | rfl | (simp (disch:=omega) only [go_sem,jA,jB,jC,jD,jE,jF,jG,jH,jI,jJ,↓reduceIte,reduceCtorEq,jP,jO,jM,jN]; try rfl)),by simp only [St.aD]; omega,?_,fJ hall (by rw [hok,k1,k3,k4]; simp [hq])⟩
   rw [aX (by omega),aa _ _ _ _ (by omega),aa _ _ _ _ (by omega)]; exact h0
  ·try simp (disch:=omega) only [go_sem,jF,jG,jH,↓reduceIte]
   refine ab (bX _ _ _) (by simp [go_sem]) ?_
   cases k3:iq (gP K.ps i).role 1 9
   ·try simp (disch:=omega) only [go_sem,jF,↓reduceIte]
    exact hno (by rw [hok,k3]; simp)
   try simp (disch:=omega) only [go_sem,jF,jG,jH,↓reduceIte]
   refine ab (bX _ _ _) (by simp [go_sem]) ?_
   cases k4:iq (gP K.ps i).key 1 1073741824
   ·try simp (disch:=omega) only [go_sem,jF,↓reduceIte]
    exact hno (by rw [hok,k4]; simp)
   try simp (disch:=omega) only [go_sem,jF,↓reduceIte,jO]
   refine aG (m+1) hil (by omega) ⟨(by first | rfl | (simp (disch:=omega) only [go_sem,jA,jB,jC,jD,jE,jF,jG,jH,jI,jJ,↓reduceIte,reduceCtorEq,jP,jO,jM,jN]; try rfl)),by simp only [St.aD]; omega,?_,fJ hall (by rw [hok,k1,k3,k4]; simp; omega)⟩
   rw [aX (by omega),aa _ _ _ _ (by omega),aa _ _ _ _ (by omega)]; exact h0
 obtain rfl:i=K.ps.length:=by omega
 rw [hall,Bool.true_and] at hC
 clear h26 hge
 try simp (disch:=omega) only [go_sem,jF,jG,jH,↓reduceIte,h0,g2,aS]
 refine aW [2,5,6,67,68,69,70,71,72,73,74,75,76,77,78,79,80,81,82,83,84,85,86,87,88,89,90,91,92,93,94,95,96,97,98,99,100,101] (by kernel_rfl) K.ds.length (fun i e σ=>e 67=.int .i64 i∧1≤σ.n∧σ.ob 0=some ⟨0,3,44,false,true,[bM K]⟩∧(List.range i).all (E3 K)=true) ?_ ?_
 ·exact ⟨(by first | rfl | (simp (disch:=omega) only [go_sem,jA,jB,jC,jD,jE,jF,jG,jH,jI,jJ,↓reduceIte,reduceCtorEq,jP,jO,jM,jN]; try rfl)),hm1,h0,rfl⟩
 clear h0 hm1 hm
 rintro i fe2 ob2 m2 c2 hi2 hm2 ⟨h67,hm3,v0,hall2⟩
 simp (maxSteps:=1000000) only [go_sem,jF,↓reduceIte] at h67 hm2 hm3 v0
 try simp (disch:=omega) only [go_sem,jF,↓reduceIte,h67]
 refine ah (fun hlt=>?_) (fun hge=>?_)
 ·have hil:i<K.ds.length:=by omega
  have hg:=js hil
  have hgq:0<i→K.ds[i-1]?=some (gD K.ds (i-1)):=fun h=>js (by omega)
  have hno:E3 K i=false→∀ {σ:St},aw σ (.int .i64 50) (.int .i64 (o6 K)):=fun h σ=>no (by rw [hC,tX hil h])
  have hok:E3 K i=(iq (gD K.ds i).id 1 (K.nx-1)&&!(decide (0<i)&&decide ((gD K.ds i).id≤(gD K.ds (i-1)).id))&&gI K (gD K.ds i)):=rfl
  have z1:¬0=m2:=by omega
  have hnx:1≤K.nx∧K.nx≤1073741824:=by simpa [iq] using h2
  try simp (disch:=omega) only [go_sem,jF,jG,jH,↓reduceIte,jO,dS,hg,Option.map_some,aS,AG,DX,DZ,wR,wS,DY,CR,v0,z1,g1]
  refine ⟨by omega,by omega,?_⟩
  refine ab (bX _ _ _) (by simp [go_sem]) ?_
  cases k1:iq (gD K.ds i).id 1 (K.nx-1)
  ·try simp (disch:=omega) only [go_sem,jF,↓reduceIte]
   exact hno (by rw [hok,k1]; rfl)
  try simp (disch:=omega) only [go_sem,jF,↓reduceIte]
  refine bB rfl (fun hp=>?_) (fun hp=>?_)
  ·have hgp:=hgq (by omega)
   have ei:((i:Int)-1).toNat=i-1:=by omega
   try simp (disch:=omega) only [go_sem,jF,jG,jH,↓reduceIte,jO,v0,g2,z1,ei,dS,hgp,Option.map_some,aS,CR]
   refine ⟨by omega,by omega,?_⟩
   refine bF rfl (fun hq=>?_) (fun hq=>?_) <;> try simp (disch:=omega) only [go_sem,jF,jH,↓reduceIte,z1,v0,hKt,wR,wS]
   ·exact hno (by rw [hok]; simp [hq]; omega)
   refine ab (pW K (gD K.ds i) hl) (by simp [hKp,rb]) ?_
   cases k3:gI K (gD K.ds i)
   ·try simp (disch:=omega) only [go_sem,jF,↓reduceIte]
    exact hno (by rw [hok,k3]; simp)
   try simp (disch:=omega) only [go_sem,jF,↓reduceIte,jO]
   refine aG (m2+1) hil (by omega) ⟨(by first | rfl | (simp (disch:=omega) only [go_sem,jA,jB,jC,jD,jE,jF,jG,jH,jI,jJ,↓reduceIte,reduceCtorEq,jP,jO,jM,jN]; try rfl)),by simp only [St.aD]; omega,?_,fJ hall2 (by rw [hok,k1,k3]; simp [hq])⟩
   rw [aX (by omega),aa _ _ _ _ (by omega),aa _ _ _ _ (by omega)]; exact v0
  ·try simp (disch:=omega) only [go_sem,jF,jH,↓reduceIte,z1,v0,hKt,wR,wS]
   refine ab (pW K (gD K.ds i) hl) (by simp [hKp,rb]) ?_
   cases k3:gI K (gD K.ds i)
   ·try simp (disch:=omega) only [go_sem,jF,↓reduceIte]
    exact hno (by rw [hok,k3]; simp)
   try simp (disch:=omega) only [go_sem,jF,↓reduceIte,jO]
   refine aG (m2+1) hil (by omega) ⟨(by first | rfl | (simp (disch:=omega) only [go_sem,jA,jB,jC,jD,jE,jF,jG,jH,jI,jJ,↓reduceIte,reduceCtorEq,jP,jO,jM,jN]; try rfl)),by simp only [St.aD]; omega,?_,fJ hall2 (by rw [hok,k1,k3]; simp; omega)⟩
   rw [aX (by omega),aa _ _ _ _ (by omega),aa _ _ _ _ (by omega)]; exact v0
 obtain rfl:i=K.ds.length:=by omega
 try simp (disch:=omega) only [go_sem,↓reduceIte]
 exact aw.of_eq (by rw [o6,hC,hall2]; rfl) rfl
theorem ug (K:Dk) (id who code now kind:Int) (hl:K.ps.length≤9223372036854775807) (hl2:K.ds.length≤9223372036854775807) :
  PC prog E6 [bM K,.int .i64 id,.int .i64 who,.int .i64 code,.int .i64 now,.int .i64 kind] (.tuple [.int .i64 (bJ K id who code now kind).1,rn (bJ K id who code now kind).2.1,.int .i64 (bJ K id who code now kind).2.2]):=by
 refine ae FP (by simp) ?_
 simp only [xJ]
 have hK:(bM K).flat=true:=by simp [bM,go_sem]
 have hKc:(bM K).cells.length=3:=rfl
 have hKp:=eC K
 have hKt:AV.agg ((bM K).cells.take 3)=bM K:=rfl
 have hKd:AV.agg (((bM K).cells.drop 0).take 3)=bM K:=rfl
 have g2:(bM K).cells.getD 2 .bC=.list 7 (yz K.ds):=rfl
 have fin:∀ {σ:St} (i e:Int) (p:Pn),bJ K id who code now kind=(i,p,e)→aw σ (.tuple [.int .i64 i,rn p,.int .i64 e]) (.tuple [.int .i64 (bJ K id who code now kind).1,rn (bJ K id who code now kind).2.1,.int .i64 (bJ K id who code now kind).2.2]):=fun i e p h=>by
  rw [h]; exact aw.pure rfl
 try simp (disch:=omega) only [go_sem,jF,jG,jH,↓reduceIte,reduceCtorEq,hK,hKc,hKt]
 refine ab (kH K hl hl2) (by simp [hKp]) ?_
 rw [o6]
 cases hc:cd K
 ·try simp (disch:=omega) only [go_sem,jA,jF,jG,jH,↓reduceIte,reduceCtorEq]
  exact fin 0 50 Cw (by rw [bJ,if_pos hc])
 try simp (disch:=omega) only [go_sem,jF,jG,jH,↓reduceIte,reduceCtorEq,g2,aS]
 have hA:bJ K id who code now kind=rK K id who code now kind K.ds 0:=by rw [bJ,if_neg (by simp [hc])]
 refine aW [12,14,15,16,17,18,26,27,28,29,30,31,32,33,34,35,36,37,38,39,40,41,42,43,44,45,46,47,48,49,50,51,52,53,54,55,56,57,58,59,60,61,62,63] (by kernel_rfl) K.ds.length (fun i e σ=>e 26=.int .i64 i∧2≤σ.n∧σ.ob 0=some ⟨0,3,44,false,true,[bM K]⟩∧σ.ob 1=some ⟨1,3,131,false,true,[.agg [.int .i64 0,.int .i64 0,.int .i64 0]]⟩∧
  bJ K id who code now kind=rK K id who code now kind (K.ds.drop i) i) ?_ ?_
 ·exact ⟨(by first | rfl | (simp (disch:=omega) only [go_sem,jA,jB,jC,jD,jE,jF,jG,jH,jI,jJ,↓reduceIte,reduceCtorEq,jP,jO,jM,jN]; try rfl)),Nat.le_refl _,by try simp (disch:=omega) only [go_sem,↓reduceIte,reduceCtorEq],by try simp (disch:=omega) only [go_sem,↓reduceIte],hA⟩
 rintro i fe ob m c hi hm ⟨h26,hm1,v0,v1,hS⟩
 simp (maxSteps:=1000000) only [go_sem,jF,↓reduceIte] at h26 hm hm1 v0 v1
 try simp (disch:=omega) only [go_sem,jF,↓reduceIte,h26]
 refine ah (fun hlt=>?_) (fun hge=>?_)
 ·have hil:i<K.ds.length:=by omega
  have hg:K.ds[i]?=some K.ds[i]:=List.getElem?_eq_getElem hil
  rw [List.drop_eq_getElem_cons hil,rK] at hS
  generalize K.ds[i]=d at *
  have z0:¬0=m:=by omega
  have z1:¬1=m:=by omega
  try simp (disch:=omega) only [go_sem,jF,jH,↓reduceIte,reduceCtorEq,dS,hg,Option.map_some,aS,AG,DX,DZ,wR,wS,DY,CR]
  refine ⟨by omega,by omega,?_⟩
  refine aZ (fun k1=>?_) (fun k1=>?_)
  ·try simp (disch:=omega) only [go_sem,jF,↓reduceIte,jO]
   rw [if_pos k1] at hS
   refine aG (m+1) hil (by omega) ⟨(by first | rfl | (simp (disch:=omega) only [go_sem,jA,jB,jC,jD,jE,jF,jG,jH,jI,jJ,↓reduceIte,reduceCtorEq,jP,jO,jM,jN]; try rfl)),by simp only [St.aD]; omega,?_,?_,hS⟩
   ·rw [aX (by omega),aa _ _ _ _ (by omega),aa _ _ _ _ (by omega)]; exact v0
   ·rw [aX (by omega),aa _ _ _ _ (by omega),aa _ _ _ _ (by omega)]; exact v1
  rw [if_neg (by simpa using k1)] at hS
  try simp (disch:=omega) only [go_sem,jF,jG,jH,↓reduceIte,RE]
  have bad:∀ e,bJ K id who code now kind=(0,Cw,e)→True:=fun _ _=>trivial
  cases k2:d.wd
  ·try simp (disch:=omega) only [go_sem,jF,jG,jH,↓reduceIte,reduceCtorEq,RF]
   refine ah (fun k3=>?_) (fun k3=>?_)
   ·try simp (disch:=omega) only [go_sem,jF,jG,jH,↓reduceIte,v1,z1]
    rw [if_pos (.inr k3)] at hS
    exact fin 0 44 Cw hS
   rw [if_neg (by simp [k2]; omega)] at hS
   try simp (disch:=omega) only [go_sem,jF,jH,↓reduceIte,reduceCtorEq,v0,z0,hKt]
   refine ab (jl K who hl) (by simp [hKp,go_sem]) ?_
   try simp (disch:=omega) only [go_sem,jF,jG,jH,↓reduceIte,rn]
   cases k4:(cO K who).2
   ·try simp (disch:=omega) only [go_sem,jF,jG,jH,↓reduceIte,jM,v1,z1]
    rw [if_pos k4] at hS
    exact fin 0 11 Cw hS
   rw [if_neg (by simp [k4])] at hS
   have z2:¬m=m+1:=by omega
   try simp (disch:=omega) only [go_sem,jF,jG,jH,↓reduceIte,reduceCtorEq,z2,wR,wS]
   refine ab (mC (cO K who).1.key kind d) (by simp [rb,go_sem]) ?_
   try simp (disch:=omega) only [go_sem,jF,↓reduceIte]
   refine aZ (fun k5=>?_) (fun k5=>?_)
   ·try simp (disch:=omega) only [go_sem,jF,jG,jH,↓reduceIte,jM,v1,z1]
    rw [if_pos k5] at hS
    have z3:¬1=m+1:=by omega
    try simp (disch:=omega) only [go_sem,jA,jB,jC,jD,jE,jF,jG,jH,jI,jJ,↓reduceIte,reduceCtorEq,jO,jM,jN,jK,jL,v1,z1,z3]
    exact fin 0 43 Cw hS
   rw [if_neg (by simpa using k5)] at hS
   have z3:¬1=m+1:=by omega
   try simp (disch:=omega) only [go_sem,jF,jG,jH,↓reduceIte,reduceCtorEq,v1,z1,z3]
   exact fin i 0 (cO K who).1 hS
  ·try simp (disch:=omega) only [go_sem,jF,jG,jH,↓reduceIte,v1,z1]
   rw [if_pos (.inl k2)] at hS
   exact fin 0 44 Cw hS
 obtain rfl:i=K.ds.length:=by omega
 rw [List.drop_length,rK] at hS
 try simp (disch:=omega) only [go_sem,jF,jG,jH,↓reduceIte,v1]
 exact fin 0 9 Cw hS
abbrev QX:TypeId:=131
abbrev HR:TypeId:=28
abbrev Le:TypeId:=3
def cA (l:List Dv) (Es:List AV):List AV:=List.zipWith jc l Es
theorem re {l:List Dv} {Cs:List AV} {w:Dv} {E:AV} (h:l.length=Cs.length):cA (l++[w]) (Cs++[E])=cA l Cs++[jc w E]:=by
 simp only [cA]; rw [List.zipWith_append h]; rfl
def lD (l:List Dv):List (List AV):=l.map fun d=>ints d.sg
def UT (σ:St) (K:Dk) (r:AV) (τ:St):Prop:=
 ∃ XP XA Fs l1,r=.agg [XP,.int .i64 K.nx,XA]∧σ.n≤l1∧l1≤τ.n∧cu 3 QX τ (pR K.ps) XP∧(∀ i,¬aY XP i→σ.n≤i∧i<l1)∧
  cu 7 HR τ (cA K.ds Fs) XA∧IC 1 Le τ Fs (lD K.ds)∧ID τ l1 XA Fs∧∀ i,i<σ.n→τ.ob i=σ.ob i
theorem iO (σ:St) (K:Dk) (h1:K.ps.length≤1000000) (h4:K.ds.length≤1000000) (h5:∀ d∈K.ds,d.sg.length≤1000000):HC prog uC [bM K] σ (UT σ K):=by
 obtain ⟨dH,n0,c0⟩:=σ
 refine aL vE (by simp) ?_
 simp only [vp,bM]
 try simp (disch:=omega) only [go_sem,jF,jG,jH,↓reduceIte,jM]
 refine cV (M:=pR K.ps) (b:=24) cu.nil (by simp [aV]; omega) (by simp [aV]; omega) fun XP τ hP kP=>?_
 obtain ⟨ob1,n1,c1⟩:=τ
 obtain ⟨k1,k2,k3⟩:=kP
 simp only [List.nil_append] at hP
 have k1':n0+1+1≤n1:=k1
 have u0:=k2 n0 (by simp only; omega) (aY.nil _)
 have u1:=k2 (n0+1) (by simp only; omega) (aY.nil _)
 try simp (disch:=omega) only [go_sem,↓reduceIte,jM] at u0
 try simp (disch:=omega) only [go_sem,↓reduceIte] at u1
 try simp (disch:=omega) only [go_sem,jF,jG,jH,↓reduceIte,u0,hP.flat,hP.cells,aS]
 refine aW [3,5,13,14,15,16,17,18,19,20,21,22,23,24,25] (by kernel_rfl) K.ds.length (fun k e σ=>e 13=.int .i64 k∧n1≤σ.n∧(∀ i,i<n1→i≠n0→σ.ob i=ob1 i)∧σ.ob n0=some ⟨c0,3,44,false,true,[.agg [XP,.int .i64 K.nx,.list 7 (yz K.ds)]]⟩∧
  ∃ Y Fs,At e 3 Y∧cu 7 HR σ (cA (K.ds.take k) Fs) Y∧IC 1 Le σ Fs (lD (K.ds.take k))∧ID σ n1 Y Fs) ?_ ?_
 ·exact ⟨(by first | rfl | (simp (disch:=omega) only [go_sem,jA,jB,jC,jD,jE,jF,jG,jH,jI,jJ,↓reduceIte,reduceCtorEq,jP,jO,jM,jN]; try rfl)),Nat.le_refl _,fun i hi hne=>aa _ _ _ _ hne,by try simp (disch:=omega) only [go_sem,↓reduceIte],.nil,[],(by simp only [At]; try simp (disch:=omega) only [go_sem,jF,↓reduceIte]),by simp [cA]; exact cu.nil,IC.nil _ _ _,ID.nil _ _⟩
 rintro k fe ob m c hk hm ⟨h13,hm1,ho,hb,Y,Fs,h3,hY,hJ,hH⟩
 simp (maxSteps:=1000000) only [go_sem,jF,↓reduceIte,At] at h13 hm hm1 ho hb h3
 try simp (disch:=omega) only [go_sem,jF,↓reduceIte,h13]
 refine ah (fun hlt=>?_) (fun hge=>?_)
 ·have hkl:k<K.ds.length:=by omega
  have hk2:K.ds[k]?=some K.ds[k]:=List.getElem?_eq_getElem hkl
  have hxl:=h5 _ (List.getElem_mem hkl)
  have htk:K.ds.take (k+1)=K.ds.take k++[K.ds[k]]:=dX _ _ hkl
  have hEl:Fs.length=k:=by have:=hJ.1; simp [lD] at this; omega
  generalize K.ds[k]=w at *
  try simp (disch:=omega) only [go_sem,jF,jG,jH,↓reduceIte,aS,dS,hk2,Option.map_some,gF,jc]
  refine ⟨by omega,by omega,?_⟩
  refine cV (M:=ints w.sg) (b:=8) cu.nil (by simp [au]; omega) (by simp [au]; omega) fun E τ1 hE kE=>?_
  obtain ⟨ob6,m6,c6⟩:=τ1
  obtain ⟨e1,e2,e3⟩:=kE
  simp only [List.nil_append] at hE
  have e1':m+1≤m6:=e1
  have e2':∀ i,i<m→ob6 i=ob i:=fun i hi=>(e2 i (by simp only; omega) (aY.nil _)).trans (by simp only; rw [aa _ _ _ _ (by omega),aa _ _ _ _ (by omega)])
  have e3':∀ i,i<m+1→aY E i:=fun i hi=>e3 i hi (aY.nil _)
  have hw6:=e2 m (by simp only; omega) (aY.nil _)
  simp only [az] at hw6
  clear u1 k2 k3 k1 e1 e2 e3
  have z3:¬m=n0:=by omega
  have z5:¬m=m6:=by omega
  have oY:∀ i,i<n1→aY Y i:=fun i hi=>aY.em fun h=>by have:=(hH.low i h).1; omega
  have oYm:∀ i,m≤i→aY Y i:=fun i hi=>hY.H2 hi
  try simp (disch:=omega) only [go_sem,jF,jG,jH,↓reduceIte,hE.flat,hE.cells,hE.one,hw6,h3]
  refine xq (ER.dv (L:=[jc w E]) (az _ _ _) (Nat.lt_succ_self _)) ?_
  have hYl:(cA (K.ds.take k) Fs).length≤1000000:=by simp [cA]; omega
  refine bH (b:=72) (hY.move (by simp only; omega) fun i hi hh=>?_) (by omega) (by omega) fun Y' τ2 hY2 kY=>?_
  ·simp only at hi ⊢
   rw [aa _ _ _ _ (by omega),aa _ _ _ _ (by omega),e2' i hi]
  obtain ⟨ob7,m7,c7⟩:=τ2
  have q1:m6+1≤m7:=kY.1
  have q2:∀ i,i<m→aY Y i→ob7 i=ob i:=fun i hi h=>(kY.2.1 i (by simp only; omega) h).trans (by simp only; rw [aa _ _ _ _ (by omega),aa _ _ _ _ (by omega),e2' i hi])
  have q3:∀ i,m+1≤i→i<m6→ob7 i=ob6 i:=fun i hi hi2=>(kY.2.1 i (by simp only; omega) (oYm i (by omega))).trans (by simp only; rw [aa _ _ _ _ (by omega),aa _ _ _ _ (by omega)])
  have hEi:∀ i,¬aY E i→m+1≤i∧i<m6:=fun i hi=>⟨Nat.le_of_not_lt fun h=>hi (e3' i h),hE.lt hi⟩
  try simp (disch:=omega) only [go_sem,jF,↓reduceIte,jO]
  refine aG m7 hkl (by omega) ⟨(by first | rfl | (simp (disch:=omega) only [go_sem,jA,jB,jC,jD,jE,jF,jG,jH,jI,jJ,↓reduceIte,reduceCtorEq,jP,jO,jM,jN]; try rfl)),by simp only [St.aD]; omega,fun i hi hne=>?_,?_,Y',Fs++[E],(by simp only [At]; try simp (disch:=omega) only [go_sem,jF,↓reduceIte]),?_,?_,?_⟩
  ·rw [aX (by omega),q2 i (by omega) (oY i hi)]; exact ho i hi hne
  ·rw [aX (by omega),q2 n0 (by omega) (oY n0 (by omega))]; exact hb
  ·rw [htk,re (by simp; omega)]
   exact hY2.tr
  ·rw [htk,show lD (K.ds.take k++[w])=lD (K.ds.take k)++[ints w.sg] by simp [lD]]
   refine IC.snoc (hJ.move (by simp only [St.aD]; omega) fun F hF2 i hi hlt=>?_) (hE.move (by simp only [St.aD]; omega) fun i hlt hi=>?_)
   ·have hi1:=(hH.Ff F hF2 i hi).1
    simp only at hlt
    rw [aX (by omega),q2 i hlt (hH.sep F hF2 i hi)]
   ·have hi1:=hEi i hi
    rw [aX (by omega),q3 i hi1.1 hi1.2]
  ·exact (hH.snoc (by simp only; omega) (show m≤m6+1 by omega) (fun i hi=>⟨by have:=(hEi i hi).1; simp only; omega,by have:=(hEi i hi).2; simp only; omega⟩) kY fun i hi=>hY2.H2 hi).up (Nat.le_refl _)
 obtain rfl:k=K.ds.length:=by omega
 rw [List.take_length] at hY hJ
 have u1':ob (n0+1)=some ⟨c0+1,3,44,false,true,[.agg [.nil,.int .i64 0,.nil]]⟩:=by rw [ho _ (by omega) (by omega),u1]
 have zz:¬n0+1=n0:=by omega
 have zz2:¬n0=n0+1:=by omega
 try simp (disch:=omega) only [go_sem,jF,jG,jH,↓reduceIte,hb,u1',zz,h3,hY.flat,hY.cells,hY.one,hP.one]
 have k3':∀ i,¬aY XP i→n0+2≤i:=fun i hi=>Nat.le_of_not_lt fun h=>hi (k3 i h (aY.nil _))
 have z3:∀ (x y:Option aU) i,i≠n0→i≠n0+1→bd (bd ob n0 x) (n0+1) y i=ob i:=fun x y i h1 h2=>by rw [aa _ _ _ _ h2,aa _ _ _ _ h1]
 refine ⟨XP,Y,Fs,n1,rfl,by simp only; omega,hm1,hP.move hm1 fun i hi hh=>?_,fun i hi=>⟨by have:=k3' i hi; simp only; omega,hP.lt hi⟩,hY.move (Nat.le_refl _) fun i hi hh=>?_,hJ.move (Nat.le_refl _) fun E hE i hi hh=>?_,hH.up (Nat.le_refl _),fun i hi=>?_⟩
 ·have h1:=k3' i hh
  simp only at hi ⊢
  rw [z3 _ _ i (by omega) (by omega),ho i hi (by omega)]
 ·have h1:=(hH.low i hh).1
  simp only
  rw [z3 _ _ i (by omega) (by omega)]
 ·have h1:=(hH.Ff E hE i hi).1
  simp only
  rw [z3 _ _ i (by omega) (by omega)]
 ·simp only at hi ⊢
  rw [z3 _ _ i (by omega) (by omega),ho i (by omega) (by omega)]
  refine (k2 i (by simp only; omega) (aY.nil _)).trans ?_
  simp only
  rw [aa _ _ _ _ (by omega),aa _ _ _ _ (by omega)]
theorem pQ {σ:St} {ps:List Pn} {ds:List Dv} {n:Int} {XP XA:AV} {Fs:List AV} (hP:cu 3 QX σ (pR ps) XP) (hA:cu 7 HR σ (cA ds Fs) XA) (hI:IC 1 Le σ Fs (lD ds)):aw σ (.agg [XP,.int .i64 n,XA]) (bM ⟨ps,n,ds⟩):=by
 have hl:Fs.length=ds.length:=by have:=hI.1; simpa [lD] using this
 refine aw.ag (.cons (hP.mU (fun _ _ _=>rfl) (Dm _) (Gn _)) (.cons (aw.e rfl) (.cons (LC hA (fun _ _ _=>rfl) (by simp [cA,yz,hl]) (fun i x y hx hy=>?_) (JU _)) .nil)))
 rw [dS] at hy
 obtain ⟨d,hd,rfl⟩:=Option.map_eq_some_iff.1 hy
 simp only [cA,List.getElem?_zipWith,hd] at hx
 cases hF:Fs[i]? with
 | none=>simp [hF] at hx
 | some E=>
  simp only [hF,Option.some.injEq] at hx
  subst hx
  have hp:=hI.mU (τ:=σ) (fun _ _ _ _ _=>rfl) (by simp [lD]; intro a _; exact dC _) (by simp [lD]; intro a _; exact iN _) i E (ints d.sg) hF (by simp [lD,hd])
  exact aw.ag (.cons (aw.e rfl) (.cons (aw.e rfl) (.cons (aw.e rfl) (.cons (aw.e rfl) (.cons (aw.e rfl) (.cons hp (.cons (aw.e rfl) .nil)))))))
structure Bg (K:Dk):Prop where
 lp:K.ps.length≤12
 ld:K.ds.length≤64
 ip:∀ p∈K.ps,0≤p.id∧p.id≤1073741824
 kd:∀ d∈K.ds,0≤d.id∧d.id≤1073741824∧d.sg.length≤2
theorem uV:Bg uW:=⟨by simp [uW],by simp [uW],by simp [uW],by simp [uW]⟩
theorem gb {K:Dk} (h:cd K=true):1≤K.nx∧K.nx≤1073741824∧K.ps.length≤12∧K.ds.length≤64:=by
 simp only [cd,Bool.and_eq_true,iq,decide_eq_true_eq] at h
 exact ⟨h.1.1.1.2.1,h.1.1.1.2.2,h.1.1.1.1,h.1.1.2⟩
structure IH (K:Dk):Prop where
 lp:K.ps.length≤9223372036854775807
 ld:K.ds.length≤9223372036854775807
theorem Bg.s {K:Dk} (h:Bg K):IH K:=⟨by have:=h.lp; omega,by have:=h.ld; omega⟩
theorem J0 {K:Dk} (h:cd K=true) {d:Dv} (hd:d∈K.ds):gI K d=true:=by
 obtain ⟨i,hi⟩:=List.getElem?_of_mem hd
 have hil:=(List.getElem?_eq_some_iff.1 hi).1
 simp only [cd,Bool.and_eq_true,List.all_eq_true,List.mem_range] at h
 have h1:=h.2 i hil
 simp only [E3,Bool.and_eq_true] at h1
 rw [js hil] at hi
 obtain rfl:=Option.some.inj hi
 exact h1.2
theorem fZ {K:Dk} (h:cd K=true) {d:Dv} (hd:d∈K.ds):d.sg.length≤2:=by
 have h1:=J0 h hd
 simp only [gI,Bool.and_eq_true,decide_eq_true_eq] at h1
 exact h1.1.1.2
theorem OC {K:Dk} (h:Bg K) (site fr to rel:Int):Bg (bQ K site fr to rel).1:=by
 unfold bQ
 cases hc:cd K
 ·simp only [if_true]; exact uV
 have h1:=gb hc
 simp only [Bool.true_eq_false,if_false]
 split
 ·exact uV
 split
 ·exact uV
 split
 ·exact uV
 split
 ·exact uV
 ·rename_i hn
  refine ⟨h.lp,by simp; omega,h.ip,fun d hd=>?_⟩
  rcases List.mem_append.1 hd with hd | hd
  ·exact h.kd d hd
  ·obtain rfl:d=_:=by simpa using hd
   exact ⟨by simp only; omega,by simp only; omega,by simp⟩
theorem IX {K:Dk} (h:Bg K) {i:Nat} {d:Dv} (hd:0≤d.id∧d.id≤1073741824∧d.sg.length≤2):Bg ⟨K.ps,K.nx,K.ds.set i d⟩:=
 ⟨h.lp,by simpa using h.ld,h.ip,fun e he=>by
  rcases List.mem_or_eq_of_mem_set he with he | rfl
  ·exact h.kd e he
  ·exact hd⟩
theorem JH {K:Dk} (h:Bg K) (i:Nat):0≤(gD K.ds i).id∧(gD K.ds i).id≤1073741824∧(gD K.ds i).sg.length≤2:=by
 by_cases hi:i<K.ds.length
 ·exact h.kd _ (List.mem_of_getElem? (js hi))
 ·have:gD K.ds i=default:=by rw [gD,List.getD_eq_getElem?_getD,List.getElem?_eq_none (by omega)]; rfl
  rw [this]; simp [default,instInhabitedDv.default]
theorem IV {K:Dk} (h:Bg K) (id who code now:Int):Bg (jZ K id who code now).1:=by
 simp only [jZ]
 split
 ·exact uV
 split
 ·exact uV
 split
 ·exact uV
 ·rename_i h1 h2 _
  have hg:=JH h (bJ K id who code now 1).1.toNat
  exact IX h ⟨hg.1,hg.2.1,by simp; omega⟩
theorem Nn {K:Dk} (h:Bg K) (id who code now:Int):Bg (ki K id who code now).1:=by
 simp only [ki]
 split
 ·exact uV
 ·have hg:=JH h (bJ K id who code now 2).1.toNat
  exact IX h ⟨hg.1,hg.2.1,hg.2.2⟩
theorem dh (K:Dk):(bM K).flat=true:=by simp [bM,go_sem]
theorem dB (K:Dk):(bM K).cells.length=3:=rfl
theorem iA (K:Dk):AV.agg ((bM K).cells.take 3)=bM K:=rfl
theorem TN (K:Dk):AV.agg (((bM K).cells.drop 0).take 3)=bM K:=rfl
theorem JW (K:Dk):(bM K).cells.getD 0 .bC=.list 3 (pR K.ps):=rfl
theorem HD (K:Dk):(bM K).cells.getD 1 .bC=.int .i64 K.nx:=rfl
theorem Fx (K:Dk):(bM K).cells.getD 2 .bC=.list 7 (yz K.ds):=rfl
theorem GM (K:Dk) (a b c:AV):gH 0 (.agg [a,b,c]) (bM K)=.agg [a,b,c]:=rfl
theorem eZ {σ:St}:aw σ (.agg [.nil,.int .i64 0,.nil]) (bM uW):=aw.ag (.cons (.nl 3) (.cons (aw.e rfl) (.cons (.nl 7) .nil)))
theorem lY (K:Dk) (hB:IH K) (site fr to rel:Int):PC prog oU [bM K,.int .i64 site,.int .i64 fr,.int .i64 to,.int .i64 rel] (.tuple [bM (bQ K site fr to rel).1,.int .i64 (bQ K site fr to rel).2.1,.int .i64 (bQ K site fr to rel).2.2]):=by
 have hlp:=hB.lp
 have hld:=hB.ld
 refine ae yI (by simp) ?_
 simp only [pn]
 have hKp:=eC K
 have bad:∀ {σ:St} (e:Int),bQ K site fr to rel=(uW,0,e)→aw σ (.tuple [.agg [.nil,.int .i64 0,.nil],.int .i64 0,.int .i64 e]) (.tuple [bM (bQ K site fr to rel).1,.int .i64 (bQ K site fr to rel).2.1,.int .i64 (bQ K site fr to rel).2.2]):=fun e h=>by
  rw [h]; exact aw.tu (.cons eZ (.cons (aw.e rfl) (.cons (aw.e rfl) .nil)))
 try simp (disch:=omega) only [go_sem,jF,jG,jH,↓reduceIte,reduceCtorEq,dh,dB,iA]
 refine ab (kH K (by omega) (by omega)) (by simp [hKp]) ?_
 rw [o6]
 cases hc:cd K
 ·try simp (disch:=omega) only [go_sem,jA,jF,jG,jH,↓reduceIte,reduceCtorEq]
  exact bad 50 (by rw [bQ,if_pos hc])
 try simp (disch:=omega) only [go_sem,jF,↓reduceIte,reduceCtorEq]
 refine ab (bX _ _ _) (by simp [go_sem]) ?_
 cases h2:iq site 0 5
 ·try simp (disch:=omega) only [go_sem,jF,jG,jH,↓reduceIte]
  exact bad 40 (by rw [bQ,if_neg (by simp [hc]),if_pos h2])
 try simp (disch:=omega) only [go_sem,jF,↓reduceIte,reduceCtorEq]
 refine bF rfl (fun h3=>?_) (fun h3=>?_) <;> try simp (disch:=omega) only [go_sem,jF,jG,jH,↓reduceIte,reduceCtorEq]
 ·exact bad 6 (by rw [bQ,if_neg (by simp [hc]),if_neg (by simp [h2]),if_pos (.inl h3)])
 refine bF rfl (fun h4=>?_) (fun h4=>?_) <;> try simp (disch:=omega) only [go_sem,jF,jG,jH,↓reduceIte,reduceCtorEq]
 ·exact bad 6 (by rw [bQ,if_neg (by simp [hc]),if_neg (by simp [h2]),if_pos (.inr (.inl h4))])
 refine ah (fun h5=>?_) (fun h5=>?_) <;> try simp (disch:=omega) only [go_sem,jF,jG,jH,↓reduceIte,reduceCtorEq]
 ·exact bad 6 (by rw [bQ,if_neg (by simp [hc]),if_neg (by simp [h2]),if_pos (.inr (.inr h5))])
 refine ab (bX _ _ _) (by simp [go_sem]) ?_
 cases h6:iq rel 0 1073741824
 ·try simp (disch:=omega) only [go_sem,jF,jG,jH,↓reduceIte]
  exact bad 1 (by rw [bQ,if_neg (by simp [hc]),if_neg (by simp [h2]),if_neg (by omega),if_pos h6])
 try simp (disch:=omega) only [go_sem,jF,jG,jH,↓reduceIte,reduceCtorEq,Fx,aS]
 refine bF rfl (fun h7=>?_) (fun h7=>?_) <;> try simp (disch:=omega) only [go_sem,jF,jG,jH,↓reduceIte,reduceCtorEq,HD]
 ·exact bad 10 (by rw [bQ,if_neg (by simp [hc]),if_neg (by simp [h2]),if_neg (by omega),if_neg (by simp [h6]),if_pos (.inl (by omega))])
 refine ah (fun h8=>?_) (fun h8=>?_) <;> try simp (disch:=omega) only [go_sem,jF,jG,jH,↓reduceIte,reduceCtorEq]
 ·exact bad 10 (by rw [bQ,if_neg (by simp [hc]),if_neg (by simp [h2]),if_neg (by omega),if_neg (by simp [h6]),if_pos (.inr h8)])
 try simp (disch:=omega) only [go_sem,iA]
 have hS:bQ K site fr to rel=(⟨K.ps,K.nx+1,K.ds++[⟨K.nx,site,fr,to,rel,[],false⟩]⟩,K.nx,0):=by
  rw [bQ,if_neg (by simp [hc]),if_neg (by simp [h2]),if_neg (by omega),if_neg (by simp [h6]),if_neg (by omega)]
 have hnx:=gb hc
 refine (iO _ K (by omega) (by omega) fun d hd=>by have:=fZ hc hd; omega).mono ?_
 rintro r ⟨ob1,n1,c1⟩ ⟨XP,XA,Fs,l1,rfl,hl1,hl2,hP,hPl,hA,hI,hG,hfr⟩
 simp only at hl1 hl2 hPl hfr
 have u0:=hfr 0 (by omega)
 have u1:=hfr 1 (by omega)
 try simp (disch:=omega) only [go_sem,↓reduceIte,reduceCtorEq] at u0
 try simp (disch:=omega) only [go_sem,↓reduceIte] at u1
 try simp (disch:=omega) only [go_sem,jF,jG,jH,↓reduceIte,reduceCtorEq,u0,hP.one,hA.one,GM]
 have hXl:(cA K.ds Fs).length≤64:=by simp [cA]; omega
 have hFl:Fs.length=K.ds.length:=by have:=hI.1; simpa [lD] using this
 refine bH (b:=72) (hA.move (τ:=⟨_,n1,c1⟩) (Nat.le_refl _) fun i hi hh=>?_) (by omega) (by omega) fun X' τ2 hX2 kX=>?_
 ·have:=(hG.low i hh).1
  simp only
  rw [aa _ _ _ _ (by omega)]
 obtain ⟨ob3,m3,c3⟩:=τ2
 have oX:∀ i,i<l1→aY XA i:=fun i hi=>aY.em fun h=>by have:=(hG.low i h).1; omega
 have q0:=kX.2.1 0 (by simp only; omega) (oX 0 (by omega))
 have q1:=kX.2.1 1 (by simp only; omega) (oX 1 (by omega))
 have q2:∀ i,2≤i→i<n1→aY XA i→ob3 i=ob1 i:=fun i h2 hi ho=>(kX.2.1 i hi ho).trans (by simp only; rw [aa _ _ _ _ (by omega)])
 have hn3:n1≤m3:=kX.1
 try simp (disch:=omega) only [go_sem,↓reduceIte] at q0
 try simp (disch:=omega) only [go_sem,↓reduceIte,reduceCtorEq,u1] at q1
 have zm:∀ (x y z:Option aU) i,2≤i→bd (bd (bd ob3 0 x) 0 y) 1 z i=ob3 i:=fun x y z i h=>by rw [aa _ _ _ _ (by omega),aa _ _ _ _ (by omega),aa _ _ _ _ (by omega)]
 try simp (disch:=omega) only [go_sem,jF,jG,jH,↓reduceIte,reduceCtorEq,jO,q0,q1,hP.one,hX2.flat,hX2.cells,hX2.one]
 rw [hS]
 have oX2:∀ i,i<l1→aY X' i:=fun i hi=>kX.2.2 i (by simp only; omega) (oX i hi)
 have hX3:cu 7 HR ⟨ob3,m3,c3⟩ (cA (K.ds++[⟨K.nx,site,fr,to,rel,[],false⟩]) (Fs++[.nil])) X':=by rw [re (by omega)]; exact hX2
 refine aw.tu (.cons (pQ (hP.move hn3 fun i hi hh=>?_) (hX3.move (Nat.le_refl _) fun i hi hh=>?_) ?_) (.cons (by rw [show K.nx+1-1=K.nx by omega]; exact aw.e rfl) (.cons (aw.e rfl) .nil)))
 ·have h9:=hPl i hh
  simp only
  rw [zm _ _ _ i h9.1,q2 i h9.1 hi (oX i h9.2)]
 ·have h9:2≤i:=Nat.le_of_not_lt fun h=>hh (oX2 i (by omega))
  simp only
  rw [zm _ _ _ i h9]
 ·rw [show lD (K.ds++[⟨K.nx,site,fr,to,rel,[],false⟩])=lD K.ds++[ints []] by simp [lD]]
  refine IC.snoc (hI.move hn3 fun E hE i hi hlt=>?_) cu.nil
  have h9:=(hG.Ff E hE i hi).1
  simp only
  rw [zm _ _ _ i (by omega),q2 i (by omega) hlt (hG.sep E hE i hi)]
theorem wi (K:Dk) (hB:Bg K) (site fr to rel:Int):PC prog oU [bM K,.int .i64 site,.int .i64 fr,.int .i64 to,.int .i64 rel] (.tuple [bM (bQ K site fr to rel).1,.int .i64 (bQ K site fr to rel).2.1,.int .i64 (bQ K site fr to rel).2.2]):=lY K hB.s site fr to rel
def Pe (l:List Pn):Prop:=∀ p∈l,0≤p.id∧p.id≤1000∧0≤p.key∧p.key≤1000
def Iz (l:List Pn):Prop:=∀ i,i<l.length→F6 ⟨l,1,[]⟩ i=true
theorem JF {l:List Pn} {d:Pn} {i:Nat}:gP (l++[d]) i=if i<l.length then gP l i else if i=l.length then d else default:=by
 rw [gP,gP,List.getD_eq_getElem?_getD,List.getD_eq_getElem?_getD]
 split
 ·rename_i h; rw [List.getElem?_append_left h]
 ·rename_i h
  split
  ·rename_i e; subst e; simp
  ·rename_i e; rw [List.getElem?_eq_none (by simp; omega)]; rfl
theorem Iz.snoc {l:List Pn} {p:Pn} (h:Iz l) (h1:∀ q∈l,q.id<p.id) (h2:1≤p.id∧p.id≤1073741824∧1≤p.role∧p.role≤9∧1≤p.key∧p.key≤1073741824):Iz (l++[p]):=fun i hi=>by
 simp only [List.length_append,List.length_singleton] at hi
 by_cases e:i<l.length
 ·have:=h i e
  simp only [F6,JF,if_pos e,if_pos (show i-1<l.length by omega)] at this ⊢
  exact this
 ·have e':i=l.length:=by omega
  simp only [F6,JF,if_neg e,if_pos e',iq,Bool.and_eq_true,decide_eq_true_eq,Bool.not_eq_true',Bool.and_eq_false_iff,decide_eq_false_iff_not]
  refine ⟨⟨⟨by omega,?_⟩,by omega⟩,by omega⟩
  by_cases h0:0<i
  ·right
   rw [if_pos (by omega)]
   have:=h1 _ (List.mem_of_getElem? (wL (l:=l) (i:=i-1) (by omega)))
   omega
  ·exact .inl h0
theorem oZ (σ:St) (id g:Nat) (t:List Int) (at':Nat) (hl:t.length≤9223372036854775807) (hid:id<σ.n) (hob:σ.ob id=some ⟨g,2,aA,false,true,[bA t at']⟩) :
  HC prog rY [.ptr id g 2 0 0] σ (ej σ id g t fun r=>∃ l,r=.list 3 (pR l)∧l.length≤5∧Pe l∧Iz l):=by
 refine HC.wU hid ?_
 obtain ⟨dH,n0,c0⟩:=σ
 simp only at hob hid
 refine aL Cd (by simp) ?_
 simp only [sM]
 try simp (disch:=omega) only [go_sem,↓reduceIte,reduceCtorEq]
 refine aM (ai _ id g aA true t at' 5 (by exact hob) (by omega) hl) ?_
 have hx1:=aI t at' 5
 generalize bf t at' 5=dr at *
 obtain ⟨x0,at0⟩:=dr
 simp only at hx1
 try simp (disch:=omega) only [go_sem,↓reduceIte]
 obtain ⟨K,hK⟩:∃ K:Nat,(K:Int)=x0∧K≤4:=⟨x0.toNat,by omega,by omega⟩
 obtain ⟨rfl,hK⟩:=hK
 refine aW [3,4,5,8,9,10,11,12,13,14,15,16,17,18,19,20,21,22,23,24,25,26,27] (by kernel_rfl) (K+1) (fun k e σ=>e 5=.int .i64 ((K:Int)-k)∧n0≤σ.n∧(∃ a,σ.ob id=some ⟨g,2,aA,false,true,[bA t a]⟩)∧(∀ i,i<n0→i≠id→σ.ob i=dH i)∧∃ y,e 4=.int .i64 y∧0≤y∧y≤3 * k∧
   ∃ l X,At e 3 X∧l.length=k∧Pe l∧(Iz l∧∀ q∈l,q.id≤y)∧cu 3 131 σ (pR l) X∧∀ i,i<n0→aY X i) ?_ ?_
 ·exact ⟨(by first | rfl | (simp (disch:=omega) only [go_sem,jA,jB,jC,jD,jE,jF,jG,jH,jI,jJ,↓reduceIte,reduceCtorEq,jP,jO,jM,jN]; try rfl)),Nat.le_refl _,⟨at0,by try simp (disch:=omega) only [go_sem,↓reduceIte]⟩,fun i hi hne=>by simp only; rw [aa _ _ _ _ hne],0,(by first | rfl | (simp (disch:=omega) only [go_sem,jA,jB,jC,jD,jE,jF,jG,jH,jI,jJ,↓reduceIte,reduceCtorEq,jP,jO,jM,jN]; try rfl)),by omega,by omega,[],.nil,(by simp only [At]; try simp (disch:=omega) only [go_sem,jF,↓reduceIte]),rfl,fun p hp=>by simp at hp,⟨fun i hi=>by simp at hi,fun q hq=>by simp at hq⟩,cu.nil,fun i _=>aY.nil i⟩
 rintro k fe ob m c hk hm ⟨h5,hm1,⟨at3,hd⟩,hfr,y,h4,y0,y1,l,X,h3,hll,hB,hV,hX,ho⟩
 simp (maxSteps:=1000000) only [go_sem,jF,↓reduceIte,At] at h5 hm hm1 hd hfr h4 h3
 try simp (disch:=omega) only [go_sem,jF,↓reduceIte,h5]
 refine ah (fun hge=>?_) (fun hlt=>?_)
 ·have hkl:k<K+1:=by omega
  try simp (disch:=omega) only [go_sem,jF,↓reduceIte,reduceCtorEq]
  refine aM (ai _ id g aA true t at3 3 (by exact hd) (by omega) hl) ?_
  have hx2:=aI t at3 3
  generalize bf t at3 3=dr at *
  obtain ⟨x2,at4⟩:=dr
  simp only at hx2
  try simp (disch:=omega) only [go_sem,jF,↓reduceIte,reduceCtorEq,jO,h4,h3]
  refine aM (ai _ id g aA true t at4 3 (by try simp (disch:=omega) only [go_sem,↓reduceIte]) (by omega) hl) ?_
  have hx3:=aI t at4 3
  generalize bf t at4 3=dr at *
  obtain ⟨x3,at5⟩:=dr
  simp only at hx3
  try simp (disch:=omega) only [go_sem,↓reduceIte,reduceCtorEq,jO]
  refine aM (ai _ id g aA true t at5 1000 (by try simp (disch:=omega) only [go_sem,↓reduceIte]) (by omega) hl) ?_
  have hx4:=aI t at5 1000
  generalize bf t at5 1000=dr at *
  obtain ⟨x4,at6⟩:=dr
  simp only at hx4
  try simp (disch:=omega) only [go_sem,jF,jG,jH,↓reduceIte,jO,n8]
  refine bH (b:=24) (hX.move (by exact Nat.le_refl _) fun i hi hno=>?_) (by rw [aV]; omega) (by rw [aV]; omega) fun Y τ5 hR5 hK5=>?_
  ·simp only
   rw [aa _ _ _ _ fun e=>hno (by rw [e]; exact ho id hid)]
  obtain ⟨ob5,m5,c5⟩:=τ5
  have hn5:m≤m5:=hK5.1
  have f5:∀ i,i<n0→i≠id→ob5 i=ob i:=fun i hi hne=>(hK5.2.1 i (by simp only; omega) (ho i hi)).trans (aa _ _ _ _ hne)
  have d5:=(hK5.2.1 id (by simp only; omega) (ho id hid)).trans (az _ _ _)
  try simp (disch:=omega) only [go_sem,jF,↓reduceIte,jO]
  refine aG m5 hkl (by omega) ⟨by try simp (disch:=omega) only [go_sem,↓reduceIte]; congr 1; omega,by simp only [St.aD]; omega,⟨at6,by rw [aX (by omega)]; exact d5⟩,fun i hi hne=>by rw [aX (by omega),f5 i hi hne]; exact hfr i hi hne,y+(1+x2),(by first | rfl | (simp (disch:=omega) only [go_sem,jA,jB,jC,jD,jE,jF,jG,jH,jI,jJ,↓reduceIte,reduceCtorEq,jP,jO,jM,jN]; try rfl)),by omega,by omega,
   l++[⟨y+(1+x2),1+x3,1+x4⟩],Y,(by simp only [At]; try simp (disch:=omega) only [go_sem,jF,↓reduceIte]),by simp [hll],fun p hp=>?_,⟨hV.1.snoc (fun q hq=>by have:=hV.2 q hq; simp only; omega) (by simp only; omega),fun q hq=>?_⟩,?_,fun i hi=>hK5.2.2 i (by simp only; omega) (ho i hi)⟩
  ·rcases List.mem_append.1 hp with hp | hp
   ·exact hB p hp
   ·obtain rfl:p=_:=by simpa using hp
    simp only; omega
  ·rcases List.mem_append.1 hq with hq | hq
   ·have:=hV.2 q hq; omega
   ·obtain rfl:q=_:=by simpa using hq
    simp only; omega
  ·rw [show pR (l++[⟨y+(1+x2),1+x3,1+x4⟩])=pR l++[.agg [.int .i64 (y+(1+x2)),.int .i64 (1+x3),.int .i64 (1+x4)]] by simp [pR,rn]]
   exact hR5.tr
 obtain rfl:k=K+1:=by omega
 try simp (disch:=omega) only [go_sem,jF,↓reduceIte,h3]
 refine ⟨.list 3 (pR l),at3,?_,⟨l,rfl,by omega,hB,hV.1⟩,hd,hfr⟩
 exact hX.mU (fun i hi hh=>by simp only; rw [if_neg fun h=>hh (ho i h)]) (Dm _) (Gn _)
theorem JE (σ:St) (id g:Nat) (t:List Int) (at':Nat) (hl:t.length≤9223372036854775807) (hid:id<σ.n) (hob:σ.ob id=some ⟨g,2,aA,false,true,[bA t at']⟩) :
  HC prog rY [.ptr id g 2 0 0] σ (ej σ id g t fun r=>∃ l,r=.list 3 (pR l)∧l.length≤5∧Pe l):=
 (oZ σ id g t at' hl hid hob).mono fun _ _ h=>h.mono fun _ ⟨l,h1,h2,h3,_⟩=>⟨l,h1,h2,h3⟩
def SS (r:AV):Prop:=∃ a b c,r=.tuple [.int .i64 a,.int .i64 b,.int .i64 c]∧0≤a∧a≤1073741824∧0≤b∧b≤1073741824∧0≤c∧c≤4294967296
theorem FB:∀ (l:List Int) (c:Int),0≤c→c≤2147483647→0≤qw c l∧qw c l≤2147483647
 | [],c,h0,h1=>⟨h0,h1⟩
 | n :: l,c,h0,h1=>by
  have b1:=tJ n
  have b2:=mW (n.tmod 2147483647+2147483647) (by omega)
  have b3:=mW (31 * c+(n.tmod 2147483647+2147483647).tmod 2147483647) (by omega)
  rw [qw]
  exact FB l _ b3.1 (by omega)
theorem FA (key kind:Int) (d:Dv):0≤sk key kind d∧sk key kind d≤2147483647:=FB _ 7 (by omega) (by omega)
theorem kZ (σ:St) (id g:Nat) (t:List Int) (at':Nat) (K:Dk) (hB:Bg K) (now:Int) (hl:t.length≤9223372036854775807) (hid:id<σ.n) (hob:σ.ob id=some ⟨g,2,aA,false,true,[bA t at']⟩) :
  HC prog rW [.ptr id g 2 0 0,bM K,.int .i64 now] σ (ej σ id g t SS):=by
 refine HC.wU hid ?_
 obtain ⟨dH,n0,c0⟩:=σ
 simp only at hob hid
 refine aL sO (by simp) ?_
 simp only [mR]
 have z0:¬id=n0:=by omega
 have z1:¬n0=id:=by omega
 try simp (disch:=omega) only [go_sem,jF,jG,jH,↓reduceIte,reduceCtorEq,dh,dB,Fx,aS]
 have hlp:=hB.lp
 have hld:=hB.ld
 have fin:∀ (ob':Nat→Option aU) (c' m':Nat) (a b c:Int) (at2:Nat),ob' id=some ⟨g,2,aA,false,true,[bA t at2]⟩→(∀ i,i<n0→i≠id→ob' i=dH i)→(0≤a∧a≤1073741824∧0≤b∧b≤1073741824∧0≤c∧c≤4294967296)→
   C2 ⟨dH,n0,c0⟩ id g t SS (.tuple [.int .i64 a,.int .i64 b,.int .i64 c]) ⟨ob',m',c'⟩:=fun ob' c' m' a b c at2 h1 h2 h3=>⟨_,at2,.pure rfl,⟨a,b,c,rfl,h3⟩,h1,h2⟩
 refine bF rfl (fun g1=>?_) (fun g1=>?_) <;> try simp (disch:=omega) only [go_sem,jF,jH,↓reduceIte,reduceCtorEq,JW,aV]
 ·refine aM (ai _ id g aA true t at' 3 (by try simp (disch:=omega) only [go_sem,↓reduceIte,z0]; exact hob) (by omega) hl) ?_
  have hx1:=aI t at' 3
  generalize bf t at' 3=dr at *
  obtain ⟨x1,at1⟩:=dr
  simp only at hx1
  try simp (disch:=omega) only [go_sem,↓reduceIte,reduceCtorEq,jO]
  refine aM (ai _ id g aA true t at1 3 (by try simp (disch:=omega) only [go_sem,↓reduceIte]) (by omega) hl) ?_
  have hx2:=aI t at1 3
  generalize bf t at1 3=dr at *
  obtain ⟨x2,at2⟩:=dr
  simp only at hx2
  try simp (disch:=omega) only [go_sem,↓reduceIte,reduceCtorEq,jO]
  refine aM (ai _ id g aA true t at2 100 (by try simp (disch:=omega) only [go_sem,↓reduceIte]) (by omega) hl) ?_
  have hx3:=aI t at2 100
  generalize bf t at2 100=dr at *
  obtain ⟨x3,at3⟩:=dr
  simp only at hx3
  try simp (disch:=omega) only [go_sem,jF,↓reduceIte]
  exact fin _ _ _ _ _ _ at3 (by try simp (disch:=omega) only [go_sem,↓reduceIte]) (fun i hi hne=>by
   have j0:¬i=n0:=by omega
   try simp (disch:=omega) only [go_sem,↓reduceIte,j0,hne]) (by omega)
 refine ah (fun g2=>?_) (fun g2=>?_) <;> try simp (disch:=omega) only [go_sem,jF,jG,jH,↓reduceIte,reduceCtorEq]
 ·refine aM (ai _ id g aA true t at' 3 (by try simp (disch:=omega) only [go_sem,↓reduceIte,z0]; exact hob) (by omega) hl) ?_
  have hx1:=aI t at' 3
  generalize bf t at' 3=dr at *
  obtain ⟨x1,at1⟩:=dr
  simp only at hx1
  try simp (disch:=omega) only [go_sem,↓reduceIte,reduceCtorEq,jO]
  refine aM (ai _ id g aA true t at1 3 (by try simp (disch:=omega) only [go_sem,↓reduceIte]) (by omega) hl) ?_
  have hx2:=aI t at1 3
  generalize bf t at1 3=dr at *
  obtain ⟨x2,at2⟩:=dr
  simp only at hx2
  try simp (disch:=omega) only [go_sem,↓reduceIte,reduceCtorEq,jO]
  refine aM (ai _ id g aA true t at2 100 (by try simp (disch:=omega) only [go_sem,↓reduceIte]) (by omega) hl) ?_
  have hx3:=aI t at2 100
  generalize bf t at2 100=dr at *
  obtain ⟨x3,at3⟩:=dr
  simp only at hx3
  try simp (disch:=omega) only [go_sem,jF,↓reduceIte]
  exact fin _ _ _ _ _ _ at3 (by try simp (disch:=omega) only [go_sem,↓reduceIte]) (fun i hi hne=>by
   have j0:¬i=n0:=by omega
   try simp (disch:=omega) only [go_sem,↓reduceIte,j0,hne]) (by omega)
 try simp (disch:=omega) only [go_sem,jF,jG,jH,↓reduceIte,reduceCtorEq,Fx,aS]
 refine aM (ai _ id g aA true t at' K.ds.length (by try simp (disch:=omega) only [go_sem,↓reduceIte,z0]; exact hob) (by omega) hl) ?_
 have hx1:=aI t at' K.ds.length
 generalize bf t at' K.ds.length=dr at *
 obtain ⟨x1,at1⟩:=dr
 simp only at hx1
 obtain ⟨i1,hi1⟩:∃ i1:Nat,(i1:Int)=x1∧i1<K.ds.length:=⟨x1.toNat,by omega,by omega⟩
 obtain ⟨rfl,hi1⟩:=hi1
 have hg1:=js hi1
 have hd1:=JH hB i1
 generalize gD K.ds i1=d at *
 try simp (disch:=omega) only [go_sem,jF,jH,↓reduceIte,reduceCtorEq,jM,z1,aS,dS,hg1,Option.map_some,AG,DX,DZ,wR,wS,DY,JW,aV]
 have z2:¬n0+1=id:=by omega
 have z3:¬id=n0+1:=by omega
 refine ⟨by omega,by omega,?_⟩
 refine aM (ai _ id g aA true t at1 K.ps.length (by try simp (disch:=omega) only [go_sem,↓reduceIte,z3]) (by omega) hl) ?_
 have hx2:=aI t at1 K.ps.length
 generalize bf t at1 K.ps.length=dr at *
 obtain ⟨x2,at2⟩:=dr
 simp only at hx2
 obtain ⟨i2,hi2⟩:∃ i2:Nat,(i2:Int)=x2∧i2<K.ps.length:=⟨x2.toNat,by omega,by omega⟩
 obtain ⟨rfl,hi2⟩:=hi2
 have hg2:=wL hi2
 have hd2:=hB.ip _ (List.mem_of_getElem? hg2)
 generalize gP K.ps i2=p at *
 try simp (disch:=omega) only [go_sem,jF,jG,jH,↓reduceIte,reduceCtorEq,jM,z1,z2,aV,iI,hg2,Option.map_some,rn,JT]
 refine ⟨by omega,by omega,?_⟩
 refine ab (mC p.key 1 d) (by simp [rb,go_sem]) ?_
 have cb1:=FA p.key 1 d
 have cb2:=FA p.key 2 d
 have z4:¬n0+1+1=id:=by omega
 have z5:¬id=n0+1+1:=by omega
 try simp (disch:=omega) only [go_sem,↓reduceIte,reduceCtorEq]
 refine aM (ai _ id g aA true t at2 8 (by try simp (disch:=omega) only [go_sem,↓reduceIte,z5]) (by omega) hl) ?_
 generalize bf t at2 8=dr at *
 obtain ⟨x3,at3⟩:=dr
 try simp (disch:=omega) only [go_sem,↓reduceIte]
 refine ah (fun g3=>?_) (fun g3=>?_)
 ·try simp (disch:=omega) only [go_sem,jF,jG,jH,↓reduceIte,jM,z2,z4,JT]
  refine ab (mC p.key 2 d) (by simp [rb,go_sem]) ?_
  try simp (disch:=omega) only [go_sem,jF,jH,↓reduceIte,jM,z2,z4,CR]
  exact fin _ _ _ _ _ _ at3 (by try simp (disch:=omega) only [go_sem,↓reduceIte]) (fun i hi hne=>by
   have j0:¬i=n0:=by omega
   have j1:¬i=n0+1:=by omega
   have j2:¬i=n0+1+1:=by omega
   try simp (disch:=omega) only [go_sem,↓reduceIte,j0,j1,j2,hne]) (by omega)
 try simp (disch:=omega) only [go_sem,jF,↓reduceIte]
 refine ah (fun g4=>?_) (fun g4=>?_)
 ·try simp (disch:=omega) only [go_sem,jF,jH,↓reduceIte,jO,jM,z2,z4,CR]
  exact fin _ _ _ _ _ _ at3 (by try simp (disch:=omega) only [go_sem,↓reduceIte]) (fun i hi hne=>by
   have j0:¬i=n0:=by omega
   have j1:¬i=n0+1:=by omega
   have j2:¬i=n0+1+1:=by omega
   try simp (disch:=omega) only [go_sem,↓reduceIte,j0,j1,j2,hne]) (by omega)
 try simp (disch:=omega) only [go_sem,jF,jH,↓reduceIte,jM,z2,z4,CR]
 exact fin _ _ _ _ _ _ at3 (by try simp (disch:=omega) only [go_sem,↓reduceIte]) (fun i hi hne=>by
   have j0:¬i=n0:=by omega
   have j1:¬i=n0+1:=by omega
   have j2:¬i=n0+1+1:=by omega
   try simp (disch:=omega) only [go_sem,↓reduceIte,j0,j1,j2,hne]) (by omega)
theorem uU {ds:List Dv} {Fs:List AV} {i:Nat} {d:Dv} {E:AV} (h1:ds[i]?=some d) (h2:Fs[i]?=some E):(cA ds Fs)[i]?=some (jc d E):=by simp [cA,List.getElem?_zipWith,h1,h2]
theorem tH {α β γ:Type} (f:α→β→γ):∀ (l:List α) (r:List β) (i:Nat) (a:α) (b:β),(List.zipWith f l r).set i (f a b)=List.zipWith f (l.set i a) (r.set i b)
 | [],_,_,_,_=>by simp
 | _ :: _,[],i,_,_=>by cases i <;> simp
 | x :: l,y :: r,0,a,b=>rfl
 | x :: l,y :: r,i+1,a,b=>by simp [tH f l r i a b]
theorem tP {α:Type} {l:List α} {i:Nat} {a:α} (h:l[i]?=some a):l.set i a=l:=by
 apply List.ext_getElem?
 intro j
 by_cases e:i=j
 ·subst e; rw [h,List.getElem?_set_self (List.getElem?_eq_some_iff.1 h).1]
 ·rw [List.getElem?_set_ne e]
theorem HO (K:Dk) (id who code now kind:Int):∀ (l:List Dv) (i:Nat),(rK K id who code now kind l i).2.2=0→∃ j:Nat,(rK K id who code now kind l i).1=j∧j<i+l.length
 | [],i,h=>by simp [rK] at h
 | d :: l,i,h=>by
  rw [rK] at h ⊢
  split at h
  ·rename_i h1
   rw [if_pos h1]
   obtain ⟨j,h2,h3⟩:=HO K id who code now kind l (i+1) h
   exact ⟨j,h2,by simp; omega⟩
  ·rename_i h1
   rw [if_neg h1]
   split at h
   ·simp at h
   ·rename_i h2
    rw [if_neg h2]
    split at h
    ·simp at h
    ·rename_i h3
     rw [if_neg h3]
     split at h
     ·simp at h
     ·rename_i h4
      rw [if_neg h4]
      exact ⟨i,rfl,by simp⟩
theorem rj {K:Dk} {id who code now kind:Int} (h:(bJ K id who code now kind).2.2=0):∃ j:Nat,(bJ K id who code now kind).1=j∧j<K.ds.length:=by
 unfold bJ at h ⊢
 split at h
 ·simp at h
 ·rename_i h1
  rw [if_neg h1]
  obtain ⟨j,h2,h3⟩:=HO K id who code now kind K.ds 0 h
  exact ⟨j,h2,by omega⟩
theorem lB {K:Dk} {id who code now kind:Int} (h:(bJ K id who code now kind).2.2=0):cd K=true:=by
 cases hc:cd K
 ·rw [bJ,if_pos hc] at h; simp at h
 ·rfl
theorem IC.set {es:Nat} {ty:TypeId} {σ τ:St} {Es:List AV} {Ls:List (List AV)} {j:Nat} {E':AV} {L':List AV} (h:IC es ty σ Es Ls) (hj:cu es ty τ L' E') (ho:∀ (i:Nat) (E:AV) (L:List AV),i≠j→Es[i]?=some E→Ls[i]?=some L→cu es ty τ L E):IC es ty τ (Es.set j E') (Ls.set j L'):=by
 refine ⟨by simp [h.1],fun i E L hE hL=>?_⟩
 by_cases e:i=j
 ·subst e
  rw [List.getElem?_set_self'] at hE hL
  cases h1:Es[i]? <;> simp [h1] at hE
  cases h2:Ls[i]? <;> simp [h2] at hL
  subst hE; subst hL
  exact hj
 ·rw [List.getElem?_set_ne (Ne.symm e)] at hE hL
  exact ho i E L e hE hL
theorem cu.ik {es:Nat} {ty:TypeId} {σ τ:St} {L:List AV} {X:AV} (h:cu es ty σ L X) {K:AV→St→Prop} (k:K (.int .i64 L.length) τ):ik X τ K:=by
 rcases h with ⟨rfl,rfl⟩ | ⟨id,g,rfl,_,_⟩
 ·simpa [Ab.ik] using k
 ·simpa [Ab.ik] using k
theorem kJ (K:Dk) (hB:IH K) (id who code now:Int):PC prog nm [bM K,.int .i64 id,.int .i64 who,.int .i64 code,.int .i64 now] (.tuple [bM (ki K id who code now).1,.int .i64 (ki K id who code now).2]):=by
 have hlp:=hB.lp
 have hld:=hB.ld
 have hKp:=eC K
 have hS0:ki K id who code now=if (bJ K id who code now 2).2.2≠0 then (uW,(bJ K id who code now 2).2.2) else (⟨K.ps,K.nx,K.ds.set (bJ K id who code now 2).1.toNat { gD K.ds (bJ K id who code now 2).1.toNat with wd:=true }⟩,0):=rfl
 refine ae xa (by simp) ?_
 simp only [nK]
 try simp (disch:=omega) only [go_sem,jF,jG,jH,↓reduceIte,reduceCtorEq,dh,dB,iA]
 refine ab (ug K id who code now 2 (by omega) (by omega)) (by simp [hKp,go_sem]) ?_
 have hok:=@rj K id who code now 2
 have hck:=@lB K id who code now 2
 generalize bJ K id who code now 2=a at *
 obtain ⟨i,p,e⟩:=a
 simp only at hok hS0 hck
 try simp (disch:=omega) only [go_sem,jF,jG,jH,↓reduceIte,rn]
 refine aZ (fun h1=>?_) (fun h1=>?_)
 ·try simp (disch:=omega) only [go_sem,jF,jG,jH,↓reduceIte]
  rw [hS0,if_pos h1]
  exact aw.tu (.cons eZ (.cons (aw.e rfl) .nil))
 obtain rfl:e=0:=by simpa using h1
 rw [if_neg (by simp)] at hS0
 obtain ⟨j,rfl,hj⟩:=hok rfl
 have hc:=hck rfl
 have hnx:=gb hc
 rw [Int.toNat_natCast] at hS0
 have hg:=js hj
 generalize gD K.ds j=d at *
 try simp (disch:=omega) only [go_sem,jF,jH,↓reduceIte,reduceCtorEq,iA]
 refine (iO _ K (by omega) (by omega) fun d hd=>by have:=fZ hc hd; omega).mono ?_
 rintro r ⟨ob1,n1,c1⟩ ⟨XP,XA,Fs,l1,rfl,hl1,hl2,hP,hPl,hA,hI,hG,hfr⟩
 simp only at hl1 hl2 hPl hfr
 have u0:=hfr 0 (by omega)
 have u1:=hfr 1 (by omega)
 have u2:=hfr 2 (by omega)
 try simp (disch:=omega) only [go_sem,↓reduceIte,reduceCtorEq] at u0
 try simp (disch:=omega) only [go_sem,jF,↓reduceIte] at u1
 try simp (disch:=omega) only [go_sem,↓reduceIte] at u2
 have hFl:Fs.length=K.ds.length:=by have:=hI.1; simpa [lD] using this
 have hFg:Fs[j]?=some Fs[j]:=List.getElem?_eq_getElem (by omega)
 generalize Fs[j]=E at *
 have hxg:=uU hg hFg
 have hXl:(cA K.ds Fs).length=K.ds.length:=by simp [cA]; omega
 rcases hA with ⟨_,h0⟩ | ⟨ia,ga,rfl,hia,hoa⟩
 ·rw [h0] at hXl; simp at hXl; omega
 simp only at hia hoa
 have hal:l1≤ia:=(hG.low ia fun h=>h _ _ _ _ rfl).1
 try simp (disch:=omega) only [go_sem,jF,jG,jH,↓reduceIte,reduceCtorEq,jM,u0,u1,hP.one,GM,hoa,hxg,hXl]
 refine ⟨by omega,by omega,?_⟩
 rw [hS0]
 have hW:gH 6 (.bool true) (jc d E)=jc { d with wd:=true } E:=rfl
 have hD:(cA K.ds Fs).set j (jc { d with wd:=true } E)=cA (K.ds.set j { d with wd:=true }) Fs:=by
  rw [cA,tH jc,tP hFg]; rfl
 have hIn:lD (K.ds.set j { d with wd:=true })=lD K.ds:=by
  have h9:(lD K.ds)[j]?=some (ints d.sg):=by simp [lD,hg]
  rw [lD,List.map_set]
  exact tP h9
 have hlen:(cA (K.ds.set j { d with wd:=true }) Fs).length=K.ds.length:=by simp [cA]; omega
 rw [hW,hD]
 refine aw.tu (.cons (pQ (Fs:=Fs) (hP.move (Nat.le_refl _) fun i hi hh=>?_) (.inr ⟨ia,ga,by rw [hlen],hia,?_⟩) ?_) (.cons (aw.e rfl) .nil))
 ·have h9:=hPl i hh
  simp only
  rw [aa _ _ _ _ (by omega),aa _ _ _ _ (by omega),aa _ _ _ _ (by omega)]
 ·simp only
  rw [aa _ _ _ _ (by omega),az]
 ·rw [hIn]
  refine hI.move (Nat.le_refl _) fun F hF i hi hlt=>?_
  have h9:=(hG.Ff F hF i hi).1
  have h8:¬i=ia:=fun h=>aY.ne (hG.sep F hF i hi) h.symm
  simp only
  rw [aa _ _ _ _ (by omega),aa _ _ _ _ h8,aa _ _ _ _ (by omega)]
theorem uh (K:Dk) (hB:Bg K) (id who code now:Int):PC prog nm [bM K,.int .i64 id,.int .i64 who,.int .i64 code,.int .i64 now] (.tuple [bM (ki K id who code now).1,.int .i64 (ki K id who code now).2]):=kJ K hB.s id who code now
theorem pZ (K:Dk) (hB:IH K) (id who code now:Int):PC prog uB [bM K,.int .i64 id,.int .i64 who,.int .i64 code,.int .i64 now] (.tuple [bM (jZ K id who code now).1,.int .i64 (jZ K id who code now).2]):=by
 have hlp:=hB.lp
 have hld:=hB.ld
 have hKp:=eC K
 have hS0:jZ K id who code now=if (bJ K id who code now 1).2.2≠0 then (uW,(bJ K id who code now 1).2.2) else
  if (gD K.ds (bJ K id who code now 1).1.toNat).sg.length=2 then (uW,46) else if oc K who (bJ K id who code now 1).2.1.role (gD K.ds (bJ K id who code now 1).1.toNat).sg≠0 then (uW,oc K who (bJ K id who code now 1).2.1.role (gD K.ds (bJ K id who code now 1).1.toNat).sg) else
  (⟨K.ps,K.nx,K.ds.set (bJ K id who code now 1).1.toNat { gD K.ds (bJ K id who code now 1).1.toNat with sg:=(gD K.ds (bJ K id who code now 1).1.toNat).sg++[who] }⟩,0):=rfl
 refine ae El (by simp) ?_
 simp only [vl]
 try simp (disch:=omega) only [go_sem,jF,jG,jH,↓reduceIte,reduceCtorEq,dh,dB,iA]
 refine ab (ug K id who code now 1 (by omega) (by omega)) (by simp [hKp,go_sem]) ?_
 have hok:=@rj K id who code now 1
 have hck:=@lB K id who code now 1
 generalize bJ K id who code now 1=a at *
 obtain ⟨i,p,e⟩:=a
 simp only at hok hS0 hck
 try simp (disch:=omega) only [go_sem,jF,jG,jH,↓reduceIte,rn]
 refine aZ (fun h1=>?_) (fun h1=>?_)
 ·try simp (disch:=omega) only [go_sem,jF,jG,jH,↓reduceIte]
  rw [hS0,if_pos h1]
  exact aw.tu (.cons eZ (.cons (aw.e rfl) .nil))
 obtain rfl:e=0:=by simpa using h1
 rw [if_neg (by simp)] at hS0
 obtain ⟨j,rfl,hj⟩:=hok rfl
 have hc:=hck rfl
 have hnx:=gb hc
 rw [Int.toNat_natCast] at hS0
 have hg:=js hj
 have hgk:=fZ hc (List.mem_of_getElem? hg)
 generalize gD K.ds j=d at *
 try simp (disch:=omega) only [go_sem,jF,jH,↓reduceIte,reduceCtorEq,iA]
 refine (iO _ K (by omega) (by omega) fun d hd=>by have:=fZ hc hd; omega).mono ?_
 rintro r ⟨ob1,n1,c1⟩ ⟨XP,XA,Fs,l1,rfl,hl1,hl2,hP,hPl,hA,hI,hG,hfr⟩
 simp only at hl1 hl2 hPl hfr
 have u0:=hfr 0 (by omega)
 have u1:=hfr 1 (by omega)
 have u2:=hfr 2 (by omega)
 try simp (disch:=omega) only [go_sem,↓reduceIte,reduceCtorEq] at u0
 try simp (disch:=omega) only [go_sem,jF,↓reduceIte] at u1
 try simp (disch:=omega) only [go_sem,↓reduceIte] at u2
 have hFl:Fs.length=K.ds.length:=by have:=hI.1; simpa [lD] using this
 have hjF:j<Fs.length:=by omega
 have hFg:Fs[j]?=some Fs[j]:=List.getElem?_eq_getElem hjF
 generalize hEE:Fs[j]=E at *
 have hxg:=uU hg hFg
 have hXl:(cA K.ds Fs).length=K.ds.length:=by simp [cA]; omega
 rcases hA with ⟨_,h0⟩ | ⟨ia,ga,rfl,hia,hoa⟩
 ·rw [h0] at hXl; simp at hXl; omega
 simp only at hia hoa
 have hal:l1≤ia:=(hG.low ia fun h=>h _ _ _ _ rfl).1
 have hEs:=hI.2 j E (ints d.sg) hFg (by simp [lD,hg])
 have z0:¬ia=0:=by omega
 have d5:∀ d E,(jc d E).cells.getD 5 .bC=E:=fun _ _=>rfl
 try simp (disch:=omega) only [go_sem,jF,jG,jH,↓reduceIte,u0,hP.one,GM,hoa,hxg,hXl,z0,d5]
 refine ⟨by omega,by omega,?_⟩
 refine hEs.ik ?_
 try simp (disch:=omega) only [go_sem,↓reduceIte,au]
 refine ah (fun h2=>?_) (fun h2=>?_) <;> try simp (disch:=omega) only [go_sem,jF,jG,jH,↓reduceIte,reduceCtorEq,jM,u1]
 ·rw [hS0,if_pos (by omega)]
  exact aw.tu (.cons eZ (.cons (aw.e rfl) .nil))
 rw [if_neg (by omega)] at hS0
 try simp (disch:=omega) only [go_sem,hoa,hxg,d5]
 refine hEs.ik ?_
 try simp (disch:=omega) only [go_sem,au]
 have hEo:∀ i,¬aY E i→l1≤i∧i<n1:=fun i hi=>hG.Ff E (List.mem_of_getElem? hFg) i hi
 have hEa:aY E ia:=aY.em fun h=>aY.ne (hG.sep E (List.mem_of_getElem? hFg) ia h) rfl
 refine aW [11,17,18,19,52,53,54,55,56,57,58,59,60,61,62,63,64,65,66,67,68,69,70,71,72] (by kernel_rfl) d.sg.length (fun i e σ=>e 52=.int .i64 i∧n1≤σ.n∧(∀ i,i<n1→i≠0→σ.ob i=ob1 i)∧σ.ob 0=some ⟨0,3,44,false,true,[.agg [XP,.int .i64 K.nx,.sl ia ga 7 0 K.ds.length]]⟩∧oc K who p.role d.sg=oc K who p.role (d.sg.drop i)) ?_ ?_
 ·exact ⟨(by first | rfl | (simp (disch:=omega) only [go_sem,jA,jB,jC,jD,jE,jF,jG,jH,jI,jJ,↓reduceIte,reduceCtorEq,jP,jO,jM,jN]; try rfl)),Nat.le_refl _,fun i hi hne=>aa _ _ _ _ hne,by try simp (disch:=omega) only [go_sem,↓reduceIte],rfl⟩
 rintro i fe ob m c hi hm ⟨h52,hm1,hfr2,v0,hsg⟩
 simp (maxSteps:=1000000) only [go_sem,jF,↓reduceIte] at h52 hm hm1 v0 hfr2
 have v1:=(hfr2 1 (by omega) (by omega)).trans u1
 have v2:=(hfr2 2 (by omega) (by omega)).trans u2
 have va:=(hfr2 ia hia z0).trans hoa
 try simp (disch:=omega) only [go_sem,jF,↓reduceIte,h52]
 refine ah (fun hlt=>?_) (fun hge=>?_)
 ·have hil:i<d.sg.length:=by omega
  rw [List.drop_eq_getElem_cons hil,oc] at hsg
  have hgi:=bD d.sg i
  rw [List.getElem?_eq_getElem hil] at hgi
  generalize d.sg[i]=s at *
  rcases hEs with ⟨rfl,hz⟩ | ⟨ie,ge,rfl,hie,hoe⟩
  ·simp [ints] at hz; rw [hz] at hil; simp at hil
  simp only at hie hoe
  have hie1:=hEo ie fun h=>h _ _ _ _ rfl
  have ve:=(hfr2 ie hie (by omega)).trans hoe
  try simp (disch:=omega) only [go_sem,jF,jH,↓reduceIte,reduceCtorEq,ve,hgi,Option.map_some,au]
  refine ⟨by omega,by omega,?_⟩
  refine ah (fun h3=>?_) (fun h3=>?_) <;> try simp (disch:=omega) only [go_sem,jF,jG,jH,↓reduceIte,v1]
  ·rw [if_pos h3] at hsg
   rw [hS0,if_pos (by rw [hsg]; omega),hsg]
   exact aw.tu (.cons eZ (.cons (aw.e rfl) .nil))
  rw [if_neg h3] at hsg
  try simp (disch:=omega) only [go_sem,v0]
  have hPub:aw ⟨ob,m,c⟩ (.agg [XP,.int .i64 K.nx,.sl ia ga 7 0 K.ds.length]) (bM K):=by
   refine pQ (Fs:=Fs) (hP.move hm1 fun i hi hh=>hfr2 i hi (by have:=hPl i hh; omega)) (.inr ⟨ia,ga,by rw [hXl],by simp only; omega,va⟩) (hI.move hm1 fun F hF i hi hlt=>hfr2 i hlt (by have:=hG.Ff F hF i hi; omega))
  refine rf (jl K s (by omega)) (.cons hPub (.cons (aw.e rfl) .nil)) (by simp [AV.Dc,rn,AV.oP]) ?_
  have z4:¬2=m:=by omega
  try simp (disch:=omega) only [go_sem,jF,jG,jH,↓reduceIte,rn,v2,z4]
  refine ah (fun h4=>?_) (fun h4=>?_)
  ·have z5:¬1=m:=by omega
   try simp (disch:=omega) only [go_sem,jF,jG,jH,↓reduceIte,v1,z5]
   rw [if_pos h4] at hsg
   rw [hS0,if_pos (by rw [hsg]; omega),hsg]
   exact aw.tu (.cons eZ (.cons (aw.e rfl) .nil))
  rw [if_neg h4] at hsg
  try simp (disch:=omega) only [go_sem,jF,↓reduceIte,jO]
  refine aG (m+1) hil (by omega) ⟨(by first | rfl | (simp (disch:=omega) only [go_sem,jA,jB,jC,jD,jE,jF,jG,jH,jI,jJ,↓reduceIte,reduceCtorEq,jP,jO,jM,jN]; try rfl)),by simp only [St.aD]; omega,fun i hi hne=>?_,?_,hsg⟩
  ·rw [aX (by omega),aa _ _ _ _ (by omega),aa _ _ _ _ (by omega)]; exact hfr2 i hi hne
  ·rw [aX (by omega),aa _ _ _ _ (by omega),aa _ _ _ _ (by omega)]; exact v0
 obtain rfl:i=d.sg.length:=by omega
 rw [List.drop_length,oc] at hsg
 rw [if_neg (by simp [hsg])] at hS0
 have hse:=hEs.move (τ:=⟨ob,m,c⟩) hm1 fun i hi hh=>hfr2 i hi (by have:=hEo i hh; omega)
 try simp (disch:=omega) only [go_sem,jF,jG,jH,↓reduceIte,reduceCtorEq,va,hxg,d5]
 refine bH (b:=8) hse (by rw [au]; omega) (by rw [au]; omega) fun E' τ5 hE5 k5=>?_
 obtain ⟨ob5,m5,c5⟩:=τ5
 have hm5:m≤m5:=k5.1
 have q5:∀ i,i<m→aY E i→ob5 i=ob i:=fun i hi ho=>k5.2.1 i hi ho
 have oE:∀ i,i<l1→aY E i:=fun i hi=>aY.em fun h=>by have:=(hEo i h).1; omega
 have w0:=(q5 0 (by omega) (oE 0 (by omega))).trans v0
 have w1:=(q5 1 (by omega) (oE 1 (by omega))).trans v1
 have wa:=(q5 ia (by omega) hEa).trans va
 have p5:∀ y,gH 5 E' (jc d y)=jc { d with sg:=d.sg++[who] } E':=fun y=>by
  rcases hE5 with ⟨rfl,_⟩ | ⟨_,_,rfl,_⟩ <;> rfl
 have z6:¬ia=1:=by omega
 try simp (disch:=omega) only [go_sem,jF,jG,jH,↓reduceIte,jM,wa,hxg,w0,w1,hE5.flat,hE5.cells,p5,hP.one]
 rw [hS0]
 have hD:(cA K.ds Fs).set j (jc { d with sg:=d.sg++[who] } E')=cA (K.ds.set j { d with sg:=d.sg++[who] }) (Fs.set j E'):=tH jc _ _ _ _ _
 have hlen:(cA (K.ds.set j { d with sg:=d.sg++[who] }) (Fs.set j E')).length=K.ds.length:=by simp [cA]; omega
 rw [hD]
 have oE5:∀ i,i<m→aY E i→aY E' i:=fun i hi ho=>k5.2.2 i hi ho
 have fz:∀ (x y:Option aU) i,i≠ia→i≠1→bd (bd ob5 ia x) 1 y i=ob5 i:=fun x y i h1 h2=>by rw [aa _ _ _ _ h2,aa _ _ _ _ h1]
 refine aw.tu (.cons (pQ (Fs:=Fs.set j E') (hP.move (by simp only; omega) fun i hi hh=>?_) (.inr ⟨ia,ga,by rw [hlen],by simp only; omega,?_⟩) ?_) (.cons (aw.e rfl) .nil))
 ·have h9:=hPl i hh
  simp only
  rw [fz _ _ i (by omega) (by omega),q5 i (by omega) (oE i h9.2),hfr2 i hi (by omega)]
 ·simp only
  rw [aa _ _ _ _ (by omega),az]
 ·rw [show lD (K.ds.set j { d with sg:=d.sg++[who] })=(lD K.ds).set j (ints (d.sg++[who])) by simp [lD,List.map_set]]
  have happ:ints (d.sg++[who])=ints d.sg++[.int .i64 who]:=by simp [ints]
  refine hI.set ?_ fun i F L hne hF hL=>?_
  ·rw [happ]
   refine hE5.move (Nat.le_refl _) fun i hi hh=>?_
   have hx1:¬i=ia:=fun h=>hh (h ▸ oE5 ia (by omega) hEa)
   have hx2:¬i=1:=fun h=>hh (h ▸ oE5 1 (by omega) (oE 1 (by omega)))
   simp only
   rw [fz _ _ i hx1 hx2]
  ·refine (hI.2 i F L hF hL).move (by simp only; omega) fun q hq hh=>?_
   simp only at hq
   have h9:=(hG.Ff F (List.mem_of_getElem? hF) q hh).1
   have hx1:¬q=ia:=fun h=>aY.ne (hG.sep F (List.mem_of_getElem? hF) q hh) h.symm
   have hx3:=hG.dj i j F E hne hF hFg q hh
   simp only
   rw [fz _ _ q hx1 (by omega),q5 q (by omega) hx3,hfr2 q hq (by omega)]
theorem rT (K:Dk) (hB:Bg K) (id who code now:Int):PC prog uB [bM K,.int .i64 id,.int .i64 who,.int .i64 code,.int .i64 now] (.tuple [bM (jZ K id who code now).1,.int .i64 (jZ K id who code now).2]):=pZ K hB.s id who code now
theorem lg {K:Dk}:cd K=true↔(K.ps.length≤12∧1≤K.nx∧K.nx≤1073741824∧K.ds.length≤64)∧(∀ i,i<K.ps.length→F6 K i=true)∧∀ i,i<K.ds.length→E3 K i=true:=by
 simp only [cd,Bool.and_eq_true,iq,decide_eq_true_eq,List.all_eq_true,List.mem_range]
 constructor
 ·rintro ⟨⟨⟨⟨h1,h2,h3⟩,h4⟩,h5⟩,h6⟩; exact ⟨⟨h1,h2,h3,h4⟩,h5,h6⟩
 ·rintro ⟨⟨h1,h2,h3,h4⟩,h5,h6⟩; exact ⟨⟨⟨⟨h1,h2,h3⟩,h4⟩,h5⟩,h6⟩
theorem p7 {K:Dk} {i:Nat}:E3 K i=true↔(1≤(gD K.ds i).id∧(gD K.ds i).id≤K.nx-1)∧(0<i→(gD K.ds (i-1)).id<(gD K.ds i).id)∧gI K (gD K.ds i)=true:=by
 simp only [E3,iq,Bool.and_eq_true,decide_eq_true_eq,Bool.not_eq_true',Bool.and_eq_false_iff,decide_eq_false_iff_not,and_assoc]
 constructor
 ·rintro ⟨h1,h2,h3,h4⟩; exact ⟨h1,h2,fun h0=>by rcases h3 with h3 | h3 <;> omega,h4⟩
 ·rintro ⟨h1,h2,h3,h4⟩; exact ⟨h1,h2,(by
   by_cases h0:0<i
   ·exact .inr (by have:=h3 h0; omega)
   ·exact .inl h0),h4⟩
theorem JG {l:List Dv} {i j:Nat} {d:Dv} (hj:j<l.length):gD (l.set j d) i=if i=j then d else gD l i:=by
 rw [gD,gD,List.getD_eq_getElem?_getD,List.getD_eq_getElem?_getD]
 split
 ·rename_i e; subst e; rw [List.getElem?_set_self hj]; rfl
 ·rename_i e; rw [List.getElem?_set_ne (Ne.symm e)]
theorem FE {K:Dk} (h:cd K=true) {j:Nat} {d:Dv} (hj:j<K.ds.length) (hid:d.id=(gD K.ds j).id) (hr:gI K d=true):cd ⟨K.ps,K.nx,K.ds.set j d⟩=true:=by
 obtain ⟨⟨h1,h2,h3,h4⟩,h5,h6⟩:=lg.1 h
 refine lg.2 ⟨⟨h1,h2,h3,by simpa using h4⟩,h5,fun i hi=>?_⟩
 simp only [List.length_set] at hi
 have hid':∀ i,(gD (K.ds.set j d) i).id=(gD K.ds i).id:=fun i=>by
  rw [JG hj]; split
  ·rename_i e; rw [e]; exact hid
  ·rfl
 obtain ⟨q1,q2,q3⟩:=p7.1 (h6 i hi)
 refine p7.2 ⟨by simp only; rw [hid']; exact q1,fun h0=>by simp only; rw [hid',hid']; exact q2 h0,?_⟩
 show gI K (gD (K.ds.set j d) i)=true
 rw [JG hj]; split
 ·exact hr
 ·exact q3
theorem FV (K:Dk) (id who code now kind:Int):∀ (l:List Dv) (i:Nat),(rK K id who code now kind l i).2.2=0→(rK K id who code now kind l i).2.1=(cO K who).1∧(cO K who).2=true
 | [],i,h=>by simp [rK] at h
 | d :: l,i,h=>by
  rw [rK] at h ⊢
  split at h
  ·rename_i h1
   rw [if_pos h1]
   exact FV K id who code now kind l (i+1) h
  ·rename_i h1
   rw [if_neg h1]
   split at h
   ·simp at h
   ·rename_i h2
    rw [if_neg h2]
    split at h
    ·simp at h
    ·rename_i h3
     rw [if_neg h3]
     split at h
     ·simp at h
     ·rename_i h4
      rw [if_neg h4]
      exact ⟨rfl,by simpa using h3⟩
theorem Kj {K:Dk} {id who code now kind:Int} (h:(bJ K id who code now kind).2.2=0):(bJ K id who code now kind).2.1=(cO K who).1∧(cO K who).2=true:=by
 have hc:=lB h
 rw [bJ,if_neg (by simp [hc])] at h ⊢
 exact FV K id who code now kind K.ds 0 h
theorem Hb {K:Dk} {who role:Int}:∀ {l:List Int},oc K who role l=0→∀ s∈l,(cO K s).1.role≠role
 | [],_,s,hs=>by cases hs
 | x :: l,h,s,hs=>by
  rw [oc] at h
  split at h
  ·cases h
  split at h
  ·cases h
  rename_i h1
  rcases List.mem_cons.1 hs with rfl | hs
  ·exact h1
  ·exact Hb h s hs
theorem OA {K:Dk} {d:Dv} (h:gI K d=true):d.sg.length≤2∧∀ s∈d.sg,(cO K s).2=true:=by
 simp only [gI,Bool.and_eq_true,decide_eq_true_eq,List.all_eq_true] at h
 exact ⟨h.1.1.2,h.1.2⟩
theorem EG {K:Dk} {id who code now:Int} (h:(ki K id who code now).2=0):cd (ki K id who code now).1=true:=by
 simp only [ki] at h ⊢
 split at h
 ·rename_i h1; exact absurd h h1
 ·rename_i h1
  rw [if_neg h1]
  have h0:(bJ K id who code now 2).2.2=0:=Decidable.byContradiction h1
  obtain ⟨j,hj,hl⟩:=rj h0
  rw [hj,Int.toNat_natCast]
  have hc:=lB h0
  have hr:=(p7.1 ((lg.1 hc).2.2 j hl)).2.2
  exact FE hc hl rfl hr
theorem EN {K:Dk} {id who code now:Int} (h:(jZ K id who code now).2=0):cd (jZ K id who code now).1=true:=by
 simp only [jZ] at h ⊢
 split at h
 ·rename_i h1; exact absurd h h1
 rename_i h1
 rw [if_neg h1]
 split at h
 ·cases h
 rename_i h2
 rw [if_neg h2]
 split at h
 ·rename_i h3; exact absurd h h3
 rename_i h3
 rw [if_neg h3]
 have h0:(bJ K id who code now 1).2.2=0:=Decidable.byContradiction h1
 have h4:=Decidable.byContradiction h3
 obtain ⟨j,hj,hl⟩:=rj h0
 obtain ⟨hw1,hw2⟩:=Kj h0
 rw [hw1] at h4
 rw [hj,Int.toNat_natCast] at h2 h4 ⊢
 have hc:=lB h0
 have hr:=(p7.1 ((lg.1 hc).2.2 j hl)).2.2
 obtain ⟨g1,g2⟩:=OA hr
 have hE:=Hb h4
 refine FE hc hl rfl ?_
 generalize gD K.ds j=d at *
 have hl1:d.sg.length≤1:=by omega
 have hall:∀ s∈d.sg++[who],(cO K s).2=true:=fun s hs=>by
  rcases List.mem_append.1 hs with hs | hs
  ·exact g2 s hs
  ·rw [List.mem_singleton.1 hs]; exact hw2
 simp only [gI,Bool.and_eq_true] at hr ⊢
 refine ⟨⟨⟨hr.1.1.1,by simp; omega⟩,List.all_eq_true.2 hall⟩,?_⟩
 match hsg:d.sg with
 | []=>simp
 | [s]=>
  have:=hE s (by rw [hsg]; simp)
  simp [cM,this]
 | a :: b :: r=>rw [hsg] at hl1; simp at hl1
theorem qn {l:List Dv} {d:Dv} {i:Nat}:gD (l++[d]) i=if i<l.length then gD l i else if i=l.length then d else default:=by
 rw [gD,gD,List.getD_eq_getElem?_getD,List.getD_eq_getElem?_getD]
 split
 ·rename_i h; rw [List.getElem?_append_left h]
 ·rename_i h
  split
  ·rename_i e; subst e; simp
  ·rename_i e; rw [List.getElem?_eq_none (by simp; omega)]; rfl
theorem EV {K:Dk} {site fr to rel:Int} (h:(bQ K site fr to rel).2.2=0):cd (bQ K site fr to rel).1=true∧(bQ K site fr to rel).1.ds.length=K.ds.length+1∧(bQ K site fr to rel).1.nx=K.nx+1:=by
 unfold bQ at h ⊢
 cases hc:cd K
 ·rw [hc] at h; simp at h
 rw [hc] at h
 simp only [Bool.true_eq_false,if_false] at h ⊢
 split at h
 ·cases h
 rename_i h1
 rw [if_neg h1]
 split at h
 ·cases h
 rename_i h2
 rw [if_neg h2]
 split at h
 ·cases h
 rename_i h3
 rw [if_neg h3]
 split at h
 ·cases h
 rename_i h4
 rw [if_neg h4]
 obtain ⟨⟨q1,q2,q3,q4⟩,q5,q6⟩:=lg.1 hc
 refine ⟨lg.2 ⟨⟨q1,by simp only; omega,by simp only; omega,by simp; omega⟩,q5,fun i hi=>?_⟩,by simp,rfl⟩
 simp only [List.length_append,List.length_singleton] at hi
 have e1:iq site 0 5=true:=by simpa using h1
 have e3:iq rel 0 1073741824=true:=by simpa using h3
 by_cases e:i<K.ds.length
 ·obtain ⟨g1,g2,g3⟩:=p7.1 (q6 i e)
  refine p7.2 ⟨?_,fun h0=>?_,?_⟩
  ·simp only; rw [qn,if_pos e]; omega
  ·simp only; rw [qn,qn,if_pos e,if_pos (by omega)]; exact g2 h0
  ·show gI K (gD (K.ds++[_]) i)=true
   rw [qn,if_pos e]; exact g3
 ·have e':i=K.ds.length:=by omega
  refine p7.2 ⟨?_,fun h0=>?_,?_⟩
  ·simp only; rw [qn,if_neg e,if_pos e']; simp only; omega
  ·simp only; rw [qn,qn,if_neg e,if_pos e',if_pos (by omega)]
   have:=(p7.1 (q6 (i-1) (by omega))).1
   simp only; omega
  ·show gI K (gD (K.ds++[_]) i)=true
   rw [qn,if_neg e,if_pos e']
   have n1:¬fr<0:=by omega
   have n2:¬to<fr:=by omega
   have n3:¬16777216<to:=by omega
   simp [gI,e1,e3,n1,n2,n3]
theorem Lx {K:Dk} (hc:cd K=true) {site fr to rel:Int} (h1:iq site 0 5=true) (h2:0≤fr∧fr≤to∧to≤16777216) (h3:iq rel 0 1073741824=true) (h4:K.ds.length<64∧K.nx<1073741824):(bQ K site fr to rel).2.2=0:=by
 rw [bQ,if_neg (by simp [hc]),if_neg (by simp [h1]),if_neg (by omega),if_neg (by simp [h3]),if_neg (by omega)]
def ZL (Z:AV) (K:Dk):Prop:=Z=bM K∨∃ ps,Z=.agg [.list 3 (pR ps),.int .i64 1,.nil]∧K=⟨ps,1,[]⟩
theorem ZL.LH {Z:AV} {K:Dk} (h:ZL Z K):HP Z (bM K):=by
 rcases h with rfl | ⟨ps,rfl,rfl⟩
 ·exact .rfl
 ·exact .agg (.cons .rfl (.cons .rfl (.cons (.nil 7) .nil)))
theorem ZL.cL {Z:AV} {K:Dk} (h:ZL Z K):Z.cL=true:=by
 rcases h with rfl | ⟨ps,rfl,rfl⟩
 ·exact eC K
 ·simp [go_sem]
theorem ZL.flat {Z:AV} {K:Dk} (h:ZL Z K):Z.flat=true∧Z.cells.length=3∧AV.agg (Z.cells.take 3)=Z∧AV.agg ((Z.cells.drop 0).take 3)=Z:=by
 rcases h with rfl | ⟨ps,rfl,rfl⟩
 ·exact ⟨dh K,rfl,rfl,rfl⟩
 ·exact ⟨rfl,rfl,rfl,rfl⟩
theorem ZL.put {Z:AV} {K:Dk} (h:ZL Z K) (M:Dk):gH 0 (bM M) Z=bM M:=by
 rcases h with rfl | ⟨ps,rfl,rfl⟩ <;> rfl
theorem ZL.mU {Z:AV} {K:Dk} (h:ZL Z K) {σ:St}:aw σ Z (bM K):=by
 rcases h with rfl | ⟨ps,rfl,rfl⟩
 ·exact .pure (eC K)
 ·exact aw.ag (.cons (aw.pure (by simp [go_sem])) (.cons (aw.e rfl) (.cons (.nl 7) .nil)))
def Gc (K:Dk) (k:Nat):Prop:=cd K=true∧K.ds.length≤k∧K.nx≤1+(k:Int)
theorem Gc.up {K:Dk} {k:Nat} (h:Gc K k):Gc K (k+1):=⟨h.1,by have:=h.2.1; omega,by have:=h.2.2; omega⟩
theorem Gc.start {ps:List Pn} (h:ps.length≤5) (hv:Iz ps):Gc ⟨ps,1,[]⟩ 0:=⟨lg.2 ⟨⟨by simp only; omega,by simp,by simp,by simp⟩,hv,fun i hi=>by simp at hi⟩,by simp,by simp⟩
theorem Gc.U6 {K:Dk} {k:Nat} (h:Gc K k) (hk:k<60) {st fr to rl:Int} (h1:0≤st∧st≤5) (h2:0≤fr∧fr≤to∧to≤16777216) (h3:0≤rl∧rl≤1073741824):Gc (bQ K st fr to rl).1 (k+1):=by
 have hl:=h.2.1
 have hn:=h.2.2
 obtain ⟨a,b,c⟩:=EV (Lx h.1 (site:=st) (fr:=fr) (to:=to) (rel:=rl) (by simp [iq]; omega) h2 (by simp [iq]; omega) ⟨by omega,by omega⟩)
 exact ⟨a,by omega,by omega⟩
theorem Gc.UL {K:Dk} {k:Nat} (h:Gc K k) {id who code now:Int} (h0:(jZ K id who code now).2=0):Gc (jZ K id who code now).1 (k+1):=by
 refine ⟨EN h0,?_⟩
 have hl:=h.2.1
 have hn:=h.2.2
 simp only [jZ] at h0 ⊢
 split at h0
 ·rename_i h1; exact absurd h0 h1
 rename_i h1; rw [if_neg h1]
 split at h0
 ·cases h0
 rename_i h2; rw [if_neg h2]
 split at h0
 ·rename_i h3; exact absurd h0 h3
 rename_i h3; rw [if_neg h3]
 exact ⟨by simp; omega,by simp only; omega⟩
theorem Gc.UX {K:Dk} {k:Nat} (h:Gc K k) {id who code now:Int} (h0:(ki K id who code now).2=0):Gc (ki K id who code now).1 (k+1):=by
 refine ⟨EG h0,?_⟩
 have hl:=h.2.1
 have hn:=h.2.2
 simp only [ki] at h0 ⊢
 split at h0
 ·rename_i h1; exact absurd h0 h1
 rename_i h1; rw [if_neg h1]
 exact ⟨by simp; omega,by simp only; omega⟩
theorem GK (K:Dk):(bM K).cells.take 3=(bM K).cells:=rfl
theorem GL (K:Dk):AV.agg (bM K).cells=bM K:=rfl
theorem D3 (K:Dk):(bM K).cells.all AV.one=true:=rfl
theorem D4 (M:Dk):gH 0 (bM M) (.agg [.nil,.int .i64 0,.nil])=bM M:=rfl
theorem jr (σ:St) (id g:Nat) (t:List Int) (at':Nat) (K:Dk) (Z:AV) (hZ:ZL Z K) (hB:Bg K) (now:Int) (hl:t.length≤9223372036854775807) (hid:id<σ.n) (hob:σ.ob id=some ⟨g,2,aA,false,true,[bA t at']⟩) :
  HC prog rW [.ptr id g 2 0 0,Z,.int .i64 now] σ (ej σ id g t SS):=by
 rcases hZ with rfl | ⟨ps,rfl,rfl⟩
 ·exact kZ σ id g t at' K hB now hl hid hob
 ·refine HC.wU hid ?_
  obtain ⟨dH,n0,c0⟩:=σ
  simp only at hob hid
  refine aL sO (by simp) ?_
  simp only [mR]
  have z0:¬id=n0:=by omega
  have z1:¬n0=id:=by omega
  have fin:∀ (ob':Nat→Option aU) (c' m':Nat) (a b c:Int) (at2:Nat),ob' id=some ⟨g,2,aA,false,true,[bA t at2]⟩→(∀ i,i<n0→i≠id→ob' i=dH i)→(0≤a∧a≤1073741824∧0≤b∧b≤1073741824∧0≤c∧c≤4294967296)→
    C2 ⟨dH,n0,c0⟩ id g t SS (.tuple [.int .i64 a,.int .i64 b,.int .i64 c]) ⟨ob',m',c'⟩:=fun ob' c' m' a b c at2 h1 h2 h3=>⟨_,at2,.pure rfl,⟨a,b,c,rfl,h3⟩,h1,h2⟩
  try simp (disch:=omega) only [go_sem,jF,jG,jH,↓reduceIte,reduceCtorEq]
  refine aM (ai _ id g aA true t at' 3 (by try simp (disch:=omega) only [go_sem,↓reduceIte,z0]; exact hob) (by omega) hl) ?_
  have hx1:=aI t at' 3
  generalize bf t at' 3=dr at *
  obtain ⟨x1,at1⟩:=dr
  simp only at hx1
  try simp (disch:=omega) only [go_sem,↓reduceIte,reduceCtorEq,jO]
  refine aM (ai _ id g aA true t at1 3 (by try simp (disch:=omega) only [go_sem,↓reduceIte]) (by omega) hl) ?_
  have hx2:=aI t at1 3
  generalize bf t at1 3=dr at *
  obtain ⟨x2,at2⟩:=dr
  simp only at hx2
  try simp (disch:=omega) only [go_sem,↓reduceIte,reduceCtorEq,jO]
  refine aM (ai _ id g aA true t at2 100 (by try simp (disch:=omega) only [go_sem,↓reduceIte]) (by omega) hl) ?_
  have hx3:=aI t at2 100
  generalize bf t at2 100=dr at *
  obtain ⟨x3,at3⟩:=dr
  simp only at hx3
  try simp (disch:=omega) only [go_sem,jF,↓reduceIte]
  exact fin _ _ _ _ _ _ at3 (by try simp (disch:=omega) only [go_sem,↓reduceIte]) (fun i hi hne=>by
   have j0:¬i=n0:=by omega
   try simp (disch:=omega) only [go_sem,↓reduceIte,j0,hne]) (by omega)
theorem sf (σ:St) (id g:Nat) (t:List Int) (at':Nat) (hl:t.length≤9223372036854775807) (hid:id<σ.n) (hob:σ.ob id=some ⟨g,2,aA,false,true,[bA t at']⟩) :
  HC prog xz [.ptr id g 2 0 0] σ (ej σ id g t fun r=>∃ K,r=bM K∧Bg K∧cd K=true):=by
 refine HC.wU hid ?_
 obtain ⟨dH,n0,c0⟩:=σ
 simp only at hob hid
 refine aL FT (by simp) ?_
 simp only [xM]
 have z0:¬id=n0:=by omega
 have z1:¬n0=id:=by omega
 have z2:¬n0+1=id:=by omega
 have z3:¬id=n0+1:=by omega
 try simp (disch:=omega) only [go_sem,↓reduceIte,reduceCtorEq]
 refine (oZ _ id g t at' hl (by simp only; omega) (by try simp (disch:=omega) only [go_sem,↓reduceIte,z0]; exact hob)).mono ?_
 intro r τ hDR
 obtain ⟨⟨ps,rfl,hps,hpb,hpv⟩,hn,⟨at1,hd⟩,hf⟩:=hDR.use (by simp only; omega)
 obtain ⟨ob1,n1,c1⟩:=τ
 simp only at hn hd hf
 subst hn
 have u0:=hf n0 (by omega) z1
 try simp (disch:=omega) only [go_sem,↓reduceIte] at u0
 try simp (disch:=omega) only [go_sem,jF,jG,jH,↓reduceIte,reduceCtorEq]
 refine aM (ai _ id g aA true t at1 12 (by try simp (disch:=omega) only [go_sem,↓reduceIte,z3]; exact hd) (by omega) hl) ?_
 have hx1:=aI t at1 12
 generalize bf t at1 12=dr at *
 obtain ⟨x0,at0⟩:=dr
 simp only at hx1
 try simp (disch:=omega) only [go_sem,↓reduceIte]
 obtain ⟨N,hN⟩:∃ N:Nat,(N:Int)=x0∧N≤12:=⟨x0.toNat,by omega,by omega⟩
 obtain ⟨rfl,hN⟩:=hN
 refine aW [4,5,6,7,8,9,10,11,12,13,14,15,21,22,23,24,25,26,27,28,29,30,31,32,33,34,35,36,37,38,39,40,41,42,43,44,45,46,47,48,49,50,51,52,53,54,55,56,57,58,59,60,61,62,63,64,65,66,67,68,69,70,71,72,73,74,75,76,77,78,79,80,81,82,83,84,85,86,87,88] (by kernel_rfl) N (fun k e σ=>e 4=.int .i64 ((N:Int)-k)∧n0+2≤σ.n∧(∃ a,σ.ob id=some ⟨g,2,aA,false,true,[bA t a]⟩)∧(∀ i,i<n0→i≠id→σ.ob i=dH i)∧σ.ob n0=some ⟨c0,3,44,false,true,[.agg [.nil,.int .i64 0,.nil]]⟩∧
   ∃ K Z,σ.ob (n0+1)=some ⟨c1,3,44,false,true,[Z]⟩∧ZL Z K∧Bg K∧Gc K k) ?_ ?_
 ·refine ⟨(by first | rfl | (simp (disch:=omega) only [go_sem,jA,jB,jC,jD,jE,jF,jG,jH,jI,jJ,↓reduceIte,reduceCtorEq,jP,jO,jM,jN]; try rfl)),Nat.le_refl _,⟨at0,by try simp (disch:=omega) only [go_sem,↓reduceIte]⟩,fun i hi hne=>?_,?_,⟨ps,1,[]⟩,_,by try simp (disch:=omega) only [go_sem,↓reduceIte,z2],.inr ⟨ps,rfl,rfl⟩,⟨by simp only; omega,by simp,fun p hp=>?_,by simp⟩,Gc.start (by omega) hpv⟩
  ·have j1:¬i=n0+1:=by omega
   try simp (disch:=omega) only [go_sem,↓reduceIte,hne,j1]
   rw [hf i (by omega) hne,aa _ _ _ _ (by omega)]
  ·try simp (disch:=omega) only [go_sem,↓reduceIte,jM,z1]
   exact u0
  ·have:=hpb p hp; omega
 clear hf hd u0 hDR
 rintro k fe ob m c hk hm ⟨h4,hm1,⟨at2,hd⟩,hfr,v0,K,Z,v1,hZ,hB,hC⟩
 simp (maxSteps:=1000000) only [go_sem,↓reduceIte] at h4 hm hm1 hd hfr v0 v1
 obtain ⟨zf,zl,zt,zd⟩:=hZ.flat
 have zp:=hZ.cL
 try simp (disch:=omega) only [go_sem,↓reduceIte,h4]
 refine ah (fun hge=>?_) (fun hlt=>?_)
 ·have hkl:k<N:=by omega
  try simp (disch:=omega) only [go_sem,↓reduceIte,reduceCtorEq]
  refine aM (ai _ id g aA true t at2 12 (by exact hd) (by omega) hl) ?_
  have hx2:=aI t at2 12
  generalize bf t at2 12=dr at *
  obtain ⟨fr,at3⟩:=dr
  simp only at hx2
  try simp (disch:=omega) only [go_sem,↓reduceIte,reduceCtorEq]
  refine aM (ai _ id g aA true t at3 4 (by try simp (disch:=omega) only [go_sem,↓reduceIte]) (by omega) hl) ?_
  have hx3:=aI t at3 4
  generalize bf t at3 4=dr at *
  obtain ⟨kd,at4⟩:=dr
  simp only at hx3
  try simp (disch:=omega) only [go_sem,↓reduceIte]
  refine ah (fun k0=>?_) (fun k0=>?_)
  ·try simp (disch:=omega) only [go_sem,jF,jH,↓reduceIte,reduceCtorEq,z2,v1,zt]
   refine aM (ai _ id g aA true t at4 3 (by try simp (disch:=omega) only [go_sem,↓reduceIte]) (by omega) hl) ?_
   have hx8:=aI t at4 3
   generalize bf t at4 3=dr at *
   obtain ⟨st,at5⟩:=dr
   simp only at hx8
   try simp (disch:=omega) only [go_sem,jF,↓reduceIte,reduceCtorEq,z2,v1]
   refine aM (ai _ id g aA true t at5 12 (by try simp (disch:=omega) only [go_sem,↓reduceIte]) (by omega) hl) ?_
   have hx5:=aI t at5 12
   generalize bf t at5 12=dr at *
   obtain ⟨dt,at6⟩:=dr
   simp only at hx5
   try simp (disch:=omega) only [go_sem,jF,↓reduceIte,reduceCtorEq,jO,z2,v1]
   refine aM (ai _ id g aA true t at6 60 (by try simp (disch:=omega) only [go_sem,↓reduceIte]) (by omega) hl) ?_
   have hx9:=aI t at6 60
   generalize bf t at6 60=dr at *
   obtain ⟨rl,at7⟩:=dr
   simp only at hx9
   try simp (disch:=omega) only [go_sem,jF,↓reduceIte,reduceCtorEq,z2,v1]
   refine ab (oQ (wi K hB st fr (fr+dt) rl) (.cons hZ.LH (oO.refl _))) (by simp [zp,go_sem]) ?_
   have hB2:=OC hB st fr (fr+dt) rl
   have hC2:=hC.U6 (by omega) (st:=st) (fr:=fr) (to:=fr+dt) (rl:=rl) (by omega) (by omega) (by omega)
   generalize bQ K st fr (fr+dt) rl=T at *
   obtain ⟨K2,i2,e2⟩:=T
   simp only at hB2 hC2
   try simp (disch:=omega) only [go_sem,jF,jH,↓reduceIte,reduceCtorEq,jO,z2,v1,dh,dB,hZ.put]
   refine aG m hkl (by omega) ⟨by try simp (disch:=omega) only [go_sem,↓reduceIte]; congr 1; omega,by simp only [St.aD]; omega,⟨at7,?_⟩,fun i hi hne=>?_,?_,K2,_,?_,.inl rfl,hB2,hC2⟩
   ·rw [aX (by omega)]; try simp (disch:=omega) only [go_sem,↓reduceIte,z3]
   ·have j1:¬i=n0+1:=by omega
    rw [aX (by omega)]; try simp (disch:=omega) only [go_sem,↓reduceIte,hne,j1]; exact hfr i hi hne
   ·rw [aX (by omega)]; try simp (disch:=omega) only [go_sem,↓reduceIte,jM,z1]; exact v0
   ·rw [aX (by omega)]; try simp (disch:=omega) only [go_sem,↓reduceIte]
  try simp (disch:=omega) only [go_sem,jF,↓reduceIte]
  refine ah (fun k1=>?_) (fun k1=>?_)
  ·try simp (disch:=omega) only [go_sem,jF,jH,↓reduceIte,reduceCtorEq,decide_eq_true k1,z2,v1,zt]
   skip
   refine (jr _ id g t at4 K Z hZ hB fr hl (by simp only; omega) (by try simp (disch:=omega) only [go_sem,↓reduceIte])).mono ?_
   intro r τ hDR
   obtain ⟨⟨sa,sb',sc,rfl,hs1,hs2,hs3,hs4,hs5,hs6⟩,hn2,⟨at5,hd5⟩,hf5⟩:=hDR.use (by simp only; omega)
   obtain ⟨ob2,m2,c2⟩:=τ
   simp only at hn2 hd5 hf5
   subst hn2
   have w0:=hf5 n0 (by omega) z1
   have w1:=hf5 (n0+1) (by omega) z2
   try simp (disch:=omega) only [go_sem,↓reduceIte,z1,v0] at w0
   try simp (disch:=omega) only [go_sem,↓reduceIte,z2,v1] at w1
   try simp (disch:=omega) only [go_sem,jF,jH,↓reduceIte,w1,zt]
   refine ab (oQ (rT K hB sa sb' sc fr) (.cons hZ.LH (oO.refl _))) (by simp [zp,go_sem]) ?_
   have hB2:=IV hB sa sb' sc fr
   have hC2:=hC.UL (id:=sa) (who:=sb') (code:=sc) (now:=fr)
   generalize jZ K sa sb' sc fr=T at *
   obtain ⟨K2,e2⟩:=T
   simp only at hB2 hC2
   have y1:¬n0+1=m2:=by omega
   have y2:¬m2=n0+1:=by omega
   have y3:¬m2=id:=by omega
   have y4:¬id=m2:=by omega
   have y5:¬n0=m2:=by omega
   have fin:∀ (o:Option aU) i,i<n0→i≠id→(bd (bd ob2 m2 o) m2 o) i=dH i:=fun o i hi hne=>by
    have j1:¬i=n0+1:=by omega
    rw [aa _ _ _ _ (by omega),aa _ _ _ _ (by omega),hf5 i (by omega) hne]
    try simp (disch:=omega) only [go_sem,↓reduceIte,hne]
    exact hfr i hi hne
   try simp (disch:=omega) only [go_sem,jF,jH,↓reduceIte,dh,dB,D4,n8]
   refine ah (fun q1=>?_) (fun q1=>?_)
   ·try simp (disch:=omega) only [go_sem,jF,jH,↓reduceIte,jO,dB,GK,GL,D3,y1,w1,hZ.put]
    refine aG (m2+1) hkl (by omega) ⟨by try simp (disch:=omega) only [go_sem,↓reduceIte]; congr 1; omega,by simp only [St.aD]; omega,⟨at5,?_⟩,fun i hi hne=>?_,?_,K2,_,?_,.inl rfl,hB2,hC2 q1⟩
    ·rw [aX (by omega)]; try simp (disch:=omega) only [go_sem,↓reduceIte,z3,y4]; exact hd5
    ·rw [aX (by omega),aa _ _ _ _ (by omega),aa _ _ _ _ (by omega),hf5 i (by omega) hne]
     try simp (disch:=omega) only [go_sem,↓reduceIte,hne]
     exact hfr i hi hne
    ·rw [aX (by omega)]; try simp (disch:=omega) only [go_sem,↓reduceIte,jM,y5]; exact w0
    ·rw [aX (by omega)]; try simp (disch:=omega) only [go_sem,↓reduceIte]
   ·try simp (disch:=omega) only [go_sem,jF,↓reduceIte,jO]
    refine aG (m2+1) hkl (by omega) ⟨by try simp (disch:=omega) only [go_sem,↓reduceIte]; congr 1; omega,by simp only [St.aD]; omega,⟨at5,?_⟩,fun i hi hne=>?_,?_,K,Z,?_,hZ,hB,hC.up⟩
    ·rw [aX (by omega)]; try simp (disch:=omega) only [go_sem,↓reduceIte,y4]; exact hd5
    ·rw [aX (by omega),aa _ _ _ _ (by omega),hf5 i (by omega) hne]
     try simp (disch:=omega) only [go_sem,↓reduceIte,hne]
     exact hfr i hi hne
    ·rw [aX (by omega)]; try simp (disch:=omega) only [go_sem,↓reduceIte,y5]; exact w0
    ·rw [aX (by omega)]; try simp (disch:=omega) only [go_sem,↓reduceIte,y1]; exact w1
  try simp (disch:=omega) only [go_sem,jF,↓reduceIte]
  refine ah (fun k2=>?_) (fun k2=>?_)
  ·try simp (disch:=omega) only [go_sem,jF,jH,↓reduceIte,reduceCtorEq,z2,v1,zt]
   skip
   refine (jr _ id g t at4 K Z hZ hB fr hl (by simp only; omega) (by try simp (disch:=omega) only [go_sem,↓reduceIte])).mono ?_
   intro r τ hDR
   obtain ⟨⟨sa,sb',sc,rfl,hs1,hs2,hs3,hs4,hs5,hs6⟩,hn2,⟨at5,hd5⟩,hf5⟩:=hDR.use (by simp only; omega)
   obtain ⟨ob2,m2,c2⟩:=τ
   simp only at hn2 hd5 hf5
   subst hn2
   have w0:=hf5 n0 (by omega) z1
   have w1:=hf5 (n0+1) (by omega) z2
   try simp (disch:=omega) only [go_sem,↓reduceIte,z1,v0] at w0
   try simp (disch:=omega) only [go_sem,↓reduceIte,z2,v1] at w1
   try simp (disch:=omega) only [go_sem,jF,jH,↓reduceIte,w1,zt]
   refine ab (oQ (rT K hB sa sb' sc fr) (.cons hZ.LH (oO.refl _))) (by simp [zp,go_sem]) ?_
   have hB2:=IV hB sa sb' sc fr
   have hC2:=hC.UL (id:=sa) (who:=sb') (code:=sc) (now:=fr)
   generalize jZ K sa sb' sc fr=T at *
   obtain ⟨K2,e2⟩:=T
   simp only at hB2 hC2
   have y1:¬n0+1=m2:=by omega
   have y2:¬m2=n0+1:=by omega
   have y3:¬m2=id:=by omega
   have y4:¬id=m2:=by omega
   have y5:¬n0=m2:=by omega
   have fin:∀ (o:Option aU) i,i<n0→i≠id→(bd (bd ob2 m2 o) m2 o) i=dH i:=fun o i hi hne=>by
    have j1:¬i=n0+1:=by omega
    rw [aa _ _ _ _ (by omega),aa _ _ _ _ (by omega),hf5 i (by omega) hne]
    try simp (disch:=omega) only [go_sem,↓reduceIte,hne]
    exact hfr i hi hne
   try simp (disch:=omega) only [go_sem,jF,jH,↓reduceIte,dh,dB,D4,n8]
   refine ah (fun q1=>?_) (fun q1=>?_)
   ·try simp (disch:=omega) only [go_sem,jF,jH,↓reduceIte,jO,dB,GK,GL,D3,y1,w1,hZ.put]
    refine aG (m2+1) hkl (by omega) ⟨by try simp (disch:=omega) only [go_sem,↓reduceIte]; congr 1; omega,by simp only [St.aD]; omega,⟨at5,?_⟩,fun i hi hne=>?_,?_,K2,_,?_,.inl rfl,hB2,hC2 q1⟩
    ·rw [aX (by omega)]; try simp (disch:=omega) only [go_sem,↓reduceIte,z3,y4]; exact hd5
    ·rw [aX (by omega),aa _ _ _ _ (by omega),aa _ _ _ _ (by omega),hf5 i (by omega) hne]
     try simp (disch:=omega) only [go_sem,↓reduceIte,hne]
     exact hfr i hi hne
    ·rw [aX (by omega)]; try simp (disch:=omega) only [go_sem,↓reduceIte,jM,y5]; exact w0
    ·rw [aX (by omega)]; try simp (disch:=omega) only [go_sem,↓reduceIte]
   ·try simp (disch:=omega) only [go_sem,jF,↓reduceIte,jO]
    refine aG (m2+1) hkl (by omega) ⟨by try simp (disch:=omega) only [go_sem,↓reduceIte]; congr 1; omega,by simp only [St.aD]; omega,⟨at5,?_⟩,fun i hi hne=>?_,?_,K,Z,?_,hZ,hB,hC.up⟩
    ·rw [aX (by omega)]; try simp (disch:=omega) only [go_sem,↓reduceIte,y4]; exact hd5
    ·rw [aX (by omega),aa _ _ _ _ (by omega),hf5 i (by omega) hne]
     try simp (disch:=omega) only [go_sem,↓reduceIte,hne]
     exact hfr i hi hne
    ·rw [aX (by omega)]; try simp (disch:=omega) only [go_sem,↓reduceIte,y5]; exact w0
    ·rw [aX (by omega)]; try simp (disch:=omega) only [go_sem,↓reduceIte,y1]; exact w1
  try simp (disch:=omega) only [go_sem,jF,jH,↓reduceIte,reduceCtorEq,z2,v1,zt]
  skip
  refine (jr _ id g t at4 K Z hZ hB fr hl (by simp only; omega) (by try simp (disch:=omega) only [go_sem,↓reduceIte])).mono ?_
  intro r τ hDR
  obtain ⟨⟨sa,sb',sc,rfl,hs1,hs2,hs3,hs4,hs5,hs6⟩,hn2,⟨at5,hd5⟩,hf5⟩:=hDR.use (by simp only; omega)
  obtain ⟨ob2,m2,c2⟩:=τ
  simp only at hn2 hd5 hf5
  subst hn2
  have w0:=hf5 n0 (by omega) z1
  have w1:=hf5 (n0+1) (by omega) z2
  try simp (disch:=omega) only [go_sem,↓reduceIte,z1,v0] at w0
  try simp (disch:=omega) only [go_sem,↓reduceIte,z2,v1] at w1
  try simp (disch:=omega) only [go_sem,jF,jH,↓reduceIte,w1,zt]
  refine ab (oQ (uh K hB sa sb' sc fr) (.cons hZ.LH (oO.refl _))) (by simp [zp,go_sem]) ?_
  have hB2:=Nn hB sa sb' sc fr
  have hC2:=hC.UX (id:=sa) (who:=sb') (code:=sc) (now:=fr)
  generalize ki K sa sb' sc fr=T at *
  obtain ⟨K2,e2⟩:=T
  simp only at hB2 hC2
  have y1:¬n0+1=m2:=by omega
  have y2:¬m2=n0+1:=by omega
  have y3:¬m2=id:=by omega
  have y4:¬id=m2:=by omega
  have y5:¬n0=m2:=by omega
  have fin:∀ (o:Option aU) i,i<n0→i≠id→(bd (bd ob2 m2 o) m2 o) i=dH i:=fun o i hi hne=>by
   have j1:¬i=n0+1:=by omega
   rw [aa _ _ _ _ (by omega),aa _ _ _ _ (by omega),hf5 i (by omega) hne]
   try simp (disch:=omega) only [go_sem,↓reduceIte,hne]
   exact hfr i hi hne
  try simp (disch:=omega) only [go_sem,jF,jH,↓reduceIte,dh,dB,D4,n8]
  refine ah (fun q1=>?_) (fun q1=>?_)
  ·try simp (disch:=omega) only [go_sem,jF,jH,↓reduceIte,jO,dB,GK,GL,D3,y1,w1,hZ.put]
   refine aG (m2+1) hkl (by omega) ⟨by try simp (disch:=omega) only [go_sem,↓reduceIte]; congr 1; omega,by simp only [St.aD]; omega,⟨at5,?_⟩,fun i hi hne=>?_,?_,K2,_,?_,.inl rfl,hB2,hC2 q1⟩
   ·rw [aX (by omega)]; try simp (disch:=omega) only [go_sem,↓reduceIte,z3,y4]; exact hd5
   ·rw [aX (by omega),aa _ _ _ _ (by omega),aa _ _ _ _ (by omega),hf5 i (by omega) hne]
    try simp (disch:=omega) only [go_sem,↓reduceIte,hne]
    exact hfr i hi hne
   ·rw [aX (by omega)]; try simp (disch:=omega) only [go_sem,↓reduceIte,jM,y5]; exact w0
   ·rw [aX (by omega)]; try simp (disch:=omega) only [go_sem,↓reduceIte]
  ·try simp (disch:=omega) only [go_sem,jF,↓reduceIte,jO]
   refine aG (m2+1) hkl (by omega) ⟨by try simp (disch:=omega) only [go_sem,↓reduceIte]; congr 1; omega,by simp only [St.aD]; omega,⟨at5,?_⟩,fun i hi hne=>?_,?_,K,Z,?_,hZ,hB,hC.up⟩
   ·rw [aX (by omega)]; try simp (disch:=omega) only [go_sem,↓reduceIte,y4]; exact hd5
   ·rw [aX (by omega),aa _ _ _ _ (by omega),hf5 i (by omega) hne]
    try simp (disch:=omega) only [go_sem,↓reduceIte,hne]
    exact hfr i hi hne
   ·rw [aX (by omega)]; try simp (disch:=omega) only [go_sem,↓reduceIte,y5]; exact w0
   ·rw [aX (by omega)]; try simp (disch:=omega) only [go_sem,↓reduceIte,y1]; exact w1
 obtain rfl:k=N:=by omega
 have zo:Z.cells.take 3=Z.cells∧Z.cells.all AV.one=true∧AV.agg Z.cells=Z∧gH 0 Z (.agg [.nil,.int .i64 0,.nil])=Z:=by
  rcases hZ with rfl | ⟨ps,rfl,rfl⟩ <;> exact ⟨rfl,rfl,rfl,rfl⟩
 obtain ⟨zo1,zo2,zo3,zo4⟩:=zo
 try simp (disch:=omega) only [go_sem,jF,jH,↓reduceIte,v0,v1,zl,zo1,zo2,zo3]
 refine ⟨bM K,at2,hZ.mU,⟨K,rfl,hB,hC.1⟩,by simp only; rw [aa _ _ _ _ z0]; exact hd,fun i hi hne=>?_⟩
 simp only at hi
 simp only
 rw [aa _ _ _ _ (by omega)]
 exact hfr i hi hne
theorem LV (σ:St) (id g:Nat) (t:List Int) (at':Nat) (hl:t.length≤9223372036854775807) (hid:id<σ.n) (hob:σ.ob id=some ⟨g,2,aA,false,true,[bA t at']⟩) :
  HC prog xz [.ptr id g 2 0 0] σ (ej σ id g t fun r=>∃ K,r=bM K∧Bg K):=
 (sf σ id g t at' hl hid hob).mono fun _ _ h=>h.mono fun _ ⟨K,h1,h2,_⟩=>⟨K,h1,h2⟩
def Ak (B:Bk) (K:Dk) (s:Sd):AV:=.agg [.list 4 (lE B.op),.list 6 (iG B.rp),.list 3 (pR K.ps),.int .i64 K.nx,.list 7 (yz K.ds),.int .i64 s.n,.list 4 (cH s.l)]
theorem yV (B:Bk) (K:Dk) (s:Sd):(Ak B K s).cL=true:=by simp [Ak,go_sem]
theorem BN (σ:St) (id g:Nat) (t:List Int) (at':Nat) (hl:t.length≤9223372036854775807) (hid:id<σ.n) (hob:σ.ob id=some ⟨g,2,aA,false,true,[bA t at']⟩) :
  HC prog E8 [.ptr id g 2 0 0] σ (ej σ id g t fun r=>∃ B T K s,r=Ak B K s∧Pa B T∧Bg K∧Pb s∧cd K=true∧db s=true):=by
 refine HC.wU hid ?_
 obtain ⟨dH,n0,c0⟩:=σ
 simp only at hob hid
 refine aL FR (by simp) ?_
 simp only [xL]
 have z0:¬id=n0:=by omega
 have z1:¬n0=id:=by omega
 have z2:¬n0+1=id:=by omega
 have z3:¬id=n0+1:=by omega
 try simp (disch:=omega) only [go_sem,↓reduceIte,reduceCtorEq]
 refine (DS _ id g t at' hl (by simp only; omega) (by try simp (disch:=omega) only [go_sem,↓reduceIte,z0]; exact hob)).mono ?_
 intro r τ hDR
 obtain ⟨⟨B,T,rfl,hT⟩,hn,⟨at1,hd⟩,hf⟩:=hDR.use (by simp only; omega)
 obtain ⟨ob1,n1,c1⟩:=τ
 simp only at hn hd hf
 subst hn
 have u0:=hf n0 (by omega) z1
 try simp (disch:=omega) only [go_sem,↓reduceIte] at u0
 try simp (disch:=omega) only [go_sem,jF,jG,jH,↓reduceIte,reduceCtorEq,jv]
 refine (Au _ id g t at1 hl (by simp only; omega) (by try simp (disch:=omega) only [go_sem,↓reduceIte,z3]; exact hd)).mono ?_
 intro r τ hDR2
 obtain ⟨⟨s,u,rfl,hs,hso⟩,hn,⟨at2,hd2⟩,hf2⟩:=hDR2.use (by simp only; omega)
 obtain ⟨ob2,n2,c2⟩:=τ
 simp only at hn hd2 hf2
 subst hn
 have w0:=hf2 n0 (by omega) z1
 have w1:=hf2 (n0+1) (by omega) z2
 have y1:¬n0=n0+1:=by omega
 try simp (disch:=omega) only [go_sem,↓reduceIte,y1,u0] at w0
 try simp (disch:=omega) only [go_sem,↓reduceIte] at w1
 have z4:¬n0+1+1=id:=by omega
 have z5:¬id=n0+1+1:=by omega
 have z6:¬n0+1+1+1=id:=by omega
 have z7:¬id=n0+1+1+1:=by omega
 try simp (disch:=omega) only [go_sem,jF,jG,jH,↓reduceIte,reduceCtorEq,jM,mr,HV,w1]
 refine (sf _ id g t at2 hl (by simp only; omega) (by try simp (disch:=omega) only [go_sem,↓reduceIte,z5,z7]; exact hd2)).mono ?_
 intro r τ hDR3
 obtain ⟨⟨K,rfl,hK,hKc⟩,hn,⟨at3,hd3⟩,hf3⟩:=hDR3.use (by simp only; omega)
 obtain ⟨ob3,n3,c3⟩:=τ
 simp only at hn hd3 hf3
 subst hn
 have x0:=hf3 n0 (by omega) z1
 have x1:=hf3 (n0+1) (by omega) z2
 have x2:=hf3 (n0+1+1) (by omega) z4
 have y2:¬n0=n0+1+1:=by omega
 have y3:¬n0=n0+1+1+1:=by omega
 have y4:¬n0+1=n0+1+1:=by omega
 have y5:¬n0+1=n0+1+1+1:=by omega
 have y6:¬n0+1+1=n0+1+1+1:=by omega
 try simp (disch:=omega) only [go_sem,↓reduceIte,y2,y3,w0] at x0
 try simp (disch:=omega) only [go_sem,↓reduceIte,y4,y5,w1] at x1
 try simp (disch:=omega) only [go_sem,↓reduceIte,y6] at x2
 try simp (disch:=omega) only [go_sem,jF,jG,jH,↓reduceIte,reduceCtorEq,bM,x0,x1,x2,y4,y5,y6]
 refine ⟨w1.symm,_,at3,.pure (yV B K s),⟨B,T,K,s,rfl,hT,hK,hs,hKc,hso⟩,by simp only; rw [aa _ _ _ _ z0]; exact hd3,fun i hi hne=>?_⟩
 simp only at hi
 simp only
 have j0:¬i=n0:=by omega
 have j1:¬i=n0+1:=by omega
 have j2:¬i=n0+1+1:=by omega
 have j3:¬i=n0+1+1+1:=by omega
 rw [aa _ _ _ _ j0,hf3 i (by omega) hne]
 try simp (disch:=omega) only [go_sem,↓reduceIte,j2,j3]
 rw [hf2 i (by omega) hne]
 try simp (disch:=omega) only [go_sem,↓reduceIte,j1]
 rw [hf i (by omega) hne]
 try simp (disch:=omega) only [go_sem,↓reduceIte,j0]
theorem LY {a:Ac} {t:Tr} (hT:Mm a t) (h:(dJ a).2=0):TU a ⟨(dJ a).1.1,(dJ a).1.2.1,(dJ a).1.2.2⟩:=by
 have hG:=hT.g
 have hok:=hG.ok
 have ht:(dG a).2=0:=by
  unfold dJ at h
  split at h
  ·exact h
  ·rename_i h1; simpa using h1
 obtain ⟨_,hv,ht1⟩:=Co ht
 have hF:=Fk hok hv
 have e:dJ a=((vO (a.ins.length+1) (sq a (jX a)),vO a.ins.length (cm a (jX a)),vO a.ins.length (og a (jX a))),0):=by
  unfold dJ
  rw [if_neg (by simp [ht]),ht1]
 obtain ⟨n,hD⟩:=hT
 have hn:=hD.hi.1
 have h5:=hD.n5
 have ls:=hD.h.ls
 have li:=hD.h.li
 have lo:=hD.h.lo
 rw [e]
 refine ⟨?_,dZ _ _,dZ _ _,dZ _ _,hok,fun i hi=>?_,fun i hi=>?_,fun i hi=>?_⟩
 ·refine ⟨fun i hi=>?_,fun i hi=>?_,fun i hi=>?_,fun i hi=>?_⟩
  ·simp only; rw [eU _ (by omega)]; exact hF.st i hi
  ·simp only; rw [eU _ hi]; exact hF.ins i hi
  ·simp only; rw [eU _ hi]; exact hF.outs i hi
  ·simp only; rw [eU _ (by omega),eU _ (by omega),eU _ hi,eU _ hi]; exact hF.PY i hi
 ·simp only; rw [eU _ (by omega)]
  have h1:=hF.st i hi
  have h2:=hD.s.b i (by omega)
  have h3:=hD.h.s i (by omega)
  simp only [ir,Cg] at h1 h2; omega
 ·simp only; rw [eU _ hi]
  have h1:=hF.ins i hi
  have h2:=hD.i.b i (by omega)
  have h3:=hD.h.i i (by omega)
  simp only [ir,Cg] at h1 h2; omega
 ·simp only; rw [eU _ hi]
  have h1:=hF.outs i hi
  have h2:=hD.o.b i (by omega)
  have h3:=hD.h.o i (by omega)
  simp only [ir,Cg] at h1 h2; omega
theorem eD {n:Int} (h0:0≤n) (h1:n≤274877906944):vB n=true:=by simp [vB,h0,h1]
def Ni (q:Rc):Prop:=bc q=true∧q.sg=[]
theorem Rn {nu ac fd tm lo hi:Int} (h:vB nu=true∧vB ac=true∧vB fd=true∧vB tm=true∧vB lo=true∧vB hi=true):Ni ⟨1,nu,ac,fd,tm,lo,hi,0,0,0,0,0,[],false,0,0,0,0,0,0,0⟩:=by
 refine ⟨?_,rfl⟩
 simp [bc,aJ,bh,cI,fE,sI,pD,h]
theorem Tx {st fr to rl:Int} (h:vB st=true∧vB fr=true∧vB to=true∧vB rl=true):Ni ⟨2,0,0,0,0,0,0,0,st,fr,to,rl,[],false,0,0,0,0,0,0,0⟩:=by
 refine ⟨?_,rfl⟩
 simp [bc,aJ,bh,cI,fE,sI,pD,h]
theorem M7 {k a b c tm:Int} (hk:k=3∨k=4) (h:vB a=true∧vB b=true∧vB c=true∧vB tm=true):Ni ⟨k,0,0,0,0,0,0,a,0,0,0,0,[],false,b,c,tm,0,0,0,0⟩:=by
 refine ⟨?_,rfl⟩
 rcases hk with rfl | rfl <;> simp [bc,aJ,bh,cI,fE,sI,pD,h]
theorem Tw {k i v:Int} (h:vB k=true∧vB i=true∧vB v=true):Ni ⟨5,0,0,0,0,0,0,0,0,0,0,0,[],false,0,0,0,0,k,i,v⟩:=by
 refine ⟨?_,rfl⟩
 simp [bc,aJ,bh,cI,fE,sI,pD,h]
theorem Tv {n:Int} (h:vB n=true):Ni ⟨6,0,0,0,0,0,0,0,0,0,0,0,[],false,0,0,0,n,0,0,0⟩:=by
 refine ⟨?_,rfl⟩
 simp [bc,aJ,bh,cI,fE,sI,pD,h]
theorem GB (B:Bk) (K:Dk) (s:Sd):(Ak B K s).cells.getD 0 .bC=.list 4 (lE B.op):=rfl
theorem OP (B:Bk) (K:Dk) (s:Sd):(Ak B K s).cells.getD 5 .bC=.int .i64 s.n:=rfl
theorem LS (B:Bk) (K:Dk) (s:Sd):(Ak B K s).cells.length=7:=rfl
theorem Jy (B:Bk) (K:Dk) (s:Sd):(Ak B K s).flat=true:=rfl
theorem Jz (B:Bk) (K:Dk) (s:Sd):AV.agg (((Ak B K s).cells.drop 2).take 3)=bM K:=rfl
structure US (op:List Ac) (T:List Tr):Prop where
 n1:1≤op.length
 n2:op.length≤2
 tr:∀ i,i<op.length→Mm (gA op i) (gT T i)
theorem Pa.o {B:Bk} {T:List Tr} (h:Pa B T):US B.op T:=⟨h.n1,h.n2,h.tr⟩
theorem As (σ:St) (id g:Nat) (t:List Int) (at':Nat) (B:Bk) (T:List Tr) (K:Dk) (s:Sd) (hT:US B.op T) (hK:Bg K) (hs:Pb s) (hl:t.length≤9223372036854775807) (hid:id<σ.n) (hob:σ.ob id=some ⟨g,2,aA,false,true,[bA t at']⟩) :
  HC prog BK [.ptr id g 2 0 0,Ak B K s] σ (ej σ id g t fun r=>∃ q:Rc,r=dn q∧Ni q):=by
 refine HC.wU hid ?_
 obtain ⟨dH,n0,c0⟩:=σ
 simp only at hob hid
 refine aL Cc (by simp) ?_
 simp only [sL]
 have z0:¬id=n0:=by omega
 have z1:¬n0=id:=by omega
 have z2:¬n0+1=id:=by omega
 have z3:¬id=n0+1:=by omega
 have z4:¬n0+1+1=id:=by omega
 have z5:¬id=n0+1+1:=by omega
 have hbk:=tW
 have hfl:∀ q,(gY .nil q).flat=true:=fun q=>eR q rfl
 try simp (disch:=omega) only [go_sem,↓reduceIte,reduceCtorEq,Jy,LS]
 refine aM (ai _ id g aA true t at' 6 (by try simp (disch:=omega) only [go_sem,↓reduceIte,z0,z3]; exact hob) (by omega) hl) ?_
 have hx1:=aI t at' 6
 generalize bf t at' 6=dr at *
 obtain ⟨x0,at1⟩:=dr
 simp only at hx1
 try simp (disch:=omega) only [go_sem,jF,jG,jH,↓reduceIte,jO]
 have fin:∀ (q:Rc) (hq:Ni q) (ob':Nat→Option aU) (c' m' at2:Nat),ob' id=some ⟨g,2,aA,false,true,[bA t at2]⟩→(∀ i,i<n0→i≠id→ob' i=dH i)→C2 ⟨dH,n0,c0⟩ id g t (fun r=>∃ q:Rc,r=dn q∧Ni q) (gY .nil q) ⟨ob',m',c'⟩:=
  fun q hq ob' c' m' at2 h1 h2=>⟨dn q,at2,iH hq.2,⟨q,rfl,hq⟩,h1,h2⟩
 have b0:=hT.n1
 have b1:=hT.n2
 have y1:¬n0=n0+1:=by omega
 have y2:¬n0=n0+1+1:=by omega
 have y3:¬id=n0+1+1+1:=by omega
 have y4:¬n0+1+1+1=id:=by omega
 have y5:¬n0+1=n0+1+1:=by omega
 have y6:¬n0+1=n0+1+1+1:=by omega
 have y7:¬n0+1+1=n0+1+1+1:=by omega
 refine ah (fun k1=>?_) (fun k1=>?_)
 ·try simp (disch:=omega) only [go_sem,jF,jH,↓reduceIte,y1,y2,z1,GB,aN]
  refine ah (fun q1=>?_) (fun q1=>?_)
  ·try simp (disch:=omega) only [go_sem,jF,jH,↓reduceIte,reduceCtorEq,y1,y2,z1,GB,aN]
   refine aM (ai _ id g aA true t at1 B.op.length (by try simp (disch:=omega) only [go_sem,↓reduceIte,jM]) (by omega) hl) ?_
   have hx2:=aI t at1 B.op.length
   generalize bf t at1 B.op.length=dr at *
   obtain ⟨x1,at2⟩:=dr
   simp only at hx2
   obtain ⟨i,hi⟩:∃ i:Nat,(i:Int)=x1∧i<B.op.length:=⟨x1.toNat,by omega,by omega⟩
   obtain ⟨rfl,hi⟩:=hi
   have hA:=hT.tr i hi
   have hg:=iw hi
   have hFg:=LY hA
   have hok:=hA.g.ok
   generalize gA B.op i=a at *
   try simp (disch:=omega) only [go_sem,jF,jG,jH,↓reduceIte,y1,y2,z1,GB,aN,fg,hg,Option.map_some,gG]
   refine ⟨by omega,by omega,?_⟩
   refine ab (zK a hok.l) (by simp [go_sem]) ?_
   try simp (disch:=omega) only [go_sem,jF,↓reduceIte]
   refine ah (fun q2=>?_) (fun q2=>?_)
   ·try simp (disch:=omega) only [go_sem,jF,jG,jH,↓reduceIte,reduceCtorEq]
    refine aM (ai _ id g aA true t at2 30 (by try simp (disch:=omega) only [go_sem,↓reduceIte,y3]) (by omega) hl) ?_
    have hx3:=aI t at2 30
    generalize bf t at2 30=dr at *
    obtain ⟨x3,at3⟩:=dr
    simp only at hx3
    try simp (disch:=omega) only [go_sem,jF,↓reduceIte,jO,y4]
    refine (oW _ id g t at3 a ⟨(dJ a).1.1,(dJ a).1.2.1,(dJ a).1.2.2⟩ (hFg q2) i (1+x3) hl (by simp only; omega) (by try simp (disch:=omega) only [go_sem,↓reduceIte])).mono ?_
    intro r τ hDR
    obtain ⟨⟨q,rfl,hq1,hq2,hq3,hq4,hq5⟩,hn,⟨at4,hd⟩,hf⟩:=hDR.use (by simp only; omega)
    obtain ⟨ob1,n1,c1⟩:=τ
    simp only at hn hd hf
    subst hn
    have u1:=hf (n0+1) (by omega) z2
    have u2:=hf (n0+1+1) (by omega) z4
    try simp (disch:=omega) only [go_sem,↓reduceIte,y5,y6,z2] at u1
    try simp (disch:=omega) only [go_sem,↓reduceIte,y7,z4] at u2
    try simp (disch:=omega) only [go_sem,jF,jG,jH,↓reduceIte,reduceCtorEq,ek,u1,u2,y4,y5]
    rw [k1]
    have hb4:=hq3.b
    have hfl9:=yX hok hq3.fd
    have hf1:=hok.f1
    have hn2:=hok.n2
    have hf0:=hok.f0
    have ht0:=hq3.t0
    have ht1:=hq3.t1
    have hfd:=hq3.fd
    simp only [fG] at hb4
    have htm:q.tm≤16777216:=by
     rw [hfl9] at ht1
     split at ht1 <;> omega
    refine fin ⟨1,q.nu,q.ac,q.fd,q.tm,q.b.lo,q.b.hi,0,0,0,0,0,[],false,0,0,0,0,0,0,0⟩ (Rn ⟨eD (by omega) (by omega),eD (by omega) (by omega),eD (by omega) (by omega),eD (by omega) (by omega),eD (by omega) (by omega),eD (by omega) (by omega)⟩) _ _ _ at4 (by try simp (disch:=omega) only [go_sem,↓reduceIte,z3,z5]; exact hd) fun i hi hne=>?_
    have j0:¬i=n0:=by omega
    have j1:¬i=n0+1:=by omega
    have j2:¬i=n0+1+1:=by omega
    have j3:¬i=n0+1+1+1:=by omega
    try simp (disch:=omega) only [go_sem,↓reduceIte,j1,j2]
    rw [hf i (by omega) hne]
    try simp (disch:=omega) only [go_sem,↓reduceIte,j0,j1,j2,j3,hne]
   ·try simp (disch:=omega) only [go_sem,jF,jG,jH,↓reduceIte,y5,y6,y7,z2,z4]
    rw [k1]
    refine fin (pD 1) (Rn ⟨rfl,rfl,rfl,rfl,rfl,rfl⟩) _ _ _ at2 (by try simp (disch:=omega) only [go_sem,↓reduceIte,y3,z3]) fun i hi hne=>?_
    have j0:¬i=n0:=by omega
    have j1:¬i=n0+1:=by omega
    have j2:¬i=n0+1+1:=by omega
    have j3:¬i=n0+1+1+1:=by omega
    try simp (disch:=omega) only [go_sem,↓reduceIte,j0,j1,j2,j3,hne]
  ·omega
 try simp (disch:=omega) only [go_sem,jF,↓reduceIte]
 refine ah (fun k2=>?_) (fun k2=>?_)
 ·try simp (disch:=omega) only [go_sem,↓reduceIte,reduceCtorEq]
  refine aM (ai _ id g aA true t at1 12 (by try simp (disch:=omega) only [go_sem,↓reduceIte,z5]) (by omega) hl) ?_
  have hx2:=aI t at1 12
  generalize bf t at1 12=dr at *
  obtain ⟨x1,at2⟩:=dr
  simp only at hx2
  try simp (disch:=omega) only [go_sem,↓reduceIte,reduceCtorEq]
  refine aM (ai _ id g aA true t at2 3 (by try simp (disch:=omega) only [go_sem,↓reduceIte]) (by omega) hl) ?_
  have hx3:=aI t at2 3
  generalize bf t at2 3=dr at *
  obtain ⟨x2,at3⟩:=dr
  simp only at hx3
  try simp (disch:=omega) only [go_sem,jF,↓reduceIte,reduceCtorEq]
  refine aM (ai _ id g aA true t at3 12 (by try simp (disch:=omega) only [go_sem,↓reduceIte]) (by omega) hl) ?_
  have hx4:=aI t at3 12
  generalize bf t at3 12=dr at *
  obtain ⟨x3,at4⟩:=dr
  simp only at hx4
  try simp (disch:=omega) only [go_sem,jF,↓reduceIte,reduceCtorEq,jO]
  refine aM (ai _ id g aA true t at4 60 (by try simp (disch:=omega) only [go_sem,↓reduceIte]) (by omega) hl) ?_
  have hx5:=aI t at4 60
  generalize bf t at4 60=dr at *
  obtain ⟨x4,at5⟩:=dr
  simp only at hx5
  try simp (disch:=omega) only [go_sem,jF,jG,jH,↓reduceIte,y5,z2,z4]
  rw [k2]
  refine fin ⟨2,0,0,0,0,0,0,0,x2,x1,x1+x3,x4,[],false,0,0,0,0,0,0,0⟩ (Tx ⟨eD (by omega) (by omega),eD (by omega) (by omega),eD (by omega) (by omega),eD (by omega) (by omega)⟩) _ _ _ at5 (by try simp (disch:=omega) only [go_sem,↓reduceIte,z3,z5]) fun i hi hne=>?_
  have j0:¬i=n0:=by omega
  have j1:¬i=n0+1:=by omega
  have j2:¬i=n0+1+1:=by omega
  have j3:¬i=n0+1+1+1:=by omega
  try simp (disch:=omega) only [go_sem,↓reduceIte,j0,j1,j2,hne]
 try simp (disch:=omega) only [go_sem,jF,↓reduceIte]
 refine ah (fun k3=>?_) (fun k3=>?_)
 ·try simp (disch:=omega) only [go_sem,jF,jG,jH,↓reduceIte,reduceCtorEq,decide_eq_true k3,y1,y2,z1,Jz]
  refine (kZ _ id g t at1 K hK 0 hl (by simp only; omega) (by try simp (disch:=omega) only [go_sem,↓reduceIte,z5])).mono ?_
  intro r τ hDR
  obtain ⟨⟨a,b,c,rfl,hs1,hs2,hs3,hs4,hs5,hs6⟩,hn,⟨at2,hd⟩,hf⟩:=hDR.use (by simp only; omega)
  obtain ⟨ob1,n1,c1⟩:=τ
  simp only at hn hd hf
  subst hn
  have u1:=hf (n0+1) (by omega) z2
  have u2:=hf (n0+1+1) (by omega) z4
  try simp (disch:=omega) only [go_sem,↓reduceIte,y5,z2] at u1
  try simp (disch:=omega) only [go_sem,↓reduceIte] at u2
  try simp (disch:=omega) only [go_sem,jF,jG,jH,↓reduceIte,reduceCtorEq,u2]
  refine aM (ai _ id g aA true t at2 12 (by try simp (disch:=omega) only [go_sem,↓reduceIte,z5]; exact hd) (by omega) hl) ?_
  have hx4:=aI t at2 12
  generalize bf t at2 12=dr at *
  obtain ⟨x4,at4⟩:=dr
  simp only at hx4
  try simp (disch:=omega) only [go_sem,jF,jG,jH,↓reduceIte,u1,y5,z2,z4]
  rw [k3]
  refine fin ⟨3,0,0,0,0,0,0,a,0,0,0,0,[],false,b,c,x4,0,0,0,0⟩ (M7 (by omega) ⟨eD (by omega) (by omega),eD (by omega) (by omega),eD (by omega) (by omega),eD (by omega) (by omega)⟩) _ _ _ at4 (by try simp (disch:=omega) only [go_sem,↓reduceIte,z3,z5]) fun i hi hne=>?_
  have j0:¬i=n0:=by omega
  have j1:¬i=n0+1:=by omega
  have j2:¬i=n0+1+1:=by omega
  have j3:¬i=n0+1+1+1:=by omega
  try simp (disch:=omega) only [go_sem,↓reduceIte,j1,j2,hne]
  rw [hf i (by omega) hne]
  try simp (disch:=omega) only [go_sem,↓reduceIte,j0,j1,j2,hne]
 try simp (disch:=omega) only [go_sem,jF,↓reduceIte]
 refine ah (fun k4=>?_) (fun k4=>?_)
 ·try simp (disch:=omega) only [go_sem,jF,jG,jH,↓reduceIte,reduceCtorEq,y1,y2,z1,Jz]
  refine (kZ _ id g t at1 K hK 0 hl (by simp only; omega) (by try simp (disch:=omega) only [go_sem,↓reduceIte,z5])).mono ?_
  intro r τ hDR
  obtain ⟨⟨a,b,c,rfl,hs1,hs2,hs3,hs4,hs5,hs6⟩,hn,⟨at2,hd⟩,hf⟩:=hDR.use (by simp only; omega)
  obtain ⟨ob1,n1,c1⟩:=τ
  simp only at hn hd hf
  subst hn
  have u1:=hf (n0+1) (by omega) z2
  have u2:=hf (n0+1+1) (by omega) z4
  try simp (disch:=omega) only [go_sem,↓reduceIte,y5,z2] at u1
  try simp (disch:=omega) only [go_sem,↓reduceIte] at u2
  try simp (disch:=omega) only [go_sem,jF,jG,jH,↓reduceIte,reduceCtorEq,u2]
  refine aM (ai _ id g aA true t at2 12 (by try simp (disch:=omega) only [go_sem,↓reduceIte,z5]; exact hd) (by omega) hl) ?_
  have hx4:=aI t at2 12
  generalize bf t at2 12=dr at *
  obtain ⟨x4,at4⟩:=dr
  simp only at hx4
  try simp (disch:=omega) only [go_sem,jF,jG,jH,↓reduceIte,u1,y5,z2,z4]
  rw [k4]
  refine fin ⟨4,0,0,0,0,0,0,a,0,0,0,0,[],false,b,c,x4,0,0,0,0⟩ (M7 (by omega) ⟨eD (by omega) (by omega),eD (by omega) (by omega),eD (by omega) (by omega),eD (by omega) (by omega)⟩) _ _ _ at4 (by try simp (disch:=omega) only [go_sem,↓reduceIte,z3,z5]) fun i hi hne=>?_
  have j0:¬i=n0:=by omega
  have j1:¬i=n0+1:=by omega
  have j2:¬i=n0+1+1:=by omega
  have j3:¬i=n0+1+1+1:=by omega
  try simp (disch:=omega) only [go_sem,↓reduceIte,j1,j2,hne]
  rw [hf i (by omega) hne]
  try simp (disch:=omega) only [go_sem,↓reduceIte,j0,j1,j2,hne]
 try simp (disch:=omega) only [go_sem,jF,↓reduceIte]
 refine ah (fun k5=>?_) (fun k5=>?_)
 ·try simp (disch:=omega) only [go_sem,↓reduceIte,reduceCtorEq]
  refine (fT _ id g t at1 1 hl (by simp only; omega) (by try simp (disch:=omega) only [go_sem,↓reduceIte,z5])).mono ?_
  intro r τ hDR
  obtain ⟨⟨kk,ii,vv,rfl,hOB⟩,hn,⟨at2,hd⟩,hf⟩:=hDR.use (by simp only; omega)
  obtain ⟨ob1,n1,c1⟩:=τ
  simp only at hn hd hf
  subst hn
  have u1:=hf (n0+1) (by omega) z2
  have u2:=hf (n0+1+1) (by omega) z4
  try simp (disch:=omega) only [go_sem,↓reduceIte,y5,z2] at u1
  try simp (disch:=omega) only [go_sem,↓reduceIte] at u2
  try simp (disch:=omega) only [go_sem,jF,jG,jH,↓reduceIte,gE,u1,u2,y5,y6,y7]
  rw [k5]
  simp only [SV] at hOB
  refine fin ⟨5,0,0,0,0,0,0,0,0,0,0,0,[],false,0,0,0,0,kk,ii,vv⟩ (Tw ⟨eD (by omega) (by omega),eD (by omega) (by omega),eD (by omega) (by omega)⟩) _ _ _ at2 (by try simp (disch:=omega) only [go_sem,↓reduceIte,y3,z3,z5]; exact hd) fun i hi hne=>?_
  have j0:¬i=n0:=by omega
  have j1:¬i=n0+1:=by omega
  have j2:¬i=n0+1+1:=by omega
  have j3:¬i=n0+1+1+1:=by omega
  try simp (disch:=omega) only [go_sem,↓reduceIte,j1,j2,j3]
  rw [hf i (by omega) hne]
  try simp (disch:=omega) only [go_sem,↓reduceIte,j0,j1,j2,hne]
 have k6:1+x0=6:=by omega
 try simp (disch:=omega) only [go_sem,jF,jG,jH,↓reduceIte,reduceCtorEq,y1,y2,z1,OP]
 refine aM (ai _ id g aA true t at1 s.n (by try simp (disch:=omega) only [go_sem,↓reduceIte,z5]) (by have:=hs.2; omega) hl) ?_
 have hx2:=aI t at1 s.n
 generalize bf t at1 s.n=dr at *
 obtain ⟨x1,at2⟩:=dr
 simp only at hx2
 try simp (disch:=omega) only [go_sem,jF,jG,jH,↓reduceIte,y5,z2,z4]
 rw [k6]
 have hs2:=hs.2
 refine fin ⟨6,0,0,0,0,0,0,0,0,0,0,0,[],false,0,0,0,x1,0,0,0⟩ (Tv (eD (by omega) (by omega))) _ _ _ at2 (by try simp (disch:=omega) only [go_sem,↓reduceIte,z3,z5]) fun i hi hne=>?_
 have j0:¬i=n0:=by omega
 have j1:¬i=n0+1:=by omega
 have j2:¬i=n0+1+1:=by omega
 have j3:¬i=n0+1+1+1:=by omega
 try simp (disch:=omega) only [go_sem,↓reduceIte,j0,j1,j2,hne]
def xS (l:List Int):Int:=65536 * (gL l 1 0).2+(gL l 1 0).1
theorem G7 (s:ByteArray):rk s=xS (sb s):=rfl
theorem EK:∀ (l:List Int) (a b:Int),0≤a→a<65521→0≤b→b<65521→0≤(gL l a b).1∧(gL l a b).1<65521∧0≤(gL l a b).2∧(gL l a b).2<65521
 | [],a,b,h1,h2,h3,h4=>⟨h1,h2,h3,h4⟩
 | x :: l,a,b,h1,h2,h3,h4=>by
  simp only [gL]
  exact EK l _ _ (Int.emod_nonneg _ (by decide)) (Int.emod_lt_of_pos _ (by decide)) (Int.emod_nonneg _ (by decide)) (Int.emod_lt_of_pos _ (by decide))
theorem Ll (l:List Int):0≤xS l∧xS l<4294967296:=by
 have:=EK l 1 0 (by omega) (by omega) (by omega) (by omega)
 unfold xS; omega
theorem CL:∀ (k:Nat) (n:Int),0≤n→n<256 ^ k→nE (cN n k)=n
 | 0,n,h0,h1=>by simp at h1; simp [cN,nE]; omega
 | k+1,n,h0,h1=>by
  rw [Int.pow_succ] at h1
  simp only [cN,nE]
  rw [CL k (n / 256) (by omega) (by omega)]
  omega
theorem Fg {a r:List Int} {n:Int} {k:Nat} (h0:0≤n) (h1:n<256 ^ k) (h:a=cN n k++r):nE (a.take k)=n:=by
 subst h
 rw [List.take_append_of_le_length (by rw [bx]; exact Nat.le_refl _),List.take_of_length_le (by rw [bx]; exact Nat.le_refl _),CL k n h0 h1]
def mP (r:Rc):List Int:=cT r++cN (xS (cT r)) 4
theorem JL:∀ l:List Int,(l.flatMap fun n=>cN n 5).length=5 * l.length
 | []=>rfl
 | a :: l=>by rw [List.flatMap_cons,List.length_append,bx,JL l,List.length_cons]; omega
theorem qq (r:Rc):(cT r).length=1+5 * (aJ r.k).length:=by
 rw [cT,List.length_append,bx,JL,bh,List.length_map]
theorem ja (r:Rc):(mP r).length=5+5 * (aJ r.k).length:=by rw [mP,List.length_append,qq,bx]; omega
theorem HB (r:Rc):∀ x∈cT r,0≤x∧x≤255:=by
 intro x hx
 rcases List.mem_append.1 hx with hx | hx
 ·exact tZ _ _ x hx
 ·obtain ⟨n,_,hx⟩:=List.mem_flatMap.1 hx
  exact tZ _ _ x hx
theorem L5 (r:Rc):∀ x∈mP r,0≤x∧x≤255:=by
 intro x hx
 rcases List.mem_append.1 hx with hx | hx
 ·exact HB r x hx
 ·exact tZ _ _ x hx
theorem Dd (r:Rc):sb (uT r)=mP r:=by
 have h1:rk (bs (cT r))=xS (cT r):=by rw [G7,IZ _ (HB r)]
 rw [uT,h1]
 exact IZ _ (L5 r)
theorem n7 {r:Rc} (h:bc r=true):aJ r.k≠[]∧(bh r).all vB=true∧fE r (aJ r.k)=r:=by
 simp only [bc,Bool.and_eq_true,decide_eq_true_eq] at h
 exact ⟨h.1.1,h.1.2,h.2⟩
def xw (D:List Int) (n:Nat):List Int:=(List.range n).map fun i=>nE ((D.drop (1+5 * i)).take 5)
def BP (D:List Int):Rc × Nat × Int:=
 if aJ (D.getD 0 0)=[] then (pD 0,0,49) else if D.length<1+5 * (aJ (D.getD 0 0)).length+4 then (pD 0,0,7) else
 if nE ((D.drop (1+5 * (aJ (D.getD 0 0)).length)).take 4)≠xS (D.take (1+5 * (aJ (D.getD 0 0)).length)) then (pD 0,0,8) else
 if (xw D (aJ (D.getD 0 0)).length).all vB then (qg (D.getD 0 0) (xw D (aJ (D.getD 0 0)).length),1+5 * (aJ (D.getD 0 0)).length+4,0) else (pD 0,0,49)
theorem JX (s:ByteArray) (a:Nat) (h:a<s.size):ec s a=((BP ((sb s).drop a)).1,(if (BP ((sb s).drop a)).2.2=0 then ((a+(BP ((sb s).drop a)).2.1:Nat):Int) else 0),(BP ((sb s).drop a)).2.2):=by
 have e1:ec s a=GN s a:=by rw [ec,if_neg (by omega),if_neg (by omega)]; rfl
 rw [e1]
 have g0:((sb s).drop a).getD 0 0=(sb s).getD a 0:=by simp [List.getD_eq_getElem?_getD]
 have g1:((sb s).drop a).length=s.size-a:=by rw [List.length_drop,cj]
 have g2:∀ j k,nE ((((sb s).drop a).drop j).take k)=tf s (a+j) k:=fun j k=>by rw [List.drop_drop]; rfl
 have g3:∀ j,xS (((sb s).drop a).take j)=rk (s.extract a (a+j)):=fun j=>by rw [G7,zx,Nat.add_sub_cancel_left]
 have g4:∀ n,xw ((sb s).drop a) n=dA s a n:=fun n=>by
  simp only [xw,dA]
  refine List.map_congr_left fun i _=>?_
  rw [g2,Nat.add_assoc]
 simp only [BP,GN,g0,g1,g2,g3,g4]
 generalize (sb s).getD a 0=k
 by_cases c1:aJ k=[]
 ·simp [c1]
 rw [if_neg c1,if_neg c1]
 by_cases c2:s.size<a+1+5 * (aJ k).length+4
 ·have c2':s.size-a<1+5 * (aJ k).length+4:=by omega
  rw [if_pos c2,if_pos c2']; simp
 have c2':¬s.size-a<1+5 * (aJ k).length+4:=by omega
 rw [if_neg c2,if_neg c2']
 rw [show a+(1+5 * (aJ k).length)=a+1+5 * (aJ k).length by omega]
 by_cases c3:tf s (a+1+5 * (aJ k).length) 4≠rk (s.extract a (a+1+5 * (aJ k).length))
 ·rw [if_pos c3,if_pos c3]; simp
 rw [if_neg c3,if_neg c3]
 by_cases c4:(dA s a (aJ k).length).all vB=true
 ·rw [if_pos c4,if_pos c4]
  simp only [if_true]
  congr 2
  omega
 ·rw [if_neg c4,if_neg c4]; simp
theorem QW {n:Int} (h:vB n=true):0≤n∧n≤274877906944:=by simpa [vB] using h
theorem CN:∀ (l:List Int) (i:Nat),(l.flatMap fun n=>cN n 5).drop (5 * i)=(l.drop i).flatMap fun n=>cN n 5
 | l,0=>by simp
 | [],i+1=>by simp
 | x :: l,i+1=>by
  simp only [List.flatMap_cons,List.drop_succ_cons]
  rw [show 5 * (i+1)=(cN x 5).length+5 * i by rw [bx]; omega,List.drop_append,List.drop_of_length_le (by omega),List.nil_append,Nat.add_sub_cancel_left,CN l i]
theorem Ik (r:Rc) (i:Nat):(cT r).drop (1+5 * i)=((bh r).drop i).flatMap fun n=>cN n 5:=by
 rw [cT,←List.drop_drop,List.drop_left' (bx _ _),CN]
theorem Jj {r:Rc} (h:bc r=true) (Q:List Int):xw (cT r++Q) (aJ r.k).length=bh r:=by
 obtain ⟨h1,h2,h3⟩:=n7 h
 have hl:(bh r).length=(aJ r.k).length:=by rw [bh,List.length_map]
 apply List.ext_getElem
 ·simp [xw,hl]
 ·intro i hi hi'
  simp only [xw,List.getElem_map,List.getElem_range]
  have hb:=QW (List.all_eq_true.1 h2 _ (List.getElem_mem hi'))
  refine Fg (r:=((bh r).drop (i+1)).flatMap (fun n=>cN n 5)++Q) hb.1 (by omega) ?_
  rw [List.drop_append_of_le_length (by rw [qq]; omega),Ik,List.drop_eq_getElem_cons hi',List.flatMap_cons,List.append_assoc]
theorem OZ {r:Rc} (h:bc r=true) (Q:List Int):(cT r++Q).getD 0 0=r.k:=by
 have hk:=wm (n7 h).1
 simp only [cT,cN,List.cons_append,List.nil_append,List.getD_cons_zero]
 omega
theorem L8 {r:Rc} (h:bc r=true) (Q:List Int):BP (mP r++Q)=(r,(mP r).length,0):=by
 obtain ⟨h1,h2,h3⟩:=n7 h
 have hs:=Ll (cT r)
 have hA:mP r++Q=cT r++(cN (xS (cT r)) 4++Q):=by rw [mP,List.append_assoc]
 have hll:=qq r
 have hlen:(mP r++Q).length=1+5 * (aJ r.k).length+4+Q.length:=by rw [List.length_append,ja]; omega
 have d1:(mP r++Q).drop (1+5 * (aJ r.k).length)=cN (xS (cT r)) 4++Q:=by rw [hA]; exact List.drop_left' hll
 have d2:(mP r++Q).take (1+5 * (aJ r.k).length)=cT r:=by rw [hA]; exact List.take_left' hll
 have d3:(mP r++Q).getD 0 0=r.k:=by rw [hA]; exact OZ h _
 have d4:xw (mP r++Q) (aJ r.k).length=bh r:=by rw [hA]; exact Jj h _
 have d5:nE ((cN (xS (cT r)) 4++Q).take 4)=xS (cT r):=Fg hs.1 (by omega) rfl
 unfold BP
 rw [d3,if_neg h1,if_neg (by omega),d1,d2,d5,if_neg (by simp),d4,if_pos h2,Ah,h3,ja]
 congr 2
 omega
def yY (l:List Rc):List Int:=l.flatMap mP
theorem nG (l:List Rc) (r:Rc):yY (r :: l)=mP r++yY l:=by simp [yY]
theorem Gq {s:ByteArray} {a:Int} (h:(ec s a).2.2≠0):∀ f,eS s f a=([],a)
 | 0=>rfl
 | f+1=>by rw [eS,if_pos h]
theorem Cy (s:ByteArray) (Q:List Int):∀ (l:List Rc) (f:Nat) (A:List Int),(∀ q∈l,bc q=true)→l.length≤f→sb s=A++(yY l++Q)→
  eS s f (A.length:Int)=(l++(eS s (f-l.length) ((A++yY l).length:Int)).1,(eS s (f-l.length) ((A++yY l).length:Int)).2)
 | [],f,A,_,_,_=>by simp [yY]
 | r :: l,f+1,A,hv,hf,hs=>by
  have hr:=hv r (by simp)
  have hal:=ja r
  have hsz:A.length<s.size:=by
   rw [←cj,hs,nG]; simp only [List.length_append]; omega
  have hd:(sb s).drop A.length=mP r++(yY l++Q):=by rw [hs,List.drop_left' rfl,nG,List.append_assoc]
  have hD:=JX s A.length hsz
  rw [hd,L8 hr] at hD
  simp only [if_true] at hD
  have hs2:sb s=(A++mP r)++(yY l++Q):=by rw [hs,nG]; simp
  have ih:=Cy s Q l f (A++mP r) (fun q hq=>hv q (by simp [hq])) (by simpa using hf) hs2
  rw [eS,if_neg (by rw [hD]; simp),hD]
  simp only
  rw [show ((A.length+(mP r).length:Nat):Int)=((A++mP r).length:Nat) by rw [List.length_append],ih]
  rw [show f+1-(r :: l).length=f-l.length by simp,show A++mP r++yY l=A++yY (r :: l) by rw [nG]; simp]
  rfl
theorem OX (l:List Rc):l.length≤(yY l).length:=by
 induction l with
 | nil=>simp
 | cons r l ih=>rw [nG,List.length_append,ja,List.length_cons]; omega
theorem H3 {s:ByteArray} {Q:List Int} {l:List Rc} (hv:∀ q∈l,bc q=true) (hs:sb s=yY l++Q) :
  fK s=(l++(eS s (s.size-l.length) ((yY l).length:Int)).1,(eS s (s.size-l.length) ((yY l).length:Int)).2):=by
 have h1:=OX l
 have h2:(sb s).length=s.size:=cj s
 rw [hs,List.length_append] at h2
 exact Cy s Q l s.size [] hv (by omega) (by simpa using hs)
theorem Jf {s:ByteArray} {Q:List Int} {l:List Rc} (hv:∀ q∈l,bc q=true) (hs:sb s=yY l++Q) (hQ:Q=[]∨(BP Q).2.2≠0):fK s=(l,((yY l).length:Int)):=by
 have h2:(sb s).length=s.size:=cj s
 have hd:(ec s ((yY l).length:Nat)).2.2≠0:=by
  rcases hQ with rfl | hQ
  ·rw [hs,List.append_nil] at h2
   rw [ec,if_neg (by omega),if_pos (by rw [h2])]; simp
  ·by_cases e:Q=[]
   ·subst e
    rw [hs,List.append_nil] at h2
    rw [ec,if_neg (by omega),if_pos (by rw [h2])]; simp
   ·have hQl:0<Q.length:=List.length_pos_iff.2 e
    rw [hs,List.length_append] at h2
    rw [JX s (yY l).length (by omega),hs,List.drop_left' rfl]
    exact hQ
 rw [H3 hv hs,Gq hd,List.append_nil]
theorem Il {b:Int} (h:7≤b) (Q:List Int):(BP (b :: Q)).2.2≠0:=by
 have:aJ b=[]:=by
  rcases kM b with e | ⟨h1,e⟩ | ⟨h1,e⟩ | ⟨h1,e⟩ | ⟨h1,e⟩ | ⟨h1,e⟩
  ·exact e
  all_goals omega
 unfold BP
 simp only [List.getD_cons_zero]
 rw [if_pos this]
 simp
def Nm (l:List Rc):ByteArray:=l.foldl (fun s r=>s++(lf r).1) ⟨#[]⟩
theorem P2 (l:List Rc) (r:Rc):Nm (l++[r])=Nm l++(lf r).1:=by simp [Nm,List.foldl_append]
theorem Ij (r:Rc):(lf r).1.size≤35:=by
 unfold lf
 split
 ·exact wP r
 ·exact Nat.zero_le _
theorem II (l:List Rc) (s:ByteArray):(l.foldl (fun s r=>s++(lf r).1) s).size≤s.size+35 * l.length:=by
 induction l generalizing s with
 | nil=>simp
 | cons r l ih=>
  have h1:=ih (s++(lf r).1)
  have h2:=Ij r
  rw [ByteArray.size_append] at h1
  simp only [List.foldl_cons,List.length_cons]
  omega
theorem P3 (l:List Rc):(Nm l).size≤35 * l.length:=by
 have:=II l ⟨#[]⟩
 have e:(⟨#[]⟩:ByteArray).size=0:=rfl
 rw [e] at this
 simpa [Nm] using this
theorem Lo (l:List Rc) (hv:∀ q∈l,bc q=true) (s:ByteArray):sb (l.foldl (fun s r=>s++(lf r).1) s)=sb s++yY l:=by
 induction l generalizing s with
 | nil=>simp [yY]
 | cons r l ih=>
  simp only [List.foldl_cons]
  rw [ih (fun q hq=>hv q (by simp [hq])),qR,lf,if_pos (hv r (by simp)),Dd,nG,List.append_assoc]
theorem Tn {l:List Rc} (hv:∀ q∈l,bc q=true):sb (Nm l)=yY l:=by
 have:=Lo l hv ⟨#[]⟩
 simpa [Nm,sb] using this
theorem Hh (q p:Rc):gH 0 (dn q) (gY .nil p)=dn q:=rfl
theorem Ts (q:Rc):AV.agg ((dn q).cells.take 21)=dn q:=rfl
theorem Tt (q:Rc):AV.agg (((dn q).cells.drop 0).take 21)=dn q:=rfl
theorem tV (q:Rc):(dn q).flat=true:=rfl
theorem qT (q:Rc):(dn q).cells.length=21:=rfl
theorem mw (q:Rc):(dn q).cells.take 21=(dn q).cells:=rfl
theorem my (q:Rc):AV.agg (dn q).cells=dn q:=rfl
theorem Hj (q:Rc):(dn q).cells.all AV.one=true:=rfl
theorem EY:AV.agg [AV.int IntKind.i64 0,AV.int IntKind.i64 0,AV.int IntKind.i64 0,AV.int IntKind.i64 0,AV.int IntKind.i64 0,AV.int IntKind.i64 0,AV.int IntKind.i64 0,AV.int IntKind.i64 0,AV.int IntKind.i64 0,AV.int IntKind.i64 0,AV.int IntKind.i64 0,AV.int IntKind.i64 0,AV.nil,AV.bool false,AV.int IntKind.i64 0,AV.int IntKind.i64 0,AV.int IntKind.i64 0,AV.int IntKind.i64 0,AV.int IntKind.i64 0,AV.int IntKind.i64 0,AV.int IntKind.i64 0]=gY .nil (pD 0):=rfl
end Go.Proofs.Try
