/- OWN WORK, put together by tools/asm.py, seat.py, mini.py. -/
import Derived.Test.YtcpckngdfjmbgaaGreatLibE
set_option linter.unusedSimpArgs false
set_option linter.unusedVariables false
set_option maxRecDepth 100000
set_option maxHeartbeats 1000000
namespace Go.Proofs.Try
open Go.Ab Go Go.Proofs.Tryz
open Int renaming reduceEq → jA, reduceLT → jB, reduceLE → jC, reduceToNat → jD
open Go.Ab renaming iP → jM, iQ → jN, lZ → jO, iR → jP
open Nat renaming reduceLT → jE, reduceEqDiff → jF, reduceAdd → jG, reduceLeDiff → jH, reduceSub → jI, reduceMul → jJ, sub_zero → jK, sub_self → jL
inductive MP (σ:St):AV→AV→Prop
 | same (a:AV):MP σ a a
 | mF {a b:AV} (h:aw σ a b):MP σ a b
 | agg {cs ds:List AV} (h5:cs.length=ds.length) (h6:∀ (i:Nat) (x y:AV),cs[i]?=some x→ds[i]?=some y→MP σ x y):MP σ (.agg cs) (.agg ds)
 | tuple {cs ds:List AV} (h5:cs.length=ds.length) (h6:∀ (i:Nat) (x y:AV),cs[i]?=some x→ds[i]?=some y→MP σ x y):MP σ (.tuple cs) (.tuple ds)
inductive GY (σ:St):List AV→List AV→Prop
 | nil:GY σ [] []
 | cons {a b:AV} {l r:List AV} (h:MP σ a b) (k:GY σ l r):GY σ (a :: l) (b :: r)
theorem GY.get {σ:St} {l r:List AV} (h:GY σ l r):l.length=r.length∧∀ (i:Nat) (x y:AV),l[i]?=some x→r[i]?=some y→MP σ x y:=by
 induction h with
 | nil=>exact ⟨rfl,fun i x y h=>by simp at h⟩
 | cons h k ih=>
  refine ⟨by simp [ih.1],fun i x y hx hy=>?_⟩
  cases i with
  | zero=>simp at hx hy; subst hx; subst hy; exact h
  | succ i=>exact ih.2 i x y (by simpa using hx) (by simpa using hy)
theorem GY.app {σ:St} {l r l' r':List AV} (h:GY σ l r) (k:GY σ l' r'):GY σ (l++l') (r++r'):=by
 induction h with
 | nil=>exact k
 | cons h _ ih=>exact .cons h ih
theorem GY.refl {σ:St}:∀ l:List AV,GY σ l l
 | []=>.nil
 | _ :: l=>.cons (.same _) (GY.refl l)
theorem MP.ag {σ:St} {l r:List AV} (h:GY σ l r):MP σ (.agg l) (.agg r):=.agg h.get.1 h.get.2
theorem MP.tu {σ:St} {l r:List AV} (h:GY σ l r):MP σ (.tuple l) (.tuple r):=.tuple h.get.1 h.get.2
def MO (σ:St) (o o2:aV):Prop:=o2=o∨(o2={ o with l:=o2.l }∧mL o.es o2.l∧o2.l.length=o.l.length∧GY σ (aK o.l) (aK o2.l))
theorem MO.g {σ:St} {o o2:aV} (h:MO σ o o2):o2.g=o.g:=by
 rcases h with rfl | ⟨h,_⟩
 ·rfl
 ·rw [h]
theorem MO.ro {σ:St} {o o2:aV} (h:MO σ o o2):o2.ro=o.ro:=by
 rcases h with rfl | ⟨h,_⟩
 ·rfl
 ·rw [h]
structure IG (σ:St) (lo:Nat) (X:AV) (Es:List AV):Prop where
 low:∀ i,¬aZ X i→lo≤i∧i<σ.n
 Ff:∀ E∈Es,∀ i,¬aZ E i→lo≤i∧i<σ.n
 sep:∀ E∈Es,∀ i,¬aZ E i→aZ X i
 dj:∀ (a b:Nat) (E F:AV),a≠b→Es[a]?=some E→Es[b]?=some F→∀ i,¬aZ E i→aZ F i
theorem IG.nil (σ:St) (lo:Nat):IG σ lo .nil []:=⟨fun i h=>absurd (aZ.nil i) h,fun _ h=>(by cases h),fun _ h=>(by cases h),fun a b E F _ h=>(by simp at h)⟩
theorem tC {α:Type} {l:List α} {x y:α} {a:Nat} (h:(l++[x])[a]?=some y):(a<l.length∧l[a]?=some y)∨(a=l.length∧y=x):=by
 by_cases ha:a<l.length
 ·rw [List.getElem?_append_left ha] at h; exact .inl ⟨ha,h⟩
 ·rw [List.getElem?_append_right (by omega)] at h
  obtain ⟨h1,h2⟩:=List.getElem?_eq_some_iff.1 h
  simp at h1
  have h3:a=l.length:=by omega
  subst h3
  simp at h2
  exact .inr ⟨rfl,h2.symm⟩
theorem IG.snoc {σ τ ρ:St} {lo:Nat} {X X' E:AV} {Es:List AV} (h:IG σ lo X Es) (hlo:lo≤σ.n) (hn:σ.n≤τ.n) (hE:∀ i,¬aZ E i→σ.n≤i∧i<τ.n) (k:Kp τ X ρ X') (hX:∀ i,ρ.n≤i→aZ X' i):IG ρ lo X' (Es++[E]):=by
 obtain ⟨k1,k2,k3⟩:=k
 have hEs:∀ F∈Es,∀ i,¬aZ F i→i<σ.n:=fun F hF i hi=>(h.Ff F hF i hi).2
 refine ⟨fun i hi=>?_,fun F hF i hi=>?_,fun F hF i hi=>?_,fun a b F G hab hF hG i hi=>?_⟩
 ·refine ⟨?_,Nat.lt_of_not_le fun hh=>hi (hX i hh)⟩
  by_cases h1:i<τ.n
  ·exact (h.low i fun h2=>hi (k3 i h1 h2)).1
  ·omega
 ·rcases List.mem_append.1 hF with hF | hF
  ·have:=h.Ff F hF i hi; omega
  ·obtain rfl:F=E:=by simpa using hF
   have:=hE i hi; omega
 ·rcases List.mem_append.1 hF with hF | hF
  ·exact k3 i (by have:=hEs F hF i hi; omega) (h.sep F hF i hi)
  ·obtain rfl:F=E:=by simpa using hF
   have:=hE i hi
   exact k3 i this.2 (aZ.em fun h2=>by have:=(h.low i h2).2; omega)
 ·rcases tC hF with ⟨_,hF2⟩ | ⟨ha,rfl⟩ <;> rcases tC hG with ⟨_,hG2⟩ | ⟨hb,rfl⟩
  ·exact h.dj a b F G hab hF2 hG2 i hi
  ·exact aZ.em fun h2=>by have:=hE i h2; have:=hEs F (List.mem_of_getElem? hF2) i hi; omega
  ·exact aZ.em fun h2=>by have:=hE i hi; have:=hEs G (List.mem_of_getElem? hG2) i h2; omega
  ·omega
theorem IG.up {σ τ:St} {lo:Nat} {X:AV} {Es:List AV} (h:IG σ lo X Es) (hn:σ.n≤τ.n):IG τ lo X Es:=
 ⟨fun i hi=>⟨(h.low i hi).1,Nat.lt_of_lt_of_le (h.low i hi).2 hn⟩,fun E hE i hi=>⟨(h.Ff E hE i hi).1,Nat.lt_of_lt_of_le (h.Ff E hE i hi).2 hn⟩,h.sep,h.dj⟩
def IC (es:Nat) (ty:TypeId) (σ:St) (Es:List AV) (Ls:List (List AV)):Prop:=Es.length=Ls.length∧∀ (i:Nat) (E:AV) (L:List AV),Es[i]?=some E→Ls[i]?=some L→cw es ty σ L E
theorem IC.nil (es:Nat) (ty:TypeId) (σ:St):IC es ty σ [] []:=⟨rfl,fun i E L h=>by simp at h⟩
theorem IC.move {es:Nat} {ty:TypeId} {σ τ:St} {Es:List AV} {Ls:List (List AV)} (h:IC es ty σ Es Ls) (hn:σ.n≤τ.n) (ho:∀ E∈Es,∀ i,¬aZ E i→i<σ.n→τ.ob i=σ.ob i):IC es ty τ Es Ls:=
 ⟨h.1,fun i E L hE hL=>(h.2 i E L hE hL).move hn fun j hj hh=>ho E (List.mem_of_getElem? hE) j hh hj⟩
theorem IC.snoc {es:Nat} {ty:TypeId} {σ:St} {Es:List AV} {Ls:List (List AV)} {E:AV} {L:List AV} (h:IC es ty σ Es Ls) (k:cw es ty σ L E):IC es ty σ (Es++[E]) (Ls++[L]):=by
 refine ⟨by simp [h.1],fun i F M hF hM=>?_⟩
 rcases tC hF with ⟨h1,hF⟩ | ⟨h1,rfl⟩ <;> rcases tC hM with ⟨h2,hM⟩ | ⟨h2,rfl⟩
 ·exact h.2 i F M hF hM
 ·have:=h.1; omega
 ·have:=h.1; omega
 ·exact k
theorem cw.up {es:Nat} {ty:TypeId} {σ τ:St} {L:List AV} {X:AV} (h:cw es ty σ L X) (hn:σ.n≤τ.n) (ho:∀ i,i<σ.n→¬aZ X i→τ.ob i=σ.ob i):cw es ty τ L X:=h.move hn ho
theorem cw.lt {es:Nat} {ty:TypeId} {σ:St} {L:List AV} {X:AV} (h:cw es ty σ L X) {i:Nat} (hi:¬aZ X i):i<σ.n:=Nat.lt_of_not_le fun hh=>hi (h.H2 hh)
theorem LI {es:Nat} {ty:TypeId} {σ τ:St} {L M:List AV} {X:AV} (h:cw es ty σ L X) (ho:∀ i,i<σ.n→¬aZ X i→τ.ob i=σ.ob i) (hl:L.length=M.length)
  (hp:∀ (i:Nat) (x y:AV),L[i]?=some x→M[i]?=some y→aw τ x y) (hk:∀ x∈M,mM es x):aw τ X (.list es M):=by
 rcases h with ⟨rfl,rfl⟩ | ⟨id,g,rfl,h2,h3⟩
 ·obtain rfl:M=[]:=List.eq_nil_of_length_eq_zero (by simpa using hl.symm)
  exact .nl es
 ·exact .sl ((ho id h2 fun h=>h _ _ _ _ rfl).trans h3) rfl rfl (by simp) (by simpa using hl) (by simpa using hp) hk
theorem IC.mF {es:Nat} {ty:TypeId} {σ τ:St} {Es:List AV} {Ls:List (List AV)} (h:IC es ty σ Es Ls) (ho:∀ E∈Es,∀ i,i<σ.n→¬aZ E i→τ.ob i=σ.ob i)
  (hp:∀ L∈Ls,∀ x∈L,x.cQ=true) (hk:∀ L∈Ls,∀ x∈L,mM es x):∀ (i:Nat) (E:AV) (L:List AV),Es[i]?=some E→Ls[i]?=some L→aw τ E (.list es L):=fun i E L hE hL=>
 (h.2 i E L hE hL).mF (ho E (List.mem_of_getElem? hE)) (hp L (List.mem_of_getElem? hL)) (hk L (List.mem_of_getElem? hL))
structure Pn where
 id:Int
 role:Int
 key:Int
 deriving DecidableEq,Inhabited
structure Dv where
 id:Int
 site:Int
 fr:Int
 to:Int
 rel:Int
 sg:List Int
 wd:Bool
 deriving DecidableEq,Inhabited
structure Dk where
 ps:List Pn
 nx:Int
 ds:List Dv
 deriving DecidableEq
def ri (p:Pn):AV:=.agg [.int .i64 p.id,.int .i64 p.role,.int .i64 p.key]
def pN (l:List Pn):List AV:=l.map ri
def jd (d:Dv) (E:AV):AV:=.agg [.int .i64 d.id,.int .i64 d.site,.int .i64 d.fr,.int .i64 d.to,.int .i64 d.rel,E,.bool d.wd]
def gH (d:Dv):AV:=jd d (.list 1 (ints d.sg))
def yn (l:List Dv):List AV:=l.map gH
def bP (K:Dk):AV:=.agg [.list 3 (pN K.ps),.int .i64 K.nx,.list 7 (yn K.ds)]
def Cr:Pn:=⟨0,0,0⟩
def uO:Dk:=⟨[],0,[]⟩
theorem aX (l:List Pn):(pN l).length=l.length:=by simp [pN]
theorem iJ (l:List Pn) (i:Nat):(pN l)[i]?=(l[i]?).map ri:=by simp [pN]
theorem Di (l:List Pn):∀ x∈pN l,x.cQ=true:=by simp [pN,ri,go_sem]
theorem Gn (l:List Pn):∀ x∈pN l,mM 3 x:=by simp [pN,ri,mM,go_sem]
theorem aS (l:List Dv):(yn l).length=l.length:=by simp [yn]
theorem dU (l:List Dv) (i:Nat):(yn l)[i]?=(l[i]?).map gH:=by simp [yn]
theorem qX (d:Dv):(gH d).cQ=true:=by simp [gH,jd,go_sem]
theorem L9 (l:List Dv):∀ x∈yn l,x.cQ=true:=by simp [yn,qX]
theorem J0 (l:List Dv):∀ x∈yn l,mM 7 x:=by simp [yn,gH,jd,mM,go_sem]
theorem eC (K:Dk):(bP K).cQ=true:=by simp [bP,go_sem]
def U5:Dv:=⟨0,0,0,0,0,[],false⟩
theorem Aw:AV.agg [.int .i64 0,.int .i64 0,.int .i64 0,.int .i64 0,.int .i64 0,.nil,.bool false]=jd U5 .nil:=rfl
theorem DU (d e:Dv):fI 0 (gH d) (jd e .nil)=gH d:=rfl
theorem Rx (d:Dv):(gH d).flat=true:=rfl
theorem DW (d:Dv):(gH d).cells.length=7:=rfl
theorem JZ (d:Dv):AV.agg ((gH d).cells.take 7)=gH d:=rfl
theorem TH (d:Dv):AV.agg (((gH d).cells.drop 0).take 7)=gH d:=rfl
theorem wJ (d:Dv):(gH d).cells.take 7=(gH d).cells:=rfl
theorem wK (d:Dv):AV.agg (gH d).cells=gH d:=rfl
theorem DV (d:Dv):(gH d).cells.all AV.one=true:=rfl
theorem CO (d:Dv):(gH d).cells.getD 0 .bF=.int .i64 d.id:=rfl
theorem Rz (d:Dv):(gH d).cells.getD 3 .bF=.int .i64 d.to:=rfl
theorem Ry (d:Dv):(gH d).cells.getD 6 .bF=.bool d.wd:=rfl
def ir (x a b:Int):Bool:=decide (a≤x)&&decide (x≤b)
def qs:Int→List Int→Int
 | c,[]=>c
 | c,n :: l=>qs ((31 * c+((n.tmod 2147483647+2147483647).tmod 2147483647)).tmod 2147483647) l
def AA (key kind:Int) (d:Dv):List Int:=[key,kind,d.id,d.site,d.fr,d.to,d.rel]
def sh (key kind:Int) (d:Dv):Int:=qs 7 (AA key kind d)
def cR (K:Dk) (id:Int):Pn × Bool:=match K.ps.find? fun p=>decide (p.id=id) with
 | some p=>(p,true)
 | none=>(Cr,false)
def cO (K:Dk) (l:List Int):List Int:=l.map fun s=>(cR K s).1.role
def gJ (K:Dk) (d:Dv):Bool:=
 ir d.site 0 5&&!decide (d.fr<0)&&!decide (d.to<d.fr)&&!decide (16777216<d.to)&&ir d.rel 0 1073741824&&decide (d.sg.length≤2)&&d.sg.all (fun s=>(cR K s).2)&&
 (decide (d.sg.length<2)||!decide ((cO K d.sg).getD 0 0=(cO K d.sg).getD 1 0))
def gP (l:List Pn) (i:Nat):Pn:=l.getD i default
def gD (l:List Dv) (i:Nat):Dv:=l.getD i default
theorem wD {l:List Pn} {i:Nat} (h:i<l.length):l[i]?=some (gP l i):=by simp [gP,List.getD_eq_getElem?_getD,h]
theorem jv {l:List Dv} {i:Nat} (h:i<l.length):l[i]?=some (gD l i):=by simp [gD,List.getD_eq_getElem?_getD,h]
def F6 (K:Dk) (i:Nat):Bool:=ir (gP K.ps i).id 1 1073741824&&!(decide (0<i)&&decide ((gP K.ps i).id≤(gP K.ps (i-1)).id))&&ir (gP K.ps i).role 1 9&&ir (gP K.ps i).key 1 1073741824
def E4 (K:Dk) (i:Nat):Bool:=ir (gD K.ds i).id 1 (K.nx-1)&&!(decide (0<i)&&decide ((gD K.ds i).id≤(gD K.ds (i-1)).id))&&gJ K (gD K.ds i)
def cn (K:Dk):Bool:=decide (K.ps.length≤12)&&ir K.nx 1 1073741824&&decide (K.ds.length≤64)&&(List.range K.ps.length).all (F6 K)&&(List.range K.ds.length).all (E4 K)
def pa (K:Dk):Int:=if cn K then 0 else 50
def bU (K:Dk) (site fr to rel:Int):Dk × Int × Int:=
 if cn K=false then (uO,0,50) else if ir site 0 5=false then (uO,0,40) else if fr<0∨to<fr∨16777216<to then (uO,0,6) else if ir rel 0 1073741824=false then (uO,0,1) else
 if K.ds.length=64∨K.nx=1073741824 then (uO,0,10) else (⟨K.ps,K.nx+1,K.ds++[⟨K.nx,site,fr,to,rel,[],false⟩]⟩,K.nx,0)
def rG (K:Dk) (id who code now kind:Int):List Dv→Nat→Int × Pn × Int
 | [],_=>(0,Cr,9)
 | d :: l,i=>if d.id≠id then rG K id who code now kind l (i+1) else if d.wd=true∨d.to<now then (0,Cr,44) else if (cR K who).2=false then (0,Cr,11) else
  if code≠sh (cR K who).1.key kind d then (0,Cr,43) else ((i:Int),(cR K who).1,0)
def bK (K:Dk) (id who code now kind:Int):Int × Pn × Int:=if cn K=false then (0,Cr,50) else rG K id who code now kind K.ds 0
def oi (K:Dk) (who role:Int):List Int→Int
 | []=>0
 | s :: l=>if s=who then 46 else if (cR K s).1.role=role then 5 else oi K who role l
def ka (K:Dk) (id who code now:Int):Dk × Int:=
 let a:=bK K id who code now 1
 if a.2.2≠0 then (uO,a.2.2) else
 let d:=gD K.ds a.1.toNat
 if d.sg.length=2 then (uO,46) else if oi K who a.2.1.role d.sg≠0 then (uO,oi K who a.2.1.role d.sg) else (⟨K.ps,K.nx,K.ds.set a.1.toNat { d with sg:=d.sg++[who] }⟩,0)
def ku (K:Dk) (id who code now:Int):Dk × Int:=
 let a:=bK K id who code now 2
 if a.2.2≠0 then (uO,a.2.2) else (⟨K.ps,K.nx,K.ds.set a.1.toNat { gD K.ds a.1.toNat with wd:=true }⟩,0)
theorem cd (x a b:Int):PC prog Gw [.int .i64 x,.int .i64 a,.int .i64 b] (.bool (ir x a b)):=by
 refine ae GU (by simp) ?_
 simp only [AF,ir]
 try simp (disch:=omega) only [go_sem,jF,↓reduceIte,reduceCtorEq]
 refine bB rfl (fun h=>?_) (fun h=>?_) <;> try simp (disch:=omega) only [go_sem,jF,↓reduceIte,reduceCtorEq]
 ·exact aw.of_eq (by simp [h]) rfl
 ·exact aw.of_eq (by simp [h]) rfl
theorem CK {α:Type} {l:List α} {q:α→Bool} {i:Nat} (hi:i<l.length) (h:(l.take i).find? q=none):(l.take (i+1)).find? q=if q l[i]=true then some l[i] else none:=by
 rw [List.take_add_one,List.getElem?_eq_getElem hi,List.find?_append,h]
 simp [List.find?_cons]
 split <;> simp_all
theorem Fk {α:Type} {l:List α} {q:α→Bool} {i:Nat} (hi:i<l.length) (h:(l.take i).find? q=none) (hq:q l[i]=true):l.find? q=some l[i]:=by
 have h1:=CK hi h
 rw [if_pos hq] at h1
 have h2:∀ x,x=some l[i]→(l.take (i+1)).find? q=x→l.find? q=x:=fun x hx h3=>by
  rw [←List.take_append_drop (i+1) l,List.find?_append,h3,hx]; rfl
 exact h2 _ rfl h1
theorem jm (K:Dk) (id:Int) (hl:K.ps.length≤9223372036854775807):PC prog zK [bP K,.int .i64 id] (.tuple [ri (cR K id).1,.bool (cR K id).2]):=by
 refine ae AM (by simp) ?_
 simp only [qy,bP]
 try simp (disch:=omega) only [go_sem,jF,jG,jH,↓reduceIte,reduceCtorEq,aX]
 refine aT [5,7,11,12,13,14,15,16,17,18,19,20] (by kernel_rfl) K.ps.length (fun i e σ=>e 11=.int .i64 i∧(K.ps.take i).find? (fun p=>decide (p.id=id))=none∧σ.ob 1=some ⟨1,3,131,false,true,[.agg [.int .i64 0,.int .i64 0,.int .i64 0]]⟩) ?_ ?_
 ·exact ⟨(by first | rfl | (simp (disch:=omega) only [go_sem,jA,jB,jC,jD,jE,jF,jG,jH,jI,jJ,↓reduceIte,reduceCtorEq,jP,jO,jM,jN]; try rfl)),rfl,by try simp (disch:=omega) only [go_sem,↓reduceIte]⟩
 rintro i fe ob m c hi hm ⟨h11,hf,h1⟩
 simp (maxSteps:=1000000) only [go_sem,jF,↓reduceIte] at h11 h1 hm
 try simp (disch:=omega) only [go_sem,jF,↓reduceIte,h11]
 refine ah (fun hlt=>?_) (fun hge=>?_)
 ·have hil:i<K.ps.length:=by omega
  have hg:K.ps[i]?=some K.ps[i]:=List.getElem?_eq_getElem hil
  have hs:=CK hil hf
  have hh:=Fk hil hf
  have hsn:(K.ps.take (i+1)).find? (fun p=>decide (p.id=id))=if decide (K.ps[i].id=id)=true then some K.ps[i] else none:=hs
  generalize K.ps[i]=p at *
  have z1:¬1=m:=by omega
  try simp (disch:=omega) only [go_sem,jF,jG,jH,↓reduceIte,reduceCtorEq,iJ,hg,Option.map_some,aX,ri]
  refine ⟨by omega,by omega,?_⟩
  refine ah (fun hq=>?_) (fun hq=>?_)
  ·try simp (disch:=omega) only [go_sem,jF,jG,jH,↓reduceIte,h1,z1]
   have:cR K id=(p,true):=by rw [cR,hh (by simpa using hq)]
   rw [this]
   exact aw.pure rfl
  ·try simp (disch:=omega) only [go_sem,jF,↓reduceIte,jO]
   refine aD (m+1) hil (by omega) ⟨(by first | rfl | (simp (disch:=omega) only [go_sem,jA,jB,jC,jD,jE,jF,jG,jH,jI,jJ,↓reduceIte,reduceCtorEq,jP,jO,jM,jN]; try rfl)),?_,?_⟩
   ·rw [hsn,if_neg (by simpa using hq)]
   ·rw [aW (by omega),aa _ _ _ _ (by omega),aa _ _ _ _ (by omega)]; exact h1
 obtain rfl:i=K.ps.length:=by omega
 rw [List.take_length] at hf
 try simp (disch:=omega) only [go_sem,jF,jG,jH,↓reduceIte,h1]
 have:cR K id=(Cr,false):=by rw [cR,hf]
 rw [this]
 exact aw.pure rfl
theorem tx (x:Int):-2147483647<x.tmod 2147483647∧x.tmod 2147483647<2147483647:=by
 have h1:=Int.tmod_lt_of_pos x (b:=2147483647) (by omega)
 have h2:=Int.tmod_lt_of_pos (-x) (b:=2147483647) (by omega)
 rw [Int.neg_tmod] at h2
 omega
theorem na (x:Int) (h:0≤x):0≤x.tmod 2147483647∧x.tmod 2147483647<2147483647:=⟨Int.tmod_nonneg _ h,(tx x).2⟩
theorem mI (key kind:Int) (d:Dv):PC prog DG [.int .i64 key,.int .i64 kind,gH d] (.int .i64 (sh key kind d)):=by
 refine ae Em (by simp) ?_
 simp only [vi,gH,jd]
 try simp (disch:=omega) only [go_sem,jF,jG,jH,↓reduceIte,reduceCtorEq]
 have hL:[AV.int .i64 key,.int .i64 kind,.int .i64 d.id,.int .i64 d.site,.int .i64 d.fr,.int .i64 d.to,.int .i64 d.rel]=ints (AA key kind d):=rfl
 have h7:(AA key kind d).length=7:=rfl
 rw [hL]
 generalize hLL:AA key kind d=L at *
 refine bq [7,9,24,25,26,27,28,29,30,31,32,33,34,35,36] (by kernel_rfl) 7 (fun i e _=>e 24=.int .i64 i∧∃ c,e 7=.int .i64 c∧0≤c∧c<2147483647∧sh key kind d=qs c (L.drop i)) ?_ ?_
 ·exact ⟨(by first | rfl | (simp (disch:=omega) only [go_sem,jA,jB,jC,jD,jE,jF,jG,jH,jI,jJ,↓reduceIte,reduceCtorEq,jP,jO,jM,jN]; try rfl)),7,(by first | rfl | (simp (disch:=omega) only [go_sem,jA,jB,jC,jD,jE,jF,jG,jH,jI,jJ,↓reduceIte,reduceCtorEq,jP,jO,jM,jN]; try rfl)),by omega,by omega,by rw [sh,hLL]; rfl⟩
 rintro i fe ob c hi ⟨h24,x,hx,x0,x1,hc⟩
 simp (maxSteps:=1000000) only [go_sem,jF,↓reduceIte] at h24 hx
 try simp (disch:=omega) only [go_sem,jF,↓reduceIte,h24]
 refine ah (fun hlt=>?_) (fun hge=>?_)
 ·have hil:i<L.length:=by omega
  have hgi:=bA L i
  rw [List.getElem?_eq_getElem hil] at hgi
  rw [List.drop_eq_getElem_cons hil,qs] at hc
  generalize L[i]=n at *
  have b1:=tx n
  generalize hy:n.tmod 2147483647=y at *
  have b2:=na (y+2147483647) (by omega)
  generalize hz:(y+2147483647).tmod 2147483647=z at *
  have b3:=na (31 * x+z) (by omega)
  try simp (disch:=omega) only [go_sem,jA,jF,jH,↓reduceIte,jO,hx,hgi,Option.map_some,au,h7,hy,hz]
  exact ⟨by omega,by omega,bj (by omega) ⟨(by first | rfl | (simp (disch:=omega) only [go_sem,jA,jB,jC,jD,jE,jF,jG,jH,jI,jJ,↓reduceIte,reduceCtorEq,jP,jO,jM,jN]; try rfl)),_,(by first | rfl | (simp (disch:=omega) only [go_sem,jA,jB,jC,jD,jE,jF,jG,jH,jI,jJ,↓reduceIte,reduceCtorEq,jP,jO,jM,jN]; try rfl)),b3.1,b3.2,hc⟩⟩
 obtain rfl:i=7:=by omega
 rw [List.drop_of_length_le (by omega),qs] at hc
 try simp (disch:=omega) only [go_sem,jB,jF,↓reduceIte,hx]
 rw [hc]
 exact aw.pure rfl
theorem pT (K:Dk) (d:Dv) (hl:K.ps.length≤9223372036854775807):PC prog BB [bP K,gH d] (.bool (gJ K d)):=by
 refine ae BX (by simp) ?_
 simp only [sx,gH,jd]
 have hK:(bP K).flat=true:=by simp [bP,go_sem]
 have hKc:(bP K).cells.length=3:=rfl
 have hKp:=eC K
 have hKt:AV.agg ((bP K).cells.take 3)=bP K:=rfl
 have hKd:AV.agg (((bP K).cells.drop 0).take 3)=bP K:=rfl
 have no:∀ {σ:St},gJ K d=false→aw σ (.bool false) (.bool (gJ K d)):=fun h=>aw.of_eq (by rw [h]) rfl
 try simp (disch:=omega) only [go_sem,jF,jG,jH,↓reduceIte,reduceCtorEq,hK,hKc]
 refine ab (cd _ _ _) (by simp [go_sem]) ?_
 cases h1:ir d.site 0 5
 ·try simp (disch:=omega) only [go_sem,jF,↓reduceIte]
  exact no (by simp [gJ,h1])
 try simp (disch:=omega) only [go_sem,jF,jG,jH,↓reduceIte]
 refine bH rfl (fun h2=>?_) (fun h2=>?_) <;> try simp (disch:=omega) only [go_sem,jF,jG,jH,↓reduceIte]
 ·exact no (by simp [gJ,h2])
 refine bH rfl (fun h3=>?_) (fun h3=>?_) <;> try simp (disch:=omega) only [go_sem,jF,jG,jH,↓reduceIte]
 ·exact no (by simp [gJ,h3])
 refine bH rfl (fun h4=>?_) (fun h4=>?_) <;> try simp (disch:=omega) only [go_sem,jF,jG,jH,↓reduceIte]
 ·exact no (by simp [gJ,h4])
 refine ab (cd _ _ _) (by simp [go_sem]) ?_
 cases h5:ir d.rel 0 1073741824
 ·try simp (disch:=omega) only [go_sem,jF,↓reduceIte]
  exact no (by simp [gJ,h5])
 try simp (disch:=omega) only [go_sem,jF,jG,jH,↓reduceIte,au]
 refine ah (fun h6=>?_) (fun h6=>?_) <;> try simp (disch:=omega) only [go_sem,jF,jG,jH,↓reduceIte,au]
 ·exact no (by simp only [gJ]; rw [decide_eq_false (show ¬d.sg.length≤2 by omega)]; simp)
 have hR:gJ K d=(d.sg.all (fun s=>(cR K s).2)&&(decide (d.sg.length<2)||!decide ((cO K d.sg).getD 0 0=(cO K d.sg).getD 1 0))):=by
  simp only [gJ,h1,h5,decide_eq_false h2,decide_eq_false h3,decide_eq_false h4]
  rw [decide_eq_true (show d.sg.length≤2 by omega)]; simp
 refine aT [4,5,7,8,9,46,47,48,49,50,51,52,53,54,55,56,57,58,59,60,61,62,63] (by kernel_rfl) d.sg.length (fun i e σ=>e 46=.int .i64 i∧2≤σ.n∧σ.ob 0=some ⟨0,3,44,false,true,[bP K]⟩∧(d.sg.take i).all (fun s=>(cR K s).2)=true∧∃ X,At e 5 X∧cw 1 3 σ (ints (cO K (d.sg.take i))) X∧∀ j,¬aZ X j→2≤j) ?_ ?_
 ·exact ⟨(by first | rfl | (simp (disch:=omega) only [go_sem,jA,jB,jC,jD,jE,jF,jG,jH,jI,jJ,↓reduceIte,reduceCtorEq,jP,jO,jM,jN]; try rfl)),Nat.le_refl _,by try simp (disch:=omega) only [go_sem,↓reduceIte,reduceCtorEq],rfl,.nil,(by simp only [At]; try simp (disch:=omega) only [go_sem,jF,↓reduceIte]),cw.nil,fun j hj=>absurd (aZ.nil j) hj⟩
 rintro i fe ob m c hi hm ⟨h46,hm2,h0,hall,X,h5X,hX,hXl⟩
 simp (maxSteps:=1000000) only [go_sem,jF,↓reduceIte,At] at h46 hm hm2 h0 h5X
 try simp (disch:=omega) only [go_sem,jF,↓reduceIte,h46]
 refine ah (fun hlt=>?_) (fun hge=>?_)
 ·have hil:i<d.sg.length:=by omega
  have hgi:=bA d.sg i
  have htk:=dD _ _ hil
  have hmem:d.sg[i]∈d.sg:=List.getElem_mem hil
  rw [List.getElem?_eq_getElem hil] at hgi
  generalize d.sg[i]=s at *
  try simp (disch:=omega) only [go_sem,jF,jH,↓reduceIte,au,hgi,Option.map_some,h0,hKt]
  refine ⟨by omega,by omega,?_⟩
  refine ab (jm K s hl) (by simp [hKp,go_sem]) ?_
  try simp (disch:=omega) only [go_sem,jF,jG,jH,↓reduceIte,ri]
  cases hp:(cR K s).2
  ·try simp (disch:=omega) only [go_sem,↓reduceIte]
   refine no ?_
   rw [hR,show d.sg.all (fun s=>(cR K s).2)=false by rw [List.all_eq_false]; exact ⟨s,hmem,by simp [hp]⟩]; rfl
  try simp (disch:=omega) only [go_sem,jF,jG,jH,↓reduceIte,h5X]
  have hrl:(ints (cO K (d.sg.take i))).length≤2:=by rw [au,cO,List.length_map,List.length_take]; omega
  refine bE (b:=8) (hX.move (Nat.le_succ _) fun j hj _=>?_) (by omega) (by omega) fun Y τ hY kY=>?_
  ·simp only at hj ⊢
   rw [aa _ _ _ _ (by omega),aa _ _ _ _ (by omega)]
  obtain ⟨ob5,m5,c5⟩:=τ
  have q1:m+1≤m5:=kY.1
  have oX:∀ j,j<2→aZ X j:=fun j hj=>aZ.em fun h=>by have:=hXl j h; omega
  have q2:ob5 0=ob 0:=(kY.2.1 0 (by simp only; omega) (oX 0 (by omega))).trans (by simp only; rw [aa _ _ _ _ (by omega),aa _ _ _ _ (by omega)])
  try simp (disch:=omega) only [go_sem,jF,↓reduceIte,jO]
  refine aD m5 hil (by omega) ⟨(by first | rfl | (simp (disch:=omega) only [go_sem,jA,jB,jC,jD,jE,jF,jG,jH,jI,jJ,↓reduceIte,reduceCtorEq,jP,jO,jM,jN]; try rfl)),by simp only [St.aE]; omega,?_,?_,Y,(by simp only [At]; try simp (disch:=omega) only [go_sem,jF,↓reduceIte]),?_,fun j hj=>Nat.le_of_not_lt fun hh=>hj (kY.2.2 j (by simp only; omega) (oX j hh))⟩
  ·rw [aW (by omega),q2]; exact h0
  ·rw [htk,List.all_append,hall]; simp [hp]
  ·rw [htk,show ints (cO K (d.sg.take i++[s]))=ints (cO K (d.sg.take i))++[.int .i64 (cR K s).1.role] by simp [cO,ints]]
   exact hY.tr
 obtain rfl:i=d.sg.length:=by omega
 rw [List.take_length] at hall hX
 rw [hall,Bool.true_and] at hR
 have hrl:(cO K d.sg).length=d.sg.length:=by rw [cO,List.length_map]
 generalize cO K d.sg=RL at *
 try simp (disch:=omega) only [go_sem,jF,↓reduceIte,h5X]
 have hno:∀ l:List Int,ints l=[]→l=[]:=fun l h=>by simpa [ints] using h
 rcases hX with ⟨rfl,hn⟩ | ⟨id,g,rfl,hi2,ho⟩
 ·obtain rfl:=hno _ hn
  try simp (disch:=omega) only [go_sem,jB,jF,↓reduceIte]
  rw [hR]
  exact aw.of_eq (by rw [←hrl]; rfl) rfl
 ·simp only at ho
  try simp (disch:=omega) only [go_sem,↓reduceIte,au]
  refine bH rfl (fun hlt=>?_) (fun hge=>?_)
  ·try simp (disch:=omega) only [go_sem,jF,↓reduceIte]
   rw [hR]
   exact aw.of_eq (by rw [decide_eq_true (show d.sg.length<2 by omega)]; rfl) rfl
  ·match RL,hrl with
   | [a,b],hrl=>
    simp only [ints,List.map_cons,List.map_nil] at ho ⊢
    try simp (disch:=omega) only [go_sem,jB,jC,jF,jG,jH,↓reduceIte,ho]
    rw [hR]
    exact aw.of_eq (by rw [←hrl]; rfl) rfl
   | [],hrl=>simp at hge
   | [_],hrl=>simp at hge
   | _ :: _ :: _ :: _,hrl=>simp at hrl; omega
theorem fL {q:Nat→Bool} {i:Nat} (h:(List.range i).all q=true) (hq:q i=true):(List.range (i+1)).all q=true:=by
 rw [List.range_succ,List.all_append,h]; simp [hq]
theorem tL {q:Nat→Bool} {i n:Nat} (hi:i<n) (hq:q i=false):(List.range n).all q=false:=by
 rw [List.all_eq_false]; exact ⟨i,List.mem_range.2 hi,by simp [hq]⟩
theorem kN (K:Dk) (hl:K.ps.length≤9223372036854775807) (hl2:K.ds.length≤9223372036854775807):PC prog BC [bP K] (.int .i64 (pa K)):=by
 refine ae BY (by simp) ?_
 simp only [sy]
 have hK:(bP K).flat=true:=by simp [bP,go_sem]
 have hKc:(bP K).cells.length=3:=rfl
 have hKp:=eC K
 have hKt:AV.agg ((bP K).cells.take 3)=bP K:=rfl
 have hKd:AV.agg (((bP K).cells.drop 0).take 3)=bP K:=rfl
 have g0:(bP K).cells.getD 0 .bF=.list 3 (pN K.ps):=rfl
 have g1:(bP K).cells.getD 1 .bF=.int .i64 K.nx:=rfl
 have g2:(bP K).cells.getD 2 .bF=.list 7 (yn K.ds):=rfl
 have no:∀ {σ:St},cn K=false→aw σ (.int .i64 50) (.int .i64 (pa K)):=fun h=>aw.of_eq (by rw [pa,h]; rfl) rfl
 try simp (disch:=omega) only [go_sem,jF,jH,↓reduceIte,hK,hKc,g0,aX]
 refine bH rfl (fun h1=>?_) (fun h1=>?_) <;> try simp (disch:=omega) only [go_sem,jF,jG,jH,↓reduceIte,g1]
 ·exact no (by simp only [cn]; rw [decide_eq_false (show ¬K.ps.length≤12 by omega)]; simp)
 refine ab (cd _ _ _) (by simp [go_sem]) ?_
 cases h2:ir K.nx 1 1073741824
 ·try simp (disch:=omega) only [go_sem,jF,↓reduceIte]
  exact no (by simp [cn,h2])
 try simp (disch:=omega) only [go_sem,jF,jG,jH,↓reduceIte,g2,aS]
 refine ah (fun h3=>?_) (fun h3=>?_) <;> try simp (disch:=omega) only [go_sem,jF,jH,↓reduceIte,g0,aX]
 ·exact no (by simp only [cn]; rw [decide_eq_false (show ¬K.ds.length≤64 by omega)]; simp)
 have hC:cn K=((List.range K.ps.length).all (F6 K)&&(List.range K.ds.length).all (E4 K)):=by
  simp only [cn,h2]
  rw [decide_eq_true (show K.ps.length≤12 by omega),decide_eq_true (show K.ds.length≤64 by omega)]; simp
 refine aT [2,3,4,26,27,28,29,30,31,32,33,34,35,36,37,38,39,40,41,42,43,44,45,46,47,48,49,50,51,52,53,54,55,56,57,58,59,60,61,62,63] (by kernel_rfl) K.ps.length (fun i e σ=>e 26=.int .i64 i∧1≤σ.n∧σ.ob 0=some ⟨0,3,44,false,true,[bP K]⟩∧(List.range i).all (F6 K)=true) ?_ ?_
 ·exact ⟨(by first | rfl | (simp (disch:=omega) only [go_sem,jA,jB,jC,jD,jE,jF,jG,jH,jI,jJ,↓reduceIte,reduceCtorEq,jP,jO,jM,jN]; try rfl)),Nat.le_refl _,by try simp (disch:=omega) only [go_sem,↓reduceIte],rfl⟩
 rintro i fe ob m c hi hm ⟨h26,hm1,h0,hall⟩
 simp (maxSteps:=1000000) only [go_sem,jF,↓reduceIte] at h26 hm hm1 h0
 try simp (disch:=omega) only [go_sem,jF,↓reduceIte,h26]
 refine ah (fun hlt=>?_) (fun hge=>?_)
 ·have hil:i<K.ps.length:=by omega
  have hg:=wD hil
  have hgq:0<i→K.ps[i-1]?=some (gP K.ps (i-1)):=fun h=>wD (by omega)
  have hno:F6 K i=false→∀ {σ:St},aw σ (.int .i64 50) (.int .i64 (pa K)):=fun h σ=>no (by rw [hC,tL hil h]; rfl)
  have hok:F6 K i=(ir (gP K.ps i).id 1 1073741824&&!(decide (0<i)&&decide ((gP K.ps i).id≤(gP K.ps (i-1)).id))&&ir (gP K.ps i).role 1 9&&ir (gP K.ps i).key 1 1073741824):=rfl
  have z1:¬0=m:=by omega
  try simp (disch:=omega) only [go_sem,jF,jG,jH,↓reduceIte,iJ,hg,Option.map_some,aX,ri]
  refine ⟨by omega,by omega,?_⟩
  refine ab (cd _ _ _) (by simp [go_sem]) ?_
  cases k1:ir (gP K.ps i).id 1 1073741824
  ·try simp (disch:=omega) only [go_sem,jF,↓reduceIte]
   exact hno (by rw [hok,k1]; rfl)
  try simp (disch:=omega) only [go_sem,jF,↓reduceIte]
  refine bB rfl (fun hp=>?_) (fun hp=>?_)
  ·have hgp:=hgq (by omega)
   have ei:((i:Int)-1).toNat=i-1:=by omega
   try simp (disch:=omega) only [go_sem,jF,jH,↓reduceIte,jO,h0,g0,z1,ei,iJ,hgp,Option.map_some,aX,ri]
   refine ⟨by omega,by omega,?_⟩
   refine bH rfl (fun hq=>?_) (fun hq=>?_) <;> try simp (disch:=omega) only [go_sem,jF,jG,jH,↓reduceIte]
   ·exact hno (by rw [hok]; simp [hq]; omega)
   refine ab (cd _ _ _) (by simp [go_sem]) ?_
   cases k3:ir (gP K.ps i).role 1 9
   ·try simp (disch:=omega) only [go_sem,jF,↓reduceIte]
    exact hno (by rw [hok,k3]; simp)
   try simp (disch:=omega) only [go_sem,jF,jG,jH,↓reduceIte]
   refine ab (cd _ _ _) (by simp [go_sem]) ?_
   cases k4:ir (gP K.ps i).key 1 1073741824
   ·try simp (disch:=omega) only [go_sem,jF,↓reduceIte]
    exact hno (by rw [hok,k4]; simp)
   try simp (disch:=omega) only [go_sem,jF,↓reduceIte,jO]
   refine aD (m+1) hil (by omega) ⟨(by first | rfl | (simp (disch:=omega) only [go_sem,jA,jB,jC,jD,jE,jF,jG,jH,jI,jJ,↓reduceIte,reduceCtorEq,jP,jO,jM,jN]; try rfl)),by simp only [St.aE]; omega,?_,fL hall (by rw [hok,k1,k3,k4]; simp [hq])⟩
   rw [aW (by omega),aa _ _ _ _ (by omega),aa _ _ _ _ (by omega)]; exact h0
  ·try simp (disch:=omega) only [go_sem,jF,jG,jH,↓reduceIte]
   refine ab (cd _ _ _) (by simp [go_sem]) ?_
   cases k3:ir (gP K.ps i).role 1 9
   ·try simp (disch:=omega) only [go_sem,jF,↓reduceIte]
    exact hno (by rw [hok,k3]; simp)
   try simp (disch:=omega) only [go_sem,jF,jG,jH,↓reduceIte]
   refine ab (cd _ _ _) (by simp [go_sem]) ?_
   cases k4:ir (gP K.ps i).key 1 1073741824
   ·try simp (disch:=omega) only [go_sem,jF,↓reduceIte]
    exact hno (by rw [hok,k4]; simp)
   try simp (disch:=omega) only [go_sem,jF,↓reduceIte,jO]
   refine aD (m+1) hil (by omega) ⟨(by first | rfl | (simp (disch:=omega) only [go_sem,jA,jB,jC,jD,jE,jF,jG,jH,jI,jJ,↓reduceIte,reduceCtorEq,jP,jO,jM,jN]; try rfl)),by simp only [St.aE]; omega,?_,fL hall (by rw [hok,k1,k3,k4]; simp; omega)⟩
   rw [aW (by omega),aa _ _ _ _ (by omega),aa _ _ _ _ (by omega)]; exact h0
 obtain rfl:i=K.ps.length:=by omega
 rw [hall,Bool.true_and] at hC
 clear h26 hge
 try simp (disch:=omega) only [go_sem,jF,jG,jH,↓reduceIte,h0,g2,aS]
 refine aT [2,5,6,67,68,69,70,71,72,73,74,75,76,77,78,79,80,81,82,83,84,85,86,87,88,89,90,91,92,93,94,95,96,97,98,99,100,101] (by kernel_rfl) K.ds.length (fun i e σ=>e 67=.int .i64 i∧1≤σ.n∧σ.ob 0=some ⟨0,3,44,false,true,[bP K]⟩∧(List.range i).all (E4 K)=true) ?_ ?_
 ·exact ⟨(by first | rfl | (simp (disch:=omega) only [go_sem,jA,jB,jC,jD,jE,jF,jG,jH,jI,jJ,↓reduceIte,reduceCtorEq,jP,jO,jM,jN]; try rfl)),hm1,h0,rfl⟩
 clear h0 hm1 hm
 rintro i fe2 ob2 m2 c2 hi2 hm2 ⟨h67,hm3,v0,hall2⟩
 simp (maxSteps:=1000000) only [go_sem,jF,↓reduceIte] at h67 hm2 hm3 v0
 try simp (disch:=omega) only [go_sem,jF,↓reduceIte,h67]
 refine ah (fun hlt=>?_) (fun hge=>?_)
 ·have hil:i<K.ds.length:=by omega
  have hg:=jv hil
  have hgq:0<i→K.ds[i-1]?=some (gD K.ds (i-1)):=fun h=>jv (by omega)
  have hno:E4 K i=false→∀ {σ:St},aw σ (.int .i64 50) (.int .i64 (pa K)):=fun h σ=>no (by rw [hC,tL hil h])
  have hok:E4 K i=(ir (gD K.ds i).id 1 (K.nx-1)&&!(decide (0<i)&&decide ((gD K.ds i).id≤(gD K.ds (i-1)).id))&&gJ K (gD K.ds i)):=rfl
  have z1:¬0=m2:=by omega
  have hnx:1≤K.nx∧K.nx≤1073741824:=by simpa [ir] using h2
  try simp (disch:=omega) only [go_sem,jF,jG,jH,↓reduceIte,jO,dU,hg,Option.map_some,aS,Aw,DU,DW,wJ,wK,DV,CO,v0,z1,g1]
  refine ⟨by omega,by omega,?_⟩
  refine ab (cd _ _ _) (by simp [go_sem]) ?_
  cases k1:ir (gD K.ds i).id 1 (K.nx-1)
  ·try simp (disch:=omega) only [go_sem,jF,↓reduceIte]
   exact hno (by rw [hok,k1]; rfl)
  try simp (disch:=omega) only [go_sem,jF,↓reduceIte]
  refine bB rfl (fun hp=>?_) (fun hp=>?_)
  ·have hgp:=hgq (by omega)
   have ei:((i:Int)-1).toNat=i-1:=by omega
   try simp (disch:=omega) only [go_sem,jF,jG,jH,↓reduceIte,jO,v0,g2,z1,ei,dU,hgp,Option.map_some,aS,CO]
   refine ⟨by omega,by omega,?_⟩
   refine bH rfl (fun hq=>?_) (fun hq=>?_) <;> try simp (disch:=omega) only [go_sem,jF,jH,↓reduceIte,z1,v0,hKt,wJ,wK]
   ·exact hno (by rw [hok]; simp [hq]; omega)
   refine ab (pT K (gD K.ds i) hl) (by simp [hKp,qX]) ?_
   cases k3:gJ K (gD K.ds i)
   ·try simp (disch:=omega) only [go_sem,jF,↓reduceIte]
    exact hno (by rw [hok,k3]; simp)
   try simp (disch:=omega) only [go_sem,jF,↓reduceIte,jO]
   refine aD (m2+1) hil (by omega) ⟨(by first | rfl | (simp (disch:=omega) only [go_sem,jA,jB,jC,jD,jE,jF,jG,jH,jI,jJ,↓reduceIte,reduceCtorEq,jP,jO,jM,jN]; try rfl)),by simp only [St.aE]; omega,?_,fL hall2 (by rw [hok,k1,k3]; simp [hq])⟩
   rw [aW (by omega),aa _ _ _ _ (by omega),aa _ _ _ _ (by omega)]; exact v0
  ·try simp (disch:=omega) only [go_sem,jF,jH,↓reduceIte,z1,v0,hKt,wJ,wK]
   refine ab (pT K (gD K.ds i) hl) (by simp [hKp,qX]) ?_
   cases k3:gJ K (gD K.ds i)
   ·try simp (disch:=omega) only [go_sem,jF,↓reduceIte]
    exact hno (by rw [hok,k3]; simp)
   try simp (disch:=omega) only [go_sem,jF,↓reduceIte,jO]
   refine aD (m2+1) hil (by omega) ⟨(by first | rfl | (simp (disch:=omega) only [go_sem,jA,jB,jC,jD,jE,jF,jG,jH,jI,jJ,↓reduceIte,reduceCtorEq,jP,jO,jM,jN]; try rfl)),by simp only [St.aE]; omega,?_,fL hall2 (by rw [hok,k1,k3]; simp; omega)⟩
   rw [aW (by omega),aa _ _ _ _ (by omega),aa _ _ _ _ (by omega)]; exact v0
 obtain rfl:i=K.ds.length:=by omega
 try simp (disch:=omega) only [go_sem,↓reduceIte]
 exact aw.of_eq (by rw [pa,hC,hall2]; rfl) rfl
theorem tW (K:Dk) (id who code now kind:Int) (hl:K.ps.length≤9223372036854775807) (hl2:K.ds.length≤9223372036854775807) :
  PC prog E6 [bP K,.int .i64 id,.int .i64 who,.int .i64 code,.int .i64 now,.int .i64 kind] (.tuple [.int .i64 (bK K id who code now kind).1,ri (bK K id who code now kind).2.1,.int .i64 (bK K id who code now kind).2.2]):=by
 refine ae FQ (by simp) ?_
 simp only [xy]
 have hK:(bP K).flat=true:=by simp [bP,go_sem]
 have hKc:(bP K).cells.length=3:=rfl
 have hKp:=eC K
 have hKt:AV.agg ((bP K).cells.take 3)=bP K:=rfl
 have hKd:AV.agg (((bP K).cells.drop 0).take 3)=bP K:=rfl
 have g2:(bP K).cells.getD 2 .bF=.list 7 (yn K.ds):=rfl
 have fin:∀ {σ:St} (i e:Int) (p:Pn),bK K id who code now kind=(i,p,e)→aw σ (.tuple [.int .i64 i,ri p,.int .i64 e]) (.tuple [.int .i64 (bK K id who code now kind).1,ri (bK K id who code now kind).2.1,.int .i64 (bK K id who code now kind).2.2]):=fun i e p h=>by
  rw [h]; exact aw.pure rfl
 try simp (disch:=omega) only [go_sem,jF,jG,jH,↓reduceIte,reduceCtorEq,hK,hKc,hKt]
 refine ab (kN K hl hl2) (by simp [hKp]) ?_
 rw [pa]
 cases hc:cn K
 ·try simp (disch:=omega) only [go_sem,jA,jF,jG,jH,↓reduceIte,reduceCtorEq]
  exact fin 0 50 Cr (by rw [bK,if_pos hc])
 try simp (disch:=omega) only [go_sem,jF,jG,jH,↓reduceIte,reduceCtorEq,g2,aS]
 have hA:bK K id who code now kind=rG K id who code now kind K.ds 0:=by rw [bK,if_neg (by simp [hc])]
 refine aT [12,14,15,16,17,18,26,27,28,29,30,31,32,33,34,35,36,37,38,39,40,41,42,43,44,45,46,47,48,49,50,51,52,53,54,55,56,57,58,59,60,61,62,63] (by kernel_rfl) K.ds.length (fun i e σ=>e 26=.int .i64 i∧2≤σ.n∧σ.ob 0=some ⟨0,3,44,false,true,[bP K]⟩∧σ.ob 1=some ⟨1,3,131,false,true,[.agg [.int .i64 0,.int .i64 0,.int .i64 0]]⟩∧
  bK K id who code now kind=rG K id who code now kind (K.ds.drop i) i) ?_ ?_
 ·exact ⟨(by first | rfl | (simp (disch:=omega) only [go_sem,jA,jB,jC,jD,jE,jF,jG,jH,jI,jJ,↓reduceIte,reduceCtorEq,jP,jO,jM,jN]; try rfl)),Nat.le_refl _,by try simp (disch:=omega) only [go_sem,↓reduceIte,reduceCtorEq],by try simp (disch:=omega) only [go_sem,↓reduceIte],hA⟩
 rintro i fe ob m c hi hm ⟨h26,hm1,v0,v1,hS⟩
 simp (maxSteps:=1000000) only [go_sem,jF,↓reduceIte] at h26 hm hm1 v0 v1
 try simp (disch:=omega) only [go_sem,jF,↓reduceIte,h26]
 refine ah (fun hlt=>?_) (fun hge=>?_)
 ·have hil:i<K.ds.length:=by omega
  have hg:K.ds[i]?=some K.ds[i]:=List.getElem?_eq_getElem hil
  rw [List.drop_eq_getElem_cons hil,rG] at hS
  generalize K.ds[i]=d at *
  have z0:¬0=m:=by omega
  have z1:¬1=m:=by omega
  try simp (disch:=omega) only [go_sem,jF,jH,↓reduceIte,reduceCtorEq,dU,hg,Option.map_some,aS,Aw,DU,DW,wJ,wK,DV,CO]
  refine ⟨by omega,by omega,?_⟩
  refine aY (fun k1=>?_) (fun k1=>?_)
  ·try simp (disch:=omega) only [go_sem,jF,↓reduceIte,jO]
   rw [if_pos k1] at hS
   refine aD (m+1) hil (by omega) ⟨(by first | rfl | (simp (disch:=omega) only [go_sem,jA,jB,jC,jD,jE,jF,jG,jH,jI,jJ,↓reduceIte,reduceCtorEq,jP,jO,jM,jN]; try rfl)),by simp only [St.aE]; omega,?_,?_,hS⟩
   ·rw [aW (by omega),aa _ _ _ _ (by omega),aa _ _ _ _ (by omega)]; exact v0
   ·rw [aW (by omega),aa _ _ _ _ (by omega),aa _ _ _ _ (by omega)]; exact v1
  rw [if_neg (by simpa using k1)] at hS
  try simp (disch:=omega) only [go_sem,jF,jG,jH,↓reduceIte,Ry]
  have bad:∀ e,bK K id who code now kind=(0,Cr,e)→True:=fun _ _=>trivial
  cases k2:d.wd
  ·try simp (disch:=omega) only [go_sem,jF,jG,jH,↓reduceIte,reduceCtorEq,Rz]
   refine ah (fun k3=>?_) (fun k3=>?_)
   ·try simp (disch:=omega) only [go_sem,jF,jG,jH,↓reduceIte,v1,z1]
    rw [if_pos (.inr k3)] at hS
    exact fin 0 44 Cr hS
   rw [if_neg (by simp [k2]; omega)] at hS
   try simp (disch:=omega) only [go_sem,jF,jH,↓reduceIte,reduceCtorEq,v0,z0,hKt]
   refine ab (jm K who hl) (by simp [hKp,go_sem]) ?_
   try simp (disch:=omega) only [go_sem,jF,jG,jH,↓reduceIte,ri]
   cases k4:(cR K who).2
   ·try simp (disch:=omega) only [go_sem,jF,jG,jH,↓reduceIte,jM,v1,z1]
    rw [if_pos k4] at hS
    exact fin 0 11 Cr hS
   rw [if_neg (by simp [k4])] at hS
   have z2:¬m=m+1:=by omega
   try simp (disch:=omega) only [go_sem,jF,jG,jH,↓reduceIte,reduceCtorEq,z2,wJ,wK]
   refine ab (mI (cR K who).1.key kind d) (by simp [qX,go_sem]) ?_
   try simp (disch:=omega) only [go_sem,jF,↓reduceIte]
   refine aY (fun k5=>?_) (fun k5=>?_)
   ·try simp (disch:=omega) only [go_sem,jF,jG,jH,↓reduceIte,jM,v1,z1]
    rw [if_pos k5] at hS
    have z3:¬1=m+1:=by omega
    try simp (disch:=omega) only [go_sem,jA,jB,jC,jD,jE,jF,jG,jH,jI,jJ,↓reduceIte,reduceCtorEq,jO,jM,jN,jK,jL,v1,z1,z3]
    exact fin 0 43 Cr hS
   rw [if_neg (by simpa using k5)] at hS
   have z3:¬1=m+1:=by omega
   try simp (disch:=omega) only [go_sem,jF,jG,jH,↓reduceIte,reduceCtorEq,v1,z1,z3]
   exact fin i 0 (cR K who).1 hS
  ·try simp (disch:=omega) only [go_sem,jF,jG,jH,↓reduceIte,v1,z1]
   rw [if_pos (.inl k2)] at hS
   exact fin 0 44 Cr hS
 obtain rfl:i=K.ds.length:=by omega
 rw [List.drop_length,rG] at hS
 try simp (disch:=omega) only [go_sem,jF,jG,jH,↓reduceIte,v1]
 exact fin 0 9 Cr hS
abbrev QV:TypeId:=131
abbrev HR:TypeId:=28
abbrev Lm:TypeId:=3
def cD (l:List Dv) (Es:List AV):List AV:=List.zipWith jd l Es
theorem qY {l:List Dv} {Cs:List AV} {w:Dv} {E:AV} (h:l.length=Cs.length):cD (l++[w]) (Cs++[E])=cD l Cs++[jd w E]:=by
 simp only [cD]; rw [List.zipWith_append h]; rfl
def lH (l:List Dv):List (List AV):=l.map fun d=>ints d.sg
def UO (σ:St) (K:Dk) (r:AV) (τ:St):Prop:=
 ∃ XP XA Fs l1,r=.agg [XP,.int .i64 K.nx,XA]∧σ.n≤l1∧l1≤τ.n∧cw 3 QV τ (pN K.ps) XP∧(∀ i,¬aZ XP i→σ.n≤i∧i<l1)∧
  cw 7 HR τ (cD K.ds Fs) XA∧IC 1 Lm τ Fs (lH K.ds)∧IG τ l1 XA Fs∧∀ i,i<σ.n→τ.ob i=σ.ob i
theorem iO (σ:St) (K:Dk) (h1:K.ps.length≤1000000) (h4:K.ds.length≤1000000) (h5:∀ d∈K.ds,d.sg.length≤1000000):HC prog uu [bP K] σ (UO σ K):=by
 obtain ⟨dL,n0,c0⟩:=σ
 refine aM vw (by simp) ?_
 simp only [vh,bP]
 try simp (disch:=omega) only [go_sem,jF,jG,jH,↓reduceIte,jM]
 refine db (M:=pN K.ps) (b:=24) cw.nil (by simp [aX]; omega) (by simp [aX]; omega) fun XP τ hP kP=>?_
 obtain ⟨ob1,n1,c1⟩:=τ
 obtain ⟨k1,k2,k3⟩:=kP
 simp only [List.nil_append] at hP
 have k1':n0+1+1≤n1:=k1
 have u0:=k2 n0 (by simp only; omega) (aZ.nil _)
 have u1:=k2 (n0+1) (by simp only; omega) (aZ.nil _)
 try simp (disch:=omega) only [go_sem,↓reduceIte,jM] at u0
 try simp (disch:=omega) only [go_sem,↓reduceIte] at u1
 try simp (disch:=omega) only [go_sem,jF,jG,jH,↓reduceIte,u0,hP.flat,hP.cells,aS]
 refine aT [3,5,13,14,15,16,17,18,19,20,21,22,23,24,25] (by kernel_rfl) K.ds.length (fun k e σ=>e 13=.int .i64 k∧n1≤σ.n∧(∀ i,i<n1→i≠n0→σ.ob i=ob1 i)∧σ.ob n0=some ⟨c0,3,44,false,true,[.agg [XP,.int .i64 K.nx,.list 7 (yn K.ds)]]⟩∧
  ∃ Y Fs,At e 3 Y∧cw 7 HR σ (cD (K.ds.take k) Fs) Y∧IC 1 Lm σ Fs (lH (K.ds.take k))∧IG σ n1 Y Fs) ?_ ?_
 ·exact ⟨(by first | rfl | (simp (disch:=omega) only [go_sem,jA,jB,jC,jD,jE,jF,jG,jH,jI,jJ,↓reduceIte,reduceCtorEq,jP,jO,jM,jN]; try rfl)),Nat.le_refl _,fun i hi hne=>aa _ _ _ _ hne,by try simp (disch:=omega) only [go_sem,↓reduceIte],.nil,[],(by simp only [At]; try simp (disch:=omega) only [go_sem,jF,↓reduceIte]),by simp [cD]; exact cw.nil,IC.nil _ _ _,IG.nil _ _⟩
 rintro k fe ob m c hk hm ⟨h13,hm1,ho,hb,Y,Fs,h3,hY,hJ,hH⟩
 simp (maxSteps:=1000000) only [go_sem,jF,↓reduceIte,At] at h13 hm hm1 ho hb h3
 try simp (disch:=omega) only [go_sem,jF,↓reduceIte,h13]
 refine ah (fun hlt=>?_) (fun hge=>?_)
 ·have hkl:k<K.ds.length:=by omega
  have hk2:K.ds[k]?=some K.ds[k]:=List.getElem?_eq_getElem hkl
  have hxl:=h5 _ (List.getElem_mem hkl)
  have htk:K.ds.take (k+1)=K.ds.take k++[K.ds[k]]:=dD _ _ hkl
  have hEl:Fs.length=k:=by have:=hJ.1; simp [lH] at this; omega
  generalize K.ds[k]=w at *
  try simp (disch:=omega) only [go_sem,jF,jG,jH,↓reduceIte,aS,dU,hk2,Option.map_some,gH,jd]
  refine ⟨by omega,by omega,?_⟩
  refine db (M:=ints w.sg) (b:=8) cw.nil (by simp [au]; omega) (by simp [au]; omega) fun E τ1 hE kE=>?_
  obtain ⟨ob6,m6,c6⟩:=τ1
  obtain ⟨e1,e2,e3⟩:=kE
  simp only [List.nil_append] at hE
  have e1':m+1≤m6:=e1
  have e2':∀ i,i<m→ob6 i=ob i:=fun i hi=>(e2 i (by simp only; omega) (aZ.nil _)).trans (by simp only; rw [aa _ _ _ _ (by omega),aa _ _ _ _ (by omega)])
  have e3':∀ i,i<m+1→aZ E i:=fun i hi=>e3 i hi (aZ.nil _)
  have hw6:=e2 m (by simp only; omega) (aZ.nil _)
  simp only [az] at hw6
  clear u1 k2 k3 k1 e1 e2 e3
  have z3:¬m=n0:=by omega
  have z5:¬m=m6:=by omega
  have oY:∀ i,i<n1→aZ Y i:=fun i hi=>aZ.em fun h=>by have:=(hH.low i h).1; omega
  have oYm:∀ i,m≤i→aZ Y i:=fun i hi=>hY.H2 hi
  try simp (disch:=omega) only [go_sem,jF,jG,jH,↓reduceIte,hE.flat,hE.cells,hE.one,hw6,h3]
  refine xf (ER.dk (L:=[jd w E]) (az _ _ _) (Nat.lt_succ_self _)) ?_
  have hYl:(cD (K.ds.take k) Fs).length≤1000000:=by simp [cD]; omega
  refine bE (b:=72) (hY.move (by simp only; omega) fun i hi hh=>?_) (by omega) (by omega) fun Y' τ2 hY2 kY=>?_
  ·simp only at hi ⊢
   rw [aa _ _ _ _ (by omega),aa _ _ _ _ (by omega),e2' i hi]
  obtain ⟨ob7,m7,c7⟩:=τ2
  have q1:m6+1≤m7:=kY.1
  have q2:∀ i,i<m→aZ Y i→ob7 i=ob i:=fun i hi h=>(kY.2.1 i (by simp only; omega) h).trans (by simp only; rw [aa _ _ _ _ (by omega),aa _ _ _ _ (by omega),e2' i hi])
  have q3:∀ i,m+1≤i→i<m6→ob7 i=ob6 i:=fun i hi hi2=>(kY.2.1 i (by simp only; omega) (oYm i (by omega))).trans (by simp only; rw [aa _ _ _ _ (by omega),aa _ _ _ _ (by omega)])
  have hEi:∀ i,¬aZ E i→m+1≤i∧i<m6:=fun i hi=>⟨Nat.le_of_not_lt fun h=>hi (e3' i h),hE.lt hi⟩
  try simp (disch:=omega) only [go_sem,jF,↓reduceIte,jO]
  refine aD m7 hkl (by omega) ⟨(by first | rfl | (simp (disch:=omega) only [go_sem,jA,jB,jC,jD,jE,jF,jG,jH,jI,jJ,↓reduceIte,reduceCtorEq,jP,jO,jM,jN]; try rfl)),by simp only [St.aE]; omega,fun i hi hne=>?_,?_,Y',Fs++[E],(by simp only [At]; try simp (disch:=omega) only [go_sem,jF,↓reduceIte]),?_,?_,?_⟩
  ·rw [aW (by omega),q2 i (by omega) (oY i hi)]; exact ho i hi hne
  ·rw [aW (by omega),q2 n0 (by omega) (oY n0 (by omega))]; exact hb
  ·rw [htk,qY (by simp; omega)]
   exact hY2.tr
  ·rw [htk,show lH (K.ds.take k++[w])=lH (K.ds.take k)++[ints w.sg] by simp [lH]]
   refine IC.snoc (hJ.move (by simp only [St.aE]; omega) fun F hF2 i hi hlt=>?_) (hE.move (by simp only [St.aE]; omega) fun i hlt hi=>?_)
   ·have hi1:=(hH.Ff F hF2 i hi).1
    simp only at hlt
    rw [aW (by omega),q2 i hlt (hH.sep F hF2 i hi)]
   ·have hi1:=hEi i hi
    rw [aW (by omega),q3 i hi1.1 hi1.2]
  ·exact (hH.snoc (by simp only; omega) (show m≤m6+1 by omega) (fun i hi=>⟨by have:=(hEi i hi).1; simp only; omega,by have:=(hEi i hi).2; simp only; omega⟩) kY fun i hi=>hY2.H2 hi).up (Nat.le_refl _)
 obtain rfl:k=K.ds.length:=by omega
 rw [List.take_length] at hY hJ
 have u1':ob (n0+1)=some ⟨c0+1,3,44,false,true,[.agg [.nil,.int .i64 0,.nil]]⟩:=by rw [ho _ (by omega) (by omega),u1]
 have zz:¬n0+1=n0:=by omega
 have zz2:¬n0=n0+1:=by omega
 try simp (disch:=omega) only [go_sem,jF,jG,jH,↓reduceIte,hb,u1',zz,h3,hY.flat,hY.cells,hY.one,hP.one]
 have k3':∀ i,¬aZ XP i→n0+2≤i:=fun i hi=>Nat.le_of_not_lt fun h=>hi (k3 i h (aZ.nil _))
 have z3:∀ (x y:Option aV) i,i≠n0→i≠n0+1→bd (bd ob n0 x) (n0+1) y i=ob i:=fun x y i h1 h2=>by rw [aa _ _ _ _ h2,aa _ _ _ _ h1]
 refine ⟨XP,Y,Fs,n1,rfl,by simp only; omega,hm1,hP.move hm1 fun i hi hh=>?_,fun i hi=>⟨by have:=k3' i hi; simp only; omega,hP.lt hi⟩,hY.move (Nat.le_refl _) fun i hi hh=>?_,hJ.move (Nat.le_refl _) fun E hE i hi hh=>?_,hH.up (Nat.le_refl _),fun i hi=>?_⟩
 ·have h1:=k3' i hh
  simp only at hi ⊢
  rw [z3 _ _ i (by omega) (by omega),ho i hi (by omega)]
 ·have h1:=(hH.low i hh).1
  simp only
  rw [z3 _ _ i (by omega) (by omega)]
 ·have h1:=(hH.Ff E hE i hi).1
  simp only
  rw [z3 _ _ i (by omega) (by omega)]
 ·simp only at hi ⊢
  rw [z3 _ _ i (by omega) (by omega),ho i (by omega) (by omega)]
  refine (k2 i (by simp only; omega) (aZ.nil _)).trans ?_
  simp only
  rw [aa _ _ _ _ (by omega),aa _ _ _ _ (by omega)]
theorem pM {σ:St} {ps:List Pn} {ds:List Dv} {n:Int} {XP XA:AV} {Fs:List AV} (hP:cw 3 QV σ (pN ps) XP) (hA:cw 7 HR σ (cD ds Fs) XA) (hI:IC 1 Lm σ Fs (lH ds)):aw σ (.agg [XP,.int .i64 n,XA]) (bP ⟨ps,n,ds⟩):=by
 have hl:Fs.length=ds.length:=by have:=hI.1; simpa [lH] using this
 refine aw.ag (.cons (hP.mF (fun _ _ _=>rfl) (Di _) (Gn _)) (.cons (aw.e rfl) (.cons (LI hA (fun _ _ _=>rfl) (by simp [cD,yn,hl]) (fun i x y hx hy=>?_) (J0 _)) .nil)))
 rw [dU] at hy
 obtain ⟨d,hd,rfl⟩:=Option.map_eq_some_iff.1 hy
 simp only [cD,List.getElem?_zipWith,hd] at hx
 cases hF:Fs[i]? with
 | none=>simp [hF] at hx
 | some E=>
  simp only [hF,Option.some.injEq] at hx
  subst hx
  have hp:=hI.mF (τ:=σ) (fun _ _ _ _ _=>rfl) (by simp [lH]; intro a _; exact dp _) (by simp [lH]; intro a _; exact fU _) i E (ints d.sg) hF (by simp [lH,hd])
  exact aw.ag (.cons (aw.e rfl) (.cons (aw.e rfl) (.cons (aw.e rfl) (.cons (aw.e rfl) (.cons (aw.e rfl) (.cons hp (.cons (aw.e rfl) .nil)))))))
structure A9 (K:Dk):Prop where
 lp:K.ps.length≤12
 ld:K.ds.length≤64
 ip:∀ p∈K.ps,0≤p.id∧p.id≤1073741824
 kd:∀ d∈K.ds,0≤d.id∧d.id≤1073741824∧d.sg.length≤2
theorem uN:A9 uO:=⟨by simp [uO],by simp [uO],by simp [uO],by simp [uO]⟩
theorem gh {K:Dk} (h:cn K=true):1≤K.nx∧K.nx≤1073741824∧K.ps.length≤12∧K.ds.length≤64:=by
 simp only [cn,Bool.and_eq_true,ir,decide_eq_true_eq] at h
 exact ⟨h.1.1.1.2.1,h.1.1.1.2.2,h.1.1.1.1,h.1.1.2⟩
structure IL (K:Dk):Prop where
 lp:K.ps.length≤9223372036854775807
 ld:K.ds.length≤9223372036854775807
theorem A9.s {K:Dk} (h:A9 K):IL K:=⟨by have:=h.lp; omega,by have:=h.ld; omega⟩
theorem J7 {K:Dk} (h:cn K=true) {d:Dv} (hd:d∈K.ds):gJ K d=true:=by
 obtain ⟨i,hi⟩:=List.getElem?_of_mem hd
 have hil:=(List.getElem?_eq_some_iff.1 hi).1
 simp only [cn,Bool.and_eq_true,List.all_eq_true,List.mem_range] at h
 have h1:=h.2 i hil
 simp only [E4,Bool.and_eq_true] at h1
 rw [jv hil] at hi
 obtain rfl:=Option.some.inj hi
 exact h1.2
theorem gg {K:Dk} (h:cn K=true) {d:Dv} (hd:d∈K.ds):d.sg.length≤2:=by
 have h1:=J7 h hd
 simp only [gJ,Bool.and_eq_true,decide_eq_true_eq] at h1
 exact h1.1.1.2
theorem OG {K:Dk} (h:A9 K) (site fr to rel:Int):A9 (bU K site fr to rel).1:=by
 unfold bU
 cases hc:cn K
 ·simp only [if_true]; exact uN
 have h1:=gh hc
 simp only [Bool.true_eq_false,if_false]
 split
 ·exact uN
 split
 ·exact uN
 split
 ·exact uN
 split
 ·exact uN
 ·rename_i hn
  refine ⟨h.lp,by simp; omega,h.ip,fun d hd=>?_⟩
  rcases List.mem_append.1 hd with hd | hd
  ·exact h.kd d hd
  ·obtain rfl:d=_:=by simpa using hd
   exact ⟨by simp only; omega,by simp only; omega,by simp⟩
theorem I0 {K:Dk} (h:A9 K) {i:Nat} {d:Dv} (hd:0≤d.id∧d.id≤1073741824∧d.sg.length≤2):A9 ⟨K.ps,K.nx,K.ds.set i d⟩:=
 ⟨h.lp,by simpa using h.ld,h.ip,fun e he=>by
  rcases List.mem_or_eq_of_mem_set he with he | rfl
  ·exact h.kd e he
  ·exact hd⟩
theorem JN {K:Dk} (h:A9 K) (i:Nat):0≤(gD K.ds i).id∧(gD K.ds i).id≤1073741824∧(gD K.ds i).sg.length≤2:=by
 by_cases hi:i<K.ds.length
 ·exact h.kd _ (List.mem_of_getElem? (jv hi))
 ·have:gD K.ds i=default:=by rw [gD,List.getD_eq_getElem?_getD,List.getElem?_eq_none (by omega)]; rfl
  rw [this]; simp [default,instInhabitedDv.default]
theorem IY {K:Dk} (h:A9 K) (id who code now:Int):A9 (ka K id who code now).1:=by
 simp only [ka]
 split
 ·exact uN
 split
 ·exact uN
 split
 ·exact uN
 ·rename_i h1 h2 _
  have hg:=JN h (bK K id who code now 1).1.toNat
  exact I0 h ⟨hg.1,hg.2.1,by simp; omega⟩
theorem Nq {K:Dk} (h:A9 K) (id who code now:Int):A9 (ku K id who code now).1:=by
 simp only [ku]
 split
 ·exact uN
 ·have hg:=JN h (bK K id who code now 2).1.toNat
  exact I0 h ⟨hg.1,hg.2.1,hg.2.2⟩
theorem dv (K:Dk):(bP K).flat=true:=by simp [bP,go_sem]
theorem dF (K:Dk):(bP K).cells.length=3:=rfl
theorem iC (K:Dk):AV.agg ((bP K).cells.take 3)=bP K:=rfl
theorem TI (K:Dk):AV.agg (((bP K).cells.drop 0).take 3)=bP K:=rfl
theorem J3 (K:Dk):(bP K).cells.getD 0 .bF=.list 3 (pN K.ps):=rfl
theorem HD (K:Dk):(bP K).cells.getD 1 .bF=.int .i64 K.nx:=rfl
theorem Fv (K:Dk):(bP K).cells.getD 2 .bF=.list 7 (yn K.ds):=rfl
theorem GJ (K:Dk) (a b c:AV):fI 0 (.agg [a,b,c]) (bP K)=.agg [a,b,c]:=rfl
theorem eW {σ:St}:aw σ (.agg [.nil,.int .i64 0,.nil]) (bP uO):=aw.ag (.cons (.nl 3) (.cons (aw.e rfl) (.cons (.nl 7) .nil)))
theorem ma (K:Dk) (hB:IL K) (site fr to rel:Int):PC prog oV [bP K,.int .i64 site,.int .i64 fr,.int .i64 to,.int .i64 rel] (.tuple [bP (bU K site fr to rel).1,.int .i64 (bU K site fr to rel).2.1,.int .i64 (bU K site fr to rel).2.2]):=by
 have hlp:=hB.lp
 have hld:=hB.ld
 refine ae yz (by simp) ?_
 simp only [pn]
 have hKp:=eC K
 have bad:∀ {σ:St} (e:Int),bU K site fr to rel=(uO,0,e)→aw σ (.tuple [.agg [.nil,.int .i64 0,.nil],.int .i64 0,.int .i64 e]) (.tuple [bP (bU K site fr to rel).1,.int .i64 (bU K site fr to rel).2.1,.int .i64 (bU K site fr to rel).2.2]):=fun e h=>by
  rw [h]; exact aw.tu (.cons eW (.cons (aw.e rfl) (.cons (aw.e rfl) .nil)))
 try simp (disch:=omega) only [go_sem,jF,jG,jH,↓reduceIte,reduceCtorEq,dv,dF,iC]
 refine ab (kN K (by omega) (by omega)) (by simp [hKp]) ?_
 rw [pa]
 cases hc:cn K
 ·try simp (disch:=omega) only [go_sem,jA,jF,jG,jH,↓reduceIte,reduceCtorEq]
  exact bad 50 (by rw [bU,if_pos hc])
 try simp (disch:=omega) only [go_sem,jF,↓reduceIte,reduceCtorEq]
 refine ab (cd _ _ _) (by simp [go_sem]) ?_
 cases h2:ir site 0 5
 ·try simp (disch:=omega) only [go_sem,jF,jG,jH,↓reduceIte]
  exact bad 40 (by rw [bU,if_neg (by simp [hc]),if_pos h2])
 try simp (disch:=omega) only [go_sem,jF,↓reduceIte,reduceCtorEq]
 refine bH rfl (fun h3=>?_) (fun h3=>?_) <;> try simp (disch:=omega) only [go_sem,jF,jG,jH,↓reduceIte,reduceCtorEq]
 ·exact bad 6 (by rw [bU,if_neg (by simp [hc]),if_neg (by simp [h2]),if_pos (.inl h3)])
 refine bH rfl (fun h4=>?_) (fun h4=>?_) <;> try simp (disch:=omega) only [go_sem,jF,jG,jH,↓reduceIte,reduceCtorEq]
 ·exact bad 6 (by rw [bU,if_neg (by simp [hc]),if_neg (by simp [h2]),if_pos (.inr (.inl h4))])
 refine ah (fun h5=>?_) (fun h5=>?_) <;> try simp (disch:=omega) only [go_sem,jF,jG,jH,↓reduceIte,reduceCtorEq]
 ·exact bad 6 (by rw [bU,if_neg (by simp [hc]),if_neg (by simp [h2]),if_pos (.inr (.inr h5))])
 refine ab (cd _ _ _) (by simp [go_sem]) ?_
 cases h6:ir rel 0 1073741824
 ·try simp (disch:=omega) only [go_sem,jF,jG,jH,↓reduceIte]
  exact bad 1 (by rw [bU,if_neg (by simp [hc]),if_neg (by simp [h2]),if_neg (by omega),if_pos h6])
 try simp (disch:=omega) only [go_sem,jF,jG,jH,↓reduceIte,reduceCtorEq,Fv,aS]
 refine bH rfl (fun h7=>?_) (fun h7=>?_) <;> try simp (disch:=omega) only [go_sem,jF,jG,jH,↓reduceIte,reduceCtorEq,HD]
 ·exact bad 10 (by rw [bU,if_neg (by simp [hc]),if_neg (by simp [h2]),if_neg (by omega),if_neg (by simp [h6]),if_pos (.inl (by omega))])
 refine ah (fun h8=>?_) (fun h8=>?_) <;> try simp (disch:=omega) only [go_sem,jF,jG,jH,↓reduceIte,reduceCtorEq]
 ·exact bad 10 (by rw [bU,if_neg (by simp [hc]),if_neg (by simp [h2]),if_neg (by omega),if_neg (by simp [h6]),if_pos (.inr h8)])
 try simp (disch:=omega) only [go_sem,iC]
 have hS:bU K site fr to rel=(⟨K.ps,K.nx+1,K.ds++[⟨K.nx,site,fr,to,rel,[],false⟩]⟩,K.nx,0):=by
  rw [bU,if_neg (by simp [hc]),if_neg (by simp [h2]),if_neg (by omega),if_neg (by simp [h6]),if_neg (by omega)]
 have hnx:=gh hc
 refine (iO _ K (by omega) (by omega) fun d hd=>by have:=gg hc hd; omega).mono ?_
 rintro r ⟨ob1,n1,c1⟩ ⟨XP,XA,Fs,l1,rfl,hl1,hl2,hP,hPl,hA,hI,hG,hfr⟩
 simp only at hl1 hl2 hPl hfr
 have u0:=hfr 0 (by omega)
 have u1:=hfr 1 (by omega)
 try simp (disch:=omega) only [go_sem,↓reduceIte,reduceCtorEq] at u0
 try simp (disch:=omega) only [go_sem,↓reduceIte] at u1
 try simp (disch:=omega) only [go_sem,jF,jG,jH,↓reduceIte,reduceCtorEq,u0,hP.one,hA.one,GJ]
 have hXl:(cD K.ds Fs).length≤64:=by simp [cD]; omega
 have hFl:Fs.length=K.ds.length:=by have:=hI.1; simpa [lH] using this
 refine bE (b:=72) (hA.move (τ:=⟨_,n1,c1⟩) (Nat.le_refl _) fun i hi hh=>?_) (by omega) (by omega) fun X' τ2 hX2 kX=>?_
 ·have:=(hG.low i hh).1
  simp only
  rw [aa _ _ _ _ (by omega)]
 obtain ⟨ob3,m3,c3⟩:=τ2
 have oX:∀ i,i<l1→aZ XA i:=fun i hi=>aZ.em fun h=>by have:=(hG.low i h).1; omega
 have q0:=kX.2.1 0 (by simp only; omega) (oX 0 (by omega))
 have q1:=kX.2.1 1 (by simp only; omega) (oX 1 (by omega))
 have q2:∀ i,2≤i→i<n1→aZ XA i→ob3 i=ob1 i:=fun i h2 hi ho=>(kX.2.1 i hi ho).trans (by simp only; rw [aa _ _ _ _ (by omega)])
 have hn3:n1≤m3:=kX.1
 try simp (disch:=omega) only [go_sem,↓reduceIte] at q0
 try simp (disch:=omega) only [go_sem,↓reduceIte,reduceCtorEq,u1] at q1
 have zm:∀ (x y z:Option aV) i,2≤i→bd (bd (bd ob3 0 x) 0 y) 1 z i=ob3 i:=fun x y z i h=>by rw [aa _ _ _ _ (by omega),aa _ _ _ _ (by omega),aa _ _ _ _ (by omega)]
 try simp (disch:=omega) only [go_sem,jF,jG,jH,↓reduceIte,reduceCtorEq,jO,q0,q1,hP.one,hX2.flat,hX2.cells,hX2.one]
 rw [hS]
 have oX2:∀ i,i<l1→aZ X' i:=fun i hi=>kX.2.2 i (by simp only; omega) (oX i hi)
 have hX3:cw 7 HR ⟨ob3,m3,c3⟩ (cD (K.ds++[⟨K.nx,site,fr,to,rel,[],false⟩]) (Fs++[.nil])) X':=by rw [qY (by omega)]; exact hX2
 refine aw.tu (.cons (pM (hP.move hn3 fun i hi hh=>?_) (hX3.move (Nat.le_refl _) fun i hi hh=>?_) ?_) (.cons (by rw [show K.nx+1-1=K.nx by omega]; exact aw.e rfl) (.cons (aw.e rfl) .nil)))
 ·have h9:=hPl i hh
  simp only
  rw [zm _ _ _ i h9.1,q2 i h9.1 hi (oX i h9.2)]
 ·have h9:2≤i:=Nat.le_of_not_lt fun h=>hh (oX2 i (by omega))
  simp only
  rw [zm _ _ _ i h9]
 ·rw [show lH (K.ds++[⟨K.nx,site,fr,to,rel,[],false⟩])=lH K.ds++[ints []] by simp [lH]]
  refine IC.snoc (hI.move hn3 fun E hE i hi hlt=>?_) cw.nil
  have h9:=(hG.Ff E hE i hi).1
  simp only
  rw [zm _ _ _ i (by omega),q2 i (by omega) hlt (hG.sep E hE i hi)]
theorem vZ (K:Dk) (hB:A9 K) (site fr to rel:Int):PC prog oV [bP K,.int .i64 site,.int .i64 fr,.int .i64 to,.int .i64 rel] (.tuple [bP (bU K site fr to rel).1,.int .i64 (bU K site fr to rel).2.1,.int .i64 (bU K site fr to rel).2.2]):=ma K hB.s site fr to rel
def Pe (l:List Pn):Prop:=∀ p∈l,0≤p.id∧p.id≤1000∧0≤p.key∧p.key≤1000
def IE (l:List Pn):Prop:=∀ i,i<l.length→F6 ⟨l,1,[]⟩ i=true
theorem JL {l:List Pn} {d:Pn} {i:Nat}:gP (l++[d]) i=if i<l.length then gP l i else if i=l.length then d else default:=by
 rw [gP,gP,List.getD_eq_getElem?_getD,List.getD_eq_getElem?_getD]
 split
 ·rename_i h; rw [List.getElem?_append_left h]
 ·rename_i h
  split
  ·rename_i e; subst e; simp
  ·rename_i e; rw [List.getElem?_eq_none (by simp; omega)]; rfl
theorem IE.snoc {l:List Pn} {p:Pn} (h:IE l) (h1:∀ q∈l,q.id<p.id) (h2:1≤p.id∧p.id≤1073741824∧1≤p.role∧p.role≤9∧1≤p.key∧p.key≤1073741824):IE (l++[p]):=fun i hi=>by
 simp only [List.length_append,List.length_singleton] at hi
 by_cases e:i<l.length
 ·have:=h i e
  simp only [F6,JL,if_pos e,if_pos (show i-1<l.length by omega)] at this ⊢
  exact this
 ·have e':i=l.length:=by omega
  simp only [F6,JL,if_neg e,if_pos e',ir,Bool.and_eq_true,decide_eq_true_eq,Bool.not_eq_true',Bool.and_eq_false_iff,decide_eq_false_iff_not]
  refine ⟨⟨⟨by omega,?_⟩,by omega⟩,by omega⟩
  by_cases h0:0<i
  ·right
   rw [if_pos (by omega)]
   have:=h1 _ (List.mem_of_getElem? (wD (l:=l) (i:=i-1) (by omega)))
   omega
  ·exact .inl h0
theorem o7 (σ:St) (id g:Nat) (t:List Int) (at':Nat) (hl:t.length≤9223372036854775807) (hid:id<σ.n) (hob:σ.ob id=some ⟨g,2,aA,false,true,[bC t at']⟩) :
  HC prog rV [.ptr id g 2 0 0] σ (ek σ id g t fun r=>∃ l,r=.list 3 (pN l)∧l.length≤5∧Pe l∧IE l):=by
 refine HC.wL hid ?_
 obtain ⟨dL,n0,c0⟩:=σ
 simp only at hob hid
 refine aM B9 (by simp) ?_
 simp only [sH]
 try simp (disch:=omega) only [go_sem,↓reduceIte,reduceCtorEq]
 refine aL (ai _ id g aA true t at' 5 (by exact hob) (by omega) hl) ?_
 have hx1:=aI t at' 5
 generalize bf t at' 5=dr at *
 obtain ⟨x0,at0⟩:=dr
 simp only at hx1
 try simp (disch:=omega) only [go_sem,↓reduceIte]
 obtain ⟨K,hK⟩:∃ K:Nat,(K:Int)=x0∧K≤4:=⟨x0.toNat,by omega,by omega⟩
 obtain ⟨rfl,hK⟩:=hK
 refine aT [3,4,5,8,9,10,11,12,13,14,15,16,17,18,19,20,21,22,23,24,25,26,27] (by kernel_rfl) (K+1) (fun k e σ=>e 5=.int .i64 ((K:Int)-k)∧n0≤σ.n∧(∃ a,σ.ob id=some ⟨g,2,aA,false,true,[bC t a]⟩)∧(∀ i,i<n0→i≠id→σ.ob i=dL i)∧∃ y,e 4=.int .i64 y∧0≤y∧y≤3 * k∧
   ∃ l X,At e 3 X∧l.length=k∧Pe l∧(IE l∧∀ q∈l,q.id≤y)∧cw 3 131 σ (pN l) X∧∀ i,i<n0→aZ X i) ?_ ?_
 ·exact ⟨(by first | rfl | (simp (disch:=omega) only [go_sem,jA,jB,jC,jD,jE,jF,jG,jH,jI,jJ,↓reduceIte,reduceCtorEq,jP,jO,jM,jN]; try rfl)),Nat.le_refl _,⟨at0,by try simp (disch:=omega) only [go_sem,↓reduceIte]⟩,fun i hi hne=>by simp only; rw [aa _ _ _ _ hne],0,(by first | rfl | (simp (disch:=omega) only [go_sem,jA,jB,jC,jD,jE,jF,jG,jH,jI,jJ,↓reduceIte,reduceCtorEq,jP,jO,jM,jN]; try rfl)),by omega,by omega,[],.nil,(by simp only [At]; try simp (disch:=omega) only [go_sem,jF,↓reduceIte]),rfl,fun p hp=>by simp at hp,⟨fun i hi=>by simp at hi,fun q hq=>by simp at hq⟩,cw.nil,fun i _=>aZ.nil i⟩
 rintro k fe ob m c hk hm ⟨h5,hm1,⟨at3,hd⟩,hfr,y,h4,y0,y1,l,X,h3,hll,hB,hV,hX,ho⟩
 simp (maxSteps:=1000000) only [go_sem,jF,↓reduceIte,At] at h5 hm hm1 hd hfr h4 h3
 try simp (disch:=omega) only [go_sem,jF,↓reduceIte,h5]
 refine ah (fun hge=>?_) (fun hlt=>?_)
 ·have hkl:k<K+1:=by omega
  try simp (disch:=omega) only [go_sem,jF,↓reduceIte,reduceCtorEq]
  refine aL (ai _ id g aA true t at3 3 (by exact hd) (by omega) hl) ?_
  have hx2:=aI t at3 3
  generalize bf t at3 3=dr at *
  obtain ⟨x2,at4⟩:=dr
  simp only at hx2
  try simp (disch:=omega) only [go_sem,jF,↓reduceIte,reduceCtorEq,jO,h4,h3]
  refine aL (ai _ id g aA true t at4 3 (by try simp (disch:=omega) only [go_sem,↓reduceIte]) (by omega) hl) ?_
  have hx3:=aI t at4 3
  generalize bf t at4 3=dr at *
  obtain ⟨x3,at5⟩:=dr
  simp only at hx3
  try simp (disch:=omega) only [go_sem,↓reduceIte,reduceCtorEq,jO]
  refine aL (ai _ id g aA true t at5 1000 (by try simp (disch:=omega) only [go_sem,↓reduceIte]) (by omega) hl) ?_
  have hx4:=aI t at5 1000
  generalize bf t at5 1000=dr at *
  obtain ⟨x4,at6⟩:=dr
  simp only at hx4
  try simp (disch:=omega) only [go_sem,jF,jG,jH,↓reduceIte,jO,l6]
  refine bE (b:=24) (hX.move (by exact Nat.le_refl _) fun i hi hno=>?_) (by rw [aX]; omega) (by rw [aX]; omega) fun Y τ5 hR5 hK5=>?_
  ·simp only
   rw [aa _ _ _ _ fun e=>hno (by rw [e]; exact ho id hid)]
  obtain ⟨ob5,m5,c5⟩:=τ5
  have hn5:m≤m5:=hK5.1
  have f5:∀ i,i<n0→i≠id→ob5 i=ob i:=fun i hi hne=>(hK5.2.1 i (by simp only; omega) (ho i hi)).trans (aa _ _ _ _ hne)
  have d5:=(hK5.2.1 id (by simp only; omega) (ho id hid)).trans (az _ _ _)
  try simp (disch:=omega) only [go_sem,jF,↓reduceIte,jO]
  refine aD m5 hkl (by omega) ⟨by try simp (disch:=omega) only [go_sem,↓reduceIte]; congr 1; omega,by simp only [St.aE]; omega,⟨at6,by rw [aW (by omega)]; exact d5⟩,fun i hi hne=>by rw [aW (by omega),f5 i hi hne]; exact hfr i hi hne,y+(1+x2),(by first | rfl | (simp (disch:=omega) only [go_sem,jA,jB,jC,jD,jE,jF,jG,jH,jI,jJ,↓reduceIte,reduceCtorEq,jP,jO,jM,jN]; try rfl)),by omega,by omega,
   l++[⟨y+(1+x2),1+x3,1+x4⟩],Y,(by simp only [At]; try simp (disch:=omega) only [go_sem,jF,↓reduceIte]),by simp [hll],fun p hp=>?_,⟨hV.1.snoc (fun q hq=>by have:=hV.2 q hq; simp only; omega) (by simp only; omega),fun q hq=>?_⟩,?_,fun i hi=>hK5.2.2 i (by simp only; omega) (ho i hi)⟩
  ·rcases List.mem_append.1 hp with hp | hp
   ·exact hB p hp
   ·obtain rfl:p=_:=by simpa using hp
    simp only; omega
  ·rcases List.mem_append.1 hq with hq | hq
   ·have:=hV.2 q hq; omega
   ·obtain rfl:q=_:=by simpa using hq
    simp only; omega
  ·rw [show pN (l++[⟨y+(1+x2),1+x3,1+x4⟩])=pN l++[.agg [.int .i64 (y+(1+x2)),.int .i64 (1+x3),.int .i64 (1+x4)]] by simp [pN,ri]]
   exact hR5.tr
 obtain rfl:k=K+1:=by omega
 try simp (disch:=omega) only [go_sem,jF,↓reduceIte,h3]
 refine ⟨.list 3 (pN l),at3,?_,⟨l,rfl,by omega,hB,hV.1⟩,hd,hfr⟩
 exact hX.mF (fun i hi hh=>by simp only; rw [if_neg fun h=>hh (ho i h)]) (Di _) (Gn _)
theorem JK (σ:St) (id g:Nat) (t:List Int) (at':Nat) (hl:t.length≤9223372036854775807) (hid:id<σ.n) (hob:σ.ob id=some ⟨g,2,aA,false,true,[bC t at']⟩) :
  HC prog rV [.ptr id g 2 0 0] σ (ek σ id g t fun r=>∃ l,r=.list 3 (pN l)∧l.length≤5∧Pe l):=
 (o7 σ id g t at' hl hid hob).mono fun _ _ h=>h.mono fun _ ⟨l,h1,h2,h3,_⟩=>⟨l,h1,h2,h3⟩
def SN (r:AV):Prop:=∃ a b c,r=.tuple [.int .i64 a,.int .i64 b,.int .i64 c]∧0≤a∧a≤1073741824∧0≤b∧b≤1073741824∧0≤c∧c≤4294967296
theorem FA:∀ (l:List Int) (c:Int),0≤c→c≤2147483647→0≤qs c l∧qs c l≤2147483647
 | [],c,h0,h1=>⟨h0,h1⟩
 | n :: l,c,h0,h1=>by
  have b1:=tx n
  have b2:=na (n.tmod 2147483647+2147483647) (by omega)
  have b3:=na (31 * c+(n.tmod 2147483647+2147483647).tmod 2147483647) (by omega)
  rw [qs]
  exact FA l _ b3.1 (by omega)
theorem Fz (key kind:Int) (d:Dv):0≤sh key kind d∧sh key kind d≤2147483647:=FA _ 7 (by omega) (by omega)
theorem lg (σ:St) (id g:Nat) (t:List Int) (at':Nat) (K:Dk) (hB:A9 K) (now:Int) (hl:t.length≤9223372036854775807) (hid:id<σ.n) (hob:σ.ob id=some ⟨g,2,aA,false,true,[bC t at']⟩) :
  HC prog rT [.ptr id g 2 0 0,bP K,.int .i64 now] σ (ek σ id g t SN):=by
 refine HC.wL hid ?_
 obtain ⟨dL,n0,c0⟩:=σ
 simp only at hob hid
 refine aM sK (by simp) ?_
 simp only [mY]
 have z0:¬id=n0:=by omega
 have z1:¬n0=id:=by omega
 try simp (disch:=omega) only [go_sem,jF,jG,jH,↓reduceIte,reduceCtorEq,dv,dF,Fv,aS]
 have hlp:=hB.lp
 have hld:=hB.ld
 have fin:∀ (ob':Nat→Option aV) (c' m':Nat) (a b c:Int) (at2:Nat),ob' id=some ⟨g,2,aA,false,true,[bC t at2]⟩→(∀ i,i<n0→i≠id→ob' i=dL i)→(0≤a∧a≤1073741824∧0≤b∧b≤1073741824∧0≤c∧c≤4294967296)→
   CY ⟨dL,n0,c0⟩ id g t SN (.tuple [.int .i64 a,.int .i64 b,.int .i64 c]) ⟨ob',m',c'⟩:=fun ob' c' m' a b c at2 h1 h2 h3=>⟨_,at2,.pure rfl,⟨a,b,c,rfl,h3⟩,h1,h2⟩
 refine bH rfl (fun g1=>?_) (fun g1=>?_) <;> try simp (disch:=omega) only [go_sem,jF,jH,↓reduceIte,reduceCtorEq,J3,aX]
 ·refine aL (ai _ id g aA true t at' 3 (by try simp (disch:=omega) only [go_sem,↓reduceIte,z0]; exact hob) (by omega) hl) ?_
  have hx1:=aI t at' 3
  generalize bf t at' 3=dr at *
  obtain ⟨x1,at1⟩:=dr
  simp only at hx1
  try simp (disch:=omega) only [go_sem,↓reduceIte,reduceCtorEq,jO]
  refine aL (ai _ id g aA true t at1 3 (by try simp (disch:=omega) only [go_sem,↓reduceIte]) (by omega) hl) ?_
  have hx2:=aI t at1 3
  generalize bf t at1 3=dr at *
  obtain ⟨x2,at2⟩:=dr
  simp only at hx2
  try simp (disch:=omega) only [go_sem,↓reduceIte,reduceCtorEq,jO]
  refine aL (ai _ id g aA true t at2 100 (by try simp (disch:=omega) only [go_sem,↓reduceIte]) (by omega) hl) ?_
  have hx3:=aI t at2 100
  generalize bf t at2 100=dr at *
  obtain ⟨x3,at3⟩:=dr
  simp only at hx3
  try simp (disch:=omega) only [go_sem,jF,↓reduceIte]
  exact fin _ _ _ _ _ _ at3 (by try simp (disch:=omega) only [go_sem,↓reduceIte]) (fun i hi hne=>by
   have j0:¬i=n0:=by omega
   try simp (disch:=omega) only [go_sem,↓reduceIte,j0,hne]) (by omega)
 refine ah (fun g2=>?_) (fun g2=>?_) <;> try simp (disch:=omega) only [go_sem,jF,jG,jH,↓reduceIte,reduceCtorEq]
 ·refine aL (ai _ id g aA true t at' 3 (by try simp (disch:=omega) only [go_sem,↓reduceIte,z0]; exact hob) (by omega) hl) ?_
  have hx1:=aI t at' 3
  generalize bf t at' 3=dr at *
  obtain ⟨x1,at1⟩:=dr
  simp only at hx1
  try simp (disch:=omega) only [go_sem,↓reduceIte,reduceCtorEq,jO]
  refine aL (ai _ id g aA true t at1 3 (by try simp (disch:=omega) only [go_sem,↓reduceIte]) (by omega) hl) ?_
  have hx2:=aI t at1 3
  generalize bf t at1 3=dr at *
  obtain ⟨x2,at2⟩:=dr
  simp only at hx2
  try simp (disch:=omega) only [go_sem,↓reduceIte,reduceCtorEq,jO]
  refine aL (ai _ id g aA true t at2 100 (by try simp (disch:=omega) only [go_sem,↓reduceIte]) (by omega) hl) ?_
  have hx3:=aI t at2 100
  generalize bf t at2 100=dr at *
  obtain ⟨x3,at3⟩:=dr
  simp only at hx3
  try simp (disch:=omega) only [go_sem,jF,↓reduceIte]
  exact fin _ _ _ _ _ _ at3 (by try simp (disch:=omega) only [go_sem,↓reduceIte]) (fun i hi hne=>by
   have j0:¬i=n0:=by omega
   try simp (disch:=omega) only [go_sem,↓reduceIte,j0,hne]) (by omega)
 try simp (disch:=omega) only [go_sem,jF,jG,jH,↓reduceIte,reduceCtorEq,Fv,aS]
 refine aL (ai _ id g aA true t at' K.ds.length (by try simp (disch:=omega) only [go_sem,↓reduceIte,z0]; exact hob) (by omega) hl) ?_
 have hx1:=aI t at' K.ds.length
 generalize bf t at' K.ds.length=dr at *
 obtain ⟨x1,at1⟩:=dr
 simp only at hx1
 obtain ⟨i1,hi1⟩:∃ i1:Nat,(i1:Int)=x1∧i1<K.ds.length:=⟨x1.toNat,by omega,by omega⟩
 obtain ⟨rfl,hi1⟩:=hi1
 have hg1:=jv hi1
 have hd1:=JN hB i1
 generalize gD K.ds i1=d at *
 try simp (disch:=omega) only [go_sem,jF,jH,↓reduceIte,reduceCtorEq,jM,z1,aS,dU,hg1,Option.map_some,Aw,DU,DW,wJ,wK,DV,J3,aX]
 have z2:¬n0+1=id:=by omega
 have z3:¬id=n0+1:=by omega
 refine ⟨by omega,by omega,?_⟩
 refine aL (ai _ id g aA true t at1 K.ps.length (by try simp (disch:=omega) only [go_sem,↓reduceIte,z3]) (by omega) hl) ?_
 have hx2:=aI t at1 K.ps.length
 generalize bf t at1 K.ps.length=dr at *
 obtain ⟨x2,at2⟩:=dr
 simp only at hx2
 obtain ⟨i2,hi2⟩:∃ i2:Nat,(i2:Int)=x2∧i2<K.ps.length:=⟨x2.toNat,by omega,by omega⟩
 obtain ⟨rfl,hi2⟩:=hi2
 have hg2:=wD hi2
 have hd2:=hB.ip _ (List.mem_of_getElem? hg2)
 generalize gP K.ps i2=p at *
 try simp (disch:=omega) only [go_sem,jF,jG,jH,↓reduceIte,reduceCtorEq,jM,z1,z2,aX,iJ,hg2,Option.map_some,ri,JZ]
 refine ⟨by omega,by omega,?_⟩
 refine ab (mI p.key 1 d) (by simp [qX,go_sem]) ?_
 have cb1:=Fz p.key 1 d
 have cb2:=Fz p.key 2 d
 have z4:¬n0+1+1=id:=by omega
 have z5:¬id=n0+1+1:=by omega
 try simp (disch:=omega) only [go_sem,↓reduceIte,reduceCtorEq]
 refine aL (ai _ id g aA true t at2 8 (by try simp (disch:=omega) only [go_sem,↓reduceIte,z5]) (by omega) hl) ?_
 generalize bf t at2 8=dr at *
 obtain ⟨x3,at3⟩:=dr
 try simp (disch:=omega) only [go_sem,↓reduceIte]
 refine ah (fun g3=>?_) (fun g3=>?_)
 ·try simp (disch:=omega) only [go_sem,jF,jG,jH,↓reduceIte,jM,z2,z4,JZ]
  refine ab (mI p.key 2 d) (by simp [qX,go_sem]) ?_
  try simp (disch:=omega) only [go_sem,jF,jH,↓reduceIte,jM,z2,z4,CO]
  exact fin _ _ _ _ _ _ at3 (by try simp (disch:=omega) only [go_sem,↓reduceIte]) (fun i hi hne=>by
   have j0:¬i=n0:=by omega
   have j1:¬i=n0+1:=by omega
   have j2:¬i=n0+1+1:=by omega
   try simp (disch:=omega) only [go_sem,↓reduceIte,j0,j1,j2,hne]) (by omega)
 try simp (disch:=omega) only [go_sem,jF,↓reduceIte]
 refine ah (fun g4=>?_) (fun g4=>?_)
 ·try simp (disch:=omega) only [go_sem,jF,jH,↓reduceIte,jO,jM,z2,z4,CO]
  exact fin _ _ _ _ _ _ at3 (by try simp (disch:=omega) only [go_sem,↓reduceIte]) (fun i hi hne=>by
   have j0:¬i=n0:=by omega
   have j1:¬i=n0+1:=by omega
   have j2:¬i=n0+1+1:=by omega
   try simp (disch:=omega) only [go_sem,↓reduceIte,j0,j1,j2,hne]) (by omega)
 try simp (disch:=omega) only [go_sem,jF,jH,↓reduceIte,jM,z2,z4,CO]
 exact fin _ _ _ _ _ _ at3 (by try simp (disch:=omega) only [go_sem,↓reduceIte]) (fun i hi hne=>by
   have j0:¬i=n0:=by omega
   have j1:¬i=n0+1:=by omega
   have j2:¬i=n0+1+1:=by omega
   try simp (disch:=omega) only [go_sem,↓reduceIte,j0,j1,j2,hne]) (by omega)
theorem uL {ds:List Dv} {Fs:List AV} {i:Nat} {d:Dv} {E:AV} (h1:ds[i]?=some d) (h2:Fs[i]?=some E):(cD ds Fs)[i]?=some (jd d E):=by simp [cD,List.getElem?_zipWith,h1,h2]
theorem tv {α β γ:Type} (f:α→β→γ):∀ (l:List α) (r:List β) (i:Nat) (a:α) (b:β),(List.zipWith f l r).set i (f a b)=List.zipWith f (l.set i a) (r.set i b)
 | [],_,_,_,_=>by simp
 | _ :: _,[],i,_,_=>by cases i <;> simp
 | x :: l,y :: r,0,a,b=>rfl
 | x :: l,y :: r,i+1,a,b=>by simp [tv f l r i a b]
theorem tH {α:Type} {l:List α} {i:Nat} {a:α} (h:l[i]?=some a):l.set i a=l:=by
 apply List.ext_getElem?
 intro j
 by_cases e:i=j
 ·subst e; rw [h,List.getElem?_set_self (List.getElem?_eq_some_iff.1 h).1]
 ·rw [List.getElem?_set_ne e]
theorem HO (K:Dk) (id who code now kind:Int):∀ (l:List Dv) (i:Nat),(rG K id who code now kind l i).2.2=0→∃ j:Nat,(rG K id who code now kind l i).1=j∧j<i+l.length
 | [],i,h=>by simp [rG] at h
 | d :: l,i,h=>by
  rw [rG] at h ⊢
  split at h
  ·rename_i h1
   rw [if_pos h1]
   obtain ⟨j,h2,h3⟩:=HO K id who code now kind l (i+1) h
   exact ⟨j,h2,by simp; omega⟩
  ·rename_i h1
   rw [if_neg h1]
   split at h
   ·simp at h
   ·rename_i h2
    rw [if_neg h2]
    split at h
    ·simp at h
    ·rename_i h3
     rw [if_neg h3]
     split at h
     ·simp at h
     ·rename_i h4
      rw [if_neg h4]
      exact ⟨i,rfl,by simp⟩
theorem rh {K:Dk} {id who code now kind:Int} (h:(bK K id who code now kind).2.2=0):∃ j:Nat,(bK K id who code now kind).1=j∧j<K.ds.length:=by
 unfold bK at h ⊢
 split at h
 ·simp at h
 ·rename_i h1
  rw [if_neg h1]
  obtain ⟨j,h2,h3⟩:=HO K id who code now kind K.ds 0 h
  exact ⟨j,h2,by omega⟩
theorem lF {K:Dk} {id who code now kind:Int} (h:(bK K id who code now kind).2.2=0):cn K=true:=by
 cases hc:cn K
 ·rw [bK,if_pos hc] at h; simp at h
 ·rfl
theorem IC.set {es:Nat} {ty:TypeId} {σ τ:St} {Es:List AV} {Ls:List (List AV)} {j:Nat} {E':AV} {L':List AV} (h:IC es ty σ Es Ls) (hj:cw es ty τ L' E') (ho:∀ (i:Nat) (E:AV) (L:List AV),i≠j→Es[i]?=some E→Ls[i]?=some L→cw es ty τ L E):IC es ty τ (Es.set j E') (Ls.set j L'):=by
 refine ⟨by simp [h.1],fun i E L hE hL=>?_⟩
 by_cases e:i=j
 ·subst e
  rw [List.getElem?_set_self'] at hE hL
  cases h1:Es[i]? <;> simp [h1] at hE
  cases h2:Ls[i]? <;> simp [h2] at hL
  subst hE; subst hL
  exact hj
 ·rw [List.getElem?_set_ne (Ne.symm e)] at hE hL
  exact ho i E L e hE hL
theorem cw.im {es:Nat} {ty:TypeId} {σ τ:St} {L:List AV} {X:AV} (h:cw es ty σ L X) {K:AV→St→Prop} (k:K (.int .i64 L.length) τ):im X τ K:=by
 rcases h with ⟨rfl,rfl⟩ | ⟨id,g,rfl,_,_⟩
 ·simpa [Ab.im] using k
 ·simpa [Ab.im] using k
theorem kQ (K:Dk) (hB:IL K) (id who code now:Int):PC prog nw [bP K,.int .i64 id,.int .i64 who,.int .i64 code,.int .i64 now] (.tuple [bP (ku K id who code now).1,.int .i64 (ku K id who code now).2]):=by
 have hlp:=hB.lp
 have hld:=hB.ld
 have hKp:=eC K
 have hS0:ku K id who code now=if (bK K id who code now 2).2.2≠0 then (uO,(bK K id who code now 2).2.2) else (⟨K.ps,K.nx,K.ds.set (bK K id who code now 2).1.toNat { gD K.ds (bK K id who code now 2).1.toNat with wd:=true }⟩,0):=rfl
 refine ae wU (by simp) ?_
 simp only [nO]
 try simp (disch:=omega) only [go_sem,jF,jG,jH,↓reduceIte,reduceCtorEq,dv,dF,iC]
 refine ab (tW K id who code now 2 (by omega) (by omega)) (by simp [hKp,go_sem]) ?_
 have hok:=@rh K id who code now 2
 have hck:=@lF K id who code now 2
 generalize bK K id who code now 2=a at *
 obtain ⟨i,p,e⟩:=a
 simp only at hok hS0 hck
 try simp (disch:=omega) only [go_sem,jF,jG,jH,↓reduceIte,ri]
 refine aY (fun h1=>?_) (fun h1=>?_)
 ·try simp (disch:=omega) only [go_sem,jF,jG,jH,↓reduceIte]
  rw [hS0,if_pos h1]
  exact aw.tu (.cons eW (.cons (aw.e rfl) .nil))
 obtain rfl:e=0:=by simpa using h1
 rw [if_neg (by simp)] at hS0
 obtain ⟨j,rfl,hj⟩:=hok rfl
 have hc:=hck rfl
 have hnx:=gh hc
 rw [Int.toNat_natCast] at hS0
 have hg:=jv hj
 generalize gD K.ds j=d at *
 try simp (disch:=omega) only [go_sem,jF,jH,↓reduceIte,reduceCtorEq,iC]
 refine (iO _ K (by omega) (by omega) fun d hd=>by have:=gg hc hd; omega).mono ?_
 rintro r ⟨ob1,n1,c1⟩ ⟨XP,XA,Fs,l1,rfl,hl1,hl2,hP,hPl,hA,hI,hG,hfr⟩
 simp only at hl1 hl2 hPl hfr
 have u0:=hfr 0 (by omega)
 have u1:=hfr 1 (by omega)
 have u2:=hfr 2 (by omega)
 try simp (disch:=omega) only [go_sem,↓reduceIte,reduceCtorEq] at u0
 try simp (disch:=omega) only [go_sem,jF,↓reduceIte] at u1
 try simp (disch:=omega) only [go_sem,↓reduceIte] at u2
 have hFl:Fs.length=K.ds.length:=by have:=hI.1; simpa [lH] using this
 have hFg:Fs[j]?=some Fs[j]:=List.getElem?_eq_getElem (by omega)
 generalize Fs[j]=E at *
 have hxg:=uL hg hFg
 have hXl:(cD K.ds Fs).length=K.ds.length:=by simp [cD]; omega
 rcases hA with ⟨_,h0⟩ | ⟨ia,ga,rfl,hia,hoa⟩
 ·rw [h0] at hXl; simp at hXl; omega
 simp only at hia hoa
 have hal:l1≤ia:=(hG.low ia fun h=>h _ _ _ _ rfl).1
 try simp (disch:=omega) only [go_sem,jF,jG,jH,↓reduceIte,reduceCtorEq,jM,u0,u1,hP.one,GJ,hoa,hxg,hXl]
 refine ⟨by omega,by omega,?_⟩
 rw [hS0]
 have hW:fI 6 (.bool true) (jd d E)=jd { d with wd:=true } E:=rfl
 have hD:(cD K.ds Fs).set j (jd { d with wd:=true } E)=cD (K.ds.set j { d with wd:=true }) Fs:=by
  rw [cD,tv jd,tH hFg]; rfl
 have hIn:lH (K.ds.set j { d with wd:=true })=lH K.ds:=by
  have h9:(lH K.ds)[j]?=some (ints d.sg):=by simp [lH,hg]
  rw [lH,List.map_set]
  exact tH h9
 have hlen:(cD (K.ds.set j { d with wd:=true }) Fs).length=K.ds.length:=by simp [cD]; omega
 rw [hW,hD]
 refine aw.tu (.cons (pM (Fs:=Fs) (hP.move (Nat.le_refl _) fun i hi hh=>?_) (.inr ⟨ia,ga,by rw [hlen],hia,?_⟩) ?_) (.cons (aw.e rfl) .nil))
 ·have h9:=hPl i hh
  simp only
  rw [aa _ _ _ _ (by omega),aa _ _ _ _ (by omega),aa _ _ _ _ (by omega)]
 ·simp only
  rw [aa _ _ _ _ (by omega),az]
 ·rw [hIn]
  refine hI.move (Nat.le_refl _) fun F hF i hi hlt=>?_
  have h9:=(hG.Ff F hF i hi).1
  have h8:¬i=ia:=fun h=>aZ.ne (hG.sep F hF i hi) h.symm
  simp only
  rw [aa _ _ _ _ (by omega),aa _ _ _ _ h8,aa _ _ _ _ (by omega)]
theorem tX (K:Dk) (hB:A9 K) (id who code now:Int):PC prog nw [bP K,.int .i64 id,.int .i64 who,.int .i64 code,.int .i64 now] (.tuple [bP (ku K id who code now).1,.int .i64 (ku K id who code now).2]):=kQ K hB.s id who code now
theorem pX (K:Dk) (hB:IL K) (id who code now:Int):PC prog ur [bP K,.int .i64 id,.int .i64 who,.int .i64 code,.int .i64 now] (.tuple [bP (ka K id who code now).1,.int .i64 (ka K id who code now).2]):=by
 have hlp:=hB.lp
 have hld:=hB.ld
 have hKp:=eC K
 have hS0:ka K id who code now=if (bK K id who code now 1).2.2≠0 then (uO,(bK K id who code now 1).2.2) else
  if (gD K.ds (bK K id who code now 1).1.toNat).sg.length=2 then (uO,46) else if oi K who (bK K id who code now 1).2.1.role (gD K.ds (bK K id who code now 1).1.toNat).sg≠0 then (uO,oi K who (bK K id who code now 1).2.1.role (gD K.ds (bK K id who code now 1).1.toNat).sg) else
  (⟨K.ps,K.nx,K.ds.set (bK K id who code now 1).1.toNat { gD K.ds (bK K id who code now 1).1.toNat with sg:=(gD K.ds (bK K id who code now 1).1.toNat).sg++[who] }⟩,0):=rfl
 refine ae Ek (by simp) ?_
 simp only [vf]
 try simp (disch:=omega) only [go_sem,jF,jG,jH,↓reduceIte,reduceCtorEq,dv,dF,iC]
 refine ab (tW K id who code now 1 (by omega) (by omega)) (by simp [hKp,go_sem]) ?_
 have hok:=@rh K id who code now 1
 have hck:=@lF K id who code now 1
 generalize bK K id who code now 1=a at *
 obtain ⟨i,p,e⟩:=a
 simp only at hok hS0 hck
 try simp (disch:=omega) only [go_sem,jF,jG,jH,↓reduceIte,ri]
 refine aY (fun h1=>?_) (fun h1=>?_)
 ·try simp (disch:=omega) only [go_sem,jF,jG,jH,↓reduceIte]
  rw [hS0,if_pos h1]
  exact aw.tu (.cons eW (.cons (aw.e rfl) .nil))
 obtain rfl:e=0:=by simpa using h1
 rw [if_neg (by simp)] at hS0
 obtain ⟨j,rfl,hj⟩:=hok rfl
 have hc:=hck rfl
 have hnx:=gh hc
 rw [Int.toNat_natCast] at hS0
 have hg:=jv hj
 have hgk:=gg hc (List.mem_of_getElem? hg)
 generalize gD K.ds j=d at *
 try simp (disch:=omega) only [go_sem,jF,jH,↓reduceIte,reduceCtorEq,iC]
 refine (iO _ K (by omega) (by omega) fun d hd=>by have:=gg hc hd; omega).mono ?_
 rintro r ⟨ob1,n1,c1⟩ ⟨XP,XA,Fs,l1,rfl,hl1,hl2,hP,hPl,hA,hI,hG,hfr⟩
 simp only at hl1 hl2 hPl hfr
 have u0:=hfr 0 (by omega)
 have u1:=hfr 1 (by omega)
 have u2:=hfr 2 (by omega)
 try simp (disch:=omega) only [go_sem,↓reduceIte,reduceCtorEq] at u0
 try simp (disch:=omega) only [go_sem,jF,↓reduceIte] at u1
 try simp (disch:=omega) only [go_sem,↓reduceIte] at u2
 have hFl:Fs.length=K.ds.length:=by have:=hI.1; simpa [lH] using this
 have hjF:j<Fs.length:=by omega
 have hFg:Fs[j]?=some Fs[j]:=List.getElem?_eq_getElem hjF
 generalize hEE:Fs[j]=E at *
 have hxg:=uL hg hFg
 have hXl:(cD K.ds Fs).length=K.ds.length:=by simp [cD]; omega
 rcases hA with ⟨_,h0⟩ | ⟨ia,ga,rfl,hia,hoa⟩
 ·rw [h0] at hXl; simp at hXl; omega
 simp only at hia hoa
 have hal:l1≤ia:=(hG.low ia fun h=>h _ _ _ _ rfl).1
 have hEs:=hI.2 j E (ints d.sg) hFg (by simp [lH,hg])
 have z0:¬ia=0:=by omega
 have d5:∀ d E,(jd d E).cells.getD 5 .bF=E:=fun _ _=>rfl
 try simp (disch:=omega) only [go_sem,jF,jG,jH,↓reduceIte,u0,hP.one,GJ,hoa,hxg,hXl,z0,d5]
 refine ⟨by omega,by omega,?_⟩
 refine hEs.im ?_
 try simp (disch:=omega) only [go_sem,↓reduceIte,au]
 refine ah (fun h2=>?_) (fun h2=>?_) <;> try simp (disch:=omega) only [go_sem,jF,jG,jH,↓reduceIte,reduceCtorEq,jM,u1]
 ·rw [hS0,if_pos (by omega)]
  exact aw.tu (.cons eW (.cons (aw.e rfl) .nil))
 rw [if_neg (by omega)] at hS0
 try simp (disch:=omega) only [go_sem,hoa,hxg,d5]
 refine hEs.im ?_
 try simp (disch:=omega) only [go_sem,au]
 have hEo:∀ i,¬aZ E i→l1≤i∧i<n1:=fun i hi=>hG.Ff E (List.mem_of_getElem? hFg) i hi
 have hEa:aZ E ia:=aZ.em fun h=>aZ.ne (hG.sep E (List.mem_of_getElem? hFg) ia h) rfl
 refine aT [11,17,18,19,52,53,54,55,56,57,58,59,60,61,62,63,64,65,66,67,68,69,70,71,72] (by kernel_rfl) d.sg.length (fun i e σ=>e 52=.int .i64 i∧n1≤σ.n∧(∀ i,i<n1→i≠0→σ.ob i=ob1 i)∧σ.ob 0=some ⟨0,3,44,false,true,[.agg [XP,.int .i64 K.nx,.sl ia ga 7 0 K.ds.length]]⟩∧oi K who p.role d.sg=oi K who p.role (d.sg.drop i)) ?_ ?_
 ·exact ⟨(by first | rfl | (simp (disch:=omega) only [go_sem,jA,jB,jC,jD,jE,jF,jG,jH,jI,jJ,↓reduceIte,reduceCtorEq,jP,jO,jM,jN]; try rfl)),Nat.le_refl _,fun i hi hne=>aa _ _ _ _ hne,by try simp (disch:=omega) only [go_sem,↓reduceIte],rfl⟩
 rintro i fe ob m c hi hm ⟨h52,hm1,hfr2,v0,hsg⟩
 simp (maxSteps:=1000000) only [go_sem,jF,↓reduceIte] at h52 hm hm1 v0 hfr2
 have v1:=(hfr2 1 (by omega) (by omega)).trans u1
 have v2:=(hfr2 2 (by omega) (by omega)).trans u2
 have va:=(hfr2 ia hia z0).trans hoa
 try simp (disch:=omega) only [go_sem,jF,↓reduceIte,h52]
 refine ah (fun hlt=>?_) (fun hge=>?_)
 ·have hil:i<d.sg.length:=by omega
  rw [List.drop_eq_getElem_cons hil,oi] at hsg
  have hgi:=bA d.sg i
  rw [List.getElem?_eq_getElem hil] at hgi
  generalize d.sg[i]=s at *
  rcases hEs with ⟨rfl,hz⟩ | ⟨ie,ge,rfl,hie,hoe⟩
  ·simp [ints] at hz; rw [hz] at hil; simp at hil
  simp only at hie hoe
  have hie1:=hEo ie fun h=>h _ _ _ _ rfl
  have ve:=(hfr2 ie hie (by omega)).trans hoe
  try simp (disch:=omega) only [go_sem,jF,jH,↓reduceIte,reduceCtorEq,ve,hgi,Option.map_some,au]
  refine ⟨by omega,by omega,?_⟩
  refine ah (fun h3=>?_) (fun h3=>?_) <;> try simp (disch:=omega) only [go_sem,jF,jG,jH,↓reduceIte,v1]
  ·rw [if_pos h3] at hsg
   rw [hS0,if_pos (by rw [hsg]; omega),hsg]
   exact aw.tu (.cons eW (.cons (aw.e rfl) .nil))
  rw [if_neg h3] at hsg
  try simp (disch:=omega) only [go_sem,v0]
  have hPub:aw ⟨ob,m,c⟩ (.agg [XP,.int .i64 K.nx,.sl ia ga 7 0 K.ds.length]) (bP K):=by
   refine pM (Fs:=Fs) (hP.move hm1 fun i hi hh=>hfr2 i hi (by have:=hPl i hh; omega)) (.inr ⟨ia,ga,by rw [hXl],by simp only; omega,va⟩) (hI.move hm1 fun F hF i hi hlt=>hfr2 i hlt (by have:=hG.Ff F hF i hi; omega))
  refine rb (jm K s (by omega)) (.cons hPub (.cons (aw.e rfl) .nil)) (by simp [AV.C8,ri,AV.oR]) ?_
  have z4:¬2=m:=by omega
  try simp (disch:=omega) only [go_sem,jF,jG,jH,↓reduceIte,ri,v2,z4]
  refine ah (fun h4=>?_) (fun h4=>?_)
  ·have z5:¬1=m:=by omega
   try simp (disch:=omega) only [go_sem,jF,jG,jH,↓reduceIte,v1,z5]
   rw [if_pos h4] at hsg
   rw [hS0,if_pos (by rw [hsg]; omega),hsg]
   exact aw.tu (.cons eW (.cons (aw.e rfl) .nil))
  rw [if_neg h4] at hsg
  try simp (disch:=omega) only [go_sem,jF,↓reduceIte,jO]
  refine aD (m+1) hil (by omega) ⟨(by first | rfl | (simp (disch:=omega) only [go_sem,jA,jB,jC,jD,jE,jF,jG,jH,jI,jJ,↓reduceIte,reduceCtorEq,jP,jO,jM,jN]; try rfl)),by simp only [St.aE]; omega,fun i hi hne=>?_,?_,hsg⟩
  ·rw [aW (by omega),aa _ _ _ _ (by omega),aa _ _ _ _ (by omega)]; exact hfr2 i hi hne
  ·rw [aW (by omega),aa _ _ _ _ (by omega),aa _ _ _ _ (by omega)]; exact v0
 obtain rfl:i=d.sg.length:=by omega
 rw [List.drop_length,oi] at hsg
 rw [if_neg (by simp [hsg])] at hS0
 have hse:=hEs.move (τ:=⟨ob,m,c⟩) hm1 fun i hi hh=>hfr2 i hi (by have:=hEo i hh; omega)
 try simp (disch:=omega) only [go_sem,jF,jG,jH,↓reduceIte,reduceCtorEq,va,hxg,d5]
 refine bE (b:=8) hse (by rw [au]; omega) (by rw [au]; omega) fun E' τ5 hE5 k5=>?_
 obtain ⟨ob5,m5,c5⟩:=τ5
 have hm5:m≤m5:=k5.1
 have q5:∀ i,i<m→aZ E i→ob5 i=ob i:=fun i hi ho=>k5.2.1 i hi ho
 have oE:∀ i,i<l1→aZ E i:=fun i hi=>aZ.em fun h=>by have:=(hEo i h).1; omega
 have w0:=(q5 0 (by omega) (oE 0 (by omega))).trans v0
 have w1:=(q5 1 (by omega) (oE 1 (by omega))).trans v1
 have wa:=(q5 ia (by omega) hEa).trans va
 have p5:∀ y,fI 5 E' (jd d y)=jd { d with sg:=d.sg++[who] } E':=fun y=>by
  rcases hE5 with ⟨rfl,_⟩ | ⟨_,_,rfl,_⟩ <;> rfl
 have z6:¬ia=1:=by omega
 try simp (disch:=omega) only [go_sem,jF,jG,jH,↓reduceIte,jM,wa,hxg,w0,w1,hE5.flat,hE5.cells,p5,hP.one]
 rw [hS0]
 have hD:(cD K.ds Fs).set j (jd { d with sg:=d.sg++[who] } E')=cD (K.ds.set j { d with sg:=d.sg++[who] }) (Fs.set j E'):=tv jd _ _ _ _ _
 have hlen:(cD (K.ds.set j { d with sg:=d.sg++[who] }) (Fs.set j E')).length=K.ds.length:=by simp [cD]; omega
 rw [hD]
 have oE5:∀ i,i<m→aZ E i→aZ E' i:=fun i hi ho=>k5.2.2 i hi ho
 have fz:∀ (x y:Option aV) i,i≠ia→i≠1→bd (bd ob5 ia x) 1 y i=ob5 i:=fun x y i h1 h2=>by rw [aa _ _ _ _ h2,aa _ _ _ _ h1]
 refine aw.tu (.cons (pM (Fs:=Fs.set j E') (hP.move (by simp only; omega) fun i hi hh=>?_) (.inr ⟨ia,ga,by rw [hlen],by simp only; omega,?_⟩) ?_) (.cons (aw.e rfl) .nil))
 ·have h9:=hPl i hh
  simp only
  rw [fz _ _ i (by omega) (by omega),q5 i (by omega) (oE i h9.2),hfr2 i hi (by omega)]
 ·simp only
  rw [aa _ _ _ _ (by omega),az]
 ·rw [show lH (K.ds.set j { d with sg:=d.sg++[who] })=(lH K.ds).set j (ints (d.sg++[who])) by simp [lH,List.map_set]]
  have happ:ints (d.sg++[who])=ints d.sg++[.int .i64 who]:=by simp [ints]
  refine hI.set ?_ fun i F L hne hF hL=>?_
  ·rw [happ]
   refine hE5.move (Nat.le_refl _) fun i hi hh=>?_
   have hx1:¬i=ia:=fun h=>hh (h ▸ oE5 ia (by omega) hEa)
   have hx2:¬i=1:=fun h=>hh (h ▸ oE5 1 (by omega) (oE 1 (by omega)))
   simp only
   rw [fz _ _ i hx1 hx2]
  ·refine (hI.2 i F L hF hL).move (by simp only; omega) fun q hq hh=>?_
   simp only at hq
   have h9:=(hG.Ff F (List.mem_of_getElem? hF) q hh).1
   have hx1:¬q=ia:=fun h=>aZ.ne (hG.sep F (List.mem_of_getElem? hF) q hh) h.symm
   have hx3:=hG.dj i j F E hne hF hFg q hh
   simp only
   rw [fz _ _ q hx1 (by omega),q5 q (by omega) hx3,hfr2 q hq (by omega)]
theorem rQ (K:Dk) (hB:A9 K) (id who code now:Int):PC prog ur [bP K,.int .i64 id,.int .i64 who,.int .i64 code,.int .i64 now] (.tuple [bP (ka K id who code now).1,.int .i64 (ka K id who code now).2]):=pX K hB.s id who code now
theorem lr {K:Dk}:cn K=true↔(K.ps.length≤12∧1≤K.nx∧K.nx≤1073741824∧K.ds.length≤64)∧(∀ i,i<K.ps.length→F6 K i=true)∧∀ i,i<K.ds.length→E4 K i=true:=by
 simp only [cn,Bool.and_eq_true,ir,decide_eq_true_eq,List.all_eq_true,List.mem_range]
 constructor
 ·rintro ⟨⟨⟨⟨h1,h2,h3⟩,h4⟩,h5⟩,h6⟩; exact ⟨⟨h1,h2,h3,h4⟩,h5,h6⟩
 ·rintro ⟨⟨h1,h2,h3,h4⟩,h5,h6⟩; exact ⟨⟨⟨⟨h1,h2,h3⟩,h4⟩,h5⟩,h6⟩
theorem pY {K:Dk} {i:Nat}:E4 K i=true↔(1≤(gD K.ds i).id∧(gD K.ds i).id≤K.nx-1)∧(0<i→(gD K.ds (i-1)).id<(gD K.ds i).id)∧gJ K (gD K.ds i)=true:=by
 simp only [E4,ir,Bool.and_eq_true,decide_eq_true_eq,Bool.not_eq_true',Bool.and_eq_false_iff,decide_eq_false_iff_not,and_assoc]
 constructor
 ·rintro ⟨h1,h2,h3,h4⟩; exact ⟨h1,h2,fun h0=>by rcases h3 with h3 | h3 <;> omega,h4⟩
 ·rintro ⟨h1,h2,h3,h4⟩; exact ⟨h1,h2,(by
   by_cases h0:0<i
   ·exact .inr (by have:=h3 h0; omega)
   ·exact .inl h0),h4⟩
theorem JM {l:List Dv} {i j:Nat} {d:Dv} (hj:j<l.length):gD (l.set j d) i=if i=j then d else gD l i:=by
 rw [gD,gD,List.getD_eq_getElem?_getD,List.getD_eq_getElem?_getD]
 split
 ·rename_i e; subst e; rw [List.getElem?_set_self hj]; rfl
 ·rename_i e; rw [List.getElem?_set_ne (Ne.symm e)]
theorem FD {K:Dk} (h:cn K=true) {j:Nat} {d:Dv} (hj:j<K.ds.length) (hid:d.id=(gD K.ds j).id) (hr:gJ K d=true):cn ⟨K.ps,K.nx,K.ds.set j d⟩=true:=by
 obtain ⟨⟨h1,h2,h3,h4⟩,h5,h6⟩:=lr.1 h
 refine lr.2 ⟨⟨h1,h2,h3,by simpa using h4⟩,h5,fun i hi=>?_⟩
 simp only [List.length_set] at hi
 have hid':∀ i,(gD (K.ds.set j d) i).id=(gD K.ds i).id:=fun i=>by
  rw [JM hj]; split
  ·rename_i e; rw [e]; exact hid
  ·rfl
 obtain ⟨q1,q2,q3⟩:=pY.1 (h6 i hi)
 refine pY.2 ⟨by simp only; rw [hid']; exact q1,fun h0=>by simp only; rw [hid',hid']; exact q2 h0,?_⟩
 show gJ K (gD (K.ds.set j d) i)=true
 rw [JM hj]; split
 ·exact hr
 ·exact q3
theorem FW (K:Dk) (id who code now kind:Int):∀ (l:List Dv) (i:Nat),(rG K id who code now kind l i).2.2=0→(rG K id who code now kind l i).2.1=(cR K who).1∧(cR K who).2=true
 | [],i,h=>by simp [rG] at h
 | d :: l,i,h=>by
  rw [rG] at h ⊢
  split at h
  ·rename_i h1
   rw [if_pos h1]
   exact FW K id who code now kind l (i+1) h
  ·rename_i h1
   rw [if_neg h1]
   split at h
   ·simp at h
   ·rename_i h2
    rw [if_neg h2]
    split at h
    ·simp at h
    ·rename_i h3
     rw [if_neg h3]
     split at h
     ·simp at h
     ·rename_i h4
      rw [if_neg h4]
      exact ⟨rfl,by simpa using h3⟩
theorem Ks {K:Dk} {id who code now kind:Int} (h:(bK K id who code now kind).2.2=0):(bK K id who code now kind).2.1=(cR K who).1∧(cR K who).2=true:=by
 have hc:=lF h
 rw [bK,if_neg (by simp [hc])] at h ⊢
 exact FW K id who code now kind K.ds 0 h
theorem G5 {K:Dk} {who role:Int}:∀ {l:List Int},oi K who role l=0→∀ s∈l,(cR K s).1.role≠role
 | [],_,s,hs=>by cases hs
 | x :: l,h,s,hs=>by
  rw [oi] at h
  split at h
  ·cases h
  split at h
  ·cases h
  rename_i h1
  rcases List.mem_cons.1 hs with rfl | hs
  ·exact h1
  ·exact G5 h s hs
theorem OE {K:Dk} {d:Dv} (h:gJ K d=true):d.sg.length≤2∧∀ s∈d.sg,(cR K s).2=true:=by
 simp only [gJ,Bool.and_eq_true,decide_eq_true_eq,List.all_eq_true] at h
 exact ⟨h.1.1.2,h.1.2⟩
theorem EF {K:Dk} {id who code now:Int} (h:(ku K id who code now).2=0):cn (ku K id who code now).1=true:=by
 simp only [ku] at h ⊢
 split at h
 ·rename_i h1; exact absurd h h1
 ·rename_i h1
  rw [if_neg h1]
  have h0:(bK K id who code now 2).2.2=0:=Decidable.byContradiction h1
  obtain ⟨j,hj,hl⟩:=rh h0
  rw [hj,Int.toNat_natCast]
  have hc:=lF h0
  have hr:=(pY.1 ((lr.1 hc).2.2 j hl)).2.2
  exact FD hc hl rfl hr
theorem EN {K:Dk} {id who code now:Int} (h:(ka K id who code now).2=0):cn (ka K id who code now).1=true:=by
 simp only [ka] at h ⊢
 split at h
 ·rename_i h1; exact absurd h h1
 rename_i h1
 rw [if_neg h1]
 split at h
 ·cases h
 rename_i h2
 rw [if_neg h2]
 split at h
 ·rename_i h3; exact absurd h h3
 rename_i h3
 rw [if_neg h3]
 have h0:(bK K id who code now 1).2.2=0:=Decidable.byContradiction h1
 have h4:=Decidable.byContradiction h3
 obtain ⟨j,hj,hl⟩:=rh h0
 obtain ⟨hw1,hw2⟩:=Ks h0
 rw [hw1] at h4
 rw [hj,Int.toNat_natCast] at h2 h4 ⊢
 have hc:=lF h0
 have hr:=(pY.1 ((lr.1 hc).2.2 j hl)).2.2
 obtain ⟨g1,g2⟩:=OE hr
 have hE:=G5 h4
 refine FD hc hl rfl ?_
 generalize gD K.ds j=d at *
 have hl1:d.sg.length≤1:=by omega
 have hall:∀ s∈d.sg++[who],(cR K s).2=true:=fun s hs=>by
  rcases List.mem_append.1 hs with hs | hs
  ·exact g2 s hs
  ·rw [List.mem_singleton.1 hs]; exact hw2
 simp only [gJ,Bool.and_eq_true] at hr ⊢
 refine ⟨⟨⟨hr.1.1.1,by simp; omega⟩,List.all_eq_true.2 hall⟩,?_⟩
 match hsg:d.sg with
 | []=>simp
 | [s]=>
  have:=hE s (by rw [hsg]; simp)
  simp [cO,this]
 | a :: b :: r=>rw [hsg] at hl1; simp at hl1
theorem qk {l:List Dv} {d:Dv} {i:Nat}:gD (l++[d]) i=if i<l.length then gD l i else if i=l.length then d else default:=by
 rw [gD,gD,List.getD_eq_getElem?_getD,List.getD_eq_getElem?_getD]
 split
 ·rename_i h; rw [List.getElem?_append_left h]
 ·rename_i h
  split
  ·rename_i e; subst e; simp
  ·rename_i e; rw [List.getElem?_eq_none (by simp; omega)]; rfl
theorem EV {K:Dk} {site fr to rel:Int} (h:(bU K site fr to rel).2.2=0):cn (bU K site fr to rel).1=true∧(bU K site fr to rel).1.ds.length=K.ds.length+1∧(bU K site fr to rel).1.nx=K.nx+1:=by
 unfold bU at h ⊢
 cases hc:cn K
 ·rw [hc] at h; simp at h
 rw [hc] at h
 simp only [Bool.true_eq_false,if_false] at h ⊢
 split at h
 ·cases h
 rename_i h1
 rw [if_neg h1]
 split at h
 ·cases h
 rename_i h2
 rw [if_neg h2]
 split at h
 ·cases h
 rename_i h3
 rw [if_neg h3]
 split at h
 ·cases h
 rename_i h4
 rw [if_neg h4]
 obtain ⟨⟨q1,q2,q3,q4⟩,q5,q6⟩:=lr.1 hc
 refine ⟨lr.2 ⟨⟨q1,by simp only; omega,by simp only; omega,by simp; omega⟩,q5,fun i hi=>?_⟩,by simp,rfl⟩
 simp only [List.length_append,List.length_singleton] at hi
 have e1:ir site 0 5=true:=by simpa using h1
 have e3:ir rel 0 1073741824=true:=by simpa using h3
 by_cases e:i<K.ds.length
 ·obtain ⟨g1,g2,g3⟩:=pY.1 (q6 i e)
  refine pY.2 ⟨?_,fun h0=>?_,?_⟩
  ·simp only; rw [qk,if_pos e]; omega
  ·simp only; rw [qk,qk,if_pos e,if_pos (by omega)]; exact g2 h0
  ·show gJ K (gD (K.ds++[_]) i)=true
   rw [qk,if_pos e]; exact g3
 ·have e':i=K.ds.length:=by omega
  refine pY.2 ⟨?_,fun h0=>?_,?_⟩
  ·simp only; rw [qk,if_neg e,if_pos e']; simp only; omega
  ·simp only; rw [qk,qk,if_neg e,if_pos e',if_pos (by omega)]
   have:=(pY.1 (q6 (i-1) (by omega))).1
   simp only; omega
  ·show gJ K (gD (K.ds++[_]) i)=true
   rw [qk,if_neg e,if_pos e']
   have n1:¬fr<0:=by omega
   have n2:¬to<fr:=by omega
   have n3:¬16777216<to:=by omega
   simp [gJ,e1,e3,n1,n2,n3]
theorem LF {K:Dk} (hc:cn K=true) {site fr to rel:Int} (h1:ir site 0 5=true) (h2:0≤fr∧fr≤to∧to≤16777216) (h3:ir rel 0 1073741824=true) (h4:K.ds.length<64∧K.nx<1073741824):(bU K site fr to rel).2.2=0:=by
 rw [bU,if_neg (by simp [hc]),if_neg (by simp [h1]),if_neg (by omega),if_neg (by simp [h3]),if_neg (by omega)]
def ZL (Z:AV) (K:Dk):Prop:=Z=bP K∨∃ ps,Z=.agg [.list 3 (pN ps),.int .i64 1,.nil]∧K=⟨ps,1,[]⟩
theorem ZL.LM {Z:AV} {K:Dk} (h:ZL Z K):HP Z (bP K):=by
 rcases h with rfl | ⟨ps,rfl,rfl⟩
 ·exact .rfl
 ·exact .agg (.cons .rfl (.cons .rfl (.cons (.nil 7) .nil)))
theorem ZL.cQ {Z:AV} {K:Dk} (h:ZL Z K):Z.cQ=true:=by
 rcases h with rfl | ⟨ps,rfl,rfl⟩
 ·exact eC K
 ·simp [go_sem]
theorem ZL.flat {Z:AV} {K:Dk} (h:ZL Z K):Z.flat=true∧Z.cells.length=3∧AV.agg (Z.cells.take 3)=Z∧AV.agg ((Z.cells.drop 0).take 3)=Z:=by
 rcases h with rfl | ⟨ps,rfl,rfl⟩
 ·exact ⟨dv K,rfl,rfl,rfl⟩
 ·exact ⟨rfl,rfl,rfl,rfl⟩
theorem ZL.put {Z:AV} {K:Dk} (h:ZL Z K) (M:Dk):fI 0 (bP M) Z=bP M:=by
 rcases h with rfl | ⟨ps,rfl,rfl⟩ <;> rfl
theorem ZL.mF {Z:AV} {K:Dk} (h:ZL Z K) {σ:St}:aw σ Z (bP K):=by
 rcases h with rfl | ⟨ps,rfl,rfl⟩
 ·exact .pure (eC K)
 ·exact aw.ag (.cons (aw.pure (by simp [go_sem])) (.cons (aw.e rfl) (.cons (.nl 7) .nil)))
def Gc (K:Dk) (k:Nat):Prop:=cn K=true∧K.ds.length≤k∧K.nx≤1+(k:Int)
theorem Gc.up {K:Dk} {k:Nat} (h:Gc K k):Gc K (k+1):=⟨h.1,by have:=h.2.1; omega,by have:=h.2.2; omega⟩
theorem Gc.start {ps:List Pn} (h:ps.length≤5) (hv:IE ps):Gc ⟨ps,1,[]⟩ 0:=⟨lr.2 ⟨⟨by simp only; omega,by simp,by simp,by simp⟩,hv,fun i hi=>by simp at hi⟩,by simp,by simp⟩
theorem Gc.U1 {K:Dk} {k:Nat} (h:Gc K k) (hk:k<60) {st fr to rl:Int} (h1:0≤st∧st≤5) (h2:0≤fr∧fr≤to∧to≤16777216) (h3:0≤rl∧rl≤1073741824):Gc (bU K st fr to rl).1 (k+1):=by
 have hl:=h.2.1
 have hn:=h.2.2
 obtain ⟨a,b,c⟩:=EV (LF h.1 (site:=st) (fr:=fr) (to:=to) (rel:=rl) (by simp [ir]; omega) h2 (by simp [ir]; omega) ⟨by omega,by omega⟩)
 exact ⟨a,by omega,by omega⟩
theorem Gc.UG {K:Dk} {k:Nat} (h:Gc K k) {id who code now:Int} (h0:(ka K id who code now).2=0):Gc (ka K id who code now).1 (k+1):=by
 refine ⟨EN h0,?_⟩
 have hl:=h.2.1
 have hn:=h.2.2
 simp only [ka] at h0 ⊢
 split at h0
 ·rename_i h1; exact absurd h0 h1
 rename_i h1; rw [if_neg h1]
 split at h0
 ·cases h0
 rename_i h2; rw [if_neg h2]
 split at h0
 ·rename_i h3; exact absurd h0 h3
 rename_i h3; rw [if_neg h3]
 exact ⟨by simp; omega,by simp only; omega⟩
theorem Gc.UR {K:Dk} {k:Nat} (h:Gc K k) {id who code now:Int} (h0:(ku K id who code now).2=0):Gc (ku K id who code now).1 (k+1):=by
 refine ⟨EF h0,?_⟩
 have hl:=h.2.1
 have hn:=h.2.2
 simp only [ku] at h0 ⊢
 split at h0
 ·rename_i h1; exact absurd h0 h1
 rename_i h1; rw [if_neg h1]
 exact ⟨by simp; omega,by simp only; omega⟩
theorem GH (K:Dk):(bP K).cells.take 3=(bP K).cells:=rfl
theorem GI (K:Dk):AV.agg (bP K).cells=bP K:=rfl
theorem D0 (K:Dk):(bP K).cells.all AV.one=true:=rfl
theorem D1 (M:Dk):fI 0 (bP M) (.agg [.nil,.int .i64 0,.nil])=bP M:=rfl
theorem ju (σ:St) (id g:Nat) (t:List Int) (at':Nat) (K:Dk) (Z:AV) (hZ:ZL Z K) (hB:A9 K) (now:Int) (hl:t.length≤9223372036854775807) (hid:id<σ.n) (hob:σ.ob id=some ⟨g,2,aA,false,true,[bC t at']⟩) :
  HC prog rT [.ptr id g 2 0 0,Z,.int .i64 now] σ (ek σ id g t SN):=by
 rcases hZ with rfl | ⟨ps,rfl,rfl⟩
 ·exact lg σ id g t at' K hB now hl hid hob
 ·refine HC.wL hid ?_
  obtain ⟨dL,n0,c0⟩:=σ
  simp only at hob hid
  refine aM sK (by simp) ?_
  simp only [mY]
  have z0:¬id=n0:=by omega
  have z1:¬n0=id:=by omega
  have fin:∀ (ob':Nat→Option aV) (c' m':Nat) (a b c:Int) (at2:Nat),ob' id=some ⟨g,2,aA,false,true,[bC t at2]⟩→(∀ i,i<n0→i≠id→ob' i=dL i)→(0≤a∧a≤1073741824∧0≤b∧b≤1073741824∧0≤c∧c≤4294967296)→
    CY ⟨dL,n0,c0⟩ id g t SN (.tuple [.int .i64 a,.int .i64 b,.int .i64 c]) ⟨ob',m',c'⟩:=fun ob' c' m' a b c at2 h1 h2 h3=>⟨_,at2,.pure rfl,⟨a,b,c,rfl,h3⟩,h1,h2⟩
  try simp (disch:=omega) only [go_sem,jF,jG,jH,↓reduceIte,reduceCtorEq]
  refine aL (ai _ id g aA true t at' 3 (by try simp (disch:=omega) only [go_sem,↓reduceIte,z0]; exact hob) (by omega) hl) ?_
  have hx1:=aI t at' 3
  generalize bf t at' 3=dr at *
  obtain ⟨x1,at1⟩:=dr
  simp only at hx1
  try simp (disch:=omega) only [go_sem,↓reduceIte,reduceCtorEq,jO]
  refine aL (ai _ id g aA true t at1 3 (by try simp (disch:=omega) only [go_sem,↓reduceIte]) (by omega) hl) ?_
  have hx2:=aI t at1 3
  generalize bf t at1 3=dr at *
  obtain ⟨x2,at2⟩:=dr
  simp only at hx2
  try simp (disch:=omega) only [go_sem,↓reduceIte,reduceCtorEq,jO]
  refine aL (ai _ id g aA true t at2 100 (by try simp (disch:=omega) only [go_sem,↓reduceIte]) (by omega) hl) ?_
  have hx3:=aI t at2 100
  generalize bf t at2 100=dr at *
  obtain ⟨x3,at3⟩:=dr
  simp only at hx3
  try simp (disch:=omega) only [go_sem,jF,↓reduceIte]
  exact fin _ _ _ _ _ _ at3 (by try simp (disch:=omega) only [go_sem,↓reduceIte]) (fun i hi hne=>by
   have j0:¬i=n0:=by omega
   try simp (disch:=omega) only [go_sem,↓reduceIte,j0,hne]) (by omega)
theorem rY (σ:St) (id g:Nat) (t:List Int) (at':Nat) (hl:t.length≤9223372036854775807) (hid:id<σ.n) (hob:σ.ob id=some ⟨g,2,aA,false,true,[bC t at']⟩) :
  HC prog xm [.ptr id g 2 0 0] σ (ek σ id g t fun r=>∃ K,r=bP K∧A9 K∧cn K=true):=by
 refine HC.wL hid ?_
 obtain ⟨dL,n0,c0⟩:=σ
 simp only at hob hid
 refine aM FU (by simp) ?_
 simp only [xB]
 have z0:¬id=n0:=by omega
 have z1:¬n0=id:=by omega
 have z2:¬n0+1=id:=by omega
 have z3:¬id=n0+1:=by omega
 try simp (disch:=omega) only [go_sem,↓reduceIte,reduceCtorEq]
 refine (o7 _ id g t at' hl (by simp only; omega) (by try simp (disch:=omega) only [go_sem,↓reduceIte,z0]; exact hob)).mono ?_
 intro r τ hDR
 obtain ⟨⟨ps,rfl,hps,hpb,hpv⟩,hn,⟨at1,hd⟩,hf⟩:=hDR.use (by simp only; omega)
 obtain ⟨ob1,n1,c1⟩:=τ
 simp only at hn hd hf
 subst hn
 have u0:=hf n0 (by omega) z1
 try simp (disch:=omega) only [go_sem,↓reduceIte] at u0
 try simp (disch:=omega) only [go_sem,jF,jG,jH,↓reduceIte,reduceCtorEq]
 refine aL (ai _ id g aA true t at1 12 (by try simp (disch:=omega) only [go_sem,↓reduceIte,z3]; exact hd) (by omega) hl) ?_
 have hx1:=aI t at1 12
 generalize bf t at1 12=dr at *
 obtain ⟨x0,at0⟩:=dr
 simp only at hx1
 try simp (disch:=omega) only [go_sem,↓reduceIte]
 obtain ⟨N,hN⟩:∃ N:Nat,(N:Int)=x0∧N≤12:=⟨x0.toNat,by omega,by omega⟩
 obtain ⟨rfl,hN⟩:=hN
 refine aT [4,5,6,7,8,9,10,11,12,13,14,15,21,22,23,24,25,26,27,28,29,30,31,32,33,34,35,36,37,38,39,40,41,42,43,44,45,46,47,48,49,50,51,52,53,54,55,56,57,58,59,60,61,62,63,64,65,66,67,68,69,70,71,72,73,74,75,76,77,78,79,80,81,82,83,84,85,86,87,88] (by kernel_rfl) N (fun k e σ=>e 4=.int .i64 ((N:Int)-k)∧n0+2≤σ.n∧(∃ a,σ.ob id=some ⟨g,2,aA,false,true,[bC t a]⟩)∧(∀ i,i<n0→i≠id→σ.ob i=dL i)∧σ.ob n0=some ⟨c0,3,44,false,true,[.agg [.nil,.int .i64 0,.nil]]⟩∧
   ∃ K Z,σ.ob (n0+1)=some ⟨c1,3,44,false,true,[Z]⟩∧ZL Z K∧A9 K∧Gc K k) ?_ ?_
 ·refine ⟨(by first | rfl | (simp (disch:=omega) only [go_sem,jA,jB,jC,jD,jE,jF,jG,jH,jI,jJ,↓reduceIte,reduceCtorEq,jP,jO,jM,jN]; try rfl)),Nat.le_refl _,⟨at0,by try simp (disch:=omega) only [go_sem,↓reduceIte]⟩,fun i hi hne=>?_,?_,⟨ps,1,[]⟩,_,by try simp (disch:=omega) only [go_sem,↓reduceIte,z2],.inr ⟨ps,rfl,rfl⟩,⟨by simp only; omega,by simp,fun p hp=>?_,by simp⟩,Gc.start (by omega) hpv⟩
  ·have j1:¬i=n0+1:=by omega
   try simp (disch:=omega) only [go_sem,↓reduceIte,hne,j1]
   rw [hf i (by omega) hne,aa _ _ _ _ (by omega)]
  ·try simp (disch:=omega) only [go_sem,↓reduceIte,jM,z1]
   exact u0
  ·have:=hpb p hp; omega
 clear hf hd u0 hDR
 rintro k fe ob m c hk hm ⟨h4,hm1,⟨at2,hd⟩,hfr,v0,K,Z,v1,hZ,hB,hC⟩
 simp (maxSteps:=1000000) only [go_sem,↓reduceIte] at h4 hm hm1 hd hfr v0 v1
 obtain ⟨zf,zl,zt,zd⟩:=hZ.flat
 have zp:=hZ.cQ
 try simp (disch:=omega) only [go_sem,↓reduceIte,h4]
 refine ah (fun hge=>?_) (fun hlt=>?_)
 ·have hkl:k<N:=by omega
  try simp (disch:=omega) only [go_sem,↓reduceIte,reduceCtorEq]
  refine aL (ai _ id g aA true t at2 12 (by exact hd) (by omega) hl) ?_
  have hx2:=aI t at2 12
  generalize bf t at2 12=dr at *
  obtain ⟨fr,at3⟩:=dr
  simp only at hx2
  try simp (disch:=omega) only [go_sem,↓reduceIte,reduceCtorEq]
  refine aL (ai _ id g aA true t at3 4 (by try simp (disch:=omega) only [go_sem,↓reduceIte]) (by omega) hl) ?_
  have hx3:=aI t at3 4
  generalize bf t at3 4=dr at *
  obtain ⟨kd,at4⟩:=dr
  simp only at hx3
  try simp (disch:=omega) only [go_sem,↓reduceIte]
  refine ah (fun k0=>?_) (fun k0=>?_)
  ·try simp (disch:=omega) only [go_sem,jF,jH,↓reduceIte,reduceCtorEq,z2,v1,zt]
   refine aL (ai _ id g aA true t at4 3 (by try simp (disch:=omega) only [go_sem,↓reduceIte]) (by omega) hl) ?_
   have hx8:=aI t at4 3
   generalize bf t at4 3=dr at *
   obtain ⟨st,at5⟩:=dr
   simp only at hx8
   try simp (disch:=omega) only [go_sem,jF,↓reduceIte,reduceCtorEq,z2,v1]
   refine aL (ai _ id g aA true t at5 12 (by try simp (disch:=omega) only [go_sem,↓reduceIte]) (by omega) hl) ?_
   have hx5:=aI t at5 12
   generalize bf t at5 12=dr at *
   obtain ⟨dt,at6⟩:=dr
   simp only at hx5
   try simp (disch:=omega) only [go_sem,jF,↓reduceIte,reduceCtorEq,jO,z2,v1]
   refine aL (ai _ id g aA true t at6 60 (by try simp (disch:=omega) only [go_sem,↓reduceIte]) (by omega) hl) ?_
   have hx9:=aI t at6 60
   generalize bf t at6 60=dr at *
   obtain ⟨rl,at7⟩:=dr
   simp only at hx9
   try simp (disch:=omega) only [go_sem,jF,↓reduceIte,reduceCtorEq,z2,v1]
   refine ab (oS (vZ K hB st fr (fr+dt) rl) (.cons hZ.LM (oQ.refl _))) (by simp [zp,go_sem]) ?_
   have hB2:=OG hB st fr (fr+dt) rl
   have hC2:=hC.U1 (by omega) (st:=st) (fr:=fr) (to:=fr+dt) (rl:=rl) (by omega) (by omega) (by omega)
   generalize bU K st fr (fr+dt) rl=T at *
   obtain ⟨K2,i2,e2⟩:=T
   simp only at hB2 hC2
   try simp (disch:=omega) only [go_sem,jF,jH,↓reduceIte,reduceCtorEq,jO,z2,v1,dv,dF,hZ.put]
   refine aD m hkl (by omega) ⟨by try simp (disch:=omega) only [go_sem,↓reduceIte]; congr 1; omega,by simp only [St.aE]; omega,⟨at7,?_⟩,fun i hi hne=>?_,?_,K2,_,?_,.inl rfl,hB2,hC2⟩
   ·rw [aW (by omega)]; try simp (disch:=omega) only [go_sem,↓reduceIte,z3]
   ·have j1:¬i=n0+1:=by omega
    rw [aW (by omega)]; try simp (disch:=omega) only [go_sem,↓reduceIte,hne,j1]; exact hfr i hi hne
   ·rw [aW (by omega)]; try simp (disch:=omega) only [go_sem,↓reduceIte,jM,z1]; exact v0
   ·rw [aW (by omega)]; try simp (disch:=omega) only [go_sem,↓reduceIte]
  try simp (disch:=omega) only [go_sem,jF,↓reduceIte]
  refine ah (fun k1=>?_) (fun k1=>?_)
  ·try simp (disch:=omega) only [go_sem,jF,jH,↓reduceIte,reduceCtorEq,decide_eq_true k1,z2,v1,zt]
   skip
   refine (ju _ id g t at4 K Z hZ hB fr hl (by simp only; omega) (by try simp (disch:=omega) only [go_sem,↓reduceIte])).mono ?_
   intro r τ hDR
   obtain ⟨⟨sa,sb',sc,rfl,hs1,hs2,hs3,hs4,hs5,hs6⟩,hn2,⟨at5,hd5⟩,hf5⟩:=hDR.use (by simp only; omega)
   obtain ⟨ob2,m2,c2⟩:=τ
   simp only at hn2 hd5 hf5
   subst hn2
   have w0:=hf5 n0 (by omega) z1
   have w1:=hf5 (n0+1) (by omega) z2
   try simp (disch:=omega) only [go_sem,↓reduceIte,z1,v0] at w0
   try simp (disch:=omega) only [go_sem,↓reduceIte,z2,v1] at w1
   try simp (disch:=omega) only [go_sem,jF,jH,↓reduceIte,w1,zt]
   refine ab (oS (rQ K hB sa sb' sc fr) (.cons hZ.LM (oQ.refl _))) (by simp [zp,go_sem]) ?_
   have hB2:=IY hB sa sb' sc fr
   have hC2:=hC.UG (id:=sa) (who:=sb') (code:=sc) (now:=fr)
   generalize ka K sa sb' sc fr=T at *
   obtain ⟨K2,e2⟩:=T
   simp only at hB2 hC2
   have y1:¬n0+1=m2:=by omega
   have y2:¬m2=n0+1:=by omega
   have y3:¬m2=id:=by omega
   have y4:¬id=m2:=by omega
   have y5:¬n0=m2:=by omega
   have fin:∀ (o:Option aV) i,i<n0→i≠id→(bd (bd ob2 m2 o) m2 o) i=dL i:=fun o i hi hne=>by
    have j1:¬i=n0+1:=by omega
    rw [aa _ _ _ _ (by omega),aa _ _ _ _ (by omega),hf5 i (by omega) hne]
    try simp (disch:=omega) only [go_sem,↓reduceIte,hne]
    exact hfr i hi hne
   try simp (disch:=omega) only [go_sem,jF,jH,↓reduceIte,dv,dF,D1,l6]
   refine ah (fun q1=>?_) (fun q1=>?_)
   ·try simp (disch:=omega) only [go_sem,jF,jH,↓reduceIte,jO,dF,GH,GI,D0,y1,w1,hZ.put]
    refine aD (m2+1) hkl (by omega) ⟨by try simp (disch:=omega) only [go_sem,↓reduceIte]; congr 1; omega,by simp only [St.aE]; omega,⟨at5,?_⟩,fun i hi hne=>?_,?_,K2,_,?_,.inl rfl,hB2,hC2 q1⟩
    ·rw [aW (by omega)]; try simp (disch:=omega) only [go_sem,↓reduceIte,z3,y4]; exact hd5
    ·rw [aW (by omega),aa _ _ _ _ (by omega),aa _ _ _ _ (by omega),hf5 i (by omega) hne]
     try simp (disch:=omega) only [go_sem,↓reduceIte,hne]
     exact hfr i hi hne
    ·rw [aW (by omega)]; try simp (disch:=omega) only [go_sem,↓reduceIte,jM,y5]; exact w0
    ·rw [aW (by omega)]; try simp (disch:=omega) only [go_sem,↓reduceIte]
   ·try simp (disch:=omega) only [go_sem,jF,↓reduceIte,jO]
    refine aD (m2+1) hkl (by omega) ⟨by try simp (disch:=omega) only [go_sem,↓reduceIte]; congr 1; omega,by simp only [St.aE]; omega,⟨at5,?_⟩,fun i hi hne=>?_,?_,K,Z,?_,hZ,hB,hC.up⟩
    ·rw [aW (by omega)]; try simp (disch:=omega) only [go_sem,↓reduceIte,y4]; exact hd5
    ·rw [aW (by omega),aa _ _ _ _ (by omega),hf5 i (by omega) hne]
     try simp (disch:=omega) only [go_sem,↓reduceIte,hne]
     exact hfr i hi hne
    ·rw [aW (by omega)]; try simp (disch:=omega) only [go_sem,↓reduceIte,y5]; exact w0
    ·rw [aW (by omega)]; try simp (disch:=omega) only [go_sem,↓reduceIte,y1]; exact w1
  try simp (disch:=omega) only [go_sem,jF,↓reduceIte]
  refine ah (fun k2=>?_) (fun k2=>?_)
  ·try simp (disch:=omega) only [go_sem,jF,jH,↓reduceIte,reduceCtorEq,z2,v1,zt]
   skip
   refine (ju _ id g t at4 K Z hZ hB fr hl (by simp only; omega) (by try simp (disch:=omega) only [go_sem,↓reduceIte])).mono ?_
   intro r τ hDR
   obtain ⟨⟨sa,sb',sc,rfl,hs1,hs2,hs3,hs4,hs5,hs6⟩,hn2,⟨at5,hd5⟩,hf5⟩:=hDR.use (by simp only; omega)
   obtain ⟨ob2,m2,c2⟩:=τ
   simp only at hn2 hd5 hf5
   subst hn2
   have w0:=hf5 n0 (by omega) z1
   have w1:=hf5 (n0+1) (by omega) z2
   try simp (disch:=omega) only [go_sem,↓reduceIte,z1,v0] at w0
   try simp (disch:=omega) only [go_sem,↓reduceIte,z2,v1] at w1
   try simp (disch:=omega) only [go_sem,jF,jH,↓reduceIte,w1,zt]
   refine ab (oS (rQ K hB sa sb' sc fr) (.cons hZ.LM (oQ.refl _))) (by simp [zp,go_sem]) ?_
   have hB2:=IY hB sa sb' sc fr
   have hC2:=hC.UG (id:=sa) (who:=sb') (code:=sc) (now:=fr)
   generalize ka K sa sb' sc fr=T at *
   obtain ⟨K2,e2⟩:=T
   simp only at hB2 hC2
   have y1:¬n0+1=m2:=by omega
   have y2:¬m2=n0+1:=by omega
   have y3:¬m2=id:=by omega
   have y4:¬id=m2:=by omega
   have y5:¬n0=m2:=by omega
   have fin:∀ (o:Option aV) i,i<n0→i≠id→(bd (bd ob2 m2 o) m2 o) i=dL i:=fun o i hi hne=>by
    have j1:¬i=n0+1:=by omega
    rw [aa _ _ _ _ (by omega),aa _ _ _ _ (by omega),hf5 i (by omega) hne]
    try simp (disch:=omega) only [go_sem,↓reduceIte,hne]
    exact hfr i hi hne
   try simp (disch:=omega) only [go_sem,jF,jH,↓reduceIte,dv,dF,D1,l6]
   refine ah (fun q1=>?_) (fun q1=>?_)
   ·try simp (disch:=omega) only [go_sem,jF,jH,↓reduceIte,jO,dF,GH,GI,D0,y1,w1,hZ.put]
    refine aD (m2+1) hkl (by omega) ⟨by try simp (disch:=omega) only [go_sem,↓reduceIte]; congr 1; omega,by simp only [St.aE]; omega,⟨at5,?_⟩,fun i hi hne=>?_,?_,K2,_,?_,.inl rfl,hB2,hC2 q1⟩
    ·rw [aW (by omega)]; try simp (disch:=omega) only [go_sem,↓reduceIte,z3,y4]; exact hd5
    ·rw [aW (by omega),aa _ _ _ _ (by omega),aa _ _ _ _ (by omega),hf5 i (by omega) hne]
     try simp (disch:=omega) only [go_sem,↓reduceIte,hne]
     exact hfr i hi hne
    ·rw [aW (by omega)]; try simp (disch:=omega) only [go_sem,↓reduceIte,jM,y5]; exact w0
    ·rw [aW (by omega)]; try simp (disch:=omega) only [go_sem,↓reduceIte]
   ·try simp (disch:=omega) only [go_sem,jF,↓reduceIte,jO]
    refine aD (m2+1) hkl (by omega) ⟨by try simp (disch:=omega) only [go_sem,↓reduceIte]; congr 1; omega,by simp only [St.aE]; omega,⟨at5,?_⟩,fun i hi hne=>?_,?_,K,Z,?_,hZ,hB,hC.up⟩
    ·rw [aW (by omega)]; try simp (disch:=omega) only [go_sem,↓reduceIte,y4]; exact hd5
    ·rw [aW (by omega),aa _ _ _ _ (by omega),hf5 i (by omega) hne]
     try simp (disch:=omega) only [go_sem,↓reduceIte,hne]
     exact hfr i hi hne
    ·rw [aW (by omega)]; try simp (disch:=omega) only [go_sem,↓reduceIte,y5]; exact w0
    ·rw [aW (by omega)]; try simp (disch:=omega) only [go_sem,↓reduceIte,y1]; exact w1
  try simp (disch:=omega) only [go_sem,jF,jH,↓reduceIte,reduceCtorEq,z2,v1,zt]
  skip
  refine (ju _ id g t at4 K Z hZ hB fr hl (by simp only; omega) (by try simp (disch:=omega) only [go_sem,↓reduceIte])).mono ?_
  intro r τ hDR
  obtain ⟨⟨sa,sb',sc,rfl,hs1,hs2,hs3,hs4,hs5,hs6⟩,hn2,⟨at5,hd5⟩,hf5⟩:=hDR.use (by simp only; omega)
  obtain ⟨ob2,m2,c2⟩:=τ
  simp only at hn2 hd5 hf5
  subst hn2
  have w0:=hf5 n0 (by omega) z1
  have w1:=hf5 (n0+1) (by omega) z2
  try simp (disch:=omega) only [go_sem,↓reduceIte,z1,v0] at w0
  try simp (disch:=omega) only [go_sem,↓reduceIte,z2,v1] at w1
  try simp (disch:=omega) only [go_sem,jF,jH,↓reduceIte,w1,zt]
  refine ab (oS (tX K hB sa sb' sc fr) (.cons hZ.LM (oQ.refl _))) (by simp [zp,go_sem]) ?_
  have hB2:=Nq hB sa sb' sc fr
  have hC2:=hC.UR (id:=sa) (who:=sb') (code:=sc) (now:=fr)
  generalize ku K sa sb' sc fr=T at *
  obtain ⟨K2,e2⟩:=T
  simp only at hB2 hC2
  have y1:¬n0+1=m2:=by omega
  have y2:¬m2=n0+1:=by omega
  have y3:¬m2=id:=by omega
  have y4:¬id=m2:=by omega
  have y5:¬n0=m2:=by omega
  have fin:∀ (o:Option aV) i,i<n0→i≠id→(bd (bd ob2 m2 o) m2 o) i=dL i:=fun o i hi hne=>by
   have j1:¬i=n0+1:=by omega
   rw [aa _ _ _ _ (by omega),aa _ _ _ _ (by omega),hf5 i (by omega) hne]
   try simp (disch:=omega) only [go_sem,↓reduceIte,hne]
   exact hfr i hi hne
  try simp (disch:=omega) only [go_sem,jF,jH,↓reduceIte,dv,dF,D1,l6]
  refine ah (fun q1=>?_) (fun q1=>?_)
  ·try simp (disch:=omega) only [go_sem,jF,jH,↓reduceIte,jO,dF,GH,GI,D0,y1,w1,hZ.put]
   refine aD (m2+1) hkl (by omega) ⟨by try simp (disch:=omega) only [go_sem,↓reduceIte]; congr 1; omega,by simp only [St.aE]; omega,⟨at5,?_⟩,fun i hi hne=>?_,?_,K2,_,?_,.inl rfl,hB2,hC2 q1⟩
   ·rw [aW (by omega)]; try simp (disch:=omega) only [go_sem,↓reduceIte,z3,y4]; exact hd5
   ·rw [aW (by omega),aa _ _ _ _ (by omega),aa _ _ _ _ (by omega),hf5 i (by omega) hne]
    try simp (disch:=omega) only [go_sem,↓reduceIte,hne]
    exact hfr i hi hne
   ·rw [aW (by omega)]; try simp (disch:=omega) only [go_sem,↓reduceIte,jM,y5]; exact w0
   ·rw [aW (by omega)]; try simp (disch:=omega) only [go_sem,↓reduceIte]
  ·try simp (disch:=omega) only [go_sem,jF,↓reduceIte,jO]
   refine aD (m2+1) hkl (by omega) ⟨by try simp (disch:=omega) only [go_sem,↓reduceIte]; congr 1; omega,by simp only [St.aE]; omega,⟨at5,?_⟩,fun i hi hne=>?_,?_,K,Z,?_,hZ,hB,hC.up⟩
   ·rw [aW (by omega)]; try simp (disch:=omega) only [go_sem,↓reduceIte,y4]; exact hd5
   ·rw [aW (by omega),aa _ _ _ _ (by omega),hf5 i (by omega) hne]
    try simp (disch:=omega) only [go_sem,↓reduceIte,hne]
    exact hfr i hi hne
   ·rw [aW (by omega)]; try simp (disch:=omega) only [go_sem,↓reduceIte,y5]; exact w0
   ·rw [aW (by omega)]; try simp (disch:=omega) only [go_sem,↓reduceIte,y1]; exact w1
 obtain rfl:k=N:=by omega
 have zo:Z.cells.take 3=Z.cells∧Z.cells.all AV.one=true∧AV.agg Z.cells=Z∧fI 0 Z (.agg [.nil,.int .i64 0,.nil])=Z:=by
  rcases hZ with rfl | ⟨ps,rfl,rfl⟩ <;> exact ⟨rfl,rfl,rfl,rfl⟩
 obtain ⟨zo1,zo2,zo3,zo4⟩:=zo
 try simp (disch:=omega) only [go_sem,jF,jH,↓reduceIte,v0,v1,zl,zo1,zo2,zo3]
 refine ⟨bP K,at2,hZ.mF,⟨K,rfl,hB,hC.1⟩,by simp only; rw [aa _ _ _ _ z0]; exact hd,fun i hi hne=>?_⟩
 simp only at hi
 simp only
 rw [aa _ _ _ _ (by omega)]
 exact hfr i hi hne
theorem LY (σ:St) (id g:Nat) (t:List Int) (at':Nat) (hl:t.length≤9223372036854775807) (hid:id<σ.n) (hob:σ.ob id=some ⟨g,2,aA,false,true,[bC t at']⟩) :
  HC prog xm [.ptr id g 2 0 0] σ (ek σ id g t fun r=>∃ K,r=bP K∧A9 K):=
 (rY σ id g t at' hl hid hob).mono fun _ _ h=>h.mono fun _ ⟨K,h1,h2,_⟩=>⟨K,h1,h2⟩
def A8 (B:Bk) (K:Dk) (s:Sd):AV:=.agg [.list 4 (lJ B.op),.list 6 (iH B.rp),.list 3 (pN K.ps),.int .i64 K.nx,.list 7 (yn K.ds),.int .i64 s.n,.list 4 (cK s.l)]
theorem yM (B:Bk) (K:Dk) (s:Sd):(A8 B K s).cQ=true:=by simp [A8,go_sem]
theorem BJ (σ:St) (id g:Nat) (t:List Int) (at':Nat) (hl:t.length≤9223372036854775807) (hid:id<σ.n) (hob:σ.ob id=some ⟨g,2,aA,false,true,[bC t at']⟩) :
  HC prog E8 [.ptr id g 2 0 0] σ (ek σ id g t fun r=>∃ B T K s,r=A8 B K s∧Pa B T∧A9 K∧Pb s∧cn K=true∧dh s=true):=by
 refine HC.wL hid ?_
 obtain ⟨dL,n0,c0⟩:=σ
 simp only at hob hid
 refine aM FT (by simp) ?_
 simp only [xA]
 have z0:¬id=n0:=by omega
 have z1:¬n0=id:=by omega
 have z2:¬n0+1=id:=by omega
 have z3:¬id=n0+1:=by omega
 try simp (disch:=omega) only [go_sem,↓reduceIte,reduceCtorEq]
 refine (DQ _ id g t at' hl (by simp only; omega) (by try simp (disch:=omega) only [go_sem,↓reduceIte,z0]; exact hob)).mono ?_
 intro r τ hDR
 obtain ⟨⟨B,T,rfl,hT⟩,hn,⟨at1,hd⟩,hf⟩:=hDR.use (by simp only; omega)
 obtain ⟨ob1,n1,c1⟩:=τ
 simp only at hn hd hf
 subst hn
 have u0:=hf n0 (by omega) z1
 try simp (disch:=omega) only [go_sem,↓reduceIte] at u0
 try simp (disch:=omega) only [go_sem,jF,jG,jH,↓reduceIte,reduceCtorEq,jx]
 refine (Ak _ id g t at1 hl (by simp only; omega) (by try simp (disch:=omega) only [go_sem,↓reduceIte,z3]; exact hd)).mono ?_
 intro r τ hDR2
 obtain ⟨⟨s,u,rfl,hs,hso⟩,hn,⟨at2,hd2⟩,hf2⟩:=hDR2.use (by simp only; omega)
 obtain ⟨ob2,n2,c2⟩:=τ
 simp only at hn hd2 hf2
 subst hn
 have w0:=hf2 n0 (by omega) z1
 have w1:=hf2 (n0+1) (by omega) z2
 have y1:¬n0=n0+1:=by omega
 try simp (disch:=omega) only [go_sem,↓reduceIte,y1,u0] at w0
 try simp (disch:=omega) only [go_sem,↓reduceIte] at w1
 have z4:¬n0+1+1=id:=by omega
 have z5:¬id=n0+1+1:=by omega
 have z6:¬n0+1+1+1=id:=by omega
 have z7:¬id=n0+1+1+1:=by omega
 try simp (disch:=omega) only [go_sem,jF,jG,jH,↓reduceIte,reduceCtorEq,jM,mE,HV,w1]
 refine (rY _ id g t at2 hl (by simp only; omega) (by try simp (disch:=omega) only [go_sem,↓reduceIte,z5,z7]; exact hd2)).mono ?_
 intro r τ hDR3
 obtain ⟨⟨K,rfl,hK,hKc⟩,hn,⟨at3,hd3⟩,hf3⟩:=hDR3.use (by simp only; omega)
 obtain ⟨ob3,n3,c3⟩:=τ
 simp only at hn hd3 hf3
 subst hn
 have x0:=hf3 n0 (by omega) z1
 have x1:=hf3 (n0+1) (by omega) z2
 have x2:=hf3 (n0+1+1) (by omega) z4
 have y2:¬n0=n0+1+1:=by omega
 have y3:¬n0=n0+1+1+1:=by omega
 have y4:¬n0+1=n0+1+1:=by omega
 have y5:¬n0+1=n0+1+1+1:=by omega
 have y6:¬n0+1+1=n0+1+1+1:=by omega
 try simp (disch:=omega) only [go_sem,↓reduceIte,y2,y3,w0] at x0
 try simp (disch:=omega) only [go_sem,↓reduceIte,y4,y5,w1] at x1
 try simp (disch:=omega) only [go_sem,↓reduceIte,y6] at x2
 try simp (disch:=omega) only [go_sem,jF,jG,jH,↓reduceIte,reduceCtorEq,bP,x0,x1,x2,y4,y5,y6]
 refine ⟨w1.symm,_,at3,.pure (yM B K s),⟨B,T,K,s,rfl,hT,hK,hs,hKc,hso⟩,by simp only; rw [aa _ _ _ _ z0]; exact hd3,fun i hi hne=>?_⟩
 simp only at hi
 simp only
 have j0:¬i=n0:=by omega
 have j1:¬i=n0+1:=by omega
 have j2:¬i=n0+1+1:=by omega
 have j3:¬i=n0+1+1+1:=by omega
 rw [aa _ _ _ _ j0,hf3 i (by omega) hne]
 try simp (disch:=omega) only [go_sem,↓reduceIte,j2,j3]
 rw [hf2 i (by omega) hne]
 try simp (disch:=omega) only [go_sem,↓reduceIte,j1]
 rw [hf i (by omega) hne]
 try simp (disch:=omega) only [go_sem,↓reduceIte,j0]
theorem L0 {a:Ac} {t:Tr} (hT:Mo a t) (h:(dN a).2=0):TP a ⟨(dN a).1.1,(dN a).1.2.1,(dN a).1.2.2⟩:=by
 have hG:=hT.g
 have hok:=hG.ok
 have ht:(dK a).2=0:=by
  unfold dN at h
  split at h
  ·exact h
  ·rename_i h1; simpa using h1
 obtain ⟨_,hv,ht1⟩:=Ck ht
 have hF:=Fj hok hv
 have e:dN a=((vH (a.ins.length+1) (sq a (j8 a)),vH a.ins.length (cm a (j8 a)),vH a.ins.length (og a (j8 a))),0):=by
  unfold dN
  rw [if_neg (by simp [ht]),ht1]
 obtain ⟨n,hD⟩:=hT
 have hn:=hD.hi.1
 have h5:=hD.n5
 have ls:=hD.h.ls
 have li:=hD.h.li
 have lo:=hD.h.lo
 rw [e]
 refine ⟨?_,ec _ _,ec _ _,ec _ _,hok,fun i hi=>?_,fun i hi=>?_,fun i hi=>?_⟩
 ·refine ⟨fun i hi=>?_,fun i hi=>?_,fun i hi=>?_,fun i hi=>?_⟩
  ·simp only; rw [eQ _ (by omega)]; exact hF.st i hi
  ·simp only; rw [eQ _ hi]; exact hF.ins i hi
  ·simp only; rw [eQ _ hi]; exact hF.outs i hi
  ·simp only; rw [eQ _ (by omega),eQ _ (by omega),eQ _ hi,eQ _ hi]; exact hF.PX i hi
 ·simp only; rw [eQ _ (by omega)]
  have h1:=hF.st i hi
  have h2:=hD.s.b i (by omega)
  have h3:=hD.h.s i (by omega)
  simp only [iu,Cc] at h1 h2; omega
 ·simp only; rw [eQ _ hi]
  have h1:=hF.ins i hi
  have h2:=hD.i.b i (by omega)
  have h3:=hD.h.i i (by omega)
  simp only [iu,Cc] at h1 h2; omega
 ·simp only; rw [eQ _ hi]
  have h1:=hF.outs i hi
  have h2:=hD.o.b i (by omega)
  have h3:=hD.h.o i (by omega)
  simp only [iu,Cc] at h1 h2; omega
theorem eD {n:Int} (h0:0≤n) (h1:n≤274877906944):vB n=true:=by simp [vB,h0,h1]
def KW (q:Rc):Prop:=bg q=true∧q.sg=[]
theorem Rh {nu ac fd tm lo hi:Int} (h:vB nu=true∧vB ac=true∧vB fd=true∧vB tm=true∧vB lo=true∧vB hi=true):KW ⟨1,nu,ac,fd,tm,lo,hi,0,0,0,0,0,[],false,0,0,0,0,0,0,0⟩:=by
 refine ⟨?_,rfl⟩
 simp [bg,aH,ba,cI,fD,sI,ib,h]
theorem Tq {st fr to rl:Int} (h:vB st=true∧vB fr=true∧vB to=true∧vB rl=true):KW ⟨2,0,0,0,0,0,0,0,st,fr,to,rl,[],false,0,0,0,0,0,0,0⟩:=by
 refine ⟨?_,rfl⟩
 simp [bg,aH,ba,cI,fD,sI,ib,h]
theorem Nd {k a b c tm:Int} (hk:k=3∨k=4) (h:vB a=true∧vB b=true∧vB c=true∧vB tm=true):KW ⟨k,0,0,0,0,0,0,a,0,0,0,0,[],false,b,c,tm,0,0,0,0⟩:=by
 refine ⟨?_,rfl⟩
 rcases hk with rfl | rfl <;> simp [bg,aH,ba,cI,fD,sI,ib,h]
theorem Tp {k i v:Int} (h:vB k=true∧vB i=true∧vB v=true):KW ⟨5,0,0,0,0,0,0,0,0,0,0,0,[],false,0,0,0,0,k,i,v⟩:=by
 refine ⟨?_,rfl⟩
 simp [bg,aH,ba,cI,fD,sI,ib,h]
theorem To {n:Int} (h:vB n=true):KW ⟨6,0,0,0,0,0,0,0,0,0,0,0,[],false,0,0,0,n,0,0,0⟩:=by
 refine ⟨?_,rfl⟩
 simp [bg,aH,ba,cI,fD,sI,ib,h]
theorem Gz (B:Bk) (K:Dk) (s:Sd):(A8 B K s).cells.getD 0 .bF=.list 4 (lJ B.op):=rfl
theorem OR (B:Bk) (K:Dk) (s:Sd):(A8 B K s).cells.getD 5 .bF=.int .i64 s.n:=rfl
theorem LW (B:Bk) (K:Dk) (s:Sd):(A8 B K s).cells.length=7:=rfl
theorem JE (B:Bk) (K:Dk) (s:Sd):(A8 B K s).flat=true:=rfl
theorem JF (B:Bk) (K:Dk) (s:Sd):AV.agg (((A8 B K s).cells.drop 2).take 3)=bP K:=rfl
structure UN (op:List Ac) (T:List Tr):Prop where
 n1:1≤op.length
 n2:op.length≤2
 tr:∀ i,i<op.length→Mo (gA op i) (gT T i)
theorem Pa.o {B:Bk} {T:List Tr} (h:Pa B T):UN B.op T:=⟨h.n1,h.n2,h.tr⟩
theorem Aj (σ:St) (id g:Nat) (t:List Int) (at':Nat) (B:Bk) (T:List Tr) (K:Dk) (s:Sd) (hT:UN B.op T) (hK:A9 K) (hs:Pb s) (hl:t.length≤9223372036854775807) (hid:id<σ.n) (hob:σ.ob id=some ⟨g,2,aA,false,true,[bC t at']⟩) :
  HC prog BG [.ptr id g 2 0 0,A8 B K s] σ (ek σ id g t fun r=>∃ q:Rc,r=dc q∧KW q):=by
 refine HC.wL hid ?_
 obtain ⟨dL,n0,c0⟩:=σ
 simp only at hob hid
 refine aM B8 (by simp) ?_
 simp only [sG]
 have z0:¬id=n0:=by omega
 have z1:¬n0=id:=by omega
 have z2:¬n0+1=id:=by omega
 have z3:¬id=n0+1:=by omega
 have z4:¬n0+1+1=id:=by omega
 have z5:¬id=n0+1+1:=by omega
 have hbk:=ng
 have hfl:∀ q,(fJ .nil q).flat=true:=fun q=>eP q rfl
 try simp (disch:=omega) only [go_sem,↓reduceIte,reduceCtorEq,JE,LW]
 refine aL (ai _ id g aA true t at' 6 (by try simp (disch:=omega) only [go_sem,↓reduceIte,z0,z3]; exact hob) (by omega) hl) ?_
 have hx1:=aI t at' 6
 generalize bf t at' 6=dr at *
 obtain ⟨x0,at1⟩:=dr
 simp only at hx1
 try simp (disch:=omega) only [go_sem,jF,jG,jH,↓reduceIte,jO]
 have fin:∀ (q:Rc) (hq:KW q) (ob':Nat→Option aV) (c' m' at2:Nat),ob' id=some ⟨g,2,aA,false,true,[bC t at2]⟩→(∀ i,i<n0→i≠id→ob' i=dL i)→CY ⟨dL,n0,c0⟩ id g t (fun r=>∃ q:Rc,r=dc q∧KW q) (fJ .nil q) ⟨ob',m',c'⟩:=
  fun q hq ob' c' m' at2 h1 h2=>⟨dc q,at2,fK hq.2,⟨q,rfl,hq⟩,h1,h2⟩
 have b0:=hT.n1
 have b1:=hT.n2
 have y1:¬n0=n0+1:=by omega
 have y2:¬n0=n0+1+1:=by omega
 have y3:¬id=n0+1+1+1:=by omega
 have y4:¬n0+1+1+1=id:=by omega
 have y5:¬n0+1=n0+1+1:=by omega
 have y6:¬n0+1=n0+1+1+1:=by omega
 have y7:¬n0+1+1=n0+1+1+1:=by omega
 refine ah (fun k1=>?_) (fun k1=>?_)
 ·try simp (disch:=omega) only [go_sem,jF,jH,↓reduceIte,y1,y2,z1,Gz,aN]
  refine ah (fun q1=>?_) (fun q1=>?_)
  ·try simp (disch:=omega) only [go_sem,jF,jH,↓reduceIte,reduceCtorEq,y1,y2,z1,Gz,aN]
   refine aL (ai _ id g aA true t at1 B.op.length (by try simp (disch:=omega) only [go_sem,↓reduceIte,jM]) (by omega) hl) ?_
   have hx2:=aI t at1 B.op.length
   generalize bf t at1 B.op.length=dr at *
   obtain ⟨x1,at2⟩:=dr
   simp only at hx2
   obtain ⟨i,hi⟩:∃ i:Nat,(i:Int)=x1∧i<B.op.length:=⟨x1.toNat,by omega,by omega⟩
   obtain ⟨rfl,hi⟩:=hi
   have hA:=hT.tr i hi
   have hg:=iz hi
   have hFg:=L0 hA
   have hok:=hA.g.ok
   generalize gA B.op i=a at *
   try simp (disch:=omega) only [go_sem,jF,jG,jH,↓reduceIte,y1,y2,z1,Gz,aN,eY,hg,Option.map_some,gI]
   refine ⟨by omega,by omega,?_⟩
   refine ab (zB a hok.l) (by simp [go_sem]) ?_
   try simp (disch:=omega) only [go_sem,jF,↓reduceIte]
   refine ah (fun q2=>?_) (fun q2=>?_)
   ·try simp (disch:=omega) only [go_sem,jF,jG,jH,↓reduceIte,reduceCtorEq]
    refine aL (ai _ id g aA true t at2 30 (by try simp (disch:=omega) only [go_sem,↓reduceIte,y3]) (by omega) hl) ?_
    have hx3:=aI t at2 30
    generalize bf t at2 30=dr at *
    obtain ⟨x3,at3⟩:=dr
    simp only at hx3
    try simp (disch:=omega) only [go_sem,jF,↓reduceIte,jO,y4]
    refine (o6 _ id g t at3 a ⟨(dN a).1.1,(dN a).1.2.1,(dN a).1.2.2⟩ (hFg q2) i (1+x3) hl (by simp only; omega) (by try simp (disch:=omega) only [go_sem,↓reduceIte])).mono ?_
    intro r τ hDR
    obtain ⟨⟨q,rfl,hq1,hq2,hq3,hq4,hq5⟩,hn,⟨at4,hd⟩,hf⟩:=hDR.use (by simp only; omega)
    obtain ⟨ob1,n1,c1⟩:=τ
    simp only at hn hd hf
    subst hn
    have u1:=hf (n0+1) (by omega) z2
    have u2:=hf (n0+1+1) (by omega) z4
    try simp (disch:=omega) only [go_sem,↓reduceIte,y5,y6,z2] at u1
    try simp (disch:=omega) only [go_sem,↓reduceIte,y7,z4] at u2
    try simp (disch:=omega) only [go_sem,jF,jG,jH,↓reduceIte,reduceCtorEq,en,u1,u2,y4,y5]
    rw [k1]
    have hb4:=hq3.b
    have hfl9:=yP hok hq3.fd
    have hf1:=hok.f1
    have hn2:=hok.n2
    have hf0:=hok.f0
    have ht0:=hq3.t0
    have ht1:=hq3.t1
    have hfd:=hq3.fd
    simp only [fF] at hb4
    have htm:q.tm≤16777216:=by
     rw [hfl9] at ht1
     split at ht1 <;> omega
    refine fin ⟨1,q.nu,q.ac,q.fd,q.tm,q.b.lo,q.b.hi,0,0,0,0,0,[],false,0,0,0,0,0,0,0⟩ (Rh ⟨eD (by omega) (by omega),eD (by omega) (by omega),eD (by omega) (by omega),eD (by omega) (by omega),eD (by omega) (by omega),eD (by omega) (by omega)⟩) _ _ _ at4 (by try simp (disch:=omega) only [go_sem,↓reduceIte,z3,z5]; exact hd) fun i hi hne=>?_
    have j0:¬i=n0:=by omega
    have j1:¬i=n0+1:=by omega
    have j2:¬i=n0+1+1:=by omega
    have j3:¬i=n0+1+1+1:=by omega
    try simp (disch:=omega) only [go_sem,↓reduceIte,j1,j2]
    rw [hf i (by omega) hne]
    try simp (disch:=omega) only [go_sem,↓reduceIte,j0,j1,j2,j3,hne]
   ·try simp (disch:=omega) only [go_sem,jF,jG,jH,↓reduceIte,y5,y6,y7,z2,z4]
    rw [k1]
    refine fin (ib 1) (Rh ⟨rfl,rfl,rfl,rfl,rfl,rfl⟩) _ _ _ at2 (by try simp (disch:=omega) only [go_sem,↓reduceIte,y3,z3]) fun i hi hne=>?_
    have j0:¬i=n0:=by omega
    have j1:¬i=n0+1:=by omega
    have j2:¬i=n0+1+1:=by omega
    have j3:¬i=n0+1+1+1:=by omega
    try simp (disch:=omega) only [go_sem,↓reduceIte,j0,j1,j2,j3,hne]
  ·omega
 try simp (disch:=omega) only [go_sem,jF,↓reduceIte]
 refine ah (fun k2=>?_) (fun k2=>?_)
 ·try simp (disch:=omega) only [go_sem,↓reduceIte,reduceCtorEq]
  refine aL (ai _ id g aA true t at1 12 (by try simp (disch:=omega) only [go_sem,↓reduceIte,z5]) (by omega) hl) ?_
  have hx2:=aI t at1 12
  generalize bf t at1 12=dr at *
  obtain ⟨x1,at2⟩:=dr
  simp only at hx2
  try simp (disch:=omega) only [go_sem,↓reduceIte,reduceCtorEq]
  refine aL (ai _ id g aA true t at2 3 (by try simp (disch:=omega) only [go_sem,↓reduceIte]) (by omega) hl) ?_
  have hx3:=aI t at2 3
  generalize bf t at2 3=dr at *
  obtain ⟨x2,at3⟩:=dr
  simp only at hx3
  try simp (disch:=omega) only [go_sem,jF,↓reduceIte,reduceCtorEq]
  refine aL (ai _ id g aA true t at3 12 (by try simp (disch:=omega) only [go_sem,↓reduceIte]) (by omega) hl) ?_
  have hx4:=aI t at3 12
  generalize bf t at3 12=dr at *
  obtain ⟨x3,at4⟩:=dr
  simp only at hx4
  try simp (disch:=omega) only [go_sem,jF,↓reduceIte,reduceCtorEq,jO]
  refine aL (ai _ id g aA true t at4 60 (by try simp (disch:=omega) only [go_sem,↓reduceIte]) (by omega) hl) ?_
  have hx5:=aI t at4 60
  generalize bf t at4 60=dr at *
  obtain ⟨x4,at5⟩:=dr
  simp only at hx5
  try simp (disch:=omega) only [go_sem,jF,jG,jH,↓reduceIte,y5,z2,z4]
  rw [k2]
  refine fin ⟨2,0,0,0,0,0,0,0,x2,x1,x1+x3,x4,[],false,0,0,0,0,0,0,0⟩ (Tq ⟨eD (by omega) (by omega),eD (by omega) (by omega),eD (by omega) (by omega),eD (by omega) (by omega)⟩) _ _ _ at5 (by try simp (disch:=omega) only [go_sem,↓reduceIte,z3,z5]) fun i hi hne=>?_
  have j0:¬i=n0:=by omega
  have j1:¬i=n0+1:=by omega
  have j2:¬i=n0+1+1:=by omega
  have j3:¬i=n0+1+1+1:=by omega
  try simp (disch:=omega) only [go_sem,↓reduceIte,j0,j1,j2,hne]
 try simp (disch:=omega) only [go_sem,jF,↓reduceIte]
 refine ah (fun k3=>?_) (fun k3=>?_)
 ·try simp (disch:=omega) only [go_sem,jF,jG,jH,↓reduceIte,reduceCtorEq,decide_eq_true k3,y1,y2,z1,JF]
  refine (lg _ id g t at1 K hK 0 hl (by simp only; omega) (by try simp (disch:=omega) only [go_sem,↓reduceIte,z5])).mono ?_
  intro r τ hDR
  obtain ⟨⟨a,b,c,rfl,hs1,hs2,hs3,hs4,hs5,hs6⟩,hn,⟨at2,hd⟩,hf⟩:=hDR.use (by simp only; omega)
  obtain ⟨ob1,n1,c1⟩:=τ
  simp only at hn hd hf
  subst hn
  have u1:=hf (n0+1) (by omega) z2
  have u2:=hf (n0+1+1) (by omega) z4
  try simp (disch:=omega) only [go_sem,↓reduceIte,y5,z2] at u1
  try simp (disch:=omega) only [go_sem,↓reduceIte] at u2
  try simp (disch:=omega) only [go_sem,jF,jG,jH,↓reduceIte,reduceCtorEq,u2]
  refine aL (ai _ id g aA true t at2 12 (by try simp (disch:=omega) only [go_sem,↓reduceIte,z5]; exact hd) (by omega) hl) ?_
  have hx4:=aI t at2 12
  generalize bf t at2 12=dr at *
  obtain ⟨x4,at4⟩:=dr
  simp only at hx4
  try simp (disch:=omega) only [go_sem,jF,jG,jH,↓reduceIte,u1,y5,z2,z4]
  rw [k3]
  refine fin ⟨3,0,0,0,0,0,0,a,0,0,0,0,[],false,b,c,x4,0,0,0,0⟩ (Nd (by omega) ⟨eD (by omega) (by omega),eD (by omega) (by omega),eD (by omega) (by omega),eD (by omega) (by omega)⟩) _ _ _ at4 (by try simp (disch:=omega) only [go_sem,↓reduceIte,z3,z5]) fun i hi hne=>?_
  have j0:¬i=n0:=by omega
  have j1:¬i=n0+1:=by omega
  have j2:¬i=n0+1+1:=by omega
  have j3:¬i=n0+1+1+1:=by omega
  try simp (disch:=omega) only [go_sem,↓reduceIte,j1,j2,hne]
  rw [hf i (by omega) hne]
  try simp (disch:=omega) only [go_sem,↓reduceIte,j0,j1,j2,hne]
 try simp (disch:=omega) only [go_sem,jF,↓reduceIte]
 refine ah (fun k4=>?_) (fun k4=>?_)
 ·try simp (disch:=omega) only [go_sem,jF,jG,jH,↓reduceIte,reduceCtorEq,y1,y2,z1,JF]
  refine (lg _ id g t at1 K hK 0 hl (by simp only; omega) (by try simp (disch:=omega) only [go_sem,↓reduceIte,z5])).mono ?_
  intro r τ hDR
  obtain ⟨⟨a,b,c,rfl,hs1,hs2,hs3,hs4,hs5,hs6⟩,hn,⟨at2,hd⟩,hf⟩:=hDR.use (by simp only; omega)
  obtain ⟨ob1,n1,c1⟩:=τ
  simp only at hn hd hf
  subst hn
  have u1:=hf (n0+1) (by omega) z2
  have u2:=hf (n0+1+1) (by omega) z4
  try simp (disch:=omega) only [go_sem,↓reduceIte,y5,z2] at u1
  try simp (disch:=omega) only [go_sem,↓reduceIte] at u2
  try simp (disch:=omega) only [go_sem,jF,jG,jH,↓reduceIte,reduceCtorEq,u2]
  refine aL (ai _ id g aA true t at2 12 (by try simp (disch:=omega) only [go_sem,↓reduceIte,z5]; exact hd) (by omega) hl) ?_
  have hx4:=aI t at2 12
  generalize bf t at2 12=dr at *
  obtain ⟨x4,at4⟩:=dr
  simp only at hx4
  try simp (disch:=omega) only [go_sem,jF,jG,jH,↓reduceIte,u1,y5,z2,z4]
  rw [k4]
  refine fin ⟨4,0,0,0,0,0,0,a,0,0,0,0,[],false,b,c,x4,0,0,0,0⟩ (Nd (by omega) ⟨eD (by omega) (by omega),eD (by omega) (by omega),eD (by omega) (by omega),eD (by omega) (by omega)⟩) _ _ _ at4 (by try simp (disch:=omega) only [go_sem,↓reduceIte,z3,z5]) fun i hi hne=>?_
  have j0:¬i=n0:=by omega
  have j1:¬i=n0+1:=by omega
  have j2:¬i=n0+1+1:=by omega
  have j3:¬i=n0+1+1+1:=by omega
  try simp (disch:=omega) only [go_sem,↓reduceIte,j1,j2,hne]
  rw [hf i (by omega) hne]
  try simp (disch:=omega) only [go_sem,↓reduceIte,j0,j1,j2,hne]
 try simp (disch:=omega) only [go_sem,jF,↓reduceIte]
 refine ah (fun k5=>?_) (fun k5=>?_)
 ·try simp (disch:=omega) only [go_sem,↓reduceIte,reduceCtorEq]
  refine (fW _ id g t at1 1 hl (by simp only; omega) (by try simp (disch:=omega) only [go_sem,↓reduceIte,z5])).mono ?_
  intro r τ hDR
  obtain ⟨⟨kk,ii,vv,rfl,hOB⟩,hn,⟨at2,hd⟩,hf⟩:=hDR.use (by simp only; omega)
  obtain ⟨ob1,n1,c1⟩:=τ
  simp only at hn hd hf
  subst hn
  have u1:=hf (n0+1) (by omega) z2
  have u2:=hf (n0+1+1) (by omega) z4
  try simp (disch:=omega) only [go_sem,↓reduceIte,y5,z2] at u1
  try simp (disch:=omega) only [go_sem,↓reduceIte] at u2
  try simp (disch:=omega) only [go_sem,jF,jG,jH,↓reduceIte,gG,u1,u2,y5,y6,y7]
  rw [k5]
  simp only [SP] at hOB
  refine fin ⟨5,0,0,0,0,0,0,0,0,0,0,0,[],false,0,0,0,0,kk,ii,vv⟩ (Tp ⟨eD (by omega) (by omega),eD (by omega) (by omega),eD (by omega) (by omega)⟩) _ _ _ at2 (by try simp (disch:=omega) only [go_sem,↓reduceIte,y3,z3,z5]; exact hd) fun i hi hne=>?_
  have j0:¬i=n0:=by omega
  have j1:¬i=n0+1:=by omega
  have j2:¬i=n0+1+1:=by omega
  have j3:¬i=n0+1+1+1:=by omega
  try simp (disch:=omega) only [go_sem,↓reduceIte,j1,j2,j3]
  rw [hf i (by omega) hne]
  try simp (disch:=omega) only [go_sem,↓reduceIte,j0,j1,j2,hne]
 have k6:1+x0=6:=by omega
 try simp (disch:=omega) only [go_sem,jF,jG,jH,↓reduceIte,reduceCtorEq,y1,y2,z1,OR]
 refine aL (ai _ id g aA true t at1 s.n (by try simp (disch:=omega) only [go_sem,↓reduceIte,z5]) (by have:=hs.2; omega) hl) ?_
 have hx2:=aI t at1 s.n
 generalize bf t at1 s.n=dr at *
 obtain ⟨x1,at2⟩:=dr
 simp only at hx2
 try simp (disch:=omega) only [go_sem,jF,jG,jH,↓reduceIte,y5,z2,z4]
 rw [k6]
 have hs2:=hs.2
 refine fin ⟨6,0,0,0,0,0,0,0,0,0,0,0,[],false,0,0,0,x1,0,0,0⟩ (To (eD (by omega) (by omega))) _ _ _ at2 (by try simp (disch:=omega) only [go_sem,↓reduceIte,z3,z5]) fun i hi hne=>?_
 have j0:¬i=n0:=by omega
 have j1:¬i=n0+1:=by omega
 have j2:¬i=n0+1+1:=by omega
 have j3:¬i=n0+1+1+1:=by omega
 try simp (disch:=omega) only [go_sem,↓reduceIte,j0,j1,j2,hne]
def xH (l:List Int):Int:=65536 * (gM l 1 0).2+(gM l 1 0).1
theorem G2 (s:ByteArray):pK s=xH (sb s):=rfl
theorem EJ:∀ (l:List Int) (a b:Int),0≤a→a<65521→0≤b→b<65521→0≤(gM l a b).1∧(gM l a b).1<65521∧0≤(gM l a b).2∧(gM l a b).2<65521
 | [],a,b,h1,h2,h3,h4=>⟨h1,h2,h3,h4⟩
 | x :: l,a,b,h1,h2,h3,h4=>by
  simp only [gM]
  exact EJ l _ _ (Int.emod_nonneg _ (by decide)) (Int.emod_lt_of_pos _ (by decide)) (Int.emod_nonneg _ (by decide)) (Int.emod_lt_of_pos _ (by decide))
theorem Lu (l:List Int):0≤xH l∧xH l<4294967296:=by
 have:=EJ l 1 0 (by omega) (by omega) (by omega) (by omega)
 unfold xH; omega
theorem CH:∀ (k:Nat) (n:Int),0≤n→n<256 ^ k→iY (cP n k)=n
 | 0,n,h0,h1=>by simp at h1; simp [cP,iY]; omega
 | k+1,n,h0,h1=>by
  rw [Int.pow_succ] at h1
  simp only [cP,iY]
  rw [CH k (n / 256) (by omega) (by omega)]
  omega
theorem Fg {a r:List Int} {n:Int} {k:Nat} (h0:0≤n) (h1:n<256 ^ k) (h:a=cP n k++r):iY (a.take k)=n:=by
 subst h
 rw [List.take_append_of_le_length (by rw [bx]; exact Nat.le_refl _),List.take_of_length_le (by rw [bx]; exact Nat.le_refl _),CH k n h0 h1]
def mW (r:Rc):List Int:=c8 r++cP (xH (c8 r)) 4
theorem JR:∀ l:List Int,(l.flatMap fun n=>cP n 5).length=5 * l.length
 | []=>rfl
 | a :: l=>by rw [List.flatMap_cons,List.length_append,bx,JR l,List.length_cons]; omega
theorem qo (r:Rc):(c8 r).length=1+5 * (aH r.k).length:=by
 rw [c8,List.length_append,bx,JR,ba,List.length_map]
theorem jb (r:Rc):(mW r).length=5+5 * (aH r.k).length:=by rw [mW,List.length_append,qo,bx]; omega
theorem HB (r:Rc):∀ x∈c8 r,0≤x∧x≤255:=by
 intro x hx
 rcases List.mem_append.1 hx with hx | hx
 ·exact tO _ _ x hx
 ·obtain ⟨n,_,hx⟩:=List.mem_flatMap.1 hx
  exact tO _ _ x hx
theorem L7 (r:Rc):∀ x∈mW r,0≤x∧x≤255:=by
 intro x hx
 rcases List.mem_append.1 hx with hx | hx
 ·exact HB r x hx
 ·exact tO _ _ x hx
theorem C9 (r:Rc):sb (rA r)=mW r:=by
 have h1:pK (bs (c8 r))=xH (c8 r):=by rw [G2,I2 _ (HB r)]
 rw [rA,h1]
 exact I2 _ (L7 r)
theorem od {r:Rc} (h:bg r=true):aH r.k≠[]∧(ba r).all vB=true∧fD r (aH r.k)=r:=by
 simp only [bg,Bool.and_eq_true,decide_eq_true_eq] at h
 exact ⟨h.1.1,h.1.2,h.2⟩
def xj (D:List Int) (n:Nat):List Int:=(List.range n).map fun i=>iY ((D.drop (1+5 * i)).take 5)
def BL (D:List Int):Rc × Nat × Int:=
 if aH (D.getD 0 0)=[] then (ib 0,0,49) else if D.length<1+5 * (aH (D.getD 0 0)).length+4 then (ib 0,0,7) else
 if iY ((D.drop (1+5 * (aH (D.getD 0 0)).length)).take 4)≠xH (D.take (1+5 * (aH (D.getD 0 0)).length)) then (ib 0,0,8) else
 if (xj D (aH (D.getD 0 0)).length).all vB then (oZ (D.getD 0 0) (xj D (aH (D.getD 0 0)).length),1+5 * (aH (D.getD 0 0)).length+4,0) else (ib 0,0,49)
theorem J4 (s:ByteArray) (a:Nat) (h:a<s.size):bX s a=((BL ((sb s).drop a)).1,(if (BL ((sb s).drop a)).2.2=0 then ((a+(BL ((sb s).drop a)).2.1:Nat):Int) else 0),(BL ((sb s).drop a)).2.2):=by
 have e1:bX s a=Ay s a:=by rw [bX,if_neg (by omega),if_neg (by omega)]; rfl
 rw [e1]
 have g0:((sb s).drop a).getD 0 0=(sb s).getD a 0:=by simp [List.getD_eq_getElem?_getD]
 have g1:((sb s).drop a).length=s.size-a:=by rw [List.length_drop,bQ]
 have g2:∀ j k,iY ((((sb s).drop a).drop j).take k)=mV s (a+j) k:=fun j k=>by rw [List.drop_drop]; rfl
 have g3:∀ j,xH (((sb s).drop a).take j)=pK (s.extract a (a+j)):=fun j=>by rw [G2,zh,Nat.add_sub_cancel_left]
 have g4:∀ n,xj ((sb s).drop a) n=bD s a n:=fun n=>by
  simp only [xj,bD]
  refine List.map_congr_left fun i _=>?_
  rw [g2,Nat.add_assoc]
 simp only [BL,Ay,g0,g1,g2,g3,g4]
 generalize (sb s).getD a 0=k
 by_cases c1:aH k=[]
 ·simp [c1]
 rw [if_neg c1,if_neg c1]
 by_cases c2:s.size<a+1+5 * (aH k).length+4
 ·have c2':s.size-a<1+5 * (aH k).length+4:=by omega
  rw [if_pos c2,if_pos c2']; simp
 have c2':¬s.size-a<1+5 * (aH k).length+4:=by omega
 rw [if_neg c2,if_neg c2']
 rw [show a+(1+5 * (aH k).length)=a+1+5 * (aH k).length by omega]
 by_cases c3:mV s (a+1+5 * (aH k).length) 4≠pK (s.extract a (a+1+5 * (aH k).length))
 ·rw [if_pos c3,if_pos c3]; simp
 rw [if_neg c3,if_neg c3]
 by_cases c4:(bD s a (aH k).length).all vB=true
 ·rw [if_pos c4,if_pos c4]
  simp only [if_true]
  congr 2
  omega
 ·rw [if_neg c4,if_neg c4]; simp
theorem QU {n:Int} (h:vB n=true):0≤n∧n≤274877906944:=by simpa [vB] using h
theorem CJ:∀ (l:List Int) (i:Nat),(l.flatMap fun n=>cP n 5).drop (5 * i)=(l.drop i).flatMap fun n=>cP n 5
 | l,0=>by simp
 | [],i+1=>by simp
 | x :: l,i+1=>by
  simp only [List.flatMap_cons,List.drop_succ_cons]
  rw [show 5 * (i+1)=(cP x 5).length+5 * i by rw [bx]; omega,List.drop_append,List.drop_of_length_le (by omega),List.nil_append,Nat.add_sub_cancel_left,CJ l i]
theorem Im (r:Rc) (i:Nat):(c8 r).drop (1+5 * i)=((ba r).drop i).flatMap fun n=>cP n 5:=by
 rw [c8,←List.drop_drop,List.drop_left' (bx _ _),CJ]
theorem Jp {r:Rc} (h:bg r=true) (Q:List Int):xj (c8 r++Q) (aH r.k).length=ba r:=by
 obtain ⟨h1,h2,h3⟩:=od h
 have hl:(ba r).length=(aH r.k).length:=by rw [ba,List.length_map]
 apply List.ext_getElem
 ·simp [xj,hl]
 ·intro i hi hi'
  simp only [xj,List.getElem_map,List.getElem_range]
  have hb:=QU (List.all_eq_true.1 h2 _ (List.getElem_mem hi'))
  refine Fg (r:=((ba r).drop (i+1)).flatMap (fun n=>cP n 5)++Q) hb.1 (by omega) ?_
  rw [List.drop_append_of_le_length (by rw [qo]; omega),Im,List.drop_eq_getElem_cons hi',List.flatMap_cons,List.append_assoc]
theorem O1 {r:Rc} (h:bg r=true) (Q:List Int):(c8 r++Q).getD 0 0=r.k:=by
 have hk:=wc (od h).1
 simp only [c8,cP,List.cons_append,List.nil_append,List.getD_cons_zero]
 omega
theorem Mb {r:Rc} (h:bg r=true) (Q:List Int):BL (mW r++Q)=(r,(mW r).length,0):=by
 obtain ⟨h1,h2,h3⟩:=od h
 have hs:=Lu (c8 r)
 have hA:mW r++Q=c8 r++(cP (xH (c8 r)) 4++Q):=by rw [mW,List.append_assoc]
 have hll:=qo r
 have hlen:(mW r++Q).length=1+5 * (aH r.k).length+4+Q.length:=by rw [List.length_append,jb]; omega
 have d1:(mW r++Q).drop (1+5 * (aH r.k).length)=cP (xH (c8 r)) 4++Q:=by rw [hA]; exact List.drop_left' hll
 have d2:(mW r++Q).take (1+5 * (aH r.k).length)=c8 r:=by rw [hA]; exact List.take_left' hll
 have d3:(mW r++Q).getD 0 0=r.k:=by rw [hA]; exact O1 h _
 have d4:xj (mW r++Q) (aH r.k).length=ba r:=by rw [hA]; exact Jp h _
 have d5:iY ((cP (xH (c8 r)) 4++Q).take 4)=xH (c8 r):=Fg hs.1 (by omega) rfl
 unfold BL
 rw [d3,if_neg h1,if_neg (by omega),d1,d2,d5,if_neg (by simp),d4,if_pos h2,zX,h3,jb]
 congr 2
 omega
def yQ (l:List Rc):List Int:=l.flatMap mW
theorem nK (l:List Rc) (r:Rc):yQ (r :: l)=mW r++yQ l:=by simp [yQ]
theorem Gq {s:ByteArray} {a:Int} (h:(bX s a).2.2≠0):∀ f,cE s f a=([],a)
 | 0=>rfl
 | f+1=>by rw [cE,if_pos h]
theorem Cu (s:ByteArray) (Q:List Int):∀ (l:List Rc) (f:Nat) (A:List Int),(∀ q∈l,bg q=true)→l.length≤f→sb s=A++(yQ l++Q)→
  cE s f (A.length:Int)=(l++(cE s (f-l.length) ((A++yQ l).length:Int)).1,(cE s (f-l.length) ((A++yQ l).length:Int)).2)
 | [],f,A,_,_,_=>by simp [yQ]
 | r :: l,f+1,A,hv,hf,hs=>by
  have hr:=hv r (by simp)
  have hal:=jb r
  have hsz:A.length<s.size:=by
   rw [←bQ,hs,nK]; simp only [List.length_append]; omega
  have hd:(sb s).drop A.length=mW r++(yQ l++Q):=by rw [hs,List.drop_left' rfl,nK,List.append_assoc]
  have hD:=J4 s A.length hsz
  rw [hd,Mb hr] at hD
  simp only [if_true] at hD
  have hs2:sb s=(A++mW r)++(yQ l++Q):=by rw [hs,nK]; simp
  have ih:=Cu s Q l f (A++mW r) (fun q hq=>hv q (by simp [hq])) (by simpa using hf) hs2
  rw [cE,if_neg (by rw [hD]; simp),hD]
  simp only
  rw [show ((A.length+(mW r).length:Nat):Int)=((A++mW r).length:Nat) by rw [List.length_append],ih]
  rw [show f+1-(r :: l).length=f-l.length by simp,show A++mW r++yQ l=A++yQ (r :: l) by rw [nK]; simp]
  rfl
theorem OZ (l:List Rc):l.length≤(yQ l).length:=by
 induction l with
 | nil=>simp
 | cons r l ih=>rw [nK,List.length_append,jb,List.length_cons]; omega
theorem H3 {s:ByteArray} {Q:List Int} {l:List Rc} (hv:∀ q∈l,bg q=true) (hs:sb s=yQ l++Q) :
  cr s=(l++(cE s (s.size-l.length) ((yQ l).length:Int)).1,(cE s (s.size-l.length) ((yQ l).length:Int)).2):=by
 have h1:=OZ l
 have h2:(sb s).length=s.size:=bQ s
 rw [hs,List.length_append] at h2
 exact Cu s Q l s.size [] hv (by omega) (by simpa using hs)
theorem Jk {s:ByteArray} {Q:List Int} {l:List Rc} (hv:∀ q∈l,bg q=true) (hs:sb s=yQ l++Q) (hQ:Q=[]∨(BL Q).2.2≠0):cr s=(l,((yQ l).length:Int)):=by
 have h2:(sb s).length=s.size:=bQ s
 have hd:(bX s ((yQ l).length:Nat)).2.2≠0:=by
  rcases hQ with rfl | hQ
  ·rw [hs,List.append_nil] at h2
   rw [bX,if_neg (by omega),if_pos (by rw [h2])]; simp
  ·by_cases e:Q=[]
   ·subst e
    rw [hs,List.append_nil] at h2
    rw [bX,if_neg (by omega),if_pos (by rw [h2])]; simp
   ·have hQl:0<Q.length:=List.length_pos_iff.2 e
    rw [hs,List.length_append] at h2
    rw [J4 s (yQ l).length (by omega),hs,List.drop_left' rfl]
    exact hQ
 rw [H3 hv hs,Gq hd,List.append_nil]
theorem Ir {b:Int} (h:7≤b) (Q:List Int):(BL (b :: Q)).2.2≠0:=by
 have:aH b=[]:=by
  rcases kU b with e | ⟨h1,e⟩ | ⟨h1,e⟩ | ⟨h1,e⟩ | ⟨h1,e⟩ | ⟨h1,e⟩
  ·exact e
  all_goals omega
 unfold BL
 simp only [List.getD_cons_zero]
 rw [if_pos this]
 simp
def Mv (l:List Rc):ByteArray:=l.foldl (fun s r=>s++(lq r).1) ⟨#[]⟩
theorem P1 (l:List Rc) (r:Rc):Mv (l++[r])=Mv l++(lq r).1:=by simp [Mv,List.foldl_append]
theorem Il (r:Rc):(lq r).1.size≤35:=by
 unfold lq
 split
 ·exact CM r
 ·exact Nat.zero_le _
theorem IN (l:List Rc) (s:ByteArray):(l.foldl (fun s r=>s++(lq r).1) s).size≤s.size+35 * l.length:=by
 induction l generalizing s with
 | nil=>simp
 | cons r l ih=>
  have h1:=ih (s++(lq r).1)
  have h2:=Il r
  rw [ByteArray.size_append] at h1
  simp only [List.foldl_cons,List.length_cons]
  omega
theorem IM (l:List Rc):(Mv l).size≤35 * l.length:=by
 have:=IN l ⟨#[]⟩
 have e:(⟨#[]⟩:ByteArray).size=0:=rfl
 rw [e] at this
 simpa [Mv] using this
theorem Lw (l:List Rc) (hv:∀ q∈l,bg q=true) (s:ByteArray):sb (l.foldl (fun s r=>s++(lq r).1) s)=sb s++yQ l:=by
 induction l generalizing s with
 | nil=>simp [yQ]
 | cons r l ih=>
  simp only [List.foldl_cons]
  rw [ih (fun q hq=>hv q (by simp [hq])),qQ,lq,if_pos (hv r (by simp)),C9,nK,List.append_assoc]
theorem Th {l:List Rc} (hv:∀ q∈l,bg q=true):sb (Mv l)=yQ l:=by
 have:=Lw l hv ⟨#[]⟩
 simpa [Mv,sb] using this
theorem Hc (q p:Rc):fI 0 (dc q) (fJ .nil p)=dc q:=rfl
theorem Tl (q:Rc):AV.agg ((dc q).cells.take 21)=dc q:=rfl
theorem Tm (q:Rc):AV.agg (((dc q).cells.drop 0).take 21)=dc q:=rfl
theorem Je (q:Rc):(dc q).flat=true:=rfl
theorem Db (q:Rc):(dc q).cells.length=21:=rfl
theorem Dc (q:Rc):(dc q).cells.take 21=(dc q).cells:=rfl
theorem Dd (q:Rc):AV.agg (dc q).cells=dc q:=rfl
theorem Hd (q:Rc):(dc q).cells.all AV.one=true:=rfl
theorem EY:AV.agg [AV.int IntKind.i64 0,AV.int IntKind.i64 0,AV.int IntKind.i64 0,AV.int IntKind.i64 0,AV.int IntKind.i64 0,AV.int IntKind.i64 0,AV.int IntKind.i64 0,AV.int IntKind.i64 0,AV.int IntKind.i64 0,AV.int IntKind.i64 0,AV.int IntKind.i64 0,AV.int IntKind.i64 0,AV.nil,AV.bool false,AV.int IntKind.i64 0,AV.int IntKind.i64 0,AV.int IntKind.i64 0,AV.int IntKind.i64 0,AV.int IntKind.i64 0,AV.int IntKind.i64 0,AV.int IntKind.i64 0]=fJ .nil (ib 0):=rfl
end Go.Proofs.Try
