/- OWN WORK, put together by tools/asm.py, seat.py, mini.py. -/
import Derived.Test.YtcpckngdfjmbgaaGreatBaseM
import Derived.IntWalk
namespace Go.Ab
section
variable {P : Program} {H : ew} {e : Nat → AV} {σ : St} {C : AV → St → Prop} {k : (Nat → AV) → St → Prop} {Q : iM}
@[go_sem] theorem Uj (s:Nat):AX.ev e (.t s)=e s:=(rfl)
@[go_sem] theorem Uk (v:AV):AX.ev e (.c v)=v:=(rfl)
@[go_sem] theorem OY:pU e []=[]:=(rfl)
@[go_sem] theorem Nh (x:AX) (l:List AX):pU e (x :: l)=x.ev e :: pU e l:=(rfl)
@[go_sem] theorem Nk:C4 e none=none:=(rfl)
@[go_sem] theorem Nj (x:AX):C4 e (some x)=some (x.ev e):=(rfl)
@[go_sem] theorem OZ:JT e []=[]:=(rfl)
@[go_sem] theorem Ni (a b:Nat) (x:AX) (l:List (Nat × Nat × AX)):JT e ((a,b,x) :: l)=(a,b,x.ev e) :: JT e l:=(rfl)
@[go_sem] theorem Tb {α:Type} (f:Nat→α) (i j:Nat) (x:α):aZ f i x j=if j=i then x else f j:=(rfl)
def lF:Nat→AV:=fun _=>.bC
@[go_sem] theorem PY:lq []=lF:=by funext j; simp [lq,lF]
@[go_sem] theorem PX (a:AV):lq [a]=aZ lF 0 a:=by funext j; match j with | 0=>rfl | j+1=>simp [lq,lF,aZ]
@[go_sem] theorem PW (a b:AV):lq [a,b]=aZ (aZ lF 1 b) 0 a:=by funext j; match j with | 0=>rfl | 1=>rfl | j+2=>simp [lq,lF,aZ]
@[go_sem] theorem PV (a b c:AV):lq [a,b,c]=aZ (aZ (aZ lF 2 c) 1 b) 0 a:=by funext j; match j with | 0=>rfl | 1=>rfl | 2=>rfl | j+3=>simp [lq,lF,aZ]
@[go_sem] theorem PU (a b c d:AV):lq [a,b,c,d]=aZ (aZ (aZ (aZ lF 3 d) 2 c) 1 b) 0 a:=by funext j; match j with | 0=>rfl | 1=>rfl | 2=>rfl | 3=>rfl | j+4=>simp [lq,lF,aZ]
@[go_sem] theorem PT (a b c d f:AV):lq [a,b,c,d,f]=aZ (aZ (aZ (aZ (aZ lF 4 f) 3 d) 2 c) 1 b) 0 a:=by funext j; match j with | 0=>rfl | 1=>rfl | 2=>rfl | 3=>rfl | 4=>rfl | j+5=>simp [lq,lF,aZ]
@[go_sem] theorem PS (a b c d f g:AV):lq [a,b,c,d,f,g]=aZ (aZ (aZ (aZ (aZ (aZ lF 5 g) 4 f) 3 d) 2 c) 1 b) 0 a:=by funext j; match j with | 0=>rfl | 1=>rfl | 2=>rfl | 3=>rfl | 4=>rfl | 5=>rfl | j+6=>simp [lq,lF,aZ]
@[go_sem] theorem RY (d:Nat) (v:AV):bK e (some d) v=aZ e d v:=(rfl)
@[go_sem] theorem LG (v:AV):bK e none v=e:=(rfl)
@[go_sem] theorem Sa (d:Option Nat) (v:AV):Gb k e d v σ=k (bK e d v) σ:=(rfl)
@[go_sem] theorem MF:runs H [] k e σ=k e σ:=(rfl)
@[go_sem] theorem LF (d:Option Nat) (op:aO) (af:List Nat) (r:List aR):runs H (⟨d,op,none,af⟩ :: r) k e σ=ak H op e σ (Gb (runs H r k) e d):=(rfl)
@[go_sem] theorem J2 (d:Option Nat) (op:aO) (af:List Nat) (r:List aR) (s:Nat) (w:Bool) :
  runs H (⟨d,op,some (s,w),af⟩ :: r) k e σ=sD s w (Ga H op d (runs H r k)) (sP d (runs H r k)) (e s) e σ:=rfl
@[go_sem] theorem PI (op:aO) (d:Option Nat):Ga H op d k e σ=ak H op e σ (Gb k e d):=(rfl)
@[go_sem] theorem PH (d:Option Nat):sP d k e σ=k (bK e d (.tuple [])) σ:=(rfl)
section
variable (s : Nat) (A B : (Nat → AV) → St → Prop)
@[go_sem] theorem R6 (w:Bool):sD s w A B (.tuple []) e σ=B e σ:=by simp [sD]
@[go_sem] theorem Ro:sD s true A B (.bool true) e σ=A e σ:=by simp [sD]
@[go_sem] theorem Rs:sD s false A B (.bool false) e σ=A e σ:=by simp [sD]
@[go_sem] theorem Rq:sD s true A B (.bool false) e σ=B e σ:=by simp [sD]
@[go_sem] theorem Rr:sD s false A B (.bool true) e σ=B e σ:=by simp [sD]
theorem En {s:Nat} {b w:Bool} {A B:(Nat→AV)→St→Prop} (h:e s=.bool b) (hA:b=w→A (aZ e s (.bool w)) σ) (hB:b=(!w)→B (aZ e s (.bool !w)) σ):sD s w A B (.bool b) e σ:=by
 have key:∀ {c:Bool},b=c→aZ e s (.bool c)=e:=fun {c} hc=>by
  funext j
  by_cases hj:j=s
  ·subst hj; rw [au,h,hc]
  ·rw [aa _ _ _ _ hj]
 exact ⟨fun hb=>by have:=hA hb; rwa [key hb] at this,fun hb=>by have:=hB hb; rwa [key hb] at this⟩
end
theorem K9 {s:Nat} {b:Bool} {A B:(Nat→AV)→St→Prop} (h:e s=.bool b) (hA:b=true→A (aZ e s (.bool true)) σ) (hB:b=false→B (aZ e s (.bool false)) σ):sD s true A B (.bool b) e σ:=En h hA hB
theorem QJ {s:Nat} {b:Bool} {A B:(Nat→AV)→St→Prop} (h:e s=.bool b) (hB:b=true→B (aZ e s (.bool true)) σ) (hA:b=false→A (aZ e s (.bool false)) σ):sD s false A B (.bool b) e σ:=En h hA hB
theorem bE {s:Nat} {p:Prop} [Decidable p] {A B:(Nat→AV)→St→Prop} (h:e s=.bool (decide p)) (hA:p→A (aZ e s (.bool true)) σ) (hB:¬p→B (aZ e s (.bool false)) σ):sD s true A B (.bool (decide p)) e σ:=
 K9 h (fun h=>hA (of_decide_eq_true h)) (fun h=>hB (of_decide_eq_false h))
theorem bF {s:Nat} {p:Prop} [Decidable p] {A B:(Nat→AV)→St→Prop} (h:e s=.bool (decide p)) (hB:p→B (aZ e s (.bool true)) σ) (hA:¬p→A (aZ e s (.bool false)) σ):sD s false A B (.bool (decide p)) e σ:=
 QJ h (fun h=>hB (of_decide_eq_true h)) (fun h=>hA (of_decide_eq_false h))
theorem tY {s:Nat} {p:Prop} [Decidable p] {A B:(Nat→AV)→St→Prop} (h:e s=.bool (!decide p)) (hB:¬p→B (aZ e s (.bool true)) σ) (hA:p→A (aZ e s (.bool false)) σ):sD s false A B (.bool (!decide p)) e σ:=
 QJ h (fun h=>hB (by simpa using h)) (fun h=>hA (by simpa using h))
@[go_sem] theorem Te (a b:ay):jc H (.seq a b) Q e σ=jc H a (Bo (jc H b Q) Q) e σ:=(rfl)
@[go_sem] theorem ME:Bo k Q .iF e σ=k e σ:=(rfl)
@[go_sem] theorem MD:Bo k Q .ret e σ=Q .ret e σ:=(rfl)
@[go_sem] theorem LD (i:Nat):Bo k Q (.exit i) e σ=Q (.exit i) e σ:=(rfl)
@[go_sem] theorem LC:Bo k Q .iF=k:=(rfl)
@[go_sem] theorem Kq (id:Nat):je id Q .iF e σ=Q .iF e σ:=(rfl)
@[go_sem] theorem Ko (id:Nat):je id Q .ret e σ=Q .ret e σ:=(rfl)
@[go_sem] theorem JP (id i:Nat):je id Q (.exit i) e σ=if i=id then Q .iF e σ else Q (.exit i) e σ:=(rfl)
@[go_sem] theorem LM (n r:Nat) (I:Nat→(Nat→AV)→St→Prop):rZ n r I Q .iF e σ=∃ k',k' < r∧∃ nt,n≤nt∧I k' e (σ.aD nt):=(rfl)
@[go_sem] theorem J5 (n r i:Nat) (I:Nat→(Nat→AV)→St→Prop):rZ n r I Q (.exit i) e σ=Q (.exit i) e σ:=(rfl)
def TM (nn n:Nat) (J:Nat→(Nat→AV)→St→Prop) (i:Nat) (e:Nat→AV) (σ:St):Prop:=σ.n=nn∧∃ r,r≤n∧i=n-r∧J r e σ
def RO (nn n r:Nat) (J:Nat→(Nat→AV)→St→Prop) (Q:iM):iM:=rZ nn (n-r) (TM nn n J) Q
theorem bn {nn n r:Nat} {J:Nat→(Nat→AV)→St→Prop} (h:r<n) (hJ:J (r+1) e (σ.aD nn)):RO nn n r J Q .iF e σ:=⟨n-(r+1),by omega,nn,Nat.le_refl _,rfl,r+1,h,rfl,hJ⟩
@[go_sem] theorem OB (nn n r:Nat) (J:Nat→(Nat→AV)→St→Prop):RO nn n r J Q .ret e σ=Q .ret e σ:=(rfl)
@[go_sem] theorem Mx (nn n r i:Nat) (J:Nat→(Nat→AV)→St→Prop):RO nn n r J Q (.exit i) e σ=Q (.exit i) e σ:=(rfl)
@[go_sem] theorem Pv (ops:List aR):jc H (.region ops none) Q e σ=runs H ops (Q .iF) e σ:=by simp [jc,NP]
@[go_sem] theorem OF (ops:List aR) (k:Nat):jc H (.region ops (some k)) Q e σ=fV H σ.n σ.c k ops 0 (Q .iF) [] [] e σ:=by simp [jc,NP]
section
variable {n0 c0 k0 p n c : Nat} {R V : List (Nat × Nat)} {af : List Nat} {kk : List (Nat × Nat) → List (Nat × Nat) → AV → St → Prop} {kd : List (Nat × Nat) → List (Nat × Nat) → (Nat → AV) → St → Prop} {ob : Nat → Option aS}
@[go_sem] theorem LZ:fV H n0 c0 k0 [] p k R V e σ=k e ⟨σ.ob,n0+k0,c0+k0⟩:=(rfl)
@[go_sem] theorem Kf (d:Option Nat) (op:aO) (r:List aR):fV H n0 c0 k0 (⟨d,op,none,af⟩ :: r) p k R V e σ=sR H op af R V p (n0+p) (c0+p) (Ce (fV H n0 c0 k0 r (p+1) k) e d) e σ.ob:=(rfl)
@[go_sem] theorem JO (d:Option Nat) (op:aO) (r:List aR) (s:Nat) (w:Bool) :
  fV H n0 c0 k0 (⟨d,op,some (s,w),af⟩ :: r) p k R V e σ=sD s w (DH H op d af R V p (n0+p) (c0+p) (fV H n0 c0 k0 r (p+1) k)) (sP d (fV H n0 c0 k0 r (p+1) k R V)) (e s) e σ:=rfl
@[go_sem] theorem O6 (op:aO) (d:Option Nat):DH H op d af R V p n c kd e σ=sR H op af R V p n c (Ce kd e d) e σ.ob:=(rfl)
@[go_sem] theorem Rw (d:Option Nat) (v:AV):Ce kd e d R V v σ=kd R V (bK e d v) σ:=(rfl)
@[go_sem] theorem OD:tag p []=[]:=(rfl)
@[go_sem] theorem Mz (i:Nat) (l:List Nat):tag p (i :: l)=(p,i) :: tag p l:=(rfl)
@[go_sem] theorem J4 (l:List Nat):bz af [] l=True:=by simp [bz]
@[go_sem] theorem JH (V:List (Nat × Nat)):bz af V []=True:=by simp [bz]
@[go_sem] theorem JI (q i j:Nat) (l:List Nat):bz af ((q,i) :: V) (j :: l)=((q∈af∨i∉j :: l)∧bz af V (j :: l)):=by
 unfold bz
 rw [List.forall_mem_cons,eq_iff_iff]
 refine and_congr (or_congr (by simp) ?_) Iff.rfl
 constructor
 ·intro h hm; exact h i hm rfl
 ·intro h k hk he; exact h (by have he:i=k:=he; rw [he]; exact hk)
@[go_sem] theorem PZ (x:AX):sR H (.mv x) af R V p n c kk e ob=ak H (.mv x) e ⟨ob,n,c⟩ (kk R V):=by simp [sR,aO.bX,aO.oR,pW,aO.nd,aO.dJ,aO.lu,bz,tag]
@[go_sem] theorem Nl (x a b:AX):sR H (.pick x a b) af R V p n c kk e ob=ak H (.pick x a b) e ⟨ob,n,c⟩ (kk R V):=by simp [sR,aO.bX,aO.oR,pW,aO.nd,aO.dJ,aO.lu,bz,tag]
@[go_sem] theorem Kg (x:AX):sR H (.aY x) af R V p n c kk e ob=ak H (.aY x) e ⟨ob,n,c⟩ (kk R V):=by simp [sR,aO.bX,aO.oR,pW,aO.nd,aO.dJ,aO.lu,bz,tag]
@[go_sem] theorem O5 (o:BinOp) (x y:AX):sR H (.bin o x y) af R V p n c kk e ob=ak H (.bin o x y) e ⟨ob,n,c⟩ (kk R V):=by simp [sR,aO.bX,aO.oR,pW,aO.nd,aO.dJ,aO.lu,bz,tag]
@[go_sem] theorem P0 (o:Nat) (x:AX):sR H (.fa o x) af R V p n c kk e ob=ak H (.fa o x) e ⟨ob,n,c⟩ (kk R V):=by simp [sR,aO.bX,aO.oR,pW,aO.nd,aO.dJ,aO.lu,bz,tag]
@[go_sem] theorem O3 (x:AX):sR H (.len x) af R V p n c kk e ob=ak H (.len x) e ⟨ob,n,c⟩ (kk R V):=by simp [sR,aO.bX,aO.oR,pW,aO.nd,aO.dJ,aO.lu,bz,tag]
@[go_sem] theorem Nm (ag:Bool) (sz:Nat) (x:AX):sR H (.load ag sz x) af R V p n c kk e ob=(bz af V (x.ev e).kh∧ak H (.load ag sz x) e ⟨ob,n,c⟩ (kk (R++tag p (x.ev e).kh) V)):=by simp [sR,aO.bX,aO.oR,pW,aO.nd,aO.dJ,aO.lu,bz,tag]
@[go_sem] theorem O4 (es:Nat) (x i:AX):sR H (.bM es x i) af R V p n c kk e ob=(bz af V (x.ev e).kh∧ak H (.bM es x i) e ⟨ob,n,c⟩ (kk (R++tag p (x.ev e).kh) V)):=by simp [sR,aO.bX,aO.oR,pW,aO.nd,aO.dJ,aO.lu,bz,tag]
@[go_sem] theorem O2 (mu:Bool) (es:Nat) (ty:TypeId) (l:List AX):sR H (.lit mu es ty l) af R V p n c kk e ob=(bz af V [n]∧bz af R [n]∧ak H (.lit mu es ty l) e ⟨ob,n,c⟩ (kk R (V++[(p,n)]))):=by simp [sR,aO.bX,aO.oR,pW,aO.nd,aO.dJ,aO.lu,tag]
@[go_sem] theorem Px (id g es o m:Nat):AV.kh (.sl id g es o m)=[id]:=(rfl)
@[go_sem] theorem OM (id g es o m:Nat):AV.kh (.ptr id g es o m)=[id]:=(rfl)
@[go_sem] theorem MR (es o m:Nat) (l:List AV):AV.kh (.eD es l o m)=[]:=(rfl)
@[go_sem] theorem MS (es:Nat) (l:List AV):AV.kh (.list es l)=[]:=(rfl)
@[go_sem] theorem L0:sR H .mL af R V p n c kk e ob=(bz af V [n]∧bz af R [n]∧ak H .mL e ⟨ob,n,c⟩ (kk R (V++[(p,n)]))):=by simp [sR,aO.bX,aO.oR,pW,aO.nd,aO.dJ,aO.lu,tag]
@[go_sem] theorem Kh (x k v:AX):sR H (.cZ x k v) af R V p n c kk e ob=dmap (x.ev e) (k.ev e) (v.ev e) af R V p n c kk ob:=(rfl)
@[go_sem] theorem R8 (id g:Nat) (kq:IntKind) (q:Int) (v:AV):dmap (.iW id g) (.int kq q) v af R V p n c kk ob=(v.one=true∧cn af V id∧cn af R id∧∃ o,ob id=some o∧o.g=g∧o.ro=false∧cL kq o.l=true∧mc q o.l=none∧
   kk R (V++[(xu+p,id)]) .bC ⟨aZ ob id (some { o with l:=dZ kq q v o.l }),n,c⟩):=(rfl)
@[go_sem] theorem JJ (id:Nat):cn af [] id=True:=by simp [cn]
@[go_sem] theorem HK (q i id:Nat):cn af ((q,i) :: V) id=((q∈af∨i≠id∨xu≤q)∧cn af V id):=by simp [cn]
end
section
variable {p : Nat} {d : Option Nat} {af : List Nat} {R : List (Nat × Nat)} {kk : List (Nat × Nat) → (Nat → AV) → St → Prop} {ob ob' : Nat → Option aS} {v : AV} {τ : St} {L : List HS}
@[go_sem] theorem MA:cE p []=[]:=(rfl)
@[go_sem] theorem LB (i:Nat) (l:List Nat):cE p (i :: l)=(p,i) :: cE p l:=(rfl)
@[go_sem] theorem LU:dP af [] ob ob'=True:=by simp [dP]
@[go_sem] theorem Ke (q i:Nat):dP af ((q,i) :: R) ob ob'=((q∈af∨ob' i=ob i)∧dP af R ob ob'):=by simp [dP]
@[go_sem] theorem Kd:dP af R ob ob=True:=by simp [dP]
@[go_sem] theorem Tw:Bs kk R e d σ v τ=kk R (bK e d v) σ:=(rfl)
@[go_sem] theorem Tx:JD kk af R e d ob v τ=(dP af R ob τ.ob∧kk R (bK e d v) τ):=(rfl)
@[go_sem] theorem Rm (op:aO):JB H p op d af kk R e σ=bp H p op d af kk R e σ:=(rfl)
@[go_sem] theorem Rn:JC d kk R e σ=kk R (bK e d (.tuple [])) σ:=(rfl)
@[go_sem] theorem LN:dG H [] k R e σ=k e σ:=(rfl)
@[go_sem] theorem J7 (op:aO):dG H (⟨p,⟨d,op,none,af⟩⟩ :: L) k R e σ=bp H p op d af (dG H L k) R e σ:=(rfl)
@[go_sem] theorem JL (op:aO) (s:Nat) (w:Bool):dG H (⟨p,⟨d,op,some (s,w),af⟩⟩ :: L) k R e σ=sD s w (JB H p op d af (dG H L k) R) (JC d (dG H L k) R) (e s) e σ:=(rfl)
@[go_sem] theorem OS:jc H (.aC L) Q e σ=dG H L (Q .iF) [] e σ:=(rfl)
@[go_sem] theorem OV (x:AX):bp H p (.mv x) d af kk R e σ=ak H (.mv x) e σ (Bs kk R e d σ):=by simp [bp,aO.lt,aO.new,aO.nd,aO.dJ,cE]
@[go_sem] theorem LP (x a b:AX):bp H p (.pick x a b) d af kk R e σ=ak H (.pick x a b) e σ (Bs kk R e d σ):=by simp [bp,aO.lt,aO.new,aO.nd,aO.dJ,cE]
@[go_sem] theorem Kb (zs:List AV) (ps:List (Nat × Nat × AX)):bp H p (.build zs ps) d af kk R e σ=ak H (.build zs ps) e σ (Bs kk R e d σ):=by simp [bp,aO.lt,aO.new,aO.nd,aO.dJ,cE]
@[go_sem] theorem JM (x:AX):bp H p (.aY x) d af kk R e σ=ak H (.aY x) e σ (Bs kk R e d σ):=by simp [bp,aO.lt,aO.new,aO.nd,aO.dJ,cE]
@[go_sem] theorem M9 (o:BinOp) (x y:AX):bp H p (.bin o x y) d af kk R e σ=ak H (.bin o x y) e σ (Bs kk R e d σ):=by simp [bp,aO.lt,aO.new,aO.nd,aO.dJ,cE]
@[go_sem] theorem M7 (g:Bool) (ks:List Nat) (x y:AX):bp H p (.eqs g ks x y) d af kk R e σ=ak H (.eqs g ks x y) e σ (Bs kk R e d σ):=by simp [bp,aO.lt,aO.new,aO.nd,aO.dJ,cE]
@[go_sem] theorem OT (u:UnOp) (x:AX):bp H p (.un u x) d af kk R e σ=ak H (.un u x) e σ (Bs kk R e d σ):=by simp [bp,aO.lt,aO.new,aO.nd,aO.dJ,cE]
@[go_sem] theorem M3 (f:Nat) (l:List AX):bp H p (.Hd f l) d af kk R e σ=ak H (.Hd f l) e σ (Bs kk R e d σ):=by simp [bp,aO.lt,aO.new,aO.nd,aO.dJ,cE]
@[go_sem] theorem OW (o:Nat) (x:AX):bp H p (.fa o x) d af kk R e σ=ak H (.fa o x) e σ (Bs kk R e d σ):=by simp [bp,aO.lt,aO.new,aO.nd,aO.dJ,cE]
@[go_sem] theorem M6 (x:AX) (i:Nat):bp H p (.ext x i) d af kk R e σ=ak H (.ext x i) e σ (Bs kk R e d σ):=by simp [bp,aO.lt,aO.new,aO.nd,aO.dJ,cE]
@[go_sem] theorem M4 (x:AX):bp H p (.len x) d af kk R e σ=ak H (.len x) e σ (Bs kk R e d σ):=by simp [bp,aO.lt,aO.new,aO.nd,aO.dJ,cE]
@[go_sem] theorem LR (x:AX):bp H p (.lens x) d af kk R e σ=ak H (.lens x) e σ (Bs kk R e d σ):=by simp [bp,aO.lt,aO.new,aO.nd,aO.dJ,cE]
@[go_sem] theorem M1 (g:Bool) (x:AX) (l:List AX):bp H p (.Eg g x l) d af kk R e σ=ak H (.Eg g x l) e σ (Bs kk R e d σ):=by simp [bp,aO.lt,aO.new,aO.nd,aO.dJ,cE]
@[go_sem] theorem LO (x:AX) (lo hi:Option AX):bp H p (.uS x lo hi) d af kk R e σ=ak H (.uS x lo hi) e σ (Bs kk R e d σ):=by simp [bp,aO.lt,aO.new,aO.nd,aO.dJ,cE]
@[go_sem] theorem OU (q:JA) (l:List AX):bp H p (.pu q l) d af kk R e σ=ak H (.pu q l) e σ (Bs kk R e d σ):=by simp [bp,aO.lt,aO.new,aO.nd,aO.dJ,cE]
@[go_sem] theorem LQ (ag:Bool) (sz:Nat) (x:AX):bp H p (.load ag sz x) d af kk R e σ=ak H (.load ag sz x) e σ (Bs kk (R++cE p (x.ev e).kh) e d σ):=by simp [bp,aO.lt,aO.new,aO.nd,aO.dJ,cE]
@[go_sem] theorem M5 (es:Nat) (x i:AX):bp H p (.bM es x i) d af kk R e σ=ak H (.bM es x i) e σ (Bs kk (R++cE p (x.ev e).kh) e d σ):=by simp [bp,aO.lt,aO.new,aO.nd,aO.dJ,cE]
@[go_sem] theorem M0 (es:Nat) (x:AX) (lo hi:Option AX):bp H p (.qH es x lo hi) d af kk R e σ=ak H (.qH es x lo hi) e σ (Bs kk (R++cE p (x.ev e).kh) e d σ):=by simp [bp,aO.lt,aO.new,aO.nd,aO.dJ,cE]
@[go_sem] theorem J8 (sz:Nat) (x v:AX):bp H p (.store sz x v) d af kk R e σ=ak H (.store sz x v) e σ (JD kk af R e d σ.ob):=by simp [bp,aO.lt]
@[go_sem] theorem Kc (es:Nat) (ty:TypeId) (z:AV):bp H p (.alloc es ty z) d af kk R e σ=ak H (.alloc es ty z) e σ (JD kk af R e d σ.ob):=by simp [bp,aO.lt,aO.new,aO.nd]
@[go_sem] theorem J9 (es:Nat) (ty:TypeId) (l:List AX):bp H p (.lit true es ty l) d af kk R e σ=ak H (.lit true es ty l) e σ (JD kk af R e d σ.ob):=by simp [bp,aO.lt,aO.new]
@[go_sem] theorem Ka (es:Nat) (ty:TypeId) (l:List AX):bp H p (.lit false es ty l) d af kk R e σ=ak H (.lit false es ty l) e σ (Bs kk R e d σ):=by simp [bp,aO.lt,aO.dJ,cE]
@[go_sem] theorem Na (es b:Nat) (ty:TypeId) (x y:AX):bp H p (.app es b ty x y) d af kk R e σ=ak H (.app es b ty x y) e σ (JD kk af R e d σ.ob):=by simp [bp,aO.lt,aO.new,aO.nd]
@[go_sem] theorem LS (f:Nat) (l:List AX):bp H p (.call f l) d af kk R e σ=ak H (.call f l) e σ (JD kk af R e d σ.ob):=by simp [bp,aO.lt]
@[go_sem] theorem M8 (es:Nat) (x y:AX):bp H p (.Fc es x y) d af kk R e σ=ak H (.Fc es x y) e σ (JD kk af R e d σ.ob):=by simp [bp,aO.lt,aO.new,aO.nd]
@[go_sem] theorem JN (ok:Bool) (z:AV) (x q:AX):bp H p (.eY ok z x q) d af kk R e σ=ak H (.eY ok z x q) e σ (JD kk af R e d σ.ob):=by simp [bp,aO.lt,aO.new,aO.nd]
end
@[go_sem] theorem Sb (c:AX) (a b:ay):jc H (.cond c a b) Q e σ=pX (c.ev e) (jc H a Q) (jc H b Q) e σ:=(rfl)
@[go_sem] theorem L4 (A B:(Nat→AV)→St→Prop):pX (.bool true) A B e σ=A e σ:=by simp [pX]
@[go_sem] theorem Ki (A B:(Nat→AV)→St→Prop):pX (.bool false) A B e σ=B e σ:=by simp [pX]
theorem FU {b:Bool} {A B:(Nat→AV)→St→Prop} (hA:b=true→A e σ) (hB:b=false→B e σ):pX (.bool b) A B e σ:=⟨hA,hB⟩
theorem ai {p:Prop} [Decidable p] {A B:(Nat→AV)→St→Prop} (hA:p→A e σ) (hB:¬p→B e σ):pX (.bool (decide p)) A B e σ:=⟨fun h=>hA (of_decide_eq_true h),fun h=>hB (of_decide_eq_false h)⟩
theorem bq {p:Prop} [Decidable p] {A B:(Nat→AV)→St→Prop} (hA:¬p→A e σ) (hB:p→B e σ):pX (.bool (!decide p)) A B e σ:=⟨fun h=>hA (by simpa using h),fun h=>hB (by simpa using h)⟩
@[go_sem] theorem RC (id:Nat) (a:ay):jc H (.block id a) Q e σ=jc H a (je id Q) e σ:=(rfl)
@[go_sem] theorem R7 (id:Nat):jc H (.exit id) Q e σ=Q (.exit id) e σ:=(rfl)
@[go_sem] theorem Tf:jc H .ret Q e σ=Q .ret e σ:=(rfl)
@[go_sem] theorem RW:jc H .skip Q e σ=Q .iF e σ:=(rfl)
@[go_sem] theorem MG (rs:List RS) (R:AV→St→Prop):Lz rs R .ret e σ=sf e σ rs (fun r=>R r σ):=(rfl)
@[go_sem] theorem Pt (s:Nat) (K:AV→Prop):uX e σ (.t s) K=K (e s):=(rfl)
@[go_sem] theorem Q6 (s:RS) (K:AV→Prop):sf e σ [s] K=uX e σ s K:=(rfl)
@[go_sem] theorem Q5 (s t:Nat) (K:AV→Prop):sf e σ [.t s,.t t] K=K (.tuple [e s,e t]):=(rfl)
@[go_sem] theorem Q4 (s t u:Nat) (K:AV→Prop):sf e σ [.t s,.t t,.t u] K=K (.tuple [e s,e t,e u]):=(rfl)
@[go_sem] theorem Q3 (s t u v:Nat) (K:AV→Prop):sf e σ [.t s,.t t,.t u,.t v] K=K (.tuple [e s,e t,e u,e v]):=(rfl)
def Mj (t:Nat) (e:Nat→AV) (K:AV→Prop) (a:AV):Prop:=K (.tuple [a,e t])
def Mi (t u:Nat) (e:Nat→AV) (K:AV→Prop) (a:AV):Prop:=K (.tuple [a,e t,e u])
@[go_sem] theorem Q9 (t:Nat) (K:AV→Prop) (a:AV):Mj t e K a=K (.tuple [a,e t]):=(rfl)
@[go_sem] theorem Q8 (t u:Nat) (K:AV→Prop) (a:AV):Mi t u e K a=K (.tuple [a,e t,e u]):=(rfl)
@[go_sem] theorem Pp (s:Nat) (ag:Bool) (sz t:Nat) (K:AV→Prop):sf e σ [.c s ag sz,.t t] K=uX e σ (.c s ag sz) (Mj t e K):=(rfl)
@[go_sem] theorem Po (s:Nat) (ag:Bool) (sz t u:Nat) (K:AV→Prop):sf e σ [.c s ag sz,.t t,.t u] K=uX e σ (.c s ag sz) (Mi t u e K):=(rfl)
def w3 (e:Nat→AV) (σ:St) (rs:List RS) (acc:List AV) (K:AV→Prop) (a:AV):Prop:=G5 e σ rs fun l=>K (BH (acc++a :: l))
@[go_sem] theorem Pm (s:Nat) (ag:Bool) (sz:Nat) (s':Nat) (ag':Bool) (sz':Nat) (r:List RS) (K:AV→Prop):sf e σ (.c s ag sz :: .c s' ag' sz' :: r) K=uX e σ (.c s ag sz) (w3 e σ (.c s' ag' sz' :: r) [] K):=(rfl)
@[go_sem] theorem Pk (s s':Nat) (ag':Bool) (sz':Nat) (r:List RS) (K:AV→Prop):sf e σ (.t s :: .c s' ag' sz' :: r) K=w3 e σ (.c s' ag' sz' :: r) [] K (e s):=(rfl)
@[go_sem] theorem Pl (s:Nat) (ag:Bool) (sz:Nat) (t u v:Nat) (r:List RS) (K:AV→Prop):sf e σ (.c s ag sz :: .t t :: .t u :: .t v :: r) K=uX e σ (.c s ag sz) (w3 e σ (.t t :: .t u :: .t v :: r) [] K):=(rfl)
@[go_sem] theorem Ps (acc:List AV) (K:AV→Prop) (a:AV):w3 e σ [] acc K a=K (BH (acc++[a])):=(rfl)
@[go_sem] theorem Pq (s:Nat) (r:List RS) (acc:List AV) (K:AV→Prop) (a:AV):w3 e σ (.t s :: r) acc K a=w3 e σ r (acc++[a]) K (e s):=by simp only [w3,G5,uX,List.append_assoc,List.cons_append,List.nil_append]
@[go_sem] theorem Pr (s:Nat) (ag:Bool) (sz:Nat) (r:List RS) (acc:List AV) (K:AV→Prop) (a:AV):w3 e σ (.c s ag sz :: r) acc K a=uX e σ (.c s ag sz) (w3 e σ r (acc++[a]) K):=by
 have:(fun b=>w3 e σ r (acc++[a]) K b)=fun b=>G5 e σ r fun l=>K (BH (acc++a :: b :: l)):=by funext b; simp only [w3,List.append_assoc,List.cons_append,List.nil_append]
 show _=uX e σ (.c s ag sz) (fun b=>w3 e σ r (acc++[a]) K b)
 rw [this]; rfl
@[go_sem] theorem Rf (a b:AV) (l:List AV):BH (a :: b :: l)=.tuple (a :: b :: l):=(rfl)
@[go_sem] theorem Pu (s:Nat) (ag:Bool) (sz:Nat) (K:AV→Prop):uX e σ (.c s ag sz) K=Gl ag sz σ K (e s):=(rfl)
@[go_sem] theorem Q7 (ag:Bool) (sz id g es i off:Nat) (K:AV→Prop):Gl ag sz σ K (.ptr id g es i off)=∃ o,σ.ob id=some o∧o.g=g∧o.es=es∧off+sz≤es∧∃ y,o.l[i]?=some y∧K (sub ag sz off y):=(rfl)
@[go_sem] theorem T4 (x:AX):ak H (.mv x) e σ C=C (x.ev e) σ:=(rfl)
@[go_sem] theorem R0 (c a b:AX):ak H (.pick c a b) e σ C=pn (c.ev e) (a.ev e) (b.ev e) σ C:=(rfl)
@[go_sem] theorem LJ (a b:AV):pn (.bool true) a b σ C=C a σ:=by simp [pn]
@[go_sem] theorem J3 (a b:AV):pn (.bool false) a b σ C=C b σ:=by simp [pn]
@[go_sem] theorem RF (es:Nat) (ty:TypeId) (z:AV):ak H (.alloc es ty z) e σ C=C (.ptr σ.n σ.c es 0 0) (σ.push es ty [z]):=(rfl)
@[go_sem] theorem TG (es:Nat) (ty:TypeId) (x:AX):ak H (.box es ty x) e σ C=Oj es ty (x.ev e) σ C:=(rfl)
@[go_sem] theorem Se (es:Nat) (ty:TypeId) (v:AV):Oj es ty v σ C=(v.flat=true∧v.cells.length=es∧C (.ptr σ.n σ.c es 0 0) (σ.push es ty [v])):=(rfl)
@[go_sem] theorem RB (zs:List AV) (ps:List (Nat × Nat × AX)):ak H (.build zs ps) e σ C=zT zs (JT e ps) σ C:=(rfl)
@[go_sem] theorem P5 (zs:List AV) (ps:List (Nat × Nat × AV)):zT zs ps σ C=((∀ p∈ps,p.2.2.flat=true∧p.2.2.cells.length=p.2.1∧p.1+p.2.1≤zs.length)∧C (.agg (zG zs (ps.map fun p=>(p.1,p.2.2)))) σ):=(rfl)
@[go_sem] theorem Ts (mu:Bool) (es:Nat) (ty:TypeId) (xs:List AX):ak H (.lit mu es ty xs) e σ C=FF mu es ty (pU e xs) σ C:=(rfl)
@[go_sem] theorem PD (es:Nat) (ty:TypeId) (vs:List AV):FF false es ty vs σ C=((∀ v∈vs,v.flat=true∧v.cells.length=es∧v.cA=true)∧C (.list es vs) σ):=by simp [FF]
@[go_sem] theorem PB (es:Nat) (ty:TypeId) (vs:List AV):FF true es ty vs σ C=((∀ v∈vs,v.flat=true∧v.cells.length=es)∧C (.sl σ.n σ.c es 0 vs.length) (σ.push es ty vs)):=by simp [FF]
@[go_sem] theorem R4 (ag:Bool) (sz:Nat) (x:AX):ak H (.load ag sz x) e σ C=tQ ag sz (x.ev e) σ C:=(rfl)
@[go_sem] theorem OQ (ag:Bool) (sz id g es i off:Nat):tQ ag sz (.ptr id g es i off) σ C=∃ o,σ.ob id=some o∧o.g=g∧o.es=es∧off+sz≤es∧∃ y,o.l[i]?=some y∧C (sub ag sz off y) σ:=(rfl)
@[go_sem] theorem OP (ag:Bool) (sz es i off:Nat) (l:List AV):tQ ag sz (.eD es l i off) σ C=(off+sz≤es∧∃ y,l[i]?=some y∧C (sub ag sz off y) σ):=(rfl)
@[go_sem] theorem Q0 (sz:Nat) (x v:AX):ak H (.store sz x v) e σ C=sd sz (x.ev e) (v.ev e) σ C:=(rfl)
@[go_sem] theorem Pb (sz id g es i off:Nat) (v:AV):sd sz (.ptr id g es i off) v σ C=∃ o,σ.ob id=some o∧o.g=g∧o.es=es∧o.ro=false∧v.flat=true∧v.cells.length=sz∧off+sz≤es∧
   ∃ y,o.l[i]?=some y∧C .bC (σ.put id o (o.l.set i (iB off v y))):=rfl
@[go_sem] theorem Py (x:AX):ak H (.aY x) e σ C=iu (x.ev e) σ C:=(rfl)
@[go_sem] theorem MT (id g es i off:Nat):iu (.ptr id g es i off) σ C=C (.ptr id g es i off) σ:=(rfl)
@[go_sem] theorem TI (op:BinOp) (x y:AX):ak H (.bin op x y) e σ C=jb op (x.ev e) (y.ev e) σ C:=(rfl)
section
variable (K : IntKind) (a b : Int)
@[go_sem] theorem TL:jb .add (.int K a) (.int K b) σ C=C (.int K (K.wrap (a+b))) σ:=by simp [jb,qn]
@[go_sem] theorem Tc:jb .sub (.int K a) (.int K b) σ C=C (.int K (K.wrap (a-b))) σ:=by simp [jb,qn]
@[go_sem] theorem Tk:jb .mul (.int K a) (.int K b) σ C=C (.int K (K.wrap (a * b))) σ:=by simp [jb,qn]
@[go_sem] theorem Tg:jb .rem (.int K a) (.int K b) σ C=(b≠0∧C (.int K (a.tmod b)) σ):=by simp [jb,qn]
@[go_sem] theorem TC:jb .eql (.int K a) (.int K b) σ C=C (.bool (decide (a=b))) σ:=by simp [jb,qn]
@[go_sem] theorem Tj:jb .neq (.int K a) (.int K b) σ C=C (.bool (!decide (a=b))) σ:=by simp [jb,qn]
@[go_sem] theorem Tq:jb .lss (.int K a) (.int K b) σ C=C (.bool (decide (a<b))) σ:=by simp [jb,qn]
@[go_sem] theorem Tt:jb .leq (.int K a) (.int K b) σ C=C (.bool (decide (a≤b))) σ:=by simp [jb,qn]
@[go_sem] theorem Ty:jb .gtr (.int K a) (.int K b) σ C=C (.bool (decide (b<a))) σ:=by simp [jb,qn]
@[go_sem] theorem Tz:jb .geq (.int K a) (.int K b) σ C=C (.bool (decide (b≤a))) σ:=by simp [jb,qn]
end
@[go_sem] theorem Si (a b:ByteArray):jb .add (.str a) (.str b) σ C=(a.size+b.size≤9223372036854775807∧C (.str (a++b)) σ):=by simp [jb,qn]
@[go_sem] theorem TD (neg:Bool) (x y:AX):ak H (.HG neg x y) e σ C=Ev neg (x.ev e) (y.ev e) σ C:=(rfl)
@[go_sem] theorem PR (a b:Bool):Ev false (.bool a) (.bool b) σ C=C (.bool (decide (a=b))) σ:=(rfl)
@[go_sem] theorem PQ (a b:Bool):Ev true (.bool a) (.bool b) σ C=C (.bool (!decide (a=b))) σ:=(rfl)
@[go_sem] theorem TB (g:Bool) (ks:List Nat) (x y:AX):ak H (.eqs g ks x y) e σ C=AT g ks (x.ev e) (y.ev e) σ C:=(rfl)
@[go_sem] theorem PO (ks:List Nat) (cs ds:List AV):AT false ks (.agg cs) (.agg ds) σ C=∃ b,x6 ks cs ds=some b∧C (.bool b) σ:=by simp [AT]
@[go_sem] theorem PN (ks:List Nat) (cs ds:List AV):AT true ks (.agg cs) (.agg ds) σ C=∃ b,x6 ks cs ds=some b∧C (.bool (!b)) σ:=by simp [AT]
@[go_sem] theorem O0:x6 [] [] []=some true:=(rfl)
@[go_sem] theorem O1 (ks:List Nat) (K:IntKind) (a b:Int) (r s:List AV):x6 (0 :: ks) (.int K a :: r) (.int K b :: s)=(x6 ks r s).map fun t=>decide (a=b)&&t:=by simp [x6]
@[go_sem] theorem T1 (op:UnOp) (x:AX):ak H (.un op x) e σ C=L9 op (x.ev e) σ C:=(rfl)
@[go_sem] theorem Ti (b:Bool):L9 .not (.bool b) σ C=C (.bool (!b)) σ:=(rfl)
@[go_sem] theorem R9 (K:IntKind) (x:AX):ak H (.conv K x) e σ C=zM K (x.ev e) σ C:=(rfl)
@[go_sem] theorem Ry (K K':IntKind) (n:Int):zM K (.int K' n) σ C=C (.int K (K.wrap n)) σ:=(rfl)
@[go_sem] theorem Tn (f:Nat) (l:List AX):ak H (.Hd f l) e σ C=C (.func f (pU e l)) σ:=(rfl)
@[go_sem] theorem Tm (f:Nat) (l:List AX):ak H (.K0 f l) e σ C=((∀ z∈pU e l,z.cA=true)∧C (.pL f (pU e l)) σ):=(rfl)
@[go_sem] theorem P3 (f:Nat) (fs args:List AV):mj H (.pL f fs) args σ C=H f (fs++args) σ C:=(rfl)
@[go_sem] theorem MI (f:Nat) (l:List AV):AV.cA (.pL f l)=true:=(rfl)
@[go_sem] theorem T7 (off:Nat) (x:AX):ak H (.fa off x) e σ C=Ld off (x.ev e) σ C:=(rfl)
@[go_sem] theorem Ru (off id g es i o:Nat):Ld off (.ptr id g es i o) σ C=C (.ptr id g es i (o+off)) σ:=(rfl)
@[go_sem] theorem Rt (off es i o:Nat) (l:List AV):Ld off (.eD es l i o) σ C=C (.eD es l i (o+off)) σ:=(rfl)
@[go_sem] theorem Tv (es:Nat) (x i:AX):ak H (.bM es x i) e σ C=vI es (x.ev e) (i.ev e) σ C:=(rfl)
@[go_sem] theorem PE (es id g off n:Nat) (K:IntKind) (ix:Int):vI es (.sl id g es off n) (.int K ix) σ C=((∃ o,σ.ob id=some o∧o.g=g)∧0≤ix∧ix<n∧C (.ptr id g es (off+ix.toNat) 0) σ):=by simp [vI]
@[go_sem] theorem PF (es:Nat) (l:List AV) (K:IntKind) (ix:Int):vI es (.list es l) (.int K ix) σ C=(0≤ix∧ix<l.length∧C (.eD es l ix.toNat 0) σ):=by simp [vI]
@[go_sem] theorem TA (x:AX) (i:Nat):ak H (.ext x i) e σ C=ub (x.ev e) i σ C:=(rfl)
@[go_sem] theorem PM (a:AV) (l:List AV):ub (.tuple (a :: l)) 0 σ C=C a σ:=by simp [ub]
@[go_sem] theorem PL (a b:AV) (l:List AV):ub (.tuple (a :: b :: l)) 1 σ C=C b σ:=by simp [ub]
@[go_sem] theorem PK (a b c:AV) (l:List AV):ub (.tuple (a :: b :: c :: l)) 2 σ C=C c σ:=by simp [ub]
@[go_sem] theorem PJ (a b c d:AV) (l:List AV):ub (.tuple (a :: b :: c :: d :: l)) 3 σ C=C d σ:=by simp [ub]
@[go_sem] theorem Tu (x:AX):ak H (.len x) e σ C=gW (x.ev e) σ C:=(rfl)
@[go_sem] theorem Ri:gW .nil σ C=C (.int .i64 0) σ:=(rfl)
@[go_sem] theorem Rj (es:Nat) (l:List AV):gW (.list es l) σ C=C (.int .i64 l.length) σ:=(rfl)
@[go_sem] theorem Rh (id g es off n:Nat):gW (.sl id g es off n) σ C=C (.int .i64 n) σ:=(rfl)
@[go_sem] theorem Rk (id g es off n c:Nat):gW (.fA id g es off n c) σ C=C (.int .i64 n) σ:=(rfl)
@[go_sem] theorem R5 (x:AX):ak H (.lens x) e σ C=ze (x.ev e) σ C:=(rfl)
@[go_sem] theorem Rg (s:ByteArray):ze (.str s) σ C=C (.int .i64 s.size) σ:=(rfl)
@[go_sem] theorem TK (es b:Nat) (ty:TypeId) (x y:AX):ak H (.app es b ty x y) e σ C=mn es b ty (x.ev e) (y.ev e) σ C:=(rfl)
@[go_sem] theorem DP (es b:Nat) (ty:TypeId) (id g n:Nat) (l:List AV):mn es b ty (.sl id g es 0 n) (.list es l) σ C=∃ o,σ.ob id=some o∧o.g=g∧o.es=es∧o.ty=ty∧o.ro=false∧o.ap=true∧o.l.length=n∧
     n+l.length≤maxLen∧(n+l.length) * b≤140737488355328∧C (.sl id σ.c es 0 (n+l.length)) (σ.renew id o (o.l++l)):=by simp [mn,bW]
theorem jZ (es b:Nat) (ty:TypeId) (l:List AV):mn es b ty .nil (.list es l) σ C=(l.length≤maxLen∧l.length * b≤140737488355328∧(l=[]→C .nil σ)∧(l≠[]→C (.sl σ.n σ.c es 0 l.length) (σ.push es ty l))):=by simp [mn,bW]
@[go_sem] theorem Tl (mx:Bool) (x:AX) (xs:List AX):ak H (.Eg mx x xs) e σ C=CT mx (x.ev e) (pU e xs) σ C:=(rfl)
@[go_sem] theorem Rd (mx:Bool) (a:AV):CT mx a [] σ C=C a σ:=(rfl)
@[go_sem] theorem Tp (K:IntKind) (a b:Int) (l:List AV):CT true (.int K a) (.int K b :: l) σ C=CT true (.int K (max a b)) l σ C:=by simp [CT,eO]
@[go_sem] theorem To (K:IntKind) (a b:Int) (l:List AV):CT false (.int K a) (.int K b :: l) σ C=CT false (.int K (min a b)) l σ C:=by simp [CT,eO]
@[go_sem] theorem Td (es:Nat) (x:AX) (lo hi:Option AX):ak H (.qH es x lo hi) e σ C=iP es (x.ev e) (C4 e lo) (C4 e hi) σ C:=(rfl)
@[go_sem] theorem RV (x:AX) (lo hi:Option AX):ak H (.uS x lo hi) e σ C=sY (x.ev e) (C4 e lo) (C4 e hi) σ C:=(rfl)
section
variable (es : Nat) (l : List AV) (K K' : IntKind) (p q : Int)
@[go_sem] theorem Pd (s:ByteArray) (hi:Int):sY (.str s) none (some (.int K hi)) σ C=(0≤hi∧hi≤s.size∧C (.str (s.extract 0 hi.toNat)) σ):=(rfl)
@[go_sem] theorem Pc (s:ByteArray) (lo:Int):sY (.str s) (some (.int K lo)) none σ C=(0≤lo∧lo≤s.size∧C (.str (s.extract lo.toNat s.size)) σ):=(rfl)
@[go_sem] theorem Pe (s:ByteArray) (lo hi:Int):sY (.str s) (some (.int K lo)) (some (.int K' hi)) σ C=(0≤lo∧lo≤hi∧hi≤s.size∧C (.str (s.extract lo.toNat hi.toNat)) σ):=(rfl)
@[go_sem] theorem Q2 (hi:Int):iP es (.list es l) none (some (.int K hi)) σ C=(0≤hi∧hi≤l.length∧C (.list es (l.take hi.toNat)) σ):=by simp [iP,ez,oa]
@[go_sem] theorem Q1 (lo:Int):iP es (.list es l) (some (.int K lo)) none σ C=(0≤lo∧lo≤l.length∧C (.list es (l.drop lo.toNat)) σ):=by simp [iP,ez,oa]
@[go_sem] theorem Pf (id g off n:Nat) (lo:Int):iP es (.sl id g es off n) (some (.int K lo)) none σ C=((∃ o,σ.ob id=some o∧o.g=g)∧0≤lo∧lo≤n∧(lo.toNat=n→C (.list es []) σ)∧(lo.toNat<n→C (.sl id g es (off+lo.toNat) (n-lo.toNat)) σ)):=by simp [iP,ez,oa]
@[go_sem] theorem Pg (id g off n:Nat) (hi:Int):iP es (.sl id g es off n) none (some (.int K hi)) σ C=((∃ o,σ.ob id=some o∧o.g=g)∧0≤hi∧hi≤n∧(0=hi.toNat→C (.list es []) σ)∧(0<hi.toNat→C (.sl id g es off hi.toNat) σ)):=by simp [iP,ez,oa]
end
section
variable (es id g off n c : Nat) (K K' : IntKind) (p q : Int)
@[go_sem] theorem Pj:iP es (.fA id g es off n c) none (some (.int K q)) σ C=(off+n≤c∧0≤q∧q≤(c-off:Nat)∧(0=c-off→C (.list es []) σ)∧(0<c-off→C (.fA id g es off q.toNat c) σ)):=by simp [iP,ez,wb]
@[go_sem] theorem Ph:iP es (.fA id g es off n c) (some (.int K p)) none σ C=(off+n≤c∧0≤p∧p≤n∧(p.toNat=c-off→C (.list es []) σ)∧(p.toNat<c-off→C (.fA id g es (off+p.toNat) (n-p.toNat) c) σ)):=by simp [iP,ez,wb]
end
@[go_sem] theorem T2 (p:JA) (l:List AX):ak H (.pu p l) e σ C=Ml p (pU e l) σ C:=(rfl)
section
variable (K K' : IntKind) (a b : Int)
@[go_sem] theorem TH (op:BinOp):Ml (.bit op) [.int K a,.int K' b] σ C=∃ v,AW op K a K' b=some v∧C v σ:=(rfl)
@[go_sem] theorem RX (s:ByteArray):Ml .DW [.str s,.int K a] σ C=∃ v,(if 0≤a then (s[a.toNat]?).map fun b=>AV.int .u8 b.toNat else none)=some v∧C v σ:=(rfl)
@[go_sem] theorem Sg (ag:Bool) (es n:Nat) (cs:List AV):Ml (.Hy ag es n) [.agg cs,.int K a] σ C=(0≤a∧a<n∧(a.toNat+1) * es≤cs.length∧C (sub ag es (a.toNat * es) (.agg cs)) σ):=by simp [Ml,Ih,and_assoc]
end
@[go_sem] theorem P2 (id g es off n c:Nat):Ml .Dg [.fA id g es off n c] σ C=C (.int .i64 ((c-off:Nat):Int)) σ:=by simp [Ml,Ih]
@[go_sem] theorem Rl (g:Bool) (x:AX):ak H (.kx g x) e σ C=zk g (x.ev e) σ C:=(rfl)
theorem tT {g:Bool} {es:Nat} {l:List AV} (h0:l=[]→C (.bool true) σ∧C (.bool false) σ) (h1:l≠[]→C (.bool g) σ):zk g (.list es l) σ C:=by
 cases l with
 | nil=>exact h0 rfl
 | cons a l=>exact h1 (by simp)
@[go_sem] theorem Re:ak H .mL e σ C=C (.iW σ.n σ.c) ⟨aZ σ.ob σ.n (some ⟨σ.c,2,ru,false,false,[]⟩),σ.n+1,σ.c+1⟩:=(rfl)
@[go_sem] theorem Pz (x q v:AX):ak H (.cZ x q v) e σ C=qw (x.ev e) (q.ev e) (v.ev e) σ C:=(rfl)
@[go_sem] theorem ON (id g:Nat) (kk:IntKind) (n:Int) (v:AV):qw (.iW id g) (.int kk n) v σ C=(v.one=true∧∃ o,σ.ob id=some o∧o.g=g∧o.ro=false∧cL kk o.l=true∧C .bC (σ.put id o (dZ kk n v o.l))):=(rfl)
@[go_sem] theorem PA (ok:Bool) (z:AV) (x q:AX):ak H (.eY ok z x q) e σ C=tP ok z (x.ev e) (q.ev e) σ C:=(rfl)
@[go_sem] theorem OO (ok:Bool) (z:AV) (id g:Nat) (kk:IntKind) (n:Int):tP ok z (.iW id g) (.int kk n) σ C=∃ o,σ.ob id=some o∧o.g=g∧cL kk o.l=true∧C (tO ok z (mc n o.l)) σ:=(rfl)
@[go_sem] theorem MX (z:AV):tO true z none=.tuple [z,.bool false]:=(rfl)
@[go_sem] theorem MZ (z:AV):tO false z none=z:=(rfl)
@[go_sem] theorem MW (z x:AV):tO true z (some x)=.tuple [x,.bool true]:=(rfl)
@[go_sem] theorem MY (z x:AV):tO false z (some x)=x:=(rfl)
@[go_sem] theorem MV (n:Int):mc n []=none:=(rfl)
@[go_sem] theorem LL (kk:IntKind) (n a:Int) (x:AV) (l:List AV):mc n (.agg [.int kk a,x] :: l)=if n=a then some x else mc n l:=(rfl)
@[go_sem] theorem MU (kk:IntKind) (n:Int) (v:AV):dZ kk n v []=[.agg [.int kk n,v]]:=(rfl)
@[go_sem] theorem LK (k kk:IntKind) (n a:Int) (x v:AV) (l:List AV):dZ k n v (.agg [.int kk a,x] :: l)=if n=a then .agg [.int k n,v] :: l else if n<a then .agg [.int k n,v] :: .agg [.int kk a,x] :: l else .agg [.int kk a,x] :: dZ k n v l:=(rfl)
@[go_sem] theorem J6 (kk:IntKind):cL kk []=true:=(rfl)
@[go_sem] theorem JK (kk:IntKind) (a:Int) (x:AV) (l:List AV):cL kk (.agg [.int kk a,x] :: l)=cL kk l:=by simp [cL,wJ]
@[go_sem] theorem TE (es:Nat) (x y:AX):ak H (.Fc es x y) e σ C=Dd es (x.ev e) (y.ev e) σ C:=(rfl)
@[go_sem] theorem Rx (es id g off n:Nat) (l:List AV):Dd es (.sl id g es off n) (.list es l) σ C=∃ o,σ.ob id=some o∧o.g=g∧o.es=es∧o.ro=false∧off+n≤o.l.length∧
     C (.int .i64 (min l.length n:Nat)) (σ.put id o (o.l.take off++l.take n++o.l.drop (off+min l.length n))):=by
 simp [Dd,I9,bW]
@[go_sem] theorem P1 (es id g off n c:Nat) (l:List AV):Dd es (.fA id g es off n c) (.list es l) σ C=(0<min l.length n∧∃ o,σ.ob id=some o∧o.g=g∧o.es=es∧o.ro=false∧off≤o.l.length∧
     C (.int .i64 (min l.length n:Nat)) (σ.put id o (o.l.take off++l.take n++o.l.drop (off+min l.length n)))):=by simp [Dd,I9,bW]
theorem Oi {es id g off n c id2 g2 off2 n2 c2:Nat} (h:0<min n2 n∧∃ o2,σ.ob id2=some o2∧o2.g=g2∧o2.es=es∧off2+min n2 n≤o2.l.length∧
   ∃ o,σ.ob id=some o∧o.g=g∧o.es=es∧o.ro=false∧off≤o.l.length∧C (.int .i64 (min n2 n:Nat)) (σ.put id o (o.l.take off++(o2.l.drop off2).take (min n2 n)++o.l.drop (off+min n2 n)))) :
  Dd es (.fA id g es off n c) (.fA id2 g2 es off2 n2 c2) σ C:=.inl ⟨rfl,rfl,h⟩
theorem Oh {es id g off n id2 g2 off2 n2 c2:Nat} (h:∃ o2,σ.ob id2=some o2∧o2.g=g2∧o2.es=es∧off2+n2≤o2.l.length∧∃ o,σ.ob id=some o∧o.g=g∧o.es=es∧o.ro=false∧off+n≤o.l.length∧
     C (.int .i64 (min ((o2.l.drop off2).take n2).length n:Nat)) (σ.put id o (o.l.take off++((o2.l.drop off2).take n2).take n++o.l.drop (off+min ((o2.l.drop off2).take n2).length n)))) :
  Dd es (.sl id g es off n) (.fA id2 g2 es off2 n2 c2) σ C:=by
 obtain ⟨o2,a1,a2,a3,a4,h⟩:=h
 refine .inr ⟨?_,?_,o2,a1,a2,a3,a4,rfl,h⟩
 ·intro _ _ h; cases h
 ·intro _ _ _ _ _ h; rcases h with h | ⟨_,h⟩ <;> cases h; rfl
@[go_sem] theorem TF (es:Nat) (z:AV) (x:AX):ak H (.JV es z x) e σ C=Hr es z (x.ev e) σ C:=(rfl)
@[go_sem] theorem Rz (es id g off n:Nat) (z:AV):Hr es z (.sl id g es off n) σ C=∃ o,σ.ob id=some o∧o.g=g∧o.es=es∧o.ro=false∧off+n≤o.l.length∧
   C (.tuple []) (σ.put id o (o.l.take off++List.replicate n z++o.l.drop (off+n))):=by simp [Hr]
@[go_sem] theorem TJ (x:AX):ak H (.Hv x) e σ C=xQ (x.ev e) σ C:=(rfl)
@[go_sem] theorem RE (l:List AV):xQ (.list 1 l) σ C=∃ s,n8 l=some s∧C (.str ⟨s.toArray⟩) σ:=by simp [xQ,bW]
@[go_sem] theorem RD (id g off n:Nat):xQ (.sl id g 1 off n) σ C=∃ o,σ.ob id=some o∧o.g=g∧o.es=1∧off+n≤o.l.length∧∃ s,n8 ((o.l.drop off).take n)=some s∧C (.str ⟨s.toArray⟩) σ:=by
 simp only [xQ,bW,eq_iff_iff]
 refine ⟨fun h=>h.2.2,fun h=>⟨?_,?_,h⟩⟩
 ·intro _ _ h; cases h
 ·intro _ _ _ _ _ h; rcases h with h | ⟨_,h⟩ <;> cases h; rfl
@[go_sem] theorem Sf (es b:Nat) (ty:TypeId) (z:AV) (x y:AX):ak H (.Ak es b ty z x y) e σ C=E4 es b ty z (x.ev e) (y.ev e) σ C:=(rfl)
theorem Ol {es b:Nat} {ty:TypeId} {z:AV} {id g off n0 c:Nat} {K:IntKind} {n:Int} (h:0<n∧c-off<n0+n.toNat∧n0+n.toNat≤9223372036854775807∧(n0+n.toNat) * b≤140737488355328∧
   ∃ o,σ.ob id=some o∧o.g=g∧o.es=es∧off+n0≤o.l.length∧C (.sl σ.n σ.c es 0 (n0+n.toNat)) (σ.push es ty ((o.l.drop off).take n0++List.replicate n.toNat z))) :
  E4 es b ty z (.fA id g es off n0 c) (.int K n) σ C:=⟨rfl,h⟩
@[go_sem] theorem OE (s t:ByteArray):(AV.str s=AV.str t)=(s=t):=by simp
@[go_sem] theorem Rb (es:Nat) (ty:TypeId):ak H (.fj es ty) e σ C=C (.sl σ.n σ.c es 0 0) (σ.push es ty []):=(rfl)
@[go_sem] theorem Sc (f:Nat) (l:List AX):ak H (.call f l) e σ C=H f (pU e l) σ C:=(rfl)
@[go_sem] theorem RA (x:AX) (l:List AX):ak H (.dw x l) e σ C=mj H (x.ev e) (pU e l) σ C:=(rfl)
@[go_sem] theorem P4 (f:Nat) (caps args:List AV):mj H (.func f caps) args σ C=H f (args++caps) σ C:=(rfl)
theorem nV:maxLen=9223372036854775807:=by simp [maxLen]
theorem jX {α:Type} {i j:Nat} {a b:α} (h:¬i=j):(if i=j then a else b)=b:=if_neg h
theorem jY {α:Type} {i j:Nat} {a b:α} (h:i<j):(if i<j then a else b)=a:=if_pos h
@[go_sem] theorem Rv:St.empty=⟨fun _=>none,0,0⟩:=(rfl)
@[go_sem] theorem RZ (ob:Nat→Option aS) (n c es:Nat) (ty:TypeId) (l:List AV):(St.mk ob n c).push es ty l=⟨aZ ob n (some ⟨c,es,ty,false,true,l⟩),n+1,c+1⟩:=(rfl)
@[go_sem] theorem Th (ob:Nat→Option aS) (n c id:Nat) (g es:Nat) (ty:TypeId) (ro ap:Bool) (l0 l:List AV):(St.mk ob n c).put id ⟨g,es,ty,ro,ap,l0⟩ l=⟨aZ ob id (some ⟨g,es,ty,ro,ap,l⟩),n,c⟩:=(rfl)
@[go_sem] theorem Ra (ob:Nat→Option aS) (n c id:Nat) (g es:Nat) (ty:TypeId) (ro ap:Bool) (l0 l:List AV):(St.mk ob n c).renew id ⟨g,es,ty,ro,ap,l0⟩ l=⟨aZ ob id (some ⟨c,es,ty,ro,ap,l⟩),n,c+1⟩:=(rfl)
@[go_sem] theorem QX (ob:Nat→Option aS) (n c k:Nat):(St.mk ob n c).aD k=⟨fun i=>if i<k then ob i else none,k,c⟩:=(rfl)
@[go_sem] theorem QY (sz off:Nat) (y:AV):sub true sz off y=.agg ((y.cells.drop off).take sz):=(rfl)
@[go_sem] theorem QZ (sz off:Nat) (y:AV):sub false sz off y=y.cells.getD off .bC:=(rfl)
@[go_sem] theorem MB (off:Nat) (v:AV) (cs:List AV):iB off v (.agg cs)=.agg (cs.take off++v.cells++cs.drop (off+v.cells.length)):=(rfl)
@[go_sem] theorem Ng (cs:List AV):zG cs []=cs:=(rfl)
@[go_sem] theorem LY (cs:List AV) (off:Nat) (v:AV) (r:List (Nat × AV)):zG cs ((off,v) :: r)=zG (cs.take off++v.cells++cs.drop (off+v.cells.length)) r:=(rfl)
@[go_sem] theorem L8 (cs:List AV):AV.cells (.agg cs)=cs:=(rfl)
@[go_sem] theorem L7 (K:IntKind) (n:Int):AV.cells (.int K n)=[.int K n]:=(rfl)
@[go_sem] theorem Km (b:Bool):AV.cells (.bool b)=[.bool b]:=(rfl)
@[go_sem] theorem L5 (s:ByteArray):AV.cells (.str s)=[.str s]:=(rfl)
@[go_sem] theorem Kj (es:Nat) (l:List AV):AV.cells (.list es l)=[.list es l]:=(rfl)
@[go_sem] theorem Nn (id g es o n:Nat):AV.cells (.sl id g es o n)=[.sl id g es o n]:=(rfl)
@[go_sem] theorem OL (id g es o n c:Nat):AV.kh (.fA id g es o n c)=[id]:=(rfl)
@[go_sem] theorem L6 (id g es o n:Nat):AV.cells (.ptr id g es o n)=[.ptr id g es o n]:=(rfl)
@[go_sem] theorem Kk (f:Nat) (l:List AV):AV.cells (.func f l)=[.func f l]:=(rfl)
@[go_sem] theorem Nf (cs:List AV):AV.flat (.agg cs)=cs.all AV.one:=(rfl)
@[go_sem] theorem Nd (K:IntKind) (n:Int):AV.flat (.int K n)=true:=(rfl)
@[go_sem] theorem LX (b:Bool):AV.flat (.bool b)=true:=(rfl)
@[go_sem] theorem Nb (s:ByteArray):AV.flat (.str s)=true:=(rfl)
@[go_sem] theorem LV (es:Nat) (l:List AV):AV.flat (.list es l)=true:=(rfl)
@[go_sem] theorem OX (id g es o n:Nat):AV.flat (.sl id g es o n)=true:=(rfl)
@[go_sem] theorem Nc (id g es o n:Nat):AV.flat (.ptr id g es o n)=true:=(rfl)
@[go_sem] theorem LW (f:Nat) (l:List AV):AV.flat (.func f l)=true:=(rfl)
@[go_sem] theorem OK (K:IntKind) (n:Int):AV.one (.int K n)=true:=(rfl)
@[go_sem] theorem MQ (b:Bool):AV.one (.bool b)=true:=(rfl)
@[go_sem] theorem OJ:AV.one .nil=true:=(rfl)
@[go_sem] theorem MN (es:Nat) (l:List AV):AV.one (.list es l)=true:=(rfl)
@[go_sem] theorem Pw (id g es o n:Nat):AV.one (.sl id g es o n)=true:=(rfl)
@[go_sem] theorem OI (cs:List AV):AV.cA (.agg cs)=cs.all AV.eF:=(rfl)
@[go_sem] theorem MK (f:Nat) (cs:List AV):AV.cA (.func f cs)=cs.all AV.eF:=(rfl)
@[go_sem] theorem OH (K:IntKind) (n:Int):AV.cA (.int K n)=true:=(rfl)
@[go_sem] theorem OG (s:ByteArray):AV.cA (.str s)=true:=(rfl)
@[go_sem] theorem MJ (es:Nat) (l:List AV):AV.cA (.list es l)=true:=(rfl)
@[go_sem] theorem MH (es o n:Nat) (l:List AV):AV.cA (.eD es l o n)=true:=(rfl)
@[go_sem] theorem MM (K:IntKind) (n:Int):AV.eF (.int K n)=true:=(rfl)
@[go_sem] theorem LI (b:Bool):AV.eF (.bool b)=true:=(rfl)
@[go_sem] theorem ML:AV.eF .nil=true:=(rfl)
@[go_sem] theorem LH (es:Nat) (l:List AV):AV.eF (.list es l)=true:=(rfl)
attribute [go_sem] Nat.zero_add eq_self Int.toNat_zero Int.toNat_one Nat.add_zero Int.toNat_natCast List.getElem?_map Option.map_some List.length_map Int.cast_ofNat_Int decide_true decide_false or_true true_or List.getElem?_cons_zero List.getElem?_cons_succ List.length_cons List.length_nil List.all_cons List.all_nil List.take_succ_cons List.take_zero List.drop_succ_cons List.drop_zero List.take_nil List.drop_nil
 List.cons_append List.nil_append List.append_nil List.getD_cons_zero List.getD_cons_succ List.map_cons List.map_nil List.set_cons_zero List.set_cons_succ
 List.mem_cons List.not_mem_nil forall_eq_or_imp forall_eq Option.some.injEq exists_eq_left' exists_eq_left exists_eq_right exists_eq_right' true_and and_true false_and and_false and_self
 Bool.and_true Bool.true_and Bool.and_self Bool.not_true Bool.not_false true_implies false_implies implies_true IntKind.ctorIdx or_false false_or forall_const if_true if_false not_true_eq_false not_false_eq_true ne_eq
theorem nB {n:Int} (h1:-9223372036854775808≤n) (h2:n≤9223372036854775807):IntKind.i64.wrap n=n:=IntWalk.i64_in n ⟨h1,h2⟩
theorem aA.cU {id g es n:Nat} {ty:TypeId} {ro ap:Bool} {l:List AV} (h:σ.ob id=some ⟨g,es,ty,ro,ap,l⟩) (hn:n=l.length) (hp:∀ x∈l,x.cA=true) (hk:∀ x∈l,l6 es x):aA σ (.sl id g es 0 n) (.list es l):=by
 subst hn
 refine .sl h rfl rfl (by simp) (by simp) (fun i x y hx hy=>?_) hk
 simp only [List.drop_zero,List.take_length] at hx
 rw [hx] at hy; obtain rfl:=Option.some.inj hy
 exact .pure (hp x (List.mem_of_getElem? hx))
theorem aA.of_eq {a b:AV} (h:a=b) (hp:b.cA=true):aA σ a b:=by subst h; exact .pure hp
theorem aA.pair {a b a' b':AV} (h1:aA σ a a') (h2:aA σ b b'):aA σ (.tuple [a,b]) (.tuple [a',b']):=by
 refine .tuple rfl fun i x y hx hy=>?_
 match i with
 | 0=>simp at hx hy; subst hx; subst hy; exact h1
 | 1=>simp at hx hy; subst hx; subst hy; exact h2
 | i+2=>simp at hx
theorem aA.three {a b c a' b' c':AV} (h1:aA σ a a') (h2:aA σ b b') (h3:aA σ c c'):aA σ (.tuple [a,b,c]) (.tuple [a',b',c']):=by
 refine .tuple rfl fun i x y hx hy=>?_
 match i with
 | 0=>simp at hx hy; subst hx; subst hy; exact h1
 | 1=>simp at hx hy; subst hx; subst hy; exact h2
 | 2=>simp at hx hy; subst hx; subst hy; exact h3
 | i+3=>simp at hx
theorem ab {f:Nat} {args:List AV} {r:AV} {K:AV→St→Prop} (h:PC P f args r) (ha:∀ a∈args,a.cA=true) (hK:K r σ):HC P f args σ K:=
 (JF h ha).mono fun _ _ ⟨h1,h2⟩=>by rw [h1,h2]; exact hK
theorem PC.walk {f:Nat} {args:List AV} {vs:List Value} {w:World} (h:PC P f args (.bool true)) (hv:Lx (fun b=>b<w.heap.size) w args vs) :
  Calls P f vs.toArray w fun e w'=>e=.returned (.bool true)∧RowKit.Below w.heap.size w w':=by
 refine (h.2 (fun b=>b<w.heap.size) w vs (fun _ h=>h) hv).mono fun e w' hx=>?_
 obtain ⟨v,S',rfl,hb,_,_,hV⟩:=hx
 cases hV
 exact ⟨rfl,hb⟩
theorem Lx.nil {S:Nat→Prop} {w:World}:Lx S w [] []:=⟨rfl,fun j y u h=>by simp at h⟩
theorem Lx.cons {S:Nat→Prop} {w:World} {a:AV} {v:Value} {as:List AV} {vs:List Value} (h:VP S w a v) (k:Lx S w as vs):Lx S w (a :: as) (v :: vs):=by
 refine ⟨by simp [k.1],fun j y u hy hu=>?_⟩
 cases j with
 | zero=>simp at hy hu; subst hy; subst hu; exact h
 | succ j=>exact k.2 j y u (by simpa using hy) (by simpa using hu)
theorem aL {f:Nat} {args:List AV} {v:AV} {τ:St} {K:AV→St→Prop} (h:HC P f args σ (fun r σ'=>r=v∧σ'=τ)) (hK:K v τ):HC P f args σ K:=
 h.mono fun _ _ ⟨h1,h2⟩=>by rw [h1,h2]; exact hK
inductive Br (σ:St):List AV→List AV→Prop
 | nil:Br σ [] []
 | cons {a a':AV} {l l':List AV} (h:aA σ a a') (k:Br σ l l'):Br σ (a :: l) (a' :: l')
theorem Br.get {l l':List AV} (h:Br σ l l'):l.length=l'.length∧∀ (i:Nat) (x y:AV),l[i]?=some x→l'[i]?=some y→aA σ x y:=by
 induction h with
 | nil=>exact ⟨rfl,fun i x y h=>by simp at h⟩
 | cons h _ ih=>
  refine ⟨by simp [ih.1],fun i x y hx hy=>?_⟩
  cases i with
  | zero=>simp at hx hy; subst hx; subst hy; exact h
  | succ i=>exact ih.2 i x y (by simpa using hx) (by simpa using hy)
theorem qC {f:Nat} {args args':List AV} {r:AV} {K:AV→St→Prop} (h:PC P f args' r) (hp:Br σ args args') (hs:r.Cn=true) (hK:K r σ):HC P f args σ K:=
 (Bt h hp.get hs).mono fun _ _ ⟨h1,h2⟩=>by rw [h1,h2]; exact hK
end
end Go.Ab
