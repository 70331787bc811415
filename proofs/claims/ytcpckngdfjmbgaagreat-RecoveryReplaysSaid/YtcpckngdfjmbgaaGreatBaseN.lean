/- OWN WORK, put together by tools/asm.py, seat.py, mini.py. -/
import Derived.Test.YtcpckngdfjmbgaaGreatBaseM
import Derived.IntWalk
namespace Go.Ab
section
variable {P : Program} {H : eH} {e : Nat → AV} {σ : St} {C : AV → St → Prop} {k : (Nat → AV) → St → Prop} {Q : lV}
@[go_sem] theorem U9 (s:Nat):AX.ev e (.t s)=e s:=(rfl)
@[go_sem] theorem Va (v:AV):AX.ev e (.c v)=v:=(rfl)
@[go_sem] theorem PL:qn e []=[]:=(rfl)
@[go_sem] theorem N8 (x:AX) (l:List AX):qn e (x :: l)=x.ev e :: qn e l:=(rfl)
@[go_sem] theorem Ob:DS e none=none:=(rfl)
@[go_sem] theorem Oa (x:AX):DS e (some x)=some (x.ev e):=(rfl)
@[go_sem] theorem PM:KS e []=[]:=(rfl)
@[go_sem] theorem N9 (a b:Nat) (x:AX) (l:List (Nat × Nat × AX)):KS e ((a,b,x) :: l)=(a,b,x.ev e) :: KS e l:=(rfl)
@[go_sem] theorem T3 {α:Type} (f:Nat→α) (i j:Nat) (x:α):bd f i x j=if j=i then x else f j:=(rfl)
def mi:Nat→AV:=fun _=>.bF
@[go_sem] theorem QM:lT []=mi:=by funext j; simp [lT,mi]
@[go_sem] theorem QL (a:AV):lT [a]=bd mi 0 a:=by funext j; match j with | 0=>rfl | j+1=>simp [lT,mi,bd]
@[go_sem] theorem QK (a b:AV):lT [a,b]=bd (bd mi 1 b) 0 a:=by funext j; match j with | 0=>rfl | 1=>rfl | j+2=>simp [lT,mi,bd]
@[go_sem] theorem QJ (a b c:AV):lT [a,b,c]=bd (bd (bd mi 2 c) 1 b) 0 a:=by funext j; match j with | 0=>rfl | 1=>rfl | 2=>rfl | j+3=>simp [lT,mi,bd]
@[go_sem] theorem QI (a b c d:AV):lT [a,b,c,d]=bd (bd (bd (bd mi 3 d) 2 c) 1 b) 0 a:=by funext j; match j with | 0=>rfl | 1=>rfl | 2=>rfl | 3=>rfl | j+4=>simp [lT,mi,bd]
@[go_sem] theorem QH (a b c d f:AV):lT [a,b,c,d,f]=bd (bd (bd (bd (bd mi 4 f) 3 d) 2 c) 1 b) 0 a:=by funext j; match j with | 0=>rfl | 1=>rfl | 2=>rfl | 3=>rfl | 4=>rfl | j+5=>simp [lT,mi,bd]
@[go_sem] theorem QG (a b c d f g:AV):lT [a,b,c,d,f,g]=bd (bd (bd (bd (bd (bd mi 5 g) 4 f) 3 d) 2 c) 1 b) 0 a:=by funext j; match j with | 0=>rfl | 1=>rfl | 2=>rfl | 3=>rfl | 4=>rfl | 5=>rfl | j+6=>simp [lT,mi,bd]
@[go_sem] theorem SW (d:Nat) (v:AV):bM e (some d) v=bd e d v:=(rfl)
@[go_sem] theorem MA (v:AV):bM e none v=e:=(rfl)
@[go_sem] theorem S8 (d:Option Nat) (v:AV):G0 k e d v σ=k (bM e d v) σ:=(rfl)
@[go_sem] theorem Nz:runs H [] k e σ=k e σ:=(rfl)
@[go_sem] theorem Mz (d:Option Nat) (op:aO) (af:List Nat) (r:List aU):runs H (⟨d,op,none,af⟩ :: r) k e σ=ar H op e σ (G0 (runs H r k) e d):=(rfl)
@[go_sem] theorem KZ (d:Option Nat) (op:aO) (af:List Nat) (r:List aU) (s:Nat) (w:Bool) :
  runs H (⟨d,op,some (s,w),af⟩ :: r) k e σ=s8 s w (GZ H op d (runs H r k)) (tq d (runs H r k)) (e s) e σ:=rfl
@[go_sem] theorem Qx (op:aO) (d:Option Nat):GZ H op d k e σ=ar H op e σ (G0 k e d):=(rfl)
@[go_sem] theorem Qw (d:Option Nat):tq d k e σ=k (bM e d (.tuple [])) σ:=(rfl)
section
variable (s : Nat) (A B : (Nat → AV) → St → Prop)
@[go_sem] theorem S4 (w:Bool):s8 s w A B (.tuple []) e σ=B e σ:=by simp [s8]
@[go_sem] theorem Sj:s8 s true A B (.bool true) e σ=A e σ:=by simp [s8]
@[go_sem] theorem Sm:s8 s false A B (.bool false) e σ=A e σ:=by simp [s8]
@[go_sem] theorem Sk:s8 s true A B (.bool false) e σ=B e σ:=by simp [s8]
@[go_sem] theorem Sl:s8 s false A B (.bool true) e σ=B e σ:=by simp [s8]
theorem Fh {s:Nat} {b w:Bool} {A B:(Nat→AV)→St→Prop} (h:e s=.bool b) (hA:b=w→A (bd e s (.bool w)) σ) (hB:b=(!w)→B (bd e s (.bool !w)) σ):s8 s w A B (.bool b) e σ:=by
 have key:∀ {c:Bool},b=c→bd e s (.bool c)=e:=fun {c} hc=>by
  funext j
  by_cases hj:j=s
  ·subst hj; rw [az,h,hc]
  ·rw [aa _ _ _ _ hj]
 exact ⟨fun hb=>by have:=hA hb; rwa [key hb] at this,fun hb=>by have:=hB hb; rwa [key hb] at this⟩
end
theorem LZ {s:Nat} {b:Bool} {A B:(Nat→AV)→St→Prop} (h:e s=.bool b) (hA:b=true→A (bd e s (.bool true)) σ) (hB:b=false→B (bd e s (.bool false)) σ):s8 s true A B (.bool b) e σ:=Fh h hA hB
theorem Rw {s:Nat} {b:Bool} {A B:(Nat→AV)→St→Prop} (h:e s=.bool b) (hB:b=true→B (bd e s (.bool true)) σ) (hA:b=false→A (bd e s (.bool false)) σ):s8 s false A B (.bool b) e σ:=Fh h hA hB
theorem bB {s:Nat} {p:Prop} [Decidable p] {A B:(Nat→AV)→St→Prop} (h:e s=.bool (decide p)) (hA:p→A (bd e s (.bool true)) σ) (hB:¬p→B (bd e s (.bool false)) σ):s8 s true A B (.bool (decide p)) e σ:=
 LZ h (fun h=>hA (of_decide_eq_true h)) (fun h=>hB (of_decide_eq_false h))
theorem bH {s:Nat} {p:Prop} [Decidable p] {A B:(Nat→AV)→St→Prop} (h:e s=.bool (decide p)) (hB:p→B (bd e s (.bool true)) σ) (hA:¬p→A (bd e s (.bool false)) σ):s8 s false A B (.bool (decide p)) e σ:=
 Rw h (fun h=>hB (of_decide_eq_true h)) (fun h=>hA (of_decide_eq_false h))
theorem iZ {s:Nat} {p:Prop} [Decidable p] {A B:(Nat→AV)→St→Prop} (h:e s=.bool (!decide p)) (hB:¬p→B (bd e s (.bool true)) σ) (hA:p→A (bd e s (.bool false)) σ):s8 s false A B (.bool (!decide p)) e σ:=
 Rw h (fun h=>hB (by simpa using h)) (fun h=>hA (by simpa using h))
@[go_sem] theorem T6 (a b:ay):oc H (.seq a b) Q e σ=oc H a (Cd (oc H b Q) Q) e σ:=(rfl)
@[go_sem] theorem Ny:Cd k Q .lN e σ=k e σ:=(rfl)
@[go_sem] theorem Nx:Cd k Q .ret e σ=Q .ret e σ:=(rfl)
@[go_sem] theorem My (i:Nat):Cd k Q (.exit i) e σ=Q (.exit i) e σ:=(rfl)
@[go_sem] theorem Mx:Cd k Q .lN=k:=(rfl)
@[go_sem] theorem Ll (id:Nat):jQ id Q .lN e σ=Q .lN e σ:=(rfl)
@[go_sem] theorem Lk (id:Nat):jQ id Q .ret e σ=Q .ret e σ:=(rfl)
@[go_sem] theorem KO (id i:Nat):jQ id Q (.exit i) e σ=if i=id then Q .lN e σ else Q (.exit i) e σ:=(rfl)
@[go_sem] theorem MH (n r:Nat) (I:Nat→(Nat→AV)→St→Prop):sL n r I Q .lN e σ=∃ k',k' < r∧∃ nt,n≤nt∧I k' e (σ.aE nt):=(rfl)
@[go_sem] theorem K3 (n r i:Nat) (I:Nat→(Nat→AV)→St→Prop):sL n r I Q (.exit i) e σ=Q (.exit i) e σ:=(rfl)
def UD (nn n:Nat) (J:Nat→(Nat→AV)→St→Prop) (i:Nat) (e:Nat→AV) (σ:St):Prop:=σ.n=nn∧∃ r,r≤n∧i=n-r∧J r e σ
def SL (nn n r:Nat) (J:Nat→(Nat→AV)→St→Prop) (Q:lV):lV:=sL nn (n-r) (UD nn n J) Q
theorem bj {nn n r:Nat} {J:Nat→(Nat→AV)→St→Prop} (h:r<n) (hJ:J (r+1) e (σ.aE nn)):SL nn n r J Q .lN e σ:=⟨n-(r+1),by omega,nn,Nat.le_refl _,rfl,r+1,h,rfl,hJ⟩
@[go_sem] theorem Pm (nn n r:Nat) (J:Nat→(Nat→AV)→St→Prop):SL nn n r J Q .ret e σ=Q .ret e σ:=(rfl)
@[go_sem] theorem Nr (nn n r i:Nat) (J:Nat→(Nat→AV)→St→Prop):SL nn n r J Q (.exit i) e σ=Q (.exit i) e σ:=(rfl)
@[go_sem] theorem Ql (ops:List aU):oc H (.region ops none) Q e σ=runs H ops (Q .lN) e σ:=by simp [oc,OI]
@[go_sem] theorem Pr (ops:List aU) (k:Nat):oc H (.region ops (some k)) Q e σ=gf H σ.n σ.c k ops 0 (Q .lN) [] [] e σ:=by simp [oc,OI]
section
variable {n0 c0 k0 p n c : Nat} {R V : List (Nat × Nat)} {af : List Nat} {kk : List (Nat × Nat) → List (Nat × Nat) → AV → St → Prop} {kd : List (Nat × Nat) → List (Nat × Nat) → (Nat → AV) → St → Prop} {ob : Nat → Option aV}
@[go_sem] theorem MV:gf H n0 c0 k0 [] p k R V e σ=k e ⟨σ.ob,n0+k0,c0+k0⟩:=(rfl)
@[go_sem] theorem Ld (d:Option Nat) (op:aO) (r:List aU):gf H n0 c0 k0 (⟨d,op,none,af⟩ :: r) p k R V e σ=tt H op af R V p (n0+p) (c0+p) (CZ (gf H n0 c0 k0 r (p+1) k) e d) e σ.ob:=(rfl)
@[go_sem] theorem KN (d:Option Nat) (op:aO) (r:List aU) (s:Nat) (w:Bool) :
  gf H n0 c0 k0 (⟨d,op,some (s,w),af⟩ :: r) p k R V e σ=s8 s w (Ez H op d af R V p (n0+p) (c0+p) (gf H n0 c0 k0 r (p+1) k)) (tq d (gf H n0 c0 k0 r (p+1) k R V)) (e s) e σ:=rfl
@[go_sem] theorem PU (op:aO) (d:Option Nat):Ez H op d af R V p n c kd e σ=tt H op af R V p n c (CZ kd e d) e σ.ob:=(rfl)
@[go_sem] theorem Sr (d:Option Nat) (v:AV):CZ kd e d R V v σ=kd R V (bM e d v) σ:=(rfl)
@[go_sem] theorem Pp:tag p []=[]:=(rfl)
@[go_sem] theorem Nt (i:Nat) (l:List Nat):tag p (i :: l)=(p,i) :: tag p l:=(rfl)
@[go_sem] theorem K1 (l:List Nat):bz af [] l=True:=by simp [bz]
@[go_sem] theorem KF (V:List (Nat × Nat)):bz af V []=True:=by simp [bz]
@[go_sem] theorem KG (q i j:Nat) (l:List Nat):bz af ((q,i) :: V) (j :: l)=((q∈af∨i∉j :: l)∧bz af V (j :: l)):=by
 unfold bz
 rw [List.forall_mem_cons,eq_iff_iff]
 refine and_congr (or_congr (by simp) ?_) Iff.rfl
 constructor
 ·intro h hm; exact h i hm rfl
 ·intro h k hk he; exact h (by have he:i=k:=he; rw [he]; exact hk)
@[go_sem] theorem QN (x:AX):tt H (.mv x) af R V p n c kk e ob=ar H (.mv x) e ⟨ob,n,c⟩ (kk R V):=by simp [tt,aO.cq,aO.pz,qp,aO.nd,aO.dY,aO.lY,bz,tag]
@[go_sem] theorem Oc (x a b:AX):tt H (.pick x a b) af R V p n c kk e ob=ar H (.pick x a b) e ⟨ob,n,c⟩ (kk R V):=by simp [tt,aO.cq,aO.pz,qp,aO.nd,aO.dY,aO.lY,bz,tag]
@[go_sem] theorem Le (x:AX):tt H (.bc x) af R V p n c kk e ob=ar H (.bc x) e ⟨ob,n,c⟩ (kk R V):=by simp [tt,aO.cq,aO.pz,qp,aO.nd,aO.dY,aO.lY,bz,tag]
@[go_sem] theorem PT (o:BinOp) (x y:AX):tt H (.bin o x y) af R V p n c kk e ob=ar H (.bin o x y) e ⟨ob,n,c⟩ (kk R V):=by simp [tt,aO.cq,aO.pz,qp,aO.nd,aO.dY,aO.lY,bz,tag]
@[go_sem] theorem QO (o:Nat) (x:AX):tt H (.fa o x) af R V p n c kk e ob=ar H (.fa o x) e ⟨ob,n,c⟩ (kk R V):=by simp [tt,aO.cq,aO.pz,qp,aO.nd,aO.dY,aO.lY,bz,tag]
@[go_sem] theorem PR (x:AX):tt H (.len x) af R V p n c kk e ob=ar H (.len x) e ⟨ob,n,c⟩ (kk R V):=by simp [tt,aO.cq,aO.pz,qp,aO.nd,aO.dY,aO.lY,bz,tag]
@[go_sem] theorem Oe (ag:Bool) (sz:Nat) (x:AX):tt H (.load ag sz x) af R V p n c kk e ob=(bz af V (x.ev e).kR∧ar H (.load ag sz x) e ⟨ob,n,c⟩ (kk (R++tag p (x.ev e).kR) V)):=by simp [tt,aO.cq,aO.pz,qp,aO.nd,aO.dY,aO.lY,bz,tag]
@[go_sem] theorem PS (es:Nat) (x i:AX):tt H (.bG es x i) af R V p n c kk e ob=(bz af V (x.ev e).kR∧ar H (.bG es x i) e ⟨ob,n,c⟩ (kk (R++tag p (x.ev e).kR) V)):=by simp [tt,aO.cq,aO.pz,qp,aO.nd,aO.dY,aO.lY,bz,tag]
@[go_sem] theorem PQ (mu:Bool) (es:Nat) (ty:TypeId) (l:List AX):tt H (.lit mu es ty l) af R V p n c kk e ob=(bz af V [n]∧bz af R [n]∧ar H (.lit mu es ty l) e ⟨ob,n,c⟩ (kk R (V++[(p,n)]))):=by simp [tt,aO.cq,aO.pz,qp,aO.nd,aO.dY,aO.lY,tag]
@[go_sem] theorem Qn (id g es o m:Nat):AV.kR (.sl id g es o m)=[id]:=(rfl)
@[go_sem] theorem Py (id g es o m:Nat):AV.kR (.ptr id g es o m)=[id]:=(rfl)
@[go_sem] theorem NK (es o m:Nat) (l:List AV):AV.kR (.eO es l o m)=[]:=(rfl)
@[go_sem] theorem NL (es:Nat) (l:List AV):AV.kR (.list es l)=[]:=(rfl)
@[go_sem] theorem MW:tt H .nC af R V p n c kk e ob=(bz af V [n]∧bz af R [n]∧ar H .nC e ⟨ob,n,c⟩ (kk R (V++[(p,n)]))):=by simp [tt,aO.cq,aO.pz,qp,aO.nd,aO.dY,aO.lY,tag]
@[go_sem] theorem Lf (x k v:AX):tt H (.dm x k v) af R V p n c kk e ob=dmap (x.ev e) (k.ev e) (v.ev e) af R V p n c kk ob:=(rfl)
@[go_sem] theorem S6 (id g:Nat) (kq:IntKind) (q:Int) (v:AV):dmap (.jr id g) (.int kq q) v af R V p n c kk ob=(v.one=true∧cC af V id∧cC af R id∧∃ o,ob id=some o∧o.g=g∧o.ro=false∧cS kq o.l=true∧mR q o.l=none∧
   kk R (V++[(yg+p,id)]) .bF ⟨bd ob id (some { o with l:=et kq q v o.l }),n,c⟩):=(rfl)
@[go_sem] theorem KH (id:Nat):cC af [] id=True:=by simp [cC]
@[go_sem] theorem IP (q i id:Nat):cC af ((q,i) :: V) id=((q∈af∨i≠id∨yg≤q)∧cC af V id):=by simp [cC]
end
section
variable {p : Nat} {d : Option Nat} {af : List Nat} {R : List (Nat × Nat)} {kk : List (Nat × Nat) → (Nat → AV) → St → Prop} {ob ob' : Nat → Option aV} {v : AV} {τ : St} {L : List HS}
@[go_sem] theorem Nu:cN p []=[]:=(rfl)
@[go_sem] theorem Mw (i:Nat) (l:List Nat):cN p (i :: l)=(p,i) :: cN p l:=(rfl)
@[go_sem] theorem MQ:nH af [] ob ob'=True:=by simp [nH]
@[go_sem] theorem Lc (q i:Nat):nH af ((q,i) :: R) ob ob'=((q∈af∨ob' i=ob i)∧nH af R ob ob'):=by simp [nH]
@[go_sem] theorem Lb:nH af R ob ob=True:=by simp [nH]
@[go_sem] theorem Un:Ch kk R e d σ v τ=kk R (bM e d v) σ:=(rfl)
@[go_sem] theorem Uo:KB kk af R e d ob v τ=(nH af R ob τ.ob∧kk R (bM e d v) τ):=(rfl)
@[go_sem] theorem Sg (op:aO):Kz H p op d af kk R e σ=bp H p op d af kk R e σ:=(rfl)
@[go_sem] theorem Si:KA d kk R e σ=kk R (bM e d (.tuple [])) σ:=(rfl)
@[go_sem] theorem MI:dT H [] k R e σ=k e σ:=(rfl)
@[go_sem] theorem K5 (op:aO):dT H (⟨p,⟨d,op,none,af⟩⟩ :: L) k R e σ=bp H p op d af (dT H L k) R e σ:=(rfl)
@[go_sem] theorem KJ (op:aO) (s:Nat) (w:Bool):dT H (⟨p,⟨d,op,some (s,w),af⟩⟩ :: L) k R e σ=s8 s w (Kz H p op d af (dT H L k) R) (KA d (dT H L k) R) (e s) e σ:=(rfl)
@[go_sem] theorem PF:oc H (.aB L) Q e σ=dT H L (Q .lN) [] e σ:=(rfl)
@[go_sem] theorem PI (x:AX):bp H p (.mv x) d af kk R e σ=ar H (.mv x) e σ (Ch kk R e d σ):=by simp [bp,aO.lt,aO.new,aO.nd,aO.dY,cN]
@[go_sem] theorem MK (x a b:AX):bp H p (.pick x a b) d af kk R e σ=ar H (.pick x a b) e σ (Ch kk R e d σ):=by simp [bp,aO.lt,aO.new,aO.nd,aO.dY,cN]
@[go_sem] theorem K9 (zs:List AV) (ps:List (Nat × Nat × AX)):bp H p (.build zs ps) d af kk R e σ=ar H (.build zs ps) e σ (Ch kk R e d σ):=by simp [bp,aO.lt,aO.new,aO.nd,aO.dY,cN]
@[go_sem] theorem KL (x:AX):bp H p (.bc x) d af kk R e σ=ar H (.bc x) e σ (Ch kk R e d σ):=by simp [bp,aO.lt,aO.new,aO.nd,aO.dY,cN]
@[go_sem] theorem N1 (o:BinOp) (x y:AX):bp H p (.bin o x y) d af kk R e σ=ar H (.bin o x y) e σ (Ch kk R e d σ):=by simp [bp,aO.lt,aO.new,aO.nd,aO.dY,cN]
@[go_sem] theorem NZ (g:Bool) (ks:List Nat) (x y:AX):bp H p (.eqs g ks x y) d af kk R e σ=ar H (.eqs g ks x y) e σ (Ch kk R e d σ):=by simp [bp,aO.lt,aO.new,aO.nd,aO.dY,cN]
@[go_sem] theorem PG (u:UnOp) (x:AX):bp H p (.un u x) d af kk R e σ=ar H (.un u x) e σ (Ch kk R e d σ):=by simp [bp,aO.lt,aO.new,aO.nd,aO.dY,cN]
@[go_sem] theorem NV (f:Nat) (l:List AX):bp H p (.H9 f l) d af kk R e σ=ar H (.H9 f l) e σ (Ch kk R e d σ):=by simp [bp,aO.lt,aO.new,aO.nd,aO.dY,cN]
@[go_sem] theorem PJ (o:Nat) (x:AX):bp H p (.fa o x) d af kk R e σ=ar H (.fa o x) e σ (Ch kk R e d σ):=by simp [bp,aO.lt,aO.new,aO.nd,aO.dY,cN]
@[go_sem] theorem NY (x:AX) (i:Nat):bp H p (.ext x i) d af kk R e σ=ar H (.ext x i) e σ (Ch kk R e d σ):=by simp [bp,aO.lt,aO.new,aO.nd,aO.dY,cN]
@[go_sem] theorem NW (x:AX):bp H p (.len x) d af kk R e σ=ar H (.len x) e σ (Ch kk R e d σ):=by simp [bp,aO.lt,aO.new,aO.nd,aO.dY,cN]
@[go_sem] theorem MM (x:AX):bp H p (.lens x) d af kk R e σ=ar H (.lens x) e σ (Ch kk R e d σ):=by simp [bp,aO.lt,aO.new,aO.nd,aO.dY,cN]
@[go_sem] theorem NU (g:Bool) (x:AX) (l:List AX):bp H p (.Fa g x l) d af kk R e σ=ar H (.Fa g x l) e σ (Ch kk R e d σ):=by simp [bp,aO.lt,aO.new,aO.nd,aO.dY,cN]
@[go_sem] theorem MJ (x:AX) (lo hi:Option AX):bp H p (.tF x lo hi) d af kk R e σ=ar H (.tF x lo hi) e σ (Ch kk R e d σ):=by simp [bp,aO.lt,aO.new,aO.nd,aO.dY,cN]
@[go_sem] theorem PH (q:Ky) (l:List AX):bp H p (.pu q l) d af kk R e σ=ar H (.pu q l) e σ (Ch kk R e d σ):=by simp [bp,aO.lt,aO.new,aO.nd,aO.dY,cN]
@[go_sem] theorem ML (ag:Bool) (sz:Nat) (x:AX):bp H p (.load ag sz x) d af kk R e σ=ar H (.load ag sz x) e σ (Ch kk (R++cN p (x.ev e).kR) e d σ):=by simp [bp,aO.lt,aO.new,aO.nd,aO.dY,cN]
@[go_sem] theorem NX (es:Nat) (x i:AX):bp H p (.bG es x i) d af kk R e σ=ar H (.bG es x i) e σ (Ch kk (R++cN p (x.ev e).kR) e d σ):=by simp [bp,aO.lt,aO.new,aO.nd,aO.dY,cN]
@[go_sem] theorem NT (es:Nat) (x:AX) (lo hi:Option AX):bp H p (.qP es x lo hi) d af kk R e σ=ar H (.qP es x lo hi) e σ (Ch kk (R++cN p (x.ev e).kR) e d σ):=by simp [bp,aO.lt,aO.new,aO.nd,aO.dY,cN]
@[go_sem] theorem K6 (sz:Nat) (x v:AX):bp H p (.store sz x v) d af kk R e σ=ar H (.store sz x v) e σ (KB kk af R e d σ.ob):=by simp [bp,aO.lt,aO.new,aO.nd]
@[go_sem] theorem La (es:Nat) (ty:TypeId) (z:AV):bp H p (.alloc es ty z) d af kk R e σ=ar H (.alloc es ty z) e σ (KB kk af R e d σ.ob):=by simp [bp,aO.lt,aO.new,aO.nd]
@[go_sem] theorem K7 (es:Nat) (ty:TypeId) (l:List AX):bp H p (.lit true es ty l) d af kk R e σ=ar H (.lit true es ty l) e σ (KB kk af R e d σ.ob):=by simp [bp,aO.lt,aO.new]
@[go_sem] theorem K8 (es:Nat) (ty:TypeId) (l:List AX):bp H p (.lit false es ty l) d af kk R e σ=ar H (.lit false es ty l) e σ (Ch kk R e d σ):=by simp [bp,aO.lt,aO.dY,cN]
@[go_sem] theorem N2 (es b:Nat) (ty:TypeId) (x y:AX):bp H p (.app es b ty x y) d af kk R e σ=ar H (.app es b ty x y) e σ (KB kk af R e d σ.ob):=by simp [bp,aO.lt,aO.new,aO.nd]
@[go_sem] theorem MN (f:Nat) (l:List AX):bp H p (.call f l) d af kk R e σ=ar H (.call f l) e σ (KB kk af R e d σ.ob):=by simp [bp,aO.lt,aO.new,aO.nd]
@[go_sem] theorem N0 (es:Nat) (x y:AX):bp H p (.F9 es x y) d af kk R e σ=ar H (.F9 es x y) e σ (KB kk af R e d σ.ob):=by simp [bp,aO.lt,aO.new,aO.nd]
@[go_sem] theorem KM (ok:Bool) (z:AV) (x q:AX):bp H p (.fm ok z x q) d af kk R e σ=ar H (.fm ok z x q) e σ (KB kk af R e d σ.ob):=by simp [bp,aO.lt,aO.new,aO.nd]
end
@[go_sem] theorem S9 (c:AX) (a b:ay):oc H (.cond c a b) Q e σ=qq (c.ev e) (oc H a Q) (oc H b Q) e σ:=(rfl)
@[go_sem] theorem MX (A B:(Nat→AV)→St→Prop):qq (.bool true) A B e σ=A e σ:=by simp [qq]
@[go_sem] theorem Lg (A B:(Nat→AV)→St→Prop):qq (.bool false) A B e σ=B e σ:=by simp [qq]
theorem GK {b:Bool} {A B:(Nat→AV)→St→Prop} (hA:b=true→A e σ) (hB:b=false→B e σ):qq (.bool b) A B e σ:=⟨hA,hB⟩
theorem ah {p:Prop} [Decidable p] {A B:(Nat→AV)→St→Prop} (hA:p→A e σ) (hB:¬p→B e σ):qq (.bool (decide p)) A B e σ:=⟨fun h=>hA (of_decide_eq_true h),fun h=>hB (of_decide_eq_false h)⟩
theorem aY {p:Prop} [Decidable p] {A B:(Nat→AV)→St→Prop} (hA:¬p→A e σ) (hB:p→B e σ):qq (.bool (!decide p)) A B e σ:=⟨fun h=>hA (by simpa using h),fun h=>hB (by simpa using h)⟩
@[go_sem] theorem Sy (id:Nat) (a:ay):oc H (.block id a) Q e σ=oc H a (jQ id Q) e σ:=(rfl)
@[go_sem] theorem S5 (id:Nat):oc H (.exit id) Q e σ=Q (.exit id) e σ:=(rfl)
@[go_sem] theorem T7:oc H .ret Q e σ=Q .ret e σ:=(rfl)
@[go_sem] theorem SU:oc H .skip Q e σ=Q .lN e σ:=(rfl)
@[go_sem] theorem NA (rs:List RS) (R:AV→St→Prop):Mq rs R .ret e σ=sO e σ rs (fun r=>R r σ):=(rfl)
@[go_sem] theorem Qj (s:Nat) (K:AV→Prop):vL e σ (.t s) K=K (e s):=(rfl)
@[go_sem] theorem RX (s:RS) (K:AV→Prop):sO e σ [s] K=vL e σ s K:=(rfl)
@[go_sem] theorem RW (s t:Nat) (K:AV→Prop):sO e σ [.t s,.t t] K=K (.tuple [e s,e t]):=(rfl)
@[go_sem] theorem RV (s t u:Nat) (K:AV→Prop):sO e σ [.t s,.t t,.t u] K=K (.tuple [e s,e t,e u]):=(rfl)
@[go_sem] theorem RU (s t u v:Nat) (K:AV→Prop):sO e σ [.t s,.t t,.t u,.t v] K=K (.tuple [e s,e t,e u,e v]):=(rfl)
def Nc (t:Nat) (e:Nat→AV) (K:AV→Prop) (a:AV):Prop:=K (.tuple [a,e t])
def Nb (t u:Nat) (e:Nat→AV) (K:AV→Prop) (a:AV):Prop:=K (.tuple [a,e t,e u])
@[go_sem] theorem R0 (t:Nat) (K:AV→Prop) (a:AV):Nc t e K a=K (.tuple [a,e t]):=(rfl)
@[go_sem] theorem RZ (t u:Nat) (K:AV→Prop) (a:AV):Nb t u e K a=K (.tuple [a,e t,e u]):=(rfl)
@[go_sem] theorem Qf (s:Nat) (ag:Bool) (sz t:Nat) (K:AV→Prop):sO e σ [.c s ag sz,.t t] K=vL e σ (.c s ag sz) (Nc t e K):=(rfl)
@[go_sem] theorem Qe (s:Nat) (ag:Bool) (sz t u:Nat) (K:AV→Prop):sO e σ [.c s ag sz,.t t,.t u] K=vL e σ (.c s ag sz) (Nb t u e K):=(rfl)
def xI (e:Nat→AV) (σ:St) (rs:List RS) (acc:List AV) (K:AV→Prop) (a:AV):Prop:=H0 e σ rs fun l=>K (Cy (acc++a :: l))
@[go_sem] theorem Qd (s:Nat) (ag:Bool) (sz:Nat) (s':Nat) (ag':Bool) (sz':Nat) (r:List RS) (K:AV→Prop):sO e σ (.c s ag sz :: .c s' ag' sz' :: r) K=vL e σ (.c s ag sz) (xI e σ (.c s' ag' sz' :: r) [] K):=(rfl)
@[go_sem] theorem Qb (s s':Nat) (ag':Bool) (sz':Nat) (r:List RS) (K:AV→Prop):sO e σ (.t s :: .c s' ag' sz' :: r) K=xI e σ (.c s' ag' sz' :: r) [] K (e s):=(rfl)
@[go_sem] theorem Qc (s:Nat) (ag:Bool) (sz:Nat) (t u v:Nat) (r:List RS) (K:AV→Prop):sO e σ (.c s ag sz :: .t t :: .t u :: .t v :: r) K=vL e σ (.c s ag sz) (xI e σ (.t t :: .t u :: .t v :: r) [] K):=(rfl)
@[go_sem] theorem Qi (acc:List AV) (K:AV→Prop) (a:AV):xI e σ [] acc K a=K (Cy (acc++[a])):=(rfl)
@[go_sem] theorem Qg (s:Nat) (r:List RS) (acc:List AV) (K:AV→Prop) (a:AV):xI e σ (.t s :: r) acc K a=xI e σ r (acc++[a]) K (e s):=by simp only [xI,H0,vL,List.append_assoc,List.cons_append,List.nil_append]
@[go_sem] theorem Qh (s:Nat) (ag:Bool) (sz:Nat) (r:List RS) (acc:List AV) (K:AV→Prop) (a:AV):xI e σ (.c s ag sz :: r) acc K a=vL e σ (.c s ag sz) (xI e σ r (acc++[a]) K):=by
 have:(fun b=>xI e σ r (acc++[a]) K b)=fun b=>H0 e σ r fun l=>K (Cy (acc++a :: b :: l)):=by funext b; simp only [xI,List.append_assoc,List.cons_append,List.nil_append]
 show _=vL e σ (.c s ag sz) (fun b=>xI e σ r (acc++[a]) K b)
 rw [this]; rfl
@[go_sem] theorem R8 (a b:AV) (l:List AV):Cy (a :: b :: l)=.tuple (a :: b :: l):=(rfl)
@[go_sem] theorem Qk (s:Nat) (ag:Bool) (sz:Nat) (K:AV→Prop):vL e σ (.c s ag sz) K=Hb ag sz σ K (e s):=(rfl)
@[go_sem] theorem RY (ag:Bool) (sz id g es i off:Nat) (K:AV→Prop):Hb ag sz σ K (.ptr id g es i off)=∃ o,σ.ob id=some o∧o.g=g∧o.es=es∧off+sz≤es∧∃ y,o.l[i]?=some y∧K (sub ag sz off y):=(rfl)
@[go_sem] theorem UW (x:AX):ar H (.mv x) e σ C=C (x.ev e) σ:=(rfl)
@[go_sem] theorem SY (c a b:AX):ar H (.pick c a b) e σ C=pO (c.ev e) (a.ev e) (b.ev e) σ C:=(rfl)
@[go_sem] theorem ME (a b:AV):pO (.bool true) a b σ C=C a σ:=by simp [pO]
@[go_sem] theorem K0 (a b:AV):pO (.bool false) a b σ C=C b σ:=by simp [pO]
@[go_sem] theorem SB (es:Nat) (ty:TypeId) (z:AV):ar H (.alloc es ty z) e σ C=C (.ptr σ.n σ.c es 0 0) (σ.push es ty [z]):=(rfl)
@[go_sem] theorem Ux (es:Nat) (ty:TypeId) (x:AX):ar H (.box es ty x) e σ C=O7 es ty (x.ev e) σ C:=(rfl)
@[go_sem] theorem Tb (es:Nat) (ty:TypeId) (v:AV):O7 es ty v σ C=(v.flat=true∧v.cells.length=es∧C (.ptr σ.n σ.c es 0 0) (σ.push es ty [v])):=(rfl)
@[go_sem] theorem Sx (zs:List AV) (ps:List (Nat × Nat × AX)):ar H (.build zs ps) e σ C=AH zs (KS e ps) σ C:=(rfl)
@[go_sem] theorem QT (zs:List AV) (ps:List (Nat × Nat × AV)):AH zs ps σ C=((∀ p∈ps,p.2.2.flat=true∧p.2.2.cells.length=p.2.1∧p.1+p.2.1≤zs.length)∧C (.agg (As zs (ps.map fun p=>(p.1,p.2.2)))) σ):=(rfl)
@[go_sem] theorem Uj (mu:Bool) (es:Nat) (ty:TypeId) (xs:List AX):ar H (.lit mu es ty xs) e σ C=Gx mu es ty (qn e xs) σ C:=(rfl)
@[go_sem] theorem Qs (es:Nat) (ty:TypeId) (vs:List AV):Gx false es ty vs σ C=((∀ v∈vs,v.flat=true∧v.cells.length=es∧v.cQ=true)∧C (.list es vs) σ):=by simp [Gx]
@[go_sem] theorem Qr (es:Nat) (ty:TypeId) (vs:List AV):Gx true es ty vs σ C=((∀ v∈vs,v.flat=true∧v.cells.length=es)∧C (.sl σ.n σ.c es 0 vs.length) (σ.push es ty vs)):=by simp [Gx]
@[go_sem] theorem SZ (ag:Bool) (sz:Nat) (x:AX):ar H (.load ag sz x) e σ C=uD ag sz (x.ev e) σ C:=(rfl)
@[go_sem] theorem PD (ag:Bool) (sz id g es i off:Nat):uD ag sz (.ptr id g es i off) σ C=∃ o,σ.ob id=some o∧o.g=g∧o.es=es∧off+sz≤es∧∃ y,o.l[i]?=some y∧C (sub ag sz off y) σ:=(rfl)
@[go_sem] theorem PB (ag:Bool) (sz es i off:Nat) (l:List AV):uD ag sz (.eO es l i off) σ C=(off+sz≤es∧∃ y,l[i]?=some y∧C (sub ag sz off y) σ):=(rfl)
@[go_sem] theorem RQ (sz:Nat) (x v:AX):ar H (.store sz x v) e σ C=sM sz (x.ev e) (v.ev e) σ C:=(rfl)
@[go_sem] theorem P2 (sz id g es i off:Nat) (v:AV):sM sz (.ptr id g es i off) v σ C=∃ o,σ.ob id=some o∧o.g=g∧o.es=es∧o.ro=false∧v.flat=true∧v.cells.length=sz∧off+sz≤es∧
   ∃ y,o.l[i]?=some y∧C .bF (σ.put id o (o.l.set i (fI off v y))):=rfl
@[go_sem] theorem Qo (x:AX):ar H (.bc x) e σ C=iM (x.ev e) σ C:=(rfl)
@[go_sem] theorem NM (id g es i off:Nat):iM (.ptr id g es i off) σ C=C (.ptr id g es i off) σ:=(rfl)
@[go_sem] theorem Uz (op:BinOp) (x y:AX):ar H (.bin op x y) e σ C=jy op (x.ev e) (y.ev e) σ C:=(rfl)
section
variable (K : IntKind) (a b : Int)
@[go_sem] theorem UC:jy .add (.int K a) (.int K b) σ C=C (.int K (K.wrap (a+b))) σ:=by simp [jy,qK]
@[go_sem] theorem T4:jy .sub (.int K a) (.int K b) σ C=C (.int K (K.wrap (a-b))) σ:=by simp [jy,qK]
@[go_sem] theorem Uc:jy .mul (.int K a) (.int K b) σ C=C (.int K (K.wrap (a * b))) σ:=by simp [jy,qK]
@[go_sem] theorem T8:jy .rem (.int K a) (.int K b) σ C=(b≠0∧C (.int K (a.tmod b)) σ):=by simp [jy,qK]
@[go_sem] theorem Ut:jy .eql (.int K a) (.int K b) σ C=C (.bool (decide (a=b))) σ:=by simp [jy,qK]
@[go_sem] theorem Ub:jy .neq (.int K a) (.int K b) σ C=C (.bool (!decide (a=b))) σ:=by simp [jy,qK]
@[go_sem] theorem Ui:jy .lss (.int K a) (.int K b) σ C=C (.bool (decide (a<b))) σ:=by simp [jy,qK]
@[go_sem] theorem Uk:jy .leq (.int K a) (.int K b) σ C=C (.bool (decide (a≤b))) σ:=by simp [jy,qK]
@[go_sem] theorem Up:jy .gtr (.int K a) (.int K b) σ C=C (.bool (decide (b<a))) σ:=by simp [jy,qK]
@[go_sem] theorem Uq:jy .geq (.int K a) (.int K b) σ C=C (.bool (decide (b≤a))) σ:=by simp [jy,qK]
end
@[go_sem] theorem Te (a b:ByteArray):jy .add (.str a) (.str b) σ C=(a.size+b.size≤9223372036854775807∧C (.str (a++b)) σ):=by simp [jy,qK]
@[go_sem] theorem Uu (neg:Bool) (x y:AX):ar H (.Ij neg x y) e σ C=Fo neg (x.ev e) (y.ev e) σ C:=(rfl)
@[go_sem] theorem QF (a b:Bool):Fo false (.bool a) (.bool b) σ C=C (.bool (decide (a=b))) σ:=(rfl)
@[go_sem] theorem QE (a b:Bool):Fo true (.bool a) (.bool b) σ C=C (.bool (!decide (a=b))) σ:=(rfl)
@[go_sem] theorem Us (g:Bool) (ks:List Nat) (x y:AX):ar H (.eqs g ks x y) e σ C=BK g ks (x.ev e) (y.ev e) σ C:=(rfl)
@[go_sem] theorem QD (ks:List Nat) (cs ds:List AV):BK false ks (.agg cs) (.agg ds) σ C=∃ b,yR ks cs ds=some b∧C (.bool b) σ:=by simp [BK]
@[go_sem] theorem QC (ks:List Nat) (cs ds:List AV):BK true ks (.agg cs) (.agg ds) σ C=∃ b,yR ks cs ds=some b∧C (.bool (!b)) σ:=by simp [BK]
@[go_sem] theorem PN:yR [] [] []=some true:=(rfl)
@[go_sem] theorem PO (ks:List Nat) (K:IntKind) (a b:Int) (r s:List AV):yR (0 :: ks) (.int K a :: r) (.int K b :: s)=(yR ks r s).map fun t=>decide (a=b)&&t:=by simp [yR]
@[go_sem] theorem US (op:UnOp) (x:AX):ar H (.un op x) e σ C=M3 op (x.ev e) σ C:=(rfl)
@[go_sem] theorem Ua (b:Bool):M3 .not (.bool b) σ C=C (.bool (!b)) σ:=(rfl)
@[go_sem] theorem S7 (K:IntKind) (x:AX):ar H (.conv K x) e σ C=Az K (x.ev e) σ C:=(rfl)
@[go_sem] theorem Su (K K':IntKind) (n:Int):Az K (.int K' n) σ C=C (.int K (K.wrap n)) σ:=(rfl)
@[go_sem] theorem Uf (f:Nat) (l:List AX):ar H (.H9 f l) e σ C=C (.func f (qn e l)) σ:=(rfl)
@[go_sem] theorem Ue (f:Nat) (l:List AX):ar H (.LR f l) e σ C=((∀ z∈qn e l,z.cQ=true)∧C (.qd f (qn e l)) σ):=(rfl)
@[go_sem] theorem QR (f:Nat) (fs args:List AV):mX H (.qd f fs) args σ C=H f (fs++args) σ C:=(rfl)
@[go_sem] theorem NC (f:Nat) (l:List AV):AV.cQ (.qd f l)=true:=(rfl)
@[go_sem] theorem UZ (off:Nat) (x:AX):ar H (.fa off x) e σ C=L6 off (x.ev e) σ C:=(rfl)
@[go_sem] theorem Sp (off id g es i o:Nat):L6 off (.ptr id g es i o) σ C=C (.ptr id g es i (o+off)) σ:=(rfl)
@[go_sem] theorem So (off es i o:Nat) (l:List AV):L6 off (.eO es l i o) σ C=C (.eO es l i (o+off)) σ:=(rfl)
@[go_sem] theorem Um (es:Nat) (x i:AX):ar H (.bG es x i) e σ C=wB es (x.ev e) (i.ev e) σ C:=(rfl)
@[go_sem] theorem Qt (es id g off n:Nat) (K:IntKind) (ix:Int):wB es (.sl id g es off n) (.int K ix) σ C=((∃ o,σ.ob id=some o∧o.g=g)∧0≤ix∧ix<n∧C (.ptr id g es (off+ix.toNat) 0) σ):=by simp [wB]
@[go_sem] theorem Qu (es:Nat) (l:List AV) (K:IntKind) (ix:Int):wB es (.list es l) (.int K ix) σ C=(0≤ix∧ix<l.length∧C (.eO es l ix.toNat 0) σ):=by simp [wB]
@[go_sem] theorem Ur (x:AX) (i:Nat):ar H (.ext x i) e σ C=uK (x.ev e) i σ C:=(rfl)
@[go_sem] theorem QB (a:AV) (l:List AV):uK (.tuple (a :: l)) 0 σ C=C a σ:=by simp [uK]
@[go_sem] theorem QA (a b:AV) (l:List AV):uK (.tuple (a :: b :: l)) 1 σ C=C b σ:=by simp [uK]
@[go_sem] theorem Qz (a b c:AV) (l:List AV):uK (.tuple (a :: b :: c :: l)) 2 σ C=C c σ:=by simp [uK]
@[go_sem] theorem Qy (a b c d:AV) (l:List AV):uK (.tuple (a :: b :: c :: d :: l)) 3 σ C=C d σ:=by simp [uK]
@[go_sem] theorem Ul (x:AX):ar H (.len x) e σ C=im (x.ev e) σ C:=(rfl)
@[go_sem] theorem Sb:im .nil σ C=C (.int .i64 0) σ:=(rfl)
@[go_sem] theorem Sc (es:Nat) (l:List AV):im (.list es l) σ C=C (.int .i64 l.length) σ:=(rfl)
@[go_sem] theorem Sa (id g es off n:Nat):im (.sl id g es off n) σ C=C (.int .i64 n) σ:=(rfl)
@[go_sem] theorem Se (id g es off n c:Nat):im (.fG id g es off n c) σ C=C (.int .i64 n) σ:=(rfl)
@[go_sem] theorem S3 (x:AX):ar H (.lens x) e σ C=zY (x.ev e) σ C:=(rfl)
@[go_sem] theorem R9 (s:ByteArray):zY (.str s) σ C=C (.int .i64 s.size) σ:=(rfl)
@[go_sem] theorem UB (es b:Nat) (ty:TypeId) (x y:AX):ar H (.app es b ty x y) e σ C=m0 es b ty (x.ev e) (y.ev e) σ C:=(rfl)
@[go_sem] theorem EG (es b:Nat) (ty:TypeId) (id g n:Nat) (l:List AV):m0 es b ty (.sl id g es 0 n) (.list es l) σ C=∃ o,σ.ob id=some o∧o.g=g∧o.es=es∧o.ty=ty∧o.ro=false∧o.ap=true∧o.l.length=n∧
     n+l.length≤maxLen∧(n+l.length) * b≤140737488355328∧C (.sl id σ.c es 0 (n+l.length)) (σ.renew id o (o.l++l)):=by simp [m0,cg]
theorem iR (es b:Nat) (ty:TypeId) (l:List AV):m0 es b ty .nil (.list es l) σ C=(l.length≤maxLen∧l.length * b≤140737488355328∧(l=[]→C .nil σ)∧(l≠[]→C (.sl σ.n σ.c es 0 l.length) (σ.push es ty l))):=by simp [m0,cg]
@[go_sem] theorem Ud (mx:Bool) (x:AX) (xs:List AX):ar H (.Fa mx x xs) e σ C=DJ mx (x.ev e) (qn e xs) σ C:=(rfl)
@[go_sem] theorem R6 (mx:Bool) (a:AV):DJ mx a [] σ C=C a σ:=(rfl)
@[go_sem] theorem Uh (K:IntKind) (a b:Int) (l:List AV):DJ true (.int K a) (.int K b :: l) σ C=DJ true (.int K (max a b)) l σ C:=by simp [DJ,eX]
@[go_sem] theorem Ug (K:IntKind) (a b:Int) (l:List AV):DJ false (.int K a) (.int K b :: l) σ C=DJ false (.int K (min a b)) l σ C:=by simp [DJ,eX]
@[go_sem] theorem T5 (es:Nat) (x:AX) (lo hi:Option AX):ar H (.qP es x lo hi) e σ C=ji es (x.ev e) (DS e lo) (DS e hi) σ C:=(rfl)
@[go_sem] theorem SS (x:AX) (lo hi:Option AX):ar H (.tF x lo hi) e σ C=tE (x.ev e) (DS e lo) (DS e hi) σ C:=(rfl)
section
variable (es : Nat) (l : List AV) (K K' : IntKind) (p q : Int)
@[go_sem] theorem P4 (s:ByteArray) (hi:Int):tE (.str s) none (some (.int K hi)) σ C=(0≤hi∧hi≤s.size∧C (.str (s.extract 0 hi.toNat)) σ):=(rfl)
@[go_sem] theorem P3 (s:ByteArray) (lo:Int):tE (.str s) (some (.int K lo)) none σ C=(0≤lo∧lo≤s.size∧C (.str (s.extract lo.toNat s.size)) σ):=(rfl)
@[go_sem] theorem P5 (s:ByteArray) (lo hi:Int):tE (.str s) (some (.int K lo)) (some (.int K' hi)) σ C=(0≤lo∧lo≤hi∧hi≤s.size∧C (.str (s.extract lo.toNat hi.toNat)) σ):=(rfl)
@[go_sem] theorem RT (hi:Int):ji es (.list es l) none (some (.int K hi)) σ C=(0≤hi∧hi≤l.length∧C (.list es (l.take hi.toNat)) σ):=by simp [ji,eI,oL]
@[go_sem] theorem RR (lo:Int):ji es (.list es l) (some (.int K lo)) none σ C=(0≤lo∧lo≤l.length∧C (.list es (l.drop lo.toNat)) σ):=by simp [ji,eI,oL]
@[go_sem] theorem P6 (id g off n:Nat) (lo:Int):ji es (.sl id g es off n) (some (.int K lo)) none σ C=((∃ o,σ.ob id=some o∧o.g=g)∧0≤lo∧lo≤n∧(lo.toNat=n→C (.list es []) σ)∧(lo.toNat<n→C (.sl id g es (off+lo.toNat) (n-lo.toNat)) σ)):=by simp [ji,eI,oL]
@[go_sem] theorem P7 (id g off n:Nat) (hi:Int):ji es (.sl id g es off n) none (some (.int K hi)) σ C=((∃ o,σ.ob id=some o∧o.g=g)∧0≤hi∧hi≤n∧(0=hi.toNat→C (.list es []) σ)∧(0<hi.toNat→C (.sl id g es off hi.toNat) σ)):=by simp [ji,eI,oL]
end
section
variable (es id g off n c : Nat) (K K' : IntKind) (p q : Int)
@[go_sem] theorem P9:ji es (.fG id g es off n c) none (some (.int K q)) σ C=(off+n≤c∧0≤q∧q≤(c-off:Nat)∧(0=c-off→C (.list es []) σ)∧(0<c-off→C (.fG id g es off q.toNat c) σ)):=by simp [ji,eI,wS]
@[go_sem] theorem P8:ji es (.fG id g es off n c) (some (.int K p)) none σ C=(off+n≤c∧0≤p∧p≤n∧(p.toNat=c-off→C (.list es []) σ)∧(p.toNat<c-off→C (.fG id g es (off+p.toNat) (n-p.toNat) c) σ)):=by simp [ji,eI,wS]
end
@[go_sem] theorem UT (p:Ky) (l:List AX):ar H (.pu p l) e σ C=Nf p (qn e l) σ C:=(rfl)
section
variable (K K' : IntKind) (a b : Int)
@[go_sem] theorem Uy (op:BinOp):Nf (.bit op) [.int K a,.int K' b] σ C=∃ v,BM op K a K' b=some v∧C v σ:=(rfl)
@[go_sem] theorem SV (s:ByteArray):Nf .Bb [.str s,.int K a] σ C=∃ v,(if 0≤a then (s[a.toNat]?).map fun b=>AV.int .u8 b.toNat else none)=some v∧C v σ:=(rfl)
@[go_sem] theorem Td (ag:Bool) (es n:Nat) (cs:List AV):Nf (.IB ag es n) [.agg cs,.int K a] σ C=(0≤a∧a<n∧(a.toNat+1) * es≤cs.length∧C (sub ag es (a.toNat * es) (.agg cs)) σ):=by simp [Nf,Jh,and_assoc]
end
@[go_sem] theorem QQ (id g es off n c:Nat):Nf .D6 [.fG id g es off n c] σ C=C (.int .i64 ((c-off:Nat):Int)) σ:=by simp [Nf,Jh]
@[go_sem] theorem Sf (g:Bool) (x:AX):ar H (.lf g x) e σ C=Af g (x.ev e) σ C:=(rfl)
theorem uE {g:Bool} {es:Nat} {l:List AV} (h0:l=[]→C (.bool true) σ∧C (.bool false) σ) (h1:l≠[]→C (.bool g) σ):Af g (.list es l) σ C:=by
 cases l with
 | nil=>exact h0 rfl
 | cons a l=>exact h1 (by simp)
@[go_sem] theorem R7:ar H .nC e σ C=C (.jr σ.n σ.c) ⟨bd σ.ob σ.n (some ⟨σ.c,2,rW,false,false,[]⟩),σ.n+1,σ.c+1⟩:=(rfl)
@[go_sem] theorem Qp (x q v:AX):ar H (.dm x q v) e σ C=qT (x.ev e) (q.ev e) (v.ev e) σ C:=(rfl)
@[go_sem] theorem Pz (id g:Nat) (kk:IntKind) (n:Int) (v:AV):qT (.jr id g) (.int kk n) v σ C=(v.one=true∧∃ o,σ.ob id=some o∧o.g=g∧o.ro=false∧cS kk o.l=true∧C .bF (σ.put id o (et kk n v o.l))):=(rfl)
@[go_sem] theorem Qq (ok:Bool) (z:AV) (x q:AX):ar H (.fm ok z x q) e σ C=uC ok z (x.ev e) (q.ev e) σ C:=(rfl)
@[go_sem] theorem PA (ok:Bool) (z:AV) (id g:Nat) (kk:IntKind) (n:Int):uC ok z (.jr id g) (.int kk n) σ C=∃ o,σ.ob id=some o∧o.g=g∧cS kk o.l=true∧C (uB ok z (mR n o.l)) σ:=(rfl)
@[go_sem] theorem NQ (z:AV):uB true z none=.tuple [z,.bool false]:=(rfl)
@[go_sem] theorem NS (z:AV):uB false z none=z:=(rfl)
@[go_sem] theorem NP (z x:AV):uB true z (some x)=.tuple [x,.bool true]:=(rfl)
@[go_sem] theorem NR (z x:AV):uB false z (some x)=x:=(rfl)
@[go_sem] theorem NO (n:Int):mR n []=none:=(rfl)
@[go_sem] theorem MG (kk:IntKind) (n a:Int) (x:AV) (l:List AV):mR n (.agg [.int kk a,x] :: l)=if n=a then some x else mR n l:=(rfl)
@[go_sem] theorem NN (kk:IntKind) (n:Int) (v:AV):et kk n v []=[.agg [.int kk n,v]]:=(rfl)
@[go_sem] theorem MF (k kk:IntKind) (n a:Int) (x v:AV) (l:List AV):et k n v (.agg [.int kk a,x] :: l)=if n=a then .agg [.int k n,v] :: l else if n<a then .agg [.int k n,v] :: .agg [.int kk a,x] :: l else .agg [.int kk a,x] :: et k n v l:=(rfl)
@[go_sem] theorem K4 (kk:IntKind):cS kk []=true:=(rfl)
@[go_sem] theorem KI (kk:IntKind) (a:Int) (x:AV) (l:List AV):cS kk (.agg [.int kk a,x] :: l)=cS kk l:=by simp [cS,xo]
@[go_sem] theorem Uv (es:Nat) (x y:AX):ar H (.F9 es x y) e σ C=D4 es (x.ev e) (y.ev e) σ C:=(rfl)
@[go_sem] theorem Ss (es id g off n:Nat) (l:List AV):D4 es (.sl id g es off n) (.list es l) σ C=∃ o,σ.ob id=some o∧o.g=g∧o.es=es∧o.ro=false∧off+n≤o.l.length∧
     C (.int .i64 (min l.length n:Nat)) (σ.put id o (o.l.take off++l.take n++o.l.drop (off+min l.length n))):=by
 simp [D4,J5,cg]
@[go_sem] theorem QP (es id g off n c:Nat) (l:List AV):D4 es (.fG id g es off n c) (.list es l) σ C=(0<min l.length n∧∃ o,σ.ob id=some o∧o.g=g∧o.es=es∧o.ro=false∧off≤o.l.length∧
     C (.int .i64 (min l.length n:Nat)) (σ.put id o (o.l.take off++l.take n++o.l.drop (off+min l.length n)))):=by simp [D4,J5,cg]
theorem O5 {es id g off n c id2 g2 off2 n2 c2:Nat} (h:0<min n2 n∧∃ o2,σ.ob id2=some o2∧o2.g=g2∧o2.es=es∧off2+min n2 n≤o2.l.length∧
   ∃ o,σ.ob id=some o∧o.g=g∧o.es=es∧o.ro=false∧off≤o.l.length∧C (.int .i64 (min n2 n:Nat)) (σ.put id o (o.l.take off++(o2.l.drop off2).take (min n2 n)++o.l.drop (off+min n2 n)))) :
  D4 es (.fG id g es off n c) (.fG id2 g2 es off2 n2 c2) σ C:=.inl ⟨rfl,rfl,h⟩
theorem O4 {es id g off n id2 g2 off2 n2 c2:Nat} (h:∃ o2,σ.ob id2=some o2∧o2.g=g2∧o2.es=es∧off2+n2≤o2.l.length∧∃ o,σ.ob id=some o∧o.g=g∧o.es=es∧o.ro=false∧off+n≤o.l.length∧
     C (.int .i64 (min ((o2.l.drop off2).take n2).length n:Nat)) (σ.put id o (o.l.take off++((o2.l.drop off2).take n2).take n++o.l.drop (off+min ((o2.l.drop off2).take n2).length n)))) :
  D4 es (.sl id g es off n) (.fG id2 g2 es off2 n2 c2) σ C:=by
 obtain ⟨o2,a1,a2,a3,a4,h⟩:=h
 refine .inr ⟨?_,?_,o2,a1,a2,a3,a4,rfl,h⟩
 ·intro _ _ h; cases h
 ·intro _ _ _ _ _ h; rcases h with h | ⟨_,h⟩ <;> cases h; rfl
@[go_sem] theorem Uw (es:Nat) (z:AV) (x:AX):ar H (.KT es z x) e σ C=Iu es z (x.ev e) σ C:=(rfl)
@[go_sem] theorem Sv (es id g off n:Nat) (z:AV):Iu es z (.sl id g es off n) σ C=∃ o,σ.ob id=some o∧o.g=g∧o.es=es∧o.ro=false∧off+n≤o.l.length∧
   C (.tuple []) (σ.put id o (o.l.take off++List.replicate n z++o.l.drop (off+n))):=by simp [Iu]
@[go_sem] theorem UA (x:AX):ar H (.Iz x) e σ C=yE (x.ev e) σ C:=(rfl)
@[go_sem] theorem SA (l:List AV):yE (.list 1 l) σ C=∃ s,oK l=some s∧C (.str ⟨s.toArray⟩) σ:=by simp [yE,cg]
@[go_sem] theorem Sz (id g off n:Nat):yE (.sl id g 1 off n) σ C=∃ o,σ.ob id=some o∧o.g=g∧o.es=1∧off+n≤o.l.length∧∃ s,oK ((o.l.drop off).take n)=some s∧C (.str ⟨s.toArray⟩) σ:=by
 simp only [yE,cg,eq_iff_iff]
 refine ⟨fun h=>h.2.2,fun h=>⟨?_,?_,h⟩⟩
 ·intro _ _ h; cases h
 ·intro _ _ _ _ _ h; rcases h with h | ⟨_,h⟩ <;> cases h; rfl
@[go_sem] theorem Tc (es b:Nat) (ty:TypeId) (z:AV) (x y:AX):ar H (.A3 es b ty z x y) e σ C=F0 es b ty z (x.ev e) (y.ev e) σ C:=(rfl)
theorem O9 {es b:Nat} {ty:TypeId} {z:AV} {id g off n0 c:Nat} {K:IntKind} {n:Int} (h:0<n∧c-off<n0+n.toNat∧n0+n.toNat≤9223372036854775807∧(n0+n.toNat) * b≤140737488355328∧
   ∃ o,σ.ob id=some o∧o.g=g∧o.es=es∧off+n0≤o.l.length∧C (.sl σ.n σ.c es 0 (n0+n.toNat)) (σ.push es ty ((o.l.drop off).take n0++List.replicate n.toNat z))) :
  F0 es b ty z (.fG id g es off n0 c) (.int K n) σ C:=⟨rfl,h⟩
@[go_sem] theorem Pq (s t:ByteArray):(AV.str s=AV.str t)=(s=t):=by simp
@[go_sem] theorem R5 (es:Nat) (ty:TypeId):ar H (.fu es ty) e σ C=C (.sl σ.n σ.c es 0 0) (σ.push es ty []):=(rfl)
@[go_sem] theorem Ta (f:Nat) (l:List AX):ar H (.call f l) e σ C=H f (qn e l) σ C:=(rfl)
@[go_sem] theorem Sw (x:AX) (l:List AX):ar H (.dI x l) e σ C=mX H (x.ev e) (qn e l) σ C:=(rfl)
@[go_sem] theorem QS (f:Nat) (caps args:List AV):mX H (.func f caps) args σ C=H f (args++caps) σ C:=(rfl)
theorem nB:maxLen=9223372036854775807:=by simp [maxLen]
theorem iP {α:Type} {i j:Nat} {a b:α} (h:¬i=j):(if i=j then a else b)=b:=if_neg h
theorem iQ {α:Type} {i j:Nat} {a b:α} (h:i<j):(if i<j then a else b)=a:=if_pos h
@[go_sem] theorem Sq:St.empty=⟨fun _=>none,0,0⟩:=(rfl)
@[go_sem] theorem SX (ob:Nat→Option aV) (n c es:Nat) (ty:TypeId) (l:List AV):(St.mk ob n c).push es ty l=⟨bd ob n (some ⟨c,es,ty,false,true,l⟩),n+1,c+1⟩:=(rfl)
@[go_sem] theorem T9 (ob:Nat→Option aV) (n c id:Nat) (g es:Nat) (ty:TypeId) (ro ap:Bool) (l0 l:List AV):(St.mk ob n c).put id ⟨g,es,ty,ro,ap,l0⟩ l=⟨bd ob id (some ⟨g,es,ty,ro,ap,l⟩),n,c⟩:=(rfl)
@[go_sem] theorem R4 (ob:Nat→Option aV) (n c id:Nat) (g es:Nat) (ty:TypeId) (ro ap:Bool) (l0 l:List AV):(St.mk ob n c).renew id ⟨g,es,ty,ro,ap,l0⟩ l=⟨bd ob id (some ⟨c,es,ty,ro,ap,l⟩),n,c+1⟩:=(rfl)
@[go_sem] theorem RN (ob:Nat→Option aV) (n c k:Nat):(St.mk ob n c).aE k=⟨fun i=>if i<k then ob i else none,k,c⟩:=(rfl)
@[go_sem] theorem RO (sz off:Nat) (y:AV):sub true sz off y=.agg ((y.cells.drop off).take sz):=(rfl)
@[go_sem] theorem RP (sz off:Nat) (y:AV):sub false sz off y=y.cells.getD off .bF:=(rfl)
@[go_sem] theorem Nw (off:Nat) (v:AV) (cs:List AV):fI off v (.agg cs)=.agg (cs.take off++v.cells++cs.drop (off+v.cells.length)):=(rfl)
@[go_sem] theorem Nv (off:Nat) (v:AV) (K:IntKind) (n:Int):fI off v (.int K n)=v:=(rfl)
@[go_sem] theorem N7 (cs:List AV):As cs []=cs:=(rfl)
@[go_sem] theorem MU (cs:List AV) (off:Nat) (v:AV) (r:List (Nat × AV)):As cs ((off,v) :: r)=As (cs.take off++v.cells++cs.drop (off+v.cells.length)) r:=(rfl)
@[go_sem] theorem M1 (cs:List AV):AV.cells (.agg cs)=cs:=(rfl)
@[go_sem] theorem M0 (K:IntKind) (n:Int):AV.cells (.int K n)=[.int K n]:=(rfl)
@[go_sem] theorem Lj (b:Bool):AV.cells (.bool b)=[.bool b]:=(rfl)
@[go_sem] theorem MY (s:ByteArray):AV.cells (.str s)=[.str s]:=(rfl)
@[go_sem] theorem Lh (es:Nat) (l:List AV):AV.cells (.list es l)=[.list es l]:=(rfl)
@[go_sem] theorem Of (id g es o n:Nat):AV.cells (.sl id g es o n)=[.sl id g es o n]:=(rfl)
@[go_sem] theorem Px (id g es o n c:Nat):AV.kR (.fG id g es o n c)=[id]:=(rfl)
@[go_sem] theorem MZ (id g es o n:Nat):AV.cells (.ptr id g es o n)=[.ptr id g es o n]:=(rfl)
@[go_sem] theorem Li (f:Nat) (l:List AV):AV.cells (.func f l)=[.func f l]:=(rfl)
@[go_sem] theorem N6 (cs:List AV):AV.flat (.agg cs)=cs.all AV.one:=(rfl)
@[go_sem] theorem N5 (K:IntKind) (n:Int):AV.flat (.int K n)=true:=(rfl)
@[go_sem] theorem MT (b:Bool):AV.flat (.bool b)=true:=(rfl)
@[go_sem] theorem N3 (s:ByteArray):AV.flat (.str s)=true:=(rfl)
@[go_sem] theorem MR (es:Nat) (l:List AV):AV.flat (.list es l)=true:=(rfl)
@[go_sem] theorem PK (id g es o n:Nat):AV.flat (.sl id g es o n)=true:=(rfl)
@[go_sem] theorem N4 (id g es o n:Nat):AV.flat (.ptr id g es o n)=true:=(rfl)
@[go_sem] theorem MS (f:Nat) (l:List AV):AV.flat (.func f l)=true:=(rfl)
@[go_sem] theorem Pw (K:IntKind) (n:Int):AV.one (.int K n)=true:=(rfl)
@[go_sem] theorem NJ (b:Bool):AV.one (.bool b)=true:=(rfl)
@[go_sem] theorem Pv:AV.one .nil=true:=(rfl)
@[go_sem] theorem NI (es:Nat) (l:List AV):AV.one (.list es l)=true:=(rfl)
@[go_sem] theorem Qm (id g es o n:Nat):AV.one (.sl id g es o n)=true:=(rfl)
@[go_sem] theorem Pu (cs:List AV):AV.cQ (.agg cs)=cs.all AV.eK:=(rfl)
@[go_sem] theorem NF (f:Nat) (cs:List AV):AV.cQ (.func f cs)=cs.all AV.eK:=(rfl)
@[go_sem] theorem Pt (K:IntKind) (n:Int):AV.cQ (.int K n)=true:=(rfl)
@[go_sem] theorem Ps (s:ByteArray):AV.cQ (.str s)=true:=(rfl)
@[go_sem] theorem ND (es:Nat) (l:List AV):AV.cQ (.list es l)=true:=(rfl)
@[go_sem] theorem NB (es o n:Nat) (l:List AV):AV.cQ (.eO es l o n)=true:=(rfl)
@[go_sem] theorem NH (K:IntKind) (n:Int):AV.eK (.int K n)=true:=(rfl)
@[go_sem] theorem MD (b:Bool):AV.eK (.bool b)=true:=(rfl)
@[go_sem] theorem NG:AV.eK .nil=true:=(rfl)
@[go_sem] theorem MB (es:Nat) (l:List AV):AV.eK (.list es l)=true:=(rfl)
attribute [go_sem] Nat.zero_add eq_self Int.toNat_zero Int.toNat_one Nat.add_zero Int.toNat_natCast List.getElem?_map Option.map_some List.length_map Int.cast_ofNat_Int decide_true decide_false or_true true_or List.getElem?_cons_zero List.getElem?_cons_succ List.length_cons List.length_nil List.all_cons List.all_nil List.take_succ_cons List.take_zero List.drop_succ_cons List.drop_zero List.take_nil List.drop_nil
 List.cons_append List.nil_append List.append_nil List.getD_cons_zero List.getD_cons_succ List.map_cons List.map_nil List.set_cons_zero List.set_cons_succ
 List.mem_cons List.not_mem_nil forall_eq_or_imp forall_eq Option.some.injEq exists_eq_left' exists_eq_left exists_eq_right exists_eq_right' true_and and_true false_and and_false and_self
 Bool.and_true Bool.true_and Bool.and_self Bool.not_true Bool.not_false true_implies false_implies implies_true IntKind.ctorIdx or_false false_or forall_const if_true if_false not_true_eq_false not_false_eq_true ne_eq
theorem lZ {n:Int} (h1:-9223372036854775808≤n) (h2:n≤9223372036854775807):IntKind.i64.wrap n=n:=IntWalk.i64_in n ⟨h1,h2⟩
theorem aw.dk {id g es n:Nat} {ty:TypeId} {ro ap:Bool} {l:List AV} (h:σ.ob id=some ⟨g,es,ty,ro,ap,l⟩) (hn:n=l.length) (hp:∀ x∈l,x.cQ=true) (hk:∀ x∈l,mM es x):aw σ (.sl id g es 0 n) (.list es l):=by
 subst hn
 refine .sl h rfl rfl (by simp) (by simp) (fun i x y hx hy=>?_) hk
 simp only [List.drop_zero,List.take_length] at hx
 rw [hx] at hy; obtain rfl:=Option.some.inj hy
 exact .pure (hp x (List.mem_of_getElem? hx))
theorem aw.of_eq {a b:AV} (h:a=b) (hp:b.cQ=true):aw σ a b:=by subst h; exact .pure hp
theorem aw.pair {a b a' b':AV} (h1:aw σ a a') (h2:aw σ b b'):aw σ (.tuple [a,b]) (.tuple [a',b']):=by
 refine .tuple rfl fun i x y hx hy=>?_
 match i with
 | 0=>simp at hx hy; subst hx; subst hy; exact h1
 | 1=>simp at hx hy; subst hx; subst hy; exact h2
 | i+2=>simp at hx
theorem aw.three {a b c a' b' c':AV} (h1:aw σ a a') (h2:aw σ b b') (h3:aw σ c c'):aw σ (.tuple [a,b,c]) (.tuple [a',b',c']):=by
 refine .tuple rfl fun i x y hx hy=>?_
 match i with
 | 0=>simp at hx hy; subst hx; subst hy; exact h1
 | 1=>simp at hx hy; subst hx; subst hy; exact h2
 | 2=>simp at hx hy; subst hx; subst hy; exact h3
 | i+3=>simp at hx
theorem ab {f:Nat} {args:List AV} {r:AV} {K:AV→St→Prop} (h:PC P f args r) (ha:∀ a∈args,a.cQ=true) (hK:K r σ):HC P f args σ K:=
 (KD h ha).mono fun _ _ ⟨h1,h2⟩=>by rw [h1,h2]; exact hK
theorem PC.walk {f:Nat} {args:List AV} {vs:List Value} {w:World} (h:PC P f args (.bool true)) (hv:Mn (fun b=>b<w.heap.size) w args vs) :
  Calls P f vs.toArray w fun e w'=>e=.returned (.bool true)∧RowKit.Below w.heap.size w w':=by
 refine (h.2 (fun b=>b<w.heap.size) w vs (fun _ h=>h) hv).mono fun e w' hx=>?_
 obtain ⟨v,S',rfl,hb,_,_,hV⟩:=hx
 cases hV
 exact ⟨rfl,hb⟩
theorem Mn.nil {S:Nat→Prop} {w:World}:Mn S w [] []:=⟨rfl,fun j y u h=>by simp at h⟩
theorem Mn.cons {S:Nat→Prop} {w:World} {a:AV} {v:Value} {as:List AV} {vs:List Value} (h:VP S w a v) (k:Mn S w as vs):Mn S w (a :: as) (v :: vs):=by
 refine ⟨by simp [k.1],fun j y u hy hu=>?_⟩
 cases j with
 | zero=>simp at hy hu; subst hy; subst hu; exact h
 | succ j=>exact k.2 j y u (by simpa using hy) (by simpa using hu)
theorem aL {f:Nat} {args:List AV} {v:AV} {τ:St} {K:AV→St→Prop} (h:HC P f args σ (fun r σ'=>r=v∧σ'=τ)) (hK:K v τ):HC P f args σ K:=
 h.mono fun _ _ ⟨h1,h2⟩=>by rw [h1,h2]; exact hK
inductive Cg (σ:St):List AV→List AV→Prop
 | nil:Cg σ [] []
 | cons {a a':AV} {l l':List AV} (h:aw σ a a') (k:Cg σ l l'):Cg σ (a :: l) (a' :: l')
theorem Cg.get {l l':List AV} (h:Cg σ l l'):l.length=l'.length∧∀ (i:Nat) (x y:AV),l[i]?=some x→l'[i]?=some y→aw σ x y:=by
 induction h with
 | nil=>exact ⟨rfl,fun i x y h=>by simp at h⟩
 | cons h _ ih=>
  refine ⟨by simp [ih.1],fun i x y hx hy=>?_⟩
  cases i with
  | zero=>simp at hx hy; subst hx; subst hy; exact h
  | succ i=>exact ih.2 i x y (by simpa using hx) (by simpa using hy)
theorem rb {f:Nat} {args args':List AV} {r:AV} {K:AV→St→Prop} (h:PC P f args' r) (hp:Cg σ args args') (hs:r.C8=true) (hK:K r σ):HC P f args σ K:=
 (Ci h hp.get hs).mono fun _ _ ⟨h1,h2⟩=>by rw [h1,h2]; exact hK
end
end Go.Ab
